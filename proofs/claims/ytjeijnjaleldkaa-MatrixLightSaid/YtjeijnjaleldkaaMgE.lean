/- Several texts in one. -/
import Derived.Test.YtjeijnjaleldkaaSq
import Derived.Test.YtjeijnjaleldkaaMt2a
import Derived.Test.YtjeijnjaleldkaaRo
import Derived.Test.YtjeijnjaleldkaaMx1
import Derived.Test.YtjeijnjaleldkaaRt
import Derived.Test.YtjeijnjaleldkaaSr
import Derived.OrdersIn
import Derived.Test.YtjeijnjaleldkaaMg
import Derived.Test.YtjeijnjaleldkaaMtPl
import Derived.Test.YtjeijnjaleldkaaMt1
import Derived.Test.YtjeijnjaleldkaaMgA
import Derived.Test.YtjeijnjaleldkaaWs4
import Derived.Test.YtjeijnjaleldkaaMgC
import Derived.Test.YtjeijnjaleldkaaEq
import Derived.Test.YtjeijnjaleldkaaMgD
namespace Go.Proofs.Ytjeijnjaleldkaa
set_option linter.all false
open Go.RowKit

theorem nm_fl (xs : List Nm) (k : Nat) (y : Nm) (hk : k < xs.length) : setMany (NmE.flat xs ++ []).toArray (0 + k * 5) (nmC y) = (NmE.flat (xs.set k y) ++ []).toArray := fl_set (E := NmE) (rest := []) hk
theorem nm_sz (xs : List Nm) (k : Nat) (y : Nm) (hk : k < xs.length) : 0 + k * 5 + (nmC y).length ≤ (NmE.flat xs ++ []).toArray.size := fl_size (E := NmE) (rest := []) (y := y) hk
theorem fill_set (l : List Nm) (m k : Nat) (z : Nm) (h : l.length = k) : (l ++ List.replicate (m + 1) Nm.zero).set k z = (l ++ [z]) ++ List.replicate m Nm.zero := by
  subst h
  rw [List.set_append_right _ _ (Nat.le_refl _), Nat.sub_self, List.replicate_succ, List.set_cons_zero, List.append_assoc]
  rfl
theorem ownN_fl {g n : Nat} {l : List Nm} (h : l.length = n) (hn : n ≤ 100000) : OwnN [(g, .cells (NmE.flat l ++ []).toArray 29)] (.slice (some ⟨g, 0, none⟩) n n) l := by
  subst h
  have e : (NmE.flat l ++ []).toArray.toList = NmE.flat l := by simp
  have := Own.whole (e := 29) (size := 5) (g := g) (n := l.length) (cur := (NmE.flat l ++ []).toArray) (by simp [El.flat_len]) (by simp only [maxLen]; omega)
  rwa [e] at this
theorem madeN (n : Nat) : madeCells #[.int .i64 0, .int .i64 0, .int .i64 0, .int .i64 0, .int .i64 0] (n * 5) = (NmE.flat (List.replicate n Nm.zero) ++ []).toArray := by
  rw [List.append_nil, ← made_fl (E := NmE) Nm.zero n]
  rfl
set_option maxRecDepth 100000 in
set_option maxHeartbeats 1000000 in
theorem zeros_any (N : Nat) (hN : N ≤ 6) (w : World) : Calls Try.prog 72 #[.int .i64 (N : Int)] w fun e w' => ∃ g, e = .returned (.agg #[.int .i64 N, .slice (some ⟨g, 0, none⟩) (N * N) (N * N)]) ∧ Made w [(g, .cells (NmE.flat (List.replicate (N * N) Nm.zero) ++ []).toArray 29)] w' := by
  have hN2 := Nat.mul_le_mul hN hN
  go_enter Try.func72, Try.ntmps72
  refine wk_start ?_
  refine wk_seq ?_
  refine wk_region [1] rfl Kx ?_
  simp only [qy]
  refine Rgn fun g1 => ?_
  simp only [qz]
  refine rg_nil (ek_next (wk_seq ?_))
  refine wk_region [0, 0, 0, 0, 1, 0, 1] rfl Kx ?_
  simp only [qy]
  refine rg_move ?_
  simp only [qz]
  refine rg_move ?_
  simp only [qz]
  refine rg_move ?_
  simp only [qz]
  refine rf_mul (r := ((N * N : Nat) : Int)) rfl rfl rfl rfl (wrap_eqB (Int.natCast_mul N N).symm Ox Ox) ?_
  simp only [qz]
  obtain ⟨iN, hiN, hzN, hsN, hbN⟩ := info_partsN numInfo
  refine rg_make (n := N * N) (i := iN) Rx Try.underlying22 hiN hzN rfl rfl (by rw [hbN]; omega) Ox Nz (fun gz2 => ?_)
  rw [hsN, show (Value.agg #[.int .i64 0, .int .i64 0, .int .i64 0, .int .i64 0, .int .i64 0]).cells = #[.int .i64 0, .int .i64 0, .int .i64 0, .int .i64 0, .int .i64 0] from rfl, madeN]
  simp only [qz]
  refine rf_build (cs := fun a => #[a.eval (.tmp 3), a.eval (.tmp 7)]) rfl rfl Kx ?_
  simp only [qz]
  refine rf_storeR (n := 2) rfl rfl Kx rfl rfl (UpdR.there _ (UpdR.here _ _ _ Nl)) Nz ?_
  simp only [qz, Nat.reduceAdd]
  refine rg_nil (ek_next (wk_ret ?_))
  refine ek_ret (fun w hw => ⟨rfl, _, run_results1 rfl rfl (Kn.hd0 (Kn.tl hw)) Try.underlying24 rfl Kx, ?_⟩)
  (try simp only [qz])
  exact ⟨_, rfl, hw.made (List.Sublist.cons₂ _ (List.Sublist.cons _ (List.Sublist.refl _)))⟩

end Go.Proofs.Ytjeijnjaleldkaa
namespace Go.Proofs.Ytjeijnjaleldkaa
set_option linter.all false
open Go.RowKit
section
variable {R : Option Nat} {P : Program} {ops : Array Oper} {Q : Exit → Act → World → Prop} {B : World} {F : List Nat} {fuel : Nat} {listed : Array Bool} {a : Act} {s : List Blk}
def RR (R : Option Nat) (P : Program) (ops : Array Oper) (Q : Exit → Act → World → Prop) (B : World) (F : List Nat) (fuel : Nat) (listed : Array Bool) (a : Act) (s : List Blk) : Prop :=
  ∀ w, Kn B F s w → wpAnyIn (FR R) 0 P .any ops Q fuel listed a w
abbrev QR (R : Option Nat) (P : Program) (ops : Array Oper) (Q : Exit → Act → World → Prop) (fuel : Nat) (listed : Array Bool) : Exit → Act → World → Prop :=
  Exit.then (wpAnyIn (FR R) 0 P .any ops Q fuel listed) Q
theorem ek_rr (h : RR R P ops Q B F fuel listed a s) : Ek B F (QR R P ops Q fuel listed) .normal a s := h
theorem oper_out {K : Act → World → Prop} {o : Oper} {w : World} (h : o.wpIn (FR R) 0 P a w K (Exit.then K Q)) : o.wpIn (FR R) 0 P a w K Q := by
  unfold Oper.wpIn at *
  refine ⟨h.1, ?_⟩
  have h := h.2
  generalize (o.semAt (FR R).round a.eval).run P w = r at *
  cases r with
  | ok n w' =>
    cases n <;> simp only [Oper.uponIn] at h ⊢ <;>
      first
        | exact h
        | exact ⟨h.1, CallsIn.mono h.2 (fun e w'' he => by cases e <;> first | exact he | (obtain ⟨a₀, w₀, h₀⟩ := he; exact ⟨a₀, w₀, h₀⟩))⟩
        | exact ⟨h.1, RoundIn.mono h.2 (fun e w'' he => by cases e <;> first | exact he | (obtain ⟨a₀, w₀, h₀⟩ := he; exact ⟨a₀, w₀, h₀⟩))⟩
  | halt x w' => cases x <;> simp only [Oper.uponIn] at h ⊢ <;> exact h
theorem op_one {i : Nat} {o : Oper} {K : Act → World → Prop} {w : World} (ho : ops[i]? = some o) (h : wpListIn (FR R) 0 P ops (Exit.then K Q) [o] a w) : wpOpIn (FR R) 0 P ops Q i K a w := by
  unfold wpOpIn
  simp only [ho]
  unfold wpListIn at h
  split
  · next hw =>
    rw [if_pos hw] at h
    exact oper_out h
  · next hw =>
    rw [if_neg hw] at h
    exact h
theorem rr_step {f : Nat} {o : Oper} {listed' : Array Bool} (hd : noDefer [o] = true) (h : Rg R P ops (QR R P ops Q fuel listed') B F none [(o, f)] a s) (w : World) (K : Kn B F s w) :
    wpListIn (FR R) 0 P ops (QR R P ops Q fuel listed') [o] a w := rg_text [(o, f)] a s hd h w K
theorem any_ready {rs : List Nat} {w : World} (hr : Region.ready .any ops listed = rs) (hne : rs ≠ []) (h : ∀ i ∈ rs, wpOpIn (FR R) 0 P ops Q i (wpAnyIn (FR R) 0 P .any ops Q fuel (listed.setIfInBounds i true)) a w) : wpAnyIn (FR R) 0 P .any ops Q (fuel + 1) listed a w :=
  ⟨fun h0 => absurd (hr ▸ h0) hne, hr ▸ h⟩
theorem rr_hard1 {i f : Nat} {o : Oper} (hr : Region.ready .any ops listed = [i]) (ho : ops[i]? = some o) (hd : noDefer [o] = true)
    (h : Rg R P ops (QR R P ops Q fuel (listed.setIfInBounds i true)) B F none [(o, f)] a s) : RR R P ops Q B F (fuel + 1) listed a s := fun w K =>
  any_ready hr (by simp) fun k hk => by
    obtain rfl : k = i := by simpa using hk
    exact op_one ho (rr_step hd h w K)
theorem rr_hard2 {i j f g : Nat} {o u : Oper} (hr : Region.ready .any ops listed = [i, j]) (ho : ops[i]? = some o) (hu : ops[j]? = some u) (hd : noDefer [o] = true) (hd' : noDefer [u] = true)
    (h : Rg R P ops (QR R P ops Q fuel (listed.setIfInBounds i true)) B F none [(o, f)] a s)
    (h' : Rg R P ops (QR R P ops Q fuel (listed.setIfInBounds j true)) B F none [(u, g)] a s) : RR R P ops Q B F (fuel + 1) listed a s := fun w K =>
  any_ready hr (by simp) fun k hk => by
    rcases (by simpa using hk : k = i ∨ k = j) with rfl | rfl
    · exact op_one ho (rr_step hd h w K)
    · exact op_one hu (rr_step hd' h' w K)
theorem rr_hard3 {i j k f g e : Nat} {o u v : Oper} (hr : Region.ready .any ops listed = [i, j, k]) (ho : ops[i]? = some o) (hu : ops[j]? = some u) (hv : ops[k]? = some v) (hd : noDefer [o] = true) (hd' : noDefer [u] = true) (hd'' : noDefer [v] = true)
    (h : Rg R P ops (QR R P ops Q fuel (listed.setIfInBounds i true)) B F none [(o, f)] a s)
    (h' : Rg R P ops (QR R P ops Q fuel (listed.setIfInBounds j true)) B F none [(u, g)] a s)
    (h'' : Rg R P ops (QR R P ops Q fuel (listed.setIfInBounds k true)) B F none [(v, e)] a s) : RR R P ops Q B F (fuel + 1) listed a s := fun w K =>
  any_ready hr (by simp) fun x hx => by
    rcases (by simpa using hx : x = i ∨ x = j ∨ x = k) with rfl | rfl | rfl
    · exact op_one ho (rr_step hd h w K)
    · exact op_one hu (rr_step hd' h' w K)
    · exact op_one hv (rr_step hd'' h'' w K)
theorem rr_nil (hr : (Region.ready .any ops listed).isEmpty = true) (h : Ek B F Q .normal a s) : RR R P ops Q B F 0 listed a s := fun w K => ⟨by simpa using hr, h w K⟩
theorem wk_rr {id : Nat} {l : List Oper} (hm : P.follows .mixedOrders = true) (h : RR R P l.toArray Q B F l.length (Array.replicate l.length false) a s) :
    Wk R P B F Q a s (Code.region id l.toArray true) := fun w K => wpIn_region_any hm (by
      have := h w.drew K.drew
      simpa using this)
end
end Go.Proofs.Ytjeijnjaleldkaa
namespace Go.Proofs.Ytjeijnjaleldkaa
set_option linter.all false
open Go.RowKit

abbrev zs (xs : List Int) : List Value := xs.map (.int .i64 ·)
theorem zInfo : (Try.prog.info? 3).map (fun i => (i.zero, i.size, i.bytes)) = some (some (.int .i64 0), 1, 8) := by kernel_rfl
theorem sInfo : (Try.prog.info? 37).map (fun i => (i.zero, i.size, i.bytes)) = some (some (.slice none 0 0), 1, 24) := by kernel_rfl
def OwnZ (u : List Blk) (v : Value) (xs : List Int) : Prop := Own 3 1 u v xs.length (zs xs)
theorem OwnZ.one {g : Nat} (x : Int) : OwnZ [(g, .cells #[.int .i64 x] 3)] (.slice (some ⟨g, 0, none⟩) 1 1) [x] :=
  Own.whole (cur := #[.int .i64 x]) rfl (by simp only [maxLen]; omega)
theorem OwnZ.addr {u : List Blk} {av : Option Addr} {n c : Nat} {row : List Int} (h : OwnZ u (.slice av n c) row) (hn : 0 < row.length) : ∃ ad, av = some ad ∧ ∀ {B w : World} {F : List Nat} {s : List Blk}, Kn B F s w → u.Sublist s → AS w (some ad) (zs row) := by
  rcases h.2 with ⟨_, e, h0⟩ | ⟨g, cap, cur, _, e, _⟩
  · omega
  · cases e
    refine ⟨_, rfl, fun K hs => ?_⟩
    obtain ⟨a, cap, e, hA⟩ := Own.as (s := []) h (by rw [List.append_nil]; exact K.sub hs)
    cases e
    exact hA
/-- Rows that lie in blocks of their own; hs: the slices. -/
inductive RowsZ : List Blk → List Value → List (List Int) → Prop
  | nil : RowsZ [] [] []
  | snoc {us : List Blk} {hs : List Value} {rows : List (List Int)} {u : List Blk} {h : Value} {row : List Int} : RowsZ us hs rows → OwnZ u h row → RowsZ (u ++ us) (hs ++ [h]) (rows ++ [row])
theorem RowsZ.len {us : List Blk} {hs : List Value} {rows : List (List Int)} (h : RowsZ us hs rows) : hs.length = rows.length := by
  induction h with
  | nil => rfl
  | snoc _ _ ih => simp [ih]
theorem RowsZ.cells {us : List Blk} {hs : List Value} {rows : List (List Int)} (h : RowsZ us hs rows) : ∀ v ∈ hs, v.oneCell' = true := by
  induction h with
  | nil => intro v hv; simp at hv
  | snoc _ hO ih =>
    intro v hv
    rcases List.mem_append.1 hv with hv | hv
    · exact ih v hv
    · obtain ⟨a, c, e, _⟩ := Own.val hO
      simp at hv
      rw [hv, e]
      rfl
/-- A row is there. -/
theorem RowsZ.as {us : List Blk} {hs : List Value} {rows : List (List Int)} (h : RowsZ us hs rows) : ∀ {B w : World} {F : List Nat} {s : List Blk}, Kn B F s w → us.Sublist s → ∀ k, k < rows.length → ∃ a c, hs[k]? = some (.slice a (rows.getD k []).length c) ∧ AS w a (zs (rows.getD k [])) := by
  induction h with
  | nil => intro B w F s K hs k hk; simp at hk
  | @snoc us hs rows u h row h0 hO ih =>
    intro B w F s K hsub k hk
    have hl := h0.len
    rcases (by simp at hk; omega : k < rows.length ∨ k = rows.length) with hk | rfl
    · obtain ⟨a, c, h1, h2⟩ := ih K ((List.sublist_append_right _ _).trans hsub) k hk
      have e : (rows ++ [row]).getD k [] = rows.getD k [] := by rw [List.getD_eq_getElem?_getD, List.getElem?_append_left hk, ← List.getD_eq_getElem?_getD]
      rw [e]
      exact ⟨a, c, by rw [List.getElem?_append_left Ox]; exact h1, h2⟩
    · have e : (rows ++ [row]).getD rows.length [] = row := by simp [List.getD_eq_getElem?_getD]
      rw [e]
      have K' := K.sub ((List.sublist_append_left u us).trans hsub)
      obtain ⟨a, c, e1, e2⟩ := Own.as (s := []) hO (by rw [List.append_nil]; exact K')
      refine ⟨a, c, ?_, e2⟩
      rw [List.getElem?_append_right Ox]
      simp [hl, e1]
theorem RowsZ.row {us : List Blk} {hs : List Value} {rows : List (List Int)} (h : RowsZ us hs rows) : ∀ k, k < rows.length → ∃ a c u, hs[k]? = some (.slice a (rows.getD k []).length c) ∧ OwnZ u (.slice a (rows.getD k []).length c) (rows.getD k []) ∧ u.Sublist us := by
  induction h with
  | nil => intro k hk; simp at hk
  | @snoc us hs rows u h row h0 hO ih =>
    intro k hk
    have hl := h0.len
    rcases (by simp at hk; omega : k < rows.length ∨ k = rows.length) with hk | rfl
    · obtain ⟨a, c, u', h1, h2, h3⟩ := ih k hk
      have e : (rows ++ [row]).getD k [] = rows.getD k [] := by rw [List.getD_eq_getElem?_getD, List.getElem?_append_left hk, ← List.getD_eq_getElem?_getD]
      rw [e]
      exact ⟨a, c, u', by rw [List.getElem?_append_left Ox]; exact h1, h2, h3.trans (List.sublist_append_right _ _)⟩
    · have e : (rows ++ [row]).getD rows.length [] = row := by simp [List.getD_eq_getElem?_getD]
      rw [e]
      obtain ⟨a, c, rfl, _⟩ := Own.val hO
      exact ⟨a, c, u, by rw [List.getElem?_append_right Ox]; simp [hl], hO, List.sublist_append_left _ _⟩
theorem Own.open1 {e n : Nat} {u : List Blk} {v : Value} {xs : List Value} (h : Own e 1 u v n xs) (hn : 0 < n) : ∃ g cap rest, u = [(g, .cells (xs ++ rest).toArray e)] ∧ v = .slice (some ⟨g, 0, none⟩) n cap ∧ xs.length = n := by
  obtain ⟨hl, ⟨rfl, rfl, h0⟩ | ⟨g, cap, cur, rfl, rfl, hc, hm, hs, ht⟩⟩ := h
  · omega
  · refine ⟨g, cap, cur.toList.drop (n * 1), ?_, rfl, by omega⟩
    rw [← ht, List.take_append_drop]
/-- A list of lists that the call owns. -/
def OwnL (U : List Blk) (v : Value) (rows : List (List Int)) : Prop := ∃ u us hs, U = u ++ us ∧ Own 37 1 u v rows.length hs ∧ RowsZ us hs rows
theorem OwnL.nil : OwnL [] (.slice none 0 0) [] := ⟨[], [], [], rfl, Own.nil _ _, .nil⟩
def RetL (w : World) (rows : List (List Int)) (c : Int) (e : Ending) (w' : World) : Prop := ∃ v U, e = .returned (.tuple #[v, .int .i64 c]) ∧ OwnL U v rows ∧ Made w U w'

/-- What a round of a loop over lists does: C says what the caller's blocks are when the lists ys have come. -/
def RoundsP (L M lp : Nat) (r : Loop) (C : List (List Int) → List Blk → Prop) : Prop :=
  r.params.size = 1 ∧ (∀ ys s, C ys s → (lp, Obj.loop r) ∈ s) ∧
  ∀ (R : Option Nat) (B : World) (F : List Nat) (ys : List (List Int)) (row : List Int) (u : List Blk) (v : Value) (s rest : List Blk) (w : World), 0 < row.length → row.length = M → ys.length < L → C ys s → OwnZ u v row → Kn B F (u ++ (s ++ rest)) w →
    RoundIn (FR R) 0 Try.prog lp r.fn ((r.params.zip #[v]).foldl (fun tmps (t, a) => tmps.setIfInBounds t a) r.tmps) r.assign r.body w
      (fun e w' => ∃ s', e = .returned (.bool true) ∧ C (ys ++ [row]) s' ∧ Kn B F (s' ++ rest) w')

section
variable {R : Option Nat} {ops : Array Oper} {Q : Exit → Act → World → Prop} {B : World} {F : List Nat} {s0 : Option (List Blk × List Blk)}
variable {l lst : List (Oper × Nat)} {a : Act} {s S : List Blk} {d : Option Tmp} {op : Op} {t : TypeId} {p : String} {af : Array Edge} {v : Value}
theorem rg_yieldP {C : List (List Int) → List Blk → Prop} {L M lp : Nat} {r : Loop} {ys : List (List Int)} {row : List Int} {u sC rest : List Blk} {fo : Operand} {cargs : Array Operand} {at_ : Array TypeId} {gd : Option (Nat × Bool)}
    (hR : RoundsP L M lp r C) (hC : C ys sC) (hl0 : 0 < row.length) (hl1 : row.length = M) (hy : ys.length < L) (hO : OwnZ u v row) (hp : S.Perm (u ++ (sC ++ rest)))
    (hg : Region.wanted ⟨d, .call ⟨.value fo, cargs, at_⟩, t, p, af, gd⟩ (yielded ops a.tmps) = true)
    (hf : a.eval fo = .func (.yield lp) #[] #[]) (hargs : cargs.map a.eval = #[v])
    (h : ∀ s', C (ys ++ [row]) s' → Rg R Try.prog ops Q B F none lst (a.put d (.bool true)) (s' ++ rest)) :
    Rg R Try.prog ops Q B F none ((⟨d, .call ⟨.value fo, cargs, at_⟩, t, p, af, gd⟩, 1) :: lst) a S := by
  refine rg_yield (r := r) hg hf hargs hR.1.symm (hp.mem_iff.2 (List.mem_append_right _ (List.mem_append_left _ (hR.2.1 ys sC hC)))) fun w K => ?_
  exact (hR.2.2 R B F ys row u v sC rest w hl0 hl1 hy hC hO (K.perm hp)).mono fun e w' ⟨s', he, hC', hK⟩ => ⟨_, _, he, hK, h s' hC'⟩
/-- append of a list to a list of one number. -/
theorem rg_consZ {so xo : Operand} {row : List Int} {g : Nat} {x : Int} {gd : Option (Nat × Bool)} (hg : Region.wanted ⟨d, .call ⟨.builtin .append, #[so, xo], #[37, 37]⟩, t, p, af, gd⟩ (yielded ops a.tmps) = true)
    (hs : a.eval so = .slice (some ⟨g, 0, none⟩) 1 1) {ad : Addr} {c : Nat} (hx : a.eval xo = .slice (some ad) row.length c) (hA : ∀ w, Kn B F S w → AS w (some ad) (zs row)) (hn : row.length ≤ 1000) (hne : 0 < row.length)
    (hp : S.Perm ((g, .cells #[.int .i64 x] 3) :: s)) (hzz : ∀ z ∈ s0, z.1.Sublist s)
    (h : ∀ u' a' c', OwnZ u' (.slice a' (row.length + 1) c') (x :: row) → Rg R Try.prog ops Q B F s0 l (a.put d (.slice a' (row.length + 1) c')) (u' ++ s)) :
    Rg R Try.prog ops Q B F s0 ((⟨d, .call ⟨.builtin .append, #[so, xo], #[37, 37]⟩, t, p, af, gd⟩, 1) :: l) a S := by
  obtain ⟨i, hi, hz, hsz, hb⟩ := info_partsN zInfo
  refine rg_append (u := [(g, .cells #[.int .i64 x] 3)]) (s := s) (i := i) (z := .int .i64 0) (size := 1) (bytes := 8) (n := 1) (m := row.length) (xs := [.int .i64 x]) (news := zs row) (ad := ad) hg
    Try.underlying37 hi hz hsz hb rfl (by decide) hs (Own.whole (cur := #[.int .i64 x]) rfl (by simp only [maxLen]; omega)) hx (by simp) ?_ (by simp [Value.oneCell']) (by simp only [maxLen]; omega) Ox hp hzz ?_
  · intro w K j y hj
    have hne' : zs row ≠ [] := by intro e; simp at e; subst e; simp at hne
    obtain ⟨b, off, e, _, hc⟩ := hA w K hne'
    cases e
    have hj' : j < (zs row).length := by
      rcases Nat.lt_or_ge j (zs row).length with h | h
      · exact h
      · rw [List.getElem?_eq_none h] at hj; cases hj
    have hq := hc j hj'
    have e1 : (⟨b, off, none⟩ : Addr).add j = ⟨b, off + j, none⟩ := Addr.add_mid ..
    rw [e1, hq, hj]
  · intro u' v' hO _
    obtain ⟨a', c', rfl, -⟩ := Own.val hO
    have e : 1 + row.length = row.length + 1 := by omega
    rw [e] at hO ⊢
    exact h u' a' c' hO
/-- append of a list to a list of lists. -/
theorem rg_appL {so xo : Operand} {u : List Blk} {hs : List Value} {n g : Nat} {h : Value} {gd : Option (Nat × Bool)} (hg : Region.wanted ⟨d, .call ⟨.builtin .append, #[so, xo], #[33, 33]⟩, t, p, af, gd⟩ (yielded ops a.tmps) = true)
    (hs0 : a.eval so = v) (hown : Own 37 1 u v n hs) (hx : a.eval xo = .slice (some ⟨g, 0, none⟩) 1 1) (hn : n ≤ 1000000) (h1 : h.oneCell' = true) (hp : S.Perm (u ++ s))
    (hnews : ∀ w, Kn B F S w → Hd w g 37 #[h]) (hzz : ∀ z ∈ s0, z.1.Sublist s)
    (k : ∀ u' a' c', Own 37 1 u' (.slice a' (n + 1) c') (n + 1) (hs ++ [h]) → Rg R Try.prog ops Q B F s0 l (a.put d (.slice a' (n + 1) c')) (u' ++ s)) :
    Rg R Try.prog ops Q B F s0 ((⟨d, .call ⟨.builtin .append, #[so, xo], #[33, 33]⟩, t, p, af, gd⟩, 1) :: l) a S := by
  obtain ⟨i, hi, hz, hsz, hb⟩ := info_partsN sInfo
  refine rg_append (u := u) (s := s) (i := i) (z := .slice none 0 0) (size := 1) (bytes := 24) (n := n) (m := 1) (c := 1) (xs := hs) (news := [h]) (ad := ⟨g, 0, none⟩) hg
    Try.underlying33 hi hz hsz hb rfl (by decide) hs0 hown hx Rx ?_ (by simpa using h1) (by simp only [maxLen]; omega) Ox hp hzz ?_
  · intro w K j y hj
    have hd := (hnews w K).cell
    match j, hj with
    | 0, hj => simp only [List.getElem?_cons_zero, Option.some.injEq] at hj; subst hj; exact hd 0
    | j + 1, hj => simp at hj
  · intro u' v' hO _
    obtain ⟨a', c', rfl, -⟩ := Own.val hO
    exact k u' a' c' hO
end

section
variable {R : Option Nat} {ops : Array Oper} {Q : Exit → Act → World → Prop} {B : World} {F : List Nat} {s0 : Option (List Blk × List Blk)}
variable {l : List (Oper × Nat)} {a : Act} {s S : List Blk} {d : Option Tmp} {op : Op} {t : TypeId} {p : String} {af : Array Edge} {v : Value}
/-- A call that hands back a list of lists. -/
theorem rg_retL {f : Nat} {cargs : Array Operand} {at_ : Array TypeId} {args : Array Value} {c : Int} {rows : List (List Int)} {P : Program} {gd : Option (Nat × Bool)} (hg : Region.wanted ⟨d, .call ⟨.value (.func f), cargs, at_⟩, t, p, af, gd⟩ (yielded ops a.tmps) = true) (hgo : isGo P f = true)
    (h : ∀ w, Kn B F s w → Calls P f args w (RetL w rows c)) (hargs : cargs.map a.eval = args)
    (hz : ∀ z ∈ s0, z.1.Sublist s) (k : ∀ (va : Option Addr) (vc : Nat) (u : List Blk), OwnL u (.slice va rows.length vc) rows → Rg R P ops Q B F s0 l (a.put d (.tuple #[.slice va rows.length vc, .int .i64 c])) (u ++ s)) :
    Rg R P ops Q B F s0 ((⟨d, .call ⟨.value (.func f), cargs, at_⟩, t, p, af, gd⟩, 1) :: l) a s :=
  rg_call hg hgo hargs fun w K => (h w K).mono fun e w' ⟨v, u, he, hO, hm⟩ => by
    obtain ⟨u1, us, hs, e1, hO1, hR1⟩ := hO
    obtain ⟨a', c', rfl, -⟩ := Own.val hO1
    exact ⟨_, u ++ s, he, K.add hm, fun z hz' => (hz z hz').trans (List.sublist_append_right _ _), k a' c' u ⟨u1, us, hs, e1, hO1, hR1⟩⟩
end

/-! ### Many marks -/
def marksD (ds : List Nat) : List Blk := ds.map fun d => (d, .deferred (some []))
def collD (ds : List Nat) : List Deferred := ds.map fun d => ⟨.collected d, #[]⟩
section
variable {R : Option Nat} {P : Program} {Q : Exit → Act → World → Prop} {B : World} {F : List Nat} {a : Act} {s : List Blk} {X : Ending → World → Prop}
theorem leaves_marks {fn : Func} {tmps : Array Value} (h : ∀ w, Kn B F s w → ∃ v, (results fn tmps).run P w = .ok v w ∧ X (.returned v) w) : ∀ (ds : List Nat) (w : World), Kn B F (marksD ds ++ s) w → LeavesInM (FR none) 0 P fn tmps X (collD ds) .returning w
  | [], w, K => h w K
  | d :: ds, w, K => ⟨by simp, .inl ⟨d, _, rfl, run_takeDeferred (K.own (d, .deferred (some [])) (by simp [marksD])), leaves_marks h ds _ ((K.rep (Rep.here _)).tl)⟩⟩
theorem ek_normMn {fn : Func} {tmps : Array Value} (ds : List Nat) (h : ∀ w, Kn B F s w → ∃ v, (results fn tmps).run P w = .ok v w ∧ X (.returned v) w) :
    Ek B F (bodyPostM (FR none) 0 P fn X) .normal ⟨tmps, collD ds⟩ (marksD ds ++ s) := fun w K => leaves_marks h ds w K
theorem ek_retMn {fn : Func} {tmps : Array Value} (ds : List Nat) (h : ∀ w, Kn B F s w → ∃ v, (results fn tmps).run P w = .ok v w ∧ X (.returned v) w) :
    Ek B F (bodyPostM (FR none) 0 P fn X) .ret ⟨tmps, collD ds⟩ (marksD ds ++ s) := fun w K => leaves_marks h ds w K
/-- A loop whose rounds defer. -/
def RelD (W : List Nat) (a0 : Act) (J : Nat → (Nat → Value) → List Deferred → List Blk → Prop) : Nat → Act → List Blk → Prop := fun n a s => ∃ f, a = ⟨(Act.putF a0 W f).tmps, a.defers⟩ ∧ J n f a.defers s
theorem wk_loopD {c : Code} (W : List Nat) (J : Nat → (Nat → Value) → List Deferred → List Blk → Prop) (n : Nat) (h0 : J n (Act.valF a) a.defers s) (ha : a = Act.putF a W (Act.valF a))
    (round : ∀ n f ds s, J n f ds s → Wk R P B F (Exit.then (Rnd B F (RelD W a J) n) Q) ⟨(Act.putF a W f).tmps, ds⟩ s c) : Wk R P B F Q a s (.loop c) :=
  wk_loop (RelD W a J) n ⟨_, ha, h0⟩ fun n a' s' h => by
    obtain ⟨f, ha', hJ⟩ := h
    rw [ha']
    exact round n f a'.defers s' hJ
theorem ek_roundD {W : List Nat} {a0 : Act} {J : Nat → (Nat → Value) → List Deferred → List Blk → Prop} {n : Nat} (m : Nat) (hm : m < n) (ha : a = ⟨(Act.putF a0 W (Act.valF a)).tmps, a.defers⟩) (h : J m (Act.valF a) a.defers s) :
    Ek B F (Exit.then (Rnd B F (RelD W a0 J) n) Q) .normal a s := ek_round m hm ⟨_, ha, h⟩
end
end Go.Proofs.Ytjeijnjaleldkaa
namespace Go.Proofs.Ytjeijnjaleldkaa
set_option linter.all false
open Go.RowKit

theorem fold_zip1 {γ : Type} (f : γ → Nat × Value → γ) (t : γ) (p : Nat) (v : Value) : Array.foldl f t (#[p].zip #[v]) = f t (p, v) := by
  have e : (#[p].zip #[v]) = #[(p, v)] := by rw [List.zip_toArray]; rfl
  rw [e]; simp
theorem ex_loop {B w : World} {F : List Nat} {s : List Blk} {l : Nat} {r : Loop} (K : Kn B F ((l, .loop r) :: s) w) : ∃ r', r' = r := ⟨_, rfl⟩
/-- What an iterator over patterns does. -/
def PatC (m : Nat) : Prop := ∀ (p lp gm gp L : Nat) (r : Loop) (C : List (List Int) → List Blk → Prop) (ys : List (List Int)) (s0 : List Blk) (w : World) (F : List Nat), p ≤ 5 → ys.length + (pats m p).length ≤ L → RoundsP L m lp r C → C ys s0 →
  Kn w F (s0 ++ [(gm, .cells #[.int .i64 m] 3), (gp, .cells #[.int .i64 p] 3)]) w →
  Calls Try.prog 118 #[.func (.yield lp) #[] #[], .pointer (some ⟨gm, 0, none⟩), .pointer (some ⟨gp, 0, none⟩)] w fun e w' => e = .returned (.tuple #[]) ∧ ∃ s u, C (ys ++ pats m p) s ∧ Kn w F (s ++ u) w'
set_option maxRecDepth 100000 in
set_option maxHeartbeats 1000000 in
theorem patterns_any (m p : Int) (w : World) : Calls Try.prog 69 #[.int .i64 m, .int .i64 p] w fun e w' => ∃ gm gp, e = .returned (.func (.func 118) #[] #[.pointer (some ⟨gm, 0, none⟩), .pointer (some ⟨gp, 0, none⟩)]) ∧ Made w [(gm, .cells #[.int .i64 m] 3), (gp, .cells #[.int .i64 p] 3)] w' := by
  go_enter Try.func69, Try.ntmps69
  refine wk_start ?_
  refine wk_seq ?_
  refine wk_region [1, 1, 0] rfl Kx ?_
  simp only [qy]
  refine Rgn fun g1 => ?_
  simp only [qz]
  refine Rgn fun g2 => ?_
  simp only [qz]
  refine rg_assign ?_
  simp only [qz]
  refine rg_nil (ek_next (wk_seq ?_))
  refine wk_region [0, 0] rfl Kx ?_
  simp only [qy]
  apply rg_soft
  case hy => (intro w hw; go_simp; (try go_bits); exact Yld.mk _ _)
  simp only [qz]
  refine rg_assign ?_
  simp only [qz]
  refine rg_nil (ek_next (wk_ret ?_))
  refine ek_ret (fun w hw => ⟨rfl, _, res_t _ rfl, ?_⟩)
  (try simp only [qz])
  exact ⟨g1, g2, rfl, (hw.perm (List.Perm.swap _ _ _)).made (List.Sublist.refl _)⟩

set_option maxRecDepth 100000 in
theorem pat_one : PatC 1 := by
  intro p lp gm gp L r C ys s0 w F hp hlim hR hC K
  have hlim' : ys.length < L := by (simp [pats] at hlim; omega)
  revert hC K
  generalize s0 = uC
  intro hC K
  refine calls_marksF K Try.func118 rfl ?_
  simp only [Try.ntmps118, List.size_toArray, List.length_cons, List.length_nil, Nat.reduceAdd, Nat.reduceSub, Array.replicate_succ, Array.replicate_zero, List.push_toArray, List.append_toArray, List.nil_append, List.cons_append]
  refine wk_seq ?_
  refine wk_region [1] rfl Kx ?_
  simp only [qy]
  refine Rgn fun g1 => ?_
  simp only [qz]
  refine rg_nil (ek_next (wk_seq (wk_seq ?_)))
  refine wk_region [0, 0] rfl Kx ?_
  simp only [qy]
  refine rf_load rfl rfl rfl Try.underlying3 rfl (fun w hw => (Kn.hd0 (Kn.tlU (Kn.tl hw))).at rfl) ?_
  simp only [qz]
  refine rfb_eql rfl rfl rfl rfl ?_
  intro x h1
  obtain rfl : x = true := by (refine h1.symm.trans ?_; exact decide_eq_true Ox)
  clear h1
  simp only [qz]
  refine rg_nil (ek_next (wk_cond_t rfl (wk_seq ?_)))
  refine wk_region [0, 0, 1, 1] rfl Kx ?_
  simp only [qy]
  refine rf_load rfl rfl rfl Try.underlying57 rfl (fun w hw => (Kn.hd0 hw).at rfl) ?_
  simp only [qz]
  refine rf_load rfl rfl rfl Try.underlying3 rfl (fun w hw => (Kn.hd0 (Kn.tl (Kn.tlU (Kn.tl hw)))).at rfl) ?_
  simp only [qz]
  refine rg_newS (cs := ?_) (ty := ?_) (n := 1) (c := 1) Rx (fun w => ?_) Nz (fun g2 => ?_); rotate_left 2
  focus (go_simp; rfl)
  simp only [qz]
  refine rg_yieldP (u := [_]) (row := [(p : Int)]) hR hC (by simp) (by simp) Ox (OwnZ.one _) (by exact ((perm_atU (l := [_]) (u := uC) (List.Perm.refl _)).cons _)) Rx rfl (by simp only [qm, qs, Act.eval] <;> rfl) (fun sD hCD => ?_)
  simp only [qz]
  refine rg_nil (ek_next (wk_ret (ek_then_ret ?_)))
  refine ek_retM0 (fun w hw => ⟨_, res_0 rfl, ?_⟩)
  exact ⟨rfl, sD, _, hCD, hw⟩
theorem as6 {α : Type} {x y z a b : α} {u r : List α} : x :: y :: z :: (u ++ (a :: b :: r)) = ((x :: y :: z :: u) ++ [a, b]) ++ r := by simp
theorem wrap_eq' {n r : Int} (h : n = r) (h0 : -9223372036854775808 ≤ r) (h1 : r < 9223372036854775808) : IntKind.i64.wrap n = r := by
  rw [h]; exact wrap_ok Ox Ox
set_option maxRecDepth 100000 in
set_option maxHeartbeats 1000000 in
theorem pat_step {m : Nat} (hm : m + 2 ≤ 6) (IH : PatC (m + 1)) : PatC (m + 2) := by
  intro p lp gm gp L r C ys s0 w F hp hlim hR hC K
  revert hC K
  generalize s0 = uC
  intro hC K
  refine calls_marksF K Try.func118 rfl ?_
  simp only [Try.ntmps118, List.size_toArray, List.length_cons, List.length_nil, Nat.reduceAdd, Nat.reduceSub, Array.replicate_succ, Array.replicate_zero, List.push_toArray, List.append_toArray, List.nil_append, List.cons_append]
  refine wk_seq ?_
  refine wk_region [1] rfl Kx ?_
  simp only [qy]
  refine Rgn fun g1 => ?_
  simp only [qz]
  refine rg_nil (ek_next (wk_seq (wk_seq ?_)))
  refine wk_region [0, 0] rfl Kx ?_
  simp only [qy]
  refine rf_load rfl rfl rfl Try.underlying3 rfl (fun w hw => (Kn.hd0 (Kn.tlU (Kn.tl hw))).at rfl) ?_
  simp only [qz]
  refine rfb_eql rfl rfl rfl rfl ?_
  intro x h1
  obtain rfl : x = false := by (refine h1.symm.trans ?_; exact decide_eq_false Ox)
  clear h1
  simp only [qz]
  refine rg_nil (ek_next (wk_cond_f rfl (wk_skip (ek_next (wk_seq ?_)))))
  refine wk_region [0, 1, 1] rfl Kx ?_
  simp only [qy]
  refine rf_load rfl rfl rfl Try.underlying3 rfl (fun w hw => (Kn.hd0 (Kn.tl (Kn.tlU (Kn.tl hw)))).at rfl) ?_
  simp only [qz]
  refine Rgn fun g2 => ?_
  simp only [qz]
  refine rf_store rfl rfl Kx rfl rfl (UpdR.here _ _ _ Nl) Nz ?_
  simp only [qz]
  refine rg_nil (ek_next (wk_block ?_))
  refine wk_loopD [4, 5, 13, 14, 15, 16, 17, 18, 19, 20, 21, 22, 23, 24, 25, 26, 27, 28, 29, 30, 31] (fun mz f ds s => ∃ (t : Nat) (dl : List Nat) (uC : List Blk) (gF : Nat), f 4 = .pointer (some ⟨gF, 0, none⟩) ∧ ds = collD dl ∧ s = (gF, .cells #[.int .i64 ((p : Int) - ((t : Nat) : Int))] 3) :: (g1, .cells #[.func (.yield lp) #[] #[]] 57) :: (uC ++ ((gm, .cells #[.int .i64 (((m + 2 : Nat) : Int))] 3) :: (gp, .cells #[.int .i64 (p)] 3) :: (marksD dl ++ []))) ∧ mz = p + 1 - t ∧ t ≤ p + 1 ∧ C (ys ++ patsT (m + 1) p t) uC) (p + 1 - 0) ?_ Kx ?_
  · exact ⟨0, [], uC, g2, rfl, rfl, (by rw [show ((p : Int) - ((0 : Nat) : Int)) = p by omega]; rfl), rfl, by omega, (by have h := hC; rwa [show ys = ys ++ patsT (m + 1) p 0 by simp [patsT]] at h)⟩
  clear hC
  rintro mz f1 ds s ⟨t, dl, uC, gF, hs4, rfl, rfl, hn, ht, hC⟩
  simp only [Act.putF, List.foldl_cons, List.foldl_nil, hs4, Act.put, Act.eval, q1, q2, q3, q4, q5, q6, q7, q8, q9, q10, q11, q12, q13, q14, q15, q16, q17, q18, Nat.reduceAdd, Bool.not_true, Bool.not_false]
  clear hs4
  refine wk_seq (wk_seq ?_)
  refine wk_region [0, 0] rfl Kx ?_
  simp only [qy]
  refine rf_load rfl rfl rfl Try.underlying3 rfl (fun w hw => (Kn.hd0 hw).at rfl) ?_
  simp only [qz]
  refine rfb_geq rfl rfl rfl rfl ?_
  intro x h2
  cases x
  · (try simp only [qd, ne_eq] at h2)
    simp only [qz]
    refine rg_nil (ek_next (wk_cond_f rfl (wk_exit (ek_then_exit (ek_then_exit (ek_block_exit ?_))))))
    refine ek_perm ((((((((((((List.Perm.refl _).cons _).trans (List.perm_middle (l₁ := (marksD dl))).symm).cons _).trans (List.perm_middle (l₁ := (marksD dl))).symm).append_left _).trans (List.perm_append_comm_assoc uC (marksD dl) _)).cons _).trans (List.perm_middle (l₁ := (marksD dl))).symm).cons _).trans (List.perm_middle (l₁ := (marksD dl))).symm).trans ((perm_atU (l := [_, _]) (u := uC) (List.Perm.refl _)).append_left _)) ?_
    obtain rfl : t = p + 1 := by omega
    refine ek_normMn dl (fun w hw => ⟨_, res_0 rfl, ?_⟩)
    exact ⟨rfl, uC, _, by rw [pats_T]; exact hC, hw⟩
  (try simp only [qd, ne_eq] at h2)
  simp only [qz]
  refine rg_nil (ek_next (wk_cond_t rfl (wk_skip (ek_next (wk_seq (wk_block (wk_seq ?_)))))))
  refine wk_region [0, 0, 0, 0, 0, 1] rfl Kx ?_
  simp only [qy]
  refine rf_load rfl rfl rfl Try.underlying3 rfl (fun w hw => (Kn.hd0 (Kn.tlU (Kn.tl (Kn.tl hw)))).at rfl) ?_
  simp only [qz]
  refine rf_sub (r := ((m + 1 : Nat) : Int)) rfl rfl rfl rfl (wrap_eq' Ox Ox Ox) ?_
  simp only [qz]
  refine rf_load rfl rfl rfl Try.underlying3 rfl (fun w hw => (Kn.hd0 (Kn.tl (Kn.tlU (Kn.tl (Kn.tl hw))))).at rfl) ?_
  simp only [qz]
  refine rf_load rfl rfl rfl Try.underlying3 rfl (fun w hw => (Kn.hd0 hw).at rfl) ?_
  simp only [qz]
  refine rf_sub (r := (t : Int)) rfl rfl rfl rfl (wrap_eq' Ox Ox Ox) ?_
  simp only [qz]
  apply rg_made (T := fun v u => ∃ gm2 gp2, v = .func (.func 118) #[] #[.pointer (some ⟨gm2, 0, none⟩), .pointer (some ⟨gp2, 0, none⟩)] ∧ u = [(gm2, .cells #[.int .i64 (((m + 1 : Nat) : Int))] 3), (gp2, .cells #[.int .i64 (t)] 3)]) Rx Kx
  case hargs => exact Ax
  case h => exact fun w hw => (patterns_any ((m + 1 : Nat) : Int) t w).mono (fun e w' ⟨gm2, gp2, he, hm⟩ => ⟨_, _, he, ⟨gm2, gp2, rfl, rfl⟩, hm⟩)
  case hz => exact Nz
  rintro _ _ ⟨gm2, gp2, rfl, rfl⟩
  simp only [List.cons_append, List.nil_append]
  simp only [qz]
  refine rg_nil (ek_next (wk_block ?_))
  refine wk_rangeFunc (f := 118) (caps := #[.pointer (some ⟨gm2, 0, none⟩), .pointer (some ⟨gp2, 0, none⟩)]) rfl Kx ?_
  intro fn dd lq w1 K1
  obtain ⟨r2, hr2⟩ := ex_loop K1
  rw [← hr2] at K1
  have K2 := K1.perm ((perm_at (l := [_, _, _, _]) (perm_at (l := [_, _, _]) (perm_atU (l := [_, _, _]) (u := uC) (perm_at (l := [_]) (perm_at (l := [_]) (List.Perm.refl _)))))).cons _)
  rw [as6] at K2
  have K3 := Kn.self (v := (_ :: _ :: _ :: uC) ++ [_, _]) (rest := _) K2
  have hlt := patsT_le (m := m) (p := p) (t := t) Ox
  have hR2 : RoundsP (pats (m + 1) t).length (m + 1) lq r2 (fun zs S => ∃ sC, S = (lq, .loop r2) :: (g1, .cells #[.func (.yield lp) #[] #[]] 57) :: (gF, .cells #[.int .i64 ((p : Int) - ((t : Nat) : Int))] 3) :: sC ∧ C ((ys ++ patsT (m + 1) p t) ++ zs.map (((p - t : Nat) : Int) :: ·)) sC) := by
    subst hr2
    refine ⟨rfl, fun zs S ⟨sC, e, _⟩ => by subst e; simp, ?_⟩
    intro R B F zs row uN v S uR w hl0 hl1 hzl ⟨uD, hS, hCz⟩ hO K
    subst hS
    simp only [List.cons_append] at K
    obtain ⟨av, cv, rfl, hcv⟩ := Own.val hO
    obtain ⟨ad, rfl, hAd⟩ := hO.addr hl0
    refine roundIn_kn (Rep.app _ (Rep.here _)) rfl ?_ K
    simp only [fold_zip1]
    simp only [qz]
    refine wk_region [0] rfl Kx ?_
    simp only [qy]
    refine rg_assign ?_
    simp only [qz]
    refine rg_nil ?_
    refine ek_asg ?_
    refine wk_block (wk_seq ?_)
    refine wk_rr Kx ?_
    refine rr_hard3 (i := 0) (j := 1) (k := 3) (f := 0) (g := 0) (e := 0) Kx rfl rfl rfl rfl rfl rfl ?_ ?_ ?_
    · refine rf_load rfl rfl rfl Try.underlying57 rfl (fun w hw => (Kn.hd0 (Kn.tl (Kn.tlU hw))).at rfl) ?_
      simp only [qz]
      refine rg_nil ?_
      refine ek_rr ?_
      refine rr_hard2 (i := 1) (j := 3) (f := 0) (g := 0) Kx rfl rfl rfl rfl ?_ ?_
      · refine rf_load rfl rfl rfl Try.underlying3 rfl (fun w hw => (Kn.hd0 (Kn.tl (Kn.tl (Kn.tlU hw)))).at rfl) ?_
        simp only [qz]
        refine rg_nil ?_
        refine ek_rr ?_
        refine rr_hard2 (i := 2) (j := 3) (f := 1) (g := 0) Kx rfl rfl rfl rfl ?_ ?_
        · refine rg_newS (cs := ?_) (ty := ?_) (n := 1) (c := 1) Rx (fun w => ?_) Nz (fun g3 => ?_); rotate_left 2
          focus (go_simp; rfl)
          simp only [qz]
          refine rg_nil ?_
          refine ek_rr ?_
          refine rr_hard1 (i := 3) (f := 0) Kx rfl rfl ?_
          refine rg_move ?_
          simp only [qz]
          refine rg_nil ?_
          refine ek_rr ?_
          refine rr_hard1 (i := 4) (f := 1) Kx rfl rfl ?_
          refine rg_consZ (x := (p : Int) - ((t : Nat) : Int)) Rx rfl rfl (fun w hw => hAd hw (List.Sublist.cons _ (List.sublist_append_left _ _))) Ox hl0 (List.Perm.refl _) Nz (fun uP aP cP hOP => ?_)
          simp only [qz]
          refine rg_nil ?_
          refine ek_rr ?_
          refine rr_hard1 (i := 5) (f := 1) Kx rfl rfl ?_
          refine rg_yieldP hR hCz (by simp) (by simp; omega) (by simp only [List.length_append, List.length_map]; omega) hOP (((((((((((List.Perm.refl _).cons _).trans (List.perm_middle (l₁ := uD)).symm).cons _).trans (List.perm_middle (l₁ := uD)).symm).cons _).trans (List.perm_middle (l₁ := uD)).symm).append_left _).trans (List.perm_append_comm_assoc uN uD _)).trans ((List.Perm.refl _).append_left _)).append_left _) Rx rfl (by simp only [qm, qs, Act.eval, List.length_cons] <;> rfl) (fun uE hCE => ?_)
          simp only [qz]
          refine rg_nil ?_
          refine ek_rr ?_
          refine rr_hard1 (i := 6) (f := 0) Kx rfl rfl ?_
          refine rf_not rfl rfl rfl ?_
          simp only [qz]
          refine rg_nil ?_
          refine ek_rr ?_
          refine rr_nil Kx ?_
          refine ek_next (wk_cond_f rfl (wk_skip (ek_block ?_)))
          refine ek_sub (List.Sublist.append_left ((sc _ (sc _ (sc _ (List.Sublist.refl _)))).trans (List.sublist_append_right _ _)) _) ?_
          refine ek_perm ((((List.Perm.refl _).append_left _).trans (List.perm_middle (l₁ := uE))).trans (((((List.Perm.refl _).append_left _).trans (List.perm_middle (l₁ := uE))).trans (((((List.Perm.refl _).append_left _).trans (List.perm_middle (l₁ := uE))).trans ((List.Perm.refl _).cons _)).cons _)).cons _)) ?_
          refine ek_roundEnd (Rep.here _) (fun w hw => ⟨_, rfl, ⟨uE, rfl, ?_⟩, hw⟩)
          have h := hCE
          rw [show (p : Int) - ((t : Nat) : Int) = ((p - t : Nat) : Int) by omega] at h
          simpa [List.append_assoc] using h
        · refine rg_move ?_
          simp only [qz]
          refine rg_nil ?_
          refine ek_rr ?_
          refine rr_hard1 (i := 2) (f := 1) Kx rfl rfl ?_
          refine rg_newS (cs := ?_) (ty := ?_) (n := 1) (c := 1) Rx (fun w => ?_) Nz (fun g4 => ?_); rotate_left 2
          focus (go_simp; rfl)
          simp only [qz]
          refine rg_nil ?_
          refine ek_rr ?_
          refine rr_hard1 (i := 4) (f := 1) Kx rfl rfl ?_
          refine rg_consZ (x := (p : Int) - ((t : Nat) : Int)) Rx rfl rfl (fun w hw => hAd hw (List.Sublist.cons _ (List.sublist_append_left _ _))) Ox hl0 (List.Perm.refl _) Nz (fun uP aP cP hOP => ?_)
          simp only [qz]
          refine rg_nil ?_
          refine ek_rr ?_
          refine rr_hard1 (i := 5) (f := 1) Kx rfl rfl ?_
          refine rg_yieldP hR hCz (by simp) (by simp; omega) (by simp only [List.length_append, List.length_map]; omega) hOP (((((((((((List.Perm.refl _).cons _).trans (List.perm_middle (l₁ := uD)).symm).cons _).trans (List.perm_middle (l₁ := uD)).symm).cons _).trans (List.perm_middle (l₁ := uD)).symm).append_left _).trans (List.perm_append_comm_assoc uN uD _)).trans ((List.Perm.refl _).append_left _)).append_left _) Rx rfl (by simp only [qm, qs, Act.eval, List.length_cons] <;> rfl) (fun uE hCE => ?_)
          simp only [qz]
          refine rg_nil ?_
          refine ek_rr ?_
          refine rr_hard1 (i := 6) (f := 0) Kx rfl rfl ?_
          refine rf_not rfl rfl rfl ?_
          simp only [qz]
          refine rg_nil ?_
          refine ek_rr ?_
          refine rr_nil Kx ?_
          refine ek_next (wk_cond_f rfl (wk_skip (ek_block ?_)))
          refine ek_sub (List.Sublist.append_left ((sc _ (sc _ (sc _ (List.Sublist.refl _)))).trans (List.sublist_append_right _ _)) _) ?_
          refine ek_perm ((((List.Perm.refl _).append_left _).trans (List.perm_middle (l₁ := uE))).trans (((((List.Perm.refl _).append_left _).trans (List.perm_middle (l₁ := uE))).trans (((((List.Perm.refl _).append_left _).trans (List.perm_middle (l₁ := uE))).trans ((List.Perm.refl _).cons _)).cons _)).cons _)) ?_
          refine ek_roundEnd (Rep.here _) (fun w hw => ⟨_, rfl, ⟨uE, rfl, ?_⟩, hw⟩)
          have h := hCE
          rw [show (p : Int) - ((t : Nat) : Int) = ((p - t : Nat) : Int) by omega] at h
          simpa [List.append_assoc] using h
      · refine rg_move ?_
        simp only [qz]
        refine rg_nil ?_
        refine ek_rr ?_
        refine rr_hard1 (i := 1) (f := 0) Kx rfl rfl ?_
        refine rf_load rfl rfl rfl Try.underlying3 rfl (fun w hw => (Kn.hd0 (Kn.tl (Kn.tl (Kn.tlU hw)))).at rfl) ?_
        simp only [qz]
        refine rg_nil ?_
        refine ek_rr ?_
        refine rr_hard1 (i := 2) (f := 1) Kx rfl rfl ?_
        refine rg_newS (cs := ?_) (ty := ?_) (n := 1) (c := 1) Rx (fun w => ?_) Nz (fun g5 => ?_); rotate_left 2
        focus (go_simp; rfl)
        simp only [qz]
        refine rg_nil ?_
        refine ek_rr ?_
        refine rr_hard1 (i := 4) (f := 1) Kx rfl rfl ?_
        refine rg_consZ (x := (p : Int) - ((t : Nat) : Int)) Rx rfl rfl (fun w hw => hAd hw (List.Sublist.cons _ (List.sublist_append_left _ _))) Ox hl0 (List.Perm.refl _) Nz (fun uP aP cP hOP => ?_)
        simp only [qz]
        refine rg_nil ?_
        refine ek_rr ?_
        refine rr_hard1 (i := 5) (f := 1) Kx rfl rfl ?_
        refine rg_yieldP hR hCz (by simp) (by simp; omega) (by simp only [List.length_append, List.length_map]; omega) hOP (((((((((((List.Perm.refl _).cons _).trans (List.perm_middle (l₁ := uD)).symm).cons _).trans (List.perm_middle (l₁ := uD)).symm).cons _).trans (List.perm_middle (l₁ := uD)).symm).append_left _).trans (List.perm_append_comm_assoc uN uD _)).trans ((List.Perm.refl _).append_left _)).append_left _) Rx rfl (by simp only [qm, qs, Act.eval, List.length_cons] <;> rfl) (fun uE hCE => ?_)
        simp only [qz]
        refine rg_nil ?_
        refine ek_rr ?_
        refine rr_hard1 (i := 6) (f := 0) Kx rfl rfl ?_
        refine rf_not rfl rfl rfl ?_
        simp only [qz]
        refine rg_nil ?_
        refine ek_rr ?_
        refine rr_nil Kx ?_
        refine ek_next (wk_cond_f rfl (wk_skip (ek_block ?_)))
        refine ek_sub (List.Sublist.append_left ((sc _ (sc _ (sc _ (List.Sublist.refl _)))).trans (List.sublist_append_right _ _)) _) ?_
        refine ek_perm ((((List.Perm.refl _).append_left _).trans (List.perm_middle (l₁ := uE))).trans (((((List.Perm.refl _).append_left _).trans (List.perm_middle (l₁ := uE))).trans (((((List.Perm.refl _).append_left _).trans (List.perm_middle (l₁ := uE))).trans ((List.Perm.refl _).cons _)).cons _)).cons _)) ?_
        refine ek_roundEnd (Rep.here _) (fun w hw => ⟨_, rfl, ⟨uE, rfl, ?_⟩, hw⟩)
        have h := hCE
        rw [show (p : Int) - ((t : Nat) : Int) = ((p - t : Nat) : Int) by omega] at h
        simpa [List.append_assoc] using h
    · refine rf_load rfl rfl rfl Try.underlying3 rfl (fun w hw => (Kn.hd0 (Kn.tl (Kn.tl (Kn.tlU hw)))).at rfl) ?_
      simp only [qz]
      refine rg_nil ?_
      refine ek_rr ?_
      refine rr_hard3 (i := 0) (j := 2) (k := 3) (f := 0) (g := 1) (e := 0) Kx rfl rfl rfl rfl rfl rfl ?_ ?_ ?_
      · refine rf_load rfl rfl rfl Try.underlying57 rfl (fun w hw => (Kn.hd0 (Kn.tl (Kn.tlU hw))).at rfl) ?_
        simp only [qz]
        refine rg_nil ?_
        refine ek_rr ?_
        refine rr_hard2 (i := 2) (j := 3) (f := 1) (g := 0) Kx rfl rfl rfl rfl ?_ ?_
        · refine rg_newS (cs := ?_) (ty := ?_) (n := 1) (c := 1) Rx (fun w => ?_) Nz (fun g6 => ?_); rotate_left 2
          focus (go_simp; rfl)
          simp only [qz]
          refine rg_nil ?_
          refine ek_rr ?_
          refine rr_hard1 (i := 3) (f := 0) Kx rfl rfl ?_
          refine rg_move ?_
          simp only [qz]
          refine rg_nil ?_
          refine ek_rr ?_
          refine rr_hard1 (i := 4) (f := 1) Kx rfl rfl ?_
          refine rg_consZ (x := (p : Int) - ((t : Nat) : Int)) Rx rfl rfl (fun w hw => hAd hw (List.Sublist.cons _ (List.sublist_append_left _ _))) Ox hl0 (List.Perm.refl _) Nz (fun uP aP cP hOP => ?_)
          simp only [qz]
          refine rg_nil ?_
          refine ek_rr ?_
          refine rr_hard1 (i := 5) (f := 1) Kx rfl rfl ?_
          refine rg_yieldP hR hCz (by simp) (by simp; omega) (by simp only [List.length_append, List.length_map]; omega) hOP (((((((((((List.Perm.refl _).cons _).trans (List.perm_middle (l₁ := uD)).symm).cons _).trans (List.perm_middle (l₁ := uD)).symm).cons _).trans (List.perm_middle (l₁ := uD)).symm).append_left _).trans (List.perm_append_comm_assoc uN uD _)).trans ((List.Perm.refl _).append_left _)).append_left _) Rx rfl (by simp only [qm, qs, Act.eval, List.length_cons] <;> rfl) (fun uE hCE => ?_)
          simp only [qz]
          refine rg_nil ?_
          refine ek_rr ?_
          refine rr_hard1 (i := 6) (f := 0) Kx rfl rfl ?_
          refine rf_not rfl rfl rfl ?_
          simp only [qz]
          refine rg_nil ?_
          refine ek_rr ?_
          refine rr_nil Kx ?_
          refine ek_next (wk_cond_f rfl (wk_skip (ek_block ?_)))
          refine ek_sub (List.Sublist.append_left ((sc _ (sc _ (sc _ (List.Sublist.refl _)))).trans (List.sublist_append_right _ _)) _) ?_
          refine ek_perm ((((List.Perm.refl _).append_left _).trans (List.perm_middle (l₁ := uE))).trans (((((List.Perm.refl _).append_left _).trans (List.perm_middle (l₁ := uE))).trans (((((List.Perm.refl _).append_left _).trans (List.perm_middle (l₁ := uE))).trans ((List.Perm.refl _).cons _)).cons _)).cons _)) ?_
          refine ek_roundEnd (Rep.here _) (fun w hw => ⟨_, rfl, ⟨uE, rfl, ?_⟩, hw⟩)
          have h := hCE
          rw [show (p : Int) - ((t : Nat) : Int) = ((p - t : Nat) : Int) by omega] at h
          simpa [List.append_assoc] using h
        · refine rg_move ?_
          simp only [qz]
          refine rg_nil ?_
          refine ek_rr ?_
          refine rr_hard1 (i := 2) (f := 1) Kx rfl rfl ?_
          refine rg_newS (cs := ?_) (ty := ?_) (n := 1) (c := 1) Rx (fun w => ?_) Nz (fun g7 => ?_); rotate_left 2
          focus (go_simp; rfl)
          simp only [qz]
          refine rg_nil ?_
          refine ek_rr ?_
          refine rr_hard1 (i := 4) (f := 1) Kx rfl rfl ?_
          refine rg_consZ (x := (p : Int) - ((t : Nat) : Int)) Rx rfl rfl (fun w hw => hAd hw (List.Sublist.cons _ (List.sublist_append_left _ _))) Ox hl0 (List.Perm.refl _) Nz (fun uP aP cP hOP => ?_)
          simp only [qz]
          refine rg_nil ?_
          refine ek_rr ?_
          refine rr_hard1 (i := 5) (f := 1) Kx rfl rfl ?_
          refine rg_yieldP hR hCz (by simp) (by simp; omega) (by simp only [List.length_append, List.length_map]; omega) hOP (((((((((((List.Perm.refl _).cons _).trans (List.perm_middle (l₁ := uD)).symm).cons _).trans (List.perm_middle (l₁ := uD)).symm).cons _).trans (List.perm_middle (l₁ := uD)).symm).append_left _).trans (List.perm_append_comm_assoc uN uD _)).trans ((List.Perm.refl _).append_left _)).append_left _) Rx rfl (by simp only [qm, qs, Act.eval, List.length_cons] <;> rfl) (fun uE hCE => ?_)
          simp only [qz]
          refine rg_nil ?_
          refine ek_rr ?_
          refine rr_hard1 (i := 6) (f := 0) Kx rfl rfl ?_
          refine rf_not rfl rfl rfl ?_
          simp only [qz]
          refine rg_nil ?_
          refine ek_rr ?_
          refine rr_nil Kx ?_
          refine ek_next (wk_cond_f rfl (wk_skip (ek_block ?_)))
          refine ek_sub (List.Sublist.append_left ((sc _ (sc _ (sc _ (List.Sublist.refl _)))).trans (List.sublist_append_right _ _)) _) ?_
          refine ek_perm ((((List.Perm.refl _).append_left _).trans (List.perm_middle (l₁ := uE))).trans (((((List.Perm.refl _).append_left _).trans (List.perm_middle (l₁ := uE))).trans (((((List.Perm.refl _).append_left _).trans (List.perm_middle (l₁ := uE))).trans ((List.Perm.refl _).cons _)).cons _)).cons _)) ?_
          refine ek_roundEnd (Rep.here _) (fun w hw => ⟨_, rfl, ⟨uE, rfl, ?_⟩, hw⟩)
          have h := hCE
          rw [show (p : Int) - ((t : Nat) : Int) = ((p - t : Nat) : Int) by omega] at h
          simpa [List.append_assoc] using h
      · refine rg_newS (cs := ?_) (ty := ?_) (n := 1) (c := 1) Rx (fun w => ?_) Nz (fun g8 => ?_); rotate_left 2
        focus (go_simp; rfl)
        simp only [qz]
        refine rg_nil ?_
        refine ek_rr ?_
        refine rr_hard2 (i := 0) (j := 3) (f := 0) (g := 0) Kx rfl rfl rfl rfl ?_ ?_
        · refine rf_load rfl rfl rfl Try.underlying57 rfl (fun w hw => (Kn.hd0 (Kn.tl (Kn.tlU (Kn.tl hw)))).at rfl) ?_
          simp only [qz]
          refine rg_nil ?_
          refine ek_rr ?_
          refine rr_hard1 (i := 3) (f := 0) Kx rfl rfl ?_
          refine rg_move ?_
          simp only [qz]
          refine rg_nil ?_
          refine ek_rr ?_
          refine rr_hard1 (i := 4) (f := 1) Kx rfl rfl ?_
          refine rg_consZ (x := (p : Int) - ((t : Nat) : Int)) Rx rfl rfl (fun w hw => hAd hw (List.Sublist.cons _ (List.sublist_append_left _ _))) Ox hl0 (List.Perm.refl _) Nz (fun uP aP cP hOP => ?_)
          simp only [qz]
          refine rg_nil ?_
          refine ek_rr ?_
          refine rr_hard1 (i := 5) (f := 1) Kx rfl rfl ?_
          refine rg_yieldP hR hCz (by simp) (by simp; omega) (by simp only [List.length_append, List.length_map]; omega) hOP (((((((((((List.Perm.refl _).cons _).trans (List.perm_middle (l₁ := uD)).symm).cons _).trans (List.perm_middle (l₁ := uD)).symm).cons _).trans (List.perm_middle (l₁ := uD)).symm).append_left _).trans (List.perm_append_comm_assoc uN uD _)).trans ((List.Perm.refl _).append_left _)).append_left _) Rx rfl (by simp only [qm, qs, Act.eval, List.length_cons] <;> rfl) (fun uE hCE => ?_)
          simp only [qz]
          refine rg_nil ?_
          refine ek_rr ?_
          refine rr_hard1 (i := 6) (f := 0) Kx rfl rfl ?_
          refine rf_not rfl rfl rfl ?_
          simp only [qz]
          refine rg_nil ?_
          refine ek_rr ?_
          refine rr_nil Kx ?_
          refine ek_next (wk_cond_f rfl (wk_skip (ek_block ?_)))
          refine ek_sub (List.Sublist.append_left ((sc _ (sc _ (sc _ (List.Sublist.refl _)))).trans (List.sublist_append_right _ _)) _) ?_
          refine ek_perm ((((List.Perm.refl _).append_left _).trans (List.perm_middle (l₁ := uE))).trans (((((List.Perm.refl _).append_left _).trans (List.perm_middle (l₁ := uE))).trans (((((List.Perm.refl _).append_left _).trans (List.perm_middle (l₁ := uE))).trans ((List.Perm.refl _).cons _)).cons _)).cons _)) ?_
          refine ek_roundEnd (Rep.here _) (fun w hw => ⟨_, rfl, ⟨uE, rfl, ?_⟩, hw⟩)
          have h := hCE
          rw [show (p : Int) - ((t : Nat) : Int) = ((p - t : Nat) : Int) by omega] at h
          simpa [List.append_assoc] using h
        · refine rg_move ?_
          simp only [qz]
          refine rg_nil ?_
          refine ek_rr ?_
          refine rr_hard2 (i := 0) (j := 4) (f := 0) (g := 1) Kx rfl rfl rfl rfl ?_ ?_
          · refine rf_load rfl rfl rfl Try.underlying57 rfl (fun w hw => (Kn.hd0 (Kn.tl (Kn.tlU (Kn.tl hw)))).at rfl) ?_
            simp only [qz]
            refine rg_nil ?_
            refine ek_rr ?_
            refine rr_hard1 (i := 4) (f := 1) Kx rfl rfl ?_
            refine rg_consZ (x := (p : Int) - ((t : Nat) : Int)) Rx rfl rfl (fun w hw => hAd hw (List.Sublist.cons _ (List.sublist_append_left _ _))) Ox hl0 (List.Perm.refl _) Nz (fun uP aP cP hOP => ?_)
            simp only [qz]
            refine rg_nil ?_
            refine ek_rr ?_
            refine rr_hard1 (i := 5) (f := 1) Kx rfl rfl ?_
            refine rg_yieldP hR hCz (by simp) (by simp; omega) (by simp only [List.length_append, List.length_map]; omega) hOP (((((((((((List.Perm.refl _).cons _).trans (List.perm_middle (l₁ := uD)).symm).cons _).trans (List.perm_middle (l₁ := uD)).symm).cons _).trans (List.perm_middle (l₁ := uD)).symm).append_left _).trans (List.perm_append_comm_assoc uN uD _)).trans ((List.Perm.refl _).append_left _)).append_left _) Rx rfl (by simp only [qm, qs, Act.eval, List.length_cons] <;> rfl) (fun uE hCE => ?_)
            simp only [qz]
            refine rg_nil ?_
            refine ek_rr ?_
            refine rr_hard1 (i := 6) (f := 0) Kx rfl rfl ?_
            refine rf_not rfl rfl rfl ?_
            simp only [qz]
            refine rg_nil ?_
            refine ek_rr ?_
            refine rr_nil Kx ?_
            refine ek_next (wk_cond_f rfl (wk_skip (ek_block ?_)))
            refine ek_sub (List.Sublist.append_left ((sc _ (sc _ (sc _ (List.Sublist.refl _)))).trans (List.sublist_append_right _ _)) _) ?_
            refine ek_perm ((((List.Perm.refl _).append_left _).trans (List.perm_middle (l₁ := uE))).trans (((((List.Perm.refl _).append_left _).trans (List.perm_middle (l₁ := uE))).trans (((((List.Perm.refl _).append_left _).trans (List.perm_middle (l₁ := uE))).trans ((List.Perm.refl _).cons _)).cons _)).cons _)) ?_
            refine ek_roundEnd (Rep.here _) (fun w hw => ⟨_, rfl, ⟨uE, rfl, ?_⟩, hw⟩)
            have h := hCE
            rw [show (p : Int) - ((t : Nat) : Int) = ((p - t : Nat) : Int) by omega] at h
            simpa [List.append_assoc] using h
          · refine rg_consZ (x := (p : Int) - ((t : Nat) : Int)) Rx rfl rfl (fun w hw => hAd hw (List.Sublist.cons _ (List.sublist_append_left _ _))) Ox hl0 (List.Perm.refl _) Nz (fun uP aP cP hOP => ?_)
            simp only [qz]
            refine rg_nil ?_
            refine ek_rr ?_
            refine rr_hard1 (i := 0) (f := 0) Kx rfl rfl ?_
            refine rf_load rfl rfl rfl Try.underlying57 rfl (fun w hw => (Kn.hd0 (Kn.tl (Kn.tlU (Kn.tlU hw)))).at rfl) ?_
            simp only [qz]
            refine rg_nil ?_
            refine ek_rr ?_
            refine rr_hard1 (i := 5) (f := 1) Kx rfl rfl ?_
            refine rg_yieldP hR hCz (by simp) (by simp; omega) (by simp only [List.length_append, List.length_map]; omega) hOP (((((((((((List.Perm.refl _).cons _).trans (List.perm_middle (l₁ := uD)).symm).cons _).trans (List.perm_middle (l₁ := uD)).symm).cons _).trans (List.perm_middle (l₁ := uD)).symm).append_left _).trans (List.perm_append_comm_assoc uN uD _)).trans ((List.Perm.refl _).append_left _)).append_left _) Rx rfl (by simp only [qm, qs, Act.eval, List.length_cons] <;> rfl) (fun uE hCE => ?_)
            simp only [qz]
            refine rg_nil ?_
            refine ek_rr ?_
            refine rr_hard1 (i := 6) (f := 0) Kx rfl rfl ?_
            refine rf_not rfl rfl rfl ?_
            simp only [qz]
            refine rg_nil ?_
            refine ek_rr ?_
            refine rr_nil Kx ?_
            refine ek_next (wk_cond_f rfl (wk_skip (ek_block ?_)))
            refine ek_sub (List.Sublist.append_left ((sc _ (sc _ (sc _ (List.Sublist.refl _)))).trans (List.sublist_append_right _ _)) _) ?_
            refine ek_perm ((((List.Perm.refl _).append_left _).trans (List.perm_middle (l₁ := uE))).trans (((((List.Perm.refl _).append_left _).trans (List.perm_middle (l₁ := uE))).trans (((((List.Perm.refl _).append_left _).trans (List.perm_middle (l₁ := uE))).trans ((List.Perm.refl _).cons _)).cons _)).cons _)) ?_
            refine ek_roundEnd (Rep.here _) (fun w hw => ⟨_, rfl, ⟨uE, rfl, ?_⟩, hw⟩)
            have h := hCE
            rw [show (p : Int) - ((t : Nat) : Int) = ((p - t : Nat) : Int) by omega] at h
            simpa [List.append_assoc] using h
      · refine rg_move ?_
        simp only [qz]
        refine rg_nil ?_
        refine ek_rr ?_
        refine rr_hard2 (i := 0) (j := 2) (f := 0) (g := 1) Kx rfl rfl rfl rfl ?_ ?_
        · refine rf_load rfl rfl rfl Try.underlying57 rfl (fun w hw => (Kn.hd0 (Kn.tl (Kn.tlU hw))).at rfl) ?_
          simp only [qz]
          refine rg_nil ?_
          refine ek_rr ?_
          refine rr_hard1 (i := 2) (f := 1) Kx rfl rfl ?_
          refine rg_newS (cs := ?_) (ty := ?_) (n := 1) (c := 1) Rx (fun w => ?_) Nz (fun g9 => ?_); rotate_left 2
          focus (go_simp; rfl)
          simp only [qz]
          refine rg_nil ?_
          refine ek_rr ?_
          refine rr_hard1 (i := 4) (f := 1) Kx rfl rfl ?_
          refine rg_consZ (x := (p : Int) - ((t : Nat) : Int)) Rx rfl rfl (fun w hw => hAd hw (List.Sublist.cons _ (List.sublist_append_left _ _))) Ox hl0 (List.Perm.refl _) Nz (fun uP aP cP hOP => ?_)
          simp only [qz]
          refine rg_nil ?_
          refine ek_rr ?_
          refine rr_hard1 (i := 5) (f := 1) Kx rfl rfl ?_
          refine rg_yieldP hR hCz (by simp) (by simp; omega) (by simp only [List.length_append, List.length_map]; omega) hOP (((((((((((List.Perm.refl _).cons _).trans (List.perm_middle (l₁ := uD)).symm).cons _).trans (List.perm_middle (l₁ := uD)).symm).cons _).trans (List.perm_middle (l₁ := uD)).symm).append_left _).trans (List.perm_append_comm_assoc uN uD _)).trans ((List.Perm.refl _).append_left _)).append_left _) Rx rfl (by simp only [qm, qs, Act.eval, List.length_cons] <;> rfl) (fun uE hCE => ?_)
          simp only [qz]
          refine rg_nil ?_
          refine ek_rr ?_
          refine rr_hard1 (i := 6) (f := 0) Kx rfl rfl ?_
          refine rf_not rfl rfl rfl ?_
          simp only [qz]
          refine rg_nil ?_
          refine ek_rr ?_
          refine rr_nil Kx ?_
          refine ek_next (wk_cond_f rfl (wk_skip (ek_block ?_)))
          refine ek_sub (List.Sublist.append_left ((sc _ (sc _ (sc _ (List.Sublist.refl _)))).trans (List.sublist_append_right _ _)) _) ?_
          refine ek_perm ((((List.Perm.refl _).append_left _).trans (List.perm_middle (l₁ := uE))).trans (((((List.Perm.refl _).append_left _).trans (List.perm_middle (l₁ := uE))).trans (((((List.Perm.refl _).append_left _).trans (List.perm_middle (l₁ := uE))).trans ((List.Perm.refl _).cons _)).cons _)).cons _)) ?_
          refine ek_roundEnd (Rep.here _) (fun w hw => ⟨_, rfl, ⟨uE, rfl, ?_⟩, hw⟩)
          have h := hCE
          rw [show (p : Int) - ((t : Nat) : Int) = ((p - t : Nat) : Int) by omega] at h
          simpa [List.append_assoc] using h
        · refine rg_newS (cs := ?_) (ty := ?_) (n := 1) (c := 1) Rx (fun w => ?_) Nz (fun g10 => ?_); rotate_left 2
          focus (go_simp; rfl)
          simp only [qz]
          refine rg_nil ?_
          refine ek_rr ?_
          refine rr_hard2 (i := 0) (j := 4) (f := 0) (g := 1) Kx rfl rfl rfl rfl ?_ ?_
          · refine rf_load rfl rfl rfl Try.underlying57 rfl (fun w hw => (Kn.hd0 (Kn.tl (Kn.tlU (Kn.tl hw)))).at rfl) ?_
            simp only [qz]
            refine rg_nil ?_
            refine ek_rr ?_
            refine rr_hard1 (i := 4) (f := 1) Kx rfl rfl ?_
            refine rg_consZ (x := (p : Int) - ((t : Nat) : Int)) Rx rfl rfl (fun w hw => hAd hw (List.Sublist.cons _ (List.sublist_append_left _ _))) Ox hl0 (List.Perm.refl _) Nz (fun uP aP cP hOP => ?_)
            simp only [qz]
            refine rg_nil ?_
            refine ek_rr ?_
            refine rr_hard1 (i := 5) (f := 1) Kx rfl rfl ?_
            refine rg_yieldP hR hCz (by simp) (by simp; omega) (by simp only [List.length_append, List.length_map]; omega) hOP (((((((((((List.Perm.refl _).cons _).trans (List.perm_middle (l₁ := uD)).symm).cons _).trans (List.perm_middle (l₁ := uD)).symm).cons _).trans (List.perm_middle (l₁ := uD)).symm).append_left _).trans (List.perm_append_comm_assoc uN uD _)).trans ((List.Perm.refl _).append_left _)).append_left _) Rx rfl (by simp only [qm, qs, Act.eval, List.length_cons] <;> rfl) (fun uE hCE => ?_)
            simp only [qz]
            refine rg_nil ?_
            refine ek_rr ?_
            refine rr_hard1 (i := 6) (f := 0) Kx rfl rfl ?_
            refine rf_not rfl rfl rfl ?_
            simp only [qz]
            refine rg_nil ?_
            refine ek_rr ?_
            refine rr_nil Kx ?_
            refine ek_next (wk_cond_f rfl (wk_skip (ek_block ?_)))
            refine ek_sub (List.Sublist.append_left ((sc _ (sc _ (sc _ (List.Sublist.refl _)))).trans (List.sublist_append_right _ _)) _) ?_
            refine ek_perm ((((List.Perm.refl _).append_left _).trans (List.perm_middle (l₁ := uE))).trans (((((List.Perm.refl _).append_left _).trans (List.perm_middle (l₁ := uE))).trans (((((List.Perm.refl _).append_left _).trans (List.perm_middle (l₁ := uE))).trans ((List.Perm.refl _).cons _)).cons _)).cons _)) ?_
            refine ek_roundEnd (Rep.here _) (fun w hw => ⟨_, rfl, ⟨uE, rfl, ?_⟩, hw⟩)
            have h := hCE
            rw [show (p : Int) - ((t : Nat) : Int) = ((p - t : Nat) : Int) by omega] at h
            simpa [List.append_assoc] using h
          · refine rg_consZ (x := (p : Int) - ((t : Nat) : Int)) Rx rfl rfl (fun w hw => hAd hw (List.Sublist.cons _ (List.sublist_append_left _ _))) Ox hl0 (List.Perm.refl _) Nz (fun uP aP cP hOP => ?_)
            simp only [qz]
            refine rg_nil ?_
            refine ek_rr ?_
            refine rr_hard1 (i := 0) (f := 0) Kx rfl rfl ?_
            refine rf_load rfl rfl rfl Try.underlying57 rfl (fun w hw => (Kn.hd0 (Kn.tl (Kn.tlU (Kn.tlU hw)))).at rfl) ?_
            simp only [qz]
            refine rg_nil ?_
            refine ek_rr ?_
            refine rr_hard1 (i := 5) (f := 1) Kx rfl rfl ?_
            refine rg_yieldP hR hCz (by simp) (by simp; omega) (by simp only [List.length_append, List.length_map]; omega) hOP (((((((((((List.Perm.refl _).cons _).trans (List.perm_middle (l₁ := uD)).symm).cons _).trans (List.perm_middle (l₁ := uD)).symm).cons _).trans (List.perm_middle (l₁ := uD)).symm).append_left _).trans (List.perm_append_comm_assoc uN uD _)).trans ((List.Perm.refl _).append_left _)).append_left _) Rx rfl (by simp only [qm, qs, Act.eval, List.length_cons] <;> rfl) (fun uE hCE => ?_)
            simp only [qz]
            refine rg_nil ?_
            refine ek_rr ?_
            refine rr_hard1 (i := 6) (f := 0) Kx rfl rfl ?_
            refine rf_not rfl rfl rfl ?_
            simp only [qz]
            refine rg_nil ?_
            refine ek_rr ?_
            refine rr_nil Kx ?_
            refine ek_next (wk_cond_f rfl (wk_skip (ek_block ?_)))
            refine ek_sub (List.Sublist.append_left ((sc _ (sc _ (sc _ (List.Sublist.refl _)))).trans (List.sublist_append_right _ _)) _) ?_
            refine ek_perm ((((List.Perm.refl _).append_left _).trans (List.perm_middle (l₁ := uE))).trans (((((List.Perm.refl _).append_left _).trans (List.perm_middle (l₁ := uE))).trans (((((List.Perm.refl _).append_left _).trans (List.perm_middle (l₁ := uE))).trans ((List.Perm.refl _).cons _)).cons _)).cons _)) ?_
            refine ek_roundEnd (Rep.here _) (fun w hw => ⟨_, rfl, ⟨uE, rfl, ?_⟩, hw⟩)
            have h := hCE
            rw [show (p : Int) - ((t : Nat) : Int) = ((p - t : Nat) : Int) by omega] at h
            simpa [List.append_assoc] using h
    · refine rg_move ?_
      simp only [qz]
      refine rg_nil ?_
      refine ek_rr ?_
      refine rr_hard2 (i := 0) (j := 1) (f := 0) (g := 0) Kx rfl rfl rfl rfl ?_ ?_
      · refine rf_load rfl rfl rfl Try.underlying57 rfl (fun w hw => (Kn.hd0 (Kn.tl (Kn.tlU hw))).at rfl) ?_
        simp only [qz]
        refine rg_nil ?_
        refine ek_rr ?_
        refine rr_hard1 (i := 1) (f := 0) Kx rfl rfl ?_
        refine rf_load rfl rfl rfl Try.underlying3 rfl (fun w hw => (Kn.hd0 (Kn.tl (Kn.tl (Kn.tlU hw)))).at rfl) ?_
        simp only [qz]
        refine rg_nil ?_
        refine ek_rr ?_
        refine rr_hard1 (i := 2) (f := 1) Kx rfl rfl ?_
        refine rg_newS (cs := ?_) (ty := ?_) (n := 1) (c := 1) Rx (fun w => ?_) Nz (fun g11 => ?_); rotate_left 2
        focus (go_simp; rfl)
        simp only [qz]
        refine rg_nil ?_
        refine ek_rr ?_
        refine rr_hard1 (i := 4) (f := 1) Kx rfl rfl ?_
        refine rg_consZ (x := (p : Int) - ((t : Nat) : Int)) Rx rfl rfl (fun w hw => hAd hw (List.Sublist.cons _ (List.sublist_append_left _ _))) Ox hl0 (List.Perm.refl _) Nz (fun uP aP cP hOP => ?_)
        simp only [qz]
        refine rg_nil ?_
        refine ek_rr ?_
        refine rr_hard1 (i := 5) (f := 1) Kx rfl rfl ?_
        refine rg_yieldP hR hCz (by simp) (by simp; omega) (by simp only [List.length_append, List.length_map]; omega) hOP (((((((((((List.Perm.refl _).cons _).trans (List.perm_middle (l₁ := uD)).symm).cons _).trans (List.perm_middle (l₁ := uD)).symm).cons _).trans (List.perm_middle (l₁ := uD)).symm).append_left _).trans (List.perm_append_comm_assoc uN uD _)).trans ((List.Perm.refl _).append_left _)).append_left _) Rx rfl (by simp only [qm, qs, Act.eval, List.length_cons] <;> rfl) (fun uE hCE => ?_)
        simp only [qz]
        refine rg_nil ?_
        refine ek_rr ?_
        refine rr_hard1 (i := 6) (f := 0) Kx rfl rfl ?_
        refine rf_not rfl rfl rfl ?_
        simp only [qz]
        refine rg_nil ?_
        refine ek_rr ?_
        refine rr_nil Kx ?_
        refine ek_next (wk_cond_f rfl (wk_skip (ek_block ?_)))
        refine ek_sub (List.Sublist.append_left ((sc _ (sc _ (sc _ (List.Sublist.refl _)))).trans (List.sublist_append_right _ _)) _) ?_
        refine ek_perm ((((List.Perm.refl _).append_left _).trans (List.perm_middle (l₁ := uE))).trans (((((List.Perm.refl _).append_left _).trans (List.perm_middle (l₁ := uE))).trans (((((List.Perm.refl _).append_left _).trans (List.perm_middle (l₁ := uE))).trans ((List.Perm.refl _).cons _)).cons _)).cons _)) ?_
        refine ek_roundEnd (Rep.here _) (fun w hw => ⟨_, rfl, ⟨uE, rfl, ?_⟩, hw⟩)
        have h := hCE
        rw [show (p : Int) - ((t : Nat) : Int) = ((p - t : Nat) : Int) by omega] at h
        simpa [List.append_assoc] using h
      · refine rf_load rfl rfl rfl Try.underlying3 rfl (fun w hw => (Kn.hd0 (Kn.tl (Kn.tl (Kn.tlU hw)))).at rfl) ?_
        simp only [qz]
        refine rg_nil ?_
        refine ek_rr ?_
        refine rr_hard2 (i := 0) (j := 2) (f := 0) (g := 1) Kx rfl rfl rfl rfl ?_ ?_
        · refine rf_load rfl rfl rfl Try.underlying57 rfl (fun w hw => (Kn.hd0 (Kn.tl (Kn.tlU hw))).at rfl) ?_
          simp only [qz]
          refine rg_nil ?_
          refine ek_rr ?_
          refine rr_hard1 (i := 2) (f := 1) Kx rfl rfl ?_
          refine rg_newS (cs := ?_) (ty := ?_) (n := 1) (c := 1) Rx (fun w => ?_) Nz (fun g12 => ?_); rotate_left 2
          focus (go_simp; rfl)
          simp only [qz]
          refine rg_nil ?_
          refine ek_rr ?_
          refine rr_hard1 (i := 4) (f := 1) Kx rfl rfl ?_
          refine rg_consZ (x := (p : Int) - ((t : Nat) : Int)) Rx rfl rfl (fun w hw => hAd hw (List.Sublist.cons _ (List.sublist_append_left _ _))) Ox hl0 (List.Perm.refl _) Nz (fun uP aP cP hOP => ?_)
          simp only [qz]
          refine rg_nil ?_
          refine ek_rr ?_
          refine rr_hard1 (i := 5) (f := 1) Kx rfl rfl ?_
          refine rg_yieldP hR hCz (by simp) (by simp; omega) (by simp only [List.length_append, List.length_map]; omega) hOP (((((((((((List.Perm.refl _).cons _).trans (List.perm_middle (l₁ := uD)).symm).cons _).trans (List.perm_middle (l₁ := uD)).symm).cons _).trans (List.perm_middle (l₁ := uD)).symm).append_left _).trans (List.perm_append_comm_assoc uN uD _)).trans ((List.Perm.refl _).append_left _)).append_left _) Rx rfl (by simp only [qm, qs, Act.eval, List.length_cons] <;> rfl) (fun uE hCE => ?_)
          simp only [qz]
          refine rg_nil ?_
          refine ek_rr ?_
          refine rr_hard1 (i := 6) (f := 0) Kx rfl rfl ?_
          refine rf_not rfl rfl rfl ?_
          simp only [qz]
          refine rg_nil ?_
          refine ek_rr ?_
          refine rr_nil Kx ?_
          refine ek_next (wk_cond_f rfl (wk_skip (ek_block ?_)))
          refine ek_sub (List.Sublist.append_left ((sc _ (sc _ (sc _ (List.Sublist.refl _)))).trans (List.sublist_append_right _ _)) _) ?_
          refine ek_perm ((((List.Perm.refl _).append_left _).trans (List.perm_middle (l₁ := uE))).trans (((((List.Perm.refl _).append_left _).trans (List.perm_middle (l₁ := uE))).trans (((((List.Perm.refl _).append_left _).trans (List.perm_middle (l₁ := uE))).trans ((List.Perm.refl _).cons _)).cons _)).cons _)) ?_
          refine ek_roundEnd (Rep.here _) (fun w hw => ⟨_, rfl, ⟨uE, rfl, ?_⟩, hw⟩)
          have h := hCE
          rw [show (p : Int) - ((t : Nat) : Int) = ((p - t : Nat) : Int) by omega] at h
          simpa [List.append_assoc] using h
        · refine rg_newS (cs := ?_) (ty := ?_) (n := 1) (c := 1) Rx (fun w => ?_) Nz (fun g13 => ?_); rotate_left 2
          focus (go_simp; rfl)
          simp only [qz]
          refine rg_nil ?_
          refine ek_rr ?_
          refine rr_hard2 (i := 0) (j := 4) (f := 0) (g := 1) Kx rfl rfl rfl rfl ?_ ?_
          · refine rf_load rfl rfl rfl Try.underlying57 rfl (fun w hw => (Kn.hd0 (Kn.tl (Kn.tlU (Kn.tl hw)))).at rfl) ?_
            simp only [qz]
            refine rg_nil ?_
            refine ek_rr ?_
            refine rr_hard1 (i := 4) (f := 1) Kx rfl rfl ?_
            refine rg_consZ (x := (p : Int) - ((t : Nat) : Int)) Rx rfl rfl (fun w hw => hAd hw (List.Sublist.cons _ (List.sublist_append_left _ _))) Ox hl0 (List.Perm.refl _) Nz (fun uP aP cP hOP => ?_)
            simp only [qz]
            refine rg_nil ?_
            refine ek_rr ?_
            refine rr_hard1 (i := 5) (f := 1) Kx rfl rfl ?_
            refine rg_yieldP hR hCz (by simp) (by simp; omega) (by simp only [List.length_append, List.length_map]; omega) hOP (((((((((((List.Perm.refl _).cons _).trans (List.perm_middle (l₁ := uD)).symm).cons _).trans (List.perm_middle (l₁ := uD)).symm).cons _).trans (List.perm_middle (l₁ := uD)).symm).append_left _).trans (List.perm_append_comm_assoc uN uD _)).trans ((List.Perm.refl _).append_left _)).append_left _) Rx rfl (by simp only [qm, qs, Act.eval, List.length_cons] <;> rfl) (fun uE hCE => ?_)
            simp only [qz]
            refine rg_nil ?_
            refine ek_rr ?_
            refine rr_hard1 (i := 6) (f := 0) Kx rfl rfl ?_
            refine rf_not rfl rfl rfl ?_
            simp only [qz]
            refine rg_nil ?_
            refine ek_rr ?_
            refine rr_nil Kx ?_
            refine ek_next (wk_cond_f rfl (wk_skip (ek_block ?_)))
            refine ek_sub (List.Sublist.append_left ((sc _ (sc _ (sc _ (List.Sublist.refl _)))).trans (List.sublist_append_right _ _)) _) ?_
            refine ek_perm ((((List.Perm.refl _).append_left _).trans (List.perm_middle (l₁ := uE))).trans (((((List.Perm.refl _).append_left _).trans (List.perm_middle (l₁ := uE))).trans (((((List.Perm.refl _).append_left _).trans (List.perm_middle (l₁ := uE))).trans ((List.Perm.refl _).cons _)).cons _)).cons _)) ?_
            refine ek_roundEnd (Rep.here _) (fun w hw => ⟨_, rfl, ⟨uE, rfl, ?_⟩, hw⟩)
            have h := hCE
            rw [show (p : Int) - ((t : Nat) : Int) = ((p - t : Nat) : Int) by omega] at h
            simpa [List.append_assoc] using h
          · refine rg_consZ (x := (p : Int) - ((t : Nat) : Int)) Rx rfl rfl (fun w hw => hAd hw (List.Sublist.cons _ (List.sublist_append_left _ _))) Ox hl0 (List.Perm.refl _) Nz (fun uP aP cP hOP => ?_)
            simp only [qz]
            refine rg_nil ?_
            refine ek_rr ?_
            refine rr_hard1 (i := 0) (f := 0) Kx rfl rfl ?_
            refine rf_load rfl rfl rfl Try.underlying57 rfl (fun w hw => (Kn.hd0 (Kn.tl (Kn.tlU (Kn.tlU hw)))).at rfl) ?_
            simp only [qz]
            refine rg_nil ?_
            refine ek_rr ?_
            refine rr_hard1 (i := 5) (f := 1) Kx rfl rfl ?_
            refine rg_yieldP hR hCz (by simp) (by simp; omega) (by simp only [List.length_append, List.length_map]; omega) hOP (((((((((((List.Perm.refl _).cons _).trans (List.perm_middle (l₁ := uD)).symm).cons _).trans (List.perm_middle (l₁ := uD)).symm).cons _).trans (List.perm_middle (l₁ := uD)).symm).append_left _).trans (List.perm_append_comm_assoc uN uD _)).trans ((List.Perm.refl _).append_left _)).append_left _) Rx rfl (by simp only [qm, qs, Act.eval, List.length_cons] <;> rfl) (fun uE hCE => ?_)
            simp only [qz]
            refine rg_nil ?_
            refine ek_rr ?_
            refine rr_hard1 (i := 6) (f := 0) Kx rfl rfl ?_
            refine rf_not rfl rfl rfl ?_
            simp only [qz]
            refine rg_nil ?_
            refine ek_rr ?_
            refine rr_nil Kx ?_
            refine ek_next (wk_cond_f rfl (wk_skip (ek_block ?_)))
            refine ek_sub (List.Sublist.append_left ((sc _ (sc _ (sc _ (List.Sublist.refl _)))).trans (List.sublist_append_right _ _)) _) ?_
            refine ek_perm ((((List.Perm.refl _).append_left _).trans (List.perm_middle (l₁ := uE))).trans (((((List.Perm.refl _).append_left _).trans (List.perm_middle (l₁ := uE))).trans (((((List.Perm.refl _).append_left _).trans (List.perm_middle (l₁ := uE))).trans ((List.Perm.refl _).cons _)).cons _)).cons _)) ?_
            refine ek_roundEnd (Rep.here _) (fun w hw => ⟨_, rfl, ⟨uE, rfl, ?_⟩, hw⟩)
            have h := hCE
            rw [show (p : Int) - ((t : Nat) : Int) = ((p - t : Nat) : Int) by omega] at h
            simpa [List.append_assoc] using h
  have hpend : r2.pending = none := by subst hr2; rfl
  have hst : r2.state ≠ .busy := by (subst hr2; simp)
  clear hr2
  refine (IH t lq gm2 gp2 _ r2 _ [] _ w1 _ Ox (by simp) hR2 ⟨uC, rfl, by simpa using hC⟩ K3).mono ?_
  rintro e w2 ⟨rfl, sS, u2, ⟨uD, rfl, hCD⟩, hK⟩
  have K4 := Kn.effApp (v := (_ :: _ :: _ :: uC) ++ [_, _]) (rest := _) K2 hK
  simp only [List.cons_append, List.append_assoc, List.nil_append] at K4
  refine ⟨_, _, r2, _, rfl, K4, Rep.here _, hst, ?_⟩
  rw [hpend]
  simp only [List.nil_append] at hCD
  refine ek_block (ek_block (ek_next (wk_seq (wk_seq ?_))))
  refine wk_region [0] rfl Kx ?_
  simp only [qy]
  refine rf_load rfl rfl rfl Try.underlying3 rfl (fun w hw => (Kn.hd0 (Kn.tl (Kn.tl hw))).at rfl) ?_
  simp only [qz]
  refine rg_nil (ek_next ?_)
  refine wk_region [1, 1] rfl Kx ?_
  simp only [qy]
  refine Rgn fun g3 => ?_
  simp only [qz]
  refine rf_store rfl rfl Kx rfl rfl (UpdR.here _ _ _ Nl) Nz ?_
  simp only [qz]
  refine rg_nil (ek_next ?_)
  refine wk_region [0, 0, 1] rfl Kx ?_
  simp only [qy]
  refine rf_load rfl rfl rfl Try.underlying3 rfl (fun w hw => (Kn.hd0 hw).at rfl) ?_
  simp only [qz]
  refine rf_sub (r := (p : Int) - ((t + 1 : Nat) : Int)) rfl rfl rfl rfl (wrap_eq' Ox Ox Ox) ?_
  simp only [qz]
  refine rf_store rfl rfl Kx rfl rfl (UpdR.here _ _ _ Nl) Nz ?_
  simp only [qz]
  refine rg_nil ?_
  refine ek_sub (sc _ (sk _ (sc _ (sk _ (List.Sublist.append_left ((sc _ (sc _ (sc _ (List.Sublist.append_left sn _)))).trans (List.sublist_append_right _ _)) _))))) ?_
  refine ek_perm ((((perm_at (l := [_]) (perm_at (l := [_]) (List.Perm.refl _))).append_left _).cons _).cons _) ?_
  refine ek_roundD (p + 1 - (t + 1)) Ox Kx ?_
  exact ⟨t + 1, dd :: dl, uD, g3, rfl, rfl, rfl, rfl, by omega, (by have h := hCD; simpa [patsT, List.append_assoc] using h)⟩
theorem pat_all : ∀ m, m + 1 ≤ 6 → PatC (m + 1)
  | 0, _ => pat_one
  | m + 1, h => pat_step Ox (pat_all m Ox)
end Go.Proofs.Ytjeijnjaleldkaa
namespace Go.Proofs.Ytjeijnjaleldkaa
set_option linter.all false
open Go.RowKit

theorem pats_tab : ((List.range 7).all fun m => (List.range 6).all fun p => decide ((pats m p).length ≤ 1000)) = true := by kernel_rfl
theorem pats_small {m p : Nat} (hm : m ≤ 6) (hp : p ≤ 5) : (pats m p).length ≤ 1000 :=
  of_decide_eq_true (List.all_eq_true.1 (List.all_eq_true.1 pats_tab m (List.mem_range.2 Ox)) p (List.mem_range.2 Ox))
theorem as2 {α : Type} {x y a b : α} {u r : List α} : x :: y :: (u ++ (a :: b :: r)) = ((x :: y :: u) ++ [a, b]) ++ r := by simp
set_option maxRecDepth 100000 in
set_option maxHeartbeats 1000000 in
theorem appendSeq_any (m p : Nat) (hm : m + 1 ≤ 6) (hp : p ≤ 5) (gm gp : Nat) (w : World) (F : List Nat) (K : Kn w F [(gm, .cells #[.int .i64 ((m + 1 : Nat) : Int)] 3), (gp, .cells #[.int .i64 p] 3)] w) : Calls Try.prog 117 #[.slice none 0 0, .func (.func 118) #[] #[.pointer (some ⟨gm, 0, none⟩), .pointer (some ⟨gp, 0, none⟩)]] w fun e w' => ∃ v U, e = .returned v ∧ OwnL U v (pats (m + 1) p) ∧ Kn w F U w' := by
  have hsm := pats_small (m := m + 1) (p := p) Ox hp
  refine calls_marksF K Try.func117 rfl ?_
  simp only [Try.ntmps117, List.size_toArray, List.length_cons, List.length_nil, Nat.reduceAdd, Nat.reduceSub, Array.replicate_succ, Array.replicate_zero, List.push_toArray, List.append_toArray, List.nil_append, List.cons_append]
  refine wk_seq ?_
  refine wk_region [1, 0] rfl Kx ?_
  simp only [qy]
  refine Rgn fun g1 => ?_
  simp only [qz]
  refine rg_assign ?_
  simp only [qz]
  refine rg_nil (ek_next (wk_seq (wk_seq ?_)))
  refine wk_region [0] rfl Kx ?_
  simp only [qy]
  refine rg_move ?_
  simp only [qz]
  refine rg_nil (ek_next (wk_block ?_))
  refine wk_rangeFunc (f := 118) (caps := #[.pointer (some ⟨gm, 0, none⟩), .pointer (some ⟨gp, 0, none⟩)]) rfl Kx ?_
  intro fn dd lq w1 K1
  obtain ⟨r2, hr2⟩ := ex_loop K1
  rw [← hr2] at K1
  have K2 := K1.perm ((perm_at (l := [_]) (perm_at (l := [_]) (perm_at (l := [_]) (List.Perm.refl _)))).cons _)
  have K3 := Kn.self (v := (_ :: _ :: ([] : List Blk)) ++ [_, _]) (rest := [_]) K2
  have hR2 : RoundsP (pats (m + 1) p).length (m + 1) lq r2 (fun ys S => ∃ uT uS hs v, S = (lq, .loop r2) :: (g1, .cells #[v] 33) :: (uT ++ uS) ∧ Own 37 1 uT v ys.length hs ∧ RowsZ uS hs ys) := by
    subst hr2
    refine ⟨rfl, fun ys S ⟨_, _, _, _, e, _⟩ => by subst e; simp, ?_⟩
    intro R B F ys row uN v S uR w hl0 hl1 hyl ⟨uT, uS, hs, vT, hS, hOT, hRS⟩ hO K
    clear hl1
    subst hS
    simp only [List.cons_append, List.append_assoc] at K
    obtain ⟨av, cv, rfl, hcv⟩ := Own.val hO
    obtain ⟨aT, cT, rfl, hcT⟩ := Own.val hOT
    refine roundIn_kn (Rep.app _ (Rep.here _)) rfl ?_ K
    simp only [fold_zip1]
    simp only [qz]
    refine wk_region [0] rfl Kx ?_
    simp only [qy]
    refine rg_assign ?_
    simp only [qz]
    refine rg_nil ?_
    refine ek_asg ?_
    refine wk_block ?_
    refine wk_region [0, 0, 1, 1, 1] rfl Kx ?_
    simp only [qy]
    refine rf_load rfl rfl rfl Try.underlying33 rfl (fun w hw => (Kn.hd0 (Kn.tl (Kn.tlU hw))).at rfl) ?_
    simp only [qz]
    refine rg_move ?_
    simp only [qz]
    refine rg_newS (cs := ?_) (ty := ?_) (n := 1) (c := 1) Rx (fun w => ?_) Nz (fun g2 => ?_); rotate_left 2
    focus (go_simp; rfl)
    simp only [qz]
    refine rg_appL (h := .slice av row.length cv) Rx rfl hOT rfl Ox rfl ((((((((((List.Perm.refl _).cons _).trans (List.perm_middle (l₁ := uT)).symm).cons _).trans (List.perm_middle (l₁ := uT)).symm).append_left _).trans (List.perm_append_comm_assoc uN uT _)).cons _).trans (List.perm_middle (l₁ := uT)).symm).trans ((List.Perm.refl _).append_left _)) (fun w hw => Kn.hd0 hw) Nz (fun uP aP cP hOP => ?_)
    simp only [qz]
    refine rf_store rfl rfl Kx rfl rfl (UpdR.app _ (UpdR.there _ (UpdR.app _ (UpdR.there _ (UpdR.here _ _ _ Nl))))) Nz ?_
    simp only [qz]
    refine rg_nil (ek_block ?_)
    refine ek_sub (List.Sublist.append_left (sk _ (List.Sublist.append_left (sc _ (sc _ (List.Sublist.append_left (List.Sublist.refl _) _))) _)) _) ?_
    refine ek_perm ((((((List.Perm.refl _).append_left _).trans (List.perm_middle (l₁ := uN))).append_left _).trans (List.perm_middle (l₁ := uP))).trans (((((((List.Perm.refl _).append_left _).trans (List.perm_middle (l₁ := uN))).append_left _).trans (List.perm_middle (l₁ := uP))).trans ((List.Perm.refl _).cons _)).cons _)) ?_
    refine ek_roundEnd (Rep.here _) (fun w hw => ⟨_, rfl, ⟨uP, uN ++ uS, _, _, rfl, (by rw [List.length_append]; exact hOP), hRS.snoc hO⟩, ?_⟩)
    simpa [List.append_assoc] using hw
  have hpend : r2.pending = none := by subst hr2; rfl
  have hst : r2.state ≠ .busy := by (subst hr2; simp)
  clear hr2
  refine (pat_all m Ox p lq gm gp _ r2 _ [] _ w1 _ hp (by simp) hR2 ⟨[], [], [], _, rfl, Own.nil _ _, .nil⟩ K3).mono ?_
  rintro e w2 ⟨rfl, sS, u2, ⟨uT, uS, hs, vT, rfl, hOT, hRS⟩, hK⟩
  have K4 := Kn.effApp (v := (_ :: _ :: ([] : List Blk)) ++ [_, _]) (rest := [_]) K2 hK
  simp only [List.cons_append, List.append_assoc, List.nil_append] at K4
  refine ⟨_, _, r2, _, rfl, K4, Rep.here _, hst, ?_⟩
  rw [hpend]
  simp only [List.nil_append] at hOT hRS
  refine ek_block (ek_next (wk_seq ?_))
  refine wk_region [0, 0] rfl Kx ?_
  simp only [qy]
  refine rf_load rfl rfl rfl Try.underlying33 rfl (fun w hw => (Kn.hd0 (Kn.tl hw)).at rfl) ?_
  simp only [qz]
  refine rg_assign ?_
  simp only [qz]
  refine rg_nil (ek_next (wk_ret ?_))
  refine ek_sub (sk _ (sk _ (List.Sublist.append_left (List.Sublist.append_left ((sc _ sn).trans (List.sublist_append_right _ _)) _) _))) ?_
  refine ek_perm ((((((List.Perm.refl _).append_left _).trans (List.perm_middle (l₁ := uS))).append_left _).trans (List.perm_middle (l₁ := uT))).trans ((List.Perm.refl _).cons _)) ?_
  refine ek_retMn [dd] (fun w hw => ⟨_, res_t 4 rfl, ?_⟩)
  (try simp only [qz])
  exact ⟨vT, uT ++ uS, rfl, ⟨uT, uS, hs, rfl, hOT, hRS⟩, by simpa using hw⟩

set_option maxRecDepth 100000 in
set_option maxHeartbeats 1000000 in
theorem collect_any (m p : Nat) (hm : m + 1 ≤ 6) (hp : p ≤ 5) (gm gp : Nat) (w : World) (F : List Nat) (K : Kn w F [(gm, .cells #[.int .i64 ((m + 1 : Nat) : Int)] 3), (gp, .cells #[.int .i64 p] 3)] w) : Calls Try.prog 68 #[.func (.func 118) #[] #[.pointer (some ⟨gm, 0, none⟩), .pointer (some ⟨gp, 0, none⟩)]] w fun e w' => ∃ v U, e = .returned v ∧ OwnL U v (pats (m + 1) p) ∧ Kn w F U w' := by
  go_enter Try.func68, Try.ntmps68
  refine wk_startF K ?_
  refine wk_seq ?_
  refine wk_region [0] rfl Kx ?_
  simp only [qy]
  refine rg_assign ?_
  simp only [qz]
  refine rg_nil (ek_next (wk_seq ?_))
  refine wk_region [0, 1, 0] rfl Kx ?_
  simp only [qy]
  refine rg_move ?_
  simp only [qz]
  apply rg_call Rx Kx
  case hargs => exact Ax
  refine fun w2 hw => (appendSeq_any m p hm hp gm gp w2 [gm, gp] (Kn.self (v := [_, _]) (rest := []) (by simpa using hw))).mono ?_
  rintro e w3 ⟨v, U, rfl, hO, hK⟩
  have K2 := Kn.effApp (v := [_, _]) (rest := []) (by simpa using hw) hK
  refine ⟨v, U, rfl, by simpa using K2, Nz, ?_⟩
  simp only [qz]
  refine rg_assign ?_
  simp only [qz]
  refine rg_nil (ek_next (wk_ret ?_))
  refine ek_ret (fun w hw => ⟨rfl, _, res_t _ rfl, ?_⟩)
  (try simp only [qz])
  exact ⟨v, U, rfl, hO, hw⟩

def patR (m p : Int) : List (List Int) := if 1 ≤ m ∧ m ≤ 6 ∧ 0 ≤ p ∧ p ≤ 5 then pats m.toNat p.toNat else []
def patE (m p : Int) : Int := if 1 ≤ m ∧ m ≤ 6 ∧ 0 ≤ p ∧ p ≤ 5 then 0 else 2
set_option maxRecDepth 100000 in
set_option maxHeartbeats 1000000 in
theorem mpatterns_any (mi pi : Int) (w : World) : Calls Try.prog 19 #[.int .i64 mi, .int .i64 pi] w fun e w' => RetL w (patR mi pi) (patE mi pi) e w' := by
  go_enter Try.func19, Try.ntmps19
  refine wk_start ?_
  refine wk_seq ?_
  refine wk_region [0, 0] rfl Kx ?_
  simp only [qy]
  refine rg_assign ?_
  simp only [qz]
  refine rg_assign ?_
  simp only [qz]
  refine rg_nil (ek_next (wk_seq (wk_seq ?_)))
  refine wk_region [0, 0, 0, 0, 0, 0, 0, 0, 0, 0, 0, 0, 0, 0] rfl Kx ?_
  simp only [qy]
  refine rg_move ?_
  simp only [qz]
  refine rfb_lss rfl rfl rfl rfl ?_
  intro x h1
  cases x
  · (try simp only [qd, ne_eq] at h1)
    simp only [qz]
    refine rg_move ?_
    simp only [qz]
    apply rg_soft_g
    case hg => rfl
    case hy => (intro w hw; go_simp; (try go_bits); exact Yld.mk _ _)
    simp only [qz]
    refine rfb_gtr rfl rfl rfl rfl ?_
    intro x h2
    cases x
    · (try simp only [qd, ne_eq] at h2)
      simp only [qz]
      refine rf_pick rfl rfl rfl ?_
      simp only [qz]
      refine rg_move ?_
      simp only [qz]
      apply rg_soft_g
      case hg => rfl
      case hy => (intro w hw; go_simp; (try go_bits); exact Yld.mk _ _)
      simp only [qz]
      refine rfb_lss rfl rfl rfl rfl ?_
      intro x h3
      cases x
      · (try simp only [qd, ne_eq] at h3)
        simp only [qz]
        refine rf_pick rfl rfl rfl ?_
        simp only [qz]
        refine rg_move ?_
        simp only [qz]
        apply rg_soft_g
        case hg => rfl
        case hy => (intro w hw; go_simp; (try go_bits); exact Yld.mk _ _)
        simp only [qz]
        refine rfb_gtr rfl rfl rfl rfl ?_
        intro x h4
        cases x
        · (try simp only [qd, ne_eq] at h4)
          simp only [qz]
          refine rf_pick rfl rfl rfl ?_
          simp only [qz]
          refine rg_nil (ek_next (wk_cond_f rfl (wk_skip (ek_next (wk_seq ?_)))))
          refine wk_region [0, 0, 1, 1, 0, 0] rfl Kx ?_
          simp only [qy]
          refine rg_move ?_
          simp only [qz]
          refine rg_move ?_
          simp only [qz]
          obtain ⟨m, rfl⟩ : ∃ m : Nat, mi = ((m + 1 : Nat) : Int) := ⟨(mi - 1).toNat, by omega⟩
          obtain ⟨p, rfl⟩ : ∃ p : Nat, pi = p := ⟨pi.toNat, by omega⟩
          apply rg_made (T := fun v u => ∃ gm gp, v = .func (.func 118) #[] #[.pointer (some ⟨gm, 0, none⟩), .pointer (some ⟨gp, 0, none⟩)] ∧ u = [(gm, .cells #[.int .i64 ((m + 1 : Nat) : Int)] 3), (gp, .cells #[.int .i64 p] 3)]) Rx Kx
          case hargs => exact Ax
          case h => exact fun w hw => (patterns_any ((m + 1 : Nat) : Int) p w).mono (fun e w' ⟨gm, gp, he, hm⟩ => ⟨_, _, he, ⟨gm, gp, rfl, rfl⟩, hm⟩)
          case hz => exact Nz
          rintro _ _ ⟨gm, gp, rfl, rfl⟩
          simp only [List.cons_append, List.nil_append]
          simp only [qz]
          apply rg_call Rx Kx
          case hargs => exact Ax
          refine fun w2 hw => (collect_any m p Ox Ox gm gp w2 [gm, gp] (Kn.self (v := [_, _]) (rest := []) (by simpa using hw))).mono ?_
          rintro e w3 ⟨v, U, rfl, hO, hK⟩
          have K2 := Kn.effApp (v := [_, _]) (rest := []) (by simpa using hw) hK
          refine ⟨v, U, rfl, by simpa using K2, Nz, ?_⟩
          simp only [qz]
          refine rg_assign ?_
          simp only [qz]
          refine rg_assign ?_
          simp only [qz]
          refine rg_nil (ek_next (wk_ret ?_))
          refine ek_ret (fun w hw => ⟨rfl, _, res_tt _ _ rfl, ?_⟩)
          (try simp only [qz])
          exact ⟨v, U, by unfold patE; rw [if_pos Ox], (by unfold patR; rw [if_pos Ox]; exact hO), hw.made (List.Sublist.refl _)⟩
        (try simp only [qd, ne_eq] at h4)
        simp only [qz]
        refine rf_pick rfl rfl rfl ?_
        simp only [qz]
        refine rg_nil (ek_next (wk_cond_t rfl (wk_seq ?_)))
        refine wk_region [0, 0] rfl Kx ?_
        simp only [qy]
        refine rg_assign ?_
        simp only [qz]
        refine rg_assign ?_
        simp only [qz]
        refine rg_nil (ek_next (wk_ret (ek_then_ret ?_)))
        refine ek_ret (fun w hw => ⟨rfl, _, res_tt _ _ rfl, ?_⟩)
        (try simp only [qz])
        exact ⟨_, [], by unfold patE; rw [if_neg Ox], (by unfold patR; rw [if_neg Ox]; exact OwnL.nil), .nil hw.below⟩
      (try simp only [qd, ne_eq] at h3)
      simp only [qz]
      refine rf_pick rfl rfl rfl ?_
      simp only [qz]
      refine rg_move ?_
      simp only [qz]
      refine rg_skip Rx ?_
      simp only [qz]
      refine rg_skip Rx ?_
      simp only [qz]
      refine rf_pick rfl rfl rfl ?_
      simp only [qz]
      refine rg_nil (ek_next (wk_cond_t rfl (wk_seq ?_)))
      refine wk_region [0, 0] rfl Kx ?_
      simp only [qy]
      refine rg_assign ?_
      simp only [qz]
      refine rg_assign ?_
      simp only [qz]
      refine rg_nil (ek_next (wk_ret (ek_then_ret ?_)))
      refine ek_ret (fun w hw => ⟨rfl, _, res_tt _ _ rfl, ?_⟩)
      (try simp only [qz])
      exact ⟨_, [], by unfold patE; rw [if_neg Ox], (by unfold patR; rw [if_neg Ox]; exact OwnL.nil), .nil hw.below⟩
    (try simp only [qd, ne_eq] at h2)
    simp only [qz]
    refine rf_pick rfl rfl rfl ?_
    simp only [qz]
    refine rg_move ?_
    simp only [qz]
    refine rg_skip Rx ?_
    simp only [qz]
    refine rg_skip Rx ?_
    simp only [qz]
    refine rf_pick rfl rfl rfl ?_
    simp only [qz]
    refine rg_move ?_
    simp only [qz]
    refine rg_skip Rx ?_
    simp only [qz]
    refine rg_skip Rx ?_
    simp only [qz]
    refine rf_pick rfl rfl rfl ?_
    simp only [qz]
    refine rg_nil (ek_next (wk_cond_t rfl (wk_seq ?_)))
    refine wk_region [0, 0] rfl Kx ?_
    simp only [qy]
    refine rg_assign ?_
    simp only [qz]
    refine rg_assign ?_
    simp only [qz]
    refine rg_nil (ek_next (wk_ret (ek_then_ret ?_)))
    refine ek_ret (fun w hw => ⟨rfl, _, res_tt _ _ rfl, ?_⟩)
    (try simp only [qz])
    exact ⟨_, [], by unfold patE; rw [if_neg Ox], (by unfold patR; rw [if_neg Ox]; exact OwnL.nil), .nil hw.below⟩
  (try simp only [qd, ne_eq] at h1)
  simp only [qz]
  refine rg_move ?_
  simp only [qz]
  refine rg_skip Rx ?_
  simp only [qz]
  refine rg_skip Rx ?_
  simp only [qz]
  refine rf_pick rfl rfl rfl ?_
  simp only [qz]
  refine rg_move ?_
  simp only [qz]
  refine rg_skip Rx ?_
  simp only [qz]
  refine rg_skip Rx ?_
  simp only [qz]
  refine rf_pick rfl rfl rfl ?_
  simp only [qz]
  refine rg_move ?_
  simp only [qz]
  refine rg_skip Rx ?_
  simp only [qz]
  refine rg_skip Rx ?_
  simp only [qz]
  refine rf_pick rfl rfl rfl ?_
  simp only [qz]
  refine rg_nil (ek_next (wk_cond_t rfl (wk_seq ?_)))
  refine wk_region [0, 0] rfl Kx ?_
  simp only [qy]
  refine rg_assign ?_
  simp only [qz]
  refine rg_assign ?_
  simp only [qz]
  refine rg_nil (ek_next (wk_ret (ek_then_ret ?_)))
  refine ek_ret (fun w hw => ⟨rfl, _, res_tt _ _ rfl, ?_⟩)
  (try simp only [qz])
  exact ⟨_, [], by unfold patE; rw [if_neg Ox], (by unfold patR; rw [if_neg Ox]; exact OwnL.nil), .nil hw.below⟩

end Go.Proofs.Ytjeijnjaleldkaa
namespace Go.Proofs.Ytjeijnjaleldkaa
set_option linter.all false
open Go.RowKit

/-- The function that yields the elements of a matrix. -/
theorem at_fnv {N : Nat} {xs : List Nm} {a : Option Addr} {c : Nat} (hl : xs.length = N * N) (hN : N ≤ 6) {w : World} (hA : AS w a (nms xs)) : FnV w (.func (.func 64) #[.agg #[.int .i64 N, .slice a xs.length c]] #[]) (D2 N N fun i k => nmV (nm xs (i * N + k))) :=
  ⟨_, _, _, rfl, by kernel_rfl, fun w' hb vs r ⟨i, k, hi, hk, hv, hr⟩ => by
    subst hv hr
    have := at_any N i k xs a c hl hN hi hk w' (hA.below hb)
    simpa using this⟩
def perR (n : Int) (xs : List Nm) : NR := if validB n xs then perF n.toNat (fun i k => nm xs (i * n.toNat + k)) else .error 20
theorem validB_N {n : Int} {xs : List Nm} (h : validB n xs = true) : ∃ N : Nat, n = N ∧ 1 ≤ N ∧ N ≤ 6 ∧ xs.length = N * N ∧ xs.length ≤ 36 ∧ allOk xs = true := by
  simp only [validB, Bool.and_eq_true, decide_eq_true_eq] at h
  obtain ⟨h1, h2, h3, h4⟩ := h
  obtain ⟨N, rfl⟩ : ∃ N : Nat, n = N := ⟨n.toNat, by omega⟩
  have h5 : xs.length = N * N := by
    have e : ((N * N : Nat) : Int) = (N : Int) * N := Int.natCast_mul N N
    omega
  have h6 : N * N ≤ 6 * 6 := Nat.mul_le_mul Ox Ox
  exact ⟨N, rfl, by omega, by omega, h5, by omega, h4⟩
theorem elem_ok {xs : List Nm} {N : Nat} (hok : allOk xs = true) (hl : xs.length = N * N) {i k : Nat} (hi : i < N) (hk : k < N) : (nm xs (i * N + k)).Ok := ok_at hok (by rw [hl]; exact ix_lt hi hk)
theorem numV_ve (r : NR) : ∃ (v : Nm) (c : Int), numV r = .tuple #[nmV v, .int .i64 c] := by cases r <;> exact ⟨_, _, rfl⟩
set_option maxRecDepth 100000 in
set_option maxHeartbeats 1000000 in
theorem mpermanent_any (n : Int) (xs : List Nm) (a : Option Addr) (c : Nat) (hl : xs.length ≤ 1000000) (w : World) (hA : AS w a (nms xs)) : Calls Try.prog 17 #[.agg #[.int .i64 n, .slice a xs.length c]] w fun e w' => e = .returned (numV (perR n xs)) ∧ Below w.heap.size w w' := by
  go_enter Try.func17, Try.ntmps17
  refine wk_start ?_
  refine wk_seq ?_
  refine wk_region [1, 1, 0] rfl Kx ?_
  simp only [qy]
  refine Rgn fun g1 => ?_
  simp only [qz]
  refine Rgn fun g2 => ?_
  simp only [qz]
  refine rg_assign ?_
  simp only [qz]
  refine rg_nil (ek_next (wk_seq (wk_seq ?_)))
  refine wk_region [0, 1, 0] rfl Kx ?_
  simp only [qy]
  refine rf_loadR (n := 2) rfl rfl rfl Try.underlying24 rfl Kx (fun w hw => Kn.hd0 (Kn.tl hw)) rfl rfl ?_
  simp only [qz]
  apply rg_pureb Rx Kx
  case hargs => exact Ax
  case h => exact fun w hw => mvalid_any n xs a c hl w (hA.kn0 hw)
  case hz => exact Nz
  intro x h1
  cases x
  · (try simp only [qd, ne_eq] at h1)
    simp only [qz]
    have hv := h1
    have hcp : perR n xs = .error 20 := by (unfold perR; rw [if_neg (by rw [hv]; decide)])
    replace hcp := Lib.hid hcp
    refine rf_not rfl rfl rfl ?_
    simp only [qz]
    refine rg_nil (ek_next (wk_cond_t rfl (wk_seq ?_)))
    refine wk_region [0, 1, 0] rfl Kx ?_
    simp only [qy]
    refine rf_build (cs := fun a => #[.int .i64 0, .int .i64 0, .int .i64 0, .int .i64 0, .int .i64 0]) rfl rfl Kx ?_
    simp only [qz]
    refine rf_storeR (n := 5) rfl rfl Kx rfl rfl (UpdR.here _ _ _ Nl) Nz ?_
    simp only [qz, Nat.reduceAdd]
    refine rg_assign ?_
    simp only [qz]
    refine rg_nil (ek_next (wk_ret (ek_then_ret ?_)))
    refine ek_ret (fun w hw => ⟨rfl, _, run_results2 rfl rfl (Kn.hd0 hw) Try.underlying29 rfl Kx, ?_⟩)
    (try simp only [qz])
    exact ⟨by rw [hcp.out]; rfl, hw.below⟩
  (try simp only [qd, ne_eq] at h1)
  simp only [qz]
  have hv := h1
  obtain ⟨N, rfl, hN1, hN, hlen, hl36, hok⟩ := validB_N hv
  replace hlen := Lib.hid hlen
  have hcp : perR (N : Int) xs = perF N (fun i k => nm xs (i * N + k)) := by (unfold perR; rw [if_pos hv, Int.toNat_natCast])
  replace hcp := Lib.hid hcp
  refine rf_not rfl rfl rfl ?_
  simp only [qz]
  refine rg_nil (ek_next (wk_cond_f rfl (wk_skip (ek_next (wk_seq ?_)))))
  refine wk_region [0, 0, 0, 0, 0, 1, 0, 0, 1, 0] rfl Kx ?_
  simp only [qy]
  refine rf_field (n := 0) (j := 0) rfl rfl rfl Try.underlying24 rfl Kx rfl ?_
  simp only [qz]
  refine rf_load rfl rfl rfl Try.underlying3 rfl (fun w hw => (Kn.hd0 (Kn.tl hw)).at rfl) ?_
  simp only [qz]
  refine rf_loadR (n := 2) rfl rfl rfl Try.underlying24 rfl Kx (fun w hw => Kn.hd0 (Kn.tl hw)) rfl rfl ?_
  simp only [qz]
  refine rf_build (cs := fun a => #[cellAt (a.eval (.tmp 10)) 0, cellAt (a.eval (.tmp 10)) 1]) rfl rfl Kx ?_
  simp only [qz]
  apply rg_soft
  case hy => (intro w hw; go_simp; (try go_bits); exact Yld.mk _ _)
  simp only [qz]
  apply rg_pure Rx Kx
  case hargs => exact Ax
  case h => exact fun w hw => permanent_any N hN (fun i k => nm xs (i * N + k)) _ (fun i k hi hk => elem_ok hok hlen.out hi hk) w (at_fnv hlen.out hN (hA.kn0 hw))
  case hz => exact Nz
  simp only [qz]
  rw [← hcp.out]
  obtain ⟨v, e, hve⟩ := numV_ve (perR (N : Int) xs)
  rw [hve]
  replace hve := Lib.hid hve
  refine rf_extract rfl rfl rfl rfl ?_
  simp only [qz]
  refine rf_extract rfl rfl rfl rfl ?_
  simp only [qz]
  refine rf_storeR (n := 5) rfl rfl Kx rfl rfl (UpdR.here _ _ _ Nl) Nz ?_
  simp only [qz, Nat.reduceAdd]
  refine rg_assign ?_
  simp only [qz]
  refine rg_nil (ek_next (wk_ret ?_))
  refine ek_ret (fun w hw => ⟨rfl, _, run_results2 rfl rfl (Kn.hd0 hw) Try.underlying29 rfl Kx, ?_⟩)
  (try simp only [qz])
  exact ⟨rfl, hw.below⟩

end Go.Proofs.Ytjeijnjaleldkaa
namespace Go.Proofs.Ytjeijnjaleldkaa
set_option linter.all false
open Go.RowKit

theorem ident2_any (w : World) : Calls Try.prog 22 #[.int .i64 2] w (RetM w 2 [Nm.one, Nm.zero, Nm.zero, Nm.one] 0) := by
  have h := identity_any 2 w
  rw [show identR 2 = .ok [Nm.one, Nm.zero, Nm.zero, Nm.one] from rfl] at h
  exact h
theorem per2 : perR 2 [Nm.one, Nm.zero, Nm.zero, Nm.one] = .ok Nm.one := by kernel_rfl
theorem per2_any (a : Option Addr) (c : Nat) (w : World) (hA : AS w a (nms [Nm.one, Nm.zero, Nm.zero, Nm.one])) : Calls Try.prog 17 #[.agg #[.int .i64 2, .slice a 4 c]] w fun e w' => e = .returned (.tuple #[nmV Nm.one, .int .i64 0]) ∧ Below w.heap.size w w' := by
  have h := mpermanent_any 2 [Nm.one, Nm.zero, Nm.zero, Nm.one] a c (by decide) w hA
  rw [per2] at h
  exact h
theorem pat2_any (w : World) : Calls Try.prog 19 #[.int .i64 2, .int .i64 2] w (RetL w [[2, 0], [1, 1], [0, 2]] 0) := by
  have h := mpatterns_any 2 2 w
  rw [show patR 2 2 = [[2, 0], [1, 1], [0, 2]] from rfl, show patE 2 2 = 0 from rfl] at h
  exact h
set_option maxRecDepth 100000 in
set_option maxHeartbeats 1000000 in
theorem sane2_any  (w : World) : Calls Try.prog 16 #[] w fun e w' => e = .returned (.bool true) ∧ Below w.heap.size w w' := by
  go_enter Try.func16, Try.ntmps16
  refine wk_start ?_
  refine wk_seq ?_
  refine wk_region [0] rfl Kx ?_
  simp only [qy]
  refine rg_assign ?_
  simp only [qz]
  refine rg_nil (ek_next (wk_seq ?_))
  refine wk_region [1, 0, 0, 0, 1, 1, 0] rfl Kx ?_
  simp only [qy]
  apply rg_retM Rx Kx
  case hargs => exact Ax
  case h => exact fun w hw => ident2_any w
  case hz => exact Nz
  intro va1 vc1 u1 hO1
  simp only [qz]
  refine rg_move ?_
  simp only [qz]
  refine rf_extract rfl rfl rfl rfl ?_
  simp only [qz]
  refine rf_extract rfl rfl rfl rfl ?_
  simp only [qz]
  refine Rgn fun g2 => ?_
  simp only [qz]
  refine rf_storeR (n := 2) rfl rfl Kx rfl rfl (UpdR.here _ _ _ Nl) Nz ?_
  simp only [qz, Nat.reduceAdd]
  refine rg_assign ?_
  simp only [qz]
  refine rg_nil (ek_next (wk_seq ?_))
  refine wk_region [0, 1, 0, 0, 0, 1, 1, 0] rfl Kx ?_
  simp only [qy]
  refine rf_loadR (n := 2) rfl rfl rfl Try.underlying24 rfl Kx (fun w hw => Kn.hd0 hw) rfl rfl ?_
  simp only [qz]
  apply rg_pure Rx Kx
  case hargs => exact Ax
  case h => exact fun w hw => per2_any va1 vc1 w (OwnN.asN hO1 (hw.perm (perm_atU (l := [_]) (u := u1) (List.Perm.refl _))))
  case hz => exact Nz
  simp only [qz]
  refine rg_move ?_
  simp only [qz]
  refine rf_extract rfl rfl rfl rfl ?_
  simp only [qz]
  refine rf_extract rfl rfl rfl rfl ?_
  simp only [qz]
  refine Rgn fun g3 => ?_
  simp only [qz]
  refine rf_storeR (n := 5) rfl rfl Kx rfl rfl (UpdR.here _ _ _ Nl) Nz ?_
  simp only [qz, Nat.reduceAdd]
  refine rg_assign ?_
  simp only [qz]
  refine rg_nil (ek_next (wk_seq ?_))
  refine wk_region [1, 0, 0, 0, 0, 0] rfl Kx ?_
  simp only [qy]
  apply rg_retL Rx Kx
  case hargs => exact Ax
  case h => exact fun w hw => pat2_any w
  case hz => exact Nz
  intro va4 vc4 u4 hO4
  simp only [qz]
  refine rg_move ?_
  simp only [qz]
  refine rf_extract rfl rfl rfl rfl ?_
  simp only [qz]
  refine rf_extract rfl rfl rfl rfl ?_
  simp only [qz]
  refine rg_assign ?_
  simp only [qz]
  refine rg_assign ?_
  simp only [qz]
  refine rg_nil (ek_next (wk_seq ?_))
  refine wk_draws _ _ [(0, 0), (1, 0), (2, 0), (3, 0), (4, 0), (5, 0), (6, 0), (7, 0), (8, 0), (9, 0), (10, 0), (11, 0), (12, 1), (13, 0), (14, 0), (15, 0), (16, 0), (17, 0), (18, 0), (19, 0), (20, 0)] [] Kx Kx (fun c d v a w h => by cases d <;> exact h) ((List.Sublist.append_left (sc _ (sc _ (List.Sublist.append_left sn _))) _)) (fun e => by first | exact absurd e (by decide) | rfl) ?_
  simp only [List.map_cons, List.map_nil, List.getD_cons_zero, List.getD_cons_succ]
  refine rg_move ?_
  simp only [qz]
  refine rfb_eql rfl rfl rfl rfl ?_
  intro x h1
  obtain rfl : x = true := by (refine h1.symm.trans ?_; exact decide_eq_true Ox)
  clear h1
  simp only [qz]
  refine rg_move ?_
  simp only [qz]
  apply rg_soft_g
  case hg => rfl
  case hy => (intro w hw; go_simp; (try go_bits); exact Yld.mk _ _)
  simp only [qz]
  refine rfb_eql rfl rfl rfl rfl ?_
  intro x h2
  obtain rfl : x = true := by (refine h2.symm.trans ?_; exact decide_eq_true Ox)
  clear h2
  simp only [qz]
  refine rf_pick rfl rfl rfl ?_
  simp only [qz]
  refine rg_move ?_
  simp only [qz]
  apply rg_soft_g
  case hg => rfl
  case hy => (intro w hw; go_simp; (try go_bits); exact Yld.mk _ _)
  simp only [qz]
  refine rfb_eql rfl rfl rfl rfl ?_
  intro x h3
  obtain rfl : x = true := by (refine h3.symm.trans ?_; exact decide_eq_true Ox)
  clear h3
  simp only [qz]
  refine rf_pick rfl rfl rfl ?_
  simp only [qz]
  refine rg_move ?_
  simp only [qz]
  refine rf_loadR (n := 5) rfl rfl rfl Try.underlying29 rfl Kx (fun w hw => Kn.hd0 (Kn.tlU hw)) rfl rfl ?_
  simp only [qz]
  apply rg_pure Rx Kx
  case hargs => exact Ax
  case h => exact fun w hw => rOne_any w
  case hz => exact (fun _ h => by cases h; exact (List.Sublist.append_left (sc _ (sc _ (List.Sublist.append_left sn _))) _))
  simp only [qz]
  refine rfb_eqN _ _ rfl rfl rfl rfl ?_
  intro x h4
  cases x
  · (try simp only [qd, ne_eq] at h4)
    simp only [qz]
    exact absurd trivial h4
  (try simp only [qd, ne_eq] at h4)
  simp only [qz]
  refine rf_pick rfl rfl rfl ?_
  simp only [qz]
  refine rg_move ?_
  simp only [qz]
  apply rg_soft_g
  case hg => rfl
  case hy => (intro w hw; go_simp; (try go_bits); exact Yld.mk _ _)
  simp only [qz]
  refine rf_len rfl rfl rfl Try.underlying33 ?_
  simp only [qz]
  refine rfb_eql rfl rfl rfl rfl ?_
  intro x h5
  obtain rfl : x = true := by (refine h5.symm.trans ?_; exact decide_eq_true Ox)
  clear h5
  simp only [qz]
  refine rf_pick rfl rfl rfl ?_
  simp only [qz]
  refine rg_assign ?_
  simp only [qz]
  refine rg_nil (ek_next (wk_ret ?_))
  refine ek_ret (fun w hw => ⟨rfl, _, res_t _ rfl, ?_⟩)
  (try simp only [qz])
  first | exact ⟨rfl, hw.below⟩ | exact ⟨trivial, hw.below⟩ | exact hw.below

end Go.Proofs.Ytjeijnjaleldkaa
namespace Go.Proofs.Ytjeijnjaleldkaa
set_option linter.all false
open Go.RowKit

set_option maxRecDepth 100000 in
set_option maxHeartbeats 1000000 in
theorem rSame_eq (n : Int) (xs : List Nm) (a a' : Option Addr) (c c' : Nat) (hl : xs.length ≤ 1000000) (w : World) (hA : AS w a (nms xs)) (hB : AS w a' (nms xs)) : Calls Try.prog 26 #[.agg #[.int .i64 n, .slice a xs.length c], .agg #[.int .i64 n, .slice a' xs.length c']] w fun e w' => e = .returned (.bool true) ∧ Below w.heap.size w w' := by
  go_enter Try.func26, Try.ntmps26
  refine wk_start ?_
  refine wk_seq ?_
  refine wk_region [1, 1, 0] rfl Kx ?_
  simp only [qy]
  refine Rgn fun g1 => ?_
  simp only [qz]
  refine Rgn fun g2 => ?_
  simp only [qz]
  refine rg_assign ?_
  simp only [qz]
  refine rg_nil (ek_next (wk_seq (wk_seq ?_)))
  refine wk_region [0, 0, 0, 0, 0, 0, 0, 0, 0, 0, 0, 0, 0, 0] rfl Kx ?_
  simp only [qy]
  refine rf_field (n := 0) (j := 0) rfl rfl rfl Try.underlying24 rfl Kx rfl ?_
  simp only [qz]
  refine rf_load rfl rfl rfl Try.underlying3 rfl (fun w hw => (Kn.hd0 (Kn.tl hw)).at rfl) ?_
  simp only [qz]
  refine rf_field (n := 0) (j := 0) rfl rfl rfl Try.underlying24 rfl Kx rfl ?_
  simp only [qz]
  refine rf_load rfl rfl rfl Try.underlying3 rfl (fun w hw => (Kn.hd0 hw).at rfl) ?_
  simp only [qz]
  refine rfb_neq rfl rfl rfl rfl ?_
  intro x h1
  obtain rfl : x = false := by (refine h1.symm.trans ?_; exact decide_eq_false Ox)
  clear h1
  simp only [qz]
  refine rg_move ?_
  simp only [qz]
  refine rf_field (n := 0) (j := 1) rfl rfl rfl Try.underlying24 rfl Kx rfl ?_
  simp only [qz]
  refine rf_load rfl rfl rfl Try.underlying22 rfl (fun w hw => (Kn.hd0 (Kn.tl hw)).at rfl) ?_
  simp only [qz]
  refine rf_len rfl rfl rfl Try.underlying22 ?_
  simp only [qz]
  refine rf_field (n := 0) (j := 1) rfl rfl rfl Try.underlying24 rfl Kx rfl ?_
  simp only [qz]
  refine rf_load rfl rfl rfl Try.underlying22 rfl (fun w hw => (Kn.hd0 hw).at rfl) ?_
  simp only [qz]
  refine rf_len rfl rfl rfl Try.underlying22 ?_
  simp only [qz]
  refine rfb_neq rfl rfl rfl rfl ?_
  intro x h2
  obtain rfl : x = false := by (refine h2.symm.trans ?_; exact decide_eq_false Ox)
  clear h2
  simp only [qz]
  refine rf_pick rfl rfl rfl ?_
  simp only [qz]
  refine rg_nil (ek_next (wk_cond_f rfl (wk_skip (ek_next (wk_seq (wk_seq ?_))))))
  refine wk_region [0] rfl Kx ?_
  simp only [qy]
  refine rg_assign ?_
  simp only [qz]
  refine rg_nil (ek_next (wk_block ?_))
  refine wk_loopF [4, 5, 20, 21, 22, 23, 24, 25, 26, 27, 28, 29, 30, 31, 32, 33, 34, 35, 36, 37] (fun mz f s => ∃ (i : Nat), f 5 = .int .i64 i ∧ s = ((g2, .cells #[.int .i64 n, .slice a' xs.length c'] 24) :: ((g1, .cells #[.int .i64 n, .slice a xs.length c] 24) :: [])) ∧ mz = xs.length - i ∧ i ≤ xs.length) ((fun (i : Nat) => xs.length - i) (0)) ?_ Kx ?_
  · exact ⟨0, rfl, rfl, rfl, by omega⟩
  rintro mz f1 s ⟨i, hs1_5, rfl, hn, hd1⟩
  simp only [Act.putF, List.foldl_cons, List.foldl_nil, hs1_5, Act.put, Act.eval, q1, q2, q3, q4, q5, q6, q7, q8, q9, q10, q11, q12, q13, q14, q15, q16, q17, q18, Nat.reduceAdd, Bool.not_true, Bool.not_false]
  clear hs1_5
  refine wk_seq (wk_seq ?_)
  refine wk_region [0, 0, 0, 0, 0] rfl Kx ?_
  simp only [qy]
  refine rg_move ?_
  simp only [qz]
  refine rf_field (n := 0) (j := 1) rfl rfl rfl Try.underlying24 rfl Kx rfl ?_
  simp only [qz]
  refine rf_load rfl rfl rfl Try.underlying22 rfl (fun w hw => (Kn.hd0 (Kn.tl hw)).at rfl) ?_
  simp only [qz]
  refine rf_len rfl rfl rfl Try.underlying22 ?_
  simp only [qz]
  refine rfb_lss rfl rfl rfl rfl ?_
  intro x h3
  cases x
  · (try simp only [qd, ne_eq] at h3)
    simp only [qz]
    refine rg_nil (ek_next (wk_cond_f rfl (wk_exit (ek_then_exit (ek_then_exit (ek_block_exit (ek_next (wk_seq ?_))))))))
    refine wk_region [0] rfl Kx ?_
    simp only [qy]
    refine rg_assign ?_
    simp only [qz]
    refine rg_nil (ek_next (wk_ret ?_))
    refine ek_ret (fun w hw => ⟨rfl, _, res_t _ rfl, ?_⟩)
    (try simp only [qz])
    first | exact ⟨rfl, hw.below⟩ | exact ⟨trivial, hw.below⟩ | exact hw.below
  (try simp only [qd, ne_eq] at h3)
  simp only [qz]
  refine rg_nil (ek_next (wk_cond_t rfl (wk_skip (ek_next (wk_seq (wk_block (wk_seq ?_)))))))
  obtain ⟨b, off, ha, hlt, hcell⟩ := AS.openN hA Ox
  obtain ⟨b', off', ha', hlt', hcell'⟩ := AS.openN hB Ox
  subst ha ha'
  refine wk_draws _ _ [(0, 0), (1, 0), (2, 0), (3, 0), (4, 0), (5, 0), (6, 0), (7, 0), (8, 0), (9, 0), (10, 0)] [] Kx Kx (fun c d v a w h => by cases d <;> exact h) ((sc _ (sc _ sn))) (fun e => by first | exact absurd e (by decide) | rfl) ?_
  simp only [List.map_cons, List.map_nil, List.getD_cons_zero, List.getD_cons_succ]
  refine rf_field (n := 0) (j := 1) rfl rfl rfl Try.underlying24 rfl Kx rfl ?_
  simp only [qz]
  refine rf_load rfl rfl rfl Try.underlying22 rfl (fun w hw => (Kn.hd0 (Kn.tl hw)).at rfl) ?_
  simp only [qz]
  refine rg_move ?_
  simp only [qz]
  refine rf_indexS (n := i) (sz := 5) (j := off + i * 5) rfl rfl rfl rfl Try.underlying22 Kx Ox Ox rfl ?_
  simp only [qz]
  refine rf_loadC (n := 5) (vs := [.int .i64 (nm xs i).a, .int .i64 (nm xs i).b, .int .i64 (nm xs i).c, .int .i64 (nm xs i).d, .int .i64 (nm xs i).k]) rfl rfl rfl Try.underlying29 rfl Kx rfl (fun w hw => atN_range ((hcell i Ox).kn hw hlt (by simp))) ?_
  simp only [qz]
  refine rf_field (n := 0) (j := 1) rfl rfl rfl Try.underlying24 rfl Kx rfl ?_
  simp only [qz]
  refine rf_load rfl rfl rfl Try.underlying22 rfl (fun w hw => (Kn.hd0 hw).at rfl) ?_
  simp only [qz]
  refine rg_move ?_
  simp only [qz]
  refine rf_indexS (n := i) (sz := 5) (j := off' + i * 5) rfl rfl rfl rfl Try.underlying22 Kx Ox Ox rfl ?_
  simp only [qz]
  refine rf_loadC (n := 5) (vs := [.int .i64 (nm xs i).a, .int .i64 (nm xs i).b, .int .i64 (nm xs i).c, .int .i64 (nm xs i).d, .int .i64 (nm xs i).k]) rfl rfl rfl Try.underlying29 rfl Kx rfl (fun w hw => atN_range ((hcell' i Ox).kn hw hlt' (by simp))) ?_
  simp only [qz]
  refine rfb_neN (nm xs i) (nm xs i) rfl rfl rfl rfl ?_
  intro x h4
  cases x
  · (try simp only [qd, ne_eq] at h4)
    simp only [qz]
    refine rg_nil (ek_next (wk_cond_f rfl (wk_skip (ek_block (ek_next ?_)))))
    refine wk_region [0, 0, 0] rfl Kx ?_
    simp only [qy]
    refine rg_move ?_
    simp only [qz]
    refine rf_add rfl rfl rfl rfl (wrap_ok Ox Ox) ?_
    simp only [qz]
    refine rg_assign ?_
    simp only [qz]
    refine rg_nil ?_
    refine ek_roundF (xs.length - (i + 1)) Ox Kx ?_
    exact ⟨i + 1, rfl, by rfl, by rfl, Ox⟩
  (try simp only [qd, ne_eq] at h4)
  simp only [qz]
  simp at h4

set_option maxRecDepth 100000 in
set_option maxHeartbeats 1000000 in
theorem wide_any (n : Int) (xs : List Nm) (a : Option Addr) (c : Nat) (w : World) : Calls Try.prog 15 #[.agg #[.int .i64 n, .slice a xs.length c]] w fun e w' => e = .returned (.bool (decide ((50 : Int) < (xs.length : Int)))) ∧ Below w.heap.size w w' := by
  go_enter Try.func15, Try.ntmps15
  refine wk_start ?_
  refine wk_seq ?_
  refine wk_region [1, 0] rfl Kx ?_
  simp only [qy]
  refine Rgn fun g1 => ?_
  simp only [qz]
  refine rg_assign ?_
  simp only [qz]
  refine rg_nil (ek_next (wk_seq ?_))
  refine wk_region [0, 0, 0, 0, 0] rfl Kx ?_
  simp only [qy]
  refine rf_field (n := 0) (j := 1) rfl rfl rfl Try.underlying24 rfl Kx rfl ?_
  simp only [qz]
  refine rf_load rfl rfl rfl Try.underlying22 rfl (fun w hw => (Kn.hd0 hw).at rfl) ?_
  simp only [qz]
  refine rf_len rfl rfl rfl Try.underlying22 ?_
  simp only [qz]
  refine rf_gtr rfl rfl rfl rfl rfl ?_
  simp only [qz]
  refine rg_assign ?_
  simp only [qz]
  refine rg_nil (ek_next (wk_ret ?_))
  refine ek_ret (fun w hw => ⟨rfl, _, res_t _ rfl, ?_⟩)
  (try simp only [qz])
  first | exact ⟨rfl, hw.below⟩ | exact ⟨trivial, hw.below⟩ | exact hw.below

end Go.Proofs.Ytjeijnjaleldkaa
namespace Go.Proofs.Ytjeijnjaleldkaa
set_option linter.all false
open Go.RowKit

set_option maxRecDepth 100000 in
set_option maxHeartbeats 1000000 in
theorem matrixLight_any (n : Int) (xs vs : List Nm) (a a' : Option Addr) (c c' : Nat) (w : World) (hA : AS w a (nms xs)) (hB : AS w a' (nms vs)) : Calls Try.prog 13 #[.agg #[.int .i64 n, .slice a xs.length c], .slice a' vs.length c'] w fun e w' => e = .returned (.bool true) ∧ Below w.heap.size w w' := by
  go_enter Try.func13, Try.ntmps13
  refine wk_start ?_
  refine wk_seq ?_
  refine wk_region [1, 0] rfl Kx ?_
  simp only [qy]
  refine Rgn fun g1 => ?_
  simp only [qz]
  refine rg_assign ?_
  simp only [qz]
  refine rg_nil (ek_next (wk_seq (wk_seq ?_)))
  refine wk_region [0, 1, 0, 0, 0, 0, 0, 0, 0, 1, 0, 0, 0, 0, 1, 0, 0] rfl Kx ?_
  simp only [qy]
  refine rf_loadR (n := 2) rfl rfl rfl Try.underlying24 rfl Kx (fun w hw => Kn.hd0 hw) rfl rfl ?_
  simp only [qz]
  apply rg_pureb Rx Kx
  case hargs => exact Ax
  case h => exact fun w hw => wide_any n xs a c w
  case hz => exact Nz
  intro x h1
  cases x
  · (try simp only [qd, ne_eq] at h1)
    simp only [qz]
    have hlx : xs.length ≤ 1000000 := by omega
    refine rg_move ?_
    simp only [qz]
    apply rg_soft_g
    case hg => rfl
    case hy => (intro w hw; go_simp; (try go_bits); exact Yld.mk _ _)
    simp only [qz]
    refine rf_len rfl rfl rfl Try.underlying22 ?_
    simp only [qz]
    refine rfb_gtr rfl rfl rfl rfl ?_
    intro x h2
    cases x
    · (try simp only [qd, ne_eq] at h2)
      simp only [qz]
      have hlv : vs.length ≤ 1000000 := by omega
      refine rf_pick rfl rfl rfl ?_
      simp only [qz]
      refine rg_move ?_
      simp only [qz]
      refine rf_loadR (n := 2) rfl rfl rfl Try.underlying24 rfl Kx (fun w hw => Kn.hd0 hw) rfl rfl ?_
      simp only [qz]
      apply rg_pureb Rx Kx
      case hargs => exact Ax
      case h => exact fun w hw => rmvalid_any n xs a c hlx w (hA.kn0 hw)
      case hz => exact Nz
      intro x h3
      cases x
      · (try simp only [qd, ne_eq] at h3)
        simp only [qz]
        refine rf_not rfl rfl rfl ?_
        simp only [qz]
        refine rf_pick rfl rfl rfl ?_
        simp only [qz]
        refine rg_move ?_
        simp only [qz]
        refine rg_skip Rx ?_
        simp only [qz]
        refine rg_skip_h Rx Nz ?_
        simp only [qz]
        refine rg_skip Rx ?_
        simp only [qz]
        refine rf_pick rfl rfl rfl ?_
        simp only [qz]
        refine rg_nil (ek_next (wk_cond_t rfl (wk_seq ?_)))
        refine wk_region [1, 0] rfl Kx ?_
        simp only [qy]
        apply rg_pure Rx Kx
        case hargs => exact Ax
        case h => exact fun w hw => sane2_any w
        case hz => exact Nz
        simp only [qz]
        refine rg_assign ?_
        simp only [qz]
        refine rg_nil (ek_next (wk_ret (ek_then_ret ?_)))
        refine ek_ret (fun w hw => ⟨rfl, _, res_t _ rfl, ?_⟩)
        (try simp only [qz])
        first | exact ⟨rfl, hw.below⟩ | exact ⟨trivial, hw.below⟩ | exact hw.below
      (try simp only [qd, ne_eq] at h3)
      simp only [qz]
      have hv := h3
      obtain ⟨N, rfl, hN1, hN, hlx2, hlx36, hox0⟩ := validB_true hv
      clear hlx2 hox0
      refine rf_not rfl rfl rfl ?_
      simp only [qz]
      refine rf_pick rfl rfl rfl ?_
      simp only [qz]
      refine rg_move ?_
      simp only [qz]
      refine rf_loadR (n := 2) rfl rfl rfl Try.underlying24 rfl Kx (fun w hw => Kn.hd0 hw) rfl rfl ?_
      simp only [qz]
      apply rg_pureb Rx Kx
      case hargs => exact Ax
      case h => exact fun w hw => rUn_any N xs a c hv w (hA.kn0 hw)
      case hz => exact Nz
      intro x h4
      cases x
      · (try simp only [qd, ne_eq] at h4)
        simp only [qz]
        refine rf_not rfl rfl rfl ?_
        simp only [qz]
        refine rf_pick rfl rfl rfl ?_
        simp only [qz]
        refine rg_nil (ek_next (wk_cond_t rfl (wk_seq ?_)))
        refine wk_region [1, 0] rfl Kx ?_
        simp only [qy]
        apply rg_pure Rx Kx
        case hargs => exact Ax
        case h => exact fun w hw => sane2_any w
        case hz => exact Nz
        simp only [qz]
        refine rg_assign ?_
        simp only [qz]
        refine rg_nil (ek_next (wk_ret (ek_then_ret ?_)))
        refine ek_ret (fun w hw => ⟨rfl, _, res_t _ rfl, ?_⟩)
        (try simp only [qz])
        first | exact ⟨rfl, hw.below⟩ | exact ⟨trivial, hw.below⟩ | exact hw.below
      (try simp only [qd, ne_eq] at h4)
      simp only [qz]
      have hu := h4
      refine rf_not rfl rfl rfl ?_
      simp only [qz]
      refine rf_pick rfl rfl rfl ?_
      simp only [qz]
      refine rg_nil (ek_next (wk_cond_f rfl (wk_skip (ek_next (wk_seq ?_)))))
      refine wk_region [0, 0, 1, 0, 0, 0, 0, 0] rfl Kx ?_
      simp only [qy]
      refine rf_loadR (n := 2) rfl rfl rfl Try.underlying24 rfl Kx (fun w hw => Kn.hd0 hw) rfl rfl ?_
      simp only [qz]
      refine rg_move ?_
      simp only [qz]
      apply rg_retV Rx Kx
      case hargs => exact Ax
      case h => exact fun w hw => mapply_any N xs vs a a' c c' hlx hlv w (hA.kn0 hw) (hB.kn0 hw)
      case hz => exact Nz
      intro va2 vc2 u2 hO2
      simp only [qz]
      refine rg_move ?_
      simp only [qz]
      refine rf_extract rfl rfl rfl rfl ?_
      simp only [qz]
      refine rf_extract rfl rfl rfl rfl ?_
      simp only [qz]
      refine rg_assign ?_
      simp only [qz]
      refine rg_assign ?_
      simp only [qz]
      refine rg_nil (ek_next ?_)
      refine wk_cutF [4, 7, 8, 9, 10, 44, 45, 46, 47, 48, 49, 50, 51, 52, 53, 54, 55, 56, 57, 58, 59, 60, 61, 62, 63, 64, 65, 66] (fun f s => s = (u2 ++ ((g1, .cells #[.int .i64 N, .slice a xs.length c] 24) :: []))) ?_ ?_
      · refine wk_seq ?_
        refine wk_region [0, 0] rfl Kx ?_
        simp only [qy]
        refine rg_move ?_
        simp only [qz]
        refine rfb_eql rfl rfl rfl rfl ?_
        intro x h5
        cases x
        · (try simp only [qd, ne_eq] at h5)
          simp only [qz]
          refine rg_nil (ek_next (wk_cond_f rfl (wk_skip ?_)))
          refine ek_midF Kx ?_
          exact Rx
        (try simp only [qd, ne_eq] at h5)
        simp only [qz]
        have hap : rC (appM N xs vs) = 0 := by simpa using h5
        refine rg_nil (ek_next (wk_cond_t rfl (wk_seq ?_)))
        refine wk_region [0, 1, 0, 0, 0, 1, 1, 0] rfl Kx ?_
        simp only [qy]
        refine rg_move ?_
        simp only [qz]
        apply rg_pure Rx Kx
        case hargs => exact Ax
        case h => exact fun w hw => mlength_any vs a' c' hlv w (hB.kn0 hw)
        case hz => exact Nz
        simp only [qz]
        obtain ⟨z1, e1, hve1, hok1⟩ := numV_ve3 (r := lenM vs) (fun c h => lenM_code h)
        rw [hve1]
        clear hve1
        refine rg_move ?_
        simp only [qz]
        refine rf_extract rfl rfl rfl rfl ?_
        simp only [qz]
        refine rf_extract rfl rfl rfl rfl ?_
        simp only [qz]
        refine Rgn fun g3 => ?_
        simp only [qz]
        refine rf_storeR (n := 5) rfl rfl Kx rfl rfl (UpdR.here _ _ _ Nl) Nz ?_
        simp only [qz, Nat.reduceAdd]
        refine rg_assign ?_
        simp only [qz]
        refine rg_nil (ek_next (wk_seq ?_))
        refine wk_region [0, 1, 0, 0, 0, 1, 1, 0] rfl Kx ?_
        simp only [qy]
        refine rg_move ?_
        simp only [qz]
        apply rg_pure Rx Kx
        case hargs => exact Ax
        case h => exact fun w hw => mlength_any (rL (appM N xs vs)) va2 vc2 (by have := appM_len9 N xs vs; omega) w (OwnN.asN hO2 (hw.perm (perm_atU (l := [_]) (u := u2) (List.Perm.refl _))))
        case hz => exact Nz
        simp only [qz]
        obtain ⟨z2, e2, hve2, hok2⟩ := numV_ve3 (r := lenM (rL (appM N xs vs))) (fun c h => lenM_code h)
        rw [hve2]
        clear hve2
        refine rg_move ?_
        simp only [qz]
        refine rf_extract rfl rfl rfl rfl ?_
        simp only [qz]
        refine rf_extract rfl rfl rfl rfl ?_
        simp only [qz]
        refine Rgn fun g4 => ?_
        simp only [qz]
        refine rf_storeR (n := 5) rfl rfl Kx rfl rfl (UpdR.here _ _ _ Nl) Nz ?_
        simp only [qz, Nat.reduceAdd]
        refine rg_assign ?_
        simp only [qz]
        refine rg_nil (ek_next (wk_seq ?_))
        refine wk_region [0, 0, 0, 0, 0, 0, 0, 0, 0, 0, 0] rfl Kx ?_
        simp only [qy]
        refine rg_move ?_
        simp only [qz]
        refine rfb_eql rfl rfl rfl rfl ?_
        intro x h6
        cases x
        · (try simp only [qd, ne_eq] at h6)
          simp only [qz]
          refine rg_move ?_
          simp only [qz]
          refine rg_skip Rx ?_
          simp only [qz]
          refine rg_skip Rx ?_
          simp only [qz]
          refine rf_pick rfl rfl rfl ?_
          simp only [qz]
          refine rg_move ?_
          simp only [qz]
          refine rg_skip Rx ?_
          simp only [qz]
          refine rg_skip Rx ?_
          simp only [qz]
          refine rg_skip Rx ?_
          simp only [qz]
          refine rf_pick rfl rfl rfl ?_
          simp only [qz]
          refine rg_nil (ek_next (wk_cond_f rfl (wk_skip ?_)))
          refine ek_sub (sk _ (sk _ (List.Sublist.append_left (sc _ sn) _))) ?_
          refine ek_midF Kx ?_
          exact Rx
        (try simp only [qd, ne_eq] at h6)
        simp only [qz]
        refine rg_move ?_
        simp only [qz]
        apply rg_soft_g
        case hg => rfl
        case hy => (intro w hw; go_simp; (try go_bits); exact Yld.mk _ _)
        simp only [qz]
        refine rfb_eql rfl rfl rfl rfl ?_
        intro x h7
        cases x
        · (try simp only [qd, ne_eq] at h7)
          simp only [qz]
          refine rf_pick rfl rfl rfl ?_
          simp only [qz]
          refine rg_move ?_
          simp only [qz]
          refine rg_skip Rx ?_
          simp only [qz]
          refine rg_skip Rx ?_
          simp only [qz]
          refine rg_skip Rx ?_
          simp only [qz]
          refine rf_pick rfl rfl rfl ?_
          simp only [qz]
          refine rg_nil (ek_next (wk_cond_f rfl (wk_skip ?_)))
          refine ek_sub (sk _ (sk _ (List.Sublist.append_left (sc _ sn) _))) ?_
          refine ek_midF Kx ?_
          exact Rx
        (try simp only [qd, ne_eq] at h7)
        simp only [qz]
        have hz12 : z1 = z2 := li_len hv hu hap (hok1 (by simpa using h6)) (hok2 (by simpa using h7))
        refine rf_pick rfl rfl rfl ?_
        simp only [qz]
        refine rg_move ?_
        simp only [qz]
        refine rf_loadR (n := 5) rfl rfl rfl Try.underlying29 rfl Kx (fun w hw => Kn.hd0 (Kn.tl hw)) rfl rfl ?_
        simp only [qz]
        refine rf_loadR (n := 5) rfl rfl rfl Try.underlying29 rfl Kx (fun w hw => Kn.hd0 hw) rfl rfl ?_
        simp only [qz]
        refine rfb_neN (z1) (z2) rfl rfl rfl rfl ?_
        intro x h8
        cases x
        · (try simp only [qd, ne_eq] at h8)
          simp only [qz]
          refine rf_pick rfl rfl rfl ?_
          simp only [qz]
          refine rg_nil (ek_next (wk_cond_f rfl (wk_skip ?_)))
          refine ek_sub (sk _ (sk _ (List.Sublist.append_left (sc _ sn) _))) ?_
          refine ek_midF Kx ?_
          exact Rx
        (try simp only [qd, ne_eq] at h8)
        simp only [qz]
        simp [hz12] at h8
      rintro f1 s rfl
      simp only [Act.putF, List.foldl_cons, List.foldl_nil, Act.put, Act.eval, q1, q2, q3, q4, q5, q6, q7, q8, q9, q10, q11, q12, q13, q14, q15, q16, q17, q18, Nat.reduceAdd, Bool.not_true, Bool.not_false]
      refine wk_seq ?_
      refine wk_region [0, 1, 0, 0, 0, 1, 1, 0] rfl Kx ?_
      simp only [qy]
      refine rf_loadR (n := 2) rfl rfl rfl Try.underlying24 rfl Kx (fun w hw => Kn.hd0 (Kn.tlU hw)) rfl rfl ?_
      simp only [qz]
      rcases li_pow hv with hl | ⟨l, hl, hvl, htl⟩
      · replace hl := Lib.hid hl
        apply (rg_retM (n := 0) (zs := []) (c := 4)) Rx Kx
        case hargs => exact Ax
        case h => exact fun w hw => by have := mpowers_any N xs a c hlx w (hA.kn0 hw); rw [hl.out] at this; exact this
        case hz => exact Nz
        intro va5 vc5 u5 hO5
        simp only [qz]
        refine rg_move ?_
        simp only [qz]
        refine rf_extract rfl rfl rfl rfl ?_
        simp only [qz]
        refine rf_extract rfl rfl rfl rfl ?_
        simp only [qz]
        refine Rgn fun g6 => ?_
        simp only [qz]
        refine rf_storeR (n := 2) rfl rfl Kx rfl rfl (UpdR.here _ _ _ Nl) Nz ?_
        simp only [qz, Nat.reduceAdd]
        refine rg_assign ?_
        simp only [qz]
        refine rg_nil (ek_next (wk_seq (wk_seq ?_)))
        refine wk_region [0, 0] rfl Kx ?_
        simp only [qy]
        refine rg_move ?_
        simp only [qz]
        refine rf_neq (b := true) rfl rfl rfl rfl (by decide) ?_
        simp only [qz]
        refine rg_nil (ek_next (wk_cond_t rfl (wk_seq ?_)))
        refine wk_region [0, 0, 0, 1, 0, 0] rfl Kx ?_
        simp only [qy]
        refine rg_move ?_
        simp only [qz]
        refine rf_eql (b := true) rfl rfl rfl rfl (by decide) ?_
        simp only [qz]
        refine rg_move ?_
        simp only [qz]
        apply rg_pure Rx Kx
        case hargs => exact Ax
        case h => exact fun w hw => sane2_any w
        case hz => exact Nz
        simp only [qz]
        refine rf_pick rfl rfl rfl ?_
        simp only [qz]
        refine rg_assign ?_
        simp only [qz]
        refine rg_nil (ek_next (wk_ret (ek_then_ret ?_)))
        refine ek_ret (fun w hw => ⟨rfl, _, res_t _ rfl, ?_⟩)
        (try simp only [qz])
        first | exact ⟨rfl, hw.below⟩ | exact ⟨trivial, hw.below⟩ | exact hw.below
      replace hl := Lib.hid hl
      obtain ⟨hll, hll36, hol⟩ : l.length = N * N ∧ l.length ≤ 36 ∧ allOk l = true := by (obtain ⟨N2, eN2, -, -, hq4, hq5, hq6⟩ := validB_true hvl; obtain rfl : N2 = N := Ox; exact ⟨hq4, hq5, hq6⟩)
      replace hll := Lib.hid hll
      have hli := Lib.hid (fun i (hi : i < N) => li_row hv hu hvl htl hi)
      clear htl
      apply (rg_retM (n := N) (zs := l) (c := 0)) Rx Kx
      case hargs => exact Ax
      case h => exact fun w hw => by have := mpowers_any N xs a c hlx w (hA.kn0 hw); rw [hl.out] at this; exact this
      case hz => exact Nz
      intro va7 vc7 u7 hO7
      simp only [qz]
      refine rg_move ?_
      simp only [qz]
      refine rf_extract rfl rfl rfl rfl ?_
      simp only [qz]
      refine rf_extract rfl rfl rfl rfl ?_
      simp only [qz]
      refine Rgn fun g8 => ?_
      simp only [qz]
      refine rf_storeR (n := 2) rfl rfl Kx rfl rfl (UpdR.here _ _ _ Nl) Nz ?_
      simp only [qz, Nat.reduceAdd]
      refine rg_assign ?_
      simp only [qz]
      refine rg_nil (ek_next (wk_seq (wk_seq ?_)))
      refine wk_region [0, 0] rfl Kx ?_
      simp only [qy]
      refine rg_move ?_
      simp only [qz]
      refine rf_neq (b := false) rfl rfl rfl rfl (by decide) ?_
      simp only [qz]
      refine rg_nil (ek_next (wk_cond_f rfl (wk_skip (ek_next (wk_seq (wk_seq ?_))))))
      refine wk_region [0, 0, 0, 0, 0, 0, 0, 1, 0, 0] rfl Kx ?_
      simp only [qy]
      refine rf_field (n := 0) (j := 0) rfl rfl rfl Try.underlying24 rfl Kx rfl ?_
      simp only [qz]
      refine rf_load rfl rfl rfl Try.underlying3 rfl (fun w hw => (Kn.hd0 hw).at rfl) ?_
      simp only [qz]
      refine rf_field (n := 0) (j := 0) rfl rfl rfl Try.underlying24 rfl Kx rfl ?_
      simp only [qz]
      refine rf_load rfl rfl rfl Try.underlying3 rfl (fun w hw => (Kn.hd0 (Kn.tlU (Kn.tlU (Kn.tl hw)))).at rfl) ?_
      simp only [qz]
      refine rfb_neq rfl rfl rfl rfl ?_
      intro x h9
      obtain rfl : x = false := by (refine h9.symm.trans ?_; exact decide_eq_false Ox)
      clear h9
      simp only [qz]
      refine rg_move ?_
      simp only [qz]
      refine rf_loadR (n := 2) rfl rfl rfl Try.underlying24 rfl Kx (fun w hw => Kn.hd0 hw) rfl rfl ?_
      simp only [qz]
      apply rg_pure Rx Kx
      case hargs => exact Ax
      case h => exact fun w hw => by have := rmvalid_any N l va7 vc7 Ox w (OwnN.asN hO7 (hw.perm (perm_atU (l := [_]) (u := u7) (List.Perm.refl _)))); rw [hvl] at this; exact this
      case hz => exact Nz
      simp only [qz]
      refine rf_not rfl rfl rfl ?_
      simp only [qz]
      refine rf_pick rfl rfl rfl ?_
      simp only [qz]
      refine rg_nil (ek_next (wk_cond_f rfl (wk_skip (ek_next (wk_seq (wk_seq ?_))))))
      refine wk_region [0] rfl Kx ?_
      simp only [qy]
      refine rg_assign ?_
      simp only [qz]
      refine rg_nil (ek_next (wk_block ?_))
      refine wk_loopF [4, 12, 13, 14, 15, 16, 17, 18, 19, 89, 90, 91, 92, 93, 94, 95, 96, 97, 98, 99, 100, 101, 102, 103, 104, 105, 106, 107, 108, 109, 110, 111, 112, 113, 114, 115, 116, 117, 118, 119, 120, 121, 122, 123, 124, 125, 126, 127, 128, 129, 130, 131, 132, 133, 134, 135, 136, 137, 138, 139, 140] (fun mz f s => ∃ (i : Nat), f 12 = .int .i64 i ∧ s = ((g8, .cells #[.int .i64 N, .slice va7 l.length vc7] 24) :: (u7 ++ (u2 ++ ((g1, .cells #[.int .i64 N, .slice a xs.length c] 24) :: [])))) ∧ mz = N - i ∧ i ≤ N) ((fun (i : Nat) => N - i) (0)) ?_ Kx ?_
      · exact ⟨0, rfl, rfl, rfl, by omega⟩
      rintro mz f2 s ⟨i, hs2_12, rfl, hn, hd1⟩
      simp only [Act.putF, List.foldl_cons, List.foldl_nil, hs2_12, Act.put, Act.eval, q1, q2, q3, q4, q5, q6, q7, q8, q9, q10, q11, q12, q13, q14, q15, q16, q17, q18, Nat.reduceAdd, Bool.not_true, Bool.not_false]
      clear hs2_12
      refine wk_seq (wk_seq ?_)
      refine wk_region [0, 0, 0, 0] rfl Kx ?_
      simp only [qy]
      refine rg_move ?_
      simp only [qz]
      refine rf_field (n := 0) (j := 0) rfl rfl rfl Try.underlying24 rfl Kx rfl ?_
      simp only [qz]
      refine rf_load rfl rfl rfl Try.underlying3 rfl (fun w hw => (Kn.hd0 (Kn.tlU (Kn.tlU (Kn.tl hw)))).at rfl) ?_
      simp only [qz]
      refine rfb_lss rfl rfl rfl rfl ?_
      intro x h10
      cases x
      · (try simp only [qd, ne_eq] at h10)
        simp only [qz]
        refine rg_nil (ek_next (wk_cond_f rfl (wk_exit (ek_then_exit (ek_then_exit (ek_block_exit (ek_next (wk_seq ?_))))))))
        refine wk_region [1, 0] rfl Kx ?_
        simp only [qy]
        apply rg_pure Rx Kx
        case hargs => exact Ax
        case h => exact fun w hw => sane2_any w
        case hz => exact Nz
        simp only [qz]
        refine rg_assign ?_
        simp only [qz]
        refine rg_nil (ek_next (wk_ret ?_))
        refine ek_ret (fun w hw => ⟨rfl, _, res_t _ rfl, ?_⟩)
        (try simp only [qz])
        first | exact ⟨rfl, hw.below⟩ | exact ⟨trivial, hw.below⟩ | exact hw.below
      (try simp only [qd, ne_eq] at h10)
      simp only [qz]
      refine rg_nil (ek_next (wk_cond_t rfl (wk_skip (ek_next (wk_seq (wk_block (wk_seq ?_)))))))
      refine wk_region [1, 1] rfl Kx ?_
      simp only [qy]
      refine Rgn fun g9 => ?_
      simp only [qz]
      refine Rgn fun g10 => ?_
      simp only [qz]
      refine rg_nil (ek_next (wk_seq (wk_seq ?_)))
      rw [wd_zero9]
      refine wk_region [0] rfl Kx ?_
      simp only [qy]
      refine rg_assign ?_
      simp only [qz]
      refine rg_nil (ek_next (wk_block ?_))
      refine wk_loopF [15, 95, 96, 97, 98, 99, 100, 101, 102, 103, 104, 105, 106, 107, 108, 109, 110, 111, 112, 113, 114] (fun mz f s => ∃ (k : Nat) (y z : Nm) (ta0 ta1 ta2 ta3 : Option Addr) (tc0 tc1 tc2 tc3 : Nat) (tb0 tb1 tb2 tb3 : Option Addr) (td0 td1 td2 td3 : Nat) (uy uz : List Blk), f 15 = .int .i64 k ∧ s = (uy ++ (uz ++ ((g10, .cells #[.bool (decide (z.a < 0)), .slice tb0 (digs z.a.natAbs).length td0, .bool (decide (z.b < 0)), .slice tb1 (digs z.b.natAbs).length td1, .bool (decide (z.c < 0)), .slice tb2 (digs z.c.natAbs).length td2, .bool (decide (z.d < 0)), .slice tb3 (digs z.d.natAbs).length td3, .int .i64 z.k] 73) :: ((g9, .cells #[.bool (decide (y.a < 0)), .slice ta0 (digs y.a.natAbs).length tc0, .bool (decide (y.b < 0)), .slice ta1 (digs y.b.natAbs).length tc1, .bool (decide (y.c < 0)), .slice ta2 (digs y.c.natAbs).length tc2, .bool (decide (y.d < 0)), .slice ta3 (digs y.d.natAbs).length tc3, .int .i64 y.k] 73) :: ((g8, .cells #[.int .i64 N, .slice va7 l.length vc7] 24) :: (u7 ++ (u2 ++ ((g1, .cells #[.int .i64 N, .slice a xs.length c] 24) :: [])))))))) ∧ mz = N - k ∧ k ≤ N ∧ Hid (psum (fun j => nm l (i * N + j)) k = y) ∧ Hid (psum (fun j => nm l (j * N + i)) k = z) ∧ SK4 w uy y (.slice ta0 (digs y.a.natAbs).length tc0) (.slice ta1 (digs y.b.natAbs).length tc1) (.slice ta2 (digs y.c.natAbs).length tc2) (.slice ta3 (digs y.d.natAbs).length tc3) ∧ SK4 w uz z (.slice tb0 (digs z.a.natAbs).length td0) (.slice tb1 (digs z.b.natAbs).length td1) (.slice tb2 (digs z.c.natAbs).length td2) (.slice tb3 (digs z.d.natAbs).length td3)) ((fun (k : Nat) (y z : Nm) (ta0 ta1 ta2 ta3 : Option Addr) (tc0 tc1 tc2 tc3 : Nat) (tb0 tb1 tb2 tb3 : Option Addr) (td0 td1 td2 td3 : Nat) (uy uz : List Blk) => N - k) (0) (Nm.zero) (Nm.zero) (none) (none) (none) (none) (0) (0) (0) (0) (none) (none) (none) (none) (0) (0) (0) (0) ([]) ([])) ?_ Kx ?_
      · exact ⟨0, Nm.zero, Nm.zero, none, none, none, none, 0, 0, 0, 0, none, none, none, none, 0, 0, 0, 0, [], [], rfl, rfl, rfl, by omega, Lib.hid rfl, Lib.hid rfl, sk4_zero, sk4_zero⟩
      rintro mz f3 s ⟨k, y, z, ta0, ta1, ta2, ta3, tc0, tc1, tc2, tc3, tb0, tb1, tb2, tb3, td0, td1, td2, td3, uy, uz, hs3_15, rfl, hn, hf1, hf2, hf3, hf4, hf5⟩
      simp only [Act.putF, List.foldl_cons, List.foldl_nil, hs3_15, Act.put, Act.eval, q1, q2, q3, q4, q5, q6, q7, q8, q9, q10, q11, q12, q13, q14, q15, q16, q17, q18, Nat.reduceAdd, Bool.not_true, Bool.not_false]
      clear hs3_15
      have hsy0 := hf2
      have hsz0 := hf3
      have hsy := hf4
      have hsz := hf5
      clear hf2 hf3 hf4 hf5
      refine wk_seq (wk_seq ?_)
      refine wk_region [0, 0, 0, 0] rfl Kx ?_
      simp only [qy]
      refine rg_move ?_
      simp only [qz]
      refine rf_field (n := 0) (j := 0) rfl rfl rfl Try.underlying24 rfl Kx rfl ?_
      simp only [qz]
      refine rf_load rfl rfl rfl Try.underlying3 rfl (fun w hw => (Kn.hd0 (Kn.tlU (Kn.tlU (Kn.tl (Kn.tl (Kn.tl (Kn.tlU (Kn.tlU hw)))))))).at rfl) ?_
      simp only [qz]
      refine rfb_lss rfl rfl rfl rfl ?_
      intro x h11
      cases x
      · (try simp only [qd, ne_eq] at h11)
        simp only [qz]
        refine rg_nil (ek_next (wk_cond_f rfl (wk_exit (ek_then_exit (ek_then_exit (ek_block_exit (ek_next (wk_seq ?_))))))))
        obtain rfl : N = k := by omega
        have hwy := psum_W (f := fun j => nm l (i * N + j)) (fun _ => nm_okA hol _) N Ox
        rw [hsy0.out] at hwy
        have hny : wnum y = (Nm.one, true) := by (rw [← hsy0.out]; exact (hli.out i Ox).1)
        have cny := fun w hs => wnum_any y (.slice ta0 (digs y.a.natAbs).length tc0) (.slice ta1 (digs y.b.natAbs).length tc1) (.slice ta2 (digs y.c.natAbs).length tc2) (.slice ta3 (digs y.d.natAbs).length tc3) (Nm.fit_mono hwy.1 (by have := Fb_le (n := N) Ox; have := Fb_pos N; omega)) hwy.2.1 Ox w hs
        rw [hny] at cny
        replace cny := Lib.hid cny
        clear hny
        have hwz := psum_W (f := fun j => nm l (j * N + i)) (fun _ => nm_okA hol _) N Ox
        rw [hsz0.out] at hwz
        have hnz : wnum z = (Nm.one, true) := by (rw [← hsz0.out]; exact (hli.out i Ox).2)
        have cnz := fun w hs => wnum_any z (.slice tb0 (digs z.a.natAbs).length td0) (.slice tb1 (digs z.b.natAbs).length td1) (.slice tb2 (digs z.c.natAbs).length td2) (.slice tb3 (digs z.d.natAbs).length td3) (Nm.fit_mono hwz.1 (by have := Fb_le (n := N) Ox; have := Fb_pos N; omega)) hwz.2.1 Ox w hs
        rw [hnz] at cnz
        replace cnz := Lib.hid cnz
        clear hnz
        refine wk_region [0, 1, 0, 0, 0, 1, 1, 0] rfl Kx ?_
        simp only [qy]
        refine rf_loadR (n := 9) rfl rfl rfl Try.underlying73 rfl Kx (fun w hw => Kn.hd0 (Kn.tl (Kn.tlU (Kn.tlU hw)))) rfl rfl ?_
        simp only [qz]
        apply rg_pure Rx Kx
        case hargs => exact Ax
        case h => exact fun w hw => cny.out w (hsy.at hw (List.sublist_append_left _ _))
        case hz => exact Nz
        simp only [qz]
        refine rg_move ?_
        simp only [qz]
        refine rf_extract rfl rfl rfl rfl ?_
        simp only [qz]
        refine rf_extract rfl rfl rfl rfl ?_
        simp only [qz]
        refine Rgn fun g11 => ?_
        simp only [qz]
        refine rf_storeR (n := 5) rfl rfl Kx rfl rfl (UpdR.here _ _ _ Nl) Nz ?_
        simp only [qz, Nat.reduceAdd]
        refine rg_assign ?_
        simp only [qz]
        refine rg_nil (ek_next (wk_seq ?_))
        refine wk_region [0, 1, 0, 0, 0, 1, 1, 0] rfl Kx ?_
        simp only [qy]
        refine rf_loadR (n := 9) rfl rfl rfl Try.underlying73 rfl Kx (fun w hw => Kn.hd0 (Kn.tlU (Kn.tlU (Kn.tl hw)))) rfl rfl ?_
        simp only [qz]
        apply rg_pure Rx Kx
        case hargs => exact Ax
        case h => exact fun w hw => cnz.out w (hsz.at hw (List.Sublist.cons _ ((List.sublist_append_left _ _).trans (List.sublist_append_right _ _))))
        case hz => exact Nz
        simp only [qz]
        refine rg_move ?_
        simp only [qz]
        refine rf_extract rfl rfl rfl rfl ?_
        simp only [qz]
        refine rf_extract rfl rfl rfl rfl ?_
        simp only [qz]
        refine Rgn fun g12 => ?_
        simp only [qz]
        refine rf_storeR (n := 5) rfl rfl Kx rfl rfl (UpdR.here _ _ _ Nl) Nz ?_
        simp only [qz, Nat.reduceAdd]
        refine rg_assign ?_
        simp only [qz]
        refine rg_nil (ek_next (wk_seq ?_))
        refine wk_draws _ _ [(0, 0), (1, 0), (2, 0), (3, 0), (4, 0), (5, 0), (6, 0), (7, 0), (8, 1), (9, 0), (10, 0), (11, 0), (12, 0), (13, 1), (14, 0), (15, 0)] [] Kx Kx (fun c d v a w h => by cases d <;> exact h) ((sc _ (sc _ (List.Sublist.append_left (List.Sublist.append_left (sc _ (sc _ (sc _ (List.Sublist.append_left (List.Sublist.append_left (sc _ sn) _) _)))) _) _)))) (fun e => by first | exact absurd e (by decide) | rfl) ?_
        simp only [List.map_cons, List.map_nil, List.getD_cons_zero, List.getD_cons_succ]
        refine rg_move ?_
        simp only [qz]
        refine rf_not rfl rfl rfl ?_
        simp only [qz]
        refine rg_move ?_
        simp only [qz]
        apply rg_soft_g
        case hg => rfl
        case hy => (intro w hw; go_simp; (try go_bits); exact Yld.mk _ _)
        simp only [qz]
        refine rf_not rfl rfl rfl ?_
        simp only [qz]
        refine rf_pick rfl rfl rfl ?_
        simp only [qz]
        refine rg_move ?_
        simp only [qz]
        refine rf_loadR (n := 5) rfl rfl rfl Try.underlying29 rfl Kx (fun w hw => Kn.hd0 (Kn.tl hw)) rfl rfl ?_
        simp only [qz]
        apply rg_pure Rx Kx
        case hargs => exact Ax
        case h => exact fun w hw => rOne_any w
        case hz => exact (fun _ h => by cases h; exact (sc _ (sc _ (List.Sublist.append_left (List.Sublist.append_left (sc _ (sc _ (sc _ (List.Sublist.append_left (List.Sublist.append_left (sc _ sn) _) _)))) _) _))))
        simp only [qz]
        refine rf_neN (u := Nm.one) (v := Nm.one) rfl rfl rfl rfl ?_
        rw [decide_eq_true (rfl : Nm.one = Nm.one)]
        simp only [qz]
        refine rf_pick rfl rfl rfl ?_
        simp only [qz]
        refine rg_move ?_
        simp only [qz]
        refine rf_loadR (n := 5) rfl rfl rfl Try.underlying29 rfl Kx (fun w hw => Kn.hd0 hw) rfl rfl ?_
        simp only [qz]
        apply rg_pure Rx Kx
        case hargs => exact Ax
        case h => exact fun w hw => rOne_any w
        case hz => exact (fun _ h => by cases h; exact (sc _ (sc _ (List.Sublist.append_left (List.Sublist.append_left (sc _ (sc _ (sc _ (List.Sublist.append_left (List.Sublist.append_left (sc _ sn) _) _)))) _) _))))
        simp only [qz]
        refine rf_neN (u := Nm.one) (v := Nm.one) rfl rfl rfl rfl ?_
        rw [decide_eq_true (rfl : Nm.one = Nm.one)]
        simp only [qz]
        refine rf_pick rfl rfl rfl ?_
        simp only [qz]
        refine rg_nil (ek_next (wk_cond_f rfl (wk_skip (ek_block (ek_next ?_)))))
        refine wk_region [0, 0, 0] rfl Kx ?_
        simp only [qy]
        refine rg_move ?_
        simp only [qz]
        refine rf_add rfl rfl rfl rfl (wrap_ok Ox Ox) ?_
        simp only [qz]
        refine rg_assign ?_
        simp only [qz]
        refine rg_nil ?_
        refine ek_sub (sk _ (sk _ (((sk _ (sk _ (sc _ (List.Sublist.append_left (List.Sublist.append_left (sc _ sn) _) _)))).trans (List.sublist_append_right _ _)).trans (List.sublist_append_right _ _)))) ?_
        refine ek_roundF (N - (i + 1)) Ox Kx ?_
        exact ⟨i + 1, rfl, by rfl, by rfl, Ox⟩
      (try simp only [qd, ne_eq] at h11)
      simp only [qz]
      refine rg_nil (ek_next (wk_cond_t rfl (wk_skip (ek_next (wk_seq (wk_block (wk_seq ?_)))))))
      have hyw := psum_W (f := fun j => nm l (i * N + j)) (fun _ => nm_okA hol _) k Ox
      rw [hsy0.out] at hyw
      have hox := And.intro (nm_okA hol (i * N + k)) True.intro
      have hpw := ok_W hox.1
      have haw := addR_W hyw.1 hyw.2.1 hyw.2.2 hpw.1 hpw.2.1 hpw.2.2
      have hFl := Fb_le (n := k) Ox
      refine wk_draws_m (hz1 := (List.Sublist.append_left (List.Sublist.append_left (sc _ (sk _ (sc _ (List.Sublist.append_left (List.Sublist.append_left (sc _ sn) _) _)))) _) _)) [(0, 0), (1, 0), (2, 0), (3, 0), (4, 1), (5, 1), (6, 1), (7, 2)] 7 Kx Kx (fun c d v a w h => by cases d <;> exact h) ?_
      simp only [List.map_cons, List.map_nil, List.getD_cons_zero, List.getD_cons_succ]
      refine rf_loadR (n := 9) rfl rfl rfl Try.underlying73 rfl Kx (fun w hw => Kn.hd0 (Kn.tl (Kn.tlU (Kn.tlU hw)))) rfl rfl ?_
      simp only [qz]
      refine rf_loadR (n := 2) rfl rfl rfl Try.underlying24 rfl Kx (fun w hw => Kn.hd0 (Kn.tl (Kn.tl (Kn.tlU (Kn.tlU hw))))) rfl rfl ?_
      simp only [qz]
      refine rg_move ?_
      simp only [qz]
      refine rg_move ?_
      simp only [qz]
      apply rg_pure Rx Kx
      case hargs => exact Ax
      case h => exact fun w hw => rAt_any N i k l va7 vc7 hll.out hN Ox Ox w (OwnN.asN hO7 (hw.perm ((((((((((((List.Perm.refl _).cons _).trans (List.perm_middle (l₁ := u7)).symm).cons _).trans (List.perm_middle (l₁ := u7)).symm).cons _).trans (List.perm_middle (l₁ := u7)).symm).append_left _).trans (List.perm_append_comm_assoc uz u7 _)).append_left _).trans (List.perm_append_comm_assoc uy u7 _)).trans ((List.Perm.refl _).append_left _))))
      case hz => exact (fun _ h => by cases h; exact (List.Sublist.append_left (List.Sublist.append_left (sc _ (sc _ (sc _ (List.Sublist.append_left (List.Sublist.append_left (sc _ sn) _) _)))) _) _))
      simp only [qz]
      apply (rg_made (T := fun v u => ∃ s0 s1 s2 s3, v = wdV (nm l (i * N + k)) s0 s1 s2 s3 ∧ SU4 u (nm l (i * N + k)) s0 s1 s2 s3)) Rx Kx
      case hargs => exact Ax
      case h => exact fun w hw => wideOf_any (nm l (i * N + k)) (Nm.fit_mono hox.1.fit (by decide)) w
      case hz => exact (fun _ h => by cases h; exact (List.Sublist.append_left (List.Sublist.append_left (sc _ (sc _ (sc _ (List.Sublist.append_left (List.Sublist.append_left (sc _ sn) _) _)))) _) _))
      rintro _ u13 ⟨t0, t1, t2, t3, rfl, hS13⟩
      obtain ⟨⟨ta13_0, tc13_0, rfl⟩, -⟩ := id hS13.a
      obtain ⟨⟨ta13_1, tc13_1, rfl⟩, -⟩ := id hS13.b
      obtain ⟨⟨ta13_2, tc13_2, rfl⟩, -⟩ := id hS13.c
      obtain ⟨⟨ta13_3, tc13_3, rfl⟩, -⟩ := id hS13.d
      simp only [qz]
      apply (rg_made (T := fun v u => ∃ s0 s1 s2 s3, v = wdV (y.addR (nm l (i * N + k))) s0 s1 s2 s3 ∧ SU4 u (y.addR (nm l (i * N + k))) s0 s1 s2 s3)) Rx Kx
      case hargs => exact Ax
      case h => exact fun w hw => wplus_any y (nm l (i * N + k)) _ _ _ _ _ _ _ _ (Nm.fit_mono haw.1 hFl) (Nm.fit_mono haw.2.1 hFl) hyw.2.1 Ox hpw.2.1 Ox w (hsy.at hw ((List.sublist_append_left _ _).trans (List.sublist_append_right _ _))) (hS13.at hw (List.sublist_append_left _ _))
      case hz => exact (fun _ h => by cases h; exact ((List.Sublist.append_left (List.Sublist.append_left (sc _ (sc _ (sc _ (List.Sublist.append_left (List.Sublist.append_left (sc _ sn) _) _)))) _) _).trans (List.sublist_append_right _ _)))
      rintro _ u14 ⟨t0, t1, t2, t3, rfl, hS14⟩
      obtain ⟨⟨ta14_0, tc14_0, rfl⟩, -⟩ := id hS14.a
      obtain ⟨⟨ta14_1, tc14_1, rfl⟩, -⟩ := id hS14.b
      obtain ⟨⟨ta14_2, tc14_2, rfl⟩, -⟩ := id hS14.c
      obtain ⟨⟨ta14_3, tc14_3, rfl⟩, -⟩ := id hS14.d
      simp only [qz]
      refine rf_storeRM (n := 9) rfl rfl Kx rfl rfl (UpdR.app _ (UpdR.app _ (UpdR.app _ (UpdR.app _ (UpdR.there _ (UpdR.here _ _ _ Nl)))))) (((List.Sublist.append_left (List.Sublist.append_left (sc _ (sk _ (sc _ (List.Sublist.append_left (List.Sublist.append_left (sc _ sn) _) _)))) _) _).trans (List.sublist_append_right _ _)).trans (List.sublist_append_right _ _)) ?_
      simp only [qz, Nat.reduceAdd]
      refine rg_nil (ek_next ?_)
      clear hyw hox hpw haw hFl
      have hyw := psum_W (f := fun j => nm l (j * N + i)) (fun _ => nm_okA hol _) k Ox
      rw [hsz0.out] at hyw
      have hox := And.intro (nm_okA hol (k * N + i)) True.intro
      have hpw := ok_W hox.1
      have haw := addR_W hyw.1 hyw.2.1 hyw.2.2 hpw.1 hpw.2.1 hpw.2.2
      have hFl := Fb_le (n := k) Ox
      refine wk_draws_m (hz1 := (List.Sublist.append_left (List.Sublist.append_left (List.Sublist.append_left (List.Sublist.append_left (sk _ (sc _ (sc _ (List.Sublist.append_left (List.Sublist.append_left (sc _ sn) _) _)))) _) _) _) _)) [(0, 0), (1, 0), (2, 0), (3, 0), (4, 1), (5, 1), (6, 1), (7, 2)] 7 Kx Kx (fun c d v a w h => by cases d <;> exact h) ?_
      simp only [List.map_cons, List.map_nil, List.getD_cons_zero, List.getD_cons_succ]
      refine rf_loadR (n := 9) rfl rfl rfl Try.underlying73 rfl Kx (fun w hw => Kn.hd0 (Kn.tlU (Kn.tlU (Kn.tlU (Kn.tlU hw))))) rfl rfl ?_
      simp only [qz]
      refine rf_loadR (n := 2) rfl rfl rfl Try.underlying24 rfl Kx (fun w hw => Kn.hd0 (Kn.tl (Kn.tl (Kn.tlU (Kn.tlU (Kn.tlU (Kn.tlU hw))))))) rfl rfl ?_
      simp only [qz]
      refine rg_move ?_
      simp only [qz]
      refine rg_move ?_
      simp only [qz]
      apply rg_pure Rx Kx
      case hargs => exact Ax
      case h => exact fun w hw => rAt_any N k i l va7 vc7 hll.out hN Ox Ox w (OwnN.asN hO7 (hw.perm ((((((((((((((((List.Perm.refl _).cons _).trans (List.perm_middle (l₁ := u7)).symm).cons _).trans (List.perm_middle (l₁ := u7)).symm).cons _).trans (List.perm_middle (l₁ := u7)).symm).append_left _).trans (List.perm_append_comm_assoc uz u7 _)).append_left _).trans (List.perm_append_comm_assoc uy u7 _)).append_left _).trans (List.perm_append_comm_assoc u13 u7 _)).append_left _).trans (List.perm_append_comm_assoc u14 u7 _)).trans ((List.Perm.refl _).append_left _))))
      case hz => exact (fun _ h => by cases h; exact (List.Sublist.append_left (List.Sublist.append_left (List.Sublist.append_left (List.Sublist.append_left (sc _ (sc _ (sc _ (List.Sublist.append_left (List.Sublist.append_left (sc _ sn) _) _)))) _) _) _) _))
      simp only [qz]
      apply (rg_made (T := fun v u => ∃ s0 s1 s2 s3, v = wdV (nm l (k * N + i)) s0 s1 s2 s3 ∧ SU4 u (nm l (k * N + i)) s0 s1 s2 s3)) Rx Kx
      case hargs => exact Ax
      case h => exact fun w hw => wideOf_any (nm l (k * N + i)) (Nm.fit_mono hox.1.fit (by decide)) w
      case hz => exact (fun _ h => by cases h; exact (List.Sublist.append_left (List.Sublist.append_left (List.Sublist.append_left (List.Sublist.append_left (sc _ (sc _ (sc _ (List.Sublist.append_left (List.Sublist.append_left (sc _ sn) _) _)))) _) _) _) _))
      rintro _ u15 ⟨t0, t1, t2, t3, rfl, hS15⟩
      obtain ⟨⟨ta15_0, tc15_0, rfl⟩, -⟩ := id hS15.a
      obtain ⟨⟨ta15_1, tc15_1, rfl⟩, -⟩ := id hS15.b
      obtain ⟨⟨ta15_2, tc15_2, rfl⟩, -⟩ := id hS15.c
      obtain ⟨⟨ta15_3, tc15_3, rfl⟩, -⟩ := id hS15.d
      simp only [qz]
      apply (rg_made (T := fun v u => ∃ s0 s1 s2 s3, v = wdV (z.addR (nm l (k * N + i))) s0 s1 s2 s3 ∧ SU4 u (z.addR (nm l (k * N + i))) s0 s1 s2 s3)) Rx Kx
      case hargs => exact Ax
      case h => exact fun w hw => wplus_any z (nm l (k * N + i)) _ _ _ _ _ _ _ _ (Nm.fit_mono haw.1 hFl) (Nm.fit_mono haw.2.1 hFl) hyw.2.1 Ox hpw.2.1 Ox w (hsz.at hw (((((List.sublist_append_left _ _).trans (List.sublist_append_right _ _)).trans (List.sublist_append_right _ _)).trans (List.sublist_append_right _ _)).trans (List.sublist_append_right _ _))) (hS15.at hw (List.sublist_append_left _ _))
      case hz => exact (fun _ h => by cases h; exact ((List.Sublist.append_left (List.Sublist.append_left (List.Sublist.append_left (List.Sublist.append_left (sc _ (sc _ (sc _ (List.Sublist.append_left (List.Sublist.append_left (sc _ sn) _) _)))) _) _) _) _).trans (List.sublist_append_right _ _)))
      rintro _ u16 ⟨t0, t1, t2, t3, rfl, hS16⟩
      obtain ⟨⟨ta16_0, tc16_0, rfl⟩, -⟩ := id hS16.a
      obtain ⟨⟨ta16_1, tc16_1, rfl⟩, -⟩ := id hS16.b
      obtain ⟨⟨ta16_2, tc16_2, rfl⟩, -⟩ := id hS16.c
      obtain ⟨⟨ta16_3, tc16_3, rfl⟩, -⟩ := id hS16.d
      simp only [qz]
      refine rf_storeRM (n := 9) rfl rfl Kx rfl rfl (UpdR.app _ (UpdR.app _ (UpdR.app _ (UpdR.app _ (UpdR.app _ (UpdR.app _ (UpdR.here _ _ _ Nl))))))) (((List.Sublist.append_left (List.Sublist.append_left (List.Sublist.append_left (List.Sublist.append_left (sk _ (sc _ (sc _ (List.Sublist.append_left (List.Sublist.append_left (sc _ sn) _) _)))) _) _) _) _).trans (List.sublist_append_right _ _)).trans (List.sublist_append_right _ _)) ?_
      simp only [qz, Nat.reduceAdd]
      refine rg_nil (ek_block (ek_next ?_))
      refine wk_region [0, 0, 0] rfl Kx ?_
      simp only [qy]
      refine rg_move ?_
      simp only [qz]
      refine rf_add rfl rfl rfl rfl (wrap_ok Ox Ox) ?_
      simp only [qz]
      refine rg_assign ?_
      simp only [qz]
      refine rg_nil ?_
      refine ek_sub (List.Sublist.append_left ((List.Sublist.append_left ((((sc _ (sc _ (sc _ (List.Sublist.append_left (List.Sublist.append_left (sc _ sn) _) _)))).trans (List.sublist_append_right _ _)).trans (List.sublist_append_right _ _)).trans (List.sublist_append_right _ _)) _).trans (List.sublist_append_right _ _)) _) ?_
      refine ek_perm ((((List.Perm.refl _).append_left _).trans (List.perm_append_comm_assoc u16 u14 _)).trans ((List.Perm.refl _).append_left _)) ?_
      refine ek_roundF (N - (k + 1)) Ox Kx ?_
      exact ⟨k + 1, y.addR (nm l (i * N + k)), z.addR (nm l (k * N + i)), ta14_0, ta14_1, ta14_2, ta14_3, tc14_0, tc14_1, tc14_2, tc14_3, ta16_0, ta16_1, ta16_2, ta16_3, tc16_0, tc16_1, tc16_2, tc16_3, u14, u16, rfl, by rfl, by rfl, Ox, (Lib.hid (by rw [psum, hsy0.out])), (Lib.hid (by rw [psum, hsz0.out])), (SK4.own hS14), (SK4.own hS16)⟩
    (try simp only [qd, ne_eq] at h2)
    simp only [qz]
    refine rf_pick rfl rfl rfl ?_
    simp only [qz]
    refine rg_move ?_
    simp only [qz]
    refine rg_skip Rx ?_
    simp only [qz]
    refine rg_skip_h Rx Nz ?_
    simp only [qz]
    refine rg_skip Rx ?_
    simp only [qz]
    refine rf_pick rfl rfl rfl ?_
    simp only [qz]
    refine rg_move ?_
    simp only [qz]
    refine rg_skip Rx ?_
    simp only [qz]
    refine rg_skip_h Rx Nz ?_
    simp only [qz]
    refine rg_skip Rx ?_
    simp only [qz]
    refine rf_pick rfl rfl rfl ?_
    simp only [qz]
    refine rg_nil (ek_next (wk_cond_t rfl (wk_seq ?_)))
    refine wk_region [1, 0] rfl Kx ?_
    simp only [qy]
    apply rg_pure Rx Kx
    case hargs => exact Ax
    case h => exact fun w hw => sane2_any w
    case hz => exact Nz
    simp only [qz]
    refine rg_assign ?_
    simp only [qz]
    refine rg_nil (ek_next (wk_ret (ek_then_ret ?_)))
    refine ek_ret (fun w hw => ⟨rfl, _, res_t _ rfl, ?_⟩)
    (try simp only [qz])
    first | exact ⟨rfl, hw.below⟩ | exact ⟨trivial, hw.below⟩ | exact hw.below
  (try simp only [qd, ne_eq] at h1)
  simp only [qz]
  refine rg_move ?_
  simp only [qz]
  refine rg_skip Rx ?_
  simp only [qz]
  refine rg_skip Rx ?_
  simp only [qz]
  refine rg_skip Rx ?_
  simp only [qz]
  refine rf_pick rfl rfl rfl ?_
  simp only [qz]
  refine rg_move ?_
  simp only [qz]
  refine rg_skip Rx ?_
  simp only [qz]
  refine rg_skip_h Rx Nz ?_
  simp only [qz]
  refine rg_skip Rx ?_
  simp only [qz]
  refine rf_pick rfl rfl rfl ?_
  simp only [qz]
  refine rg_move ?_
  simp only [qz]
  refine rg_skip Rx ?_
  simp only [qz]
  refine rg_skip_h Rx Nz ?_
  simp only [qz]
  refine rg_skip Rx ?_
  simp only [qz]
  refine rf_pick rfl rfl rfl ?_
  simp only [qz]
  refine rg_nil (ek_next (wk_cond_t rfl (wk_seq ?_)))
  refine wk_region [1, 0] rfl Kx ?_
  simp only [qy]
  apply rg_pure Rx Kx
  case hargs => exact Ax
  case h => exact fun w hw => sane2_any w
  case hz => exact Nz
  simp only [qz]
  refine rg_assign ?_
  simp only [qz]
  refine rg_nil (ek_next (wk_ret (ek_then_ret ?_)))
  refine ek_ret (fun w hw => ⟨rfl, _, res_t _ rfl, ?_⟩)
  (try simp only [qz])
  first | exact ⟨rfl, hw.below⟩ | exact ⟨trivial, hw.below⟩ | exact hw.below

end Go.Proofs.Ytjeijnjaleldkaa
