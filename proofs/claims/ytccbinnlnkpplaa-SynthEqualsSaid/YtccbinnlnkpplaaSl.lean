/- Slices over lists of known blocks: what came in; what the call owns; append, make, literals. -/
import Derived.Test.YtccbinnlnkpplaaSr
import Derived.IntWalk
namespace Go.Proofs.Ytccbinnlnkpplaa
set_option linter.all false
open Go.RowKit

/-- A slice's cells, as they read in w. -/
def AS (w : World) (a : Option Addr) (xs : List Value) : Prop := xs ≠ [] → ∃ b off, a = some ⟨b, off, none⟩ ∧ b < w.heap.size ∧ ∀ j, j < xs.length → w.cell? ⟨b, off + j, none⟩ = xs[j]?

section
variable {B w w' : World} {F : List Nat} {s : List Blk} {a : Option Addr} {xs : List Value}
theorem AS.nil : AS w a [] := fun h => absurd rfl h
theorem AS.below (h : AS w a xs) (hb : Below w.heap.size w w') : AS w' a xs := fun hne => by
  obtain ⟨b, off, rfl, hlt, hc⟩ := h hne
  exact ⟨b, off, rfl, Nat.lt_of_lt_of_le hlt hb.size, fun j hj => (hb.cell (p := ⟨b, off + j, none⟩) hlt).trans (hc j hj)⟩
theorem AS.kn (h : AS B a xs) (K : Kn B F s w) (hF : ∀ b off, a = some ⟨b, off, none⟩ → b ∉ F) : AS w a xs := fun hne => by
  obtain ⟨b, off, rfl, hlt, hc⟩ := h hne
  exact ⟨b, off, rfl, Nat.lt_of_lt_of_le hlt K.size, fun j hj => (K.cellB hlt (hF b off rfl) _).trans (hc j hj)⟩
theorem AS.kn0 (h : AS B a xs) (K : Kn B [] s w) : AS w a xs := h.kn K (fun _ _ _ => by simp)

theorem Kn.tlU {u : List Blk} (K : Kn B F (u ++ s) w) : Kn B F s w := K.sub (List.sublist_append_right _ _)
theorem Upd.app {g i : Nat} {x : Value} {s s' : List Blk} (u : List Blk) (h : Upd g i x s s') : Upd g i x (u ++ s) (u ++ s') := by
  induction u with
  | nil => exact h
  | cons b u ih => exact .there b ih
theorem Rep.app {g : Nat} {o o' : Obj} {s s' : List Blk} (u : List Blk) (h : Rep g o o' s s') : Rep g o o' (u ++ s) (u ++ s') := by
  induction u with
  | nil => exact h
  | cons b u ih => exact .there b ih
theorem Kn.mod {g : Nat} {o o' : Obj} (K : Kn B F ((g, o) :: s) w) (h1 : w'.os = w.os) (h2 : w'.tape = w.tape) (h3 : w'.output = w.output) (h4 : w.heap.size ≤ w'.heap.size)
    (h5 : ∀ k, k < w.heap.size → k ≠ g → w'.heap[k]? = w.heap[k]?) (h6 : w'.heap[g]? = some o') : Kn B F ((g, o') :: s) w' := by
  have hn := List.nodup_cons.1 K.nodup
  refine ⟨h1.trans K.os, h2.trans K.tape, h3.trans K.output, Nat.le_trans K.size h4, ?_, ?_, ?_, List.nodup_cons.2 hn⟩
  · intro k hk hF
    refine (h5 k (Nat.lt_of_lt_of_le hk K.size) fun e => ?_).trans (K.old k hk hF)
    subst e
    rcases K.new (k, o) (by simp) with h | h
    · exact hF h
    · simp at h; omega
  · intro b hb
    rcases List.mem_cons.1 hb with rfl | hb
    · exact h6
    · refine (h5 b.1 (K.lt (by simp [hb])) fun e => ?_).trans (K.own b (by simp [hb]))
      exact hn.1 (e ▸ List.mem_map.2 ⟨b, hb, rfl⟩)
  · intro b hb
    rcases List.mem_cons.1 hb with rfl | hb
    · exact K.new (g, o) (by simp)
    · exact K.new b (by simp [hb])
end

/-- A slice that the call owns whole; u: its block, if there is one. -/
def Own (e size : Nat) (u : List Blk) (v : Value) (n : Nat) (xs : List Value) : Prop :=
  xs.length = n * size ∧ ((u = [] ∧ v = .slice none 0 0 ∧ n = 0) ∨
    ∃ g cap cur, u = [(g, .cells cur e)] ∧ v = .slice (some ⟨g, 0, none⟩) n cap ∧ n ≤ cap ∧ cap ≤ maxLen ∧ cur.size = cap * size ∧ cur.toList.take (n * size) = xs)

theorem Own.nil (e size : Nat) : Own e size [] (.slice none 0 0) 0 [] := ⟨by simp, .inl ⟨rfl, rfl, rfl⟩⟩
/-- A block that was just made whole. -/
theorem Own.whole {e size g n : Nat} {cur : Array Value} (h : cur.size = n * size) (hn : n ≤ maxLen) : Own e size [(g, .cells cur e)] (.slice (some ⟨g, 0, none⟩) n n) n cur.toList :=
  ⟨by simpa using h, .inr ⟨g, n, cur, rfl, rfl, Nat.le_refl _, hn, h, List.take_of_length_le (by simp [h])⟩⟩
theorem Own.as {e size : Nat} {u s : List Blk} {v : Value} {n : Nat} {xs : List Value} {B w : World} {F : List Nat} (h : Own e size u v n xs) (K : Kn B F (u ++ s) w) : ∃ a cap, v = .slice a n cap ∧ AS w a xs := by
  obtain ⟨hl, ⟨rfl, rfl, rfl⟩ | ⟨g, cap, cur, rfl, rfl, hc, hm, hs, ht⟩⟩ := h
  · have : xs = [] := List.eq_nil_of_length_eq_zero (by simpa using hl)
    subst this
    exact ⟨none, 0, rfl, AS.nil⟩
  · have hd : Hd w g e cur := Kn.hd0 K
    refine ⟨_, cap, rfl, fun hne => ⟨g, 0, rfl, hd.lt, fun j hj => ?_⟩⟩
    rw [hd.cell, ← ht, List.getElem?_take, if_pos (by omega)]
    simp
theorem Own.val {e size : Nat} {u : List Blk} {v : Value} {n : Nat} {xs : List Value} (h : Own e size u v n xs) : ∃ a cap, v = .slice a n cap ∧ n ≤ cap := by
  obtain ⟨hl, ⟨rfl, rfl, rfl⟩ | ⟨g, cap, cur, rfl, rfl, hc, hm, hs, ht⟩⟩ := h
  · exact ⟨none, 0, rfl, Nat.le_refl _⟩
  · exact ⟨_, _, rfl, hc⟩

section
variable {R : Option Nat} {P : Program} {ops : Array Oper} {Q : Exit → Act → World → Prop} {B : World} {F : List Nat} {s0 : Option (List Blk × List Blk)}
variable {l : List (Oper × Nat)} {a : Act} {s S : List Blk} {d : Option Tmp} {op : Op} {t : TypeId} {p : String} {af : Array Edge} {v : Value}

/-- A slice literal, a make. -/
theorem rg_newS {cs : Array Value} {ty n c : Nat} {gd : Option (Nat × Bool)} (hg : Region.wanted ⟨d, op, t, p, af, gd⟩ (yielded ops a.tmps) = true) (hr : ∀ w : World, (execOp a.eval ⟨d, op, t, p, af, gd⟩).run P w = .ok (.value (.slice (some ⟨w.heap.size, 0, none⟩) n c)) (w.alloc (.cells cs ty)))
    (hz : ∀ z ∈ s0, z.1.Sublist s) (h : ∀ g, Rg R P ops Q B F s0 l (a.put d (.slice (some ⟨g, 0, none⟩) n c)) ((g, .cells cs ty) :: s)) :
    Rg R P ops Q B F s0 ((⟨d, op, t, p, af, gd⟩, 1) :: l) a s :=
  rg_run hg fun w K => ⟨_, _, _, .inl (hr w), K.alloc _, fun z hz' => (hz z hz').cons _, h _⟩

theorem rg_make {lo co : Operand} {ty e : Nat} {i : TypeInfo} {z : Value} {n : Nat} {kl kc : IntKind} {gd : Option (Nat × Bool)} (hg : Region.wanted ⟨d, .makeSlice ty lo co, t, p, af, gd⟩ (yielded ops a.tmps) = true) (ht : P.underlying ty = some (.slice e)) (hi : P.info? e = some i) (hz : i.zero = some z)
    (hl : a.eval lo = .int kl n) (hc : a.eval co = .int kc n) (hb : (i.bytes : Int) * n ≤ 281474976710656) (hn : (n : Int) ≤ 9223372036854775807)
    (hzz : ∀ z ∈ s0, z.1.Sublist s) (h : ∀ g, Rg R P ops Q B F s0 l (a.put d (.slice (some ⟨g, 0, none⟩) n n)) ((g, .cells (madeCells z.cells (n * i.size)) e) :: s)) :
    Rg R P ops Q B F s0 ((⟨d, .makeSlice ty lo co, t, p, af, gd⟩, 1) :: l) a s := by
  refine rg_newS hg (fun w => ?_) hzz h
  have hr := run_make (P := P) w ty e i z ht hi hz kl kc n n (by omega) (Int.le_refl _) hb hn
  simp only [Int.toNat_natCast] at hr
  have hx : execOp a.eval ⟨d, .makeSlice ty lo co, t, p, af, gd⟩ = (do pure (.value (← Instr.makeSlice ty (a.eval lo) (a.eval co)))) := rfl
  rw [hx, hl, hc, Sem.run_bind, hr]
  rfl

/-- append of known cells to a slice that the call owns. -/
theorem rg_append {u : List Blk} {so xo : Operand} {ty e : Nat} {i : TypeInfo} {z : Value} {size bytes n m c : Nat} {xs news : List Value} {ad : Addr} {gd : Option (Nat × Bool)} (hg : Region.wanted ⟨d, .call ⟨.builtin .append, #[so, xo], #[ty, ty]⟩, t, p, af, gd⟩ (yielded ops a.tmps) = true)
    (ht : P.underlying ty = some (.slice e)) (hi : P.info? e = some i) (hz : i.zero = some z) (hsize : i.size = size) (hby : i.bytes = bytes) (hzs : z.cells.size = size) (hsz : 0 < size)
    (hs : a.eval so = v) (hown : Own e size u v n xs) (hx : a.eval xo = .slice (some ad) m c) (hl : news.length = m * size)
    (hnews : ∀ w, Kn B F S w → ∀ j x, news[j]? = some x → w.cell? (ad.add j) = some x) (h1 : ∀ x ∈ news, x.oneCell' = true)
    (h63 : n + m ≤ maxLen) (hbytes : (n + m) * bytes ≤ 140737488355328) (hp : S.Perm (u ++ s)) (hzz : ∀ z ∈ s0, z.1.Sublist s)
    (h : ∀ u' v', Own e size u' v' (n + m) (xs ++ news) → (v' = .slice none 0 0 ↔ v = .slice none 0 0 ∧ m = 0) → Rg R P ops Q B F s0 l (a.put d v') (u' ++ s)) :
    Rg R P ops Q B F s0 ((⟨d, .call ⟨.builtin .append, #[so, xo], #[ty, ty]⟩, t, p, af, gd⟩, 1) :: l) a S := by
  refine rg_run hg fun w K => ?_
  have hnews := hnews w K
  have K' := K.perm hp
  have key : ∃ v' w' u', (Builtin.append_ #[ty, ty] t #[v, .slice (some ad) m c]).run P w = .ok v' w' ∧ Own e size u' v' (n + m) (xs ++ news) ∧ Kn B F (u' ++ s) w' ∧
      (v' = .slice none 0 0 ↔ v = .slice none 0 0 ∧ m = 0) := by
    subst hsize
    subst hby
    have hsmall : n + m ≤ 9223372036854775807 := by simp only [maxLen] at h63; omega
    have hxl := hown.1
    have hlen : (xs ++ news).length = (n + m) * i.size := by rw [List.length_append, hxl, hl, Nat.add_mul]
    have grown : ∀ old : Nat, old < n + m → Own e i.size [(w.heap.size, .cells (xs.toArray ++ news.toArray ++ Builtin.zeroCells z.cells (grownCap w (n + m) old e - (n + m))) e)]
        (.slice (some ⟨w.heap.size, 0, none⟩) (n + m) (grownCap w (n + m) old e)) (n + m) (xs ++ news) := by
      intro old ho
      have hge := grownCap_ge w (n + m) old e
      have hcm : grownCap w (n + m) old e ≤ maxLen := grownCap_le_maxLen w (n + m) old e h63
      refine ⟨hlen, .inr ⟨w.heap.size, _, _, rfl, rfl, hge, hcm, ?_, ?_⟩⟩
      · simp only [Array.size_append, List.size_toArray, size_zeroCells, hzs, hxl, hl, ← Nat.add_mul]
        congr 1
        omega
      · simp only [Array.toList_append, List.append_assoc]
        rw [← List.append_assoc, ← hlen]
        exact List.take_left
    rcases hown.2 with ⟨rfl, rfl, rfl⟩ | ⟨g, cap, cur, rfl, rfl, hnc, hcm, hcs, htake⟩
    · have hx0 : xs = [] := List.eq_nil_of_length_eq_zero (by simpa using hxl)
      subst hx0
      by_cases hm : m = 0
      · subst hm
        have hn0 : news = [] := List.eq_nil_of_length_eq_zero (by simpa using hl)
        subst hn0
        refine ⟨.slice none 0 0, w, [], ?_, Own.nil e i.size, K', by simp⟩
        simp [Builtin.append_, run_underlying ht, sizeOf, typeInfo, hi, Builtin.lenOf, Builtin.firstCells, loadCells, loadCellsFrom]
      · have hr := run_append_nil (P := P) w ty t e i z ht hi hz ad m c news hl hnews (by omega) (by omega) (by have hb := hbytes; simp only [Nat.zero_add] at hb; omega)
        have hgr := grown 0 (by omega)
        simp only [Nat.zero_add, List.nil_append, Array.empty_append] at hgr ⊢
        exact ⟨_, _, _, hr, hgr, K'.drew.alloc _, by simp [hm]⟩
    · have hd : w.heap[g]? = some (.cells cur e (0, 0)) := Kn.hd0 K'
      by_cases hroom : n + m ≤ cap
      · have hfit : n * i.size + news.length ≤ cur.size := by rw [hl, hcs, ← Nat.add_mul]; exact Nat.mul_le_mul_right _ hroom
        have hr := run_append_room (P := P) w ty t e i ht hi g n cap cur hd ad m c news hl hnews h1 hroom hfit
        refine ⟨_, _, _, hr, ⟨hlen, .inr ⟨g, cap, _, rfl, rfl, hroom, hcm, ?_, ?_⟩⟩, Kn.mod K' rfl rfl rfl (by simp) (fun k _ hk => setRow_other w g k _ (fun e => hk e)) (setRow_heap w g cur _ e _ hd), by simp⟩
        · simp only [List.size_toArray, List.length_append, List.length_take, List.length_drop, Array.length_toList]
          omega
        · rw [htake, ← hlen]
          exact List.take_left
      · have holds : ∀ j x, xs[j]? = some x → w.cell? ((⟨g, 0, none⟩ : Addr).add j) = some x := by
          intro j x hj
          have hlt : j < xs.length := (List.getElem?_eq_some_iff.1 hj).1
          have : (⟨g, 0, none⟩ : Addr).add j = ⟨g, j, none⟩ := by unfold Addr.add; split <;> simp_all
          rw [this, (Kn.hd0 K' : Hd w g e cur).cell, ← hj, ← htake, List.getElem?_take, if_pos (by omega)]
          simp
        have hr := run_append_grow (P := P) w ty t e i z ht hi hz ⟨g, 0, none⟩ n cap xs hxl holds ad m c news hl hnews (by omega) (by omega) (growslice_fits (by omega) hbytes)
        have hgr := grown cap (by omega)
        exact ⟨_, _, _, hr, hgr, (K'.tl).drew.alloc _, by simp⟩
  obtain ⟨v', w', u', hr, hO, hK, hnil⟩ := key
  refine ⟨v', w', u' ++ s, .inl ?_, hK, fun z hz' => (hzz z hz').trans (List.sublist_append_right _ _), h u' v' hO hnil⟩
  have hx1 : execOp a.eval ⟨d, .call ⟨.builtin .append, #[so, xo], #[ty, ty]⟩, t, p, af, gd⟩ = (do let d ← resolve a.eval ⟨.builtin .append, #[so, xo], #[ty, ty]⟩ t; invoke d.target d.args) := rfl
  rw [hx1]
  simp only [resolve, invoke, builtin, Sem.run_bind, Sem.run_pure, Result.andThen_ok, List.map_toArray, List.map_cons, List.map_nil, hs, hx, hr]
end
end Go.Proofs.Ytccbinnlnkpplaa
