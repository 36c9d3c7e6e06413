/- Digits in a block that the call has made: zeros, stores, loads. -/
import Derived.Test.YtjeijnjaleldkaaSq
import Derived.Test.YtjeijnjaleldkaaBg3
import Derived.Test.YtjeijnjaleldkaaWtP
namespace Go.Proofs.Ytjeijnjaleldkaa
set_option linter.all false
open Go.RowKit

theorem us_map : ∀ ys : List Int, us ys = ys.map (.int .u32)
  | [] => rfl
  | y :: ys => by rw [us, El.flat_cons, List.map_cons, ← us_map ys]; rfl
theorem made_us (n : Nat) : madeCells (Value.int .u32 0).cells n = (us (List.replicate n 0)).toArray := by
  rw [us_map]
  unfold madeCells
  apply Array.ext'
  simp only [Array.toList_map, Array.toList_range]
  apply List.ext_getElem
  · simp
  intro i h1 h2
  simp [Value.cells, Nat.mod_one]
theorem set_us (zs : List Int) (i : Nat) (x : Int) : (us zs).toArray.setIfInBounds i (.int .u32 x) = (us (zs.set i x)).toArray := by
  rw [us_map, us_map]; simp [List.map_set]
theorem us_getA (zs : List Int) (k : Nat) (h : k < zs.length) : (us zs)[k]? = some (.int .u32 (dig zs k)) := us_get zs k h
theorem Rep.toUpd {g i t : Nat} {v : Value} {cs : Array Value} {s s' : List Blk} (h : Rep g (.cells cs t) (.cells (cs.setIfInBounds i v) t) s s') : Upd g i v s s' := by
  generalize ho : Obj.cells cs t = o at h
  generalize ho' : Obj.cells (cs.setIfInBounds i v) t = o' at h
  induction h with
  | here s => subst ho ho'; exact Upd.here t cs s
  | there b _ ih => exact .there b ih
theorem OwnG.wholeU {g : Nat} {zs : List Int} (h : zs.length ≤ 1000000) : OwnG DgE 153 [(g, .cells (us zs).toArray 153)] (.slice (some ⟨g, 0, none⟩) zs.length zs.length) zs :=
  Own.whole (cur := (us zs).toArray) (by simp [us_len]) (by simp only [maxLen]; omega)
section
variable {R : Option Nat} {ops : Array Oper} {Q : Exit → Act → World → Prop} {B : World} {F : List Nat} {s0 : Option (List Blk × List Blk)}
variable {l : List (Oper × Nat)} {a : Act} {s s' : List Blk} {d : Option Tmp} {t : TypeId} {p : String} {af : Array Edge} {v : Value}
theorem rg_makeU {lo co : Operand} {n : Nat} {z : Int} {gd : Option (Nat × Bool)} (hg : Region.wanted ⟨d, .makeSlice 68 lo co, t, p, af, gd⟩ (yielded ops a.tmps) = true) (hl : a.eval lo = .int .i64 z) (hc : a.eval co = .int .i64 z) (hz' : z = (n : Int)) (hn : n ≤ 1000000)
    (hzz : ∀ z ∈ s0, z.1.Sublist s) (h : ∀ g, Rg R Try.prog ops Q B F s0 l (a.put d (.slice (some ⟨g, 0, none⟩) n n)) ((g, .cells (us (List.replicate n 0)).toArray 153) :: s)) :
    Rg R Try.prog ops Q B F s0 ((⟨d, .makeSlice 68 lo co, t, p, af, gd⟩, 1) :: l) a s := by
  subst hz'
  obtain ⟨i, hi, hz, hs, hb⟩ := ip uInfo
  refine rg_make (i := i) (z := .int .u32 0) (n := n) hg Try.underlying68 hi hz hl hc (by rw [hb]; omega) Ox hzz fun g => ?_
  have : madeCells (Value.int .u32 0).cells (n * i.size) = (us (List.replicate n 0)).toArray := by rw [hs, Nat.mul_one]; exact made_us n
  rw [this]
  exact h g
/-- A store into digits that the call has made. -/
theorem rf_storeU {x y : Operand} {g i : Nat} {zs : List Int} {z : Int} (hx : a.eval x = .pointer (some ⟨g, i, none⟩)) (hy : a.eval y = .int .u32 z) (hi : i < zs.length)
    (hr : Rep g (.cells (us zs).toArray 153) (.cells (us (zs.set i z)).toArray 153) s s') (hz : ∀ z ∈ s0, z.1.Sublist s') (h : Rg R Try.prog ops Q B F s0 l (a.put d undef) s') :
    Rg R Try.prog ops Q B F s0 ((⟨d, .store 153 x y, t, p, af, none⟩, 1) :: l) a s := by
  rw [← set_us] at hr
  refine rg_store (fun w K => ⟨w.setCell ⟨g, i, none⟩ (.int .u32 z), ?_, K.set hr.toUpd⟩) hz h
  exact run_store1 hx hy Kx rfl rfl (there_of (K.hd hr.mem) (by simp [us_len]; omega))
/-- The same, marked. -/
theorem rf_storeUM {zz : List Blk × List Blk} {x y : Operand} {g i : Nat} {zs : List Int} {z : Int} (hx : a.eval x = .pointer (some ⟨g, i, none⟩)) (hy : a.eval y = .int .u32 z) (hi : i < zs.length)
    (hr : Rep g (.cells (us zs).toArray 153) (.cells (us (zs.set i z)).toArray 153) s s') (hz : zz.2.Sublist s') (h : Rg R Try.prog ops Q B F (some (zz.2, zz.2)) l (a.put d undef) s') :
    Rg R Try.prog ops Q B F (some zz) ((⟨d, .store 153 x y, t, p, af, none⟩, 2) :: l) a s := by
  rw [← set_us] at hr
  refine rg_storeM (fun w K => ⟨w.setCell ⟨g, i, none⟩ (.int .u32 z), ?_, K.set hr.toUpd⟩) hz h
  exact run_store1 hx hy Kx rfl rfl (there_of (K.hd hr.mem) (by simp [us_len]; omega))
end
theorem or_u32 {x y : Int} (h0 : 0 ≤ x) (h1 : x < 2147483648) (hy : y = 0 ∨ y = 2147483648) : bits .or .u32 x y = x + y := by
  show IntKind.u32.wrap ((BitVec.ofInt 32 x ||| BitVec.ofInt 32 y).toNat : Int) = _
  obtain ⟨n, rfl⟩ : ∃ n : Nat, x = n := ⟨x.toNat, by omega⟩
  rw [BitVec.toNat_or, IntKind.wrap_u32]
  have e1 : (BitVec.ofInt 32 (n : Int)).toNat = n := by rw [BitVec.toNat_ofInt]; omega
  rw [e1]
  rcases hy with rfl | rfl
  · have : (BitVec.ofInt 32 (0 : Int)).toNat = 0 := by decide
    rw [this, Nat.or_zero]; omega
  have : (BitVec.ofInt 32 (2147483648 : Int)).toNat = 2 ^ 31 := by decide
  have h2 := Nat.two_pow_add_eq_or_of_lt (i := 31) (b := n) Ox 1
  rw [Nat.mul_one] at h2
  rw [this, Nat.or_comm, ← h2]
  omega
end Go.Proofs.Ytjeijnjaleldkaa
