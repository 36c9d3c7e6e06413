/- Package matrix: what serves all matrices. -/
import Derived.Test.YtccbinnlnkpplaaSq
import Derived.Test.YtccbinnlnkpplaaMt1
import Derived.Test.YtccbinnlnkpplaaWs4
namespace Go.Proofs.Ytccbinnlnkpplaa
set_option linter.all false
open Go.RowKit

section
variable {P : Program} {w : World}
theorem run_results_c2 {fn : Func} {k k' ty ty' : Nat} {tmps : Array Value} {g t g' t' : Nat} {cs cs' : Array Value} {d d' : TypeDesc} (hres : fn.results = #[.cell k ty, .cell k' ty'])
    (hk : tmps.getD k undef = .pointer (some ⟨g, 0, none⟩)) (hg : Hd w g t cs) (hu : P.underlying ty = some d) (hr : isRow d = true)
    (hs : (P.info? ty).map (·.size) = some cs.size) (hk' : tmps.getD k' undef = .pointer (some ⟨g', 0, none⟩)) (hg' : Hd w g' t' cs') (hu' : P.underlying ty' = some d') (hr' : isRow d' = true)
    (hs' : (P.info? ty').map (·.size) = some cs'.size) : (results fn tmps).run P w = .ok (.tuple #[.agg cs, .agg cs']) w := by
  have := run_load_hd hg hu hr hs
  have := run_load_hd hg' hu' hr' hs'
  have hk0 : tmps[k]?.getD undef = .pointer (some ⟨g, 0, none⟩) := by simpa using hk
  have hk0' : tmps[k']?.getD undef = .pointer (some ⟨g', 0, none⟩) := by simpa using hk'
  simp [results, hres, hk0, hk0', asAddr, *]
end
theorem Hd.belowS {w w' : World} {g t : Nat} {cs : Array Value} (h : Hd w g t cs) (hb : Below w.heap.size w w') : Hd w' g t cs := (hb.block g h.lt).trans h
theorem numV_ve2 (r : NR) : ∃ (v : Nm) (c : Int), numV r = .tuple #[nmV v, .int .i64 c] := by cases r <;> exact ⟨_, _, rfl⟩
theorem elemOk {xs : List Nm} {N : Nat} (hok : allOk xs = true) (hl : xs.length = N * N) {i k : Nat} (hi : i < N) (hk : k < N) : (nm xs (i * N + k)).Ok := ok_at hok (by rw [hl]; exact ix_lt hi hk)
theorem validB_N' {n : Int} {xs : List Nm} (h : validB n xs = true) : ∃ N : Nat, n = N ∧ 1 ≤ N ∧ N ≤ 6 ∧ xs.length = N * N ∧ xs.length ≤ 36 ∧ allOk xs = true := by
  simp only [validB, Bool.and_eq_true, decide_eq_true_eq] at h
  obtain ⟨h1, h2, h3, h4⟩ := h
  obtain ⟨N, rfl⟩ : ∃ N : Nat, n = N := ⟨n.toNat, by omega⟩
  have h5 : xs.length = N * N := by
    have e : ((N * N : Nat) : Int) = (N : Int) * N := Int.natCast_mul N N
    omega
  have h6 : N * N ≤ 6 * 6 := Nat.mul_le_mul Ox Ox
  exact ⟨N, rfl, by omega, by omega, h5, by omega, h4⟩
theorem retM_err {w w' : World} {K : Nat} {c : Int} {r : LR} (h : r = .error c) (hb : Below w.heap.size w w') : RetM w (rN K r) (rL r) (rC r) (.returned (.tuple #[.agg #[.int .i64 0, .slice none 0 0], .int .i64 c])) w' := by
  subst h
  exact ⟨.slice none 0 0, [], rfl, OwnG.nil, .nil hb⟩
theorem wrap_eqB {n r : Int} (h : n = r) (h0 : -9223372036854775808 ≤ r) (h1 : r < 9223372036854775808) : IntKind.i64.wrap n = r := by
  rw [h]; exact wrap_ok Ox Ox
end Go.Proofs.Ytccbinnlnkpplaa
