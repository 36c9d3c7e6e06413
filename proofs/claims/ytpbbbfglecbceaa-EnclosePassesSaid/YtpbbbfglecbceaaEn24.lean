/- Package enclose: Passes. -/
import Derived.Test.YtpbbbfglecbceaaEn23
import Derived.Test.YtpbbbfglecbceaaEn17
import Derived.Test.YtpbbbfglecbceaaLoPl
namespace Go.Proofs.Ytpbbbfglecbceaa
set_option linter.all false
open Go.RowKit

theorem run_results_ccc {P : Program} {w : World} {fn : Func} {k k' k'' ty ty' ty'' : Nat} {tmps : Array Value} {g t g' t' g'' t'' : Nat} {cs cs' : Array Value} {d d' : TypeDesc} {ik : IntKind} {v : Int} (hres : fn.results = #[.cell k ty, .cell k' ty', .cell k'' ty''])
    (hk : tmps.getD k undef = .pointer (some ⟨g, 0, none⟩)) (hg : Hd w g t cs) (hu : P.underlying ty = some d) (hr : isRow d = true) (hs : (P.info? ty).map (·.size) = some cs.size)
    (hk' : tmps.getD k' undef = .pointer (some ⟨g', 0, none⟩)) (hg' : Hd w g' t' cs') (hu' : P.underlying ty' = some d') (hr' : isRow d' = true) (hs' : (P.info? ty').map (·.size) = some cs'.size)
    (hk'' : tmps.getD k'' undef = .pointer (some ⟨g'', 0, none⟩)) (hg'' : Hd w g'' t'' #[.int ik v]) (hu'' : P.underlying ty'' = some (.int ik)) :
    (results fn tmps).run P w = .ok (.tuple #[.agg cs, .agg cs', .int ik v]) w := by
  have := run_load_hd hg hu hr hs
  have := run_load_hd hg' hu' hr' hs'
  have := run_load_int hg'' hu''
  have hk0 : tmps[k]?.getD undef = .pointer (some ⟨g, 0, none⟩) := by simpa using hk
  have hk0' : tmps[k']?.getD undef = .pointer (some ⟨g', 0, none⟩) := by simpa using hk'
  have hk0'' : tmps[k'']?.getD undef = .pointer (some ⟨g'', 0, none⟩) := by simpa using hk''
  simp [results, hres, hk0, hk0', hk0'', asAddr, *]
theorem results_ccc_put {P : Program} {fn : Func} {k k' k'' ty ty' ty'' : Nat} (hres : fn.results = #[.cell k ty, .cell k' ty', .cell k'' ty'']) {t : Array Value} {d : Nat} {v : Value} (h : k ≠ d) (h' : k' ≠ d) (h'' : k'' ≠ d) (w : World) :
    (results fn t).run P w = (results fn (t.setIfInBounds d v)).run P w := by
  simp [results, hres, Array.getElem?_setIfInBounds, h.symm, h'.symm, h''.symm, h, h', h'']

def passCore (p : En.Pt) : En.R (En.Sp × En.Sp) := do
  let a0 ← En.power p.s00
  let a1 ← En.power p.s10
  let a ← En.add a0 a1
  let b0 ← En.power p.s01
  let b1 ← En.power p.s11
  let b ← En.add b0 b1
  pure (a, b)
def outP (r : En.R (En.Sp × En.Sp)) : En.Sp × En.Sp × Int := match r with
  | .ok z => (z.1, z.2, 0)
  | .error c => (⟨0, 0⟩, ⟨0, 0⟩, c)
def passR (p : En.Pt) : En.Sp × En.Sp × Int := if portOk p then outP (passCore p) else (⟨0, 0⟩, ⟨0, 0⟩, 50)
abbrev passV (q : En.Sp × En.Sp × Int) : Value := .tuple #[spV q.1, spV q.2.1, .int .i64 q.2.2]
theorem o4_ne {α : Type} {r : En.R α} (h : En.o4 r) {c : Int} (hc : r = .error c) : c ≠ 0 := by rw [h c hc]; omega
set_option maxHeartbeats 4000000 in
theorem passesE_any (p : En.Pt) (w : World) : Calls Try.prog 39 #[ptV p] w fun e w' => e = .returned (passV (passR p)) ∧ Below w.heap.size w w' := by
  have CP := ports1_any p
  cases hv : portOk p with
  | false =>
    have ht : passR p = (⟨0, 0⟩, ⟨0, 0⟩, 50) := by unfold passR; rw [hv]; rfl
    rw [hv] at CP
    rw [ht]
    replace CP := Lib.hid CP
    clear hv ht
    go_enter_defers Try.func39, Try.ntmps39
    go_wp2_with fail
    have HP : Hd (((((w.alloc (.cells #[.int .i64 p.s00.re.lo, .int .i64 p.s00.re.hi, .int .i64 p.s00.im.lo, .int .i64 p.s00.im.hi, .int .i64 p.s01.re.lo, .int .i64 p.s01.re.hi, .int .i64 p.s01.im.lo, .int .i64 p.s01.im.hi, .int .i64 p.s10.re.lo, .int .i64 p.s10.re.hi, .int .i64 p.s10.im.lo, .int .i64 p.s10.im.hi, .int .i64 p.s11.re.lo, .int .i64 p.s11.re.hi, .int .i64 p.s11.im.lo, .int .i64 p.s11.im.hi] 49)).alloc (.cells #[.int .i64 0, .int .i64 0] 23)).alloc (.cells #[.int .i64 0, .int .i64 0] 23)).alloc (.cells #[.int .i64 0] 26)).alloc (.cells #[.int .i64 p.s00.re.lo, .int .i64 p.s00.re.hi, .int .i64 p.s00.im.lo, .int .i64 p.s00.im.hi, .int .i64 p.s01.re.lo, .int .i64 p.s01.re.hi, .int .i64 p.s01.im.lo, .int .i64 p.s01.im.hi, .int .i64 p.s10.re.lo, .int .i64 p.s10.re.hi, .int .i64 p.s10.im.lo, .int .i64 p.s10.im.hi, .int .i64 p.s11.re.lo, .int .i64 p.s11.re.hi, .int .i64 p.s11.im.lo, .int .i64 p.s11.im.hi] 49)) w.heap.size 49 #[.int .i64 p.s00.re.lo, .int .i64 p.s00.re.hi, .int .i64 p.s00.im.lo, .int .i64 p.s00.im.hi, .int .i64 p.s01.re.lo, .int .i64 p.s01.re.hi, .int .i64 p.s01.im.lo, .int .i64 p.s01.im.hi, .int .i64 p.s10.re.lo, .int .i64 p.s10.re.hi, .int .i64 p.s10.im.lo, .int .i64 p.s10.im.hi, .int .i64 p.s11.re.lo, .int .i64 p.s11.re.hi, .int .i64 p.s11.im.lo, .int .i64 p.s11.im.hi] := by (with_reducible repeat' (first | assumption | (apply hdN; (try simp only [sA, sS, sD]); done) | apply hdA | apply hdD | apply hdS | (apply hdF; case hp => first | (simp; done) | (simp; omega)) | with_unfolding_all rfl))
    have HA : Hd (((((w.alloc (.cells #[.int .i64 p.s00.re.lo, .int .i64 p.s00.re.hi, .int .i64 p.s00.im.lo, .int .i64 p.s00.im.hi, .int .i64 p.s01.re.lo, .int .i64 p.s01.re.hi, .int .i64 p.s01.im.lo, .int .i64 p.s01.im.hi, .int .i64 p.s10.re.lo, .int .i64 p.s10.re.hi, .int .i64 p.s10.im.lo, .int .i64 p.s10.im.hi, .int .i64 p.s11.re.lo, .int .i64 p.s11.re.hi, .int .i64 p.s11.im.lo, .int .i64 p.s11.im.hi] 49)).alloc (.cells #[.int .i64 0, .int .i64 0] 23)).alloc (.cells #[.int .i64 0, .int .i64 0] 23)).alloc (.cells #[.int .i64 0] 26)).alloc (.cells #[.int .i64 p.s00.re.lo, .int .i64 p.s00.re.hi, .int .i64 p.s00.im.lo, .int .i64 p.s00.im.hi, .int .i64 p.s01.re.lo, .int .i64 p.s01.re.hi, .int .i64 p.s01.im.lo, .int .i64 p.s01.im.hi, .int .i64 p.s10.re.lo, .int .i64 p.s10.re.hi, .int .i64 p.s10.im.lo, .int .i64 p.s10.im.hi, .int .i64 p.s11.re.lo, .int .i64 p.s11.re.hi, .int .i64 p.s11.im.lo, .int .i64 p.s11.im.hi] 49)) (w.heap.size + 1) 23 #[.int .i64 0, .int .i64 0] := by (with_reducible repeat' (first | assumption | (apply hdN; (try simp only [sA, sS, sD]); done) | apply hdA | apply hdD | apply hdS | (apply hdF; case hp => first | (simp; done) | (simp; omega)) | with_unfolding_all rfl))
    have HB : Hd (((((w.alloc (.cells #[.int .i64 p.s00.re.lo, .int .i64 p.s00.re.hi, .int .i64 p.s00.im.lo, .int .i64 p.s00.im.hi, .int .i64 p.s01.re.lo, .int .i64 p.s01.re.hi, .int .i64 p.s01.im.lo, .int .i64 p.s01.im.hi, .int .i64 p.s10.re.lo, .int .i64 p.s10.re.hi, .int .i64 p.s10.im.lo, .int .i64 p.s10.im.hi, .int .i64 p.s11.re.lo, .int .i64 p.s11.re.hi, .int .i64 p.s11.im.lo, .int .i64 p.s11.im.hi] 49)).alloc (.cells #[.int .i64 0, .int .i64 0] 23)).alloc (.cells #[.int .i64 0, .int .i64 0] 23)).alloc (.cells #[.int .i64 0] 26)).alloc (.cells #[.int .i64 p.s00.re.lo, .int .i64 p.s00.re.hi, .int .i64 p.s00.im.lo, .int .i64 p.s00.im.hi, .int .i64 p.s01.re.lo, .int .i64 p.s01.re.hi, .int .i64 p.s01.im.lo, .int .i64 p.s01.im.hi, .int .i64 p.s10.re.lo, .int .i64 p.s10.re.hi, .int .i64 p.s10.im.lo, .int .i64 p.s10.im.hi, .int .i64 p.s11.re.lo, .int .i64 p.s11.re.hi, .int .i64 p.s11.im.lo, .int .i64 p.s11.im.hi] 49)) (w.heap.size + 2) 23 #[.int .i64 0, .int .i64 0] := by (with_reducible repeat' (first | assumption | (apply hdN; (try simp only [sA, sS, sD]); done) | apply hdA | apply hdD | apply hdS | (apply hdF; case hp => first | (simp; done) | (simp; omega)) | with_unfolding_all rfl))
    have HE : Hd (((((w.alloc (.cells #[.int .i64 p.s00.re.lo, .int .i64 p.s00.re.hi, .int .i64 p.s00.im.lo, .int .i64 p.s00.im.hi, .int .i64 p.s01.re.lo, .int .i64 p.s01.re.hi, .int .i64 p.s01.im.lo, .int .i64 p.s01.im.hi, .int .i64 p.s10.re.lo, .int .i64 p.s10.re.hi, .int .i64 p.s10.im.lo, .int .i64 p.s10.im.hi, .int .i64 p.s11.re.lo, .int .i64 p.s11.re.hi, .int .i64 p.s11.im.lo, .int .i64 p.s11.im.hi] 49)).alloc (.cells #[.int .i64 0, .int .i64 0] 23)).alloc (.cells #[.int .i64 0, .int .i64 0] 23)).alloc (.cells #[.int .i64 0] 26)).alloc (.cells #[.int .i64 p.s00.re.lo, .int .i64 p.s00.re.hi, .int .i64 p.s00.im.lo, .int .i64 p.s00.im.hi, .int .i64 p.s01.re.lo, .int .i64 p.s01.re.hi, .int .i64 p.s01.im.lo, .int .i64 p.s01.im.hi, .int .i64 p.s10.re.lo, .int .i64 p.s10.re.hi, .int .i64 p.s10.im.lo, .int .i64 p.s10.im.hi, .int .i64 p.s11.re.lo, .int .i64 p.s11.re.hi, .int .i64 p.s11.im.lo, .int .i64 p.s11.im.hi] 49)) (w.heap.size + 3) 26 #[.int .i64 0] := by (with_reducible repeat' (first | assumption | (apply hdN; (try simp only [sA, sS, sD]); done) | apply hdA | apply hdD | apply hdS | (apply hdF; case hp => first | (simp; done) | (simp; omega)) | with_unfolding_all rfl))
    have HV : Hd (((((w.alloc (.cells #[.int .i64 p.s00.re.lo, .int .i64 p.s00.re.hi, .int .i64 p.s00.im.lo, .int .i64 p.s00.im.hi, .int .i64 p.s01.re.lo, .int .i64 p.s01.re.hi, .int .i64 p.s01.im.lo, .int .i64 p.s01.im.hi, .int .i64 p.s10.re.lo, .int .i64 p.s10.re.hi, .int .i64 p.s10.im.lo, .int .i64 p.s10.im.hi, .int .i64 p.s11.re.lo, .int .i64 p.s11.re.hi, .int .i64 p.s11.im.lo, .int .i64 p.s11.im.hi] 49)).alloc (.cells #[.int .i64 0, .int .i64 0] 23)).alloc (.cells #[.int .i64 0, .int .i64 0] 23)).alloc (.cells #[.int .i64 0] 26)).alloc (.cells #[.int .i64 p.s00.re.lo, .int .i64 p.s00.re.hi, .int .i64 p.s00.im.lo, .int .i64 p.s00.im.hi, .int .i64 p.s01.re.lo, .int .i64 p.s01.re.hi, .int .i64 p.s01.im.lo, .int .i64 p.s01.im.hi, .int .i64 p.s10.re.lo, .int .i64 p.s10.re.hi, .int .i64 p.s10.im.lo, .int .i64 p.s10.im.hi, .int .i64 p.s11.re.lo, .int .i64 p.s11.re.hi, .int .i64 p.s11.im.lo, .int .i64 p.s11.im.hi] 49)) (w.heap.size + 4) 49 #[.int .i64 p.s00.re.lo, .int .i64 p.s00.re.hi, .int .i64 p.s00.im.lo, .int .i64 p.s00.im.hi, .int .i64 p.s01.re.lo, .int .i64 p.s01.re.hi, .int .i64 p.s01.im.lo, .int .i64 p.s01.im.hi, .int .i64 p.s10.re.lo, .int .i64 p.s10.re.hi, .int .i64 p.s10.im.lo, .int .i64 p.s10.im.hi, .int .i64 p.s11.re.lo, .int .i64 p.s11.re.hi, .int .i64 p.s11.im.lo, .int .i64 p.s11.im.hi] := by (with_reducible repeat' (first | assumption | (apply hdN; (try simp only [sA, sS, sD]); done) | apply hdA | apply hdD | apply hdS | (apply hdF; case hp => first | (simp; done) | (simp; omega)) | with_unfolding_all rfl))
    have bw : Below w.heap.size w (((((w.alloc (.cells #[.int .i64 p.s00.re.lo, .int .i64 p.s00.re.hi, .int .i64 p.s00.im.lo, .int .i64 p.s00.im.hi, .int .i64 p.s01.re.lo, .int .i64 p.s01.re.hi, .int .i64 p.s01.im.lo, .int .i64 p.s01.im.hi, .int .i64 p.s10.re.lo, .int .i64 p.s10.re.hi, .int .i64 p.s10.im.lo, .int .i64 p.s10.im.hi, .int .i64 p.s11.re.lo, .int .i64 p.s11.re.hi, .int .i64 p.s11.im.lo, .int .i64 p.s11.im.hi] 49)).alloc (.cells #[.int .i64 0, .int .i64 0] 23)).alloc (.cells #[.int .i64 0, .int .i64 0] 23)).alloc (.cells #[.int .i64 0] 26)).alloc (.cells #[.int .i64 p.s00.re.lo, .int .i64 p.s00.re.hi, .int .i64 p.s00.im.lo, .int .i64 p.s00.im.hi, .int .i64 p.s01.re.lo, .int .i64 p.s01.re.hi, .int .i64 p.s01.im.lo, .int .i64 p.s01.im.hi, .int .i64 p.s10.re.lo, .int .i64 p.s10.re.hi, .int .i64 p.s10.im.lo, .int .i64 p.s10.im.hi, .int .i64 p.s11.re.lo, .int .i64 p.s11.re.hi, .int .i64 p.s11.im.lo, .int .i64 p.s11.im.hi] 49)) := by go_grown
    refine (CP.out _ _ _ HV).mono ?_
    rintro e w1 ⟨rfl, hb1⟩
    replace bw : Below w.heap.size w w1 := below_next bw hb1
    replace HP := HP.call hb1
    replace HA := HA.call hb1
    replace HB := HB.call hb1
    replace HE := HE.call hb1
    replace HV := HV.call hb1
    have lw1 : w.heap.size ≤ w1.heap.size := bw.size
    clear hb1
    clear HV
    obtain ⟨hcA, hfA⟩ := HA.facts
    obtain ⟨hcB, hfB⟩ := HB.facts
    obtain ⟨hcE, hfE⟩ := HE.facts
    go_wp2
    exact ⟨_, run_results_ccc rfl rfl (by (show Hd _ (w.heap.size + 1) 23 #[.int .i64 0, .int .i64 0]); (with_reducible repeat' (first | assumption | (apply hdN; (try simp only [sA, sS, sD]); done) | apply hdA | apply hdD | apply hdS | (apply hdF; case hp => first | (simp; done) | (simp; omega)) | with_unfolding_all rfl))) Try.underlying23 rfl (by kernel_rfl) rfl (by (show Hd _ (w.heap.size + 2) 23 #[.int .i64 0, .int .i64 0]); (with_reducible repeat' (first | assumption | (apply hdN; (try simp only [sA, sS, sD]); done) | apply hdA | apply hdD | apply hdS | (apply hdF; case hp => first | (simp; done) | (simp; omega)) | with_unfolding_all rfl))) Try.underlying23 rfl (by kernel_rfl) rfl (by (show Hd _ (w.heap.size + 3) 26 #[.int .i64 (50)]); (with_reducible repeat' (first | assumption | (apply hdN; (try simp only [sA, sS, sD]); done) | apply hdA | apply hdD | apply hdS | (apply hdF; case hp => first | (simp; done) | (simp; omega)) | with_unfolding_all rfl))) Try.underlying26, rfl, by go_grown⟩
  | true =>
    have ht : passR p = outP (passCore p) := by unfold passR; rw [hv]; rfl
    rw [hv] at CP
    rw [ht]
    replace CP := Lib.hid CP
    have hoks : p.s00.ok = true ∧ p.s01.ok = true ∧ p.s10.ok = true ∧ p.s11.ok = true := by
      simp only [portOk, Bool.and_eq_true] at hv
      exact ⟨hv.1.1.1, hv.1.1.2, hv.1.2, hv.2⟩
    obtain ⟨k00, k01, k10, k11⟩ := hoks
    have f00 := En.Rc.fit_of_ok k00
    have f01 := En.Rc.fit_of_ok k01
    have f10 := En.Rc.fit_of_ok k10
    have f11 := En.Rc.fit_of_ok k11
    clear hv ht k00 k01 k10 k11
    go_enter_defers Try.func39, Try.ntmps39
    go_wp2_with fail
    have HP : Hd (((((w.alloc (.cells #[.int .i64 p.s00.re.lo, .int .i64 p.s00.re.hi, .int .i64 p.s00.im.lo, .int .i64 p.s00.im.hi, .int .i64 p.s01.re.lo, .int .i64 p.s01.re.hi, .int .i64 p.s01.im.lo, .int .i64 p.s01.im.hi, .int .i64 p.s10.re.lo, .int .i64 p.s10.re.hi, .int .i64 p.s10.im.lo, .int .i64 p.s10.im.hi, .int .i64 p.s11.re.lo, .int .i64 p.s11.re.hi, .int .i64 p.s11.im.lo, .int .i64 p.s11.im.hi] 49)).alloc (.cells #[.int .i64 0, .int .i64 0] 23)).alloc (.cells #[.int .i64 0, .int .i64 0] 23)).alloc (.cells #[.int .i64 0] 26)).alloc (.cells #[.int .i64 p.s00.re.lo, .int .i64 p.s00.re.hi, .int .i64 p.s00.im.lo, .int .i64 p.s00.im.hi, .int .i64 p.s01.re.lo, .int .i64 p.s01.re.hi, .int .i64 p.s01.im.lo, .int .i64 p.s01.im.hi, .int .i64 p.s10.re.lo, .int .i64 p.s10.re.hi, .int .i64 p.s10.im.lo, .int .i64 p.s10.im.hi, .int .i64 p.s11.re.lo, .int .i64 p.s11.re.hi, .int .i64 p.s11.im.lo, .int .i64 p.s11.im.hi] 49)) w.heap.size 49 #[.int .i64 p.s00.re.lo, .int .i64 p.s00.re.hi, .int .i64 p.s00.im.lo, .int .i64 p.s00.im.hi, .int .i64 p.s01.re.lo, .int .i64 p.s01.re.hi, .int .i64 p.s01.im.lo, .int .i64 p.s01.im.hi, .int .i64 p.s10.re.lo, .int .i64 p.s10.re.hi, .int .i64 p.s10.im.lo, .int .i64 p.s10.im.hi, .int .i64 p.s11.re.lo, .int .i64 p.s11.re.hi, .int .i64 p.s11.im.lo, .int .i64 p.s11.im.hi] := by (with_reducible repeat' (first | assumption | (apply hdN; (try simp only [sA, sS, sD]); done) | apply hdA | apply hdD | apply hdS | (apply hdF; case hp => first | (simp; done) | (simp; omega)) | with_unfolding_all rfl))
    have HA : Hd (((((w.alloc (.cells #[.int .i64 p.s00.re.lo, .int .i64 p.s00.re.hi, .int .i64 p.s00.im.lo, .int .i64 p.s00.im.hi, .int .i64 p.s01.re.lo, .int .i64 p.s01.re.hi, .int .i64 p.s01.im.lo, .int .i64 p.s01.im.hi, .int .i64 p.s10.re.lo, .int .i64 p.s10.re.hi, .int .i64 p.s10.im.lo, .int .i64 p.s10.im.hi, .int .i64 p.s11.re.lo, .int .i64 p.s11.re.hi, .int .i64 p.s11.im.lo, .int .i64 p.s11.im.hi] 49)).alloc (.cells #[.int .i64 0, .int .i64 0] 23)).alloc (.cells #[.int .i64 0, .int .i64 0] 23)).alloc (.cells #[.int .i64 0] 26)).alloc (.cells #[.int .i64 p.s00.re.lo, .int .i64 p.s00.re.hi, .int .i64 p.s00.im.lo, .int .i64 p.s00.im.hi, .int .i64 p.s01.re.lo, .int .i64 p.s01.re.hi, .int .i64 p.s01.im.lo, .int .i64 p.s01.im.hi, .int .i64 p.s10.re.lo, .int .i64 p.s10.re.hi, .int .i64 p.s10.im.lo, .int .i64 p.s10.im.hi, .int .i64 p.s11.re.lo, .int .i64 p.s11.re.hi, .int .i64 p.s11.im.lo, .int .i64 p.s11.im.hi] 49)) (w.heap.size + 1) 23 #[.int .i64 0, .int .i64 0] := by (with_reducible repeat' (first | assumption | (apply hdN; (try simp only [sA, sS, sD]); done) | apply hdA | apply hdD | apply hdS | (apply hdF; case hp => first | (simp; done) | (simp; omega)) | with_unfolding_all rfl))
    have HB : Hd (((((w.alloc (.cells #[.int .i64 p.s00.re.lo, .int .i64 p.s00.re.hi, .int .i64 p.s00.im.lo, .int .i64 p.s00.im.hi, .int .i64 p.s01.re.lo, .int .i64 p.s01.re.hi, .int .i64 p.s01.im.lo, .int .i64 p.s01.im.hi, .int .i64 p.s10.re.lo, .int .i64 p.s10.re.hi, .int .i64 p.s10.im.lo, .int .i64 p.s10.im.hi, .int .i64 p.s11.re.lo, .int .i64 p.s11.re.hi, .int .i64 p.s11.im.lo, .int .i64 p.s11.im.hi] 49)).alloc (.cells #[.int .i64 0, .int .i64 0] 23)).alloc (.cells #[.int .i64 0, .int .i64 0] 23)).alloc (.cells #[.int .i64 0] 26)).alloc (.cells #[.int .i64 p.s00.re.lo, .int .i64 p.s00.re.hi, .int .i64 p.s00.im.lo, .int .i64 p.s00.im.hi, .int .i64 p.s01.re.lo, .int .i64 p.s01.re.hi, .int .i64 p.s01.im.lo, .int .i64 p.s01.im.hi, .int .i64 p.s10.re.lo, .int .i64 p.s10.re.hi, .int .i64 p.s10.im.lo, .int .i64 p.s10.im.hi, .int .i64 p.s11.re.lo, .int .i64 p.s11.re.hi, .int .i64 p.s11.im.lo, .int .i64 p.s11.im.hi] 49)) (w.heap.size + 2) 23 #[.int .i64 0, .int .i64 0] := by (with_reducible repeat' (first | assumption | (apply hdN; (try simp only [sA, sS, sD]); done) | apply hdA | apply hdD | apply hdS | (apply hdF; case hp => first | (simp; done) | (simp; omega)) | with_unfolding_all rfl))
    have HE : Hd (((((w.alloc (.cells #[.int .i64 p.s00.re.lo, .int .i64 p.s00.re.hi, .int .i64 p.s00.im.lo, .int .i64 p.s00.im.hi, .int .i64 p.s01.re.lo, .int .i64 p.s01.re.hi, .int .i64 p.s01.im.lo, .int .i64 p.s01.im.hi, .int .i64 p.s10.re.lo, .int .i64 p.s10.re.hi, .int .i64 p.s10.im.lo, .int .i64 p.s10.im.hi, .int .i64 p.s11.re.lo, .int .i64 p.s11.re.hi, .int .i64 p.s11.im.lo, .int .i64 p.s11.im.hi] 49)).alloc (.cells #[.int .i64 0, .int .i64 0] 23)).alloc (.cells #[.int .i64 0, .int .i64 0] 23)).alloc (.cells #[.int .i64 0] 26)).alloc (.cells #[.int .i64 p.s00.re.lo, .int .i64 p.s00.re.hi, .int .i64 p.s00.im.lo, .int .i64 p.s00.im.hi, .int .i64 p.s01.re.lo, .int .i64 p.s01.re.hi, .int .i64 p.s01.im.lo, .int .i64 p.s01.im.hi, .int .i64 p.s10.re.lo, .int .i64 p.s10.re.hi, .int .i64 p.s10.im.lo, .int .i64 p.s10.im.hi, .int .i64 p.s11.re.lo, .int .i64 p.s11.re.hi, .int .i64 p.s11.im.lo, .int .i64 p.s11.im.hi] 49)) (w.heap.size + 3) 26 #[.int .i64 0] := by (with_reducible repeat' (first | assumption | (apply hdN; (try simp only [sA, sS, sD]); done) | apply hdA | apply hdD | apply hdS | (apply hdF; case hp => first | (simp; done) | (simp; omega)) | with_unfolding_all rfl))
    have HV : Hd (((((w.alloc (.cells #[.int .i64 p.s00.re.lo, .int .i64 p.s00.re.hi, .int .i64 p.s00.im.lo, .int .i64 p.s00.im.hi, .int .i64 p.s01.re.lo, .int .i64 p.s01.re.hi, .int .i64 p.s01.im.lo, .int .i64 p.s01.im.hi, .int .i64 p.s10.re.lo, .int .i64 p.s10.re.hi, .int .i64 p.s10.im.lo, .int .i64 p.s10.im.hi, .int .i64 p.s11.re.lo, .int .i64 p.s11.re.hi, .int .i64 p.s11.im.lo, .int .i64 p.s11.im.hi] 49)).alloc (.cells #[.int .i64 0, .int .i64 0] 23)).alloc (.cells #[.int .i64 0, .int .i64 0] 23)).alloc (.cells #[.int .i64 0] 26)).alloc (.cells #[.int .i64 p.s00.re.lo, .int .i64 p.s00.re.hi, .int .i64 p.s00.im.lo, .int .i64 p.s00.im.hi, .int .i64 p.s01.re.lo, .int .i64 p.s01.re.hi, .int .i64 p.s01.im.lo, .int .i64 p.s01.im.hi, .int .i64 p.s10.re.lo, .int .i64 p.s10.re.hi, .int .i64 p.s10.im.lo, .int .i64 p.s10.im.hi, .int .i64 p.s11.re.lo, .int .i64 p.s11.re.hi, .int .i64 p.s11.im.lo, .int .i64 p.s11.im.hi] 49)) (w.heap.size + 4) 49 #[.int .i64 p.s00.re.lo, .int .i64 p.s00.re.hi, .int .i64 p.s00.im.lo, .int .i64 p.s00.im.hi, .int .i64 p.s01.re.lo, .int .i64 p.s01.re.hi, .int .i64 p.s01.im.lo, .int .i64 p.s01.im.hi, .int .i64 p.s10.re.lo, .int .i64 p.s10.re.hi, .int .i64 p.s10.im.lo, .int .i64 p.s10.im.hi, .int .i64 p.s11.re.lo, .int .i64 p.s11.re.hi, .int .i64 p.s11.im.lo, .int .i64 p.s11.im.hi] := by (with_reducible repeat' (first | assumption | (apply hdN; (try simp only [sA, sS, sD]); done) | apply hdA | apply hdD | apply hdS | (apply hdF; case hp => first | (simp; done) | (simp; omega)) | with_unfolding_all rfl))
    have bw : Below w.heap.size w (((((w.alloc (.cells #[.int .i64 p.s00.re.lo, .int .i64 p.s00.re.hi, .int .i64 p.s00.im.lo, .int .i64 p.s00.im.hi, .int .i64 p.s01.re.lo, .int .i64 p.s01.re.hi, .int .i64 p.s01.im.lo, .int .i64 p.s01.im.hi, .int .i64 p.s10.re.lo, .int .i64 p.s10.re.hi, .int .i64 p.s10.im.lo, .int .i64 p.s10.im.hi, .int .i64 p.s11.re.lo, .int .i64 p.s11.re.hi, .int .i64 p.s11.im.lo, .int .i64 p.s11.im.hi] 49)).alloc (.cells #[.int .i64 0, .int .i64 0] 23)).alloc (.cells #[.int .i64 0, .int .i64 0] 23)).alloc (.cells #[.int .i64 0] 26)).alloc (.cells #[.int .i64 p.s00.re.lo, .int .i64 p.s00.re.hi, .int .i64 p.s00.im.lo, .int .i64 p.s00.im.hi, .int .i64 p.s01.re.lo, .int .i64 p.s01.re.hi, .int .i64 p.s01.im.lo, .int .i64 p.s01.im.hi, .int .i64 p.s10.re.lo, .int .i64 p.s10.re.hi, .int .i64 p.s10.im.lo, .int .i64 p.s10.im.hi, .int .i64 p.s11.re.lo, .int .i64 p.s11.re.hi, .int .i64 p.s11.im.lo, .int .i64 p.s11.im.hi] 49)) := by go_grown
    refine (CP.out _ _ _ HV).mono ?_
    rintro e w1 ⟨rfl, hb1⟩
    replace bw : Below w.heap.size w w1 := below_next bw hb1
    replace HP := HP.call hb1
    replace HA := HA.call hb1
    replace HB := HB.call hb1
    replace HE := HE.call hb1
    replace HV := HV.call hb1
    have lw1 : w.heap.size ≤ w1.heap.size := bw.size
    clear hb1
    clear HV
    go_upto_region 5 with fail
    replace HP : Hd (w1.drew) w.heap.size 49 #[.int .i64 p.s00.re.lo, .int .i64 p.s00.re.hi, .int .i64 p.s00.im.lo, .int .i64 p.s00.im.hi, .int .i64 p.s01.re.lo, .int .i64 p.s01.re.hi, .int .i64 p.s01.im.lo, .int .i64 p.s01.im.hi, .int .i64 p.s10.re.lo, .int .i64 p.s10.re.hi, .int .i64 p.s10.im.lo, .int .i64 p.s10.im.hi, .int .i64 p.s11.re.lo, .int .i64 p.s11.re.hi, .int .i64 p.s11.im.lo, .int .i64 p.s11.im.hi] := by (with_reducible repeat' (first | assumption | (apply hdN; (try simp only [sA, sS, sD]); done) | apply hdA | apply hdD | apply hdS | (apply hdF; case hp => first | (simp; done) | (simp; omega)) | with_unfolding_all rfl))
    replace HA : Hd (w1.drew) (w.heap.size + 1) 23 #[.int .i64 0, .int .i64 0] := by (with_reducible repeat' (first | assumption | (apply hdN; (try simp only [sA, sS, sD]); done) | apply hdA | apply hdD | apply hdS | (apply hdF; case hp => first | (simp; done) | (simp; omega)) | with_unfolding_all rfl))
    replace HB : Hd (w1.drew) (w.heap.size + 2) 23 #[.int .i64 0, .int .i64 0] := by (with_reducible repeat' (first | assumption | (apply hdN; (try simp only [sA, sS, sD]); done) | apply hdA | apply hdD | apply hdS | (apply hdF; case hp => first | (simp; done) | (simp; omega)) | with_unfolding_all rfl))
    replace HE : Hd (w1.drew) (w.heap.size + 3) 26 #[.int .i64 0] := by (with_reducible repeat' (first | assumption | (apply hdN; (try simp only [sA, sS, sD]); done) | apply hdA | apply hdD | apply hdS | (apply hdF; case hp => first | (simp; done) | (simp; omega)) | with_unfolding_all rfl))
    replace bw : Below w.heap.size w (w1.drew) := by go_grown
    (refine wp_region_eagD (fun w' => Hd w' w.heap.size 49 #[.int .i64 p.s00.re.lo, .int .i64 p.s00.re.hi, .int .i64 p.s00.im.lo, .int .i64 p.s00.im.hi, .int .i64 p.s01.re.lo, .int .i64 p.s01.re.hi, .int .i64 p.s01.im.lo, .int .i64 p.s01.im.hi, .int .i64 p.s10.re.lo, .int .i64 p.s10.re.hi, .int .i64 p.s10.im.lo, .int .i64 p.s10.im.hi, .int .i64 p.s11.re.lo, .int .i64 p.s11.re.hi, .int .i64 p.s11.im.lo, .int .i64 p.s11.im.hi] ∧ Below w.heap.size w w') 12 [(0, true), (1, true), (2, true), (3, true), (5, true), (6, true), (7, true), (8, true), (4, false), (9, false), (10, false), (11, false)] (by kernel_rfl) (by kernel_rfl) (fun c d v a w hd h => leaves_tmps (t := (Act.put a (some d) v).tmps) (fun w => results_ccc_put (fn := Try.f39) rfl (by omega) (by omega) (by omega) w) _ _ _ h) ⟨HP, bw⟩ ?_; simp only [List.map_cons, List.map_nil, List.getD_cons_zero, List.getD_cons_succ, flMark, Nat.reduceEqDiff, ↓reduceIte])
    repeat ((first | with_reducible apply eag_move | with_reducible apply eag_assign | ((with_reducible refine eag_soft (v := ?_) (fun w' hw' => ?_) ?_); rotate_left 1; (focus (obtain ⟨hP, hBw⟩ := hw'; obtain ⟨hcP, hfP⟩ := hP.facts; go_simp; (try with_reducible rfl); done)))); simp only [Act.put, Act.eval, List.setIfInBounds_toArray, List.set_cons_zero, List.set_cons_succ, Array.getD_eq_getD_getElem?, List.getElem?_toArray, List.getElem?_cons_zero, List.getElem?_cons_succ, Option.getD_some])
    refine eag_hard ?_
    go_wp2_with fail
    refine (power_any p.s00 f00 _).mono ?_
    intro e w2 hp
    obtain ⟨hb2, hcase⟩ := hp.cases
    clear hp
    replace bw : Below w.heap.size w w2 := below_next bw hb2
    replace HP := HP.call hb2
    replace HA := HA.call hb2
    replace HB := HB.call hb2
    replace HE := HE.call hb2
    have lw2 : w.heap.size ≤ w2.heap.size := bw.size
    clear hb2
    rcases hcase with ⟨s2, hs2, rfl⟩ | ⟨c2, hs2, rfl⟩
    rotate_left
    · have hc := o4_ne (En.o4_power _) hs2
      refine leaves_cons (f := 62) (args := #[.pointer (some ⟨w.heap.size + 3, 0, none⟩)]) (by simp) (by simp [go_sem]) ?_
      refine (guard_panicking _ _ _ _ HE).mono ?_
      rintro e u' w'' ⟨rfl, rfl, rfl⟩
      have HE2 : Hd ((w2.setCell ⟨w.heap.size + 3, 0, none⟩ (.int .i64 c2)).alloc (.cells #[.int .i64 c2] 106)) (w.heap.size + 3) 26 #[.int .i64 c2] := by (with_reducible repeat' (first | assumption | (apply hdN; (try simp only [sA, sS, sD]); done) | apply hdA | apply hdD | apply hdS | (apply hdF; case hp => first | (simp; done) | (simp; omega)) | with_unfolding_all rfl))
      have HA2 : Hd ((w2.setCell ⟨w.heap.size + 3, 0, none⟩ (.int .i64 c2)).alloc (.cells #[.int .i64 c2] 106)) (w.heap.size + 1) 23 #[.int .i64 0, .int .i64 0] := by (with_reducible repeat' (first | assumption | (apply hdN; (try simp only [sA, sS, sD]); done) | apply hdA | apply hdD | apply hdS | (apply hdF; case hp => first | (simp; done) | (simp; omega)) | with_unfolding_all rfl))
      have HB2 : Hd ((w2.setCell ⟨w.heap.size + 3, 0, none⟩ (.int .i64 c2)).alloc (.cells #[.int .i64 c2] 106)) (w.heap.size + 2) 23 #[.int .i64 0, .int .i64 0] := by (with_reducible repeat' (first | assumption | (apply hdN; (try simp only [sA, sS, sD]); done) | apply hdA | apply hdD | apply hdS | (apply hdF; case hp => first | (simp; done) | (simp; omega)) | with_unfolding_all rfl))
      refine leaves_cons (f := 91) (args := #[.pointer (some ⟨w.heap.size + 3, 0, none⟩), .pointer (some ⟨w.heap.size + 1, 0, none⟩), .pointer (some ⟨w.heap.size + 2, 0, none⟩)]) (by simp [settle]) (by simp [go_sem]) ?_
      refine (passes1_err _ _ _ (by omega) (by omega) (by omega) c2 hc _ HE2 ⟨0, 0⟩ ⟨0, 0⟩ HA2 HB2).mono ?_
      rintro e u' w'' ⟨rfl, rfl, rfl⟩
      exact ⟨_, run_results_ccc rfl rfl (by (show Hd _ (w.heap.size + 1) 23 #[.int .i64 0, .int .i64 0]); (with_reducible repeat' (first | assumption | (apply hdN; (try simp only [sA, sS, sD]); done) | apply hdA | apply hdD | apply hdS | (apply hdF; case hp => first | (simp; done) | (simp; omega)) | with_unfolding_all rfl))) Try.underlying23 rfl (by kernel_rfl) rfl (by (show Hd _ (w.heap.size + 2) 23 #[.int .i64 0, .int .i64 0]); (with_reducible repeat' (first | assumption | (apply hdN; (try simp only [sA, sS, sD]); done) | apply hdA | apply hdD | apply hdS | (apply hdF; case hp => first | (simp; done) | (simp; omega)) | with_unfolding_all rfl))) Try.underlying23 rfl (by kernel_rfl) rfl (by (show Hd _ (w.heap.size + 3) 26 #[.int .i64 (c2)]); (with_reducible repeat' (first | assumption | (apply hdN; (try simp only [sA, sS, sD]); done) | apply hdA | apply hdD | apply hdS | (apply hdF; case hp => first | (simp; done) | (simp; omega)) | with_unfolding_all rfl))) Try.underlying26, (by simp only [passCore, hs2, ebind_ok, ebind_err, epure]; rfl), by go_grown⟩
    replace hs2 := Lib.hid hs2
    go_wp2_with fail
    (try refine ⟨⟨HP, bw⟩, ?_⟩)
    repeat ((first | with_reducible apply eag_move | with_reducible apply eag_assign | ((with_reducible refine eag_soft (v := ?_) (fun w' hw' => ?_) ?_); rotate_left 1; (focus (obtain ⟨hP, hBw⟩ := hw'; obtain ⟨hcP, hfP⟩ := hP.facts; go_simp; (try with_reducible rfl); done)))); simp only [Act.put, Act.eval, List.setIfInBounds_toArray, List.set_cons_zero, List.set_cons_succ, Array.getD_eq_getD_getElem?, List.getElem?_toArray, List.getElem?_cons_zero, List.getElem?_cons_succ, Option.getD_some])
    refine eag_hard ?_
    go_wp2_with fail
    refine (power_any p.s10 f10 _).mono ?_
    intro e w3 hp
    obtain ⟨hb3, hcase⟩ := hp.cases
    clear hp
    replace bw : Below w.heap.size w w3 := below_next bw hb3
    replace HP := HP.call hb3
    replace HA := HA.call hb3
    replace HB := HB.call hb3
    replace HE := HE.call hb3
    have lw3 : w.heap.size ≤ w3.heap.size := bw.size
    clear hb3
    rcases hcase with ⟨s3, hs3, rfl⟩ | ⟨c3, hs3, rfl⟩
    rotate_left
    · have hc := o4_ne (En.o4_power _) hs3
      refine leaves_cons (f := 62) (args := #[.pointer (some ⟨w.heap.size + 3, 0, none⟩)]) (by simp) (by simp [go_sem]) ?_
      refine (guard_panicking _ _ _ _ HE).mono ?_
      rintro e u' w'' ⟨rfl, rfl, rfl⟩
      have HE2 : Hd ((w3.setCell ⟨w.heap.size + 3, 0, none⟩ (.int .i64 c3)).alloc (.cells #[.int .i64 c3] 106)) (w.heap.size + 3) 26 #[.int .i64 c3] := by (with_reducible repeat' (first | assumption | (apply hdN; (try simp only [sA, sS, sD]); done) | apply hdA | apply hdD | apply hdS | (apply hdF; case hp => first | (simp; done) | (simp; omega)) | with_unfolding_all rfl))
      have HA2 : Hd ((w3.setCell ⟨w.heap.size + 3, 0, none⟩ (.int .i64 c3)).alloc (.cells #[.int .i64 c3] 106)) (w.heap.size + 1) 23 #[.int .i64 0, .int .i64 0] := by (with_reducible repeat' (first | assumption | (apply hdN; (try simp only [sA, sS, sD]); done) | apply hdA | apply hdD | apply hdS | (apply hdF; case hp => first | (simp; done) | (simp; omega)) | with_unfolding_all rfl))
      have HB2 : Hd ((w3.setCell ⟨w.heap.size + 3, 0, none⟩ (.int .i64 c3)).alloc (.cells #[.int .i64 c3] 106)) (w.heap.size + 2) 23 #[.int .i64 0, .int .i64 0] := by (with_reducible repeat' (first | assumption | (apply hdN; (try simp only [sA, sS, sD]); done) | apply hdA | apply hdD | apply hdS | (apply hdF; case hp => first | (simp; done) | (simp; omega)) | with_unfolding_all rfl))
      refine leaves_cons (f := 91) (args := #[.pointer (some ⟨w.heap.size + 3, 0, none⟩), .pointer (some ⟨w.heap.size + 1, 0, none⟩), .pointer (some ⟨w.heap.size + 2, 0, none⟩)]) (by simp [settle]) (by simp [go_sem]) ?_
      refine (passes1_err _ _ _ (by omega) (by omega) (by omega) c3 hc _ HE2 ⟨0, 0⟩ ⟨0, 0⟩ HA2 HB2).mono ?_
      rintro e u' w'' ⟨rfl, rfl, rfl⟩
      exact ⟨_, run_results_ccc rfl rfl (by (show Hd _ (w.heap.size + 1) 23 #[.int .i64 0, .int .i64 0]); (with_reducible repeat' (first | assumption | (apply hdN; (try simp only [sA, sS, sD]); done) | apply hdA | apply hdD | apply hdS | (apply hdF; case hp => first | (simp; done) | (simp; omega)) | with_unfolding_all rfl))) Try.underlying23 rfl (by kernel_rfl) rfl (by (show Hd _ (w.heap.size + 2) 23 #[.int .i64 0, .int .i64 0]); (with_reducible repeat' (first | assumption | (apply hdN; (try simp only [sA, sS, sD]); done) | apply hdA | apply hdD | apply hdS | (apply hdF; case hp => first | (simp; done) | (simp; omega)) | with_unfolding_all rfl))) Try.underlying23 rfl (by kernel_rfl) rfl (by (show Hd _ (w.heap.size + 3) 26 #[.int .i64 (c3)]); (with_reducible repeat' (first | assumption | (apply hdN; (try simp only [sA, sS, sD]); done) | apply hdA | apply hdD | apply hdS | (apply hdF; case hp => first | (simp; done) | (simp; omega)) | with_unfolding_all rfl))) Try.underlying26, (by simp only [passCore, hs2.out, hs3, ebind_ok, ebind_err, epure]; rfl), by go_grown⟩
    replace hs3 := Lib.hid hs3
    go_wp2_with fail
    (try refine ⟨⟨HP, bw⟩, ?_⟩)
    repeat ((first | with_reducible apply eag_move | with_reducible apply eag_assign | ((with_reducible refine eag_soft (v := ?_) (fun w' hw' => ?_) ?_); rotate_left 1; (focus (obtain ⟨hP, hBw⟩ := hw'; obtain ⟨hcP, hfP⟩ := hP.facts; go_simp; (try with_reducible rfl); done)))); simp only [Act.put, Act.eval, List.setIfInBounds_toArray, List.set_cons_zero, List.set_cons_succ, Array.getD_eq_getD_getElem?, List.getElem?_toArray, List.getElem?_cons_zero, List.getElem?_cons_succ, Option.getD_some])
    refine eag_hard ?_
    go_wp2_with fail
    refine (add_any s2 s3 (En.Sp.fit_of_ok (En.power_ok hs2.out)) (En.Sp.fit_of_ok (En.power_ok hs3.out)) _).mono ?_
    intro e w4 hp
    obtain ⟨hb4, hcase⟩ := hp.cases
    clear hp
    replace bw : Below w.heap.size w w4 := below_next bw hb4
    replace HP := HP.call hb4
    replace HA := HA.call hb4
    replace HB := HB.call hb4
    replace HE := HE.call hb4
    have lw4 : w.heap.size ≤ w4.heap.size := bw.size
    clear hb4
    rcases hcase with ⟨s4, hs4, rfl⟩ | ⟨c4, hs4, rfl⟩
    rotate_left
    · have hc := o4_ne (En.o4_span _ _) hs4
      refine leaves_cons (f := 62) (args := #[.pointer (some ⟨w.heap.size + 3, 0, none⟩)]) (by simp) (by simp [go_sem]) ?_
      refine (guard_panicking _ _ _ _ HE).mono ?_
      rintro e u' w'' ⟨rfl, rfl, rfl⟩
      have HE2 : Hd ((w4.setCell ⟨w.heap.size + 3, 0, none⟩ (.int .i64 c4)).alloc (.cells #[.int .i64 c4] 106)) (w.heap.size + 3) 26 #[.int .i64 c4] := by (with_reducible repeat' (first | assumption | (apply hdN; (try simp only [sA, sS, sD]); done) | apply hdA | apply hdD | apply hdS | (apply hdF; case hp => first | (simp; done) | (simp; omega)) | with_unfolding_all rfl))
      have HA2 : Hd ((w4.setCell ⟨w.heap.size + 3, 0, none⟩ (.int .i64 c4)).alloc (.cells #[.int .i64 c4] 106)) (w.heap.size + 1) 23 #[.int .i64 0, .int .i64 0] := by (with_reducible repeat' (first | assumption | (apply hdN; (try simp only [sA, sS, sD]); done) | apply hdA | apply hdD | apply hdS | (apply hdF; case hp => first | (simp; done) | (simp; omega)) | with_unfolding_all rfl))
      have HB2 : Hd ((w4.setCell ⟨w.heap.size + 3, 0, none⟩ (.int .i64 c4)).alloc (.cells #[.int .i64 c4] 106)) (w.heap.size + 2) 23 #[.int .i64 0, .int .i64 0] := by (with_reducible repeat' (first | assumption | (apply hdN; (try simp only [sA, sS, sD]); done) | apply hdA | apply hdD | apply hdS | (apply hdF; case hp => first | (simp; done) | (simp; omega)) | with_unfolding_all rfl))
      refine leaves_cons (f := 91) (args := #[.pointer (some ⟨w.heap.size + 3, 0, none⟩), .pointer (some ⟨w.heap.size + 1, 0, none⟩), .pointer (some ⟨w.heap.size + 2, 0, none⟩)]) (by simp [settle]) (by simp [go_sem]) ?_
      refine (passes1_err _ _ _ (by omega) (by omega) (by omega) c4 hc _ HE2 ⟨0, 0⟩ ⟨0, 0⟩ HA2 HB2).mono ?_
      rintro e u' w'' ⟨rfl, rfl, rfl⟩
      exact ⟨_, run_results_ccc rfl rfl (by (show Hd _ (w.heap.size + 1) 23 #[.int .i64 0, .int .i64 0]); (with_reducible repeat' (first | assumption | (apply hdN; (try simp only [sA, sS, sD]); done) | apply hdA | apply hdD | apply hdS | (apply hdF; case hp => first | (simp; done) | (simp; omega)) | with_unfolding_all rfl))) Try.underlying23 rfl (by kernel_rfl) rfl (by (show Hd _ (w.heap.size + 2) 23 #[.int .i64 0, .int .i64 0]); (with_reducible repeat' (first | assumption | (apply hdN; (try simp only [sA, sS, sD]); done) | apply hdA | apply hdD | apply hdS | (apply hdF; case hp => first | (simp; done) | (simp; omega)) | with_unfolding_all rfl))) Try.underlying23 rfl (by kernel_rfl) rfl (by (show Hd _ (w.heap.size + 3) 26 #[.int .i64 (c4)]); (with_reducible repeat' (first | assumption | (apply hdN; (try simp only [sA, sS, sD]); done) | apply hdA | apply hdD | apply hdS | (apply hdF; case hp => first | (simp; done) | (simp; omega)) | with_unfolding_all rfl))) Try.underlying26, (by simp only [passCore, hs2.out, hs3.out, hs4, ebind_ok, ebind_err, epure]; rfl), by go_grown⟩
    replace hs4 := Lib.hid hs4
    go_wp2_with fail
    (try refine ⟨⟨HP, bw⟩, ?_⟩)
    repeat ((first | with_reducible apply eag_move | with_reducible apply eag_assign | ((with_reducible refine eag_soft (v := ?_) (fun w' hw' => ?_) ?_); rotate_left 1; (focus (obtain ⟨hP, hBw⟩ := hw'; obtain ⟨hcP, hfP⟩ := hP.facts; go_simp; (try with_reducible rfl); done)))); simp only [Act.put, Act.eval, List.setIfInBounds_toArray, List.set_cons_zero, List.set_cons_succ, Array.getD_eq_getD_getElem?, List.getElem?_toArray, List.getElem?_cons_zero, List.getElem?_cons_succ, Option.getD_some])
    obtain ⟨hcA, hfA⟩ := HA.facts
    refine eag_hard ?_
    go_wp2_with fail
    have PP := HP
    have PA := HA
    have PB := HB
    have PE := HE
    have Pbw := bw
    replace HP : Hd ((w4.setCell ⟨(w.heap.size + 1), 0, none⟩ (.int .i64 s4.lo)).setCell ⟨(w.heap.size + 1), 1, none⟩ (.int .i64 s4.hi)) w.heap.size 49 #[.int .i64 p.s00.re.lo, .int .i64 p.s00.re.hi, .int .i64 p.s00.im.lo, .int .i64 p.s00.im.hi, .int .i64 p.s01.re.lo, .int .i64 p.s01.re.hi, .int .i64 p.s01.im.lo, .int .i64 p.s01.im.hi, .int .i64 p.s10.re.lo, .int .i64 p.s10.re.hi, .int .i64 p.s10.im.lo, .int .i64 p.s10.im.hi, .int .i64 p.s11.re.lo, .int .i64 p.s11.re.hi, .int .i64 p.s11.im.lo, .int .i64 p.s11.im.hi] := by (with_reducible repeat' (first | assumption | (apply hdN; (try simp only [sA, sS, sD]); done) | apply hdA | apply hdD | apply hdS | (apply hdF; case hp => first | (simp; done) | (simp; omega)) | with_unfolding_all rfl))
    replace HA : Hd ((w4.setCell ⟨(w.heap.size + 1), 0, none⟩ (.int .i64 s4.lo)).setCell ⟨(w.heap.size + 1), 1, none⟩ (.int .i64 s4.hi)) (w.heap.size + 1) 23 #[.int .i64 s4.lo, .int .i64 s4.hi] := by (with_reducible repeat' (first | assumption | (apply hdN; (try simp only [sA, sS, sD]); done) | apply hdA | apply hdD | apply hdS | (apply hdF; case hp => first | (simp; done) | (simp; omega)) | with_unfolding_all rfl))
    replace HB : Hd ((w4.setCell ⟨(w.heap.size + 1), 0, none⟩ (.int .i64 s4.lo)).setCell ⟨(w.heap.size + 1), 1, none⟩ (.int .i64 s4.hi)) (w.heap.size + 2) 23 #[.int .i64 0, .int .i64 0] := by (with_reducible repeat' (first | assumption | (apply hdN; (try simp only [sA, sS, sD]); done) | apply hdA | apply hdD | apply hdS | (apply hdF; case hp => first | (simp; done) | (simp; omega)) | with_unfolding_all rfl))
    replace HE : Hd ((w4.setCell ⟨(w.heap.size + 1), 0, none⟩ (.int .i64 s4.lo)).setCell ⟨(w.heap.size + 1), 1, none⟩ (.int .i64 s4.hi)) (w.heap.size + 3) 26 #[.int .i64 0] := by (with_reducible repeat' (first | assumption | (apply hdN; (try simp only [sA, sS, sD]); done) | apply hdA | apply hdD | apply hdS | (apply hdF; case hp => first | (simp; done) | (simp; omega)) | with_unfolding_all rfl))
    replace bw : Below w.heap.size w ((w4.setCell ⟨(w.heap.size + 1), 0, none⟩ (.int .i64 s4.lo)).setCell ⟨(w.heap.size + 1), 1, none⟩ (.int .i64 s4.hi)) := by go_grown
    (try refine ⟨⟨HP, bw⟩, ?_⟩)
    repeat ((first | with_reducible apply eag_move | with_reducible apply eag_assign | ((with_reducible refine eag_soft (v := ?_) (fun w' hw' => ?_) ?_); rotate_left 1; (focus (obtain ⟨hP, hBw⟩ := hw'; obtain ⟨hcP, hfP⟩ := hP.facts; go_simp; (try with_reducible rfl); done)))); simp only [Act.put, Act.eval, List.setIfInBounds_toArray, List.set_cons_zero, List.set_cons_succ, Array.getD_eq_getD_getElem?, List.getElem?_toArray, List.getElem?_cons_zero, List.getElem?_cons_succ, Option.getD_some])
    refine eag_nil ?_
    generalize hW : (w4.setCell ⟨(w.heap.size + 1), 0, none⟩ (.int .i64 s4.lo)).setCell ⟨(w.heap.size + 1), 1, none⟩ (.int .i64 s4.hi) = w5 at HP HA HB HE bw ⊢
    clear hW
    have lw5 : w.heap.size ≤ w5.heap.size := bw.size
    go_upto_region 6 with fail
    replace HP : Hd (w5.drew) w.heap.size 49 #[.int .i64 p.s00.re.lo, .int .i64 p.s00.re.hi, .int .i64 p.s00.im.lo, .int .i64 p.s00.im.hi, .int .i64 p.s01.re.lo, .int .i64 p.s01.re.hi, .int .i64 p.s01.im.lo, .int .i64 p.s01.im.hi, .int .i64 p.s10.re.lo, .int .i64 p.s10.re.hi, .int .i64 p.s10.im.lo, .int .i64 p.s10.im.hi, .int .i64 p.s11.re.lo, .int .i64 p.s11.re.hi, .int .i64 p.s11.im.lo, .int .i64 p.s11.im.hi] := by (with_reducible repeat' (first | assumption | (apply hdN; (try simp only [sA, sS, sD]); done) | apply hdA | apply hdD | apply hdS | (apply hdF; case hp => first | (simp; done) | (simp; omega)) | with_unfolding_all rfl))
    replace HA : Hd (w5.drew) (w.heap.size + 1) 23 #[.int .i64 s4.lo, .int .i64 s4.hi] := by (with_reducible repeat' (first | assumption | (apply hdN; (try simp only [sA, sS, sD]); done) | apply hdA | apply hdD | apply hdS | (apply hdF; case hp => first | (simp; done) | (simp; omega)) | with_unfolding_all rfl))
    replace HB : Hd (w5.drew) (w.heap.size + 2) 23 #[.int .i64 0, .int .i64 0] := by (with_reducible repeat' (first | assumption | (apply hdN; (try simp only [sA, sS, sD]); done) | apply hdA | apply hdD | apply hdS | (apply hdF; case hp => first | (simp; done) | (simp; omega)) | with_unfolding_all rfl))
    replace HE : Hd (w5.drew) (w.heap.size + 3) 26 #[.int .i64 0] := by (with_reducible repeat' (first | assumption | (apply hdN; (try simp only [sA, sS, sD]); done) | apply hdA | apply hdD | apply hdS | (apply hdF; case hp => first | (simp; done) | (simp; omega)) | with_unfolding_all rfl))
    replace bw : Below w.heap.size w (w5.drew) := by go_grown
    (refine wp_region_eagD (fun w' => Hd w' w.heap.size 49 #[.int .i64 p.s00.re.lo, .int .i64 p.s00.re.hi, .int .i64 p.s00.im.lo, .int .i64 p.s00.im.hi, .int .i64 p.s01.re.lo, .int .i64 p.s01.re.hi, .int .i64 p.s01.im.lo, .int .i64 p.s01.im.hi, .int .i64 p.s10.re.lo, .int .i64 p.s10.re.hi, .int .i64 p.s10.im.lo, .int .i64 p.s10.im.hi, .int .i64 p.s11.re.lo, .int .i64 p.s11.re.hi, .int .i64 p.s11.im.lo, .int .i64 p.s11.im.hi] ∧ Below w.heap.size w w') 12 [(0, true), (1, true), (2, true), (3, true), (5, true), (6, true), (7, true), (8, true), (4, false), (9, false), (10, false), (11, false)] (by kernel_rfl) (by kernel_rfl) (fun c d v a w hd h => leaves_tmps (t := (Act.put a (some d) v).tmps) (fun w => results_ccc_put (fn := Try.f39) rfl (by omega) (by omega) (by omega) w) _ _ _ h) ⟨HP, bw⟩ ?_; simp only [List.map_cons, List.map_nil, List.getD_cons_zero, List.getD_cons_succ, flMark, Nat.reduceEqDiff, ↓reduceIte])
    repeat ((first | with_reducible apply eag_move | with_reducible apply eag_assign | ((with_reducible refine eag_soft (v := ?_) (fun w' hw' => ?_) ?_); rotate_left 1; (focus (obtain ⟨hP, hBw⟩ := hw'; obtain ⟨hcP, hfP⟩ := hP.facts; go_simp; (try with_reducible rfl); done)))); simp only [Act.put, Act.eval, List.setIfInBounds_toArray, List.set_cons_zero, List.set_cons_succ, Array.getD_eq_getD_getElem?, List.getElem?_toArray, List.getElem?_cons_zero, List.getElem?_cons_succ, Option.getD_some])
    refine eag_hard ?_
    go_wp2_with fail
    refine (power_any p.s01 f01 _).mono ?_
    intro e w6 hp
    obtain ⟨hb6, hcase⟩ := hp.cases
    clear hp
    replace bw : Below w.heap.size w w6 := below_next bw hb6
    replace HP := HP.call hb6
    replace HA := HA.call hb6
    replace HB := HB.call hb6
    replace HE := HE.call hb6
    have lw6 : w.heap.size ≤ w6.heap.size := bw.size
    clear hb6
    rcases hcase with ⟨s6, hs6, rfl⟩ | ⟨c6, hs6, rfl⟩
    rotate_left
    · have hc := o4_ne (En.o4_power _) hs6
      refine leaves_cons (f := 62) (args := #[.pointer (some ⟨w.heap.size + 3, 0, none⟩)]) (by simp) (by simp [go_sem]) ?_
      refine (guard_panicking _ _ _ _ HE).mono ?_
      rintro e u' w'' ⟨rfl, rfl, rfl⟩
      have HE2 : Hd ((w6.setCell ⟨w.heap.size + 3, 0, none⟩ (.int .i64 c6)).alloc (.cells #[.int .i64 c6] 106)) (w.heap.size + 3) 26 #[.int .i64 c6] := by (with_reducible repeat' (first | assumption | (apply hdN; (try simp only [sA, sS, sD]); done) | apply hdA | apply hdD | apply hdS | (apply hdF; case hp => first | (simp; done) | (simp; omega)) | with_unfolding_all rfl))
      have HA2 : Hd ((w6.setCell ⟨w.heap.size + 3, 0, none⟩ (.int .i64 c6)).alloc (.cells #[.int .i64 c6] 106)) (w.heap.size + 1) 23 #[.int .i64 s4.lo, .int .i64 s4.hi] := by (with_reducible repeat' (first | assumption | (apply hdN; (try simp only [sA, sS, sD]); done) | apply hdA | apply hdD | apply hdS | (apply hdF; case hp => first | (simp; done) | (simp; omega)) | with_unfolding_all rfl))
      have HB2 : Hd ((w6.setCell ⟨w.heap.size + 3, 0, none⟩ (.int .i64 c6)).alloc (.cells #[.int .i64 c6] 106)) (w.heap.size + 2) 23 #[.int .i64 0, .int .i64 0] := by (with_reducible repeat' (first | assumption | (apply hdN; (try simp only [sA, sS, sD]); done) | apply hdA | apply hdD | apply hdS | (apply hdF; case hp => first | (simp; done) | (simp; omega)) | with_unfolding_all rfl))
      refine leaves_cons (f := 91) (args := #[.pointer (some ⟨w.heap.size + 3, 0, none⟩), .pointer (some ⟨w.heap.size + 1, 0, none⟩), .pointer (some ⟨w.heap.size + 2, 0, none⟩)]) (by simp [settle]) (by simp [go_sem]) ?_
      refine (passes1_err _ _ _ (by omega) (by omega) (by omega) c6 hc _ HE2 s4 ⟨0, 0⟩ HA2 HB2).mono ?_
      rintro e u' w'' ⟨rfl, rfl, rfl⟩
      exact ⟨_, run_results_ccc rfl rfl (by (show Hd _ (w.heap.size + 1) 23 #[.int .i64 0, .int .i64 0]); (with_reducible repeat' (first | assumption | (apply hdN; (try simp only [sA, sS, sD]); done) | apply hdA | apply hdD | apply hdS | (apply hdF; case hp => first | (simp; done) | (simp; omega)) | with_unfolding_all rfl))) Try.underlying23 rfl (by kernel_rfl) rfl (by (show Hd _ (w.heap.size + 2) 23 #[.int .i64 0, .int .i64 0]); (with_reducible repeat' (first | assumption | (apply hdN; (try simp only [sA, sS, sD]); done) | apply hdA | apply hdD | apply hdS | (apply hdF; case hp => first | (simp; done) | (simp; omega)) | with_unfolding_all rfl))) Try.underlying23 rfl (by kernel_rfl) rfl (by (show Hd _ (w.heap.size + 3) 26 #[.int .i64 (c6)]); (with_reducible repeat' (first | assumption | (apply hdN; (try simp only [sA, sS, sD]); done) | apply hdA | apply hdD | apply hdS | (apply hdF; case hp => first | (simp; done) | (simp; omega)) | with_unfolding_all rfl))) Try.underlying26, (by simp only [passCore, hs2.out, hs3.out, hs4.out, hs6, ebind_ok, ebind_err, epure]; rfl), by go_grown⟩
    replace hs6 := Lib.hid hs6
    go_wp2_with fail
    (try refine ⟨⟨HP, bw⟩, ?_⟩)
    repeat ((first | with_reducible apply eag_move | with_reducible apply eag_assign | ((with_reducible refine eag_soft (v := ?_) (fun w' hw' => ?_) ?_); rotate_left 1; (focus (obtain ⟨hP, hBw⟩ := hw'; obtain ⟨hcP, hfP⟩ := hP.facts; go_simp; (try with_reducible rfl); done)))); simp only [Act.put, Act.eval, List.setIfInBounds_toArray, List.set_cons_zero, List.set_cons_succ, Array.getD_eq_getD_getElem?, List.getElem?_toArray, List.getElem?_cons_zero, List.getElem?_cons_succ, Option.getD_some])
    refine eag_hard ?_
    go_wp2_with fail
    refine (power_any p.s11 f11 _).mono ?_
    intro e w7 hp
    obtain ⟨hb7, hcase⟩ := hp.cases
    clear hp
    replace bw : Below w.heap.size w w7 := below_next bw hb7
    replace HP := HP.call hb7
    replace HA := HA.call hb7
    replace HB := HB.call hb7
    replace HE := HE.call hb7
    have lw7 : w.heap.size ≤ w7.heap.size := bw.size
    clear hb7
    rcases hcase with ⟨s7, hs7, rfl⟩ | ⟨c7, hs7, rfl⟩
    rotate_left
    · have hc := o4_ne (En.o4_power _) hs7
      refine leaves_cons (f := 62) (args := #[.pointer (some ⟨w.heap.size + 3, 0, none⟩)]) (by simp) (by simp [go_sem]) ?_
      refine (guard_panicking _ _ _ _ HE).mono ?_
      rintro e u' w'' ⟨rfl, rfl, rfl⟩
      have HE2 : Hd ((w7.setCell ⟨w.heap.size + 3, 0, none⟩ (.int .i64 c7)).alloc (.cells #[.int .i64 c7] 106)) (w.heap.size + 3) 26 #[.int .i64 c7] := by (with_reducible repeat' (first | assumption | (apply hdN; (try simp only [sA, sS, sD]); done) | apply hdA | apply hdD | apply hdS | (apply hdF; case hp => first | (simp; done) | (simp; omega)) | with_unfolding_all rfl))
      have HA2 : Hd ((w7.setCell ⟨w.heap.size + 3, 0, none⟩ (.int .i64 c7)).alloc (.cells #[.int .i64 c7] 106)) (w.heap.size + 1) 23 #[.int .i64 s4.lo, .int .i64 s4.hi] := by (with_reducible repeat' (first | assumption | (apply hdN; (try simp only [sA, sS, sD]); done) | apply hdA | apply hdD | apply hdS | (apply hdF; case hp => first | (simp; done) | (simp; omega)) | with_unfolding_all rfl))
      have HB2 : Hd ((w7.setCell ⟨w.heap.size + 3, 0, none⟩ (.int .i64 c7)).alloc (.cells #[.int .i64 c7] 106)) (w.heap.size + 2) 23 #[.int .i64 0, .int .i64 0] := by (with_reducible repeat' (first | assumption | (apply hdN; (try simp only [sA, sS, sD]); done) | apply hdA | apply hdD | apply hdS | (apply hdF; case hp => first | (simp; done) | (simp; omega)) | with_unfolding_all rfl))
      refine leaves_cons (f := 91) (args := #[.pointer (some ⟨w.heap.size + 3, 0, none⟩), .pointer (some ⟨w.heap.size + 1, 0, none⟩), .pointer (some ⟨w.heap.size + 2, 0, none⟩)]) (by simp [settle]) (by simp [go_sem]) ?_
      refine (passes1_err _ _ _ (by omega) (by omega) (by omega) c7 hc _ HE2 s4 ⟨0, 0⟩ HA2 HB2).mono ?_
      rintro e u' w'' ⟨rfl, rfl, rfl⟩
      exact ⟨_, run_results_ccc rfl rfl (by (show Hd _ (w.heap.size + 1) 23 #[.int .i64 0, .int .i64 0]); (with_reducible repeat' (first | assumption | (apply hdN; (try simp only [sA, sS, sD]); done) | apply hdA | apply hdD | apply hdS | (apply hdF; case hp => first | (simp; done) | (simp; omega)) | with_unfolding_all rfl))) Try.underlying23 rfl (by kernel_rfl) rfl (by (show Hd _ (w.heap.size + 2) 23 #[.int .i64 0, .int .i64 0]); (with_reducible repeat' (first | assumption | (apply hdN; (try simp only [sA, sS, sD]); done) | apply hdA | apply hdD | apply hdS | (apply hdF; case hp => first | (simp; done) | (simp; omega)) | with_unfolding_all rfl))) Try.underlying23 rfl (by kernel_rfl) rfl (by (show Hd _ (w.heap.size + 3) 26 #[.int .i64 (c7)]); (with_reducible repeat' (first | assumption | (apply hdN; (try simp only [sA, sS, sD]); done) | apply hdA | apply hdD | apply hdS | (apply hdF; case hp => first | (simp; done) | (simp; omega)) | with_unfolding_all rfl))) Try.underlying26, (by simp only [passCore, hs2.out, hs3.out, hs4.out, hs6.out, hs7, ebind_ok, ebind_err, epure]; rfl), by go_grown⟩
    replace hs7 := Lib.hid hs7
    go_wp2_with fail
    (try refine ⟨⟨HP, bw⟩, ?_⟩)
    repeat ((first | with_reducible apply eag_move | with_reducible apply eag_assign | ((with_reducible refine eag_soft (v := ?_) (fun w' hw' => ?_) ?_); rotate_left 1; (focus (obtain ⟨hP, hBw⟩ := hw'; obtain ⟨hcP, hfP⟩ := hP.facts; go_simp; (try with_reducible rfl); done)))); simp only [Act.put, Act.eval, List.setIfInBounds_toArray, List.set_cons_zero, List.set_cons_succ, Array.getD_eq_getD_getElem?, List.getElem?_toArray, List.getElem?_cons_zero, List.getElem?_cons_succ, Option.getD_some])
    refine eag_hard ?_
    go_wp2_with fail
    refine (add_any s6 s7 (En.Sp.fit_of_ok (En.power_ok hs6.out)) (En.Sp.fit_of_ok (En.power_ok hs7.out)) _).mono ?_
    intro e w8 hp
    obtain ⟨hb8, hcase⟩ := hp.cases
    clear hp
    replace bw : Below w.heap.size w w8 := below_next bw hb8
    replace HP := HP.call hb8
    replace HA := HA.call hb8
    replace HB := HB.call hb8
    replace HE := HE.call hb8
    have lw8 : w.heap.size ≤ w8.heap.size := bw.size
    clear hb8
    rcases hcase with ⟨s8, hs8, rfl⟩ | ⟨c8, hs8, rfl⟩
    rotate_left
    · have hc := o4_ne (En.o4_span _ _) hs8
      refine leaves_cons (f := 62) (args := #[.pointer (some ⟨w.heap.size + 3, 0, none⟩)]) (by simp) (by simp [go_sem]) ?_
      refine (guard_panicking _ _ _ _ HE).mono ?_
      rintro e u' w'' ⟨rfl, rfl, rfl⟩
      have HE2 : Hd ((w8.setCell ⟨w.heap.size + 3, 0, none⟩ (.int .i64 c8)).alloc (.cells #[.int .i64 c8] 106)) (w.heap.size + 3) 26 #[.int .i64 c8] := by (with_reducible repeat' (first | assumption | (apply hdN; (try simp only [sA, sS, sD]); done) | apply hdA | apply hdD | apply hdS | (apply hdF; case hp => first | (simp; done) | (simp; omega)) | with_unfolding_all rfl))
      have HA2 : Hd ((w8.setCell ⟨w.heap.size + 3, 0, none⟩ (.int .i64 c8)).alloc (.cells #[.int .i64 c8] 106)) (w.heap.size + 1) 23 #[.int .i64 s4.lo, .int .i64 s4.hi] := by (with_reducible repeat' (first | assumption | (apply hdN; (try simp only [sA, sS, sD]); done) | apply hdA | apply hdD | apply hdS | (apply hdF; case hp => first | (simp; done) | (simp; omega)) | with_unfolding_all rfl))
      have HB2 : Hd ((w8.setCell ⟨w.heap.size + 3, 0, none⟩ (.int .i64 c8)).alloc (.cells #[.int .i64 c8] 106)) (w.heap.size + 2) 23 #[.int .i64 0, .int .i64 0] := by (with_reducible repeat' (first | assumption | (apply hdN; (try simp only [sA, sS, sD]); done) | apply hdA | apply hdD | apply hdS | (apply hdF; case hp => first | (simp; done) | (simp; omega)) | with_unfolding_all rfl))
      refine leaves_cons (f := 91) (args := #[.pointer (some ⟨w.heap.size + 3, 0, none⟩), .pointer (some ⟨w.heap.size + 1, 0, none⟩), .pointer (some ⟨w.heap.size + 2, 0, none⟩)]) (by simp [settle]) (by simp [go_sem]) ?_
      refine (passes1_err _ _ _ (by omega) (by omega) (by omega) c8 hc _ HE2 s4 ⟨0, 0⟩ HA2 HB2).mono ?_
      rintro e u' w'' ⟨rfl, rfl, rfl⟩
      exact ⟨_, run_results_ccc rfl rfl (by (show Hd _ (w.heap.size + 1) 23 #[.int .i64 0, .int .i64 0]); (with_reducible repeat' (first | assumption | (apply hdN; (try simp only [sA, sS, sD]); done) | apply hdA | apply hdD | apply hdS | (apply hdF; case hp => first | (simp; done) | (simp; omega)) | with_unfolding_all rfl))) Try.underlying23 rfl (by kernel_rfl) rfl (by (show Hd _ (w.heap.size + 2) 23 #[.int .i64 0, .int .i64 0]); (with_reducible repeat' (first | assumption | (apply hdN; (try simp only [sA, sS, sD]); done) | apply hdA | apply hdD | apply hdS | (apply hdF; case hp => first | (simp; done) | (simp; omega)) | with_unfolding_all rfl))) Try.underlying23 rfl (by kernel_rfl) rfl (by (show Hd _ (w.heap.size + 3) 26 #[.int .i64 (c8)]); (with_reducible repeat' (first | assumption | (apply hdN; (try simp only [sA, sS, sD]); done) | apply hdA | apply hdD | apply hdS | (apply hdF; case hp => first | (simp; done) | (simp; omega)) | with_unfolding_all rfl))) Try.underlying26, (by simp only [passCore, hs2.out, hs3.out, hs4.out, hs6.out, hs7.out, hs8, ebind_ok, ebind_err, epure]; rfl), by go_grown⟩
    replace hs8 := Lib.hid hs8
    go_wp2_with fail
    (try refine ⟨⟨HP, bw⟩, ?_⟩)
    repeat ((first | with_reducible apply eag_move | with_reducible apply eag_assign | ((with_reducible refine eag_soft (v := ?_) (fun w' hw' => ?_) ?_); rotate_left 1; (focus (obtain ⟨hP, hBw⟩ := hw'; obtain ⟨hcP, hfP⟩ := hP.facts; go_simp; (try with_reducible rfl); done)))); simp only [Act.put, Act.eval, List.setIfInBounds_toArray, List.set_cons_zero, List.set_cons_succ, Array.getD_eq_getD_getElem?, List.getElem?_toArray, List.getElem?_cons_zero, List.getElem?_cons_succ, Option.getD_some])
    obtain ⟨hcB, hfB⟩ := HB.facts
    refine eag_hard ?_
    go_wp2_with fail
    have PP := HP
    have PA := HA
    have PB := HB
    have PE := HE
    have Pbw := bw
    replace HP : Hd ((w8.setCell ⟨(w.heap.size + 2), 0, none⟩ (.int .i64 s8.lo)).setCell ⟨(w.heap.size + 2), 1, none⟩ (.int .i64 s8.hi)) w.heap.size 49 #[.int .i64 p.s00.re.lo, .int .i64 p.s00.re.hi, .int .i64 p.s00.im.lo, .int .i64 p.s00.im.hi, .int .i64 p.s01.re.lo, .int .i64 p.s01.re.hi, .int .i64 p.s01.im.lo, .int .i64 p.s01.im.hi, .int .i64 p.s10.re.lo, .int .i64 p.s10.re.hi, .int .i64 p.s10.im.lo, .int .i64 p.s10.im.hi, .int .i64 p.s11.re.lo, .int .i64 p.s11.re.hi, .int .i64 p.s11.im.lo, .int .i64 p.s11.im.hi] := by (with_reducible repeat' (first | assumption | (apply hdN; (try simp only [sA, sS, sD]); done) | apply hdA | apply hdD | apply hdS | (apply hdF; case hp => first | (simp; done) | (simp; omega)) | with_unfolding_all rfl))
    replace HA : Hd ((w8.setCell ⟨(w.heap.size + 2), 0, none⟩ (.int .i64 s8.lo)).setCell ⟨(w.heap.size + 2), 1, none⟩ (.int .i64 s8.hi)) (w.heap.size + 1) 23 #[.int .i64 s4.lo, .int .i64 s4.hi] := by (with_reducible repeat' (first | assumption | (apply hdN; (try simp only [sA, sS, sD]); done) | apply hdA | apply hdD | apply hdS | (apply hdF; case hp => first | (simp; done) | (simp; omega)) | with_unfolding_all rfl))
    replace HB : Hd ((w8.setCell ⟨(w.heap.size + 2), 0, none⟩ (.int .i64 s8.lo)).setCell ⟨(w.heap.size + 2), 1, none⟩ (.int .i64 s8.hi)) (w.heap.size + 2) 23 #[.int .i64 s8.lo, .int .i64 s8.hi] := by (with_reducible repeat' (first | assumption | (apply hdN; (try simp only [sA, sS, sD]); done) | apply hdA | apply hdD | apply hdS | (apply hdF; case hp => first | (simp; done) | (simp; omega)) | with_unfolding_all rfl))
    replace HE : Hd ((w8.setCell ⟨(w.heap.size + 2), 0, none⟩ (.int .i64 s8.lo)).setCell ⟨(w.heap.size + 2), 1, none⟩ (.int .i64 s8.hi)) (w.heap.size + 3) 26 #[.int .i64 0] := by (with_reducible repeat' (first | assumption | (apply hdN; (try simp only [sA, sS, sD]); done) | apply hdA | apply hdD | apply hdS | (apply hdF; case hp => first | (simp; done) | (simp; omega)) | with_unfolding_all rfl))
    replace bw : Below w.heap.size w ((w8.setCell ⟨(w.heap.size + 2), 0, none⟩ (.int .i64 s8.lo)).setCell ⟨(w.heap.size + 2), 1, none⟩ (.int .i64 s8.hi)) := by go_grown
    (try refine ⟨⟨HP, bw⟩, ?_⟩)
    repeat ((first | with_reducible apply eag_move | with_reducible apply eag_assign | ((with_reducible refine eag_soft (v := ?_) (fun w' hw' => ?_) ?_); rotate_left 1; (focus (obtain ⟨hP, hBw⟩ := hw'; obtain ⟨hcP, hfP⟩ := hP.facts; go_simp; (try with_reducible rfl); done)))); simp only [Act.put, Act.eval, List.setIfInBounds_toArray, List.set_cons_zero, List.set_cons_succ, Array.getD_eq_getD_getElem?, List.getElem?_toArray, List.getElem?_cons_zero, List.getElem?_cons_succ, Option.getD_some])
    refine eag_nil ?_
    generalize hW : (w8.setCell ⟨(w.heap.size + 2), 0, none⟩ (.int .i64 s8.lo)).setCell ⟨(w.heap.size + 2), 1, none⟩ (.int .i64 s8.hi) = w9 at HP HA HB HE bw ⊢
    clear hW
    have lw9 : w.heap.size ≤ w9.heap.size := bw.size
    go_upto_region 7 with fail
    replace HP : Hd (w9.drew) w.heap.size 49 #[.int .i64 p.s00.re.lo, .int .i64 p.s00.re.hi, .int .i64 p.s00.im.lo, .int .i64 p.s00.im.hi, .int .i64 p.s01.re.lo, .int .i64 p.s01.re.hi, .int .i64 p.s01.im.lo, .int .i64 p.s01.im.hi, .int .i64 p.s10.re.lo, .int .i64 p.s10.re.hi, .int .i64 p.s10.im.lo, .int .i64 p.s10.im.hi, .int .i64 p.s11.re.lo, .int .i64 p.s11.re.hi, .int .i64 p.s11.im.lo, .int .i64 p.s11.im.hi] := by (with_reducible repeat' (first | assumption | (apply hdN; (try simp only [sA, sS, sD]); done) | apply hdA | apply hdD | apply hdS | (apply hdF; case hp => first | (simp; done) | (simp; omega)) | with_unfolding_all rfl))
    replace HA : Hd (w9.drew) (w.heap.size + 1) 23 #[.int .i64 s4.lo, .int .i64 s4.hi] := by (with_reducible repeat' (first | assumption | (apply hdN; (try simp only [sA, sS, sD]); done) | apply hdA | apply hdD | apply hdS | (apply hdF; case hp => first | (simp; done) | (simp; omega)) | with_unfolding_all rfl))
    replace HB : Hd (w9.drew) (w.heap.size + 2) 23 #[.int .i64 s8.lo, .int .i64 s8.hi] := by (with_reducible repeat' (first | assumption | (apply hdN; (try simp only [sA, sS, sD]); done) | apply hdA | apply hdD | apply hdS | (apply hdF; case hp => first | (simp; done) | (simp; omega)) | with_unfolding_all rfl))
    replace HE : Hd (w9.drew) (w.heap.size + 3) 26 #[.int .i64 0] := by (with_reducible repeat' (first | assumption | (apply hdN; (try simp only [sA, sS, sD]); done) | apply hdA | apply hdD | apply hdS | (apply hdF; case hp => first | (simp; done) | (simp; omega)) | with_unfolding_all rfl))
    replace bw : Below w.heap.size w (w9.drew) := by go_grown
    (refine wp_region_eagD (fun w' => Hd w' (w.heap.size + 1) 23 #[.int .i64 s4.lo, .int .i64 s4.hi] ∧ Hd w' (w.heap.size + 2) 23 #[.int .i64 s8.lo, .int .i64 s8.hi] ∧ Below w.heap.size w w') 12 [(0, true), (1, true), (2, false), (3, false), (4, false)] (by kernel_rfl) (by kernel_rfl) (fun c d v a w hd h => leaves_tmps (t := (Act.put a (some d) v).tmps) (fun w => results_ccc_put (fn := Try.f39) rfl (by omega) (by omega) (by omega) w) _ _ _ h) ⟨HA, HB, bw⟩ ?_; simp only [List.map_cons, List.map_nil, List.getD_cons_zero, List.getD_cons_succ, flMark, Nat.reduceEqDiff, ↓reduceIte])
    repeat ((first | with_reducible apply eag_move | with_reducible apply eag_assign | ((with_reducible refine eag_soft (v := ?_) (fun w' hw' => ?_) ?_); rotate_left 1; (focus (obtain ⟨hA, hB, hBw⟩ := hw'; obtain ⟨hcA, hfA⟩ := hA.facts; obtain ⟨hcB, hfB⟩ := hB.facts; go_simp; (try with_reducible rfl); done)))); simp only [Act.put, Act.eval, List.setIfInBounds_toArray, List.set_cons_zero, List.set_cons_succ, Array.getD_eq_getD_getElem?, List.getElem?_toArray, List.getElem?_cons_zero, List.getElem?_cons_succ, Option.getD_some])
    generalize hW : w9.drew = w10 at HP HA HB HE bw ⊢
    clear hW
    have lw10 : w.heap.size ≤ w10.heap.size := bw.size
    obtain ⟨hcA, hfA⟩ := HA.facts
    refine eag_hard ?_
    go_wp2_with fail
    have PP := HP
    have PA := HA
    have PB := HB
    have PE := HE
    have Pbw := bw
    replace HP : Hd ((w10.setCell ⟨(w.heap.size + 1), 0, none⟩ (.int .i64 s4.lo)).setCell ⟨(w.heap.size + 1), 1, none⟩ (.int .i64 s4.hi)) w.heap.size 49 #[.int .i64 p.s00.re.lo, .int .i64 p.s00.re.hi, .int .i64 p.s00.im.lo, .int .i64 p.s00.im.hi, .int .i64 p.s01.re.lo, .int .i64 p.s01.re.hi, .int .i64 p.s01.im.lo, .int .i64 p.s01.im.hi, .int .i64 p.s10.re.lo, .int .i64 p.s10.re.hi, .int .i64 p.s10.im.lo, .int .i64 p.s10.im.hi, .int .i64 p.s11.re.lo, .int .i64 p.s11.re.hi, .int .i64 p.s11.im.lo, .int .i64 p.s11.im.hi] := by (with_reducible repeat' (first | assumption | (apply hdN; (try simp only [sA, sS, sD]); done) | apply hdA | apply hdD | apply hdS | (apply hdF; case hp => first | (simp; done) | (simp; omega)) | with_unfolding_all rfl))
    replace HA : Hd ((w10.setCell ⟨(w.heap.size + 1), 0, none⟩ (.int .i64 s4.lo)).setCell ⟨(w.heap.size + 1), 1, none⟩ (.int .i64 s4.hi)) (w.heap.size + 1) 23 #[.int .i64 s4.lo, .int .i64 s4.hi] := by (with_reducible repeat' (first | assumption | (apply hdN; (try simp only [sA, sS, sD]); done) | apply hdA | apply hdD | apply hdS | (apply hdF; case hp => first | (simp; done) | (simp; omega)) | with_unfolding_all rfl))
    replace HB : Hd ((w10.setCell ⟨(w.heap.size + 1), 0, none⟩ (.int .i64 s4.lo)).setCell ⟨(w.heap.size + 1), 1, none⟩ (.int .i64 s4.hi)) (w.heap.size + 2) 23 #[.int .i64 s8.lo, .int .i64 s8.hi] := by (with_reducible repeat' (first | assumption | (apply hdN; (try simp only [sA, sS, sD]); done) | apply hdA | apply hdD | apply hdS | (apply hdF; case hp => first | (simp; done) | (simp; omega)) | with_unfolding_all rfl))
    replace HE : Hd ((w10.setCell ⟨(w.heap.size + 1), 0, none⟩ (.int .i64 s4.lo)).setCell ⟨(w.heap.size + 1), 1, none⟩ (.int .i64 s4.hi)) (w.heap.size + 3) 26 #[.int .i64 0] := by (with_reducible repeat' (first | assumption | (apply hdN; (try simp only [sA, sS, sD]); done) | apply hdA | apply hdD | apply hdS | (apply hdF; case hp => first | (simp; done) | (simp; omega)) | with_unfolding_all rfl))
    replace bw : Below w.heap.size w ((w10.setCell ⟨(w.heap.size + 1), 0, none⟩ (.int .i64 s4.lo)).setCell ⟨(w.heap.size + 1), 1, none⟩ (.int .i64 s4.hi)) := by go_grown
    (try refine ⟨⟨HA, HB, bw⟩, ?_⟩)
    repeat ((first | with_reducible apply eag_move | with_reducible apply eag_assign | ((with_reducible refine eag_soft (v := ?_) (fun w' hw' => ?_) ?_); rotate_left 1; (focus (obtain ⟨hA, hB, hBw⟩ := hw'; obtain ⟨hcA, hfA⟩ := hA.facts; obtain ⟨hcB, hfB⟩ := hB.facts; go_simp; (try with_reducible rfl); done)))); simp only [Act.put, Act.eval, List.setIfInBounds_toArray, List.set_cons_zero, List.set_cons_succ, Array.getD_eq_getD_getElem?, List.getElem?_toArray, List.getElem?_cons_zero, List.getElem?_cons_succ, Option.getD_some])
    generalize hW : (w10.setCell ⟨(w.heap.size + 1), 0, none⟩ (.int .i64 s4.lo)).setCell ⟨(w.heap.size + 1), 1, none⟩ (.int .i64 s4.hi) = w11 at HP HA HB HE bw ⊢
    clear hW
    have lw11 : w.heap.size ≤ w11.heap.size := bw.size
    obtain ⟨hcB, hfB⟩ := HB.facts
    refine eag_hard ?_
    go_wp2_with fail
    have PP := HP
    have PA := HA
    have PB := HB
    have PE := HE
    have Pbw := bw
    replace HP : Hd ((w11.setCell ⟨(w.heap.size + 2), 0, none⟩ (.int .i64 s8.lo)).setCell ⟨(w.heap.size + 2), 1, none⟩ (.int .i64 s8.hi)) w.heap.size 49 #[.int .i64 p.s00.re.lo, .int .i64 p.s00.re.hi, .int .i64 p.s00.im.lo, .int .i64 p.s00.im.hi, .int .i64 p.s01.re.lo, .int .i64 p.s01.re.hi, .int .i64 p.s01.im.lo, .int .i64 p.s01.im.hi, .int .i64 p.s10.re.lo, .int .i64 p.s10.re.hi, .int .i64 p.s10.im.lo, .int .i64 p.s10.im.hi, .int .i64 p.s11.re.lo, .int .i64 p.s11.re.hi, .int .i64 p.s11.im.lo, .int .i64 p.s11.im.hi] := by (with_reducible repeat' (first | assumption | (apply hdN; (try simp only [sA, sS, sD]); done) | apply hdA | apply hdD | apply hdS | (apply hdF; case hp => first | (simp; done) | (simp; omega)) | with_unfolding_all rfl))
    replace HA : Hd ((w11.setCell ⟨(w.heap.size + 2), 0, none⟩ (.int .i64 s8.lo)).setCell ⟨(w.heap.size + 2), 1, none⟩ (.int .i64 s8.hi)) (w.heap.size + 1) 23 #[.int .i64 s4.lo, .int .i64 s4.hi] := by (with_reducible repeat' (first | assumption | (apply hdN; (try simp only [sA, sS, sD]); done) | apply hdA | apply hdD | apply hdS | (apply hdF; case hp => first | (simp; done) | (simp; omega)) | with_unfolding_all rfl))
    replace HB : Hd ((w11.setCell ⟨(w.heap.size + 2), 0, none⟩ (.int .i64 s8.lo)).setCell ⟨(w.heap.size + 2), 1, none⟩ (.int .i64 s8.hi)) (w.heap.size + 2) 23 #[.int .i64 s8.lo, .int .i64 s8.hi] := by (with_reducible repeat' (first | assumption | (apply hdN; (try simp only [sA, sS, sD]); done) | apply hdA | apply hdD | apply hdS | (apply hdF; case hp => first | (simp; done) | (simp; omega)) | with_unfolding_all rfl))
    replace HE : Hd ((w11.setCell ⟨(w.heap.size + 2), 0, none⟩ (.int .i64 s8.lo)).setCell ⟨(w.heap.size + 2), 1, none⟩ (.int .i64 s8.hi)) (w.heap.size + 3) 26 #[.int .i64 0] := by (with_reducible repeat' (first | assumption | (apply hdN; (try simp only [sA, sS, sD]); done) | apply hdA | apply hdD | apply hdS | (apply hdF; case hp => first | (simp; done) | (simp; omega)) | with_unfolding_all rfl))
    replace bw : Below w.heap.size w ((w11.setCell ⟨(w.heap.size + 2), 0, none⟩ (.int .i64 s8.lo)).setCell ⟨(w.heap.size + 2), 1, none⟩ (.int .i64 s8.hi)) := by go_grown
    (try refine ⟨⟨HA, HB, bw⟩, ?_⟩)
    repeat ((first | with_reducible apply eag_move | with_reducible apply eag_assign | ((with_reducible refine eag_soft (v := ?_) (fun w' hw' => ?_) ?_); rotate_left 1; (focus (obtain ⟨hA, hB, hBw⟩ := hw'; obtain ⟨hcA, hfA⟩ := hA.facts; obtain ⟨hcB, hfB⟩ := hB.facts; go_simp; (try with_reducible rfl); done)))); simp only [Act.put, Act.eval, List.setIfInBounds_toArray, List.set_cons_zero, List.set_cons_succ, Array.getD_eq_getD_getElem?, List.getElem?_toArray, List.getElem?_cons_zero, List.getElem?_cons_succ, Option.getD_some])
    generalize hW : (w11.setCell ⟨(w.heap.size + 2), 0, none⟩ (.int .i64 s8.lo)).setCell ⟨(w.heap.size + 2), 1, none⟩ (.int .i64 s8.hi) = w12 at HP HA HB HE bw ⊢
    clear hW
    have lw12 : w.heap.size ≤ w12.heap.size := bw.size
    obtain ⟨hcE, hfE⟩ := HE.facts
    refine eag_hard ?_
    go_wp2_with fail
    have PP := HP
    have PA := HA
    have PB := HB
    have PE := HE
    have Pbw := bw
    replace HP : Hd (w12.setCell ⟨(w.heap.size + 3), 0, none⟩ (.int .i64 0)) w.heap.size 49 #[.int .i64 p.s00.re.lo, .int .i64 p.s00.re.hi, .int .i64 p.s00.im.lo, .int .i64 p.s00.im.hi, .int .i64 p.s01.re.lo, .int .i64 p.s01.re.hi, .int .i64 p.s01.im.lo, .int .i64 p.s01.im.hi, .int .i64 p.s10.re.lo, .int .i64 p.s10.re.hi, .int .i64 p.s10.im.lo, .int .i64 p.s10.im.hi, .int .i64 p.s11.re.lo, .int .i64 p.s11.re.hi, .int .i64 p.s11.im.lo, .int .i64 p.s11.im.hi] := by (with_reducible repeat' (first | assumption | (apply hdN; (try simp only [sA, sS, sD]); done) | apply hdA | apply hdD | apply hdS | (apply hdF; case hp => first | (simp; done) | (simp; omega)) | with_unfolding_all rfl))
    replace HA : Hd (w12.setCell ⟨(w.heap.size + 3), 0, none⟩ (.int .i64 0)) (w.heap.size + 1) 23 #[.int .i64 s4.lo, .int .i64 s4.hi] := by (with_reducible repeat' (first | assumption | (apply hdN; (try simp only [sA, sS, sD]); done) | apply hdA | apply hdD | apply hdS | (apply hdF; case hp => first | (simp; done) | (simp; omega)) | with_unfolding_all rfl))
    replace HB : Hd (w12.setCell ⟨(w.heap.size + 3), 0, none⟩ (.int .i64 0)) (w.heap.size + 2) 23 #[.int .i64 s8.lo, .int .i64 s8.hi] := by (with_reducible repeat' (first | assumption | (apply hdN; (try simp only [sA, sS, sD]); done) | apply hdA | apply hdD | apply hdS | (apply hdF; case hp => first | (simp; done) | (simp; omega)) | with_unfolding_all rfl))
    replace HE : Hd (w12.setCell ⟨(w.heap.size + 3), 0, none⟩ (.int .i64 0)) (w.heap.size + 3) 26 #[.int .i64 0] := by (with_reducible repeat' (first | assumption | (apply hdN; (try simp only [sA, sS, sD]); done) | apply hdA | apply hdD | apply hdS | (apply hdF; case hp => first | (simp; done) | (simp; omega)) | with_unfolding_all rfl))
    replace bw : Below w.heap.size w (w12.setCell ⟨(w.heap.size + 3), 0, none⟩ (.int .i64 0)) := by go_grown
    (try refine ⟨⟨HA, HB, bw⟩, ?_⟩)
    repeat ((first | with_reducible apply eag_move | with_reducible apply eag_assign | ((with_reducible refine eag_soft (v := ?_) (fun w' hw' => ?_) ?_); rotate_left 1; (focus (obtain ⟨hA, hB, hBw⟩ := hw'; obtain ⟨hcA, hfA⟩ := hA.facts; obtain ⟨hcB, hfB⟩ := hB.facts; go_simp; (try with_reducible rfl); done)))); simp only [Act.put, Act.eval, List.setIfInBounds_toArray, List.set_cons_zero, List.set_cons_succ, Array.getD_eq_getD_getElem?, List.getElem?_toArray, List.getElem?_cons_zero, List.getElem?_cons_succ, Option.getD_some])
    refine eag_nil ?_
    generalize hW : w12.setCell ⟨(w.heap.size + 3), 0, none⟩ (.int .i64 0) = w13 at HP HA HB HE bw ⊢
    clear hW
    have lw13 : w.heap.size ≤ w13.heap.size := bw.size
    obtain ⟨hcA, hfA⟩ := HA.facts
    obtain ⟨hcB, hfB⟩ := HB.facts
    obtain ⟨hcE, hfE⟩ := HE.facts
    go_wp2
    refine leaves_cons (f := 62) (args := #[.pointer (some ⟨w.heap.size + 3, 0, none⟩)]) (by simp) (by simp [go_sem]) ?_
    refine (guard_idle _ _).mono ?_
    rintro e u' w'' ⟨rfl, rfl, rfl⟩
    refine leaves_cons (f := 91) (args := #[.pointer (some ⟨w.heap.size + 3, 0, none⟩), .pointer (some ⟨w.heap.size + 1, 0, none⟩), .pointer (some ⟨w.heap.size + 2, 0, none⟩)]) (by simp [settle]) (by simp [go_sem]) ?_
    refine (passes1_zero _ _ _ _ HE).mono ?_
    rintro e u' w'' ⟨rfl, rfl, rfl⟩
    exact ⟨_, run_results_ccc rfl rfl (by (show Hd _ (w.heap.size + 1) 23 #[.int .i64 s4.lo, .int .i64 s4.hi]); (with_reducible repeat' (first | assumption | (apply hdN; (try simp only [sA, sS, sD]); done) | apply hdA | apply hdD | apply hdS | (apply hdF; case hp => first | (simp; done) | (simp; omega)) | with_unfolding_all rfl))) Try.underlying23 rfl (by kernel_rfl) rfl (by (show Hd _ (w.heap.size + 2) 23 #[.int .i64 s8.lo, .int .i64 s8.hi]); (with_reducible repeat' (first | assumption | (apply hdN; (try simp only [sA, sS, sD]); done) | apply hdA | apply hdD | apply hdS | (apply hdF; case hp => first | (simp; done) | (simp; omega)) | with_unfolding_all rfl))) Try.underlying23 rfl (by kernel_rfl) rfl (by (show Hd _ (w.heap.size + 3) 26 #[.int .i64 (0)]); (with_reducible repeat' (first | assumption | (apply hdN; (try simp only [sA, sS, sD]); done) | apply hdA | apply hdD | apply hdS | (apply hdF; case hp => first | (simp; done) | (simp; omega)) | with_unfolding_all rfl))) Try.underlying26, (by simp only [passCore, hs2.out, hs3.out, hs4.out, hs6.out, hs7.out, hs8.out, ebind_ok, ebind_err, epure]; rfl), by go_grown⟩
end Go.Proofs.Ytpbbbfglecbceaa
