/- Package enclose: which two-ports are valid. -/
import Derived.Test.YtpbbbfglecbceaaEn18
import Derived.Test.YtpbbbfglecbceaaFlat2
namespace Go.Proofs.Ytpbbbfglecbceaa
set_option linter.all false
open Go.RowKit

def portOk (p : En.Pt) : Bool := p.s00.ok && p.s01.ok && p.s10.ok && p.s11.ok
set_option maxHeartbeats 4000000 in
theorem ports1_any (p : En.Pt) (g t : Nat) (w : World) (HG : Hd w g t #[.int .i64 p.s00.re.lo, .int .i64 p.s00.re.hi, .int .i64 p.s00.im.lo, .int .i64 p.s00.im.hi, .int .i64 p.s01.re.lo, .int .i64 p.s01.re.hi, .int .i64 p.s01.im.lo, .int .i64 p.s01.im.hi, .int .i64 p.s10.re.lo, .int .i64 p.s10.re.hi, .int .i64 p.s10.im.lo, .int .i64 p.s10.im.hi, .int .i64 p.s11.re.lo, .int .i64 p.s11.re.hi, .int .i64 p.s11.im.lo, .int .i64 p.s11.im.hi]) :
    Calls Try.prog 90 #[.slice (some ⟨g, 0, none⟩) 1 1] w fun e w' => e = .returned (.bool (portOk p)) ∧ Below w.heap.size w w' := by
  have hlt := HG.lt
  have Cp := validR4_any p.s00 p.s01 p.s10 p.s11
  obtain ⟨op, hp⟩ : ∃ o, portOk p = o := ⟨_, rfl⟩
  rw [show (p.s00.ok && p.s01.ok && p.s10.ok && p.s11.ok) = op from hp] at Cp
  rw [hp]
  clear hp
  replace Cp := Lib.hid Cp
  have bw := Below.refl w.heap.size w
  obtain ⟨hcG, hfG⟩ := HG.facts
  go_enter Try.func90, Try.ntmps90
  go_wp2_with fail
  go_loopw [3, 8] (fun a b wx => ∃ (i : Int) (o : Bool), a = .bool o ∧ b = .int .i64 i ∧ ((i = 0 ∧ o = true) ∨ (i = 1 ∧ o = (op))) ∧ Hd wx g t #[.int .i64 p.s00.re.lo, .int .i64 p.s00.re.hi, .int .i64 p.s00.im.lo, .int .i64 p.s00.im.hi, .int .i64 p.s01.re.lo, .int .i64 p.s01.re.hi, .int .i64 p.s01.im.lo, .int .i64 p.s01.im.hi, .int .i64 p.s10.re.lo, .int .i64 p.s10.re.hi, .int .i64 p.s10.im.lo, .int .i64 p.s10.im.hi, .int .i64 p.s11.re.lo, .int .i64 p.s11.re.hi, .int .i64 p.s11.im.lo, .int .i64 p.s11.im.hi] ∧ Below w.heap.size w wx) (fun _ b _ => (1 - intOf b).toNat)
  case atStart => exact ⟨0, true, rfl, rfl, by simp, HG, bw⟩
  case round =>
    clear hcG hfG HG bw
    obtain ⟨i, o, rfl, rfl, hi, HG, bw⟩ := hrel
    have lwr := bw.size
    have ltG := HG.lt
    obtain ⟨hcG, hfG⟩ := HG.facts
    rcases hi with ⟨rfl, rfl⟩ | ⟨rfl, rfl⟩
    · go_wp2_with fail
      have HV : Hd ((wr.alloc (.cells #[.int .i64 p.s00.re.lo, .int .i64 p.s00.re.hi, .int .i64 p.s00.im.lo, .int .i64 p.s00.im.hi, .int .i64 p.s01.re.lo, .int .i64 p.s01.re.hi, .int .i64 p.s01.im.lo, .int .i64 p.s01.im.hi, .int .i64 p.s10.re.lo, .int .i64 p.s10.re.hi, .int .i64 p.s10.im.lo, .int .i64 p.s10.im.hi, .int .i64 p.s11.re.lo, .int .i64 p.s11.re.hi, .int .i64 p.s11.im.lo, .int .i64 p.s11.im.hi] 49)).alloc (.cells #[.int .i64 p.s00.re.lo, .int .i64 p.s00.re.hi, .int .i64 p.s00.im.lo, .int .i64 p.s00.im.hi, .int .i64 p.s01.re.lo, .int .i64 p.s01.re.hi, .int .i64 p.s01.im.lo, .int .i64 p.s01.im.hi, .int .i64 p.s10.re.lo, .int .i64 p.s10.re.hi, .int .i64 p.s10.im.lo, .int .i64 p.s10.im.hi, .int .i64 p.s11.re.lo, .int .i64 p.s11.re.hi, .int .i64 p.s11.im.lo, .int .i64 p.s11.im.hi] 25)) (wr.heap.size + 1) 25 #[.int .i64 p.s00.re.lo, .int .i64 p.s00.re.hi, .int .i64 p.s00.im.lo, .int .i64 p.s00.im.hi, .int .i64 p.s01.re.lo, .int .i64 p.s01.re.hi, .int .i64 p.s01.im.lo, .int .i64 p.s01.im.hi, .int .i64 p.s10.re.lo, .int .i64 p.s10.re.hi, .int .i64 p.s10.im.lo, .int .i64 p.s10.im.hi, .int .i64 p.s11.re.lo, .int .i64 p.s11.re.hi, .int .i64 p.s11.im.lo, .int .i64 p.s11.im.hi] := by (with_reducible repeat' (first | assumption | (apply hdN; (try simp only [sA, sS, sD]); done) | apply hdA | apply hdD | apply hdS | (apply hdF; case hp => first | (simp; done) | (simp; omega)) | with_unfolding_all rfl))
      refine (Cp.out _ _ _ HV).mono ?_
      rintro e wa ⟨rfl, hba⟩
      replace bw : Below w.heap.size w wa := below_next (by go_grown) hba
      have HG2 : Hd wa g t #[.int .i64 p.s00.re.lo, .int .i64 p.s00.re.hi, .int .i64 p.s00.im.lo, .int .i64 p.s00.im.hi, .int .i64 p.s01.re.lo, .int .i64 p.s01.re.hi, .int .i64 p.s01.im.lo, .int .i64 p.s01.im.hi, .int .i64 p.s10.re.lo, .int .i64 p.s10.re.hi, .int .i64 p.s10.im.lo, .int .i64 p.s10.im.hi, .int .i64 p.s11.re.lo, .int .i64 p.s11.re.hi, .int .i64 p.s11.im.lo, .int .i64 p.s11.im.hi] := Hd.call (by (with_reducible repeat' (first | assumption | (apply hdN; (try simp only [sA, sS, sD]); done) | apply hdA | apply hdD | apply hdS | (apply hdF; case hp => first | (simp; done) | (simp; omega)) | with_unfolding_all rfl))) hba
      have lwa := bw.size
      clear hba HV
      go_wp2_with fail
      exact ⟨⟨1, _, rfl, rfl, by simp, HG2, bw⟩, by simp [intOf]⟩
    · go_wp2_with fail
      go_ret
      exact ⟨rfl, bw⟩

set_option maxHeartbeats 4000000 in
theorem ports2_any (p q : En.Pt) (g t : Nat) (w : World) (HG : Hd w g t #[.int .i64 p.s00.re.lo, .int .i64 p.s00.re.hi, .int .i64 p.s00.im.lo, .int .i64 p.s00.im.hi, .int .i64 p.s01.re.lo, .int .i64 p.s01.re.hi, .int .i64 p.s01.im.lo, .int .i64 p.s01.im.hi, .int .i64 p.s10.re.lo, .int .i64 p.s10.re.hi, .int .i64 p.s10.im.lo, .int .i64 p.s10.im.hi, .int .i64 p.s11.re.lo, .int .i64 p.s11.re.hi, .int .i64 p.s11.im.lo, .int .i64 p.s11.im.hi, .int .i64 q.s00.re.lo, .int .i64 q.s00.re.hi, .int .i64 q.s00.im.lo, .int .i64 q.s00.im.hi, .int .i64 q.s01.re.lo, .int .i64 q.s01.re.hi, .int .i64 q.s01.im.lo, .int .i64 q.s01.im.hi, .int .i64 q.s10.re.lo, .int .i64 q.s10.re.hi, .int .i64 q.s10.im.lo, .int .i64 q.s10.im.hi, .int .i64 q.s11.re.lo, .int .i64 q.s11.re.hi, .int .i64 q.s11.im.lo, .int .i64 q.s11.im.hi]) :
    Calls Try.prog 90 #[.slice (some ⟨g, 0, none⟩) 2 2] w fun e w' => e = .returned (.bool (portOk p && portOk q)) ∧ Below w.heap.size w w' := by
  have hlt := HG.lt
  have Cp := validR4_any p.s00 p.s01 p.s10 p.s11
  obtain ⟨op, hp⟩ : ∃ o, portOk p = o := ⟨_, rfl⟩
  rw [show (p.s00.ok && p.s01.ok && p.s10.ok && p.s11.ok) = op from hp] at Cp
  rw [hp]
  clear hp
  replace Cp := Lib.hid Cp
  have Cq := validR4_any q.s00 q.s01 q.s10 q.s11
  obtain ⟨oq, hq⟩ : ∃ o, portOk q = o := ⟨_, rfl⟩
  rw [show (q.s00.ok && q.s01.ok && q.s10.ok && q.s11.ok) = oq from hq] at Cq
  rw [hq]
  clear hq
  replace Cq := Lib.hid Cq
  have bw := Below.refl w.heap.size w
  obtain ⟨hcG, hfG⟩ := HG.facts
  go_enter Try.func90, Try.ntmps90
  go_wp2_with fail
  go_loopw [3, 8] (fun a b wx => ∃ (i : Int) (o : Bool), a = .bool o ∧ b = .int .i64 i ∧ ((i = 0 ∧ o = true) ∨ (i = 1 ∧ o = (op)) ∨ (i = 2 ∧ o = (op && oq))) ∧ Hd wx g t #[.int .i64 p.s00.re.lo, .int .i64 p.s00.re.hi, .int .i64 p.s00.im.lo, .int .i64 p.s00.im.hi, .int .i64 p.s01.re.lo, .int .i64 p.s01.re.hi, .int .i64 p.s01.im.lo, .int .i64 p.s01.im.hi, .int .i64 p.s10.re.lo, .int .i64 p.s10.re.hi, .int .i64 p.s10.im.lo, .int .i64 p.s10.im.hi, .int .i64 p.s11.re.lo, .int .i64 p.s11.re.hi, .int .i64 p.s11.im.lo, .int .i64 p.s11.im.hi, .int .i64 q.s00.re.lo, .int .i64 q.s00.re.hi, .int .i64 q.s00.im.lo, .int .i64 q.s00.im.hi, .int .i64 q.s01.re.lo, .int .i64 q.s01.re.hi, .int .i64 q.s01.im.lo, .int .i64 q.s01.im.hi, .int .i64 q.s10.re.lo, .int .i64 q.s10.re.hi, .int .i64 q.s10.im.lo, .int .i64 q.s10.im.hi, .int .i64 q.s11.re.lo, .int .i64 q.s11.re.hi, .int .i64 q.s11.im.lo, .int .i64 q.s11.im.hi] ∧ Below w.heap.size w wx) (fun _ b _ => (2 - intOf b).toNat)
  case atStart => exact ⟨0, true, rfl, rfl, by simp, HG, bw⟩
  case round =>
    clear hcG hfG HG bw
    obtain ⟨i, o, rfl, rfl, hi, HG, bw⟩ := hrel
    have lwr := bw.size
    have ltG := HG.lt
    obtain ⟨hcG, hfG⟩ := HG.facts
    rcases hi with ⟨rfl, rfl⟩ | ⟨rfl, rfl⟩ | ⟨rfl, rfl⟩
    · go_wp2_with fail
      have HV : Hd ((wr.alloc (.cells #[.int .i64 p.s00.re.lo, .int .i64 p.s00.re.hi, .int .i64 p.s00.im.lo, .int .i64 p.s00.im.hi, .int .i64 p.s01.re.lo, .int .i64 p.s01.re.hi, .int .i64 p.s01.im.lo, .int .i64 p.s01.im.hi, .int .i64 p.s10.re.lo, .int .i64 p.s10.re.hi, .int .i64 p.s10.im.lo, .int .i64 p.s10.im.hi, .int .i64 p.s11.re.lo, .int .i64 p.s11.re.hi, .int .i64 p.s11.im.lo, .int .i64 p.s11.im.hi] 49)).alloc (.cells #[.int .i64 p.s00.re.lo, .int .i64 p.s00.re.hi, .int .i64 p.s00.im.lo, .int .i64 p.s00.im.hi, .int .i64 p.s01.re.lo, .int .i64 p.s01.re.hi, .int .i64 p.s01.im.lo, .int .i64 p.s01.im.hi, .int .i64 p.s10.re.lo, .int .i64 p.s10.re.hi, .int .i64 p.s10.im.lo, .int .i64 p.s10.im.hi, .int .i64 p.s11.re.lo, .int .i64 p.s11.re.hi, .int .i64 p.s11.im.lo, .int .i64 p.s11.im.hi] 25)) (wr.heap.size + 1) 25 #[.int .i64 p.s00.re.lo, .int .i64 p.s00.re.hi, .int .i64 p.s00.im.lo, .int .i64 p.s00.im.hi, .int .i64 p.s01.re.lo, .int .i64 p.s01.re.hi, .int .i64 p.s01.im.lo, .int .i64 p.s01.im.hi, .int .i64 p.s10.re.lo, .int .i64 p.s10.re.hi, .int .i64 p.s10.im.lo, .int .i64 p.s10.im.hi, .int .i64 p.s11.re.lo, .int .i64 p.s11.re.hi, .int .i64 p.s11.im.lo, .int .i64 p.s11.im.hi] := by (with_reducible repeat' (first | assumption | (apply hdN; (try simp only [sA, sS, sD]); done) | apply hdA | apply hdD | apply hdS | (apply hdF; case hp => first | (simp; done) | (simp; omega)) | with_unfolding_all rfl))
      refine (Cp.out _ _ _ HV).mono ?_
      rintro e wa ⟨rfl, hba⟩
      replace bw : Below w.heap.size w wa := below_next (by go_grown) hba
      have HG2 : Hd wa g t #[.int .i64 p.s00.re.lo, .int .i64 p.s00.re.hi, .int .i64 p.s00.im.lo, .int .i64 p.s00.im.hi, .int .i64 p.s01.re.lo, .int .i64 p.s01.re.hi, .int .i64 p.s01.im.lo, .int .i64 p.s01.im.hi, .int .i64 p.s10.re.lo, .int .i64 p.s10.re.hi, .int .i64 p.s10.im.lo, .int .i64 p.s10.im.hi, .int .i64 p.s11.re.lo, .int .i64 p.s11.re.hi, .int .i64 p.s11.im.lo, .int .i64 p.s11.im.hi, .int .i64 q.s00.re.lo, .int .i64 q.s00.re.hi, .int .i64 q.s00.im.lo, .int .i64 q.s00.im.hi, .int .i64 q.s01.re.lo, .int .i64 q.s01.re.hi, .int .i64 q.s01.im.lo, .int .i64 q.s01.im.hi, .int .i64 q.s10.re.lo, .int .i64 q.s10.re.hi, .int .i64 q.s10.im.lo, .int .i64 q.s10.im.hi, .int .i64 q.s11.re.lo, .int .i64 q.s11.re.hi, .int .i64 q.s11.im.lo, .int .i64 q.s11.im.hi] := Hd.call (by (with_reducible repeat' (first | assumption | (apply hdN; (try simp only [sA, sS, sD]); done) | apply hdA | apply hdD | apply hdS | (apply hdF; case hp => first | (simp; done) | (simp; omega)) | with_unfolding_all rfl))) hba
      have lwa := bw.size
      clear hba HV
      go_wp2_with fail
      exact ⟨⟨1, _, rfl, rfl, by simp, HG2, bw⟩, by simp [intOf]⟩
    · cases o
      · go_wp2_with fail
        exact ⟨⟨2, false, rfl, rfl, by simp, by (with_reducible repeat' (first | assumption | (apply hdN; (try simp only [sA, sS, sD]); done) | apply hdA | apply hdD | apply hdS | (apply hdF; case hp => first | (simp; done) | (simp; omega)) | with_unfolding_all rfl)), by go_grown⟩, by simp [intOf]⟩
      · go_wp2_with fail
        have HV : Hd ((wr.alloc (.cells #[.int .i64 q.s00.re.lo, .int .i64 q.s00.re.hi, .int .i64 q.s00.im.lo, .int .i64 q.s00.im.hi, .int .i64 q.s01.re.lo, .int .i64 q.s01.re.hi, .int .i64 q.s01.im.lo, .int .i64 q.s01.im.hi, .int .i64 q.s10.re.lo, .int .i64 q.s10.re.hi, .int .i64 q.s10.im.lo, .int .i64 q.s10.im.hi, .int .i64 q.s11.re.lo, .int .i64 q.s11.re.hi, .int .i64 q.s11.im.lo, .int .i64 q.s11.im.hi] 49)).alloc (.cells #[.int .i64 q.s00.re.lo, .int .i64 q.s00.re.hi, .int .i64 q.s00.im.lo, .int .i64 q.s00.im.hi, .int .i64 q.s01.re.lo, .int .i64 q.s01.re.hi, .int .i64 q.s01.im.lo, .int .i64 q.s01.im.hi, .int .i64 q.s10.re.lo, .int .i64 q.s10.re.hi, .int .i64 q.s10.im.lo, .int .i64 q.s10.im.hi, .int .i64 q.s11.re.lo, .int .i64 q.s11.re.hi, .int .i64 q.s11.im.lo, .int .i64 q.s11.im.hi] 25)) (wr.heap.size + 1) 25 #[.int .i64 q.s00.re.lo, .int .i64 q.s00.re.hi, .int .i64 q.s00.im.lo, .int .i64 q.s00.im.hi, .int .i64 q.s01.re.lo, .int .i64 q.s01.re.hi, .int .i64 q.s01.im.lo, .int .i64 q.s01.im.hi, .int .i64 q.s10.re.lo, .int .i64 q.s10.re.hi, .int .i64 q.s10.im.lo, .int .i64 q.s10.im.hi, .int .i64 q.s11.re.lo, .int .i64 q.s11.re.hi, .int .i64 q.s11.im.lo, .int .i64 q.s11.im.hi] := by (with_reducible repeat' (first | assumption | (apply hdN; (try simp only [sA, sS, sD]); done) | apply hdA | apply hdD | apply hdS | (apply hdF; case hp => first | (simp; done) | (simp; omega)) | with_unfolding_all rfl))
        refine (Cq.out _ _ _ HV).mono ?_
        rintro e wa ⟨rfl, hba⟩
        replace bw : Below w.heap.size w wa := below_next (by go_grown) hba
        have HG2 : Hd wa g t #[.int .i64 p.s00.re.lo, .int .i64 p.s00.re.hi, .int .i64 p.s00.im.lo, .int .i64 p.s00.im.hi, .int .i64 p.s01.re.lo, .int .i64 p.s01.re.hi, .int .i64 p.s01.im.lo, .int .i64 p.s01.im.hi, .int .i64 p.s10.re.lo, .int .i64 p.s10.re.hi, .int .i64 p.s10.im.lo, .int .i64 p.s10.im.hi, .int .i64 p.s11.re.lo, .int .i64 p.s11.re.hi, .int .i64 p.s11.im.lo, .int .i64 p.s11.im.hi, .int .i64 q.s00.re.lo, .int .i64 q.s00.re.hi, .int .i64 q.s00.im.lo, .int .i64 q.s00.im.hi, .int .i64 q.s01.re.lo, .int .i64 q.s01.re.hi, .int .i64 q.s01.im.lo, .int .i64 q.s01.im.hi, .int .i64 q.s10.re.lo, .int .i64 q.s10.re.hi, .int .i64 q.s10.im.lo, .int .i64 q.s10.im.hi, .int .i64 q.s11.re.lo, .int .i64 q.s11.re.hi, .int .i64 q.s11.im.lo, .int .i64 q.s11.im.hi] := Hd.call (by (with_reducible repeat' (first | assumption | (apply hdN; (try simp only [sA, sS, sD]); done) | apply hdA | apply hdD | apply hdS | (apply hdF; case hp => first | (simp; done) | (simp; omega)) | with_unfolding_all rfl))) hba
        have lwa := bw.size
        clear hba HV
        go_wp2_with fail
        exact ⟨⟨2, _, rfl, rfl, by simp, HG2, bw⟩, by simp [intOf]⟩
    · go_wp2_with fail
      go_ret
      exact ⟨rfl, bw⟩
end Go.Proofs.Ytpbbbfglecbceaa
