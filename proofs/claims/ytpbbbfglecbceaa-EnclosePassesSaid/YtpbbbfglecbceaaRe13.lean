/- The document's two-ports: which are valid. -/
import Derived.Test.YtpbbbfglecbceaaRe1
import Derived.Test.YtpbbbfglecbceaaFlat2
namespace Go.Proofs.Ytpbbbfglecbceaa
set_option linter.all false
open Go.RowKit

def ptOk (p : En.Pt) : Bool := p.s00.ok && p.s01.ok && p.s10.ok && p.s11.ok
theorem row0_run (p : En.Pt) (w : World) : (Instr.index 47 (.agg #[.int .i64 p.s00.re.lo, .int .i64 p.s00.re.hi, .int .i64 p.s00.im.lo, .int .i64 p.s00.im.hi, .int .i64 p.s01.re.lo, .int .i64 p.s01.re.hi, .int .i64 p.s01.im.lo, .int .i64 p.s01.im.hi, .int .i64 p.s10.re.lo, .int .i64 p.s10.re.hi, .int .i64 p.s10.im.lo, .int .i64 p.s10.im.hi, .int .i64 p.s11.re.lo, .int .i64 p.s11.re.hi, .int .i64 p.s11.im.lo, .int .i64 p.s11.im.hi]) (.int .i64 0)).run Try.prog w = .ok (.agg #[.int .i64 p.s00.re.lo, .int .i64 p.s00.re.hi, .int .i64 p.s00.im.lo, .int .i64 p.s00.im.hi, .int .i64 p.s01.re.lo, .int .i64 p.s01.re.hi, .int .i64 p.s01.im.lo, .int .i64 p.s01.im.hi]) w := by kernel_rfl
theorem cell00_run (p : En.Pt) (w : World) : (Instr.index 46 (.agg #[.int .i64 p.s00.re.lo, .int .i64 p.s00.re.hi, .int .i64 p.s00.im.lo, .int .i64 p.s00.im.hi, .int .i64 p.s01.re.lo, .int .i64 p.s01.re.hi, .int .i64 p.s01.im.lo, .int .i64 p.s01.im.hi]) (.int .i64 0)).run Try.prog w = .ok (.agg #[.int .i64 p.s00.re.lo, .int .i64 p.s00.re.hi, .int .i64 p.s00.im.lo, .int .i64 p.s00.im.hi]) w := by kernel_rfl
theorem cell01_run (p : En.Pt) (w : World) : (Instr.index 46 (.agg #[.int .i64 p.s00.re.lo, .int .i64 p.s00.re.hi, .int .i64 p.s00.im.lo, .int .i64 p.s00.im.hi, .int .i64 p.s01.re.lo, .int .i64 p.s01.re.hi, .int .i64 p.s01.im.lo, .int .i64 p.s01.im.hi]) (.int .i64 1)).run Try.prog w = .ok (.agg #[.int .i64 p.s01.re.lo, .int .i64 p.s01.re.hi, .int .i64 p.s01.im.lo, .int .i64 p.s01.im.hi]) w := by kernel_rfl
theorem row1_run (p : En.Pt) (w : World) : (Instr.index 47 (.agg #[.int .i64 p.s00.re.lo, .int .i64 p.s00.re.hi, .int .i64 p.s00.im.lo, .int .i64 p.s00.im.hi, .int .i64 p.s01.re.lo, .int .i64 p.s01.re.hi, .int .i64 p.s01.im.lo, .int .i64 p.s01.im.hi, .int .i64 p.s10.re.lo, .int .i64 p.s10.re.hi, .int .i64 p.s10.im.lo, .int .i64 p.s10.im.hi, .int .i64 p.s11.re.lo, .int .i64 p.s11.re.hi, .int .i64 p.s11.im.lo, .int .i64 p.s11.im.hi]) (.int .i64 1)).run Try.prog w = .ok (.agg #[.int .i64 p.s10.re.lo, .int .i64 p.s10.re.hi, .int .i64 p.s10.im.lo, .int .i64 p.s10.im.hi, .int .i64 p.s11.re.lo, .int .i64 p.s11.re.hi, .int .i64 p.s11.im.lo, .int .i64 p.s11.im.hi]) w := by kernel_rfl
theorem cell10_run (p : En.Pt) (w : World) : (Instr.index 46 (.agg #[.int .i64 p.s10.re.lo, .int .i64 p.s10.re.hi, .int .i64 p.s10.im.lo, .int .i64 p.s10.im.hi, .int .i64 p.s11.re.lo, .int .i64 p.s11.re.hi, .int .i64 p.s11.im.lo, .int .i64 p.s11.im.hi]) (.int .i64 0)).run Try.prog w = .ok (.agg #[.int .i64 p.s10.re.lo, .int .i64 p.s10.re.hi, .int .i64 p.s10.im.lo, .int .i64 p.s10.im.hi]) w := by kernel_rfl
theorem cell11_run (p : En.Pt) (w : World) : (Instr.index 46 (.agg #[.int .i64 p.s10.re.lo, .int .i64 p.s10.re.hi, .int .i64 p.s10.im.lo, .int .i64 p.s10.im.hi, .int .i64 p.s11.re.lo, .int .i64 p.s11.re.hi, .int .i64 p.s11.im.lo, .int .i64 p.s11.im.hi]) (.int .i64 1)).run Try.prog w = .ok (.agg #[.int .i64 p.s11.re.lo, .int .i64 p.s11.re.hi, .int .i64 p.s11.im.lo, .int .i64 p.s11.im.hi]) w := by kernel_rfl
set_option maxHeartbeats 2000000 in
theorem rvalidPort_any (p : En.Pt) (w : World) : Calls Try.prog 93 #[ptV p] w fun e w' => e = .returned (.bool (ptOk p)) ∧ Below w.heap.size w w' := by
  have C0 := rvalidRect_any p.s00
  have C1 := rvalidRect_any p.s01
  have C2 := rvalidRect_any p.s10
  have C3 := rvalidRect_any p.s11
  unfold ptOk
  obtain ⟨o0, h0⟩ : ∃ o, p.s00.ok = o := ⟨_, rfl⟩
  obtain ⟨o1, h1⟩ : ∃ o, p.s01.ok = o := ⟨_, rfl⟩
  obtain ⟨o2, h2⟩ : ∃ o, p.s10.ok = o := ⟨_, rfl⟩
  obtain ⟨o3, h3⟩ : ∃ o, p.s11.ok = o := ⟨_, rfl⟩
  rw [h0] at C0
  rw [h1] at C1
  rw [h2] at C2
  rw [h3] at C3
  rw [h0, h1, h2, h3]
  clear h0 h1 h2 h3
  have g0 := row0_run p
  have g1 := row1_run p
  have g00 := cell00_run p
  have g01 := cell01_run p
  have g10 := cell10_run p
  have g11 := cell11_run p
  replace C0 := Lib.hid C0
  replace C1 := Lib.hid C1
  replace C2 := Lib.hid C2
  replace C3 := Lib.hid C3
  go_enter Try.func93, Try.ntmps93
  go_wp2_with fail
  have HA : Hd (w.alloc (.cells #[.int .i64 p.s00.re.lo, .int .i64 p.s00.re.hi, .int .i64 p.s00.im.lo, .int .i64 p.s00.im.hi, .int .i64 p.s01.re.lo, .int .i64 p.s01.re.hi, .int .i64 p.s01.im.lo, .int .i64 p.s01.im.hi, .int .i64 p.s10.re.lo, .int .i64 p.s10.re.hi, .int .i64 p.s10.im.lo, .int .i64 p.s10.im.hi, .int .i64 p.s11.re.lo, .int .i64 p.s11.re.hi, .int .i64 p.s11.im.lo, .int .i64 p.s11.im.hi] 49)) w.heap.size 49 #[.int .i64 p.s00.re.lo, .int .i64 p.s00.re.hi, .int .i64 p.s00.im.lo, .int .i64 p.s00.im.hi, .int .i64 p.s01.re.lo, .int .i64 p.s01.re.hi, .int .i64 p.s01.im.lo, .int .i64 p.s01.im.hi, .int .i64 p.s10.re.lo, .int .i64 p.s10.re.hi, .int .i64 p.s10.im.lo, .int .i64 p.s10.im.hi, .int .i64 p.s11.re.lo, .int .i64 p.s11.re.hi, .int .i64 p.s11.im.lo, .int .i64 p.s11.im.hi] := by (with_reducible repeat' (first | assumption | (apply hdN; (try simp only [sA, sS, sD]); done) | apply hdA | apply hdD | apply hdS | (apply hdF; case hp => first | (simp; done) | (simp; omega)) | with_unfolding_all rfl))
  have bw : Below w.heap.size w (w.alloc (.cells #[.int .i64 p.s00.re.lo, .int .i64 p.s00.re.hi, .int .i64 p.s00.im.lo, .int .i64 p.s00.im.hi, .int .i64 p.s01.re.lo, .int .i64 p.s01.re.hi, .int .i64 p.s01.im.lo, .int .i64 p.s01.im.hi, .int .i64 p.s10.re.lo, .int .i64 p.s10.re.hi, .int .i64 p.s10.im.lo, .int .i64 p.s10.im.hi, .int .i64 p.s11.re.lo, .int .i64 p.s11.re.hi, .int .i64 p.s11.im.lo, .int .i64 p.s11.im.hi] 49)) := by go_grown
  go_loopw [9] (fun c wx => ∃ i : Int, c = .int .i64 i ∧ (i = 0 ∨ (i = 1 ∧ o0 = true ∧ o1 = true) ∨ (i = 2 ∧ o0 = true ∧ o1 = true ∧ o2 = true ∧ o3 = true)) ∧ Below w.heap.size w wx) (fun c _ => (2 - intOf c).toNat)
  case atStart => exact ⟨0, rfl, .inl rfl, bw⟩
  case round =>
    clear HA bw
    obtain ⟨i, rfl, hi, bw⟩ := hrel
    have lwr := bw.size
    rcases hi with rfl | ⟨rfl, rfl, rfl⟩ | ⟨rfl, rfl, rfl, rfl, rfl⟩
    · go_wp2_with fail
      have bx : Below w.heap.size w (wr.alloc (.cells #[.int .i64 p.s00.re.lo, .int .i64 p.s00.re.hi, .int .i64 p.s00.im.lo, .int .i64 p.s00.im.hi, .int .i64 p.s01.re.lo, .int .i64 p.s01.re.hi, .int .i64 p.s01.im.lo, .int .i64 p.s01.im.hi] 46)) := by go_grown
      go_loopw [13] (fun c wx => ∃ j : Int, c = .int .i64 j ∧ (j = 0 ∨ (j = 1 ∧ o0 = true) ∨ (j = 2 ∧ o0 = true ∧ o1 = true)) ∧ Below w.heap.size w wx) (fun c _ => (2 - intOf c).toNat)
      case atStart => exact ⟨0, rfl, .inl rfl, bx⟩
      case round =>
        clear bw bx
        obtain ⟨j, rfl, hj, bw⟩ := hrel
        have lwz := bw.size
        rcases hj with rfl | ⟨rfl, rfl⟩ | ⟨rfl, rfl, rfl⟩
        · go_wp2_with fail
          refine (C0.out _).mono ?_
          rintro e wa ⟨rfl, hba⟩
          replace bw : Below w.heap.size w wa := below_next (by go_grown) hba
          have lwa := bw.size
          clear hba
          cases o0
          · go_wp2_with fail
            go_ret
            exact ⟨rfl, bw⟩
          · go_wp2_with fail
            exact ⟨⟨1, rfl, by simp, bw⟩, by simp [intOf]⟩
        · go_wp2_with fail
          refine (C1.out _).mono ?_
          rintro e wa ⟨rfl, hba⟩
          replace bw : Below w.heap.size w wa := below_next (by go_grown) hba
          have lwa := bw.size
          clear hba
          cases o1
          · go_wp2_with fail
            go_ret
            exact ⟨rfl, bw⟩
          · go_wp2_with fail
            exact ⟨⟨2, rfl, by simp, bw⟩, by simp [intOf]⟩
        · go_wp2_with fail
          exact ⟨⟨1, rfl, by simp, bw⟩, by simp [intOf]⟩
    · go_wp2_with fail
      have bx : Below w.heap.size w (wr.alloc (.cells #[.int .i64 p.s10.re.lo, .int .i64 p.s10.re.hi, .int .i64 p.s10.im.lo, .int .i64 p.s10.im.hi, .int .i64 p.s11.re.lo, .int .i64 p.s11.re.hi, .int .i64 p.s11.im.lo, .int .i64 p.s11.im.hi] 46)) := by go_grown
      go_loopw [13] (fun c wx => ∃ j : Int, c = .int .i64 j ∧ (j = 0 ∨ (j = 1 ∧ o2 = true) ∨ (j = 2 ∧ o2 = true ∧ o3 = true)) ∧ Below w.heap.size w wx) (fun c _ => (2 - intOf c).toNat)
      case atStart => exact ⟨0, rfl, .inl rfl, bx⟩
      case round =>
        clear bw bx
        obtain ⟨j, rfl, hj, bw⟩ := hrel
        have lwz := bw.size
        rcases hj with rfl | ⟨rfl, rfl⟩ | ⟨rfl, rfl, rfl⟩
        · go_wp2_with fail
          refine (C2.out _).mono ?_
          rintro e wa ⟨rfl, hba⟩
          replace bw : Below w.heap.size w wa := below_next (by go_grown) hba
          have lwa := bw.size
          clear hba
          cases o2
          · go_wp2_with fail
            go_ret
            exact ⟨rfl, bw⟩
          · go_wp2_with fail
            exact ⟨⟨1, rfl, by simp, bw⟩, by simp [intOf]⟩
        · go_wp2_with fail
          refine (C3.out _).mono ?_
          rintro e wa ⟨rfl, hba⟩
          replace bw : Below w.heap.size w wa := below_next (by go_grown) hba
          have lwa := bw.size
          clear hba
          cases o3
          · go_wp2_with fail
            go_ret
            exact ⟨rfl, bw⟩
          · go_wp2_with fail
            exact ⟨⟨2, rfl, by simp, bw⟩, by simp [intOf]⟩
        · go_wp2_with fail
          exact ⟨⟨2, rfl, by simp, bw⟩, by simp [intOf]⟩
    · go_wp2_with fail
      go_ret
      exact ⟨rfl, bw⟩
end Go.Proofs.Ytpbbbfglecbceaa
