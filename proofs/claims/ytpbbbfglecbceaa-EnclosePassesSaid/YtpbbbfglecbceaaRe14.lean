/- The document's Passes. -/
import Derived.Test.YtpbbbfglecbceaaRe7
import Derived.Test.YtpbbbfglecbceaaRe13
import Derived.Test.YtpbbbfglecbceaaEn24
import Derived.Deep.Cut
import Derived.Deep.CutRange
namespace Go.Proofs.Ytpbbbfglecbceaa
set_option linter.all false
open Go.RowKit

set_option maxHeartbeats 4000000 in
theorem rpasses_any (p : En.Pt) (w : World) : Calls Try.prog 40 #[ptV p] w fun e w' => e = .returned (passV (passR p)) ∧ Below w.heap.size w w' := by
  have CP := rvalidPort_any p
  cases hv : portOk p with
  | false =>
    have ht : passR p = (⟨0, 0⟩, ⟨0, 0⟩, 50) := by unfold passR; rw [hv]; rfl
    rw [show ptOk p = false from hv] at CP
    rw [ht]
    replace CP := Lib.hid CP
    clear hv ht
    go_enter Try.func40, Try.ntmps40
    go_wp2_with fail
    have HP : Hd (((w.alloc (.cells #[.int .i64 p.s00.re.lo, .int .i64 p.s00.re.hi, .int .i64 p.s00.im.lo, .int .i64 p.s00.im.hi, .int .i64 p.s01.re.lo, .int .i64 p.s01.re.hi, .int .i64 p.s01.im.lo, .int .i64 p.s01.im.hi, .int .i64 p.s10.re.lo, .int .i64 p.s10.re.hi, .int .i64 p.s10.im.lo, .int .i64 p.s10.im.hi, .int .i64 p.s11.re.lo, .int .i64 p.s11.re.hi, .int .i64 p.s11.im.lo, .int .i64 p.s11.im.hi] 49)).alloc (.cells #[.int .i64 0, .int .i64 0] 23)).alloc (.cells #[.int .i64 0, .int .i64 0] 23)) w.heap.size 49 #[.int .i64 p.s00.re.lo, .int .i64 p.s00.re.hi, .int .i64 p.s00.im.lo, .int .i64 p.s00.im.hi, .int .i64 p.s01.re.lo, .int .i64 p.s01.re.hi, .int .i64 p.s01.im.lo, .int .i64 p.s01.im.hi, .int .i64 p.s10.re.lo, .int .i64 p.s10.re.hi, .int .i64 p.s10.im.lo, .int .i64 p.s10.im.hi, .int .i64 p.s11.re.lo, .int .i64 p.s11.re.hi, .int .i64 p.s11.im.lo, .int .i64 p.s11.im.hi] := by (with_reducible repeat' (first | assumption | (apply hdN; (try simp only [sA, sS, sD]); done) | apply hdA | apply hdD | apply hdS | (apply hdF; case hp => first | (simp; done) | (simp; omega)) | with_unfolding_all rfl))
    have HA : Hd (((w.alloc (.cells #[.int .i64 p.s00.re.lo, .int .i64 p.s00.re.hi, .int .i64 p.s00.im.lo, .int .i64 p.s00.im.hi, .int .i64 p.s01.re.lo, .int .i64 p.s01.re.hi, .int .i64 p.s01.im.lo, .int .i64 p.s01.im.hi, .int .i64 p.s10.re.lo, .int .i64 p.s10.re.hi, .int .i64 p.s10.im.lo, .int .i64 p.s10.im.hi, .int .i64 p.s11.re.lo, .int .i64 p.s11.re.hi, .int .i64 p.s11.im.lo, .int .i64 p.s11.im.hi] 49)).alloc (.cells #[.int .i64 0, .int .i64 0] 23)).alloc (.cells #[.int .i64 0, .int .i64 0] 23)) (w.heap.size + 1) 23 #[.int .i64 0, .int .i64 0] := by (with_reducible repeat' (first | assumption | (apply hdN; (try simp only [sA, sS, sD]); done) | apply hdA | apply hdD | apply hdS | (apply hdF; case hp => first | (simp; done) | (simp; omega)) | with_unfolding_all rfl))
    have HB : Hd (((w.alloc (.cells #[.int .i64 p.s00.re.lo, .int .i64 p.s00.re.hi, .int .i64 p.s00.im.lo, .int .i64 p.s00.im.hi, .int .i64 p.s01.re.lo, .int .i64 p.s01.re.hi, .int .i64 p.s01.im.lo, .int .i64 p.s01.im.hi, .int .i64 p.s10.re.lo, .int .i64 p.s10.re.hi, .int .i64 p.s10.im.lo, .int .i64 p.s10.im.hi, .int .i64 p.s11.re.lo, .int .i64 p.s11.re.hi, .int .i64 p.s11.im.lo, .int .i64 p.s11.im.hi] 49)).alloc (.cells #[.int .i64 0, .int .i64 0] 23)).alloc (.cells #[.int .i64 0, .int .i64 0] 23)) (w.heap.size + 2) 23 #[.int .i64 0, .int .i64 0] := by (with_reducible repeat' (first | assumption | (apply hdN; (try simp only [sA, sS, sD]); done) | apply hdA | apply hdD | apply hdS | (apply hdF; case hp => first | (simp; done) | (simp; omega)) | with_unfolding_all rfl))
    have bw : Below w.heap.size w (((w.alloc (.cells #[.int .i64 p.s00.re.lo, .int .i64 p.s00.re.hi, .int .i64 p.s00.im.lo, .int .i64 p.s00.im.hi, .int .i64 p.s01.re.lo, .int .i64 p.s01.re.hi, .int .i64 p.s01.im.lo, .int .i64 p.s01.im.hi, .int .i64 p.s10.re.lo, .int .i64 p.s10.re.hi, .int .i64 p.s10.im.lo, .int .i64 p.s10.im.hi, .int .i64 p.s11.re.lo, .int .i64 p.s11.re.hi, .int .i64 p.s11.im.lo, .int .i64 p.s11.im.hi] 49)).alloc (.cells #[.int .i64 0, .int .i64 0] 23)).alloc (.cells #[.int .i64 0, .int .i64 0] 23)) := by go_grown
    refine (CP.out _).mono ?_
    rintro e w1 ⟨rfl, hb1⟩
    replace bw : Below w.heap.size w w1 := below_next bw hb1
    replace HP := HP.call hb1
    replace HA := HA.call hb1
    replace HB := HB.call hb1
    have lw1 : w.heap.size ≤ w1.heap.size := bw.size
    clear hb1
    obtain ⟨hcP, hfP⟩ := HP.facts
    obtain ⟨hcA, hfA⟩ := HA.facts
    obtain ⟨hcB, hfB⟩ := HB.facts
    have ltP := HP.lt
    have ltA := HA.lt
    have ltB := HB.lt
    go_wp2
    refine bodyPost_ret (run_results_cc rfl rfl (by (show Hd _ (w.heap.size + 1) 23 #[.int .i64 0, .int .i64 0]); (with_reducible repeat' (first | assumption | (apply hdN; (try simp only [sA, sS, sD]); done) | apply hdA | apply hdD | apply hdS | (apply hdF; case hp => first | (simp; done) | (simp; omega)) | with_unfolding_all rfl))) Try.underlying23 rfl (by kernel_rfl) rfl (by (show Hd _ (w.heap.size + 2) 23 #[.int .i64 0, .int .i64 0]); (with_reducible repeat' (first | assumption | (apply hdN; (try simp only [sA, sS, sD]); done) | apply hdA | apply hdD | apply hdS | (apply hdF; case hp => first | (simp; done) | (simp; omega)) | with_unfolding_all rfl))) Try.underlying23 rfl (by kernel_rfl)) rfl ⟨rfl, by go_grown⟩
  | true =>
    have ht : passR p = outP (passCore p) := by unfold passR; rw [hv]; rfl
    rw [show ptOk p = true from hv] at CP
    rw [ht]
    replace CP := Lib.hid CP
    have hoks : p.s00.ok = true ∧ p.s01.ok = true ∧ p.s10.ok = true ∧ p.s11.ok = true := by
      simp only [portOk, Bool.and_eq_true] at hv
      exact ⟨hv.1.1.1, hv.1.1.2, hv.1.2, hv.2⟩
    obtain ⟨k00, k01, k10, k11⟩ := hoks
    clear hv ht
    go_enter Try.func40, Try.ntmps40
    go_wp2_with fail
    have HP : Hd (((w.alloc (.cells #[.int .i64 p.s00.re.lo, .int .i64 p.s00.re.hi, .int .i64 p.s00.im.lo, .int .i64 p.s00.im.hi, .int .i64 p.s01.re.lo, .int .i64 p.s01.re.hi, .int .i64 p.s01.im.lo, .int .i64 p.s01.im.hi, .int .i64 p.s10.re.lo, .int .i64 p.s10.re.hi, .int .i64 p.s10.im.lo, .int .i64 p.s10.im.hi, .int .i64 p.s11.re.lo, .int .i64 p.s11.re.hi, .int .i64 p.s11.im.lo, .int .i64 p.s11.im.hi] 49)).alloc (.cells #[.int .i64 0, .int .i64 0] 23)).alloc (.cells #[.int .i64 0, .int .i64 0] 23)) w.heap.size 49 #[.int .i64 p.s00.re.lo, .int .i64 p.s00.re.hi, .int .i64 p.s00.im.lo, .int .i64 p.s00.im.hi, .int .i64 p.s01.re.lo, .int .i64 p.s01.re.hi, .int .i64 p.s01.im.lo, .int .i64 p.s01.im.hi, .int .i64 p.s10.re.lo, .int .i64 p.s10.re.hi, .int .i64 p.s10.im.lo, .int .i64 p.s10.im.hi, .int .i64 p.s11.re.lo, .int .i64 p.s11.re.hi, .int .i64 p.s11.im.lo, .int .i64 p.s11.im.hi] := by (with_reducible repeat' (first | assumption | (apply hdN; (try simp only [sA, sS, sD]); done) | apply hdA | apply hdD | apply hdS | (apply hdF; case hp => first | (simp; done) | (simp; omega)) | with_unfolding_all rfl))
    have HA : Hd (((w.alloc (.cells #[.int .i64 p.s00.re.lo, .int .i64 p.s00.re.hi, .int .i64 p.s00.im.lo, .int .i64 p.s00.im.hi, .int .i64 p.s01.re.lo, .int .i64 p.s01.re.hi, .int .i64 p.s01.im.lo, .int .i64 p.s01.im.hi, .int .i64 p.s10.re.lo, .int .i64 p.s10.re.hi, .int .i64 p.s10.im.lo, .int .i64 p.s10.im.hi, .int .i64 p.s11.re.lo, .int .i64 p.s11.re.hi, .int .i64 p.s11.im.lo, .int .i64 p.s11.im.hi] 49)).alloc (.cells #[.int .i64 0, .int .i64 0] 23)).alloc (.cells #[.int .i64 0, .int .i64 0] 23)) (w.heap.size + 1) 23 #[.int .i64 0, .int .i64 0] := by (with_reducible repeat' (first | assumption | (apply hdN; (try simp only [sA, sS, sD]); done) | apply hdA | apply hdD | apply hdS | (apply hdF; case hp => first | (simp; done) | (simp; omega)) | with_unfolding_all rfl))
    have HB : Hd (((w.alloc (.cells #[.int .i64 p.s00.re.lo, .int .i64 p.s00.re.hi, .int .i64 p.s00.im.lo, .int .i64 p.s00.im.hi, .int .i64 p.s01.re.lo, .int .i64 p.s01.re.hi, .int .i64 p.s01.im.lo, .int .i64 p.s01.im.hi, .int .i64 p.s10.re.lo, .int .i64 p.s10.re.hi, .int .i64 p.s10.im.lo, .int .i64 p.s10.im.hi, .int .i64 p.s11.re.lo, .int .i64 p.s11.re.hi, .int .i64 p.s11.im.lo, .int .i64 p.s11.im.hi] 49)).alloc (.cells #[.int .i64 0, .int .i64 0] 23)).alloc (.cells #[.int .i64 0, .int .i64 0] 23)) (w.heap.size + 2) 23 #[.int .i64 0, .int .i64 0] := by (with_reducible repeat' (first | assumption | (apply hdN; (try simp only [sA, sS, sD]); done) | apply hdA | apply hdD | apply hdS | (apply hdF; case hp => first | (simp; done) | (simp; omega)) | with_unfolding_all rfl))
    have bw : Below w.heap.size w (((w.alloc (.cells #[.int .i64 p.s00.re.lo, .int .i64 p.s00.re.hi, .int .i64 p.s00.im.lo, .int .i64 p.s00.im.hi, .int .i64 p.s01.re.lo, .int .i64 p.s01.re.hi, .int .i64 p.s01.im.lo, .int .i64 p.s01.im.hi, .int .i64 p.s10.re.lo, .int .i64 p.s10.re.hi, .int .i64 p.s10.im.lo, .int .i64 p.s10.im.hi, .int .i64 p.s11.re.lo, .int .i64 p.s11.re.hi, .int .i64 p.s11.im.lo, .int .i64 p.s11.im.hi] 49)).alloc (.cells #[.int .i64 0, .int .i64 0] 23)).alloc (.cells #[.int .i64 0, .int .i64 0] 23)) := by go_grown
    refine (CP.out _).mono ?_
    rintro e w1 ⟨rfl, hb1⟩
    replace bw : Below w.heap.size w w1 := below_next bw hb1
    replace HP := HP.call hb1
    replace HA := HA.call hb1
    replace HB := HB.call hb1
    have lw1 : w.heap.size ≤ w1.heap.size := bw.size
    clear hb1
    obtain ⟨hcP, hfP⟩ := HP.facts
    obtain ⟨hcA, hfA⟩ := HA.facts
    obtain ⟨hcB, hfB⟩ := HB.facts
    have ltP := HP.lt
    have ltA := HA.lt
    have ltB := HB.lt
    go_upto_region 4 with fail
    replace HP : Hd (w1.alloc (.cells #[.int .i64 0] 83)) w.heap.size 49 #[.int .i64 p.s00.re.lo, .int .i64 p.s00.re.hi, .int .i64 p.s00.im.lo, .int .i64 p.s00.im.hi, .int .i64 p.s01.re.lo, .int .i64 p.s01.re.hi, .int .i64 p.s01.im.lo, .int .i64 p.s01.im.hi, .int .i64 p.s10.re.lo, .int .i64 p.s10.re.hi, .int .i64 p.s10.im.lo, .int .i64 p.s10.im.hi, .int .i64 p.s11.re.lo, .int .i64 p.s11.re.hi, .int .i64 p.s11.im.lo, .int .i64 p.s11.im.hi] := by (with_reducible repeat' (first | assumption | (apply hdN; (try simp only [sA, sS, sD]); done) | apply hdA | apply hdD | apply hdS | (apply hdF; case hp => first | (simp; done) | (simp; omega)) | with_unfolding_all rfl))
    replace HA : Hd (w1.alloc (.cells #[.int .i64 0] 83)) (w.heap.size + 1) 23 #[.int .i64 0, .int .i64 0] := by (with_reducible repeat' (first | assumption | (apply hdN; (try simp only [sA, sS, sD]); done) | apply hdA | apply hdD | apply hdS | (apply hdF; case hp => first | (simp; done) | (simp; omega)) | with_unfolding_all rfl))
    replace HB : Hd (w1.alloc (.cells #[.int .i64 0] 83)) (w.heap.size + 2) 23 #[.int .i64 0, .int .i64 0] := by (with_reducible repeat' (first | assumption | (apply hdN; (try simp only [sA, sS, sD]); done) | apply hdA | apply hdD | apply hdS | (apply hdF; case hp => first | (simp; done) | (simp; omega)) | with_unfolding_all rfl))
    replace bw : Below w.heap.size w (w1.alloc (.cells #[.int .i64 0] 83)) := by go_grown
    have HG : Hd (w1.alloc (.cells #[.int .i64 0] 83)) w1.heap.size 83 #[.int .i64 0] := by (with_reducible repeat' (first | assumption | (apply hdN; (try simp only [sA, sS, sD]); done) | apply hdA | apply hdD | apply hdS | (apply hdF; case hp => first | (simp; done) | (simp; omega)) | with_unfolding_all rfl))
    generalize hW : w1.alloc (.cells #[.int .i64 0] 83) = w2 at HP HA HB HG bw ⊢
    clear hW
    have lw2 : w.heap.size ≤ w2.heap.size := bw.size
    go_cut [6] from 15 to 28 (fun z wx => ∃ (gx : Nat) (za zb zc : En.Sp) (ea eb ec : Int), z = .pointer (some ⟨gx, 0, none⟩) ∧ w1.heap.size < gx ∧ zc.ok = true ∧ RowKit.Hid (En.Stk (En.power p.s00) 0 za ea) ∧ RowKit.Hid (En.Stk (En.power p.s10) ea zb eb) ∧ RowKit.Hid (En.Stk (En.add za zb) eb zc ec) ∧ Hd wx w.heap.size 49 #[.int .i64 p.s00.re.lo, .int .i64 p.s00.re.hi, .int .i64 p.s00.im.lo, .int .i64 p.s00.im.hi, .int .i64 p.s01.re.lo, .int .i64 p.s01.re.hi, .int .i64 p.s01.im.lo, .int .i64 p.s01.im.hi, .int .i64 p.s10.re.lo, .int .i64 p.s10.re.hi, .int .i64 p.s10.im.lo, .int .i64 p.s10.im.hi, .int .i64 p.s11.re.lo, .int .i64 p.s11.re.hi, .int .i64 p.s11.im.lo, .int .i64 p.s11.im.hi] ∧ Hd wx (w.heap.size + 1) 23 #[.int .i64 0, .int .i64 0] ∧ Hd wx (w.heap.size + 2) 23 #[.int .i64 0, .int .i64 0] ∧ Hd wx w1.heap.size 83 #[.int .i64 ec] ∧ Hd wx gx 23 #[.int .i64 zc.lo, .int .i64 zc.hi] ∧ Below w.heap.size w wx)
    case rest =>
      clear HP HA HB HG bw
      obtain ⟨g1, z1, z2, z3, e1, e2, e3, rfl, hg1, ok3, qq1, qq2, qq3, HP, HA, HB, HG, HX1, bw⟩ := hcut
      have lwc : w.heap.size ≤ wc.heap.size := bw.size
      have lt1 := HX1.lt
      have lt2 := HG.lt
      go_upto_region 5 with fail
      generalize wc = wd at *
      go_cut [7] from 29 to 42 (fun z wx => ∃ (gx : Nat) (za zb zc : En.Sp) (ea eb ec : Int), z = .pointer (some ⟨gx, 0, none⟩) ∧ w1.heap.size < gx ∧ zc.ok = true ∧ RowKit.Hid (En.Stk (En.power p.s01) e3 za ea) ∧ RowKit.Hid (En.Stk (En.power p.s11) ea zb eb) ∧ RowKit.Hid (En.Stk (En.add za zb) eb zc ec) ∧ Hd wx w.heap.size 49 #[.int .i64 p.s00.re.lo, .int .i64 p.s00.re.hi, .int .i64 p.s00.im.lo, .int .i64 p.s00.im.hi, .int .i64 p.s01.re.lo, .int .i64 p.s01.re.hi, .int .i64 p.s01.im.lo, .int .i64 p.s01.im.hi, .int .i64 p.s10.re.lo, .int .i64 p.s10.re.hi, .int .i64 p.s10.im.lo, .int .i64 p.s10.im.hi, .int .i64 p.s11.re.lo, .int .i64 p.s11.re.hi, .int .i64 p.s11.im.lo, .int .i64 p.s11.im.hi] ∧ Hd wx (w.heap.size + 1) 23 #[.int .i64 0, .int .i64 0] ∧ Hd wx (w.heap.size + 2) 23 #[.int .i64 0, .int .i64 0] ∧ Hd wx w1.heap.size 83 #[.int .i64 ec] ∧ Hd wx g1 23 #[.int .i64 z3.lo, .int .i64 z3.hi] ∧ Hd wx gx 23 #[.int .i64 zc.lo, .int .i64 zc.hi] ∧ Below w.heap.size w wx)
      case rest =>
        clear HP HA HB HG HX1 bw lt1 lt2
        obtain ⟨g2, z4, z5, z6, e4, e5, e6, rfl, hg2, ok6, qq4, qq5, qq6, HP, HA, HB, HG, HX1, HX2, bw⟩ := hcut
        have lwe : w.heap.size ≤ wc.heap.size := bw.size
        have hs := Lib.hid (qq1.out.bind (f := fun a0 => En.power p.s10 >>= fun a1 => En.add a0 a1 >>= fun a => En.power p.s01 >>= fun b0 => En.power p.s11 >>= fun b1 => En.add b0 b1 >>= fun b => (pure (a, b) : En.R (En.Sp × En.Sp))) (qq2.out.bind (qq3.out.bind (qq4.out.bind (qq5.out.bind (qq6.out.bind (En.Stk.pure (z3, z6) e6)))))))
        obtain ⟨hcG, hfG⟩ := HG.facts
        obtain ⟨hcX1, hfX1⟩ := HX1.facts
        obtain ⟨hcX2, hfX2⟩ := HX2.facts
        obtain ⟨hcA, hfA⟩ := HA.facts
        obtain ⟨hcB, hfB⟩ := HB.facts
        rcases hs.out.zero with ⟨hr, he⟩ | ⟨hr, hne⟩
        · subst he
          have HR := Lib.hid hr
          clear hr hs
          go_upto_region 8 with fail
          replace HP : Hd (wc.drew) w.heap.size 49 #[.int .i64 p.s00.re.lo, .int .i64 p.s00.re.hi, .int .i64 p.s00.im.lo, .int .i64 p.s00.im.hi, .int .i64 p.s01.re.lo, .int .i64 p.s01.re.hi, .int .i64 p.s01.im.lo, .int .i64 p.s01.im.hi, .int .i64 p.s10.re.lo, .int .i64 p.s10.re.hi, .int .i64 p.s10.im.lo, .int .i64 p.s10.im.hi, .int .i64 p.s11.re.lo, .int .i64 p.s11.re.hi, .int .i64 p.s11.im.lo, .int .i64 p.s11.im.hi] := by (with_reducible repeat' (first | assumption | (apply hdN; (try simp only [sA, sS, sD]); done) | apply hdA | apply hdD | apply hdS | (apply hdF; case hp => first | (simp; done) | (simp; omega)) | with_unfolding_all rfl))
          replace HA : Hd (wc.drew) (w.heap.size + 1) 23 #[.int .i64 0, .int .i64 0] := by (with_reducible repeat' (first | assumption | (apply hdN; (try simp only [sA, sS, sD]); done) | apply hdA | apply hdD | apply hdS | (apply hdF; case hp => first | (simp; done) | (simp; omega)) | with_unfolding_all rfl))
          replace HB : Hd (wc.drew) (w.heap.size + 2) 23 #[.int .i64 0, .int .i64 0] := by (with_reducible repeat' (first | assumption | (apply hdN; (try simp only [sA, sS, sD]); done) | apply hdA | apply hdD | apply hdS | (apply hdF; case hp => first | (simp; done) | (simp; omega)) | with_unfolding_all rfl))
          replace HG : Hd (wc.drew) w1.heap.size 83 #[.int .i64 0] := by (with_reducible repeat' (first | assumption | (apply hdN; (try simp only [sA, sS, sD]); done) | apply hdA | apply hdD | apply hdS | (apply hdF; case hp => first | (simp; done) | (simp; omega)) | with_unfolding_all rfl))
          replace HX1 : Hd (wc.drew) g1 23 #[.int .i64 z3.lo, .int .i64 z3.hi] := by (with_reducible repeat' (first | assumption | (apply hdN; (try simp only [sA, sS, sD]); done) | apply hdA | apply hdD | apply hdS | (apply hdF; case hp => first | (simp; done) | (simp; omega)) | with_unfolding_all rfl))
          replace HX2 : Hd (wc.drew) g2 23 #[.int .i64 z6.lo, .int .i64 z6.hi] := by (with_reducible repeat' (first | assumption | (apply hdN; (try simp only [sA, sS, sD]); done) | apply hdA | apply hdD | apply hdS | (apply hdF; case hp => first | (simp; done) | (simp; omega)) | with_unfolding_all rfl))
          replace bw : Below w.heap.size w (wc.drew) := by go_grown
          (refine wp_region_eag (fun w' => Hd w' g1 23 #[.int .i64 z3.lo, .int .i64 z3.hi] ∧ Hd w' g2 23 #[.int .i64 z6.lo, .int .i64 z6.hi] ∧ Below w.heap.size w w') [(0, true), (1, true), (2, false), (3, false), (4, true)] (by kernel_rfl) (by kernel_rfl) (fun c d v a w h => by cases d <;> exact h) ⟨HX1, HX2, bw⟩ ?_; simp only [List.map_cons, List.map_nil, List.getD_cons_zero, List.getD_cons_succ, flMark, Nat.reduceEqDiff, ↓reduceIte])
          repeat ((first | with_reducible apply eag_move | with_reducible apply eag_assign | ((with_reducible refine eag_soft (v := ?_) (fun w' hw' => ?_) ?_); rotate_left 1; (focus (obtain ⟨hX1, hX2, hBw⟩ := hw'; obtain ⟨hcX1, hfX1⟩ := hX1.facts; obtain ⟨hcX2, hfX2⟩ := hX2.facts; go_simp; (try with_reducible rfl); done)))); simp only [Act.put, Act.eval, List.setIfInBounds_toArray, List.set_cons_zero, List.set_cons_succ, Array.getD_eq_getD_getElem?, List.getElem?_toArray, List.getElem?_cons_zero, List.getElem?_cons_succ, Option.getD_some])
          generalize hW : wc.drew = w41 at HP HA HB HG HX1 HX2 bw ⊢
          clear hW
          have lw41 : w.heap.size ≤ w41.heap.size := bw.size
          obtain ⟨hcA, hfA⟩ := HA.facts
          refine eag_hard ?_
          go_wp2_with fail
          have PP := HP
          have PA := HA
          have PB := HB
          have PG := HG
          have PX1 := HX1
          have PX2 := HX2
          have Pbw := bw
          replace HP : Hd ((w41.setCell ⟨(w.heap.size + 1), 0, none⟩ (.int .i64 z3.lo)).setCell ⟨(w.heap.size + 1), 1, none⟩ (.int .i64 z3.hi)) w.heap.size 49 #[.int .i64 p.s00.re.lo, .int .i64 p.s00.re.hi, .int .i64 p.s00.im.lo, .int .i64 p.s00.im.hi, .int .i64 p.s01.re.lo, .int .i64 p.s01.re.hi, .int .i64 p.s01.im.lo, .int .i64 p.s01.im.hi, .int .i64 p.s10.re.lo, .int .i64 p.s10.re.hi, .int .i64 p.s10.im.lo, .int .i64 p.s10.im.hi, .int .i64 p.s11.re.lo, .int .i64 p.s11.re.hi, .int .i64 p.s11.im.lo, .int .i64 p.s11.im.hi] := by (with_reducible repeat' (first | assumption | (apply hdN; (try simp only [sA, sS, sD]); done) | apply hdA | apply hdD | apply hdS | (apply hdF; case hp => first | (simp; done) | (simp; omega)) | with_unfolding_all rfl))
          replace HA : Hd ((w41.setCell ⟨(w.heap.size + 1), 0, none⟩ (.int .i64 z3.lo)).setCell ⟨(w.heap.size + 1), 1, none⟩ (.int .i64 z3.hi)) (w.heap.size + 1) 23 #[.int .i64 z3.lo, .int .i64 z3.hi] := by (with_reducible repeat' (first | assumption | (apply hdN; (try simp only [sA, sS, sD]); done) | apply hdA | apply hdD | apply hdS | (apply hdF; case hp => first | (simp; done) | (simp; omega)) | with_unfolding_all rfl))
          replace HB : Hd ((w41.setCell ⟨(w.heap.size + 1), 0, none⟩ (.int .i64 z3.lo)).setCell ⟨(w.heap.size + 1), 1, none⟩ (.int .i64 z3.hi)) (w.heap.size + 2) 23 #[.int .i64 0, .int .i64 0] := by (with_reducible repeat' (first | assumption | (apply hdN; (try simp only [sA, sS, sD]); done) | apply hdA | apply hdD | apply hdS | (apply hdF; case hp => first | (simp; done) | (simp; omega)) | with_unfolding_all rfl))
          replace HG : Hd ((w41.setCell ⟨(w.heap.size + 1), 0, none⟩ (.int .i64 z3.lo)).setCell ⟨(w.heap.size + 1), 1, none⟩ (.int .i64 z3.hi)) w1.heap.size 83 #[.int .i64 0] := by (with_reducible repeat' (first | assumption | (apply hdN; (try simp only [sA, sS, sD]); done) | apply hdA | apply hdD | apply hdS | (apply hdF; case hp => first | (simp; done) | (simp; omega)) | with_unfolding_all rfl))
          replace HX1 : Hd ((w41.setCell ⟨(w.heap.size + 1), 0, none⟩ (.int .i64 z3.lo)).setCell ⟨(w.heap.size + 1), 1, none⟩ (.int .i64 z3.hi)) g1 23 #[.int .i64 z3.lo, .int .i64 z3.hi] := by (with_reducible repeat' (first | assumption | (apply hdN; (try simp only [sA, sS, sD]); done) | apply hdA | apply hdD | apply hdS | (apply hdF; case hp => first | (simp; done) | (simp; omega)) | with_unfolding_all rfl))
          replace HX2 : Hd ((w41.setCell ⟨(w.heap.size + 1), 0, none⟩ (.int .i64 z3.lo)).setCell ⟨(w.heap.size + 1), 1, none⟩ (.int .i64 z3.hi)) g2 23 #[.int .i64 z6.lo, .int .i64 z6.hi] := by (with_reducible repeat' (first | assumption | (apply hdN; (try simp only [sA, sS, sD]); done) | apply hdA | apply hdD | apply hdS | (apply hdF; case hp => first | (simp; done) | (simp; omega)) | with_unfolding_all rfl))
          replace bw : Below w.heap.size w ((w41.setCell ⟨(w.heap.size + 1), 0, none⟩ (.int .i64 z3.lo)).setCell ⟨(w.heap.size + 1), 1, none⟩ (.int .i64 z3.hi)) := by go_grown
          (try refine ⟨⟨HX1, HX2, bw⟩, ?_⟩)
          repeat ((first | with_reducible apply eag_move | with_reducible apply eag_assign | ((with_reducible refine eag_soft (v := ?_) (fun w' hw' => ?_) ?_); rotate_left 1; (focus (obtain ⟨hX1, hX2, hBw⟩ := hw'; obtain ⟨hcX1, hfX1⟩ := hX1.facts; obtain ⟨hcX2, hfX2⟩ := hX2.facts; go_simp; (try with_reducible rfl); done)))); simp only [Act.put, Act.eval, List.setIfInBounds_toArray, List.set_cons_zero, List.set_cons_succ, Array.getD_eq_getD_getElem?, List.getElem?_toArray, List.getElem?_cons_zero, List.getElem?_cons_succ, Option.getD_some])
          generalize hW : (w41.setCell ⟨(w.heap.size + 1), 0, none⟩ (.int .i64 z3.lo)).setCell ⟨(w.heap.size + 1), 1, none⟩ (.int .i64 z3.hi) = w42 at HP HA HB HG HX1 HX2 bw ⊢
          clear hW
          have lw42 : w.heap.size ≤ w42.heap.size := bw.size
          obtain ⟨hcB, hfB⟩ := HB.facts
          refine eag_hard ?_
          go_wp2_with fail
          have PP := HP
          have PA := HA
          have PB := HB
          have PG := HG
          have PX1 := HX1
          have PX2 := HX2
          have Pbw := bw
          replace HP : Hd ((w42.setCell ⟨(w.heap.size + 2), 0, none⟩ (.int .i64 z6.lo)).setCell ⟨(w.heap.size + 2), 1, none⟩ (.int .i64 z6.hi)) w.heap.size 49 #[.int .i64 p.s00.re.lo, .int .i64 p.s00.re.hi, .int .i64 p.s00.im.lo, .int .i64 p.s00.im.hi, .int .i64 p.s01.re.lo, .int .i64 p.s01.re.hi, .int .i64 p.s01.im.lo, .int .i64 p.s01.im.hi, .int .i64 p.s10.re.lo, .int .i64 p.s10.re.hi, .int .i64 p.s10.im.lo, .int .i64 p.s10.im.hi, .int .i64 p.s11.re.lo, .int .i64 p.s11.re.hi, .int .i64 p.s11.im.lo, .int .i64 p.s11.im.hi] := by (with_reducible repeat' (first | assumption | (apply hdN; (try simp only [sA, sS, sD]); done) | apply hdA | apply hdD | apply hdS | (apply hdF; case hp => first | (simp; done) | (simp; omega)) | with_unfolding_all rfl))
          replace HA : Hd ((w42.setCell ⟨(w.heap.size + 2), 0, none⟩ (.int .i64 z6.lo)).setCell ⟨(w.heap.size + 2), 1, none⟩ (.int .i64 z6.hi)) (w.heap.size + 1) 23 #[.int .i64 z3.lo, .int .i64 z3.hi] := by (with_reducible repeat' (first | assumption | (apply hdN; (try simp only [sA, sS, sD]); done) | apply hdA | apply hdD | apply hdS | (apply hdF; case hp => first | (simp; done) | (simp; omega)) | with_unfolding_all rfl))
          replace HB : Hd ((w42.setCell ⟨(w.heap.size + 2), 0, none⟩ (.int .i64 z6.lo)).setCell ⟨(w.heap.size + 2), 1, none⟩ (.int .i64 z6.hi)) (w.heap.size + 2) 23 #[.int .i64 z6.lo, .int .i64 z6.hi] := by (with_reducible repeat' (first | assumption | (apply hdN; (try simp only [sA, sS, sD]); done) | apply hdA | apply hdD | apply hdS | (apply hdF; case hp => first | (simp; done) | (simp; omega)) | with_unfolding_all rfl))
          replace HG : Hd ((w42.setCell ⟨(w.heap.size + 2), 0, none⟩ (.int .i64 z6.lo)).setCell ⟨(w.heap.size + 2), 1, none⟩ (.int .i64 z6.hi)) w1.heap.size 83 #[.int .i64 0] := by (with_reducible repeat' (first | assumption | (apply hdN; (try simp only [sA, sS, sD]); done) | apply hdA | apply hdD | apply hdS | (apply hdF; case hp => first | (simp; done) | (simp; omega)) | with_unfolding_all rfl))
          replace HX1 : Hd ((w42.setCell ⟨(w.heap.size + 2), 0, none⟩ (.int .i64 z6.lo)).setCell ⟨(w.heap.size + 2), 1, none⟩ (.int .i64 z6.hi)) g1 23 #[.int .i64 z3.lo, .int .i64 z3.hi] := by (with_reducible repeat' (first | assumption | (apply hdN; (try simp only [sA, sS, sD]); done) | apply hdA | apply hdD | apply hdS | (apply hdF; case hp => first | (simp; done) | (simp; omega)) | with_unfolding_all rfl))
          replace HX2 : Hd ((w42.setCell ⟨(w.heap.size + 2), 0, none⟩ (.int .i64 z6.lo)).setCell ⟨(w.heap.size + 2), 1, none⟩ (.int .i64 z6.hi)) g2 23 #[.int .i64 z6.lo, .int .i64 z6.hi] := by (with_reducible repeat' (first | assumption | (apply hdN; (try simp only [sA, sS, sD]); done) | apply hdA | apply hdD | apply hdS | (apply hdF; case hp => first | (simp; done) | (simp; omega)) | with_unfolding_all rfl))
          replace bw : Below w.heap.size w ((w42.setCell ⟨(w.heap.size + 2), 0, none⟩ (.int .i64 z6.lo)).setCell ⟨(w.heap.size + 2), 1, none⟩ (.int .i64 z6.hi)) := by go_grown
          (try refine ⟨⟨HX1, HX2, bw⟩, ?_⟩)
          repeat ((first | with_reducible apply eag_move | with_reducible apply eag_assign | ((with_reducible refine eag_soft (v := ?_) (fun w' hw' => ?_) ?_); rotate_left 1; (focus (obtain ⟨hX1, hX2, hBw⟩ := hw'; obtain ⟨hcX1, hfX1⟩ := hX1.facts; obtain ⟨hcX2, hfX2⟩ := hX2.facts; go_simp; (try with_reducible rfl); done)))); simp only [Act.put, Act.eval, List.setIfInBounds_toArray, List.set_cons_zero, List.set_cons_succ, Array.getD_eq_getD_getElem?, List.getElem?_toArray, List.getElem?_cons_zero, List.getElem?_cons_succ, Option.getD_some])
          refine eag_nil ?_
          generalize hW : (w42.setCell ⟨(w.heap.size + 2), 0, none⟩ (.int .i64 z6.lo)).setCell ⟨(w.heap.size + 2), 1, none⟩ (.int .i64 z6.hi) = w43 at HP HA HB HG HX1 HX2 bw ⊢
          clear hW
          have lw43 : w.heap.size ≤ w43.heap.size := bw.size
          obtain ⟨hcA, hfA⟩ := HA.facts
          obtain ⟨hcB, hfB⟩ := HB.facts
          go_wp2
          refine bodyPost_ret (run_results_cc rfl rfl (by (show Hd _ (w.heap.size + 1) 23 #[.int .i64 z3.lo, .int .i64 z3.hi]); (with_reducible repeat' (first | assumption | (apply hdN; (try simp only [sA, sS, sD]); done) | apply hdA | apply hdD | apply hdS | (apply hdF; case hp => first | (simp; done) | (simp; omega)) | with_unfolding_all rfl))) Try.underlying23 rfl (by kernel_rfl) rfl (by (show Hd _ (w.heap.size + 2) 23 #[.int .i64 z6.lo, .int .i64 z6.hi]); (with_reducible repeat' (first | assumption | (apply hdN; (try simp only [sA, sS, sD]); done) | apply hdA | apply hdD | apply hdS | (apply hdF; case hp => first | (simp; done) | (simp; omega)) | with_unfolding_all rfl))) Try.underlying23 rfl (by kernel_rfl)) rfl ⟨by rw [show passCore p = _ from HR.out]; rfl, by go_grown⟩
        · have HR := Lib.hid hr
          clear hr hs
          go_upto_region 7 with fail
          replace HP : Hd (wc.drew) w.heap.size 49 #[.int .i64 p.s00.re.lo, .int .i64 p.s00.re.hi, .int .i64 p.s00.im.lo, .int .i64 p.s00.im.hi, .int .i64 p.s01.re.lo, .int .i64 p.s01.re.hi, .int .i64 p.s01.im.lo, .int .i64 p.s01.im.hi, .int .i64 p.s10.re.lo, .int .i64 p.s10.re.hi, .int .i64 p.s10.im.lo, .int .i64 p.s10.im.hi, .int .i64 p.s11.re.lo, .int .i64 p.s11.re.hi, .int .i64 p.s11.im.lo, .int .i64 p.s11.im.hi] := by (with_reducible repeat' (first | assumption | (apply hdN; (try simp only [sA, sS, sD]); done) | apply hdA | apply hdD | apply hdS | (apply hdF; case hp => first | (simp; done) | (simp; omega)) | with_unfolding_all rfl))
          replace HA : Hd (wc.drew) (w.heap.size + 1) 23 #[.int .i64 0, .int .i64 0] := by (with_reducible repeat' (first | assumption | (apply hdN; (try simp only [sA, sS, sD]); done) | apply hdA | apply hdD | apply hdS | (apply hdF; case hp => first | (simp; done) | (simp; omega)) | with_unfolding_all rfl))
          replace HB : Hd (wc.drew) (w.heap.size + 2) 23 #[.int .i64 0, .int .i64 0] := by (with_reducible repeat' (first | assumption | (apply hdN; (try simp only [sA, sS, sD]); done) | apply hdA | apply hdD | apply hdS | (apply hdF; case hp => first | (simp; done) | (simp; omega)) | with_unfolding_all rfl))
          replace HG : Hd (wc.drew) w1.heap.size 83 #[.int .i64 e6] := by (with_reducible repeat' (first | assumption | (apply hdN; (try simp only [sA, sS, sD]); done) | apply hdA | apply hdD | apply hdS | (apply hdF; case hp => first | (simp; done) | (simp; omega)) | with_unfolding_all rfl))
          replace HX1 : Hd (wc.drew) g1 23 #[.int .i64 z3.lo, .int .i64 z3.hi] := by (with_reducible repeat' (first | assumption | (apply hdN; (try simp only [sA, sS, sD]); done) | apply hdA | apply hdD | apply hdS | (apply hdF; case hp => first | (simp; done) | (simp; omega)) | with_unfolding_all rfl))
          replace HX2 : Hd (wc.drew) g2 23 #[.int .i64 z6.lo, .int .i64 z6.hi] := by (with_reducible repeat' (first | assumption | (apply hdN; (try simp only [sA, sS, sD]); done) | apply hdA | apply hdD | apply hdS | (apply hdF; case hp => first | (simp; done) | (simp; omega)) | with_unfolding_all rfl))
          replace bw : Below w.heap.size w (wc.drew) := by go_grown
          (refine wp_region_eag (fun w' => Hd w' w1.heap.size 83 #[.int .i64 e6] ∧ Below w.heap.size w w') [(0, true), (1, true), (2, true), (3, true), (4, true), (5, true), (6, false), (7, false), (8, true)] (by kernel_rfl) (by kernel_rfl) (fun c d v a w h => by cases d <;> exact h) ⟨HG, bw⟩ ?_; simp only [List.map_cons, List.map_nil, List.getD_cons_zero, List.getD_cons_succ, flMark, Nat.reduceEqDiff, ↓reduceIte])
          repeat ((first | with_reducible apply eag_move | with_reducible apply eag_assign | ((with_reducible refine eag_soft (v := ?_) (fun w' hw' => ?_) ?_); rotate_left 1; (focus (obtain ⟨hG, hBw⟩ := hw'; obtain ⟨hcG, hfG⟩ := hG.facts; go_simp; (try with_reducible rfl); done)))); simp only [Act.put, Act.eval, List.setIfInBounds_toArray, List.set_cons_zero, List.set_cons_succ, Array.getD_eq_getD_getElem?, List.getElem?_toArray, List.getElem?_cons_zero, List.getElem?_cons_succ, Option.getD_some])
          generalize hW : wc.drew = w41 at HP HA HB HG HX1 HX2 bw ⊢
          clear hW
          have lw41 : w.heap.size ≤ w41.heap.size := bw.size
          obtain ⟨hcA, hfA⟩ := HA.facts
          refine eag_hard ?_
          go_wp2_with fail
          have PP := HP
          have PA := HA
          have PB := HB
          have PG := HG
          have PX1 := HX1
          have PX2 := HX2
          have Pbw := bw
          replace HP : Hd ((w41.setCell ⟨(w.heap.size + 1), 0, none⟩ (.int .i64 0)).setCell ⟨(w.heap.size + 1), 1, none⟩ (.int .i64 0)) w.heap.size 49 #[.int .i64 p.s00.re.lo, .int .i64 p.s00.re.hi, .int .i64 p.s00.im.lo, .int .i64 p.s00.im.hi, .int .i64 p.s01.re.lo, .int .i64 p.s01.re.hi, .int .i64 p.s01.im.lo, .int .i64 p.s01.im.hi, .int .i64 p.s10.re.lo, .int .i64 p.s10.re.hi, .int .i64 p.s10.im.lo, .int .i64 p.s10.im.hi, .int .i64 p.s11.re.lo, .int .i64 p.s11.re.hi, .int .i64 p.s11.im.lo, .int .i64 p.s11.im.hi] := by (with_reducible repeat' (first | assumption | (apply hdN; (try simp only [sA, sS, sD]); done) | apply hdA | apply hdD | apply hdS | (apply hdF; case hp => first | (simp; done) | (simp; omega)) | with_unfolding_all rfl))
          replace HA : Hd ((w41.setCell ⟨(w.heap.size + 1), 0, none⟩ (.int .i64 0)).setCell ⟨(w.heap.size + 1), 1, none⟩ (.int .i64 0)) (w.heap.size + 1) 23 #[.int .i64 0, .int .i64 0] := by (with_reducible repeat' (first | assumption | (apply hdN; (try simp only [sA, sS, sD]); done) | apply hdA | apply hdD | apply hdS | (apply hdF; case hp => first | (simp; done) | (simp; omega)) | with_unfolding_all rfl))
          replace HB : Hd ((w41.setCell ⟨(w.heap.size + 1), 0, none⟩ (.int .i64 0)).setCell ⟨(w.heap.size + 1), 1, none⟩ (.int .i64 0)) (w.heap.size + 2) 23 #[.int .i64 0, .int .i64 0] := by (with_reducible repeat' (first | assumption | (apply hdN; (try simp only [sA, sS, sD]); done) | apply hdA | apply hdD | apply hdS | (apply hdF; case hp => first | (simp; done) | (simp; omega)) | with_unfolding_all rfl))
          replace HG : Hd ((w41.setCell ⟨(w.heap.size + 1), 0, none⟩ (.int .i64 0)).setCell ⟨(w.heap.size + 1), 1, none⟩ (.int .i64 0)) w1.heap.size 83 #[.int .i64 e6] := by (with_reducible repeat' (first | assumption | (apply hdN; (try simp only [sA, sS, sD]); done) | apply hdA | apply hdD | apply hdS | (apply hdF; case hp => first | (simp; done) | (simp; omega)) | with_unfolding_all rfl))
          replace HX1 : Hd ((w41.setCell ⟨(w.heap.size + 1), 0, none⟩ (.int .i64 0)).setCell ⟨(w.heap.size + 1), 1, none⟩ (.int .i64 0)) g1 23 #[.int .i64 z3.lo, .int .i64 z3.hi] := by (with_reducible repeat' (first | assumption | (apply hdN; (try simp only [sA, sS, sD]); done) | apply hdA | apply hdD | apply hdS | (apply hdF; case hp => first | (simp; done) | (simp; omega)) | with_unfolding_all rfl))
          replace HX2 : Hd ((w41.setCell ⟨(w.heap.size + 1), 0, none⟩ (.int .i64 0)).setCell ⟨(w.heap.size + 1), 1, none⟩ (.int .i64 0)) g2 23 #[.int .i64 z6.lo, .int .i64 z6.hi] := by (with_reducible repeat' (first | assumption | (apply hdN; (try simp only [sA, sS, sD]); done) | apply hdA | apply hdD | apply hdS | (apply hdF; case hp => first | (simp; done) | (simp; omega)) | with_unfolding_all rfl))
          replace bw : Below w.heap.size w ((w41.setCell ⟨(w.heap.size + 1), 0, none⟩ (.int .i64 0)).setCell ⟨(w.heap.size + 1), 1, none⟩ (.int .i64 0)) := by go_grown
          (try refine ⟨⟨HG, bw⟩, ?_⟩)
          repeat ((first | with_reducible apply eag_move | with_reducible apply eag_assign | ((with_reducible refine eag_soft (v := ?_) (fun w' hw' => ?_) ?_); rotate_left 1; (focus (obtain ⟨hG, hBw⟩ := hw'; obtain ⟨hcG, hfG⟩ := hG.facts; go_simp; (try with_reducible rfl); done)))); simp only [Act.put, Act.eval, List.setIfInBounds_toArray, List.set_cons_zero, List.set_cons_succ, Array.getD_eq_getD_getElem?, List.getElem?_toArray, List.getElem?_cons_zero, List.getElem?_cons_succ, Option.getD_some])
          generalize hW : (w41.setCell ⟨(w.heap.size + 1), 0, none⟩ (.int .i64 0)).setCell ⟨(w.heap.size + 1), 1, none⟩ (.int .i64 0) = w42 at HP HA HB HG HX1 HX2 bw ⊢
          clear hW
          have lw42 : w.heap.size ≤ w42.heap.size := bw.size
          obtain ⟨hcB, hfB⟩ := HB.facts
          refine eag_hard ?_
          go_wp2_with fail
          have PP := HP
          have PA := HA
          have PB := HB
          have PG := HG
          have PX1 := HX1
          have PX2 := HX2
          have Pbw := bw
          replace HP : Hd ((w42.setCell ⟨(w.heap.size + 2), 0, none⟩ (.int .i64 0)).setCell ⟨(w.heap.size + 2), 1, none⟩ (.int .i64 0)) w.heap.size 49 #[.int .i64 p.s00.re.lo, .int .i64 p.s00.re.hi, .int .i64 p.s00.im.lo, .int .i64 p.s00.im.hi, .int .i64 p.s01.re.lo, .int .i64 p.s01.re.hi, .int .i64 p.s01.im.lo, .int .i64 p.s01.im.hi, .int .i64 p.s10.re.lo, .int .i64 p.s10.re.hi, .int .i64 p.s10.im.lo, .int .i64 p.s10.im.hi, .int .i64 p.s11.re.lo, .int .i64 p.s11.re.hi, .int .i64 p.s11.im.lo, .int .i64 p.s11.im.hi] := by (with_reducible repeat' (first | assumption | (apply hdN; (try simp only [sA, sS, sD]); done) | apply hdA | apply hdD | apply hdS | (apply hdF; case hp => first | (simp; done) | (simp; omega)) | with_unfolding_all rfl))
          replace HA : Hd ((w42.setCell ⟨(w.heap.size + 2), 0, none⟩ (.int .i64 0)).setCell ⟨(w.heap.size + 2), 1, none⟩ (.int .i64 0)) (w.heap.size + 1) 23 #[.int .i64 0, .int .i64 0] := by (with_reducible repeat' (first | assumption | (apply hdN; (try simp only [sA, sS, sD]); done) | apply hdA | apply hdD | apply hdS | (apply hdF; case hp => first | (simp; done) | (simp; omega)) | with_unfolding_all rfl))
          replace HB : Hd ((w42.setCell ⟨(w.heap.size + 2), 0, none⟩ (.int .i64 0)).setCell ⟨(w.heap.size + 2), 1, none⟩ (.int .i64 0)) (w.heap.size + 2) 23 #[.int .i64 0, .int .i64 0] := by (with_reducible repeat' (first | assumption | (apply hdN; (try simp only [sA, sS, sD]); done) | apply hdA | apply hdD | apply hdS | (apply hdF; case hp => first | (simp; done) | (simp; omega)) | with_unfolding_all rfl))
          replace HG : Hd ((w42.setCell ⟨(w.heap.size + 2), 0, none⟩ (.int .i64 0)).setCell ⟨(w.heap.size + 2), 1, none⟩ (.int .i64 0)) w1.heap.size 83 #[.int .i64 e6] := by (with_reducible repeat' (first | assumption | (apply hdN; (try simp only [sA, sS, sD]); done) | apply hdA | apply hdD | apply hdS | (apply hdF; case hp => first | (simp; done) | (simp; omega)) | with_unfolding_all rfl))
          replace HX1 : Hd ((w42.setCell ⟨(w.heap.size + 2), 0, none⟩ (.int .i64 0)).setCell ⟨(w.heap.size + 2), 1, none⟩ (.int .i64 0)) g1 23 #[.int .i64 z3.lo, .int .i64 z3.hi] := by (with_reducible repeat' (first | assumption | (apply hdN; (try simp only [sA, sS, sD]); done) | apply hdA | apply hdD | apply hdS | (apply hdF; case hp => first | (simp; done) | (simp; omega)) | with_unfolding_all rfl))
          replace HX2 : Hd ((w42.setCell ⟨(w.heap.size + 2), 0, none⟩ (.int .i64 0)).setCell ⟨(w.heap.size + 2), 1, none⟩ (.int .i64 0)) g2 23 #[.int .i64 z6.lo, .int .i64 z6.hi] := by (with_reducible repeat' (first | assumption | (apply hdN; (try simp only [sA, sS, sD]); done) | apply hdA | apply hdD | apply hdS | (apply hdF; case hp => first | (simp; done) | (simp; omega)) | with_unfolding_all rfl))
          replace bw : Below w.heap.size w ((w42.setCell ⟨(w.heap.size + 2), 0, none⟩ (.int .i64 0)).setCell ⟨(w.heap.size + 2), 1, none⟩ (.int .i64 0)) := by go_grown
          (try refine ⟨⟨HG, bw⟩, ?_⟩)
          repeat ((first | with_reducible apply eag_move | with_reducible apply eag_assign | ((with_reducible refine eag_soft (v := ?_) (fun w' hw' => ?_) ?_); rotate_left 1; (focus (obtain ⟨hG, hBw⟩ := hw'; obtain ⟨hcG, hfG⟩ := hG.facts; go_simp; (try with_reducible rfl); done)))); simp only [Act.put, Act.eval, List.setIfInBounds_toArray, List.set_cons_zero, List.set_cons_succ, Array.getD_eq_getD_getElem?, List.getElem?_toArray, List.getElem?_cons_zero, List.getElem?_cons_succ, Option.getD_some])
          refine eag_nil ?_
          generalize hW : (w42.setCell ⟨(w.heap.size + 2), 0, none⟩ (.int .i64 0)).setCell ⟨(w.heap.size + 2), 1, none⟩ (.int .i64 0) = w43 at HP HA HB HG HX1 HX2 bw ⊢
          clear hW
          have lw43 : w.heap.size ≤ w43.heap.size := bw.size
          obtain ⟨hcA, hfA⟩ := HA.facts
          obtain ⟨hcB, hfB⟩ := HB.facts
          go_wp2
          refine bodyPost_ret (run_results_cc rfl rfl (by (show Hd _ (w.heap.size + 1) 23 #[.int .i64 0, .int .i64 0]); (with_reducible repeat' (first | assumption | (apply hdN; (try simp only [sA, sS, sD]); done) | apply hdA | apply hdD | apply hdS | (apply hdF; case hp => first | (simp; done) | (simp; omega)) | with_unfolding_all rfl))) Try.underlying23 rfl (by kernel_rfl) rfl (by (show Hd _ (w.heap.size + 2) 23 #[.int .i64 0, .int .i64 0]); (with_reducible repeat' (first | assumption | (apply hdN; (try simp only [sA, sS, sD]); done) | apply hdA | apply hdD | apply hdS | (apply hdF; case hp => first | (simp; done) | (simp; omega)) | with_unfolding_all rfl))) Try.underlying23 rfl (by kernel_rfl)) rfl ⟨by rw [show passCore p = _ from HR.out]; rfl, by go_grown⟩
      case first =>
        replace HP : Hd (wd.drew) w.heap.size 49 #[.int .i64 p.s00.re.lo, .int .i64 p.s00.re.hi, .int .i64 p.s00.im.lo, .int .i64 p.s00.im.hi, .int .i64 p.s01.re.lo, .int .i64 p.s01.re.hi, .int .i64 p.s01.im.lo, .int .i64 p.s01.im.hi, .int .i64 p.s10.re.lo, .int .i64 p.s10.re.hi, .int .i64 p.s10.im.lo, .int .i64 p.s10.im.hi, .int .i64 p.s11.re.lo, .int .i64 p.s11.re.hi, .int .i64 p.s11.im.lo, .int .i64 p.s11.im.hi] := by (with_reducible repeat' (first | assumption | (apply hdN; (try simp only [sA, sS, sD]); done) | apply hdA | apply hdD | apply hdS | (apply hdF; case hp => first | (simp; done) | (simp; omega)) | with_unfolding_all rfl))
        replace HA : Hd (wd.drew) (w.heap.size + 1) 23 #[.int .i64 0, .int .i64 0] := by (with_reducible repeat' (first | assumption | (apply hdN; (try simp only [sA, sS, sD]); done) | apply hdA | apply hdD | apply hdS | (apply hdF; case hp => first | (simp; done) | (simp; omega)) | with_unfolding_all rfl))
        replace HB : Hd (wd.drew) (w.heap.size + 2) 23 #[.int .i64 0, .int .i64 0] := by (with_reducible repeat' (first | assumption | (apply hdN; (try simp only [sA, sS, sD]); done) | apply hdA | apply hdD | apply hdS | (apply hdF; case hp => first | (simp; done) | (simp; omega)) | with_unfolding_all rfl))
        replace HG : Hd (wd.drew) w1.heap.size 83 #[.int .i64 e3] := by (with_reducible repeat' (first | assumption | (apply hdN; (try simp only [sA, sS, sD]); done) | apply hdA | apply hdD | apply hdS | (apply hdF; case hp => first | (simp; done) | (simp; omega)) | with_unfolding_all rfl))
        replace HX1 : Hd (wd.drew) g1 23 #[.int .i64 z3.lo, .int .i64 z3.hi] := by (with_reducible repeat' (first | assumption | (apply hdN; (try simp only [sA, sS, sD]); done) | apply hdA | apply hdD | apply hdS | (apply hdF; case hp => first | (simp; done) | (simp; omega)) | with_unfolding_all rfl))
        replace bw : Below w.heap.size w (wd.drew) := by go_grown
        (refine wp_region_fl (fun w' => Hd w' w.heap.size 49 #[.int .i64 p.s00.re.lo, .int .i64 p.s00.re.hi, .int .i64 p.s00.im.lo, .int .i64 p.s00.im.hi, .int .i64 p.s01.re.lo, .int .i64 p.s01.re.hi, .int .i64 p.s01.im.lo, .int .i64 p.s01.im.hi, .int .i64 p.s10.re.lo, .int .i64 p.s10.re.hi, .int .i64 p.s10.im.lo, .int .i64 p.s10.im.hi, .int .i64 p.s11.re.lo, .int .i64 p.s11.re.hi, .int .i64 p.s11.im.lo, .int .i64 p.s11.im.hi] ∧ Below w.heap.size w w') 14 [(0, 0), (1, 0), (2, 0), (3, 0), (4, 0), (5, 0), (7, 0), (8, 0), (9, 0), (10, 0), (11, 0), (6, 2), (12, 2), (13, 2), (14, 1), (15, 1)] (by kernel_rfl) (by kernel_rfl) (fun c d v a w h => by cases d <;> exact h) ⟨HP, bw⟩ ?_; simp only [List.map_cons, List.map_nil, List.getD_cons_zero, List.getD_cons_succ, flMark, Nat.reduceEqDiff, ↓reduceIte])
        generalize hW : wd.drew = w21 at HP HA HB HG HX1 bw ⊢
        clear hW
        have lw21 : w.heap.size ≤ w21.heap.size := bw.size
        repeat ((first | with_reducible apply fl_move | with_reducible apply fl_assign | ((with_reducible refine fl_soft (v := ?_) (fun w' hw' => ?_) ?_); rotate_left 1; (focus (obtain ⟨hP, hBw⟩ := hw'; obtain ⟨hcP, hfP⟩ := hP.facts; go_simp; (try with_reducible rfl); done)))); simp only [Act.put, Act.eval, List.setIfInBounds_toArray, List.set_cons_zero, List.set_cons_succ, Array.getD_eq_getD_getElem?, List.getElem?_toArray, List.getElem?_cons_zero, List.getElem?_cons_succ, Option.getD_some])
        refine fl_both ?_ ?_
        · go_wp2_with fail
          refine (wpower_any p.s01 k01 e3 w1.heap.size _ HG).mono ?_
          rintro e w22 ⟨z22, e22, rfl, ok22, -, qq22, HG22, hb22⟩
          replace qq22 := Lib.hid qq22
          replace bw := But.far bw hb22 (by omega) (by (try simp only [World.size_alloc, World.size_setCell, World.size_drew]); omega)
          replace HP := HP.but hb22 (by omega)
          replace HA := HA.but hb22 (by omega)
          replace HB := HB.but hb22 (by omega)
          replace HX1 := HX1.but hb22 (by omega)
          replace HG := HG22
          clear HG22
          have lw22 : w.heap.size ≤ w22.heap.size := bw.size
          clear hb22
          go_wp2_with fail
          (try refine ⟨⟨HP, bw⟩, ?_⟩)
          repeat ((first | with_reducible apply fl_move | with_reducible apply fl_assign | ((with_reducible refine fl_soft (v := ?_) (fun w' hw' => ?_) ?_); rotate_left 1; (focus (obtain ⟨hP, hBw⟩ := hw'; obtain ⟨hcP, hfP⟩ := hP.facts; go_simp; (try with_reducible rfl); done)))); simp only [Act.put, Act.eval, List.setIfInBounds_toArray, List.set_cons_zero, List.set_cons_succ, Array.getD_eq_getD_getElem?, List.getElem?_toArray, List.getElem?_cons_zero, List.getElem?_cons_succ, Option.getD_some])
          refine fl_both ?_ ?_
          · go_wp2_with fail
            refine (wpower_any p.s11 k11 e22 w1.heap.size _ HG).mono ?_
            rintro e w23 ⟨z23, e23, rfl, ok23, -, qq23, HG23, hb23⟩
            replace qq23 := Lib.hid qq23
            replace bw := But.far bw hb23 (by omega) (by (try simp only [World.size_alloc, World.size_setCell, World.size_drew]); omega)
            replace HP := HP.but hb23 (by omega)
            replace HA := HA.but hb23 (by omega)
            replace HB := HB.but hb23 (by omega)
            replace HX1 := HX1.but hb23 (by omega)
            replace HG := HG23
            clear HG23
            have lw23 : w.heap.size ≤ w23.heap.size := bw.size
            clear hb23
            go_wp2_with fail
            (try refine ⟨⟨HP, bw⟩, ?_⟩)
            repeat ((first | with_reducible apply fl_move | with_reducible apply fl_assign | ((with_reducible refine fl_soft (v := ?_) (fun w' hw' => ?_) ?_); rotate_left 1; (focus (obtain ⟨hP, hBw⟩ := hw'; obtain ⟨hcP, hfP⟩ := hP.facts; go_simp; (try with_reducible rfl); done)))); simp only [Act.put, Act.eval, List.setIfInBounds_toArray, List.set_cons_zero, List.set_cons_succ, Array.getD_eq_getD_getElem?, List.getElem?_toArray, List.getElem?_cons_zero, List.getElem?_cons_succ, Option.getD_some])
            refine fl_both ?_ ?_
            · go_wp2_with fail
              refine (wsum_any z22 z23 (En.Sp.fit_of_ok ok22) (En.Sp.fit_of_ok ok23) e23 w1.heap.size _ HG).mono ?_
              rintro e w24 ⟨z24, e24, rfl, ok24, -, qq24, HG24, hb24⟩
              replace qq24 := Lib.hid qq24
              replace bw := But.far bw hb24 (by omega) (by (try simp only [World.size_alloc, World.size_setCell, World.size_drew]); omega)
              replace HP := HP.but hb24 (by omega)
              replace HA := HA.but hb24 (by omega)
              replace HB := HB.but hb24 (by omega)
              replace HX1 := HX1.but hb24 (by omega)
              replace HG := HG24
              clear HG24
              have lw24 : w.heap.size ≤ w24.heap.size := bw.size
              clear hb24
              go_wp2_with fail
              (try refine ⟨⟨HP, bw⟩, ?_⟩)
              repeat ((first | with_reducible apply fl_move | with_reducible apply fl_assign | ((with_reducible refine fl_soft (v := ?_) (fun w' hw' => ?_) ?_); rotate_left 1; (focus (obtain ⟨hP, hBw⟩ := hw'; obtain ⟨hcP, hfP⟩ := hP.facts; go_simp; (try with_reducible rfl); done)))); simp only [Act.put, Act.eval, List.setIfInBounds_toArray, List.set_cons_zero, List.set_cons_succ, Array.getD_eq_getD_getElem?, List.getElem?_toArray, List.getElem?_cons_zero, List.getElem?_cons_succ, Option.getD_some])
              refine fl_must ?_
              go_wp2_with fail
              have PP := HP
              have PA := HA
              have PB := HB
              have PG := HG
              have PX1 := HX1
              have Pbw := bw
              have ltPX : w.heap.size < w24.heap.size := by (have := HP.lt; (try simp only [World.size_alloc, World.size_setCell, World.size_drew] at this); omega)
              have ltAX : (w.heap.size + 1) < w24.heap.size := by (have := HA.lt; (try simp only [World.size_alloc, World.size_setCell, World.size_drew] at this); omega)
              have ltBX : (w.heap.size + 2) < w24.heap.size := by (have := HB.lt; (try simp only [World.size_alloc, World.size_setCell, World.size_drew] at this); omega)
              have ltGX : w1.heap.size < w24.heap.size := by (have := HG.lt; (try simp only [World.size_alloc, World.size_setCell, World.size_drew] at this); omega)
              have ltX1X : g1 < w24.heap.size := by (have := HX1.lt; (try simp only [World.size_alloc, World.size_setCell, World.size_drew] at this); omega)
              replace HP : Hd (w24.alloc (.cells #[.int .i64 0, .int .i64 0] 23)) w.heap.size 49 #[.int .i64 p.s00.re.lo, .int .i64 p.s00.re.hi, .int .i64 p.s00.im.lo, .int .i64 p.s00.im.hi, .int .i64 p.s01.re.lo, .int .i64 p.s01.re.hi, .int .i64 p.s01.im.lo, .int .i64 p.s01.im.hi, .int .i64 p.s10.re.lo, .int .i64 p.s10.re.hi, .int .i64 p.s10.im.lo, .int .i64 p.s10.im.hi, .int .i64 p.s11.re.lo, .int .i64 p.s11.re.hi, .int .i64 p.s11.im.lo, .int .i64 p.s11.im.hi] := by (with_reducible repeat' (first | assumption | (apply hdN; (try simp only [sA, sS, sD]); done) | apply hdA | apply hdD | apply hdS | (apply hdF; case hp => first | (simp; done) | (simp; omega)) | with_unfolding_all rfl))
              replace HA : Hd (w24.alloc (.cells #[.int .i64 0, .int .i64 0] 23)) (w.heap.size + 1) 23 #[.int .i64 0, .int .i64 0] := by (with_reducible repeat' (first | assumption | (apply hdN; (try simp only [sA, sS, sD]); done) | apply hdA | apply hdD | apply hdS | (apply hdF; case hp => first | (simp; done) | (simp; omega)) | with_unfolding_all rfl))
              replace HB : Hd (w24.alloc (.cells #[.int .i64 0, .int .i64 0] 23)) (w.heap.size + 2) 23 #[.int .i64 0, .int .i64 0] := by (with_reducible repeat' (first | assumption | (apply hdN; (try simp only [sA, sS, sD]); done) | apply hdA | apply hdD | apply hdS | (apply hdF; case hp => first | (simp; done) | (simp; omega)) | with_unfolding_all rfl))
              replace HG : Hd (w24.alloc (.cells #[.int .i64 0, .int .i64 0] 23)) w1.heap.size 83 #[.int .i64 e24] := by (with_reducible repeat' (first | assumption | (apply hdN; (try simp only [sA, sS, sD]); done) | apply hdA | apply hdD | apply hdS | (apply hdF; case hp => first | (simp; done) | (simp; omega)) | with_unfolding_all rfl))
              replace HX1 : Hd (w24.alloc (.cells #[.int .i64 0, .int .i64 0] 23)) g1 23 #[.int .i64 z3.lo, .int .i64 z3.hi] := by (with_reducible repeat' (first | assumption | (apply hdN; (try simp only [sA, sS, sD]); done) | apply hdA | apply hdD | apply hdS | (apply hdF; case hp => first | (simp; done) | (simp; omega)) | with_unfolding_all rfl))
              replace bw : Below w.heap.size w (w24.alloc (.cells #[.int .i64 0, .int .i64 0] 23)) := by go_grown
              have HX : Hd (w24.alloc (.cells #[.int .i64 0, .int .i64 0] 23)) w24.heap.size 23 #[.int .i64 0, .int .i64 0] := by (with_reducible repeat' (first | assumption | (apply hdN; (try simp only [sA, sS, sD]); done) | apply hdA | apply hdD | apply hdS | (apply hdF; case hp => first | (simp; done) | (simp; omega)) | with_unfolding_all rfl))
              (try refine ⟨⟨HP, bw⟩, ?_⟩)
              repeat ((first | with_reducible apply fl_move | with_reducible apply fl_assign | ((with_reducible refine fl_soft (v := ?_) (fun w' hw' => ?_) ?_); rotate_left 1; (focus (obtain ⟨hP, hBw⟩ := hw'; obtain ⟨hcP, hfP⟩ := hP.facts; go_simp; (try with_reducible rfl); done)))); simp only [Act.put, Act.eval, List.setIfInBounds_toArray, List.set_cons_zero, List.set_cons_succ, Array.getD_eq_getD_getElem?, List.getElem?_toArray, List.getElem?_cons_zero, List.getElem?_cons_succ, Option.getD_some])
              repeat ((first | with_reducible apply fl_move | with_reducible apply fl_assign | ((with_reducible refine fl_soft (v := ?_) (fun w' hw' => ?_) ?_); rotate_left 1; (focus (obtain ⟨hP, hBw⟩ := hw'; obtain ⟨hcP, hfP⟩ := hP.facts; go_simp; (try with_reducible rfl); done)))); simp only [Act.put, Act.eval, List.setIfInBounds_toArray, List.set_cons_zero, List.set_cons_succ, Array.getD_eq_getD_getElem?, List.getElem?_toArray, List.getElem?_cons_zero, List.getElem?_cons_succ, Option.getD_some])
              refine fl_hard ?_
              obtain ⟨hcX, hfX⟩ := HX.facts
              go_wp2_with fail
              replace HP : Hd (w24.alloc (.cells #[.int .i64 z24.lo, .int .i64 z24.hi] 23)) w.heap.size 49 #[.int .i64 p.s00.re.lo, .int .i64 p.s00.re.hi, .int .i64 p.s00.im.lo, .int .i64 p.s00.im.hi, .int .i64 p.s01.re.lo, .int .i64 p.s01.re.hi, .int .i64 p.s01.im.lo, .int .i64 p.s01.im.hi, .int .i64 p.s10.re.lo, .int .i64 p.s10.re.hi, .int .i64 p.s10.im.lo, .int .i64 p.s10.im.hi, .int .i64 p.s11.re.lo, .int .i64 p.s11.re.hi, .int .i64 p.s11.im.lo, .int .i64 p.s11.im.hi] := by (with_reducible repeat' (first | assumption | (apply hdN; (try simp only [sA, sS, sD]); done) | apply hdA | apply hdD | apply hdS | (apply hdF; case hp => first | (simp; done) | (simp; omega)) | with_unfolding_all rfl))
              replace HA : Hd (w24.alloc (.cells #[.int .i64 z24.lo, .int .i64 z24.hi] 23)) (w.heap.size + 1) 23 #[.int .i64 0, .int .i64 0] := by (with_reducible repeat' (first | assumption | (apply hdN; (try simp only [sA, sS, sD]); done) | apply hdA | apply hdD | apply hdS | (apply hdF; case hp => first | (simp; done) | (simp; omega)) | with_unfolding_all rfl))
              replace HB : Hd (w24.alloc (.cells #[.int .i64 z24.lo, .int .i64 z24.hi] 23)) (w.heap.size + 2) 23 #[.int .i64 0, .int .i64 0] := by (with_reducible repeat' (first | assumption | (apply hdN; (try simp only [sA, sS, sD]); done) | apply hdA | apply hdD | apply hdS | (apply hdF; case hp => first | (simp; done) | (simp; omega)) | with_unfolding_all rfl))
              replace HG : Hd (w24.alloc (.cells #[.int .i64 z24.lo, .int .i64 z24.hi] 23)) w1.heap.size 83 #[.int .i64 e24] := by (with_reducible repeat' (first | assumption | (apply hdN; (try simp only [sA, sS, sD]); done) | apply hdA | apply hdD | apply hdS | (apply hdF; case hp => first | (simp; done) | (simp; omega)) | with_unfolding_all rfl))
              replace HX1 : Hd (w24.alloc (.cells #[.int .i64 z24.lo, .int .i64 z24.hi] 23)) g1 23 #[.int .i64 z3.lo, .int .i64 z3.hi] := by (with_reducible repeat' (first | assumption | (apply hdN; (try simp only [sA, sS, sD]); done) | apply hdA | apply hdD | apply hdS | (apply hdF; case hp => first | (simp; done) | (simp; omega)) | with_unfolding_all rfl))
              replace HX : Hd (w24.alloc (.cells #[.int .i64 z24.lo, .int .i64 z24.hi] 23)) w24.heap.size 23 #[.int .i64 z24.lo, .int .i64 z24.hi] := by (with_reducible repeat' (first | assumption | (apply hdN; (try simp only [sA, sS, sD]); done) | apply hdA | apply hdD | apply hdS | (apply hdF; case hp => first | (simp; done) | (simp; omega)) | with_unfolding_all rfl))
              replace bw : Below w.heap.size w (w24.alloc (.cells #[.int .i64 z24.lo, .int .i64 z24.hi] 23)) := by go_grown
              (try refine ⟨⟨HP, bw⟩, ?_⟩)
              repeat ((first | with_reducible apply fl_move | with_reducible apply fl_assign | ((with_reducible refine fl_soft (v := ?_) (fun w' hw' => ?_) ?_); rotate_left 1; (focus (obtain ⟨hP, hBw⟩ := hw'; obtain ⟨hcP, hfP⟩ := hP.facts; go_simp; (try with_reducible rfl); done)))); simp only [Act.put, Act.eval, List.setIfInBounds_toArray, List.set_cons_zero, List.set_cons_succ, Array.getD_eq_getD_getElem?, List.getElem?_toArray, List.getElem?_cons_zero, List.getElem?_cons_succ, Option.getD_some])
              refine fl_nil ?_
              go_wp2_with fail
              go_meet
              exact ⟨w24.heap.size, z22, z23, z24, e22, e23, e24, rfl, by omega, ok24, qq22, qq23, qq24, HP, HA, HB, HG, HX1, HX, bw⟩
            · go_wp2_with fail
              have PP := HP
              have PA := HA
              have PB := HB
              have PG := HG
              have PX1 := HX1
              have Pbw := bw
              have ltPX : w.heap.size < w23.heap.size := by (have := HP.lt; (try simp only [World.size_alloc, World.size_setCell, World.size_drew] at this); omega)
              have ltAX : (w.heap.size + 1) < w23.heap.size := by (have := HA.lt; (try simp only [World.size_alloc, World.size_setCell, World.size_drew] at this); omega)
              have ltBX : (w.heap.size + 2) < w23.heap.size := by (have := HB.lt; (try simp only [World.size_alloc, World.size_setCell, World.size_drew] at this); omega)
              have ltGX : w1.heap.size < w23.heap.size := by (have := HG.lt; (try simp only [World.size_alloc, World.size_setCell, World.size_drew] at this); omega)
              have ltX1X : g1 < w23.heap.size := by (have := HX1.lt; (try simp only [World.size_alloc, World.size_setCell, World.size_drew] at this); omega)
              replace HP : Hd (w23.alloc (.cells #[.int .i64 0, .int .i64 0] 23)) w.heap.size 49 #[.int .i64 p.s00.re.lo, .int .i64 p.s00.re.hi, .int .i64 p.s00.im.lo, .int .i64 p.s00.im.hi, .int .i64 p.s01.re.lo, .int .i64 p.s01.re.hi, .int .i64 p.s01.im.lo, .int .i64 p.s01.im.hi, .int .i64 p.s10.re.lo, .int .i64 p.s10.re.hi, .int .i64 p.s10.im.lo, .int .i64 p.s10.im.hi, .int .i64 p.s11.re.lo, .int .i64 p.s11.re.hi, .int .i64 p.s11.im.lo, .int .i64 p.s11.im.hi] := by (with_reducible repeat' (first | assumption | (apply hdN; (try simp only [sA, sS, sD]); done) | apply hdA | apply hdD | apply hdS | (apply hdF; case hp => first | (simp; done) | (simp; omega)) | with_unfolding_all rfl))
              replace HA : Hd (w23.alloc (.cells #[.int .i64 0, .int .i64 0] 23)) (w.heap.size + 1) 23 #[.int .i64 0, .int .i64 0] := by (with_reducible repeat' (first | assumption | (apply hdN; (try simp only [sA, sS, sD]); done) | apply hdA | apply hdD | apply hdS | (apply hdF; case hp => first | (simp; done) | (simp; omega)) | with_unfolding_all rfl))
              replace HB : Hd (w23.alloc (.cells #[.int .i64 0, .int .i64 0] 23)) (w.heap.size + 2) 23 #[.int .i64 0, .int .i64 0] := by (with_reducible repeat' (first | assumption | (apply hdN; (try simp only [sA, sS, sD]); done) | apply hdA | apply hdD | apply hdS | (apply hdF; case hp => first | (simp; done) | (simp; omega)) | with_unfolding_all rfl))
              replace HG : Hd (w23.alloc (.cells #[.int .i64 0, .int .i64 0] 23)) w1.heap.size 83 #[.int .i64 e23] := by (with_reducible repeat' (first | assumption | (apply hdN; (try simp only [sA, sS, sD]); done) | apply hdA | apply hdD | apply hdS | (apply hdF; case hp => first | (simp; done) | (simp; omega)) | with_unfolding_all rfl))
              replace HX1 : Hd (w23.alloc (.cells #[.int .i64 0, .int .i64 0] 23)) g1 23 #[.int .i64 z3.lo, .int .i64 z3.hi] := by (with_reducible repeat' (first | assumption | (apply hdN; (try simp only [sA, sS, sD]); done) | apply hdA | apply hdD | apply hdS | (apply hdF; case hp => first | (simp; done) | (simp; omega)) | with_unfolding_all rfl))
              replace bw : Below w.heap.size w (w23.alloc (.cells #[.int .i64 0, .int .i64 0] 23)) := by go_grown
              have HX : Hd (w23.alloc (.cells #[.int .i64 0, .int .i64 0] 23)) w23.heap.size 23 #[.int .i64 0, .int .i64 0] := by (with_reducible repeat' (first | assumption | (apply hdN; (try simp only [sA, sS, sD]); done) | apply hdA | apply hdD | apply hdS | (apply hdF; case hp => first | (simp; done) | (simp; omega)) | with_unfolding_all rfl))
              (try refine ⟨⟨HP, bw⟩, ?_⟩)
              repeat ((first | with_reducible apply eag_move | with_reducible apply eag_assign | ((with_reducible refine eag_soft (v := ?_) (fun w' hw' => ?_) ?_); rotate_left 1; (focus (obtain ⟨hP, hBw⟩ := hw'; obtain ⟨hcP, hfP⟩ := hP.facts; go_simp; (try with_reducible rfl); done)))); simp only [Act.put, Act.eval, List.setIfInBounds_toArray, List.set_cons_zero, List.set_cons_succ, Array.getD_eq_getD_getElem?, List.getElem?_toArray, List.getElem?_cons_zero, List.getElem?_cons_succ, Option.getD_some])
              repeat ((first | with_reducible apply eag_move | with_reducible apply eag_assign | ((with_reducible refine eag_soft (v := ?_) (fun w' hw' => ?_) ?_); rotate_left 1; (focus (obtain ⟨hP, hBw⟩ := hw'; obtain ⟨hcP, hfP⟩ := hP.facts; go_simp; (try with_reducible rfl); done)))); simp only [Act.put, Act.eval, List.setIfInBounds_toArray, List.set_cons_zero, List.set_cons_succ, Array.getD_eq_getD_getElem?, List.getElem?_toArray, List.getElem?_cons_zero, List.getElem?_cons_succ, Option.getD_some])
              refine eag_hard ?_
              go_wp2_with fail
              refine (wsum_any z22 z23 (En.Sp.fit_of_ok ok22) (En.Sp.fit_of_ok ok23) e23 w1.heap.size _ HG).mono ?_
              rintro e w24 ⟨z24, e24, rfl, ok24, -, qq24, HG24, hb24⟩
              replace qq24 := Lib.hid qq24
              replace bw := But.far bw hb24 (by omega) (by (try simp only [World.size_alloc, World.size_setCell, World.size_drew]); omega)
              replace HP := HP.but hb24 (by omega)
              replace HA := HA.but hb24 (by omega)
              replace HB := HB.but hb24 (by omega)
              replace HX1 := HX1.but hb24 (by omega)
              replace HX := HX.but hb24 (by omega)
              replace HG := HG24
              clear HG24
              have lw24 : w.heap.size ≤ w24.heap.size := bw.size
              clear hb24
              go_wp2_with fail
              (try refine ⟨⟨HP, bw⟩, ?_⟩)
              repeat ((first | with_reducible apply eag_move | with_reducible apply eag_assign | ((with_reducible refine eag_soft (v := ?_) (fun w' hw' => ?_) ?_); rotate_left 1; (focus (obtain ⟨hP, hBw⟩ := hw'; obtain ⟨hcP, hfP⟩ := hP.facts; go_simp; (try with_reducible rfl); done)))); simp only [Act.put, Act.eval, List.setIfInBounds_toArray, List.set_cons_zero, List.set_cons_succ, Array.getD_eq_getD_getElem?, List.getElem?_toArray, List.getElem?_cons_zero, List.getElem?_cons_succ, Option.getD_some])
              refine eag_hard ?_
              obtain ⟨hcX, hfX⟩ := HX.facts
              go_wp2_with fail
              have PP := HP
              have PA := HA
              have PB := HB
              have PG := HG
              have PX1 := HX1
              have PX := HX
              have Pbw := bw
              replace HP : Hd ((w24.setCell ⟨w23.heap.size, 0, none⟩ (.int .i64 z24.lo)).setCell ⟨w23.heap.size, 1, none⟩ (.int .i64 z24.hi)) w.heap.size 49 #[.int .i64 p.s00.re.lo, .int .i64 p.s00.re.hi, .int .i64 p.s00.im.lo, .int .i64 p.s00.im.hi, .int .i64 p.s01.re.lo, .int .i64 p.s01.re.hi, .int .i64 p.s01.im.lo, .int .i64 p.s01.im.hi, .int .i64 p.s10.re.lo, .int .i64 p.s10.re.hi, .int .i64 p.s10.im.lo, .int .i64 p.s10.im.hi, .int .i64 p.s11.re.lo, .int .i64 p.s11.re.hi, .int .i64 p.s11.im.lo, .int .i64 p.s11.im.hi] := by (with_reducible repeat' (first | assumption | (apply hdN; (try simp only [sA, sS, sD]); done) | apply hdA | apply hdD | apply hdS | (apply hdF; case hp => first | (simp; done) | (simp; omega)) | with_unfolding_all rfl))
              replace HA : Hd ((w24.setCell ⟨w23.heap.size, 0, none⟩ (.int .i64 z24.lo)).setCell ⟨w23.heap.size, 1, none⟩ (.int .i64 z24.hi)) (w.heap.size + 1) 23 #[.int .i64 0, .int .i64 0] := by (with_reducible repeat' (first | assumption | (apply hdN; (try simp only [sA, sS, sD]); done) | apply hdA | apply hdD | apply hdS | (apply hdF; case hp => first | (simp; done) | (simp; omega)) | with_unfolding_all rfl))
              replace HB : Hd ((w24.setCell ⟨w23.heap.size, 0, none⟩ (.int .i64 z24.lo)).setCell ⟨w23.heap.size, 1, none⟩ (.int .i64 z24.hi)) (w.heap.size + 2) 23 #[.int .i64 0, .int .i64 0] := by (with_reducible repeat' (first | assumption | (apply hdN; (try simp only [sA, sS, sD]); done) | apply hdA | apply hdD | apply hdS | (apply hdF; case hp => first | (simp; done) | (simp; omega)) | with_unfolding_all rfl))
              replace HG : Hd ((w24.setCell ⟨w23.heap.size, 0, none⟩ (.int .i64 z24.lo)).setCell ⟨w23.heap.size, 1, none⟩ (.int .i64 z24.hi)) w1.heap.size 83 #[.int .i64 e24] := by (with_reducible repeat' (first | assumption | (apply hdN; (try simp only [sA, sS, sD]); done) | apply hdA | apply hdD | apply hdS | (apply hdF; case hp => first | (simp; done) | (simp; omega)) | with_unfolding_all rfl))
              replace HX1 : Hd ((w24.setCell ⟨w23.heap.size, 0, none⟩ (.int .i64 z24.lo)).setCell ⟨w23.heap.size, 1, none⟩ (.int .i64 z24.hi)) g1 23 #[.int .i64 z3.lo, .int .i64 z3.hi] := by (with_reducible repeat' (first | assumption | (apply hdN; (try simp only [sA, sS, sD]); done) | apply hdA | apply hdD | apply hdS | (apply hdF; case hp => first | (simp; done) | (simp; omega)) | with_unfolding_all rfl))
              replace HX : Hd ((w24.setCell ⟨w23.heap.size, 0, none⟩ (.int .i64 z24.lo)).setCell ⟨w23.heap.size, 1, none⟩ (.int .i64 z24.hi)) w23.heap.size 23 #[.int .i64 z24.lo, .int .i64 z24.hi] := by (with_reducible repeat' (first | assumption | (apply hdN; (try simp only [sA, sS, sD]); done) | apply hdA | apply hdD | apply hdS | (apply hdF; case hp => first | (simp; done) | (simp; omega)) | with_unfolding_all rfl))
              replace bw : Below w.heap.size w ((w24.setCell ⟨w23.heap.size, 0, none⟩ (.int .i64 z24.lo)).setCell ⟨w23.heap.size, 1, none⟩ (.int .i64 z24.hi)) := by go_grown
              (try refine ⟨⟨HP, bw⟩, ?_⟩)
              repeat ((first | with_reducible apply eag_move | with_reducible apply eag_assign | ((with_reducible refine eag_soft (v := ?_) (fun w' hw' => ?_) ?_); rotate_left 1; (focus (obtain ⟨hP, hBw⟩ := hw'; obtain ⟨hcP, hfP⟩ := hP.facts; go_simp; (try with_reducible rfl); done)))); simp only [Act.put, Act.eval, List.setIfInBounds_toArray, List.set_cons_zero, List.set_cons_succ, Array.getD_eq_getD_getElem?, List.getElem?_toArray, List.getElem?_cons_zero, List.getElem?_cons_succ, Option.getD_some])
              refine eag_nil ?_
              go_wp2_with fail
              go_meet
              exact ⟨w23.heap.size, z22, z23, z24, e22, e23, e24, rfl, by omega, ok24, qq22, qq23, qq24, HP, HA, HB, HG, HX1, HX, bw⟩
          · go_wp2_with fail
            have PP := HP
            have PA := HA
            have PB := HB
            have PG := HG
            have PX1 := HX1
            have Pbw := bw
            have ltPX : w.heap.size < w22.heap.size := by (have := HP.lt; (try simp only [World.size_alloc, World.size_setCell, World.size_drew] at this); omega)
            have ltAX : (w.heap.size + 1) < w22.heap.size := by (have := HA.lt; (try simp only [World.size_alloc, World.size_setCell, World.size_drew] at this); omega)
            have ltBX : (w.heap.size + 2) < w22.heap.size := by (have := HB.lt; (try simp only [World.size_alloc, World.size_setCell, World.size_drew] at this); omega)
            have ltGX : w1.heap.size < w22.heap.size := by (have := HG.lt; (try simp only [World.size_alloc, World.size_setCell, World.size_drew] at this); omega)
            have ltX1X : g1 < w22.heap.size := by (have := HX1.lt; (try simp only [World.size_alloc, World.size_setCell, World.size_drew] at this); omega)
            replace HP : Hd (w22.alloc (.cells #[.int .i64 0, .int .i64 0] 23)) w.heap.size 49 #[.int .i64 p.s00.re.lo, .int .i64 p.s00.re.hi, .int .i64 p.s00.im.lo, .int .i64 p.s00.im.hi, .int .i64 p.s01.re.lo, .int .i64 p.s01.re.hi, .int .i64 p.s01.im.lo, .int .i64 p.s01.im.hi, .int .i64 p.s10.re.lo, .int .i64 p.s10.re.hi, .int .i64 p.s10.im.lo, .int .i64 p.s10.im.hi, .int .i64 p.s11.re.lo, .int .i64 p.s11.re.hi, .int .i64 p.s11.im.lo, .int .i64 p.s11.im.hi] := by (with_reducible repeat' (first | assumption | (apply hdN; (try simp only [sA, sS, sD]); done) | apply hdA | apply hdD | apply hdS | (apply hdF; case hp => first | (simp; done) | (simp; omega)) | with_unfolding_all rfl))
            replace HA : Hd (w22.alloc (.cells #[.int .i64 0, .int .i64 0] 23)) (w.heap.size + 1) 23 #[.int .i64 0, .int .i64 0] := by (with_reducible repeat' (first | assumption | (apply hdN; (try simp only [sA, sS, sD]); done) | apply hdA | apply hdD | apply hdS | (apply hdF; case hp => first | (simp; done) | (simp; omega)) | with_unfolding_all rfl))
            replace HB : Hd (w22.alloc (.cells #[.int .i64 0, .int .i64 0] 23)) (w.heap.size + 2) 23 #[.int .i64 0, .int .i64 0] := by (with_reducible repeat' (first | assumption | (apply hdN; (try simp only [sA, sS, sD]); done) | apply hdA | apply hdD | apply hdS | (apply hdF; case hp => first | (simp; done) | (simp; omega)) | with_unfolding_all rfl))
            replace HG : Hd (w22.alloc (.cells #[.int .i64 0, .int .i64 0] 23)) w1.heap.size 83 #[.int .i64 e22] := by (with_reducible repeat' (first | assumption | (apply hdN; (try simp only [sA, sS, sD]); done) | apply hdA | apply hdD | apply hdS | (apply hdF; case hp => first | (simp; done) | (simp; omega)) | with_unfolding_all rfl))
            replace HX1 : Hd (w22.alloc (.cells #[.int .i64 0, .int .i64 0] 23)) g1 23 #[.int .i64 z3.lo, .int .i64 z3.hi] := by (with_reducible repeat' (first | assumption | (apply hdN; (try simp only [sA, sS, sD]); done) | apply hdA | apply hdD | apply hdS | (apply hdF; case hp => first | (simp; done) | (simp; omega)) | with_unfolding_all rfl))
            replace bw : Below w.heap.size w (w22.alloc (.cells #[.int .i64 0, .int .i64 0] 23)) := by go_grown
            have HX : Hd (w22.alloc (.cells #[.int .i64 0, .int .i64 0] 23)) w22.heap.size 23 #[.int .i64 0, .int .i64 0] := by (with_reducible repeat' (first | assumption | (apply hdN; (try simp only [sA, sS, sD]); done) | apply hdA | apply hdD | apply hdS | (apply hdF; case hp => first | (simp; done) | (simp; omega)) | with_unfolding_all rfl))
            (try refine ⟨⟨HP, bw⟩, ?_⟩)
            repeat ((first | with_reducible apply eag_move | with_reducible apply eag_assign | ((with_reducible refine eag_soft (v := ?_) (fun w' hw' => ?_) ?_); rotate_left 1; (focus (obtain ⟨hP, hBw⟩ := hw'; obtain ⟨hcP, hfP⟩ := hP.facts; go_simp; (try with_reducible rfl); done)))); simp only [Act.put, Act.eval, List.setIfInBounds_toArray, List.set_cons_zero, List.set_cons_succ, Array.getD_eq_getD_getElem?, List.getElem?_toArray, List.getElem?_cons_zero, List.getElem?_cons_succ, Option.getD_some])
            repeat ((first | with_reducible apply eag_move | with_reducible apply eag_assign | ((with_reducible refine eag_soft (v := ?_) (fun w' hw' => ?_) ?_); rotate_left 1; (focus (obtain ⟨hP, hBw⟩ := hw'; obtain ⟨hcP, hfP⟩ := hP.facts; go_simp; (try with_reducible rfl); done)))); simp only [Act.put, Act.eval, List.setIfInBounds_toArray, List.set_cons_zero, List.set_cons_succ, Array.getD_eq_getD_getElem?, List.getElem?_toArray, List.getElem?_cons_zero, List.getElem?_cons_succ, Option.getD_some])
            refine eag_hard ?_
            go_wp2_with fail
            refine (wpower_any p.s11 k11 e22 w1.heap.size _ HG).mono ?_
            rintro e w23 ⟨z23, e23, rfl, ok23, -, qq23, HG23, hb23⟩
            replace qq23 := Lib.hid qq23
            replace bw := But.far bw hb23 (by omega) (by (try simp only [World.size_alloc, World.size_setCell, World.size_drew]); omega)
            replace HP := HP.but hb23 (by omega)
            replace HA := HA.but hb23 (by omega)
            replace HB := HB.but hb23 (by omega)
            replace HX1 := HX1.but hb23 (by omega)
            replace HX := HX.but hb23 (by omega)
            replace HG := HG23
            clear HG23
            have lw23 : w.heap.size ≤ w23.heap.size := bw.size
            clear hb23
            go_wp2_with fail
            (try refine ⟨⟨HP, bw⟩, ?_⟩)
            repeat ((first | with_reducible apply eag_move | with_reducible apply eag_assign | ((with_reducible refine eag_soft (v := ?_) (fun w' hw' => ?_) ?_); rotate_left 1; (focus (obtain ⟨hP, hBw⟩ := hw'; obtain ⟨hcP, hfP⟩ := hP.facts; go_simp; (try with_reducible rfl); done)))); simp only [Act.put, Act.eval, List.setIfInBounds_toArray, List.set_cons_zero, List.set_cons_succ, Array.getD_eq_getD_getElem?, List.getElem?_toArray, List.getElem?_cons_zero, List.getElem?_cons_succ, Option.getD_some])
            refine eag_hard ?_
            go_wp2_with fail
            refine (wsum_any z22 z23 (En.Sp.fit_of_ok ok22) (En.Sp.fit_of_ok ok23) e23 w1.heap.size _ HG).mono ?_
            rintro e w24 ⟨z24, e24, rfl, ok24, -, qq24, HG24, hb24⟩
            replace qq24 := Lib.hid qq24
            replace bw := But.far bw hb24 (by omega) (by (try simp only [World.size_alloc, World.size_setCell, World.size_drew]); omega)
            replace HP := HP.but hb24 (by omega)
            replace HA := HA.but hb24 (by omega)
            replace HB := HB.but hb24 (by omega)
            replace HX1 := HX1.but hb24 (by omega)
            replace HX := HX.but hb24 (by omega)
            replace HG := HG24
            clear HG24
            have lw24 : w.heap.size ≤ w24.heap.size := bw.size
            clear hb24
            go_wp2_with fail
            (try refine ⟨⟨HP, bw⟩, ?_⟩)
            repeat ((first | with_reducible apply eag_move | with_reducible apply eag_assign | ((with_reducible refine eag_soft (v := ?_) (fun w' hw' => ?_) ?_); rotate_left 1; (focus (obtain ⟨hP, hBw⟩ := hw'; obtain ⟨hcP, hfP⟩ := hP.facts; go_simp; (try with_reducible rfl); done)))); simp only [Act.put, Act.eval, List.setIfInBounds_toArray, List.set_cons_zero, List.set_cons_succ, Array.getD_eq_getD_getElem?, List.getElem?_toArray, List.getElem?_cons_zero, List.getElem?_cons_succ, Option.getD_some])
            refine eag_hard ?_
            obtain ⟨hcX, hfX⟩ := HX.facts
            go_wp2_with fail
            have PP := HP
            have PA := HA
            have PB := HB
            have PG := HG
            have PX1 := HX1
            have PX := HX
            have Pbw := bw
            replace HP : Hd ((w24.setCell ⟨w22.heap.size, 0, none⟩ (.int .i64 z24.lo)).setCell ⟨w22.heap.size, 1, none⟩ (.int .i64 z24.hi)) w.heap.size 49 #[.int .i64 p.s00.re.lo, .int .i64 p.s00.re.hi, .int .i64 p.s00.im.lo, .int .i64 p.s00.im.hi, .int .i64 p.s01.re.lo, .int .i64 p.s01.re.hi, .int .i64 p.s01.im.lo, .int .i64 p.s01.im.hi, .int .i64 p.s10.re.lo, .int .i64 p.s10.re.hi, .int .i64 p.s10.im.lo, .int .i64 p.s10.im.hi, .int .i64 p.s11.re.lo, .int .i64 p.s11.re.hi, .int .i64 p.s11.im.lo, .int .i64 p.s11.im.hi] := by (with_reducible repeat' (first | assumption | (apply hdN; (try simp only [sA, sS, sD]); done) | apply hdA | apply hdD | apply hdS | (apply hdF; case hp => first | (simp; done) | (simp; omega)) | with_unfolding_all rfl))
            replace HA : Hd ((w24.setCell ⟨w22.heap.size, 0, none⟩ (.int .i64 z24.lo)).setCell ⟨w22.heap.size, 1, none⟩ (.int .i64 z24.hi)) (w.heap.size + 1) 23 #[.int .i64 0, .int .i64 0] := by (with_reducible repeat' (first | assumption | (apply hdN; (try simp only [sA, sS, sD]); done) | apply hdA | apply hdD | apply hdS | (apply hdF; case hp => first | (simp; done) | (simp; omega)) | with_unfolding_all rfl))
            replace HB : Hd ((w24.setCell ⟨w22.heap.size, 0, none⟩ (.int .i64 z24.lo)).setCell ⟨w22.heap.size, 1, none⟩ (.int .i64 z24.hi)) (w.heap.size + 2) 23 #[.int .i64 0, .int .i64 0] := by (with_reducible repeat' (first | assumption | (apply hdN; (try simp only [sA, sS, sD]); done) | apply hdA | apply hdD | apply hdS | (apply hdF; case hp => first | (simp; done) | (simp; omega)) | with_unfolding_all rfl))
            replace HG : Hd ((w24.setCell ⟨w22.heap.size, 0, none⟩ (.int .i64 z24.lo)).setCell ⟨w22.heap.size, 1, none⟩ (.int .i64 z24.hi)) w1.heap.size 83 #[.int .i64 e24] := by (with_reducible repeat' (first | assumption | (apply hdN; (try simp only [sA, sS, sD]); done) | apply hdA | apply hdD | apply hdS | (apply hdF; case hp => first | (simp; done) | (simp; omega)) | with_unfolding_all rfl))
            replace HX1 : Hd ((w24.setCell ⟨w22.heap.size, 0, none⟩ (.int .i64 z24.lo)).setCell ⟨w22.heap.size, 1, none⟩ (.int .i64 z24.hi)) g1 23 #[.int .i64 z3.lo, .int .i64 z3.hi] := by (with_reducible repeat' (first | assumption | (apply hdN; (try simp only [sA, sS, sD]); done) | apply hdA | apply hdD | apply hdS | (apply hdF; case hp => first | (simp; done) | (simp; omega)) | with_unfolding_all rfl))
            replace HX : Hd ((w24.setCell ⟨w22.heap.size, 0, none⟩ (.int .i64 z24.lo)).setCell ⟨w22.heap.size, 1, none⟩ (.int .i64 z24.hi)) w22.heap.size 23 #[.int .i64 z24.lo, .int .i64 z24.hi] := by (with_reducible repeat' (first | assumption | (apply hdN; (try simp only [sA, sS, sD]); done) | apply hdA | apply hdD | apply hdS | (apply hdF; case hp => first | (simp; done) | (simp; omega)) | with_unfolding_all rfl))
            replace bw : Below w.heap.size w ((w24.setCell ⟨w22.heap.size, 0, none⟩ (.int .i64 z24.lo)).setCell ⟨w22.heap.size, 1, none⟩ (.int .i64 z24.hi)) := by go_grown
            (try refine ⟨⟨HP, bw⟩, ?_⟩)
            repeat ((first | with_reducible apply eag_move | with_reducible apply eag_assign | ((with_reducible refine eag_soft (v := ?_) (fun w' hw' => ?_) ?_); rotate_left 1; (focus (obtain ⟨hP, hBw⟩ := hw'; obtain ⟨hcP, hfP⟩ := hP.facts; go_simp; (try with_reducible rfl); done)))); simp only [Act.put, Act.eval, List.setIfInBounds_toArray, List.set_cons_zero, List.set_cons_succ, Array.getD_eq_getD_getElem?, List.getElem?_toArray, List.getElem?_cons_zero, List.getElem?_cons_succ, Option.getD_some])
            refine eag_nil ?_
            go_wp2_with fail
            go_meet
            exact ⟨w22.heap.size, z22, z23, z24, e22, e23, e24, rfl, by omega, ok24, qq22, qq23, qq24, HP, HA, HB, HG, HX1, HX, bw⟩
        · go_wp2_with fail
          have PP := HP
          have PA := HA
          have PB := HB
          have PG := HG
          have PX1 := HX1
          have Pbw := bw
          have ltPX : w.heap.size < w21.heap.size := by (have := HP.lt; (try simp only [World.size_alloc, World.size_setCell, World.size_drew] at this); omega)
          have ltAX : (w.heap.size + 1) < w21.heap.size := by (have := HA.lt; (try simp only [World.size_alloc, World.size_setCell, World.size_drew] at this); omega)
          have ltBX : (w.heap.size + 2) < w21.heap.size := by (have := HB.lt; (try simp only [World.size_alloc, World.size_setCell, World.size_drew] at this); omega)
          have ltGX : w1.heap.size < w21.heap.size := by (have := HG.lt; (try simp only [World.size_alloc, World.size_setCell, World.size_drew] at this); omega)
          have ltX1X : g1 < w21.heap.size := by (have := HX1.lt; (try simp only [World.size_alloc, World.size_setCell, World.size_drew] at this); omega)
          replace HP : Hd (w21.alloc (.cells #[.int .i64 0, .int .i64 0] 23)) w.heap.size 49 #[.int .i64 p.s00.re.lo, .int .i64 p.s00.re.hi, .int .i64 p.s00.im.lo, .int .i64 p.s00.im.hi, .int .i64 p.s01.re.lo, .int .i64 p.s01.re.hi, .int .i64 p.s01.im.lo, .int .i64 p.s01.im.hi, .int .i64 p.s10.re.lo, .int .i64 p.s10.re.hi, .int .i64 p.s10.im.lo, .int .i64 p.s10.im.hi, .int .i64 p.s11.re.lo, .int .i64 p.s11.re.hi, .int .i64 p.s11.im.lo, .int .i64 p.s11.im.hi] := by (with_reducible repeat' (first | assumption | (apply hdN; (try simp only [sA, sS, sD]); done) | apply hdA | apply hdD | apply hdS | (apply hdF; case hp => first | (simp; done) | (simp; omega)) | with_unfolding_all rfl))
          replace HA : Hd (w21.alloc (.cells #[.int .i64 0, .int .i64 0] 23)) (w.heap.size + 1) 23 #[.int .i64 0, .int .i64 0] := by (with_reducible repeat' (first | assumption | (apply hdN; (try simp only [sA, sS, sD]); done) | apply hdA | apply hdD | apply hdS | (apply hdF; case hp => first | (simp; done) | (simp; omega)) | with_unfolding_all rfl))
          replace HB : Hd (w21.alloc (.cells #[.int .i64 0, .int .i64 0] 23)) (w.heap.size + 2) 23 #[.int .i64 0, .int .i64 0] := by (with_reducible repeat' (first | assumption | (apply hdN; (try simp only [sA, sS, sD]); done) | apply hdA | apply hdD | apply hdS | (apply hdF; case hp => first | (simp; done) | (simp; omega)) | with_unfolding_all rfl))
          replace HG : Hd (w21.alloc (.cells #[.int .i64 0, .int .i64 0] 23)) w1.heap.size 83 #[.int .i64 e3] := by (with_reducible repeat' (first | assumption | (apply hdN; (try simp only [sA, sS, sD]); done) | apply hdA | apply hdD | apply hdS | (apply hdF; case hp => first | (simp; done) | (simp; omega)) | with_unfolding_all rfl))
          replace HX1 : Hd (w21.alloc (.cells #[.int .i64 0, .int .i64 0] 23)) g1 23 #[.int .i64 z3.lo, .int .i64 z3.hi] := by (with_reducible repeat' (first | assumption | (apply hdN; (try simp only [sA, sS, sD]); done) | apply hdA | apply hdD | apply hdS | (apply hdF; case hp => first | (simp; done) | (simp; omega)) | with_unfolding_all rfl))
          replace bw : Below w.heap.size w (w21.alloc (.cells #[.int .i64 0, .int .i64 0] 23)) := by go_grown
          have HX : Hd (w21.alloc (.cells #[.int .i64 0, .int .i64 0] 23)) w21.heap.size 23 #[.int .i64 0, .int .i64 0] := by (with_reducible repeat' (first | assumption | (apply hdN; (try simp only [sA, sS, sD]); done) | apply hdA | apply hdD | apply hdS | (apply hdF; case hp => first | (simp; done) | (simp; omega)) | with_unfolding_all rfl))
          (try refine ⟨⟨HP, bw⟩, ?_⟩)
          repeat ((first | with_reducible apply eag_move | with_reducible apply eag_assign | ((with_reducible refine eag_soft (v := ?_) (fun w' hw' => ?_) ?_); rotate_left 1; (focus (obtain ⟨hP, hBw⟩ := hw'; obtain ⟨hcP, hfP⟩ := hP.facts; go_simp; (try with_reducible rfl); done)))); simp only [Act.put, Act.eval, List.setIfInBounds_toArray, List.set_cons_zero, List.set_cons_succ, Array.getD_eq_getD_getElem?, List.getElem?_toArray, List.getElem?_cons_zero, List.getElem?_cons_succ, Option.getD_some])
          repeat ((first | with_reducible apply eag_move | with_reducible apply eag_assign | ((with_reducible refine eag_soft (v := ?_) (fun w' hw' => ?_) ?_); rotate_left 1; (focus (obtain ⟨hP, hBw⟩ := hw'; obtain ⟨hcP, hfP⟩ := hP.facts; go_simp; (try with_reducible rfl); done)))); simp only [Act.put, Act.eval, List.setIfInBounds_toArray, List.set_cons_zero, List.set_cons_succ, Array.getD_eq_getD_getElem?, List.getElem?_toArray, List.getElem?_cons_zero, List.getElem?_cons_succ, Option.getD_some])
          refine eag_hard ?_
          go_wp2_with fail
          refine (wpower_any p.s01 k01 e3 w1.heap.size _ HG).mono ?_
          rintro e w22 ⟨z22, e22, rfl, ok22, -, qq22, HG22, hb22⟩
          replace qq22 := Lib.hid qq22
          replace bw := But.far bw hb22 (by omega) (by (try simp only [World.size_alloc, World.size_setCell, World.size_drew]); omega)
          replace HP := HP.but hb22 (by omega)
          replace HA := HA.but hb22 (by omega)
          replace HB := HB.but hb22 (by omega)
          replace HX1 := HX1.but hb22 (by omega)
          replace HX := HX.but hb22 (by omega)
          replace HG := HG22
          clear HG22
          have lw22 : w.heap.size ≤ w22.heap.size := bw.size
          clear hb22
          go_wp2_with fail
          (try refine ⟨⟨HP, bw⟩, ?_⟩)
          repeat ((first | with_reducible apply eag_move | with_reducible apply eag_assign | ((with_reducible refine eag_soft (v := ?_) (fun w' hw' => ?_) ?_); rotate_left 1; (focus (obtain ⟨hP, hBw⟩ := hw'; obtain ⟨hcP, hfP⟩ := hP.facts; go_simp; (try with_reducible rfl); done)))); simp only [Act.put, Act.eval, List.setIfInBounds_toArray, List.set_cons_zero, List.set_cons_succ, Array.getD_eq_getD_getElem?, List.getElem?_toArray, List.getElem?_cons_zero, List.getElem?_cons_succ, Option.getD_some])
          refine eag_hard ?_
          go_wp2_with fail
          refine (wpower_any p.s11 k11 e22 w1.heap.size _ HG).mono ?_
          rintro e w23 ⟨z23, e23, rfl, ok23, -, qq23, HG23, hb23⟩
          replace qq23 := Lib.hid qq23
          replace bw := But.far bw hb23 (by omega) (by (try simp only [World.size_alloc, World.size_setCell, World.size_drew]); omega)
          replace HP := HP.but hb23 (by omega)
          replace HA := HA.but hb23 (by omega)
          replace HB := HB.but hb23 (by omega)
          replace HX1 := HX1.but hb23 (by omega)
          replace HX := HX.but hb23 (by omega)
          replace HG := HG23
          clear HG23
          have lw23 : w.heap.size ≤ w23.heap.size := bw.size
          clear hb23
          go_wp2_with fail
          (try refine ⟨⟨HP, bw⟩, ?_⟩)
          repeat ((first | with_reducible apply eag_move | with_reducible apply eag_assign | ((with_reducible refine eag_soft (v := ?_) (fun w' hw' => ?_) ?_); rotate_left 1; (focus (obtain ⟨hP, hBw⟩ := hw'; obtain ⟨hcP, hfP⟩ := hP.facts; go_simp; (try with_reducible rfl); done)))); simp only [Act.put, Act.eval, List.setIfInBounds_toArray, List.set_cons_zero, List.set_cons_succ, Array.getD_eq_getD_getElem?, List.getElem?_toArray, List.getElem?_cons_zero, List.getElem?_cons_succ, Option.getD_some])
          refine eag_hard ?_
          go_wp2_with fail
          refine (wsum_any z22 z23 (En.Sp.fit_of_ok ok22) (En.Sp.fit_of_ok ok23) e23 w1.heap.size _ HG).mono ?_
          rintro e w24 ⟨z24, e24, rfl, ok24, -, qq24, HG24, hb24⟩
          replace qq24 := Lib.hid qq24
          replace bw := But.far bw hb24 (by omega) (by (try simp only [World.size_alloc, World.size_setCell, World.size_drew]); omega)
          replace HP := HP.but hb24 (by omega)
          replace HA := HA.but hb24 (by omega)
          replace HB := HB.but hb24 (by omega)
          replace HX1 := HX1.but hb24 (by omega)
          replace HX := HX.but hb24 (by omega)
          replace HG := HG24
          clear HG24
          have lw24 : w.heap.size ≤ w24.heap.size := bw.size
          clear hb24
          go_wp2_with fail
          (try refine ⟨⟨HP, bw⟩, ?_⟩)
          repeat ((first | with_reducible apply eag_move | with_reducible apply eag_assign | ((with_reducible refine eag_soft (v := ?_) (fun w' hw' => ?_) ?_); rotate_left 1; (focus (obtain ⟨hP, hBw⟩ := hw'; obtain ⟨hcP, hfP⟩ := hP.facts; go_simp; (try with_reducible rfl); done)))); simp only [Act.put, Act.eval, List.setIfInBounds_toArray, List.set_cons_zero, List.set_cons_succ, Array.getD_eq_getD_getElem?, List.getElem?_toArray, List.getElem?_cons_zero, List.getElem?_cons_succ, Option.getD_some])
          refine eag_hard ?_
          obtain ⟨hcX, hfX⟩ := HX.facts
          go_wp2_with fail
          have PP := HP
          have PA := HA
          have PB := HB
          have PG := HG
          have PX1 := HX1
          have PX := HX
          have Pbw := bw
          replace HP : Hd ((w24.setCell ⟨w21.heap.size, 0, none⟩ (.int .i64 z24.lo)).setCell ⟨w21.heap.size, 1, none⟩ (.int .i64 z24.hi)) w.heap.size 49 #[.int .i64 p.s00.re.lo, .int .i64 p.s00.re.hi, .int .i64 p.s00.im.lo, .int .i64 p.s00.im.hi, .int .i64 p.s01.re.lo, .int .i64 p.s01.re.hi, .int .i64 p.s01.im.lo, .int .i64 p.s01.im.hi, .int .i64 p.s10.re.lo, .int .i64 p.s10.re.hi, .int .i64 p.s10.im.lo, .int .i64 p.s10.im.hi, .int .i64 p.s11.re.lo, .int .i64 p.s11.re.hi, .int .i64 p.s11.im.lo, .int .i64 p.s11.im.hi] := by (with_reducible repeat' (first | assumption | (apply hdN; (try simp only [sA, sS, sD]); done) | apply hdA | apply hdD | apply hdS | (apply hdF; case hp => first | (simp; done) | (simp; omega)) | with_unfolding_all rfl))
          replace HA : Hd ((w24.setCell ⟨w21.heap.size, 0, none⟩ (.int .i64 z24.lo)).setCell ⟨w21.heap.size, 1, none⟩ (.int .i64 z24.hi)) (w.heap.size + 1) 23 #[.int .i64 0, .int .i64 0] := by (with_reducible repeat' (first | assumption | (apply hdN; (try simp only [sA, sS, sD]); done) | apply hdA | apply hdD | apply hdS | (apply hdF; case hp => first | (simp; done) | (simp; omega)) | with_unfolding_all rfl))
          replace HB : Hd ((w24.setCell ⟨w21.heap.size, 0, none⟩ (.int .i64 z24.lo)).setCell ⟨w21.heap.size, 1, none⟩ (.int .i64 z24.hi)) (w.heap.size + 2) 23 #[.int .i64 0, .int .i64 0] := by (with_reducible repeat' (first | assumption | (apply hdN; (try simp only [sA, sS, sD]); done) | apply hdA | apply hdD | apply hdS | (apply hdF; case hp => first | (simp; done) | (simp; omega)) | with_unfolding_all rfl))
          replace HG : Hd ((w24.setCell ⟨w21.heap.size, 0, none⟩ (.int .i64 z24.lo)).setCell ⟨w21.heap.size, 1, none⟩ (.int .i64 z24.hi)) w1.heap.size 83 #[.int .i64 e24] := by (with_reducible repeat' (first | assumption | (apply hdN; (try simp only [sA, sS, sD]); done) | apply hdA | apply hdD | apply hdS | (apply hdF; case hp => first | (simp; done) | (simp; omega)) | with_unfolding_all rfl))
          replace HX1 : Hd ((w24.setCell ⟨w21.heap.size, 0, none⟩ (.int .i64 z24.lo)).setCell ⟨w21.heap.size, 1, none⟩ (.int .i64 z24.hi)) g1 23 #[.int .i64 z3.lo, .int .i64 z3.hi] := by (with_reducible repeat' (first | assumption | (apply hdN; (try simp only [sA, sS, sD]); done) | apply hdA | apply hdD | apply hdS | (apply hdF; case hp => first | (simp; done) | (simp; omega)) | with_unfolding_all rfl))
          replace HX : Hd ((w24.setCell ⟨w21.heap.size, 0, none⟩ (.int .i64 z24.lo)).setCell ⟨w21.heap.size, 1, none⟩ (.int .i64 z24.hi)) w21.heap.size 23 #[.int .i64 z24.lo, .int .i64 z24.hi] := by (with_reducible repeat' (first | assumption | (apply hdN; (try simp only [sA, sS, sD]); done) | apply hdA | apply hdD | apply hdS | (apply hdF; case hp => first | (simp; done) | (simp; omega)) | with_unfolding_all rfl))
          replace bw : Below w.heap.size w ((w24.setCell ⟨w21.heap.size, 0, none⟩ (.int .i64 z24.lo)).setCell ⟨w21.heap.size, 1, none⟩ (.int .i64 z24.hi)) := by go_grown
          (try refine ⟨⟨HP, bw⟩, ?_⟩)
          repeat ((first | with_reducible apply eag_move | with_reducible apply eag_assign | ((with_reducible refine eag_soft (v := ?_) (fun w' hw' => ?_) ?_); rotate_left 1; (focus (obtain ⟨hP, hBw⟩ := hw'; obtain ⟨hcP, hfP⟩ := hP.facts; go_simp; (try with_reducible rfl); done)))); simp only [Act.put, Act.eval, List.setIfInBounds_toArray, List.set_cons_zero, List.set_cons_succ, Array.getD_eq_getD_getElem?, List.getElem?_toArray, List.getElem?_cons_zero, List.getElem?_cons_succ, Option.getD_some])
          refine eag_nil ?_
          go_wp2_with fail
          go_meet
          exact ⟨w21.heap.size, z22, z23, z24, e22, e23, e24, rfl, by omega, ok24, qq22, qq23, qq24, HP, HA, HB, HG, HX1, HX, bw⟩
    case first =>
      replace HP : Hd (w2.drew) w.heap.size 49 #[.int .i64 p.s00.re.lo, .int .i64 p.s00.re.hi, .int .i64 p.s00.im.lo, .int .i64 p.s00.im.hi, .int .i64 p.s01.re.lo, .int .i64 p.s01.re.hi, .int .i64 p.s01.im.lo, .int .i64 p.s01.im.hi, .int .i64 p.s10.re.lo, .int .i64 p.s10.re.hi, .int .i64 p.s10.im.lo, .int .i64 p.s10.im.hi, .int .i64 p.s11.re.lo, .int .i64 p.s11.re.hi, .int .i64 p.s11.im.lo, .int .i64 p.s11.im.hi] := by (with_reducible repeat' (first | assumption | (apply hdN; (try simp only [sA, sS, sD]); done) | apply hdA | apply hdD | apply hdS | (apply hdF; case hp => first | (simp; done) | (simp; omega)) | with_unfolding_all rfl))
      replace HA : Hd (w2.drew) (w.heap.size + 1) 23 #[.int .i64 0, .int .i64 0] := by (with_reducible repeat' (first | assumption | (apply hdN; (try simp only [sA, sS, sD]); done) | apply hdA | apply hdD | apply hdS | (apply hdF; case hp => first | (simp; done) | (simp; omega)) | with_unfolding_all rfl))
      replace HB : Hd (w2.drew) (w.heap.size + 2) 23 #[.int .i64 0, .int .i64 0] := by (with_reducible repeat' (first | assumption | (apply hdN; (try simp only [sA, sS, sD]); done) | apply hdA | apply hdD | apply hdS | (apply hdF; case hp => first | (simp; done) | (simp; omega)) | with_unfolding_all rfl))
      replace HG : Hd (w2.drew) w1.heap.size 83 #[.int .i64 0] := by (with_reducible repeat' (first | assumption | (apply hdN; (try simp only [sA, sS, sD]); done) | apply hdA | apply hdD | apply hdS | (apply hdF; case hp => first | (simp; done) | (simp; omega)) | with_unfolding_all rfl))
      replace bw : Below w.heap.size w (w2.drew) := by go_grown
      (refine wp_region_fl (fun w' => Hd w' w.heap.size 49 #[.int .i64 p.s00.re.lo, .int .i64 p.s00.re.hi, .int .i64 p.s00.im.lo, .int .i64 p.s00.im.hi, .int .i64 p.s01.re.lo, .int .i64 p.s01.re.hi, .int .i64 p.s01.im.lo, .int .i64 p.s01.im.hi, .int .i64 p.s10.re.lo, .int .i64 p.s10.re.hi, .int .i64 p.s10.im.lo, .int .i64 p.s10.im.hi, .int .i64 p.s11.re.lo, .int .i64 p.s11.re.hi, .int .i64 p.s11.im.lo, .int .i64 p.s11.im.hi] ∧ Below w.heap.size w w') 14 [(0, 0), (1, 0), (2, 0), (3, 0), (4, 0), (5, 0), (7, 0), (8, 0), (9, 0), (10, 0), (11, 0), (6, 2), (12, 2), (13, 2), (14, 1), (15, 1)] (by kernel_rfl) (by kernel_rfl) (fun c d v a w h => by cases d <;> exact h) ⟨HP, bw⟩ ?_; simp only [List.map_cons, List.map_nil, List.getD_cons_zero, List.getD_cons_succ, flMark, Nat.reduceEqDiff, ↓reduceIte])
      generalize hW : w2.drew = w3 at HP HA HB HG bw ⊢
      clear hW
      have lw3 : w.heap.size ≤ w3.heap.size := bw.size
      repeat ((first | with_reducible apply fl_move | with_reducible apply fl_assign | ((with_reducible refine fl_soft (v := ?_) (fun w' hw' => ?_) ?_); rotate_left 1; (focus (obtain ⟨hP, hBw⟩ := hw'; obtain ⟨hcP, hfP⟩ := hP.facts; go_simp; (try with_reducible rfl); done)))); simp only [Act.put, Act.eval, List.setIfInBounds_toArray, List.set_cons_zero, List.set_cons_succ, Array.getD_eq_getD_getElem?, List.getElem?_toArray, List.getElem?_cons_zero, List.getElem?_cons_succ, Option.getD_some])
      refine fl_both ?_ ?_
      · go_wp2_with fail
        refine (wpower_any p.s00 k00 0 w1.heap.size _ HG).mono ?_
        rintro e w4 ⟨z4, e4, rfl, ok4, -, qq4, HG4, hb4⟩
        replace qq4 := Lib.hid qq4
        replace bw := But.far bw hb4 (by omega) (by (try simp only [World.size_alloc, World.size_setCell, World.size_drew]); omega)
        replace HP := HP.but hb4 (by omega)
        replace HA := HA.but hb4 (by omega)
        replace HB := HB.but hb4 (by omega)
        replace HG := HG4
        clear HG4
        have lw4 : w.heap.size ≤ w4.heap.size := bw.size
        clear hb4
        go_wp2_with fail
        (try refine ⟨⟨HP, bw⟩, ?_⟩)
        repeat ((first | with_reducible apply fl_move | with_reducible apply fl_assign | ((with_reducible refine fl_soft (v := ?_) (fun w' hw' => ?_) ?_); rotate_left 1; (focus (obtain ⟨hP, hBw⟩ := hw'; obtain ⟨hcP, hfP⟩ := hP.facts; go_simp; (try with_reducible rfl); done)))); simp only [Act.put, Act.eval, List.setIfInBounds_toArray, List.set_cons_zero, List.set_cons_succ, Array.getD_eq_getD_getElem?, List.getElem?_toArray, List.getElem?_cons_zero, List.getElem?_cons_succ, Option.getD_some])
        refine fl_both ?_ ?_
        · go_wp2_with fail
          refine (wpower_any p.s10 k10 e4 w1.heap.size _ HG).mono ?_
          rintro e w5 ⟨z5, e5, rfl, ok5, -, qq5, HG5, hb5⟩
          replace qq5 := Lib.hid qq5
          replace bw := But.far bw hb5 (by omega) (by (try simp only [World.size_alloc, World.size_setCell, World.size_drew]); omega)
          replace HP := HP.but hb5 (by omega)
          replace HA := HA.but hb5 (by omega)
          replace HB := HB.but hb5 (by omega)
          replace HG := HG5
          clear HG5
          have lw5 : w.heap.size ≤ w5.heap.size := bw.size
          clear hb5
          go_wp2_with fail
          (try refine ⟨⟨HP, bw⟩, ?_⟩)
          repeat ((first | with_reducible apply fl_move | with_reducible apply fl_assign | ((with_reducible refine fl_soft (v := ?_) (fun w' hw' => ?_) ?_); rotate_left 1; (focus (obtain ⟨hP, hBw⟩ := hw'; obtain ⟨hcP, hfP⟩ := hP.facts; go_simp; (try with_reducible rfl); done)))); simp only [Act.put, Act.eval, List.setIfInBounds_toArray, List.set_cons_zero, List.set_cons_succ, Array.getD_eq_getD_getElem?, List.getElem?_toArray, List.getElem?_cons_zero, List.getElem?_cons_succ, Option.getD_some])
          refine fl_both ?_ ?_
          · go_wp2_with fail
            refine (wsum_any z4 z5 (En.Sp.fit_of_ok ok4) (En.Sp.fit_of_ok ok5) e5 w1.heap.size _ HG).mono ?_
            rintro e w6 ⟨z6, e6, rfl, ok6, -, qq6, HG6, hb6⟩
            replace qq6 := Lib.hid qq6
            replace bw := But.far bw hb6 (by omega) (by (try simp only [World.size_alloc, World.size_setCell, World.size_drew]); omega)
            replace HP := HP.but hb6 (by omega)
            replace HA := HA.but hb6 (by omega)
            replace HB := HB.but hb6 (by omega)
            replace HG := HG6
            clear HG6
            have lw6 : w.heap.size ≤ w6.heap.size := bw.size
            clear hb6
            go_wp2_with fail
            (try refine ⟨⟨HP, bw⟩, ?_⟩)
            repeat ((first | with_reducible apply fl_move | with_reducible apply fl_assign | ((with_reducible refine fl_soft (v := ?_) (fun w' hw' => ?_) ?_); rotate_left 1; (focus (obtain ⟨hP, hBw⟩ := hw'; obtain ⟨hcP, hfP⟩ := hP.facts; go_simp; (try with_reducible rfl); done)))); simp only [Act.put, Act.eval, List.setIfInBounds_toArray, List.set_cons_zero, List.set_cons_succ, Array.getD_eq_getD_getElem?, List.getElem?_toArray, List.getElem?_cons_zero, List.getElem?_cons_succ, Option.getD_some])
            refine fl_must ?_
            go_wp2_with fail
            have PP := HP
            have PA := HA
            have PB := HB
            have PG := HG
            have Pbw := bw
            have ltPX : w.heap.size < w6.heap.size := by (have := HP.lt; (try simp only [World.size_alloc, World.size_setCell, World.size_drew] at this); omega)
            have ltAX : (w.heap.size + 1) < w6.heap.size := by (have := HA.lt; (try simp only [World.size_alloc, World.size_setCell, World.size_drew] at this); omega)
            have ltBX : (w.heap.size + 2) < w6.heap.size := by (have := HB.lt; (try simp only [World.size_alloc, World.size_setCell, World.size_drew] at this); omega)
            have ltGX : w1.heap.size < w6.heap.size := by (have := HG.lt; (try simp only [World.size_alloc, World.size_setCell, World.size_drew] at this); omega)
            replace HP : Hd (w6.alloc (.cells #[.int .i64 0, .int .i64 0] 23)) w.heap.size 49 #[.int .i64 p.s00.re.lo, .int .i64 p.s00.re.hi, .int .i64 p.s00.im.lo, .int .i64 p.s00.im.hi, .int .i64 p.s01.re.lo, .int .i64 p.s01.re.hi, .int .i64 p.s01.im.lo, .int .i64 p.s01.im.hi, .int .i64 p.s10.re.lo, .int .i64 p.s10.re.hi, .int .i64 p.s10.im.lo, .int .i64 p.s10.im.hi, .int .i64 p.s11.re.lo, .int .i64 p.s11.re.hi, .int .i64 p.s11.im.lo, .int .i64 p.s11.im.hi] := by (with_reducible repeat' (first | assumption | (apply hdN; (try simp only [sA, sS, sD]); done) | apply hdA | apply hdD | apply hdS | (apply hdF; case hp => first | (simp; done) | (simp; omega)) | with_unfolding_all rfl))
            replace HA : Hd (w6.alloc (.cells #[.int .i64 0, .int .i64 0] 23)) (w.heap.size + 1) 23 #[.int .i64 0, .int .i64 0] := by (with_reducible repeat' (first | assumption | (apply hdN; (try simp only [sA, sS, sD]); done) | apply hdA | apply hdD | apply hdS | (apply hdF; case hp => first | (simp; done) | (simp; omega)) | with_unfolding_all rfl))
            replace HB : Hd (w6.alloc (.cells #[.int .i64 0, .int .i64 0] 23)) (w.heap.size + 2) 23 #[.int .i64 0, .int .i64 0] := by (with_reducible repeat' (first | assumption | (apply hdN; (try simp only [sA, sS, sD]); done) | apply hdA | apply hdD | apply hdS | (apply hdF; case hp => first | (simp; done) | (simp; omega)) | with_unfolding_all rfl))
            replace HG : Hd (w6.alloc (.cells #[.int .i64 0, .int .i64 0] 23)) w1.heap.size 83 #[.int .i64 e6] := by (with_reducible repeat' (first | assumption | (apply hdN; (try simp only [sA, sS, sD]); done) | apply hdA | apply hdD | apply hdS | (apply hdF; case hp => first | (simp; done) | (simp; omega)) | with_unfolding_all rfl))
            replace bw : Below w.heap.size w (w6.alloc (.cells #[.int .i64 0, .int .i64 0] 23)) := by go_grown
            have HX : Hd (w6.alloc (.cells #[.int .i64 0, .int .i64 0] 23)) w6.heap.size 23 #[.int .i64 0, .int .i64 0] := by (with_reducible repeat' (first | assumption | (apply hdN; (try simp only [sA, sS, sD]); done) | apply hdA | apply hdD | apply hdS | (apply hdF; case hp => first | (simp; done) | (simp; omega)) | with_unfolding_all rfl))
            (try refine ⟨⟨HP, bw⟩, ?_⟩)
            repeat ((first | with_reducible apply fl_move | with_reducible apply fl_assign | ((with_reducible refine fl_soft (v := ?_) (fun w' hw' => ?_) ?_); rotate_left 1; (focus (obtain ⟨hP, hBw⟩ := hw'; obtain ⟨hcP, hfP⟩ := hP.facts; go_simp; (try with_reducible rfl); done)))); simp only [Act.put, Act.eval, List.setIfInBounds_toArray, List.set_cons_zero, List.set_cons_succ, Array.getD_eq_getD_getElem?, List.getElem?_toArray, List.getElem?_cons_zero, List.getElem?_cons_succ, Option.getD_some])
            repeat ((first | with_reducible apply fl_move | with_reducible apply fl_assign | ((with_reducible refine fl_soft (v := ?_) (fun w' hw' => ?_) ?_); rotate_left 1; (focus (obtain ⟨hP, hBw⟩ := hw'; obtain ⟨hcP, hfP⟩ := hP.facts; go_simp; (try with_reducible rfl); done)))); simp only [Act.put, Act.eval, List.setIfInBounds_toArray, List.set_cons_zero, List.set_cons_succ, Array.getD_eq_getD_getElem?, List.getElem?_toArray, List.getElem?_cons_zero, List.getElem?_cons_succ, Option.getD_some])
            refine fl_hard ?_
            obtain ⟨hcX, hfX⟩ := HX.facts
            go_wp2_with fail
            replace HP : Hd (w6.alloc (.cells #[.int .i64 z6.lo, .int .i64 z6.hi] 23)) w.heap.size 49 #[.int .i64 p.s00.re.lo, .int .i64 p.s00.re.hi, .int .i64 p.s00.im.lo, .int .i64 p.s00.im.hi, .int .i64 p.s01.re.lo, .int .i64 p.s01.re.hi, .int .i64 p.s01.im.lo, .int .i64 p.s01.im.hi, .int .i64 p.s10.re.lo, .int .i64 p.s10.re.hi, .int .i64 p.s10.im.lo, .int .i64 p.s10.im.hi, .int .i64 p.s11.re.lo, .int .i64 p.s11.re.hi, .int .i64 p.s11.im.lo, .int .i64 p.s11.im.hi] := by (with_reducible repeat' (first | assumption | (apply hdN; (try simp only [sA, sS, sD]); done) | apply hdA | apply hdD | apply hdS | (apply hdF; case hp => first | (simp; done) | (simp; omega)) | with_unfolding_all rfl))
            replace HA : Hd (w6.alloc (.cells #[.int .i64 z6.lo, .int .i64 z6.hi] 23)) (w.heap.size + 1) 23 #[.int .i64 0, .int .i64 0] := by (with_reducible repeat' (first | assumption | (apply hdN; (try simp only [sA, sS, sD]); done) | apply hdA | apply hdD | apply hdS | (apply hdF; case hp => first | (simp; done) | (simp; omega)) | with_unfolding_all rfl))
            replace HB : Hd (w6.alloc (.cells #[.int .i64 z6.lo, .int .i64 z6.hi] 23)) (w.heap.size + 2) 23 #[.int .i64 0, .int .i64 0] := by (with_reducible repeat' (first | assumption | (apply hdN; (try simp only [sA, sS, sD]); done) | apply hdA | apply hdD | apply hdS | (apply hdF; case hp => first | (simp; done) | (simp; omega)) | with_unfolding_all rfl))
            replace HG : Hd (w6.alloc (.cells #[.int .i64 z6.lo, .int .i64 z6.hi] 23)) w1.heap.size 83 #[.int .i64 e6] := by (with_reducible repeat' (first | assumption | (apply hdN; (try simp only [sA, sS, sD]); done) | apply hdA | apply hdD | apply hdS | (apply hdF; case hp => first | (simp; done) | (simp; omega)) | with_unfolding_all rfl))
            replace HX : Hd (w6.alloc (.cells #[.int .i64 z6.lo, .int .i64 z6.hi] 23)) w6.heap.size 23 #[.int .i64 z6.lo, .int .i64 z6.hi] := by (with_reducible repeat' (first | assumption | (apply hdN; (try simp only [sA, sS, sD]); done) | apply hdA | apply hdD | apply hdS | (apply hdF; case hp => first | (simp; done) | (simp; omega)) | with_unfolding_all rfl))
            replace bw : Below w.heap.size w (w6.alloc (.cells #[.int .i64 z6.lo, .int .i64 z6.hi] 23)) := by go_grown
            (try refine ⟨⟨HP, bw⟩, ?_⟩)
            repeat ((first | with_reducible apply fl_move | with_reducible apply fl_assign | ((with_reducible refine fl_soft (v := ?_) (fun w' hw' => ?_) ?_); rotate_left 1; (focus (obtain ⟨hP, hBw⟩ := hw'; obtain ⟨hcP, hfP⟩ := hP.facts; go_simp; (try with_reducible rfl); done)))); simp only [Act.put, Act.eval, List.setIfInBounds_toArray, List.set_cons_zero, List.set_cons_succ, Array.getD_eq_getD_getElem?, List.getElem?_toArray, List.getElem?_cons_zero, List.getElem?_cons_succ, Option.getD_some])
            refine fl_nil ?_
            go_wp2_with fail
            go_meet
            exact ⟨w6.heap.size, z4, z5, z6, e4, e5, e6, rfl, by omega, ok6, qq4, qq5, qq6, HP, HA, HB, HG, HX, bw⟩
          · go_wp2_with fail
            have PP := HP
            have PA := HA
            have PB := HB
            have PG := HG
            have Pbw := bw
            have ltPX : w.heap.size < w5.heap.size := by (have := HP.lt; (try simp only [World.size_alloc, World.size_setCell, World.size_drew] at this); omega)
            have ltAX : (w.heap.size + 1) < w5.heap.size := by (have := HA.lt; (try simp only [World.size_alloc, World.size_setCell, World.size_drew] at this); omega)
            have ltBX : (w.heap.size + 2) < w5.heap.size := by (have := HB.lt; (try simp only [World.size_alloc, World.size_setCell, World.size_drew] at this); omega)
            have ltGX : w1.heap.size < w5.heap.size := by (have := HG.lt; (try simp only [World.size_alloc, World.size_setCell, World.size_drew] at this); omega)
            replace HP : Hd (w5.alloc (.cells #[.int .i64 0, .int .i64 0] 23)) w.heap.size 49 #[.int .i64 p.s00.re.lo, .int .i64 p.s00.re.hi, .int .i64 p.s00.im.lo, .int .i64 p.s00.im.hi, .int .i64 p.s01.re.lo, .int .i64 p.s01.re.hi, .int .i64 p.s01.im.lo, .int .i64 p.s01.im.hi, .int .i64 p.s10.re.lo, .int .i64 p.s10.re.hi, .int .i64 p.s10.im.lo, .int .i64 p.s10.im.hi, .int .i64 p.s11.re.lo, .int .i64 p.s11.re.hi, .int .i64 p.s11.im.lo, .int .i64 p.s11.im.hi] := by (with_reducible repeat' (first | assumption | (apply hdN; (try simp only [sA, sS, sD]); done) | apply hdA | apply hdD | apply hdS | (apply hdF; case hp => first | (simp; done) | (simp; omega)) | with_unfolding_all rfl))
            replace HA : Hd (w5.alloc (.cells #[.int .i64 0, .int .i64 0] 23)) (w.heap.size + 1) 23 #[.int .i64 0, .int .i64 0] := by (with_reducible repeat' (first | assumption | (apply hdN; (try simp only [sA, sS, sD]); done) | apply hdA | apply hdD | apply hdS | (apply hdF; case hp => first | (simp; done) | (simp; omega)) | with_unfolding_all rfl))
            replace HB : Hd (w5.alloc (.cells #[.int .i64 0, .int .i64 0] 23)) (w.heap.size + 2) 23 #[.int .i64 0, .int .i64 0] := by (with_reducible repeat' (first | assumption | (apply hdN; (try simp only [sA, sS, sD]); done) | apply hdA | apply hdD | apply hdS | (apply hdF; case hp => first | (simp; done) | (simp; omega)) | with_unfolding_all rfl))
            replace HG : Hd (w5.alloc (.cells #[.int .i64 0, .int .i64 0] 23)) w1.heap.size 83 #[.int .i64 e5] := by (with_reducible repeat' (first | assumption | (apply hdN; (try simp only [sA, sS, sD]); done) | apply hdA | apply hdD | apply hdS | (apply hdF; case hp => first | (simp; done) | (simp; omega)) | with_unfolding_all rfl))
            replace bw : Below w.heap.size w (w5.alloc (.cells #[.int .i64 0, .int .i64 0] 23)) := by go_grown
            have HX : Hd (w5.alloc (.cells #[.int .i64 0, .int .i64 0] 23)) w5.heap.size 23 #[.int .i64 0, .int .i64 0] := by (with_reducible repeat' (first | assumption | (apply hdN; (try simp only [sA, sS, sD]); done) | apply hdA | apply hdD | apply hdS | (apply hdF; case hp => first | (simp; done) | (simp; omega)) | with_unfolding_all rfl))
            (try refine ⟨⟨HP, bw⟩, ?_⟩)
            repeat ((first | with_reducible apply eag_move | with_reducible apply eag_assign | ((with_reducible refine eag_soft (v := ?_) (fun w' hw' => ?_) ?_); rotate_left 1; (focus (obtain ⟨hP, hBw⟩ := hw'; obtain ⟨hcP, hfP⟩ := hP.facts; go_simp; (try with_reducible rfl); done)))); simp only [Act.put, Act.eval, List.setIfInBounds_toArray, List.set_cons_zero, List.set_cons_succ, Array.getD_eq_getD_getElem?, List.getElem?_toArray, List.getElem?_cons_zero, List.getElem?_cons_succ, Option.getD_some])
            repeat ((first | with_reducible apply eag_move | with_reducible apply eag_assign | ((with_reducible refine eag_soft (v := ?_) (fun w' hw' => ?_) ?_); rotate_left 1; (focus (obtain ⟨hP, hBw⟩ := hw'; obtain ⟨hcP, hfP⟩ := hP.facts; go_simp; (try with_reducible rfl); done)))); simp only [Act.put, Act.eval, List.setIfInBounds_toArray, List.set_cons_zero, List.set_cons_succ, Array.getD_eq_getD_getElem?, List.getElem?_toArray, List.getElem?_cons_zero, List.getElem?_cons_succ, Option.getD_some])
            refine eag_hard ?_
            go_wp2_with fail
            refine (wsum_any z4 z5 (En.Sp.fit_of_ok ok4) (En.Sp.fit_of_ok ok5) e5 w1.heap.size _ HG).mono ?_
            rintro e w6 ⟨z6, e6, rfl, ok6, -, qq6, HG6, hb6⟩
            replace qq6 := Lib.hid qq6
            replace bw := But.far bw hb6 (by omega) (by (try simp only [World.size_alloc, World.size_setCell, World.size_drew]); omega)
            replace HP := HP.but hb6 (by omega)
            replace HA := HA.but hb6 (by omega)
            replace HB := HB.but hb6 (by omega)
            replace HX := HX.but hb6 (by omega)
            replace HG := HG6
            clear HG6
            have lw6 : w.heap.size ≤ w6.heap.size := bw.size
            clear hb6
            go_wp2_with fail
            (try refine ⟨⟨HP, bw⟩, ?_⟩)
            repeat ((first | with_reducible apply eag_move | with_reducible apply eag_assign | ((with_reducible refine eag_soft (v := ?_) (fun w' hw' => ?_) ?_); rotate_left 1; (focus (obtain ⟨hP, hBw⟩ := hw'; obtain ⟨hcP, hfP⟩ := hP.facts; go_simp; (try with_reducible rfl); done)))); simp only [Act.put, Act.eval, List.setIfInBounds_toArray, List.set_cons_zero, List.set_cons_succ, Array.getD_eq_getD_getElem?, List.getElem?_toArray, List.getElem?_cons_zero, List.getElem?_cons_succ, Option.getD_some])
            refine eag_hard ?_
            obtain ⟨hcX, hfX⟩ := HX.facts
            go_wp2_with fail
            have PP := HP
            have PA := HA
            have PB := HB
            have PG := HG
            have PX := HX
            have Pbw := bw
            replace HP : Hd ((w6.setCell ⟨w5.heap.size, 0, none⟩ (.int .i64 z6.lo)).setCell ⟨w5.heap.size, 1, none⟩ (.int .i64 z6.hi)) w.heap.size 49 #[.int .i64 p.s00.re.lo, .int .i64 p.s00.re.hi, .int .i64 p.s00.im.lo, .int .i64 p.s00.im.hi, .int .i64 p.s01.re.lo, .int .i64 p.s01.re.hi, .int .i64 p.s01.im.lo, .int .i64 p.s01.im.hi, .int .i64 p.s10.re.lo, .int .i64 p.s10.re.hi, .int .i64 p.s10.im.lo, .int .i64 p.s10.im.hi, .int .i64 p.s11.re.lo, .int .i64 p.s11.re.hi, .int .i64 p.s11.im.lo, .int .i64 p.s11.im.hi] := by (with_reducible repeat' (first | assumption | (apply hdN; (try simp only [sA, sS, sD]); done) | apply hdA | apply hdD | apply hdS | (apply hdF; case hp => first | (simp; done) | (simp; omega)) | with_unfolding_all rfl))
            replace HA : Hd ((w6.setCell ⟨w5.heap.size, 0, none⟩ (.int .i64 z6.lo)).setCell ⟨w5.heap.size, 1, none⟩ (.int .i64 z6.hi)) (w.heap.size + 1) 23 #[.int .i64 0, .int .i64 0] := by (with_reducible repeat' (first | assumption | (apply hdN; (try simp only [sA, sS, sD]); done) | apply hdA | apply hdD | apply hdS | (apply hdF; case hp => first | (simp; done) | (simp; omega)) | with_unfolding_all rfl))
            replace HB : Hd ((w6.setCell ⟨w5.heap.size, 0, none⟩ (.int .i64 z6.lo)).setCell ⟨w5.heap.size, 1, none⟩ (.int .i64 z6.hi)) (w.heap.size + 2) 23 #[.int .i64 0, .int .i64 0] := by (with_reducible repeat' (first | assumption | (apply hdN; (try simp only [sA, sS, sD]); done) | apply hdA | apply hdD | apply hdS | (apply hdF; case hp => first | (simp; done) | (simp; omega)) | with_unfolding_all rfl))
            replace HG : Hd ((w6.setCell ⟨w5.heap.size, 0, none⟩ (.int .i64 z6.lo)).setCell ⟨w5.heap.size, 1, none⟩ (.int .i64 z6.hi)) w1.heap.size 83 #[.int .i64 e6] := by (with_reducible repeat' (first | assumption | (apply hdN; (try simp only [sA, sS, sD]); done) | apply hdA | apply hdD | apply hdS | (apply hdF; case hp => first | (simp; done) | (simp; omega)) | with_unfolding_all rfl))
            replace HX : Hd ((w6.setCell ⟨w5.heap.size, 0, none⟩ (.int .i64 z6.lo)).setCell ⟨w5.heap.size, 1, none⟩ (.int .i64 z6.hi)) w5.heap.size 23 #[.int .i64 z6.lo, .int .i64 z6.hi] := by (with_reducible repeat' (first | assumption | (apply hdN; (try simp only [sA, sS, sD]); done) | apply hdA | apply hdD | apply hdS | (apply hdF; case hp => first | (simp; done) | (simp; omega)) | with_unfolding_all rfl))
            replace bw : Below w.heap.size w ((w6.setCell ⟨w5.heap.size, 0, none⟩ (.int .i64 z6.lo)).setCell ⟨w5.heap.size, 1, none⟩ (.int .i64 z6.hi)) := by go_grown
            (try refine ⟨⟨HP, bw⟩, ?_⟩)
            repeat ((first | with_reducible apply eag_move | with_reducible apply eag_assign | ((with_reducible refine eag_soft (v := ?_) (fun w' hw' => ?_) ?_); rotate_left 1; (focus (obtain ⟨hP, hBw⟩ := hw'; obtain ⟨hcP, hfP⟩ := hP.facts; go_simp; (try with_reducible rfl); done)))); simp only [Act.put, Act.eval, List.setIfInBounds_toArray, List.set_cons_zero, List.set_cons_succ, Array.getD_eq_getD_getElem?, List.getElem?_toArray, List.getElem?_cons_zero, List.getElem?_cons_succ, Option.getD_some])
            refine eag_nil ?_
            go_wp2_with fail
            go_meet
            exact ⟨w5.heap.size, z4, z5, z6, e4, e5, e6, rfl, by omega, ok6, qq4, qq5, qq6, HP, HA, HB, HG, HX, bw⟩
        · go_wp2_with fail
          have PP := HP
          have PA := HA
          have PB := HB
          have PG := HG
          have Pbw := bw
          have ltPX : w.heap.size < w4.heap.size := by (have := HP.lt; (try simp only [World.size_alloc, World.size_setCell, World.size_drew] at this); omega)
          have ltAX : (w.heap.size + 1) < w4.heap.size := by (have := HA.lt; (try simp only [World.size_alloc, World.size_setCell, World.size_drew] at this); omega)
          have ltBX : (w.heap.size + 2) < w4.heap.size := by (have := HB.lt; (try simp only [World.size_alloc, World.size_setCell, World.size_drew] at this); omega)
          have ltGX : w1.heap.size < w4.heap.size := by (have := HG.lt; (try simp only [World.size_alloc, World.size_setCell, World.size_drew] at this); omega)
          replace HP : Hd (w4.alloc (.cells #[.int .i64 0, .int .i64 0] 23)) w.heap.size 49 #[.int .i64 p.s00.re.lo, .int .i64 p.s00.re.hi, .int .i64 p.s00.im.lo, .int .i64 p.s00.im.hi, .int .i64 p.s01.re.lo, .int .i64 p.s01.re.hi, .int .i64 p.s01.im.lo, .int .i64 p.s01.im.hi, .int .i64 p.s10.re.lo, .int .i64 p.s10.re.hi, .int .i64 p.s10.im.lo, .int .i64 p.s10.im.hi, .int .i64 p.s11.re.lo, .int .i64 p.s11.re.hi, .int .i64 p.s11.im.lo, .int .i64 p.s11.im.hi] := by (with_reducible repeat' (first | assumption | (apply hdN; (try simp only [sA, sS, sD]); done) | apply hdA | apply hdD | apply hdS | (apply hdF; case hp => first | (simp; done) | (simp; omega)) | with_unfolding_all rfl))
          replace HA : Hd (w4.alloc (.cells #[.int .i64 0, .int .i64 0] 23)) (w.heap.size + 1) 23 #[.int .i64 0, .int .i64 0] := by (with_reducible repeat' (first | assumption | (apply hdN; (try simp only [sA, sS, sD]); done) | apply hdA | apply hdD | apply hdS | (apply hdF; case hp => first | (simp; done) | (simp; omega)) | with_unfolding_all rfl))
          replace HB : Hd (w4.alloc (.cells #[.int .i64 0, .int .i64 0] 23)) (w.heap.size + 2) 23 #[.int .i64 0, .int .i64 0] := by (with_reducible repeat' (first | assumption | (apply hdN; (try simp only [sA, sS, sD]); done) | apply hdA | apply hdD | apply hdS | (apply hdF; case hp => first | (simp; done) | (simp; omega)) | with_unfolding_all rfl))
          replace HG : Hd (w4.alloc (.cells #[.int .i64 0, .int .i64 0] 23)) w1.heap.size 83 #[.int .i64 e4] := by (with_reducible repeat' (first | assumption | (apply hdN; (try simp only [sA, sS, sD]); done) | apply hdA | apply hdD | apply hdS | (apply hdF; case hp => first | (simp; done) | (simp; omega)) | with_unfolding_all rfl))
          replace bw : Below w.heap.size w (w4.alloc (.cells #[.int .i64 0, .int .i64 0] 23)) := by go_grown
          have HX : Hd (w4.alloc (.cells #[.int .i64 0, .int .i64 0] 23)) w4.heap.size 23 #[.int .i64 0, .int .i64 0] := by (with_reducible repeat' (first | assumption | (apply hdN; (try simp only [sA, sS, sD]); done) | apply hdA | apply hdD | apply hdS | (apply hdF; case hp => first | (simp; done) | (simp; omega)) | with_unfolding_all rfl))
          (try refine ⟨⟨HP, bw⟩, ?_⟩)
          repeat ((first | with_reducible apply eag_move | with_reducible apply eag_assign | ((with_reducible refine eag_soft (v := ?_) (fun w' hw' => ?_) ?_); rotate_left 1; (focus (obtain ⟨hP, hBw⟩ := hw'; obtain ⟨hcP, hfP⟩ := hP.facts; go_simp; (try with_reducible rfl); done)))); simp only [Act.put, Act.eval, List.setIfInBounds_toArray, List.set_cons_zero, List.set_cons_succ, Array.getD_eq_getD_getElem?, List.getElem?_toArray, List.getElem?_cons_zero, List.getElem?_cons_succ, Option.getD_some])
          repeat ((first | with_reducible apply eag_move | with_reducible apply eag_assign | ((with_reducible refine eag_soft (v := ?_) (fun w' hw' => ?_) ?_); rotate_left 1; (focus (obtain ⟨hP, hBw⟩ := hw'; obtain ⟨hcP, hfP⟩ := hP.facts; go_simp; (try with_reducible rfl); done)))); simp only [Act.put, Act.eval, List.setIfInBounds_toArray, List.set_cons_zero, List.set_cons_succ, Array.getD_eq_getD_getElem?, List.getElem?_toArray, List.getElem?_cons_zero, List.getElem?_cons_succ, Option.getD_some])
          refine eag_hard ?_
          go_wp2_with fail
          refine (wpower_any p.s10 k10 e4 w1.heap.size _ HG).mono ?_
          rintro e w5 ⟨z5, e5, rfl, ok5, -, qq5, HG5, hb5⟩
          replace qq5 := Lib.hid qq5
          replace bw := But.far bw hb5 (by omega) (by (try simp only [World.size_alloc, World.size_setCell, World.size_drew]); omega)
          replace HP := HP.but hb5 (by omega)
          replace HA := HA.but hb5 (by omega)
          replace HB := HB.but hb5 (by omega)
          replace HX := HX.but hb5 (by omega)
          replace HG := HG5
          clear HG5
          have lw5 : w.heap.size ≤ w5.heap.size := bw.size
          clear hb5
          go_wp2_with fail
          (try refine ⟨⟨HP, bw⟩, ?_⟩)
          repeat ((first | with_reducible apply eag_move | with_reducible apply eag_assign | ((with_reducible refine eag_soft (v := ?_) (fun w' hw' => ?_) ?_); rotate_left 1; (focus (obtain ⟨hP, hBw⟩ := hw'; obtain ⟨hcP, hfP⟩ := hP.facts; go_simp; (try with_reducible rfl); done)))); simp only [Act.put, Act.eval, List.setIfInBounds_toArray, List.set_cons_zero, List.set_cons_succ, Array.getD_eq_getD_getElem?, List.getElem?_toArray, List.getElem?_cons_zero, List.getElem?_cons_succ, Option.getD_some])
          refine eag_hard ?_
          go_wp2_with fail
          refine (wsum_any z4 z5 (En.Sp.fit_of_ok ok4) (En.Sp.fit_of_ok ok5) e5 w1.heap.size _ HG).mono ?_
          rintro e w6 ⟨z6, e6, rfl, ok6, -, qq6, HG6, hb6⟩
          replace qq6 := Lib.hid qq6
          replace bw := But.far bw hb6 (by omega) (by (try simp only [World.size_alloc, World.size_setCell, World.size_drew]); omega)
          replace HP := HP.but hb6 (by omega)
          replace HA := HA.but hb6 (by omega)
          replace HB := HB.but hb6 (by omega)
          replace HX := HX.but hb6 (by omega)
          replace HG := HG6
          clear HG6
          have lw6 : w.heap.size ≤ w6.heap.size := bw.size
          clear hb6
          go_wp2_with fail
          (try refine ⟨⟨HP, bw⟩, ?_⟩)
          repeat ((first | with_reducible apply eag_move | with_reducible apply eag_assign | ((with_reducible refine eag_soft (v := ?_) (fun w' hw' => ?_) ?_); rotate_left 1; (focus (obtain ⟨hP, hBw⟩ := hw'; obtain ⟨hcP, hfP⟩ := hP.facts; go_simp; (try with_reducible rfl); done)))); simp only [Act.put, Act.eval, List.setIfInBounds_toArray, List.set_cons_zero, List.set_cons_succ, Array.getD_eq_getD_getElem?, List.getElem?_toArray, List.getElem?_cons_zero, List.getElem?_cons_succ, Option.getD_some])
          refine eag_hard ?_
          obtain ⟨hcX, hfX⟩ := HX.facts
          go_wp2_with fail
          have PP := HP
          have PA := HA
          have PB := HB
          have PG := HG
          have PX := HX
          have Pbw := bw
          replace HP : Hd ((w6.setCell ⟨w4.heap.size, 0, none⟩ (.int .i64 z6.lo)).setCell ⟨w4.heap.size, 1, none⟩ (.int .i64 z6.hi)) w.heap.size 49 #[.int .i64 p.s00.re.lo, .int .i64 p.s00.re.hi, .int .i64 p.s00.im.lo, .int .i64 p.s00.im.hi, .int .i64 p.s01.re.lo, .int .i64 p.s01.re.hi, .int .i64 p.s01.im.lo, .int .i64 p.s01.im.hi, .int .i64 p.s10.re.lo, .int .i64 p.s10.re.hi, .int .i64 p.s10.im.lo, .int .i64 p.s10.im.hi, .int .i64 p.s11.re.lo, .int .i64 p.s11.re.hi, .int .i64 p.s11.im.lo, .int .i64 p.s11.im.hi] := by (with_reducible repeat' (first | assumption | (apply hdN; (try simp only [sA, sS, sD]); done) | apply hdA | apply hdD | apply hdS | (apply hdF; case hp => first | (simp; done) | (simp; omega)) | with_unfolding_all rfl))
          replace HA : Hd ((w6.setCell ⟨w4.heap.size, 0, none⟩ (.int .i64 z6.lo)).setCell ⟨w4.heap.size, 1, none⟩ (.int .i64 z6.hi)) (w.heap.size + 1) 23 #[.int .i64 0, .int .i64 0] := by (with_reducible repeat' (first | assumption | (apply hdN; (try simp only [sA, sS, sD]); done) | apply hdA | apply hdD | apply hdS | (apply hdF; case hp => first | (simp; done) | (simp; omega)) | with_unfolding_all rfl))
          replace HB : Hd ((w6.setCell ⟨w4.heap.size, 0, none⟩ (.int .i64 z6.lo)).setCell ⟨w4.heap.size, 1, none⟩ (.int .i64 z6.hi)) (w.heap.size + 2) 23 #[.int .i64 0, .int .i64 0] := by (with_reducible repeat' (first | assumption | (apply hdN; (try simp only [sA, sS, sD]); done) | apply hdA | apply hdD | apply hdS | (apply hdF; case hp => first | (simp; done) | (simp; omega)) | with_unfolding_all rfl))
          replace HG : Hd ((w6.setCell ⟨w4.heap.size, 0, none⟩ (.int .i64 z6.lo)).setCell ⟨w4.heap.size, 1, none⟩ (.int .i64 z6.hi)) w1.heap.size 83 #[.int .i64 e6] := by (with_reducible repeat' (first | assumption | (apply hdN; (try simp only [sA, sS, sD]); done) | apply hdA | apply hdD | apply hdS | (apply hdF; case hp => first | (simp; done) | (simp; omega)) | with_unfolding_all rfl))
          replace HX : Hd ((w6.setCell ⟨w4.heap.size, 0, none⟩ (.int .i64 z6.lo)).setCell ⟨w4.heap.size, 1, none⟩ (.int .i64 z6.hi)) w4.heap.size 23 #[.int .i64 z6.lo, .int .i64 z6.hi] := by (with_reducible repeat' (first | assumption | (apply hdN; (try simp only [sA, sS, sD]); done) | apply hdA | apply hdD | apply hdS | (apply hdF; case hp => first | (simp; done) | (simp; omega)) | with_unfolding_all rfl))
          replace bw : Below w.heap.size w ((w6.setCell ⟨w4.heap.size, 0, none⟩ (.int .i64 z6.lo)).setCell ⟨w4.heap.size, 1, none⟩ (.int .i64 z6.hi)) := by go_grown
          (try refine ⟨⟨HP, bw⟩, ?_⟩)
          repeat ((first | with_reducible apply eag_move | with_reducible apply eag_assign | ((with_reducible refine eag_soft (v := ?_) (fun w' hw' => ?_) ?_); rotate_left 1; (focus (obtain ⟨hP, hBw⟩ := hw'; obtain ⟨hcP, hfP⟩ := hP.facts; go_simp; (try with_reducible rfl); done)))); simp only [Act.put, Act.eval, List.setIfInBounds_toArray, List.set_cons_zero, List.set_cons_succ, Array.getD_eq_getD_getElem?, List.getElem?_toArray, List.getElem?_cons_zero, List.getElem?_cons_succ, Option.getD_some])
          refine eag_nil ?_
          go_wp2_with fail
          go_meet
          exact ⟨w4.heap.size, z4, z5, z6, e4, e5, e6, rfl, by omega, ok6, qq4, qq5, qq6, HP, HA, HB, HG, HX, bw⟩
      · go_wp2_with fail
        have PP := HP
        have PA := HA
        have PB := HB
        have PG := HG
        have Pbw := bw
        have ltPX : w.heap.size < w3.heap.size := by (have := HP.lt; (try simp only [World.size_alloc, World.size_setCell, World.size_drew] at this); omega)
        have ltAX : (w.heap.size + 1) < w3.heap.size := by (have := HA.lt; (try simp only [World.size_alloc, World.size_setCell, World.size_drew] at this); omega)
        have ltBX : (w.heap.size + 2) < w3.heap.size := by (have := HB.lt; (try simp only [World.size_alloc, World.size_setCell, World.size_drew] at this); omega)
        have ltGX : w1.heap.size < w3.heap.size := by (have := HG.lt; (try simp only [World.size_alloc, World.size_setCell, World.size_drew] at this); omega)
        replace HP : Hd (w3.alloc (.cells #[.int .i64 0, .int .i64 0] 23)) w.heap.size 49 #[.int .i64 p.s00.re.lo, .int .i64 p.s00.re.hi, .int .i64 p.s00.im.lo, .int .i64 p.s00.im.hi, .int .i64 p.s01.re.lo, .int .i64 p.s01.re.hi, .int .i64 p.s01.im.lo, .int .i64 p.s01.im.hi, .int .i64 p.s10.re.lo, .int .i64 p.s10.re.hi, .int .i64 p.s10.im.lo, .int .i64 p.s10.im.hi, .int .i64 p.s11.re.lo, .int .i64 p.s11.re.hi, .int .i64 p.s11.im.lo, .int .i64 p.s11.im.hi] := by (with_reducible repeat' (first | assumption | (apply hdN; (try simp only [sA, sS, sD]); done) | apply hdA | apply hdD | apply hdS | (apply hdF; case hp => first | (simp; done) | (simp; omega)) | with_unfolding_all rfl))
        replace HA : Hd (w3.alloc (.cells #[.int .i64 0, .int .i64 0] 23)) (w.heap.size + 1) 23 #[.int .i64 0, .int .i64 0] := by (with_reducible repeat' (first | assumption | (apply hdN; (try simp only [sA, sS, sD]); done) | apply hdA | apply hdD | apply hdS | (apply hdF; case hp => first | (simp; done) | (simp; omega)) | with_unfolding_all rfl))
        replace HB : Hd (w3.alloc (.cells #[.int .i64 0, .int .i64 0] 23)) (w.heap.size + 2) 23 #[.int .i64 0, .int .i64 0] := by (with_reducible repeat' (first | assumption | (apply hdN; (try simp only [sA, sS, sD]); done) | apply hdA | apply hdD | apply hdS | (apply hdF; case hp => first | (simp; done) | (simp; omega)) | with_unfolding_all rfl))
        replace HG : Hd (w3.alloc (.cells #[.int .i64 0, .int .i64 0] 23)) w1.heap.size 83 #[.int .i64 0] := by (with_reducible repeat' (first | assumption | (apply hdN; (try simp only [sA, sS, sD]); done) | apply hdA | apply hdD | apply hdS | (apply hdF; case hp => first | (simp; done) | (simp; omega)) | with_unfolding_all rfl))
        replace bw : Below w.heap.size w (w3.alloc (.cells #[.int .i64 0, .int .i64 0] 23)) := by go_grown
        have HX : Hd (w3.alloc (.cells #[.int .i64 0, .int .i64 0] 23)) w3.heap.size 23 #[.int .i64 0, .int .i64 0] := by (with_reducible repeat' (first | assumption | (apply hdN; (try simp only [sA, sS, sD]); done) | apply hdA | apply hdD | apply hdS | (apply hdF; case hp => first | (simp; done) | (simp; omega)) | with_unfolding_all rfl))
        (try refine ⟨⟨HP, bw⟩, ?_⟩)
        repeat ((first | with_reducible apply eag_move | with_reducible apply eag_assign | ((with_reducible refine eag_soft (v := ?_) (fun w' hw' => ?_) ?_); rotate_left 1; (focus (obtain ⟨hP, hBw⟩ := hw'; obtain ⟨hcP, hfP⟩ := hP.facts; go_simp; (try with_reducible rfl); done)))); simp only [Act.put, Act.eval, List.setIfInBounds_toArray, List.set_cons_zero, List.set_cons_succ, Array.getD_eq_getD_getElem?, List.getElem?_toArray, List.getElem?_cons_zero, List.getElem?_cons_succ, Option.getD_some])
        repeat ((first | with_reducible apply eag_move | with_reducible apply eag_assign | ((with_reducible refine eag_soft (v := ?_) (fun w' hw' => ?_) ?_); rotate_left 1; (focus (obtain ⟨hP, hBw⟩ := hw'; obtain ⟨hcP, hfP⟩ := hP.facts; go_simp; (try with_reducible rfl); done)))); simp only [Act.put, Act.eval, List.setIfInBounds_toArray, List.set_cons_zero, List.set_cons_succ, Array.getD_eq_getD_getElem?, List.getElem?_toArray, List.getElem?_cons_zero, List.getElem?_cons_succ, Option.getD_some])
        refine eag_hard ?_
        go_wp2_with fail
        refine (wpower_any p.s00 k00 0 w1.heap.size _ HG).mono ?_
        rintro e w4 ⟨z4, e4, rfl, ok4, -, qq4, HG4, hb4⟩
        replace qq4 := Lib.hid qq4
        replace bw := But.far bw hb4 (by omega) (by (try simp only [World.size_alloc, World.size_setCell, World.size_drew]); omega)
        replace HP := HP.but hb4 (by omega)
        replace HA := HA.but hb4 (by omega)
        replace HB := HB.but hb4 (by omega)
        replace HX := HX.but hb4 (by omega)
        replace HG := HG4
        clear HG4
        have lw4 : w.heap.size ≤ w4.heap.size := bw.size
        clear hb4
        go_wp2_with fail
        (try refine ⟨⟨HP, bw⟩, ?_⟩)
        repeat ((first | with_reducible apply eag_move | with_reducible apply eag_assign | ((with_reducible refine eag_soft (v := ?_) (fun w' hw' => ?_) ?_); rotate_left 1; (focus (obtain ⟨hP, hBw⟩ := hw'; obtain ⟨hcP, hfP⟩ := hP.facts; go_simp; (try with_reducible rfl); done)))); simp only [Act.put, Act.eval, List.setIfInBounds_toArray, List.set_cons_zero, List.set_cons_succ, Array.getD_eq_getD_getElem?, List.getElem?_toArray, List.getElem?_cons_zero, List.getElem?_cons_succ, Option.getD_some])
        refine eag_hard ?_
        go_wp2_with fail
        refine (wpower_any p.s10 k10 e4 w1.heap.size _ HG).mono ?_
        rintro e w5 ⟨z5, e5, rfl, ok5, -, qq5, HG5, hb5⟩
        replace qq5 := Lib.hid qq5
        replace bw := But.far bw hb5 (by omega) (by (try simp only [World.size_alloc, World.size_setCell, World.size_drew]); omega)
        replace HP := HP.but hb5 (by omega)
        replace HA := HA.but hb5 (by omega)
        replace HB := HB.but hb5 (by omega)
        replace HX := HX.but hb5 (by omega)
        replace HG := HG5
        clear HG5
        have lw5 : w.heap.size ≤ w5.heap.size := bw.size
        clear hb5
        go_wp2_with fail
        (try refine ⟨⟨HP, bw⟩, ?_⟩)
        repeat ((first | with_reducible apply eag_move | with_reducible apply eag_assign | ((with_reducible refine eag_soft (v := ?_) (fun w' hw' => ?_) ?_); rotate_left 1; (focus (obtain ⟨hP, hBw⟩ := hw'; obtain ⟨hcP, hfP⟩ := hP.facts; go_simp; (try with_reducible rfl); done)))); simp only [Act.put, Act.eval, List.setIfInBounds_toArray, List.set_cons_zero, List.set_cons_succ, Array.getD_eq_getD_getElem?, List.getElem?_toArray, List.getElem?_cons_zero, List.getElem?_cons_succ, Option.getD_some])
        refine eag_hard ?_
        go_wp2_with fail
        refine (wsum_any z4 z5 (En.Sp.fit_of_ok ok4) (En.Sp.fit_of_ok ok5) e5 w1.heap.size _ HG).mono ?_
        rintro e w6 ⟨z6, e6, rfl, ok6, -, qq6, HG6, hb6⟩
        replace qq6 := Lib.hid qq6
        replace bw := But.far bw hb6 (by omega) (by (try simp only [World.size_alloc, World.size_setCell, World.size_drew]); omega)
        replace HP := HP.but hb6 (by omega)
        replace HA := HA.but hb6 (by omega)
        replace HB := HB.but hb6 (by omega)
        replace HX := HX.but hb6 (by omega)
        replace HG := HG6
        clear HG6
        have lw6 : w.heap.size ≤ w6.heap.size := bw.size
        clear hb6
        go_wp2_with fail
        (try refine ⟨⟨HP, bw⟩, ?_⟩)
        repeat ((first | with_reducible apply eag_move | with_reducible apply eag_assign | ((with_reducible refine eag_soft (v := ?_) (fun w' hw' => ?_) ?_); rotate_left 1; (focus (obtain ⟨hP, hBw⟩ := hw'; obtain ⟨hcP, hfP⟩ := hP.facts; go_simp; (try with_reducible rfl); done)))); simp only [Act.put, Act.eval, List.setIfInBounds_toArray, List.set_cons_zero, List.set_cons_succ, Array.getD_eq_getD_getElem?, List.getElem?_toArray, List.getElem?_cons_zero, List.getElem?_cons_succ, Option.getD_some])
        refine eag_hard ?_
        obtain ⟨hcX, hfX⟩ := HX.facts
        go_wp2_with fail
        have PP := HP
        have PA := HA
        have PB := HB
        have PG := HG
        have PX := HX
        have Pbw := bw
        replace HP : Hd ((w6.setCell ⟨w3.heap.size, 0, none⟩ (.int .i64 z6.lo)).setCell ⟨w3.heap.size, 1, none⟩ (.int .i64 z6.hi)) w.heap.size 49 #[.int .i64 p.s00.re.lo, .int .i64 p.s00.re.hi, .int .i64 p.s00.im.lo, .int .i64 p.s00.im.hi, .int .i64 p.s01.re.lo, .int .i64 p.s01.re.hi, .int .i64 p.s01.im.lo, .int .i64 p.s01.im.hi, .int .i64 p.s10.re.lo, .int .i64 p.s10.re.hi, .int .i64 p.s10.im.lo, .int .i64 p.s10.im.hi, .int .i64 p.s11.re.lo, .int .i64 p.s11.re.hi, .int .i64 p.s11.im.lo, .int .i64 p.s11.im.hi] := by (with_reducible repeat' (first | assumption | (apply hdN; (try simp only [sA, sS, sD]); done) | apply hdA | apply hdD | apply hdS | (apply hdF; case hp => first | (simp; done) | (simp; omega)) | with_unfolding_all rfl))
        replace HA : Hd ((w6.setCell ⟨w3.heap.size, 0, none⟩ (.int .i64 z6.lo)).setCell ⟨w3.heap.size, 1, none⟩ (.int .i64 z6.hi)) (w.heap.size + 1) 23 #[.int .i64 0, .int .i64 0] := by (with_reducible repeat' (first | assumption | (apply hdN; (try simp only [sA, sS, sD]); done) | apply hdA | apply hdD | apply hdS | (apply hdF; case hp => first | (simp; done) | (simp; omega)) | with_unfolding_all rfl))
        replace HB : Hd ((w6.setCell ⟨w3.heap.size, 0, none⟩ (.int .i64 z6.lo)).setCell ⟨w3.heap.size, 1, none⟩ (.int .i64 z6.hi)) (w.heap.size + 2) 23 #[.int .i64 0, .int .i64 0] := by (with_reducible repeat' (first | assumption | (apply hdN; (try simp only [sA, sS, sD]); done) | apply hdA | apply hdD | apply hdS | (apply hdF; case hp => first | (simp; done) | (simp; omega)) | with_unfolding_all rfl))
        replace HG : Hd ((w6.setCell ⟨w3.heap.size, 0, none⟩ (.int .i64 z6.lo)).setCell ⟨w3.heap.size, 1, none⟩ (.int .i64 z6.hi)) w1.heap.size 83 #[.int .i64 e6] := by (with_reducible repeat' (first | assumption | (apply hdN; (try simp only [sA, sS, sD]); done) | apply hdA | apply hdD | apply hdS | (apply hdF; case hp => first | (simp; done) | (simp; omega)) | with_unfolding_all rfl))
        replace HX : Hd ((w6.setCell ⟨w3.heap.size, 0, none⟩ (.int .i64 z6.lo)).setCell ⟨w3.heap.size, 1, none⟩ (.int .i64 z6.hi)) w3.heap.size 23 #[.int .i64 z6.lo, .int .i64 z6.hi] := by (with_reducible repeat' (first | assumption | (apply hdN; (try simp only [sA, sS, sD]); done) | apply hdA | apply hdD | apply hdS | (apply hdF; case hp => first | (simp; done) | (simp; omega)) | with_unfolding_all rfl))
        replace bw : Below w.heap.size w ((w6.setCell ⟨w3.heap.size, 0, none⟩ (.int .i64 z6.lo)).setCell ⟨w3.heap.size, 1, none⟩ (.int .i64 z6.hi)) := by go_grown
        (try refine ⟨⟨HP, bw⟩, ?_⟩)
        repeat ((first | with_reducible apply eag_move | with_reducible apply eag_assign | ((with_reducible refine eag_soft (v := ?_) (fun w' hw' => ?_) ?_); rotate_left 1; (focus (obtain ⟨hP, hBw⟩ := hw'; obtain ⟨hcP, hfP⟩ := hP.facts; go_simp; (try with_reducible rfl); done)))); simp only [Act.put, Act.eval, List.setIfInBounds_toArray, List.set_cons_zero, List.set_cons_succ, Array.getD_eq_getD_getElem?, List.getElem?_toArray, List.getElem?_cons_zero, List.getElem?_cons_succ, Option.getD_some])
        refine eag_nil ?_
        go_wp2_with fail
        go_meet
        exact ⟨w3.heap.size, z4, z5, z6, e4, e5, e6, rfl, by omega, ok6, qq4, qq5, qq6, HP, HA, HB, HG, HX, bw⟩
end Go.Proofs.Ytpbbbfglecbceaa
