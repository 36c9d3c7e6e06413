/- What the four operations of EncloseGrows answer for wider rectangles. -/
import Derived.Test.YtpbbbfglecbceaaGrPl
import Derived.Test.YtpbbbfglecbceaaLoPl
import Derived.Test.YtpbbbfglecbceaaEn21
import Derived.Test.YtpbbbfglecbceaaEn14
namespace Go.Proofs.Ytpbbbfglecbceaa
set_option linter.all false

def Grows (F : En.Rc → En.Rc → En.R En.Rc) : Prop :=
  ∀ x y p q : En.Rc, inB x p = true → inB y q = true → (twoR F p q).2 = 0 → (twoR F x y).2 = 0 ∧ inB (twoR F x y).1 (twoR F p q).1 = true
theorem inB_parts {x y : En.Rc} (h : inB x y = true) : x.ok = true ∧ y.ok = true ∧ En.SubR x y := by
  simp only [inB, En.within, Bool.and_eq_true, decide_eq_true_eq] at h
  obtain ⟨⟨h1, h2⟩, ⟨h3, h4⟩, h5, h6⟩ := h
  exact ⟨h1, h2, ⟨h3, h4⟩, ⟨h5, h6⟩⟩
theorem inB_of {x y : En.Rc} (hx : x.ok = true) (hy : y.ok = true) (h : En.SubR x y) : inB x y = true := by
  obtain ⟨⟨h1, h2⟩, h3, h4⟩ := h
  simp [inB, hx, hy, En.within, h1, h2, h3, h4]
theorem grows_of {F : En.Rc → En.Rc → En.R En.Rc} (hn : ∀ p q, F p q ≠ .error 0) (hk : ∀ x y z, F x y = .ok z → z.ok = true)
    (hm : ∀ x y p q b : En.Rc, x.ok = true → y.ok = true → p.ok = true → q.ok = true → En.SubR x p → En.SubR y q → F p q = .ok b → ∃ a, F x y = .ok a ∧ En.SubR a b) : Grows F := by
  intro x y p q h1 h2 h3
  obtain ⟨kx, kp, s1⟩ := inB_parts h1
  obtain ⟨ky, kq, s2⟩ := inB_parts h2
  have e1 : (x.ok && y.ok) = true := by rw [kx, ky]; rfl
  have e2 : (p.ok && q.ok) = true := by rw [kp, kq]; rfl
  unfold twoR at h3 ⊢
  rw [if_pos e1, if_pos e2]
  rw [if_pos e2] at h3
  cases hb : F p q with
  | error c => rw [hb] at h3; exact absurd (show F p q = .error 0 by rw [hb]; exact congrArg _ h3) (hn p q)
  | ok b =>
    obtain ⟨a, ha, hs⟩ := hm x y p q b kx ky kp kq s1 s2 hb
    rw [ha]
    exact ⟨rfl, inB_of (hk _ _ _ ha) (hk _ _ _ hb) hs⟩
theorem ne0_of {α : Type} {r : En.R α} (h : En.o4 r) : r ≠ .error 0 := fun e => absurd (h 0 e) (by decide)
theorem o4_plus (x y : En.Rc) : En.o4 (En.plus x y) := En.o4_bind (En.o4_span _ _) fun _ _ => En.o4_bind (En.o4_span _ _) fun _ _ => En.o4_pure _
theorem quotient_ne (x y : En.Rc) : En.quotient x y ≠ .error 0 := by
  intro h
  cases hp : En.power y with
  | error c =>
    have : En.quotient x y = .error c := by
      show (En.power y >>= _) = _
      rw [hp]; rfl
    rw [this] at h
    have e : c = 0 := by injection h
    exact ne0_of (En.o4_power y) (e ▸ hp)
  | ok s =>
    by_cases h0 : s.lo ≤ 0
    · have : En.quotient x y = .error 51 := by
        show (En.power y >>= fun p => if p.lo ≤ 0 then .error 51 else _) = _
        rw [hp]; show (if s.lo ≤ 0 then _ else _) = _
        rw [if_pos h0]
      rw [this] at h
      injection h with h
      omega
    · exact ne0_of (En.o4_quotient x y (fun p hq => by rw [hp] at hq; cases hq; omega)) h
theorem grows_plus : Grows En.plus := grows_of (fun p q => ne0_of (o4_plus p q)) (fun _ _ _ => En.plus_ok) (fun _ _ _ _ _ kx ky _ _ h k hb => En.plus_mono kx ky h k hb)
theorem grows_minus : Grows En.minus := grows_of (fun p q => ne0_of (En.o4_minus p q)) (fun _ _ _ => En.minus_ok) (fun _ _ _ _ _ kx ky _ _ h k hb => En.minus_mono kx ky h k hb)
theorem grows_times : Grows En.times := grows_of (fun p q => ne0_of (En.o4_times p q)) (fun _ _ _ => En.times_ok) (fun _ _ _ _ _ kx ky kp kq h k hb => En.times_mono kx ky kp kq h k hb)
theorem grows_quotient : Grows En.quotient := grows_of quotient_ne (fun _ _ _ => En.quotient_ok) (fun _ _ _ _ _ kx ky kp kq h k hb => En.quotient_mono kx ky kp kq h k hb)
end Go.Proofs.Ytpbbbfglecbceaa
