/- The half turns, quarter turns .. of the unit circle as numbers. -/
import Derived.Test.YtpbbbfglecbceaaPl3
namespace Go.Proofs.Ytpbbbfglecbceaa.En
set_option linter.all false

def one : Sp := ⟨1073741824, 1073741824⟩
/-- The cosine and sine of a quarter turn that is halved j times. -/
def tabC : Nat → Sp
  | 0 => ⟨0, 0⟩
  | 1 => ⟨759250124, 759250125⟩
  | 2 => ⟨992008094, 992008095⟩
  | 3 => ⟨1053110175, 1053110177⟩
  | 4 => ⟨1068571463, 1068571465⟩
  | 5 => ⟨1072448454, 1072448456⟩
  | 6 => ⟨1073418432, 1073418434⟩
  | 7 => ⟨1073660972, 1073660974⟩
  | _ => ⟨1073721610, 1073721612⟩
def tabS : Nat → Sp
  | 0 => ⟨1073741824, 1073741824⟩
  | 1 => ⟨759250124, 759250125⟩
  | 2 => ⟨410903206, 410903208⟩
  | 3 => ⟨209476636, 209476639⟩
  | 4 => ⟨105245097, 105245108⟩
  | 5 => ⟨52686002, 52686023⟩
  | 6 => ⟨26350932, 26350954⟩
  | 7 => ⟨13176444, 13176486⟩
  | _ => ⟨6588324, 6588406⟩

theorem tab_step : ∀ j, j < 8 → ∃ d h e g : Sp, sub one (tabC j) = .ok d ∧ half d = .ok h ∧ 0 ≤ h.lo ∧ h.ok = true ∧ roots h = .ok (tabS (j + 1)) ∧
    add one (tabC j) = .ok e ∧ half e = .ok g ∧ 0 ≤ g.lo ∧ g.ok = true ∧ roots g = .ok (tabC (j + 1)) := by
  intro j hj
  have hj' : j = 0 ∨ j = 1 ∨ j = 2 ∨ j = 3 ∨ j = 4 ∨ j = 5 ∨ j = 6 ∨ j = 7 := by omega
  rcases hj' with rfl | rfl | rfl | rfl | rfl | rfl | rfl | rfl
  · exact ⟨⟨1073741824, 1073741824⟩, ⟨536870912, 536870912⟩, ⟨1073741824, 1073741824⟩, ⟨536870912, 536870912⟩, by kernel_rfl, by kernel_rfl, by decide, by kernel_rfl, by kernel_rfl, by kernel_rfl, by kernel_rfl, by decide, by kernel_rfl, by kernel_rfl⟩
  · exact ⟨⟨314491699, 314491700⟩, ⟨157245849, 157245850⟩, ⟨1832991948, 1832991949⟩, ⟨916495974, 916495975⟩, by kernel_rfl, by kernel_rfl, by decide, by kernel_rfl, by kernel_rfl, by kernel_rfl, by kernel_rfl, by decide, by kernel_rfl, by kernel_rfl⟩
  · exact ⟨⟨81733729, 81733730⟩, ⟨40866864, 40866865⟩, ⟨2065749918, 2065749919⟩, ⟨1032874959, 1032874960⟩, by kernel_rfl, by kernel_rfl, by decide, by kernel_rfl, by kernel_rfl, by kernel_rfl, by kernel_rfl, by decide, by kernel_rfl, by kernel_rfl⟩
  · exact ⟨⟨20631647, 20631649⟩, ⟨10315823, 10315825⟩, ⟨2126851999, 2126852001⟩, ⟨1063425999, 1063426001⟩, by kernel_rfl, by kernel_rfl, by decide, by kernel_rfl, by kernel_rfl, by kernel_rfl, by kernel_rfl, by decide, by kernel_rfl, by kernel_rfl⟩
  · exact ⟨⟨5170359, 5170361⟩, ⟨2585179, 2585181⟩, ⟨2142313287, 2142313289⟩, ⟨1071156643, 1071156645⟩, by kernel_rfl, by kernel_rfl, by decide, by kernel_rfl, by kernel_rfl, by kernel_rfl, by kernel_rfl, by decide, by kernel_rfl, by kernel_rfl⟩
  · exact ⟨⟨1293368, 1293370⟩, ⟨646684, 646685⟩, ⟨2146190278, 2146190280⟩, ⟨1073095139, 1073095140⟩, by kernel_rfl, by kernel_rfl, by decide, by kernel_rfl, by kernel_rfl, by kernel_rfl, by kernel_rfl, by decide, by kernel_rfl, by kernel_rfl⟩
  · exact ⟨⟨323390, 323392⟩, ⟨161695, 161696⟩, ⟨2147160256, 2147160258⟩, ⟨1073580128, 1073580129⟩, by kernel_rfl, by kernel_rfl, by decide, by kernel_rfl, by kernel_rfl, by kernel_rfl, by kernel_rfl, by decide, by kernel_rfl, by kernel_rfl⟩
  · exact ⟨⟨80850, 80852⟩, ⟨40425, 40426⟩, ⟨2147402796, 2147402798⟩, ⟨1073701398, 1073701399⟩, by kernel_rfl, by kernel_rfl, by decide, by kernel_rfl, by kernel_rfl, by kernel_rfl, by kernel_rfl, by decide, by kernel_rfl, by kernel_rfl⟩

theorem tab_ok (j : Nat) : (tabC j).ok = true ∧ (tabS j).ok = true := by
  unfold tabC tabS
  split <;> exact ⟨by kernel_rfl, by kernel_rfl⟩

/-- The rectangle of bit b. -/
def bitRc (b : Nat) : Rc := if b = 9 then ⟨⟨-1073741824, -1073741824⟩, ⟨0, 0⟩⟩ else ⟨tabC (8 - b), tabS (8 - b)⟩
theorem bitRc_ok (b : Nat) : (bitRc b).ok = true := by
  unfold bitRc
  split
  · kernel_rfl
  · exact Rc.ok_mk (tab_ok _).1 (tab_ok _).2

/-- The product of the bits of m below b, with x ahead. -/
def unitFrom (m : Nat) : Nat → Rc → R Rc
  | 0, x => .ok x
  | b + 1, x => if m / 2 ^ b % 2 = 1 then times x (bitRc b) >>= unitFrom m b else unitFrom m b x
def unit (n : Int) : R Rc := unitFrom (n % 1024).toNat 10 ⟨one, ⟨0, 0⟩⟩

end Go.Proofs.Ytpbbbfglecbceaa.En
