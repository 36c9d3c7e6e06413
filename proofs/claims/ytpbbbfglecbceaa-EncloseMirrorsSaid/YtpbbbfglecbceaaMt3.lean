/- Several texts in one. -/
import Derived.Test.YtpbbbfglecbceaaMt1
import Derived.Test.YtpbbbfglecbceaaMt2
import Derived.Deep.Cut
import Derived.Deep.CutRange
import Derived.LoopN
import Derived.LoopNIn
import Derived.RangeFuncLeaves
import Derived.RangeFuncRecord
import Derived.TacticsIn
import Derived.IntWalk
/- A region that draws its order, walked along every order: the steps by hand. -/
namespace Go.Proofs.Ytpbbbfglecbceaa
set_option linter.all false
open Go.RowKit

/-- The rest of the region. -/
def wpT (P : Program) (md : Region.Mode) (ops : Array Oper) (Q : Exit → Act → World → Prop) (S : World → Prop) (fuel : Nat) (listed : Array Bool) (a : Act) (w : World) : Prop :=
  wpAnyH P md ops Q S fuel listed a w

section
variable {P : Program} {ops : Array Oper} {Q : Exit → Act → World → Prop} {md : Region.Mode} {S : World → Prop} {fuel : Nat} {listed : Array Bool} {a : Act} {w : World}

theorem tr_soft {i : Nat} {oi : Oper} {v : Value} (ho : ops[i]? = some oi) (hg : oi.guard = none)
    (hB : (Region.noSelect ops && (Region.free md ops listed i && (Region.ready md ops listed).contains i)) = true)
    (hQ : ∀ c d v a w, Q (.panic c) (Act.put a d v) w → Q (.panic c) a w)
    (hy : ∀ w', S w' → (execOp a.eval oi).run P w' = .ok (.value v) w') (hS : S w)
    (h : wpT P md ops Q S fuel (listed.setIfInBounds i true) (a.put oi.dst v) w) : wpT P md ops Q S (fuel + 1) listed a w := by
  simp only [Bool.and_eq_true] at hB
  exact wpAnyH_take ho hB.1 hB.2.1 hB.2.2 (fun c a w => hQ c _ _ a w) (.inl ⟨by simp [Region.wanted, hg], hy⟩) hS h

theorem tr_hard1 {i : Nat} {o : Oper} (hr : Region.ready md ops listed = [i]) (ho : ops[i]? = some o)
    (h : wpList P ops (Exit.then (fun a' w' => S w' ∧ wpT P md ops Q S fuel (listed.setIfInBounds i true) a' w') Q) [o] a w) : wpT P md ops Q S (fuel + 1) listed a w := by
  refine wpAnyH_all hr (by simp) fun k hk => ?_
  obtain rfl : k = i := by simpa using hk
  exact wpOp_of_list ho h

theorem tr_hard2 {i j : Nat} {o u : Oper} (hr : Region.ready md ops listed = [i, j]) (ho : ops[i]? = some o) (hu : ops[j]? = some u)
    (h : wpList P ops (Exit.then (fun a' w' => S w' ∧ wpT P md ops Q S fuel (listed.setIfInBounds i true) a' w') Q) [o] a w)
    (h' : wpList P ops (Exit.then (fun a' w' => S w' ∧ wpT P md ops Q S fuel (listed.setIfInBounds j true) a' w') Q) [u] a w) : wpT P md ops Q S (fuel + 1) listed a w := by
  refine wpAnyH_all hr (by simp) fun k hk => ?_
  have hk' : k = i ∨ k = j := by simpa using hk
  rcases hk' with rfl | rfl
  · exact wpOp_of_list ho h
  · exact wpOp_of_list hu h'

theorem tr_hard3 {i j l : Nat} {o u r : Oper} (hr : Region.ready md ops listed = [i, j, l]) (ho : ops[i]? = some o) (hu : ops[j]? = some u) (hv : ops[l]? = some r)
    (h : wpList P ops (Exit.then (fun a' w' => S w' ∧ wpT P md ops Q S fuel (listed.setIfInBounds i true) a' w') Q) [o] a w)
    (h' : wpList P ops (Exit.then (fun a' w' => S w' ∧ wpT P md ops Q S fuel (listed.setIfInBounds j true) a' w') Q) [u] a w)
    (h'' : wpList P ops (Exit.then (fun a' w' => S w' ∧ wpT P md ops Q S fuel (listed.setIfInBounds l true) a' w') Q) [r] a w) : wpT P md ops Q S (fuel + 1) listed a w := by
  refine wpAnyH_all hr (by simp) fun k hk => ?_
  have hk' : k = i ∨ k = j ∨ k = l := by simpa using hk
  rcases hk' with rfl | rfl | rfl
  · exact wpOp_of_list ho h
  · exact wpOp_of_list hu h'
  · exact wpOp_of_list hv h''

theorem tr_nil (hr : (Region.ready md ops listed).isEmpty = true) (h : Q .normal a w) : wpT P md ops Q S 0 listed a w := ⟨by simpa using hr, h⟩

theorem wp_region_tr {id : Nat} (S : World → Prop) (hm : P.follows .mixedOrders = true) (h : wpT P .any ops Q S ops.size (Array.replicate ops.size false) a w.drew) : (Code.region id ops true).wp P Q a w :=
  wp_region_held hm h
end

end Go.Proofs.Ytpbbbfglecbceaa
/- The half turns, quarter turns .. of the unit circle as numbers. -/
namespace Go.Proofs.Ytpbbbfglecbceaa.En
set_option linter.all false

def one : Sp := ⟨1073741824, 1073741824⟩
/-- The cosine and sine of a quarter turn that is halved j times. -/
def tabC : Nat → Sp
  | 0 => ⟨0, 0⟩
  | 1 => ⟨759250124, 759250125⟩
  | 2 => ⟨992008094, 992008095⟩
  | 3 => ⟨1053110175, 1053110177⟩
  | 4 => ⟨1068571463, 1068571465⟩
  | 5 => ⟨1072448454, 1072448456⟩
  | 6 => ⟨1073418432, 1073418434⟩
  | 7 => ⟨1073660972, 1073660974⟩
  | _ => ⟨1073721610, 1073721612⟩
def tabS : Nat → Sp
  | 0 => ⟨1073741824, 1073741824⟩
  | 1 => ⟨759250124, 759250125⟩
  | 2 => ⟨410903206, 410903208⟩
  | 3 => ⟨209476636, 209476639⟩
  | 4 => ⟨105245097, 105245108⟩
  | 5 => ⟨52686002, 52686023⟩
  | 6 => ⟨26350932, 26350954⟩
  | 7 => ⟨13176444, 13176486⟩
  | _ => ⟨6588324, 6588406⟩

theorem tab_step : ∀ j, j < 8 → ∃ d h e g : Sp, sub one (tabC j) = .ok d ∧ half d = .ok h ∧ 0 ≤ h.lo ∧ h.ok = true ∧ roots h = .ok (tabS (j + 1)) ∧
    add one (tabC j) = .ok e ∧ half e = .ok g ∧ 0 ≤ g.lo ∧ g.ok = true ∧ roots g = .ok (tabC (j + 1)) := by
  intro j hj
  have hj' : j = 0 ∨ j = 1 ∨ j = 2 ∨ j = 3 ∨ j = 4 ∨ j = 5 ∨ j = 6 ∨ j = 7 := by omega
  rcases hj' with rfl | rfl | rfl | rfl | rfl | rfl | rfl | rfl
  · exact ⟨⟨1073741824, 1073741824⟩, ⟨536870912, 536870912⟩, ⟨1073741824, 1073741824⟩, ⟨536870912, 536870912⟩, by kernel_rfl, by kernel_rfl, by decide, by kernel_rfl, by kernel_rfl, by kernel_rfl, by kernel_rfl, by decide, by kernel_rfl, by kernel_rfl⟩
  · exact ⟨⟨314491699, 314491700⟩, ⟨157245849, 157245850⟩, ⟨1832991948, 1832991949⟩, ⟨916495974, 916495975⟩, by kernel_rfl, by kernel_rfl, by decide, by kernel_rfl, by kernel_rfl, by kernel_rfl, by kernel_rfl, by decide, by kernel_rfl, by kernel_rfl⟩
  · exact ⟨⟨81733729, 81733730⟩, ⟨40866864, 40866865⟩, ⟨2065749918, 2065749919⟩, ⟨1032874959, 1032874960⟩, by kernel_rfl, by kernel_rfl, by decide, by kernel_rfl, by kernel_rfl, by kernel_rfl, by kernel_rfl, by decide, by kernel_rfl, by kernel_rfl⟩
  · exact ⟨⟨20631647, 20631649⟩, ⟨10315823, 10315825⟩, ⟨2126851999, 2126852001⟩, ⟨1063425999, 1063426001⟩, by kernel_rfl, by kernel_rfl, by decide, by kernel_rfl, by kernel_rfl, by kernel_rfl, by kernel_rfl, by decide, by kernel_rfl, by kernel_rfl⟩
  · exact ⟨⟨5170359, 5170361⟩, ⟨2585179, 2585181⟩, ⟨2142313287, 2142313289⟩, ⟨1071156643, 1071156645⟩, by kernel_rfl, by kernel_rfl, by decide, by kernel_rfl, by kernel_rfl, by kernel_rfl, by kernel_rfl, by decide, by kernel_rfl, by kernel_rfl⟩
  · exact ⟨⟨1293368, 1293370⟩, ⟨646684, 646685⟩, ⟨2146190278, 2146190280⟩, ⟨1073095139, 1073095140⟩, by kernel_rfl, by kernel_rfl, by decide, by kernel_rfl, by kernel_rfl, by kernel_rfl, by kernel_rfl, by decide, by kernel_rfl, by kernel_rfl⟩
  · exact ⟨⟨323390, 323392⟩, ⟨161695, 161696⟩, ⟨2147160256, 2147160258⟩, ⟨1073580128, 1073580129⟩, by kernel_rfl, by kernel_rfl, by decide, by kernel_rfl, by kernel_rfl, by kernel_rfl, by kernel_rfl, by decide, by kernel_rfl, by kernel_rfl⟩
  · exact ⟨⟨80850, 80852⟩, ⟨40425, 40426⟩, ⟨2147402796, 2147402798⟩, ⟨1073701398, 1073701399⟩, by kernel_rfl, by kernel_rfl, by decide, by kernel_rfl, by kernel_rfl, by kernel_rfl, by kernel_rfl, by decide, by kernel_rfl, by kernel_rfl⟩

theorem tab_ok (j : Nat) : (tabC j).ok = true ∧ (tabS j).ok = true := by
  unfold tabC tabS
  split <;> exact ⟨by kernel_rfl, by kernel_rfl⟩

/-- The rectangle of bit b. -/
def bitRc (b : Nat) : Rc := if b = 9 then ⟨⟨-1073741824, -1073741824⟩, ⟨0, 0⟩⟩ else ⟨tabC (8 - b), tabS (8 - b)⟩
theorem bitRc_ok (b : Nat) : (bitRc b).ok = true := by
  unfold bitRc
  split
  · kernel_rfl
  · exact Rc.ok_mk (tab_ok _).1 (tab_ok _).2

/-- The product of the bits of m below b, with x ahead. -/
def unitFrom (m : Nat) : Nat → Rc → R Rc
  | 0, x => .ok x
  | b + 1, x => if m / 2 ^ b % 2 = 1 then times x (bitRc b) >>= unitFrom m b else unitFrom m b x
def unit (n : Int) : R Rc := unitFrom (n % 1024).toNat 10 ⟨one, ⟨0, 0⟩⟩

end Go.Proofs.Ytpbbbfglecbceaa.En
/- Package enclose: points of the unit circle. -/
namespace Go.Proofs.Ytpbbbfglecbceaa
set_option linter.all false
open Go.RowKit

theorem field_re (a b c d : Int) (w : World) : (Instr.field 25 (.agg #[.int .i64 a, .int .i64 b, .int .i64 c, .int .i64 d]) 0).run Try.prog w = .ok (.agg #[.int .i64 a, .int .i64 b]) w := by kernel_rfl
theorem Post.sure {α : Type} {f : α → Value} {r : En.R α} {w w' : World} {e : Ending} {v : α} (h : Post f r w e w') (hr : r = .ok v) : e = .returned (f v) ∧ Below w.heap.size w w' := by
  obtain ⟨hb, hc⟩ := h.cases
  rcases hc with ⟨s, hs, rfl⟩ | ⟨c, hs, rfl⟩
  · rw [hr] at hs; cases hs; exact ⟨rfl, hb⟩
  · rw [hr] at hs; cases hs
theorem and1023 (n : Int) : bits .and .i64 n 1023 = n % 1024 := by
  simp only [bits, BitVec.toNat_and, BitVec.toNat_ofInt]
  rw [show ((1023 : Int) % ((2 ^ IntKind.i64.bits : Nat) : Int)).toNat = 2 ^ 10 - 1 from rfl, Nat.and_two_pow_sub_one_eq_mod, IntKind.wrap_i64]
  simp only [IntKind.bits]
  omega
theorem point10 (w : World) : Calls Try.prog 78 #[.int .i64 1, .int .i64 0] w fun e w' => e = .returned (.agg #[.int .i64 1073741824, .int .i64 1073741824, .int .i64 0, .int .i64 0]) ∧ Below w.heap.size w w' :=
  (point_any 1 0 (by omega) (by omega) (by omega) (by omega) w).mono fun _ _ h => h.sure (v := ⟨⟨1073741824, 1073741824⟩, ⟨0, 0⟩⟩) (by kernel_rfl)
theorem point00 (w : World) : Calls Try.prog 78 #[.int .i64 0, .int .i64 0] w fun e w' => e = .returned (.agg #[.int .i64 0, .int .i64 0, .int .i64 0, .int .i64 0]) ∧ Below w.heap.size w w' :=
  (point_any 0 0 (by omega) (by omega) (by omega) (by omega) w).mono fun _ _ h => h.sure (v := ⟨⟨0, 0⟩, ⟨0, 0⟩⟩) (by kernel_rfl)
theorem pointm (w : World) : Calls Try.prog 78 #[.int .i64 (-1), .int .i64 0] w fun e w' => e = .returned (.agg #[.int .i64 (-1073741824), .int .i64 (-1073741824), .int .i64 0, .int .i64 0]) ∧ Below w.heap.size w w' :=
  (point_any (-1) 0 (by omega) (by omega) (by omega) (by omega) w).mono fun _ _ h => h.sure (v := ⟨⟨-1073741824, -1073741824⟩, ⟨0, 0⟩⟩) (by kernel_rfl)

/-- The cells of the array of bits of which those below t are still to come. -/
def byCell (t i : Nat) : Int := if i / 4 < t then 0 else (match i % 4 with
  | 0 => (En.bitRc (i / 4)).re.lo
  | 1 => (En.bitRc (i / 4)).re.hi
  | 2 => (En.bitRc (i / 4)).im.lo
  | _ => (En.bitRc (i / 4)).im.hi)
def byArr (t : Nat) : Array Value := ((List.range 40).map fun i => Value.int .i64 (byCell t i)).toArray
theorem byArr_get (t i : Nat) (h : i < 40) : (byArr t)[i]? = some (.int .i64 (byCell t i)) := by
  simp [byArr, List.getElem?_range h, h]
theorem byArr_zero : (#[.int .i64 0, .int .i64 0, .int .i64 0, .int .i64 0, .int .i64 0, .int .i64 0, .int .i64 0, .int .i64 0, .int .i64 0, .int .i64 0, .int .i64 0, .int .i64 0, .int .i64 0, .int .i64 0, .int .i64 0, .int .i64 0, .int .i64 0, .int .i64 0, .int .i64 0, .int .i64 0, .int .i64 0, .int .i64 0, .int .i64 0, .int .i64 0, .int .i64 0, .int .i64 0, .int .i64 0, .int .i64 0, .int .i64 0, .int .i64 0, .int .i64 0, .int .i64 0, .int .i64 0, .int .i64 0, .int .i64 0, .int .i64 0, .int .i64 0, .int .i64 0, .int .i64 0, .int .i64 0] : Array Value) = byArr 10 := by kernel_rfl
theorem byArr_zero_get0 (v : Nat) (h : v < 10) : (byArr 0)[v * 4]? = some (.int .i64 (En.bitRc v).re.lo) := by
  rw [byArr_get 0 _ (by omega)]
  unfold byCell
  rw [if_neg (by omega), show v * 4 / 4 = v by omega, show v * 4 % 4 = 0 by omega]
  rfl
theorem byArr_zero_get1 (v : Nat) (h : v < 10) : (byArr 0)[v * 4 + 1]? = some (.int .i64 (En.bitRc v).re.hi) := by
  rw [byArr_get 0 _ (by omega)]
  unfold byCell
  rw [if_neg (by omega), show (v * 4 + 1) / 4 = v by omega, show (v * 4 + 1) % 4 = 1 by omega]
  rfl
theorem byArr_zero_get2 (v : Nat) (h : v < 10) : (byArr 0)[v * 4 + 2]? = some (.int .i64 (En.bitRc v).im.lo) := by
  rw [byArr_get 0 _ (by omega)]
  unfold byCell
  rw [if_neg (by omega), show (v * 4 + 2) / 4 = v by omega, show (v * 4 + 2) % 4 = 2 by omega]
  rfl
theorem byArr_zero_get3 (v : Nat) (h : v < 10) : (byArr 0)[v * 4 + 3]? = some (.int .i64 (En.bitRc v).im.hi) := by
  rw [byArr_get 0 _ (by omega)]
  unfold byCell
  rw [if_neg (by omega), show (v * 4 + 3) / 4 = v by omega, show (v * 4 + 3) % 4 = 3 by omega]
  rfl
theorem En.unitFrom_hit {m v : Nat} {x : En.Rc} (h : m / 2 ^ v % 2 = 1) : En.unitFrom m (v + 1) x = (En.times x (En.bitRc v) >>= En.unitFrom m v) := if_pos h
theorem bit_and (m v : Nat) (h : m < 1024) : bits .and .i64 ((m : Int) / 2 ^ v) 1 = ((m / 2 ^ v % 2 : Nat) : Int) := by
  have h1 : m / 2 ^ v ≤ m := Nat.div_le_self m (2 ^ v)
  have e : (m : Int) / 2 ^ v = ((m / 2 ^ v : Nat) : Int) := by simp
  rw [e]
  have := bits_mask .i64 63 (by decide) (fun n h0 h1 => by rw [IntKind.wrap_i64]; omega) 1 (by decide) ((m / 2 ^ v : Nat) : Int) (Int.natCast_nonneg _) (by have : ((m / 2 ^ v : Nat) : Int) ≤ (m : Int) := Int.ofNat_le.2 h1; omega)
  rw [show (2 : Int) ^ 1 - 1 = 1 from rfl] at this
  rw [this]
  simp
theorem byArr_put (t : Nat) (h : t < 10) : ((((byArr (t + 1)).setIfInBounds (4 * t) (.int .i64 (En.bitRc t).re.lo)).setIfInBounds (4 * t + 1) (.int .i64 (En.bitRc t).re.hi)).setIfInBounds (4 * t + 2) (.int .i64 (En.bitRc t).im.lo)).setIfInBounds (4 * t + 3) (.int .i64 (En.bitRc t).im.hi) = byArr t := by
  have h' : t = 0 ∨ t = 1 ∨ t = 2 ∨ t = 3 ∨ t = 4 ∨ t = 5 ∨ t = 6 ∨ t = 7 ∨ t = 8 ∨ t = 9 := by omega
  rcases h' with rfl | rfl | rfl | rfl | rfl | rfl | rfl | rfl | rfl | rfl <;> (clear h; refine Eq.trans ?_ (Eq.refl _); kernel_rfl)

set_option maxRecDepth 20000 in
set_option maxHeartbeats 1000000 in
theorem unit_go (n : Int) (m : Nat) (hm : bits .and .i64 n 1023 = (m : Int)) (hm1 : m < 1024) (w : World) : Calls Try.prog 63 #[.int .i64 n] w (Post rcV (En.unitFrom m 10 ⟨En.one, ⟨0, 0⟩⟩) w) := by
  go_enter Try.func63, Try.ntmps63
  go_wp2_with fail
  have HC : Hd ((w.alloc (.cells #[.int .i64 0, .int .i64 0, .int .i64 0, .int .i64 0] 25)).alloc (.cells #[.int .i64 0, .int .i64 0, .int .i64 0, .int .i64 0, .int .i64 0, .int .i64 0, .int .i64 0, .int .i64 0, .int .i64 0, .int .i64 0, .int .i64 0, .int .i64 0, .int .i64 0, .int .i64 0, .int .i64 0, .int .i64 0, .int .i64 0, .int .i64 0, .int .i64 0, .int .i64 0, .int .i64 0, .int .i64 0, .int .i64 0, .int .i64 0, .int .i64 0, .int .i64 0, .int .i64 0, .int .i64 0, .int .i64 0, .int .i64 0, .int .i64 0, .int .i64 0, .int .i64 0, .int .i64 0, .int .i64 0, .int .i64 0, .int .i64 0, .int .i64 0, .int .i64 0, .int .i64 0] 107)) w.heap.size 25 #[.int .i64 0, .int .i64 0, .int .i64 0, .int .i64 0] := hdx
  have HY : Hd ((w.alloc (.cells #[.int .i64 0, .int .i64 0, .int .i64 0, .int .i64 0] 25)).alloc (.cells #[.int .i64 0, .int .i64 0, .int .i64 0, .int .i64 0, .int .i64 0, .int .i64 0, .int .i64 0, .int .i64 0, .int .i64 0, .int .i64 0, .int .i64 0, .int .i64 0, .int .i64 0, .int .i64 0, .int .i64 0, .int .i64 0, .int .i64 0, .int .i64 0, .int .i64 0, .int .i64 0, .int .i64 0, .int .i64 0, .int .i64 0, .int .i64 0, .int .i64 0, .int .i64 0, .int .i64 0, .int .i64 0, .int .i64 0, .int .i64 0, .int .i64 0, .int .i64 0, .int .i64 0, .int .i64 0, .int .i64 0, .int .i64 0, .int .i64 0, .int .i64 0, .int .i64 0, .int .i64 0] 107)) (w.heap.size + 1) 107 #[.int .i64 0, .int .i64 0, .int .i64 0, .int .i64 0, .int .i64 0, .int .i64 0, .int .i64 0, .int .i64 0, .int .i64 0, .int .i64 0, .int .i64 0, .int .i64 0, .int .i64 0, .int .i64 0, .int .i64 0, .int .i64 0, .int .i64 0, .int .i64 0, .int .i64 0, .int .i64 0, .int .i64 0, .int .i64 0, .int .i64 0, .int .i64 0, .int .i64 0, .int .i64 0, .int .i64 0, .int .i64 0, .int .i64 0, .int .i64 0, .int .i64 0, .int .i64 0, .int .i64 0, .int .i64 0, .int .i64 0, .int .i64 0, .int .i64 0, .int .i64 0, .int .i64 0, .int .i64 0] := hdx
  have bw : Below w.heap.size w ((w.alloc (.cells #[.int .i64 0, .int .i64 0, .int .i64 0, .int .i64 0] 25)).alloc (.cells #[.int .i64 0, .int .i64 0, .int .i64 0, .int .i64 0, .int .i64 0, .int .i64 0, .int .i64 0, .int .i64 0, .int .i64 0, .int .i64 0, .int .i64 0, .int .i64 0, .int .i64 0, .int .i64 0, .int .i64 0, .int .i64 0, .int .i64 0, .int .i64 0, .int .i64 0, .int .i64 0, .int .i64 0, .int .i64 0, .int .i64 0, .int .i64 0, .int .i64 0, .int .i64 0, .int .i64 0, .int .i64 0, .int .i64 0, .int .i64 0, .int .i64 0, .int .i64 0, .int .i64 0, .int .i64 0, .int .i64 0, .int .i64 0, .int .i64 0, .int .i64 0, .int .i64 0, .int .i64 0] 107)) := by go_grown
  rw [byArr_zero] at HY
  refine (point10 _).mono ?_
  rintro e w1 ⟨rfl, hb1⟩
  replace bw : Below w.heap.size w w1 := below_next bw hb1
  replace HC := HC.call hb1
  replace HY := HY.call hb1
  have lw1 : w.heap.size ≤ w1.heap.size := bw.size
  clear hb1
  have hfd := field_re
  have ltYw : w.heap.size + 1 < w1.heap.size := HY.lt
  go_upto_region 4 with fail
  go_cut [5, 6] from 14 to 16 (fun c s wx => ∃ gc gs : Nat, c = .pointer (some ⟨gc, 0, none⟩) ∧ s = .pointer (some ⟨gs, 0, none⟩) ∧ w.heap.size + 1 < gc ∧ w.heap.size + 1 < gs ∧ w1.heap.size < gc ∧ w1.heap.size < gs ∧ gc ≠ gs ∧
      Hd wx w.heap.size 25 #[.int .i64 0, .int .i64 0, .int .i64 0, .int .i64 0] ∧ Hd wx (w.heap.size + 1) 107 (byArr 10) ∧ Hd wx w1.heap.size 23 #[.int .i64 1073741824, .int .i64 1073741824] ∧ Hd wx gc 23 #[.int .i64 0, .int .i64 0] ∧ Hd wx gs 23 #[.int .i64 1073741824, .int .i64 1073741824] ∧ Below w.heap.size w wx)
  case rest =>
    clear HC HY bw
    obtain ⟨gc, gs, rfl, rfl, lc, ls, lpc, lps, hne, HC, HY, HP, Hc, Hs, bw⟩ := hcut
    have lwc : w.heap.size ≤ wc.heap.size := bw.size
    go_wp2_with fail
    replace HC : Hd (wc.drew) w.heap.size 25 #[.int .i64 0, .int .i64 0, .int .i64 0, .int .i64 0] := hdx
    replace HY : Hd (wc.drew) (w.heap.size + 1) 107 (byArr 10) := hdx
    replace HP : Hd (wc.drew) w1.heap.size 23 #[.int .i64 1073741824, .int .i64 1073741824] := hdx
    replace Hc : Hd (wc.drew) gc 23 #[.int .i64 0, .int .i64 0] := hdx
    replace Hs : Hd (wc.drew) gs 23 #[.int .i64 1073741824, .int .i64 1073741824] := hdx
    replace bw : Below w.heap.size w (wc.drew) := by go_grown
    (refine wp_region_eag (fun w' => Hd w' w.heap.size 25 #[.int .i64 0, .int .i64 0, .int .i64 0, .int .i64 0] ∧ Hd w' w1.heap.size 23 #[.int .i64 1073741824, .int .i64 1073741824] ∧ Hd w' gc 23 #[.int .i64 0, .int .i64 0] ∧ Hd w' gs 23 #[.int .i64 1073741824, .int .i64 1073741824] ∧ Below w.heap.size w w') [(1, true), (2, true), (3, true), (0, false), (4, true), (5, false), (6, true), (7, false)] (by kernel_rfl) (by kernel_rfl) (fun c d v a w h => by cases d <;> exact h) ⟨HC, HP, Hc, Hs, bw⟩ ?_; simp only [List.map_cons, List.map_nil, List.getD_cons_zero, List.getD_cons_succ, flMark, Nat.reduceEqDiff, ↓reduceIte])
    repeat ((first | with_reducible apply eag_move | with_reducible apply eag_assign | ((with_reducible refine eag_soft (v := ?_) (fun w' hw' => ?_) ?_); rotate_left 1; (focus (obtain ⟨_, _, hc, hs, hBw⟩ := hw'; obtain ⟨hcc, hfc⟩ := hc.facts; obtain ⟨hcs, hfs⟩ := hs.facts; go_simp; (try with_reducible rfl); done)))); simp only [Act.put, Act.eval, qs])
    refine eag_hard ?_
    go_wp2_with fail
    refine (pointm _).mono ?_
    rintro e w2 ⟨rfl, hb2⟩
    replace bw : Below w.heap.size w w2 := below_next bw hb2
    replace HC := HC.call hb2
    replace HY := HY.call hb2
    replace HP := HP.call hb2
    replace Hc := Hc.call hb2
    replace Hs := Hs.call hb2
    have lw2 : w.heap.size ≤ w2.heap.size := bw.size
    clear hb2
    go_wp2_with fail
    (try refine ⟨⟨HC, HP, Hc, Hs, bw⟩, ?_⟩)
    repeat ((first | with_reducible apply eag_move | with_reducible apply eag_assign | ((with_reducible refine eag_soft (v := ?_) (fun w' hw' => ?_) ?_); rotate_left 1; (focus (obtain ⟨_, _, hc, hs, hBw⟩ := hw'; obtain ⟨hcc, hfc⟩ := hc.facts; obtain ⟨hcs, hfs⟩ := hs.facts; go_simp; (try with_reducible rfl); done)))); simp only [Act.put, Act.eval, qs])
    have y36 := HY.cell 36
    have y37 := HY.cell 37
    have y38 := HY.cell 38
    have y39 := HY.cell 39
    rw [byArr_get _ _ (by omega)] at y36 y37 y38 y39
    have hfY := HY.free
    refine eag_hard ?_
    go_wp2_with fail
    have PC := HC
    have PY := HY
    have PP := HP
    have Pc := Hc
    have Ps := Hs
    have Pbw := bw
    replace HC : Hd ((((w2.setCell ⟨(w.heap.size + 1), 36, none⟩ (.int .i64 (-1073741824))).setCell ⟨(w.heap.size + 1), 37, none⟩ (.int .i64 (-1073741824))).setCell ⟨(w.heap.size + 1), 38, none⟩ (.int .i64 0)).setCell ⟨(w.heap.size + 1), 39, none⟩ (.int .i64 0)) w.heap.size 25 #[.int .i64 0, .int .i64 0, .int .i64 0, .int .i64 0] := hdx
    replace HP : Hd ((((w2.setCell ⟨(w.heap.size + 1), 36, none⟩ (.int .i64 (-1073741824))).setCell ⟨(w.heap.size + 1), 37, none⟩ (.int .i64 (-1073741824))).setCell ⟨(w.heap.size + 1), 38, none⟩ (.int .i64 0)).setCell ⟨(w.heap.size + 1), 39, none⟩ (.int .i64 0)) w1.heap.size 23 #[.int .i64 1073741824, .int .i64 1073741824] := hdx
    replace Hc : Hd ((((w2.setCell ⟨(w.heap.size + 1), 36, none⟩ (.int .i64 (-1073741824))).setCell ⟨(w.heap.size + 1), 37, none⟩ (.int .i64 (-1073741824))).setCell ⟨(w.heap.size + 1), 38, none⟩ (.int .i64 0)).setCell ⟨(w.heap.size + 1), 39, none⟩ (.int .i64 0)) gc 23 #[.int .i64 0, .int .i64 0] := hdx
    replace Hs : Hd ((((w2.setCell ⟨(w.heap.size + 1), 36, none⟩ (.int .i64 (-1073741824))).setCell ⟨(w.heap.size + 1), 37, none⟩ (.int .i64 (-1073741824))).setCell ⟨(w.heap.size + 1), 38, none⟩ (.int .i64 0)).setCell ⟨(w.heap.size + 1), 39, none⟩ (.int .i64 0)) gs 23 #[.int .i64 1073741824, .int .i64 1073741824] := hdx
    replace HY : Hd ((((w2.setCell ⟨(w.heap.size + 1), 36, none⟩ (.int .i64 (-1073741824))).setCell ⟨(w.heap.size + 1), 37, none⟩ (.int .i64 (-1073741824))).setCell ⟨(w.heap.size + 1), 38, none⟩ (.int .i64 0)).setCell ⟨(w.heap.size + 1), 39, none⟩ (.int .i64 0)) (w.heap.size + 1) 107 (byArr 9) := by
      rw [← byArr_put 9 (by omega)]
      exact (((PY.set _ _).set _ _).set _ _).set _ _
    replace bw : Below w.heap.size w ((((w2.setCell ⟨(w.heap.size + 1), 36, none⟩ (.int .i64 (-1073741824))).setCell ⟨(w.heap.size + 1), 37, none⟩ (.int .i64 (-1073741824))).setCell ⟨(w.heap.size + 1), 38, none⟩ (.int .i64 0)).setCell ⟨(w.heap.size + 1), 39, none⟩ (.int .i64 0)) := by go_grown
    (try refine ⟨⟨HC, HP, Hc, Hs, bw⟩, ?_⟩)
    generalize hW : (((w2.setCell ⟨(w.heap.size + 1), 36, none⟩ (.int .i64 (-1073741824))).setCell ⟨(w.heap.size + 1), 37, none⟩ (.int .i64 (-1073741824))).setCell ⟨(w.heap.size + 1), 38, none⟩ (.int .i64 0)).setCell ⟨(w.heap.size + 1), 39, none⟩ (.int .i64 0) = w3 at HC HY HP Hc Hs bw ⊢
    clear hW
    have lw3 : w.heap.size ≤ w3.heap.size := bw.size
    repeat ((first | with_reducible apply eag_move | with_reducible apply eag_assign | ((with_reducible refine eag_soft (v := ?_) (fun w' hw' => ?_) ?_); rotate_left 1; (focus (obtain ⟨_, _, hc, hs, hBw⟩ := hw'; obtain ⟨hcc, hfc⟩ := hc.facts; obtain ⟨hcs, hfs⟩ := hs.facts; go_simp; (try with_reducible rfl); done)))); simp only [Act.put, Act.eval, qs])
    have y32 := HY.cell 32
    have y33 := HY.cell 33
    have y34 := HY.cell 34
    have y35 := HY.cell 35
    rw [byArr_get _ _ (by omega)] at y32 y33 y34 y35
    have hfY2 := HY.free
    refine eag_hard ?_
    go_wp2_with fail
    have PC := HC
    have PY := HY
    have PP := HP
    have Pc := Hc
    have Ps := Hs
    have Pbw := bw
    replace HC : Hd ((((w3.setCell ⟨(w.heap.size + 1), 32, none⟩ (.int .i64 0)).setCell ⟨(w.heap.size + 1), 33, none⟩ (.int .i64 0)).setCell ⟨(w.heap.size + 1), 34, none⟩ (.int .i64 1073741824)).setCell ⟨(w.heap.size + 1), 35, none⟩ (.int .i64 1073741824)) w.heap.size 25 #[.int .i64 0, .int .i64 0, .int .i64 0, .int .i64 0] := hdx
    replace HP : Hd ((((w3.setCell ⟨(w.heap.size + 1), 32, none⟩ (.int .i64 0)).setCell ⟨(w.heap.size + 1), 33, none⟩ (.int .i64 0)).setCell ⟨(w.heap.size + 1), 34, none⟩ (.int .i64 1073741824)).setCell ⟨(w.heap.size + 1), 35, none⟩ (.int .i64 1073741824)) w1.heap.size 23 #[.int .i64 1073741824, .int .i64 1073741824] := hdx
    replace Hc : Hd ((((w3.setCell ⟨(w.heap.size + 1), 32, none⟩ (.int .i64 0)).setCell ⟨(w.heap.size + 1), 33, none⟩ (.int .i64 0)).setCell ⟨(w.heap.size + 1), 34, none⟩ (.int .i64 1073741824)).setCell ⟨(w.heap.size + 1), 35, none⟩ (.int .i64 1073741824)) gc 23 #[.int .i64 0, .int .i64 0] := hdx
    replace Hs : Hd ((((w3.setCell ⟨(w.heap.size + 1), 32, none⟩ (.int .i64 0)).setCell ⟨(w.heap.size + 1), 33, none⟩ (.int .i64 0)).setCell ⟨(w.heap.size + 1), 34, none⟩ (.int .i64 1073741824)).setCell ⟨(w.heap.size + 1), 35, none⟩ (.int .i64 1073741824)) gs 23 #[.int .i64 1073741824, .int .i64 1073741824] := hdx
    replace HY : Hd ((((w3.setCell ⟨(w.heap.size + 1), 32, none⟩ (.int .i64 0)).setCell ⟨(w.heap.size + 1), 33, none⟩ (.int .i64 0)).setCell ⟨(w.heap.size + 1), 34, none⟩ (.int .i64 1073741824)).setCell ⟨(w.heap.size + 1), 35, none⟩ (.int .i64 1073741824)) (w.heap.size + 1) 107 (byArr 8) := by
      rw [← byArr_put 8 (by omega)]
      exact (((PY.set _ _).set _ _).set _ _).set _ _
    replace bw : Below w.heap.size w ((((w3.setCell ⟨(w.heap.size + 1), 32, none⟩ (.int .i64 0)).setCell ⟨(w.heap.size + 1), 33, none⟩ (.int .i64 0)).setCell ⟨(w.heap.size + 1), 34, none⟩ (.int .i64 1073741824)).setCell ⟨(w.heap.size + 1), 35, none⟩ (.int .i64 1073741824)) := by go_grown
    (try refine ⟨⟨HC, HP, Hc, Hs, bw⟩, ?_⟩)
    generalize hW : (((w3.setCell ⟨(w.heap.size + 1), 32, none⟩ (.int .i64 0)).setCell ⟨(w.heap.size + 1), 33, none⟩ (.int .i64 0)).setCell ⟨(w.heap.size + 1), 34, none⟩ (.int .i64 1073741824)).setCell ⟨(w.heap.size + 1), 35, none⟩ (.int .i64 1073741824) = w4 at HC HY HP Hc Hs bw ⊢
    clear hW
    have lw4 : w.heap.size ≤ w4.heap.size := bw.size
    refine eag_nil ?_
    clear y36 y37 y38 y39 hfY y32 y33 y34 y35 hfY2 PC PY PP Pc Ps Pbw
    go_wp2
    go_loopw [7] (fun b wr => ∃ (t j : Nat) (k : Int), t + j = 8 ∧ k = (t : Int) - 1 ∧ b = .int .i64 k ∧ Hd wr w.heap.size 25 #[.int .i64 0, .int .i64 0, .int .i64 0, .int .i64 0] ∧ Hd wr (w.heap.size + 1) 107 (byArr t) ∧ Hd wr w1.heap.size 23 #[.int .i64 1073741824, .int .i64 1073741824] ∧
        Hd wr gc 23 #[.int .i64 (En.tabC j).lo, .int .i64 (En.tabC j).hi] ∧ Hd wr gs 23 #[.int .i64 (En.tabS j).lo, .int .i64 (En.tabS j).hi] ∧ Below w.heap.size w wr) (fun b _ => (intOf b + 1).toNat)
    case atStart => exact ⟨8, 0, 7, by omega, by omega, rfl, HC, HY, HP, Hc, Hs, bw⟩
    case round =>
      clear HC HY HP Hc Hs bw
      obtain ⟨t, j, k, htj, hk, rfl, HC, HY, HP, Hc, Hs, bw⟩ := hrel
      cases t with
      | zero =>
        obtain rfl : k = -1 := by omega
        obtain rfl : j = 8 := by omega
        clear htj hk
        have lwr : w.heap.size ≤ wr.heap.size := bw.size
        go_wp2_with fail
        refine (point10 _).mono ?_
        rintro e w31 ⟨rfl, hb31⟩
        replace bw : Below w.heap.size w w31 := below_next bw hb31
        replace HC := HC.call hb31
        replace HY := HY.call hb31
        replace HP := HP.call hb31
        replace Hc := Hc.call hb31
        replace Hs := Hs.call hb31
        have lw31 : w.heap.size ≤ w31.heap.size := bw.size
        clear hb31
        clear HP Hc Hs
        have ltY : w.heap.size + 1 < w31.heap.size := HY.lt
        replace HC : Hd (w31.alloc (.cells #[.int .i64 1073741824, .int .i64 1073741824, .int .i64 0, .int .i64 0] 25)) w.heap.size 25 #[.int .i64 0, .int .i64 0, .int .i64 0, .int .i64 0] := hdx
        replace HY : Hd (w31.alloc (.cells #[.int .i64 1073741824, .int .i64 1073741824, .int .i64 0, .int .i64 0] 25)) (w.heap.size + 1) 107 (byArr 0) := hdx
        replace bw : Below w.heap.size w (w31.alloc (.cells #[.int .i64 1073741824, .int .i64 1073741824, .int .i64 0, .int .i64 0] 25)) := by go_grown
        have HO : Hd (w31.alloc (.cells #[.int .i64 1073741824, .int .i64 1073741824, .int .i64 0, .int .i64 0] 25)) w31.heap.size 25 #[.int .i64 1073741824, .int .i64 1073741824, .int .i64 0, .int .i64 0] := hdx
        go_wp2
        go_loopw [9] (fun b wx => ∃ (t : Nat) (k : Int) (x : En.Rc), t ≤ 10 ∧ k = (t : Int) - 1 ∧ b = .int .i64 k ∧ x.ok = true ∧ En.unitFrom m 10 ⟨En.one, ⟨0, 0⟩⟩ = En.unitFrom m t x ∧ Hd wx w.heap.size 25 #[.int .i64 0, .int .i64 0, .int .i64 0, .int .i64 0] ∧ Hd wx (w.heap.size + 1) 107 (byArr 0) ∧
            Hd wx w31.heap.size 25 #[.int .i64 x.re.lo, .int .i64 x.re.hi, .int .i64 x.im.lo, .int .i64 x.im.hi] ∧ Below w.heap.size w wx) (fun b _ => (intOf b + 1).toNat)
        case atStart => exact ⟨10, 9, ⟨En.one, ⟨0, 0⟩⟩, by omega, by omega, rfl, by decide, rfl, HC, HY, HO, bw⟩
        case round =>
          clear HC HY HO bw
          obtain ⟨t, k, x, ht, hk, rfl, hx, hux, HC, HY, HO, bw⟩ := hrel
          cases t with
          | zero =>
            obtain rfl : k = -1 := by omega
            clear hk
            obtain ⟨hcO, hfO⟩ := HO.facts
            obtain ⟨hcC, hfC⟩ := HC.facts
            have HX := Lib.hid hux
            clear hux
            go_wp2
            refine bodyPost_ret (run_results1 rfl rfl (by (show Hd _ (w.heap.size) 25 #[.int .i64 x.re.lo, .int .i64 x.re.hi, .int .i64 x.im.lo, .int .i64 x.im.hi]); exact hdx) Try.underlying25 rfl (by kernel_rfl)) rfl (post_ok (HX.out.trans rfl) (by go_grown))
          | succ v =>
            obtain rfl : k = (v : Int) := by omega
            clear hk
            have HX := Lib.hid hux
            clear hux
            obtain ⟨hcO, hfO⟩ := HO.facts
            have hvb : (v : Int) < 10 := by omega
            have z0 := byArr_zero_get0 v (by omega)
            have z1 := byArr_zero_get1 v (by omega)
            have z2 := byArr_zero_get2 v (by omega)
            have z3 := byArr_zero_get3 v (by omega)
            go_wp2_with fail
            case roundEnd h =>
              have hb := bit_and m v hm1
              refine ⟨⟨v, (v : Int) - 1, x, by omega, by omega, rfl, hx, ?_, HC, HY, HO, bw⟩, by simp [intOf]⟩
              rw [HX.out]
              refine if_neg ?_
              intro hq
              rw [hb, hq] at h
              exact absurd h (by decide)
            rename_i h
            have hbit : m / 2 ^ v % 2 = 1 := by
              have hb := bit_and m v hm1
              rw [hb] at h
              have h2 := of_decide_eq_true h
              exact Int.ofNat_inj.1 h2
            have HB := Lib.hid hbit
            clear h hbit
            have lwr2 : w.heap.size ≤ wr.heap.size := bw.size
            replace HC : Hd (wr.drew) w.heap.size 25 #[.int .i64 0, .int .i64 0, .int .i64 0, .int .i64 0] := hdx
            replace HY : Hd (wr.drew) (w.heap.size + 1) 107 (byArr 0) := hdx
            replace HO : Hd (wr.drew) w31.heap.size 25 #[.int .i64 x.re.lo, .int .i64 x.re.hi, .int .i64 x.im.lo, .int .i64 x.im.hi] := hdx
            replace bw : Below w.heap.size w (wr.drew) := by go_grown
            (refine wp_region_eag (fun w' => Hd w' w.heap.size 25 #[.int .i64 0, .int .i64 0, .int .i64 0, .int .i64 0] ∧ Hd w' (w.heap.size + 1) 107 (byArr 0) ∧ Below w.heap.size w w') [(1, true), (2, true), (3, true), (0, false), (4, false), (5, false)] (by kernel_rfl) (by kernel_rfl) (fun c d v a w h => by cases d <;> exact h) ⟨HC, HY, bw⟩ ?_; simp only [List.map_cons, List.map_nil, List.getD_cons_zero, List.getD_cons_succ, flMark, Nat.reduceEqDiff, ↓reduceIte])
            repeat ((first | with_reducible apply eag_move | with_reducible apply eag_assign | ((with_reducible refine eag_soft (v := ?_) (fun w' hw' => ?_) ?_); rotate_left 1; (focus (obtain ⟨_, hY, hBw⟩ := hw'; obtain ⟨hcY, hfY⟩ := hY.facts; go_simp; (try with_reducible rfl); done)))); simp only [Act.put, Act.eval, qs])
            obtain ⟨hcO, hfO⟩ := HO.facts
            refine eag_hard ?_
            go_wp2_with fail
            (try refine ⟨⟨HC, HY, bw⟩, ?_⟩)
            refine eag_hard ?_
            go_wp2_with fail
            refine (times_any x (En.bitRc v) (En.Rc.fit_of_ok hx) (En.Rc.fit_of_ok (En.bitRc_ok v)) _).mono ?_
            intro e w41 hp
            obtain ⟨hb41, hcase⟩ := hp.cases
            clear hp
            replace bw : Below w.heap.size w w41 := below_next bw hb41
            replace HC := HC.call hb41
            replace HY := HY.call hb41
            replace HO := HO.call hb41
            have lw41 : w.heap.size ≤ w41.heap.size := bw.size
            clear hb41
            rcases hcase with ⟨s41, hs41, rfl⟩ | ⟨c41, hs41, rfl⟩
            rotate_left
            · exact ⟨rfl, post_err (by rw [HX.out, En.unitFrom_hit HB.out, hs41]; rfl) bw⟩
            go_wp2_with fail
            (try refine ⟨⟨HC, HY, bw⟩, ?_⟩)
            repeat ((first | with_reducible apply eag_move | with_reducible apply eag_assign | ((with_reducible refine eag_soft (v := ?_) (fun w' hw' => ?_) ?_); rotate_left 1; (focus (obtain ⟨_, hY, hBw⟩ := hw'; obtain ⟨hcY, hfY⟩ := hY.facts; go_simp; (try with_reducible rfl); done)))); simp only [Act.put, Act.eval, qs])
            obtain ⟨hcO, hfO⟩ := HO.facts
            refine eag_hard ?_
            go_wp2_with fail
            have PC := HC
            have PY := HY
            have PO := HO
            have Pbw := bw
            replace HC : Hd ((((w41.setCell ⟨w31.heap.size, 0, none⟩ (Value.int .i64 s41.re.lo)).setCell ⟨w31.heap.size, 1, none⟩ (Value.int .i64 s41.re.hi)).setCell ⟨w31.heap.size, 2, none⟩ (Value.int .i64 s41.im.lo)).setCell ⟨w31.heap.size, 3, none⟩ (Value.int .i64 s41.im.hi)) w.heap.size 25 #[.int .i64 0, .int .i64 0, .int .i64 0, .int .i64 0] := hdx
            replace HY : Hd ((((w41.setCell ⟨w31.heap.size, 0, none⟩ (Value.int .i64 s41.re.lo)).setCell ⟨w31.heap.size, 1, none⟩ (Value.int .i64 s41.re.hi)).setCell ⟨w31.heap.size, 2, none⟩ (Value.int .i64 s41.im.lo)).setCell ⟨w31.heap.size, 3, none⟩ (Value.int .i64 s41.im.hi)) (w.heap.size + 1) 107 (byArr 0) := hdx
            replace HO : Hd ((((w41.setCell ⟨w31.heap.size, 0, none⟩ (Value.int .i64 s41.re.lo)).setCell ⟨w31.heap.size, 1, none⟩ (Value.int .i64 s41.re.hi)).setCell ⟨w31.heap.size, 2, none⟩ (Value.int .i64 s41.im.lo)).setCell ⟨w31.heap.size, 3, none⟩ (Value.int .i64 s41.im.hi)) w31.heap.size 25 #[.int .i64 s41.re.lo, .int .i64 s41.re.hi, .int .i64 s41.im.lo, .int .i64 s41.im.hi] := hdx
            replace bw : Below w.heap.size w ((((w41.setCell ⟨w31.heap.size, 0, none⟩ (Value.int .i64 s41.re.lo)).setCell ⟨w31.heap.size, 1, none⟩ (Value.int .i64 s41.re.hi)).setCell ⟨w31.heap.size, 2, none⟩ (Value.int .i64 s41.im.lo)).setCell ⟨w31.heap.size, 3, none⟩ (Value.int .i64 s41.im.hi)) := by go_grown
            (try refine ⟨⟨HC, HY, bw⟩, ?_⟩)
            refine eag_nil ?_
            go_wp2_with fail
            refine ⟨⟨v, (v : Int) - 1, s41, by omega, by omega, rfl, En.times_ok hs41, ?_, HC, HY, HO, bw⟩, by simp [intOf]⟩
            rw [HX.out, En.unitFrom_hit HB.out, hs41]
            rfl
      | succ u =>
        obtain rfl : k = (u : Int) := by omega
        have hub : (u : Int) ≤ 7 := by omega
        obtain ⟨d, h, e, g, hd, hh, h0, ho, hr, he, hg, g0, go, hq⟩ := En.tab_step j (by omega)
        have HT := Lib.hid htj
        clear hk htj
        have HD := Lib.hid hd
        have HH := Lib.hid hh
        have H0 := Lib.hid h0
        have HO := Lib.hid ho
        have HR := Lib.hid hr
        have HE := Lib.hid he
        have HG := Lib.hid hg
        have HG0 := Lib.hid g0
        have HGO := Lib.hid go
        have HQ := Lib.hid hq
        clear hd hh h0 ho hr he hg g0 go hq
        have lwr : w.heap.size ≤ wr.heap.size := bw.size
        obtain ⟨hcP, hfP⟩ := HP.facts
        obtain ⟨hcc, hfc⟩ := Hc.facts
        go_wp2_with fail
        refine (sub_any En.one (En.tabC j) (En.Sp.fit_of_ok (s := En.one) (by decide)) (En.Sp.fit_of_ok (En.tab_ok j).1) _).mono ?_
        intro ee w11 hp
        obtain ⟨rfl, hb11⟩ := hp.sure HD.out
        replace bw : Below w.heap.size w w11 := below_next bw hb11
        replace HC := HC.call hb11
        replace HY := HY.call hb11
        replace HP := HP.call hb11
        replace Hc := Hc.call hb11
        replace Hs := Hs.call hb11
        have lw11 : w.heap.size ≤ w11.heap.size := bw.size
        clear hb11
        go_wp2_with fail
        refine (half_any d (En.Sp.fit_of_ok (En.sub_ok HD.out)) _).mono ?_
        intro ee w12 hp
        obtain ⟨rfl, hb12⟩ := hp.sure HH.out
        replace bw : Below w.heap.size w w12 := below_next bw hb12
        replace HC := HC.call hb12
        replace HY := HY.call hb12
        replace HP := HP.call hb12
        replace Hc := Hc.call hb12
        replace Hs := Hs.call hb12
        have lw12 : w.heap.size ≤ w12.heap.size := bw.size
        clear hb12
        go_wp2_with fail
        refine (roots_any h H0.out HO.out _).mono ?_
        intro ee w13 hp
        obtain ⟨rfl, hb13⟩ := hp.sure HR.out
        replace bw : Below w.heap.size w w13 := below_next bw hb13
        replace HC := HC.call hb13
        replace HY := HY.call hb13
        replace HP := HP.call hb13
        replace Hc := Hc.call hb13
        replace Hs := Hs.call hb13
        have lw13 : w.heap.size ≤ w13.heap.size := bw.size
        clear hb13
        obtain ⟨hcs, hfs⟩ := Hs.facts
        obtain ⟨hcP, hfP⟩ := HP.facts
        obtain ⟨hcc, hfc⟩ := Hc.facts
        go_wp2_with fail
        have PC := HC
        have PY := HY
        have PP := HP
        have Pc := Hc
        have Ps := Hs
        have Pbw := bw
        replace HC : Hd ((w13.setCell ⟨gs, 0, none⟩ (.int .i64 (En.tabS (j + 1)).lo)).setCell ⟨gs, 1, none⟩ (.int .i64 (En.tabS (j + 1)).hi)) w.heap.size 25 #[.int .i64 0, .int .i64 0, .int .i64 0, .int .i64 0] := hdx
        replace HY : Hd ((w13.setCell ⟨gs, 0, none⟩ (.int .i64 (En.tabS (j + 1)).lo)).setCell ⟨gs, 1, none⟩ (.int .i64 (En.tabS (j + 1)).hi)) (w.heap.size + 1) 107 (byArr (u + 1)) := hdx
        replace HP : Hd ((w13.setCell ⟨gs, 0, none⟩ (.int .i64 (En.tabS (j + 1)).lo)).setCell ⟨gs, 1, none⟩ (.int .i64 (En.tabS (j + 1)).hi)) w1.heap.size 23 #[.int .i64 1073741824, .int .i64 1073741824] := hdx
        replace Hc : Hd ((w13.setCell ⟨gs, 0, none⟩ (.int .i64 (En.tabS (j + 1)).lo)).setCell ⟨gs, 1, none⟩ (.int .i64 (En.tabS (j + 1)).hi)) gc 23 #[.int .i64 (En.tabC j).lo, .int .i64 (En.tabC j).hi] := hdx
        replace Hs : Hd ((w13.setCell ⟨gs, 0, none⟩ (.int .i64 (En.tabS (j + 1)).lo)).setCell ⟨gs, 1, none⟩ (.int .i64 (En.tabS (j + 1)).hi)) gs 23 #[.int .i64 (En.tabS (j + 1)).lo, .int .i64 (En.tabS (j + 1)).hi] := hdx
        replace bw : Below w.heap.size w ((w13.setCell ⟨gs, 0, none⟩ (.int .i64 (En.tabS (j + 1)).lo)).setCell ⟨gs, 1, none⟩ (.int .i64 (En.tabS (j + 1)).hi)) := by go_grown
        generalize hW : (w13.setCell ⟨gs, 0, none⟩ (.int .i64 (En.tabS (j + 1)).lo)).setCell ⟨gs, 1, none⟩ (.int .i64 (En.tabS (j + 1)).hi) = w14 at HC HY HP Hc Hs bw ⊢
        clear hW
        have lw14 : w.heap.size ≤ w14.heap.size := bw.size
        refine (add_any En.one (En.tabC j) (En.Sp.fit_of_ok (s := En.one) (by decide)) (En.Sp.fit_of_ok (En.tab_ok j).1) _).mono ?_
        intro ee w15 hp
        obtain ⟨rfl, hb15⟩ := hp.sure HE.out
        replace bw : Below w.heap.size w w15 := below_next bw hb15
        replace HC := HC.call hb15
        replace HY := HY.call hb15
        replace HP := HP.call hb15
        replace Hc := Hc.call hb15
        replace Hs := Hs.call hb15
        have lw15 : w.heap.size ≤ w15.heap.size := bw.size
        clear hb15
        go_wp2_with fail
        refine (half_any e (En.Sp.fit_of_ok (En.add_ok HE.out)) _).mono ?_
        intro ee w16 hp
        obtain ⟨rfl, hb16⟩ := hp.sure HG.out
        replace bw : Below w.heap.size w w16 := below_next bw hb16
        replace HC := HC.call hb16
        replace HY := HY.call hb16
        replace HP := HP.call hb16
        replace Hc := Hc.call hb16
        replace Hs := Hs.call hb16
        have lw16 : w.heap.size ≤ w16.heap.size := bw.size
        clear hb16
        go_wp2_with fail
        refine (roots_any g HG0.out HGO.out _).mono ?_
        intro ee w17 hp
        obtain ⟨rfl, hb17⟩ := hp.sure HQ.out
        replace bw : Below w.heap.size w w17 := below_next bw hb17
        replace HC := HC.call hb17
        replace HY := HY.call hb17
        replace HP := HP.call hb17
        replace Hc := Hc.call hb17
        replace Hs := Hs.call hb17
        have lw17 : w.heap.size ≤ w17.heap.size := bw.size
        clear hb17
        have y0 := HY.cell (u * 4)
        have y1 := HY.cell (u * 4 + 1)
        have y2 := HY.cell (u * 4 + 2)
        have y3 := HY.cell (u * 4 + 3)
        rw [byArr_get _ _ (by omega)] at y0 y1 y2 y3
        have hfY := HY.free
        obtain ⟨hcs, hfs⟩ := Hs.facts
        obtain ⟨hcP, hfP⟩ := HP.facts
        obtain ⟨hcc, hfc⟩ := Hc.facts
        go_wp2_with fail
        have PC := HC
        have PY := HY
        have PP := HP
        have Pc := Hc
        have Ps := Hs
        have Pbw := bw
        replace HC : Hd ((w17.setCell ⟨gc, 0, none⟩ (.int .i64 (En.tabC (j + 1)).lo)).setCell ⟨gc, 1, none⟩ (.int .i64 (En.tabC (j + 1)).hi)) w.heap.size 25 #[.int .i64 0, .int .i64 0, .int .i64 0, .int .i64 0] := hdx
        replace HY : Hd ((w17.setCell ⟨gc, 0, none⟩ (.int .i64 (En.tabC (j + 1)).lo)).setCell ⟨gc, 1, none⟩ (.int .i64 (En.tabC (j + 1)).hi)) (w.heap.size + 1) 107 (byArr (u + 1)) := hdx
        replace HP : Hd ((w17.setCell ⟨gc, 0, none⟩ (.int .i64 (En.tabC (j + 1)).lo)).setCell ⟨gc, 1, none⟩ (.int .i64 (En.tabC (j + 1)).hi)) w1.heap.size 23 #[.int .i64 1073741824, .int .i64 1073741824] := hdx
        replace Hc : Hd ((w17.setCell ⟨gc, 0, none⟩ (.int .i64 (En.tabC (j + 1)).lo)).setCell ⟨gc, 1, none⟩ (.int .i64 (En.tabC (j + 1)).hi)) gc 23 #[.int .i64 (En.tabC (j + 1)).lo, .int .i64 (En.tabC (j + 1)).hi] := hdx
        replace Hs : Hd ((w17.setCell ⟨gc, 0, none⟩ (.int .i64 (En.tabC (j + 1)).lo)).setCell ⟨gc, 1, none⟩ (.int .i64 (En.tabC (j + 1)).hi)) gs 23 #[.int .i64 (En.tabS (j + 1)).lo, .int .i64 (En.tabS (j + 1)).hi] := hdx
        replace bw : Below w.heap.size w ((w17.setCell ⟨gc, 0, none⟩ (.int .i64 (En.tabC (j + 1)).lo)).setCell ⟨gc, 1, none⟩ (.int .i64 (En.tabC (j + 1)).hi)) := by go_grown
        generalize hW : (w17.setCell ⟨gc, 0, none⟩ (.int .i64 (En.tabC (j + 1)).lo)).setCell ⟨gc, 1, none⟩ (.int .i64 (En.tabC (j + 1)).hi) = w18 at HC HY HP Hc Hs bw ⊢
        clear hW
        have lw18 : w.heap.size ≤ w18.heap.size := bw.size
        have PC := HC
        have PY := HY
        have PP := HP
        have Pc := Hc
        have Ps := Hs
        have Pbw := bw
        replace HC : Hd ((((w18.setCell ⟨(w.heap.size + 1), u * 4, none⟩ (.int .i64 (En.tabC (j + 1)).lo)).setCell ⟨(w.heap.size + 1), u * 4 + 1, none⟩ (.int .i64 (En.tabC (j + 1)).hi)).setCell ⟨(w.heap.size + 1), u * 4 + 2, none⟩ (.int .i64 (En.tabS (j + 1)).lo)).setCell ⟨(w.heap.size + 1), u * 4 + 3, none⟩ (.int .i64 (En.tabS (j + 1)).hi)) w.heap.size 25 #[.int .i64 0, .int .i64 0, .int .i64 0, .int .i64 0] := hdx
        replace HP : Hd ((((w18.setCell ⟨(w.heap.size + 1), u * 4, none⟩ (.int .i64 (En.tabC (j + 1)).lo)).setCell ⟨(w.heap.size + 1), u * 4 + 1, none⟩ (.int .i64 (En.tabC (j + 1)).hi)).setCell ⟨(w.heap.size + 1), u * 4 + 2, none⟩ (.int .i64 (En.tabS (j + 1)).lo)).setCell ⟨(w.heap.size + 1), u * 4 + 3, none⟩ (.int .i64 (En.tabS (j + 1)).hi)) w1.heap.size 23 #[.int .i64 1073741824, .int .i64 1073741824] := hdx
        replace Hc : Hd ((((w18.setCell ⟨(w.heap.size + 1), u * 4, none⟩ (.int .i64 (En.tabC (j + 1)).lo)).setCell ⟨(w.heap.size + 1), u * 4 + 1, none⟩ (.int .i64 (En.tabC (j + 1)).hi)).setCell ⟨(w.heap.size + 1), u * 4 + 2, none⟩ (.int .i64 (En.tabS (j + 1)).lo)).setCell ⟨(w.heap.size + 1), u * 4 + 3, none⟩ (.int .i64 (En.tabS (j + 1)).hi)) gc 23 #[.int .i64 (En.tabC (j + 1)).lo, .int .i64 (En.tabC (j + 1)).hi] := hdx
        replace Hs : Hd ((((w18.setCell ⟨(w.heap.size + 1), u * 4, none⟩ (.int .i64 (En.tabC (j + 1)).lo)).setCell ⟨(w.heap.size + 1), u * 4 + 1, none⟩ (.int .i64 (En.tabC (j + 1)).hi)).setCell ⟨(w.heap.size + 1), u * 4 + 2, none⟩ (.int .i64 (En.tabS (j + 1)).lo)).setCell ⟨(w.heap.size + 1), u * 4 + 3, none⟩ (.int .i64 (En.tabS (j + 1)).hi)) gs 23 #[.int .i64 (En.tabS (j + 1)).lo, .int .i64 (En.tabS (j + 1)).hi] := hdx
        have htj := HT.out
        have hbr : En.bitRc u = ⟨En.tabC (j + 1), En.tabS (j + 1)⟩ := by unfold En.bitRc; rw [if_neg (by omega), show 8 - u = j + 1 by omega]
        clear htj
        have hput := byArr_put u (by omega)
        rw [hbr, Nat.mul_comm 4 u] at hput
        replace HY : Hd ((((w18.setCell ⟨(w.heap.size + 1), u * 4, none⟩ (.int .i64 (En.tabC (j + 1)).lo)).setCell ⟨(w.heap.size + 1), u * 4 + 1, none⟩ (.int .i64 (En.tabC (j + 1)).hi)).setCell ⟨(w.heap.size + 1), u * 4 + 2, none⟩ (.int .i64 (En.tabS (j + 1)).lo)).setCell ⟨(w.heap.size + 1), u * 4 + 3, none⟩ (.int .i64 (En.tabS (j + 1)).hi)) (w.heap.size + 1) 107 (byArr u) := by
          rw [← hput]
          exact (((PY.set _ _).set _ _).set _ _).set _ _
        replace bw : Below w.heap.size w ((((w18.setCell ⟨(w.heap.size + 1), u * 4, none⟩ (.int .i64 (En.tabC (j + 1)).lo)).setCell ⟨(w.heap.size + 1), u * 4 + 1, none⟩ (.int .i64 (En.tabC (j + 1)).hi)).setCell ⟨(w.heap.size + 1), u * 4 + 2, none⟩ (.int .i64 (En.tabS (j + 1)).lo)).setCell ⟨(w.heap.size + 1), u * 4 + 3, none⟩ (.int .i64 (En.tabS (j + 1)).hi)) := by go_grown
        refine ⟨⟨u, j + 1, (u : Int) - 1, (by have := HT.out; omega), by omega, rfl, HC, HY, HP, Hc, Hs, bw⟩, ?_⟩
        simp [intOf]
  case first =>
    have ltCP : w.heap.size < w1.heap.size := HC.lt
    have ltYP : (w.heap.size + 1) < w1.heap.size := HY.lt
    replace HC : Hd ((w1.alloc (.cells #[.int .i64 1073741824, .int .i64 1073741824] 23)).drew) w.heap.size 25 #[.int .i64 0, .int .i64 0, .int .i64 0, .int .i64 0] := hdx
    replace HY : Hd ((w1.alloc (.cells #[.int .i64 1073741824, .int .i64 1073741824] 23)).drew) (w.heap.size + 1) 107 (byArr 10) := hdx
    replace bw : Below w.heap.size w ((w1.alloc (.cells #[.int .i64 1073741824, .int .i64 1073741824] 23)).drew) := by go_grown
    have HP : Hd ((w1.alloc (.cells #[.int .i64 1073741824, .int .i64 1073741824] 23)).drew) w1.heap.size 23 #[.int .i64 1073741824, .int .i64 1073741824] := hdx
    refine wp_region_tr (fun w' => Hd w' w1.heap.size 23 #[.int .i64 1073741824, .int .i64 1073741824] ∧ Below w.heap.size w w') (by kernel_rfl) ?_
    generalize hW : (w1.alloc (.cells #[.int .i64 1073741824, .int .i64 1073741824] 23)).drew = w2 at HC HY HP bw ⊢
    clear hW
    have lw2 : w.heap.size ≤ w2.heap.size := bw.size
    (refine tr_soft (i := 2) (v := ?_) rfl rfl (by kernel_rfl) (fun c d v a w h => by cases d <;> exact h) (fun w' hw' => ?_) ⟨HP, bw⟩ ?_; rotate_left 1; (focus (obtain ⟨hP, hBw⟩ := hw'; obtain ⟨hcP, hfP⟩ := hP.facts; go_simp; (try with_reducible rfl); done)); simp only [Act.put, Act.eval, qs])
    refine tr_hard3 (i := 0) (j := 3) (l := 4) (by kernel_rfl) rfl rfl rfl ?_ ?_ ?_
    · go_wp2_with fail
      refine (point00 _).mono ?_
      rintro e w3 ⟨rfl, hb3⟩
      replace bw : Below w.heap.size w w3 := below_next bw hb3
      replace HC := HC.call hb3
      replace HY := HY.call hb3
      replace HP := HP.call hb3
      have lw3 : w.heap.size ≤ w3.heap.size := bw.size
      clear hb3
      go_wp2_with fail
      (try refine ⟨⟨HP, bw⟩, ?_⟩)
      skip
      (refine tr_soft (i := 1) (v := ?_) rfl rfl (by kernel_rfl) (fun c d v a w h => by cases d <;> exact h) (fun w' hw' => ?_) ⟨HP, bw⟩ ?_; rotate_left 1; (focus (obtain ⟨hP, hBw⟩ := hw'; obtain ⟨hcP, hfP⟩ := hP.facts; go_simp; (try with_reducible rfl); done)); simp only [Act.put, Act.eval, qs])
      refine tr_hard2 (i := 3) (j := 4) (by kernel_rfl) rfl rfl ?_ ?_
      · go_wp2_with fail
        have PC := HC
        have PY := HY
        have PP := HP
        have Pbw := bw
        have ltCc : w.heap.size < w3.heap.size := by (have := HC.lt; (try simp only [World.size_alloc, World.size_setCell, World.size_drew] at this); omega)
        have ltYc : (w.heap.size + 1) < w3.heap.size := by (have := HY.lt; (try simp only [World.size_alloc, World.size_setCell, World.size_drew] at this); omega)
        have ltPc : w1.heap.size < w3.heap.size := by (have := HP.lt; (try simp only [World.size_alloc, World.size_setCell, World.size_drew] at this); omega)
        replace HC : Hd (w3.alloc (.cells #[.int .i64 0, .int .i64 0] 23)) w.heap.size 25 #[.int .i64 0, .int .i64 0, .int .i64 0, .int .i64 0] := hdx
        replace HY : Hd (w3.alloc (.cells #[.int .i64 0, .int .i64 0] 23)) (w.heap.size + 1) 107 (byArr 10) := hdx
        replace HP : Hd (w3.alloc (.cells #[.int .i64 0, .int .i64 0] 23)) w1.heap.size 23 #[.int .i64 1073741824, .int .i64 1073741824] := hdx
        replace bw : Below w.heap.size w (w3.alloc (.cells #[.int .i64 0, .int .i64 0] 23)) := by go_grown
        have Hc : Hd (w3.alloc (.cells #[.int .i64 0, .int .i64 0] 23)) w3.heap.size 23 #[.int .i64 0, .int .i64 0] := hdx
        (try refine ⟨⟨HP, bw⟩, ?_⟩)
        skip
        refine tr_hard1 (i := 4) (by kernel_rfl) rfl ?_
        go_wp2_with fail
        have ltCs : w.heap.size < (w3.heap.size + 1) := by (have := HC.lt; (try simp only [World.size_alloc, World.size_setCell, World.size_drew] at this); omega)
        have ltYs : (w.heap.size + 1) < (w3.heap.size + 1) := by (have := HY.lt; (try simp only [World.size_alloc, World.size_setCell, World.size_drew] at this); omega)
        have ltPs : w1.heap.size < (w3.heap.size + 1) := by (have := HP.lt; (try simp only [World.size_alloc, World.size_setCell, World.size_drew] at this); omega)
        have ltcs : w3.heap.size < (w3.heap.size + 1) := by (have := Hc.lt; (try simp only [World.size_alloc, World.size_setCell, World.size_drew] at this); omega)
        replace HC : Hd ((w3.alloc (.cells #[.int .i64 0, .int .i64 0] 23)).alloc (.cells #[.int .i64 0, .int .i64 0] 23)) w.heap.size 25 #[.int .i64 0, .int .i64 0, .int .i64 0, .int .i64 0] := hdx
        replace HY : Hd ((w3.alloc (.cells #[.int .i64 0, .int .i64 0] 23)).alloc (.cells #[.int .i64 0, .int .i64 0] 23)) (w.heap.size + 1) 107 (byArr 10) := hdx
        replace HP : Hd ((w3.alloc (.cells #[.int .i64 0, .int .i64 0] 23)).alloc (.cells #[.int .i64 0, .int .i64 0] 23)) w1.heap.size 23 #[.int .i64 1073741824, .int .i64 1073741824] := hdx
        replace Hc : Hd ((w3.alloc (.cells #[.int .i64 0, .int .i64 0] 23)).alloc (.cells #[.int .i64 0, .int .i64 0] 23)) w3.heap.size 23 #[.int .i64 0, .int .i64 0] := hdx
        replace bw : Below w.heap.size w ((w3.alloc (.cells #[.int .i64 0, .int .i64 0] 23)).alloc (.cells #[.int .i64 0, .int .i64 0] 23)) := by go_grown
        have Hs : Hd ((w3.alloc (.cells #[.int .i64 0, .int .i64 0] 23)).alloc (.cells #[.int .i64 0, .int .i64 0] 23)) (w3.heap.size + 1) 23 #[.int .i64 0, .int .i64 0] := hdx
        (try refine ⟨⟨HP, bw⟩, ?_⟩)
        skip
        refine tr_hard1 (i := 5) (by kernel_rfl) rfl ?_
        obtain ⟨hcc, hfc⟩ := Hc.facts
        go_wp2_with fail
        replace HC : Hd ((w3.alloc (.cells #[.int .i64 0, .int .i64 0] 23)).alloc (.cells #[.int .i64 0, .int .i64 0] 23)) w.heap.size 25 #[.int .i64 0, .int .i64 0, .int .i64 0, .int .i64 0] := hdx
        replace HY : Hd ((w3.alloc (.cells #[.int .i64 0, .int .i64 0] 23)).alloc (.cells #[.int .i64 0, .int .i64 0] 23)) (w.heap.size + 1) 107 (byArr 10) := hdx
        replace HP : Hd ((w3.alloc (.cells #[.int .i64 0, .int .i64 0] 23)).alloc (.cells #[.int .i64 0, .int .i64 0] 23)) w1.heap.size 23 #[.int .i64 1073741824, .int .i64 1073741824] := hdx
        replace Hc : Hd ((w3.alloc (.cells #[.int .i64 0, .int .i64 0] 23)).alloc (.cells #[.int .i64 0, .int .i64 0] 23)) w3.heap.size 23 #[.int .i64 0, .int .i64 0] := hdx
        replace Hs : Hd ((w3.alloc (.cells #[.int .i64 0, .int .i64 0] 23)).alloc (.cells #[.int .i64 0, .int .i64 0] 23)) (w3.heap.size + 1) 23 #[.int .i64 0, .int .i64 0] := hdx
        replace bw : Below w.heap.size w ((w3.alloc (.cells #[.int .i64 0, .int .i64 0] 23)).alloc (.cells #[.int .i64 0, .int .i64 0] 23)) := by go_grown
        (try refine ⟨⟨HP, bw⟩, ?_⟩)
        skip
        refine tr_hard1 (i := 6) (by kernel_rfl) rfl ?_
        obtain ⟨hcs, hfs⟩ := Hs.facts
        go_wp2_with fail
        replace HC : Hd ((w3.alloc (.cells #[.int .i64 0, .int .i64 0] 23)).alloc (.cells #[.int .i64 1073741824, .int .i64 1073741824] 23)) w.heap.size 25 #[.int .i64 0, .int .i64 0, .int .i64 0, .int .i64 0] := hdx
        replace HY : Hd ((w3.alloc (.cells #[.int .i64 0, .int .i64 0] 23)).alloc (.cells #[.int .i64 1073741824, .int .i64 1073741824] 23)) (w.heap.size + 1) 107 (byArr 10) := hdx
        replace HP : Hd ((w3.alloc (.cells #[.int .i64 0, .int .i64 0] 23)).alloc (.cells #[.int .i64 1073741824, .int .i64 1073741824] 23)) w1.heap.size 23 #[.int .i64 1073741824, .int .i64 1073741824] := hdx
        replace Hc : Hd ((w3.alloc (.cells #[.int .i64 0, .int .i64 0] 23)).alloc (.cells #[.int .i64 1073741824, .int .i64 1073741824] 23)) w3.heap.size 23 #[.int .i64 0, .int .i64 0] := hdx
        replace Hs : Hd ((w3.alloc (.cells #[.int .i64 0, .int .i64 0] 23)).alloc (.cells #[.int .i64 1073741824, .int .i64 1073741824] 23)) (w3.heap.size + 1) 23 #[.int .i64 1073741824, .int .i64 1073741824] := hdx
        replace bw : Below w.heap.size w ((w3.alloc (.cells #[.int .i64 0, .int .i64 0] 23)).alloc (.cells #[.int .i64 1073741824, .int .i64 1073741824] 23)) := by go_grown
        (try refine ⟨⟨HP, bw⟩, ?_⟩)
        skip
        refine tr_nil (by kernel_rfl) ?_
        go_wp2_with fail
        go_meet
        exact ⟨w3.heap.size, (w3.heap.size + 1), rfl, rfl, by omega, by omega, by omega, by omega, by omega, HC, HY, HP, Hc, Hs, bw⟩
      · go_wp2_with fail
        have PC := HC
        have PY := HY
        have PP := HP
        have Pbw := bw
        have ltCs : w.heap.size < w3.heap.size := by (have := HC.lt; (try simp only [World.size_alloc, World.size_setCell, World.size_drew] at this); omega)
        have ltYs : (w.heap.size + 1) < w3.heap.size := by (have := HY.lt; (try simp only [World.size_alloc, World.size_setCell, World.size_drew] at this); omega)
        have ltPs : w1.heap.size < w3.heap.size := by (have := HP.lt; (try simp only [World.size_alloc, World.size_setCell, World.size_drew] at this); omega)
        replace HC : Hd (w3.alloc (.cells #[.int .i64 0, .int .i64 0] 23)) w.heap.size 25 #[.int .i64 0, .int .i64 0, .int .i64 0, .int .i64 0] := hdx
        replace HY : Hd (w3.alloc (.cells #[.int .i64 0, .int .i64 0] 23)) (w.heap.size + 1) 107 (byArr 10) := hdx
        replace HP : Hd (w3.alloc (.cells #[.int .i64 0, .int .i64 0] 23)) w1.heap.size 23 #[.int .i64 1073741824, .int .i64 1073741824] := hdx
        replace bw : Below w.heap.size w (w3.alloc (.cells #[.int .i64 0, .int .i64 0] 23)) := by go_grown
        have Hs : Hd (w3.alloc (.cells #[.int .i64 0, .int .i64 0] 23)) w3.heap.size 23 #[.int .i64 0, .int .i64 0] := hdx
        (try refine ⟨⟨HP, bw⟩, ?_⟩)
        skip
        refine tr_hard1 (i := 3) (by kernel_rfl) rfl ?_
        go_wp2_with fail
        have ltCc : w.heap.size < (w3.heap.size + 1) := by (have := HC.lt; (try simp only [World.size_alloc, World.size_setCell, World.size_drew] at this); omega)
        have ltYc : (w.heap.size + 1) < (w3.heap.size + 1) := by (have := HY.lt; (try simp only [World.size_alloc, World.size_setCell, World.size_drew] at this); omega)
        have ltPc : w1.heap.size < (w3.heap.size + 1) := by (have := HP.lt; (try simp only [World.size_alloc, World.size_setCell, World.size_drew] at this); omega)
        have ltsc : w3.heap.size < (w3.heap.size + 1) := by (have := Hs.lt; (try simp only [World.size_alloc, World.size_setCell, World.size_drew] at this); omega)
        replace HC : Hd ((w3.alloc (.cells #[.int .i64 0, .int .i64 0] 23)).alloc (.cells #[.int .i64 0, .int .i64 0] 23)) w.heap.size 25 #[.int .i64 0, .int .i64 0, .int .i64 0, .int .i64 0] := hdx
        replace HY : Hd ((w3.alloc (.cells #[.int .i64 0, .int .i64 0] 23)).alloc (.cells #[.int .i64 0, .int .i64 0] 23)) (w.heap.size + 1) 107 (byArr 10) := hdx
        replace HP : Hd ((w3.alloc (.cells #[.int .i64 0, .int .i64 0] 23)).alloc (.cells #[.int .i64 0, .int .i64 0] 23)) w1.heap.size 23 #[.int .i64 1073741824, .int .i64 1073741824] := hdx
        replace Hs : Hd ((w3.alloc (.cells #[.int .i64 0, .int .i64 0] 23)).alloc (.cells #[.int .i64 0, .int .i64 0] 23)) w3.heap.size 23 #[.int .i64 0, .int .i64 0] := hdx
        replace bw : Below w.heap.size w ((w3.alloc (.cells #[.int .i64 0, .int .i64 0] 23)).alloc (.cells #[.int .i64 0, .int .i64 0] 23)) := by go_grown
        have Hc : Hd ((w3.alloc (.cells #[.int .i64 0, .int .i64 0] 23)).alloc (.cells #[.int .i64 0, .int .i64 0] 23)) (w3.heap.size + 1) 23 #[.int .i64 0, .int .i64 0] := hdx
        (try refine ⟨⟨HP, bw⟩, ?_⟩)
        skip
        refine tr_hard1 (i := 5) (by kernel_rfl) rfl ?_
        obtain ⟨hcc, hfc⟩ := Hc.facts
        go_wp2_with fail
        replace HC : Hd ((w3.alloc (.cells #[.int .i64 0, .int .i64 0] 23)).alloc (.cells #[.int .i64 0, .int .i64 0] 23)) w.heap.size 25 #[.int .i64 0, .int .i64 0, .int .i64 0, .int .i64 0] := hdx
        replace HY : Hd ((w3.alloc (.cells #[.int .i64 0, .int .i64 0] 23)).alloc (.cells #[.int .i64 0, .int .i64 0] 23)) (w.heap.size + 1) 107 (byArr 10) := hdx
        replace HP : Hd ((w3.alloc (.cells #[.int .i64 0, .int .i64 0] 23)).alloc (.cells #[.int .i64 0, .int .i64 0] 23)) w1.heap.size 23 #[.int .i64 1073741824, .int .i64 1073741824] := hdx
        replace Hs : Hd ((w3.alloc (.cells #[.int .i64 0, .int .i64 0] 23)).alloc (.cells #[.int .i64 0, .int .i64 0] 23)) w3.heap.size 23 #[.int .i64 0, .int .i64 0] := hdx
        replace Hc : Hd ((w3.alloc (.cells #[.int .i64 0, .int .i64 0] 23)).alloc (.cells #[.int .i64 0, .int .i64 0] 23)) (w3.heap.size + 1) 23 #[.int .i64 0, .int .i64 0] := hdx
        replace bw : Below w.heap.size w ((w3.alloc (.cells #[.int .i64 0, .int .i64 0] 23)).alloc (.cells #[.int .i64 0, .int .i64 0] 23)) := by go_grown
        (try refine ⟨⟨HP, bw⟩, ?_⟩)
        skip
        refine tr_hard1 (i := 6) (by kernel_rfl) rfl ?_
        obtain ⟨hcs, hfs⟩ := Hs.facts
        go_wp2_with fail
        replace HC : Hd ((w3.alloc (.cells #[.int .i64 1073741824, .int .i64 1073741824] 23)).alloc (.cells #[.int .i64 0, .int .i64 0] 23)) w.heap.size 25 #[.int .i64 0, .int .i64 0, .int .i64 0, .int .i64 0] := hdx
        replace HY : Hd ((w3.alloc (.cells #[.int .i64 1073741824, .int .i64 1073741824] 23)).alloc (.cells #[.int .i64 0, .int .i64 0] 23)) (w.heap.size + 1) 107 (byArr 10) := hdx
        replace HP : Hd ((w3.alloc (.cells #[.int .i64 1073741824, .int .i64 1073741824] 23)).alloc (.cells #[.int .i64 0, .int .i64 0] 23)) w1.heap.size 23 #[.int .i64 1073741824, .int .i64 1073741824] := hdx
        replace Hs : Hd ((w3.alloc (.cells #[.int .i64 1073741824, .int .i64 1073741824] 23)).alloc (.cells #[.int .i64 0, .int .i64 0] 23)) w3.heap.size 23 #[.int .i64 1073741824, .int .i64 1073741824] := hdx
        replace Hc : Hd ((w3.alloc (.cells #[.int .i64 1073741824, .int .i64 1073741824] 23)).alloc (.cells #[.int .i64 0, .int .i64 0] 23)) (w3.heap.size + 1) 23 #[.int .i64 0, .int .i64 0] := hdx
        replace bw : Below w.heap.size w ((w3.alloc (.cells #[.int .i64 1073741824, .int .i64 1073741824] 23)).alloc (.cells #[.int .i64 0, .int .i64 0] 23)) := by go_grown
        (try refine ⟨⟨HP, bw⟩, ?_⟩)
        skip
        refine tr_nil (by kernel_rfl) ?_
        go_wp2_with fail
        go_meet
        exact ⟨(w3.heap.size + 1), w3.heap.size, rfl, rfl, by omega, by omega, by omega, by omega, by omega, HC, HY, HP, Hc, Hs, bw⟩
    · go_wp2_with fail
      have PC := HC
      have PY := HY
      have PP := HP
      have Pbw := bw
      have ltCc : w.heap.size < w2.heap.size := by (have := HC.lt; (try simp only [World.size_alloc, World.size_setCell, World.size_drew] at this); omega)
      have ltYc : (w.heap.size + 1) < w2.heap.size := by (have := HY.lt; (try simp only [World.size_alloc, World.size_setCell, World.size_drew] at this); omega)
      have ltPc : w1.heap.size < w2.heap.size := by (have := HP.lt; (try simp only [World.size_alloc, World.size_setCell, World.size_drew] at this); omega)
      replace HC : Hd (w2.alloc (.cells #[.int .i64 0, .int .i64 0] 23)) w.heap.size 25 #[.int .i64 0, .int .i64 0, .int .i64 0, .int .i64 0] := hdx
      replace HY : Hd (w2.alloc (.cells #[.int .i64 0, .int .i64 0] 23)) (w.heap.size + 1) 107 (byArr 10) := hdx
      replace HP : Hd (w2.alloc (.cells #[.int .i64 0, .int .i64 0] 23)) w1.heap.size 23 #[.int .i64 1073741824, .int .i64 1073741824] := hdx
      replace bw : Below w.heap.size w (w2.alloc (.cells #[.int .i64 0, .int .i64 0] 23)) := by go_grown
      have Hc : Hd (w2.alloc (.cells #[.int .i64 0, .int .i64 0] 23)) w2.heap.size 23 #[.int .i64 0, .int .i64 0] := hdx
      (try refine ⟨⟨HP, bw⟩, ?_⟩)
      skip
      refine tr_hard2 (i := 0) (j := 4) (by kernel_rfl) rfl rfl ?_ ?_
      · go_wp2_with fail
        refine (point00 _).mono ?_
        rintro e w3 ⟨rfl, hb3⟩
        replace bw : Below w.heap.size w w3 := below_next bw hb3
        replace HC := HC.call hb3
        replace HY := HY.call hb3
        replace HP := HP.call hb3
        replace Hc := Hc.call hb3
        have lw3 : w.heap.size ≤ w3.heap.size := bw.size
        clear hb3
        go_wp2_with fail
        (try refine ⟨⟨HP, bw⟩, ?_⟩)
        skip
        (refine tr_soft (i := 1) (v := ?_) rfl rfl (by kernel_rfl) (fun c d v a w h => by cases d <;> exact h) (fun w' hw' => ?_) ⟨HP, bw⟩ ?_; rotate_left 1; (focus (obtain ⟨hP, hBw⟩ := hw'; obtain ⟨hcP, hfP⟩ := hP.facts; go_simp; (try with_reducible rfl); done)); simp only [Act.put, Act.eval, qs])
        refine tr_hard1 (i := 4) (by kernel_rfl) rfl ?_
        go_wp2_with fail
        have PC := HC
        have PY := HY
        have PP := HP
        have Pc := Hc
        have Pbw := bw
        have ltCs : w.heap.size < w3.heap.size := by (have := HC.lt; (try simp only [World.size_alloc, World.size_setCell, World.size_drew] at this); omega)
        have ltYs : (w.heap.size + 1) < w3.heap.size := by (have := HY.lt; (try simp only [World.size_alloc, World.size_setCell, World.size_drew] at this); omega)
        have ltPs : w1.heap.size < w3.heap.size := by (have := HP.lt; (try simp only [World.size_alloc, World.size_setCell, World.size_drew] at this); omega)
        have ltcs : w2.heap.size < w3.heap.size := by (have := Hc.lt; (try simp only [World.size_alloc, World.size_setCell, World.size_drew] at this); omega)
        replace HC : Hd (w3.alloc (.cells #[.int .i64 0, .int .i64 0] 23)) w.heap.size 25 #[.int .i64 0, .int .i64 0, .int .i64 0, .int .i64 0] := hdx
        replace HY : Hd (w3.alloc (.cells #[.int .i64 0, .int .i64 0] 23)) (w.heap.size + 1) 107 (byArr 10) := hdx
        replace HP : Hd (w3.alloc (.cells #[.int .i64 0, .int .i64 0] 23)) w1.heap.size 23 #[.int .i64 1073741824, .int .i64 1073741824] := hdx
        replace Hc : Hd (w3.alloc (.cells #[.int .i64 0, .int .i64 0] 23)) w2.heap.size 23 #[.int .i64 0, .int .i64 0] := hdx
        replace bw : Below w.heap.size w (w3.alloc (.cells #[.int .i64 0, .int .i64 0] 23)) := by go_grown
        have Hs : Hd (w3.alloc (.cells #[.int .i64 0, .int .i64 0] 23)) w3.heap.size 23 #[.int .i64 0, .int .i64 0] := hdx
        (try refine ⟨⟨HP, bw⟩, ?_⟩)
        skip
        refine tr_hard1 (i := 5) (by kernel_rfl) rfl ?_
        obtain ⟨hcc, hfc⟩ := Pc.facts
        go_wp2_with fail
        replace HC : Hd (((w3.setCell ⟨w2.heap.size, 0, none⟩ (.int .i64 0)).setCell ⟨w2.heap.size, 1, none⟩ (.int .i64 0)).alloc (.cells #[.int .i64 0, .int .i64 0] 23)) w.heap.size 25 #[.int .i64 0, .int .i64 0, .int .i64 0, .int .i64 0] := hdx
        replace HY : Hd (((w3.setCell ⟨w2.heap.size, 0, none⟩ (.int .i64 0)).setCell ⟨w2.heap.size, 1, none⟩ (.int .i64 0)).alloc (.cells #[.int .i64 0, .int .i64 0] 23)) (w.heap.size + 1) 107 (byArr 10) := hdx
        replace HP : Hd (((w3.setCell ⟨w2.heap.size, 0, none⟩ (.int .i64 0)).setCell ⟨w2.heap.size, 1, none⟩ (.int .i64 0)).alloc (.cells #[.int .i64 0, .int .i64 0] 23)) w1.heap.size 23 #[.int .i64 1073741824, .int .i64 1073741824] := hdx
        replace Hc : Hd (((w3.setCell ⟨w2.heap.size, 0, none⟩ (.int .i64 0)).setCell ⟨w2.heap.size, 1, none⟩ (.int .i64 0)).alloc (.cells #[.int .i64 0, .int .i64 0] 23)) w2.heap.size 23 #[.int .i64 0, .int .i64 0] := hdx
        replace Hs : Hd (((w3.setCell ⟨w2.heap.size, 0, none⟩ (.int .i64 0)).setCell ⟨w2.heap.size, 1, none⟩ (.int .i64 0)).alloc (.cells #[.int .i64 0, .int .i64 0] 23)) w3.heap.size 23 #[.int .i64 0, .int .i64 0] := hdx
        replace bw : Below w.heap.size w (((w3.setCell ⟨w2.heap.size, 0, none⟩ (.int .i64 0)).setCell ⟨w2.heap.size, 1, none⟩ (.int .i64 0)).alloc (.cells #[.int .i64 0, .int .i64 0] 23)) := by go_grown
        (try refine ⟨⟨HP, bw⟩, ?_⟩)
        skip
        refine tr_hard1 (i := 6) (by kernel_rfl) rfl ?_
        obtain ⟨hcs, hfs⟩ := Hs.facts
        go_wp2_with fail
        replace HC : Hd (((w3.setCell ⟨w2.heap.size, 0, none⟩ (.int .i64 0)).setCell ⟨w2.heap.size, 1, none⟩ (.int .i64 0)).alloc (.cells #[.int .i64 1073741824, .int .i64 1073741824] 23)) w.heap.size 25 #[.int .i64 0, .int .i64 0, .int .i64 0, .int .i64 0] := hdx
        replace HY : Hd (((w3.setCell ⟨w2.heap.size, 0, none⟩ (.int .i64 0)).setCell ⟨w2.heap.size, 1, none⟩ (.int .i64 0)).alloc (.cells #[.int .i64 1073741824, .int .i64 1073741824] 23)) (w.heap.size + 1) 107 (byArr 10) := hdx
        replace HP : Hd (((w3.setCell ⟨w2.heap.size, 0, none⟩ (.int .i64 0)).setCell ⟨w2.heap.size, 1, none⟩ (.int .i64 0)).alloc (.cells #[.int .i64 1073741824, .int .i64 1073741824] 23)) w1.heap.size 23 #[.int .i64 1073741824, .int .i64 1073741824] := hdx
        replace Hc : Hd (((w3.setCell ⟨w2.heap.size, 0, none⟩ (.int .i64 0)).setCell ⟨w2.heap.size, 1, none⟩ (.int .i64 0)).alloc (.cells #[.int .i64 1073741824, .int .i64 1073741824] 23)) w2.heap.size 23 #[.int .i64 0, .int .i64 0] := hdx
        replace Hs : Hd (((w3.setCell ⟨w2.heap.size, 0, none⟩ (.int .i64 0)).setCell ⟨w2.heap.size, 1, none⟩ (.int .i64 0)).alloc (.cells #[.int .i64 1073741824, .int .i64 1073741824] 23)) w3.heap.size 23 #[.int .i64 1073741824, .int .i64 1073741824] := hdx
        replace bw : Below w.heap.size w (((w3.setCell ⟨w2.heap.size, 0, none⟩ (.int .i64 0)).setCell ⟨w2.heap.size, 1, none⟩ (.int .i64 0)).alloc (.cells #[.int .i64 1073741824, .int .i64 1073741824] 23)) := by go_grown
        (try refine ⟨⟨HP, bw⟩, ?_⟩)
        skip
        refine tr_nil (by kernel_rfl) ?_
        go_wp2_with fail
        go_meet
        exact ⟨w2.heap.size, w3.heap.size, rfl, rfl, by omega, by omega, by omega, by omega, by omega, HC, HY, HP, Hc, Hs, bw⟩
      · go_wp2_with fail
        have ltCs : w.heap.size < (w2.heap.size + 1) := by (have := HC.lt; (try simp only [World.size_alloc, World.size_setCell, World.size_drew] at this); omega)
        have ltYs : (w.heap.size + 1) < (w2.heap.size + 1) := by (have := HY.lt; (try simp only [World.size_alloc, World.size_setCell, World.size_drew] at this); omega)
        have ltPs : w1.heap.size < (w2.heap.size + 1) := by (have := HP.lt; (try simp only [World.size_alloc, World.size_setCell, World.size_drew] at this); omega)
        have ltcs : w2.heap.size < (w2.heap.size + 1) := by (have := Hc.lt; (try simp only [World.size_alloc, World.size_setCell, World.size_drew] at this); omega)
        replace HC : Hd ((w2.alloc (.cells #[.int .i64 0, .int .i64 0] 23)).alloc (.cells #[.int .i64 0, .int .i64 0] 23)) w.heap.size 25 #[.int .i64 0, .int .i64 0, .int .i64 0, .int .i64 0] := hdx
        replace HY : Hd ((w2.alloc (.cells #[.int .i64 0, .int .i64 0] 23)).alloc (.cells #[.int .i64 0, .int .i64 0] 23)) (w.heap.size + 1) 107 (byArr 10) := hdx
        replace HP : Hd ((w2.alloc (.cells #[.int .i64 0, .int .i64 0] 23)).alloc (.cells #[.int .i64 0, .int .i64 0] 23)) w1.heap.size 23 #[.int .i64 1073741824, .int .i64 1073741824] := hdx
        replace Hc : Hd ((w2.alloc (.cells #[.int .i64 0, .int .i64 0] 23)).alloc (.cells #[.int .i64 0, .int .i64 0] 23)) w2.heap.size 23 #[.int .i64 0, .int .i64 0] := hdx
        replace bw : Below w.heap.size w ((w2.alloc (.cells #[.int .i64 0, .int .i64 0] 23)).alloc (.cells #[.int .i64 0, .int .i64 0] 23)) := by go_grown
        have Hs : Hd ((w2.alloc (.cells #[.int .i64 0, .int .i64 0] 23)).alloc (.cells #[.int .i64 0, .int .i64 0] 23)) (w2.heap.size + 1) 23 #[.int .i64 0, .int .i64 0] := hdx
        (try refine ⟨⟨HP, bw⟩, ?_⟩)
        skip
        refine tr_hard1 (i := 0) (by kernel_rfl) rfl ?_
        go_wp2_with fail
        refine (point00 _).mono ?_
        rintro e w3 ⟨rfl, hb3⟩
        replace bw : Below w.heap.size w w3 := below_next bw hb3
        replace HC := HC.call hb3
        replace HY := HY.call hb3
        replace HP := HP.call hb3
        replace Hc := Hc.call hb3
        replace Hs := Hs.call hb3
        have lw3 : w.heap.size ≤ w3.heap.size := bw.size
        clear hb3
        go_wp2_with fail
        (try refine ⟨⟨HP, bw⟩, ?_⟩)
        skip
        (refine tr_soft (i := 1) (v := ?_) rfl rfl (by kernel_rfl) (fun c d v a w h => by cases d <;> exact h) (fun w' hw' => ?_) ⟨HP, bw⟩ ?_; rotate_left 1; (focus (obtain ⟨hP, hBw⟩ := hw'; obtain ⟨hcP, hfP⟩ := hP.facts; go_simp; (try with_reducible rfl); done)); simp only [Act.put, Act.eval, qs])
        refine tr_hard1 (i := 5) (by kernel_rfl) rfl ?_
        obtain ⟨hcc, hfc⟩ := Hc.facts
        go_wp2_with fail
        have PC := HC
        have PY := HY
        have PP := HP
        have Pc := Hc
        have Ps := Hs
        have Pbw := bw
        replace HC : Hd ((w3.setCell ⟨w2.heap.size, 0, none⟩ (.int .i64 0)).setCell ⟨w2.heap.size, 1, none⟩ (.int .i64 0)) w.heap.size 25 #[.int .i64 0, .int .i64 0, .int .i64 0, .int .i64 0] := hdx
        replace HY : Hd ((w3.setCell ⟨w2.heap.size, 0, none⟩ (.int .i64 0)).setCell ⟨w2.heap.size, 1, none⟩ (.int .i64 0)) (w.heap.size + 1) 107 (byArr 10) := hdx
        replace HP : Hd ((w3.setCell ⟨w2.heap.size, 0, none⟩ (.int .i64 0)).setCell ⟨w2.heap.size, 1, none⟩ (.int .i64 0)) w1.heap.size 23 #[.int .i64 1073741824, .int .i64 1073741824] := hdx
        replace Hc : Hd ((w3.setCell ⟨w2.heap.size, 0, none⟩ (.int .i64 0)).setCell ⟨w2.heap.size, 1, none⟩ (.int .i64 0)) w2.heap.size 23 #[.int .i64 0, .int .i64 0] := hdx
        replace Hs : Hd ((w3.setCell ⟨w2.heap.size, 0, none⟩ (.int .i64 0)).setCell ⟨w2.heap.size, 1, none⟩ (.int .i64 0)) (w2.heap.size + 1) 23 #[.int .i64 0, .int .i64 0] := hdx
        replace bw : Below w.heap.size w ((w3.setCell ⟨w2.heap.size, 0, none⟩ (.int .i64 0)).setCell ⟨w2.heap.size, 1, none⟩ (.int .i64 0)) := by go_grown
        (try refine ⟨⟨HP, bw⟩, ?_⟩)
        skip
        refine tr_hard1 (i := 6) (by kernel_rfl) rfl ?_
        obtain ⟨hcs, hfs⟩ := Ps.facts
        go_wp2_with fail
        replace HC : Hd ((((w3.setCell ⟨w2.heap.size, 0, none⟩ (.int .i64 0)).setCell ⟨w2.heap.size, 1, none⟩ (.int .i64 0)).setCell ⟨(w2.heap.size + 1), 0, none⟩ (.int .i64 1073741824)).setCell ⟨(w2.heap.size + 1), 1, none⟩ (.int .i64 1073741824)) w.heap.size 25 #[.int .i64 0, .int .i64 0, .int .i64 0, .int .i64 0] := hdx
        replace HY : Hd ((((w3.setCell ⟨w2.heap.size, 0, none⟩ (.int .i64 0)).setCell ⟨w2.heap.size, 1, none⟩ (.int .i64 0)).setCell ⟨(w2.heap.size + 1), 0, none⟩ (.int .i64 1073741824)).setCell ⟨(w2.heap.size + 1), 1, none⟩ (.int .i64 1073741824)) (w.heap.size + 1) 107 (byArr 10) := hdx
        replace HP : Hd ((((w3.setCell ⟨w2.heap.size, 0, none⟩ (.int .i64 0)).setCell ⟨w2.heap.size, 1, none⟩ (.int .i64 0)).setCell ⟨(w2.heap.size + 1), 0, none⟩ (.int .i64 1073741824)).setCell ⟨(w2.heap.size + 1), 1, none⟩ (.int .i64 1073741824)) w1.heap.size 23 #[.int .i64 1073741824, .int .i64 1073741824] := hdx
        replace Hc : Hd ((((w3.setCell ⟨w2.heap.size, 0, none⟩ (.int .i64 0)).setCell ⟨w2.heap.size, 1, none⟩ (.int .i64 0)).setCell ⟨(w2.heap.size + 1), 0, none⟩ (.int .i64 1073741824)).setCell ⟨(w2.heap.size + 1), 1, none⟩ (.int .i64 1073741824)) w2.heap.size 23 #[.int .i64 0, .int .i64 0] := hdx
        replace Hs : Hd ((((w3.setCell ⟨w2.heap.size, 0, none⟩ (.int .i64 0)).setCell ⟨w2.heap.size, 1, none⟩ (.int .i64 0)).setCell ⟨(w2.heap.size + 1), 0, none⟩ (.int .i64 1073741824)).setCell ⟨(w2.heap.size + 1), 1, none⟩ (.int .i64 1073741824)) (w2.heap.size + 1) 23 #[.int .i64 1073741824, .int .i64 1073741824] := hdx
        replace bw : Below w.heap.size w ((((w3.setCell ⟨w2.heap.size, 0, none⟩ (.int .i64 0)).setCell ⟨w2.heap.size, 1, none⟩ (.int .i64 0)).setCell ⟨(w2.heap.size + 1), 0, none⟩ (.int .i64 1073741824)).setCell ⟨(w2.heap.size + 1), 1, none⟩ (.int .i64 1073741824)) := by go_grown
        (try refine ⟨⟨HP, bw⟩, ?_⟩)
        skip
        refine tr_nil (by kernel_rfl) ?_
        go_wp2_with fail
        go_meet
        exact ⟨w2.heap.size, (w2.heap.size + 1), rfl, rfl, by omega, by omega, by omega, by omega, by omega, HC, HY, HP, Hc, Hs, bw⟩
    · go_wp2_with fail
      have PC := HC
      have PY := HY
      have PP := HP
      have Pbw := bw
      have ltCs : w.heap.size < w2.heap.size := by (have := HC.lt; (try simp only [World.size_alloc, World.size_setCell, World.size_drew] at this); omega)
      have ltYs : (w.heap.size + 1) < w2.heap.size := by (have := HY.lt; (try simp only [World.size_alloc, World.size_setCell, World.size_drew] at this); omega)
      have ltPs : w1.heap.size < w2.heap.size := by (have := HP.lt; (try simp only [World.size_alloc, World.size_setCell, World.size_drew] at this); omega)
      replace HC : Hd (w2.alloc (.cells #[.int .i64 0, .int .i64 0] 23)) w.heap.size 25 #[.int .i64 0, .int .i64 0, .int .i64 0, .int .i64 0] := hdx
      replace HY : Hd (w2.alloc (.cells #[.int .i64 0, .int .i64 0] 23)) (w.heap.size + 1) 107 (byArr 10) := hdx
      replace HP : Hd (w2.alloc (.cells #[.int .i64 0, .int .i64 0] 23)) w1.heap.size 23 #[.int .i64 1073741824, .int .i64 1073741824] := hdx
      replace bw : Below w.heap.size w (w2.alloc (.cells #[.int .i64 0, .int .i64 0] 23)) := by go_grown
      have Hs : Hd (w2.alloc (.cells #[.int .i64 0, .int .i64 0] 23)) w2.heap.size 23 #[.int .i64 0, .int .i64 0] := hdx
      (try refine ⟨⟨HP, bw⟩, ?_⟩)
      skip
      refine tr_hard2 (i := 0) (j := 3) (by kernel_rfl) rfl rfl ?_ ?_
      · go_wp2_with fail
        refine (point00 _).mono ?_
        rintro e w3 ⟨rfl, hb3⟩
        replace bw : Below w.heap.size w w3 := below_next bw hb3
        replace HC := HC.call hb3
        replace HY := HY.call hb3
        replace HP := HP.call hb3
        replace Hs := Hs.call hb3
        have lw3 : w.heap.size ≤ w3.heap.size := bw.size
        clear hb3
        go_wp2_with fail
        (try refine ⟨⟨HP, bw⟩, ?_⟩)
        skip
        (refine tr_soft (i := 1) (v := ?_) rfl rfl (by kernel_rfl) (fun c d v a w h => by cases d <;> exact h) (fun w' hw' => ?_) ⟨HP, bw⟩ ?_; rotate_left 1; (focus (obtain ⟨hP, hBw⟩ := hw'; obtain ⟨hcP, hfP⟩ := hP.facts; go_simp; (try with_reducible rfl); done)); simp only [Act.put, Act.eval, qs])
        refine tr_hard1 (i := 3) (by kernel_rfl) rfl ?_
        go_wp2_with fail
        have PC := HC
        have PY := HY
        have PP := HP
        have Ps := Hs
        have Pbw := bw
        have ltCc : w.heap.size < w3.heap.size := by (have := HC.lt; (try simp only [World.size_alloc, World.size_setCell, World.size_drew] at this); omega)
        have ltYc : (w.heap.size + 1) < w3.heap.size := by (have := HY.lt; (try simp only [World.size_alloc, World.size_setCell, World.size_drew] at this); omega)
        have ltPc : w1.heap.size < w3.heap.size := by (have := HP.lt; (try simp only [World.size_alloc, World.size_setCell, World.size_drew] at this); omega)
        have ltsc : w2.heap.size < w3.heap.size := by (have := Hs.lt; (try simp only [World.size_alloc, World.size_setCell, World.size_drew] at this); omega)
        replace HC : Hd (w3.alloc (.cells #[.int .i64 0, .int .i64 0] 23)) w.heap.size 25 #[.int .i64 0, .int .i64 0, .int .i64 0, .int .i64 0] := hdx
        replace HY : Hd (w3.alloc (.cells #[.int .i64 0, .int .i64 0] 23)) (w.heap.size + 1) 107 (byArr 10) := hdx
        replace HP : Hd (w3.alloc (.cells #[.int .i64 0, .int .i64 0] 23)) w1.heap.size 23 #[.int .i64 1073741824, .int .i64 1073741824] := hdx
        replace Hs : Hd (w3.alloc (.cells #[.int .i64 0, .int .i64 0] 23)) w2.heap.size 23 #[.int .i64 0, .int .i64 0] := hdx
        replace bw : Below w.heap.size w (w3.alloc (.cells #[.int .i64 0, .int .i64 0] 23)) := by go_grown
        have Hc : Hd (w3.alloc (.cells #[.int .i64 0, .int .i64 0] 23)) w3.heap.size 23 #[.int .i64 0, .int .i64 0] := hdx
        (try refine ⟨⟨HP, bw⟩, ?_⟩)
        skip
        refine tr_hard1 (i := 5) (by kernel_rfl) rfl ?_
        obtain ⟨hcc, hfc⟩ := Hc.facts
        go_wp2_with fail
        replace HC : Hd (w3.alloc (.cells #[.int .i64 0, .int .i64 0] 23)) w.heap.size 25 #[.int .i64 0, .int .i64 0, .int .i64 0, .int .i64 0] := hdx
        replace HY : Hd (w3.alloc (.cells #[.int .i64 0, .int .i64 0] 23)) (w.heap.size + 1) 107 (byArr 10) := hdx
        replace HP : Hd (w3.alloc (.cells #[.int .i64 0, .int .i64 0] 23)) w1.heap.size 23 #[.int .i64 1073741824, .int .i64 1073741824] := hdx
        replace Hs : Hd (w3.alloc (.cells #[.int .i64 0, .int .i64 0] 23)) w2.heap.size 23 #[.int .i64 0, .int .i64 0] := hdx
        replace Hc : Hd (w3.alloc (.cells #[.int .i64 0, .int .i64 0] 23)) w3.heap.size 23 #[.int .i64 0, .int .i64 0] := hdx
        replace bw : Below w.heap.size w (w3.alloc (.cells #[.int .i64 0, .int .i64 0] 23)) := by go_grown
        (try refine ⟨⟨HP, bw⟩, ?_⟩)
        skip
        refine tr_hard1 (i := 6) (by kernel_rfl) rfl ?_
        obtain ⟨hcs, hfs⟩ := Ps.facts
        go_wp2_with fail
        replace HC : Hd (((w3.setCell ⟨w2.heap.size, 0, none⟩ (.int .i64 1073741824)).setCell ⟨w2.heap.size, 1, none⟩ (.int .i64 1073741824)).alloc (.cells #[.int .i64 0, .int .i64 0] 23)) w.heap.size 25 #[.int .i64 0, .int .i64 0, .int .i64 0, .int .i64 0] := hdx
        replace HY : Hd (((w3.setCell ⟨w2.heap.size, 0, none⟩ (.int .i64 1073741824)).setCell ⟨w2.heap.size, 1, none⟩ (.int .i64 1073741824)).alloc (.cells #[.int .i64 0, .int .i64 0] 23)) (w.heap.size + 1) 107 (byArr 10) := hdx
        replace HP : Hd (((w3.setCell ⟨w2.heap.size, 0, none⟩ (.int .i64 1073741824)).setCell ⟨w2.heap.size, 1, none⟩ (.int .i64 1073741824)).alloc (.cells #[.int .i64 0, .int .i64 0] 23)) w1.heap.size 23 #[.int .i64 1073741824, .int .i64 1073741824] := hdx
        replace Hs : Hd (((w3.setCell ⟨w2.heap.size, 0, none⟩ (.int .i64 1073741824)).setCell ⟨w2.heap.size, 1, none⟩ (.int .i64 1073741824)).alloc (.cells #[.int .i64 0, .int .i64 0] 23)) w2.heap.size 23 #[.int .i64 1073741824, .int .i64 1073741824] := hdx
        replace Hc : Hd (((w3.setCell ⟨w2.heap.size, 0, none⟩ (.int .i64 1073741824)).setCell ⟨w2.heap.size, 1, none⟩ (.int .i64 1073741824)).alloc (.cells #[.int .i64 0, .int .i64 0] 23)) w3.heap.size 23 #[.int .i64 0, .int .i64 0] := hdx
        replace bw : Below w.heap.size w (((w3.setCell ⟨w2.heap.size, 0, none⟩ (.int .i64 1073741824)).setCell ⟨w2.heap.size, 1, none⟩ (.int .i64 1073741824)).alloc (.cells #[.int .i64 0, .int .i64 0] 23)) := by go_grown
        (try refine ⟨⟨HP, bw⟩, ?_⟩)
        skip
        refine tr_nil (by kernel_rfl) ?_
        go_wp2_with fail
        go_meet
        exact ⟨w3.heap.size, w2.heap.size, rfl, rfl, by omega, by omega, by omega, by omega, by omega, HC, HY, HP, Hc, Hs, bw⟩
      · go_wp2_with fail
        have ltCc : w.heap.size < (w2.heap.size + 1) := by (have := HC.lt; (try simp only [World.size_alloc, World.size_setCell, World.size_drew] at this); omega)
        have ltYc : (w.heap.size + 1) < (w2.heap.size + 1) := by (have := HY.lt; (try simp only [World.size_alloc, World.size_setCell, World.size_drew] at this); omega)
        have ltPc : w1.heap.size < (w2.heap.size + 1) := by (have := HP.lt; (try simp only [World.size_alloc, World.size_setCell, World.size_drew] at this); omega)
        have ltsc : w2.heap.size < (w2.heap.size + 1) := by (have := Hs.lt; (try simp only [World.size_alloc, World.size_setCell, World.size_drew] at this); omega)
        replace HC : Hd ((w2.alloc (.cells #[.int .i64 0, .int .i64 0] 23)).alloc (.cells #[.int .i64 0, .int .i64 0] 23)) w.heap.size 25 #[.int .i64 0, .int .i64 0, .int .i64 0, .int .i64 0] := hdx
        replace HY : Hd ((w2.alloc (.cells #[.int .i64 0, .int .i64 0] 23)).alloc (.cells #[.int .i64 0, .int .i64 0] 23)) (w.heap.size + 1) 107 (byArr 10) := hdx
        replace HP : Hd ((w2.alloc (.cells #[.int .i64 0, .int .i64 0] 23)).alloc (.cells #[.int .i64 0, .int .i64 0] 23)) w1.heap.size 23 #[.int .i64 1073741824, .int .i64 1073741824] := hdx
        replace Hs : Hd ((w2.alloc (.cells #[.int .i64 0, .int .i64 0] 23)).alloc (.cells #[.int .i64 0, .int .i64 0] 23)) w2.heap.size 23 #[.int .i64 0, .int .i64 0] := hdx
        replace bw : Below w.heap.size w ((w2.alloc (.cells #[.int .i64 0, .int .i64 0] 23)).alloc (.cells #[.int .i64 0, .int .i64 0] 23)) := by go_grown
        have Hc : Hd ((w2.alloc (.cells #[.int .i64 0, .int .i64 0] 23)).alloc (.cells #[.int .i64 0, .int .i64 0] 23)) (w2.heap.size + 1) 23 #[.int .i64 0, .int .i64 0] := hdx
        (try refine ⟨⟨HP, bw⟩, ?_⟩)
        skip
        refine tr_hard1 (i := 0) (by kernel_rfl) rfl ?_
        go_wp2_with fail
        refine (point00 _).mono ?_
        rintro e w3 ⟨rfl, hb3⟩
        replace bw : Below w.heap.size w w3 := below_next bw hb3
        replace HC := HC.call hb3
        replace HY := HY.call hb3
        replace HP := HP.call hb3
        replace Hs := Hs.call hb3
        replace Hc := Hc.call hb3
        have lw3 : w.heap.size ≤ w3.heap.size := bw.size
        clear hb3
        go_wp2_with fail
        (try refine ⟨⟨HP, bw⟩, ?_⟩)
        skip
        (refine tr_soft (i := 1) (v := ?_) rfl rfl (by kernel_rfl) (fun c d v a w h => by cases d <;> exact h) (fun w' hw' => ?_) ⟨HP, bw⟩ ?_; rotate_left 1; (focus (obtain ⟨hP, hBw⟩ := hw'; obtain ⟨hcP, hfP⟩ := hP.facts; go_simp; (try with_reducible rfl); done)); simp only [Act.put, Act.eval, qs])
        refine tr_hard1 (i := 5) (by kernel_rfl) rfl ?_
        obtain ⟨hcc, hfc⟩ := Hc.facts
        go_wp2_with fail
        have PC := HC
        have PY := HY
        have PP := HP
        have Ps := Hs
        have Pc := Hc
        have Pbw := bw
        replace HC : Hd ((w3.setCell ⟨(w2.heap.size + 1), 0, none⟩ (.int .i64 0)).setCell ⟨(w2.heap.size + 1), 1, none⟩ (.int .i64 0)) w.heap.size 25 #[.int .i64 0, .int .i64 0, .int .i64 0, .int .i64 0] := hdx
        replace HY : Hd ((w3.setCell ⟨(w2.heap.size + 1), 0, none⟩ (.int .i64 0)).setCell ⟨(w2.heap.size + 1), 1, none⟩ (.int .i64 0)) (w.heap.size + 1) 107 (byArr 10) := hdx
        replace HP : Hd ((w3.setCell ⟨(w2.heap.size + 1), 0, none⟩ (.int .i64 0)).setCell ⟨(w2.heap.size + 1), 1, none⟩ (.int .i64 0)) w1.heap.size 23 #[.int .i64 1073741824, .int .i64 1073741824] := hdx
        replace Hs : Hd ((w3.setCell ⟨(w2.heap.size + 1), 0, none⟩ (.int .i64 0)).setCell ⟨(w2.heap.size + 1), 1, none⟩ (.int .i64 0)) w2.heap.size 23 #[.int .i64 0, .int .i64 0] := hdx
        replace Hc : Hd ((w3.setCell ⟨(w2.heap.size + 1), 0, none⟩ (.int .i64 0)).setCell ⟨(w2.heap.size + 1), 1, none⟩ (.int .i64 0)) (w2.heap.size + 1) 23 #[.int .i64 0, .int .i64 0] := hdx
        replace bw : Below w.heap.size w ((w3.setCell ⟨(w2.heap.size + 1), 0, none⟩ (.int .i64 0)).setCell ⟨(w2.heap.size + 1), 1, none⟩ (.int .i64 0)) := by go_grown
        (try refine ⟨⟨HP, bw⟩, ?_⟩)
        skip
        refine tr_hard1 (i := 6) (by kernel_rfl) rfl ?_
        obtain ⟨hcs, hfs⟩ := Ps.facts
        go_wp2_with fail
        replace HC : Hd ((((w3.setCell ⟨(w2.heap.size + 1), 0, none⟩ (.int .i64 0)).setCell ⟨(w2.heap.size + 1), 1, none⟩ (.int .i64 0)).setCell ⟨w2.heap.size, 0, none⟩ (.int .i64 1073741824)).setCell ⟨w2.heap.size, 1, none⟩ (.int .i64 1073741824)) w.heap.size 25 #[.int .i64 0, .int .i64 0, .int .i64 0, .int .i64 0] := hdx
        replace HY : Hd ((((w3.setCell ⟨(w2.heap.size + 1), 0, none⟩ (.int .i64 0)).setCell ⟨(w2.heap.size + 1), 1, none⟩ (.int .i64 0)).setCell ⟨w2.heap.size, 0, none⟩ (.int .i64 1073741824)).setCell ⟨w2.heap.size, 1, none⟩ (.int .i64 1073741824)) (w.heap.size + 1) 107 (byArr 10) := hdx
        replace HP : Hd ((((w3.setCell ⟨(w2.heap.size + 1), 0, none⟩ (.int .i64 0)).setCell ⟨(w2.heap.size + 1), 1, none⟩ (.int .i64 0)).setCell ⟨w2.heap.size, 0, none⟩ (.int .i64 1073741824)).setCell ⟨w2.heap.size, 1, none⟩ (.int .i64 1073741824)) w1.heap.size 23 #[.int .i64 1073741824, .int .i64 1073741824] := hdx
        replace Hs : Hd ((((w3.setCell ⟨(w2.heap.size + 1), 0, none⟩ (.int .i64 0)).setCell ⟨(w2.heap.size + 1), 1, none⟩ (.int .i64 0)).setCell ⟨w2.heap.size, 0, none⟩ (.int .i64 1073741824)).setCell ⟨w2.heap.size, 1, none⟩ (.int .i64 1073741824)) w2.heap.size 23 #[.int .i64 1073741824, .int .i64 1073741824] := hdx
        replace Hc : Hd ((((w3.setCell ⟨(w2.heap.size + 1), 0, none⟩ (.int .i64 0)).setCell ⟨(w2.heap.size + 1), 1, none⟩ (.int .i64 0)).setCell ⟨w2.heap.size, 0, none⟩ (.int .i64 1073741824)).setCell ⟨w2.heap.size, 1, none⟩ (.int .i64 1073741824)) (w2.heap.size + 1) 23 #[.int .i64 0, .int .i64 0] := hdx
        replace bw : Below w.heap.size w ((((w3.setCell ⟨(w2.heap.size + 1), 0, none⟩ (.int .i64 0)).setCell ⟨(w2.heap.size + 1), 1, none⟩ (.int .i64 0)).setCell ⟨w2.heap.size, 0, none⟩ (.int .i64 1073741824)).setCell ⟨w2.heap.size, 1, none⟩ (.int .i64 1073741824)) := by go_grown
        (try refine ⟨⟨HP, bw⟩, ?_⟩)
        skip
        refine tr_nil (by kernel_rfl) ?_
        go_wp2_with fail
        go_meet
        exact ⟨(w2.heap.size + 1), w2.heap.size, rfl, rfl, by omega, by omega, by omega, by omega, by omega, HC, HY, HP, Hc, Hs, bw⟩

theorem unit_any (n : Int) (w : World) : Calls Try.prog 63 #[.int .i64 n] w (Post rcV (En.unit n) w) :=
  unit_go n (n % 1024).toNat (by rw [and1023]; omega) (by omega) w
end Go.Proofs.Ytpbbbfglecbceaa
/- Package enclose: Unit; the statements' check that it is awake. -/
namespace Go.Proofs.Ytpbbbfglecbceaa
set_option linter.all false
open Go.RowKit

theorem unitE_any (n : Int) (w : World) : Calls Try.prog 18 #[.int .i64 n] w fun e w' => e = .returned (rcE (outR (En.unit n))) ∧ Below w.heap.size w w' := by
  go_enter_defers Try.func18, Try.ntmps18
  go_wp2_with fail
  have HC : Hd ((w.alloc (.cells #[.int .i64 0, .int .i64 0, .int .i64 0, .int .i64 0] 25)).alloc (.cells #[.int .i64 0] 26)) w.heap.size 25 #[.int .i64 0, .int .i64 0, .int .i64 0, .int .i64 0] := hdx
  have HE : Hd ((w.alloc (.cells #[.int .i64 0, .int .i64 0, .int .i64 0, .int .i64 0] 25)).alloc (.cells #[.int .i64 0] 26)) (w.heap.size + 1) 26 #[.int .i64 0] := hdx
  have bw : Below w.heap.size w ((w.alloc (.cells #[.int .i64 0, .int .i64 0, .int .i64 0, .int .i64 0] 25)).alloc (.cells #[.int .i64 0] 26)) := by go_grown
  refine (unit_any n _).mono ?_
  intro e w1 hp
  obtain ⟨hb1, hcase⟩ := hp.cases
  clear hp
  replace bw : Below w.heap.size w w1 := below_next bw hb1
  replace HC := HC.call hb1
  replace HE := HE.call hb1
  have lw1 : w.heap.size ≤ w1.heap.size := bw.size
  clear hb1
  rcases hcase with ⟨s, hs, rfl⟩ | ⟨c, hs, rfl⟩
  · obtain ⟨hcC, hfC⟩ := HC.facts
    obtain ⟨hcE, hfE⟩ := HE.facts
    go_wp2
    refine leaves_cons (f := 62) (args := #[.pointer (some ⟨w.heap.size + 1, 0, none⟩)]) (by simp) (by simp [go_sem]) ?_
    refine (guard_idle _ _).mono ?_
    rintro e u' w'' ⟨rfl, rfl, rfl⟩
    exact ⟨_, run_results_ce rfl rfl (by (show Hd _ (w.heap.size) 25 #[.int .i64 s.re.lo, .int .i64 s.re.hi, .int .i64 s.im.lo, .int .i64 s.im.hi]); exact hdx) Try.underlying25 rfl (by kernel_rfl) rfl (by (show Hd _ (w.heap.size + 1) 26 #[.int .i64 (0)]); exact hdx) Try.underlying26, (by rw [hs]; rfl), by go_grown⟩
  · refine leaves_cons (f := 62) (args := #[.pointer (some ⟨w.heap.size + 1, 0, none⟩)]) (by simp) (by simp [go_sem]) ?_
    refine (guard_panicking _ _ _ _ HE).mono ?_
    rintro e u' w'' ⟨rfl, rfl, rfl⟩
    exact ⟨_, run_results_ce rfl rfl (by (show Hd _ (w.heap.size) 25 #[.int .i64 0, .int .i64 0, .int .i64 0, .int .i64 0]); exact hdx) Try.underlying25 rfl (by kernel_rfl) rfl (by (show Hd _ (w.heap.size + 1) 26 #[.int .i64 (c)]); exact hdx) Try.underlying26, (by rw [hs]; rfl), by go_grown⟩

theorem unit256 : En.unit 256 = .ok ⟨⟨0, 0⟩, ⟨1073741824, 1073741824⟩⟩ := by kernel_rfl
theorem awake_any (w : World) : Calls Try.prog 20 #[] w fun e w' => e = .returned (.bool true) ∧ Below w.heap.size w w' := by
  have CU := unitE_any 256
  rw [unit256] at CU
  replace CU := Lib.hid CU
  go_enter Try.func20, Try.ntmps20
  go_wp2_with fail
  refine (CU.out _).mono ?_
  rintro e w1 ⟨rfl, hb1⟩
  have bw : Below w.heap.size w w1 := hb1
  have lw1 := bw.size
  go_wp2_with fail
  go_ret
  exact ⟨rfl, by go_grown⟩
end Go.Proofs.Ytpbbbfglecbceaa
/- A region that draws its order: what is known of the world may change where an operation comes up that all others wait for, or that waits for them. -/
namespace Go.Proofs.Ytpbbbfglecbceaa
set_option linter.all false
open Go.RowKit

section
variable {P : Program} {ops : Array Oper} {Q : Exit → Act → World → Prop} {md : Region.Mode}

/-- As wpAnyH; what is known hangs on which operations have come up. -/
def wpAnyF (P : Program) (md : Region.Mode) (ops : Array Oper) (Q : Exit → Act → World → Prop) (S : Array Bool → World → Prop) : Nat → Array Bool → Act → World → Prop
  | 0, listed, a, w => Region.ready md ops listed = [] ∧ Q .normal a w
  | fuel + 1, listed, a, w =>
    (Region.ready md ops listed = [] → Q .normal a w) ∧
    ∀ i ∈ Region.ready md ops listed, wpOp P ops Q i (fun a' w' => S (listed.setIfInBounds i true) w' ∧ wpAnyF P md ops Q S fuel (listed.setIfInBounds i true) a' w') a w

theorem wpAny_of_F {S : Array Bool → World → Prop} : ∀ (fuel : Nat) (listed : Array Bool) (a : Act) (w : World), wpAnyF P md ops Q S fuel listed a w → wpAny P md ops Q fuel listed a w
  | 0, _, _, _, h => h
  | fuel + 1, _, _, _, h => ⟨h.1, fun i hi => wpOp_mono (fun a' w' h' => wpAny_of_F fuel _ a' w' h'.2) (h.2 i hi)⟩

/-- An operation that may come up now may be taken first: nothing that does not wait for it changes what is known. -/
theorem wpAnyF_first {S : Array Bool → World → Prop} {T : World → Prop} {i : Nat} {oi : Oper} {v : Value} (hi : ops[i]? = some oi) (hsel : ∀ (j : Nat) (o : Oper) cs b, ops[j]? = some o → o.op ≠ .select cs b)
    (hQ : ∀ c a w, Q (.panic c) (a.put oi.dst v) w → Q (.panic c) a w)
    (hSi : ∀ listed w, S (listed.setIfInBounds i true) w ↔ S listed w)
    (hSj : ∀ j oj, ops[j]? = some oj → (∀ e ∈ oj.after, Region.binds md e = true → e.on ≠ i) → ∀ listed, (∀ w, S listed w → T w) → ∀ w, S (listed.setIfInBounds j true) w → T w) :
    ∀ (fuel : Nat) (listed : Array Bool) (a : Act) (w : World), (∀ w, S listed w → T w) →
      (∀ j oj, ops[j]? = some oj → j ≠ i → listed.getD j true = false → (∀ e ∈ oj.after, Region.binds md e = true → e.on ≠ i) → oi.apart ops oj = true) →
      i ∈ Region.ready md ops listed → YieldsIf P ops T oi v a → S listed w →
      wpAnyF P md ops Q S fuel (listed.setIfInBounds i true) (a.put oi.dst v) w → wpAnyF P md ops Q S (fuel + 1) listed a w := by
  intro fuel
  induction fuel with
  | zero =>
    intro listed a w hT _ hr hy hS H
    refine ⟨fun h => (by rw [h] at hr; cases hr), fun j hj => ?_⟩
    by_cases hji : j = i
    · subst hji; exact hy.wpOp hi (hT w hS) ⟨(hSi _ _).2 hS, H⟩
    · have := ready_mono hj hji
      rw [H.1] at this
      cases this
  | succ fuel ih =>
    intro listed a w hT hfree hr hy hS H
    refine ⟨fun h => (by rw [h] at hr; cases hr), fun j hj => ?_⟩
    by_cases hji : j = i
    · subst hji; exact hy.wpOp hi (hT w hS) ⟨(hSi _ _).2 hS, H⟩
    · have h1 := H.2 j (ready_mono hj hji)
      obtain ⟨hjun, oj, hoj, hall⟩ := mem_ready.1 hj
      have hnot : ∀ e ∈ oj.after, Region.binds md e = true → e.on ≠ i := fun e he hb heq => by
        have h1 := hall e he hb
        have h0 := (mem_ready.1 hr).1
        rw [heq] at h1
        rcases Nat.lt_or_ge i listed.size with h' | h'
        · simp [h'] at h0 h1; rw [h0] at h1; cases h1
        · simp [Array.getElem?_eq_none h'] at h1
      have h2 := wpOp_putIf hoj (hfree j oj hoj hji hjun hnot) (fun cs b => hsel i oi cs b hi) (fun cs b => hsel j oj cs b hoj) hQ hy h1
      have hfree' : ∀ k ok, ops[k]? = some ok → k ≠ i → (listed.setIfInBounds j true).getD k true = false →
          (∀ e ∈ ok.after, Region.binds md e = true → e.on ≠ i) → oi.apart ops ok = true := fun k ok hk hki hun hno => by
        refine hfree k ok hk hki ?_ hno
        by_cases hjk : j = k
        · subst hjk; exact hjun
        · rw [getD_set_ne true hjk] at hun; exact hun
      have hSjj := hSj j oj hoj hnot listed hT
      refine wpOp_mono (fun a' w' h3 => ?_) h2
      have hS3 : S (listed.setIfInBounds j true) w' := by
        have := h3.2.1
        rw [Array.setIfInBounds_comm _ _ (Ne.symm hji)] at this
        exact (hSi _ _).1 this
      refine ⟨hS3, ih (listed.setIfInBounds j true) a' w' hSjj hfree' (ready_mono hr (Ne.symm hji)) h3.1 hS3 ?_⟩
      rw [Array.setIfInBounds_comm _ _ hji]
      exact h3.2.2

/-- What is known: base, till the first of the marked operations has come up; then the next. -/
def sOf : List (Nat × (World → Prop)) → (World → Prop) → Array Bool → World → Prop
  | [], b, _ => b
  | (m, p) :: r, b, listed => if listed.getD m false then sOf r p listed else b

theorem sOf_other {j : Nat} : ∀ (l : List (Nat × (World → Prop))) (b : World → Prop) (listed : Array Bool), (∀ x ∈ l, x.1 ≠ j) → sOf l b (listed.setIfInBounds j true) = sOf l b listed
  | [], _, _, _ => rfl
  | (m, p) :: r, b, listed, h => by
    have hm : j ≠ m := Ne.symm (h (m, p) (by simp))
    simp only [sOf]
    rw [getD_set_ne false hm, sOf_other r p listed (fun x hx => h x (by simp [hx]))]

/-- An order: (i, 0): read, taken as soon as it may come up; (i, 1): carried out, alone; (i, 2): carried out, alone; from here on other things are known; (i, 3): reads what c tells, which is known throughout. -/
def wpEagF (P : Program) (ops : Array Oper) (Q : Exit → Act → World → Prop) (c : World → Prop) : List (Nat × Nat) → List (Nat × (World → Prop)) → (World → Prop) → Act → World → Prop
  | [], _, _, a, w => Q .normal a w
  | (i, 0) :: l, m, b, a, w => ∃ o v, ops[i]? = some o ∧ YieldsIf P ops b o v a ∧ wpEagF P ops Q c l m b (a.put o.dst v) w
  | (i, 1) :: l, m, b, a, w => wpOp P ops Q i (fun a' w' => b w' ∧ wpEagF P ops Q c l m b a' w') a w
  | (i, 2) :: l, m, b, a, w => match m with
    | [] => False
    | (_, p) :: r => wpOp P ops Q i (fun a' w' => p w' ∧ wpEagF P ops Q c l r p a' w') a w
  | (i, _ + 3) :: l, m, b, a, w => ∃ o v, ops[i]? = some o ∧ YieldsIf P ops c o v a ∧ wpEagF P ops Q c l m b (a.put o.dst v) w

/-- The check of an order; ms: the marked operations that are still to come. -/
def eagF (md : Region.Mode) (ops : Array Oper) : List (Nat × Nat) → List Nat → Array Bool → Bool
  | [], ms, listed => (Region.ready md ops listed).isEmpty
  | (i, 0) :: l, ms, listed => (Region.ready md ops listed).contains i && (Region.free md ops listed i &&
      ((ms.all fun m => m != i && ((ops[m]?).map fun o => o.after.any fun e => Region.binds md e && e.on == i).getD false) && eagF md ops l ms (listed.setIfInBounds i true)))
  | (i, 1) :: l, ms, listed => decide (Region.ready md ops listed = [i]) && (!ms.contains i && eagF md ops l ms (listed.setIfInBounds i true))
  | (i, 2) :: l, ms, listed => match ms with
    | [] => false
    | m :: r => decide (Region.ready md ops listed = [i]) && (m == i && (decide (i < listed.size) && (!r.contains i && eagF md ops l r (listed.setIfInBounds i true))))
  | (i, _ + 3) :: l, ms, listed => (Region.ready md ops listed).contains i && (Region.free md ops listed i && (!ms.contains i && eagF md ops l ms (listed.setIfInBounds i true)))

theorem wpAnyF_congr {S S' : Array Bool → World → Prop} (p : Array Bool → Prop) (hp : ∀ listed i, p listed → p (listed.setIfInBounds i true)) (he : ∀ listed, p listed → S listed = S' listed) :
    ∀ (fuel : Nat) (listed : Array Bool) (a : Act) (w : World), p listed → wpAnyF P md ops Q S fuel listed a w → wpAnyF P md ops Q S' fuel listed a w
  | 0, _, _, _, _, h => h
  | fuel + 1, listed, _, _, hl, h => ⟨h.1, fun i hi => wpOp_mono (fun a' w' h' => ⟨(he _ (hp _ i hl)) ▸ h'.1, wpAnyF_congr p hp he fuel _ a' w' (hp _ i hl) h'.2⟩) (h.2 i hi)⟩

theorem sOf_c {c : World → Prop} : ∀ (m : List (Nat × (World → Prop))) (b : World → Prop) (listed : Array Bool), (∀ w, b w → c w) → (∀ x ∈ m, ∀ w, x.2 w → c w) → ∀ w, sOf m b listed w → c w
  | [], _, _, hb, _, w, h => hb w h
  | (m, p) :: r, b, listed, hb, hm, w, h => by
    simp only [sOf] at h
    split at h
    · exact sOf_c r p listed (hm (m, p) (by simp)) (fun x hx => hm x (by simp [hx])) w h
    · exact hb w h

theorem wpAnyF_of_eag {c : World → Prop} (hs : Region.noSelect ops = true) (hQ : ∀ c d v a w, Q (.panic c) (Act.put a d v) w → Q (.panic c) a w) :
    ∀ (l : List (Nat × Nat)) (m : List (Nat × (World → Prop))) (b : World → Prop) (listed : Array Bool) (a : Act) (w : World), (∀ x ∈ m, listed.getD x.1 false = false) →
      (∀ w, b w → c w) → (∀ x ∈ m, ∀ w, x.2 w → c w) → eagF md ops l (m.map (·.1)) listed = true → b w → wpEagF P ops Q c l m b a w → wpAnyF P md ops Q (sOf m b) l.length listed a w
  | [], m, b, listed, a, w, hm, _, _, hB, _, h => ⟨by simpa [eagF] using hB, h⟩
  | (i, 0) :: l, m, b, listed, a, w, hm, hc, hcm, hB, hb, h => by
    simp only [eagF, Bool.and_eq_true] at hB
    obtain ⟨hr, hf, hms, hB'⟩ := hB
    obtain ⟨o, v, ho, hy, hrest⟩ := h
    have hbase : ∀ listed' : Array Bool, (∀ x ∈ m, listed'.getD x.1 false = false) → sOf m b listed' = b := by
      intro listed' h'
      cases m with
      | nil => rfl
      | cons x r => simp only [sOf]; rw [if_neg (by rw [h' x (by simp)]; simp)]
    have hmi : ∀ x ∈ m, x.1 ≠ i := fun x hx e => by
      have := List.all_eq_true.1 hms x.1 (List.mem_map.2 ⟨x, hx, rfl⟩)
      simp [e] at this
    have hmw : ∀ j oj, ops[j]? = some oj → (∀ e ∈ oj.after, Region.binds md e = true → e.on ≠ i) → ∀ x ∈ m, x.1 ≠ j := fun j oj hoj hno x hx e => by
      have := List.all_eq_true.1 hms x.1 (List.mem_map.2 ⟨x, hx, rfl⟩)
      rw [e, hoj] at this
      simp only [Option.map_some, Option.getD_some, Bool.and_eq_true, Array.any_eq_true] at this
      obtain ⟨_, n, hn, h1, h2⟩ := this
      exact hno _ (Array.getElem_mem hn) h1 (by simpa using h2)
    refine wpAnyF_first (T := b) ho (Region.noSelect_spec hs) (fun c a w => hQ c _ _ a w) (fun listed w => by rw [sOf_other m b listed hmi]) (fun j oj hoj hno listed h w hw => h w (by rw [sOf_other m b listed (hmw j oj hoj hno)] at hw; exact hw))
      l.length listed a w (by rw [hbase listed hm]; exact fun _ h => h) (Region.free_spec ho hf) (by simpa using hr) hy (by rw [hbase listed hm]; exact hb) ?_
    exact wpAnyF_of_eag hs hQ l m b _ _ _ (fun x hx => by rw [getD_set_ne false (Ne.symm (hmi x hx))]; exact hm x hx) hc hcm hB' hb hrest
  | (i, n + 3) :: l, m, b, listed, a, w, hm, hc, hcm, hB, hb, h => by
    simp only [eagF, Bool.and_eq_true, Bool.not_eq_true'] at hB
    obtain ⟨hr, hf, hni, hB'⟩ := hB
    obtain ⟨o, v, ho, hy, hrest⟩ := h
    have hmi : ∀ x ∈ m, x.1 ≠ i := fun x hx e => by
      have : (m.map (·.1)).contains i = true := by simp only [List.contains_iff_mem]; exact List.mem_map.2 ⟨x, hx, e⟩
      rw [this] at hni; cases hni
    have hbase : ∀ listed' : Array Bool, (∀ x ∈ m, listed'.getD x.1 false = false) → sOf m b listed' = b := by
      intro listed' h'
      cases m with
      | nil => rfl
      | cons x r => simp only [sOf]; rw [if_neg (by rw [h' x (by simp)]; simp)]
    refine wpAnyF_first (T := c) ho (Region.noSelect_spec hs) (fun c a w => hQ c _ _ a w) (fun listed w => by rw [sOf_other m b listed hmi]) (fun _ _ _ _ _ _ => sOf_c m b _ hc hcm)
      l.length listed a w (sOf_c m b _ hc hcm) (Region.free_spec ho hf) (by simpa using hr) hy (by rw [hbase listed hm]; exact hb) ?_
    exact wpAnyF_of_eag hs hQ l m b _ _ _ (fun x hx => by rw [getD_set_ne false (Ne.symm (hmi x hx))]; exact hm x hx) hc hcm hB' hb hrest
  | (i, 1) :: l, m, b, listed, a, w, hm, hc, hcm, hB, hb, h => by
    simp only [eagF, Bool.and_eq_true, decide_eq_true_eq, Bool.not_eq_true'] at hB
    obtain ⟨hr, hni, hB'⟩ := hB
    have hmi : ∀ x ∈ m, x.1 ≠ i := fun x hx e => by
      have : (m.map (·.1)).contains i = true := by simp only [List.contains_iff_mem]; exact List.mem_map.2 ⟨x, hx, e⟩
      rw [this] at hni; cases hni
    have hm' : ∀ x ∈ m, (listed.setIfInBounds i true).getD x.1 false = false := fun x hx => by rw [getD_set_ne false (Ne.symm (hmi x hx))]; exact hm x hx
    have hbase : sOf m b (listed.setIfInBounds i true) = b := by
      cases m with
      | nil => rfl
      | cons x r => simp only [sOf]; rw [if_neg (by rw [hm' x (by simp)]; simp)]
    refine ⟨fun h0 => (by rw [h0] at hr; cases hr), fun j hj => ?_⟩
    rw [hr] at hj
    have hji : j = i := by simpa using hj
    subst hji
    refine wpOp_mono (fun a' w' h' => ⟨by rw [hbase]; exact h'.1, wpAnyF_of_eag hs hQ l m b _ _ _ hm' hc hcm hB' h'.1 h'.2⟩) h
  | (i, 2) :: l, [], b, listed, a, w, hm, hc, hcm, hB, hb, h => by simp [eagF] at hB
  | (i, 2) :: l, (m, p) :: r, b, listed, a, w, hm, hc, hcm, hB, hb, h => by
    simp only [eagF, List.map_cons, Bool.and_eq_true, decide_eq_true_eq, beq_iff_eq, Bool.not_eq_true'] at hB
    obtain ⟨hr, hmi, hlt, hni, hB'⟩ := hB
    subst hmi
    have hri : ∀ x ∈ r, x.1 ≠ m := fun x hx e => by
      have : (r.map (·.1)).contains m = true := by simp only [List.contains_iff_mem]; exact List.mem_map.2 ⟨x, hx, e⟩
      rw [this] at hni; cases hni
    have hm' : ∀ x ∈ r, (listed.setIfInBounds m true).getD x.1 false = false := fun x hx => by rw [getD_set_ne false (Ne.symm (hri x hx))]; exact hm x (by simp [hx])
    have hset : ∀ (listed' : Array Bool), listed'.getD m false = true → sOf ((m, p) :: r) b listed' = sOf r p listed' := fun listed' h' => by simp only [sOf]; rw [if_pos h']
    have hgot : (listed.setIfInBounds m true).getD m false = true := by simp [Array.getD_eq_getD_getElem?, hlt]
    have hbase : sOf r p (listed.setIfInBounds m true) = p := by
      cases r with
      | nil => rfl
      | cons x r => simp only [sOf]; rw [if_neg (by rw [hm' x (by simp)]; simp)]
    refine ⟨fun h0 => (by rw [h0] at hr; cases hr), fun j hj => ?_⟩
    rw [hr] at hj
    have hji : j = m := by simpa using hj
    subst hji
    have h : wpOp P ops Q j (fun a' w' => p w' ∧ wpEagF P ops Q c l r p a' w') a w := by simpa only [wpEagF] using h
    refine wpOp_mono (fun a' w' h' => ⟨by rw [hset _ hgot, hbase]; exact h'.1, ?_⟩) h
    refine wpAnyF_congr (S := sOf r p) (fun listed' => listed'.getD j false = true) ?_ (fun listed' h' => (hset listed' h').symm) _ _ _ _ hgot (wpAnyF_of_eag hs hQ l r p _ _ _ hm' (hcm (j, p) (by simp)) (fun x hx => hcm x (by simp [hx])) hB' h'.1 h'.2)
    intro listed' k hk
    by_cases hkj : k = j
    · subst hkj
      rcases Nat.lt_or_ge k listed'.size with h' | h'
      · simp [Array.getD_eq_getD_getElem?, h']
      · rw [show listed'.setIfInBounds k true = listed' from by simp [Array.setIfInBounds, Nat.not_lt.2 h']]; exact hk
    · rw [getD_set_ne false hkj]; exact hk

theorem wp_region_eagF {id : Nat} {a : Act} {w : World} {l : List Oper} {c : World → Prop} (m : List (Nat × (World → Prop))) (b : World → Prop) (ord : List (Nat × Nat)) (hm : P.follows .mixedOrders = true)
    (hB : (Region.noSelect l.toArray && (decide (ord.length = l.length) && eagF .any l.toArray ord (m.map (·.1)) (Array.replicate l.length false))) = true)
    (hQ : ∀ c d v a w, Q (.panic c) (Act.put a d v) w → Q (.panic c) a w) (hb : b w.drew) (hc : ∀ w, b w → c w) (hcm : ∀ x ∈ m, ∀ w, x.2 w → c w)
    (h : wpEagF P l.toArray Q c ord m b a w.drew) : (Code.region id l.toArray true).wp P Q a w := by
  simp only [Bool.and_eq_true, decide_eq_true_eq] at hB
  obtain ⟨hs, hl, hB⟩ := hB
  refine wp_region_any hm ?_
  have hx : ∀ x ∈ m, (Array.replicate l.length false).getD x.1 false = false := fun x _ => by
    rw [Array.getD_eq_getD_getElem?]
    rcases Nat.lt_or_ge x.1 l.length with h' | h' <;> simp [h', Array.getElem?_replicate]
  have := wpAnyF_of_eag (md := .any) hs hQ ord m b _ a w.drew hx hc hcm hB hb h
  rw [hl] at this
  exact wpAny_of_F _ _ _ _ (by simpa using this)
end
end Go.Proofs.Ytpbbbfglecbceaa
/- The call's own blocks as a list: what is known of the world, rules for operations and for code that keep such a list. -/
namespace Go.Proofs.Ytpbbbfglecbceaa
set_option linter.all false
open Go.RowKit

abbrev Blk := Nat × Obj

/-- B: the world at the call's begin; F: old blocks that may change; s: the blocks that are known whole (new ones, or of F). -/
structure Kn (B : World) (F : List Nat) (s : List Blk) (w : World) : Prop where
  os : w.os = B.os
  tape : w.tape = B.tape
  output : w.output = B.output
  size : B.heap.size ≤ w.heap.size
  old : ∀ k, k < B.heap.size → k ∉ F → w.heap[k]? = B.heap[k]?
  own : ∀ b ∈ s, w.heap[b.1]? = some b.2
  new : ∀ b ∈ s, b.1 ∈ F ∨ B.heap.size ≤ b.1
  nodup : (s.map (·.1)).Nodup

section
variable {B w w' : World} {F : List Nat} {s s' : List Blk} {g t : Nat} {cs : Array Value}

theorem Kn.start (w : World) : Kn w [] [] w :=
  ⟨rfl, rfl, rfl, Nat.le_refl _, fun _ _ _ => rfl, (fun _ h => nomatch h), (fun _ h => nomatch h), List.nodup_nil⟩

theorem Kn.startF (w : World) (h : Hd w g t cs) : Kn w [g] [(g, .cells cs t)] w :=
  ⟨rfl, rfl, rfl, Nat.le_refl _, fun _ _ _ => rfl, (fun b hb => by simp at hb; subst hb; exact h), (fun b hb => by simp at hb; subst hb; simp), by simp⟩

theorem Kn.below (h : Kn B [] s w) : Below B.heap.size B w := ⟨h.os, h.tape, h.output, h.size, fun k hk => h.old k hk (by simp)⟩

theorem Kn.hd (h : Kn B F s w) (hm : (g, Obj.cells cs t) ∈ s) : Hd w g t cs := h.own _ hm

theorem Kn.hd0 (h : Kn B F ((g, .cells cs t) :: s) w) : Hd w g t cs := h.own (g, .cells cs t) (by simp)
theorem Kn.ob0 {o : Obj} (h : Kn B F ((g, o) :: s) w) : w.heap[g]? = some o := h.own (g, o) (by simp)
theorem Kn.tl {b : Blk} (h : Kn B F (b :: s) w) : Kn B F s w :=
  ⟨h.os, h.tape, h.output, h.size, h.old, fun c hc => h.own c (by simp [hc]), fun c hc => h.new c (by simp [hc]), (List.nodup_cons.1 h.nodup).2⟩
theorem Kn.sub (h : Kn B F s w) (hs : s'.Sublist s) : Kn B F s' w :=
  ⟨h.os, h.tape, h.output, h.size, h.old, fun b hb => h.own b (hs.subset hb), fun b hb => h.new b (hs.subset hb), (hs.map _).nodup h.nodup⟩

theorem Kn.drew (h : Kn B F s w) : Kn B F s w.drew := ⟨h.os, h.tape, h.output, h.size, h.old, h.own, h.new, h.nodup⟩

theorem ob_lt {o : Obj} (h : w.heap[g]? = some o) : g < w.heap.size := by
  rcases Nat.lt_or_ge g w.heap.size with hlt | hge
  · exact hlt
  · rw [Array.getElem?_eq_none hge] at h; cases h
theorem Kn.lt (h : Kn B F s w) {b : Blk} (hb : b ∈ s) : b.1 < w.heap.size := ob_lt (h.own b hb)

theorem Kn.call (h : Kn B F s w) (hb : Below w.heap.size w w') : Kn B F s w' :=
  ⟨hb.os.trans h.os, hb.tape.trans h.tape, hb.output.trans h.output, Nat.le_trans h.size hb.size,
    fun k hk hF => (hb.block k (Nat.lt_of_lt_of_le hk h.size)).trans (h.old k hk hF), fun b hm => (hb.block b.1 (h.lt hm)).trans (h.own b hm), h.new, h.nodup⟩

/-- Blocks that a call has made. -/
structure Made (w : World) (u : List Blk) (w' : World) : Prop where
  below : Below w.heap.size w w'
  own : ∀ b ∈ u, w'.heap[b.1]? = some b.2
  new : ∀ b ∈ u, w.heap.size ≤ b.1
  nodup : (u.map (·.1)).Nodup

theorem Made.nil (h : Below w.heap.size w w') : Made w [] w' := ⟨h, (fun _ h => nomatch h), (fun _ h => nomatch h), List.nodup_nil⟩
theorem Made.one {o : Obj} (h : Below w.heap.size w w') (hd : w'.heap[g]? = some o) (hn : w.heap.size ≤ g) : Made w [(g, o)] w' :=
  ⟨h, (fun b hb => by simp at hb; subst hb; exact hd), (fun b hb => by simp at hb; subst hb; exact hn), by simp⟩
theorem Kn.made (h : Kn B [] s w) (hs : s'.Sublist s) : Made B s' w :=
  ⟨h.below, fun b hb => h.own b (hs.subset hb), fun b hb => (h.new b (hs.subset hb)).resolve_left (by simp), (hs.map _).nodup h.nodup⟩

theorem Kn.add (h : Kn B F s w) (hm : Made w s' w') : Kn B F (s' ++ s) w' := by
  have h1 := h.call hm.below
  refine ⟨h1.os, h1.tape, h1.output, h1.size, h1.old, ?_, ?_, ?_⟩
  · intro b hb
    rcases List.mem_append.1 hb with hb | hb
    · exact hm.own b hb
    · exact h1.own b hb
  · intro b hb
    rcases List.mem_append.1 hb with hb | hb
    · exact .inr (Nat.le_trans h.size (hm.new b hb))
    · exact h1.new b hb
  · rw [List.map_append]
    refine List.nodup_append.2 ⟨hm.nodup, h.nodup, ?_⟩
    intro a ha c hc e
    subst e
    obtain ⟨x, hx, rfl⟩ := List.mem_map.1 ha
    obtain ⟨y, hy, hxy⟩ := List.mem_map.1 hc
    have := hm.new x hx
    have := h.lt hy
    omega

theorem Kn.alloc (h : Kn B F s w) (o : Obj) : Kn B F ((w.heap.size, o) :: s) (w.alloc o) :=
  h.add (s' := [(w.heap.size, o)]) (Made.one ((Below.refl _ w).alloc (Nat.le_refl _) _) (heap_alloc_new w o) (Nat.le_refl _))

/-- A store changes one block of the list. -/
inductive Upd (g i : Nat) (u : Value) : List Blk → List Blk → Prop
  | here (t : Nat) (cs : Array Value) (s : List Blk) : Upd g i u ((g, .cells cs t) :: s) ((g, .cells (cs.setIfInBounds i u) t) :: s)
  | there (b : Blk) {s s' : List Blk} : Upd g i u s s' → Upd g i u (b :: s) (b :: s')

theorem Upd.names {i : Nat} {u : Value} (h : Upd g i u s s') : s'.map (·.1) = s.map (·.1) := by
  induction h with
  | here => rfl
  | there b _ ih => simp [ih]
theorem Upd.mem {i : Nat} {u : Value} (h : Upd g i u s s') : ∃ t cs, (g, Obj.cells cs t) ∈ s := by
  induction h with
  | here t cs s => exact ⟨t, cs, by simp⟩
  | there b _ ih => obtain ⟨t, cs, h⟩ := ih; exact ⟨t, cs, by simp [h]⟩
theorem Upd.spec {i : Nat} {u : Value} (h : Upd g i u s s') (hn : (s.map (·.1)).Nodup) : ∀ b ∈ s', (b ∈ s ∧ b.1 ≠ g) ∨ ∃ t cs, (g, Obj.cells cs t) ∈ s ∧ b = (g, Obj.cells (cs.setIfInBounds i u) t) := by
  induction h with
  | here t cs s =>
    intro b hb
    rcases List.mem_cons.1 hb with rfl | hb
    · exact .inr ⟨t, cs, by simp, rfl⟩
    · refine .inl ⟨by simp [hb], fun e => ?_⟩
      simp only [List.map_cons, List.nodup_cons] at hn
      exact hn.1 (e ▸ List.mem_map.2 ⟨b, hb, rfl⟩)
  | there c h ih =>
    intro b hb
    simp only [List.map_cons, List.nodup_cons] at hn
    rcases List.mem_cons.1 hb with rfl | hb
    · refine .inl ⟨by simp, fun e => ?_⟩
      obtain ⟨t, cs, hm⟩ := h.mem
      exact hn.1 (List.mem_map.2 ⟨_, hm, e.symm⟩)
    · rcases ih hn.2 b hb with ⟨h1, h2⟩ | ⟨t, cs, h1, h2⟩
      · exact .inl ⟨by simp [h1], h2⟩
      · exact .inr ⟨t, cs, by simp [h1], h2⟩

theorem Kn.set {i : Nat} {u : Value} (h : Kn B F s w) (hu : Upd g i u s s') : Kn B F s' (w.setCell ⟨g, i, none⟩ u) := by
  have hsp := hu.spec h.nodup
  obtain ⟨t, cs, hm⟩ := hu.mem
  have hg := h.new _ hm
  refine ⟨h.os, h.tape, h.output, by rw [World.size_setCell]; exact h.size, ?_, ?_, ?_, by rw [hu.names]; exact h.nodup⟩
  · intro k hk hF
    refine (Below.heap_setCell w ⟨g, i, none⟩ u k ?_).trans (h.old k hk hF)
    show k ≠ g
    rcases hg with hg | hg
    · exact fun e => hF (e ▸ hg)
    · simp at hg; omega
  · intro b hb
    rcases hsp b hb with ⟨h1, h2⟩ | ⟨t, cs, h1, rfl⟩
    · exact (Below.heap_setCell w ⟨g, i, none⟩ u b.1 h2).trans (h.own b h1)
    · exact (Kn.hd h h1).set i u
  · intro b hb
    rcases hsp b hb with ⟨h1, _⟩ | ⟨t, cs, h1, rfl⟩
    · exact h.new b h1
    · exact h.new (g, .cells cs t) h1

theorem Kn.put {i : Nat} {u : Value} (hu : Upd g i u s s') (h : Kn B F s w) : Kn B F s' (w.setCell ⟨g, i, none⟩ u) := h.set hu
theorem Kn.cellB (h : Kn B F s w) {k : Nat} (hk : k < B.heap.size) (hF : k ∉ F) (i : Nat) : w.cell? ⟨k, i, none⟩ = B.cell? ⟨k, i, none⟩ :=
  World.cell?_of_block (w := B) (h.old k hk hF)
theorem Kn.frozenB (h : Kn B F s w) {k : Nat} (hk : k < B.heap.size) (hF : k ∉ F) (i : Nat) : w.frozen? ⟨k, i, none⟩ = B.frozen? ⟨k, i, none⟩ :=
  World.frozen?_of_block (w := B) (h.old k hk hF)
theorem Kn.hdB (h : Kn B F s w) (hd : Hd B g t cs) (hF : g ∉ F) : Hd w g t cs := (h.old g hd.lt hF).trans hd
end

/-! ### Code: R = some l: in a round of the loop l over a function -/
abbrev FR (R : Option Nat) : Fence := { Fence.wide with round := R }
theorem FR_none : FR none = Fence.wide := rfl

section
variable {R : Option Nat} {P : Program} {Q : Exit → Act → World → Prop} {B : World} {F : List Nat} {a : Act} {s : List Blk}

def Wk (R : Option Nat) (P : Program) (B : World) (F : List Nat) (Q : Exit → Act → World → Prop) (a : Act) (s : List Blk) (c : Code) : Prop := ∀ w, Kn B F s w → c.wpIn (FR R) 0 P Q a w
/-- The same behind an end. -/
def Ek (B : World) (F : List Nat) (Q : Exit → Act → World → Prop) (e : Exit) (a : Act) (s : List Blk) : Prop := ∀ w, Kn B F s w → Q e a w

theorem wk_start {c : Code} {w : World} (h : Wk none P w [] Q a [] c) : c.wp P Q a w := wpIn_wide.1 (h w (Kn.start w))
theorem wk_startF {c : Code} {w : World} {s : List Blk} {F : List Nat} (K : Kn w F s w) (h : Wk none P w F Q a s c) : c.wp P Q a w := wpIn_wide.1 (h w K)
theorem wk_sub {c : Code} {s' : List Blk} (hs : s'.Sublist s) (h : Wk R P B F Q a s' c) : Wk R P B F Q a s c := fun w K => h w (K.sub hs)
theorem wk_seq {x y : Code} (h : Wk R P B F (Exit.then (y.wpIn (FR R) 0 P Q) Q) a s x) : Wk R P B F Q a s (.seq x y) := fun w K => wpIn_seq (h w K)
theorem wk_block {id : Nat} {c : Code} (h : Wk R P B F (Exit.inBlock id Q) a s c) : Wk R P B F Q a s (.block id c) := fun w K => wpIn_block (h w K)
theorem wk_skip (h : Ek B F Q .normal a s) : Wk R P B F Q a s .skip := fun w K => wpIn_skip (h w K)
theorem wk_ret (h : Ek B F Q .ret a s) : Wk R P B F Q a s .ret := fun w K => wpIn_ret (h w K)
theorem wk_exit {id : Nat} (h : Ek B F Q (.exit id) a s) : Wk R P B F Q a s (.exit id) := fun w K => wpIn_exit (h w K)
theorem wk_cond {c : Operand} {x y : Code} {t : Bool} (hc : a.eval c = .bool t) (ht : t = true → Wk R P B F Q a s x) (hf : t = false → Wk R P B F Q a s y) :
    Wk R P B F Q a s (.cond c x y) := fun w K => wpIn_cond_split hc (fun h => ht h w K) (fun h => hf h w K)
theorem wk_cond_t {c : Operand} {x y : Code} (hc : a.eval c = .bool true) (h : Wk R P B F Q a s x) : Wk R P B F Q a s (.cond c x y) := fun w K => wpIn_cond_true hc (h w K)
theorem wk_cond_f {c : Operand} {x y : Code} (hc : a.eval c = .bool false) (h : Wk R P B F Q a s y) : Wk R P B F Q a s (.cond c x y) := fun w K => wpIn_cond_false hc (h w K)

theorem ek_then {K : Act → World → Prop} (h : ∀ w, Kn B F s w → K a w) : Ek B F (Exit.then K Q) .normal a s := h
theorem ek_next {y : Code} (h : Wk R P B F Q a s y) : Ek B F (Exit.then (y.wpIn (FR R) 0 P Q) Q) .normal a s := h
theorem ek_then_ret {K : Act → World → Prop} (h : Ek B F Q .ret a s) : Ek B F (Exit.then K Q) .ret a s := h
theorem ek_then_exit {K : Act → World → Prop} {id : Nat} (h : Ek B F Q (.exit id) a s) : Ek B F (Exit.then K Q) (.exit id) a s := h
theorem ek_block {id : Nat} (h : Ek B F Q .normal a s) : Ek B F (Exit.inBlock id Q) .normal a s := h
theorem ek_block_ret {id : Nat} (h : Ek B F Q .ret a s) : Ek B F (Exit.inBlock id Q) .ret a s := h
theorem ek_block_exit {id : Nat} (h : Ek B F Q .normal a s) : Ek B F (Exit.inBlock id Q) (.exit id) a s := fun w K => by simp only [Exit.inBlock, if_true]; exact h w K
theorem ek_block_other {id id' : Nat} (hne : id' ≠ id) (h : Ek B F Q (.exit id') a s) : Ek B F (Exit.inBlock id Q) (.exit id') a s := fun w K => by simp only [Exit.inBlock, if_neg hne]; exact h w K

/-- What lies behind is walked once: M says of the frame and the blocks what it needs. -/
def Mid (B : World) (F : List Nat) (M : Act → List Blk → Prop) (a : Act) (w : World) : Prop := ∃ s, Kn B F s w ∧ M a s
theorem ek_mid {M : Act → List Blk → Prop} (h : M a s) : Ek B F (Exit.then (Mid B F M) Q) .normal a s := fun _ K => ⟨s, K, h⟩
theorem wk_cut {x y : Code} (M : Act → List Blk → Prop) (h1 : Wk R P B F (Exit.then (Mid B F M) Q) a s x) (h2 : ∀ a s, M a s → Wk R P B F Q a s y) : Wk R P B F Q a s (.seq x y) :=
  wk_seq fun w K => wpIn_mono (h1 w K) fun e a' w' h => by
    cases e with
    | normal => obtain ⟨s', K', hM⟩ := h; exact h2 a' s' hM w' K'
    | _ => exact h

theorem least_nat (p : Nat → Prop) (h : ∃ n, p n) : ∃ n, p n ∧ ∀ m, p m → n ≤ m := by
  obtain ⟨n, hn⟩ := h
  induction n using Nat.strongRecOn with
  | _ n ih =>
    by_cases hx : ∃ m, m < n ∧ p m
    · obtain ⟨m, hm, hp⟩ := hx; exact ih m hm hp
    · exact ⟨n, hn, fun m hm => Nat.le_of_not_lt fun hlt => hx ⟨m, hlt, hm⟩⟩

/-- Behind a round: the relation at a smaller number. -/
def Rnd (B : World) (F : List Nat) (I : Nat → Act → List Blk → Prop) (n : Nat) (a : Act) (w : World) : Prop := ∃ m s, m < n ∧ Kn B F s w ∧ I m a s
theorem ek_round {I : Nat → Act → List Blk → Prop} {n : Nat} (m : Nat) (hm : m < n) (h : I m a s) : Ek B F (Exit.then (Rnd B F I n) Q) .normal a s := fun _ K => ⟨m, s, hm, K, h⟩
theorem wk_loop {c : Code} (I : Nat → Act → List Blk → Prop) (n : Nat) (h0 : I n a s)
    (round : ∀ n a s, I n a s → Wk R P B F (Exit.then (Rnd B F I n) Q) a s c) : Wk R P B F Q a s (.loop c) := by
  intro w K
  classical
  let p : Act → World → Nat → Prop := fun a w n => ∃ s, Kn B F s w ∧ I n a s
  let μ : Act → World → Nat := fun a w => if h : ∃ n, p a w n then Classical.choose (least_nat _ h) else 0
  have hμ : ∀ a w n, p a w n → p a w (μ a w) ∧ μ a w ≤ n := by
    intro a w n hp
    have h : ∃ n, p a w n := ⟨n, hp⟩
    have hs := Classical.choose_spec (least_nat _ h)
    simp only [μ, dif_pos h]
    exact ⟨hs.1, hs.2 n hp⟩
  refine wpIn_loop (fun a w => ∃ n, p a w n) μ ⟨n, s, K, h0⟩ ?_
  rintro a w ⟨n, hp⟩
  obtain ⟨⟨s, K, hI⟩, _⟩ := hμ a w n hp
  refine wpIn_mono (round _ a s hI w K) fun e a' w' h => ?_
  cases e with
  | normal =>
    obtain ⟨m, s', hm, K', hI'⟩ := h
    exact ⟨⟨m, s', K', hI'⟩, Nat.lt_of_le_of_lt (hμ a' w' m ⟨s', K', hI'⟩).2 hm⟩
  | _ => exact h
end

/-! ### Loops and cuts by slots: W are the slots that may be written -/
section
variable {R : Option Nat} {P : Program} {Q : Exit → Act → World → Prop} {B : World} {F : List Nat} {a : Act} {s : List Blk}

def Act.puts (a : Act) (W : List Nat) (vs : List Value) : Act := ⟨(W.zip vs).foldl (fun t p => t.setIfInBounds p.1 p.2) a.tmps, a.defers⟩
def Act.vals (a : Act) (W : List Nat) : List Value := W.map fun k => a.tmps.getD k undef

/-- Relation of a loop: the written slots and the blocks. -/
def RelS (W : List Nat) (a0 : Act) (J : Nat → List Value → List Blk → Prop) : Nat → Act → List Blk → Prop := fun n a s => ∃ vs, a = Act.puts a0 W vs ∧ J n vs s
theorem wk_loopS {c : Code} (W : List Nat) (J : Nat → List Value → List Blk → Prop) (n : Nat) (h0 : J n (Act.vals a W) s) (ha : a = Act.puts a W (Act.vals a W))
    (round : ∀ n vs s, J n vs s → Wk R P B F (Exit.then (Rnd B F (RelS W a J) n) Q) (Act.puts a W vs) s c) : Wk R P B F Q a s (.loop c) :=
  wk_loop (RelS W a J) n ⟨_, ha, h0⟩ fun n a' s' h => by
    obtain ⟨vs, rfl, hJ⟩ := h
    exact round n vs s' hJ
theorem ek_roundS {W : List Nat} {a0 : Act} {J : Nat → List Value → List Blk → Prop} {n : Nat} (m : Nat) (hm : m < n) (ha : a = Act.puts a0 W (Act.vals a W)) (h : J m (Act.vals a W) s) :
    Ek B F (Exit.then (Rnd B F (RelS W a0 J) n) Q) .normal a s := ek_round m hm ⟨_, ha, h⟩
def MidS (W : List Nat) (a0 : Act) (J : List Value → List Blk → Prop) : Act → List Blk → Prop := fun a s => ∃ vs, a = Act.puts a0 W vs ∧ J vs s
theorem wk_cutS {x y : Code} (W : List Nat) (J : List Value → List Blk → Prop) (h1 : Wk R P B F (Exit.then (Mid B F (MidS W a J)) Q) a s x)
    (h2 : ∀ vs s, J vs s → Wk R P B F Q (Act.puts a W vs) s y) : Wk R P B F Q a s (.seq x y) :=
  wk_cut (MidS W a J) h1 fun a' s' h => by
    obtain ⟨vs, rfl, hJ⟩ := h
    exact h2 vs s' hJ
theorem ek_midS {W : List Nat} {a0 : Act} {J : List Value → List Blk → Prop} (ha : a = Act.puts a0 W (Act.vals a W)) (h : J (Act.vals a W) s) :
    Ek B F (Exit.then (Mid B F (MidS W a0 J)) Q) .normal a s := ek_mid ⟨_, ha, h⟩
theorem ek_sub {x : Exit} {s' : List Blk} (hs : s'.Sublist s) (h : Ek B F Q x a s') : Ek B F Q x a s := fun w K => h w (K.sub hs)
/-- Another frame for the same. -/
theorem wk_frame {c : Code} {a' : Act} (e : a = a') (h : Wk R P B F Q a' s c) : Wk R P B F Q a s c := e ▸ h
theorem ek_frame {x : Exit} {a' : Act} (e : a = a') (h : Ek B F Q x a' s) : Ek B F Q x a s := e ▸ h

/-- A loop of a known number of rounds. -/
theorem wk_unroll {c : Code} (n : Nat) (h : Wk R P B F (Exit.then (Code.roundsIn (FR R) 0 P c Q n) Q) a s c) : Wk R P B F Q a s (.loop c) :=
  fun w K => wpIn_loop_rounds (n + 1) (by rw [roundsIn_succ]; exact h w K)
theorem ek_again {c : Code} {n : Nat} (h : Wk R P B F (Exit.then (Code.roundsIn (FR R) 0 P c Q n) Q) a s c) : Ek B F (Exit.then (Code.roundsIn (FR R) 0 P c Q (n + 1)) Q) .normal a s :=
  fun w K => by show Code.roundsIn (FR R) 0 P c Q (n + 1) a w; rw [roundsIn_succ]; exact h w K
end

/-! ### Regions -/
section
variable {R : Option Nat} {P : Program} {ops : Array Oper} {Q : Exit → Act → World → Prop} {B : World} {F : List Nat} {s0 : Option (List Blk × List Blk)}

/-- One operation that is carried out. -/
def hop (P : Program) (ops : Array Oper) (Q : Exit → Act → World → Prop) (K : Act → World → Prop) (o : Oper) (a : Act) (w : World) : Prop :=
  if Region.wanted o (yielded ops a.tmps) then o.wp P a w K Q else K (a.put o.dst undef) w
/-- The same where it may be a call of yield. -/
def hopR (R : Option Nat) (P : Program) (ops : Array Oper) (Q : Exit → Act → World → Prop) (K : Act → World → Prop) (o : Oper) (a : Act) (w : World) : Prop :=
  Region.wanted o (yielded ops a.tmps) = true ∧ o.uponIn (FR R) 0 P a K Q ((execOp a.eval o).run P w)

/-- What is known throughout: in a region that keeps the text's order, all; else the first list, behind the marked operation the second. -/
def zOf (s0 : Option (List Blk × List Blk)) (s : List Blk) : List Blk := match s0 with | none => s | some z => z.1
/-- What is known in any case. -/
def yOf (s0 : Option (List Blk × List Blk)) (s : List Blk) : List Blk := match s0 with | none => s | some z => z.2
def Rg (R : Option Nat) (P : Program) (ops : Array Oper) (Q : Exit → Act → World → Prop) (B : World) (F : List Nat) : Option (List Blk × List Blk) → List (Oper × Nat) → Act → List Blk → Prop
  | _, [], a, s => Ek B F Q .normal a s
  | s0, (o, 0) :: l, a, s => ∃ v, YieldsIf P ops (Kn B F (zOf s0 s)) o v a ∧ Rg R P ops Q B F s0 l (a.put o.dst v) s
  | s0, (o, 1) :: l, a, s =>
    (∀ w, Kn B F s w → hop P ops Q (fun a' w' => ∃ s', Kn B F s' w' ∧ (∀ z ∈ s0, z.1.Sublist s') ∧ Rg R P ops Q B F s0 l a' s') o a w) ∨
    (s0 = none ∧ ∀ w, Kn B F s w → hopR R P ops Q (fun a' w' => ∃ s', Kn B F s' w' ∧ Rg R P ops Q B F s0 l a' s') o a w)
  | s0, (o, 2) :: l, a, s => ∃ z, s0 = some z ∧ ∀ w, Kn B F s w → hop P ops Q (fun a' w' => ∃ s', Kn B F s' w' ∧ z.2.Sublist s' ∧ Rg R P ops Q B F (some (z.2, z.2)) l a' s') o a w
  | s0, (o, _ + 3) :: l, a, s => ∃ v, YieldsIf P ops (Kn B F (yOf s0 s)) o v a ∧ Rg R P ops Q B F s0 l (a.put o.dst v) s

theorem hop_mono {K K' : Act → World → Prop} {o : Oper} {a : Act} {w : World} (hk : ∀ a w, K a w → K' a w) (h : hop P ops Q K o a w) : hop P ops Q K' o a w := by
  unfold hop at *
  split
  · rename_i hw; rw [if_pos hw] at h; exact Oper.wp_mono hk h
  · rename_i hw; rw [if_neg hw] at h; exact hk _ _ h
theorem hop_list {K : Act → World → Prop} {o : Oper} {a : Act} {w : World} (h : hop P ops Q K o a w) : wpList P ops (Exit.then K Q) [o] a w := by
  unfold hop at h
  unfold wpList
  split
  · rename_i hw
    rw [if_pos hw] at h
    refine .inl ?_
    unfold Oper.wp at *
    generalize (execOp a.eval o).run P w = r at *
    cases r with
    | ok n w' =>
      cases n <;> simp only [Oper.upon] at h ⊢ <;>
        first
          | exact h
          | exact Calls.mono h (fun e w'' he => by cases e <;> first | exact he | (obtain ⟨a₀, w₀, h₀⟩ := he; exact ⟨a₀, w₀, h₀⟩))
    | halt x w' => cases x <;> simp only [Oper.upon] at h ⊢ <;> exact h
  · rename_i hw
    rw [if_neg hw] at h
    exact h

def noDefer (l : List Oper) : Bool := l.all fun o => match o.op with | .defer _ => false | _ => true
theorem semAt_exec {o : Oper} (h : (match o.op with | .defer _ => false | _ => true) = true) (ρ : Operand → Value) : o.semAt R ρ = execOp ρ o := by
  cases R with
  | none => rfl
  | some l => exact Oper.semAt_some l ρ o (fun c hc => by rw [hc] at h; cases h)

theorem calls_FR {f : Nat} {args : Array Value} {w : World} {X : Ending → World → Prop} (h : Calls P f args w X) : CallsIn (FR R) 0 P f args w X := callsIn_wide.2 h
theorem callsIn_FR {f : Nat} {args : Array Value} {w : World} {X : Ending → World → Prop} {n : Nat} (h : CallsIn (FR R) n P f args w X) : Calls P f args w X := callsIn_wide.1 h
theorem rows_FR {f : String} {args : Array Value} {w : World} {X : Value → World → Prop} (h : Rows P f args w X) : RowsIn (FR R) 0 P f args w X :=
  fun c cs _ => let ⟨v, w', r, st⟩ := h c cs; ⟨v, w', r, stepsIn_wide.2 st⟩

theorem hop_in {K : Act → World → Prop} {o : Oper} {l : List Oper} {a : Act} {w : World} (hd : noDefer (o :: l) = true) (h : hop P ops Q K o a w) (hK : ∀ a w, K a w → wpListIn (FR R) 0 P ops Q l a w) :
    wpListIn (FR R) 0 P ops Q (o :: l) a w := by
  have hd1 : (match o.op with | .defer _ => false | _ => true) = true := by simp only [noDefer, List.all_cons, Bool.and_eq_true] at hd; exact hd.1
  unfold hop at h
  unfold wpListIn
  split
  · rename_i hw
    rw [if_pos hw] at h
    refine ⟨fun _ _ => trivial, ?_⟩
    have hsem : o.semAt (FR R).round a.eval = execOp a.eval o := semAt_exec (R := R) hd1 _
    rw [hsem]
    unfold Oper.wp at h
    generalize (execOp a.eval o).run P w = r at *
    cases r with
    | ok n w' =>
      cases n <;> simp only [Oper.upon, Oper.uponIn] at h ⊢ <;>
        first
          | exact hK _ _ h
          | exact ⟨(fun hh => nomatch hh), calls_FR (h.mono fun e w'' he => by cases e <;> first | exact hK _ _ he | exact he)⟩
          | exact ⟨(fun hh => nomatch hh), rows_FR (h.mono fun _ _ he => hK _ _ he)⟩
    | halt x w' => cases x <;> simp only [Oper.upon, Oper.uponIn] at h ⊢ <;> exact h
  · rename_i hw
    rw [if_neg hw] at h
    exact ⟨fun _ _ => trivial, hK _ _ h⟩

theorem hopR_in {K : Act → World → Prop} {o : Oper} {l : List Oper} {a : Act} {w : World} (hd : noDefer (o :: l) = true) (h : hopR R P ops Q K o a w) (hK : ∀ a w, K a w → wpListIn (FR R) 0 P ops Q l a w) :
    wpListIn (FR R) 0 P ops Q (o :: l) a w := by
  have hd1 : (match o.op with | .defer _ => false | _ => true) = true := by simp only [noDefer, List.all_cons, Bool.and_eq_true] at hd; exact hd.1
  obtain ⟨hw, h⟩ := h
  unfold wpListIn
  rw [if_pos hw]
  refine ⟨fun _ _ => trivial, ?_⟩
  have hsem : o.semAt (FR R).round a.eval = execOp a.eval o := semAt_exec (R := R) hd1 _
  rw [hsem]
  generalize (execOp a.eval o).run P w = r at *
  cases r with
  | ok n w' =>
    cases n <;> simp only [Oper.uponIn] at h ⊢ <;>
      first
        | exact hK _ _ h
        | exact h
        | exact ⟨h.1, h.2.mono fun e w'' he => by cases e <;> first | exact hK _ _ he | exact he⟩
        | exact ⟨h.1, h.2.mono fun _ _ he => hK _ _ he⟩
  | halt x w' => cases x <;> simp only [Oper.uponIn] at h ⊢ <;> exact h

theorem rg_text : ∀ (l : List (Oper × Nat)) (a : Act) (s : List Blk), noDefer (l.map (·.1)) = true → Rg R P ops Q B F none l a s → ∀ w, Kn B F s w → wpListIn (FR R) 0 P ops Q (l.map (·.1)) a w
  | [], _, _, _, h, w, K => h w K
  | (o, 0) :: l, a, s, hd, ⟨v, hy, h⟩, w, K => by
    have hd2 : noDefer (l.map (·.1)) = true := by simp only [noDefer, List.map_cons, List.all_cons, Bool.and_eq_true] at hd; exact hd.2
    simp only [List.map_cons] at hd ⊢
    refine hop_in (K := fun a' w' => a' = a.put o.dst v ∧ w' = w) hd ?_ (fun a' w' ⟨ha, hw⟩ => by subst ha hw; exact rg_text l _ s hd2 h _ K)
    unfold hop
    rcases hy with ⟨hw, hv⟩ | ⟨hw, rfl⟩
    · rw [if_pos hw]; unfold Oper.wp; rw [hv w K]; exact ⟨rfl, rfl⟩
    · rw [if_neg (by simp [hw])]; exact ⟨rfl, rfl⟩
  | (o, 1) :: l, a, s, hd, h, w, K => by
    have hd2 : noDefer (l.map (·.1)) = true := by simp only [noDefer, List.map_cons, List.all_cons, Bool.and_eq_true] at hd; exact hd.2
    simp only [List.map_cons] at hd ⊢
    rcases h with h | ⟨_, h⟩
    · exact hop_in hd (h w K) (fun a' w' ⟨s', K', _, h'⟩ => rg_text l a' s' hd2 h' w' K')
    · exact hopR_in hd (h w K) (fun a' w' ⟨s', K', h'⟩ => rg_text l a' s' hd2 h' w' K')
  | (o, 2) :: l, a, s, hd, h, w, K => by obtain ⟨z, hz, _⟩ := h; cases hz
  | (o, n + 3) :: l, a, s, hd, ⟨v, hy, h⟩, w, K => by
    have hd2 : noDefer (l.map (·.1)) = true := by simp only [noDefer, List.map_cons, List.all_cons, Bool.and_eq_true] at hd; exact hd.2
    simp only [List.map_cons] at hd ⊢
    refine hop_in (K := fun a' w' => a' = a.put o.dst v ∧ w' = w) hd ?_ (fun a' w' ⟨ha, hw⟩ => by subst ha hw; exact rg_text l _ s hd2 h _ K)
    unfold hop
    rcases hy with ⟨hw, hv⟩ | ⟨hw, rfl⟩
    · rw [if_pos hw]; unfold Oper.wp; rw [hv w K]; exact ⟨rfl, rfl⟩
    · rw [if_neg (by simp [hw])]; exact ⟨rfl, rfl⟩

theorem wpOp_of_list1 {K : Act → World → Prop} {i : Nat} {a : Act} {w : World} {o : Oper} (ho : ops[i]? = some o) (h : hop P ops Q K o a w) : wpOp P ops Q i K a w := by
  unfold wpOp
  simp only [ho]
  unfold hop at h
  split
  · rename_i hw; rw [if_pos hw] at h; exact .inl h
  · rename_i hw; rw [if_neg hw] at h; exact h

def mks (i : Nat) (B : World) (F : List Nat) (z : List Blk) : List (Nat × (World → Prop)) := [(i, Kn B F z)]
theorem rg_eag (lo : List Oper) (hlo : ops = lo.toArray) (mk : Nat) : ∀ (ord : List (Nat × Nat)) (z : List Blk × List Blk) (a : Act) (s : List Blk) (m : List (Nat × (World → Prop))),
    (m = [(mk, Kn B F z.2)] ∨ (m = [] ∧ z.1 = z.2 ∧ ∀ p ∈ ord, p.2 ≠ 2)) → (ord.map (·.2)).filter (· == 2) = (if m = [] then [] else [2]) →
    (ord.all fun p => decide (p.1 < lo.length)) = true → Rg R P ops Q B F (some z) (ord.map fun p => (lo.getD p.1 default, p.2)) a s → ∀ w, Kn B F s w → wpEagF P ops Q (Kn B F z.2) ord m (Kn B F z.1) a w
  | [], _, _, _, _, _, _, _, h, w, K => h w K
  | (i, 0) :: l, z, a, s, m, hm, hf, hi, ⟨v, hy, h⟩, w, K => by
    simp only [List.all_cons, Bool.and_eq_true, decide_eq_true_eq] at hi
    have ho : ops[i]? = some (lo.getD i default) := by subst hlo; simp [List.getD_eq_getElem?_getD, hi.1]
    exact ⟨_, v, ho, hy, rg_eag lo hlo mk l z _ s m (hm.imp id fun ⟨x, y, q⟩ => ⟨x, y, fun p hp => q p (by simp [hp])⟩) (by simpa using hf) (by simpa using hi.2) h w K⟩
  | (i, n + 3) :: l, z, a, s, m, hm, hf, hi, ⟨v, hy, h⟩, w, K => by
    simp only [List.all_cons, Bool.and_eq_true, decide_eq_true_eq] at hi
    have ho : ops[i]? = some (lo.getD i default) := by subst hlo; simp [List.getD_eq_getElem?_getD, hi.1]
    exact ⟨_, v, ho, hy, rg_eag lo hlo mk l z _ s m (hm.imp id fun ⟨x, y, q⟩ => ⟨x, y, fun p hp => q p (by simp [hp])⟩) (by simpa [show (n + 3 == 2) = false from by simp] using hf) (by simpa using hi.2) h w K⟩
  | (i, 1) :: l, z, a, s, m, hm, hf, hi, h, w, K => by
    simp only [List.all_cons, Bool.and_eq_true, decide_eq_true_eq] at hi
    have ho : ops[i]? = some (lo.getD i default) := by subst hlo; simp [List.getD_eq_getElem?_getD, hi.1]
    rcases h with h | ⟨hn, _⟩
    · exact wpOp_of_list1 ho (hop_mono (fun a' w' ⟨s', K', hz, h'⟩ => ⟨K'.sub (hz z rfl), rg_eag lo hlo mk l z a' s' m (hm.imp id fun ⟨x, y, q⟩ => ⟨x, y, fun p hp => q p (by simp [hp])⟩) (by simpa using hf) (by simpa using hi.2) h' w' K'⟩) (h w K))
    · cases hn
  | (i, 2) :: l, z, a, s, m, hm, hf, hi, h, w, K => by
    simp only [List.all_cons, Bool.and_eq_true, decide_eq_true_eq] at hi
    have ho : ops[i]? = some (lo.getD i default) := by subst hlo; simp [List.getD_eq_getElem?_getD, hi.1]
    rcases hm with rfl | ⟨rfl, _, q⟩
    · obtain ⟨z', hz', h⟩ := h
      cases hz'
      have h4 : (l.map (·.2)).filter (· == 2) = [] := by
        have := hf
        simp at this
        simpa using this
      have hl1 : ∀ p ∈ l, p.2 ≠ 2 := fun p hp e => by
        have : p.2 ∈ (l.map (·.2)).filter (· == 2) := List.mem_filter.2 ⟨List.mem_map.2 ⟨p, hp, rfl⟩, by simp [e]⟩
        rw [h4] at this; cases this
      show wpOp P ops Q i (fun a' w' => Kn B F z.2 w' ∧ wpEagF P ops Q (Kn B F z.2) l [] (Kn B F z.2) a' w') a w
      exact wpOp_of_list1 ho (hop_mono (fun a' w' ⟨s', K', hz, h'⟩ => ⟨K'.sub hz, rg_eag lo hlo mk l (z.2, z.2) a' s' [] (.inr ⟨rfl, rfl, hl1⟩) (by rw [if_pos rfl]; exact h4) (by simpa using hi.2) h' w' K'⟩) (h w K))
    · exact absurd rfl (q (i, 2) (by simp))

/-- A region in the order of the text; f: which operations are soft. -/
theorem wk_region {id : Nat} {a : Act} {s : List Blk} {l : List Oper} (f : List Nat) (hf : f.length = l.length) (hd : noDefer l = true)
    (h : Rg R P l.toArray Q B F none (l.zip f) a s) : Wk R P B F Q a s (Code.region id l.toArray false) := fun w K =>
  wpIn_region_lit (by have := rg_text (l.zip f) a s (by rw [List.map_fst_zip (by omega)]; exact hd) h w K; rwa [List.map_fst_zip (by omega)] at this)

def marks (ord : List (Nat × Nat)) : List Nat := (ord.filter fun p => p.2 == 2).map (·.1)
/-- A region that draws its order; z: what is known till the marked operation comes up, z1: what is known behind it. -/
theorem wk_draws {id : Nat} {a : Act} {s : List Blk} {l : List Oper} (z z1 : List Blk) (ord : List (Nat × Nat)) (mk : List Nat) (hm : P.follows .mixedOrders = true)
    (hB : ((Region.noSelect l.toArray && (decide (ord.length = l.length) && eagF .any l.toArray ord mk (Array.replicate l.length false))) &&
      ((ord.all fun p => decide (p.1 < l.length)) && (decide (mk.length ≤ 1) && decide ((ord.map (·.2)).filter (· == 2) = mk.map fun _ => 2)))) = true)
    (hQ : ∀ c d v a w, Q (.panic c) (Act.put a d v) w → Q (.panic c) a w) (hz : z.Sublist s) (hzz : mk = [] → z = z1)
    (h : Rg none P l.toArray Q B F (some (z, z1)) (ord.map fun p => (l.getD p.1 default, p.2)) a s) (hy : z1.Sublist z := by exact List.Sublist.refl _) : Wk none P B F Q a s (Code.region id l.toArray true) := fun w K => by
  simp only [Bool.and_eq_true, decide_eq_true_eq, List.all_eq_true] at hB
  obtain ⟨hB1, h1, h3, h4⟩ := hB
  refine wpIn_wide.2 ?_
  match mk, h3, h4, hB1, hzz with
  | [], _, h4, hB1, hzz =>
    refine wp_region_eagF [] (Kn B F z) ord hm (by simp only [Bool.and_eq_true, decide_eq_true_eq]; exact hB1) hQ (K.drew.sub hz) (fun w K => K.sub hy) (fun x hx => nomatch hx) ?_
    refine rg_eag l rfl 0 ord (z, z1) a s [] (.inr ⟨rfl, hzz rfl, fun p hp e => ?_⟩) (by rw [if_pos rfl]; exact h4) (by simpa [List.all_eq_true] using h1) h w.drew K.drew
    have : p.2 ∈ (ord.map (·.2)).filter (· == 2) := List.mem_filter.2 ⟨List.mem_map.2 ⟨p, hp, rfl⟩, by simp [e]⟩
    rw [h4] at this; cases this
  | [x], _, h4, hB1, _ =>
    refine wp_region_eagF [(x, Kn B F z1)] (Kn B F z) ord hm (by simp only [Bool.and_eq_true, decide_eq_true_eq]; exact hB1) hQ (K.drew.sub hz) (fun w K => K.sub hy) (fun x hx w K => by simp only [List.mem_singleton] at hx; subst hx; exact K) ?_
    exact rg_eag l rfl x ord (z, z1) a s [(x, Kn B F z1)] (.inl rfl) (by rw [if_neg (by simp)]; exact h4) (by simpa [List.all_eq_true] using h1) h w.drew K.drew
  | _ :: _ :: _, h3, _, _, _ => simp at h3

/-- All is known till the marked store. -/
theorem wk_draws_m {id : Nat} {a : Act} {s z1 : List Blk} (hz1 : z1.Sublist s) {l : List Oper} (ord : List (Nat × Nat)) (mk : Nat) (hm : P.follows .mixedOrders = true)
    (hB : ((Region.noSelect l.toArray && (decide (ord.length = l.length) && eagF .any l.toArray ord [mk] (Array.replicate l.length false))) &&
      ((ord.all fun p => decide (p.1 < l.length)) && (decide ([mk].length ≤ 1) && decide ((ord.map (·.2)).filter (· == 2) = [mk].map fun _ => 2)))) = true)
    (hQ : ∀ c d v a w, Q (.panic c) (Act.put a d v) w → Q (.panic c) a w)
    (h : Rg none P l.toArray Q B F (some (s, z1)) (ord.map fun p => (l.getD p.1 default, p.2)) a s) : Wk none P B F Q a s (Code.region id l.toArray true) :=
  wk_draws s z1 ord [mk] hm hB hQ (List.Sublist.refl _) (fun e => nomatch e) h hz1
/-- A function with a body. -/
def isGo (P : Program) (f : Nat) : Bool := match P.funcs[f]? with | some fn => !(fn.name == "runtime.NumGoroutine") && !fn.body.isNone | none => false
theorem run_callFunc_go {f : Nat} (h : isGo P f = true) (args : Array Value) (w : World) : (callFunc f args).run P w = .ok (.enter f args) w := by
  unfold isGo at h
  cases hf : P.funcs[f]? with
  | none => rw [hf] at h; cases h
  | some fn =>
    rw [hf] at h
    simp only [Bool.and_eq_true, Bool.not_eq_true'] at h
    have h1 : ¬ fn.name = "runtime.NumGoroutine" := by simpa using h.1
    have h2 : ¬ fn.body = none := fun e => by rw [e] at h; exact absurd h.2 (by simp)
    simp [callFunc, go_sem, hf, h1, h2]

section
variable {l : List (Oper × Nat)} {a : Act} {s : List Blk} {d : Option Tmp} {op : Op} {t : TypeId} {p : String} {af : Array Edge} {v : Value}

/-- An operation yields v and leaves the world; it is carried out and leaves w'. (Names that simp does not open.) -/
def Yld (r : Result Next) (v : Value) (w : World) : Prop := r = .ok (.value v) w
theorem Yld.mk (v : Value) (w : World) : Yld (.ok (.value v) w) v w := rfl
def Dne (r : Result Next) (w : World) : Prop := r = .ok .skip w
theorem Dne.mk (w : World) : Dne (.ok .skip w) w := rfl
theorem rg_nil (h : Ek B F Q .normal a s) : Rg R P ops Q B F s0 [] a s := h
theorem rg_soft (hy : ∀ w, Kn B F (zOf s0 s) w → Yld ((execOp a.eval ⟨d, op, t, p, af, none⟩).run P w) v w) (h : Rg R P ops Q B F s0 l (a.put d v) s) :
    Rg R P ops Q B F s0 ((⟨d, op, t, p, af, none⟩, 0) :: l) a s := ⟨v, .inl ⟨by simp [Region.wanted], hy⟩, h⟩
theorem rg_move {x : Operand} (h : Rg R P ops Q B F s0 l (a.put d (a.eval x)) s) : Rg R P ops Q B F s0 ((⟨d, .move x, t, p, af, none⟩, 0) :: l) a s :=
  rg_soft (fun w _ => BigFrame.run_move x rfl w) h
theorem rg_assign {x : Operand} (h : Rg R P ops Q B F s0 l (a.put d (a.eval x)) s) : Rg R P ops Q B F s0 ((⟨d, .assign x, t, p, af, none⟩, 0) :: l) a s :=
  rg_soft (fun w _ => BigFrame.run_assign x rfl w) h
theorem rg_soft_g {g : Nat × Bool} (hg : Region.wanted ⟨d, op, t, p, af, some g⟩ (yielded ops a.tmps) = true)
    (hy : ∀ w, Kn B F (zOf s0 s) w → Yld ((execOp a.eval ⟨d, op, t, p, af, some g⟩).run P w) v w) (h : Rg R P ops Q B F s0 l (a.put d v) s) :
    Rg R P ops Q B F s0 ((⟨d, op, t, p, af, some g⟩, 0) :: l) a s := ⟨v, .inl ⟨hg, hy⟩, h⟩
theorem rg_skip {g : Nat × Bool} (hg : Region.wanted ⟨d, op, t, p, af, some g⟩ (yielded ops a.tmps) = false)
    (h : Rg R P ops Q B F s0 l (a.put d undef) s) : Rg R P ops Q B F s0 ((⟨d, op, t, p, af, some g⟩, 0) :: l) a s := ⟨undef, .inr ⟨hg, rfl⟩, h⟩

/-! An operation that reads no memory. -/
theorem rg_softP (hy : ∀ w, Kn B F (yOf s0 s) w → Yld ((execOp a.eval ⟨d, op, t, p, af, none⟩).run P w) v w) (h : Rg R P ops Q B F s0 l (a.put d v) s) :
    Rg R P ops Q B F s0 ((⟨d, op, t, p, af, none⟩, 3) :: l) a s := ⟨v, .inl ⟨by simp [Region.wanted], hy⟩, h⟩
theorem rg_moveP {x : Operand} (h : Rg R P ops Q B F s0 l (a.put d (a.eval x)) s) : Rg R P ops Q B F s0 ((⟨d, .move x, t, p, af, none⟩, 3) :: l) a s :=
  rg_softP (fun w _ => BigFrame.run_move x rfl w) h
theorem rg_assignP {x : Operand} (h : Rg R P ops Q B F s0 l (a.put d (a.eval x)) s) : Rg R P ops Q B F s0 ((⟨d, .assign x, t, p, af, none⟩, 3) :: l) a s :=
  rg_softP (fun w _ => BigFrame.run_assign x rfl w) h
theorem rg_softP_g {g : Nat × Bool} (hg : Region.wanted ⟨d, op, t, p, af, some g⟩ (yielded ops a.tmps) = true)
    (hy : ∀ w, Kn B F (yOf s0 s) w → Yld ((execOp a.eval ⟨d, op, t, p, af, some g⟩).run P w) v w) (h : Rg R P ops Q B F s0 l (a.put d v) s) :
    Rg R P ops Q B F s0 ((⟨d, op, t, p, af, some g⟩, 3) :: l) a s := ⟨v, .inl ⟨hg, hy⟩, h⟩
theorem rg_skipP {g : Nat × Bool} (hg : Region.wanted ⟨d, op, t, p, af, some g⟩ (yielded ops a.tmps) = false)
    (h : Rg R P ops Q B F s0 l (a.put d undef) s) : Rg R P ops Q B F s0 ((⟨d, op, t, p, af, some g⟩, 3) :: l) a s := ⟨undef, .inr ⟨hg, rfl⟩, h⟩
theorem rg_softbP {b : Bool} (hy : ∀ w, Kn B F (yOf s0 s) w → Yld ((execOp a.eval ⟨d, op, t, p, af, none⟩).run P w) (.bool b) w) (h : ∀ x, b = x → Rg R P ops Q B F s0 l (a.put d (.bool x)) s) :
    Rg R P ops Q B F s0 ((⟨d, op, t, p, af, none⟩, 3) :: l) a s := rg_softP hy (h b rfl)
theorem rg_softbP_g {b : Bool} {g : Nat × Bool} (hg : Region.wanted ⟨d, op, t, p, af, some g⟩ (yielded ops a.tmps) = true)
    (hy : ∀ w, Kn B F (yOf s0 s) w → Yld ((execOp a.eval ⟨d, op, t, p, af, some g⟩).run P w) (.bool b) w) (h : ∀ x, b = x → Rg R P ops Q B F s0 l (a.put d (.bool x)) s) :
    Rg R P ops Q B F s0 ((⟨d, op, t, p, af, some g⟩, 3) :: l) a s := rg_softP_g hg hy (h b rfl)
/-- A truth value on which the way parts. -/
theorem rg_softb {b : Bool} (hy : ∀ w, Kn B F (zOf s0 s) w → Yld ((execOp a.eval ⟨d, op, t, p, af, none⟩).run P w) (.bool b) w) (h : ∀ x, b = x → Rg R P ops Q B F s0 l (a.put d (.bool x)) s) :
    Rg R P ops Q B F s0 ((⟨d, op, t, p, af, none⟩, 0) :: l) a s := rg_soft hy (h b rfl)
theorem rg_softb_g {b : Bool} {g : Nat × Bool} (hg : Region.wanted ⟨d, op, t, p, af, some g⟩ (yielded ops a.tmps) = true)
    (hy : ∀ w, Kn B F (zOf s0 s) w → Yld ((execOp a.eval ⟨d, op, t, p, af, some g⟩).run P w) (.bool b) w) (h : ∀ x, b = x → Rg R P ops Q B F s0 l (a.put d (.bool x)) s) :
    Rg R P ops Q B F s0 ((⟨d, op, t, p, af, some g⟩, 0) :: l) a s := rg_soft_g hg hy (h b rfl)
/-- An operation that is carried out, its run being known. -/
theorem rg_run {g : Option (Nat × Bool)} (hg : Region.wanted ⟨d, op, t, p, af, g⟩ (yielded ops a.tmps) = true)
    (h : ∀ w, Kn B F s w → ∃ v w' s', ((execOp a.eval ⟨d, op, t, p, af, g⟩).run P w = .ok (.value v) w' ∨ (v = undef ∧ (execOp a.eval ⟨d, op, t, p, af, g⟩).run P w = .ok .skip w')) ∧ Kn B F s' w' ∧ (∀ z ∈ s0, z.1.Sublist s') ∧ Rg R P ops Q B F s0 l (a.put d v) s') :
    Rg R P ops Q B F s0 ((⟨d, op, t, p, af, g⟩, 1) :: l) a s := by
  refine .inl fun w K => ?_
  obtain ⟨v, w', s', hr, K', hz, h'⟩ := h w K
  unfold hop
  rw [if_pos hg]
  unfold Oper.wp
  rcases hr with hr | ⟨rfl, hr⟩ <;> rw [hr]
  · exact ⟨s', K', hz, h'⟩
  · exact ⟨s', K', hz, h'⟩

theorem rg_sub : ∀ {s0 : Option (List Blk × List Blk)} {l : List (Oper × Nat)} {a : Act} {s s' : List Blk}, s'.Sublist s → (∀ z ∈ s0, z.1.Sublist s') → Rg R P ops Q B F s0 l a s' → Rg R P ops Q B F s0 l a s
  | _, [], _, _, _, hs, _, h => fun w K => h w (K.sub hs)
  | s0, (o, 0) :: l, a, s, s', hs, hz, ⟨v, hy, h⟩ => ⟨v, (by
      cases s0 with
      | none => exact hy.imp (fun ⟨x, y⟩ => ⟨x, fun w K => y w (K.sub hs)⟩) id
      | some z => exact hy), rg_sub hs hz h⟩
  | s0, (o, 1) :: l, a, s, s', hs, hz, h => h.imp (fun h w K => h w (K.sub hs)) (fun ⟨e, h⟩ => ⟨e, fun w K => h w (K.sub hs)⟩)
  | s0, (o, 2) :: l, a, s, s', hs, hz, h => let ⟨z, e, h⟩ := h; ⟨z, e, fun w K => h w (K.sub hs)⟩
  | s0, (o, n + 3) :: l, a, s, s', hs, hz, ⟨v, hy, h⟩ => ⟨v, (by
      cases s0 with
      | none => exact hy.imp (fun ⟨x, y⟩ => ⟨x, fun w K => y w (K.sub hs)⟩) id
      | some z => exact hy), rg_sub hs hz h⟩
theorem rg_skip_h {g : Nat × Bool} (hg : Region.wanted ⟨d, op, t, p, af, some g⟩ (yielded ops a.tmps) = false) (hz : ∀ z ∈ s0, z.1.Sublist s)
    (h : Rg R P ops Q B F s0 l (a.put d undef) s) : Rg R P ops Q B F s0 ((⟨d, op, t, p, af, some g⟩, 1) :: l) a s :=
  .inl fun w K => by unfold hop; rw [if_neg (by simp [hg])]; exact ⟨s, K, hz, h⟩
/-- A new block (alloc, box). -/
theorem rg_new {cs : Array Value} {ty : Nat} {gd : Option (Nat × Bool)} (hg : Region.wanted ⟨d, op, t, p, af, gd⟩ (yielded ops a.tmps) = true) (hr : ∀ w : World, (execOp a.eval ⟨d, op, t, p, af, gd⟩).run P w = .ok (.value (.pointer (some ⟨w.heap.size, 0, none⟩))) (w.alloc (.cells cs ty)))
    (hz : ∀ z ∈ s0, z.1.Sublist s) (h : ∀ g, Rg R P ops Q B F s0 l (a.put d (.pointer (some ⟨g, 0, none⟩))) ((g, .cells cs ty) :: s)) :
    Rg R P ops Q B F s0 ((⟨d, op, t, p, af, gd⟩, 1) :: l) a s :=
  rg_run hg fun w K => ⟨_, _, _, .inl (hr w), K.alloc _, fun z hz' => (hz z hz').cons _, h _⟩

/-- A store. -/
theorem rg_store {s' : List Blk} (hr : ∀ w, Kn B F s w → ∃ w', Dne ((execOp a.eval ⟨d, op, t, p, af, none⟩).run P w) w' ∧ Kn B F s' w')
    (hz : ∀ z ∈ s0, z.1.Sublist s') (h : Rg R P ops Q B F s0 l (a.put d undef) s') :
    Rg R P ops Q B F s0 ((⟨d, op, t, p, af, none⟩, 1) :: l) a s :=
  rg_run (by simp [Region.wanted]) fun w K => let ⟨w', h1, h2⟩ := hr w K; ⟨undef, w', s', .inr ⟨rfl, h1⟩, h2, hz, h⟩

/-- A store that is marked: behind it other things are known. -/
theorem rg_storeM {z : List Blk × List Blk} {s' : List Blk} (hr : ∀ w, Kn B F s w → ∃ w', Dne ((execOp a.eval ⟨d, op, t, p, af, none⟩).run P w) w' ∧ Kn B F s' w')
    (hz : z.2.Sublist s') (h : Rg R P ops Q B F (some (z.2, z.2)) l (a.put d undef) s') :
    Rg R P ops Q B F (some z) ((⟨d, op, t, p, af, none⟩, 2) :: l) a s :=
  ⟨z, rfl, fun w K => by
    obtain ⟨w', h1, h2⟩ := hr w K
    unfold hop
    rw [if_pos (by simp [Region.wanted])]
    unfold Oper.wp
    rw [h1]
    exact ⟨s', h2, hz, h⟩⟩
/-- A call of a function that is named. -/
theorem rg_call {f : Nat} {cargs : Array Operand} {at_ : Array TypeId} {args : Array Value} {gd : Option (Nat × Bool)} (hg : Region.wanted ⟨d, .call ⟨.value (.func f), cargs, at_⟩, t, p, af, gd⟩ (yielded ops a.tmps) = true) (hgo : isGo P f = true) (hargs : cargs.map a.eval = args)
    (h : ∀ w, Kn B F s w → Calls P f args w (fun e w' => ∃ v s', e = .returned v ∧ Kn B F s' w' ∧ (∀ z ∈ s0, z.1.Sublist s') ∧ Rg R P ops Q B F s0 l (a.put d v) s')) :
    Rg R P ops Q B F s0 ((⟨d, .call ⟨.value (.func f), cargs, at_⟩, t, p, af, gd⟩, 1) :: l) a s := by
  refine .inl fun w K => ?_
  unfold hop
  rw [if_pos hg]
  unfold Oper.wp
  have hr : (execOp a.eval ⟨d, .call ⟨.value (.func f), cargs, at_⟩, t, p, af, gd⟩).run P w = .ok (.enter f args) w := by
    have he : #[] ++ cargs.map a.eval ++ #[] = args := by simpa using hargs
    rw [execOp_call_go, he]
    exact run_callFunc_go hgo args w
  rw [hr]
  refine (h w K).mono fun e w' he => ?_
  obtain ⟨v, s', rfl, K', hz, h'⟩ := he
  exact ⟨s', K', hz, h'⟩
/-- A call that computes a value and leaves what was there. -/
theorem rg_pure {f : Nat} {cargs : Array Operand} {at_ : Array TypeId} {args : Array Value} {v : Value} {gd : Option (Nat × Bool)} (hg : Region.wanted ⟨d, .call ⟨.value (.func f), cargs, at_⟩, t, p, af, gd⟩ (yielded ops a.tmps) = true) (hgo : isGo P f = true)
    (h : ∀ w, Kn B F s w → Calls P f args w (fun e w' => e = .returned v ∧ Below w.heap.size w w')) (hargs : cargs.map a.eval = args)
    (hz : ∀ z ∈ s0, z.1.Sublist s) (k : Rg R P ops Q B F s0 l (a.put d v) s) :
    Rg R P ops Q B F s0 ((⟨d, .call ⟨.value (.func f), cargs, at_⟩, t, p, af, gd⟩, 1) :: l) a s :=
  rg_call hg hgo hargs fun w K => (h w K).mono fun e w' ⟨he, hb⟩ => ⟨v, s, he, K.call hb, hz, k⟩
theorem rg_pureb {f : Nat} {cargs : Array Operand} {at_ : Array TypeId} {args : Array Value} {b : Bool} {gd : Option (Nat × Bool)} (hg : Region.wanted ⟨d, .call ⟨.value (.func f), cargs, at_⟩, t, p, af, gd⟩ (yielded ops a.tmps) = true) (hgo : isGo P f = true)
    (h : ∀ w, Kn B F s w → Calls P f args w (fun e w' => e = .returned (.bool b) ∧ Below w.heap.size w w')) (hargs : cargs.map a.eval = args)
    (hz : ∀ z ∈ s0, z.1.Sublist s) (k : ∀ x, b = x → Rg R P ops Q B F s0 l (a.put d (.bool x)) s) :
    Rg R P ops Q B F s0 ((⟨d, .call ⟨.value (.func f), cargs, at_⟩, t, p, af, gd⟩, 1) :: l) a s := rg_pure hg hgo h hargs hz (k b rfl)
/-- A call that returns a value of which R is known, with blocks that it has made. -/
theorem rg_made {f : Nat} {cargs : Array Operand} {at_ : Array TypeId} {args : Array Value} {T : Value → List Blk → Prop} {gd : Option (Nat × Bool)} (hg : Region.wanted ⟨d, .call ⟨.value (.func f), cargs, at_⟩, t, p, af, gd⟩ (yielded ops a.tmps) = true) (hgo : isGo P f = true)
    (h : ∀ w, Kn B F s w → Calls P f args w (fun e w' => ∃ v u, e = .returned v ∧ T v u ∧ Made w u w')) (hargs : cargs.map a.eval = args)
    (hz : ∀ z ∈ s0, z.1.Sublist s) (k : ∀ v u, T v u → Rg R P ops Q B F s0 l (a.put d v) (u ++ s)) :
    Rg R P ops Q B F s0 ((⟨d, .call ⟨.value (.func f), cargs, at_⟩, t, p, af, gd⟩, 1) :: l) a s :=
  rg_call hg hgo hargs fun w K => (h w K).mono fun e w' ⟨v, u, he, hT, hm⟩ => ⟨v, u ++ s, he, K.add hm, fun z hz' => (hz z hz').trans (List.sublist_append_right _ _), k v u hT⟩
end
theorem res_t {fn : Func} {tmps : Array Value} {w : World} (k : Nat) (h : fn.results = #[.tmp k]) : (results fn tmps).run P w = .ok (tmps.getD k undef) w := by
  simp [results, h]
theorem res_0 {fn : Func} {tmps : Array Value} {w : World} (h : fn.results = #[]) : (results fn tmps).run P w = .ok (.tuple #[]) w := by
  simp [results, h]
theorem res_tt {fn : Func} {tmps : Array Value} {w : World} (k j : Nat) (h : fn.results = #[.tmp k, .tmp j]) : (results fn tmps).run P w = .ok (.tuple #[tmps.getD k undef, tmps.getD j undef]) w := by
  simp [results, h]
theorem res_ttt {fn : Func} {tmps : Array Value} {w : World} (k j i : Nat) (h : fn.results = #[.tmp k, .tmp j, .tmp i]) : (results fn tmps).run P w = .ok (.tuple #[tmps.getD k undef, tmps.getD j undef, tmps.getD i undef]) w := by
  simp [results, h]
/-- The end of a body. -/
theorem ek_ret {fn : Func} {R : Ending → World → Prop} {a : Act} {s : List Blk} (h : ∀ w, Kn B F s w → a.defers = [] ∧ ∃ v, (results fn a.tmps).run P w = .ok v w ∧ R (.returned v) w) :
    Ek B F (bodyPost P fn R) .ret a s := h
theorem ek_norm {fn : Func} {R : Ending → World → Prop} {a : Act} {s : List Blk} (h : ∀ w, Kn B F s w → a.defers = [] ∧ ∃ v, (results fn a.tmps).run P w = .ok v w ∧ R (.returned v) w) :
    Ek B F (bodyPost P fn R) .normal a s := h
end
end Go.Proofs.Ytpbbbfglecbceaa
/- A range over a function, over lists of known blocks: rounds, calls of yield, the statement, the end of a function that holds one. -/
namespace Go.Proofs.Ytpbbbfglecbceaa
set_option linter.all false
open Go.RowKit

/-- One object of the list becomes another. -/
inductive Rep (g : Nat) (o o' : Obj) : List Blk → List Blk → Prop
  | here (s : List Blk) : Rep g o o' ((g, o) :: s) ((g, o') :: s)
  | there (b : Blk) {s s' : List Blk} : Rep g o o' s s' → Rep g o o' (b :: s) (b :: s')

section
variable {B w w' : World} {F : List Nat} {s s' : List Blk} {g : Nat} {o o' : Obj}
theorem Rep.names (h : Rep g o o' s s') : s'.map (·.1) = s.map (·.1) := by
  induction h with
  | here => rfl
  | there b _ ih => simp [ih]
theorem Rep.mem (h : Rep g o o' s s') : (g, o) ∈ s := by
  induction h with
  | here s => simp
  | there b _ ih => simp [ih]
theorem Rep.spec (h : Rep g o o' s s') (hn : (s.map (·.1)).Nodup) : ∀ b ∈ s', (b ∈ s ∧ b.1 ≠ g) ∨ b = (g, o') := by
  induction h with
  | here s =>
    intro b hb
    rcases List.mem_cons.1 hb with rfl | hb
    · exact .inr rfl
    · refine .inl ⟨by simp [hb], fun e => ?_⟩
      simp only [List.map_cons, List.nodup_cons] at hn
      exact hn.1 (e ▸ List.mem_map.2 ⟨b, hb, rfl⟩)
  | there c h ih =>
    intro b hb
    simp only [List.map_cons, List.nodup_cons] at hn
    rcases List.mem_cons.1 hb with rfl | hb
    · refine .inl ⟨by simp, fun e => ?_⟩
      exact hn.1 (List.mem_map.2 ⟨_, h.mem, e.symm⟩)
    · rcases ih hn.2 b hb with ⟨h1, h2⟩ | h1
      · exact .inl ⟨by simp [h1], h2⟩
      · exact .inr h1

theorem Kn.rep (h : Kn B F s w) (hr : Rep g o o' s s') : Kn B F s' (w.putObj g o') := by
  have hsp := hr.spec h.nodup
  have hg := h.new _ hr.mem
  have hlt : g < w.heap.size := h.lt hr.mem
  refine ⟨h.os, h.tape, h.output, by rw [World.putObj_size]; exact h.size, ?_, ?_, ?_, by rw [hr.names]; exact h.nodup⟩
  · intro k hk hF
    refine (World.putObj_heap_other ?_).trans (h.old k hk hF)
    rcases hg with hg | hg
    · exact fun e => hF (e ▸ hg)
    · simp at hg; omega
  · intro b hb
    rcases hsp b hb with ⟨h1, h2⟩ | rfl
    · exact (World.putObj_heap_other h2).trans (h.own b h1)
    · exact World.putObj_heap_same hlt
  · intro b hb
    rcases hsp b hb with ⟨h1, _⟩ | rfl
    · exact h.new b h1
    · exact hg
end

section
variable {R : Option Nat} {P : Program} {ops : Array Oper} {Q : Exit → Act → World → Prop} {B : World} {F : List Nat} {a : Act} {s s' : List Blk} {X : Ending → World → Prop} {l : Nat} {r : Loop}

/-- A round, out of the walk of its assignments and its body. -/
theorem roundIn_kn {tmps : Array Value} (hrep : Rep l (.loop r) (.loop { r with state := .busy }) s s') (hr : r.state = .ready)
    (h : Wk (some l) P B F (Exit.then (fun a₁ w₁ => Kn B F s w₁ ∧ Wk (some l) P B F (roundPost P l X) a₁ s' r.body) (fun _ _ _ => False)) ⟨tmps, []⟩ s r.assign)
    {w : World} (K : Kn B F s w) : RoundIn (FR R) 0 P l r.fn tmps r.assign r.body w X := by
  refine roundIn_of_wpIn trivial (wpIn_mono (h w K) fun e a₁ w₁ hq => ?_)
  cases e with
  | normal =>
    obtain ⟨K₁, hb⟩ := hq
    exact ⟨_, run_beginRound (K₁.own _ hrep.mem) hr, hb _ (K₁.rep hrep)⟩
  | _ => exact hq
theorem ek_asg {c : Code} (h : Wk (some l) P B F (roundPost P l X) a s' c) :
    Ek B F (Exit.then (fun a₁ w₁ => Kn B F s w₁ ∧ Wk (some l) P B F (roundPost P l X) a₁ s' c) (fun _ _ _ => False)) .normal a s := fun _ K => ⟨K, h⟩
theorem ek_roundEnd (hrep : Rep l (.loop r) (.loop { r with state := .ready, pending := none }) s s') (h : ∀ w, Kn B F s' w → X (.returned (.bool true)) w) :
    Ek B F (roundPost P l X) .normal a s := fun w K => ⟨_, _, run_endRound none (K.own _ hrep.mem), h _ (K.rep hrep)⟩
theorem ek_roundRet (hrep : Rep l (.loop r) (.loop { r with state := .done, pending := some .ret }) s s') (h : ∀ w, Kn B F s' w → X (.returned (.bool false)) w) :
    Ek B F (roundPost P l X) .ret a s := fun w K => ⟨_, _, run_endRound (some .ret) (K.own _ hrep.mem), h _ (K.rep hrep)⟩
theorem ek_roundExit {id : Nat} (hrep : Rep l (.loop r) (.loop { r with state := .done, pending := some (.exit id) }) s s') (h : ∀ w, Kn B F s' w → X (.returned (.bool false)) w) :
    Ek B F (roundPost P l X) (.exit id) a s := fun w K => ⟨_, _, run_endRound (some (.exit id)) (K.own _ hrep.mem), h _ (K.rep hrep)⟩

theorem run_call_yield {d : Option Tmp} {fo : Operand} {cargs : Array Operand} {at_ : Array TypeId} {t : TypeId} {p : String} {af : Array Edge} {gd : Option (Nat × Bool)} {vs : Array Value} {w : World}
    (hf : a.eval fo = .func (.yield l) #[] #[]) (hargs : cargs.map a.eval = vs) (hl : w.heap[l]? = some (.loop r)) (hsz : vs.size = r.params.size) :
    (execOp a.eval ⟨d, .call ⟨.value fo, cargs, at_⟩, t, p, af, gd⟩).run P w =
      .ok (.round l r.fn ((r.params.zip vs).foldl (fun tmps (t, a) => tmps.setIfInBounds t a) r.tmps) r.assign r.body) w := by
  have hx : execOp a.eval ⟨d, .call ⟨.value fo, cargs, at_⟩, t, p, af, gd⟩ = (do let d ← resolve a.eval ⟨.value fo, cargs, at_⟩ t; invoke d.target d.args) := rfl
  have hv : (resolve a.eval ⟨.value fo, cargs, at_⟩ t) = pure { target := .fn (.yield l) #[], args := #[] ++ vs } := by
    simp only [resolve, hf, hargs, Deferred.ofValue]
  rw [hx, hv]
  have : (#[] ++ vs : Array Value) = vs := by simp
  rw [this]
  exact run_yield hl hsz

/-- A call of yield. -/
theorem rg_yield {d : Option Tmp} {fo : Operand} {cargs : Array Operand} {at_ : Array TypeId} {t : TypeId} {p : String} {af : Array Edge} {gd : Option (Nat × Bool)} {lst : List (Oper × Nat)} {vs : Array Value}
    (hg : Region.wanted ⟨d, .call ⟨.value fo, cargs, at_⟩, t, p, af, gd⟩ (yielded ops a.tmps) = true)
    (hf : a.eval fo = .func (.yield l) #[] #[]) (hargs : cargs.map a.eval = vs) (hsz : vs.size = r.params.size) (hm : (l, Obj.loop r) ∈ s)
    (h : ∀ w, Kn B F s w → RoundIn (FR R) 0 P l r.fn ((r.params.zip vs).foldl (fun tmps (t, a) => tmps.setIfInBounds t a) r.tmps) r.assign r.body w
      (fun e w' => ∃ v s', e = .returned v ∧ Kn B F s' w' ∧ Rg R P ops Q B F none lst (a.put d v) s')) :
    Rg R P ops Q B F none ((⟨d, .call ⟨.value fo, cargs, at_⟩, t, p, af, gd⟩, 1) :: lst) a s := by
  refine .inr ⟨rfl, fun w K => ⟨hg, ?_⟩⟩
  rw [run_call_yield hf hargs (K.own _ hm) hsz]
  refine ⟨(fun hh => nomatch hh), (h w K).mono fun e w' he => ?_⟩
  obtain ⟨v, s', rfl, K', hr⟩ := he
  exact ⟨s', K', hr⟩

/-- What the function that is ranged over must leave. -/
def Ranged (P : Program) (B : World) (F : List Nat) (Q : Exit → Act → World → Prop) (a : Act) (l d : Nat) (e : Ending) (w : World) : Prop :=
  ∃ v s' r' s'', e = .returned v ∧ Kn B F s' w ∧ Rep l (.loop r') (.loop { r' with state := .exhausted }) s' s'' ∧ r'.state ≠ .busy ∧
    (match r'.pending with
     | none => Ek B F Q .normal { a with defers := ⟨.collected d, #[]⟩ :: a.defers } s''
     | some c => Wk none P B F Q { a with defers := ⟨.collected d, #[]⟩ :: a.defers } s'' c)

theorem wk_rangeFunc {g : Operand} {ps : Array Tmp} {assign body : Code} {f : Nat} {caps : Array Value} (hf : a.eval g = .func (.func f) #[] caps) (hgo : isGo P f = true)
    (h : ∀ (fn d l : Nat) (w : World), Kn B F ((l, .loop { state := .ready, pending := none, fn, tmps := a.tmps, params := ps, assign, body, defers := d }) :: (d, .deferred (some [])) :: s) w →
      Calls P f (#[.func (.yield l) #[] #[]] ++ caps) w (Ranged P B F Q a l d)) :
    Wk none P B F Q a s (.rangeFunc g ps assign body) := by
  intro w K
  refine wpIn_rangeFunc fun fn _ => ?_
  have he := run_enterLoop_outer (P := P) (w := w) fn a.tmps ps assign body
  generalize hW : (w.alloc (.deferred (some []))).alloc (.loop { state := .ready, pending := none, fn, tmps := a.tmps, params := ps, assign, body, defers := w.heap.size }) = W at he
  refine ⟨w.heap.size + 1, [{ target := .collected w.heap.size, args := #[] }], W, { target := .fn (.func f) caps, args := #[.func (.yield (w.heap.size + 1)) #[] #[]] }, W, f,
    #[.func (.yield (w.heap.size + 1)) #[] #[]] ++ caps, W, he, ?_, (fun _ _ => trivial), ?_, (fun hh => nomatch hh), ?_⟩
  · have hv : (resolve a.eval (rangeCall g (w.heap.size + 1)) 0) = pure { target := .fn (.func f) caps, args := #[] ++ #[.func (.yield (w.heap.size + 1)) #[] #[]] } := by
      have hc : ∀ v, a.eval (.const v) = v := fun _ => rfl
      simp only [resolve, hf, Deferred.ofValue, List.map_toArray, List.map_cons, List.map_nil, hc]
    rw [hv]
    rfl
  · show (callFunc f (_ ++ caps)).run P _ = _
    exact run_callFunc_go hgo _ _
  · have K1 := (K.alloc (.deferred (some []))).alloc (.loop { state := .ready, pending := none, fn, tmps := a.tmps, params := ps, assign, body, defers := w.heap.size })
    rw [sA, hW] at K1
    refine calls_FR ((h fn w.heap.size (w.heap.size + 1) _ K1).mono fun e w' he => ?_)
    obtain ⟨v, s', r', s'', rfl, K', hrep, hb, hq⟩ := he
    refine ⟨r'.pending, _, run_endLoop (K'.own _ hrep.mem) hb, ?_⟩
    have K2 := K'.rep hrep
    cases hp : r'.pending with
    | none => rw [hp] at hq K2; exact hq _ K2
    | some c => rw [hp] at hq K2; exact hq _ K2

/-- A function that holds a range over a function. -/
theorem calls_marks {f : Nat} {fn : Func} {c : Code} {args : Array Value} {w : World} (hf : P.funcs[f]? = some fn) (hb : fn.body = some c)
    (h : Wk none P w [] (bodyPostM (FR none) 0 P fn X) { tmps := args ++ Array.replicate (fn.ntmps - args.size) undef, defers := [] } [] c) : Calls P f args w X :=
  callsIn_FR (R := none) (callsIn_of_wp_marks hf hb trivial (h w (Kn.start w)))
theorem calls_marksF {f : Nat} {fn : Func} {c : Code} {args : Array Value} {w : World} {s : List Blk} {F : List Nat} (K : Kn w F s w) (hf : P.funcs[f]? = some fn) (hb : fn.body = some c)
    (h : Wk none P w F (bodyPostM (FR none) 0 P fn X) { tmps := args ++ Array.replicate (fn.ntmps - args.size) undef, defers := [] } s c) : Calls P f args w X :=
  callsIn_FR (R := none) (callsIn_of_wp_marks hf hb trivial (h w K))
theorem ek_retM0 {fn : Func} {tmps : Array Value} (h : ∀ w, Kn B F s w → ∃ v, (results fn tmps).run P w = .ok v w ∧ X (.returned v) w) :
    Ek B F (bodyPostM (FR none) 0 P fn X) .ret ⟨tmps, []⟩ s := fun w K => h w K
theorem ek_normM0 {fn : Func} {tmps : Array Value} (h : ∀ w, Kn B F s w → ∃ v, (results fn tmps).run P w = .ok v w ∧ X (.returned v) w) :
    Ek B F (bodyPostM (FR none) 0 P fn X) .normal ⟨tmps, []⟩ s := fun w K => h w K
theorem ek_retM1 {fn : Func} {tmps : Array Value} {d : Nat} (hrep : Rep d (.deferred (some [])) (.deferred none) s s') (h : ∀ w, Kn B F s' w → ∃ v, (results fn tmps).run P w = .ok v w ∧ X (.returned v) w) :
    Ek B F (bodyPostM (FR none) 0 P fn X) .ret ⟨tmps, [⟨.collected d, #[]⟩]⟩ s := fun w K =>
  ⟨by simp, .inl ⟨d, _, rfl, run_takeDeferred (K.own _ hrep.mem), h _ (K.rep hrep)⟩⟩
theorem ek_normM1 {fn : Func} {tmps : Array Value} {d : Nat} (hrep : Rep d (.deferred (some [])) (.deferred none) s s') (h : ∀ w, Kn B F s' w → ∃ v, (results fn tmps).run P w = .ok v w ∧ X (.returned v) w) :
    Ek B F (bodyPostM (FR none) 0 P fn X) .normal ⟨tmps, [⟨.collected d, #[]⟩]⟩ s := fun w K =>
  ⟨by simp, .inl ⟨d, _, rfl, run_takeDeferred (K.own _ hrep.mem), h _ (K.rep hrep)⟩⟩
end

/-! ### Calls that change blocks of the list -/
section
variable {B w w' : World} {F G : List Nat} {s u rest : List Blk}
/-- What a call leaves that may change the blocks G, which all lie in the list: rest is the list without them. -/
theorem Kn.eff (K : Kn B F s w) (hc : Kn w G u w') (hsub : rest.Sublist s) (hG : ∀ g ∈ G, g ∈ s.map (·.1)) (hrest : ∀ b ∈ rest, b.1 ∉ G) : Kn B F (u ++ rest) w' := by
  have hGn : ∀ g ∈ G, g ∈ F ∨ B.heap.size ≤ g := fun g hg => by
    obtain ⟨b, hb, rfl⟩ := List.mem_map.1 (hG g hg)
    exact K.new b hb
  refine ⟨hc.os.trans K.os, hc.tape.trans K.tape, hc.output.trans K.output, Nat.le_trans K.size hc.size, ?_, ?_, ?_, ?_⟩
  · intro k hk hF
    refine (hc.old k (Nat.lt_of_lt_of_le hk K.size) fun hg => ?_).trans (K.old k hk hF)
    rcases hGn k hg with h | h
    · exact hF h
    · omega
  · intro b hb
    rcases List.mem_append.1 hb with hb | hb
    · exact hc.own b hb
    · have hbs := hsub.subset hb
      exact (hc.old b.1 (K.lt hbs) (hrest b hb)).trans (K.own b hbs)
  · intro b hb
    rcases List.mem_append.1 hb with hb | hb
    · rcases hc.new b hb with h | h
      · exact hGn _ h
      · exact .inr (Nat.le_trans K.size h)
    · exact K.new b (hsub.subset hb)
  · rw [List.map_append]
    refine List.nodup_append.2 ⟨hc.nodup, (hsub.map _).nodup K.nodup, ?_⟩
    intro x hx y hy e
    subst e
    obtain ⟨p, hp, rfl⟩ := List.mem_map.1 hx
    obtain ⟨q, hq, hqp⟩ := List.mem_map.1 hy
    rcases hc.new p hp with h | h
    · exact hrest q hq (hqp ▸ h)
    · have := K.lt (hsub.subset hq)
      omega

/-- A list whose head blocks are those that change. -/
theorem Kn.effApp {v : List Blk} (K : Kn B F (v ++ rest) w) (hc : Kn w (v.map (·.1)) u w') : Kn B F (u ++ rest) w' := by
  refine K.eff hc (List.sublist_append_right _ _) (fun g hg => by rw [List.map_append]; exact List.mem_append_left _ hg) (fun b hb hg => ?_)
  have := K.nodup
  rw [List.map_append] at this
  exact (List.nodup_append.1 this).2.2 _ hg _ (List.mem_map.2 ⟨b, hb, rfl⟩) rfl
/-- The blocks at hand as footprint of a call. -/
theorem Kn.self {v : List Blk} (K : Kn B F (v ++ rest) w) : Kn w (v.map (·.1)) v w :=
  ⟨rfl, rfl, rfl, Nat.le_refl _, fun _ _ _ => rfl, fun b hb => K.own b (List.mem_append_left _ hb), fun b hb => .inl (List.mem_map.2 ⟨b, hb, rfl⟩),
    (List.nodup_append.1 (by have := K.nodup; rwa [List.map_append] at this)).1⟩
/-- The list in another order. -/
theorem Kn.perm {s' : List Blk} (K : Kn B F s w) (h : s.Perm s') : Kn B F s' w :=
  ⟨K.os, K.tape, K.output, K.size, K.old, fun b hb => K.own b (h.mem_iff.2 hb), fun b hb => K.new b (h.mem_iff.2 hb), (h.map _).nodup K.nodup⟩
end
end Go.Proofs.Ytpbbbfglecbceaa
/- Slices over lists of known blocks: what came in; what the call owns; append, make, literals. -/
namespace Go.Proofs.Ytpbbbfglecbceaa
set_option linter.all false
open Go.RowKit

/-- A slice's cells, as they read in w. -/
def AS (w : World) (a : Option Addr) (xs : List Value) : Prop := xs ≠ [] → ∃ b off, a = some ⟨b, off, none⟩ ∧ b < w.heap.size ∧ ∀ j, j < xs.length → w.cell? ⟨b, off + j, none⟩ = xs[j]?

section
variable {B w w' : World} {F : List Nat} {s : List Blk} {a : Option Addr} {xs : List Value}
theorem AS.nil : AS w a [] := fun h => absurd rfl h
theorem AS.below (h : AS w a xs) (hb : Below w.heap.size w w') : AS w' a xs := fun hne => by
  obtain ⟨b, off, rfl, hlt, hc⟩ := h hne
  exact ⟨b, off, rfl, Nat.lt_of_lt_of_le hlt hb.size, fun j hj => (hb.cell (p := ⟨b, off + j, none⟩) hlt).trans (hc j hj)⟩
theorem AS.kn (h : AS B a xs) (K : Kn B F s w) (hF : ∀ b off, a = some ⟨b, off, none⟩ → b ∉ F) : AS w a xs := fun hne => by
  obtain ⟨b, off, rfl, hlt, hc⟩ := h hne
  exact ⟨b, off, rfl, Nat.lt_of_lt_of_le hlt K.size, fun j hj => (K.cellB hlt (hF b off rfl) _).trans (hc j hj)⟩
theorem AS.kn0 (h : AS B a xs) (K : Kn B [] s w) : AS w a xs := h.kn K (fun _ _ _ => by simp)

theorem Kn.tlU {u : List Blk} (K : Kn B F (u ++ s) w) : Kn B F s w := K.sub (List.sublist_append_right _ _)
theorem Upd.app {g i : Nat} {x : Value} {s s' : List Blk} (u : List Blk) (h : Upd g i x s s') : Upd g i x (u ++ s) (u ++ s') := by
  induction u with
  | nil => exact h
  | cons b u ih => exact .there b ih
theorem Rep.app {g : Nat} {o o' : Obj} {s s' : List Blk} (u : List Blk) (h : Rep g o o' s s') : Rep g o o' (u ++ s) (u ++ s') := by
  induction u with
  | nil => exact h
  | cons b u ih => exact .there b ih
theorem Kn.mod {g : Nat} {o o' : Obj} (K : Kn B F ((g, o) :: s) w) (h1 : w'.os = w.os) (h2 : w'.tape = w.tape) (h3 : w'.output = w.output) (h4 : w.heap.size ≤ w'.heap.size)
    (h5 : ∀ k, k < w.heap.size → k ≠ g → w'.heap[k]? = w.heap[k]?) (h6 : w'.heap[g]? = some o') : Kn B F ((g, o') :: s) w' := by
  have hn := List.nodup_cons.1 K.nodup
  refine ⟨h1.trans K.os, h2.trans K.tape, h3.trans K.output, Nat.le_trans K.size h4, ?_, ?_, ?_, List.nodup_cons.2 hn⟩
  · intro k hk hF
    refine (h5 k (Nat.lt_of_lt_of_le hk K.size) fun e => ?_).trans (K.old k hk hF)
    subst e
    rcases K.new (k, o) (by simp) with h | h
    · exact hF h
    · simp at h; omega
  · intro b hb
    rcases List.mem_cons.1 hb with rfl | hb
    · exact h6
    · refine (h5 b.1 (K.lt (by simp [hb])) fun e => ?_).trans (K.own b (by simp [hb]))
      exact hn.1 (e ▸ List.mem_map.2 ⟨b, hb, rfl⟩)
  · intro b hb
    rcases List.mem_cons.1 hb with rfl | hb
    · exact K.new (g, o) (by simp)
    · exact K.new b (by simp [hb])
end

/-- A slice that the call owns whole; u: its block, if there is one. -/
def Own (e size : Nat) (u : List Blk) (v : Value) (n : Nat) (xs : List Value) : Prop :=
  xs.length = n * size ∧ ((u = [] ∧ v = .slice none 0 0 ∧ n = 0) ∨
    ∃ g cap cur, u = [(g, .cells cur e)] ∧ v = .slice (some ⟨g, 0, none⟩) n cap ∧ n ≤ cap ∧ cap ≤ maxLen ∧ cur.size = cap * size ∧ cur.toList.take (n * size) = xs)

theorem Own.nil (e size : Nat) : Own e size [] (.slice none 0 0) 0 [] := ⟨by simp, .inl ⟨rfl, rfl, rfl⟩⟩
/-- A block that was just made whole. -/
theorem Own.whole {e size g n : Nat} {cur : Array Value} (h : cur.size = n * size) (hn : n ≤ maxLen) : Own e size [(g, .cells cur e)] (.slice (some ⟨g, 0, none⟩) n n) n cur.toList :=
  ⟨by simpa using h, .inr ⟨g, n, cur, rfl, rfl, Nat.le_refl _, hn, h, List.take_of_length_le (by simp [h])⟩⟩
theorem Own.as {e size : Nat} {u s : List Blk} {v : Value} {n : Nat} {xs : List Value} {B w : World} {F : List Nat} (h : Own e size u v n xs) (K : Kn B F (u ++ s) w) : ∃ a cap, v = .slice a n cap ∧ AS w a xs := by
  obtain ⟨hl, ⟨rfl, rfl, rfl⟩ | ⟨g, cap, cur, rfl, rfl, hc, hm, hs, ht⟩⟩ := h
  · have : xs = [] := List.eq_nil_of_length_eq_zero (by simpa using hl)
    subst this
    exact ⟨none, 0, rfl, AS.nil⟩
  · have hd : Hd w g e cur := Kn.hd0 K
    refine ⟨_, cap, rfl, fun hne => ⟨g, 0, rfl, hd.lt, fun j hj => ?_⟩⟩
    rw [hd.cell, ← ht, List.getElem?_take, if_pos (by omega)]
    simp
theorem Own.val {e size : Nat} {u : List Blk} {v : Value} {n : Nat} {xs : List Value} (h : Own e size u v n xs) : ∃ a cap, v = .slice a n cap ∧ n ≤ cap := by
  obtain ⟨hl, ⟨rfl, rfl, rfl⟩ | ⟨g, cap, cur, rfl, rfl, hc, hm, hs, ht⟩⟩ := h
  · exact ⟨none, 0, rfl, Nat.le_refl _⟩
  · exact ⟨_, _, rfl, hc⟩

section
variable {R : Option Nat} {P : Program} {ops : Array Oper} {Q : Exit → Act → World → Prop} {B : World} {F : List Nat} {s0 : Option (List Blk × List Blk)}
variable {l : List (Oper × Nat)} {a : Act} {s S : List Blk} {d : Option Tmp} {op : Op} {t : TypeId} {p : String} {af : Array Edge} {v : Value}

/-- A slice literal, a make. -/
theorem rg_newS {cs : Array Value} {ty n c : Nat} {gd : Option (Nat × Bool)} (hg : Region.wanted ⟨d, op, t, p, af, gd⟩ (yielded ops a.tmps) = true) (hr : ∀ w : World, (execOp a.eval ⟨d, op, t, p, af, gd⟩).run P w = .ok (.value (.slice (some ⟨w.heap.size, 0, none⟩) n c)) (w.alloc (.cells cs ty)))
    (hz : ∀ z ∈ s0, z.1.Sublist s) (h : ∀ g, Rg R P ops Q B F s0 l (a.put d (.slice (some ⟨g, 0, none⟩) n c)) ((g, .cells cs ty) :: s)) :
    Rg R P ops Q B F s0 ((⟨d, op, t, p, af, gd⟩, 1) :: l) a s :=
  rg_run hg fun w K => ⟨_, _, _, .inl (hr w), K.alloc _, fun z hz' => (hz z hz').cons _, h _⟩

theorem rg_make {lo co : Operand} {ty e : Nat} {i : TypeInfo} {z : Value} {n : Nat} {kl kc : IntKind} {gd : Option (Nat × Bool)} (hg : Region.wanted ⟨d, .makeSlice ty lo co, t, p, af, gd⟩ (yielded ops a.tmps) = true) (ht : P.underlying ty = some (.slice e)) (hi : P.info? e = some i) (hz : i.zero = some z)
    (hl : a.eval lo = .int kl n) (hc : a.eval co = .int kc n) (hb : (i.bytes : Int) * n ≤ 281474976710656) (hn : (n : Int) ≤ 9223372036854775807)
    (hzz : ∀ z ∈ s0, z.1.Sublist s) (h : ∀ g, Rg R P ops Q B F s0 l (a.put d (.slice (some ⟨g, 0, none⟩) n n)) ((g, .cells (madeCells z.cells (n * i.size)) e) :: s)) :
    Rg R P ops Q B F s0 ((⟨d, .makeSlice ty lo co, t, p, af, gd⟩, 1) :: l) a s := by
  refine rg_newS hg (fun w => ?_) hzz h
  have hr := run_make (P := P) w ty e i z ht hi hz kl kc n n (by omega) (Int.le_refl _) hb hn
  simp only [Int.toNat_natCast] at hr
  have hx : execOp a.eval ⟨d, .makeSlice ty lo co, t, p, af, gd⟩ = (do pure (.value (← Instr.makeSlice ty (a.eval lo) (a.eval co)))) := rfl
  rw [hx, hl, hc, Sem.run_bind, hr]
  rfl

/-- append of known cells to a slice that the call owns. -/
theorem rg_append {u : List Blk} {so xo : Operand} {ty e : Nat} {i : TypeInfo} {z : Value} {size bytes n m c : Nat} {xs news : List Value} {ad : Addr} {gd : Option (Nat × Bool)} (hg : Region.wanted ⟨d, .call ⟨.builtin .append, #[so, xo], #[ty, ty]⟩, t, p, af, gd⟩ (yielded ops a.tmps) = true)
    (ht : P.underlying ty = some (.slice e)) (hi : P.info? e = some i) (hz : i.zero = some z) (hsize : i.size = size) (hby : i.bytes = bytes) (hzs : z.cells.size = size) (hsz : 0 < size)
    (hs : a.eval so = v) (hown : Own e size u v n xs) (hx : a.eval xo = .slice (some ad) m c) (hl : news.length = m * size)
    (hnews : ∀ w, Kn B F S w → ∀ j x, news[j]? = some x → w.cell? (ad.add j) = some x) (h1 : ∀ x ∈ news, x.oneCell' = true)
    (h63 : n + m ≤ maxLen) (hbytes : (n + m) * bytes ≤ 140737488355328) (hp : S.Perm (u ++ s)) (hzz : ∀ z ∈ s0, z.1.Sublist s)
    (h : ∀ u' v', Own e size u' v' (n + m) (xs ++ news) → (v' = .slice none 0 0 ↔ v = .slice none 0 0 ∧ m = 0) → Rg R P ops Q B F s0 l (a.put d v') (u' ++ s)) :
    Rg R P ops Q B F s0 ((⟨d, .call ⟨.builtin .append, #[so, xo], #[ty, ty]⟩, t, p, af, gd⟩, 1) :: l) a S := by
  refine rg_run hg fun w K => ?_
  have hnews := hnews w K
  have K' := K.perm hp
  have key : ∃ v' w' u', (Builtin.append_ #[ty, ty] t #[v, .slice (some ad) m c]).run P w = .ok v' w' ∧ Own e size u' v' (n + m) (xs ++ news) ∧ Kn B F (u' ++ s) w' ∧
      (v' = .slice none 0 0 ↔ v = .slice none 0 0 ∧ m = 0) := by
    subst hsize
    subst hby
    have hsmall : n + m ≤ 9223372036854775807 := by simp only [maxLen] at h63; omega
    have hxl := hown.1
    have hlen : (xs ++ news).length = (n + m) * i.size := by rw [List.length_append, hxl, hl, Nat.add_mul]
    have grown : ∀ old : Nat, old < n + m → Own e i.size [(w.heap.size, .cells (xs.toArray ++ news.toArray ++ Builtin.zeroCells z.cells (grownCap w (n + m) old e - (n + m))) e)]
        (.slice (some ⟨w.heap.size, 0, none⟩) (n + m) (grownCap w (n + m) old e)) (n + m) (xs ++ news) := by
      intro old ho
      have hge := grownCap_ge w (n + m) old e
      have hcm : grownCap w (n + m) old e ≤ maxLen := grownCap_le_maxLen w (n + m) old e h63
      refine ⟨hlen, .inr ⟨w.heap.size, _, _, rfl, rfl, hge, hcm, ?_, ?_⟩⟩
      · simp only [Array.size_append, List.size_toArray, size_zeroCells, hzs, hxl, hl, ← Nat.add_mul]
        congr 1
        omega
      · simp only [Array.toList_append, List.append_assoc]
        rw [← List.append_assoc, ← hlen]
        exact List.take_left
    rcases hown.2 with ⟨rfl, rfl, rfl⟩ | ⟨g, cap, cur, rfl, rfl, hnc, hcm, hcs, htake⟩
    · have hx0 : xs = [] := List.eq_nil_of_length_eq_zero (by simpa using hxl)
      subst hx0
      by_cases hm : m = 0
      · subst hm
        have hn0 : news = [] := List.eq_nil_of_length_eq_zero (by simpa using hl)
        subst hn0
        refine ⟨.slice none 0 0, w, [], ?_, Own.nil e i.size, K', by simp⟩
        simp [Builtin.append_, run_underlying ht, sizeOf, typeInfo, hi, Builtin.lenOf, Builtin.firstCells, loadCells, loadCellsFrom]
      · have hr := run_append_nil (P := P) w ty t e i z ht hi hz ad m c news hl hnews (by omega) (by omega) (by have hb := hbytes; simp only [Nat.zero_add] at hb; omega)
        have hgr := grown 0 (by omega)
        simp only [Nat.zero_add, List.nil_append, Array.empty_append] at hgr ⊢
        exact ⟨_, _, _, hr, hgr, K'.drew.alloc _, by simp [hm]⟩
    · have hd : w.heap[g]? = some (.cells cur e (0, 0)) := Kn.hd0 K'
      by_cases hroom : n + m ≤ cap
      · have hfit : n * i.size + news.length ≤ cur.size := by rw [hl, hcs, ← Nat.add_mul]; exact Nat.mul_le_mul_right _ hroom
        have hr := run_append_room (P := P) w ty t e i ht hi g n cap cur hd ad m c news hl hnews h1 hroom hfit
        refine ⟨_, _, _, hr, ⟨hlen, .inr ⟨g, cap, _, rfl, rfl, hroom, hcm, ?_, ?_⟩⟩, Kn.mod K' rfl rfl rfl (by simp) (fun k _ hk => setRow_other w g k _ (fun e => hk e)) (setRow_heap w g cur _ e _ hd), by simp⟩
        · simp only [List.size_toArray, List.length_append, List.length_take, List.length_drop, Array.length_toList]
          omega
        · rw [htake, ← hlen]
          exact List.take_left
      · have holds : ∀ j x, xs[j]? = some x → w.cell? ((⟨g, 0, none⟩ : Addr).add j) = some x := by
          intro j x hj
          have hlt : j < xs.length := (List.getElem?_eq_some_iff.1 hj).1
          have : (⟨g, 0, none⟩ : Addr).add j = ⟨g, j, none⟩ := by unfold Addr.add; split <;> simp_all
          rw [this, (Kn.hd0 K' : Hd w g e cur).cell, ← hj, ← htake, List.getElem?_take, if_pos (by omega)]
          simp
        have hr := run_append_grow (P := P) w ty t e i z ht hi hz ⟨g, 0, none⟩ n cap xs hxl holds ad m c news hl hnews (by omega) (by omega) (growslice_fits (by omega) hbytes)
        have hgr := grown cap (by omega)
        exact ⟨_, _, _, hr, hgr, (K'.tl).drew.alloc _, by simp⟩
  obtain ⟨v', w', u', hr, hO, hK, hnil⟩ := key
  refine ⟨v', w', u' ++ s, .inl ?_, hK, fun z hz' => (hzz z hz').trans (List.sublist_append_right _ _), h u' v' hO hnil⟩
  have hx1 : execOp a.eval ⟨d, .call ⟨.builtin .append, #[so, xo], #[ty, ty]⟩, t, p, af, gd⟩ = (do let d ← resolve a.eval ⟨.builtin .append, #[so, xo], #[ty, ty]⟩ t; invoke d.target d.args) := rfl
  rw [hx1]
  simp only [resolve, invoke, builtin, Sem.run_bind, Sem.run_pure, Result.andThen_ok, List.map_toArray, List.map_cons, List.map_nil, hs, hx, hr]
end
end Go.Proofs.Ytpbbbfglecbceaa
/- Short names for lemmas that printed walks use at every step. -/
namespace Go.Proofs.Ytpbbbfglecbceaa
set_option linter.all false
theorem q1 {α : Type} {xs : List α} {i : Nat} {a : α} : xs.toArray.setIfInBounds i a = (xs.set i a).toArray := List.setIfInBounds_toArray ..
theorem q2 {α : Type} {x a : α} {xs : List α} : (x :: xs).set 0 a = a :: xs := rfl
theorem q3 {α : Type} {x a : α} {xs : List α} {n : Nat} : (x :: xs).set (n + 1) a = x :: xs.set n a := rfl
theorem q4 {α : Type} {xs : Array α} {i : Nat} {d : α} : xs.getD i d = xs[i]?.getD d := Array.getD_eq_getD_getElem? ..
theorem q5 {α : Type} {xs : List α} {i : Nat} : xs.toArray[i]? = xs[i]? := List.getElem?_toArray ..
theorem q6 {α : Type} {x : α} {xs : List α} : (x :: xs)[0]? = some x := rfl
theorem q7 {α : Type} {x : α} {xs : List α} {n : Nat} : (x :: xs)[n + 1]? = xs[n]? := rfl
theorem q8 {α : Type} {x y : α} : (some x).getD y = x := rfl
end Go.Proofs.Ytpbbbfglecbceaa
