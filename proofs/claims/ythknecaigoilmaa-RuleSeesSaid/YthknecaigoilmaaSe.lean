/- Labels as sets of bits with a level: what is below what; what a policy's calls on labels compute. No conditions but size. -/
import Derived.Test.YthknecaigoilmaaPr
import Derived.Test.YthknecaigoilmaaLm
namespace Go.Proofs.Ythknecaigoilmaa.Pure
set_option linter.unusedVariables false
set_option linter.unusedSimpArgs false
open Go Go.Ev Go.Pu Go.Lm
/-- Each bit of the one is one of the other. -/
def subB (a b : Nat) : Prop := ∀ i, a.testBit i = true → b.testBit i = true
theorem andNot_sub {a b : Nat} (ha : a < 18446744073709551616) (hb : b < 18446744073709551616) : (bits .andNot .u64 (a : Int) (b : Int) == 0) = true ↔ subB a b := by
  rw [andNot64 ha hb, beq_iff_eq]
  have hb' : ∀ i, (18446744073709551615 - b).testBit i = (decide (i < 64) && !b.testBit i) := fun i => by
    have := Nat.testBit_two_pow_sub_succ (x := b) (n := 64) (by omega) i
    rwa [show 2 ^ 64 - (b + 1) = 18446744073709551615 - b by omega] at this
  constructor
  · intro h i hi
    have h0 : a &&& (18446744073709551615 - b) = 0 := by omega
    have hz : (a &&& (18446744073709551615 - b)).testBit i = false := by rw [h0]; exact Nat.zero_testBit i
    rw [Nat.testBit_and, hi, hb', Bool.true_and] at hz
    have h64 : i < 64 := by
      refine Classical.byContradiction fun hc => ?_
      have : a.testBit i = false := Nat.testBit_lt_two_pow (Nat.lt_of_lt_of_le (show a < 2 ^ 64 from ha) (Nat.pow_le_pow_right (by decide) (by omega)))
      rw [this] at hi
      cases hi
    simpa [h64] using hz
  · intro h
    have : a &&& (18446744073709551615 - b) = 0 := by
      apply Nat.eq_of_testBit_eq
      intro i
      rw [Nat.testBit_and, hb', Nat.zero_testBit]
      cases hi : a.testBit i with
      | false => rfl
      | true => rw [h i hi]; simp
    rw [this]
    rfl
/-- A label within bounds. -/
def LabOk (l : Sapi_Label) : Prop := (0 ≤ l.f_Set ∧ l.f_Set < 256) ∧ (0 ≤ l.f_Level ∧ l.f_Level ≤ 3)
def below (a b : Sapi_Label) : Prop := subB a.f_Set.toNat b.f_Set.toNat ∧ a.f_Level ≤ b.f_Level
def join (a b : Sapi_Label) : Sapi_Label := ⟨((a.f_Set.toNat ||| b.f_Set.toNat : Nat) : Int), if b.f_Level > a.f_Level then b.f_Level else a.f_Level⟩
def meet (a b : Sapi_Label) : Sapi_Label := ⟨((a.f_Set.toNat &&& b.f_Set.toNat : Nat) : Int), if b.f_Level < a.f_Level then b.f_Level else a.f_Level⟩
theorem LabOk.join {a b : Sapi_Label} (ha : LabOk a) (hb : LabOk b) : LabOk (join a b) := by
  obtain ⟨⟨a1, a2⟩, a3⟩ := ha
  obtain ⟨⟨b1, b2⟩, b3⟩ := hb
  have : a.f_Set.toNat ||| b.f_Set.toNat < 2 ^ 8 := Nat.or_lt_two_pow (by omega) (by omega)
  unfold LabOk Pure.join
  dsimp only
  refine ⟨⟨by omega, by omega⟩, ?_⟩
  split <;> omega
theorem LabOk.meet {a b : Sapi_Label} (ha : LabOk a) (hb : LabOk b) : LabOk (meet a b) := by
  obtain ⟨⟨a1, a2⟩, a3⟩ := ha
  obtain ⟨⟨b1, b2⟩, b3⟩ := hb
  have : a.f_Set.toNat &&& b.f_Set.toNat ≤ a.f_Set.toNat := Nat.and_le_left
  unfold LabOk Pure.meet
  dsimp only
  refine ⟨⟨by omega, by omega⟩, ?_⟩
  split <;> omega
theorem below.trans {a b c : Sapi_Label} (h : below a b) (h' : below b c) : below a c := ⟨fun i hi => h'.1 i (h.1 i hi), Int.le_trans h.2 h'.2⟩
theorem below.refl (a : Sapi_Label) : below a a := ⟨fun _ h => h, Int.le_refl _⟩
theorem below_left (a b : Sapi_Label) : below a (join a b) := by
  refine ⟨fun i hi => ?_, ?_⟩
  · show ((a.f_Set.toNat ||| b.f_Set.toNat : Nat) : Int).toNat.testBit i = true
    rw [Int.toNat_natCast, Nat.testBit_or, hi, Bool.true_or]
  · show a.f_Level ≤ if b.f_Level > a.f_Level then b.f_Level else a.f_Level
    split <;> omega
theorem below_right (a b : Sapi_Label) : below b (join a b) := by
  refine ⟨fun i hi => ?_, ?_⟩
  · show ((a.f_Set.toNat ||| b.f_Set.toNat : Nat) : Int).toNat.testBit i = true
    rw [Int.toNat_natCast, Nat.testBit_or, hi, Bool.or_true]
  · show b.f_Level ≤ if b.f_Level > a.f_Level then b.f_Level else a.f_Level
    split <;> omega
theorem meet_right (a b : Sapi_Label) : below (meet a b) b := by
  refine ⟨fun i hi => ?_, ?_⟩
  · replace hi : ((a.f_Set.toNat &&& b.f_Set.toNat : Nat) : Int).toNat.testBit i = true := hi
    rw [Int.toNat_natCast, Nat.testBit_and, Bool.and_eq_true] at hi
    exact hi.2
  · show (if b.f_Level < a.f_Level then b.f_Level else a.f_Level) ≤ b.f_Level
    split <;> omega
theorem Below_eq (k : Nat) {a b : Sapi_Label} (ha : LabOk a) (hb : LabOk b) : ∃ v, label_Below.f k a b = some v ∧ (v = true ↔ below a b) := by
  obtain ⟨s, lv⟩ := a
  obtain ⟨t, lw⟩ := b
  obtain ⟨⟨a1, a2⟩, a3⟩ := ha
  obtain ⟨⟨b1, b2⟩, b3⟩ := hb
  dsimp only at *
  obtain ⟨m, rfl⟩ : ∃ m : Nat, s = (m : Int) := ⟨s.toNat, by omega⟩
  obtain ⟨n, rfl⟩ : ∃ n : Nat, t = (n : Int) := ⟨t.toNat, by omega⟩
  have h := andNot_sub (a := m) (b := n) (by omega) (by omega)
  unfold label_Below.f below
  dsimp only
  rw [Int.toNat_natCast, Int.toNat_natCast]
  cases hc : bits .andNot .u64 (m : Int) (n : Int) == 0 with
  | true => exact ⟨_, rfl, by rw [decide_eq_true_iff]; exact ⟨fun h' => ⟨h.1 hc, h'⟩, fun h' => h'.2⟩⟩
  | false => exact ⟨_, rfl, ⟨fun h' => (by cases h'), fun h' => (by rw [h.2 h'.1] at hc; cases hc)⟩⟩
theorem Join_eq (k : Nat) {a b : Sapi_Label} (ha : LabOk a) (hb : LabOk b) : label_Join.f k a b = some (join a b) := by
  obtain ⟨s, lv⟩ := a
  obtain ⟨t, lw⟩ := b
  obtain ⟨⟨a1, a2⟩, a3⟩ := ha
  obtain ⟨⟨b1, b2⟩, b3⟩ := hb
  dsimp only at *
  obtain ⟨m, rfl⟩ : ∃ m : Nat, s = (m : Int) := ⟨s.toNat, by omega⟩
  obtain ⟨n, rfl⟩ : ∃ n : Nat, t = (n : Int) := ⟨t.toNat, by omega⟩
  unfold label_Join.f join
  dsimp only
  rw [or64 (by omega) (by omega), Int.toNat_natCast, Int.toNat_natCast]
theorem Meet_eq (k : Nat) {a b : Sapi_Label} (ha : LabOk a) (hb : LabOk b) : label_Meet.f k a b = some (meet a b) := by
  obtain ⟨s, lv⟩ := a
  obtain ⟨t, lw⟩ := b
  obtain ⟨⟨a1, a2⟩, a3⟩ := ha
  obtain ⟨⟨b1, b2⟩, b3⟩ := hb
  dsimp only at *
  obtain ⟨m, rfl⟩ : ∃ m : Nat, s = (m : Int) := ⟨s.toNat, by omega⟩
  obtain ⟨n, rfl⟩ : ∃ n : Nat, t = (n : Int) := ⟨t.toNat, by omega⟩
  unfold label_Meet.f meet
  dsimp only
  rw [and64 (by omega) (by omega), Int.toNat_natCast, Int.toNat_natCast]
/-- An entity's label. -/
noncomputable def labE (p : Sapi_Policy) (e : Int) : Sapi_Label := ⟨2 ^ e.toNat, (p.f_Ents.getD e.toNat Sapi_Ent.zero).f_Level⟩
theorem labE_ok {p : Sapi_Policy} (h : PolOk p) {e : Int} (he : 0 ≤ e ∧ e < p.f_Ents.length) : LabOk (labE p e) := by
  have hn := h.ents
  have hl := (h.entsOk e.toNat (by omega)).1
  have : e = 0 ∨ e = 1 ∨ e = 2 ∨ e = 3 := by omega
  refine ⟨?_, hl⟩
  unfold labE
  dsimp only
  rcases this with rfl | rfl | rfl | rfl <;> decide
theorem Label_eq {k : Nat} (hk : 1000 < k) {p : Sapi_Policy} (h : PolOk p) {e : Int} (he : 0 ≤ e ∧ e < p.f_Ents.length) : rule_Label.f k p e = some (labE p e) := by
  have hn := h.ents
  have hl := (h.entsOk e.toNat (by omega)).1
  unfold rule_Label.f
  refine bof (v := (e, false, p.f_Ents, p.f_Groups, p.f_Who, p.f_Up, p.f_Rules, 0, 0)) ?_ ?_
  · refine bof (Right_ok hk h) ?_
    rw [Bool.not_true, cond_false, wrapi (by omega)]
    exact bof (within_t k (by omega)) rfl
  dsimp only
  rw [cond_false, inb_t (by omega) (by omega), cond_true]
  refine bof (v := labE p e) ?_ rfl
  unfold label_Of.f labE
  generalize (p.f_Ents.getD e.toNat Sapi_Ent.zero).f_Level = lv at hl
  have hlv : (if (if (3 : Int) < lv then 3 else lv) > 0 then (if (3 : Int) < lv then 3 else lv) else 0) = lv := by
    rw [if_neg (show ¬ (3 : Int) < lv by omega)]
    split <;> omega
  rw [hlv]
  refine bof (v := (e, true, 0, 0, 0, lv)) ?_ ?_
  · rw [ct (show e ≥ 0 by omega), decide_eq_true (show e < 8 by omega)]
  dsimp only
  rw [cond_true]
  exact bof (bit_eq k (i := e) (by omega)).1 rfl
theorem Sees_eq {k : Nat} (hk : 1000 < k) {p : Sapi_Policy} (h : PolOk p) {who : Int} (hw : 0 ≤ who ∧ who < p.f_Who.length) {l : Sapi_Label} (hl : LabOk l) :
    ∃ v, rule_Sees.f k p who l = some v ∧ (v = true ↔ below l (p.f_Who.getD who.toNat Sapi_Who.zero).f_Clear) := by
  have hn := h.who
  have ho := h.whoOk _ (memD Sapi_Who.zero (show who.toNat < p.f_Who.length by omega))
  obtain ⟨v, h1, h2⟩ := Below_eq k hl (show LabOk (p.f_Who.getD who.toNat Sapi_Who.zero).f_Clear from ⟨ho.1, ho.2.1⟩)
  refine ⟨v, ?_, h2⟩
  unfold rule_Sees.f
  refine bof (Right_ok hk h) ?_
  rw [cond_true, wrapi (by omega)]
  refine bof (within_t k (by omega)) ?_
  rw [cond_true, inb_t (by omega) (by omega), cond_true]
  exact bof h1 rfl
end Go.Proofs.Ythknecaigoilmaa.Pure
