/-
  THE REFERENCE's ANSWERS IN PLAIN LEAN: bits, instructions, traps, words, memory: each is what the program computes (own work). Conditions: none but those that a lemma names.
-/
import Derived.Test.YtnikheoiciokhaaDoorSxG
namespace Go.Sx.G
open Go Go.Sx
set_option linter.unusedVariables false
set_option linter.unusedSimpArgs false

/-! bits -/
/-- Field: 'n' bits from 'at'. -/
def rField (w : BitVec 32) (a n : Nat) : BitVec 32 := BitVec.ofNat 32 (w.toNat / 2 ^ a % 2 ^ n)
theorem rField_toNat (w : BitVec 32) (a n : Nat) : (rField w a n).toNat = w.toNat / 2 ^ a % 2 ^ n := by
  unfold rField
  rw [BitVec.toNat_ofNat]
  apply Nat.mod_eq_of_lt
  have h1 := w.isLt
  have h2 : w.toNat / 2 ^ a ≤ w.toNat := Nat.div_le_self _ _
  have h3 : w.toNat / 2 ^ a % 2 ^ n ≤ w.toNat / 2 ^ a := Nat.mod_le _ _
  omega
theorem extract_toNat (w : BitVec 32) (a n : Nat) (hn : n ≤ 32) : (extract w a n).toNat = w.toNat / 2 ^ a % 2 ^ n := by
  have h1 := w.isLt
  have hn64 : (2 : Nat) ^ n < 2 ^ 64 := Nat.pow_lt_pow_right (by omega) (by omega)
  have hpos : 0 < 2 ^ n := Nat.two_pow_pos n
  have e1 : (w.setWidth 64 >>> a).toNat = w.toNat / 2 ^ a := by
    rw [BitVec.toNat_ushiftRight, BitVec.toNat_setWidth, Nat.shiftRight_eq_div_pow, Nat.mod_eq_of_lt (by omega)]
  have e2 : ((1#64 <<< n) - 1#64).toNat = 2 ^ n - 1 := by
    have e3 : (1#64 <<< n).toNat = 2 ^ n := by
      rw [BitVec.toNat_shiftLeft]
      simp only [BitVec.toNat_ofNat, Nat.shiftLeft_eq]
      rw [Nat.mod_eq_of_lt (by simp : 1 < 2 ^ 64), Nat.one_mul, Nat.mod_eq_of_lt hn64]
    rw [BitVec.toNat_sub, e3]
    simp only [BitVec.toNat_ofNat]
    rw [Nat.mod_eq_of_lt (by simp : 1 < 2 ^ 64)]
    rw [show 2 ^ 64 - 1 + 2 ^ n = (2 ^ n - 1) + 2 ^ 64 by omega, Nat.add_mod_right, Nat.mod_eq_of_lt (by omega)]
  unfold extract low64
  rw [BitVec.toNat_setWidth, BitVec.toNat_and, e1, e2, Nat.and_two_pow_sub_one_eq_mod]
  apply Nat.mod_eq_of_lt
  have h2 : w.toNat / 2 ^ a ≤ w.toNat := Nat.div_le_self _ _
  have h3 : w.toNat / 2 ^ a % 2 ^ n ≤ w.toNat / 2 ^ a := Nat.mod_le _ _
  omega
theorem field_law (w : BitVec 32) (a n : Nat) (hn : n ≤ 32) : extract w a n = rField w a n := by
  apply BitVec.eq_of_toNat_eq
  rw [extract_toNat w a n hn, rField_toNat]

/-- A bit of a word. -/
theorem rField1 (w : BitVec 32) (i : Nat) : rField w i 1 = if w.getLsbD i then 1#32 else 0#32 := by
  apply BitVec.eq_of_toNat_eq
  rw [rField_toNat]
  simp only [BitVec.getLsbD, Nat.testBit_eq_decide_div_mod_eq, Nat.pow_one]
  have := Nat.mod_two_eq_zero_or_one (w.toNat / 2 ^ i)
  rcases this with h | h <;> simp [h]
/-- Put: bit by bit. -/
def rPutAt (w : BitVec 32) (a n : Nat) (v : BitVec 32) : Nat → BitVec 64
  | 0 => 0#64
  | i + 1 => rPutAt w a n v i + (if a ≤ i ∧ i < a + n then rField v (i - a) 1 else rField w i 1).setWidth 64 * BitVec.ofNat 64 (2 ^ i)
def rPut (w : BitVec 32) (a n : Nat) (v : BitVec 32) : BitVec 32 := (rPutAt w a n v 32).setWidth 32
/-- A word made of its bits. -/
theorem putAt_of (w v t : BitVec 32) (a n : Nat) (ht : ∀ i, i < 32 → t.getLsbD i = if a ≤ i ∧ i < a + n then v.getLsbD (i - a) else w.getLsbD i) (i : Nat) (hi : i ≤ 32) : (rPutAt w a n v i).toNat = t.toNat % 2 ^ i := by
  induction i with
  | zero => simp [rPutAt, Nat.mod_one]
  | succ i ih =>
    have hlt : i < 32 := by omega
    have hb : (if a ≤ i ∧ i < a + n then rField v (i - a) 1 else rField w i 1) = if t.getLsbD i then 1#32 else 0#32 := by
      rw [ht i hlt]
      split <;> rw [rField1]
    have h2 : t.getLsbD i = decide (t.toNat / 2 ^ i % 2 = 1) := by simp only [BitVec.getLsbD, Nat.testBit_eq_decide_div_mod_eq]
    have h3 := Nat.mod_two_eq_zero_or_one (t.toNat / 2 ^ i)
    have hs := bit_step t.toNat i
    have h4 : 2 ^ (i + 1) ≤ 2 ^ 32 := Nat.pow_le_pow_right (by omega) (by omega)
    have h6 : 2 ^ i < 2 ^ (i + 1) := Nat.pow_lt_pow_right (by omega) (by omega)
    have h5 : t.toNat % 2 ^ (i + 1) < 2 ^ (i + 1) := Nat.mod_lt _ (Nat.two_pow_pos _)
    simp only [rPutAt, hb, h2]
    rcases h3 with h | h
    · rw [h] at hs ⊢
      simp only [Nat.zero_ne_one, decide_false, Bool.false_eq_true, if_false]
      rw [show BitVec.setWidth 64 0#32 = 0#64 from rfl, BitVec.zero_mul, BitVec.add_zero, ih (by omega), ← hs]; simp
    · rw [h] at hs ⊢
      simp only [decide_true, if_true]
      rw [show BitVec.setWidth 64 1#32 = 1#64 from rfl, BitVec.one_mul, BitVec.toNat_add, ih (by omega), BitVec.toNat_ofNat]
      rw [Nat.mod_eq_of_lt (a := 2 ^ i) (by omega), Nat.mod_eq_of_lt (by omega)]
      omega
theorem put_of (w v t : BitVec 32) (a n : Nat) (ht : ∀ i, i < 32 → t.getLsbD i = if a ≤ i ∧ i < a + n then v.getLsbD (i - a) else w.getLsbD i) : rPut w a n v = t := by
  apply BitVec.eq_of_toNat_eq
  unfold rPut
  rw [BitVec.toNat_setWidth, putAt_of w v t a n ht 32 (Nat.le_refl _), Nat.mod_mod, Nat.mod_eq_of_lt t.isLt]

/-! signs -/
theorem signExtend_toInt (v : BitVec 32) : (signExtend v 18).toInt = if v.toNat % 262144 < 131072 then (v.toNat % 262144 : Int) else (v.toNat % 262144 : Int) - 262144 := by
  unfold signExtend
  have h1 := v.isLt
  have e1 : (v <<< (32 - 18)).toNat = v.toNat % 262144 * 16384 := by
    rw [BitVec.toNat_shiftLeft, Nat.shiftLeft_eq]
    simp only [Nat.reduceSub, Nat.reducePow]
    omega
  rw [BitVec.toInt_sshiftRight, BitVec.toInt_eq_toNat_cond, e1]
  simp only [Nat.reduceSub, Nat.reducePow]
  rw [Int.shiftRight_eq_div_pow]
  split <;> split <;> omega
theorem fitsSigned_iff (v : BitVec 32) : fitsSigned v 18 = (decide (-131072 ≤ v.toInt) && decide (v.toInt < 131072)) := by
  unfold fitsSigned
  rw [Bool.eq_iff_iff]
  simp only [decide_eq_true_eq, Bool.and_eq_true]
  rw [← BitVec.toInt_inj, signExtend_toInt]
  have h1 := v.isLt
  rw [BitVec.toInt_eq_toNat_cond]
  simp only [Nat.reducePow]
  constructor
  · intro h
    split at h <;> split at h <;> omega
  · intro h
    split <;> split <;> (try split) <;> omega

/-! instructions -/
def rForm (op : Int) : Int :=
  if op = 1 ∨ op = 2 ∨ op = 3 ∨ op = 4 ∨ op = 5 ∨ op = 6 ∨ op = 7 ∨ op = 8 then 1
  else if op = 9 ∨ op = 11 ∨ op = 12 ∨ op = 13 ∨ op = 14 ∨ op = 15 ∨ op = 16 ∨ op = 17 ∨ op = 19 then 2
  else if op = 10 ∨ op = 18 then 3 else if op = 20 ∨ op = 23 ∨ op = 24 then 4 else if op = 21 then 5 else if op = 22 then 6 else if op = 25 then 7 else 0
theorem form_law (op : Int) : formatOf op = rForm op := by
  by_cases h : 0 ≤ op ∧ op < 26
  · have : op = 0 ∨ op = 1 ∨ op = 2 ∨ op = 3 ∨ op = 4 ∨ op = 5 ∨ op = 6 ∨ op = 7 ∨ op = 8 ∨ op = 9 ∨ op = 10 ∨ op = 11 ∨ op = 12 ∨ op = 13 ∨ op = 14 ∨ op = 15 ∨ op = 16 ∨ op = 17 ∨ op = 18 ∨ op = 19 ∨ op = 20 ∨ op = 21 ∨ op = 22 ∨ op = 23 ∨ op = 24 ∨ op = 25 := by omega
    rcases this with rfl | rfl | rfl | rfl | rfl | rfl | rfl | rfl | rfl | rfl | rfl | rfl | rfl | rfl | rfl | rfl | rfl | rfl | rfl | rfl | rfl | rfl | rfl | rfl | rfl | rfl <;> decide
  · unfold formatOf rForm
    rw [if_pos (by omega), if_neg (by omega), if_neg (by omega), if_neg (by omega), if_neg (by omega), if_neg (by omega), if_neg (by omega), if_neg (by omega)]
def rReg (n : Int) (hs : Bool) : Bool := if hs then decide (0 ≤ n) && decide (n ≤ 15) else decide (n = 0)
theorem reg_law (n : Int) (hs : Bool) : register n hs = rReg n hs := by
  unfold register rReg
  cases hs <;> rw [Bool.eq_iff_iff] <;> simp <;> omega
def rMay (i : Instr) : Bool :=
  if rForm i.op = 0 then false
  else if !rReg i.rd (decide (rForm i.op = 1) || decide (rForm i.op = 2) || decide (rForm i.op = 3) || decide (rForm i.op = 5)) || !rReg i.ra (decide (rForm i.op = 1) || decide (rForm i.op = 2) || decide (rForm i.op = 6) || decide (rForm i.op = 7)) || !rReg i.rb (decide (rForm i.op = 1)) then false
  else if rForm i.op = 2 ∨ rForm i.op = 3 then decide (-131072 ≤ i.imm.toInt) && decide (i.imm.toInt < 131072)
  else if rForm i.op = 5 ∨ rForm i.op = 6 then decide (0 ≤ i.imm.toInt) && decide (i.imm.toInt ≤ 11)
  else decide (i.imm.toInt = 0)
theorem imm_zero (v : BitVec 32) : (v = 0#32) ↔ v.toInt = 0 := by rw [← BitVec.toInt_inj]; simp
theorem may_law (i : Instr) : valid i = rMay i := by
  have hf := formatOf_lt i.op
  unfold valid rMay
  rw [← form_law]
  unfold numberOk partOf
  simp only [reg_law, fitsSigned_iff, imm_zero]
  generalize formatOf i.op = f at *
  generalize i.imm.toInt = m at *
  have : f = 0 ∨ f = 1 ∨ f = 2 ∨ f = 3 ∨ f = 4 ∨ f = 5 ∨ f = 6 ∨ f = 7 := by omega
  have p0 : partsAt 0 = ⟨false, false, false, false, false⟩ := rfl
  have p1 : partsAt 1 = ⟨true, true, true, false, false⟩ := rfl
  have p2 : partsAt 2 = ⟨true, true, false, true, false⟩ := rfl
  have p3 : partsAt 3 = ⟨true, false, false, true, false⟩ := rfl
  have p4 : partsAt 4 = ⟨false, false, false, false, false⟩ := rfl
  have p5 : partsAt 5 = ⟨true, false, false, false, true⟩ := rfl
  have p6 : partsAt 6 = ⟨false, true, false, false, true⟩ := rfl
  have p7 : partsAt 7 = ⟨false, true, false, false, false⟩ := rfl
  rcases this with rfl | rfl | rfl | rfl | rfl | rfl | rfl | rfl <;> simp [p0, p1, p2, p3, p4, p5, p6, p7] <;> rw [Bool.eq_iff_iff] <;> simp <;> grind
end Go.Sx.G
