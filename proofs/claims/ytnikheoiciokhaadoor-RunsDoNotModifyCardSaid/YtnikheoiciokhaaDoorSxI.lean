/-
  THE REFERENCE's ANSWERS IN PLAIN LEAN, second part: encoding, decoding, traps, arithmetic, relocation, memory (own work).
-/
import Derived.Test.YtnikheoiciokhaaDoorSxH
namespace Go.Sx.G
open Go Go.Sx
set_option linter.unusedVariables false
set_option linter.unusedSimpArgs false

/-! encoding -/
theorem mask_toNat (n : Nat) (hn : n ≤ 32) : ((1#64 <<< n) - 1#64).toNat = 2 ^ n - 1 := by
  have hn64 : (2 : Nat) ^ n < 2 ^ 64 := Nat.pow_lt_pow_right (by omega) (by omega)
  have hpos : 0 < 2 ^ n := Nat.two_pow_pos n
  have e3 : (1#64 <<< n).toNat = 2 ^ n := by
    rw [BitVec.toNat_shiftLeft]
    simp only [BitVec.toNat_ofNat, Nat.shiftLeft_eq]
    rw [Nat.mod_eq_of_lt (by simp : 1 < 2 ^ 64), Nat.one_mul, Nat.mod_eq_of_lt hn64]
  rw [BitVec.toNat_sub, e3]
  simp only [BitVec.toNat_ofNat]
  rw [Nat.mod_eq_of_lt (by simp : 1 < 2 ^ 64)]
  rw [show 2 ^ 64 - 1 + 2 ^ n = (2 ^ n - 1) + 2 ^ 64 by omega, Nat.add_mod_right, Nat.mod_eq_of_lt (by omega)]
theorem mask_bit (n : Nat) (hn : n ≤ 32) (j : Nat) : ((1#64 <<< n) - 1#64).getLsbD j = decide (j < n) := by
  rw [BitVec.getLsbD, mask_toNat n hn, Nat.testBit_two_pow_sub_one]
theorem low64_bit (x : BitVec 64) (n : Nat) (hn : n ≤ 32) (j : Nat) : (low64 x n).getLsbD j = (x.getLsbD j && decide (j < n)) := by
  unfold low64
  rw [BitVec.getLsbD_and, mask_bit n hn]
theorem insert_bit (w v : BitVec 32) (a n i : Nat) (hn : n ≤ 32) (hi : i < 32) : (insert w a n v).getLsbD i = if a ≤ i ∧ i < a + n then v.getLsbD (i - a) else w.getLsbD i := by
  have hall : ∀ j, (18446744073709551615#64).getLsbD j = decide (j < 64) := fun j => BitVec.getLsbD_allOnes (v := 64) (i := j)
  unfold insert
  simp only [BitVec.getLsbD_or, BitVec.getLsbD_and, BitVec.getLsbD_not, BitVec.getLsbD_shiftLeft, BitVec.getLsbD_setWidth, low64_bit _ n hn, hall, hi, decide_true, Bool.true_and]
  by_cases h1 : i < a
  · rw [if_neg (by omega)]
    simp [h1]
  · by_cases h2 : i < a + n
    · rw [if_pos (by omega)]
      have h3 : i - a < n := by omega
      have h4 : i - a < 32 := by omega
      have h5 : i - a < 64 := by omega
      simp [h1, h3, h4, h5]
    · rw [if_neg (by omega)]
      have h3 : ¬ i - a < n := by omega
      simp [h1, h3]
theorem insert_toNat (w v : BitVec 32) (a n : Nat) (hn : n ≤ 32) (ha : a + n ≤ 32) : (insert w a n v).toNat = 2 ^ (a + n) * (w.toNat / 2 ^ (a + n)) + (2 ^ a * (v.toNat % 2 ^ n) + w.toNat % 2 ^ a) := by
  have hlo : w.toNat % 2 ^ a < 2 ^ a := Nat.mod_lt _ (Nat.two_pow_pos a)
  have hv : v.toNat % 2 ^ n < 2 ^ n := Nat.mod_lt _ (Nat.two_pow_pos n)
  have hmid : 2 ^ a * (v.toNat % 2 ^ n) + w.toNat % 2 ^ a < 2 ^ (a + n) := by
    rw [Nat.pow_add]
    have : 2 ^ a * (v.toNat % 2 ^ n) + 2 ^ a ≤ 2 ^ a * 2 ^ n := by
      have := Nat.mul_le_mul_left (2 ^ a) (Nat.succ_le_of_lt hv)
      rw [Nat.mul_succ] at this; exact this
    omega
  apply Nat.eq_of_testBit_eq
  intro i
  rw [Nat.testBit_two_pow_mul_add _ hmid, Nat.testBit_two_pow_mul_add _ hlo]
  by_cases hi : i < 32
  · have := insert_bit w v a n i hn hi
    unfold BitVec.getLsbD at this
    rw [this, Nat.testBit_div_two_pow, Nat.testBit_mod_two_pow, Nat.testBit_mod_two_pow]
    by_cases h1 : i < a
    · rw [if_neg (by omega), if_pos (by omega), if_pos h1]; simp [h1]
    · by_cases h2 : i < a + n
      · rw [if_pos (by omega), if_pos h2, if_neg h1]; simp [show i - a < n by omega]
      · rw [if_neg (by omega), if_neg h2, show i - (a + n) + (a + n) = i by omega]
  · have h1 : (insert w a n v).toNat.testBit i = false := Nat.testBit_lt_two_pow (Nat.lt_of_lt_of_le (insert w a n v).isLt (Nat.pow_le_pow_right (by omega) (by omega)))
    rw [h1, if_neg (by omega), Nat.testBit_div_two_pow]
    symm
    exact Nat.testBit_lt_two_pow (Nat.lt_of_lt_of_le w.isLt (Nat.pow_le_pow_right (by omega) (by omega)))

def rLow (v : BitVec 32) : BitVec 32 := BitVec.ofNat 32 (v.toNat % 262144)
theorem low_law (v : BitVec 32) : lowBits v 18 = rLow v := by
  apply BitVec.eq_of_toNat_eq
  unfold lowBits rLow
  have h1 := v.isLt
  rw [extract_toNat _ _ _ (by omega), BitVec.toNat_ofNat]
  simp only [Nat.pow_zero, Nat.div_one, Nat.reducePow]
  omega
/-- The number that a word's fields make, in 64 bits. -/
def rWord (i : Instr) : BitVec 64 :=
  BitVec.ofInt 64 i.op * 67108864#64 + BitVec.ofInt 64 i.rd * 4194304#64 + BitVec.ofInt 64 i.ra * 262144#64 + (if rForm i.op = 1 then BitVec.ofInt 64 i.rb else (rLow i.imm).setWidth 64)
def rEncode (i : Instr) : BitVec 32 × Bool := if rMay i then ((rWord i).setWidth 32, true) else (0#32, false)
theorem may_bounds {i : Instr} (h : rMay i = true) : 0 < i.op ∧ i.op < 26 ∧ 0 ≤ i.rd ∧ i.rd < 16 ∧ 0 ≤ i.ra ∧ i.ra < 16 ∧ 0 ≤ i.rb ∧ i.rb < 16 ∧ (rForm i.op = 1 → i.imm = 0#32) ∧ (rForm i.op ≠ 1 → i.rb = 0) := by
  have hop : 0 < i.op ∧ i.op < 26 := by
    have h0 : rForm i.op ≠ 0 := fun e => by unfold rMay at h; rw [if_pos e] at h; cases h
    unfold rForm at h0
    by_cases hc : 0 < i.op ∧ i.op < 26
    · exact hc
    · exfalso; apply h0
      rw [if_neg (by omega), if_neg (by omega), if_neg (by omega), if_neg (by omega), if_neg (by omega), if_neg (by omega), if_neg (by omega)]
  have hreg : ∀ n hs, rReg n hs = true → 0 ≤ n ∧ n < 16 := fun n hs hr => by
    unfold rReg at hr
    cases hs <;> simp at hr <;> omega
  have hreg0 : ∀ n, rReg n false = true → n = 0 := fun n hr => by unfold rReg at hr; simpa using hr
  unfold rMay at h
  split at h
  · cases h
  · split at h
    · cases h
    · rename_i h1 h2
      simp only [Bool.or_eq_true, Bool.not_eq_true', not_or, Bool.not_eq_false] at h2
      obtain ⟨⟨ha, hb⟩, hc⟩ := h2
      refine ⟨hop.1, hop.2, (hreg _ _ ha).1, (hreg _ _ ha).2, (hreg _ _ hb).1, (hreg _ _ hb).2, (hreg _ _ hc).1, (hreg _ _ hc).2, fun hf => ?_, fun hf => ?_⟩
      · rw [hf] at h
        simp at h
        exact (imm_zero _).2 h
      · rw [decide_eq_false hf] at hc
        exact hreg0 _ hc
theorem ofInt_toNat64 {n : Int} (h : 0 ≤ n) (h2 : n < 4294967296) : (BitVec.ofInt 64 n).toNat = n.toNat := by
  rw [BitVec.toNat_ofInt]; omega
theorem ofInt_toNat32 {n : Int} (h : 0 ≤ n) (h2 : n < 4294967296) : (BitVec.ofInt 32 n).toNat = n.toNat := by
  rw [BitVec.toNat_ofInt]; omega
theorem encode_law (i : Instr) : encode i = rEncode i := by
  unfold encode rEncode
  rw [may_law]
  by_cases h : rMay i = true
  · rw [if_pos h, if_pos h]
    congr 1
    obtain ⟨b1, b2, b3, b4, b5, b6, b7, b8, b9, b10⟩ := may_bounds h
    apply BitVec.eq_of_toNat_eq
    have hlow : (lowBits i.imm 18 ||| BitVec.ofInt 32 i.rb).toNat = (if rForm i.op = 1 then i.rb.toNat else i.imm.toNat % 262144) := by
      rw [low_law]
      unfold rLow
      by_cases hf : rForm i.op = 1
      · rw [if_pos hf, b9 hf]
        simp only [BitVec.toNat_or, ofInt_toNat32 b7 (by omega)]
        simp
      · rw [if_neg hf, b10 hf]
        simp
        omega
    have hlt : (if rForm i.op = 1 then i.rb.toNat else i.imm.toNat % 262144) < 262144 := by split <;> omega
    have hn : ((if rForm i.op = 1 then BitVec.ofInt 64 i.rb else (rLow i.imm).setWidth 64)).toNat = (if rForm i.op = 1 then i.rb.toNat else i.imm.toNat % 262144) := by
      split
      · exact ofInt_toNat64 b7 (by omega)
      · unfold rLow
        rw [BitVec.toNat_setWidth, BitVec.toNat_ofNat]; omega
    rw [insert_toNat _ _ _ _ (by omega) (by omega), insert_toNat _ _ _ _ (by omega) (by omega), insert_toNat _ _ _ _ (by omega) (by omega), hlow, ofInt_toNat32 (by omega) (by omega), ofInt_toNat32 b3 (by omega), ofInt_toNat32 b5 (by omega)]
    unfold rWord
    rw [BitVec.toNat_setWidth, BitVec.toNat_add, BitVec.toNat_add, BitVec.toNat_add, BitVec.toNat_mul, BitVec.toNat_mul, BitVec.toNat_mul, hn, ofInt_toNat64 (by omega) (by omega), ofInt_toNat64 b3 (by omega), ofInt_toNat64 b5 (by omega)]
    generalize (if rForm i.op = 1 then i.rb.toNat else i.imm.toNat % 262144) = m at *
    simp only [BitVec.toNat_ofNat, Nat.reducePow, Nat.reduceMod, Nat.reduceAdd]
    obtain ⟨x, hx⟩ : ∃ x : Nat, i.op.toNat = x := ⟨_, rfl⟩
    obtain ⟨y, hy⟩ : ∃ y : Nat, i.rd.toNat = y := ⟨_, rfl⟩
    obtain ⟨z, hz⟩ : ∃ z : Nat, i.ra.toNat = z := ⟨_, rfl⟩
    rw [hx, hy, hz]
    have hx2 : x < 26 := by omega
    have hy2 : y < 16 := by omega
    have hz2 : z < 16 := by omega
    clear hx hy hz hlow hn b1 b2 b3 b4 b5 b6 b7 b8 b9 b10 h
    omega
  · rw [if_neg h, if_neg h]
def rDecode0 (w : BitVec 32) : Instr :=
  let i : Instr := { Instr.zero with op := ((w / 67108864#32).toNat : Int), rd := ((w / 4194304#32 % 16#32).toNat : Int), ra := ((w / 262144#32 % 16#32).toNat : Int) }
  if rForm i.op = 1 then { i with rb := ((w % 16#32).toNat : Int) } else { i with imm := signExtend w 18 }
def rDecode (w : BitVec 32) : Instr × Bool :=
  if !(rEncode (rDecode0 w)).2 || !decide ((rEncode (rDecode0 w)).1 = w) then (Instr.zero, false) else (rDecode0 w, true)
theorem part_rb (op : Int) : (partsAt (formatOf op).toNat).rb = decide (rForm op = 1) := by
  rw [← form_law]
  have hf := formatOf_lt op
  generalize formatOf op = f at *
  have : f = 0 ∨ f = 1 ∨ f = 2 ∨ f = 3 ∨ f = 4 ∨ f = 5 ∨ f = 6 ∨ f = 7 := by omega
  rcases this with rfl | rfl | rfl | rfl | rfl | rfl | rfl | rfl <;> decide
theorem decode0_law (w : BitVec 32) : decode0 w = rDecode0 w := by
  have h1 := w.isLt
  have e1 : (extract w 26 6).toNat = (w / 67108864#32).toNat := by
    rw [extract_toNat _ _ _ (by omega), BitVec.toNat_udiv]; simp only [BitVec.toNat_ofNat, Nat.reducePow, Nat.reduceMod]; omega
  have e2 : (extract w 22 4).toNat = (w / 4194304#32 % 16#32).toNat := by
    rw [extract_toNat _ _ _ (by omega), BitVec.toNat_umod, BitVec.toNat_udiv]; simp only [BitVec.toNat_ofNat, Nat.reducePow, Nat.reduceMod]
  have e3 : (extract w 18 4).toNat = (w / 262144#32 % 16#32).toNat := by
    rw [extract_toNat _ _ _ (by omega), BitVec.toNat_umod, BitVec.toNat_udiv]; simp only [BitVec.toNat_ofNat, Nat.reducePow, Nat.reduceMod]
  have e4 : (extract w 0 4).toNat = (w % 16#32).toNat := by
    rw [extract_toNat _ _ _ (by omega), BitVec.toNat_umod]; simp only [BitVec.toNat_ofNat, Nat.reducePow, Nat.reduceMod, Nat.div_one]
  unfold decode0 rDecode0
  simp only [partOf, part_rb, e1, e2, e3, e4, decide_eq_true_eq]
theorem decode_law (w : BitVec 32) : decode w = rDecode w := by
  unfold decode rDecode
  simp only [decode0_law, encode_law]
  cases (rEncode (rDecode0 w)).2 <;> cases decide ((rEncode (rDecode0 w)).1 = w) <;> rfl

/-! traps -/
def rEnterS (s : BitVec 32) : BitVec 32 := rPut s 0 4 (1#32 + 4#32 * rField s 0 1 + 8#32 * rField s 1 1)
theorem bits4 (b0 b1 : Bool) : (1#32 + 4#32 * (if b0 then 1#32 else 0#32) + 8#32 * (if b1 then 1#32 else 0#32)) = BitVec.ofNat 32 (1 + (if b0 then 4 else 0) + (if b1 then 8 else 0)) := by
  cases b0 <;> cases b1 <;> rfl
theorem has_bit (s : BitVec 32) (k : Nat) (hk : k < 32) : has s (BitVec.ofNat 32 (2 ^ k)) = s.getLsbD k := by
  unfold has
  have h2 : ∀ j, j < 32 → (BitVec.ofNat 32 (2 ^ k)).getLsbD j = decide (k = j) := fun j hj => by
    rw [BitVec.getLsbD_ofNat, Nat.testBit_two_pow]; simp [hj]
  cases hb : s.getLsbD k with
  | false =>
    have : s &&& BitVec.ofNat 32 (2 ^ k) = 0#32 := by
      apply BitVec.eq_of_getLsbD_eq
      intro i hi
      rw [BitVec.getLsbD_and, h2 i hi]
      by_cases h : k = i
      · subst h; simp [hb]
      · simp [h]
    simp [this]
  | true =>
    have : s &&& BitVec.ofNat 32 (2 ^ k) ≠ 0#32 := fun e => by
      have h3 := congrArg (fun x => x.getLsbD k) e
      simp only [BitVec.getLsbD_and, h2 k hk, hb] at h3
      simp at h3
    simp [this]
def rBackS (s : BitVec 32) : BitVec 32 := rPut (rPut s 0 1 (rField s 2 1)) 1 1 (rField (rPut s 0 1 (rField s 2 1)) 3 1)
theorem with_bit (s : BitVec 32) (k : Nat) (hk : k < 32) (b : Bool) (i : Nat) (hi : i < 32) : (with_ s (BitVec.ofNat 32 (2 ^ k)) b).getLsbD i = if i = k then b else s.getLsbD i := by
  have h2 : (BitVec.ofNat 32 (2 ^ k)).getLsbD i = decide (k = i) := by
    rw [BitVec.getLsbD_ofNat, Nat.testBit_two_pow]; simp [hi]
  unfold with_
  cases b <;> simp only [if_true, if_false, Bool.false_eq_true, BitVec.getLsbD_or, BitVec.getLsbD_and, BitVec.getLsbD_not, h2, hi, decide_true, Bool.true_and]
  · by_cases h : i = k
    · subst h; simp
    · rw [if_neg h]; simp [Ne.symm h]
  · by_cases h : i = k
    · subst h; simp
    · rw [if_neg h]; simp [Ne.symm h]
theorem put1 (s : BitVec 32) (k : Nat) (hk : k < 32) (b : Bool) : rPut s k 1 (if b then 1#32 else 0#32) = with_ s (BitVec.ofNat 32 (2 ^ k)) b := by
  apply put_of
  intro i hi
  rw [with_bit s k hk b i hi]
  by_cases h : i = k
  · subst h; rw [if_pos rfl, if_pos (by omega), Nat.sub_self]; cases b <;> rfl
  · rw [if_neg h, if_neg (by omega)]
theorem enter_law (s : BitVec 32) : senter s = rEnterS s := by
  symm
  unfold rEnterS
  have hh1 : has s 1#32 = s.getLsbD 0 := has_bit s 0 (by omega)
  have hh2 : has s 2#32 = s.getLsbD 1 := has_bit s 1 (by omega)
  apply put_of
  intro i hi
  have e : senter s = with_ (with_ (with_ (with_ s (BitVec.ofNat 32 (2 ^ 2)) (s.getLsbD 0)) (BitVec.ofNat 32 (2 ^ 3)) (s.getLsbD 1)) (BitVec.ofNat 32 (2 ^ 0)) true) (BitVec.ofNat 32 (2 ^ 1)) false := by
    unfold senter
    rw [hh1, hh2]
  rw [e, with_bit _ 1 (by omega) _ i hi, with_bit _ 0 (by omega) _ i hi, with_bit _ 3 (by omega) _ i hi, with_bit _ 2 (by omega) _ i hi, rField1, rField1, bits4]
  have hcase : i = 0 ∨ i = 1 ∨ i = 2 ∨ i = 3 ∨ 4 ≤ i := by omega
  rcases hcase with rfl | rfl | rfl | rfl | h4
  · cases s.getLsbD 0 <;> cases s.getLsbD 1 <;> rfl
  · cases s.getLsbD 0 <;> cases s.getLsbD 1 <;> rfl
  · cases s.getLsbD 0 <;> cases s.getLsbD 1 <;> rfl
  · cases s.getLsbD 0 <;> cases s.getLsbD 1 <;> rfl
  · rw [if_neg (by omega), if_neg (by omega), if_neg (by omega), if_neg (by omega), if_neg (by omega)]
theorem back_law (s : BitVec 32) : sback s = rBackS s := by
  unfold sback rBackS
  have hh1 : has s 4#32 = s.getLsbD 2 := has_bit s 2 (by omega)
  have hh2 : has s 8#32 = s.getLsbD 3 := has_bit s 3 (by omega)
  have hp := put1 s 0 (by omega) (s.getLsbD 2)
  rw [rField1 s 2, hp, rField1]
  have h3 : (with_ s (BitVec.ofNat 32 (2 ^ 0)) (s.getLsbD 2)).getLsbD 3 = s.getLsbD 3 := by
    rw [with_bit _ _ (by omega) _ _ (by omega), if_neg (by omega)]
  rw [h3, put1 _ 1 (by omega), hh1, hh2]
theorem super_law (s : BitVec 32) : has s 1#32 = decide (s % 2#32 = 1#32) := by
  have h := has_bit s 0 (by omega)
  rw [show (1#32 : BitVec 32) = BitVec.ofNat 32 (2 ^ 0) from rfl, h, Bool.eq_iff_iff]
  simp only [decide_eq_true_eq, BitVec.getLsbD, Nat.testBit_eq_decide_div_mod_eq, Nat.pow_zero, Nat.div_one]
  rw [← BitVec.toNat_inj, BitVec.toNat_umod]
  simp
theorem enabled_law (s : BitVec 32) : has s 2#32 = decide (s / 2#32 % 2#32 = 1#32) := by
  have h := has_bit s 1 (by omega)
  rw [show (2#32 : BitVec 32) = BitVec.ofNat 32 (2 ^ 1) from rfl, h, Bool.eq_iff_iff]
  simp only [decide_eq_true_eq, BitVec.getLsbD, Nat.testBit_eq_decide_div_mod_eq]
  rw [← BitVec.toNat_inj, BitVec.toNat_umod, BitVec.toNat_udiv]
  simp

/-! arithmetic -/
theorem signed_lt (x y : BitVec 32) : lessSigned x y = decide ((if 2147483648#32 ≤ x then (x.toNat : Int) - 4294967296 else (x.toNat : Int)) < (if 2147483648#32 ≤ y then (y.toNat : Int) - 4294967296 else (y.toNat : Int))) := by
  unfold lessSigned
  rw [decide_eq_decide, BitVec.toInt_eq_toNat_cond, BitVec.toInt_eq_toNat_cond]
  simp only [BitVec.le_def, BitVec.toNat_ofNat, Nat.reducePow, Nat.reduceMod]
  have h1 := x.isLt
  have h2 := y.isLt
  split <;> split <;> split <;> split <;> omega
/-- A word made of bits, one by one. -/
def rBitsAt (f : Nat → Bool) : Nat → BitVec 64
  | 0 => 0#64
  | i + 1 => if f i then rBitsAt f i + BitVec.ofNat 64 (2 ^ i) else rBitsAt f i
theorem bitsAt_of (t : BitVec 32) (f : Nat → Bool) (ht : ∀ i, i < 32 → t.getLsbD i = f i) (i : Nat) (hi : i ≤ 32) : (rBitsAt f i).toNat = t.toNat % 2 ^ i := by
  induction i with
  | zero => simp [rBitsAt, Nat.mod_one]
  | succ i ih =>
    have hlt : i < 32 := by omega
    have h2 : t.getLsbD i = decide (t.toNat / 2 ^ i % 2 = 1) := by simp only [BitVec.getLsbD, Nat.testBit_eq_decide_div_mod_eq]
    have h3 := Nat.mod_two_eq_zero_or_one (t.toNat / 2 ^ i)
    have hs := bit_step t.toNat i
    have h4 : 2 ^ (i + 1) ≤ 2 ^ 32 := Nat.pow_le_pow_right (by omega) (by omega)
    have h6 : 2 ^ i < 2 ^ (i + 1) := Nat.pow_lt_pow_right (by omega) (by omega)
    have h5 : t.toNat % 2 ^ (i + 1) < 2 ^ (i + 1) := Nat.mod_lt _ (Nat.two_pow_pos _)
    simp only [rBitsAt, ← ht i hlt, h2]
    rcases h3 with h | h
    · rw [h] at hs ⊢
      simp only [Nat.zero_ne_one, decide_false, Bool.false_eq_true, if_false]
      rw [ih (by omega), ← hs]; simp
    · rw [h] at hs ⊢
      simp only [decide_true, if_true, BitVec.toNat_add, ih (by omega), BitVec.toNat_ofNat]
      rw [Nat.mod_eq_of_lt (a := 2 ^ i) (by omega), Nat.mod_eq_of_lt (by omega)]
      omega
theorem bits_of (t : BitVec 32) (f : Nat → Bool) (ht : ∀ i, i < 32 → t.getLsbD i = f i) : (rBitsAt f 32).setWidth 32 = t := by
  apply BitVec.eq_of_toNat_eq
  rw [BitVec.toNat_setWidth, bitsAt_of t f ht 32 (Nat.le_refl _), Nat.mod_mod, Nat.mod_eq_of_lt t.isLt]
theorem add_law (x y : BitVec 32) : ((x.setWidth 64 + y.setWidth 64) % 4294967296#64).setWidth 32 = x + y := by
  apply BitVec.eq_of_toNat_eq
  have h1 := x.isLt
  have h2 := y.isLt
  simp only [BitVec.toNat_setWidth, BitVec.toNat_umod, BitVec.toNat_add, BitVec.toNat_ofNat, Nat.reducePow, Nat.reduceMod]
  omega
theorem sub_nat (a b : Nat) (ha : a < 4294967296) (hb : b < 4294967296) : (a + 4294967296 - b) % 4294967296 = (4294967296 - b + a) % 4294967296 := by omega
theorem sub_law (x y : BitVec 32) : ((x.setWidth 64 + 4294967296#64 - y.setWidth 64) % 4294967296#64).setWidth 32 = x - y := by
  apply BitVec.eq_of_toNat_eq
  have h1 : x.toNat < 4294967296 := x.isLt
  have h2 : y.toNat < 4294967296 := y.isLt
  have ex : (x.setWidth 64).toNat = x.toNat := by rw [BitVec.toNat_setWidth]; exact Nat.mod_eq_of_lt (by omega)
  have ey : (y.setWidth 64).toNat = y.toNat := by rw [BitVec.toNat_setWidth]; exact Nat.mod_eq_of_lt (by omega)
  have ec : (4294967296#64).toNat = 4294967296 := rfl
  have e1 : (x.setWidth 64 + 4294967296#64).toNat = x.toNat + 4294967296 := by rw [BitVec.toNat_add, ex, ec]; exact Nat.mod_eq_of_lt (by omega)
  have e2 : (x.setWidth 64 + 4294967296#64 - y.setWidth 64).toNat = x.toNat + 4294967296 - y.toNat := by
    rw [BitVec.toNat_sub_of_le (by rw [BitVec.le_def, e1, ey]; omega), e1, ey]
  rw [BitVec.toNat_setWidth, BitVec.toNat_umod, e2, ec, BitVec.toNat_sub, sub_nat _ _ h1 h2]
  exact Nat.mod_mod _ _
theorem and31 (y : BitVec 32) : (y &&& 31#32).toNat = y.toNat % 32 := by
  rw [BitVec.toNat_and]
  exact Nat.and_two_pow_sub_one_eq_mod y.toNat 5
theorem shl_law (x y : BitVec 32) (k : Nat) (hk : k = y.toNat % 32) : ((x.setWidth 64 * BitVec.ofNat 64 (2 ^ k)) % 4294967296#64).setWidth 32 = x <<< (y &&& 31#32).toNat := by
  rw [and31, ← hk]
  apply BitVec.eq_of_toNat_eq
  have h1 := x.isLt
  have hk2 : k < 32 := by omega
  have h3 : 2 ^ k ≤ 2 ^ 31 := Nat.pow_le_pow_right (by omega) (by omega)
  have h4 : x.toNat * 2 ^ k ≤ x.toNat * 2 ^ 31 := Nat.mul_le_mul_left _ h3
  simp only [BitVec.toNat_setWidth, BitVec.toNat_umod, BitVec.toNat_mul, BitVec.toNat_shiftLeft, Nat.shiftLeft_eq, BitVec.toNat_ofNat, Nat.reducePow, Nat.reduceMod] at *
  rw [Nat.mod_eq_of_lt (a := 2 ^ k) (by omega), Nat.mod_eq_of_lt (a := x.toNat) (by omega)]
  generalize x.toNat * 2 ^ k = z at *
  omega
theorem shr_law (x y : BitVec 32) (k : Nat) (hk : k = y.toNat % 32) : (x.setWidth 64 / BitVec.ofNat 64 (2 ^ k)).setWidth 32 = x >>> (y &&& 31#32).toNat := by
  rw [and31, ← hk]
  apply BitVec.eq_of_toNat_eq
  have h1 := x.isLt
  have hk2 : k < 32 := by omega
  have h3 : 2 ^ k ≤ 2 ^ 31 := Nat.pow_le_pow_right (by omega) (by omega)
  have h5 : x.toNat / 2 ^ k ≤ x.toNat := Nat.div_le_self _ _
  simp only [BitVec.toNat_setWidth, BitVec.toNat_udiv, BitVec.toNat_ushiftRight, Nat.shiftRight_eq_div_pow, BitVec.toNat_ofNat, Nat.reducePow, Nat.reduceMod] at *
  rw [Nat.mod_eq_of_lt (a := 2 ^ k) (by omega), Nat.mod_eq_of_lt (a := x.toNat) (by omega)]
  exact Nat.mod_eq_of_lt (by omega)

/-! relocation -/
def rBy (base bound size a : BitVec 32) (n : Int) : BitVec 32 × Bool :=
  if (bound.toNat : Int) < (a.toNat : Int) + n ∨ (size.toNat : Int) < (base.toNat : Int) + ((a.toNat : Int) + n) then (0#32, false) else (BitVec.ofInt 32 ((base.toNat : Int) + (a.toNat : Int)), true)
theorem by_law (base bound size a : BitVec 32) (n : Int) (hn : 0 ≤ n ∧ n < 4294967296) : translate base bound size a n = rBy base bound size a n := by
  unfold translate rBy
  have h1 := a.isLt
  have h2 := base.isLt
  have h3 := bound.isLt
  have h4 := size.isLt
  have e1 : (a.setWidth 64 + BitVec.ofInt 64 n).toNat = a.toNat + n.toNat := by
    rw [BitVec.toNat_add, BitVec.toNat_setWidth, ofInt_toNat64 hn.1 hn.2]; omega
  have e2 : (base.setWidth 64 + (a.setWidth 64 + BitVec.ofInt 64 n)).toNat = base.toNat + (a.toNat + n.toNat) := by
    rw [BitVec.toNat_add, e1, BitVec.toNat_setWidth]; omega
  have e3 : (bound.setWidth 64 < a.setWidth 64 + BitVec.ofInt 64 n) ↔ (bound.toNat : Int) < (a.toNat : Int) + n := by
    rw [BitVec.lt_def, e1, BitVec.toNat_setWidth]; omega
  have e4 : (size.setWidth 64 < base.setWidth 64 + (a.setWidth 64 + BitVec.ofInt 64 n)) ↔ (size.toNat : Int) < (base.toNat : Int) + ((a.toNat : Int) + n) := by
    rw [BitVec.lt_def, e2, BitVec.toNat_setWidth]; omega
  simp only [Bool.or_eq_true, decide_eq_true_eq, e3, e4]
  split
  · rfl
  · rw [← Int.natCast_add, ofInt_nat, BitVec.ofNat_add, ofNat_toNat', ofNat_toNat']
end Go.Sx.G
