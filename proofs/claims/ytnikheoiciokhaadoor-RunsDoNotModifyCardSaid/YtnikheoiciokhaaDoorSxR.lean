/-
  THE PLAIN SPECIFICATION OF csr's NAMES AND OF csr's REFERENCE, and that they agree (own work).
-/
import Derived.Test.YtnikheoiciokhaaDoorSxQ
import Derived.Test.YtnikheoiciokhaaDoorSxS
namespace Go.Sx.G
open Go Go.Sx
set_option linter.unusedVariables false

def csrNameL : List ByteArray := [ByteArray.mk #[115, 116, 97, 116, 117, 115], ByteArray.mk #[101, 112, 99], ByteArray.mk #[99, 97, 117, 115, 101], ByteArray.mk #[116, 118, 97, 108], ByteArray.mk #[116, 118, 101, 99], ByteArray.mk #[98, 97, 115, 101], ByteArray.mk #[98, 111, 117, 110, 100], ByteArray.mk #[116, 105, 109, 101], ByteArray.mk #[116, 105, 109, 101, 104], ByteArray.mk #[99, 109, 112], ByteArray.mk #[99, 109, 112, 104], ByteArray.mk #[115, 99, 114, 97, 116, 99, 104]]
def csrNameAt (i : Nat) : ByteArray := csrNameL.getD i (ByteArray.mk #[])
def csrNameC : Array Value := #[.string (ByteArray.mk #[115, 116, 97, 116, 117, 115]), .string (ByteArray.mk #[101, 112, 99]), .string (ByteArray.mk #[99, 97, 117, 115, 101]), .string (ByteArray.mk #[116, 118, 97, 108]), .string (ByteArray.mk #[116, 118, 101, 99]), .string (ByteArray.mk #[98, 97, 115, 101]), .string (ByteArray.mk #[98, 111, 117, 110, 100]), .string (ByteArray.mk #[116, 105, 109, 101]), .string (ByteArray.mk #[116, 105, 109, 101, 104]), .string (ByteArray.mk #[99, 109, 112]), .string (ByteArray.mk #[99, 109, 112, 104]), .string (ByteArray.mk #[115, 99, 114, 97, 116, 99, 104])]
theorem csrNameC_at (i : Nat) (hi : i < 12) : csrNameC[0 + i]? = some (.string (csrNameAt i)) := by
  have : i = 0 ∨ i = 1 ∨ i = 2 ∨ i = 3 ∨ i = 4 ∨ i = 5 ∨ i = 6 ∨ i = 7 ∨ i = 8 ∨ i = 9 ∨ i = 10 ∨ i = 11 := by omega
  rcases this with rfl | rfl | rfl | rfl | rfl | rfl | rfl | rfl | rfl | rfl | rfl | rfl <;> rfl
def csrName (n : Int) : ByteArray := if csrIs n then csrNameAt n.toNat else ByteArray.mk #[]
/-- The first place, from 'i' on and among so many, where the table has the string. -/
def findFrom (f : Nat → ByteArray) (s : ByteArray) : Nat → Nat → Int
  | 0, _ => -1
  | m + 1, i => if s = f i then (i : Int) else findFrom f s m (i + 1)
def csrIndex (s : ByteArray) : Int := findFrom csrNameAt s 12 0
def csrNumber (s : ByteArray) : Int × Bool := (max (csrIndex s) 0, decide (0 ≤ csrIndex s))

def refName (n : Int) : ByteArray := if n < 0 ∨ 11 < n then ByteArray.mk #[] else csrNameAt n.toNat
def refWritable (n bit : Int) : Bool :=
  if n = 0 then decide (1 ≤ bit) && decide (bit ≤ 3) else if n = 1 ∨ n = 4 ∨ n = 5 then decide (2 ≤ bit) else if n = 2 ∨ n = 3 ∨ n = 6 ∨ n = 9 ∨ n = 10 ∨ n = 11 then true else false
def pw : Nat → BitVec 32
  | 0 => 1#32
  | i + 1 => pw i * 2#32
def refMaskAt (n : Int) : Nat → BitVec 32
  | 0 => 0#32
  | i + 1 => if refWritable n i then refMaskAt n i + pw i else refMaskAt n i
def refMask (n : Int) : BitVec 32 := refMaskAt n 32
def refRead (c : V12) (time : BitVec 64) (n : Int) : BitVec 32 :=
  if n = 7 then (time % 4294967296#64).setWidth 32 else if n = 8 then (time / 4294967296#64).setWidth 32 else if n < 0 ∨ 11 < n then 0#32 else rget c n.toNat
def refBit (old v : BitVec 32) (n : Int) (i : Nat) : BitVec 32 := if refWritable n i then v / pw i % 2#32 else old / pw i % 2#32
def refWriteAt (old v : BitVec 32) (n : Int) : Nat → BitVec 32
  | 0 => 0#32
  | i + 1 => refWriteAt old v n i + refBit old v n i * pw i
def refWrite (c : V12) (n : Int) (v : BitVec 32) : V12 := if n < 0 ∨ 11 < n then c else rset c n.toNat (refWriteAt (rget c n.toNat) v n 32)
def refCompare (c : V12) : BitVec 64 := (rget c 10).setWidth 64 * 4294967296#64 + (rget c 9).setWidth 64
def refReset : V12 := rset (rset (rset (vzero 12) 0 1#32) 9 4294967295#32) 10 4294967295#32
/-- What the loop over the names has found. -/
def wantAt (s : ByteArray) : Nat → Int
  | 0 => -1
  | i + 1 => if refName i = s then (i : Int) else wantAt s i

/-! ### The plain law -/
theorem pw_toNat : ∀ i, i < 32 → (pw i).toNat = 2 ^ i := by decide
theorem pw_ne (i : Nat) (hi : i < 32) : pw i ≠ 0#32 := fun e => by
  have h1 := pw_toNat i hi
  rw [e] at h1
  have := Nat.two_pow_pos i
  simp at h1; omega
theorem name_law (n : Int) : csrName n = refName n := by
  unfold csrName refName csrIs
  by_cases h : 0 ≤ n ∧ n < 12
  · rw [if_pos (by simpa using h), if_neg (by omega)]
  · rw [if_neg (by simpa using h), if_pos (by omega)]
theorem read_law (c : V12) (time : BitVec 64) (n : Int) : csrRead c time n = refRead c time n := by
  unfold csrRead refRead
  by_cases h7 : n = 7
  · rw [if_pos h7, if_pos h7]
    apply BitVec.eq_of_toNat_eq
    simp
  · rw [if_neg h7, if_neg h7]
    by_cases h8 : n = 8
    · rw [if_pos h8, if_pos h8]
      apply BitVec.eq_of_toNat_eq
      simp [Nat.shiftRight_eq_div_pow]
    · rw [if_neg h8, if_neg h8]
      by_cases h : 0 ≤ n ∧ n < 12
      · rw [if_pos (by simpa [csrIs] using h), if_neg (by omega)]
      · rw [if_neg (by simpa [csrIs] using h), if_pos (by omega)]
theorem or_add (a b : Nat) (hb : b < 4294967296) : (a * 4294967296) ||| b = a * 4294967296 + b := by
  have h := Nat.two_pow_add_eq_or_of_lt (i := 32) (b := b) (by simpa using hb) a
  rw [Nat.mul_comm a]
  simpa using h.symm
theorem compare_law (c : V12) : timerCompare c = refCompare c := by
  unfold timerCompare refCompare
  generalize rget c 10 = x
  generalize rget c 9 = y
  apply BitVec.eq_of_toNat_eq
  have h1 := x.isLt
  have h2 := y.isLt
  have e1 : (x.setWidth 64 <<< 32).toNat = x.toNat * 4294967296 := by
    rw [BitVec.toNat_shiftLeft, BitVec.toNat_setWidth, Nat.shiftLeft_eq]; simp; omega
  have e2 : (x.setWidth 64 * 4294967296#64).toNat = x.toNat * 4294967296 := by
    rw [BitVec.toNat_mul, BitVec.toNat_setWidth]; simp; omega
  have e3 : (y.setWidth 64).toNat = y.toNat := by rw [BitVec.toNat_setWidth]; omega
  rw [BitVec.toNat_or, BitVec.toNat_add, e1, e2, e3, or_add _ _ (by simpa using h2)]
  generalize x.toNat = a at *
  generalize y.toNat = b at *
  omega
theorem reset_law : csrReset = refReset := by decide
theorem number_law (s : ByteArray) : csrIndex s = wantAt s 12 := by
  by_cases h0 : s = csrNameAt 0; · subst h0; decide
  by_cases h1 : s = csrNameAt 1; · subst h1; decide
  by_cases h2 : s = csrNameAt 2; · subst h2; decide
  by_cases h3 : s = csrNameAt 3; · subst h3; decide
  by_cases h4 : s = csrNameAt 4; · subst h4; decide
  by_cases h5 : s = csrNameAt 5; · subst h5; decide
  by_cases h6 : s = csrNameAt 6; · subst h6; decide
  by_cases h7 : s = csrNameAt 7; · subst h7; decide
  by_cases h8 : s = csrNameAt 8; · subst h8; decide
  by_cases h9 : s = csrNameAt 9; · subst h9; decide
  by_cases h10 : s = csrNameAt 10; · subst h10; decide
  by_cases h11 : s = csrNameAt 11; · subst h11; decide
  have ha : csrIndex s = -1 := by simp [csrIndex, findFrom, h0, h1, h2, h3, h4, h5, h6, h7, h8, h9, h10, h11]
  have hb : ∀ i : Nat, i < 12 → ¬ refName (i : Int) = s := fun i hi e => by
    have : i = 0 ∨ i = 1 ∨ i = 2 ∨ i = 3 ∨ i = 4 ∨ i = 5 ∨ i = 6 ∨ i = 7 ∨ i = 8 ∨ i = 9 ∨ i = 10 ∨ i = 11 := by omega
    unfold refName at e
    rw [if_neg (by omega), Int.toNat_natCast] at e
    rcases this with rfl | rfl | rfl | rfl | rfl | rfl | rfl | rfl | rfl | rfl | rfl | rfl <;> simp_all
  have hc : ∀ i, i ≤ 12 → wantAt s i = -1 := fun i => by
    induction i with
    | zero => intro _; rfl
    | succ i ih => intro hi; simp only [wantAt]; rw [if_neg (hb i (by omega))]; exact ih (by omega)
  rw [ha, hc 12 (by omega)]

/-! the write -/
theorem bit_step (t : Nat) (i : Nat) : t % 2 ^ i + 2 ^ i * (t / 2 ^ i % 2) = t % 2 ^ (i + 1) := by rw [Nat.pow_succ, Nat.mod_mul]
theorem bit_of (x : BitVec 32) (i : Nat) (hi : i < 32) : (x / pw i % 2#32) = if x.getLsbD i then 1#32 else 0#32 := by
  apply BitVec.eq_of_toNat_eq
  rw [BitVec.toNat_umod, BitVec.toNat_udiv, pw_toNat i hi]
  simp only [BitVec.getLsbD, Nat.testBit_eq_decide_div_mod_eq]
  have := Nat.mod_two_eq_zero_or_one (x.toNat / 2 ^ i)
  rcases this with h | h <;> simp [h]
/-- What a masked write comes to, bit by bit. -/
theorem writeAt_of (old v : BitVec 32) (n : Int) (m : BitVec 32) (hm : ∀ i, i < 32 → refWritable n (i : Nat) = m.getLsbD i) (i : Nat) (hi : i ≤ 32) :
    (refWriteAt old v n i).toNat = (old &&& ~~~m ||| v &&& m).toNat % 2 ^ i := by
  induction i with
  | zero => simp [refWriteAt, Nat.mod_one]
  | succ i ih =>
    have hlt : i < 32 := by omega
    have hb : refBit old v n i = if (old &&& ~~~m ||| v &&& m).getLsbD i then 1#32 else 0#32 := by
      unfold refBit
      rw [hm i hlt, bit_of v i hlt, bit_of old i hlt]
      cases hmi : m.getLsbD i <;> simp only [BitVec.getLsbD_or, BitVec.getLsbD_and, BitVec.getLsbD_not, hmi, hlt, decide_true, Bool.not_true, Bool.not_false, Bool.and_true, Bool.and_false, Bool.or_false, Bool.false_or, if_true, if_false, Bool.false_eq_true]
    generalize (old &&& ~~~m ||| v &&& m) = t at *
    have h1 : (refBit old v n i * pw i).toNat = 2 ^ i * (t.toNat / 2 ^ i % 2) := by
      rw [hb]
      have h2 : t.getLsbD i = decide (t.toNat / 2 ^ i % 2 = 1) := by simp only [BitVec.getLsbD, Nat.testBit_eq_decide_div_mod_eq]
      have h3 := Nat.mod_two_eq_zero_or_one (t.toNat / 2 ^ i)
      rcases h3 with h | h
      · simp [h2, h]
      · simp [h2, h, pw_toNat i hlt]
    simp only [refWriteAt, BitVec.toNat_add, ih (by omega), h1, bit_step]
    apply Nat.mod_eq_of_lt
    have : t.toNat % 2 ^ (i + 1) < 2 ^ (i + 1) := Nat.mod_lt _ (Nat.two_pow_pos _)
    have h4 : 2 ^ (i + 1) ≤ 2 ^ 32 := Nat.pow_le_pow_right (by omega) (by omega)
    omega
theorem maskAt_of (n : Int) (m : BitVec 32) (hm : ∀ i, i < 32 → refWritable n (i : Nat) = m.getLsbD i) (i : Nat) (hi : i ≤ 32) : (refMaskAt n i).toNat = m.toNat % 2 ^ i := by
  induction i with
  | zero => simp [refMaskAt, Nat.mod_one]
  | succ i ih =>
    have hlt : i < 32 := by omega
    have h2 : m.getLsbD i = decide (m.toNat / 2 ^ i % 2 = 1) := by simp only [BitVec.getLsbD, Nat.testBit_eq_decide_div_mod_eq]
    have h3 := Nat.mod_two_eq_zero_or_one (m.toNat / 2 ^ i)
    have hs := bit_step m.toNat i
    have h4 : 2 ^ (i + 1) ≤ 2 ^ 32 := Nat.pow_le_pow_right (by omega) (by omega)
    have h5 : m.toNat % 2 ^ (i + 1) < 2 ^ (i + 1) := Nat.mod_lt _ (Nat.two_pow_pos _)
    simp only [refMaskAt, hm i hlt, h2]
    rcases h3 with h | h
    · rw [h] at hs ⊢
      simp only [Nat.zero_ne_one, decide_false, Bool.false_eq_true, if_false]
      rw [ih (by omega), ← hs]; simp
    · rw [h] at hs ⊢
      simp only [decide_true, if_true, BitVec.toNat_add, ih (by omega), pw_toNat i hlt]
      rw [Nat.mod_eq_of_lt (by omega)]; omega
theorem writable_bits (n : Int) (hn : 0 ≤ n ∧ n < 12) : ∀ i, i < 32 → refWritable n (i : Nat) = (rget masks n.toNat).getLsbD i := by
  have : n = 0 ∨ n = 1 ∨ n = 2 ∨ n = 3 ∨ n = 4 ∨ n = 5 ∨ n = 6 ∨ n = 7 ∨ n = 8 ∨ n = 9 ∨ n = 10 ∨ n = 11 := by omega
  rcases this with rfl | rfl | rfl | rfl | rfl | rfl | rfl | rfl | rfl | rfl | rfl | rfl <;> decide
theorem mask_law (n : Int) : writeMask n = refMask n := by
  by_cases h : 0 ≤ n ∧ n < 12
  · unfold writeMask refMask
    rw [if_pos (by simpa [csrIs] using h)]
    apply BitVec.eq_of_toNat_eq
    rw [maskAt_of n _ (writable_bits n h) 32 (Nat.le_refl _), Nat.mod_eq_of_lt (BitVec.isLt _)]
  · have hw : ∀ i : Int, refWritable n i = false := fun i => by
      unfold refWritable
      rw [if_neg (by omega), if_neg (by omega), if_neg (by omega)]
    have hm : ∀ i, refMaskAt n i = 0#32 := fun i => by
      induction i with
      | zero => rfl
      | succ i ih => simp [refMaskAt, hw, ih]
    unfold writeMask refMask
    rw [hm, if_neg (by simpa [csrIs] using h)]
theorem write_law (c : V12) (n : Int) (v : BitVec 32) : csrWrite c n v = refWrite c n v := by
  unfold csrWrite refWrite
  by_cases h : 0 ≤ n ∧ n < 12
  · rw [if_pos (by simpa [csrIs] using h), if_neg (by omega)]
    have hm := writable_bits n h
    congr 1
    apply BitVec.eq_of_toNat_eq
    rw [writeAt_of _ v n _ hm 32 (Nat.le_refl _), Nat.mod_eq_of_lt (BitVec.isLt _)]
  · rw [if_neg (by simpa [csrIs] using h), if_pos (by omega)]
end Go.Sx.G
