/-
  OPERATIONS ON TYPED VALUES (own work).
-/
import Derived.Test.YtnikheoiciokhaaDoorSxT
namespace Go.Sx
open Go
set_option linter.unusedVariables false

theorem wrap_u8 (m : Int) : IntKind.u8.wrap m = ((BitVec.ofInt 8 m).toNat : Int) := by
  have h : (0 : Int) ≤ m % 256 := Int.emod_nonneg _ (by decide)
  show m % 256 = _
  simp only [BitVec.toNat_ofInt]
  exact (Int.toNat_of_nonneg h).symm
theorem wrap_u32 (m : Int) : IntKind.u32.wrap m = ((BitVec.ofInt 32 m).toNat : Int) := by
  have h : (0 : Int) ≤ m % 4294967296 := Int.emod_nonneg _ (by decide)
  show m % 4294967296 = _
  simp only [BitVec.toNat_ofInt]
  exact (Int.toNat_of_nonneg h).symm
theorem wrap_u64 (m : Int) : IntKind.u64.wrap m = ((BitVec.ofInt 64 m).toNat : Int) := by
  have h : (0 : Int) ≤ m % 18446744073709551616 := Int.emod_nonneg _ (by decide)
  show m % 18446744073709551616 = _
  simp only [BitVec.toNat_ofInt]
  exact (Int.toNat_of_nonneg h).symm
theorem wrap_i32 (m : Int) : IntKind.i32.wrap m = (BitVec.ofInt 32 m).toInt := by
  simp only [BitVec.toInt_ofInt, Int.bmod]
  show (if (true && decide (m % 4294967296 ≥ 2147483648)) = true then m % 4294967296 - 4294967296 else m % 4294967296) = (if m % 4294967296 < (4294967296 + 1) / 2 then m % 4294967296 else m % 4294967296 - 4294967296)
  simp only [Bool.true_and, decide_eq_true_eq]
  split <;> split <;> omega
theorem wrap_int {m : Int} (h : -9223372036854775808 ≤ m ∧ m ≤ 9223372036854775807) : IntKind.i64.wrap m = m := by
  show (if (true && decide (m % 18446744073709551616 ≥ 9223372036854775808)) = true then m % 18446744073709551616 - 18446744073709551616 else m % 18446744073709551616) = m
  simp only [Bool.true_and, decide_eq_true_eq]
  split <;> omega

theorem ofInt_nat (n m : Nat) : BitVec.ofInt n (m : Int) = BitVec.ofNat n m := by simp
theorem ofNat_toNat' {n : Nat} (a : BitVec n) : BitVec.ofNat n a.toNat = a := by simp
theorem ofInt_toNat {n : Nat} (a : BitVec n) : BitVec.ofInt n (a.toNat : Int) = a := by rw [ofInt_nat]; simp
theorem ofInt_add {n : Nat} (a b : BitVec n) : BitVec.ofInt n ((a.toNat : Int) + (b.toNat : Int)) = a + b := by
  rw [← Int.natCast_add, ofInt_nat, BitVec.ofNat_add, ofNat_toNat', ofNat_toNat']
theorem ofInt_mul {n : Nat} (a b : BitVec n) : BitVec.ofInt n ((a.toNat : Int) * (b.toNat : Int)) = a * b := by
  rw [← Int.natCast_mul, ofInt_nat, BitVec.ofNat_mul, ofNat_toNat', ofNat_toNat']
theorem ofInt_sub {n : Nat} (a b : BitVec n) : BitVec.ofInt n ((a.toNat : Int) - (b.toNat : Int)) = a - b := by
  apply BitVec.eq_of_toNat_eq
  have ha := a.isLt
  have hb := b.isLt
  simp only [BitVec.toNat_ofInt, BitVec.toNat_sub]
  have : ((a.toNat : Int) - (b.toNat : Int)) % ((2 ^ n : Nat) : Int) = (((2 ^ n - b.toNat + a.toNat) % 2 ^ n : Nat) : Int) := by
    rw [Int.natCast_emod]
    rw [show ((2 ^ n - b.toNat + a.toNat : Nat) : Int) = ((a.toNat : Int) - b.toNat) + ((2 ^ n : Nat) : Int) by omega]
    rw [Int.add_emod_right]
  rw [this, Int.toNat_natCast]

section
variable {P : Program} {ρ : Nat → Value} {h : PH} {L : OL} {d : Option Tmp} {ty : TypeId} {pos : String} {af : Array Edge} {g : Option (Nat × Bool)} {x y : Operand} {T T' : TypeId}

theorem RO.as {o : Oper} {v v' : Value} (r : RO P ρ h L o v) (e : v = v') : RO P ρ h L o v' := e ▸ r

section u8
variable {a b : BitVec 8} (hx : ev ρ x = u8 a) (hy : ev ρ y = u8 b)
include hx hy
theorem ro8_rem (hb : b ≠ 0#8) : RO P ρ h L ⟨d, .binOp .rem T x y T', ty, pos, af, g⟩ (u8 (a % b)) :=
  (ro_rem hx hy (fun e => hb (BitVec.eq_of_toNat_eq (by simpa using e)))).as (by simp [u8, BitVec.toNat_umod, ← Int.ofNat_tmod])
theorem ro8_eql : RO P ρ h L ⟨d, .binOp .eql T x y T', ty, pos, af, g⟩ (.bool (decide (a = b))) :=
  (ro_eql hx hy).as (by congr 1; rw [decide_eq_decide]; rw [BitVec.toNat_eq]; omega)
theorem ro8_neq : RO P ρ h L ⟨d, .binOp .neq T x y T', ty, pos, af, g⟩ (.bool (!decide (a = b))) :=
  (ro_neq hx hy).as (by congr 2; rw [decide_eq_decide]; rw [BitVec.toNat_eq]; omega)
theorem ro8_gtr : RO P ρ h L ⟨d, .binOp .gtr T x y T', ty, pos, af, g⟩ (.bool (decide (b < a))) :=
  (ro_gtr hx hy).as (by congr 1; rw [decide_eq_decide, BitVec.lt_def]; omega)
end u8

section u32
variable {a b : BitVec 32} (hx : ev ρ x = u32 a) (hy : ev ρ y = u32 b)
include hx hy
theorem ro32_add : RO P ρ h L ⟨d, .binOp .add T x y T', ty, pos, af, g⟩ (u32 (a + b)) := (ro_add hx hy).as (by rw [wrap_u32, ofInt_add])
theorem ro32_sub : RO P ρ h L ⟨d, .binOp .sub T x y T', ty, pos, af, g⟩ (u32 (a - b)) := (ro_sub hx hy).as (by rw [wrap_u32, ofInt_sub])
theorem ro32_mul : RO P ρ h L ⟨d, .binOp .mul T x y T', ty, pos, af, g⟩ (u32 (a * b)) := (ro_mul hx hy).as (by rw [wrap_u32, ofInt_mul])
theorem ro32_and : RO P ρ h L ⟨d, .binOp .and T x y T', ty, pos, af, g⟩ (u32 (a &&& b)) :=
  (ro_and hx hy).as (by show Value.int .u32 (IntKind.u32.wrap ((BitVec.ofInt 32 (a.toNat : Int) &&& BitVec.ofInt 32 (b.toNat : Int)).toNat : Int)) = _; rw [ofInt_toNat, ofInt_toNat, wrap_u32, ofInt_toNat])
theorem ro32_or : RO P ρ h L ⟨d, .binOp .or T x y T', ty, pos, af, g⟩ (u32 (a ||| b)) :=
  (ro_or hx hy).as (by show Value.int .u32 (IntKind.u32.wrap ((BitVec.ofInt 32 (a.toNat : Int) ||| BitVec.ofInt 32 (b.toNat : Int)).toNat : Int)) = _; rw [ofInt_toNat, ofInt_toNat, wrap_u32, ofInt_toNat])
theorem ro32_xor : RO P ρ h L ⟨d, .binOp .xor T x y T', ty, pos, af, g⟩ (u32 (a ^^^ b)) :=
  (ro_xor hx hy).as (by show Value.int .u32 (IntKind.u32.wrap ((BitVec.ofInt 32 (a.toNat : Int) ^^^ BitVec.ofInt 32 (b.toNat : Int)).toNat : Int)) = _; rw [ofInt_toNat, ofInt_toNat, wrap_u32, ofInt_toNat])
theorem ro32_andNot : RO P ρ h L ⟨d, .binOp .andNot T x y T', ty, pos, af, g⟩ (u32 (a &&& ~~~b)) :=
  (ro_andNot hx hy).as (by show Value.int .u32 (IntKind.u32.wrap ((BitVec.ofInt 32 (a.toNat : Int) &&& ~~~BitVec.ofInt 32 (b.toNat : Int)).toNat : Int)) = _; rw [ofInt_toNat, ofInt_toNat, wrap_u32, ofInt_toNat])
theorem ro32_quo (hb : b ≠ 0#32) : RO P ρ h L ⟨d, .binOp .quo T x y T', ty, pos, af, g⟩ (u32 (a / b)) :=
  (ro_quo hx hy (fun e => hb (BitVec.eq_of_toNat_eq (by simpa using e)))).as (by
    rw [← Int.ofNat_tdiv, wrap_u32, ofInt_nat]
    congr 2
    rw [BitVec.toNat_ofNat, BitVec.toNat_udiv, Nat.mod_eq_of_lt (Nat.lt_of_le_of_lt (Nat.div_le_self _ _) a.isLt)])
theorem ro32_rem (hb : b ≠ 0#32) : RO P ρ h L ⟨d, .binOp .rem T x y T', ty, pos, af, g⟩ (u32 (a % b)) :=
  (ro_rem hx hy (fun e => hb (BitVec.eq_of_toNat_eq (by simpa using e)))).as (by simp [u32, BitVec.toNat_umod, ← Int.ofNat_tmod])
theorem ro32_eql : RO P ρ h L ⟨d, .binOp .eql T x y T', ty, pos, af, g⟩ (.bool (decide (a = b))) :=
  (ro_eql hx hy).as (by congr 1; rw [decide_eq_decide]; rw [BitVec.toNat_eq]; omega)
theorem ro32_neq : RO P ρ h L ⟨d, .binOp .neq T x y T', ty, pos, af, g⟩ (.bool (!decide (a = b))) :=
  (ro_neq hx hy).as (by congr 2; rw [decide_eq_decide]; rw [BitVec.toNat_eq]; omega)
theorem ro32_gtr : RO P ρ h L ⟨d, .binOp .gtr T x y T', ty, pos, af, g⟩ (.bool (decide (b < a))) :=
  (ro_gtr hx hy).as (by congr 1; rw [decide_eq_decide, BitVec.lt_def]; omega)
theorem ro32_lss : RO P ρ h L ⟨d, .binOp .lss T x y T', ty, pos, af, g⟩ (.bool (decide (a < b))) :=
  (ro_lss hx hy).as (by congr 1; rw [decide_eq_decide, BitVec.lt_def]; omega)
theorem ro32_geq : RO P ρ h L ⟨d, .binOp .geq T x y T', ty, pos, af, g⟩ (.bool (decide (b ≤ a))) :=
  (ro_geq hx hy).as (by congr 1; rw [decide_eq_decide, BitVec.le_def]; omega)
theorem ro32_leq : RO P ρ h L ⟨d, .binOp .leq T x y T', ty, pos, af, g⟩ (.bool (decide (a ≤ b))) :=
  (ro_leq hx hy).as (by congr 1; rw [decide_eq_decide, BitVec.le_def]; omega)
end u32

section u64
variable {a b : BitVec 64} (hx : ev ρ x = u64 a) (hy : ev ρ y = u64 b)
include hx hy
theorem ro64_add : RO P ρ h L ⟨d, .binOp .add T x y T', ty, pos, af, g⟩ (u64 (a + b)) := (ro_add hx hy).as (by rw [wrap_u64, ofInt_add])
theorem ro64_sub : RO P ρ h L ⟨d, .binOp .sub T x y T', ty, pos, af, g⟩ (u64 (a - b)) := (ro_sub hx hy).as (by rw [wrap_u64, ofInt_sub])
theorem ro64_mul : RO P ρ h L ⟨d, .binOp .mul T x y T', ty, pos, af, g⟩ (u64 (a * b)) := (ro_mul hx hy).as (by rw [wrap_u64, ofInt_mul])
theorem ro64_and : RO P ρ h L ⟨d, .binOp .and T x y T', ty, pos, af, g⟩ (u64 (a &&& b)) :=
  (ro_and hx hy).as (by show Value.int .u64 (IntKind.u64.wrap ((BitVec.ofInt 64 (a.toNat : Int) &&& BitVec.ofInt 64 (b.toNat : Int)).toNat : Int)) = _; rw [ofInt_toNat, ofInt_toNat, wrap_u64, ofInt_toNat])
theorem ro64_or : RO P ρ h L ⟨d, .binOp .or T x y T', ty, pos, af, g⟩ (u64 (a ||| b)) :=
  (ro_or hx hy).as (by show Value.int .u64 (IntKind.u64.wrap ((BitVec.ofInt 64 (a.toNat : Int) ||| BitVec.ofInt 64 (b.toNat : Int)).toNat : Int)) = _; rw [ofInt_toNat, ofInt_toNat, wrap_u64, ofInt_toNat])
theorem ro64_quo (hb : b ≠ 0#64) : RO P ρ h L ⟨d, .binOp .quo T x y T', ty, pos, af, g⟩ (u64 (a / b)) :=
  (ro_quo hx hy (fun e => hb (BitVec.eq_of_toNat_eq (by simpa using e)))).as (by
    rw [← Int.ofNat_tdiv, wrap_u64, ofInt_nat]
    congr 2
    rw [BitVec.toNat_ofNat, BitVec.toNat_udiv, Nat.mod_eq_of_lt (Nat.lt_of_le_of_lt (Nat.div_le_self _ _) a.isLt)])
theorem ro64_rem (hb : b ≠ 0#64) : RO P ρ h L ⟨d, .binOp .rem T x y T', ty, pos, af, g⟩ (u64 (a % b)) :=
  (ro_rem hx hy (fun e => hb (BitVec.eq_of_toNat_eq (by simpa using e)))).as (by simp [u64, BitVec.toNat_umod, ← Int.ofNat_tmod])
theorem ro64_eql : RO P ρ h L ⟨d, .binOp .eql T x y T', ty, pos, af, g⟩ (.bool (decide (a = b))) :=
  (ro_eql hx hy).as (by congr 1; rw [decide_eq_decide]; rw [BitVec.toNat_eq]; omega)
theorem ro64_neq : RO P ρ h L ⟨d, .binOp .neq T x y T', ty, pos, af, g⟩ (.bool (!decide (a = b))) :=
  (ro_neq hx hy).as (by congr 2; rw [decide_eq_decide]; rw [BitVec.toNat_eq]; omega)
theorem ro64_gtr : RO P ρ h L ⟨d, .binOp .gtr T x y T', ty, pos, af, g⟩ (.bool (decide (b < a))) :=
  (ro_gtr hx hy).as (by congr 1; rw [decide_eq_decide, BitVec.lt_def]; omega)
theorem ro64_lss : RO P ρ h L ⟨d, .binOp .lss T x y T', ty, pos, af, g⟩ (.bool (decide (a < b))) :=
  (ro_lss hx hy).as (by congr 1; rw [decide_eq_decide, BitVec.lt_def]; omega)
theorem ro64_geq : RO P ρ h L ⟨d, .binOp .geq T x y T', ty, pos, af, g⟩ (.bool (decide (b ≤ a))) :=
  (ro_geq hx hy).as (by congr 1; rw [decide_eq_decide, BitVec.le_def]; omega)
theorem ro64_leq : RO P ρ h L ⟨d, .binOp .leq T x y T', ty, pos, af, g⟩ (.bool (decide (a ≤ b))) :=
  (ro_leq hx hy).as (by congr 1; rw [decide_eq_decide, BitVec.le_def]; omega)
end u64

section i32
variable {a b : BitVec 32} (hx : ev ρ x = i32 a) (hy : ev ρ y = i32 b)
include hx hy
theorem roi32_eql : RO P ρ h L ⟨d, .binOp .eql T x y T', ty, pos, af, g⟩ (.bool (decide (a = b))) :=
  (ro_eql hx hy).as (by congr 1; rw [decide_eq_decide]; exact ⟨fun e => BitVec.eq_of_toInt_eq e, fun e => by rw [e]⟩)
theorem roi32_gtr : RO P ρ h L ⟨d, .binOp .gtr T x y T', ty, pos, af, g⟩ (.bool (decide (b.toInt < a.toInt))) := ro_gtr hx hy
theorem roi32_lss : RO P ρ h L ⟨d, .binOp .lss T x y T', ty, pos, af, g⟩ (.bool (decide (a.toInt < b.toInt))) := ro_lss hx hy
theorem roi32_geq : RO P ρ h L ⟨d, .binOp .geq T x y T', ty, pos, af, g⟩ (.bool (decide (b.toInt ≤ a.toInt))) := ro_geq hx hy
theorem roi32_leq : RO P ρ h L ⟨d, .binOp .leq T x y T', ty, pos, af, g⟩ (.bool (decide (a.toInt ≤ b.toInt))) := ro_leq hx hy
end i32

section int
variable {a b : Int} (hx : ev ρ x = int a) (hy : ev ρ y = int b)
include hx hy
theorem roI_add (hb : -9223372036854775808 ≤ a + b ∧ a + b ≤ 9223372036854775807) : RO P ρ h L ⟨d, .binOp .add T x y T', ty, pos, af, g⟩ (int (a + b)) := (ro_add hx hy).as (by rw [wrap_int hb])
theorem roI_sub (hb : -9223372036854775808 ≤ a - b ∧ a - b ≤ 9223372036854775807) : RO P ρ h L ⟨d, .binOp .sub T x y T', ty, pos, af, g⟩ (int (a - b)) := (ro_sub hx hy).as (by rw [wrap_int hb])
theorem roI_mul (hb : -9223372036854775808 ≤ a * b ∧ a * b ≤ 9223372036854775807) : RO P ρ h L ⟨d, .binOp .mul T x y T', ty, pos, af, g⟩ (int (a * b)) := (ro_mul hx hy).as (by rw [wrap_int hb])
theorem roI_quo (h0 : b ≠ 0) (hb : -9223372036854775808 ≤ a.tdiv b ∧ a.tdiv b ≤ 9223372036854775807) : RO P ρ h L ⟨d, .binOp .quo T x y T', ty, pos, af, g⟩ (int (a.tdiv b)) := (ro_quo hx hy h0).as (by rw [wrap_int hb])
theorem roI_rem (h0 : b ≠ 0) : RO P ρ h L ⟨d, .binOp .rem T x y T', ty, pos, af, g⟩ (int (a.tmod b)) := ro_rem hx hy h0
theorem roI_eql : RO P ρ h L ⟨d, .binOp .eql T x y T', ty, pos, af, g⟩ (.bool (decide (a = b))) := ro_eql hx hy
theorem roI_neq : RO P ρ h L ⟨d, .binOp .neq T x y T', ty, pos, af, g⟩ (.bool (!decide (a = b))) := ro_neq hx hy
theorem roI_gtr : RO P ρ h L ⟨d, .binOp .gtr T x y T', ty, pos, af, g⟩ (.bool (decide (b < a))) := ro_gtr hx hy
theorem roI_lss : RO P ρ h L ⟨d, .binOp .lss T x y T', ty, pos, af, g⟩ (.bool (decide (a < b))) := ro_lss hx hy
theorem roI_geq : RO P ρ h L ⟨d, .binOp .geq T x y T', ty, pos, af, g⟩ (.bool (decide (b ≤ a))) := ro_geq hx hy
theorem roI_leq : RO P ρ h L ⟨d, .binOp .leq T x y T', ty, pos, af, g⟩ (.bool (decide (a ≤ b))) := ro_leq hx hy
end int

/-! shifts -/
theorem shl_toNat {n : Nat} (a : BitVec n) (s : Nat) : BitVec.ofInt n ((a.toNat : Int) * 2 ^ (min s n)) = a <<< s := by
  have e : (a.toNat : Int) * 2 ^ (min s n) = ((a.toNat * 2 ^ (min s n) : Nat) : Int) := by simp
  rw [e, ofInt_nat]
  apply BitVec.eq_of_toNat_eq
  rw [BitVec.toNat_ofNat, BitVec.toNat_shiftLeft, Nat.shiftLeft_eq]
  by_cases h : s ≤ n
  · rw [Nat.min_eq_left h]
  · rw [Nat.min_eq_right (by omega)]
    have h1 : 2 ^ s = 2 ^ n * 2 ^ (s - n) := by rw [← Nat.pow_add]; congr 1; omega
    rw [h1, Nat.mul_mod_left, ← Nat.mul_assoc, Nat.mul_comm (a.toNat) (2 ^ n), Nat.mul_assoc, Nat.mul_mod_right]
theorem shr_toNat {n : Nat} (a : BitVec n) (s : Nat) : (a.toNat : Int).fdiv (2 ^ (min s n)) = ((a >>> s).toNat : Int) := by
  have e : ((2 : Int) ^ (min s n)) = ((2 ^ (min s n) : Nat) : Int) := by simp
  rw [e, ← Int.ofNat_fdiv, BitVec.toNat_ushiftRight, Nat.shiftRight_eq_div_pow]
  by_cases h : s ≤ n
  · rw [Nat.min_eq_left h]
  · rw [Nat.min_eq_right (by omega)]
    have ha := a.isLt
    have h1 : 2 ^ n ≤ 2 ^ s := Nat.pow_le_pow_right (by decide) (by omega)
    rw [Nat.div_eq_of_lt ha, Nat.div_eq_of_lt (by omega)]
theorem sshr_toInt (a : BitVec 32) (s : Nat) : (a.toInt).fdiv (2 ^ (min s 32)) = (a.sshiftRight s).toInt := by
  rw [BitVec.toInt_sshiftRight, Int.shiftRight_eq_div_pow, Int.fdiv_eq_ediv_of_nonneg _ (by exact Int.pow_nonneg (by decide))]
  by_cases h : s ≤ 32
  · rw [Nat.min_eq_left h, Int.natCast_pow]; rfl
  · rw [Nat.min_eq_right (by omega)]
    have h1 : 2 ^ 32 ≤ 2 ^ s := Nat.pow_le_pow_right (by decide) (by omega)
    have h2 := BitVec.toInt_lt (x := a)
    have h3 := BitVec.le_toInt (x := a)
    by_cases hn : 0 ≤ a.toInt
    · rw [Int.ediv_eq_zero_of_lt hn (by omega), Int.ediv_eq_zero_of_lt hn (by have h4 : (4294967296 : Int) ≤ ((2 ^ s : Nat) : Int) := Int.ofNat_le.2 h1
                                                                              omega)]
    · have k1 : a.toInt / 2 ^ 32 = -1 := by omega
      rw [k1]
      have k2 : (4294967296 : Int) ≤ ((2 ^ s : Nat) : Int) := Int.ofNat_le.2 h1
      generalize ((2 ^ s : Nat) : Int) = p at *
      symm
      rw [Int.ediv_eq_iff_of_pos (by omega)]
      constructor <;> omega

theorem ro32_shl {k : IntKind} {a : BitVec 32} {s : Nat} (hx : ev ρ x = u32 a) (hy : ev ρ y = .int k s) : RO P ρ h L ⟨d, .binOp .shl T x y T', ty, pos, af, g⟩ (u32 (a <<< s)) :=
  (ro_shl hx hy (by omega)).as (by
    show Value.int .u32 (IntKind.u32.wrap ((a.toNat : Int) * 2 ^ (min (s : Int).toNat 32))) = _
    rw [Int.toNat_natCast, wrap_u32, shl_toNat])
theorem ro32_shr {k : IntKind} {a : BitVec 32} {s : Nat} (hx : ev ρ x = u32 a) (hy : ev ρ y = .int k s) : RO P ρ h L ⟨d, .binOp .shr T x y T', ty, pos, af, g⟩ (u32 (a >>> s)) :=
  (ro_shr hx hy (by omega)).as (by
    show Value.int .u32 ((a.toNat : Int).fdiv (2 ^ (min (s : Int).toNat 32))) = _
    rw [Int.toNat_natCast, shr_toNat])
theorem ro64_shl {k : IntKind} {a : BitVec 64} {s : Nat} (hx : ev ρ x = u64 a) (hy : ev ρ y = .int k s) : RO P ρ h L ⟨d, .binOp .shl T x y T', ty, pos, af, g⟩ (u64 (a <<< s)) :=
  (ro_shl hx hy (by omega)).as (by
    show Value.int .u64 (IntKind.u64.wrap ((a.toNat : Int) * 2 ^ (min (s : Int).toNat 64))) = _
    rw [Int.toNat_natCast, wrap_u64, shl_toNat])
theorem ro64_shr {k : IntKind} {a : BitVec 64} {s : Nat} (hx : ev ρ x = u64 a) (hy : ev ρ y = .int k s) : RO P ρ h L ⟨d, .binOp .shr T x y T', ty, pos, af, g⟩ (u64 (a >>> s)) :=
  (ro_shr hx hy (by omega)).as (by
    show Value.int .u64 ((a.toNat : Int).fdiv (2 ^ (min (s : Int).toNat 64))) = _
    rw [Int.toNat_natCast, shr_toNat])
theorem roi32_shr {k : IntKind} {a : BitVec 32} {s : Nat} (hx : ev ρ x = i32 a) (hy : ev ρ y = .int k s) : RO P ρ h L ⟨d, .binOp .shr T x y T', ty, pos, af, g⟩ (i32 (a.sshiftRight s)) :=
  (ro_shr hx hy (by omega)).as (by
    show Value.int .i32 ((a.toInt).fdiv (2 ^ (min (s : Int).toNat 32))) = _
    rw [Int.toNat_natCast, sshr_toInt])

/-! conversions -/
theorem ofInt_nat' (n : Nat) {m : Nat} (a : BitVec m) : BitVec.ofInt n (a.toNat : Int) = a.setWidth n := by
  rw [ofInt_nat]; apply BitVec.eq_of_toNat_eq; simp
section conv
variable {src dst : TypeId} (hs : (P.underlying src).isSome = true)
include hs
theorem cv_8_32 (hd : intKindB P dst = some .u32) {a : BitVec 8} (hx : ev ρ x = u8 a) : RO P ρ h L ⟨d, .convert src dst x, ty, pos, af, g⟩ (u32 (a.setWidth 32)) := (ro_convert hd hs hx).as (by rw [wrap_u32, ofInt_nat'])
theorem cv_8_i (hd : intKindB P dst = some .i64) {a : BitVec 8} (hx : ev ρ x = u8 a) : RO P ρ h L ⟨d, .convert src dst x, ty, pos, af, g⟩ (int a.toNat) := (ro_convert hd hs hx).as (by rw [wrap_int (by have := a.isLt; omega)])
theorem cv_32_8 (hd : intKindB P dst = some .u8) {a : BitVec 32} (hx : ev ρ x = u32 a) : RO P ρ h L ⟨d, .convert src dst x, ty, pos, af, g⟩ (u8 (a.setWidth 8)) := (ro_convert hd hs hx).as (by rw [wrap_u8, ofInt_nat'])
theorem cv_32_64 (hd : intKindB P dst = some .u64) {a : BitVec 32} (hx : ev ρ x = u32 a) : RO P ρ h L ⟨d, .convert src dst x, ty, pos, af, g⟩ (u64 (a.setWidth 64)) := (ro_convert hd hs hx).as (by rw [wrap_u64, ofInt_nat'])
theorem cv_32_i (hd : intKindB P dst = some .i64) {a : BitVec 32} (hx : ev ρ x = u32 a) : RO P ρ h L ⟨d, .convert src dst x, ty, pos, af, g⟩ (int a.toNat) := (ro_convert hd hs hx).as (by rw [wrap_int (by have := a.isLt; omega)])
theorem cv_32_i32 (hd : intKindB P dst = some .i32) {a : BitVec 32} (hx : ev ρ x = u32 a) : RO P ρ h L ⟨d, .convert src dst x, ty, pos, af, g⟩ (i32 a) := (ro_convert hd hs hx).as (by rw [wrap_i32, ofInt_toNat])
theorem cv_32_32 (hd : intKindB P dst = some .u32) {a : BitVec 32} (hx : ev ρ x = u32 a) : RO P ρ h L ⟨d, .convert src dst x, ty, pos, af, g⟩ (u32 a) := (ro_convert hd hs hx).as (by rw [wrap_u32, ofInt_toNat])
theorem cv_64_32 (hd : intKindB P dst = some .u32) {a : BitVec 64} (hx : ev ρ x = u64 a) : RO P ρ h L ⟨d, .convert src dst x, ty, pos, af, g⟩ (u32 (a.setWidth 32)) := (ro_convert hd hs hx).as (by rw [wrap_u32, ofInt_nat'])
theorem cv_64_i (hd : intKindB P dst = some .i64) {a : BitVec 64} (hx : ev ρ x = u64 a) (hb : a.toNat ≤ 9223372036854775807) : RO P ρ h L ⟨d, .convert src dst x, ty, pos, af, g⟩ (int a.toNat) := (ro_convert hd hs hx).as (by rw [wrap_int (by omega)])
theorem cv_i_32 (hd : intKindB P dst = some .u32) {a : Int} (hx : ev ρ x = int a) : RO P ρ h L ⟨d, .convert src dst x, ty, pos, af, g⟩ (u32 (BitVec.ofInt 32 a)) := (ro_convert hd hs hx).as (by rw [wrap_u32])
theorem cv_i_64 (hd : intKindB P dst = some .u64) {a : Int} (hx : ev ρ x = int a) : RO P ρ h L ⟨d, .convert src dst x, ty, pos, af, g⟩ (u64 (BitVec.ofInt 64 a)) := (ro_convert hd hs hx).as (by rw [wrap_u64])
theorem cv_i_8 (hd : intKindB P dst = some .u8) {a : Int} (hx : ev ρ x = int a) : RO P ρ h L ⟨d, .convert src dst x, ty, pos, af, g⟩ (u8 (BitVec.ofInt 8 a)) := (ro_convert hd hs hx).as (by rw [wrap_u8])
theorem cv_i_i32 (hd : intKindB P dst = some .i32) {a : Int} (hx : ev ρ x = int a) : RO P ρ h L ⟨d, .convert src dst x, ty, pos, af, g⟩ (i32 (BitVec.ofInt 32 a)) := (ro_convert hd hs hx).as (by rw [wrap_i32])
theorem cv_i32_32 (hd : intKindB P dst = some .u32) {a : BitVec 32} (hx : ev ρ x = i32 a) : RO P ρ h L ⟨d, .convert src dst x, ty, pos, af, g⟩ (u32 a) := (ro_convert hd hs hx).as (by rw [wrap_u32]; simp)
theorem cv_i32_i (hd : intKindB P dst = some .i64) {a : BitVec 32} (hx : ev ρ x = i32 a) : RO P ρ h L ⟨d, .convert src dst x, ty, pos, af, g⟩ (int a.toInt) := (ro_convert hd hs hx).as (by
  have h2 := BitVec.toInt_lt (x := a)
  have h3 := BitVec.le_toInt (x := a)
  rw [wrap_int (by omega)])
end conv

/-! addresses by a constant index -/
theorem ro_indexAddr_c {len size b off : Nat} {k : IntKind} (j o' : Nat) (ht : arrayB P T len size = true) (hx : ev ρ x = .pointer (some ⟨b, off, none⟩)) (hy : ev ρ y = .int k j) (h1 : Nat.blt j len = true) (ho : Nat.beq (off + j * size) o' = true) :
    RO P ρ h L ⟨d, .indexAddr T x y, ty, pos, af, g⟩ (.pointer (some ⟨b, o', none⟩)) :=
  (ro_indexAddr_array ht hx hy (by omega) (by have : j < len := by simpa [Nat.blt_eq] using h1
                                              omega)).as (by rw [Int.toNat_natCast, Nat.eq_of_beq_eq_true ho])
/-- .. by a computed one, an element being one cell. -/
theorem ro_indexAddr_v {len b off : Nat} {k : IntKind} (j : Nat) (ht : arrayB P T len 1 = true) (hx : ev ρ x = .pointer (some ⟨b, off, none⟩)) {m : Int} (hy : ev ρ y = .int k m) (hm : m = j) (h1 : j < len) :
    RO P ρ h L ⟨d, .indexAddr T x y, ty, pos, af, g⟩ (.pointer (some ⟨b, off + j, none⟩)) :=
  (ro_indexAddr_array ht hx hy (by omega) (by omega)).as (by subst hm; rw [Int.toNat_natCast, Nat.mul_one])
end
end Go.Sx
