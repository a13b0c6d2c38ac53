/-
  WHAT THE PROGRAM'S FUNCTIONS COMPUTE, AS PLAIN LEAN (own work).
-/
import Derived.Test.YtnikheoiciokhaaDoorSxM
namespace Go.Sx.G
open Go Go.Sx

/-! csr -/
def csrIs (n : Int) : Bool := decide (0 ≤ n) && decide (n < 12)
theorem csrIs_t {n : Int} (h : csrIs n = true) : 0 ≤ n ∧ n < 12 := by simpa [csrIs] using h
theorem csrIs_nf {n : Int} (h : (!csrIs n) = false) : 0 ≤ n ∧ n < 12 := csrIs_t (by simpa using h)
def masks : V12 := #v[14#32, 4294967292#32, 4294967295#32, 4294967295#32, 4294967292#32, 4294967292#32, 4294967295#32, 0#32, 0#32, 4294967295#32, 4294967295#32, 4294967295#32]
def csrReset : V12 := #v[1#32, 0#32, 0#32, 0#32, 0#32, 0#32, 0#32, 0#32, 0#32, 4294967295#32, 4294967295#32, 0#32]
def writeMask (n : Int) : BitVec 32 := if csrIs n then rget masks n.toNat else 0#32
def csrRead (c : V12) (time : BitVec 64) (n : Int) : BitVec 32 :=
  if n = 7 then time.setWidth 32 else if n = 8 then (time >>> 32).setWidth 32 else if csrIs n then rget c n.toNat else 0#32
def csrWrite (c : V12) (n : Int) (v : BitVec 32) : V12 :=
  if csrIs n then rset c n.toNat (rget c n.toNat &&& ~~~(rget masks n.toNat) ||| v &&& rget masks n.toNat) else c
def timerCompare (c : V12) : BitVec 64 := (rget c 10).setWidth 64 <<< 32 ||| (rget c 9).setWidth 64

/-! trap -/
def has (s bit : BitVec 32) : Bool := !decide (s &&& bit = 0#32)
def with_ (s bit : BitVec 32) (is : Bool) : BitVec 32 := if is then s ||| bit else s &&& ~~~bit
def senter (s : BitVec 32) : BitVec 32 := with_ (with_ (with_ (with_ s 4#32 (has s 1#32)) 8#32 (has s 2#32)) 1#32 true) 2#32 false
def sback (s : BitVec 32) : BitVec 32 := with_ (with_ s 1#32 (has s 4#32)) 2#32 (has s 8#32)
def turn (c : Core) (b : BitVec 32 → BitVec 32) (pc : BitVec 32) : Core := { c with csr := rset c.csr 0 (b (rget c.csr 0)), pc := pc }
def trapEnter (c : Core) (t : Trap) : Core :=
  if t.cause = 0 then c else
  let r := rset (rset (rset c.csr 1 c.pc) 2 (BitVec.ofInt 32 t.cause)) 3 t.tval
  turn { c with csr := r } senter (rget r 4)
def trapReturn (c : Core) : Core := turn c sback (rget c.csr 1)
def isSupervisor (c : Core) : Bool := has (rget c.csr 0) 1#32
def interruptsEnabled (c : Core) : Bool := has (rget c.csr 0) 2#32

/-! regs -/
def regsIs (i : Int) : Bool := decide (0 < i) && decide (i < 16)
theorem regsIs_t {n : Int} (h : regsIs n = true) : 0 ≤ n ∧ n < 16 := by simp [regsIs] at h; omega
theorem regsIs_nf {n : Int} (h : (!regsIs n) = false) : 0 ≤ n ∧ n < 16 := regsIs_t (by simpa using h)
def regsGet (r : V16) (i : Int) : BitVec 32 := if regsIs i then rget r i.toNat else 0#32
def regsSet (r : V16) (i : Int) (v : BitVec 32) : V16 := if regsIs i then rset r i.toNat v else r
def clearZero (r : V16) : V16 := rset r 0 0#32

end Go.Sx.G
namespace Go.Sx.G
open Go Go.Sx

/-! bits -/
def low64 (w : BitVec 64) (n : Nat) : BitVec 64 := w &&& ((1#64 <<< n) - 1#64)
def extract (w : BitVec 32) (at_ n : Nat) : BitVec 32 := (low64 (w.setWidth 64 >>> at_) n).setWidth 32
def insert (w : BitVec 32) (at_ n : Nat) (v : BitVec 32) : BitVec 32 :=
  w &&& ~~~((low64 18446744073709551615#64 n).setWidth 32 <<< at_) ||| ((low64 (v.setWidth 64) n).setWidth 32 <<< at_)
def signExtend (v : BitVec 32) (n : Nat) : BitVec 32 := (v <<< (32 - n)).sshiftRight (32 - n)
def fitsSigned (v : BitVec 32) (n : Nat) : Bool := decide (signExtend v n = v)
def lowBits (v : BitVec 32) (n : Nat) : BitVec 32 := extract v 0 n
theorem of64 {n : Nat} (hn : n ≤ 64) : (BitVec.ofInt 64 (n : Int)).toNat = n := by
  rw [ofInt_nat, BitVec.toNat_ofNat, Nat.mod_eq_of_lt (by omega)]
theorem of64s {n : Nat} (hn : n ≤ 32) : (BitVec.ofInt 64 (32 - (n : Int))).toNat = 32 - n := by
  rw [show (32 - (n : Int)) = ((32 - n : Nat) : Int) by omega, of64 (by omega)]

/-! isa -/
def forms : List Int := [0, 1, 1, 1, 1, 1, 1, 1, 1, 2, 3, 2, 2, 2, 2, 2, 2, 2, 3, 2, 4, 5, 6, 4, 4, 7]
def formsAt (i : Nat) : Int := forms.getD i 0
def formatOf (op : Int) : Int := if op < 0 ∨ 26 ≤ op then 0 else formsAt op.toNat
theorem formsAt_lt (i : Nat) : 0 ≤ formsAt i ∧ formsAt i < 8 := by
  by_cases h : i < 26
  · have : ∀ k, k < 26 → 0 ≤ formsAt k ∧ formsAt k < 8 := by decide
    exact this i h
  · unfold formsAt
    rw [List.getD_eq_getElem?_getD, List.getElem?_eq_none (by simp [forms]; omega)]
    decide
theorem formatOf_lt (op : Int) : 0 ≤ formatOf op ∧ formatOf op < 8 := by
  unfold formatOf
  split
  · decide
  · exact formsAt_lt _
def parts : List Has := [⟨false, false, false, false, false⟩, ⟨true, true, true, false, false⟩, ⟨true, true, false, true, false⟩, ⟨true, false, false, true, false⟩, ⟨false, false, false, false, false⟩, ⟨true, false, false, false, true⟩, ⟨false, true, false, false, true⟩, ⟨false, true, false, false, false⟩]
def partsAt (i : Nat) : Has := parts.getD i Has.zero
def register (n : Int) (hs : Bool) : Bool := decide (n = 0) || (hs && decide (0 < n) && decide (n < 16))
def numberOk (i : Instr) (p : Has) : Bool := decide (i.imm = 0#32) || (p.imm && fitsSigned i.imm 18) || (p.csr && decide (0 < i.imm.toInt) && decide (i.imm.toInt < 12))
def partOf (i : Instr) : Has := partsAt (formatOf i.op).toNat
def valid (i : Instr) : Bool :=
  if formatOf i.op = 0 then false else
  numberOk i (partOf i) && register i.rd (partOf i).rd && register i.ra (partOf i).ra && register i.rb (partOf i).rb
def encode (i : Instr) : BitVec 32 × Bool :=
  if valid i then (insert (insert (insert (lowBits i.imm 18 ||| BitVec.ofInt 32 i.rb) 26 6 (BitVec.ofInt 32 i.op)) 22 4 (BitVec.ofInt 32 i.rd)) 18 4 (BitVec.ofInt 32 i.ra), true) else (0#32, false)
def decode0 (w : BitVec 32) : Instr :=
  let i : Instr := { Instr.zero with op := (extract w 26 6).toNat, rd := (extract w 22 4).toNat, ra := (extract w 18 4).toNat }
  if (partOf i).rb then { i with rb := (extract w 0 4).toNat } else { i with imm := signExtend w 18 }
def decode (w : BitVec 32) : Instr × Bool :=
  let i := decode0 w
  if (encode i).2 && decide ((encode i).1 = w) then (i, true) else (Instr.zero, false)
def isPrivileged (op : Int) : Bool := decide (21 ≤ op) && decide (op ≤ 25)
def readsTime (i : Instr) : Bool := decide (i.op = 21) && (decide (i.imm = 7#32) || decide (i.imm = 8#32))

/-! alu -/
def lessSigned (x y : BitVec 32) : Bool := decide (x.toInt < y.toInt)
def eval (op : Int) (x y : BitVec 32) : BitVec 32 :=
  if op = 1 then x + y else if op = 2 then x - y else if op = 3 then x &&& y else if op = 4 then x ||| y else if op = 5 then x ^^^ y
  else if op = 6 then (if lessSigned x y then 1#32 else 0#32) else if op = 7 then x <<< (y &&& 31#32).toNat else if op = 8 then x >>> (y &&& 31#32).toNat else 0#32
def branchTaken (op : Int) (x y : BitVec 32) : Bool :=
  if op = 15 then decide (x = y) else if op = 16 then !decide (x = y) else if op = 17 then lessSigned x y else false

/-! reloc -/
def translate (base bound size a : BitVec 32) (n : Int) : BitVec 32 × Bool :=
  let e := a.setWidth 64 + BitVec.ofInt 64 n
  if bound.setWidth 64 < e || size.setWidth 64 < base.setWidth 64 + e then (0#32, false) else (base + a, true)
def super (c : Core) : Bool := !decide (rget c.csr 0 &&& 1#32 = 0#32)
def translateCore (c : Core) (size a : BitVec 32) (n : Int) : BitVec 32 × Bool :=
  if super c then translate 0#32 size size a n else translate (rget c.csr 5) (rget c.csr 6) size a n
end Go.Sx.G
