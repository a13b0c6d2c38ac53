/-
  THE Go TYPES AS LEAN STRUCTURES (printed by gentypes.py, own work): the cells of a value, and what reading and writing a field comes to.
-/
import Derived.Test.YtnikheoiciokhaaDoorSxB
namespace Go.Sx
open Go
set_option linter.unusedVariables false

@[reducible] def u8 (x : BitVec 8) : Value := .int .u8 x.toNat
@[reducible] def u32 (x : BitVec 32) : Value := .int .u32 x.toNat
@[reducible] def u64 (x : BitVec 64) : Value := .int .u64 x.toNat
@[reducible] def i32 (x : BitVec 32) : Value := .int .i32 x.toInt
@[reducible] def int (x : Int) : Value := .int .i64 x
/-- A slice's header. -/
structure SV where
  a : Option Addr
  len : Nat
  cap : Nat
  deriving DecidableEq, Inhabited
@[reducible] def sv (s : SV) : Value := .slice s.a s.len s.cap
abbrev V16 := Vector (BitVec 32) 16
abbrev V12 := Vector (BitVec 32) 12
def rget {n : Nat} (r : Vector (BitVec 32) n) (i : Nat) : BitVec 32 := r[i]?.getD 0#32
def rset {n : Nat} (r : Vector (BitVec 32) n) (i : Nat) (v : BitVec 32) : Vector (BitVec 32) n := r.setIfInBounds i v
theorem rget_rset {n : Nat} (r : Vector (BitVec 32) n) (i j : Nat) (v : BitVec 32) (hi : i < n) : rget (rset r i v) j = if i = j then v else rget r j := by
  unfold rget rset
  by_cases h : i = j
  · subst h; simp [hi]
  · simp [h]
theorem rget_ext {n : Nat} {r s : Vector (BitVec 32) n} (h : ∀ i, i < n → rget r i = rget s i) : r = s := by
  apply Vector.ext
  intro i hi
  have := h i hi
  simpa [rget, hi] using this
theorem rset_ge {n : Nat} (r : Vector (BitVec 32) n) (i : Nat) (v : BitVec 32) (hi : n ≤ i) : rset r i v = r := by
  apply rget_ext
  intro j hj
  unfold rget rset
  rw [Vector.getElem?_setIfInBounds_ne (by omega)]
def vzero (n : Nat) : Vector (BitVec 32) n := Vector.replicate n 0#32
theorem rget_vzero (n i : Nat) : rget (vzero n) i = 0#32 := by
  unfold rget vzero
  by_cases h : i < n <;> simp [h]
def encV16 (x : V16) : Array Value := #[u32 (rget x 0), u32 (rget x 1), u32 (rget x 2), u32 (rget x 3), u32 (rget x 4), u32 (rget x 5), u32 (rget x 6), u32 (rget x 7), u32 (rget x 8), u32 (rget x 9), u32 (rget x 10), u32 (rget x 11), u32 (rget x 12), u32 (rget x 13), u32 (rget x 14), u32 (rget x 15)]
theorem size_V16 (x : V16) : (encV16 x).size = 16 := rfl
theorem whole_V16 (x : V16) : (encV16 x).extract 0 (0 + 16) = encV16 x := by kernel_rfl
theorem ones_V16 (x : V16) : onesB (encV16 x).toList = true := rfl
def encV12 (x : V12) : Array Value := #[u32 (rget x 0), u32 (rget x 1), u32 (rget x 2), u32 (rget x 3), u32 (rget x 4), u32 (rget x 5), u32 (rget x 6), u32 (rget x 7), u32 (rget x 8), u32 (rget x 9), u32 (rget x 10), u32 (rget x 11)]
theorem size_V12 (x : V12) : (encV12 x).size = 12 := rfl
theorem whole_V12 (x : V12) : (encV12 x).extract 0 (0 + 12) = encV12 x := by kernel_rfl
theorem ones_V12 (x : V12) : onesB (encV12 x).toList = true := rfl
structure Core where
  regs : V16
  pc : BitVec 32
  csr : V12
  deriving DecidableEq
def Core.zero : Core := { regs := vzero 16, pc := 0#32, csr := vzero 12 }
instance : Inhabited Core := ⟨Core.zero⟩
def encCore (x : Core) : Array Value := #[u32 (rget x.regs 0), u32 (rget x.regs 1), u32 (rget x.regs 2), u32 (rget x.regs 3), u32 (rget x.regs 4), u32 (rget x.regs 5), u32 (rget x.regs 6), u32 (rget x.regs 7), u32 (rget x.regs 8), u32 (rget x.regs 9), u32 (rget x.regs 10), u32 (rget x.regs 11), u32 (rget x.regs 12), u32 (rget x.regs 13), u32 (rget x.regs 14), u32 (rget x.regs 15), u32 x.pc, u32 (rget x.csr 0), u32 (rget x.csr 1), u32 (rget x.csr 2), u32 (rget x.csr 3), u32 (rget x.csr 4), u32 (rget x.csr 5), u32 (rget x.csr 6), u32 (rget x.csr 7), u32 (rget x.csr 8), u32 (rget x.csr 9), u32 (rget x.csr 10), u32 (rget x.csr 11)]
theorem size_Core (x : Core) : (encCore x).size = 29 := rfl
theorem whole_Core (x : Core) : (encCore x).extract 0 (0 + 29) = encCore x := by kernel_rfl
theorem ones_Core (x : Core) : onesB (encCore x).toList = true := rfl
structure Machine where
  core : Core
  mem : SV
  time : BitVec 64
  out : SV
  halted : Bool
  deriving DecidableEq
def Machine.zero : Machine := { core := Core.zero, mem := ⟨none, 0, 0⟩, time := 0#64, out := ⟨none, 0, 0⟩, halted := false }
instance : Inhabited Machine := ⟨Machine.zero⟩
def encMachine (x : Machine) : Array Value := #[u32 (rget x.core.regs 0), u32 (rget x.core.regs 1), u32 (rget x.core.regs 2), u32 (rget x.core.regs 3), u32 (rget x.core.regs 4), u32 (rget x.core.regs 5), u32 (rget x.core.regs 6), u32 (rget x.core.regs 7), u32 (rget x.core.regs 8), u32 (rget x.core.regs 9), u32 (rget x.core.regs 10), u32 (rget x.core.regs 11), u32 (rget x.core.regs 12), u32 (rget x.core.regs 13), u32 (rget x.core.regs 14), u32 (rget x.core.regs 15), u32 x.core.pc, u32 (rget x.core.csr 0), u32 (rget x.core.csr 1), u32 (rget x.core.csr 2), u32 (rget x.core.csr 3), u32 (rget x.core.csr 4), u32 (rget x.core.csr 5), u32 (rget x.core.csr 6), u32 (rget x.core.csr 7), u32 (rget x.core.csr 8), u32 (rget x.core.csr 9), u32 (rget x.core.csr 10), u32 (rget x.core.csr 11), sv x.mem, u64 x.time, sv x.out, Value.bool x.halted]
theorem size_Machine (x : Machine) : (encMachine x).size = 33 := rfl
theorem whole_Machine (x : Machine) : (encMachine x).extract 0 (0 + 33) = encMachine x := by kernel_rfl
theorem ones_Machine (x : Machine) : onesB (encMachine x).toList = true := rfl
structure Trap where
  cause : Int
  tval : BitVec 32
  deriving DecidableEq
def Trap.zero : Trap := { cause := 0, tval := 0#32 }
instance : Inhabited Trap := ⟨Trap.zero⟩
def encTrap (x : Trap) : Array Value := #[int x.cause, u32 x.tval]
theorem size_Trap (x : Trap) : (encTrap x).size = 2 := rfl
theorem whole_Trap (x : Trap) : (encTrap x).extract 0 (0 + 2) = encTrap x := by kernel_rfl
theorem ones_Trap (x : Trap) : onesB (encTrap x).toList = true := rfl
structure Instr where
  op : Int
  rd : Int
  ra : Int
  rb : Int
  imm : BitVec 32
  deriving DecidableEq
def Instr.zero : Instr := { op := 0, rd := 0, ra := 0, rb := 0, imm := 0#32 }
instance : Inhabited Instr := ⟨Instr.zero⟩
def encInstr (x : Instr) : Array Value := #[int x.op, int x.rd, int x.ra, int x.rb, i32 x.imm]
theorem size_Instr (x : Instr) : (encInstr x).size = 5 := rfl
theorem whole_Instr (x : Instr) : (encInstr x).extract 0 (0 + 5) = encInstr x := by kernel_rfl
theorem ones_Instr (x : Instr) : onesB (encInstr x).toList = true := rfl
structure Event where
  kind : Int
  at_ : Int
  time : BitVec 64
  deriving DecidableEq
def Event.zero : Event := { kind := 0, at_ := 0, time := 0#64 }
instance : Inhabited Event := ⟨Event.zero⟩
def encEvent (x : Event) : Array Value := #[int x.kind, int x.at_, u64 x.time]
theorem size_Event (x : Event) : (encEvent x).size = 3 := rfl
theorem whole_Event (x : Event) : (encEvent x).extract 0 (0 + 3) = encEvent x := by kernel_rfl
theorem ones_Event (x : Event) : onesB (encEvent x).toList = true := rfl
structure Partition where
  base : BitVec 32
  size : BitVec 32
  deriving DecidableEq
def Partition.zero : Partition := { base := 0#32, size := 0#32 }
instance : Inhabited Partition := ⟨Partition.zero⟩
def encPartition (x : Partition) : Array Value := #[u32 x.base, u32 x.size]
theorem size_Partition (x : Partition) : (encPartition x).size = 2 := rfl
theorem whole_Partition (x : Partition) : (encPartition x).extract 0 (0 + 2) = encPartition x := by kernel_rfl
theorem ones_Partition (x : Partition) : onesB (encPartition x).toList = true := rfl
structure Guest where
  part : Partition
  mem : SV
  regs : V16
  pc : BitVec 32
  deriving DecidableEq
def Guest.zero : Guest := { part := Partition.zero, mem := ⟨none, 0, 0⟩, regs := vzero 16, pc := 0#32 }
instance : Inhabited Guest := ⟨Guest.zero⟩
def encGuest (x : Guest) : Array Value := #[u32 x.part.base, u32 x.part.size, sv x.mem, u32 (rget x.regs 0), u32 (rget x.regs 1), u32 (rget x.regs 2), u32 (rget x.regs 3), u32 (rget x.regs 4), u32 (rget x.regs 5), u32 (rget x.regs 6), u32 (rget x.regs 7), u32 (rget x.regs 8), u32 (rget x.regs 9), u32 (rget x.regs 10), u32 (rget x.regs 11), u32 (rget x.regs 12), u32 (rget x.regs 13), u32 (rget x.regs 14), u32 (rget x.regs 15), u32 x.pc]
theorem size_Guest (x : Guest) : (encGuest x).size = 20 := rfl
theorem whole_Guest (x : Guest) : (encGuest x).extract 0 (0 + 20) = encGuest x := by kernel_rfl
theorem ones_Guest (x : Guest) : onesB (encGuest x).toList = true := rfl
structure Config where
  size : BitVec 32
  guests : SV
  deriving DecidableEq
def Config.zero : Config := { size := 0#32, guests := ⟨none, 0, 0⟩ }
instance : Inhabited Config := ⟨Config.zero⟩
def encConfig (x : Config) : Array Value := #[u32 x.size, sv x.guests]
theorem size_Config (x : Config) : (encConfig x).size = 2 := rfl
theorem whole_Config (x : Config) : (encConfig x).extract 0 (0 + 2) = encConfig x := by kernel_rfl
theorem ones_Config (x : Config) : onesB (encConfig x).toList = true := rfl
structure Vcpu where
  core : Core
  out : SV
  halted : Bool
  done : Int
  log : SV
  deriving DecidableEq
def Vcpu.zero : Vcpu := { core := Core.zero, out := ⟨none, 0, 0⟩, halted := false, done := 0, log := ⟨none, 0, 0⟩ }
instance : Inhabited Vcpu := ⟨Vcpu.zero⟩
def encVcpu (x : Vcpu) : Array Value := #[u32 (rget x.core.regs 0), u32 (rget x.core.regs 1), u32 (rget x.core.regs 2), u32 (rget x.core.regs 3), u32 (rget x.core.regs 4), u32 (rget x.core.regs 5), u32 (rget x.core.regs 6), u32 (rget x.core.regs 7), u32 (rget x.core.regs 8), u32 (rget x.core.regs 9), u32 (rget x.core.regs 10), u32 (rget x.core.regs 11), u32 (rget x.core.regs 12), u32 (rget x.core.regs 13), u32 (rget x.core.regs 14), u32 (rget x.core.regs 15), u32 x.core.pc, u32 (rget x.core.csr 0), u32 (rget x.core.csr 1), u32 (rget x.core.csr 2), u32 (rget x.core.csr 3), u32 (rget x.core.csr 4), u32 (rget x.core.csr 5), u32 (rget x.core.csr 6), u32 (rget x.core.csr 7), u32 (rget x.core.csr 8), u32 (rget x.core.csr 9), u32 (rget x.core.csr 10), u32 (rget x.core.csr 11), sv x.out, Value.bool x.halted, int x.done, sv x.log]
theorem size_Vcpu (x : Vcpu) : (encVcpu x).size = 33 := rfl
theorem whole_Vcpu (x : Vcpu) : (encVcpu x).extract 0 (0 + 33) = encVcpu x := by kernel_rfl
theorem ones_Vcpu (x : Vcpu) : onesB (encVcpu x).toList = true := rfl
structure Monitor where
  conf : Config
  host : Machine
  vcpus : SV
  last : Int
  deriving DecidableEq
def Monitor.zero : Monitor := { conf := Config.zero, host := Machine.zero, vcpus := ⟨none, 0, 0⟩, last := 0 }
instance : Inhabited Monitor := ⟨Monitor.zero⟩
def encMonitor (x : Monitor) : Array Value := #[u32 x.conf.size, sv x.conf.guests, u32 (rget x.host.core.regs 0), u32 (rget x.host.core.regs 1), u32 (rget x.host.core.regs 2), u32 (rget x.host.core.regs 3), u32 (rget x.host.core.regs 4), u32 (rget x.host.core.regs 5), u32 (rget x.host.core.regs 6), u32 (rget x.host.core.regs 7), u32 (rget x.host.core.regs 8), u32 (rget x.host.core.regs 9), u32 (rget x.host.core.regs 10), u32 (rget x.host.core.regs 11), u32 (rget x.host.core.regs 12), u32 (rget x.host.core.regs 13), u32 (rget x.host.core.regs 14), u32 (rget x.host.core.regs 15), u32 x.host.core.pc, u32 (rget x.host.core.csr 0), u32 (rget x.host.core.csr 1), u32 (rget x.host.core.csr 2), u32 (rget x.host.core.csr 3), u32 (rget x.host.core.csr 4), u32 (rget x.host.core.csr 5), u32 (rget x.host.core.csr 6), u32 (rget x.host.core.csr 7), u32 (rget x.host.core.csr 8), u32 (rget x.host.core.csr 9), u32 (rget x.host.core.csr 10), u32 (rget x.host.core.csr 11), sv x.host.mem, u64 x.host.time, sv x.host.out, Value.bool x.host.halted, sv x.vcpus, int x.last]
theorem size_Monitor (x : Monitor) : (encMonitor x).size = 37 := rfl
theorem whole_Monitor (x : Monitor) : (encMonitor x).extract 0 (0 + 37) = encMonitor x := by kernel_rfl
theorem ones_Monitor (x : Monitor) : onesB (encMonitor x).toList = true := rfl
structure RState where
  m : Machine
  trap : Trap
  deriving DecidableEq
def RState.zero : RState := { m := Machine.zero, trap := Trap.zero }
instance : Inhabited RState := ⟨RState.zero⟩
def encRState (x : RState) : Array Value := #[u32 (rget x.m.core.regs 0), u32 (rget x.m.core.regs 1), u32 (rget x.m.core.regs 2), u32 (rget x.m.core.regs 3), u32 (rget x.m.core.regs 4), u32 (rget x.m.core.regs 5), u32 (rget x.m.core.regs 6), u32 (rget x.m.core.regs 7), u32 (rget x.m.core.regs 8), u32 (rget x.m.core.regs 9), u32 (rget x.m.core.regs 10), u32 (rget x.m.core.regs 11), u32 (rget x.m.core.regs 12), u32 (rget x.m.core.regs 13), u32 (rget x.m.core.regs 14), u32 (rget x.m.core.regs 15), u32 x.m.core.pc, u32 (rget x.m.core.csr 0), u32 (rget x.m.core.csr 1), u32 (rget x.m.core.csr 2), u32 (rget x.m.core.csr 3), u32 (rget x.m.core.csr 4), u32 (rget x.m.core.csr 5), u32 (rget x.m.core.csr 6), u32 (rget x.m.core.csr 7), u32 (rget x.m.core.csr 8), u32 (rget x.m.core.csr 9), u32 (rget x.m.core.csr 10), u32 (rget x.m.core.csr 11), sv x.m.mem, u64 x.m.time, sv x.m.out, Value.bool x.m.halted, int x.trap.cause, u32 x.trap.tval]
theorem size_RState (x : RState) : (encRState x).size = 35 := rfl
theorem whole_RState (x : RState) : (encRState x).extract 0 (0 + 35) = encRState x := by kernel_rfl
theorem ones_RState (x : RState) : onesB (encRState x).toList = true := rfl
structure SState where
  regs : V16
  pc : BitVec 32
  deriving DecidableEq
def SState.zero : SState := { regs := vzero 16, pc := 0#32 }
instance : Inhabited SState := ⟨SState.zero⟩
def encSState (x : SState) : Array Value := #[u32 (rget x.regs 0), u32 (rget x.regs 1), u32 (rget x.regs 2), u32 (rget x.regs 3), u32 (rget x.regs 4), u32 (rget x.regs 5), u32 (rget x.regs 6), u32 (rget x.regs 7), u32 (rget x.regs 8), u32 (rget x.regs 9), u32 (rget x.regs 10), u32 (rget x.regs 11), u32 (rget x.regs 12), u32 (rget x.regs 13), u32 (rget x.regs 14), u32 (rget x.regs 15), u32 x.pc]
theorem size_SState (x : SState) : (encSState x).size = 17 := rfl
theorem whole_SState (x : SState) : (encSState x).extract 0 (0 + 17) = encSState x := by kernel_rfl
theorem ones_SState (x : SState) : onesB (encSState x).toList = true := rfl
structure Step where
  m : Machine
  i : Instr
  x : BitVec 32
  y : BitVec 32
  z : BitVec 32
  trap : Trap
  deriving DecidableEq
def Step.zero : Step := { m := Machine.zero, i := Instr.zero, x := 0#32, y := 0#32, z := 0#32, trap := Trap.zero }
instance : Inhabited Step := ⟨Step.zero⟩
def encStep (x : Step) : Array Value := #[u32 (rget x.m.core.regs 0), u32 (rget x.m.core.regs 1), u32 (rget x.m.core.regs 2), u32 (rget x.m.core.regs 3), u32 (rget x.m.core.regs 4), u32 (rget x.m.core.regs 5), u32 (rget x.m.core.regs 6), u32 (rget x.m.core.regs 7), u32 (rget x.m.core.regs 8), u32 (rget x.m.core.regs 9), u32 (rget x.m.core.regs 10), u32 (rget x.m.core.regs 11), u32 (rget x.m.core.regs 12), u32 (rget x.m.core.regs 13), u32 (rget x.m.core.regs 14), u32 (rget x.m.core.regs 15), u32 x.m.core.pc, u32 (rget x.m.core.csr 0), u32 (rget x.m.core.csr 1), u32 (rget x.m.core.csr 2), u32 (rget x.m.core.csr 3), u32 (rget x.m.core.csr 4), u32 (rget x.m.core.csr 5), u32 (rget x.m.core.csr 6), u32 (rget x.m.core.csr 7), u32 (rget x.m.core.csr 8), u32 (rget x.m.core.csr 9), u32 (rget x.m.core.csr 10), u32 (rget x.m.core.csr 11), sv x.m.mem, u64 x.m.time, sv x.m.out, Value.bool x.m.halted, int x.i.op, int x.i.rd, int x.i.ra, int x.i.rb, i32 x.i.imm, u32 x.x, u32 x.y, u32 x.z, int x.trap.cause, u32 x.trap.tval]
theorem size_Step (x : Step) : (encStep x).size = 43 := rfl
theorem whole_Step (x : Step) : (encStep x).extract 0 (0 + 43) = encStep x := by kernel_rfl
theorem ones_Step (x : Step) : onesB (encStep x).toList = true := rfl
structure Has where
  rd : Bool
  ra : Bool
  rb : Bool
  imm : Bool
  csr : Bool
  deriving DecidableEq
def Has.zero : Has := { rd := false, ra := false, rb := false, imm := false, csr := false }
instance : Inhabited Has := ⟨Has.zero⟩
def encHas (x : Has) : Array Value := #[Value.bool x.rd, Value.bool x.ra, Value.bool x.rb, Value.bool x.imm, Value.bool x.csr]
theorem size_Has (x : Has) : (encHas x).size = 5 := rfl
theorem whole_Has (x : Has) : (encHas x).extract 0 (0 + 5) = encHas x := by kernel_rfl
theorem ones_Has (x : Has) : onesB (encHas x).toList = true := rfl
theorem get_V16_at (x : V16) (i : Nat) (hi : i < 16) : (encV16 x)[0 + i]? = some (u32 (rget x i)) := by
  have : i = 0 ∨ i = 1 ∨ i = 2 ∨ i = 3 ∨ i = 4 ∨ i = 5 ∨ i = 6 ∨ i = 7 ∨ i = 8 ∨ i = 9 ∨ i = 10 ∨ i = 11 ∨ i = 12 ∨ i = 13 ∨ i = 14 ∨ i = 15 := by omega
  rcases this with rfl | rfl | rfl | rfl | rfl | rfl | rfl | rfl | rfl | rfl | rfl | rfl | rfl | rfl | rfl | rfl <;> rfl
theorem set_V16_at (x : V16) (i : Nat) (hi : i < 16) (v : BitVec 32) : (encV16 x).setIfInBounds (0 + i) (u32 v) = encV16 (rset x i v) := by
  have : i = 0 ∨ i = 1 ∨ i = 2 ∨ i = 3 ∨ i = 4 ∨ i = 5 ∨ i = 6 ∨ i = 7 ∨ i = 8 ∨ i = 9 ∨ i = 10 ∨ i = 11 ∨ i = 12 ∨ i = 13 ∨ i = 14 ∨ i = 15 := by omega
  rcases this with rfl | rfl | rfl | rfl | rfl | rfl | rfl | rfl | rfl | rfl | rfl | rfl | rfl | rfl | rfl | rfl <;> simp [encV16, rget_rset]
theorem get_V12_at (x : V12) (i : Nat) (hi : i < 12) : (encV12 x)[0 + i]? = some (u32 (rget x i)) := by
  have : i = 0 ∨ i = 1 ∨ i = 2 ∨ i = 3 ∨ i = 4 ∨ i = 5 ∨ i = 6 ∨ i = 7 ∨ i = 8 ∨ i = 9 ∨ i = 10 ∨ i = 11 := by omega
  rcases this with rfl | rfl | rfl | rfl | rfl | rfl | rfl | rfl | rfl | rfl | rfl | rfl <;> rfl
theorem set_V12_at (x : V12) (i : Nat) (hi : i < 12) (v : BitVec 32) : (encV12 x).setIfInBounds (0 + i) (u32 v) = encV12 (rset x i v) := by
  have : i = 0 ∨ i = 1 ∨ i = 2 ∨ i = 3 ∨ i = 4 ∨ i = 5 ∨ i = 6 ∨ i = 7 ∨ i = 8 ∨ i = 9 ∨ i = 10 ∨ i = 11 := by omega
  rcases this with rfl | rfl | rfl | rfl | rfl | rfl | rfl | rfl | rfl | rfl | rfl | rfl <;> simp [encV12, rget_rset]
theorem get_Core_regs (x : Core) : (encCore x).extract 0 (0 + 16) = encV16 x.regs := by kernel_rfl
theorem set_Core_regs (x : Core) (v : V16) : splice (encCore x) 0 (encV16 v).toList = encCore { x with regs := v } := by kernel_rfl
theorem get_Core_pc (x : Core) : (encCore x)[16]? = some (u32 (x.pc)) := rfl
theorem set_Core_pc (x : Core) (v : BitVec 32) : (encCore x).setIfInBounds 16 (u32 v) = encCore { x with pc := v } := by kernel_rfl
theorem get_Core_csr (x : Core) : (encCore x).extract 17 (17 + 12) = encV12 x.csr := by kernel_rfl
theorem set_Core_csr (x : Core) (v : V12) : splice (encCore x) 17 (encV12 v).toList = encCore { x with csr := v } := by kernel_rfl
theorem get_Core_regs_at (x : Core) (i : Nat) (hi : i < 16) : (encCore x)[0 + i]? = some (u32 (rget x.regs i)) := by
  have : i = 0 ∨ i = 1 ∨ i = 2 ∨ i = 3 ∨ i = 4 ∨ i = 5 ∨ i = 6 ∨ i = 7 ∨ i = 8 ∨ i = 9 ∨ i = 10 ∨ i = 11 ∨ i = 12 ∨ i = 13 ∨ i = 14 ∨ i = 15 := by omega
  rcases this with rfl | rfl | rfl | rfl | rfl | rfl | rfl | rfl | rfl | rfl | rfl | rfl | rfl | rfl | rfl | rfl <;> rfl
theorem set_Core_regs_at (x : Core) (i : Nat) (hi : i < 16) (v : BitVec 32) : (encCore x).setIfInBounds (0 + i) (u32 v) = encCore { x with regs := (rset x.regs i v) } := by
  have : i = 0 ∨ i = 1 ∨ i = 2 ∨ i = 3 ∨ i = 4 ∨ i = 5 ∨ i = 6 ∨ i = 7 ∨ i = 8 ∨ i = 9 ∨ i = 10 ∨ i = 11 ∨ i = 12 ∨ i = 13 ∨ i = 14 ∨ i = 15 := by omega
  rcases this with rfl | rfl | rfl | rfl | rfl | rfl | rfl | rfl | rfl | rfl | rfl | rfl | rfl | rfl | rfl | rfl <;> simp [encCore, rget_rset]
theorem get_Core_csr_at (x : Core) (i : Nat) (hi : i < 12) : (encCore x)[17 + i]? = some (u32 (rget x.csr i)) := by
  have : i = 0 ∨ i = 1 ∨ i = 2 ∨ i = 3 ∨ i = 4 ∨ i = 5 ∨ i = 6 ∨ i = 7 ∨ i = 8 ∨ i = 9 ∨ i = 10 ∨ i = 11 := by omega
  rcases this with rfl | rfl | rfl | rfl | rfl | rfl | rfl | rfl | rfl | rfl | rfl | rfl <;> rfl
theorem set_Core_csr_at (x : Core) (i : Nat) (hi : i < 12) (v : BitVec 32) : (encCore x).setIfInBounds (17 + i) (u32 v) = encCore { x with csr := (rset x.csr i v) } := by
  have : i = 0 ∨ i = 1 ∨ i = 2 ∨ i = 3 ∨ i = 4 ∨ i = 5 ∨ i = 6 ∨ i = 7 ∨ i = 8 ∨ i = 9 ∨ i = 10 ∨ i = 11 := by omega
  rcases this with rfl | rfl | rfl | rfl | rfl | rfl | rfl | rfl | rfl | rfl | rfl | rfl <;> simp [encCore, rget_rset]
theorem get_Machine_core (x : Machine) : (encMachine x).extract 0 (0 + 29) = encCore x.core := by kernel_rfl
theorem set_Machine_core (x : Machine) (v : Core) : splice (encMachine x) 0 (encCore v).toList = encMachine { x with core := v } := by kernel_rfl
theorem get_Machine_core_regs (x : Machine) : (encMachine x).extract 0 (0 + 16) = encV16 x.core.regs := by kernel_rfl
theorem set_Machine_core_regs (x : Machine) (v : V16) : splice (encMachine x) 0 (encV16 v).toList = encMachine { x with core := { x.core with regs := v } } := by kernel_rfl
theorem get_Machine_core_pc (x : Machine) : (encMachine x)[16]? = some (u32 (x.core.pc)) := rfl
theorem set_Machine_core_pc (x : Machine) (v : BitVec 32) : (encMachine x).setIfInBounds 16 (u32 v) = encMachine { x with core := { x.core with pc := v } } := by kernel_rfl
theorem get_Machine_core_csr (x : Machine) : (encMachine x).extract 17 (17 + 12) = encV12 x.core.csr := by kernel_rfl
theorem set_Machine_core_csr (x : Machine) (v : V12) : splice (encMachine x) 17 (encV12 v).toList = encMachine { x with core := { x.core with csr := v } } := by kernel_rfl
theorem get_Machine_mem (x : Machine) : (encMachine x)[29]? = some (sv (x.mem)) := rfl
theorem set_Machine_mem (x : Machine) (v : SV) : (encMachine x).setIfInBounds 29 (sv v) = encMachine { x with mem := v } := by kernel_rfl
theorem get_Machine_time (x : Machine) : (encMachine x)[30]? = some (u64 (x.time)) := rfl
theorem set_Machine_time (x : Machine) (v : BitVec 64) : (encMachine x).setIfInBounds 30 (u64 v) = encMachine { x with time := v } := by kernel_rfl
theorem get_Machine_out (x : Machine) : (encMachine x)[31]? = some (sv (x.out)) := rfl
theorem set_Machine_out (x : Machine) (v : SV) : (encMachine x).setIfInBounds 31 (sv v) = encMachine { x with out := v } := by kernel_rfl
theorem get_Machine_halted (x : Machine) : (encMachine x)[32]? = some (Value.bool (x.halted)) := rfl
theorem set_Machine_halted (x : Machine) (v : Bool) : (encMachine x).setIfInBounds 32 (Value.bool v) = encMachine { x with halted := v } := by kernel_rfl
theorem get_Machine_core_regs_at (x : Machine) (i : Nat) (hi : i < 16) : (encMachine x)[0 + i]? = some (u32 (rget x.core.regs i)) := by
  have : i = 0 ∨ i = 1 ∨ i = 2 ∨ i = 3 ∨ i = 4 ∨ i = 5 ∨ i = 6 ∨ i = 7 ∨ i = 8 ∨ i = 9 ∨ i = 10 ∨ i = 11 ∨ i = 12 ∨ i = 13 ∨ i = 14 ∨ i = 15 := by omega
  rcases this with rfl | rfl | rfl | rfl | rfl | rfl | rfl | rfl | rfl | rfl | rfl | rfl | rfl | rfl | rfl | rfl <;> rfl
theorem set_Machine_core_regs_at (x : Machine) (i : Nat) (hi : i < 16) (v : BitVec 32) : (encMachine x).setIfInBounds (0 + i) (u32 v) = encMachine { x with core := { x.core with regs := (rset x.core.regs i v) } } := by
  have : i = 0 ∨ i = 1 ∨ i = 2 ∨ i = 3 ∨ i = 4 ∨ i = 5 ∨ i = 6 ∨ i = 7 ∨ i = 8 ∨ i = 9 ∨ i = 10 ∨ i = 11 ∨ i = 12 ∨ i = 13 ∨ i = 14 ∨ i = 15 := by omega
  rcases this with rfl | rfl | rfl | rfl | rfl | rfl | rfl | rfl | rfl | rfl | rfl | rfl | rfl | rfl | rfl | rfl <;> simp [encMachine, rget_rset]
theorem get_Machine_core_csr_at (x : Machine) (i : Nat) (hi : i < 12) : (encMachine x)[17 + i]? = some (u32 (rget x.core.csr i)) := by
  have : i = 0 ∨ i = 1 ∨ i = 2 ∨ i = 3 ∨ i = 4 ∨ i = 5 ∨ i = 6 ∨ i = 7 ∨ i = 8 ∨ i = 9 ∨ i = 10 ∨ i = 11 := by omega
  rcases this with rfl | rfl | rfl | rfl | rfl | rfl | rfl | rfl | rfl | rfl | rfl | rfl <;> rfl
theorem set_Machine_core_csr_at (x : Machine) (i : Nat) (hi : i < 12) (v : BitVec 32) : (encMachine x).setIfInBounds (17 + i) (u32 v) = encMachine { x with core := { x.core with csr := (rset x.core.csr i v) } } := by
  have : i = 0 ∨ i = 1 ∨ i = 2 ∨ i = 3 ∨ i = 4 ∨ i = 5 ∨ i = 6 ∨ i = 7 ∨ i = 8 ∨ i = 9 ∨ i = 10 ∨ i = 11 := by omega
  rcases this with rfl | rfl | rfl | rfl | rfl | rfl | rfl | rfl | rfl | rfl | rfl | rfl <;> simp [encMachine, rget_rset]
theorem get_Trap_cause (x : Trap) : (encTrap x)[0]? = some (int (x.cause)) := rfl
theorem set_Trap_cause (x : Trap) (v : Int) : (encTrap x).setIfInBounds 0 (int v) = encTrap { x with cause := v } := by kernel_rfl
theorem get_Trap_tval (x : Trap) : (encTrap x)[1]? = some (u32 (x.tval)) := rfl
theorem set_Trap_tval (x : Trap) (v : BitVec 32) : (encTrap x).setIfInBounds 1 (u32 v) = encTrap { x with tval := v } := by kernel_rfl
theorem get_Instr_op (x : Instr) : (encInstr x)[0]? = some (int (x.op)) := rfl
theorem set_Instr_op (x : Instr) (v : Int) : (encInstr x).setIfInBounds 0 (int v) = encInstr { x with op := v } := by kernel_rfl
theorem get_Instr_rd (x : Instr) : (encInstr x)[1]? = some (int (x.rd)) := rfl
theorem set_Instr_rd (x : Instr) (v : Int) : (encInstr x).setIfInBounds 1 (int v) = encInstr { x with rd := v } := by kernel_rfl
theorem get_Instr_ra (x : Instr) : (encInstr x)[2]? = some (int (x.ra)) := rfl
theorem set_Instr_ra (x : Instr) (v : Int) : (encInstr x).setIfInBounds 2 (int v) = encInstr { x with ra := v } := by kernel_rfl
theorem get_Instr_rb (x : Instr) : (encInstr x)[3]? = some (int (x.rb)) := rfl
theorem set_Instr_rb (x : Instr) (v : Int) : (encInstr x).setIfInBounds 3 (int v) = encInstr { x with rb := v } := by kernel_rfl
theorem get_Instr_imm (x : Instr) : (encInstr x)[4]? = some (i32 (x.imm)) := rfl
theorem set_Instr_imm (x : Instr) (v : BitVec 32) : (encInstr x).setIfInBounds 4 (i32 v) = encInstr { x with imm := v } := by kernel_rfl
theorem get_Event_kind (x : Event) : (encEvent x)[0]? = some (int (x.kind)) := rfl
theorem set_Event_kind (x : Event) (v : Int) : (encEvent x).setIfInBounds 0 (int v) = encEvent { x with kind := v } := by kernel_rfl
theorem get_Event_at_ (x : Event) : (encEvent x)[1]? = some (int (x.at_)) := rfl
theorem set_Event_at_ (x : Event) (v : Int) : (encEvent x).setIfInBounds 1 (int v) = encEvent { x with at_ := v } := by kernel_rfl
theorem get_Event_time (x : Event) : (encEvent x)[2]? = some (u64 (x.time)) := rfl
theorem set_Event_time (x : Event) (v : BitVec 64) : (encEvent x).setIfInBounds 2 (u64 v) = encEvent { x with time := v } := by kernel_rfl
theorem get_Partition_base (x : Partition) : (encPartition x)[0]? = some (u32 (x.base)) := rfl
theorem set_Partition_base (x : Partition) (v : BitVec 32) : (encPartition x).setIfInBounds 0 (u32 v) = encPartition { x with base := v } := by kernel_rfl
theorem get_Partition_size (x : Partition) : (encPartition x)[1]? = some (u32 (x.size)) := rfl
theorem set_Partition_size (x : Partition) (v : BitVec 32) : (encPartition x).setIfInBounds 1 (u32 v) = encPartition { x with size := v } := by kernel_rfl
theorem get_Guest_part (x : Guest) : (encGuest x).extract 0 (0 + 2) = encPartition x.part := by kernel_rfl
theorem set_Guest_part (x : Guest) (v : Partition) : splice (encGuest x) 0 (encPartition v).toList = encGuest { x with part := v } := by kernel_rfl
theorem get_Guest_part_base (x : Guest) : (encGuest x)[0]? = some (u32 (x.part.base)) := rfl
theorem set_Guest_part_base (x : Guest) (v : BitVec 32) : (encGuest x).setIfInBounds 0 (u32 v) = encGuest { x with part := { x.part with base := v } } := by kernel_rfl
theorem get_Guest_part_size (x : Guest) : (encGuest x)[1]? = some (u32 (x.part.size)) := rfl
theorem set_Guest_part_size (x : Guest) (v : BitVec 32) : (encGuest x).setIfInBounds 1 (u32 v) = encGuest { x with part := { x.part with size := v } } := by kernel_rfl
theorem get_Guest_mem (x : Guest) : (encGuest x)[2]? = some (sv (x.mem)) := rfl
theorem set_Guest_mem (x : Guest) (v : SV) : (encGuest x).setIfInBounds 2 (sv v) = encGuest { x with mem := v } := by kernel_rfl
theorem get_Guest_regs (x : Guest) : (encGuest x).extract 3 (3 + 16) = encV16 x.regs := by kernel_rfl
theorem set_Guest_regs (x : Guest) (v : V16) : splice (encGuest x) 3 (encV16 v).toList = encGuest { x with regs := v } := by kernel_rfl
theorem get_Guest_pc (x : Guest) : (encGuest x)[19]? = some (u32 (x.pc)) := rfl
theorem set_Guest_pc (x : Guest) (v : BitVec 32) : (encGuest x).setIfInBounds 19 (u32 v) = encGuest { x with pc := v } := by kernel_rfl
theorem get_Config_size (x : Config) : (encConfig x)[0]? = some (u32 (x.size)) := rfl
theorem set_Config_size (x : Config) (v : BitVec 32) : (encConfig x).setIfInBounds 0 (u32 v) = encConfig { x with size := v } := by kernel_rfl
theorem get_Config_guests (x : Config) : (encConfig x)[1]? = some (sv (x.guests)) := rfl
theorem set_Config_guests (x : Config) (v : SV) : (encConfig x).setIfInBounds 1 (sv v) = encConfig { x with guests := v } := by kernel_rfl
theorem get_Vcpu_core (x : Vcpu) : (encVcpu x).extract 0 (0 + 29) = encCore x.core := by kernel_rfl
theorem set_Vcpu_core (x : Vcpu) (v : Core) : splice (encVcpu x) 0 (encCore v).toList = encVcpu { x with core := v } := by kernel_rfl
theorem get_Vcpu_core_regs (x : Vcpu) : (encVcpu x).extract 0 (0 + 16) = encV16 x.core.regs := by kernel_rfl
theorem set_Vcpu_core_regs (x : Vcpu) (v : V16) : splice (encVcpu x) 0 (encV16 v).toList = encVcpu { x with core := { x.core with regs := v } } := by kernel_rfl
theorem get_Vcpu_core_pc (x : Vcpu) : (encVcpu x)[16]? = some (u32 (x.core.pc)) := rfl
theorem set_Vcpu_core_pc (x : Vcpu) (v : BitVec 32) : (encVcpu x).setIfInBounds 16 (u32 v) = encVcpu { x with core := { x.core with pc := v } } := by kernel_rfl
theorem get_Vcpu_core_csr (x : Vcpu) : (encVcpu x).extract 17 (17 + 12) = encV12 x.core.csr := by kernel_rfl
theorem set_Vcpu_core_csr (x : Vcpu) (v : V12) : splice (encVcpu x) 17 (encV12 v).toList = encVcpu { x with core := { x.core with csr := v } } := by kernel_rfl
theorem get_Vcpu_out (x : Vcpu) : (encVcpu x)[29]? = some (sv (x.out)) := rfl
theorem set_Vcpu_out (x : Vcpu) (v : SV) : (encVcpu x).setIfInBounds 29 (sv v) = encVcpu { x with out := v } := by kernel_rfl
theorem get_Vcpu_halted (x : Vcpu) : (encVcpu x)[30]? = some (Value.bool (x.halted)) := rfl
theorem set_Vcpu_halted (x : Vcpu) (v : Bool) : (encVcpu x).setIfInBounds 30 (Value.bool v) = encVcpu { x with halted := v } := by kernel_rfl
theorem get_Vcpu_done (x : Vcpu) : (encVcpu x)[31]? = some (int (x.done)) := rfl
theorem set_Vcpu_done (x : Vcpu) (v : Int) : (encVcpu x).setIfInBounds 31 (int v) = encVcpu { x with done := v } := by kernel_rfl
theorem get_Vcpu_log (x : Vcpu) : (encVcpu x)[32]? = some (sv (x.log)) := rfl
theorem set_Vcpu_log (x : Vcpu) (v : SV) : (encVcpu x).setIfInBounds 32 (sv v) = encVcpu { x with log := v } := by kernel_rfl
theorem get_Vcpu_core_regs_at (x : Vcpu) (i : Nat) (hi : i < 16) : (encVcpu x)[0 + i]? = some (u32 (rget x.core.regs i)) := by
  have : i = 0 ∨ i = 1 ∨ i = 2 ∨ i = 3 ∨ i = 4 ∨ i = 5 ∨ i = 6 ∨ i = 7 ∨ i = 8 ∨ i = 9 ∨ i = 10 ∨ i = 11 ∨ i = 12 ∨ i = 13 ∨ i = 14 ∨ i = 15 := by omega
  rcases this with rfl | rfl | rfl | rfl | rfl | rfl | rfl | rfl | rfl | rfl | rfl | rfl | rfl | rfl | rfl | rfl <;> rfl
theorem set_Vcpu_core_regs_at (x : Vcpu) (i : Nat) (hi : i < 16) (v : BitVec 32) : (encVcpu x).setIfInBounds (0 + i) (u32 v) = encVcpu { x with core := { x.core with regs := (rset x.core.regs i v) } } := by
  have : i = 0 ∨ i = 1 ∨ i = 2 ∨ i = 3 ∨ i = 4 ∨ i = 5 ∨ i = 6 ∨ i = 7 ∨ i = 8 ∨ i = 9 ∨ i = 10 ∨ i = 11 ∨ i = 12 ∨ i = 13 ∨ i = 14 ∨ i = 15 := by omega
  rcases this with rfl | rfl | rfl | rfl | rfl | rfl | rfl | rfl | rfl | rfl | rfl | rfl | rfl | rfl | rfl | rfl <;> simp [encVcpu, rget_rset]
theorem get_Vcpu_core_csr_at (x : Vcpu) (i : Nat) (hi : i < 12) : (encVcpu x)[17 + i]? = some (u32 (rget x.core.csr i)) := by
  have : i = 0 ∨ i = 1 ∨ i = 2 ∨ i = 3 ∨ i = 4 ∨ i = 5 ∨ i = 6 ∨ i = 7 ∨ i = 8 ∨ i = 9 ∨ i = 10 ∨ i = 11 := by omega
  rcases this with rfl | rfl | rfl | rfl | rfl | rfl | rfl | rfl | rfl | rfl | rfl | rfl <;> rfl
theorem set_Vcpu_core_csr_at (x : Vcpu) (i : Nat) (hi : i < 12) (v : BitVec 32) : (encVcpu x).setIfInBounds (17 + i) (u32 v) = encVcpu { x with core := { x.core with csr := (rset x.core.csr i v) } } := by
  have : i = 0 ∨ i = 1 ∨ i = 2 ∨ i = 3 ∨ i = 4 ∨ i = 5 ∨ i = 6 ∨ i = 7 ∨ i = 8 ∨ i = 9 ∨ i = 10 ∨ i = 11 := by omega
  rcases this with rfl | rfl | rfl | rfl | rfl | rfl | rfl | rfl | rfl | rfl | rfl | rfl <;> simp [encVcpu, rget_rset]
theorem get_Monitor_conf (x : Monitor) : (encMonitor x).extract 0 (0 + 2) = encConfig x.conf := by kernel_rfl
theorem set_Monitor_conf (x : Monitor) (v : Config) : splice (encMonitor x) 0 (encConfig v).toList = encMonitor { x with conf := v } := by kernel_rfl
theorem get_Monitor_conf_size (x : Monitor) : (encMonitor x)[0]? = some (u32 (x.conf.size)) := rfl
theorem set_Monitor_conf_size (x : Monitor) (v : BitVec 32) : (encMonitor x).setIfInBounds 0 (u32 v) = encMonitor { x with conf := { x.conf with size := v } } := by kernel_rfl
theorem get_Monitor_conf_guests (x : Monitor) : (encMonitor x)[1]? = some (sv (x.conf.guests)) := rfl
theorem set_Monitor_conf_guests (x : Monitor) (v : SV) : (encMonitor x).setIfInBounds 1 (sv v) = encMonitor { x with conf := { x.conf with guests := v } } := by kernel_rfl
theorem get_Monitor_host (x : Monitor) : (encMonitor x).extract 2 (2 + 33) = encMachine x.host := by kernel_rfl
theorem set_Monitor_host (x : Monitor) (v : Machine) : splice (encMonitor x) 2 (encMachine v).toList = encMonitor { x with host := v } := by kernel_rfl
theorem get_Monitor_host_core (x : Monitor) : (encMonitor x).extract 2 (2 + 29) = encCore x.host.core := by kernel_rfl
theorem set_Monitor_host_core (x : Monitor) (v : Core) : splice (encMonitor x) 2 (encCore v).toList = encMonitor { x with host := { x.host with core := v } } := by kernel_rfl
theorem get_Monitor_host_core_regs (x : Monitor) : (encMonitor x).extract 2 (2 + 16) = encV16 x.host.core.regs := by kernel_rfl
theorem set_Monitor_host_core_regs (x : Monitor) (v : V16) : splice (encMonitor x) 2 (encV16 v).toList = encMonitor { x with host := { x.host with core := { x.host.core with regs := v } } } := by kernel_rfl
theorem get_Monitor_host_core_pc (x : Monitor) : (encMonitor x)[18]? = some (u32 (x.host.core.pc)) := rfl
theorem set_Monitor_host_core_pc (x : Monitor) (v : BitVec 32) : (encMonitor x).setIfInBounds 18 (u32 v) = encMonitor { x with host := { x.host with core := { x.host.core with pc := v } } } := by kernel_rfl
theorem get_Monitor_host_core_csr (x : Monitor) : (encMonitor x).extract 19 (19 + 12) = encV12 x.host.core.csr := by kernel_rfl
theorem set_Monitor_host_core_csr (x : Monitor) (v : V12) : splice (encMonitor x) 19 (encV12 v).toList = encMonitor { x with host := { x.host with core := { x.host.core with csr := v } } } := by kernel_rfl
theorem get_Monitor_host_mem (x : Monitor) : (encMonitor x)[31]? = some (sv (x.host.mem)) := rfl
theorem set_Monitor_host_mem (x : Monitor) (v : SV) : (encMonitor x).setIfInBounds 31 (sv v) = encMonitor { x with host := { x.host with mem := v } } := by kernel_rfl
theorem get_Monitor_host_time (x : Monitor) : (encMonitor x)[32]? = some (u64 (x.host.time)) := rfl
theorem set_Monitor_host_time (x : Monitor) (v : BitVec 64) : (encMonitor x).setIfInBounds 32 (u64 v) = encMonitor { x with host := { x.host with time := v } } := by kernel_rfl
theorem get_Monitor_host_out (x : Monitor) : (encMonitor x)[33]? = some (sv (x.host.out)) := rfl
theorem set_Monitor_host_out (x : Monitor) (v : SV) : (encMonitor x).setIfInBounds 33 (sv v) = encMonitor { x with host := { x.host with out := v } } := by kernel_rfl
theorem get_Monitor_host_halted (x : Monitor) : (encMonitor x)[34]? = some (Value.bool (x.host.halted)) := rfl
theorem set_Monitor_host_halted (x : Monitor) (v : Bool) : (encMonitor x).setIfInBounds 34 (Value.bool v) = encMonitor { x with host := { x.host with halted := v } } := by kernel_rfl
theorem get_Monitor_vcpus (x : Monitor) : (encMonitor x)[35]? = some (sv (x.vcpus)) := rfl
theorem set_Monitor_vcpus (x : Monitor) (v : SV) : (encMonitor x).setIfInBounds 35 (sv v) = encMonitor { x with vcpus := v } := by kernel_rfl
theorem get_Monitor_last (x : Monitor) : (encMonitor x)[36]? = some (int (x.last)) := rfl
theorem set_Monitor_last (x : Monitor) (v : Int) : (encMonitor x).setIfInBounds 36 (int v) = encMonitor { x with last := v } := by kernel_rfl
theorem get_RState_m (x : RState) : (encRState x).extract 0 (0 + 33) = encMachine x.m := by kernel_rfl
theorem set_RState_m (x : RState) (v : Machine) : splice (encRState x) 0 (encMachine v).toList = encRState { x with m := v } := by kernel_rfl
theorem get_RState_m_core (x : RState) : (encRState x).extract 0 (0 + 29) = encCore x.m.core := by kernel_rfl
theorem set_RState_m_core (x : RState) (v : Core) : splice (encRState x) 0 (encCore v).toList = encRState { x with m := { x.m with core := v } } := by kernel_rfl
theorem get_RState_m_core_regs (x : RState) : (encRState x).extract 0 (0 + 16) = encV16 x.m.core.regs := by kernel_rfl
theorem set_RState_m_core_regs (x : RState) (v : V16) : splice (encRState x) 0 (encV16 v).toList = encRState { x with m := { x.m with core := { x.m.core with regs := v } } } := by kernel_rfl
theorem get_RState_m_core_pc (x : RState) : (encRState x)[16]? = some (u32 (x.m.core.pc)) := rfl
theorem set_RState_m_core_pc (x : RState) (v : BitVec 32) : (encRState x).setIfInBounds 16 (u32 v) = encRState { x with m := { x.m with core := { x.m.core with pc := v } } } := by kernel_rfl
theorem get_RState_m_core_csr (x : RState) : (encRState x).extract 17 (17 + 12) = encV12 x.m.core.csr := by kernel_rfl
theorem set_RState_m_core_csr (x : RState) (v : V12) : splice (encRState x) 17 (encV12 v).toList = encRState { x with m := { x.m with core := { x.m.core with csr := v } } } := by kernel_rfl
theorem get_RState_m_mem (x : RState) : (encRState x)[29]? = some (sv (x.m.mem)) := rfl
theorem set_RState_m_mem (x : RState) (v : SV) : (encRState x).setIfInBounds 29 (sv v) = encRState { x with m := { x.m with mem := v } } := by kernel_rfl
theorem get_RState_m_time (x : RState) : (encRState x)[30]? = some (u64 (x.m.time)) := rfl
theorem set_RState_m_time (x : RState) (v : BitVec 64) : (encRState x).setIfInBounds 30 (u64 v) = encRState { x with m := { x.m with time := v } } := by kernel_rfl
theorem get_RState_m_out (x : RState) : (encRState x)[31]? = some (sv (x.m.out)) := rfl
theorem set_RState_m_out (x : RState) (v : SV) : (encRState x).setIfInBounds 31 (sv v) = encRState { x with m := { x.m with out := v } } := by kernel_rfl
theorem get_RState_m_halted (x : RState) : (encRState x)[32]? = some (Value.bool (x.m.halted)) := rfl
theorem set_RState_m_halted (x : RState) (v : Bool) : (encRState x).setIfInBounds 32 (Value.bool v) = encRState { x with m := { x.m with halted := v } } := by kernel_rfl
theorem get_RState_trap (x : RState) : (encRState x).extract 33 (33 + 2) = encTrap x.trap := by kernel_rfl
theorem set_RState_trap (x : RState) (v : Trap) : splice (encRState x) 33 (encTrap v).toList = encRState { x with trap := v } := by kernel_rfl
theorem get_RState_trap_cause (x : RState) : (encRState x)[33]? = some (int (x.trap.cause)) := rfl
theorem set_RState_trap_cause (x : RState) (v : Int) : (encRState x).setIfInBounds 33 (int v) = encRState { x with trap := { x.trap with cause := v } } := by kernel_rfl
theorem get_RState_trap_tval (x : RState) : (encRState x)[34]? = some (u32 (x.trap.tval)) := rfl
theorem set_RState_trap_tval (x : RState) (v : BitVec 32) : (encRState x).setIfInBounds 34 (u32 v) = encRState { x with trap := { x.trap with tval := v } } := by kernel_rfl
theorem get_SState_regs (x : SState) : (encSState x).extract 0 (0 + 16) = encV16 x.regs := by kernel_rfl
theorem set_SState_regs (x : SState) (v : V16) : splice (encSState x) 0 (encV16 v).toList = encSState { x with regs := v } := by kernel_rfl
theorem get_SState_pc (x : SState) : (encSState x)[16]? = some (u32 (x.pc)) := rfl
theorem set_SState_pc (x : SState) (v : BitVec 32) : (encSState x).setIfInBounds 16 (u32 v) = encSState { x with pc := v } := by kernel_rfl
theorem get_Step_m (x : Step) : (encStep x).extract 0 (0 + 33) = encMachine x.m := by kernel_rfl
theorem set_Step_m (x : Step) (v : Machine) : splice (encStep x) 0 (encMachine v).toList = encStep { x with m := v } := by kernel_rfl
theorem get_Step_m_core (x : Step) : (encStep x).extract 0 (0 + 29) = encCore x.m.core := by kernel_rfl
theorem set_Step_m_core (x : Step) (v : Core) : splice (encStep x) 0 (encCore v).toList = encStep { x with m := { x.m with core := v } } := by kernel_rfl
theorem get_Step_m_core_regs (x : Step) : (encStep x).extract 0 (0 + 16) = encV16 x.m.core.regs := by kernel_rfl
theorem set_Step_m_core_regs (x : Step) (v : V16) : splice (encStep x) 0 (encV16 v).toList = encStep { x with m := { x.m with core := { x.m.core with regs := v } } } := by kernel_rfl
theorem get_Step_m_core_pc (x : Step) : (encStep x)[16]? = some (u32 (x.m.core.pc)) := rfl
theorem set_Step_m_core_pc (x : Step) (v : BitVec 32) : (encStep x).setIfInBounds 16 (u32 v) = encStep { x with m := { x.m with core := { x.m.core with pc := v } } } := by kernel_rfl
theorem get_Step_m_core_csr (x : Step) : (encStep x).extract 17 (17 + 12) = encV12 x.m.core.csr := by kernel_rfl
theorem set_Step_m_core_csr (x : Step) (v : V12) : splice (encStep x) 17 (encV12 v).toList = encStep { x with m := { x.m with core := { x.m.core with csr := v } } } := by kernel_rfl
theorem get_Step_m_mem (x : Step) : (encStep x)[29]? = some (sv (x.m.mem)) := rfl
theorem set_Step_m_mem (x : Step) (v : SV) : (encStep x).setIfInBounds 29 (sv v) = encStep { x with m := { x.m with mem := v } } := by kernel_rfl
theorem get_Step_m_time (x : Step) : (encStep x)[30]? = some (u64 (x.m.time)) := rfl
theorem set_Step_m_time (x : Step) (v : BitVec 64) : (encStep x).setIfInBounds 30 (u64 v) = encStep { x with m := { x.m with time := v } } := by kernel_rfl
theorem get_Step_m_out (x : Step) : (encStep x)[31]? = some (sv (x.m.out)) := rfl
theorem set_Step_m_out (x : Step) (v : SV) : (encStep x).setIfInBounds 31 (sv v) = encStep { x with m := { x.m with out := v } } := by kernel_rfl
theorem get_Step_m_halted (x : Step) : (encStep x)[32]? = some (Value.bool (x.m.halted)) := rfl
theorem set_Step_m_halted (x : Step) (v : Bool) : (encStep x).setIfInBounds 32 (Value.bool v) = encStep { x with m := { x.m with halted := v } } := by kernel_rfl
theorem get_Step_i (x : Step) : (encStep x).extract 33 (33 + 5) = encInstr x.i := by kernel_rfl
theorem set_Step_i (x : Step) (v : Instr) : splice (encStep x) 33 (encInstr v).toList = encStep { x with i := v } := by kernel_rfl
theorem get_Step_i_op (x : Step) : (encStep x)[33]? = some (int (x.i.op)) := rfl
theorem set_Step_i_op (x : Step) (v : Int) : (encStep x).setIfInBounds 33 (int v) = encStep { x with i := { x.i with op := v } } := by kernel_rfl
theorem get_Step_i_rd (x : Step) : (encStep x)[34]? = some (int (x.i.rd)) := rfl
theorem set_Step_i_rd (x : Step) (v : Int) : (encStep x).setIfInBounds 34 (int v) = encStep { x with i := { x.i with rd := v } } := by kernel_rfl
theorem get_Step_i_ra (x : Step) : (encStep x)[35]? = some (int (x.i.ra)) := rfl
theorem set_Step_i_ra (x : Step) (v : Int) : (encStep x).setIfInBounds 35 (int v) = encStep { x with i := { x.i with ra := v } } := by kernel_rfl
theorem get_Step_i_rb (x : Step) : (encStep x)[36]? = some (int (x.i.rb)) := rfl
theorem set_Step_i_rb (x : Step) (v : Int) : (encStep x).setIfInBounds 36 (int v) = encStep { x with i := { x.i with rb := v } } := by kernel_rfl
theorem get_Step_i_imm (x : Step) : (encStep x)[37]? = some (i32 (x.i.imm)) := rfl
theorem set_Step_i_imm (x : Step) (v : BitVec 32) : (encStep x).setIfInBounds 37 (i32 v) = encStep { x with i := { x.i with imm := v } } := by kernel_rfl
theorem get_Step_x (x : Step) : (encStep x)[38]? = some (u32 (x.x)) := rfl
theorem set_Step_x (x : Step) (v : BitVec 32) : (encStep x).setIfInBounds 38 (u32 v) = encStep { x with x := v } := by kernel_rfl
theorem get_Step_y (x : Step) : (encStep x)[39]? = some (u32 (x.y)) := rfl
theorem set_Step_y (x : Step) (v : BitVec 32) : (encStep x).setIfInBounds 39 (u32 v) = encStep { x with y := v } := by kernel_rfl
theorem get_Step_z (x : Step) : (encStep x)[40]? = some (u32 (x.z)) := rfl
theorem set_Step_z (x : Step) (v : BitVec 32) : (encStep x).setIfInBounds 40 (u32 v) = encStep { x with z := v } := by kernel_rfl
theorem get_Step_trap (x : Step) : (encStep x).extract 41 (41 + 2) = encTrap x.trap := by kernel_rfl
theorem set_Step_trap (x : Step) (v : Trap) : splice (encStep x) 41 (encTrap v).toList = encStep { x with trap := v } := by kernel_rfl
theorem get_Step_trap_cause (x : Step) : (encStep x)[41]? = some (int (x.trap.cause)) := rfl
theorem set_Step_trap_cause (x : Step) (v : Int) : (encStep x).setIfInBounds 41 (int v) = encStep { x with trap := { x.trap with cause := v } } := by kernel_rfl
theorem get_Step_trap_tval (x : Step) : (encStep x)[42]? = some (u32 (x.trap.tval)) := rfl
theorem set_Step_trap_tval (x : Step) (v : BitVec 32) : (encStep x).setIfInBounds 42 (u32 v) = encStep { x with trap := { x.trap with tval := v } } := by kernel_rfl
theorem get_Has_rd (x : Has) : (encHas x)[0]? = some (Value.bool (x.rd)) := rfl
theorem set_Has_rd (x : Has) (v : Bool) : (encHas x).setIfInBounds 0 (Value.bool v) = encHas { x with rd := v } := by kernel_rfl
theorem get_Has_ra (x : Has) : (encHas x)[1]? = some (Value.bool (x.ra)) := rfl
theorem set_Has_ra (x : Has) (v : Bool) : (encHas x).setIfInBounds 1 (Value.bool v) = encHas { x with ra := v } := by kernel_rfl
theorem get_Has_rb (x : Has) : (encHas x)[2]? = some (Value.bool (x.rb)) := rfl
theorem set_Has_rb (x : Has) (v : Bool) : (encHas x).setIfInBounds 2 (Value.bool v) = encHas { x with rb := v } := by kernel_rfl
theorem get_Has_imm (x : Has) : (encHas x)[3]? = some (Value.bool (x.imm)) := rfl
theorem set_Has_imm (x : Has) (v : Bool) : (encHas x).setIfInBounds 3 (Value.bool v) = encHas { x with imm := v } := by kernel_rfl
theorem get_Has_csr (x : Has) : (encHas x)[4]? = some (Value.bool (x.csr)) := rfl
theorem set_Has_csr (x : Has) (v : Bool) : (encHas x).setIfInBounds 4 (Value.bool v) = encHas { x with csr := v } := by kernel_rfl
end Go.Sx
