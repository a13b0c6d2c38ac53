import Derived.Test.YtnikheoiciokhaaDoorSxD
namespace Go.Sx
open Go
theorem build_Instr_  : Instr.fill (fun i => ([(0, 1), (1, 1), (2, 1), (3, 1), (4, 1)] : List (Nat × Nat))[i]?) (encInstr Instr.zero) [] = some (encInstr Instr.zero) := by kernel_rfl
theorem build_Instr_0_1_2 (a0 : Int) (a1 : Int) (a2 : Int) : Instr.fill (fun i => ([(0, 1), (1, 1), (2, 1), (3, 1), (4, 1)] : List (Nat × Nat))[i]?) (encInstr Instr.zero) [(0, int a0), (1, int a1), (2, int a2)] = some (encInstr ({ Instr.zero with op := a0, rd := a1, ra := a2 } : Instr)) := by kernel_rfl
theorem build_Machine_1 (a1 : SV) : Instr.fill (fun i => ([(0, 29), (29, 1), (30, 1), (31, 1), (32, 1)] : List (Nat × Nat))[i]?) (encMachine Machine.zero) [(1, sv a1)] = some (encMachine ({ Machine.zero with mem := a1 } : Machine)) := by kernel_rfl
theorem build_RState_0 (a0 : Machine) : Instr.fill (fun i => ([(0, 33), (33, 2)] : List (Nat × Nat))[i]?) (encRState RState.zero) [(0, .agg (encMachine a0))] = some (encRState ({ RState.zero with m := a0 } : RState)) := by kernel_rfl
theorem build_Step_0_1_2_3_4 (a0 : Machine) (a1 : Instr) (a2 : BitVec 32) (a3 : BitVec 32) (a4 : BitVec 32) : Instr.fill (fun i => ([(0, 33), (33, 5), (38, 1), (39, 1), (40, 1), (41, 2)] : List (Nat × Nat))[i]?) (encStep Step.zero) [(0, .agg (encMachine a0)), (1, .agg (encInstr a1)), (2, u32 a2), (3, u32 a3), (4, u32 a4)] = some (encStep ({ Step.zero with m := a0, i := a1, x := a2, y := a3, z := a4 } : Step)) := by kernel_rfl
theorem build_Trap_  : Instr.fill (fun i => ([(0, 1), (1, 1)] : List (Nat × Nat))[i]?) (encTrap Trap.zero) [] = some (encTrap Trap.zero) := by kernel_rfl
theorem build_Trap_0 (a0 : Int) : Instr.fill (fun i => ([(0, 1), (1, 1)] : List (Nat × Nat))[i]?) (encTrap Trap.zero) [(0, int a0)] = some (encTrap ({ Trap.zero with cause := a0 } : Trap)) := by kernel_rfl
theorem build_Trap_0_1 (a0 : Int) (a1 : BitVec 32) : Instr.fill (fun i => ([(0, 1), (1, 1)] : List (Nat × Nat))[i]?) (encTrap Trap.zero) [(0, int a0), (1, u32 a1)] = some (encTrap ({ cause := a0, tval := a1 } : Trap)) := by kernel_rfl
end Go.Sx
