import Derived.Test.YtnikheoiciokhaaDoorSxD
namespace Go.Sx
open Go
theorem build_Instr_  : Instr.fill (fun i => ([(0, 1), (1, 1), (2, 1), (3, 1), (4, 1)] : List (Nat × Nat))[i]?) (encInstr Instr.zero) [] = some (encInstr Instr.zero) := by kernel_rfl
theorem build_Instr_0_1_2 (a0 : Int) (a1 : Int) (a2 : Int) : Instr.fill (fun i => ([(0, 1), (1, 1), (2, 1), (3, 1), (4, 1)] : List (Nat × Nat))[i]?) (encInstr Instr.zero) [(0, int a0), (1, int a1), (2, int a2)] = some (encInstr ({ Instr.zero with op := a0, rd := a1, ra := a2 } : Instr)) := by kernel_rfl
end Go.Sx
