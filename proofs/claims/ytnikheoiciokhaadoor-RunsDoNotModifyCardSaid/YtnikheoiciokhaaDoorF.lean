/-
  FACTS ON THE TYPES AND FUNCTIONS OF THE TRANSLATION (printed by gen.py, own work): each closed, by the kernel.
-/
import Derived.Test.YtnikheoiciokhaaDoorProg
import Derived.Test.YtnikheoiciokhaaDoorSxG
namespace Go.Proofs.YtnikheoiciokhaaDoor
open Go Go.Sx

theorem ag136 : aggB Tryd.prog 136 5 = true := by kernel_rfl
theorem ag23 : aggB Tryd.prog 23 12 = true := by kernel_rfl
theorem ag35 : aggB Tryd.prog 35 16 = true := by kernel_rfl
theorem ag37 : aggB Tryd.prog 37 29 = true := by kernel_rfl
theorem ag40 : aggB Tryd.prog 40 33 = true := by kernel_rfl
theorem ag65 : aggB Tryd.prog 65 2 = true := by kernel_rfl
theorem ag70 : aggB Tryd.prog 70 35 = true := by kernel_rfl
theorem ag75 : aggB Tryd.prog 75 5 = true := by kernel_rfl
theorem ar137 : arrayB Tryd.prog 137 8 5 = true := by kernel_rfl
theorem ar145 : arrayB Tryd.prog 145 26 1 = true := by kernel_rfl
theorem ar23 : arrayB Tryd.prog 23 12 1 = true := by kernel_rfl
theorem ar35 : arrayB Tryd.prog 35 16 1 = true := by kernel_rfl
theorem ar60 : arrayB Tryd.prog 60 12 1 = true := by kernel_rfl
theorem ars23 : arrayS Tryd.prog 23 12 = true := by kernel_rfl
theorem fb130_0 : fieldB Tryd.prog 130 0 0 = true := by kernel_rfl
theorem fb130_1 : fieldB Tryd.prog 130 1 33 = true := by kernel_rfl
theorem fb130_2 : fieldB Tryd.prog 130 2 38 = true := by kernel_rfl
theorem fb130_3 : fieldB Tryd.prog 130 3 39 = true := by kernel_rfl
theorem fb130_4 : fieldB Tryd.prog 130 4 40 = true := by kernel_rfl
theorem fb130_5 : fieldB Tryd.prog 130 5 41 = true := by kernel_rfl
theorem fb136_0 : fieldB Tryd.prog 136 0 0 = true := by kernel_rfl
theorem fb136_1 : fieldB Tryd.prog 136 1 1 = true := by kernel_rfl
theorem fb136_2 : fieldB Tryd.prog 136 2 2 = true := by kernel_rfl
theorem fb136_3 : fieldB Tryd.prog 136 3 3 = true := by kernel_rfl
theorem fb136_4 : fieldB Tryd.prog 136 4 4 = true := by kernel_rfl
theorem fb37_0 : fieldB Tryd.prog 37 0 0 = true := by kernel_rfl
theorem fb37_1 : fieldB Tryd.prog 37 1 16 = true := by kernel_rfl
theorem fb37_2 : fieldB Tryd.prog 37 2 17 = true := by kernel_rfl
theorem fb40_0 : fieldB Tryd.prog 40 0 0 = true := by kernel_rfl
theorem fb40_1 : fieldB Tryd.prog 40 1 29 = true := by kernel_rfl
theorem fb40_2 : fieldB Tryd.prog 40 2 30 = true := by kernel_rfl
theorem fb40_3 : fieldB Tryd.prog 40 3 31 = true := by kernel_rfl
theorem fb40_4 : fieldB Tryd.prog 40 4 32 = true := by kernel_rfl
theorem fb65_0 : fieldB Tryd.prog 65 0 0 = true := by kernel_rfl
theorem fb65_1 : fieldB Tryd.prog 65 1 1 = true := by kernel_rfl
theorem fb70_0 : fieldB Tryd.prog 70 0 0 = true := by kernel_rfl
theorem fb70_1 : fieldB Tryd.prog 70 1 33 = true := by kernel_rfl
theorem fb75_0 : fieldB Tryd.prog 75 0 0 = true := by kernel_rfl
theorem fb75_1 : fieldB Tryd.prog 75 1 1 = true := by kernel_rfl
theorem fb75_2 : fieldB Tryd.prog 75 2 2 = true := by kernel_rfl
theorem fb75_3 : fieldB Tryd.prog 75 3 3 = true := by kernel_rfl
theorem fb75_4 : fieldB Tryd.prog 75 4 4 = true := by kernel_rfl
theorem fnb1 : funcB Tryd.prog 1 = true := by kernel_rfl
theorem gb10 : goB Tryd.prog 10 = true := by kernel_rfl
theorem gb100 : goB Tryd.prog 100 = true := by kernel_rfl
theorem gb101 : goB Tryd.prog 101 = true := by kernel_rfl
theorem gb102 : goB Tryd.prog 102 = true := by kernel_rfl
theorem gb103 : goB Tryd.prog 103 = true := by kernel_rfl
theorem gb104 : goB Tryd.prog 104 = true := by kernel_rfl
theorem gb105 : goB Tryd.prog 105 = true := by kernel_rfl
theorem gb106 : goB Tryd.prog 106 = true := by kernel_rfl
theorem gb107 : goB Tryd.prog 107 = true := by kernel_rfl
theorem gb108 : goB Tryd.prog 108 = true := by kernel_rfl
theorem gb109 : goB Tryd.prog 109 = true := by kernel_rfl
theorem gb11 : goB Tryd.prog 11 = true := by kernel_rfl
theorem gb110 : goB Tryd.prog 110 = true := by kernel_rfl
theorem gb111 : goB Tryd.prog 111 = true := by kernel_rfl
theorem gb112 : goB Tryd.prog 112 = true := by kernel_rfl
theorem gb113 : goB Tryd.prog 113 = true := by kernel_rfl
theorem gb114 : goB Tryd.prog 114 = true := by kernel_rfl
theorem gb115 : goB Tryd.prog 115 = true := by kernel_rfl
theorem gb116 : goB Tryd.prog 116 = true := by kernel_rfl
theorem gb117 : goB Tryd.prog 117 = true := by kernel_rfl
theorem gb118 : goB Tryd.prog 118 = true := by kernel_rfl
theorem gb119 : goB Tryd.prog 119 = true := by kernel_rfl
theorem gb12 : goB Tryd.prog 12 = true := by kernel_rfl
theorem gb120 : goB Tryd.prog 120 = true := by kernel_rfl
theorem gb121 : goB Tryd.prog 121 = true := by kernel_rfl
theorem gb122 : goB Tryd.prog 122 = true := by kernel_rfl
theorem gb123 : goB Tryd.prog 123 = true := by kernel_rfl
theorem gb124 : goB Tryd.prog 124 = true := by kernel_rfl
theorem gb125 : goB Tryd.prog 125 = true := by kernel_rfl
theorem gb126 : goB Tryd.prog 126 = true := by kernel_rfl
theorem gb13 : goB Tryd.prog 13 = true := by kernel_rfl
theorem gb14 : goB Tryd.prog 14 = true := by kernel_rfl
theorem gb15 : goB Tryd.prog 15 = true := by kernel_rfl
theorem gb16 : goB Tryd.prog 16 = true := by kernel_rfl
theorem gb17 : goB Tryd.prog 17 = true := by kernel_rfl
theorem gb18 : goB Tryd.prog 18 = true := by kernel_rfl
theorem gb19 : goB Tryd.prog 19 = true := by kernel_rfl
theorem gb20 : goB Tryd.prog 20 = true := by kernel_rfl
theorem gb21 : goB Tryd.prog 21 = true := by kernel_rfl
theorem gb22 : goB Tryd.prog 22 = true := by kernel_rfl
theorem gb23 : goB Tryd.prog 23 = true := by kernel_rfl
theorem gb24 : goB Tryd.prog 24 = true := by kernel_rfl
theorem gb25 : goB Tryd.prog 25 = true := by kernel_rfl
theorem gb26 : goB Tryd.prog 26 = true := by kernel_rfl
theorem gb27 : goB Tryd.prog 27 = true := by kernel_rfl
theorem gb28 : goB Tryd.prog 28 = true := by kernel_rfl
theorem gb29 : goB Tryd.prog 29 = true := by kernel_rfl
theorem gb32 : goB Tryd.prog 32 = true := by kernel_rfl
theorem gb33 : goB Tryd.prog 33 = true := by kernel_rfl
theorem gb34 : goB Tryd.prog 34 = true := by kernel_rfl
theorem gb35 : goB Tryd.prog 35 = true := by kernel_rfl
theorem gb36 : goB Tryd.prog 36 = true := by kernel_rfl
theorem gb37 : goB Tryd.prog 37 = true := by kernel_rfl
theorem gb41 : goB Tryd.prog 41 = true := by kernel_rfl
theorem gb42 : goB Tryd.prog 42 = true := by kernel_rfl
theorem gb52 : goB Tryd.prog 52 = true := by kernel_rfl
theorem gb53 : goB Tryd.prog 53 = true := by kernel_rfl
theorem gb54 : goB Tryd.prog 54 = true := by kernel_rfl
theorem gb61 : goB Tryd.prog 61 = true := by kernel_rfl
theorem gb63 : goB Tryd.prog 63 = true := by kernel_rfl
theorem gb64 : goB Tryd.prog 64 = true := by kernel_rfl
theorem gb65 : goB Tryd.prog 65 = true := by kernel_rfl
theorem gb66 : goB Tryd.prog 66 = true := by kernel_rfl
theorem gb67 : goB Tryd.prog 67 = true := by kernel_rfl
theorem gb68 : goB Tryd.prog 68 = true := by kernel_rfl
theorem gb69 : goB Tryd.prog 69 = true := by kernel_rfl
theorem gb70 : goB Tryd.prog 70 = true := by kernel_rfl
theorem gb71 : goB Tryd.prog 71 = true := by kernel_rfl
theorem gb72 : goB Tryd.prog 72 = true := by kernel_rfl
theorem gb73 : goB Tryd.prog 73 = true := by kernel_rfl
theorem gb74 : goB Tryd.prog 74 = true := by kernel_rfl
theorem gb75 : goB Tryd.prog 75 = true := by kernel_rfl
theorem gb76 : goB Tryd.prog 76 = true := by kernel_rfl
theorem gb77 : goB Tryd.prog 77 = true := by kernel_rfl
theorem gb78 : goB Tryd.prog 78 = true := by kernel_rfl
theorem gb79 : goB Tryd.prog 79 = true := by kernel_rfl
theorem gb80 : goB Tryd.prog 80 = true := by kernel_rfl
theorem gb81 : goB Tryd.prog 81 = true := by kernel_rfl
theorem gb82 : goB Tryd.prog 82 = true := by kernel_rfl
theorem gb83 : goB Tryd.prog 83 = true := by kernel_rfl
theorem gb84 : goB Tryd.prog 84 = true := by kernel_rfl
theorem gb85 : goB Tryd.prog 85 = true := by kernel_rfl
theorem gb86 : goB Tryd.prog 86 = true := by kernel_rfl
theorem gb87 : goB Tryd.prog 87 = true := by kernel_rfl
theorem gb88 : goB Tryd.prog 88 = true := by kernel_rfl
theorem gb89 : goB Tryd.prog 89 = true := by kernel_rfl
theorem gb9 : goB Tryd.prog 9 = true := by kernel_rfl
theorem gb90 : goB Tryd.prog 90 = true := by kernel_rfl
theorem gb91 : goB Tryd.prog 91 = true := by kernel_rfl
theorem gb92 : goB Tryd.prog 92 = true := by kernel_rfl
theorem gb93 : goB Tryd.prog 93 = true := by kernel_rfl
theorem gb94 : goB Tryd.prog 94 = true := by kernel_rfl
theorem gb95 : goB Tryd.prog 95 = true := by kernel_rfl
theorem gb96 : goB Tryd.prog 96 = true := by kernel_rfl
theorem gb97 : goB Tryd.prog 97 = true := by kernel_rfl
theorem gb98 : goB Tryd.prog 98 = true := by kernel_rfl
theorem gb99 : goB Tryd.prog 99 = true := by kernel_rfl
theorem ik21 : intKindB Tryd.prog 21 = some .i32 := by kernel_rfl
theorem ik22 : intKindB Tryd.prog 22 = some .u32 := by kernel_rfl
theorem ik24 : intKindB Tryd.prog 24 = some .u64 := by kernel_rfl
theorem ik3 : intKindB Tryd.prog 3 = some .i64 := by kernel_rfl
theorem ik5 : intKindB Tryd.prog 5 = some .u8 := by kernel_rfl
theorem ik63 : intKindB Tryd.prog 63 = some .u64 := by kernel_rfl
theorem mixed : Tryd.prog.follows .mixedOrders = true := by kernel_rfl
theorem mpk131 : mapK Tryd.prog 131 .i64 = true := by kernel_rfl
theorem mpk153 : mapK Tryd.prog 153 .i64 = true := by kernel_rfl
theorem pe23 : plainEqB Tryd.prog 23 = true := by kernel_rfl
theorem pe37 : plainEqB Tryd.prog 37 = true := by kernel_rfl
theorem pe65 : plainEqB Tryd.prog 65 = true := by kernel_rfl
theorem pl130 : placesB Tryd.prog 130 [(0, 33), (33, 5), (38, 1), (39, 1), (40, 1), (41, 2)] = true := by kernel_rfl
theorem pl40 : placesB Tryd.prog 40 [(0, 29), (29, 1), (30, 1), (31, 1), (32, 1)] = true := by kernel_rfl
theorem pl65 : placesB Tryd.prog 65 [(0, 1), (1, 1)] = true := by kernel_rfl
theorem pl70 : placesB Tryd.prog 70 [(0, 33), (33, 2)] = true := by kernel_rfl
theorem pl75 : placesB Tryd.prog 75 [(0, 1), (1, 1), (2, 1), (3, 1), (4, 1)] = true := by kernel_rfl
theorem sc116 : scalarB Tryd.prog 116 = true := by kernel_rfl
theorem sc21 : scalarB Tryd.prog 21 = true := by kernel_rfl
theorem sc22 : scalarB Tryd.prog 22 = true := by kernel_rfl
theorem sc24 : scalarB Tryd.prog 24 = true := by kernel_rfl
theorem sc3 : scalarB Tryd.prog 3 = true := by kernel_rfl
theorem sc38 : scalarB Tryd.prog 38 = true := by kernel_rfl
theorem sc4 : scalarB Tryd.prog 4 = true := by kernel_rfl
theorem sc45 : scalarB Tryd.prog 45 = true := by kernel_rfl
theorem sc5 : scalarB Tryd.prog 5 = true := by kernel_rfl
theorem sc9 : scalarB Tryd.prog 9 = true := by kernel_rfl
theorem se117 : sliceE Tryd.prog 117 116 1 8 = true := by kernel_rfl
theorem se38 : sliceE Tryd.prog 38 5 1 1 = true := by kernel_rfl
theorem se45 : sliceE Tryd.prog 45 65 2 16 = true := by kernel_rfl
theorem se59 : sliceE Tryd.prog 59 9 1 16 = true := by kernel_rfl
theorem sl117 : sliceB Tryd.prog 117 1 = true := by kernel_rfl
theorem sl38 : sliceB Tryd.prog 38 1 = true := by kernel_rfl
theorem sl45 : sliceB Tryd.prog 45 2 = true := by kernel_rfl
theorem sl59 : sliceB Tryd.prog 59 1 = true := by kernel_rfl
theorem ub4 : Tryd.prog.underlying 4 = some .bool := by kernel_rfl
theorem ui22 : Tryd.prog.underlying 22 = some (.int .u32) := by kernel_rfl
theorem ui3 : Tryd.prog.underlying 3 = some (.int .i64) := by kernel_rfl
theorem us21 : (Tryd.prog.underlying 21).isSome = true := by kernel_rfl
theorem us22 : (Tryd.prog.underlying 22).isSome = true := by kernel_rfl
theorem us24 : (Tryd.prog.underlying 24).isSome = true := by kernel_rfl
theorem us3 : (Tryd.prog.underlying 3).isSome = true := by kernel_rfl
theorem us5 : (Tryd.prog.underlying 5).isSome = true := by kernel_rfl
theorem ust9 : Tryd.prog.underlying 9 = some .string := by kernel_rfl
theorem zr1 : zeroOf Tryd.prog 1 = some (.nilFunc) := by kernel_rfl
theorem zr116 : zeroOf Tryd.prog 116 = some (.nilFunc) := by kernel_rfl
theorem zr130 : zeroOf Tryd.prog 130 = some (.agg (encStep Step.zero)) := by kernel_rfl
theorem zr136 : zeroOf Tryd.prog 136 = some (.agg (encHas Has.zero)) := by kernel_rfl
theorem zr151 : zeroOf Tryd.prog 151 = some (.nilFunc) := by kernel_rfl
theorem zr23 : zeroOf Tryd.prog 23 = some (.agg (encV12 (vzero 12))) := by kernel_rfl
theorem zr3 : zeroOf Tryd.prog 3 = some (int 0) := by kernel_rfl
theorem zr35 : zeroOf Tryd.prog 35 = some (.agg (encV16 (vzero 16))) := by kernel_rfl
theorem zr37 : zeroOf Tryd.prog 37 = some (.agg (encCore Core.zero)) := by kernel_rfl
theorem zr4 : zeroOf Tryd.prog 4 = some (.bool false) := by kernel_rfl
theorem zr40 : zeroOf Tryd.prog 40 = some (.agg (encMachine Machine.zero)) := by kernel_rfl
theorem zr45 : zeroOf Tryd.prog 45 = some (.slice none 0 0) := by kernel_rfl
theorem zr5 : zeroOf Tryd.prog 5 = some (u8 0#8) := by kernel_rfl
theorem zr65 : zeroOf Tryd.prog 65 = some (.agg (encTrap Trap.zero)) := by kernel_rfl
theorem zr70 : zeroOf Tryd.prog 70 = some (.agg (encRState RState.zero)) := by kernel_rfl
theorem zr75 : zeroOf Tryd.prog 75 = some (.agg (encInstr Instr.zero)) := by kernel_rfl
theorem zr9 : zeroOf Tryd.prog 9 = some (.string ByteArray.empty) := by kernel_rfl
theorem mpe131 : mapE Tryd.prog 131 (.nilFunc) := ⟨_, _, (by kernel_rfl : Tryd.prog.underlying 131 = some (.map 3 1)), zr1⟩
theorem mpe153 : mapE Tryd.prog 153 (.nilFunc) := ⟨_, _, (by kernel_rfl : Tryd.prog.underlying 153 = some (.map 3 151)), zr151⟩
theorem eqf23 d (a b : V12) : EqR Tryd.prog (d + 2) 23 (.agg (encV12 a)) (.agg (encV12 b)) (decide (a = b)) := eq_V12 (by kernel_rfl : Tryd.prog.underlying 23 = some (.array 12 22)) (by kernel_rfl) sc22 a b
theorem eqf35 d (a b : V16) : EqR Tryd.prog (d + 2) 35 (.agg (encV16 a)) (.agg (encV16 b)) (decide (a = b)) := eq_V16 (by kernel_rfl : Tryd.prog.underlying 35 = some (.array 16 22)) (by kernel_rfl) sc22 a b
theorem eqf65 d (a b : Trap) : EqR Tryd.prog (d + 2) 65 (.agg (encTrap a)) (.agg (encTrap b)) (decide (a = b)) := (eq_struct (l := [(3, 0), (22, 1)]) (by kernel_rfl) pe65 (eqf_cons (part_s sc3 (get_Trap_cause a)) (part_s sc3 (get_Trap_cause b)) (eq_Int ui3) (eqf_cons (part_s sc22 (get_Trap_tval a)) (part_s sc22 (get_Trap_tval b)) (eq_u32 ui22) eqf_nil))).as (eqb_Trap a b)
theorem eqf37 d (a b : Core) : EqR Tryd.prog (d + 3) 37 (.agg (encCore a)) (.agg (encCore b)) (decide (a = b)) := (eq_struct (l := [(35, 0), (22, 16), (23, 17)]) (by kernel_rfl) pe37 (eqf_cons (part_a ag35 (get_Core_regs a)) (part_a ag35 (get_Core_regs b)) (eqf35 _ _ _) (eqf_cons (part_s sc22 (get_Core_pc a)) (part_s sc22 (get_Core_pc b)) (eq_u32 ui22) (eqf_cons (part_a ag23 (get_Core_csr a)) (part_a ag23 (get_Core_csr b)) (eqf23 _ _ _) eqf_nil)))).as (eqb_Core a b)
/-- Tables of the program, in memory that is known. -/
structure Tb (h : PH) : Prop where
  forms : TabI h 2 26 G.formsAt
  parts : TabH h 1 8 G.partsAt
  none : TabT h 3
theorem Tb.mono {h k : PH} (x : Tb h) (hk : h.le k) : Tb k := ⟨x.forms.mono hk, x.parts.mono hk, x.none.mono hk⟩
/-- Tables of the program, in memory that is known. -/
structure TbN (h : PH) : Prop where
  names : TabS h 0 12 G.csrNameAt
theorem TbN.mono {h k : PH} (x : TbN h) (hk : h.le k) : TbN k := ⟨x.names.mono hk⟩
def deedsM : Array MapEntry := #[{ key := .int .i64 1, val := .func (.func 117) #[] #[], born := 0 }, { key := .int .i64 2, val := .func (.func 118) #[] #[], born := 1 }, { key := .int .i64 3, val := .func (.func 119) #[] #[], born := 2 }, { key := .int .i64 4, val := .func (.func 120) #[] #[], born := 3 }, { key := .int .i64 5, val := .func (.func 121) #[] #[], born := 4 }, { key := .int .i64 6, val := .func (.func 122) #[] #[], born := 5 }, { key := .int .i64 7, val := .func (.func 123) #[] #[], born := 6 }, { key := .int .i64 8, val := .func (.func 124) #[] #[], born := 7 }]
end Go.Proofs.YtnikheoiciokhaaDoor
