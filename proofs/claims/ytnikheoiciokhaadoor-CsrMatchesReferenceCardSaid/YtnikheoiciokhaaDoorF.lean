/-
  FACTS ON THE TYPES AND FUNCTIONS OF THE TRANSLATION (printed by gen.py, own work): each closed, by the kernel.
-/
import Derived.Test.YtnikheoiciokhaaDoorProg
import Derived.Test.YtnikheoiciokhaaDoorSxR
namespace Go.Proofs.YtnikheoiciokhaaDoor
open Go Go.Sx

theorem ag136 : aggB Tryd.prog 136 5 = true := by kernel_rfl
theorem ag23 : aggB Tryd.prog 23 12 = true := by kernel_rfl
theorem ag35 : aggB Tryd.prog 35 16 = true := by kernel_rfl
theorem ag37 : aggB Tryd.prog 37 29 = true := by kernel_rfl
theorem ag75 : aggB Tryd.prog 75 5 = true := by kernel_rfl
theorem ar137 : arrayB Tryd.prog 137 8 5 = true := by kernel_rfl
theorem ar145 : arrayB Tryd.prog 145 26 1 = true := by kernel_rfl
theorem ar23 : arrayB Tryd.prog 23 12 1 = true := by kernel_rfl
theorem ar35 : arrayB Tryd.prog 35 16 1 = true := by kernel_rfl
theorem ar60 : arrayB Tryd.prog 60 12 1 = true := by kernel_rfl
theorem ars23 : arrayS Tryd.prog 23 12 = true := by kernel_rfl
theorem fb136_0 : fieldB Tryd.prog 136 0 0 = true := by kernel_rfl
theorem fb136_1 : fieldB Tryd.prog 136 1 1 = true := by kernel_rfl
theorem fb136_2 : fieldB Tryd.prog 136 2 2 = true := by kernel_rfl
theorem fb136_3 : fieldB Tryd.prog 136 3 3 = true := by kernel_rfl
theorem fb136_4 : fieldB Tryd.prog 136 4 4 = true := by kernel_rfl
theorem fb37_2 : fieldB Tryd.prog 37 2 17 = true := by kernel_rfl
theorem fb75_0 : fieldB Tryd.prog 75 0 0 = true := by kernel_rfl
theorem fb75_1 : fieldB Tryd.prog 75 1 1 = true := by kernel_rfl
theorem fb75_2 : fieldB Tryd.prog 75 2 2 = true := by kernel_rfl
theorem fb75_3 : fieldB Tryd.prog 75 3 3 = true := by kernel_rfl
theorem fb75_4 : fieldB Tryd.prog 75 4 4 = true := by kernel_rfl
theorem gb10 : goB Tryd.prog 10 = true := by kernel_rfl
theorem gb106 : goB Tryd.prog 106 = true := by kernel_rfl
theorem gb107 : goB Tryd.prog 107 = true := by kernel_rfl
theorem gb108 : goB Tryd.prog 108 = true := by kernel_rfl
theorem gb109 : goB Tryd.prog 109 = true := by kernel_rfl
theorem gb11 : goB Tryd.prog 11 = true := by kernel_rfl
theorem gb111 : goB Tryd.prog 111 = true := by kernel_rfl
theorem gb114 : goB Tryd.prog 114 = true := by kernel_rfl
theorem gb115 : goB Tryd.prog 115 = true := by kernel_rfl
theorem gb12 : goB Tryd.prog 12 = true := by kernel_rfl
theorem gb125 : goB Tryd.prog 125 = true := by kernel_rfl
theorem gb126 : goB Tryd.prog 126 = true := by kernel_rfl
theorem gb13 : goB Tryd.prog 13 = true := by kernel_rfl
theorem gb14 : goB Tryd.prog 14 = true := by kernel_rfl
theorem gb15 : goB Tryd.prog 15 = true := by kernel_rfl
theorem gb16 : goB Tryd.prog 16 = true := by kernel_rfl
theorem gb17 : goB Tryd.prog 17 = true := by kernel_rfl
theorem gb18 : goB Tryd.prog 18 = true := by kernel_rfl
theorem gb19 : goB Tryd.prog 19 = true := by kernel_rfl
theorem gb20 : goB Tryd.prog 20 = true := by kernel_rfl
theorem gb21 : goB Tryd.prog 21 = true := by kernel_rfl
theorem gb22 : goB Tryd.prog 22 = true := by kernel_rfl
theorem gb32 : goB Tryd.prog 32 = true := by kernel_rfl
theorem gb33 : goB Tryd.prog 33 = true := by kernel_rfl
theorem gb34 : goB Tryd.prog 34 = true := by kernel_rfl
theorem gb35 : goB Tryd.prog 35 = true := by kernel_rfl
theorem gb74 : goB Tryd.prog 74 = true := by kernel_rfl
theorem gb88 : goB Tryd.prog 88 = true := by kernel_rfl
theorem gb9 : goB Tryd.prog 9 = true := by kernel_rfl
theorem gb91 : goB Tryd.prog 91 = true := by kernel_rfl
theorem gb92 : goB Tryd.prog 92 = true := by kernel_rfl
theorem gb93 : goB Tryd.prog 93 = true := by kernel_rfl
theorem gb94 : goB Tryd.prog 94 = true := by kernel_rfl
theorem gb95 : goB Tryd.prog 95 = true := by kernel_rfl
theorem ik21 : intKindB Tryd.prog 21 = some .i32 := by kernel_rfl
theorem ik22 : intKindB Tryd.prog 22 = some .u32 := by kernel_rfl
theorem ik24 : intKindB Tryd.prog 24 = some .u64 := by kernel_rfl
theorem ik3 : intKindB Tryd.prog 3 = some .i64 := by kernel_rfl
theorem ik63 : intKindB Tryd.prog 63 = some .u64 := by kernel_rfl
theorem mixed : Tryd.prog.follows .mixedOrders = true := by kernel_rfl
theorem pe23 : plainEqB Tryd.prog 23 = true := by kernel_rfl
theorem pl75 : placesB Tryd.prog 75 [(0, 1), (1, 1), (2, 1), (3, 1), (4, 1)] = true := by kernel_rfl
theorem sc21 : scalarB Tryd.prog 21 = true := by kernel_rfl
theorem sc22 : scalarB Tryd.prog 22 = true := by kernel_rfl
theorem sc3 : scalarB Tryd.prog 3 = true := by kernel_rfl
theorem sc4 : scalarB Tryd.prog 4 = true := by kernel_rfl
theorem sc9 : scalarB Tryd.prog 9 = true := by kernel_rfl
theorem se59 : sliceE Tryd.prog 59 9 1 16 = true := by kernel_rfl
theorem sl59 : sliceB Tryd.prog 59 1 = true := by kernel_rfl
theorem ub4 : Tryd.prog.underlying 4 = some .bool := by kernel_rfl
theorem us21 : (Tryd.prog.underlying 21).isSome = true := by kernel_rfl
theorem us22 : (Tryd.prog.underlying 22).isSome = true := by kernel_rfl
theorem us24 : (Tryd.prog.underlying 24).isSome = true := by kernel_rfl
theorem us3 : (Tryd.prog.underlying 3).isSome = true := by kernel_rfl
theorem ust9 : Tryd.prog.underlying 9 = some .string := by kernel_rfl
theorem zr136 : zeroOf Tryd.prog 136 = some (.agg (encHas Has.zero)) := by kernel_rfl
theorem zr23 : zeroOf Tryd.prog 23 = some (.agg (encV12 (vzero 12))) := by kernel_rfl
theorem zr35 : zeroOf Tryd.prog 35 = some (.agg (encV16 (vzero 16))) := by kernel_rfl
theorem zr75 : zeroOf Tryd.prog 75 = some (.agg (encInstr Instr.zero)) := by kernel_rfl
theorem zr9 : zeroOf Tryd.prog 9 = some (.string ByteArray.empty) := by kernel_rfl
theorem eqf23 d (a b : V12) : EqR Tryd.prog (d + 2) 23 (.agg (encV12 a)) (.agg (encV12 b)) (decide (a = b)) := eq_V12 (by kernel_rfl : Tryd.prog.underlying 23 = some (.array 12 22)) (by kernel_rfl) sc22 a b
/-- Tables of the program, in memory that is known. -/
structure Tb (h : PH) : Prop where
  forms : TabI h 2 26 G.formsAt
  parts : TabH h 1 8 G.partsAt
  none : TabT h 3
theorem Tb.mono {h k : PH} (x : Tb h) (hk : h.le k) : Tb k := ⟨x.forms.mono hk, x.parts.mono hk, x.none.mono hk⟩
/-- Tables of the program, in memory that is known. -/
structure TbN (h : PH) : Prop where
  names : TabS h 0 12 G.csrNameAt
theorem TbN.mono {h k : PH} (x : TbN h) (hk : h.le k) : TbN k := ⟨x.names.mono hk⟩
end Go.Proofs.YtnikheoiciokhaaDoor
