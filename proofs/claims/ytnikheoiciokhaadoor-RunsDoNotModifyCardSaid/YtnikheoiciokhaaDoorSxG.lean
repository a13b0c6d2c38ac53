/-
  THE MACHINE AS PLAIN DATA, and what its functions compute (own work). Conditions: none; definitions, and how memory bears a machine.
-/
import Derived.Test.YtnikheoiciokhaaDoorSxR
namespace Go.Sx
open Go
set_option linter.unusedVariables false

/-- A machine, its memory and output as lists. -/
structure MS where
  core : Core
  mem : List (BitVec 8)
  time : BitVec 64
  out : List (BitVec 8)
  halted : Bool
  deriving DecidableEq

/-- The Go value of a machine whose slices are these. -/
@[reducible] def mach (s : MS) (mm mo : SV) : Machine := ⟨s.core, mm, s.time, mo, s.halted⟩
/-- Memory that is known bears the machine. -/
structure Rp (h : PH) (s : MS) (mm mo : SV) : Prop where
  mem : Bytes h mm s.mem
  out : Bytes h mo s.out
theorem Rp.mono {h k : PH} {s : MS} {mm mo : SV} (x : Rp h s mm mo) (hk : h.le k) : Rp k s mm mo := ⟨x.mem.mono hk, x.out.mono hk⟩

section
variable {P : Program} {ρ : Nat → Value} {h : PH} {L : OL} {d : Option Tmp} {ty : TypeId} {pos : String} {af : Array Edge} {g : Option (Nat × Bool)}
/-- The address of an element of a byte slice. -/
@[reducible] def baddr (s : SV) (i : Nat) : Value := .pointer (s.a.map fun a => a.add i)
theorem ro_indexAddr_b {T : TypeId} {x y : Operand} {s : SV} {xs : List (BitVec 8)} {k : IntKind} (i : Nat) {j : Int} (ht : sliceB P T 1 = true) (hB : Bytes h s xs) (hx : ev ρ x = sv s) (hy : ev ρ y = .int k j) (hj : j = i) (hi : i < xs.length) :
    RO P ρ h L ⟨d, .indexAddr T x y, ty, pos, af, g⟩ (baddr s i) := by
  obtain ⟨b, off, c, E, fr, ha, hb, hsz, hc⟩ := hB.some (by omega)
  have hl : s.len = xs.length := hB.1
  exact (ro_indexAddr_s1 (len := s.len) (cap := s.cap) (b := b) (off := off) i ht (hx.trans (by rw [sv, ha])) hy hj (by rw [hl]; exact hi)).as (by simp [baddr, ha, add_addr])
theorem ro_loadB {T : TypeId} {x : Operand} {s : SV} {xs : List (BitVec 8)} {i : Nat} (ht : scalarB P T = true) (hB : Bytes h s xs) (hx : ev ρ x = baddr s i) (hi : i < xs.length) : RO P ρ h L ⟨d, .load T x, ty, pos, af, g⟩ (u8 (bget xs i)) := by
  obtain ⟨b, off, c, E, fr, ha, hb, hsz, hc⟩ := hB.some (by omega)
  refine ro_loadH ht (hx.trans ?_) hb (hc i hi)
  simp [baddr, ha, add_addr]
end

namespace G
/-! mem -/
def inRange (len : Int) (a : BitVec 32) (n : Int) : Bool := decide (a.setWidth 64 + BitVec.ofInt 64 n ≤ BitVec.ofInt 64 len)
theorem of64' {n : Nat} (hn : n ≤ 4294967296) : (BitVec.ofInt 64 (n : Int)).toNat = n := by
  rw [ofInt_nat, BitVec.toNat_ofNat, Nat.mod_eq_of_lt (by omega)]
theorem inRange_le {len n : Nat} {a : BitVec 32} (hn : n ≤ 4294967296) (h : inRange len a n = true) : a.toNat + n ≤ len := by
  have h1 := of_decide_eq_true h
  have ha := a.isLt
  rw [BitVec.le_def, BitVec.toNat_add, BitVec.toNat_setWidth, of64' (by omega)] at h1
  have h2 : (BitVec.ofInt 64 (len : Int)).toNat ≤ len := by
    rw [ofInt_nat, BitVec.toNat_ofNat]; exact Nat.mod_le _ _
  rw [Nat.mod_eq_of_lt (a := a.toNat) (by omega), Nat.mod_eq_of_lt (by omega)] at h1
  omega
def loadAcc (xs : List (BitVec 8)) (a : Nat) : Nat → BitVec 32
  | 0 => 0#32
  | i + 1 => loadAcc xs a i ||| (bget xs (a + i)).setWidth 32 <<< (8 * i)
def load (xs : List (BitVec 8)) (a : BitVec 32) (n : Nat) : BitVec 32 × Bool := if inRange xs.length a n then (loadAcc xs a.toNat n, true) else (0#32, false)
def storeAcc (xs : List (BitVec 8)) (a : Nat) (v : BitVec 32) : Nat → List (BitVec 8)
  | 0 => xs
  | i + 1 => (storeAcc xs a v i).set (a + i) ((v >>> (8 * i)).setWidth 8)
theorem storeAcc_length (xs : List (BitVec 8)) (a : Nat) (v : BitVec 32) (n : Nat) : (storeAcc xs a v n).length = xs.length := by
  induction n with
  | zero => rfl
  | succ n ih => simp [storeAcc, ih]
def store (xs : List (BitVec 8)) (a : BitVec 32) (n : Nat) (v : BitVec 32) : List (BitVec 8) × Bool := if inRange xs.length a n then (storeAcc xs a.toNat v n, true) else (xs, false)

/-! fetch -/
def resolve (c : Core) (len : Nat) (a : BitVec 32) (n : Nat) : BitVec 32 × Trap :=
  if a % BitVec.ofInt 32 n = 0#32 then
    if (translateCore c (BitVec.ofInt 32 len) a n).2 then ((translateCore c (BitVec.ofInt 32 len) a n).1, Trap.zero) else (0#32, ⟨3, a⟩)
  else (0#32, ⟨4, a⟩)
def fLoad (s : MS) (a : BitVec 32) (n : Nat) : BitVec 32 × Trap :=
  if (resolve s.core s.mem.length a n).2 = Trap.zero then ((load s.mem (resolve s.core s.mem.length a n).1 n).1, Trap.zero) else (0#32, (resolve s.core s.mem.length a n).2)
def fFetch (s : MS) : BitVec 32 × Trap := fLoad s s.core.pc 4
def fStore (s : MS) (a : BitVec 32) (n : Nat) (v : BitVec 32) : MS × Trap :=
  if (resolve s.core s.mem.length a n).2 = Trap.zero then ({ s with mem := (store s.mem (resolve s.core s.mem.length a n).1 n v).1 }, Trap.zero) else (s, (resolve s.core s.mem.length a n).2)
def timerPending (c : Core) (time : BitVec 64) : Bool := interruptsEnabled c && decide (timerCompare c.csr ≤ time)

theorem op_cases (op : Int) : op = 1 ∨ op = 2 ∨ op = 3 ∨ op = 4 ∨ op = 5 ∨ op = 6 ∨ op = 7 ∨ op = 8 ∨ (¬ op = 1 ∧ ¬ op = 2 ∧ ¬ op = 3 ∧ ¬ op = 4 ∧ ¬ op = 5 ∧ ¬ op = 6 ∧ ¬ op = 7 ∧ ¬ op = 8) := by omega
/-! exec -/
def advance (c : Core) (d : BitVec 32) : Core := { c with pc := c.pc + d }
def xSize (op : Int) : Nat := if op = 13 ∨ op = 14 then 1 else 4
theorem xSize_or (op : Int) : xSize op = 1 ∨ xSize op = 4 := by unfold xSize; split <;> simp
theorem xSize_ne (op : Int) : BitVec.ofInt 32 (xSize op : Int) ≠ 0#32 := by rcases xSize_or op with h | h <;> rw [h] <;> decide
theorem xSize_le (op : Int) : xSize op ≤ 8 := by rcases xSize_or op with h | h <;> omega
theorem xSize_pos (op : Int) : 0 < xSize op := by rcases xSize_or op with h | h <;> omega
def xPut (c : Core) (rd : Int) (v : BitVec 32) : Core := advance { c with regs := regsSet c.regs rd v } 4#32
def xJump (c : Core) (i : Instr) (x : BitVec 32) : Core :=
  { xPut c i.rd (c.pc + 4#32) with pc := if i.op = 19 then x + i.imm else c.pc + 4#32 * i.imm }
theorem x_cases (op : Int) : op = 9 ∨ op = 10 ∨ op = 11 ∨ op = 13 ∨ op = 12 ∨ op = 14 ∨ op = 15 ∨ op = 16 ∨ op = 17 ∨ op = 18 ∨ op = 19 ∨ op = 20 ∨
    (¬ op = 9 ∧ ¬ op = 10 ∧ ¬ op = 11 ∧ ¬ op = 13 ∧ ¬ op = 12 ∧ ¬ op = 14 ∧ ¬ op = 15 ∧ ¬ op = 16 ∧ ¬ op = 17 ∧ ¬ op = 18 ∧ ¬ op = 19 ∧ ¬ op = 20) := by omega
def execute (s : MS) (i : Instr) : MS × Trap :=
  let x := regsGet s.core.regs i.ra
  let y := regsGet s.core.regs i.rb
  let z := regsGet s.core.regs i.rd
  if i.op = 9 then ({ s with core := xPut s.core i.rd (x + i.imm) }, Trap.zero)
  else if i.op = 10 then ({ s with core := xPut s.core i.rd (i.imm <<< 14) }, Trap.zero)
  else if i.op = 11 ∨ i.op = 13 then
    (if (fLoad s (x + i.imm) (xSize i.op)).2.cause = 0 then { s with core := xPut s.core i.rd (fLoad s (x + i.imm) (xSize i.op)).1 } else s, (fLoad s (x + i.imm) (xSize i.op)).2)
  else if i.op = 12 ∨ i.op = 14 then
    (if (fStore s (x + i.imm) (xSize i.op) z).2.cause = 0 then { (fStore s (x + i.imm) (xSize i.op) z).1 with core := advance (fStore s (x + i.imm) (xSize i.op) z).1.core 4#32 } else s, (fStore s (x + i.imm) (xSize i.op) z).2)
  else if i.op = 15 ∨ i.op = 16 ∨ i.op = 17 then ({ s with core := advance s.core (if branchTaken i.op z x then 4#32 * i.imm else 4#32) }, Trap.zero)
  else if i.op = 18 ∨ i.op = 19 then ({ s with core := xJump s.core i x }, Trap.zero)
  else if i.op = 20 then (s, ⟨5, 0#32⟩)
  else if formatOf i.op = 1 then ({ s with core := xPut s.core i.rd (eval i.op x y) }, Trap.zero)
  else (s, Trap.zero)

/-! priv -/
def privExecute (s : MS) (i : Instr) : MS :=
  let t := regsGet s.core.regs i.ra
  if i.op = 23 then { s with core := trapReturn s.core }
  else if i.op = 21 then { s with core := advance { s.core with regs := regsSet s.core.regs i.rd (csrRead s.core.csr s.time i.imm.toInt) } 4#32 }
  else if i.op = 22 then { s with core := advance { s.core with csr := csrWrite s.core.csr i.imm.toInt t } 4#32 }
  else if i.op = 24 then { s with core := advance s.core 4#32, halted := true }
  else if i.op = 25 then { s with core := advance s.core 4#32, out := s.out ++ [t.setWidth 8] }
  else { s with core := advance s.core 4#32 }

/-! step -/
def current (s : MS) : Instr × Trap :=
  if (fFetch s).2.cause = 0 then
    if (decode (fFetch s).1).2 then
      if isPrivileged (decode (fFetch s).1).1.op && !isSupervisor s.core then (Instr.zero, ⟨2, (fFetch s).1⟩) else ((decode (fFetch s).1).1, Trap.zero)
    else (Instr.zero, ⟨1, (fFetch s).1⟩)
  else (Instr.zero, (fFetch s).2)
def stepEnd (s : MS) (t : Trap) : MS × Trap := ({ s with core := trapEnter s.core t, time := s.time + 1#64 }, t)
def stepNoTimer (s : MS) : MS × Trap :=
  if s.halted then (s, Trap.zero)
  else if (current s).2.cause = 0 then
    if isPrivileged (current s).1.op then stepEnd (privExecute s (current s).1) (current s).2 else stepEnd (execute s (current s).1).1 (execute s (current s).1).2
  else stepEnd s (current s).2
def step (s : MS) : MS × Trap := if !s.halted && timerPending s.core s.time then stepEnd s ⟨6, 0#32⟩ else stepNoTimer s
end G

/-! ### Function values against nil -/
section
variable {P : Program} {ρ : Nat → Value} {h : PH} {L : OL} {d : Option Tmp} {ty : TypeId} {pos : String} {af : Array Edge} {g : Option (Nat × Bool)}
def funcB (P : Program) (t : TypeId) : Bool := match P.underlying t with | some (.func _ _ _) => true | _ => false
theorem rof_neqT {x y : Operand} {T T' : TypeId} {fn : Go.Fn} {a b : Array Value} (ht : funcB P T = true) (hx : ev ρ x = .func fn a b) (hy : ev ρ y = .nilFunc) : RO P ρ h L ⟨d, .binOp .neq T x y T', ty, pos, af, g⟩ (.bool true) := fun w _ => by
  unfold funcB at ht
  cases hu : P.underlying T with
  | none => rw [hu] at ht; cases ht
  | some dd =>
    rw [hu] at ht
    cases dd with
    | func ps rs v =>
      have hb : binOp .neq T (.func fn a b) .nilFunc = (do pure (.bool (!(← Op.equal T (.func fn a b) .nilFunc)))) := rfl
      have he : (Op.equal T (.func fn a b) .nilFunc).run P w = .ok false w := by
        show (Op.equalIn (9999 + 1) T (.func fn a b) .nilFunc).run P w = _
        unfold Op.equalIn
        simp [run_underlying hu]
      simp only [execOp, hx, hy, eqGuard, hb]
      simp [he]
    | _ => cases ht
theorem rof_neqF {x y : Operand} {T T' : TypeId} (ht : funcB P T = true) (hx : ev ρ x = .nilFunc) (hy : ev ρ y = .nilFunc) : RO P ρ h L ⟨d, .binOp .neq T x y T', ty, pos, af, g⟩ (.bool false) := fun w _ => by
  unfold funcB at ht
  cases hu : P.underlying T with
  | none => rw [hu] at ht; cases ht
  | some dd =>
    rw [hu] at ht
    cases dd with
    | func ps rs v =>
      have hb : binOp .neq T .nilFunc .nilFunc = (do pure (.bool (!(← Op.equal T .nilFunc .nilFunc)))) := rfl
      have he : (Op.equal T .nilFunc .nilFunc).run P w = .ok true w := by
        show (Op.equalIn (9999 + 1) T .nilFunc .nilFunc).run P w = _
        unfold Op.equalIn
        simp [run_underlying hu]
      simp only [execOp, hx, hy, eqGuard, hb]
      simp [he]
    | _ => cases ht
end

section
variable {P : Program} {ρ : Nat → Value} {h : PH} {L : OL} {d : Option Tmp} {ty : TypeId} {pos : String} {af : Array Edge} {g : Option (Nat × Bool)}
theorem ro_makeFuncL {fn : Go.Fn} {first cap : List Operand} {fs cs : List Value} (hf : first.map (ev ρ) = fs) (hc : cap.map (ev ρ) = cs) : RO P ρ h L ⟨d, .makeFunc fn first.toArray cap.toArray, ty, pos, af, g⟩ (.func fn fs.toArray cs.toArray) :=
  ro_makeFunc.as (by rw [List.map_toArray, List.map_toArray, hf, hc])
end

/-! ### Copies of byte slices -/
theorem Bytes.empty {h : PH} {s : SV} {xs : List (BitVec 8)} (x : Bytes h s xs) (ha : s.a.isNone = true) : xs = [] := by
  rcases x.2.2 with h1 | ⟨b, off, c, E, fr, h1, _⟩
  · exact h1
  · rw [h1] at ha; cases ha
theorem len_sv {P : Program} {h : PH} {s : SV} {xs : List (BitVec 8)} (x : Bytes h s xs) (w : World) : (Builtin.lenOf (sv s)).run P w = .ok xs.length w := by rw [sv, len_slice, x.1]
theorem rd_nil {P : Program} {h : PH} {L : OL} {s : SV} {xs : List (BitVec 8)} (x : Bytes h s xs) (hz : xs.length = 0) : Rd P h L 1 (sv s) 0 #[] := by
  have := rd_bytes (P := P) (L := L) x
  obtain rfl := List.length_eq_zero_iff.1 hz
  exact this
/-- What a copy of a byte slice is: nothing, or a new block. -/
def Copied (xs : List (BitVec 8)) (v : Value) (N : OL) : Prop :=
  (xs = [] ∧ v = .slice none 0 0 ∧ N = []) ∨ ∃ b cap zs E, v = .slice (some ⟨b, 0, none⟩) xs.length cap ∧ xs.length ≤ cap ∧ N = [(b, .cells (encB xs ++ zs) E (0, 0))]
theorem Copied.pos {xs : List (BitVec 8)} {v : Value} {N : OL} (x : Copied xs v N) (hp : 0 < xs.length) : ∃ b cap zs E, v = .slice (some ⟨b, 0, none⟩) xs.length cap ∧ xs.length ≤ cap ∧ N = [(b, .cells (encB xs ++ zs) E (0, 0))] := by
  rcases x with ⟨rfl, _⟩ | h
  · simp at hp
  · exact h
theorem setB (xs : List (BitVec 8)) (zs : Array Value) (j : Nat) (v : BitVec 8) (hj : j < xs.length) : (encB xs ++ zs).setIfInBounds (0 + j) (u8 v) = encB (xs.set j v) ++ zs := by
  rw [Nat.zero_add]
  apply Array.ext_getElem?
  intro i
  rw [Array.getElem?_setIfInBounds]
  by_cases hij : j = i
  · subst hij
    rw [if_pos rfl, if_pos (by simp [encB_size]; omega), Array.getElem?_append_left (by rw [encB_size]; simpa using hj), encB_get _ _ (by simpa using hj)]
    simp [bget, hj]
  · rw [if_neg hij]
    by_cases hi : i < xs.length
    · rw [Array.getElem?_append_left (by rw [encB_size]; exact hi), Array.getElem?_append_left (by rw [encB_size]; simpa using hi), encB_get _ _ hi, encB_get _ _ (by simpa using hi)]
      simp [bget, List.getD_eq_getElem?_getD, List.getElem?_set, hij]
    · rw [Array.getElem?_append_right (by rw [encB_size]; omega), Array.getElem?_append_right (by rw [encB_size]; simp; omega), encB_size, encB_size]
      simp

/-! ### Contracts that write one block of the caller's, and leave what is known -/
section
variable {r : Option Nat} {P : Program} {w0 : World} {B : List Nat} {h0 : PH} {n : Nat} {Q : Exit → Act → World → Prop} {ds : List Deferred} {ρ : Nat → Value} {h : PH} {L : OL} {d : Option Tmp} {ty : TypeId} {pos : String} {af : Array Edge} {g : Option (Nat × Bool)} {K : Value → PH → OL → Prop}

def CtM (T : PH → Prop) (P : Program) (f : FuncId) (l : List Value) (b : Nat) (o o' : Obj) (v : Value) : Prop := ∀ h, T h → Ct P f l.toArray h [(b, o)] fun e h' L' => e = .returned v ∧ h' = h ∧ L' = [(b, o')]
theorem so_callMV {T : PH → Prop} {f : FuncId} {l : List Operand} {ts : Array TypeId} {vs : List Value} {b : Nat} {o o' : Obj} {v : Value} {up : Obj → OL} (hp : CtM T P f vs b o o' v) (hT : T h) (hf : goB P f = true) (hv : l.map (ev ρ) = vs) (hs : Sel L b o up)
    (hK : K v h (up o')) : SO P w0 B h0 ρ h L ⟨d, .call ⟨.value (.func f), l.toArray, ts⟩, ty, pos, af, g⟩ K :=
  so_callM (Post := fun u h' x => u = v ∧ h' = h ∧ x = o') ((hp h hT).mono fun e h' L' _ ⟨e1, e2, e3⟩ => ⟨v, o', e1, e3, rfl, e2, rfl⟩) hf hv hs fun u h' x _ ⟨e1, e2, e3⟩ => by subst e1; subst e2; subst e3; exact hK
/-- .. through a method value. -/
theorem so_callFMV {T : PH → Prop} {x : Operand} {first : Array Value} {f : FuncId} {l : List Operand} {ts : Array TypeId} {vs : List Value} {b : Nat} {o o' : Obj} {v : Value} {up : Obj → OL} (hx : ev ρ x = .func (.func f) first #[]) (hp : CtM T P f vs b o o' v) (hT : T h) (hf : goB P f = true)
    (hv : first.toList ++ l.map (ev ρ) = vs) (hs : Sel L b o up) (hK : K v h (up o')) : SO P w0 B h0 ρ h L ⟨d, .call ⟨.value x, l.toArray, ts⟩, ty, pos, af, g⟩ K :=
  so_call1 (first := first) (cap := #[]) hx hf (by rw [← hv]; simp) hs (Post := fun u h' x => u = v ∧ h' = h ∧ x = o') ((hp h hT).mono fun e h' L' _ ⟨e1, e2, e3⟩ => ⟨v, o', e1, e3, rfl, e2, rfl⟩)
    fun u h' x _ ⟨e1, e2, e3⟩ => by subst e1; subst e2; subst e3; exact hK
theorem so_callF1 {x : Operand} {first : Array Value} {f : FuncId} {l : List Operand} {ts : Array TypeId} {vs : List Value} {b : Nat} {o : Obj} {up : Obj → OL} {Post : Value → PH → Obj → Prop} (hx : ev ρ x = .func (.func f) first #[]) (hf : goB P f = true)
    (hv : first.toList ++ l.map (ev ρ) = vs) (hs : Sel L b o up) (hp : Ct P f vs.toArray h [(b, o)] fun e h' L' => ∃ v o', e = .returned v ∧ L' = [(b, o')] ∧ Post v h' o')
    (hK : ∀ v h' o', h.le h' → Post v h' o' → K v h' (up o')) : SO P w0 B h0 ρ h L ⟨d, .call ⟨.value x, l.toArray, ts⟩, ty, pos, af, g⟩ K :=
  so_call1 (first := first) (cap := #[]) hx hf (by rw [← hv]; simp) hs hp hK
theorem fq_retM {fn : Func} {b : Nat} {o o' o1 : Obj} {u : Value} {rs : List ResultVar} {vs : List Value} (hr : fn.results = rs.toArray) (hl : RVs P ρ h L rs vs) (v : Value)
    (hv : (if h : vs.toArray.size = 1 then vs.toArray[0] else .tuple vs.toArray) = v) (hs : List.Sublist [(b, o1)] L) (hp : v = u) (ho : o1 = o') :
    WQ w0 [b] h0 n (FQ P fn w0 h0 [(b, o)] fun e h' L' => e = .returned u ∧ h' = h0 ∧ L' = [(b, o')]) .ret [] ρ h L := fun a _ e s =>
  fqm_nil e.dfr ⟨v, by rw [results_run e s.mem hr hl, hv], h0, [(b, o1)], (s.drop hs).shrink, rfl, by rw [hp], rfl, by rw [ho]⟩
end

/-! ### One byte more -/
section
variable {r : Option Nat} {P : Program} {w0 : World} {B : List Nat} {h0 : PH} {n : Nat} {Q : Exit → Act → World → Prop} {ds : List Deferred} {ρ : Nat → Value} {h : PH} {L : OL} {d : Option Tmp} {ty : TypeId} {pos : String} {af : Array Edge} {g : Option (Nat × Bool)} {K : Value → PH → OL → Prop}
theorem ro_slice_fullB {t e bytes : Nat} {x y u : Operand} {s : SV} {xs : List (BitVec 8)} (ht : sliceE P t e 1 bytes = true) (hB : Bytes h s xs) (hx : ev ρ x = sv s) (hy : ev ρ y = .int .i64 s.len) (hu : ev ρ u = .int .i64 s.len) :
    RO P ρ h L ⟨d, .slice t x none (some y) (some u), ty, pos, af, g⟩ (sv ⟨s.a, s.len, s.len⟩) :=
  (ro_slice_full ht hx hy hu hB.2.1).as (by
    by_cases hz : s.len = 0
    · simp [sv, hz]
    · have hp : 0 < xs.length := by rw [← hB.1]; omega
      obtain ⟨b, off, c, E, fr, ha, _⟩ := hB.some hp
      simp [sv, hz, ha, add_addr])
theorem Bytes.cut {s : SV} {xs : List (BitVec 8)} (x : Bytes h s xs) : Bytes h ⟨s.a, s.len, s.len⟩ xs := ⟨x.1, Nat.le_refl _, x.2.2⟩
theorem so_appendB {x y : Operand} {t e : Nat} {s : SV} {xs : List (BitVec 8)} {v : BitVec 8} {b1 cp E : Nat} {fr : Nat × Nat} {f : Obj → OL} (ht : sliceE P t e 1 1 = true) (hB : Bytes h s xs) (hlen : xs.length ≤ 1099511627776) (hx : ev ρ x = sv ⟨s.a, s.len, s.len⟩) (hy : ev ρ y = .slice (some ⟨b1, 0, none⟩) 1 cp)
    (hs : Sel L b1 (.cells #[u8 v] E fr) f) (hK : ∀ b cap zs, xs.length + 1 ≤ cap → K (.slice (some ⟨b, 0, none⟩) (xs.length + 1) cap) h ((b, .cells (encB (xs ++ [v]) ++ zs) e (0, 0)) :: L)) :
    SO P w0 B h0 ρ h L ⟨d, .call ⟨.builtin .append, #[x, y], #[t, t]⟩, ty, pos, af, g⟩ K := by
  have hl : s.len = xs.length := hB.1
  refine so_append_grow (a := s.a) (m := s.len) (c := s.len) (k := 1) (olds := encB xs) (news := #[u8 v]) ht hx hy (len_slice _ _ _) (by omega) (by decide) (by omega) (by have := rd_bytes (P := P) (L := L) hB.cut; simpa [hl] using this) (rd_own hs (by simp) rfl) fun b cap zs hcap hzs => ?_
  have e1 : encB xs ++ #[u8 v] = encB (xs ++ [v]) := by simp [encB]
  rw [e1, hl]
  exact hK b cap zs (by omega)

/-- A call through a function value, its captured variables and all. -/
theorem so_callFWC {T : PH → Prop} {x : Operand} {first cap : Array Value} {f : FuncId} {l : List Operand} {ts : Array TypeId} {vs : List Value} {v : Value} (hx : ev ρ x = .func (.func f) first cap) (hp : CtW T P f vs v) (hT : T h) (hf : goB P f = true) (hv : first.toList ++ (l.map (ev ρ) ++ cap.toList) = vs)
    (hK : K v h L) : SO P w0 B h0 ρ h L ⟨d, .call ⟨.value x, l.toArray, ts⟩, ty, pos, af, g⟩ K :=
  so_callF hx hf (vs := vs.toArray) (by rw [← hv]; simp) (hp h hT) fun u h' _ ⟨e1, e2⟩ => by subst e1; subst e2; exact hK
end
end Go.Sx
