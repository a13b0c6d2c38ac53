/-
  THE LAYER, SECOND PART (own work): a function's entry and end; operations that turn nothing ('RO'); operations that turn the state ('SO'); the steps over both.
-/
import Derived.Test.YtnikheoiciokhaaDoorSxA
import Derived.KernelRfl
namespace Go.Sx
open Go

/-! ### Entry and end -/

section
variable {P : Program} {f : FuncId} {fn : Func} {c : Code} {h : PH} {L : OL} {Post : Ending → PH → OL → Prop}

/-- What a body must come to. -/
def FQ (P : Program) (fn : Func) (w0 : World) (h0 : PH) (L : OL) (Post : Ending → PH → OL → Prop) : Exit → Act → World → Prop :=
  bodyPostM (Fr none) 0 P fn fun e w' => match e with
    | .outgrown => False
    | e => ∃ h' L', St w0 (L.map Prod.fst) h0 h' L' w' ∧ L'.map Prod.fst = L.map Prod.fst ∧ Post e h' L'

theorem fn_enter (l : List Value) (hf : P.funcs[f]? = some fn) (hb : fn.body = some c) (hl : l.length ≤ fn.ntmps)
    (x : ∀ w0, (∀ b ∈ L.map Prod.fst, b < w0.heap.size) → WP none P w0 (L.map Prod.fst) h fn.ntmps c (FQ P fn w0 h L Post) [] (envL 0 l) h L) : Ct P f l.toArray h L Post := by
  intro w hi ho hn
  refine (callsIn_wide (n := 0)).1 (callsIn_of_wp_marks hf hb trivial ?_)
  refine x w ?_ _ _ (envL_env l fn.ntmps hl) (St.start hi ho hn)
  intro b hb
  obtain ⟨p, hp, rfl⟩ := List.mem_map.1 hb
  exact lt_of_some (ho p hp).1

theorem fnr_enter {Post : Value → PH → Prop} (l : List Value) (hf : P.funcs[f]? = some fn) (hb : fn.body = some c) (hl : Nat.ble l.length fn.ntmps = true)
    (x : ∀ w0, WP none P w0 [] h fn.ntmps c (FQ P fn w0 h [] fun e h' _ => ∃ v, e = .returned v ∧ Post v h') [] (envL 0 l) h []) : CtR P f l.toArray h Post :=
  fn_enter l hf hb (Nat.le_of_ble_eq_true hl) fun w0 _ => x w0

end

/-- Memory, as far as reading goes. -/
def Mem (h : PH) (L : OL) (w : World) : Prop := h.inn w ∧ ∀ p ∈ L, w.heap[p.1]? = some p.2
theorem St.mem {w0 w : World} {B : List Nat} {h0 h : PH} {L : OL} (s : St w0 B h0 h L w) : Mem h L w := ⟨s.inn, fun p hp => (s.own p hp).1⟩

/-! ### Types: facts that the kernel reckons -/

/-- The size of a type whose values lie in one cell and are no aggregate. -/
def scalarB (P : Program) (t : TypeId) : Bool :=
  match P.underlying t with
  | some (.struct _) | some (.array _ _) | none => false
  | some _ => match P.info? t with | some i => Nat.beq i.size 1 | none => false
/-- The size of an aggregate type. -/
def aggB (P : Program) (t : TypeId) (n : Nat) : Bool :=
  match P.underlying t with
  | some (.struct _) | some (.array _ _) => (match P.info? t with | some i => Nat.beq i.size n | none => false)
  | _ => false

theorem run_underlying {P : Program} {t : TypeId} {d : TypeDesc} (hd : P.underlying t = some d) (w : World) : (underlying t).run P w = .ok d w := by
  simp [underlying, hd]
theorem run_typeInfo {P : Program} {t : TypeId} {i : TypeInfo} (hd : P.info? t = some i) (w : World) : (typeInfo t).run P w = .ok i w := by
  simp [typeInfo, hd]
theorem run_sizeOf {P : Program} {t : TypeId} {i : TypeInfo} (hd : P.info? t = some i) (w : World) : (sizeOf t).run P w = .ok i.size w := by
  simp [sizeOf, run_typeInfo hd]
theorem run_isAgg_scalar {P : Program} {t : TypeId} (ht : scalarB P t = true) (w : World) : (isAgg t).run P w = .ok false w := by
  unfold scalarB at ht
  cases hd : P.underlying t with
  | none => rw [hd] at ht; cases ht
  | some d => rw [hd] at ht; cases d <;> simp_all [isAgg, run_underlying hd]
theorem run_isAgg_agg {P : Program} {t : TypeId} {n : Nat} (ht : aggB P t n = true) (w : World) : (isAgg t).run P w = .ok true w := by
  unfold aggB at ht
  cases hd : P.underlying t with
  | none => rw [hd] at ht; cases ht
  | some d => rw [hd] at ht; cases d <;> simp_all [isAgg, run_underlying hd]
theorem run_sizeOf_scalar {P : Program} {t : TypeId} (ht : scalarB P t = true) (w : World) : (sizeOf t).run P w = .ok 1 w := by
  unfold scalarB at ht
  cases hi : P.info? t with
  | none => rw [hi] at ht; split at ht <;> simp at ht
  | some i =>
    rw [hi] at ht
    have : i.size = 1 := by split at ht <;> first | cases ht | (exact Nat.eq_of_beq_eq_true ht)
    rw [run_sizeOf hi, this]
theorem run_sizeOf_agg {P : Program} {t : TypeId} {n : Nat} (ht : aggB P t n = true) (w : World) : (sizeOf t).run P w = .ok n w := by
  unfold aggB at ht
  cases hi : P.info? t with
  | none => rw [hi] at ht; split at ht <;> simp at ht
  | some i =>
    rw [hi] at ht
    have : i.size = n := by split at ht <;> first | cases ht | (exact Nat.eq_of_beq_eq_true ht)
    rw [run_sizeOf hi, this]

/-! ### Cells -/

theorem cell_of_block {w : World} {b : Nat} {c : Array Value} {E : TypeId} {fr : Nat × Nat} (hb : w.heap[b]? = some (.cells c E fr)) (off : Nat) : w.cell? ⟨b, off, none⟩ = c[off]? := by
  simp [World.cell?, hb]

theorem add_addr (b off i : Nat) : (Addr.add ⟨b, off, none⟩ i) = ⟨b, off + i, none⟩ := by
  unfold Addr.add
  split
  · subst_vars; rfl
  · rfl

theorem run_loadCellsFrom {P : Program} {w : World} {b : Nat} {c : Array Value} {E : TypeId} {fr : Nat × Nat} (hb : w.heap[b]? = some (.cells c E fr)) (off : Nat) :
    ∀ (k i : Nat) (acc : Array Value), off + i + k ≤ c.size → (loadCellsFrom ⟨b, off, none⟩ i k acc).run P w = .ok (acc ++ c.extract (off + i) (off + i + k)) w := by
  intro k
  induction k with
  | zero => intro i acc _; simp [loadCellsFrom, Nat.min_le_left]
  | succ k ih =>
    intro i acc hk
    have hlt : off + i < c.size := by omega
    have hc : w.cell? (Addr.add ⟨b, off, none⟩ i) = some c[off + i] := by rw [add_addr, cell_of_block hb]; simp [hlt]
    simp only [loadCellsFrom, Sem.run_bind, run_load, hc, Result.andThen_ok]
    rw [ih (i + 1) _ (by omega)]
    congr 1
    apply Array.ext'
    simp only [Array.toList_append, Array.toList_push, Array.toList_extract, List.append_assoc]
    congr 1
    have e1 : off + (i + 1) = off + i + 1 := by omega
    rw [e1]
    show [c[off + i]] ++ List.extract c.toList (off + i + 1) (off + i + 1 + k) = List.extract c.toList (off + i) (off + i + (k + 1))
    simp only [List.extract_eq_take_drop, List.singleton_append]
    have e3 : off + i + 1 + k - (off + i + 1) = k := by omega
    have e4 : off + i + (k + 1) - (off + i) = k + 1 := by omega
    rw [e3, e4]
    have hdrop : c.toList.drop (off + i) = c[off + i] :: c.toList.drop (off + i + 1) := by
      rw [List.drop_eq_getElem_cons (by simpa using hlt)]; simp
    rw [hdrop, List.take_succ_cons]

theorem run_loadCells {P : Program} {w : World} {b : Nat} {c : Array Value} {E : TypeId} {fr : Nat × Nat} (hb : w.heap[b]? = some (.cells c E fr)) (off k : Nat) (hk : off + k ≤ c.size) :
    (loadCells ⟨b, off, none⟩ k).run P w = .ok (c.extract off (off + k)) w := by
  unfold loadCells
  rw [run_loadCellsFrom hb off k 0 #[] (by simpa using hk)]
  simp

theorem run_loadVar_scalar {P : Program} {w : World} {t : TypeId} (ht : scalarB P t = true) {b : Nat} {c : Array Value} {E : TypeId} {fr : Nat × Nat} (hb : w.heap[b]? = some (.cells c E fr)) {off : Nat} {v : Value}
    (hv : c[off]? = some v) : (loadVar t ⟨b, off, none⟩).run P w = .ok v w := by
  simp [loadVar, run_isAgg_scalar ht, cell_of_block hb, hv]

theorem run_loadVar_agg {P : Program} {w : World} {t : TypeId} {k : Nat} (ht : aggB P t k = true) {b : Nat} {c : Array Value} {E : TypeId} {fr : Nat × Nat} (hb : w.heap[b]? = some (.cells c E fr)) {off : Nat} {cs : Array Value}
    (hk : Nat.ble (off + k) c.size = true) (hv : c.extract off (off + k) = cs) : (loadVar t ⟨b, off, none⟩).run P w = .ok (.agg cs) w := by
  simp [loadVar, run_isAgg_agg ht, run_sizeOf_agg ht, run_loadCells hb off k (Nat.le_of_ble_eq_true hk), hv]

/-- Values laid over cells from an offset on. -/
def splice (c : Array Value) (off : Nat) : List Value → Array Value
  | [] => c
  | v :: vs => splice (c.setIfInBounds off v) (off + 1) vs

theorem splice_size (vs : List Value) : ∀ (c : Array Value) (off : Nat), (splice c off vs).size = c.size := by
  induction vs with
  | nil => intro c off; rfl
  | cons v vs ih => intro c off; simp [splice, ih]

theorem splice_getElem? (vs : List Value) : ∀ (c : Array Value) (off : Nat), off + vs.length ≤ c.size → ∀ i, (splice c off vs)[i]? = if off ≤ i ∧ i < off + vs.length then vs[i - off]? else c[i]? := by
  induction vs with
  | nil => intro c off _ i; simp only [splice, List.length_nil, Nat.add_zero]; rw [if_neg (by omega)]
  | cons v vs ih =>
    intro c off hb i
    simp only [List.length_cons] at hb
    simp only [splice]
    rw [ih _ _ (by simp; omega) i]
    simp only [List.length_cons]
    by_cases h1 : i = off
    · subst h1
      rw [if_neg (by omega), if_pos (by omega), Array.getElem?_setIfInBounds]
      simp only [if_true, Nat.sub_self, List.getElem?_cons_zero]
      rw [if_pos (by omega)]
    · by_cases h2 : off + 1 ≤ i ∧ i < off + 1 + vs.length
      · rw [if_pos h2, if_pos (by omega)]
        rw [show i - off = (i - (off + 1)) + 1 by omega]; simp
      · rw [if_neg h2, if_neg (by omega)]
        rw [Array.getElem?_setIfInBounds_ne (by omega)]

theorem splice_all {c : Array Value} {vs : Array Value} (hsz : c.size = vs.size) : splice c 0 vs.toList = vs := by
  apply Array.ext_getElem?
  intro i
  rw [splice_getElem? _ _ _ (by simp [hsz])]
  by_cases h : i < vs.size
  · rw [if_pos (by simpa using h)]; simp
  · rw [if_neg (by simpa using h), Array.getElem?_eq_none (by omega), Array.getElem?_eq_none (by omega)]

/-- A row of cells of the call's own is written. -/
theorem run_storeCells {P : Program} {b : Nat} {E : TypeId} (off : Nat) : ∀ (vs : List Value) (i : Nat) (c : Array Value) (w : World), w.heap[b]? = some (.cells c E (0, 0)) → (∀ v ∈ vs, v.oneCell' = true) → off + i + vs.length ≤ c.size →
    ∃ w', (storeCells ⟨b, off, none⟩ vs i).run P w = .ok () w' ∧ w'.os = w.os ∧ w'.tape = w.tape ∧ w'.output = w.output ∧ w'.heap.size = w.heap.size ∧
      w'.heap[b]? = some (.cells (splice c (off + i) vs) E (0, 0)) ∧ ∀ k, k ≠ b → w'.heap[k]? = w.heap[k]? := by
  intro vs
  induction vs with
  | nil => intro i c w hb _ _; exact ⟨w, rfl, rfl, rfl, rfl, rfl, hb, fun _ _ => rfl⟩
  | cons v vs ih =>
    intro i c w hb h1 hk
    simp only [List.length_cons] at hk
    have hlt : off + i < c.size := by omega
    have hc : w.cell? ⟨b, off + i, none⟩ = some c[off + i] := by rw [cell_of_block hb]; simp [hlt]
    have hf : w.frozen? ⟨b, off + i, none⟩ = false := by simp [World.frozen?, hb]
    have hb' : (w.setCell ⟨b, off + i, none⟩ v).heap[b]? = some (.cells (c.setIfInBounds (off + i) v) E (0, 0)) := by
      simp [World.setCell, Array.getElem?_modify, hb]
    obtain ⟨w', hr, h2, h3, h4, h5, h6, h7⟩ := ih (i + 1) _ _ hb' (fun u hu => h1 u (List.mem_cons_of_mem _ hu)) (by simp; omega)
    refine ⟨w', ?_, h2, h3, h4, ?_, ?_, fun k hne => ?_⟩
    · simp only [storeCells, Sem.run_bind]
      rw [add_addr, run_store P w _ v .plain (h1 v List.mem_cons_self)]
      simp only [hc, hf, Bool.false_eq_true, if_false, Result.andThen_ok]
      exact hr
    · rw [h5]; simp
    · rw [h6]; rfl
    · rw [h7 k hne]
      simp only [World.setCell, Array.getElem?_modify]
      rw [if_neg (by simpa using Ne.symm hne)]

/-! ### Operations that turn nothing -/

/-- In every world of this memory the operation yields 'v' and leaves the world alone. -/
def RO (P : Program) (ρ : Nat → Value) (h : PH) (L : OL) (o : Oper) (v : Value) : Prop := ∀ w, Mem h L w → (execOp (ev ρ) o).run P w = .ok (.value v) w

section
variable {P : Program} {ρ : Nat → Value} {h : PH} {L : OL} {d : Option Tmp} {ty : TypeId} {pos : String} {af : Array Edge} {g : Option (Nat × Bool)}

theorem ro_move (x : Operand) : RO P ρ h L ⟨d, .move x, ty, pos, af, g⟩ (ev ρ x) := fun _ _ => rfl
theorem ro_assign (x : Operand) : RO P ρ h L ⟨d, .assign x, ty, pos, af, g⟩ (ev ρ x) := fun _ _ => rfl
theorem ro_pick_t {c a b : Operand} (hc : ev ρ c = .bool true) : RO P ρ h L ⟨d, .pick c a b, ty, pos, af, g⟩ (ev ρ a) := fun w _ => by
  simp [execOp, hc, asBool]
theorem ro_pick_f {c a b : Operand} (hc : ev ρ c = .bool false) : RO P ρ h L ⟨d, .pick c a b, ty, pos, af, g⟩ (ev ρ b) := fun w _ => by
  simp [execOp, hc, asBool]
theorem ro_not {x : Operand} {T : TypeId} {b : Bool} (hx : ev ρ x = .bool b) : RO P ρ h L ⟨d, .unOp .not T x, ty, pos, af, g⟩ (.bool (!b)) := fun w _ => by
  simp [execOp, hx, Op.unary]
theorem ro_neg {x : Operand} {T : TypeId} {k : IntKind} {m : Int} (hx : ev ρ x = .int k m) : RO P ρ h L ⟨d, .unOp .neg T x, ty, pos, af, g⟩ (.int k (k.wrap (0 - m))) := fun w _ => by
  simp [execOp, hx, Op.unary, Op.intArith]

section ints
variable {x y : Operand} {T T' : TypeId} {k : IntKind} {a b : Int} (hx : ev ρ x = .int k a) (hy : ev ρ y = .int k b)
include hx hy
theorem ro_add : RO P ρ h L ⟨d, .binOp .add T x y T', ty, pos, af, g⟩ (.int k (k.wrap (a + b))) := fun w _ => by
  simp [execOp, hx, hy, eqGuard, binOp, Op.intArith]
theorem ro_sub : RO P ρ h L ⟨d, .binOp .sub T x y T', ty, pos, af, g⟩ (.int k (k.wrap (a - b))) := fun w _ => by
  simp [execOp, hx, hy, eqGuard, binOp, Op.intArith]
theorem ro_mul : RO P ρ h L ⟨d, .binOp .mul T x y T', ty, pos, af, g⟩ (.int k (k.wrap (a * b))) := fun w _ => by
  simp [execOp, hx, hy, eqGuard, binOp, Op.intArith]
theorem ro_quo (hb : b ≠ 0) : RO P ρ h L ⟨d, .binOp .quo T x y T', ty, pos, af, g⟩ (.int k (k.wrap (a.tdiv b))) := fun w _ => by
  simp [execOp, hx, hy, eqGuard, binOp, Op.intDiv, hb]
theorem ro_rem (hb : b ≠ 0) : RO P ρ h L ⟨d, .binOp .rem T x y T', ty, pos, af, g⟩ (.int k (a.tmod b)) := fun w _ => by
  simp [execOp, hx, hy, eqGuard, binOp, Op.intDiv, hb]
theorem ro_and : RO P ρ h L ⟨d, .binOp .and T x y T', ty, pos, af, g⟩ (.int k (k.wrap (BitVec.ofInt k.bits a &&& BitVec.ofInt k.bits b).toNat)) := fun w _ => by
  simp [execOp, hx, hy, eqGuard, binOp, Op.intBits]
theorem ro_or : RO P ρ h L ⟨d, .binOp .or T x y T', ty, pos, af, g⟩ (.int k (k.wrap (BitVec.ofInt k.bits a ||| BitVec.ofInt k.bits b).toNat)) := fun w _ => by
  simp [execOp, hx, hy, eqGuard, binOp, Op.intBits]
theorem ro_xor : RO P ρ h L ⟨d, .binOp .xor T x y T', ty, pos, af, g⟩ (.int k (k.wrap (BitVec.ofInt k.bits a ^^^ BitVec.ofInt k.bits b).toNat)) := fun w _ => by
  simp [execOp, hx, hy, eqGuard, binOp, Op.intBits]
theorem ro_andNot : RO P ρ h L ⟨d, .binOp .andNot T x y T', ty, pos, af, g⟩ (.int k (k.wrap (BitVec.ofInt k.bits a &&& ~~~ BitVec.ofInt k.bits b).toNat)) := fun w _ => by
  simp [execOp, hx, hy, eqGuard, binOp, Op.intBits]
theorem ro_lss : RO P ρ h L ⟨d, .binOp .lss T x y T', ty, pos, af, g⟩ (.bool (decide (a < b))) := fun w _ => by
  simp [execOp, hx, hy, eqGuard, binOp, Op.intCmp]
theorem ro_leq : RO P ρ h L ⟨d, .binOp .leq T x y T', ty, pos, af, g⟩ (.bool (decide (a ≤ b))) := fun w _ => by
  simp [execOp, hx, hy, eqGuard, binOp, Op.intCmp]
theorem ro_gtr : RO P ρ h L ⟨d, .binOp .gtr T x y T', ty, pos, af, g⟩ (.bool (decide (b < a))) := fun w _ => by
  simp [execOp, hx, hy, eqGuard, binOp, Op.intCmp]
theorem ro_geq : RO P ρ h L ⟨d, .binOp .geq T x y T', ty, pos, af, g⟩ (.bool (decide (b ≤ a))) := fun w _ => by
  simp [execOp, hx, hy, eqGuard, binOp, Op.intCmp]
theorem ro_eql : RO P ρ h L ⟨d, .binOp .eql T x y T', ty, pos, af, g⟩ (.bool (decide (a = b))) := fun w _ => by
  simp [execOp, hx, hy, eqGuard, binOp, Op.intCmp]
  rfl
theorem ro_neq : RO P ρ h L ⟨d, .binOp .neq T x y T', ty, pos, af, g⟩ (.bool (!decide (a = b))) := fun w _ => by
  simp [execOp, hx, hy, eqGuard, binOp, Op.intCmp]
  rfl
end ints
theorem ro_shl {x y : Operand} {T T' : TypeId} {k k' : IntKind} {a b : Int} (hx : ev ρ x = .int k a) (hy : ev ρ y = .int k' b) (hb : 0 ≤ b) :
    RO P ρ h L ⟨d, .binOp .shl T x y T', ty, pos, af, g⟩ (.int k (k.wrap (a * 2 ^ (min b.toNat k.bits)))) := fun w _ => by
  simp [execOp, hx, hy, eqGuard, binOp, Op.shift, Int.not_lt.2 hb]
theorem ro_shr {x y : Operand} {T T' : TypeId} {k k' : IntKind} {a b : Int} (hx : ev ρ x = .int k a) (hy : ev ρ y = .int k' b) (hb : 0 ≤ b) :
    RO P ρ h L ⟨d, .binOp .shr T x y T', ty, pos, af, g⟩ (.int k (a.fdiv (2 ^ (min b.toNat k.bits)))) := fun w _ => by
  simp [execOp, hx, hy, eqGuard, binOp, Op.shift, Int.not_lt.2 hb]

/-- The kind of an integer type. -/
def intKindB (P : Program) (t : TypeId) : Option IntKind := match P.underlying t with | some (.int k) => some k | _ => none
theorem ro_convert {src dst : TypeId} {x : Operand} {k k' : IntKind} {a : Int} (hd : intKindB P dst = some k) (hs : (P.underlying src).isSome = true) (hx : ev ρ x = .int k' a) :
    RO P ρ h L ⟨d, .convert src dst x, ty, pos, af, g⟩ (.int k (k.wrap a)) := fun w _ => by
  unfold intKindB at hd
  obtain ⟨ds, hs⟩ := Option.isSome_iff_exists.1 hs
  cases hu : P.underlying dst with
  | none => rw [hu] at hd; cases hd
  | some e =>
    rw [hu] at hd
    cases e <;> simp at hd
    subst hd
    simp [execOp, hx, convert, run_underlying hs, run_underlying hu, Conv.intToInt]

theorem ro_extract {x : Operand} {i : Nat} {vs : Array Value} {v : Value} (hx : ev ρ x = .tuple vs) (hv : vs[i]? = some v) : RO P ρ h L ⟨d, .extract x i, ty, pos, af, g⟩ v := fun w _ => by
  simp [execOp, hx, Instr.extract, hv]
theorem ro_makeFunc {fn : Go.Fn} {first captured : Array Operand} : RO P ρ h L ⟨d, .makeFunc fn first captured, ty, pos, af, g⟩ (.func fn (first.map (ev ρ)) (captured.map (ev ρ))) := fun w _ => by
  simp [execOp, Instr.makeFunc]
theorem ro_nilCheck {x : Operand} {a : Addr} (hx : ev ρ x = .pointer (some a)) : RO P ρ h L ⟨d, .nilCheck x, ty, pos, af, g⟩ (.pointer (some a)) := fun w _ => by
  simp [execOp, hx]

/-- Where a field of a struct type lies (and that it is not empty). -/
def fieldB (P : Program) (t : TypeId) (f : Nat) (off : Nat) : Bool :=
  match P.underlying t with
  | some (.struct fs) => match fs[f]? with
    | some fl => (match P.info? fl.type with | some i => !Nat.beq i.size 0 | none => false) && Nat.beq fl.offset off
    | none => false
  | _ => false
theorem ro_fieldAddr {T : TypeId} {x : Operand} {f k b off : Nat} (ht : fieldB P T f k = true) (hx : ev ρ x = .pointer (some ⟨b, off, none⟩)) :
    RO P ρ h L ⟨d, .fieldAddr T x f, ty, pos, af, g⟩ (.pointer (some ⟨b, off + k, none⟩)) := fun w _ => by
  unfold fieldB at ht
  cases hu : P.underlying T with
  | none => rw [hu] at ht; cases ht
  | some e =>
    rw [hu] at ht
    cases e <;> simp at ht
    rename_i fs
    cases hf : fs[f]? with
    | none => rw [hf] at ht; cases ht
    | some fl =>
      rw [hf] at ht
      cases hi : P.info? fl.type with
      | none => simp [hi] at ht
      | some i =>
        simp only [hi, Bool.and_eq_true, Bool.not_eq_true'] at ht
        have h1 : ¬ i.size = 0 := fun e0 => by rw [e0] at ht; simp at ht
        have h2 : fl.offset = k := Nat.eq_of_beq_eq_true ht.2
        simp [execOp, hx, Instr.fieldAt, run_underlying hu, hf, Instr.sureAddr, fieldPlace, run_sizeOf hi, h1, h2, add_addr]

/-- An array type: its length and its element's size. -/
def arrayB (P : Program) (t : TypeId) (len size : Nat) : Bool :=
  match P.underlying t with
  | some (.array n e) => Nat.beq n len && (match P.info? e with | some i => Nat.beq i.size size | none => false)
  | _ => false
theorem arrayB_out {T : TypeId} {len size : Nat} (ht : arrayB P T len size = true) : ∃ e i, P.underlying T = some (.array len e) ∧ P.info? e = some i ∧ i.size = size := by
  unfold arrayB at ht
  cases hu : P.underlying T with
  | none => rw [hu] at ht; cases ht
  | some dd =>
    rw [hu] at ht
    cases dd <;> simp at ht
    rename_i n e
    cases hi : P.info? e with
    | none => simp [hi] at ht
    | some i => simp [hi] at ht; exact ⟨e, i, by rw [ht.1], hi, ht.2⟩
theorem ro_indexAddr_array {T : TypeId} {x y : Operand} {len size b off : Nat} {k : IntKind} {j : Int} (ht : arrayB P T len size = true) (hx : ev ρ x = .pointer (some ⟨b, off, none⟩)) (hy : ev ρ y = .int k j)
    (h0 : 0 ≤ j) (h1 : j < len) : RO P ρ h L ⟨d, .indexAddr T x y, ty, pos, af, g⟩ (.pointer (some ⟨b, off + j.toNat * size, none⟩)) := fun w _ => by
  obtain ⟨e, i, hu, hi, hs⟩ := arrayB_out ht
  simp [execOp, hx, hy, Instr.indexAt, asIntOf, run_underlying hu, Instr.sureAddr, h0, h1, run_sizeOf hi, hs, add_addr]
/-- A slice type: its element's size. -/
def sliceB (P : Program) (t : TypeId) (size : Nat) : Bool :=
  match P.underlying t with
  | some (.slice e) => (match P.info? e with | some i => Nat.beq i.size size | none => false)
  | _ => false
theorem sliceB_out {T : TypeId} {size : Nat} (ht : sliceB P T size = true) : ∃ e i, P.underlying T = some (.slice e) ∧ P.info? e = some i ∧ i.size = size := by
  unfold sliceB at ht
  cases hu : P.underlying T with
  | none => rw [hu] at ht; cases ht
  | some dd =>
    rw [hu] at ht
    cases dd <;> simp at ht
    rename_i e
    cases hi : P.info? e with
    | none => simp [hi] at ht
    | some i => simp [hi] at ht; exact ⟨e, i, rfl, hi, ht⟩
theorem ro_indexAddr_slice {T : TypeId} {x y : Operand} {len cap size b off : Nat} {k : IntKind} {j : Int} (ht : sliceB P T size = true) (hx : ev ρ x = .slice (some ⟨b, off, none⟩) len cap) (hy : ev ρ y = .int k j)
    (h0 : 0 ≤ j) (h1 : j < len) : RO P ρ h L ⟨d, .indexAddr T x y, ty, pos, af, g⟩ (.pointer (some ⟨b, off + j.toNat * size, none⟩)) := fun w _ => by
  obtain ⟨e, i, hu, hi, hs⟩ := sliceB_out ht
  simp [execOp, hx, hy, Instr.indexAt, asIntOf, run_underlying hu, h0, h1, run_sizeOf hi, hs, add_addr]
theorem ro_len_slice {x : Operand} {T : TypeId} {a : Option Addr} {len cap size : Nat} (ht : sliceB P T size = true) (hx : ev ρ x = .slice a len cap) :
    RO P ρ h L ⟨d, .call ⟨.builtin .len, #[x], #[T]⟩, ty, pos, af, g⟩ (.int .i64 len) := fun w _ => by
  obtain ⟨e, i, hu, hi, hs⟩ := sliceB_out ht
  simp [execOp, hx, resolve, invoke, builtin, Builtin.len_, run_underlying hu, goInt]

/-! loads -/
theorem mem_sel {w : World} (hm : Mem h L w) {b : Nat} {o : Obj} {f : Obj → OL} (hs : Sel L b o f) : w.heap[b]? = some o := hm.2 _ hs.mem
theorem ro_load {T : TypeId} {x : Operand} {b off : Nat} {c : Array Value} {E : TypeId} {fr : Nat × Nat} {f : Obj → OL} {v : Value} (ht : scalarB P T = true) (hx : ev ρ x = .pointer (some ⟨b, off, none⟩))
    (hs : Sel L b (.cells c E fr) f) (hv : c[off]? = some v) : RO P ρ h L ⟨d, .load T x, ty, pos, af, g⟩ v := fun w hm => by
  simp [execOp, hx, Instr.loadAt, Instr.sureAddr, run_loadVar_scalar ht (mem_sel hm hs) hv]
theorem ro_loadA {T : TypeId} {x : Operand} {b off k : Nat} {c : Array Value} {E : TypeId} {fr : Nat × Nat} {f : Obj → OL} {cs : Array Value} (ht : aggB P T k = true) (hx : ev ρ x = .pointer (some ⟨b, off, none⟩))
    (hs : Sel L b (.cells c E fr) f) (hk : Nat.ble (off + k) c.size = true) (hv : c.extract off (off + k) = cs) : RO P ρ h L ⟨d, .load T x, ty, pos, af, g⟩ (.agg cs) := fun w hm => by
  simp [execOp, hx, Instr.loadAt, Instr.sureAddr, run_loadVar_agg ht (mem_sel hm hs) hk hv]
theorem ro_loadH {T : TypeId} {x : Operand} {b off : Nat} {c : Array Value} {E : TypeId} {fr : Nat × Nat} {v : Value} (ht : scalarB P T = true) (hx : ev ρ x = .pointer (some ⟨b, off, none⟩))
    (hs : h b = some (.cells c E fr)) (hv : c[off]? = some v) : RO P ρ h L ⟨d, .load T x, ty, pos, af, g⟩ v := fun w hm => by
  simp [execOp, hx, Instr.loadAt, Instr.sureAddr, run_loadVar_scalar ht (hm.1 _ _ hs) hv]
theorem ro_loadHA {T : TypeId} {x : Operand} {b off k : Nat} {c : Array Value} {E : TypeId} {fr : Nat × Nat} {cs : Array Value} (ht : aggB P T k = true) (hx : ev ρ x = .pointer (some ⟨b, off, none⟩))
    (hs : h b = some (.cells c E fr)) (hk : Nat.ble (off + k) c.size = true) (hv : c.extract off (off + k) = cs) : RO P ρ h L ⟨d, .load T x, ty, pos, af, g⟩ (.agg cs) := fun w hm => by
  simp [execOp, hx, Instr.loadAt, Instr.sureAddr, run_loadVar_agg ht (hm.1 _ _ hs) hk hv]
end

/-! ### Operations that turn the state -/

/-- What is asked of what an operation has come to. -/
def SR (P : Program) (w0 : World) (B : List Nat) (h0 : PH) (K : Value → PH → OL → Prop) : Result Next → Prop
  | .ok (.value v) w => ∃ h L, K v h L ∧ St w0 B h0 h L w
  | .ok .skip w => ∃ h L, K undef h L ∧ St w0 B h0 h L w
  | .ok (.enter f args) w => Calls P f args w fun e w' => match e with
    | .returned v => ∃ h L, K v h L ∧ St w0 B h0 h L w'
    | .outgrown => False
    | .panicked _ => False
  | .ok (.round l f tmps assign body) w => RoundIn (Fr none) 0 P l f tmps assign body w fun e w' => match e with
    | .returned v => ∃ h L, K v h L ∧ St w0 B h0 h L w'
    | .outgrown => False
    | .panicked _ => False
  | _ => False

def SO (P : Program) (w0 : World) (B : List Nat) (h0 : PH) (ρ : Nat → Value) (h : PH) (L : OL) (o : Oper) (K : Value → PH → OL → Prop) : Prop :=
  ∀ w, St w0 B h0 h L w → SR P w0 B h0 K ((execOp (ev ρ) o).run P w)

theorem SO.mono {P : Program} {w0 : World} {B : List Nat} {h0 : PH} {ρ : Nat → Value} {h : PH} {L : OL} {o : Oper} {K K' : Value → PH → OL → Prop} (x : SO P w0 B h0 ρ h L o K) (hk : ∀ v h L, K v h L → K' v h L) :
    SO P w0 B h0 ρ h L o K' := by
  intro w s
  have := x w s
  revert this
  generalize (execOp (ev ρ) o).run P w = r
  intro this
  cases r with
  | halt => exact this
  | ok nx w' =>
    cases nx <;> try exact this
    · obtain ⟨h, L, k, st⟩ := this; exact ⟨h, L, hk _ _ _ k, st⟩
    · obtain ⟨h, L, k, st⟩ := this; exact ⟨h, L, hk _ _ _ k, st⟩
    · refine Calls.mono this fun e w' r => ?_
      cases e with
      | returned v => obtain ⟨h, L, k, st⟩ := r; exact ⟨h, L, hk _ _ _ k, st⟩
      | outgrown => exact r
      | panicked c => exact r
    · refine RoundIn.mono this fun e w' r => ?_
      cases e with
      | returned v => obtain ⟨h, L, k, st⟩ := r; exact ⟨h, L, hk _ _ _ k, st⟩
      | outgrown => exact r
      | panicked c => exact r

section
variable {r : Option Nat} {P : Program} {w0 : World} {B : List Nat} {h0 : PH} {n : Nat} {ds : List Deferred} {Q : Exit → Act → World → Prop} {ρ : Nat → Value} {h : PH} {L : OL} {d : Option Tmp} {ty : TypeId} {pos : String} {af : Array Edge} {g : Option (Nat × Bool)}
  {K : Value → PH → OL → Prop}

theorem so_ro {o : Oper} {v : Value} (x : RO P ρ h L o v) (hk : K v h L) : SO P w0 B h0 ρ h L o K := fun w s => by
  rw [x w s.mem]; exact ⟨h, L, hk, s⟩

theorem so_box {T : TypeId} {x : Operand} (hk : ∀ b, K (.pointer (some ⟨b, 0, none⟩)) h ((b, .cells (ev ρ x).cells T (0, 0)) :: L)) : SO P w0 B h0 ρ h L ⟨d, .box T x, ty, pos, af, g⟩ K := fun w s => by
  have : (execOp (ev ρ) ⟨d, .box T x, ty, pos, af, g⟩).run P w = .ok (.value (.pointer (some ⟨w.heap.size, 0, none⟩))) (w.alloc (.cells (ev ρ x).cells T)) := by
    simp [execOp, Instr.box, newVar, newRow]
  rw [this]
  exact ⟨_, _, hk _, s.alloc _⟩

/-- The zero value of a type. -/
def zeroOf (P : Program) (t : TypeId) : Option Value := (P.info? t).bind (·.zero)
theorem run_zeroValue {t : TypeId} {z : Value} (hz : zeroOf P t = some z) (w : World) : (zeroValue t).run P w = .ok z w := by
  unfold zeroOf at hz
  cases hi : P.info? t with
  | none => rw [hi] at hz; cases hz
  | some i => rw [hi] at hz; simp at hz; simp [zeroValue, run_typeInfo hi, hz]
theorem so_alloc {T : TypeId} {z : Value} (hz : zeroOf P T = some z) (hk : ∀ b, K (.pointer (some ⟨b, 0, none⟩)) h ((b, .cells z.cells T (0, 0)) :: L)) : SO P w0 B h0 ρ h L ⟨d, .alloc T, ty, pos, af, g⟩ K := fun w s => by
  have : (execOp (ev ρ) ⟨d, .alloc T, ty, pos, af, g⟩).run P w = .ok (.value (.pointer (some ⟨w.heap.size, 0, none⟩))) (w.alloc (.cells z.cells T)) := by
    simp [execOp, Instr.alloc, run_zeroValue hz, newVar, newRow]
  rw [this]
  exact ⟨_, _, hk _, s.alloc _⟩

theorem run_storeVar {w : World} {T : TypeId} {k : Nat} (hsz : ∀ w, (sizeOf T).run P w = .ok k w) {v : Value} {cs : List Value} (hv : v.cells.toList = cs) (hl : cs.length = k) (h1 : ∀ u ∈ cs, u.oneCell' = true)
    {b off : Nat} {c : Array Value} {E : TypeId} (hb : w.heap[b]? = some (.cells c E (0, 0))) (hk : off + k ≤ c.size) :
    ∃ w', (storeVar T ⟨b, off, none⟩ v).run P w = .ok () w' ∧ w'.os = w.os ∧ w'.tape = w.tape ∧ w'.output = w.output ∧ w'.heap.size = w.heap.size ∧
      w'.heap[b]? = some (.cells (splice c off cs) E (0, 0)) ∧ ∀ k, k ≠ b → w'.heap[k]? = w.heap[k]? := by
  obtain ⟨w', hr, hrest⟩ := run_storeCells (P := P) (E := E) off cs 0 c w hb h1 (by omega)
  refine ⟨w', ?_, hrest⟩
  have hl' : v.cells.size = k := by rw [← Array.length_toList, hv, hl]
  simp [storeVar, hsz, hl', hv, hr]

/-- Every value of the list lies in one cell. -/
def onesB (l : List Value) : Bool := l.all Value.oneCell'
theorem onesB_out {l : List Value} (hl : onesB l = true) : ∀ u ∈ l, u.oneCell' = true := by simpa [onesB] using hl

theorem so_storeV {T : TypeId} {x y : Operand} {k b off : Nat} {c c' : Array Value} {E : TypeId} {f : Obj → OL} {v : Value} {cs : List Value} (hsz : ∀ w, (sizeOf T).run P w = .ok k w) (hx : ev ρ x = .pointer (some ⟨b, off, none⟩))
    (hy : ev ρ y = v) (hv : v.cells.toList = cs) (hl : cs.length = k) (h1 : ∀ u ∈ cs, u.oneCell' = true) (hs : Sel L b (.cells c E (0, 0)) f) (hk : off + k ≤ c.size) (hc : splice c off cs = c')
    (hK : K undef h (f (.cells c' E (0, 0)))) : SO P w0 B h0 ρ h L ⟨d, .store T x y, ty, pos, af, g⟩ K := fun w s => by
  obtain ⟨w', hr, h2, h3, h4, h5, h6, h7⟩ := run_storeVar (P := P) hsz hv hl h1 (mem_sel s.mem hs) hk
  have : (execOp (ev ρ) ⟨d, .store T x y, ty, pos, af, g⟩).run P w = .ok .skip w' := by
    simp [execOp, hx, hy, Instr.storeAt, Instr.sureAddr, hr]
  rw [this]
  exact ⟨_, _, hK, s.put hs h2 h3 h4 h5 (by rw [h6, hc]) h7⟩

/-- A value of one cell is stored. -/
theorem so_store {T : TypeId} {x y : Operand} {b off : Nat} {c c' : Array Value} {E : TypeId} {f : Obj → OL} {v : Value} (ht : scalarB P T = true) (hx : ev ρ x = .pointer (some ⟨b, off, none⟩)) (hy : ev ρ y = v) (h1 : v.oneCell' = true)
    (hs : Sel L b (.cells c E (0, 0)) f) (hk : Nat.blt off c.size = true) (hc : c.setIfInBounds off v = c') (hK : K undef h (f (.cells c' E (0, 0)))) : SO P w0 B h0 ρ h L ⟨d, .store T x y, ty, pos, af, g⟩ K :=
  so_storeV (cs := [v]) (run_sizeOf_scalar ht) hx hy (by cases v <;> first | rfl | simp [Value.oneCell'] at h1) rfl (by simpa using h1) hs (Nat.succ_le_of_lt (by simpa [Nat.blt_eq] using hk)) hc hK
/-- An aggregate is stored over a whole block. -/
theorem so_storeA {T : TypeId} {x y : Operand} {b k : Nat} {c cs : Array Value} {E : TypeId} {f : Obj → OL} (ht : aggB P T k = true) (hx : ev ρ x = .pointer (some ⟨b, 0, none⟩)) (hy : ev ρ y = .agg cs) (hl : cs.size = k) (h1 : onesB cs.toList = true)
    (hs : Sel L b (.cells c E (0, 0)) f) (hk : c.size = k) (hK : K undef h (f (.cells cs E (0, 0)))) : SO P w0 B h0 ρ h L ⟨d, .store T x y, ty, pos, af, g⟩ K :=
  so_storeV (cs := cs.toList) (run_sizeOf_agg ht) hx hy rfl (by simpa using hl) (onesB_out h1) hs (by omega) (splice_all (by omega)) hK
/-- .. or into a part of one. -/
theorem so_storeP {T : TypeId} {x y : Operand} {b off k : Nat} {c c' cs : Array Value} {E : TypeId} {f : Obj → OL} (ht : aggB P T k = true) (hx : ev ρ x = .pointer (some ⟨b, off, none⟩)) (hy : ev ρ y = .agg cs) (hl : cs.size = k) (h1 : onesB cs.toList = true)
    (hs : Sel L b (.cells c E (0, 0)) f) (hk : Nat.ble (off + k) c.size = true) (hc : splice c off cs.toList = c') (hK : K undef h (f (.cells c' E (0, 0)))) : SO P w0 B h0 ρ h L ⟨d, .store T x y, ty, pos, af, g⟩ K :=
  so_storeV (cs := cs.toList) (run_sizeOf_agg ht) hx hy rfl (by simpa using hl) (onesB_out h1) hs (Nat.le_of_ble_eq_true hk) hc hK

/-! calls -/
/-- A Go function with a body. -/
def goB (P : Program) (f : FuncId) : Bool := match P.funcs[f]? with | some fn => !(fn.name == "runtime.NumGoroutine") && fn.body.isSome | none => false
theorem run_callFunc {f : FuncId} (hf : goB P f = true) (args : Array Value) (w : World) : (callFunc f args).run P w = .ok (.enter f args) w := by
  unfold goB at hf
  cases hh : P.funcs[f]? with
  | none => rw [hh] at hf; cases hf
  | some fn =>
    rw [hh] at hf
    simp only [Bool.and_eq_true, Bool.not_eq_true'] at hf
    have h1 : ¬ fn.name = "runtime.NumGoroutine" := by simpa using hf.1
    have h2 : ¬ fn.body = none := fun e => by rw [e] at hf; simp at hf
    simp [callFunc, hh, h1, h2]

theorem so_callF {x : Operand} {f : FuncId} {first cap : Array Value} {xs : Array Operand} {ts : Array TypeId} {vs : Array Value} {Post : Value → PH → Prop} (hx : ev ρ x = .func (.func f) first cap) (hf : goB P f = true)
    (hv : first ++ xs.map (ev ρ) ++ cap = vs) (hp : CtR P f vs h Post) (hK : ∀ v h', h.le h' → Post v h' → K v h' L) : SO P w0 B h0 ρ h L ⟨d, .call ⟨.value x, xs, ts⟩, ty, pos, af, g⟩ K := fun w s => by
  have : (execOp (ev ρ) ⟨d, .call ⟨.value x, xs, ts⟩, ty, pos, af, g⟩).run P w = .ok (.enter f vs) w := by
    simp [execOp, resolve, hx, Deferred.ofValue, invoke, run_callFunc hf, ← hv]
  rw [this]
  refine (hp w s.inn (fun p hp => by cases hp) List.nodup_nil).mono fun e w' r => ?_
  cases e with
  | outgrown => exact r
  | returned v =>
    obtain ⟨h', L', st, hl, u, hu, hpost⟩ := r
    cases hu
    have hl' : L' = [] := by simpa using hl
    subst hl'
    exact ⟨h', L, hK _ _ st.le hpost, s.call st⟩
  | panicked c =>
    obtain ⟨h', L', st, hl, u, hu, hpost⟩ := r
    cases hu

theorem so_call {f : FuncId} {xs : Array Operand} {ts : Array TypeId} {vs : Array Value} {Post : Value → PH → Prop} (hf : goB P f = true) (hv : xs.map (ev ρ) = vs) (hp : CtR P f vs h Post)
    (hK : ∀ v h', h.le h' → Post v h' → K v h' L) : SO P w0 B h0 ρ h L ⟨d, .call ⟨.value (.func f), xs, ts⟩, ty, pos, af, g⟩ K :=
  so_callF (first := #[]) (cap := #[]) rfl hf (by simpa using hv) hp hK

/-- A call that writes one block of the caller's. -/
theorem so_call1 {x : Operand} {f : FuncId} {first cap : Array Value} {xs : Array Operand} {ts : Array TypeId} {vs : Array Value} {b : Nat} {o : Obj} {up : Obj → OL} {Post : Value → PH → Obj → Prop} (hx : ev ρ x = .func (.func f) first cap) (hf : goB P f = true)
    (hv : first ++ xs.map (ev ρ) ++ cap = vs) (hs : Sel L b o up) (hp : Ct P f vs h [(b, o)] fun e h' L' => ∃ v o', e = .returned v ∧ L' = [(b, o')] ∧ Post v h' o')
    (hK : ∀ v h' o', h.le h' → Post v h' o' → K v h' (up o')) : SO P w0 B h0 ρ h L ⟨d, .call ⟨.value x, xs, ts⟩, ty, pos, af, g⟩ K := fun w s => by
  have : (execOp (ev ρ) ⟨d, .call ⟨.value x, xs, ts⟩, ty, pos, af, g⟩).run P w = .ok (.enter f vs) w := by
    simp [execOp, resolve, hx, Deferred.ofValue, invoke, run_callFunc hf, ← hv]
  rw [this]
  refine (hp w s.inn (fun p hp => ?_) (by simp)).mono fun e w' r => ?_
  · simp only [List.mem_singleton] at hp
    subst hp
    exact ⟨(s.own _ hs.mem).1, (s.own _ hs.mem).2.1⟩
  · cases e with
    | outgrown => exact r
    | returned v =>
      obtain ⟨h', L', st, hl, u, o', hu, hL, hpost⟩ := r
      cases hu
      subst hL
      exact ⟨h', _, hK _ _ _ st.le hpost, s.call1 hs st⟩
    | panicked c =>
      obtain ⟨h', L', st, hl, u, o', hu, hL, hpost⟩ := r
      cases hu

/-! ### The steps -/

theorem so_nd {w : World} {o : Oper} (s : St w0 B h0 h L w) (x : SO P w0 B h0 ρ h L o K) : ∀ c, o.op ≠ .defer c := by
  intro c hc
  have := x w s
  unfold execOp at this
  rw [hc] at this
  simp only [Sem.run_bind] at this
  cases hr : (resolve (ev ρ) c o.type).run P w with
  | ok d w' => rw [hr] at this; exact this
  | halt hh w' => rw [hr] at this; exact this

theorem roundIn_fr {r : Option Nat} {m k l : Nat} {f : FuncId} {tmps : Array Value} {assign body : Code} {w : World} {R : Ending → World → Prop} (x : RoundIn (Fr none) m P l f tmps assign body w R) : RoundIn (Fr r) k P l f tmps assign body w R :=
  ⟨trivial, fun c cs _ => x.2 c cs (fr_room _ _)⟩

theorem so_wp {a : Act} {w : World} {o : Oper} (hev : a.eval = ev ρ) (s : St w0 B h0 h L w) (x : SO P w0 B h0 ρ h L o K) :
    o.wpIn (Fr r) 0 P a w (fun a' w' => ∃ v h' L', a' = a.put o.dst v ∧ K v h' L' ∧ St w0 B h0 h' L' w') Q := by
  refine ⟨fun _ _ => trivial, ?_⟩
  rw [Oper.semAt_eq _ _ _ (so_nd s x), hev]
  have := x w s
  revert this
  generalize (execOp (ev ρ) o).run P w = rr
  intro this
  cases rr with
  | halt => exact this.elim
  | ok nx w' =>
    cases nx <;> try exact this.elim
    · obtain ⟨h, L, k, st⟩ := this; exact ⟨_, h, L, rfl, k, st⟩
    · obtain ⟨h, L, k, st⟩ := this; exact ⟨_, h, L, rfl, k, st⟩
    · refine ⟨fr_depth r, callsIn_fr.2 (Calls.mono this fun e w' q => ?_)⟩
      cases e with
      | returned v => obtain ⟨h, L, k, st⟩ := q; exact ⟨_, h, L, rfl, k, st⟩
      | outgrown => exact q.elim
      | panicked c => exact q.elim
    · refine ⟨fr_depth r, roundIn_fr (RoundIn.mono this fun e w' q => ?_)⟩
      cases e with
      | returned v => obtain ⟨h, L, k, st⟩ := q; exact ⟨_, h, L, rfl, k, st⟩
      | outgrown => exact q.elim
      | panicked c => exact q.elim

theorem wl_so {ops : Array Oper} {rest : List Oper} {o : Oper} {dd : Tmp} (hg : o.guard = none) (hd : o.dst = some dd) (hn : Nat.blt dd n = true) (x : SO P w0 B h0 ρ h L o fun v h' L' => WL r P w0 B h0 n ops rest Q ds (upd ρ dd v) h' L') :
    WL r P w0 B h0 n ops (o :: rest) Q ds ρ h L := fun a w e s => by
  refine wpListIn_plain hg fun Kk hKk => Oper.wpIn_mono (fun a' w' r => ?_) (so_wp e.eval s x)
  obtain ⟨v, h', L', rfl, k, st⟩ := r
  refine hKk _ _ (k _ _ ?_ st)
  rw [hd]; exact e.put hn v
theorem wl_so_none {ops : Array Oper} {rest : List Oper} {o : Oper} (hg : o.guard = none) (hd : o.dst = none) (x : SO P w0 B h0 ρ h L o fun _ h' L' => WL r P w0 B h0 n ops rest Q ds ρ h' L') :
    WL r P w0 B h0 n ops (o :: rest) Q ds ρ h L := fun a w e s => by
  refine wpListIn_plain hg fun Kk hKk => Oper.wpIn_mono (fun a' w' r => ?_) (so_wp e.eval s x)
  obtain ⟨v, h', L', rfl, k, st⟩ := r
  refine hKk _ _ (k _ _ ?_ st)
  rw [hd]; exact e.put_none v

/-- An operation that turns nothing. -/
theorem wl_ro {ops : Array Oper} {rest : List Oper} {op : Op} {dd : Tmp} {v : Value} (x : RO P ρ h L ⟨some dd, op, ty, pos, af, none⟩ v) (hn : Nat.blt dd n = true) (hx : WL r P w0 B h0 n ops rest Q ds (upd ρ dd v) h L) :
    WL r P w0 B h0 n ops (⟨some dd, op, ty, pos, af, none⟩ :: rest) Q ds ρ h L := wl_so rfl rfl hn (so_ro x hx)
/-- An operation that turns the state, its value kept. -/
theorem wl_s {ops : Array Oper} {rest : List Oper} {op : Op} {dd : Tmp} (hn : Nat.blt dd n = true) (x : SO P w0 B h0 ρ h L ⟨some dd, op, ty, pos, af, none⟩ fun v h' L' => WL r P w0 B h0 n ops rest Q ds (upd ρ dd v) h' L') :
    WL r P w0 B h0 n ops (⟨some dd, op, ty, pos, af, none⟩ :: rest) Q ds ρ h L := wl_so rfl rfl hn x
/-- .. its value dropped. -/
theorem wl_s0 {ops : Array Oper} {rest : List Oper} {op : Op} (x : SO P w0 B h0 ρ h L ⟨none, op, ty, pos, af, none⟩ fun _ h' L' => WL r P w0 B h0 n ops rest Q ds ρ h' L') :
    WL r P w0 B h0 n ops (⟨none, op, ty, pos, af, none⟩ :: rest) Q ds ρ h L := wl_so_none rfl rfl x

/-! guards -/
theorem yielded_ev {a : Act} (e : Env a n ds ρ) {ops : Array Oper} {j : Nat} {oj : Oper} {dj : Tmp} {t : Bool} (hj : ops[j]? = some oj) (hd : oj.dst = some dj) (hn : Nat.blt dj n = true) (hv : ρ dj = .bool t) : yielded ops a.tmps j = some t := by
  have hlt : dj < a.tmps.size := by rw [e.size]; simpa [Nat.blt_eq] using hn
  have hg := e.get dj
  rw [Array.getD_eq_getD_getElem?, Array.getElem?_eq_getElem hlt] at hg
  simp only [Option.getD_some] at hg
  simp [yielded, hj, hd, hlt, hg, hv]

/-- The guard says no. -/
theorem wl_no {ops : Array Oper} {rest : List Oper} {op : Op} {dd j : Nat} {want : Bool} {oj : Oper} {dj : Tmp} {t : Bool} (hn : Nat.blt dd n = true) (hj : ops[j]? = some oj) (hd : oj.dst = some dj) (hnj : Nat.blt dj n = true) (hv : ρ dj = .bool t)
    (ht : (t == want) = false) (x : WL r P w0 B h0 n ops rest Q ds (upd ρ dd undef) h L) : WL r P w0 B h0 n ops (⟨some dd, op, ty, pos, af, some (j, want)⟩ :: rest) Q ds ρ h L := fun a w e s => by
  have hw : Region.wanted ⟨some dd, op, ty, pos, af, some (j, want)⟩ (yielded ops a.tmps) = false := by
    simp only [Region.wanted, yielded_ev e hj hd hnj hv]
    simpa using ht
  unfold wpListIn
  rw [if_neg (by rw [hw]; simp)]
  exact ⟨fun _ _ => trivial, x _ _ (e.put hn undef) s⟩
/-- .. yes. -/
theorem wl_yes {ops : Array Oper} {rest : List Oper} {op : Op} {dd j : Nat} {want : Bool} {oj : Oper} {dj : Tmp} {t : Bool} (hn : Nat.blt dd n = true) (hj : ops[j]? = some oj) (hd : oj.dst = some dj) (hnj : Nat.blt dj n = true) (hv : ρ dj = .bool t)
    (ht : (t == want) = true) (x : SO P w0 B h0 ρ h L ⟨some dd, op, ty, pos, af, some (j, want)⟩ fun v h' L' => WL r P w0 B h0 n ops rest Q ds (upd ρ dd v) h' L') : WL r P w0 B h0 n ops (⟨some dd, op, ty, pos, af, some (j, want)⟩ :: rest) Q ds ρ h L := fun a w e s => by
  refine wpListIn_step fun Kk hKk => ?_
  have hw : Region.wanted ⟨some dd, op, ty, pos, af, some (j, want)⟩ (yielded ops a.tmps) = true := by
    simp only [Region.wanted, yielded_ev e hj hd hnj hv]
    simpa using ht
  rw [if_pos hw]
  refine Oper.wpIn_mono (fun a' w' r => ?_) (so_wp e.eval s x)
  obtain ⟨v, h', L', rfl, k, st⟩ := r
  exact hKk _ _ (k _ _ (e.put hn v) st)
end

/-! ### The end of a function -/
section
variable {r : Option Nat} {P : Program} {w0 : World} {B : List Nat} {h0 : PH} {n : Nat} {Q : Exit → Act → World → Prop} {ρ : Nat → Value} {h : PH} {L : OL}

/-- What a result variable holds. -/
def RV (P : Program) (ρ : Nat → Value) (h : PH) (L : OL) : ResultVar → Value → Prop
  | .tmp t, v => ρ t = v
  | .cell a t, v => ∃ ad, ρ a = .pointer (some ad) ∧ ∀ w, Mem h L w → (loadVar t ad).run P w = .ok v w
theorem rv_tmp (t : Nat) : RV P ρ h L (.tmp t) (ρ t) := rfl
theorem rv_cell {a T : Nat} {b off : Nat} {c : Array Value} {E : TypeId} {fr : Nat × Nat} {f : Obj → OL} {v : Value} (ht : scalarB P T = true) (hx : ρ a = .pointer (some ⟨b, off, none⟩)) (hs : Sel L b (.cells c E fr) f) (hv : c[off]? = some v) :
    RV P ρ h L (.cell a T) v := ⟨_, hx, fun _ hm => run_loadVar_scalar ht (mem_sel hm hs) hv⟩
theorem rv_cellA {a T : Nat} {b k : Nat} {c : Array Value} {E : TypeId} {fr : Nat × Nat} {f : Obj → OL} (ht : aggB P T k = true) (hx : ρ a = .pointer (some ⟨b, 0, none⟩)) (hs : Sel L b (.cells c E fr) f) (hk : c.size = k) :
    RV P ρ h L (.cell a T) (.agg c) := ⟨_, hx, fun _ hm => run_loadVar_agg ht (mem_sel hm hs) (by simp [hk]) (by simp [← hk])⟩

def rvRun (a : Act) : ResultVar → Sem Value
  | .tmp t => pure (a.tmps.getD t undef)
  | .cell x t => do loadVar t (← asAddr (a.tmps.getD x undef))
theorem run_rv {a : Act} {ds : List Deferred} (e : Env a n ds ρ) {w : World} (hm : Mem h L w) {r : ResultVar} {v : Value} (x : RV P ρ h L r v) : (rvRun a r).run P w = .ok v w := by
  cases r with
  | tmp t => simp only [rvRun, e.get]; rw [show ρ t = v from x]; rfl
  | cell s t => obtain ⟨ad, h1, h2⟩ := x; simp [rvRun, e.get, h1, asAddr, h2 w hm]

theorem results_eq (fn : Func) (a : Act) : results fn a.tmps = (do let vs ← fn.results.mapM (rvRun a); pure (if h : vs.size = 1 then vs[0] else .tuple vs)) := by
  unfold results
  congr 1

inductive RVs (P : Program) (ρ : Nat → Value) (h : PH) (L : OL) : List ResultVar → List Value → Prop
  | nil : RVs P ρ h L [] []
  | cons {r : ResultVar} {v : Value} {rs : List ResultVar} {vs : List Value} : RV P ρ h L r v → RVs P ρ h L rs vs → RVs P ρ h L (r :: rs) (v :: vs)

theorem results_run {a : Act} {ds : List Deferred} (e : Env a n ds ρ) {w : World} (hm : Mem h L w) {fn : Func} {rs : List ResultVar} {vs : List Value} (hr : fn.results = rs.toArray) (hl : RVs P ρ h L rs vs) :
    (results fn a.tmps).run P w = .ok (if h : vs.toArray.size = 1 then vs.toArray[0] else .tuple vs.toArray) w := by
  rw [results_eq, hr]
  have key : ∀ (rs : List ResultVar) (vs : List Value), RVs P ρ h L rs vs → (List.mapM (rvRun a) rs).run P w = .ok vs w := by
    intro rs
    induction rs with
    | nil => intro vs hf; cases hf; rfl
    | cons r rs ih =>
      intro vs hf
      cases hf with
      | cons h1 h2 => simp [List.mapM_cons, run_rv e hm h1, ih _ h2]
  simp [List.mapM_toArray, key rs vs hl]

theorem fqm_nil {fn : Func} {tmps : Array Value} {R : Ending → World → Prop} {ds : List Deferred} {w : World} (hd : ds = []) (x : ∃ v, (results fn tmps).run P w = .ok v w ∧ R (.returned v) w) : LeavesInM (Fr none) 0 P fn tmps R ds .returning w := by
  subst hd; exact x
theorem fq_ret {fn : Func} {Post : Ending → PH → OL → Prop} {L0 L' : OL} {rs : List ResultVar} {vs : List Value} (v : Value) (hr : fn.results = rs.toArray) (hl : RVs P ρ h L rs vs)
    (hv : (if h : vs.toArray.size = 1 then vs.toArray[0] else .tuple vs.toArray) = v) (hs : List.Sublist L' L) (hf : L'.map Prod.fst = L0.map Prod.fst) (hp : Post (.returned v) h L') :
    WQ w0 (L0.map Prod.fst) h0 n (FQ P fn w0 h0 L0 Post) .ret [] ρ h L := fun a _ e s =>
  fqm_nil e.dfr ⟨v, by rw [results_run e s.mem hr hl, hv], h, L', s.drop hs, hf, hp⟩

/-- A function that writes none of its caller's blocks, and returns. -/
theorem fq_retR {fn : Func} {Post : Value → PH → Prop} {rs : List ResultVar} {vs : List Value} (v : Value) (hr : fn.results = rs.toArray) (hl : RVs P ρ h L rs vs)
    (hv : (if h : vs.toArray.size = 1 then vs.toArray[0] else .tuple vs.toArray) = v) (hp : Post v h) :
    WQ w0 [] h0 n (FQ P fn w0 h0 [] fun e h' _ => ∃ v, e = .returned v ∧ Post v h') .ret [] ρ h L :=
  fq_ret (L0 := []) (L' := []) v hr hl hv (List.nil_sublist _) rfl ⟨v, rfl, hp⟩
theorem fq_end {fn : Func} {Post : Ending → PH → OL → Prop} {L0 : OL} (x : WQ w0 (L0.map Prod.fst) h0 n (FQ P fn w0 h0 L0 Post) .ret [] ρ h L) :
    WQ w0 (L0.map Prod.fst) h0 n (FQ P fn w0 h0 L0 Post) .normal [] ρ h L := fun a w e s => x a w e s

/-- A private block is written no more: from here on it belongs to what is known. -/
theorem wq_freeze {e : Exit} {ds : List Deferred} {b : Nat} {o : Obj} {L' : OL} (hd : Del L b o L') (hb : b ∉ B) (x : ∀ h', h.le h' → h' b = some o → WQ w0 B h0 n Q e ds ρ h' L') : WQ w0 B h0 n Q e ds ρ h L := fun a w en s => by
  refine x _ (freeze_le (o := o) (s.own _ hd.mem).2.1) (by simp) a w en (s.freeze hd hb)
theorem xp_freeze {c : Code} {ds : List Deferred} {b : Nat} {o : Obj} {L' : OL} (hd : Del L b o L') (hb : b ∉ B) (x : ∀ h', h.le h' → h' b = some o → WP r P w0 B h0 n c Q ds ρ h' L') : WP r P w0 B h0 n c Q ds ρ h L := fun a w en s => by
  refine x _ (freeze_le (o := o) (s.own _ hd.mem).2.1) (by simp) a w en (s.freeze hd hb)
theorem wl_freeze {ops : Array Oper} {l : List Oper} {ds : List Deferred} {b : Nat} {o : Obj} {L' : OL} (hd : Del L b o L') (hb : b ∉ B) (x : ∀ h', h.le h' → h' b = some o → WL r P w0 B h0 n ops l Q ds ρ h' L') : WL r P w0 B h0 n ops l Q ds ρ h L := fun a w en s => by
  refine x _ (freeze_le (o := o) (s.own _ hd.mem).2.1) (by simp) a w en (s.freeze hd hb)
end
end Go.Sx
