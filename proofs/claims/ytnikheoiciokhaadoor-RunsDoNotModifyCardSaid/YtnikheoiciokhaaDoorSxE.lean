/-
  THE LAYER, SEVENTH PART (own work): == on structs and arrays of words; strings.
-/
import Derived.Test.YtnikheoiciokhaaDoorSxP
import Derived.Laws.StructEq
namespace Go.Sx
open Go
set_option linter.unusedVariables false
set_option linter.unusedSimpArgs false

/-- In every world the two values compare so. -/
def EqR (P : Program) (d : Nat) (t : TypeId) (x y : Value) (b : Bool) : Prop := ∀ w, (Op.equalIn d t x y).run P w = .ok b w
def PartR (P : Program) (t : TypeId) (cs : Array Value) (off : Nat) (v : Value) : Prop := ∀ w, (part t cs off).run P w = .ok v w

/-- The fields of a struct type that == can take: their types and offsets. -/
def structB (P : Program) (t : TypeId) (l : List (Nat × Nat)) : Bool :=
  match P.underlying t with
  | some (.struct fs) => (fs.toList.map fun f => (f.name != "_", f.type, f.offset)) == (l.map fun p => (true, p.1, p.2))
  | _ => false
def plainEqB (P : Program) (t : TypeId) : Bool := !P.stoodInHeld t && !P.eqGuardType P.depth t

section
variable {P : Program}
theorem part_s {t : TypeId} {cs : Array Value} {off : Nat} {v : Value} (ht : scalarB P t = true) (hv : cs[off]? = some v) : PartR P t cs off v := fun w => by
  simp [part, run_isAgg_scalar ht, hv]
theorem part_a {t : TypeId} {n : Nat} {cs c : Array Value} {off : Nat} (ht : aggB P t n = true) (hv : cs.extract off (off + n) = c) : PartR P t cs off (.agg c) := fun w => by
  simp [part, run_isAgg_agg ht, run_sizeOf_agg ht, hv]

theorem eq_int {d : Nat} {t : TypeId} {k k' : IntKind} {a b : Int} (ht : P.underlying t = some (.int k')) : EqR P (d + 1) t (.int k a) (.int k b) (decide (a = b)) := fun w => by
  rw [run_equalIn_int w d t k k' a b ht]; rfl
theorem eq_bool {d : Nat} {t : TypeId} {a b : Bool} (ht : P.underlying t = some .bool) : EqR P (d + 1) t (.bool a) (.bool b) (a == b) := fun w => run_equalIn_bool' w d t a b ht
theorem EqR.as {d : Nat} {t : TypeId} {x y : Value} {b b' : Bool} (x' : EqR P d t x y b) (e : b = b') : EqR P d t x y b' := e ▸ x'

/-- An array of words. -/
theorem eq_words {d n : Nat} {t e : TypeId} {xs ys : Array Value} {f g : Nat → BitVec 32} (ht : P.underlying t = some (.array n e)) (he : P.underlying e = some (.int .u32)) (hs : scalarB P e = true)
    (hx : ∀ i, i < n → xs[i]? = some (u32 (f i))) (hy : ∀ i, i < n → ys[i]? = some (u32 (g i))) : EqR P (d + 2) t (.agg xs) (.agg ys) (decide (∀ i, i < n → f i = g i)) := fun w => by
  have hpart : ∀ (cs : Array Value) (i : Nat) (v : Value), cs[i]? = some v → (part e cs i).run P w = .ok v w := fun cs i v hv => part_s hs hv w
  have hone : ∀ i, i < n → (Op.equalIn (d + 1) e (u32 (f i)) (u32 (g i))).run P w = .ok (decide (f i = g i)) w := fun i _ => by
    rw [run_equalIn_int w d e .u32 .u32 _ _ he]
    congr 1
    rw [Bool.eq_iff_iff]
    simp [BitVec.toNat_eq]
    exact Int.ofNat_inj
  rw [Op.equalIn]
  simp only [Sem.run_bind, run_underlying ht, Result.andThen_ok, run_sizeOf_scalar hs, Nat.mul_one]
  rw [Std.Legacy.Range.forIn_eq_forIn_range']
  simp only [Std.Legacy.Range.size, Nat.sub_zero, Nat.add_sub_cancel, Nat.div_one]
  have key : ∀ (m s : Nat), s + m = n → (∀ i, i < s → f i = g i) →
      ((forIn (List.range' s m 1) ((none, ()) : Option Bool × Unit) fun i r => (do
          let __do_lift ← part e xs i
          let __do_lift_1 ← part e ys i
          let __do_lift ← Op.equalIn (d + 1) e __do_lift __do_lift_1
          if (!__do_lift) = true then pure (ForInStep.done (some false, ())) else do pure PUnit.unit; pure (ForInStep.yield (none, ())) : Sem (ForInStep (Option Bool × Unit)))) : Sem (Option Bool × Unit)).run P w =
      .ok (if (∀ i, i < n → f i = g i) then (none, ()) else (some false, ())) w := by
    intro m
    induction m with
    | zero =>
      intro s hsn hall
      have h2 : ∀ i, i < n → f i = g i := fun i hi => hall i (by omega)
      rw [if_pos h2]
      rfl
    | succ m ih =>
      intro s hsn hall
      have hsl : s < n := by omega
      simp only [List.range'_succ, List.forIn_cons, Sem.run_bind, hpart _ _ _ (hx s hsl), hpart _ _ _ (hy s hsl), hone s hsl, Result.andThen_ok]
      by_cases hfg : f s = g s
      · simp only [hfg, decide_true, Bool.not_true, Bool.false_eq_true, if_false, Sem.run_bind, Sem.run_pure, Result.andThen_ok]
        refine ih (s + 1) (by omega) fun i hi => ?_
        by_cases h : i = s
        · subst h; exact hfg
        · exact hall i (by omega)
      · have hno : ¬ ∀ i, i < n → f i = g i := fun hh => hfg (hh s hsl)
        simp only [hfg, decide_false, Bool.not_false, if_true, Sem.run_pure, Result.andThen_ok, hno, if_false]
  have := key n 0 (by omega) (by intro i hi; omega)
  rw [this]
  by_cases hall : ∀ i, i < n → f i = g i
  · rw [if_pos hall, decide_eq_true hall]; rfl
  · rw [if_neg hall, decide_eq_false hall]; rfl

/-- The parts of a struct one by one. -/
def EqF (P : Program) (d : Nat) (xs ys : Array Value) (l : List (Nat × Nat)) (b : Bool) : Prop :=
  ∀ w (fs : List Field), (fs.map fun f => (f.name != "_", f.type, f.offset)) = (l.map fun p => (true, p.1, p.2)) → (Op.eqFields d xs ys fs).run P w = .ok b w
theorem eqf_nil {d : Nat} {xs ys : Array Value} : EqF P d xs ys [] true := fun w fs hf => by
  cases fs with
  | nil => rfl
  | cons => simp at hf
theorem eqf_cons {d : Nat} {xs ys : Array Value} {T off : Nat} {l : List (Nat × Nat)} {a b : Value} {r r' : Bool} (ha : PartR P T xs off a) (hb : PartR P T ys off b) (he : EqR P d T a b r) (hl : EqF P d xs ys l r') :
    EqF P d xs ys ((T, off) :: l) (r && r') := fun w fs hf => by
  cases fs with
  | nil => simp at hf
  | cons f fs =>
    simp only [List.map_cons, List.cons.injEq, Prod.mk.injEq] at hf
    obtain ⟨⟨h1, h2, h3⟩, h4⟩ := hf
    have h1' : f.name ≠ "_" := by simpa using h1
    subst h2; subst h3
    simp only [Op.eqFields, h1', ne_eq, not_false_eq_true, if_true, Sem.run_bind, ha w, hb w, he w, Result.andThen_ok]
    cases r
    · simp
    · simpa using hl w fs h4
theorem eq_struct {d : Nat} {t : TypeId} {xs ys : Array Value} {l : List (Nat × Nat)} {b : Bool} (hs : structB P t l = true) (hp : plainEqB P t = true) (x : EqF P d xs ys l b) : EqR P (d + 1) t (.agg xs) (.agg ys) b := fun w => by
  simp only [plainEqB, Bool.and_eq_true, Bool.not_eq_true'] at hp
  unfold structB at hs
  cases hu : P.underlying t with
  | none => rw [hu] at hs; cases hs
  | some dd =>
    rw [hu] at hs
    cases dd with
    | struct fs =>
      have hfs : P.fieldsOf t = fs := by simp [Program.fieldsOf, hu]
      rw [run_equalIn_struct w d t xs ys (by rw [hfs]; exact hu) hp.1, hfs]
      exact x w _ (eq_of_beq hs)
    | _ => cases hs

section
variable {ρ : Nat → Value} {h : PH} {L : OL} {d : Option Tmp} {ty : TypeId} {pos : String} {af : Array Edge} {g : Option (Nat × Bool)}
theorem roa_eql {x y : Operand} {T T' : TypeId} {xs ys : Array Value} {b : Bool} (hp : plainEqB P T = true) (he : EqR P 10000 T (.agg xs) (.agg ys) b) (hx : ev ρ x = .agg xs) (hy : ev ρ y = .agg ys) :
    RO P ρ h L ⟨d, .binOp .eql T x y T', ty, pos, af, g⟩ (.bool b) := fun w _ => by
  simp only [plainEqB, Bool.and_eq_true, Bool.not_eq_true'] at hp
  simp [execOp, hx, hy, run_eqGuard_agg w .eql T x y xs ys hp.2, run_eql_struct, he w]
theorem roa_neq {x y : Operand} {T T' : TypeId} {xs ys : Array Value} {b : Bool} (hp : plainEqB P T = true) (he : EqR P 10000 T (.agg xs) (.agg ys) b) (hx : ev ρ x = .agg xs) (hy : ev ρ y = .agg ys) :
    RO P ρ h L ⟨d, .binOp .neq T x y T', ty, pos, af, g⟩ (.bool (!b)) := fun w _ => by
  simp only [plainEqB, Bool.and_eq_true, Bool.not_eq_true'] at hp
  simp [execOp, hx, hy, run_eqGuard_agg w .neq T x y xs ys hp.2, run_neq_struct, he w]

/-! ### Strings -/
theorem beq_lists (a b : ByteArray) : (a.toList == b.toList) = decide (a = b) := by
  rw [Bool.eq_iff_iff, ByteArray.toList_eq, ByteArray.toList_eq]
  obtain ⟨⟨x⟩⟩ := a
  obtain ⟨⟨y⟩⟩ := b
  simp
theorem ros_eql {x y : Operand} {T T' : TypeId} {a b : ByteArray} (hx : ev ρ x = .string a) (hy : ev ρ y = .string b) : RO P ρ h L ⟨d, .binOp .eql T x y T', ty, pos, af, g⟩ (.bool (decide (a = b))) := fun w _ => by
  have : (a.toList == b.toList) = decide (a = b) := by
    exact beq_lists a b
  simp [execOp, hx, hy, eqGuard, binOp_string_eql, this]
theorem ros_neq {x y : Operand} {T T' : TypeId} {a b : ByteArray} (hx : ev ρ x = .string a) (hy : ev ρ y = .string b) : RO P ρ h L ⟨d, .binOp .neq T x y T', ty, pos, af, g⟩ (.bool (!decide (a = b))) := fun w _ => by
  have : (a.toList == b.toList) = decide (a = b) := by
    exact beq_lists a b
  simp [execOp, hx, hy, eqGuard, binOp_string_neq, this]
end
end
end Go.Sx
