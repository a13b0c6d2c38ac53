/-
  THE LAYER, FIFTH PART (own work): maps with integer keys; tables; value contracts under a condition on what is known; cuts that leave memory alone.
-/
import Derived.Test.YtnikheoiciokhaaDoorSxD
namespace Go.Sx
open Go
set_option linter.unusedVariables false

/-- A map type whose keys are integers of a kind. -/
def mapB (P : Program) (t : TypeId) (k : IntKind) (z : Option Value) : Bool :=
  match P.underlying t with
  | some (.map key elem) => (match P.underlying key with | some (.int k') => k' == k | _ => false) && (match P.info? elem with | some i => i.zero.isSome == z.isSome | none => false)
  | _ => false

/-- The entry of an integer key among entries. -/
def findI (k : IntKind) (n : Int) : List MapEntry → Nat → Option (Nat × Value)
  | [], _ => none
  | e :: es, i => match e.key with
    | .int _ m => bif decide (n = m) then some (i, e.val) else findI k n es (i + 1)
    | _ => findI k n es (i + 1)

def keysB (k : IntKind) (es : List MapEntry) : Bool := es.all fun e => match e.key with | .int k' _ => k' == k | _ => false

theorem findNow_int (k kk : IntKind) (n : Int) : ∀ (es : List MapEntry) (i : Nat), keysB k es = true → Instr.findNow (.int kk) (.int k n) es i = some (findI k n es i) := by
  intro es
  induction es with
  | nil => intro i _; rfl
  | cons e es ih =>
    intro i hk
    simp only [keysB, List.all_cons, Bool.and_eq_true] at hk
    obtain ⟨h1, h2⟩ := hk
    unfold Instr.findNow findI
    cases hek : e.key with
    | int k' m =>
      rw [hek] at h1
      have hkk : k = k' := (eq_of_beq h1).symm
      subst hkk
      simp only [Instr.sameNow, if_true]
      by_cases hnm : n = m
      · subst hnm; simp
      · simp only [hnm, decide_false, cond_false]
        rw [show (n == m) = false by simpa using hnm]
        exact ih _ h2
    | _ => rw [hek] at h1; cases h1

section
variable {r : Option Nat} {P : Program} {w0 : World} {B : List Nat} {h0 : PH} {n : Nat} {Q : Exit → Act → World → Prop} {ds : List Deferred} {ρ : Nat → Value} {h : PH} {L : OL} {d : Option Tmp} {ty : TypeId} {pos : String} {af : Array Edge} {g : Option (Nat × Bool)} {K : Value → PH → OL → Prop}

theorem so_makeMap {T : TypeId} (hk : ∀ b, K (.map (some b)) h ((b, .map #[] 0) :: L)) : SO P w0 B h0 ρ h L ⟨d, .makeMap T none, ty, pos, af, g⟩ K := fun w s => by
  have : (execOp (ev ρ) ⟨d, .makeMap T none, ty, pos, af, g⟩).run P w = .ok (.value (.map (some w.heap.size))) (w.alloc (.map #[] 0)) := by
    simp [execOp, Instr.makeMap]
  rw [this]
  exact ⟨_, _, hk _, s.alloc _⟩

/-- The key type's underlying description, for a map type. -/
def mapK (P : Program) (t : TypeId) (k : IntKind) : Bool :=
  match P.underlying t with
  | some (.map key _) => (match P.underlying key with | some (.int k') => k' == k | _ => false)
  | _ => false
theorem mapK_out {t : TypeId} {k : IntKind} (ht : mapK P t k = true) : ∃ key elem, P.underlying t = some (.map key elem) ∧ P.underlying key = some (.int k) := by
  unfold mapK at ht
  cases hu : P.underlying t with
  | none => rw [hu] at ht; cases ht
  | some dd =>
    rw [hu] at ht
    cases dd <;> simp at ht
    rename_i key elem
    cases hk : P.underlying key with
    | none => rw [hk] at ht; cases ht
    | some dk =>
      rw [hk] at ht
      cases dk <;> simp at ht
      subst ht
      exact ⟨key, elem, rfl, hk⟩

theorem run_checkKey {key : TypeId} {k : IntKind} (hk : P.underlying key = some (.int k)) (e : Bool) (v : Int) (w : World) : (Instr.checkKey e 10000 key (.int k v)).run P w = .ok () w := by
  show (Instr.checkKey e (9999 + 1) key (.int k v)).run P w = _
  unfold Instr.checkKey
  simp [run_underlying hk]

theorem run_findKey {key : TypeId} {k : IntKind} (hk : P.underlying key = some (.int k)) (v : Int) (es : List MapEntry) (hes : keysB k es = true) (w : World) : (Instr.findKey key (.int k v) es).run P w = .ok (findI k v es 0) w := by
  unfold Instr.findKey
  simp [run_underlying hk, findNow_int k k v es 0 hes]

theorem so_insert {T : TypeId} {m x y : Operand} {k : IntKind} {v : Int} {b : Nat} {es es' : Array MapEntry} {clock : Nat} {f : Obj → OL} (ht : mapK P T k = true) (hm : ev ρ m = .map (some b)) (hx : ev ρ x = .int k v)
    (hs : Sel L b (.map es clock) f) (hks : keysB k es.toList = true) (hf : findI k v es.toList 0 = none) (he : es.push { key := .int k v, val := ev ρ y, born := clock } = es') (hK : K undef h (f (.map es' (clock + 1)))) :
    SO P w0 B h0 ρ h L ⟨d, .insert T m x y, ty, pos, af, g⟩ K := fun w s => by
  obtain ⟨key, elem, hu, hk⟩ := mapK_out ht
  have hb := mem_sel s.mem hs
  have : (execOp (ev ρ) ⟨d, .insert T m x y, ty, pos, af, g⟩).run P w = .ok .skip { w with heap := w.heap.setIfInBounds b (.map es' (clock + 1)) } := by
    simp only [execOp, hm, hx, Instr.mapUpdate, Sem.run_bind, run_underlying hu, Result.andThen_ok, getObj, Sem.run, hb, run_checkKey hk, run_findKey hk v _ hks, hf, setObj, Sem.run_pure, he]
  rw [this]
  refine ⟨_, _, hK, s.put hs rfl rfl rfl (by simp) ?_ fun k hne => ?_⟩
  · simp [lt_of_some hb]
  · show (w.heap.setIfInBounds b _)[k]? = _
    rw [Array.getElem?_setIfInBounds_ne (Ne.symm hne)]

/-- What a look-up hands back. -/
@[reducible] def lookI (k : IntKind) (v : Int) (es : List MapEntry) (z : Value) : Value × Bool := match findI k v es 0 with | some p => (p.2, true) | none => (z, false)

def mapE (P : Program) (t : TypeId) (z : Value) : Prop := ∃ key elem, P.underlying t = some (.map key elem) ∧ zeroOf P elem = some z

theorem ro_lookup {T : TypeId} {m x : Operand} {k : IntKind} {v : Int} {b : Nat} {es : Array MapEntry} {clock : Nat} {z : Value} (ht : mapK P T k = true) (hz : mapE P T z) (hm : ev ρ m = .map (some b)) (hx : ev ρ x = .int k v)
    (hb : h b = some (.map es clock)) (hks : keysB k es.toList = true) : RO P ρ h L ⟨d, .lookup T m x true, ty, pos, af, g⟩ (.tuple #[(lookI k v es.toList z).1, .bool (lookI k v es.toList z).2]) := fun w hmem => by
  obtain ⟨key, elem, hu, hk⟩ := mapK_out ht
  obtain ⟨key', elem', hu', hz'⟩ := hz
  rw [hu] at hu'
  cases hu'
  have hb' := hmem.1 _ _ hb
  simp only [execOp, hm, hx, Instr.lookup, Sem.run_bind, run_underlying hu, Result.andThen_ok, getObj, Sem.run, hb', run_checkKey hk, run_findKey hk v _ hks, Sem.run_pure]
  unfold lookI
  cases findI k v es.toList 0 with
  | none => simp [run_zeroValue hz']
  | some p => simp
theorem ro_lookupO {T : TypeId} {m x : Operand} {k : IntKind} {v : Int} {b : Nat} {es : Array MapEntry} {clock : Nat} {z : Value} {f : Obj → OL} (ht : mapK P T k = true) (hz : mapE P T z) (hm : ev ρ m = .map (some b)) (hx : ev ρ x = .int k v)
    (hs : Sel L b (.map es clock) f) (hks : keysB k es.toList = true) : RO P ρ h L ⟨d, .lookup T m x true, ty, pos, af, g⟩ (.tuple #[(lookI k v es.toList z).1, .bool (lookI k v es.toList z).2]) := fun w hmem => by
  obtain ⟨key, elem, hu, hk⟩ := mapK_out ht
  obtain ⟨key', elem', hu', hz'⟩ := hz
  rw [hu] at hu'
  cases hu'
  have hb' := mem_sel hmem hs
  simp only [execOp, hm, hx, Instr.lookup, Sem.run_bind, run_underlying hu, Result.andThen_ok, getObj, Sem.run, hb', run_checkKey hk, run_findKey hk v _ hks, Sem.run_pure]
  unfold lookI
  cases findI k v es.toList 0 with
  | none => simp [run_zeroValue hz']
  | some p => simp

/-! ### Value contracts under a condition on what is known -/

def CtW (T : PH → Prop) (P : Program) (f : FuncId) (l : List Value) (v : Value) : Prop := ∀ h, T h → CtR P f l.toArray h fun u h' => u = v ∧ h' = h
theorem so_callW {T : PH → Prop} {f : FuncId} {l : List Operand} {ts : Array TypeId} {vs : List Value} {v : Value} (hp : CtW T P f vs v) (hT : T h) (hf : goB P f = true) (hv : l.map (ev ρ) = vs)
    (hK : K v h L) : SO P w0 B h0 ρ h L ⟨d, .call ⟨.value (.func f), l.toArray, ts⟩, ty, pos, af, g⟩ K :=
  so_call hf (by rw [← hv]; simp) (hp h hT) fun u h' _ ⟨e1, e2⟩ => by subst e1; subst e2; exact hK
theorem so_callFW {T : PH → Prop} {x : Operand} {f : FuncId} {l : List Operand} {ts : Array TypeId} {vs : List Value} {v : Value} (hx : ev ρ x = .func (.func f) #[] #[]) (hp : CtW T P f vs v) (hT : T h) (hf : goB P f = true) (hv : l.map (ev ρ) = vs)
    (hK : K v h L) : SO P w0 B h0 ρ h L ⟨d, .call ⟨.value x, l.toArray, ts⟩, ty, pos, af, g⟩ K :=
  so_callF hx hf (by rw [← hv]; simp) (hp h hT) fun u h' _ ⟨e1, e2⟩ => by subst e1; subst e2; exact hK

/-- A cut that leaves memory alone. -/
theorem xp_cutP {A : Type} {x y : Code} (ws : List Nat) (vals : A → List (Nat × Value)) (J : A → Prop)
    (hx : WP r P w0 B h0 n x (CutQ w0 B h0 n ds (fun ρ' h' L' => ∃ (x : A) (us : Nat → Value), ρ' = upds (vals x) (ovr ws us ρ) ∧ J x ∧ h' = h ∧ L' = L) Q) ds ρ h L)
    (hy : ∀ z us, J z → WP r P w0 B h0 n y Q ds (upds (vals z) (ovr ws us ρ)) h L) : WP r P w0 B h0 n (.seq x y) Q ds ρ h L :=
  xp_cut _ hx fun ρ' h' L' ⟨z, us, hρ, hJ, e1, e2⟩ => by subst hρ; subst e1; subst e2; exact hy z us hJ
theorem wq_cutP {A : Type} {ws : List Nat} {vals : A → List (Nat × Value)} {J : A → Prop} {ρ' : Nat → Value} (x : A) (ho : Out ws ρ' ρ) (hs : Slots (vals x) ρ') (hJ : J x) :
    WQ w0 B h0 n (CutQ w0 B h0 n ds (fun ρ' h' L' => ∃ (x : A) (us : Nat → Value), ρ' = upds (vals x) (ovr ws us ρ) ∧ J x ∧ h' = h ∧ L' = L) Q) .normal ds ρ' h L :=
  wq_cut ⟨x, ρ', by rw [ovr_self ho, upds_self hs], hJ, rfl, rfl⟩
theorem slot_b {ρ : Nat → Value} {t : Nat} {a b : Bool} (hx : ρ t = .bool a) (e : a = b) : ρ t = .bool b := e ▸ hx
theorem slot_i {ρ : Nat → Value} {t : Nat} {a b : Int} (hx : ρ t = int a) (e : a = b) : ρ t = int b := e ▸ hx
theorem slot_32 {ρ : Nat → Value} {t : Nat} {a b : BitVec 32} (hx : ρ t = u32 a) (e : a = b) : ρ t = u32 b := e ▸ hx
theorem slot_64 {ρ : Nat → Value} {t : Nat} {a b : BitVec 64} (hx : ρ t = u64 a) (e : a = b) : ρ t = u64 b := e ▸ hx

/-! ### Tables in memory that is known -/
/-- A table of one-cell elements. -/
def TabI (h : PH) (b len : Nat) (f : Nat → Int) : Prop := ∃ c E fr, h b = some (.cells c E fr) ∧ ∀ i, i < len → c[0 + i]? = some (int (f i))
theorem TabI.mono {h k : PH} {b len : Nat} {f : Nat → Int} (x : TabI h b len f) (hk : h.le k) : TabI k b len f := by
  obtain ⟨c, E, fr, h1, h2⟩ := x; exact ⟨c, E, fr, hk _ _ h1, h2⟩
theorem ro_tabI {T : TypeId} {x : Operand} {b len i : Nat} {f : Nat → Int} (ht : scalarB P T = true) (hx : ev ρ x = .pointer (some ⟨b, 0 + i, none⟩)) (tb : TabI h b len f) (hi : i < len) : RO P ρ h L ⟨d, .load T x, ty, pos, af, g⟩ (int (f i)) := by
  obtain ⟨c, E, fr, h1, h2⟩ := tb
  exact ro_loadH ht hx h1 (h2 i hi)
/-- The zero trap. -/
def TabT (h : PH) (b : Nat) : Prop := ∃ c E fr, h b = some (.cells c E fr) ∧ 2 ≤ c.size ∧ c.extract 0 (0 + 2) = encTrap Trap.zero
theorem TabT.mono {h k : PH} {b : Nat} (x : TabT h b) (hk : h.le k) : TabT k b := by
  obtain ⟨c, E, fr, h1, h2⟩ := x; exact ⟨c, E, fr, hk _ _ h1, h2⟩
theorem ro_tabT {T : TypeId} {x : Operand} {b : Nat} (ht : aggB P T 2 = true) (hx : ev ρ x = .pointer (some ⟨b, 0, none⟩)) (tb : TabT h b) : RO P ρ h L ⟨d, .load T x, ty, pos, af, g⟩ (.agg (encTrap Trap.zero)) := by
  obtain ⟨c, E, fr, h1, h2, h3⟩ := tb
  exact ro_loadHA ht hx h1 (by simpa [Nat.ble_eq] using h2) h3
/-- A table of rows of 'Has'. -/
def TabH (h : PH) (b len : Nat) (f : Nat → Has) : Prop := ∃ c E fr, h b = some (.cells c E fr) ∧ ∀ i, i < len → 0 + i * 5 + 5 ≤ c.size ∧ c.extract (0 + i * 5) (0 + i * 5 + 5) = encHas (f i)
theorem TabH.mono {h k : PH} {b len : Nat} {f : Nat → Has} (x : TabH h b len f) (hk : h.le k) : TabH k b len f := by
  obtain ⟨c, E, fr, h1, h2⟩ := x; exact ⟨c, E, fr, hk _ _ h1, h2⟩
theorem ro_tabH {T : TypeId} {x : Operand} {b len i : Nat} {f : Nat → Has} (ht : aggB P T 5 = true) (hx : ev ρ x = .pointer (some ⟨b, 0 + i * 5, none⟩)) (tb : TabH h b len f) (hi : i < len) : RO P ρ h L ⟨d, .load T x, ty, pos, af, g⟩ (.agg (encHas (f i))) := by
  obtain ⟨c, E, fr, h1, h2⟩ := tb
  obtain ⟨h3, h4⟩ := h2 i hi
  exact ro_loadHA ht hx h1 (by simpa [Nat.ble_eq] using h3) h4
theorem ro_tabH_rb {T : TypeId} {x : Operand} {b len i : Nat} {f : Nat → Has} (ht : scalarB P T = true) (hx : ev ρ x = .pointer (some ⟨b, 0 + i * 5 + 2, none⟩)) (tb : TabH h b len f) (hi : i < len) : RO P ρ h L ⟨d, .load T x, ty, pos, af, g⟩ (.bool (f i).rb) := by
  obtain ⟨c, E, fr, h1, h2⟩ := tb
  obtain ⟨h3, h4⟩ := h2 i hi
  refine ro_loadH ht hx h1 ?_
  have h5 : (c.extract (0 + i * 5) (0 + i * 5 + 5))[2]? = some (.bool (f i).rb) := by rw [h4]; rfl
  rw [Array.getElem?_extract] at h5
  simp only [Nat.zero_add] at h5 ⊢
  split at h5
  · exact h5
  · cases h5
end
end Go.Sx
