/-
  THE LAYER, TENTH PART (own work): from a walk's contract to a row: what arguments look like, and how a law's row is closed.
-/
import Derived.Test.YtnikheoiciokhaaDoorSxQ
import Derived.ProofKit
import Derived.LaidMore
import Derived.OpenShut
import Derived.Carry
namespace Go.Sx
open Go Go.RowKit Go.ChangeShapes
set_option linter.unusedVariables false

section
variable {H : Type} {enc : TypeId × Value → H} {P : Program} {W W' : World}

theorem trodAll_below (hl : laidOutB P = true) (hb : Below W.heap.size W W') : ∀ (ts : List TypeId) (vs : List Value) (ds : List (DataW H)) (ps : List MemPlace), (ts.all fun t => P.readableRec t && decide (t < P.types.size)) = true →
    DataW.TrodAll enc P W 0 (fun _ => true) true ts vs ds ps → (∀ x ∈ ps, x.block < W.heap.size) → DataW.TrodAll enc P W' 0 (fun b => decide (b < W.heap.size)) true ts vs ds ps
  | [], [], [], _, _, h, _ => h
  | t :: ts, v :: vs, d :: ds, ps, ht, h, hlt => by
    obtain ⟨p, q, h1, h2, rfl⟩ := h
    simp only [List.all_cons, Bool.and_eq_true, decide_eq_true_eq] at ht
    exact ⟨p, q, Below.trod hl ht.1.1 ht.1.2 h1 hb (fun x hx => hlt x (List.mem_append_left _ hx)), trodAll_below hl hb ts vs ds q ht.2 h2 (fun x hx => hlt x (List.mem_append_right _ hx)), rfl⟩
  | [], _ :: _, _, _, _, h, _ => by simp [DataW.TrodAll] at h
  | [], [], _ :: _, _, _, h, _ => by simp [DataW.TrodAll] at h
  | _ :: _, [], _, _, _, h, _ => by simp [DataW.TrodAll] at h
  | _ :: _, _ :: _, [], _, _, h, _ => by simp [DataW.TrodAll] at h

theorem trodAll_five {base : Nat} {sp : Nat → Bool} {held : Bool} {t t' t'' t3 t4 : TypeId} {args : Array Value} {ds : List (DataW H)} {ps : List MemPlace} (h : DataW.TrodAll enc P W base sp held [t, t', t'', t3, t4] args.toList ds ps) :
    ∃ v v' v'' v3 v4 d d' d'' d3 d4 p p' p'' p3 p4, args = #[v, v', v'', v3, v4] ∧ ds = [d, d', d'', d3, d4] ∧ DataW.Trod enc P W base sp held t v d p ∧ DataW.Trod enc P W base sp held t' v' d' p' ∧ DataW.Trod enc P W base sp held t'' v'' d'' p'' ∧ DataW.Trod enc P W base sp held t3 v3 d3 p3 ∧ DataW.Trod enc P W base sp held t4 v4 d4 p4 := by
  obtain ⟨v, vs, d, ds', p, q, hargs, rfl, rfl, hd, hrest⟩ := trodAll_cons h
  obtain ⟨v', vs', d', ds'', p', q', rfl, rfl, rfl, hd', hrest'⟩ := trodAll_cons hrest
  obtain ⟨v'', vs'', d'', ds''', p'', q'', rfl, rfl, rfl, hd'', hrest''⟩ := trodAll_cons hrest'
  obtain ⟨v3, vs3, d3, ds3, p3, q3, rfl, rfl, rfl, hd3, hrest3⟩ := trodAll_cons hrest''
  obtain ⟨v4, vs4, d4, ds4, p4, q4, rfl, rfl, rfl, hd4, hrest4⟩ := trodAll_cons hrest3
  obtain ⟨rfl, rfl, rfl⟩ := trodAll_nil hrest4
  exact ⟨v, v', v'', v3, v4, d, d', d'', d3, d4, p, p', p'', p3, p4, by cases args; simp_all, rfl, hd, hd', hd'', hd3, hd4⟩

/-- A law's row: true, and nothing that was there has turned. -/
theorem post_true {f : Func} {s : ChangeSpec} {args : Array Value} {ds gs : List (DataW H)} {before : List MemPlace} {tb : TypeId} (hl : laidOutB P = true)
    (hW : DataW.Whole enc P f.params.toList s.vars false W args.toList ds gs before) (hs : s.vars = [])
    (hfn : s.fn H (ds ++ gs) = { results := [.lit (.bool true)], args := ds }) (hr : f.resultTypes = #[tb]) (hu : P.underlying tb = some .bool)
    (hp : (f.params.toList.all fun t => P.readableRec t && decide (t < P.types.size)) = true) (hb : Below W.heap.size W W') : s.post enc P f false true false false W args (.bool true) W' := by
  have hlt := hW.lt
  have hW' := hW
  obtain ⟨p, q, hA, hV, rfl, hfz, hnd⟩ := hW
  rw [hs] at hV
  have hq : q = [] := by
    cases gs with
    | nil => exact hV
    | cons => simp [DataW.TrodVars] at hV
  subst hq
  refine ⟨ds, gs, _, [], p, [], hW', ?_, ?_, ?_, hb.frame _, fun h => by cases h⟩
  · rw [hfn, hr]
    exact trodAll_mk1 (shut_bool hu _)
  · rw [hfn]
    exact trodAll_below hl hb _ _ _ _ hp hA (fun x hx => by simpa using hlt x (by simpa using hx))
  · rw [hfn, hs]
    rfl

/-- What a call without a block of its caller's leaves. -/
theorem St.below {h h' : PH} {L : OL} (s : St W [] h h' L W') : Below W.heap.size W W' := ⟨s.os, s.tape, s.output, s.sz, fun k hk => s.old k hk (by simp)⟩

/-- All that is there when the call begins is known. -/
def heapH (w : World) : PH := fun b => w.heap[b]?
theorem heapH_inn (w : World) : (heapH w).inn w := fun _ _ h => h

/-! ### What arguments look like -/
variable {base : Nat} {sp : Nat → Bool} {held : Bool} {fuel : Nat} {t : TypeId} {cs : List Value} {x : DataW H × List MemPlace}

theorem tr_u32 (ht : P.underlying t = some (.int .u32)) (h : DataW.trod enc P W base sp held fuel t cs = some x) : ∃ a : BitVec 32, cs = [u32 a] := by
  obtain ⟨n, rfl, _, hw⟩ := DataW.trod_int ht h
  simp only [Lit.wf, Bool.and_eq_true, decide_eq_true_eq] at hw
  have h1 : (IntKind.u32).min = 0 := rfl
  have h2 : (IntKind.u32).max = 4294967295 := rfl
  refine ⟨BitVec.ofNat 32 n.toNat, ?_⟩
  congr 2
  rw [BitVec.toNat_ofNat]
  omega
theorem tr_u64 (ht : P.underlying t = some (.int .u64)) (h : DataW.trod enc P W base sp held fuel t cs = some x) : ∃ a : BitVec 64, cs = [u64 a] := by
  obtain ⟨n, rfl, _, hw⟩ := DataW.trod_int ht h
  simp only [Lit.wf, Bool.and_eq_true, decide_eq_true_eq] at hw
  have h1 : (IntKind.u64).min = 0 := rfl
  have h2 : (IntKind.u64).max = 18446744073709551615 := rfl
  refine ⟨BitVec.ofNat 64 n.toNat, ?_⟩
  congr 2
  rw [BitVec.toNat_ofNat]
  omega
theorem tr_u8 (ht : P.underlying t = some (.int .u8)) (h : DataW.trod enc P W base sp held fuel t cs = some x) : ∃ a : BitVec 8, cs = [u8 a] := by
  obtain ⟨n, rfl, _, hw⟩ := DataW.trod_int ht h
  simp only [Lit.wf, Bool.and_eq_true, decide_eq_true_eq] at hw
  have h1 : (IntKind.u8).min = 0 := rfl
  have h2 : (IntKind.u8).max = 255 := rfl
  refine ⟨BitVec.ofNat 8 n.toNat, ?_⟩
  congr 2
  rw [BitVec.toNat_ofNat]
  omega
theorem tr_int (ht : P.underlying t = some (.int .i64)) (h : DataW.trod enc P W base sp held fuel t cs = some x) : ∃ a : Int, cs = [int a] ∧ -9223372036854775808 ≤ a ∧ a ≤ 9223372036854775807 := by
  obtain ⟨n, rfl, _, hw⟩ := DataW.trod_int ht h
  simp only [Lit.wf, Bool.and_eq_true, decide_eq_true_eq] at hw
  have h1 : (IntKind.i64).min = -9223372036854775808 := rfl
  have h2 : (IntKind.i64).max = 9223372036854775807 := rfl
  exact ⟨n, rfl, by omega, by omega⟩
theorem tr_bool (ht : P.underlying t = some .bool) (h : DataW.trod enc P W base sp held fuel t cs = some x) : ∃ a : Bool, cs = [.bool a] := by
  obtain ⟨n, rfl, _⟩ := DataW.trod_bool ht h
  exact ⟨n, rfl⟩
theorem tr_string (ht : P.underlying t = some .string) (h : DataW.trod enc P W base sp held fuel t cs = some x) : ∃ a : ByteArray, cs = [.string a] := by
  obtain ⟨n, rfl, _⟩ := DataW.trod_string ht h
  exact ⟨n, rfl⟩
/-- An array of words. -/
theorem tr_words {n : Nat} {e : TypeId} (ht : P.underlying t = some (.array n e)) (he : P.underlying e = some (.int .u32)) (hc : P.cellsOf e = 1) (hn : P.cellsOf t = n) (h : DataW.trod enc P W base sp held fuel t cs = some x) :
    ∃ r : Vector (BitVec 32) n, cs.length = n ∧ ∀ i, i < n → cs[i]? = some (u32 (rget r i)) := by
  obtain ⟨xs, m, _, _, hlen, hxs, hel⟩ := DataW.trod_array ht h
  have key : ∀ i, i < n → ∃ a : BitVec 32, cs[i]? = some (u32 a) := by
    intro i hi
    have hx := hel i hi
    have hlt : i < xs.length := by omega
    rw [List.getElem?_eq_getElem hlt, hc, Nat.mul_one] at hx
    obtain ⟨a, ha⟩ := tr_u32 he hx
    refine ⟨a, ?_⟩
    have h0 : ((cs.drop i).take 1)[0]? = some (u32 a) := by rw [ha]; rfl
    simpa using h0
  have hv : ∃ f : Nat → BitVec 32, ∀ i, i < n → cs[i]? = some (u32 (f i)) := ⟨fun i => if hi : i < n then Classical.choose (key i hi) else 0#32, fun i hi => by simp only [hi, dif_pos]; exact Classical.choose_spec (key i hi)⟩
  obtain ⟨f, hf⟩ := hv
  refine ⟨Vector.ofFn fun i => f i, by rw [hlen, hn], fun i hi => ?_⟩
  rw [hf i hi]
  simp [rget, hi]
theorem list_ext {cs : List Value} {n : Nat} {c : Array Value} (hl : cs.length = n) (hc : c.size = n) (h : ∀ i, i < n → cs[i]? = c[i]?) : cs = c.toList := by
  apply List.ext_getElem?
  intro i
  by_cases hi : i < n
  · rw [h i hi]; simp
  · rw [List.getElem?_eq_none (by omega), List.getElem?_eq_none (by simp; omega)]
theorem tr_V12 {e : TypeId} (ht : P.underlying t = some (.array 12 e)) (he : P.underlying e = some (.int .u32)) (hc : P.cellsOf e = 1) (hn : P.cellsOf t = 12) (h : DataW.trod enc P W base sp held fuel t cs = some x) : ∃ r : V12, cs = (encV12 r).toList := by
  obtain ⟨r, hl, hr⟩ := tr_words ht he hc hn h
  refine ⟨r, list_ext hl rfl fun i hi => ?_⟩
  rw [hr i hi]
  have := get_V12_at r i hi
  rw [Nat.zero_add] at this
  exact this.symm
theorem tr_V16 {e : TypeId} (ht : P.underlying t = some (.array 16 e)) (he : P.underlying e = some (.int .u32)) (hc : P.cellsOf e = 1) (hn : P.cellsOf t = 16) (h : DataW.trod enc P W base sp held fuel t cs = some x) : ∃ r : V16, cs = (encV16 r).toList := by
  obtain ⟨r, hl, hr⟩ := tr_words ht he hc hn h
  refine ⟨r, list_ext hl rfl fun i hi => ?_⟩
  rw [hr i hi]
  have := get_V16_at r i hi
  rw [Nat.zero_add] at this
  exact this.symm

/-- From cells to the value itself. -/
theorem agg_of {r : Reach} {b0 : Nat} {v : Value} {c : Array Value} {n : Nat} {e : TypeId} (ht : P.underlying t = some (.array n e)) (hval : Value.okWide P W r b0 t v) (h : v.cells.toList = c.toList) : v = .agg c := by
  simp only [Value.okWide, ht] at hval
  obtain ⟨cs, rfl, _⟩ := hval
  simp only [Value.cells] at h
  exact congrArg Value.agg (Array.ext' h)
theorem aggS_of {r : Reach} {b0 : Nat} {v : Value} {c : Array Value} {fs : Array Field} (ht : P.underlying t = some (.struct fs)) (hval : Value.okWide P W r b0 t v) (h : v.cells.toList = c.toList) : v = .agg c := by
  simp only [Value.okWide, ht] at hval
  obtain ⟨cs, rfl, _⟩ := hval
  simp only [Value.cells] at h
  exact congrArg Value.agg (Array.ext' h)
theorem arg_u32 {r : Reach} {b0 : Nat} {v : Value} {d : DataW H} {ps : List MemPlace} (ht : P.underlying t = some (.int .u32)) (hval : Value.okWide P W r b0 t v) (hd : DataW.Trod enc P W base sp held t v d ps) : ∃ a : BitVec 32, v = u32 a := by
  obtain ⟨n, rfl⟩ := WideShapes.okWide_int ht hval
  obtain ⟨fuel, hf⟩ := hd
  obtain ⟨a, ha⟩ := tr_u32 ht hf
  exact ⟨a, by simpa [Value.cells] using ha⟩
theorem arg_u64 {r : Reach} {b0 : Nat} {v : Value} {d : DataW H} {ps : List MemPlace} (ht : P.underlying t = some (.int .u64)) (hval : Value.okWide P W r b0 t v) (hd : DataW.Trod enc P W base sp held t v d ps) : ∃ a : BitVec 64, v = u64 a := by
  obtain ⟨n, rfl⟩ := WideShapes.okWide_int ht hval
  obtain ⟨fuel, hf⟩ := hd
  obtain ⟨a, ha⟩ := tr_u64 ht hf
  exact ⟨a, by simpa [Value.cells] using ha⟩
theorem arg_u8 {r : Reach} {b0 : Nat} {v : Value} {d : DataW H} {ps : List MemPlace} (ht : P.underlying t = some (.int .u8)) (hval : Value.okWide P W r b0 t v) (hd : DataW.Trod enc P W base sp held t v d ps) : ∃ a : BitVec 8, v = u8 a := by
  obtain ⟨n, rfl⟩ := WideShapes.okWide_int ht hval
  obtain ⟨fuel, hf⟩ := hd
  obtain ⟨a, ha⟩ := tr_u8 ht hf
  exact ⟨a, by simpa [Value.cells] using ha⟩
theorem arg_int {r : Reach} {b0 : Nat} {v : Value} {d : DataW H} {ps : List MemPlace} (ht : P.underlying t = some (.int .i64)) (hval : Value.okWide P W r b0 t v) (hd : DataW.Trod enc P W base sp held t v d ps) :
    ∃ a : Int, v = int a ∧ -9223372036854775808 ≤ a ∧ a ≤ 9223372036854775807 := by
  obtain ⟨n, rfl⟩ := WideShapes.okWide_int ht hval
  obtain ⟨fuel, hf⟩ := hd
  obtain ⟨a, ha, hb⟩ := tr_int ht hf
  exact ⟨a, by simpa [Value.cells] using ha, hb⟩
theorem arg_string {P : Program} {W : World} {t : TypeId} {r : Reach} {b0 : Nat} {v : Value} (ht : P.underlying t = some .string) (hval : Value.okWide P W r b0 t v) : ∃ a : ByteArray, v = .string a := WideShapes.okWide_string ht hval
theorem arg_bool {P : Program} {W : World} {t : TypeId} {r : Reach} {b0 : Nat} {v : Value} (ht : P.underlying t = some .bool) (hval : Value.okWide P W r b0 t v) : ∃ a : Bool, v = .bool a := WideShapes.okWide_bool ht hval
theorem arg_V12 {r : Reach} {b0 : Nat} {v : Value} {d : DataW H} {ps : List MemPlace} {e : TypeId} (ht : P.underlying t = some (.array 12 e)) (he : P.underlying e = some (.int .u32)) (hc : P.cellsOf e = 1) (hn : P.cellsOf t = 12)
    (hval : Value.okWide P W r b0 t v) (hd : DataW.Trod enc P W base sp held t v d ps) : ∃ a : V12, v = .agg (encV12 a) := by
  obtain ⟨fuel, hf⟩ := hd
  obtain ⟨a, ha⟩ := tr_V12 ht he hc hn hf
  exact ⟨a, agg_of ht hval ha⟩
end

/-! ### What listed variables hold -/
section
variable {H : Type} {enc : TypeId × Value → H} {P : Program} {W : World} {base : Nat} {sp : Nat → Bool} {held : Bool} {fuel : Nat} {t : TypeId} {cs : List Value}
theorem laid_array {n : Nat} {e : TypeId} (ht : P.underlying t = some (.array n e)) {ds : List (DataW H)} {p : List MemPlace} (h : DataW.trod enc P W base sp held fuel t cs = some (.agg ds, p)) (i : Nat) (hi : i < n) :
    ∃ m x, DataW.trod enc P W base sp held m e ((cs.drop (i * P.cellsOf e)).take (P.cellsOf e)) = some x ∧ ds[i]? = some x.1 := by
  obtain ⟨xs, m, _, hx, hlen, hxs, hel⟩ := DataW.trod_array ht h
  simp only [Prod.mk.injEq, DataW.agg.injEq] at hx
  have hlt : i < xs.length := by omega
  refine ⟨m, xs[i], by rw [hel i hi, List.getElem?_eq_getElem hlt], ?_⟩
  rw [hx.1]; simp [hlt]
theorem laid_string (ht : P.underlying t = some .string) {l : List UInt8} {x : DataW H × List MemPlace} (h : DataW.trod enc P W base sp held fuel t cs = some x) (hx : x.1 = .lit (.string l)) : cs = [.string ⟨l.toArray⟩] := by
  obtain ⟨s, rfl, rfl, _⟩ := DataW.trod_string ht h
  simp only [DataW.lit.injEq, Lit.string.injEq] at hx
  subst hx
  rfl
theorem laid_int {k : IntKind} (ht : P.underlying t = some (.int k)) {a : Int} {x : DataW H × List MemPlace} (h : DataW.trod enc P W base sp held fuel t cs = some x) (hx : x.1 = .lit (.int k a)) : cs = [.int k a] := by
  obtain ⟨n, rfl, rfl, _⟩ := DataW.trod_int ht h
  simp only [DataW.lit.injEq, Lit.int.injEq, true_and] at hx
  subst hx
  rfl
theorem laid_bool (ht : P.underlying t = some .bool) {a : Bool} {x : DataW H × List MemPlace} (h : DataW.trod enc P W base sp held fuel t cs = some x) (hx : x.1 = .lit (.bool a)) : cs = [.bool a] := by
  obtain ⟨n, rfl, rfl⟩ := DataW.trod_bool ht h
  simp only [DataW.lit.injEq, Lit.bool.injEq] at hx
  subst hx
  rfl
theorem var_block {n : String} {g : Nat} {c : Array Value} (hg : P.globalNamed n = some g) (h : W.var? P n = some c) : ∃ E fr, heapH W g = some (.cells c E fr) := by
  simp only [World.var?, hg, Option.bind_some] at h
  unfold heapH
  split at h <;> simp_all
theorem tabS_of {n : Nat} {e : TypeId} {g : Nat} {c : Array Value} {f : Nat → ByteArray} {E : TypeId} {fr : Nat × Nat} (hb : heapH W g = some (.cells c E fr)) (ht : P.underlying t = some (.array n e)) (he : P.underlying e = some .string) (hc : P.cellsOf e = 1)
    {ds : List (DataW H)} {p : List MemPlace} (h : DataW.trod enc P W base sp held fuel t c.toList = some (.agg ds, p)) (hd : ∀ i, i < n → ds[i]? = some (.lit (.string (f i).data.toList))) : TabS (heapH W) g n f := by
  refine ⟨c, E, fr, hb, fun i hi => ?_⟩
  obtain ⟨m, x, hx, hdi⟩ := laid_array ht h i hi
  rw [hd i hi] at hdi
  have := laid_string he hx (Option.some.inj hdi).symm
  rw [hc, Nat.mul_one] at this
  have h0 : ((c.toList.drop i).take 1)[0]? = some (.string ⟨(f i).data.toList.toArray⟩) := by rw [this]; rfl
  simpa using h0
end

/-! ### From a contract to what a row asks -/
section
variable {P : Program}
theorem CtW.calls {T : PH → Prop} {f : FuncId} {l : List Value} {v : Value} (x : CtW T P f l v) (W : World) (hT : T (heapH W)) :
    Calls P f l.toArray W fun e w' => e = .returned v ∧ RowKit.Below W.heap.size W w' := by
  refine (x _ hT W (heapH_inn W) (by simp) (by simp)).mono fun e w' r => ?_
  cases e with
  | outgrown => exact r.elim
  | returned u => obtain ⟨h', L', s, _, u', e1, e2, _⟩ := r; cases e1; subst e2; exact ⟨rfl, s.below⟩
  | panicked c => obtain ⟨h', L', s, _, u', e1, _⟩ := r; cases e1
end
end Go.Sx
