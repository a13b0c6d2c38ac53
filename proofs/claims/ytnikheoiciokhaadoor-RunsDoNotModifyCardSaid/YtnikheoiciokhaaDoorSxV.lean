/-
  WHAT ARGUMENTS LOOK LIKE, second part (own work): structs, slices, machines.
-/
import Derived.Test.YtnikheoiciokhaaDoorSxW
import Derived.Test.YtnikheoiciokhaaDoorSxU
namespace Go.Sx
open Go Go.RowKit Go.ChangeShapes
set_option linter.unusedVariables false

/-- The fields of a struct type: types, offsets, sizes. -/
def structC (P : Program) (t : TypeId) (n : Nat) (l : List (Nat × Nat × Nat)) : Bool :=
  match P.underlying t with
  | some (.struct fs) => P.cellsOf t == n && (fs.toList.map fun f => (f.type, f.offset, P.cellsOf f.type)) == l
  | _ => false
def sliceC (P : Program) (t e n : Nat) : Bool := match P.underlying t with | some (.slice u) => u == e && P.cellsOf e == n | _ => false
def arrC (P : Program) (t e n : Nat) : Bool := match P.underlying t with | some (.array m u) => m == n && u == e && P.cellsOf e == 1 && P.cellsOf t == n | _ => false
theorem arrC_out {P : Program} {t e n : Nat} (h : arrC P t e n = true) : P.underlying t = some (.array n e) ∧ P.cellsOf e = 1 ∧ P.cellsOf t = n := by
  unfold arrC at h
  split at h
  · simp only [Bool.and_eq_true, beq_iff_eq] at h
    obtain ⟨⟨⟨rfl, rfl⟩, h1⟩, h2⟩ := h
    exact ⟨by assumption, h1, h2⟩
  · simp at h
theorem sliceC_out {P : Program} {t e n : Nat} (h : sliceC P t e n = true) : P.underlying t = some (.slice e) ∧ P.cellsOf e = n := by
  unfold sliceC at h
  split at h
  · simp only [Bool.and_eq_true, beq_iff_eq] at h
    obtain ⟨rfl, h1⟩ := h
    exact ⟨by assumption, h1⟩
  · simp at h

section
variable {H : Type} {enc : TypeId × Value → H} {P : Program} {W : World} {base : Nat} {sp : Nat → Bool} {held : Bool} {fuel : Nat} {t : TypeId} {cs : List Value} {x : DataW H × List MemPlace}

theorem tr_fields {n : Nat} {l : List (Nat × Nat × Nat)} (hs : structC P t n l = true) (h : DataW.trod enc P W base sp held fuel t cs = some x) :
    cs.length = n ∧ ∀ p ∈ l, ∃ m y, DataW.trod enc P W base sp held m p.1 ((cs.drop p.2.1).take p.2.2) = some y := by
  unfold structC at hs
  split at hs
  · rename_i fs ht
    simp only [Bool.and_eq_true, beq_iff_eq] at hs
    obtain ⟨h1, rfl⟩ := hs
    obtain ⟨xs, m, _, _, hl, hlen, hf⟩ := DataW.trod_struct ht h
    refine ⟨by rw [hl, h1], fun p hp => ?_⟩
    simp only [List.mem_map] at hp
    obtain ⟨f, hfm, rfl⟩ := hp
    obtain ⟨i, hi, hif⟩ := List.mem_iff_getElem.1 hfm
    have hi' : i < fs.size := by simpa using hi
    have := hf i f (by rw [Array.getElem?_eq_getElem hi']; simpa using hif)
    exact ⟨m, xs[i]'(by omega), by rw [this, List.getElem?_eq_getElem]⟩
  · simp at hs
theorem cut (cs : List Value) (a k : Nat) : cs.drop a = (cs.drop a).take k ++ cs.drop (a + k) := by
  rw [show cs.drop (a + k) = (cs.drop a).drop k by rw [List.drop_drop]]
  exact (List.take_append_drop k _).symm
theorem cut0 (cs : List Value) : cs = cs.drop 0 := rfl
theorem tr_words' {n e : Nat} (ha : arrC P t e n = true) (he : P.underlying e = some (.int .u32)) (h : DataW.trod enc P W base sp held fuel t cs = some x) : ∃ r : Vector (BitVec 32) n, cs.length = n ∧ ∀ i, i < n → cs[i]? = some (u32 (rget r i)) := by
  obtain ⟨h1, h2, h3⟩ := arrC_out ha
  exact tr_words h1 he h2 h3 h

/-- What the cells of an element are, one by one. -/
theorem cells_at {a : Addr} {n : Nat} {c : List Value} (h : W.cells? base a n = some c) : c.length = n ∧ ∀ k, k < n → W.cell? (a.add k) = c[k]? := by
  unfold World.cells? at h
  split at h
  · have h1 := mapM_some_length h
    simp only [List.length_range] at h1
    exact ⟨h1, fun k hk => mapM_some_get h k k (by simp [hk])⟩
  · simp at h
theorem cell_at {a : Addr} {v : Value} (h : W.cell? a = some v) : a.spot = none ∧ ∃ c E fr, W.heap[a.block]? = some (.cells c E fr) ∧ c[a.off]? = some v := by
  unfold World.cell? at h
  split at h
  · rename_i c E fr hb
    split at h
    · simp at h
    · rename_i hs
      exact ⟨Option.not_isSome_iff_eq_none.1 hs, c, E, fr, hb, h⟩
  · simp at h
theorem addr_add (a : Addr) (n : Nat) (h : a.spot = none) : a.add n = ⟨a.block, a.off + n, none⟩ := by
  obtain ⟨b, off, s⟩ := a
  simp only at h
  subst h
  exact add_addr _ _ _

theorem tr_slh {α : Type} (e : Elt α) (Q : α → Prop) {E : TypeId} (ht : sliceC P t E e.sz = true) (hel : ∀ m c y, DataW.trod enc P W base sp held m E c = some y → ∃ z, c = (e.enc z).toList ∧ Q z)
    (h : DataW.trod enc P W base sp held fuel t cs = some x) : ∃ s xs, cs = [sv s] ∧ SlH e (heapH W) s xs ∧ ∀ z ∈ xs, Q z := by
  obtain ⟨hu, hsz⟩ := sliceC_out ht
  rcases DataW.trod_slice hu h with ⟨rfl, _⟩ | ⟨a, len, cap, elems, rest, n, _, rfl, _, _, hl, _, hlen, hels, _⟩
  · exact ⟨⟨none, 0, 0⟩, [], rfl, SlH.nil e _, by simp⟩
  · have key : ∀ i, i < len → ∃ z, (∀ k, k < e.sz → W.cell? ((a.add (i * e.sz)).add k) = (e.enc z)[k]?) ∧ Q z := by
      intro i hi
      have h1 := hels i hi
      rw [List.getElem?_eq_getElem (by omega), hsz] at h1
      simp only [Option.bind_eq_some_iff] at h1
      obtain ⟨c, hc, hd⟩ := h1
      obtain ⟨z, rfl, hz⟩ := hel _ _ _ hd
      obtain ⟨_, hk⟩ := cells_at hc
      exact ⟨z, fun k hk' => by rw [hk k hk']; simp, hz⟩
    obtain ⟨f, hf⟩ : ∃ f : Fin len → α, ∀ i : Fin len, (∀ k, k < e.sz → W.cell? ((a.add (i * e.sz)).add k) = (e.enc (f i))[k]?) ∧ Q (f i) :=
      ⟨fun i => Classical.choose (key i i.2), fun i => Classical.choose_spec (key i i.2)⟩
    refine ⟨⟨some a, len, cap⟩, List.ofFn f, rfl, ⟨by simp, hl, ?_⟩, ?_⟩
    · by_cases h0 : len = 0
      · subst h0; exact .inl (by simp)
      · refine .inr ?_
        have hp := e.pos
        have h1 := (hf ⟨0, by omega⟩).1 0 hp
        have hsome : ∃ v, (e.enc (f ⟨0, by omega⟩))[0]? = some v := ⟨_, Array.getElem?_eq_getElem (by rw [e.size]; exact hp)⟩
        obtain ⟨v, hv⟩ := hsome
        rw [hv] at h1
        have e1 : (a.add (0 * e.sz)).add 0 = a := by simp [Addr.add]
        rw [e1] at h1
        obtain ⟨hsp, c, E', fr, hb, hc0⟩ := cell_at h1
        have hcell : ∀ i : Fin len, ∀ k, k < e.sz → c[a.off + i * e.sz + k]? = (e.enc (f i))[k]? := by
          intro i k hk
          rw [← (hf i).1 k hk, addr_add a _ hsp, addr_add _ _ rfl]
          simp only [World.cell?, hb]
          rfl
        have hle : a.off + len * e.sz ≤ c.size := by
          have h2 := hcell ⟨len - 1, by omega⟩ (e.sz - 1) (by omega)
          rw [Array.getElem?_eq_getElem (show e.sz - 1 < (e.enc (f ⟨len - 1, by omega⟩)).size by rw [e.size]; omega)] at h2
          have h3 := (Array.getElem?_eq_some_iff.1 h2).1
          simp only at h3
          have h4 : len * e.sz = (len - 1) * e.sz + e.sz := by
            conv => lhs; rw [show len = (len - 1) + 1 by omega, Nat.add_mul, Nat.one_mul]
          omega
        obtain ⟨ab, ao, asp⟩ := a
        simp only at hsp
        subst hsp
        refine ⟨ab, ao, c, E', fr, rfl, hb, holds_ext e (by simpa using hle) fun i hi => ?_⟩
        have hi' : i < len := by simpa using hi
        apply Array.ext_getElem?
        intro k
        rw [Array.getElem?_extract]
        have hm : i * e.sz + e.sz ≤ len * e.sz := by
          have := Nat.mul_le_mul_right e.sz (Nat.succ_le_of_lt hi')
          rw [Nat.succ_mul] at this; exact this
        simp only at hle
        by_cases hk : k < e.sz
        · rw [if_pos (by omega), hcell ⟨i, hi'⟩ k hk]
          simp
        · rw [if_neg (by omega), Array.getElem?_eq_none (by rw [e.size]; omega)]
    · intro z hz
      rw [List.mem_ofFn] at hz
      obtain ⟨i, rfl⟩ := hz
      exact (hf i).2

theorem tr_bytes {E : TypeId} (ht : sliceC P t E 1 = true) (hE : P.underlying E = some (.int .u8)) (h : DataW.trod enc P W base sp held fuel t cs = some x) : ∃ s xs, cs = [sv s] ∧ Bytes (heapH W) s xs := by
  obtain ⟨s, xs, h1, h2, _⟩ := tr_slh eByte (fun _ => True) ht (fun m c y hy => by
    obtain ⟨a, rfl⟩ := tr_u8 hE hy
    exact ⟨a, rfl, trivial⟩) h
  exact ⟨s, xs, h1, h2.bytes⟩

theorem tr_V16' {e : TypeId} (ht : arrC P t e 16 = true) (he : P.underlying e = some (.int .u32)) (h : DataW.trod enc P W base sp held fuel t cs = some x) : ∃ r : V16, cs = (encV16 r).toList := by
  obtain ⟨h1, h2, h3⟩ := arrC_out ht; exact tr_V16 h1 he h2 h3 h
theorem tr_V12' {e : TypeId} (ht : arrC P t e 12 = true) (he : P.underlying e = some (.int .u32)) (h : DataW.trod enc P W base sp held fuel t cs = some x) : ∃ r : V12, cs = (encV12 r).toList := by
  obtain ⟨h1, h2, h3⟩ := arrC_out ht; exact tr_V12 h1 he h2 h3 h
theorem tr_Core {tu t16 t12 : TypeId} (hs : structC P t 29 [(t16, 0, 16), (tu, 16, 1), (t12, 17, 12)] = true) (hu : P.underlying tu = some (.int .u32)) (h16 : arrC P t16 tu 16 = true) (h12 : arrC P t12 tu 12 = true)
    (h : DataW.trod enc P W base sp held fuel t cs = some x) : ∃ c, cs = (encCore c).toList := by
  obtain ⟨hl, hf⟩ := tr_fields hs h
  obtain ⟨_, _, h0⟩ := hf _ (.head _)
  obtain ⟨_, _, h1⟩ := hf _ (.tail _ (.head _))
  obtain ⟨_, _, h2⟩ := hf _ (.tail _ (.tail _ (.head _)))
  obtain ⟨r, e0⟩ := tr_V16' h16 hu h0
  obtain ⟨pc, e1⟩ := tr_u32 hu h1
  obtain ⟨c, e2⟩ := tr_V12' h12 hu h2
  refine ⟨⟨r, pc, c⟩, ?_⟩
  rw [cut0 cs, cut cs 0 16, cut cs (0 + 16) 1, cut cs (0 + 16 + 1) 12, e0, e1, e2, List.drop_of_length_le (by omega : cs.length ≤ 0 + 16 + 1 + 12)]
  rfl
theorem tr_Machine {tu tC tB tL tO : TypeId} {t16 t12 te : TypeId} (hs : structC P t 33 [(tC, 0, 29), (tB, 29, 1), (tL, 30, 1), (tB, 31, 1), (tO, 32, 1)] = true) (hC : structC P tC 29 [(t16, 0, 16), (tu, 16, 1), (t12, 17, 12)] = true)
    (hu : P.underlying tu = some (.int .u32)) (h16 : arrC P t16 tu 16 = true) (h12 : arrC P t12 tu 12 = true) (hB : sliceC P tB te 1 = true) (he : P.underlying te = some (.int .u8)) (hL : P.underlying tL = some (.int .u64)) (hO : P.underlying tO = some .bool)
    (h : DataW.trod enc P W base sp held fuel t cs = some x) : ∃ s mm mo, cs = (encMachine (mach s mm mo)).toList ∧ Rp (heapH W) s mm mo := by
  obtain ⟨hl, hf⟩ := tr_fields hs h
  obtain ⟨_, _, h0⟩ := hf _ (.head _)
  obtain ⟨_, _, h1⟩ := hf _ (.tail _ (.head _))
  obtain ⟨_, _, h2⟩ := hf _ (.tail _ (.tail _ (.head _)))
  obtain ⟨_, _, h3⟩ := hf _ (.tail _ (.tail _ (.tail _ (.head _))))
  obtain ⟨_, _, h4⟩ := hf _ (.tail _ (.tail _ (.tail _ (.tail _ (.head _)))))
  obtain ⟨c, e0⟩ := tr_Core hC hu h16 h12 h0
  obtain ⟨mm, xs, e1, b1⟩ := tr_bytes hB he h1
  obtain ⟨tm, e2⟩ := tr_u64 hL h2
  obtain ⟨mo, ys, e3, b3⟩ := tr_bytes hB he h3
  obtain ⟨ha, e4⟩ := tr_bool hO h4
  refine ⟨⟨c, xs, tm, ys, ha⟩, mm, mo, ?_, b1, b3⟩
  rw [cut0 cs, cut cs 0 29, cut cs (0 + 29) 1, cut cs (0 + 29 + 1) 1, cut cs (0 + 29 + 1 + 1) 1, cut cs (0 + 29 + 1 + 1 + 1) 1, e0, e1, e2, e3, e4, List.drop_of_length_le (by omega : cs.length ≤ 0 + 29 + 1 + 1 + 1 + 1)]
  rfl

/-- From cells to the value itself. -/
theorem arg_struct {r : Reach} {b0 : Nat} {v : Value} {d : DataW H} {ps : List MemPlace} {n : Nat} {l : List (Nat × Nat × Nat)} (ht : structC P t n l = true) (hval : Value.okWide P W r b0 t v) (hd : DataW.Trod enc P W base sp held t v d ps) :
    ∃ cs : Array Value, v = .agg cs ∧ ∃ fuel x, DataW.trod enc P W base sp held fuel t cs.toList = some x := by
  unfold structC at ht
  split at ht
  · rename_i fs hu
    obtain ⟨cs, rfl, _⟩ := WideShapes.okWide_struct hu hval
    obtain ⟨fuel, hf⟩ := hd
    exact ⟨cs, rfl, fuel, _, hf⟩
  · simp at ht
theorem arg_agg {r : Reach} {b0 : Nat} {v : Value} {d : DataW H} {ps : List MemPlace} {n : Nat} {l : List (Nat × Nat × Nat)} {Q : Array Value → Prop} (ht : structC P t n l = true) (hval : Value.okWide P W r b0 t v) (hd : DataW.Trod enc P W base sp held t v d ps)
    (hQ : ∀ fuel cs x, DataW.trod enc P W base sp held fuel t cs = some x → ∃ c : Array Value, cs = c.toList ∧ Q c) : ∃ c, v = .agg c ∧ Q c := by
  obtain ⟨cs, rfl, fuel, x, hf⟩ := arg_struct ht hval hd
  obtain ⟨c, hc, hq⟩ := hQ _ _ _ hf
  exact ⟨c, by rw [Array.ext' hc], hq⟩
theorem arg_slice {r : Reach} {b0 : Nat} {v : Value} {d : DataW H} {ps : List MemPlace} {e n : Nat} {Q : SV → Prop} (ht : sliceC P t e n = true) (hval : Value.okWide P W r b0 t v) (hd : DataW.Trod enc P W base sp held t v d ps)
    (hQ : ∀ fuel cs x, DataW.trod enc P W base sp held fuel t cs = some x → ∃ s, cs = [sv s] ∧ Q s) : ∃ s, v = sv s ∧ Q s := by
  obtain ⟨hu, _⟩ := sliceC_out ht
  obtain ⟨a, len, cap, rfl⟩ := WideShapes.okWide_slice hu hval
  obtain ⟨fuel, hf⟩ := hd
  obtain ⟨s, hs, hq⟩ := hQ _ _ _ hf
  simp only [Value.cells, List.cons.injEq, and_true] at hs
  exact ⟨s, hs, hq⟩
end

/-! ### Tables that are laid -/
section
variable {H : Type} {enc : TypeId × Value → H} {P : Program} {W : World} {base : Nat} {sp : Nat → Bool} {held : Bool} {fuel : Nat} {t : TypeId} {cs : List Value}
theorem laid_struct {n : Nat} {l : List (Nat × Nat × Nat)} (hs : structC P t n l = true) {ds : List (DataW H)} {p : List MemPlace} (h : DataW.trod enc P W base sp held fuel t cs = some (.agg ds, p)) :
    cs.length = n ∧ ∀ (i : Nat) (q : Nat × Nat × Nat), l[i]? = some q → ∃ m x, DataW.trod enc P W base sp held m q.1 ((cs.drop q.2.1).take q.2.2) = some x ∧ ds[i]? = some x.1 := by
  unfold structC at hs
  split at hs
  · rename_i fs ht
    simp only [Bool.and_eq_true, beq_iff_eq] at hs
    obtain ⟨h1, rfl⟩ := hs
    obtain ⟨xs, m, _, hx, hl, hlen, hf⟩ := DataW.trod_struct ht h
    simp only [Prod.mk.injEq, DataW.agg.injEq] at hx
    refine ⟨by rw [hl, h1], fun i q hq => ?_⟩
    simp only [List.getElem?_map, Option.map_eq_some_iff] at hq
    obtain ⟨f, hf1, rfl⟩ := hq
    have h2 := hf i f (by simpa using hf1)
    have hi : i < xs.length := by
      have := (List.getElem?_eq_some_iff.1 hf1).1
      simp at this; omega
    refine ⟨m, xs[i], by rw [h2, List.getElem?_eq_getElem], ?_⟩
    rw [hx.1]; simp [hi]
  · simp at hs
theorem tabI_of {n : Nat} {e : TypeId} {g : Nat} {c : Array Value} {f : Nat → Int} {E : TypeId} {fr : Nat × Nat} (hb : heapH W g = some (.cells c E fr)) (ht : P.underlying t = some (.array n e)) (he : P.underlying e = some (.int .i64)) (hc : P.cellsOf e = 1)
    {ds : List (DataW H)} {p : List MemPlace} (h : DataW.trod enc P W base sp held fuel t c.toList = some (.agg ds, p)) (hd : ∀ i, i < n → ds[i]? = some (.lit (.int .i64 (f i)))) : TabI (heapH W) g n f := by
  refine ⟨c, E, fr, hb, fun i hi => ?_⟩
  obtain ⟨m, x, hx, hdi⟩ := laid_array ht h i hi
  rw [hd i hi] at hdi
  have := laid_int he hx (Option.some.inj hdi).symm
  rw [hc, Nat.mul_one] at this
  have h0 : ((c.toList.drop i).take 1)[0]? = some (int (f i)) := by rw [this]; rfl
  simpa using h0
theorem extract_of {c : Array Value} {a k : Nat} {e : Array Value} (h : (c.toList.drop a).take k = e.toList) (hk : e.size = k) : a + k ≤ c.size + (if k = 0 then a else 0) ∧ c.extract a (a + k) = e := by
  have hl := congrArg List.length h
  simp only [List.length_take, List.length_drop, Array.length_toList, hk] at hl
  refine ⟨by split <;> omega, ?_⟩
  apply Array.ext_getElem?
  intro i
  have h1 := congrArg (fun l => l[i]?) h
  simp only [List.getElem?_take, List.getElem?_drop, Array.getElem?_toList] at h1
  rw [Array.getElem?_extract, ← h1]
  by_cases hi : i < k
  · rw [if_pos hi, if_pos (by omega)]
  · rw [if_neg hi, if_neg (by omega)]
theorem tabT_of {ti tu : TypeId} {g : Nat} {c : Array Value} {E : TypeId} {fr : Nat × Nat} (hb : heapH W g = some (.cells c E fr)) (hs : structC P t 2 [(ti, 0, 1), (tu, 1, 1)] = true) (hi : P.underlying ti = some (.int .i64)) (hu : P.underlying tu = some (.int .u32))
    {p : List MemPlace} (h : DataW.trod enc P W base sp held fuel t c.toList = some (.agg [.lit (.int .i64 0), .lit (.int .u32 0)], p)) : TabT (heapH W) g := by
  obtain ⟨hl, hf⟩ := laid_struct hs h
  obtain ⟨_, x0, h0, d0⟩ := hf 0 _ rfl
  obtain ⟨_, x1, h1, d1⟩ := hf 1 _ rfl
  have e0 := laid_int hi h0 (Option.some.inj d0).symm
  have e1 := laid_int hu h1 (Option.some.inj d1).symm
  have hc : c.toList = (encTrap Trap.zero).toList := by
    rw [cut0 c.toList, cut c.toList 0 1, cut c.toList (0 + 1) 1, e0, e1, List.drop_of_length_le (by omega : c.toList.length ≤ 0 + 1 + 1)]
    rfl
  have hc' : c = encTrap Trap.zero := Array.ext' hc
  subst hc'
  exact ⟨_, E, fr, hb, Nat.le_refl _, whole_Trap _⟩
theorem tabH_of {n : Nat} {e tb : TypeId} {g : Nat} {c : Array Value} {f : Nat → Has} {E : TypeId} {fr : Nat × Nat} (hb : heapH W g = some (.cells c E fr)) (ht : P.underlying t = some (.array n e)) (hs : structC P e 5 [(tb, 0, 1), (tb, 1, 1), (tb, 2, 1), (tb, 3, 1), (tb, 4, 1)] = true) (hc : P.cellsOf e = 5) (hbo : P.underlying tb = some .bool)
    {ds : List (DataW H)} {p : List MemPlace} (h : DataW.trod enc P W base sp held fuel t c.toList = some (.agg ds, p)) (hd : ∀ i, i < n → ds[i]? = some (.agg [.lit (.bool (f i).rd), .lit (.bool (f i).ra), .lit (.bool (f i).rb), .lit (.bool (f i).imm), .lit (.bool (f i).csr)])) : TabH (heapH W) g n f := by
  refine ⟨c, E, fr, hb, fun i hi => ?_⟩
  obtain ⟨m, x, hx, hdi⟩ := laid_array ht h i hi
  rw [hd i hi] at hdi
  obtain ⟨x1, x2⟩ := x
  simp only [Option.some.injEq] at hdi
  subst hdi
  rw [hc] at hx
  obtain ⟨hl, hf⟩ := laid_struct hs hx
  obtain ⟨_, x0, h0, d0⟩ := hf 0 _ rfl
  obtain ⟨_, x1, h1, d1⟩ := hf 1 _ rfl
  obtain ⟨_, x2, h2, d2⟩ := hf 2 _ rfl
  obtain ⟨_, x3, h3, d3⟩ := hf 3 _ rfl
  obtain ⟨_, x4, h4, d4⟩ := hf 4 _ rfl
  have e0 := laid_bool hbo h0 (Option.some.inj d0).symm
  have e1 := laid_bool hbo h1 (Option.some.inj d1).symm
  have e2 := laid_bool hbo h2 (Option.some.inj d2).symm
  have e3 := laid_bool hbo h3 (Option.some.inj d3).symm
  have e4 := laid_bool hbo h4 (Option.some.inj d4).symm
  generalize hz : (c.toList.drop (i * 5)).take 5 = z at *
  have hc : z = (encHas (f i)).toList := by
    rw [cut0 z, cut z 0 1, cut z (0 + 1) 1, cut z (0 + 1 + 1) 1, cut z (0 + 1 + 1 + 1) 1, cut z (0 + 1 + 1 + 1 + 1) 1, e0, e1, e2, e3, e4, List.drop_of_length_le (by omega : z.length ≤ 0 + 1 + 1 + 1 + 1 + 1)]
    rfl
  rw [hc] at hz
  obtain ⟨h8, h9⟩ := extract_of hz rfl
  rw [Nat.zero_add]
  exact ⟨by simpa using h8, h9⟩
end
end Go.Sx
