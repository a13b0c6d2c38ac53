/-
  SLICES OF TYPED VALUES (own work): in memory that is known ('SlH'), and in a block of the call's own ('OwS'); reading an element, appending one, freezing.
-/
import Derived.Test.YtnikheoiciokhaaDoorSxF
import Derived.Test.YtnikheoiciokhaaDoorSxG
import Derived.Laws.MakeOwn
namespace Go.Sx
open Go
set_option linter.unusedVariables false

/-- How the elements of a slice lie in cells. -/
structure Elt (α : Type) where
  enc : α → Array Value
  sz : Nat
  size : ∀ x, (enc x).size = sz
  pos : 0 < sz
  ones : ∀ x, ∀ u ∈ (enc x).toList, u.oneCell' = true

def eTrap : Elt Trap := ⟨encTrap, 2, size_Trap, by decide, fun x => onesB_out (ones_Trap x)⟩
def eEvent : Elt Event := ⟨encEvent, 3, size_Event, by decide, fun x => onesB_out (ones_Event x)⟩
def eVcpu : Elt Vcpu := ⟨encVcpu, 33, size_Vcpu, by decide, fun x => onesB_out (ones_Vcpu x)⟩
def eGuest : Elt Guest := ⟨encGuest, 20, size_Guest, by decide, fun x => onesB_out (ones_Guest x)⟩
def eInt : Elt Int := ⟨fun x => #[int x], 1, fun _ => rfl, by decide, fun x u hu => by simp at hu; subst hu; rfl⟩
def eByte : Elt (BitVec 8) := ⟨fun x => #[u8 x], 1, fun _ => rfl, by decide, fun x u hu => by simp at hu; subst hu; rfl⟩

section
variable {α : Type} (e : Elt α)
def flat (xs : List α) : Array Value := (xs.flatMap fun x => (e.enc x).toList).toArray
theorem flat_nil : flat e [] = #[] := rfl
theorem flat_cons (x : α) (xs : List α) : flat e (x :: xs) = e.enc x ++ flat e xs := by simp [flat]
theorem flat_append (xs ys : List α) : flat e (xs ++ ys) = flat e xs ++ flat e ys := by simp [flat]
theorem flat_one (x : α) : flat e [x] = e.enc x := by simp [flat]
theorem flat_size (xs : List α) : (flat e xs).size = xs.length * e.sz := by
  induction xs with
  | nil => simp [flat]
  | cons x xs ih => rw [flat_cons, Array.size_append, e.size, ih, List.length_cons, Nat.add_mul, Nat.one_mul, Nat.add_comm]
theorem flat_ones (xs : List α) : ∀ u ∈ (flat e xs).toList, u.oneCell' = true := by
  intro u hu
  simp only [flat, List.mem_flatMap] at hu
  obtain ⟨x, _, hx⟩ := hu
  exact e.ones x u hx
theorem flat_get : ∀ (xs : List α) (i : Nat) (hi : i < xs.length), (flat e xs).extract (i * e.sz) (i * e.sz + e.sz) = e.enc xs[i] := by
  intro xs
  induction xs with
  | nil => intro i hi; simp at hi
  | cons x xs ih =>
    intro i hi
    rw [flat_cons]
    have hx := e.size x
    have hsz : (e.enc x ++ flat e xs).size = e.sz + xs.length * e.sz := by rw [Array.size_append, hx, flat_size]
    have hfs := flat_size e xs
    have hp := e.pos
    cases i with
    | zero =>
      simp only [Nat.zero_mul, Nat.zero_add, List.getElem_cons_zero]
      apply Array.ext_getElem?
      intro k
      rw [Array.getElem?_extract]
      by_cases hk : k < e.sz
      · rw [if_pos (by omega), Nat.zero_add, Array.getElem?_append_left (by omega)]
      · rw [if_neg (by omega), Array.getElem?_eq_none (by omega)]
    | succ i =>
      have hi' : i < xs.length := by simpa using hi
      rw [List.getElem_cons_succ, ← ih i hi']
      apply Array.ext_getElem?
      intro k
      have hm : (i + 1) * e.sz = i * e.sz + e.sz := by rw [Nat.add_mul, Nat.one_mul]
      have hm2 : i * e.sz + e.sz ≤ xs.length * e.sz := by
        have := Nat.mul_le_mul_right e.sz (Nat.succ_le_of_lt hi')
        rw [Nat.succ_mul] at this; exact this
      rw [Array.getElem?_extract, Array.getElem?_extract]
      by_cases hk : k < e.sz
      · rw [if_pos (by omega), if_pos (by omega), Array.getElem?_append_right (by omega)]
        congr 1; omega
      · rw [if_neg (by omega), if_neg (by omega)]
/-- Cells that hold these elements from an offset on. -/
def Holds (c : Array Value) (off : Nat) (xs : List α) : Prop := off + xs.length * e.sz ≤ c.size ∧ c.extract off (off + xs.length * e.sz) = flat e xs
theorem Holds.at {c : Array Value} {off : Nat} {xs : List α} (h : Holds e c off xs) (i : Nat) (hi : i < xs.length) : off + i * e.sz + e.sz ≤ c.size ∧ c.extract (off + i * e.sz) (off + i * e.sz + e.sz) = e.enc xs[i] := by
  obtain ⟨h1, h2⟩ := h
  have hm : i * e.sz + e.sz ≤ xs.length * e.sz := by
    have := Nat.mul_le_mul_right e.sz (Nat.succ_le_of_lt hi)
    rw [Nat.succ_mul] at this; exact this
  refine ⟨by omega, ?_⟩
  rw [← flat_get e xs i hi, ← h2]
  apply Array.ext_getElem?
  intro k
  rw [Array.getElem?_extract, Array.getElem?_extract, Array.getElem?_extract]
  by_cases hk : k < e.sz
  · rw [if_pos (by omega), if_pos (by simp; omega), if_pos (by omega)]
    congr 1; omega
  · rw [if_neg (by omega), if_neg (by simp; omega)]
theorem Holds.of (xs : List α) (zs : Array Value) : Holds e (flat e xs ++ zs) 0 xs := by
  refine ⟨by simp [flat_size], ?_⟩
  rw [← flat_size]
  simp
theorem holds_ext {c : Array Value} {off : Nat} {xs : List α} (hsz : off + xs.length * e.sz ≤ c.size) (h : ∀ i (hi : i < xs.length), c.extract (off + i * e.sz) (off + i * e.sz + e.sz) = e.enc xs[i]) : Holds e c off xs := by
  refine ⟨hsz, ?_⟩
  apply Array.ext_getElem?
  intro k
  have hs := flat_size e xs
  rw [Array.getElem?_extract]
  by_cases hk : k < xs.length * e.sz
  · rw [if_pos (by omega)]
    have hd : k / e.sz < xs.length := (Nat.div_lt_iff_lt_mul e.pos).2 hk
    have hm : k % e.sz < e.sz := Nat.mod_lt _ e.pos
    have hdm : k / e.sz * e.sz + k % e.sz = k := by rw [Nat.mul_comm]; exact Nat.div_add_mod k e.sz
    have h1 := congrArg (fun a => a[k % e.sz]?) (h (k / e.sz) hd)
    have h2 := congrArg (fun a => a[k % e.sz]?) (flat_get e xs (k / e.sz) hd)
    simp only [Array.getElem?_extract] at h1 h2
    have hmul : k / e.sz * e.sz + e.sz ≤ xs.length * e.sz := by
      have := Nat.mul_le_mul_right e.sz (Nat.succ_le_of_lt hd)
      rw [Nat.succ_mul] at this; exact this
    rw [if_pos (by omega)] at h1
    rw [if_pos (by omega), hdm] at h2
    rw [h2, ← h1]
    congr 1; omega
  · rw [if_neg (by omega), Array.getElem?_eq_none (by omega)]

/-- A slice of these elements in memory that is known. -/
def SlH (h : PH) (s : SV) (xs : List α) : Prop :=
  s.len = xs.length ∧ s.len ≤ s.cap ∧ (xs = [] ∨ ∃ b off c E fr, s.a = some ⟨b, off, none⟩ ∧ h b = some (.cells c E fr) ∧ Holds e c off xs)
theorem SlH.mono {h k : PH} {s : SV} {xs : List α} (x : SlH e h s xs) (hk : h.le k) : SlH e k s xs := by
  obtain ⟨h1, h2, h3⟩ := x
  refine ⟨h1, h2, h3.imp id ?_⟩
  rintro ⟨b, off, c, E, fr, ha, hb, hc⟩
  exact ⟨b, off, c, E, fr, ha, hk _ _ hb, hc⟩
theorem SlH.nil (h : PH) : SlH e h ⟨none, 0, 0⟩ ([] : List α) := ⟨rfl, Nat.le_refl _, .inl rfl⟩
theorem SlH.some {h : PH} {s : SV} {xs : List α} (x : SlH e h s xs) (hp : 0 < xs.length) : ∃ b off c E fr, s.a = some ⟨b, off, none⟩ ∧ h b = some (.cells c E fr) ∧ Holds e c off xs := by
  rcases x.2.2 with h1 | h1
  · subst h1; simp at hp
  · exact h1
/-- .. in a block of the call's own. -/
def OwS (E : TypeId) (s : SV) (xs : List α) (N : OL) : Prop :=
  (xs = [] ∧ s = ⟨none, 0, 0⟩ ∧ N = []) ∨ ∃ b cap zs, s = ⟨some ⟨b, 0, none⟩, xs.length, cap⟩ ∧ xs.length ≤ cap ∧ N = [(b, .cells (flat e xs ++ zs) E (0, 0))] ∧ zs.size = (cap - xs.length) * e.sz
theorem OwS.nil (E : TypeId) : OwS e E ⟨none, 0, 0⟩ ([] : List α) [] := .inl ⟨rfl, rfl, rfl⟩
theorem OwS.len {E : TypeId} {s : SV} {xs : List α} {N : OL} (x : OwS e E s xs N) : s.len = xs.length := by
  rcases x with ⟨rfl, rfl, _⟩ | ⟨b, cap, zs, rfl, _⟩ <;> rfl
end

section
variable {α : Type} {e : Elt α} {r : Option Nat} {P : Program} {w0 : World} {B : List Nat} {h0 : PH} {n : Nat} {Q : Exit → Act → World → Prop} {ds : List Deferred} {ρ : Nat → Value} {h : PH} {L : OL} {d : Option Tmp} {ty : TypeId} {pos : String} {af : Array Edge} {g : Option (Nat × Bool)} {K : Value → PH → OL → Prop}

/-- The address of an element. -/
@[reducible] def eaddr (e : Elt α) (s : SV) (i : Nat) : Value := .pointer (s.a.map fun a => a.add (i * e.sz))
theorem ro_indexAddr_e {T : TypeId} {x y : Operand} {s : SV} {xs : List α} {k : IntKind} (i : Nat) {j : Int} (ht : sliceB P T e.sz = true) (hB : SlH e h s xs) (hx : ev ρ x = sv s) (hy : ev ρ y = .int k j) (hj : j = i) (hi : i < xs.length) :
    RO P ρ h L ⟨d, .indexAddr T x y, ty, pos, af, g⟩ (eaddr e s i) := by
  obtain ⟨b, off, c, E, fr, ha, hb, hc⟩ := hB.some e (by omega)
  have hl : s.len = xs.length := hB.1
  subst hj
  exact (ro_indexAddr_slice (len := s.len) (cap := s.cap) (b := b) (off := off) ht (hx.trans (by rw [sv, ha])) hy (by omega) (by omega)).as (by simp [eaddr, ha, add_addr])
/-- An element that is an aggregate. -/
theorem ro_loadE {T : TypeId} {x : Operand} {s : SV} {xs : List α} {i : Nat} (ht : aggB P T e.sz = true) (hB : SlH e h s xs) (hx : ev ρ x = eaddr e s i) (hi : i < xs.length) : RO P ρ h L ⟨d, .load T x, ty, pos, af, g⟩ (.agg (e.enc xs[i])) := by
  obtain ⟨b, off, c, E, fr, ha, hb, hc⟩ := hB.some e (by omega)
  obtain ⟨h1, h2⟩ := hc.at e i hi
  refine ro_loadHA ht (hx.trans ?_) hb (by simpa [Nat.ble_eq] using h1) h2
  simp [eaddr, ha, add_addr]
/-- A part of an element. -/
theorem ro_fieldAddr_e {T : TypeId} {x : Operand} {f k : Nat} {s : SV} {xs : List α} {i : Nat} (ht : fieldB P T f k = true) (hB : SlH e h s xs) (hx : ev ρ x = eaddr e s i) (hi : i < xs.length) :
    RO P ρ h L ⟨d, .fieldAddr T x f, ty, pos, af, g⟩ (.pointer (s.a.map fun a => (a.add (i * e.sz)).add k)) := by
  obtain ⟨b, off, c, E, fr, ha, hb, hc⟩ := hB.some e (by omega)
  refine (ro_fieldAddr (b := b) (off := off + i * e.sz) ht (hx.trans ?_)).as ?_
  · simp [eaddr, ha, add_addr]
  · simp [ha, add_addr]
theorem ro_loadEF {T : TypeId} {x : Operand} {s : SV} {xs : List α} {i k : Nat} {v : Value} (ht : scalarB P T = true) (hB : SlH e h s xs) (hx : ev ρ x = .pointer (s.a.map fun a => (a.add (i * e.sz)).add k)) (hi : i < xs.length) (hv : (e.enc xs[i])[k]? = some v) :
    RO P ρ h L ⟨d, .load T x, ty, pos, af, g⟩ v := by
  obtain ⟨b, off, c, E, fr, ha, hb, hc⟩ := hB.some e (by omega)
  obtain ⟨h1, h2⟩ := hc.at e i hi
  refine ro_loadH (b := b) (off := off + i * e.sz + k) ht (hx.trans ?_) hb ?_
  · simp [ha, add_addr]
  · have hk : k < e.sz := by
      have := (Array.getElem?_eq_some_iff.1 hv).1
      rw [e.size] at this; exact this
    rw [← h2, Array.getElem?_extract] at hv
    rw [if_pos (by omega)] at hv
    exact hv
theorem ro_loadEA {T : TypeId} {x : Operand} {s : SV} {xs : List α} {i k m : Nat} {cs : Array Value} (ht : aggB P T m = true) (hB : SlH e h s xs) (hx : ev ρ x = .pointer (s.a.map fun a => (a.add (i * e.sz)).add k)) (hi : i < xs.length) (hk : k + m ≤ e.sz) (hv : (e.enc xs[i]).extract k (k + m) = cs) :
    RO P ρ h L ⟨d, .load T x, ty, pos, af, g⟩ (.agg cs) := by
  obtain ⟨b, off, c, E, fr, ha, hb, hc⟩ := hB.some e (by omega)
  obtain ⟨h1, h2⟩ := hc.at e i hi
  refine ro_loadHA (b := b) (off := off + i * e.sz + k) ht (hx.trans ?_) hb (by simp [Nat.ble_eq]; omega) ?_
  · simp [ha, add_addr]
  · rw [← hv, ← h2]
    apply Array.ext_getElem?
    intro j
    rw [Array.getElem?_extract, Array.getElem?_extract, Array.getElem?_extract]
    by_cases hj : j < m
    · rw [if_pos (by omega), if_pos (by simp; omega), if_pos (by omega)]
      congr 1; omega
    · rw [if_neg (by omega), if_neg (by simp; omega)]
theorem ro_lenS {T : TypeId} {x : Operand} {s : SV} {xs : List α} {size : Nat} (ht : sliceB P T size = true) (hB : SlH e h s xs) (hx : ev ρ x = sv s) : RO P ρ h L ⟨d, .call ⟨.builtin .len, #[x], #[T]⟩, ty, pos, af, g⟩ (int (xs.length : Int)) :=
  (ro_len_slice ht hx).as (by rw [hB.1])

/-- The cells of such a slice. -/
theorem rd_slh {s : SV} {xs : List α} (x : SlH e h s xs) : Rd P h L e.sz (sv s) xs.length (flat e xs) := by
  rcases x.2.2 with h1 | ⟨b, off, c, E, fr, ha, hb, hc⟩
  · subst h1
    intro w hm
    show (Builtin.firstCells e.sz 0 (.slice s.a s.len s.cap)).run P w = _
    cases s.a with
    | none => rfl
    | some a => simp [Builtin.firstCells, loadCells, loadCellsFrom, flat_nil]
  · obtain ⟨sa, sl, sc⟩ := s
    simp only at ha
    subst ha
    exact rd_h hb hc.1 hc.2
/-- One element in a block of its own. -/
theorem rd_one {b cp : Nat} {x : α} {E : TypeId} {fr : Nat × Nat} {f : Obj → OL} (hs : Sel L b (.cells (e.enc x) E fr) f) : Rd P h L e.sz (.slice (some ⟨b, 0, none⟩) 1 cp) 1 (flat e [x]) :=
  rd_own hs (by simp [e.size]) (by rw [flat_one, Nat.zero_add, Nat.one_mul, ← e.size x]; simp)

theorem so_weaken {o : Oper} {L2 : OL} (hp : L2.Perm L) (x : SO P w0 B h0 ρ h L2 o K) : SO P w0 B h0 ρ h L o K := fun w s => x w (s.perm hp)
theorem SO.post {o : Oper} {K2 : Value → PH → OL → Prop} (hk : ∀ v h' L', K v h' L' → ∃ L2, List.Sublist L2 L' ∧ K2 v h' L2) (x : SO P w0 B h0 ρ h L o K) : SO P w0 B h0 ρ h L o K2 := fun w s => by
  have := x w s
  revert this
  generalize (execOp (ev ρ) o).run P w = rr
  intro this
  cases rr with
  | halt => exact this
  | ok nx w' =>
    cases nx <;> try exact this
    · obtain ⟨h, L, k, st⟩ := this; obtain ⟨L2, hs, k2⟩ := hk _ _ _ k; exact ⟨h, L2, k2, st.drop hs⟩
    · obtain ⟨h, L, k, st⟩ := this; obtain ⟨L2, hs, k2⟩ := hk _ _ _ k; exact ⟨h, L2, k2, st.drop hs⟩
    · refine Calls.mono this fun e w' q => ?_
      cases e with
      | returned v => obtain ⟨h, L, k, st⟩ := q; obtain ⟨L2, hs, k2⟩ := hk _ _ _ k; exact ⟨h, L2, k2, st.drop hs⟩
      | outgrown => exact q
      | panicked c => exact q
    · refine RoundIn.mono this fun e w' q => ?_
      cases e with
      | returned v => obtain ⟨h, L, k, st⟩ := q; obtain ⟨L2, hs, k2⟩ := hk _ _ _ k; exact ⟨h, L2, k2, st.drop hs⟩
      | outgrown => exact q
      | panicked c => exact q
/-- .. in another order. -/
theorem SO.postP {o : Oper} {K2 : Value → PH → OL → Prop} (hk : ∀ v h' L', K v h' L' → ∃ L2 L3, List.Sublist L2 L' ∧ L3.Perm L2 ∧ K2 v h' L3) (x : SO P w0 B h0 ρ h L o K) : SO P w0 B h0 ρ h L o K2 := fun w s => by
  have key : ∀ v w', (∃ h L, K v h L ∧ St w0 B h0 h L w') → ∃ h L, K2 v h L ∧ St w0 B h0 h L w' := fun v w' ⟨h, L, k, st⟩ => by
    obtain ⟨L2, L3, hs, hp, k2⟩ := hk _ _ _ k
    exact ⟨h, L3, k2, (st.drop hs).perm hp⟩
  have := x w s
  revert this
  generalize (execOp (ev ρ) o).run P w = rr
  intro this
  cases rr with
  | halt => exact this
  | ok nx w' =>
    cases nx <;> try exact this
    · exact key _ _ this
    · exact key _ _ this
    · refine Calls.mono this fun e w' q => ?_
      cases e with
      | returned v => exact key _ _ q
      | outgrown => exact q
      | panicked c => exact q
    · refine RoundIn.mono this fun e w' q => ?_
      cases e with
      | returned v => exact key _ _ q
      | outgrown => exact q
      | panicked c => exact q

theorem splice_end {α : Type} (e : Elt α) (xs ys : List α) (zs : Array Value) (hz : ys.length * e.sz ≤ zs.size) : splice (flat e xs ++ zs) (0 + xs.length * e.sz) (flat e ys).toList = flat e (xs ++ ys) ++ zs.extract (ys.length * e.sz) zs.size := by
  have h1 := flat_size e xs
  have h2 := flat_size e ys
  have h3 := flat_size e (xs ++ ys)
  rw [List.length_append, Nat.add_mul] at h3
  apply Array.ext_getElem?
  intro i
  rw [splice_getElem? _ _ _ (by simp [h1, h2]; omega)]
  simp only [Array.length_toList, h2, Nat.zero_add]
  by_cases c1 : i < xs.length * e.sz
  · rw [if_neg (by omega), Array.getElem?_append_left (by omega), Array.getElem?_append_left (by omega), flat_append, Array.getElem?_append_left (by omega)]
  · by_cases c2 : i < xs.length * e.sz + ys.length * e.sz
    · rw [if_pos (by omega), Array.getElem?_append_left (by omega), flat_append, Array.getElem?_append_right (by omega), h1]
      simp
    · rw [if_neg (by omega), Array.getElem?_append_right (by omega), Array.getElem?_append_right (by omega), h1, h3, Array.getElem?_extract]
      by_cases c3 : i - xs.length * e.sz < zs.size
      · rw [if_pos (by omega)]; congr 1; omega
      · rw [if_neg (by omega), Array.getElem?_eq_none (by omega)]

theorem sel_last (La : OL) (b : Nat) (o : Obj) : ∃ up, Sel (La ++ [(b, o)]) b o up ∧ ∀ o', up o' = La ++ [(b, o')] := by
  induction La with
  | nil => exact ⟨_, .head, fun _ => rfl⟩
  | cons p La ih => obtain ⟨up, h1, h2⟩ := ih; exact ⟨_, .tail h1, fun o => by simp [h2]⟩

/-- More elements, in a slice of the call's own. 'La': the blocks ahead of it. -/
theorem so_appendOwS {x y : Operand} {t E bytes : Nat} {s : SV} {xs ys : List α} {vy : Value} {N : OL} (La : OL) (ht : sliceE P t E e.sz bytes = true) (hN : OwS e E s xs N) (hlen : (2 * (xs.length + ys.length) + 192) * bytes ≤ 281474976710656) (hby : 0 < bytes) (hx : ev ρ x = sv s)
    (hy : ev ρ y = vy) (hly : ∀ w, (Builtin.lenOf vy).run P w = .ok ys.length w) (hn : Rd P h (La ++ N) e.sz vy ys.length (flat e ys)) (hK : ∀ s' N', OwS e E s' (xs ++ ys) N' → K (sv s') h (La ++ N')) :
    SO P w0 B h0 ρ h (La ++ N) ⟨d, .call ⟨.builtin .append, #[x, y], #[t, t]⟩, ty, pos, af, g⟩ K := by
  have hp := e.pos
  rcases hN with ⟨rfl, rfl, rfl⟩ | ⟨b, cap, zs, rfl, hcap, rfl, hzs⟩
  · by_cases h0' : ys.length = 0
    · obtain rfl := List.length_eq_zero_iff.1 h0'
      exact so_append_zero (m := 0) (c := 0) ht hx hy hly (Nat.le_refl _) hn (hK ⟨none, 0, 0⟩ [] (OwS.nil e E))
    · refine SO.postP (K := fun u h' L' => ∃ b cap zs, ys.length ≤ cap ∧ zs.size = (cap - ys.length) * e.sz ∧ u = .slice (some ⟨b, 0, none⟩) ys.length cap ∧ h' = h ∧ L' = (b, .cells (flat e ys ++ zs) E (0, 0)) :: (La ++ [])) ?_
        (so_append_grow (a := none) (m := 0) (c := 0) (k := ys.length) (olds := #[]) (news := flat e ys) ht hx hy hly (by omega) hby (by simpa using hlen) (rd_none _ _ _ _) hn fun b cap zs hc hz => ⟨b, cap, zs, by omega, by simpa using hz, by simp, rfl, by simp⟩)
      rintro u h' L' ⟨b, cap, zs, hc, hz, rfl, rfl, rfl⟩
      refine ⟨_, La ++ [(b, .cells (flat e ys ++ zs) E (0, 0))], List.Sublist.refl _, ?_, hK ⟨some ⟨b, 0, none⟩, ys.length, cap⟩ _ (.inr ⟨b, cap, zs, rfl, hc, rfl, hz⟩)⟩
      rw [List.append_nil]
      exact List.perm_append_singleton _ _
  · by_cases hroom : xs.length + ys.length ≤ cap
    · have hz : ys.length * e.sz ≤ zs.size := by
        rw [hzs]
        exact Nat.mul_le_mul_right e.sz (show ys.length ≤ cap - xs.length by omega)
      obtain ⟨up, hup, hupe⟩ := sel_last La b (.cells (flat e xs ++ zs) E (0, 0))
      refine so_append_room (k := ys.length) (news := flat e ys) (off := 0) ht hx hy hly hroom hup hn (flat_ones e _) ?_ ?_
      · simp [flat_size]; omega
      · rw [hupe, splice_end e xs ys zs hz]
        refine hK ⟨some ⟨b, 0, none⟩, xs.length + ys.length, cap⟩ _ (.inr ⟨b, cap, _, by simp, by simpa using hroom, rfl, ?_⟩)
        simp only [Array.size_extract, Nat.min_self, List.length_append, hzs]
        rw [show cap - xs.length = (cap - (xs.length + ys.length)) + ys.length by omega, Nat.add_mul]
        omega
    · obtain ⟨up, hup, hupe⟩ := sel_last La b (.cells (flat e xs ++ zs) E (0, 0))
      refine SO.postP (K := fun u h' L' => ∃ b2 cap2 zs2, xs.length + ys.length ≤ cap2 ∧ zs2.size = (cap2 - (xs.length + ys.length)) * e.sz ∧ u = .slice (some ⟨b2, 0, none⟩) (xs.length + ys.length) cap2 ∧ h' = h ∧ L' = (b2, .cells (flat e xs ++ flat e ys ++ zs2) E (0, 0)) :: (La ++ [(b, .cells (flat e xs ++ zs) E (0, 0))])) ?_
        (so_append_grow (a := some ⟨b, 0, none⟩) (m := xs.length) (c := cap) (k := ys.length) (olds := flat e xs) (news := flat e ys) ht hx hy hly (by omega) hby hlen ?_ hn fun b2 cap2 zs2 hc hz => ⟨b2, cap2, zs2, hc, hz, rfl, rfl, rfl⟩)
      · rintro u h' L' ⟨b2, cap2, zs2, hc, hz, rfl, rfl, rfl⟩
        refine ⟨(b2, .cells (flat e xs ++ flat e ys ++ zs2) E (0, 0)) :: La, La ++ [(b2, .cells (flat e (xs ++ ys) ++ zs2) E (0, 0))], .cons_cons _ (List.sublist_append_left _ _), ?_, hK ⟨some ⟨b2, 0, none⟩, xs.length + ys.length, cap2⟩ _ (.inr ⟨b2, cap2, zs2, by simp, by simpa using hc, rfl, by simpa using hz⟩)⟩
        rw [flat_append]
        exact List.perm_append_singleton _ _
      · exact rd_own hup (by simp [flat_size]) (by rw [Nat.zero_add, ← flat_size]; simp)
/-- One element more. -/
theorem so_appendOw {x y : Operand} {t E bytes : Nat} {s : SV} {xs : List α} {v : α} {b1 cp E1 : Nat} {fr : Nat × Nat} {f : Obj → OL} {N : OL} (La : OL) (ht : sliceE P t E e.sz bytes = true) (hN : OwS e E s xs N) (hlen : (2 * (xs.length + 1) + 192) * bytes ≤ 281474976710656) (hby : 0 < bytes) (hx : ev ρ x = sv s)
    (hy : ev ρ y = .slice (some ⟨b1, 0, none⟩) 1 cp) (hs : Sel (La ++ N) b1 (.cells (e.enc v) E1 fr) f) (hK : ∀ s' N', OwS e E s' (xs ++ [v]) N' → K (sv s') h (La ++ N')) :
    SO P w0 B h0 ρ h (La ++ N) ⟨d, .call ⟨.builtin .append, #[x, y], #[t, t]⟩, ty, pos, af, g⟩ K :=
  so_appendOwS (ys := [v]) La ht hN hlen hby hx hy (len_slice _ _ _) (rd_one hs) hK
/-- Elements appended to an empty slice literal. -/
theorem so_appendNew {x y : Operand} {t E bytes b : Nat} {ys : List α} {vy : Value} {La : OL} (ht : sliceE P t E e.sz bytes = true) (hlen : (2 * ys.length + 192) * bytes ≤ 281474976710656) (hby : 0 < bytes) (hx : ev ρ x = .slice (some ⟨b, 0, none⟩) 0 0)
    (hy : ev ρ y = vy) (hly : ∀ w, (Builtin.lenOf vy).run P w = .ok ys.length w) (hn : ∀ L, Rd P h L e.sz vy ys.length (flat e ys)) (hK : ∀ s' N', OwS e E s' ys N' → K (sv s') h (La ++ N')) :
    SO P w0 B h0 ρ h ((b, .cells #[] E (0, 0)) :: La) ⟨d, .call ⟨.builtin .append, #[x, y], #[t, t]⟩, ty, pos, af, g⟩ K :=
  so_weaken (List.perm_append_singleton _ _) (so_appendOwS (s := ⟨some ⟨b, 0, none⟩, 0, 0⟩) (xs := []) (ys := ys) (N := [(b, .cells #[] E (0, 0))]) La ht (.inr ⟨b, 0, #[], rfl, Nat.le_refl _, rfl, by simp⟩) (by simpa using hlen) hby hx hy hly (hn _) fun s' N' hN => hK s' N' hN)
theorem len_svh {s : SV} {xs : List α} (x : SlH e h s xs) (w : World) : (Builtin.lenOf (sv s)).run P w = .ok xs.length w := by rw [sv, len_slice, x.1]

/-- A slice that is made: zeros. -/
theorem made_flat (z0 : α) (cap : Nat) : ((Array.range (cap * e.sz)).map fun j => (e.enc z0)[j % (e.enc z0).size]!) = flat e (List.replicate cap z0) := by
  apply Array.ext_getElem?
  intro j
  have hfs := flat_size e (List.replicate cap z0)
  rw [List.length_replicate] at hfs
  by_cases hj : j < cap * e.sz
  · have hm : j % e.sz < e.sz := Nat.mod_lt _ e.pos
    have hdlt : j / e.sz < cap := (Nat.div_lt_iff_lt_mul e.pos).2 hj
    have h2 := congrArg (fun a => a[j % e.sz]?) (flat_get e (List.replicate cap z0) (j / e.sz) (by simpa using hdlt))
    simp only [Array.getElem?_extract, List.getElem_replicate] at h2
    have hmul : j / e.sz * e.sz + e.sz ≤ cap * e.sz := by
      have := Nat.mul_le_mul_right e.sz (Nat.succ_le_of_lt hdlt)
      rw [Nat.succ_mul] at this; exact this
    have hdm : j / e.sz * e.sz + j % e.sz = j := by rw [Nat.mul_comm]; exact Nat.div_add_mod j e.sz
    rw [if_pos (by omega), hdm] at h2
    rw [h2]
    have hm' : j % e.sz < (e.enc z0).size := by rw [e.size]; exact hm
    simp only [e.size, Array.getElem?_map, Array.getElem?_range, hj, if_true, Option.map_some]
    rw [getElem!_pos (e.enc z0) (j % e.sz) hm', Array.getElem?_eq_getElem hm']
  · rw [Array.getElem?_eq_none (by simp; omega), Array.getElem?_eq_none (by omega)]
theorem so_makeSliceE {t E bytes len cap : Nat} {x y : Operand} {z : Value} {z0 : α} (ht : sliceE P t E e.sz bytes = true) (hz : zeroOf P E = some z) (hzc : z.cells = e.enc z0) (hx : ev ρ x = .int .i64 len) (hy : ev ρ y = .int .i64 cap) (hle : len ≤ cap) (hby : 0 < bytes) (hb : bytes * cap ≤ 281474976710656)
    (hK : ∀ b, K (.slice (some ⟨b, 0, none⟩) len cap) h ((b, .cells (flat e (List.replicate cap z0)) E (0, 0)) :: L)) : SO P w0 B h0 ρ h L ⟨d, .makeSlice t x y, ty, pos, af, g⟩ K := fun w s => by
  obtain ⟨i, z', hu, hi, hsz, hbs, hz', hzs⟩ := sliceE_out ht
  have hcap : cap ≤ 281474976710656 := by have := Nat.le_mul_of_pos_left cap hby; omega
  have hb' : ((i.bytes : Int) * (cap : Int)) ≤ 281474976710656 := by rw [hbs, ← Int.natCast_mul]; omega
  have hzz : z' = z := by
    unfold zeroOf at hz
    rw [hi] at hz
    simp only [Option.bind_some, hz'] at hz
    exact Option.some.inj hz
  have hr := run_make (P := P) w t E i z' hu hi hz' .i64 .i64 len cap (by omega) (by omega) hb' (by omega)
  have : (execOp (ev ρ) ⟨d, .makeSlice t x y, ty, pos, af, g⟩).run P w = .ok (.value (.slice (some ⟨w.heap.size, 0, none⟩) len cap)) (w.alloc (.cells (flat e (List.replicate cap z0)) E)) := by
    simp only [execOp, hx, hy, Sem.run_bind, hr, Result.andThen_ok, Int.toNat_natCast, hsz, hzz, hzc]
    rw [← made_flat]
    rfl
  rw [this]
  exact ⟨_, _, hK _, s.alloc _⟩

theorem wq_sub {ex : Exit} {L' : OL} (hs : List.Sublist L' L) (x : WQ w0 B h0 n Q ex ds ρ h L') : WQ w0 B h0 n Q ex ds ρ h L := fun a w en s => x a w en (s.drop hs)
theorem xp_sub {c : Code} {L' : OL} (hs : List.Sublist L' L) (x : WP r P w0 B h0 n c Q ds ρ h L') : WP r P w0 B h0 n c Q ds ρ h L := fun a w en s => x a w en (s.drop hs)
/-- 'x[:k]' -/
theorem ro_slice_to {T E size bytes k : Nat} {x y : Operand} {s : SV} (ht : sliceE P T E size bytes = true) (hx : ev ρ x = sv s) (hy : ev ρ y = .int .i64 k) (hk : k ≤ s.cap) :
    RO P ρ h L ⟨d, .slice T x none (some y) none, ty, pos, af, g⟩ (sv ⟨if s.cap = 0 then s.a else s.a.map (·.add 0), k, s.cap⟩) :=
  (ro_slice (l := 0) (hh := k) (mm := s.cap) ht hx (fun w => by
    simp [Instr.sliceBounds, Instr.sliceBound, hy, asIntOf, hk])).as (by simp [sv])
theorem Bytes.to {s : SV} {xs ys : List (BitVec 8)} (x : Bytes h s (xs ++ ys)) : Bytes h ⟨if s.cap = 0 then s.a else s.a.map (·.add 0), xs.length, s.cap⟩ xs := by
  obtain ⟨h1, h2, h3⟩ := x
  simp only [List.length_append] at h1
  refine ⟨rfl, by show xs.length ≤ s.cap; omega, ?_⟩
  by_cases hx : xs = []
  · exact .inl hx
  · rcases h3 with h3 | ⟨b, off, c, E, fr, ha, hb, hsz, hc⟩
    · exact .inl (by simpa using (List.append_eq_nil_iff.1 h3).1)
    · have hpos : 0 < xs.length := List.length_pos_iff.2 hx
      refine .inr ⟨b, off, c, E, fr, ?_, hb, by simp only [List.length_append] at hsz; omega, fun i hi => ?_⟩
      · show (if s.cap = 0 then s.a else s.a.map (·.add 0)) = _
        rw [if_neg (by omega), ha]; simp [add_addr]
      · have := hc i (by simp; omega)
        rw [this]
        simp [bget, List.getD_eq_getElem?_getD, List.getElem?_append, hi]
/-- A slice of the call's own that is written no more. -/
theorem wq_freezeOw {ex : Exit} {E : TypeId} {s : SV} {xs : List α} {N La : OL} (hN : OwS e E s xs N) (hb : ∀ p ∈ N, p.1 ∉ B) (x : ∀ h', h.le h' → SlH e h' s xs → WQ w0 B h0 n Q ex ds ρ h' La) : WQ w0 B h0 n Q ex ds ρ h (La ++ N) := by
  rcases hN with ⟨rfl, rfl, rfl⟩ | ⟨b, cap, zs, rfl, hcap, rfl, hzs⟩
  · rw [List.append_nil]; exact x h (PH.le_refl _) (SlH.nil e h)
  · have hd : Del (La ++ [(b, Obj.cells (flat e xs ++ zs) E (0, 0))]) b (.cells (flat e xs ++ zs) E (0, 0)) (La ++ []) := by
      clear x
      induction La with
      | nil => exact .head
      | cons p La ih => exact .tail ih
    rw [List.append_nil] at hd
    exact wq_freeze hd (hb _ (List.mem_singleton.2 rfl)) fun h' hl hb' => x h' hl ⟨rfl, hcap, .inr ⟨b, 0, _, E, _, rfl, hb', Holds.of e xs zs⟩⟩
theorem xp_freezeOw {c : Code} {E : TypeId} {s : SV} {xs : List α} {N La : OL} (hN : OwS e E s xs N) (hb : ∀ p ∈ N, p.1 ∉ B) (x : ∀ h', h.le h' → SlH e h' s xs → WP r P w0 B h0 n c Q ds ρ h' La) : WP r P w0 B h0 n c Q ds ρ h (La ++ N) := by
  rcases hN with ⟨rfl, rfl, rfl⟩ | ⟨b, cap, zs, rfl, hcap, rfl, hzs⟩
  · rw [List.append_nil]; exact x h (PH.le_refl _) (SlH.nil e h)
  · have hd : Del (La ++ [(b, Obj.cells (flat e xs ++ zs) E (0, 0))]) b (.cells (flat e xs ++ zs) E (0, 0)) (La ++ []) := by
      clear x
      induction La with
      | nil => exact .head
      | cons p La ih => exact .tail ih
    rw [List.append_nil] at hd
    exact xp_freeze hd (hb _ (List.mem_singleton.2 rfl)) fun h' hl hb' => x h' hl ⟨rfl, hcap, .inr ⟨b, 0, _, E, _, rfl, hb', Holds.of e xs zs⟩⟩
end
/-! ### Equal lists, element by element -/
theorem take_step {α : Type} {xs ys : List α} {i : Nat} (h : xs.take i = ys.take i) (hx : xs[i]? = ys[i]?) : xs.take (i + 1) = ys.take (i + 1) := by
  rw [List.take_add_one, List.take_add_one, h, hx]
theorem take_stepB {xs ys : List (BitVec 8)} {i : Nat} (h : xs.take i = ys.take i) (h1 : i < xs.length) (h2 : i < ys.length) (hx : bget xs i = bget ys i) : xs.take (i + 1) = ys.take (i + 1) :=
  take_step h (by simpa [bget, h1, h2, List.getD_eq_getElem?_getD] using hx)
theorem take_all {α : Type} {xs ys : List α} {i : Nat} (h : xs.take i = ys.take i) (hi : xs.length ≤ i) (hl : xs.length = ys.length) : xs = ys := by
  rw [List.take_of_length_le hi, List.take_of_length_le (by omega)] at h; exact h
/-- A byte slice as a slice of typed values. -/
theorem Bytes.slh {h : PH} {s : SV} {xs : List (BitVec 8)} (x : Bytes h s xs) : SlH eByte h s xs := by
  obtain ⟨h1, h2, h3⟩ := x
  refine ⟨h1, h2, h3.imp id ?_⟩
  rintro ⟨b, off, c, E, fr, ha, hb, hsz, hc⟩
  refine ⟨b, off, c, E, fr, ha, hb, holds_ext eByte (by simpa [eByte] using hsz) fun i hi => ?_⟩
  have := hc i hi
  apply Array.ext_getElem?
  intro k
  rw [Array.getElem?_extract]
  have e1 : eByte.sz = 1 := rfl
  by_cases hk : k = 0
  · subst hk
    rw [if_pos (by rw [e1]; omega), e1, Nat.mul_one, Nat.add_zero, this]
    simp [eByte, bget, hi]
  · rw [if_neg (by rw [e1]; omega), Array.getElem?_eq_none (by simp [eByte]; omega)]
theorem SlH.bytes {h : PH} {s : SV} {xs : List (BitVec 8)} (x : SlH eByte h s xs) : Bytes h s xs := by
  obtain ⟨h1, h2, h3⟩ := x
  refine ⟨h1, h2, h3.imp id ?_⟩
  rintro ⟨b, off, c, E, fr, ha, hb, hc⟩
  refine ⟨b, off, c, E, fr, ha, hb, by simpa [eByte] using hc.1, fun i hi => ?_⟩
  have h2 := congrArg (fun a => a[0]?) (hc.at eByte i hi).2
  simp only [Array.getElem?_extract] at h2
  have e1 : eByte.sz = 1 := rfl
  have h3 := (hc.at eByte i hi).1
  rw [e1] at h2 h3
  rw [if_pos (by omega), Nat.mul_one, Nat.add_zero] at h2
  rw [h2]
  simp [eByte, bget, hi]
theorem encB_flat (xs : List (BitVec 8)) : encB xs = flat eByte xs := by
  induction xs with
  | nil => rfl
  | cons x xs ih => rw [flat_cons, ← ih]; simp [encB, eByte]
end Go.Sx
