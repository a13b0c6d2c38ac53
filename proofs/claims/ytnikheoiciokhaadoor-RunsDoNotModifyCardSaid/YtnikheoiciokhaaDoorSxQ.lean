/-
  THE LAYER, EIGHTH PART (own work): slice literals of any length; slicing an array; max; tables of strings; equality of typed values.
-/
import Derived.Test.YtnikheoiciokhaaDoorSxE
namespace Go.Sx
open Go
set_option linter.unusedVariables false
set_option linter.unusedSimpArgs false

section
variable {r : Option Nat} {P : Program} {w0 : World} {B : List Nat} {h0 : PH} {n : Nat} {Q : Exit → Act → World → Prop} {ds : List Deferred} {ρ : Nat → Value} {h : PH} {L : OL} {d : Option Tmp} {ty : TypeId} {pos : String} {af : Array Edge} {g : Option (Nat × Bool)} {K : Value → PH → OL → Prop}

theorem so_buildSliceC {t e size bytes len : Nat} {z : Value} {parts : List (Nat × Operand)} {cs : Array Value} (ht : sliceE P t e size bytes = true) (hz : zeroOf P e = some z) (hbig : Nat.ble (len * size) 16777216 = true) (hpos : Nat.beq (len * size) 0 = false)
    (hc : Instr.fill (fun i => some (i * size, size)) ((Array.range (len * size)).map (z.cells[· % z.cells.size]!)) (parts.map fun p => (p.1, ev ρ p.2)) = some cs)
    (hK : ∀ b, K (.slice (some ⟨b, 0, none⟩) len len) h ((b, .cells cs e (0, 0)) :: L)) : SO P w0 B h0 ρ h L ⟨d, .buildSlice t len parts.toArray, ty, pos, af, g⟩ K := fun w s => by
  obtain ⟨i, z', hu, hi, hsz, hby, hz', hzs⟩ := sliceE_out ht
  have hne : ¬ (len * size = 0) := fun e0 => by rw [e0] at hpos; cases hpos
  have hle : ¬ (len * size > 2 ^ 24) := by have := Nat.le_of_ble_eq_true hbig; omega
  have : (execOp (ev ρ) ⟨d, .buildSlice t len parts.toArray, ty, pos, af, g⟩).run P w = .ok (.value (.slice (some ⟨w.heap.size, 0, none⟩) len len)) (w.alloc (.cells cs e)) := by
    simp only [execOp, Instr.buildSlice, Sem.run_bind, run_underlying hu, Result.andThen_ok, run_sizeOf hi, hsz, hle, if_false, hne, run_zeroValue hz, Sem.run_pure, List.map_toArray]
    rw [show (List.map (fun x : Nat × Operand => (x.1, ev ρ x.2)) parts) = parts.map fun p => (p.1, ev ρ p.2) from rfl, hc]
    simp [newRow]
  rw [this]
  exact ⟨_, _, hK _, s.alloc _⟩

/-- The whole of an array, as a slice. -/
theorem ro_sliceArr {T : TypeId} {x : Operand} {b off len size : Nat} (ht : arrayB P T len size = true) (hx : ev ρ x = .pointer (some ⟨b, off, none⟩)) :
    RO P ρ h L ⟨d, .slice T x none none none, ty, pos, af, g⟩ (.slice (some ⟨b, off, none⟩) len len) := fun w _ => by
  obtain ⟨e, i, hu, hi, hs⟩ := arrayB_out ht
  simp [execOp, hx, Instr.sliceAt, Instr.sureAddr, run_underlying hu, Instr.sliceBounds, Instr.sliceBound, run_sizeOf hi, add_addr]
theorem ro_max {x y : Operand} {ts : Array TypeId} {a b : Int} (hx : ev ρ x = int a) (hy : ev ρ y = int b) : RO P ρ h L ⟨d, .call ⟨.builtin .max, #[x, y], ts⟩, ty, pos, af, g⟩ (int (max a b)) := fun w _ => by
  have : max a b = if b > a then b else a := by omega
  simp [execOp, hx, hy, resolve, invoke, builtin, run_max_int2, this]

/-- A loop that leaves memory alone. -/
theorem xp_loopP {A : Type} {c : Code} (ws : List Nat) (k : A → Nat) (vals : A → List (Nat × Value)) (J : A → Prop) (x0 : A) (hs : Slots (vals x0) ρ) (hJ : J x0)
    (round : ∀ x us, J x → WP r P w0 B h0 n c (Exit.then (LoopK w0 B h0 n ds (InvE ws k vals (fun x h' L' => J x ∧ h' = h ∧ L' = L) ρ) (k x)) Q) ds (upds (vals x) (ovr ws us ρ)) h L) : WP r P w0 B h0 n (.loop c) Q ds ρ h L :=
  xp_loopE ws k vals (fun x h' L' => J x ∧ h' = h ∧ L' = L) x0 hs ⟨hJ, rfl, rfl⟩ fun x us h' L' ⟨hx, e1, e2⟩ => by subst e1; subst e2; exact round x us hx
theorem wq_loopP {A : Type} {ws : List Nat} {k : A → Nat} {vals : A → List (Nat × Value)} {J : A → Prop} {ρ' : Nat → Value} {κ : Nat} (x : A) (hk : k x < κ) (ho : Out ws ρ' ρ) (hs : Slots (vals x) ρ') (hJ : J x) :
    WQ w0 B h0 n (Exit.then (LoopK w0 B h0 n ds (InvE ws k vals (fun x h' L' => J x ∧ h' = h ∧ L' = L) ρ) κ) Q) .normal ds ρ' h L :=
  wq_loopE x hk ho hs ⟨hJ, rfl, rfl⟩

/-- A table of strings. -/
def TabS (h : PH) (b len : Nat) (f : Nat → ByteArray) : Prop := ∃ c E fr, h b = some (.cells c E fr) ∧ ∀ i, i < len → c[0 + i]? = some (.string (f i))
theorem TabS.mono {h k : PH} {b len : Nat} {f : Nat → ByteArray} (x : TabS h b len f) (hk : h.le k) : TabS k b len f := by
  obtain ⟨c, E, fr, h1, h2⟩ := x; exact ⟨c, E, fr, hk _ _ h1, h2⟩
theorem ro_tabS {T : TypeId} {x : Operand} {b len i : Nat} {f : Nat → ByteArray} (ht : scalarB P T = true) (hx : ev ρ x = .pointer (some ⟨b, 0 + i, none⟩)) (tb : TabS h b len f) (hi : i < len) : RO P ρ h L ⟨d, .load T x, ty, pos, af, g⟩ (.string (f i)) := by
  obtain ⟨c, E, fr, h1, h2⟩ := tb
  exact ro_loadH ht hx h1 (h2 i hi)
theorem ro_indexAddr_s1 {T : TypeId} {x y : Operand} {len cap b off : Nat} {k : IntKind} (i : Nat) {j : Int} (ht : sliceB P T 1 = true) (hx : ev ρ x = .slice (some ⟨b, off, none⟩) len cap) (hy : ev ρ y = .int k j) (hj : j = i) (h1 : i < len) :
    RO P ρ h L ⟨d, .indexAddr T x y, ty, pos, af, g⟩ (.pointer (some ⟨b, off + i, none⟩)) := by
  subst hj
  exact (ro_indexAddr_slice ht hx hy (by omega) (by omega)).as (by simp)
theorem ro_len_string {x : Operand} {T : TypeId} {s : ByteArray} (ht : P.underlying T = some .string) (hx : ev ρ x = .string s) : RO P ρ h L ⟨d, .call ⟨.builtin .len, #[x], #[T]⟩, ty, pos, af, g⟩ (int (s.size : Int)) := fun w _ => by
  simp [execOp, hx, resolve, invoke, builtin, Builtin.len_, run_underlying ht, goInt]
theorem slot_t {ρ : Nat → Value} {t : Nat} {a b : ByteArray} (hx : ρ t = .string a) (e : a = b) : ρ t = .string b := e ▸ hx
end

/-! ### Equality of typed values -/
section
variable {P : Program}
theorem eqb_words {n : Nat} (a b : Vector (BitVec 32) n) : decide (∀ i, i < n → rget a i = rget b i) = decide (a = b) := by
  rw [decide_eq_decide]
  exact ⟨rget_ext, fun e i _ => by rw [e]⟩
theorem eq_V12 {d T e : Nat} (ht : P.underlying T = some (.array 12 e)) (he : P.underlying e = some (.int .u32)) (hs : scalarB P e = true) (a b : V12) : EqR P (d + 2) T (.agg (encV12 a)) (.agg (encV12 b)) (decide (a = b)) :=
  (eq_words ht he hs (fun i hi => by have := get_V12_at a i hi; rwa [Nat.zero_add] at this) (fun i hi => by have := get_V12_at b i hi; rwa [Nat.zero_add] at this)).as (eqb_words a b)
theorem eq_V16 {d T e : Nat} (ht : P.underlying T = some (.array 16 e)) (he : P.underlying e = some (.int .u32)) (hs : scalarB P e = true) (a b : V16) : EqR P (d + 2) T (.agg (encV16 a)) (.agg (encV16 b)) (decide (a = b)) :=
  (eq_words ht he hs (fun i hi => by have := get_V16_at a i hi; rwa [Nat.zero_add] at this) (fun i hi => by have := get_V16_at b i hi; rwa [Nat.zero_add] at this)).as (eqb_words a b)
theorem eq_u32 {d t : Nat} {k' : IntKind} {a b : BitVec 32} (ht : P.underlying t = some (.int k')) : EqR P (d + 1) t (u32 a) (u32 b) (decide (a = b)) := (eq_int ht).as (by
  rw [decide_eq_decide, BitVec.toNat_eq]; exact Int.ofNat_inj)
theorem eq_u64 {d t : Nat} {k' : IntKind} {a b : BitVec 64} (ht : P.underlying t = some (.int k')) : EqR P (d + 1) t (u64 a) (u64 b) (decide (a = b)) := (eq_int ht).as (by
  rw [decide_eq_decide, BitVec.toNat_eq]; exact Int.ofNat_inj)
theorem eq_Int {d t : Nat} {k' : IntKind} {a b : Int} (ht : P.underlying t = some (.int k')) : EqR P (d + 1) t (int a) (int b) (decide (a = b)) := eq_int ht
theorem eqb_Trap (a b : Trap) : (decide (a.cause = b.cause) && (decide (a.tval = b.tval) && true)) = decide (a = b) := by
  cases a; cases b; rw [Bool.eq_iff_iff]; simp
theorem eqb_Event (a b : Event) : (decide (a.kind = b.kind) && (decide (a.at_ = b.at_) && (decide (a.time = b.time) && true))) = decide (a = b) := by
  cases a; cases b; rw [Bool.eq_iff_iff]; simp
theorem eqb_Core (a b : Core) : (decide (a.regs = b.regs) && (decide (a.pc = b.pc) && (decide (a.csr = b.csr) && true))) = decide (a = b) := by
  cases a; cases b; rw [Bool.eq_iff_iff]; simp
theorem eqb_Partition (a b : Partition) : (decide (a.base = b.base) && (decide (a.size = b.size) && true)) = decide (a = b) := by
  cases a; cases b; rw [Bool.eq_iff_iff]; simp
theorem eqb_Instr (a b : Instr) : (decide (a.op = b.op) && (decide (a.rd = b.rd) && (decide (a.ra = b.ra) && (decide (a.rb = b.rb) && (decide (a.imm = b.imm) && true))))) = decide (a = b) := by
  cases a; cases b; rw [Bool.eq_iff_iff]; simp
end
end Go.Sx
