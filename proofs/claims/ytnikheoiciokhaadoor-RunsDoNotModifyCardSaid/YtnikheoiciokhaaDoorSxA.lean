/-
  A LAYER OVER THE KIT'S 'Code.wpIn' at the wide fence (own work): symbolic states without a world in sight.
  'PH': memory that is known and that nobody writes any more; 'OL': the blocks that the call itself may write; 'St': how a world stands to both.
  'Ct': a contract of a Go function. 'WP', 'WL', 'WQ': what is left to run, over an environment of temporaries.
-/
import Derived.TacticsIn
import Derived.OrdersIn
import Derived.RangeFuncLeaves
import Derived.RangeFuncRecord
import Derived.Below
namespace Go.Sx
open Go

/-! ### Memory -/

abbrev PH := Nat → Option Obj
abbrev OL := List (Nat × Obj)

def PH.le (h k : PH) : Prop := ∀ b o, h b = some o → k b = some o
theorem PH.le_refl (h : PH) : h.le h := fun _ _ e => e
theorem PH.le_trans {h k l : PH} (a : h.le k) (b : k.le l) : h.le l := fun x o e => b x o (a x o e)
def PH.inn (h : PH) (w : World) : Prop := ∀ b o, h b = some o → w.heap[b]? = some o

/-- The world 'w' of a call that began in 'w0' (where it knew 'h0' and was handed the blocks 'B' to write): it knows 'h' by now, and the blocks 'L' are its to write. -/
structure St (w0 : World) (B : List Nat) (h0 h : PH) (L : OL) (w : World) : Prop where
  os : w.os = w0.os
  tape : w.tape = w0.tape
  output : w.output = w0.output
  sz : w0.heap.size ≤ w.heap.size
  old : ∀ b, b < w0.heap.size → b ∉ B → w.heap[b]? = w0.heap[b]?
  inn : h.inn w
  le : h0.le h
  new : ∀ b o, h b = some o → h0 b = some o ∨ w0.heap.size ≤ b
  own : ∀ p ∈ L, w.heap[p.1]? = some p.2 ∧ h p.1 = none ∧ (w0.heap.size ≤ p.1 ∨ p.1 ∈ B)
  nd : (L.map Prod.fst).Nodup

theorem St.start {w : World} {h : PH} {L : OL} (hi : h.inn w) (ho : ∀ p ∈ L, w.heap[p.1]? = some p.2 ∧ h p.1 = none) (hn : (L.map Prod.fst).Nodup) :
    St w (L.map Prod.fst) h h L w :=
  ⟨rfl, rfl, rfl, Nat.le_refl _, fun _ _ _ => rfl, hi, PH.le_refl _, fun _ _ e => .inl e, fun p hp => ⟨(ho p hp).1, (ho p hp).2, .inr (List.mem_map.2 ⟨p, hp, rfl⟩)⟩, hn⟩

/-- The block 'b' of the list, its content, and the list with another content in its place. -/
inductive Sel : OL → Nat → Obj → (Obj → OL) → Prop
  | head {b : Nat} {o : Obj} {L : OL} : Sel ((b, o) :: L) b o (fun o' => (b, o') :: L)
  | tail {b : Nat} {o : Obj} {L : OL} {p : Nat × Obj} {f : Obj → OL} : Sel L b o f → Sel (p :: L) b o (fun o' => p :: f o')

theorem Sel.mem {L : OL} {b : Nat} {o : Obj} {f : Obj → OL} (h : Sel L b o f) : (b, o) ∈ L := by
  induction h with
  | head => exact List.mem_cons_self
  | tail _ ih => exact List.mem_cons_of_mem _ ih
theorem Sel.fst {L : OL} {b : Nat} {o : Obj} {f : Obj → OL} (h : Sel L b o f) (o' : Obj) : (f o').map Prod.fst = L.map Prod.fst := by
  induction h with
  | head => rfl
  | tail _ ih => simp [ih]
theorem Sel.mem_f {L : OL} {b : Nat} {o : Obj} {f : Obj → OL} (h : Sel L b o f) (hn : (L.map Prod.fst).Nodup) (o' : Obj) :
    ∀ p ∈ f o', p = (b, o') ∨ (p ∈ L ∧ p.1 ≠ b) := by
  induction h with
  | head =>
    intro p hp
    simp only [List.map_cons, List.nodup_cons] at hn
    rcases List.mem_cons.1 hp with rfl | hp
    · exact .inl rfl
    · exact .inr ⟨List.mem_cons_of_mem _ hp, fun e => hn.1 (e ▸ List.mem_map.2 ⟨p, hp, rfl⟩)⟩
  | tail hs ih =>
    intro p hp
    simp only [List.map_cons, List.nodup_cons] at hn
    rcases List.mem_cons.1 hp with rfl | hp
    · refine .inr ⟨List.mem_cons_self, fun e => hn.1 ?_⟩
      rw [e]; exact List.mem_map.2 ⟨_, hs.mem, rfl⟩
    · rcases ih hn.2 p hp with h | ⟨h1, h2⟩
      · exact .inl h
      · exact .inr ⟨List.mem_cons_of_mem _ h1, h2⟩

/-- The list without the block 'b'. -/
inductive Del : OL → Nat → Obj → OL → Prop
  | head {b : Nat} {o : Obj} {L : OL} : Del ((b, o) :: L) b o L
  | tail {b : Nat} {o : Obj} {L L' : OL} {p : Nat × Obj} : Del L b o L' → Del (p :: L) b o (p :: L')
theorem Del.mem {L L' : OL} {b : Nat} {o : Obj} (h : Del L b o L') : (b, o) ∈ L := by
  induction h with
  | head => exact List.mem_cons_self
  | tail _ ih => exact List.mem_cons_of_mem _ ih
theorem Del.sub {L L' : OL} {b : Nat} {o : Obj} (h : Del L b o L') : List.Sublist L' L := by
  induction h with
  | head => exact List.sublist_cons_self _ _
  | tail _ ih => exact ih.cons_cons _
theorem Del.not {L L' : OL} {b : Nat} {o : Obj} (h : Del L b o L') (hn : (L.map Prod.fst).Nodup) : ∀ p ∈ L', p.1 ≠ b := by
  induction h with
  | head =>
    intro p hp e
    simp only [List.map_cons, List.nodup_cons] at hn
    exact hn.1 (e ▸ List.mem_map.2 ⟨p, hp, rfl⟩)
  | tail hd ih =>
    intro p hp e
    simp only [List.map_cons, List.nodup_cons] at hn
    rcases List.mem_cons.1 hp with rfl | hp
    · exact hn.1 (e ▸ List.mem_map.2 ⟨_, hd.mem, rfl⟩)
    · exact ih hn.2 p hp e

theorem lt_of_some {w : World} {b : Nat} {o : Obj} (h : w.heap[b]? = some o) : b < w.heap.size := by
  rcases Nat.lt_or_ge b w.heap.size with h' | h'
  · exact h'
  · simp [Array.getElem?_eq_none h'] at h

section
variable {w0 w : World} {B : List Nat} {h0 h : PH} {L : OL}

theorem heap_alloc_lt {o : Obj} {b : Nat} (hb : b < w.heap.size) : (w.alloc o).heap[b]? = w.heap[b]? := Go.RowKit.Below.heap_alloc w o b hb
theorem heap_alloc_some {o x : Obj} {b : Nat} (hb : w.heap[b]? = some x) : (w.alloc o).heap[b]? = some x := by
  rw [heap_alloc_lt (lt_of_some hb)]; exact hb
theorem heap_alloc_new {o : Obj} : (w.alloc o).heap[w.heap.size]? = some o := by
  show (w.heap.push o)[w.heap.size]? = _
  simp

theorem St.alloc (s : St w0 B h0 h L w) (o : Obj) : St w0 B h0 h ((w.heap.size, o) :: L) (w.alloc o) where
  os := s.os
  tape := s.tape
  output := s.output
  sz := by have := s.sz; simp; omega
  old b hb hn := by rw [heap_alloc_lt (by have := s.sz; omega)]; exact s.old b hb hn
  inn b x hx := heap_alloc_some (s.inn b x hx)
  le := s.le
  new := s.new
  own p hp := by
    rcases List.mem_cons.1 hp with rfl | hp
    · refine ⟨heap_alloc_new, ?_, .inl s.sz⟩
      show h w.heap.size = none
      cases hh : h w.heap.size with
      | none => rfl
      | some x => exact absurd (lt_of_some (s.inn _ _ hh)) (Nat.lt_irrefl _)
    · exact ⟨heap_alloc_some (s.own p hp).1, (s.own p hp).2⟩
  nd := by
    simp only [List.map_cons, List.nodup_cons]
    refine ⟨fun hm => ?_, s.nd⟩
    obtain ⟨p, hp, e⟩ := List.mem_map.1 hm
    have := lt_of_some (s.own p hp).1
    rw [e] at this
    exact absurd this (Nat.lt_irrefl _)

theorem St.drew (s : St w0 B h0 h L w) (n : Nat) : St w0 B h0 h L { w with drawn := n } := ⟨s.os, s.tape, s.output, s.sz, s.old, s.inn, s.le, s.new, s.own, s.nd⟩

/-- A block of the call's own is written. -/
theorem St.put (s : St w0 B h0 h L w) {b : Nat} {o : Obj} {f : Obj → OL} (hs : Sel L b o f) {o' : Obj} {w' : World}
    (hos : w'.os = w.os) (htape : w'.tape = w.tape) (hout : w'.output = w.output) (hsz : w'.heap.size = w.heap.size)
    (hb : w'.heap[b]? = some o') (hne : ∀ k, k ≠ b → w'.heap[k]? = w.heap[k]?) : St w0 B h0 h (f o') w' where
  os := hos.trans s.os
  tape := htape.trans s.tape
  output := hout.trans s.output
  sz := by rw [hsz]; exact s.sz
  old k hk hn := by
    rw [hne k ?_]
    · exact s.old k hk hn
    · rintro rfl
      rcases (s.own _ hs.mem).2.2 with h | h
      · simp at h; omega
      · exact hn h
  inn k x hx := by
    rw [hne k ?_]
    · exact s.inn k x hx
    · rintro rfl
      rw [(s.own _ hs.mem).2.1] at hx
      cases hx
  le := s.le
  new := s.new
  own p hp := by
    rcases hs.mem_f s.nd o' p hp with rfl | ⟨hp, hpb⟩
    · exact ⟨hb, (s.own _ hs.mem).2⟩
    · exact ⟨by rw [hne _ hpb]; exact (s.own p hp).1, (s.own p hp).2⟩
  nd := by rw [hs.fst]; exact s.nd

/-- A block of the call's own that is private and will not be written any more. -/
theorem St.freeze (s : St w0 B h0 h L w) {b : Nat} {o : Obj} {L' : OL} (hd : Del L b o L') (hb : b ∉ B) :
    St w0 B h0 (fun x => if x = b then some o else h x) L' w where
  os := s.os
  tape := s.tape
  output := s.output
  sz := s.sz
  old := s.old
  inn x y hx := by
    by_cases e : x = b
    · subst e; simp at hx; rw [← hx]; exact (s.own _ hd.mem).1
    · simp [e] at hx; exact s.inn x y hx
  le x y hx := by
    by_cases e : x = b
    · subst e
      have := s.le x y hx
      rw [(s.own _ hd.mem).2.1] at this; cases this
    · simp [e]; exact s.le x y hx
  new x y hx := by
    by_cases e : x = b
    · subst e
      rcases (s.own _ hd.mem).2.2 with h | h
      · exact .inr h
      · exact absurd h hb
    · simp [e] at hx; exact s.new x y hx
  own p hp := by
    have hne := hd.not s.nd p hp
    have := s.own p (hd.sub.subset hp)
    simp [hne]; exact this
  nd := (hd.sub.map Prod.fst).nodup s.nd

theorem freeze_le {b : Nat} {o : Obj} (hn : h b = none) : h.le (fun x => if x = b then some o else h x) := by
  intro x y hx
  by_cases e : x = b
  · subst e; rw [hn] at hx; cases hx
  · simp [e]; exact hx

theorem St.drop (s : St w0 B h0 h L w) {L' : OL} (hs : List.Sublist L' L) : St w0 B h0 h L' w :=
  ⟨s.os, s.tape, s.output, s.sz, s.old, s.inn, s.le, s.new, fun p hp => s.own p (hs.subset hp), (hs.map Prod.fst).nodup s.nd⟩

/-- Behind a call that was handed no block. -/
theorem St.call (s : St w0 B h0 h L w) {h' : PH} {w' : World} (t : St w [] h h' [] w') : St w0 B h0 h' L w' where
  os := t.os.trans s.os
  tape := t.tape.trans s.tape
  output := t.output.trans s.output
  sz := Nat.le_trans s.sz t.sz
  old b hb hn := by rw [t.old b (Nat.lt_of_lt_of_le hb s.sz) (by simp)]; exact s.old b hb hn
  inn := t.inn
  le := PH.le_trans s.le t.le
  new b o hx := by
    rcases t.new b o hx with h | h
    · exact s.new b o h
    · exact .inr (Nat.le_trans s.sz h)
  own p hp := by
    have := s.own p hp
    have hlt := lt_of_some this.1
    refine ⟨by rw [t.old _ hlt (by simp)]; exact this.1, ?_, this.2.2⟩
    cases hh : h' p.1 with
    | none => rfl
    | some x =>
      rcases t.new _ _ hh with h | h
      · rw [this.2.1] at h; cases h
      · omega
  nd := s.nd

/-- Behind a call that was handed one block. -/
theorem St.call1 (s : St w0 B h0 h L w) {h' : PH} {w' : World} {b : Nat} {o o' : Obj} {f : Obj → OL} (hs : Sel L b o f) (t : St w [b] h h' [(b, o')] w') : St w0 B h0 h' (f o') w' where
  os := t.os.trans s.os
  tape := t.tape.trans s.tape
  output := t.output.trans s.output
  sz := Nat.le_trans s.sz t.sz
  old k hk hn := by
    rw [t.old k (Nat.lt_of_lt_of_le hk s.sz) ?_]
    · exact s.old k hk hn
    · simp only [List.mem_singleton]
      rintro rfl
      rcases (s.own _ hs.mem).2.2 with h | h
      · simp at h; omega
      · exact hn h
  inn := t.inn
  le := PH.le_trans s.le t.le
  new x y hx := by
    rcases t.new x y hx with h | h
    · exact s.new x y h
    · exact .inr (Nat.le_trans s.sz h)
  own p hp := by
    have key : ∀ q ∈ L, h' q.1 = none := by
      intro q hq
      have hlt := lt_of_some (s.own q hq).1
      cases hh : h' q.1 with
      | none => rfl
      | some x =>
        rcases t.new _ _ hh with h | h
        · rw [(s.own q hq).2.1] at h; cases h
        · omega
    rcases hs.mem_f s.nd o' p hp with rfl | ⟨hp, hpb⟩
    · exact ⟨(t.own (b, o') (by simp)).1, key (b, o) hs.mem, (s.own _ hs.mem).2.2⟩
    · exact ⟨by rw [t.old _ (lt_of_some (s.own p hp).1) (by simpa using hpb)]; exact (s.own p hp).1, key p hp, (s.own p hp).2.2⟩
  nd := by rw [hs.fst]; exact s.nd
end

/-! ### The environment -/

@[reducible] def upd (ρ : Nat → Value) (d : Nat) (v : Value) : Nat → Value := fun t => bif Nat.beq t d then v else ρ t

/-- What an operand is in an environment. -/
@[reducible] def ev (ρ : Nat → Value) : Operand → Value
  | .tmp t => ρ t
  | .const v => v
  | .global g => .pointer (some ⟨g, 0, none⟩)
  | .func f => .func (.func f) #[] #[]

structure Env (a : Act) (n : Nat) (ds : List Deferred) (ρ : Nat → Value) : Prop where
  size : a.tmps.size = n
  get : ∀ t, a.tmps.getD t undef = ρ t
  dfr : a.defers = ds

theorem Env.eval {a : Act} {n : Nat} {ds : List Deferred} {ρ : Nat → Value} (e : Env a n ds ρ) : a.eval = ev ρ := by
  funext x
  cases x with
  | tmp t => exact e.get t
  | const v => rfl
  | global g => rfl
  | func f => rfl

theorem Env.put {a : Act} {n : Nat} {ds : List Deferred} {ρ : Nat → Value} (e : Env a n ds ρ) {d : Nat} (hd : Nat.blt d n = true) (v : Value) :
    Env (a.put (some d) v) n ds (upd ρ d v) where
  size := by simp [Act.put, e.size]
  get t := by
    have hd' : d < a.tmps.size := by rw [e.size]; exact (by simpa [Nat.blt_eq] using hd)
    show (a.tmps.setIfInBounds d v).getD t undef = _
    rw [Array.getD_eq_getD_getElem?, Array.getElem?_setIfInBounds]
    by_cases h : t = d
    · subst h; simp [upd, hd']
    · have h2 : Nat.beq t d = false := by
        cases hb : Nat.beq t d with
        | false => rfl
        | true => exact absurd (Nat.eq_of_beq_eq_true hb) h
      simp only [upd, h2, cond_false]
      rw [if_neg (fun hh => h hh.symm), ← Array.getD_eq_getD_getElem?]
      exact e.get t
  dfr := e.dfr

theorem Env.put_none {a : Act} {n : Nat} {ds : List Deferred} {ρ : Nat → Value} (e : Env a n ds ρ) (v : Value) : Env (a.put none v) n ds ρ := e

@[reducible] def envL : Nat → List Value → Nat → Value
  | _, [] => fun _ => undef
  | k, v :: l => upd (envL (k + 1) l) k v

theorem envL_get (l : List Value) : ∀ k t, envL k l (k + t) = l[t]?.getD undef := by
  induction l with
  | nil => intro k t; simp [envL]
  | cons v l ih =>
    intro k t
    cases t with
    | zero => simp [envL, upd]
    | succ t =>
      have h2 : Nat.beq (k + (t + 1)) k = false := by
        cases hb : Nat.beq (k + (t + 1)) k with
        | false => rfl
        | true => have := Nat.eq_of_beq_eq_true hb; omega
      simp only [envL, upd, h2, cond_false]
      have := ih (k + 1) t
      rw [show k + (t + 1) = k + 1 + t by omega, this]
      simp

theorem envL_env (l : List Value) (n : Nat) (hn : l.length ≤ n) : Env { tmps := l.toArray ++ Array.replicate (n - l.toArray.size) undef, defers := [] } n [] (envL 0 l) where
  size := by simp; omega
  get t := by
    have h := envL_get l 0 t
    rw [Nat.zero_add] at h
    rw [h]
    simp only [Array.getD_eq_getD_getElem?, Array.getElem?_append, List.size_toArray, List.getElem?_toArray]
    by_cases ht : t < l.length
    · simp [ht]
    · rw [if_neg ht]
      rw [List.getElem?_eq_none (by omega)]
      by_cases h2 : t - l.length < n - l.length
      · simp [h2]
      · rw [Array.getElem?_eq_none (by simp; omega)]
  dfr := rfl

/-! ### What is left to run -/

/-- The wide fence; 'r': the record of the loop over a function in whose round the code stands. -/
@[reducible] def Fr (r : Option Nat) : Fence := { Fence.wide with round := r }
theorem fr_fn (r : Option Nat) (f : FuncId) : (Fr r).fn f := trivial
theorem fr_room (r : Option Nat) (n : Nat) : (Fr r).room n := fun _ h => by cases h
theorem fr_depth (r : Option Nat) {p : Prop} : (Fr r).depth.isSome = true → p := fun h => by cases h
theorem callsIn_fr {r : Option Nat} {n : Nat} {P : Program} {f : FuncId} {args : Array Value} {w : World} {R : Ending → World → Prop} : CallsIn (Fr r) n P f args w R ↔ Calls P f args w R := callsIn_wide (n := n)

variable (r : Option Nat) (P : Program) (w0 : World) (B : List Nat) (h0 : PH) (n : Nat)

def WP (c : Code) (Q : Exit → Act → World → Prop) (ds : List Deferred) (ρ : Nat → Value) (h : PH) (L : OL) : Prop :=
  ∀ a w, Env a n ds ρ → St w0 B h0 h L w → c.wpIn (Fr r) 0 P Q a w

def WL (ops : Array Oper) (l : List Oper) (Q : Exit → Act → World → Prop) (ds : List Deferred) (ρ : Nat → Value) (h : PH) (L : OL) : Prop :=
  ∀ a w, Env a n ds ρ → St w0 B h0 h L w → wpListIn (Fr r) 0 P ops Q l a w

def WQ (Q : Exit → Act → World → Prop) (e : Exit) (ds : List Deferred) (ρ : Nat → Value) (h : PH) (L : OL) : Prop :=
  ∀ a w, Env a n ds ρ → St w0 B h0 h L w → Q e a w

/-- The contract of a Go function. -/
def Ct (P : Program) (f : FuncId) (args : Array Value) (h : PH) (L : OL) (Post : Ending → PH → OL → Prop) : Prop :=
  ∀ w, h.inn w → (∀ p ∈ L, w.heap[p.1]? = some p.2 ∧ h p.1 = none) → (L.map Prod.fst).Nodup →
    Calls P f args w fun e w' => match e with
      | .outgrown => False
      | e => ∃ h' L', St w (L.map Prod.fst) h h' L' w' ∧ L'.map Prod.fst = L.map Prod.fst ∧ Post e h' L'

/-- .. that returns and is handed no block to write. -/
def CtR (P : Program) (f : FuncId) (args : Array Value) (h : PH) (Post : Value → PH → Prop) : Prop :=
  Ct P f args h [] fun e h' _ => ∃ v, e = .returned v ∧ Post v h'

theorem Ct.mono {P : Program} {f : FuncId} {args : Array Value} {h : PH} {L : OL} {Post Post' : Ending → PH → OL → Prop} (x : Ct P f args h L Post)
    (hp : ∀ e h' L', h.le h' → Post e h' L' → Post' e h' L') : Ct P f args h L Post' := by
  intro w hi ho hn
  refine (x w hi ho hn).mono fun e w' r => ?_
  cases e with
  | outgrown => exact r
  | returned v => obtain ⟨h', L', s, e1, p⟩ := r; exact ⟨h', L', s, e1, hp _ _ _ s.le p⟩
  | panicked c => obtain ⟨h', L', s, e1, p⟩ := r; exact ⟨h', L', s, e1, hp _ _ _ s.le p⟩

theorem CtR.mono {P : Program} {f : FuncId} {args : Array Value} {h : PH} {Post Post' : Value → PH → Prop} (x : CtR P f args h Post)
    (hp : ∀ v h', h.le h' → Post v h' → Post' v h') : CtR P f args h Post' :=
  Ct.mono x fun _ _ _ hle ⟨v, e, p⟩ => ⟨v, e, hp _ _ hle p⟩

variable {r P w0 B h0 n}
variable {Q : Exit → Act → World → Prop} {ds : List Deferred} {ρ : Nat → Value} {h : PH} {L : OL}

/-! ### Control -/

theorem xp_skip (x : WQ w0 B h0 n Q .normal ds ρ h L) : WP r P w0 B h0 n .skip Q ds ρ h L := fun a w e s => Go.wpIn_skip (x a w e s)
theorem xp_ret (x : WQ w0 B h0 n Q .ret ds ρ h L) : WP r P w0 B h0 n .ret Q ds ρ h L := fun a w e s => Go.wpIn_ret (x a w e s)
theorem xp_exit {id : Nat} (x : WQ w0 B h0 n Q (.exit id) ds ρ h L) : WP r P w0 B h0 n (.exit id) Q ds ρ h L := fun a w e s => Go.wpIn_exit (x a w e s)
theorem xp_label {l : Nat} (x : WQ w0 B h0 n Q .normal ds ρ h L) : WP r P w0 B h0 n (.label l) Q ds ρ h L := fun a w e s => Go.wpIn_label (x a w e s)

theorem xp_seq {x y : Code} (hx : WP r P w0 B h0 n x (Exit.then (y.wpIn (Fr r) 0 P Q) Q) ds ρ h L) : WP r P w0 B h0 n (.seq x y) Q ds ρ h L :=
  fun a w e s => Go.wpIn_seq (hx a w e s)
theorem xp_block {id : Nat} {c : Code} (hx : WP r P w0 B h0 n c (Exit.inBlock id Q) ds ρ h L) : WP r P w0 B h0 n (.block id c) Q ds ρ h L :=
  fun a w e s => Go.wpIn_block (hx a w e s)

theorem wq_then {y : Code} (x : WP r P w0 B h0 n y Q ds ρ h L) : WQ w0 B h0 n (Exit.then (y.wpIn (Fr r) 0 P Q) Q) .normal ds ρ h L := fun a w e s => x a w e s
theorem wq_then_ret {K : Act → World → Prop} (x : WQ w0 B h0 n Q .ret ds ρ h L) : WQ w0 B h0 n (Exit.then K Q) .ret ds ρ h L := fun a w e s => x a w e s
theorem wq_then_exit {K : Act → World → Prop} {id : Nat} (x : WQ w0 B h0 n Q (.exit id) ds ρ h L) : WQ w0 B h0 n (Exit.then K Q) (.exit id) ds ρ h L := fun a w e s => x a w e s
theorem wq_then_panic {K : Act → World → Prop} {ch : List PanicEntry} (x : WQ w0 B h0 n Q (.panic ch) ds ρ h L) : WQ w0 B h0 n (Exit.then K Q) (.panic ch) ds ρ h L := fun a w e s => x a w e s
theorem wq_in {id : Nat} (x : WQ w0 B h0 n Q .normal ds ρ h L) : WQ w0 B h0 n (Exit.inBlock id Q) .normal ds ρ h L := fun a w e s => x a w e s
theorem wq_in_ret {id : Nat} (x : WQ w0 B h0 n Q .ret ds ρ h L) : WQ w0 B h0 n (Exit.inBlock id Q) .ret ds ρ h L := fun a w e s => x a w e s
theorem wq_in_panic {id : Nat} {ch : List PanicEntry} (x : WQ w0 B h0 n Q (.panic ch) ds ρ h L) : WQ w0 B h0 n (Exit.inBlock id Q) (.panic ch) ds ρ h L := fun a w e s => x a w e s
theorem wq_in_here {id : Nat} (x : WQ w0 B h0 n Q .normal ds ρ h L) : WQ w0 B h0 n (Exit.inBlock id Q) (.exit id) ds ρ h L := fun a w e s => by
  simp only [Exit.inBlock, if_true]; exact x a w e s
theorem wq_in_other {id id' : Nat} (hne : Nat.beq id' id = false) (x : WQ w0 B h0 n Q (.exit id') ds ρ h L) : WQ w0 B h0 n (Exit.inBlock id Q) (.exit id') ds ρ h L := fun a w e s => by
  have hid : id' ≠ id := fun h => by subst h; simp at hne
  simp only [Exit.inBlock, hid, if_false]; exact x a w e s

theorem xp_cond {c : Operand} {x y : Code} (t : Bool) (hc : ev ρ c = .bool t) (hx : t = true → WP r P w0 B h0 n x Q ds ρ h L) (hy : t = false → WP r P w0 B h0 n y Q ds ρ h L) :
    WP r P w0 B h0 n (.cond c x y) Q ds ρ h L := fun a w e s =>
  Go.wpIn_cond_split (by rw [e.eval]; exact hc) (fun ht => hx ht a w e s) (fun ht => hy ht a w e s)
theorem xp_cond_t {c : Operand} {x y : Code} (hc : ev ρ c = .bool true) (hx : WP r P w0 B h0 n x Q ds ρ h L) : WP r P w0 B h0 n (.cond c x y) Q ds ρ h L := fun a w e s =>
  Go.wpIn_cond_true (by rw [e.eval]; exact hc) (hx a w e s)
theorem xp_cond_f {c : Operand} {x y : Code} (hc : ev ρ c = .bool false) (hy : WP r P w0 B h0 n y Q ds ρ h L) : WP r P w0 B h0 n (.cond c x y) Q ds ρ h L := fun a w e s =>
  Go.wpIn_cond_false (by rw [e.eval]; exact hc) (hy a w e s)

theorem xp_region {id : Nat} {l : List Oper} (x : WL r P w0 B h0 n l.toArray l Q ds ρ h L) : WP r P w0 B h0 n (.region id l.toArray false) Q ds ρ h L :=
  fun a w e s => Go.wpIn_region_lit (x a w e s)
theorem wl_nil {ops : Array Oper} (x : WQ w0 B h0 n Q .normal ds ρ h L) : WL r P w0 B h0 n ops [] Q ds ρ h L := fun a w e s => Go.wpListIn_nil (x a w e s)

/-! ### Loops -/

/-- The continuation of a round: the invariant at a smaller number. -/
def LoopK (w0 : World) (B : List Nat) (h0 : PH) (n : Nat) (ds : List Deferred) (I : Nat → (Nat → Value) → PH → OL → Prop) (k : Nat) : Act → World → Prop :=
  fun a w => ∃ k' ρ h L, k' < k ∧ I k' ρ h L ∧ Env a n ds ρ ∧ St w0 B h0 h L w

theorem xp_loop {c : Code} (I : Nat → (Nat → Value) → PH → OL → Prop) (k : Nat) (hI : I k ρ h L)
    (round : ∀ k ρ h L, I k ρ h L → WP r P w0 B h0 n c (Exit.then (LoopK w0 B h0 n ds I k) Q) ds ρ h L) : WP r P w0 B h0 n (.loop c) Q ds ρ h L := by
  intro a w e s b kk cs hro hb hr
  have key : ∀ k a w, (∃ ρ h L, I k ρ h L ∧ Env a n ds ρ ∧ St w0 B h0 h L w) →
      ∃ e a' w', Q e a' w' ∧ ArrivesIn (Machine.fenced P (Fr r)) P (lone (b.atR a (.code c :: .inLoop c :: kk)) cs w) b kk cs e a' w' := by
    intro k
    induction k using Nat.strongRecOn with
    | _ k ih =>
      rintro a w ⟨ρ, h, L, hI, he, hs⟩
      obtain ⟨e, a₁, w₁, hq, harr⟩ := round k ρ h L hI a w he hs b (.inLoop c :: kk) cs hro hb hr
      cases e with
      | normal =>
        obtain ⟨k', ρ', h', L', hlt, hI', he', hs'⟩ := hq
        obtain ⟨e₂, a₂, w₂, hq₂, harr₂⟩ := ih k' hlt a₁ w₁ ⟨ρ', h', L', hI', he', hs'⟩
        exact ⟨e₂, a₂, w₂, hq₂, .of_steps (StepsIn.trans harr (.one (fenced_calm hb hr rfl) stepR_inLoop)) harr₂⟩
      | exit id => exact ⟨_, a₁, w₁, hq, .pass (x := .inLoop c) rfl (fun _ _ => .inl (by simp)) harr⟩
      | goto l => exact ⟨_, a₁, w₁, hq, .pass (x := .inLoop c) rfl (fun _ _ => .inl (by simp)) harr⟩
      | ret => exact ⟨_, a₁, w₁, hq, .pass (x := .inLoop c) rfl (fun _ _ => .inl (by simp)) harr⟩
      | panic ch => exact ⟨_, a₁, w₁, hq, .pass (x := .inLoop c) rfl (fun _ _ => .inl (by simp)) harr⟩
      | outgrown => exact ⟨_, a₁, w₁, hq, .pass (x := .inLoop c) rfl (fun _ _ => .inl (by simp)) harr⟩
  obtain ⟨e', a', w', hq, harr⟩ := key k a w ⟨ρ, h, L, hI, e, s⟩
  exact ⟨e', a', w', hq, .of_steps (.one (fenced_calm hb hr rfl) stepR_loop) harr⟩

theorem wq_loop {I : Nat → (Nat → Value) → PH → OL → Prop} {k : Nat} (k' : Nat) (hlt : k' < k) (hI : I k' ρ h L) :
    WQ w0 B h0 n (Exit.then (LoopK w0 B h0 n ds I k) Q) .normal ds ρ h L := fun _ _ e s => ⟨k', ρ, h, L, hlt, hI, e, s⟩

/-! ### A cut: what stands behind is walked once -/

def CutQ (w0 : World) (B : List Nat) (h0 : PH) (n : Nat) (ds : List Deferred) (I : (Nat → Value) → PH → OL → Prop) (Q : Exit → Act → World → Prop) : Exit → Act → World → Prop
  | .normal, a, w => ∃ ρ h L, I ρ h L ∧ Env a n ds ρ ∧ St w0 B h0 h L w
  | .outgrown, _, _ => False
  | e, a, w => Q e a w

theorem xp_cut {x y : Code} (I : (Nat → Value) → PH → OL → Prop) (hx : WP r P w0 B h0 n x (CutQ w0 B h0 n ds I Q) ds ρ h L)
    (hy : ∀ ρ h L, I ρ h L → WP r P w0 B h0 n y Q ds ρ h L) : WP r P w0 B h0 n (.seq x y) Q ds ρ h L := by
  intro a w e s
  refine Go.wpIn_seq (Go.wpIn_mono (hx a w e s) ?_)
  intro e a w q
  cases e with
  | normal => obtain ⟨ρ, h, L, hI, he, hs⟩ := q; exact hy ρ h L hI a w he hs
  | outgrown => exact q.elim
  | exit id => exact q
  | goto l => exact q
  | ret => exact q
  | panic ch => exact q

theorem wq_cut {I : (Nat → Value) → PH → OL → Prop} (hI : I ρ h L) : WQ w0 B h0 n (CutQ w0 B h0 n ds I Q) .normal ds ρ h L := fun _ _ e s => ⟨ρ, h, L, hI, e, s⟩

end Go.Sx
