/-
  THE LAYER, FOURTH PART (own work): regions whose order the tape draws. Operations that turn nothing are taken as soon as they may come up; the others wait for one another.
-/
import Derived.Test.YtnikheoiciokhaaDoorSxL
import Derived.Still
namespace Go.Sx
open Go
set_option linter.unusedVariables false

section
variable {r : Option Nat} {P : Program} {ops : Array Oper} {Q : Exit → Act → World → Prop} {S : Array Bool → World → Prop}

/-- No operation of the region panics. -/
def Qn (Q : Exit → Act → World → Prop) : Exit → Act → World → Prop
  | .panic _, _, _ => False
  | e, a, w => Q e a w

/-- Whatever order is picked from here on; 'S' (of the operations that have come up, and the world) holds behind each. -/
def wpD (r : Option Nat) (P : Program) (ops : Array Oper) (Q : Exit → Act → World → Prop) (S : Array Bool → World → Prop) : Nat → Array Bool → Act → World → Prop
  | 0, done, a, w => Region.ready .any ops done = [] ∧ Q .normal a w
  | f + 1, done, a, w => (Region.ready .any ops done = [] → Q .normal a w) ∧
    ∀ i ∈ Region.ready .any ops done, wpOpIn (Fr r) 0 P ops (Qn Q) i (fun a' w' => S (done.setIfInBounds i true) w' ∧ wpD r P ops Q S f (done.setIfInBounds i true) a' w') a w

theorem wpAny_of_wpD : ∀ (f : Nat) (done : Array Bool) (a : Act) (w : World), wpD r P ops Q S f done a w → wpAnyIn (Fr r) 0 P .any ops (Qn Q) f done a w
  | 0, _, _, _, h => h
  | f + 1, _, _, _, h => ⟨h.1, fun i hi => wpOpIn_mono (fun _ _ h' => wpAny_of_wpD f _ _ _ h'.2) (h.2 i hi)⟩

/-- Whatever has come up, what it waits for has come up. -/
def Down (ops : Array Oper) (done : Array Bool) : Prop := ∀ j o, ops[j]? = some o → done.getD j false = true → ∀ e ∈ o.after, Region.binds .any e = true → done.getD e.on false = true

theorem Down.step {done : Array Bool} (hd : Down ops done) {i : Nat} (hi : i ∈ Region.ready .any ops done) : Down ops (done.setIfInBounds i true) := by
  intro j o hj hl e he hb
  by_cases hji : j = i
  · subst hji
    obtain ⟨_, o', ho', hall⟩ := mem_ready.1 hi
    rw [hj] at ho'
    cases ho'
    exact getD_set_true (hall e he hb)
  · rw [getD_set_ne false (Ne.symm hji)] at hl
    exact getD_set_true (hd j o hj hl e he hb)

theorem Down.none (n : Nat) : Down ops (Array.replicate n false) := by
  intro j o _ hl
  by_cases h : j < n <;> simp [h] at hl

/-- Operation 'o' (number 'i') yields 'v' and turns nothing, whenever it comes up. -/
def Yd (P : Program) (ops : Array Oper) (S : Array Bool → World → Prop) (i : Nat) (o : Oper) (v : Value) (a : Act) : Prop :=
  (Region.wanted o (yielded ops a.tmps) = true ∧ ∀ done w, Down ops done → done.getD i true = false → S done w → (execOp a.eval o).run P w = .ok (.value v) w) ∨
  (Region.wanted o (yielded ops a.tmps) = false ∧ v = undef)

theorem Yd.of {i : Nat} {o : Oper} {v : Value} {a a' : Act} (hy : Yd P ops S i o v a) (he : execOp a'.eval o = execOp a.eval o) (hw : Region.wanted o (yielded ops a'.tmps) = Region.wanted o (yielded ops a.tmps)) :
    Yd P ops S i o v a' := by
  unfold Yd at *; rw [he, hw]; exact hy

theorem nd_of_value {P : Program} {ρ : Operand → Value} {o : Oper} {v : Value} {w w' : World} (x : (execOp ρ o).run P w = .ok (.value v) w') : ∀ c, o.op ≠ .defer c := by
  intro c hc
  unfold execOp at x
  rw [hc] at x
  simp only [Sem.run_bind] at x
  cases hr : (resolve ρ c o.type).run P w with
  | ok d w' => rw [hr] at x; cases x
  | halt hh w' => rw [hr] at x; cases x
/-- No operation of the region is a 'defer' statement. -/
def noDefer (ops : Array Oper) : Bool := ops.all fun o => match o.op with | .defer _ => false | _ => true
theorem noDefer_spec {ops : Array Oper} (h : noDefer ops = true) {j : Nat} {o : Oper} (hj : ops[j]? = some o) : ∀ c, o.op ≠ .defer c := by
  intro c hc
  have := Array.all_eq_true'.1 h o (Array.mem_of_getElem? hj)
  rw [hc] at this; cases this

theorem Yd.op {i : Nat} {o : Oper} {v : Value} {a : Act} {done : Array Bool} {w : World} (hi : ops[i]? = some o) (hd : Down ops done) (hun : done.getD i true = false) (hS : S done w) (hy : Yd P ops S i o v a) {K : Act → World → Prop}
    (h : K (a.put o.dst v) w) : wpOpIn (Fr r) 0 P ops (Qn Q) i K a w := by
  unfold Go.wpOpIn
  simp only [hi]
  rcases hy with ⟨hw, hv⟩ | ⟨hw, rfl⟩
  · simp only [hw, if_true, Oper.wpIn, Oper.semAt_eq _ _ _ (nd_of_value (hv done w hd hun hS)), hv done w hd hun hS, Oper.uponIn]; exact ⟨fun _ _ => trivial, h⟩
  · simp only [hw, Bool.false_eq_true, if_false]; exact ⟨fun _ _ => trivial, h⟩

/-- Another operation, apart from it, may come up ahead of it. -/
theorem Yd.swap {i j : Nat} {oi oj : Oper} {v : Value} (hj : ops[j]? = some oj) (hnd : ∀ c, oj.op ≠ .defer c) (hap : oi.apart ops oj = true) (hsi : ∀ cs b, oi.op ≠ .select cs b) (hsj : ∀ cs b, oj.op ≠ .select cs b)
    {K : Act → World → Prop} {a : Act} {w : World} (hy : Yd P ops S i oi v a) (h : wpOpIn (Fr r) 0 P ops (Qn Q) j K (a.put oi.dst v) w) :
    wpOpIn (Fr r) 0 P ops (Qn Q) j (fun a' w' => Yd P ops S i oi v a' ∧ K (a'.put oi.dst v) w') a w := by
  obtain ⟨h1, h2, h3⟩ := Oper.apart_spec hap
  have keep : ∀ (a : Act), Yd P ops S i oi v a → ∀ u, Yd P ops S i oi v (a.put oj.dst u) := fun a hy u => hy.of (execOp_put oi hsi a oj.dst u h3) (wanted_put oi a oj.dst u h3)
  have keepD : ∀ d, Yd P ops S i oi v { a with defers := d :: a.defers } := fun d => Yd.of hy rfl rfl
  unfold wpOpIn at *
  simp only [hj] at *
  rw [wanted_put oj a oi.dst v h1] at h
  split
  · rename_i hw
    simp only [hw, if_true] at h
    unfold Oper.wpIn at *
    refine ⟨fun _ _ => trivial, ?_⟩
    have h := h.2
    rw [Oper.semAt_eq _ _ _ hnd, execOp_put oj hsj a oi.dst v h1] at h
    rw [Oper.semAt_eq _ _ _ hnd]
    revert h
    generalize (execOp a.eval oj).run P w = rr
    intro h
    cases rr with
    | ok x w' =>
      cases x <;> simp only [Oper.uponIn] at h ⊢
      case value u => exact ⟨keep a hy u, by rw [← Act.put_comm a v u h2]; exact h⟩
      case skip => exact ⟨keep a hy _, by rw [← Act.put_comm a v undef h2]; exact h⟩
      case defer d =>
        refine ⟨keep _ (keepD d) _, ?_⟩
        rw [← Act.put_comm _ v undef h2, ← Act.put_defers]
        exact h
      case enter f args =>
        refine ⟨h.1, CallsIn.mono h.2 fun e w'' he => ?_⟩
        cases e with
        | returned u => exact ⟨keep a hy u, by rw [← Act.put_comm a v u h2]; exact he⟩
        | panicked c => exact he
        | outgrown => exact he
      case row row args => exact ⟨h.1, RowsIn.mono h.2 fun u w'' he => ⟨keep a hy u, by rw [← Act.put_comm a v u h2]; exact he⟩⟩
      case round l f tmps assign body =>
        refine ⟨h.1, RoundIn.mono h.2 fun e w'' he => ?_⟩
        cases e with
        | returned u => exact ⟨keep a hy u, by rw [← Act.put_comm a v u h2]; exact he⟩
        | panicked c => exact he
        | outgrown => exact he
    | halt x w' =>
      cases x <;> simp only [Oper.uponIn] at h ⊢
      case panic u => exact h
  · rename_i hw
    simp only [hw] at h
    exact ⟨fun _ _ => trivial, keep a hy _, by rw [← Act.put_comm a v undef h2]; exact h.2⟩

theorem wpD_first {i : Nat} {oi : Oper} {v : Value} (hnd : noDefer ops = true) (hi : ops[i]? = some oi) (hsel : ∀ (j : Nat) (o : Oper) cs b, ops[j]? = some o → o.op ≠ .select cs b)
    (hSi : ∀ done w, S (done.setIfInBounds i true) w ↔ S done w) :
    ∀ (f : Nat) (done : Array Bool) (a : Act) (w : World), Down ops done →
      (∀ j oj, ops[j]? = some oj → j ≠ i → done.getD j true = false → (∀ e ∈ oj.after, Region.binds .any e = true → e.on ≠ i) → oi.apart ops oj = true) →
      i ∈ Region.ready .any ops done → Yd P ops S i oi v a → S done w → wpD r P ops Q S f (done.setIfInBounds i true) (a.put oi.dst v) w → wpD r P ops Q S (f + 1) done a w := by
  intro f
  induction f with
  | zero =>
    intro done a w hdn _ hr hy hS H
    refine ⟨fun h => (by rw [h] at hr; cases hr), fun j hj => ?_⟩
    by_cases hji : j = i
    · subst hji; exact hy.op hi hdn (mem_ready.1 hr).1 hS ⟨(hSi _ _).2 hS, H⟩
    · have := ready_mono hj hji
      rw [H.1] at this; cases this
  | succ f ih =>
    intro done a w hdn hfree hr hy hS H
    refine ⟨fun h => (by rw [h] at hr; cases hr), fun j hj => ?_⟩
    by_cases hji : j = i
    · subst hji; exact hy.op hi hdn (mem_ready.1 hr).1 hS ⟨(hSi _ _).2 hS, H⟩
    · obtain ⟨hun, oj, hoj, hall⟩ := mem_ready.1 hj
      have hnot : ∀ e ∈ oj.after, Region.binds .any e = true → e.on ≠ i := by
        intro e he hb heq
        have k1 := hall e he hb
        have k0 := (mem_ready.1 hr).1
        rw [heq] at k1
        by_cases hlt : i < done.size
        · simp [hlt] at k0 k1; rw [k0] at k1; cases k1
        · simp [Array.getElem?_eq_none (by omega : done.size ≤ i)] at k1
      have h2 := Yd.swap hoj (noDefer_spec hnd hoj) (hfree j oj hoj hji hun hnot) (fun cs b => hsel i oi cs b hi) (fun cs b => hsel j oj cs b hoj) hy (H.2 j (ready_mono hj hji))
      refine wpOpIn_mono (fun a' w' h3 => ?_) h2
      obtain ⟨hy', hS', hrest⟩ := h3
      rw [Array.setIfInBounds_comm _ _ (Ne.symm hji)] at hS' hrest
      have hS'' := (hSi _ _).1 hS'
      refine ⟨hS'', ih (done.setIfInBounds j true) a' w' (hdn.step hj) ?_ (ready_mono hr (Ne.symm hji)) hy' hS'' hrest⟩
      intro k ok hk hki hku hno
      refine hfree k ok hk hki ?_ hno
      by_cases hjk : j = k
      · subst hjk; exact hun
      · rw [getD_set_ne true hjk] at hku; exact hku
end

/-! ### Over symbolic states -/

/-- Some blocks of a list. -/
def keepL : List Bool → OL → OL
  | _, [] => []
  | [], _ => []
  | true :: m, p :: L => p :: keepL m L
  | false :: m, _ :: L => keepL m L

/-- What stays readable: the blocks 'La' always, the blocks 'Ls' as long as none of the stores has come up. -/
def SD (hs : PH) (La Ls : OL) (stores : List Nat) (done : Array Bool) (w : World) : Prop :=
  hs.inn w ∧ (∀ p ∈ La, w.heap[p.1]? = some p.2) ∧ ((∀ s ∈ stores, done.getD s false = false) → ∀ p ∈ Ls, w.heap[p.1]? = some p.2)

variable (r : Option Nat) (P : Program) (w0 : World) (B : List Nat) (h0 : PH) (n : Nat)

def WD (ops : Array Oper) (Q : Exit → Act → World → Prop) (hs : PH) (La Ls : OL) (stores : List Nat) (f : Nat) (done : Array Bool) (ds : List Deferred) (ρ : Nat → Value) (h : PH) (L : OL) : Prop :=
  ∀ a w, Env a n ds ρ → St w0 B h0 h L w → SD hs La Ls stores done w → Down ops done → wpD r P ops Q (SD hs La Ls stores) f done a w

variable {r P w0 B h0 n}
variable {Q : Exit → Act → World → Prop} {ds : List Deferred} {ρ : Nat → Value} {h : PH} {L : OL} {ops : Array Oper} {hs : PH} {La Ls : OL} {stores : List Nat} {f : Nat} {done : Array Bool}

theorem keepL_sub (m : List Bool) (L : OL) : List.Sublist (keepL m L) L := by
  induction L generalizing m with
  | nil => cases m <;> exact List.Sublist.slnil
  | cons p L ih =>
    cases m with
    | nil => exact List.nil_sublist _
    | cons b m =>
      cases b
      · exact (ih m).cons _
      · exact (ih m).cons_cons _

theorem xp_draw {id : Nat} {l : List Oper} (mask : List Bool) (stores : List Nat) (hm : P.follows .mixedOrders = true)
    (x : WD r P w0 B h0 n l.toArray Q h (keepL mask L) L stores l.length (Array.replicate l.length false) ds ρ h L) : WP r P w0 B h0 n (.region id l.toArray true) Q ds ρ h L := fun a w e s => by
  refine Go.wpIn_mono (wpIn_region_any hm (wpAny_of_wpD (S := SD h (keepL mask L) L stores) _ _ _ _ ?_)) (fun e a w q => by cases e <;> first | exact q | exact q.elim)
  have s' := s.drew (w.drawn + 1)
  have := x a _ e s' ⟨s'.inn, fun p hp => (s'.own p ((keepL_sub mask L).subset hp)).1, fun _ p hp => (s'.own p hp).1⟩ (Down.none _)
  simpa using this

theorem sd_other {i : Nat} (hi : stores.contains i = false) (done : Array Bool) (w : World) : SD hs La Ls stores (done.setIfInBounds i true) w ↔ SD hs La Ls stores done w := by
  unfold SD
  have key : (∀ s ∈ stores, (done.setIfInBounds i true).getD s false = false) ↔ (∀ s ∈ stores, done.getD s false = false) := by
    constructor
    · intro hh s hs'
      have hne : i ≠ s := fun he => by subst he; simp [hs'] at hi
      rw [← getD_set_ne false hne]; exact hh s hs'
    · intro hh s hs'
      have hne : i ≠ s := fun he => by subst he; simp [hs'] at hi
      rw [getD_set_ne false hne]; exact hh s hs'
  rw [key]

/-- The closed side conditions of taking number 'i' first. -/
def takeB (ops : Array Oper) (done : Array Bool) (stores : List Nat) (i : Nat) : Bool :=
  noDefer ops && Region.noSelect ops && Region.free .any ops done i && (Region.ready .any ops done).contains i && !stores.contains i

theorem wd_take {i : Nat} {o : Oper} {d : Tmp} {v : Value} (hi : ops[i]? = some o) (hd : o.dst = some d) (hn : Nat.blt d n = true) (ht : takeB ops done stores i = true)
    (hy : ∀ a, Env a n ds ρ → Yd P ops (SD hs La Ls stores) i o v a) (x : WD r P w0 B h0 n ops Q hs La Ls stores f (done.setIfInBounds i true) ds (upd ρ d v) h L) : WD r P w0 B h0 n ops Q hs La Ls stores (f + 1) done ds ρ h L := fun a w e s hS hdn => by
  simp only [takeB, Bool.and_eq_true, Bool.not_eq_true'] at ht
  obtain ⟨⟨⟨⟨h0', h1⟩, h2⟩, h3⟩, h4⟩ := ht
  have hr : i ∈ Region.ready .any ops done := by simpa using h3
  refine wpD_first h0' hi (Region.noSelect_spec h1) (sd_other h4) f done a w hdn (Region.free_spec hi h2) hr (hy a e) hS ?_
  refine x _ w ?_ s ((sd_other h4 _ _).2 hS) (hdn.step hr)
  rw [hd]; exact e.put hn v

/-- An operation that turns nothing and reads only blocks that no store of the region hits. -/
theorem wd_ro (i : Nat) {op : Op} {d : Tmp} {ty : TypeId} {pos : String} {af : Array Edge} {v : Value} (hi : ops[i]? = some ⟨some d, op, ty, pos, af, none⟩) (ht : takeB ops done stores i = true) (rr : RO P ρ hs La ⟨some d, op, ty, pos, af, none⟩ v) (hn : Nat.blt d n = true)
    (x : WD r P w0 B h0 n ops Q hs La Ls stores f (done.setIfInBounds i true) ds (upd ρ d v) h L) : WD r P w0 B h0 n ops Q hs La Ls stores (f + 1) done ds ρ h L :=
  wd_take hi rfl hn ht (fun a e => .inl ⟨rfl, fun _ w _ _ hS => by rw [e.eval]; exact rr w ⟨hS.1, hS.2.1⟩⟩) x

/-- .. and reads whatever stood at the region's start, every store waiting for it. -/
def waitsB (ops : Array Oper) (stores : List Nat) (i : Nat) : Bool := stores.all fun s => match ops[s]? with | some o => o.after.any fun e => Region.binds .any e && e.on == i | none => false
theorem wd_roW (i : Nat) {op : Op} {d : Tmp} {ty : TypeId} {pos : String} {af : Array Edge} {v : Value} (hi : ops[i]? = some ⟨some d, op, ty, pos, af, none⟩) (ht : takeB ops done stores i = true) (hw : waitsB ops stores i = true)
    (rr : RO P ρ hs Ls ⟨some d, op, ty, pos, af, none⟩ v) (hn : Nat.blt d n = true)
    (x : WD r P w0 B h0 n ops Q hs La Ls stores f (done.setIfInBounds i true) ds (upd ρ d v) h L) : WD r P w0 B h0 n ops Q hs La Ls stores (f + 1) done ds ρ h L :=
  wd_take hi rfl hn ht (fun a e => .inl ⟨rfl, fun done' w hdn hun hS => by
    rw [e.eval]
    refine rr w ⟨hS.1, hS.2.2 fun s hs' => ?_⟩
    have hws := List.all_eq_true.1 hw s hs'
    cases ho : ops[s]? with
    | none => rw [ho] at hws; cases hws
    | some os =>
      rw [ho] at hws
      obtain ⟨ed, he, hb⟩ := Array.any_eq_true'.1 hws
      simp only [Bool.and_eq_true, beq_iff_eq] at hb
      cases hls : done'.getD s false with
      | false => rfl
      | true =>
        have k := hdn s os ho hls ed he hb.1
        rw [hb.2] at k
        by_cases hlt : i < done'.size
        · simp [hlt] at k hun; rw [k] at hun; cases hun
        · simp [Array.getElem?_eq_none (by omega : done'.size ≤ i)] at k⟩) x

/-- .. every store waiting for it, at most one operation between. -/
def waits2B (ops : Array Oper) (stores : List Nat) (i : Nat) : Bool := stores.all fun s => match ops[s]? with
  | some o => o.after.any fun e => Region.binds .any e && (e.on == i || match ops[e.on]? with | some o2 => o2.after.any fun e2 => Region.binds .any e2 && e2.on == i | none => false)
  | none => false
theorem wd_roW2 (i : Nat) {op : Op} {d : Tmp} {ty : TypeId} {pos : String} {af : Array Edge} {v : Value} (hi : ops[i]? = some ⟨some d, op, ty, pos, af, none⟩) (ht : takeB ops done stores i = true) (hw : waits2B ops stores i = true)
    (rr : RO P ρ hs Ls ⟨some d, op, ty, pos, af, none⟩ v) (hn : Nat.blt d n = true)
    (x : WD r P w0 B h0 n ops Q hs La Ls stores f (done.setIfInBounds i true) ds (upd ρ d v) h L) : WD r P w0 B h0 n ops Q hs La Ls stores (f + 1) done ds ρ h L :=
  wd_take hi rfl hn ht (fun a e => .inl ⟨rfl, fun done' w hdn hun hS => by
    rw [e.eval]
    refine rr w ⟨hS.1, hS.2.2 fun s hs' => ?_⟩
    have hws := List.all_eq_true.1 hw s hs'
    have key : done'[i]?.getD false = true → False := fun k => by
      by_cases hlt : i < done'.size
      · simp [hlt] at k hun; rw [k] at hun; cases hun
      · simp [Array.getElem?_eq_none (by omega : done'.size ≤ i)] at k
    cases ho : ops[s]? with
    | none => rw [ho] at hws; cases hws
    | some os =>
      rw [ho] at hws
      obtain ⟨ed, he, hb⟩ := Array.any_eq_true'.1 hws
      simp only [Bool.and_eq_true, Bool.or_eq_true, beq_iff_eq] at hb
      cases hls : done'.getD s false with
      | false => rfl
      | true =>
        have k := hdn s os ho hls ed he hb.1
        rcases hb.2 with h1 | h1
        · rw [h1] at k; exact (key (by simpa using k)).elim
        · cases ho2 : ops[ed.on]? with
          | none => rw [ho2] at h1; cases h1
          | some o2 =>
            rw [ho2] at h1
            obtain ⟨e2, he2, hb2⟩ := Array.any_eq_true'.1 h1
            simp only [Bool.and_eq_true, beq_iff_eq] at hb2
            have k2 := hdn ed.on o2 ho2 (by simpa using k) e2 he2 hb2.1
            rw [hb2.2] at k2
            exact (key (by simpa using k2)).elim⟩) x

/-- Guarded ones. -/
theorem wd_no (i : Nat) {op : Op} {d j : Nat} {ty : TypeId} {pos : String} {af : Array Edge} {want t : Bool} {oj : Oper} {dj : Tmp} (hi : ops[i]? = some ⟨some d, op, ty, pos, af, some (j, want)⟩) (ht : takeB ops done stores i = true) (hj : ops[j]? = some oj) (hd : oj.dst = some dj) (hnj : Nat.blt dj n = true)
    (hv : ρ dj = .bool t) (hno : (t == want) = false) (hn : Nat.blt d n = true) (x : WD r P w0 B h0 n ops Q hs La Ls stores f (done.setIfInBounds i true) ds (upd ρ d undef) h L) : WD r P w0 B h0 n ops Q hs La Ls stores (f + 1) done ds ρ h L :=
  wd_take hi rfl hn ht (fun a e => .inr ⟨by simp only [Region.wanted, yielded_ev e hj hd hnj hv]; simpa using hno, rfl⟩) x
theorem wd_yes (i : Nat) {op : Op} {d j : Nat} {ty : TypeId} {pos : String} {af : Array Edge} {want t : Bool} {oj : Oper} {dj : Tmp} {v : Value} (hi : ops[i]? = some ⟨some d, op, ty, pos, af, some (j, want)⟩) (ht : takeB ops done stores i = true) (hj : ops[j]? = some oj) (hd : oj.dst = some dj)
    (hnj : Nat.blt dj n = true) (hv : ρ dj = .bool t) (hyes : (t == want) = true) (rr : RO P ρ hs La ⟨some d, op, ty, pos, af, some (j, want)⟩ v) (hn : Nat.blt d n = true) (x : WD r P w0 B h0 n ops Q hs La Ls stores f (done.setIfInBounds i true) ds (upd ρ d v) h L) :
    WD r P w0 B h0 n ops Q hs La Ls stores (f + 1) done ds ρ h L :=
  wd_take hi rfl hn ht (fun a e => .inl ⟨by simp only [Region.wanted, yielded_ev e hj hd hnj hv]; simpa using hyes, fun _ w _ _ hS => by rw [e.eval]; exact rr w ⟨hS.1, hS.2.1⟩⟩) x
theorem wd_split {dj : Nat} {t : Bool} (hv : ρ dj = .bool t) (yes : t = true → WD r P w0 B h0 n ops Q hs La Ls stores f done ds ρ h L) (no : t = false → WD r P w0 B h0 n ops Q hs La Ls stores f done ds ρ h L) : WD r P w0 B h0 n ops Q hs La Ls stores f done ds ρ h L := by
  cases t
  · exact no rfl
  · exact yes rfl

/-- What is to be shown behind an operation that turns the state. -/
structure Kept (hs h' : PH) (La Ls L' : OL) (stores : List Nat) (done : Array Bool) : Prop where
  le : hs.le h'
  la : ∀ p ∈ La, p ∈ L'
  ls : stores.any (fun s => done.getD s false) = true ∨ ∀ p ∈ Ls, p ∈ L'

theorem Kept.sd {h' : PH} {L' : OL} {w : World} (k : Kept hs h' La Ls L' stores done) (s : St w0 B h0 h' L' w) : SD hs La Ls stores done w :=
  ⟨fun b o hb => s.inn b o (k.le b o hb), fun p hp => (s.own p (k.la p hp)).1, fun hno p hp => by
    rcases k.ls with h1 | h1
    · obtain ⟨s', hs', ht⟩ := List.any_eq_true.1 h1
      rw [hno s' hs'] at ht; cases ht
    · exact (s.own p (h1 p hp)).1⟩

def soB (ops : Array Oper) (done : Array Bool) (i : Nat) : Bool := (Region.ready .any ops done) == [i]

theorem wd_soG {i : Nat} {o : Oper} (hi : ops[i]? = some o) (hr : soB ops done i = true) (hw : ∀ a, Env a n ds ρ → Region.wanted o (yielded ops a.tmps) = true)
    (x : SO P w0 B h0 ρ h L o fun v h' L' => Kept hs h' La Ls L' stores (done.setIfInBounds i true) ∧ ∀ a, Env a n ds ρ → ∃ ρ', Env (a.put o.dst v) n ds ρ' ∧ WD r P w0 B h0 n ops Q hs La Ls stores f (done.setIfInBounds i true) ds ρ' h' L') :
    WD r P w0 B h0 n ops Q hs La Ls stores (f + 1) done ds ρ h L := fun a w e s _ hdn => by
  have hr' : Region.ready .any ops done = [i] := eq_of_beq hr
  refine ⟨fun h0 => (by rw [hr'] at h0; cases h0), fun j hj => ?_⟩
  have hj' := hj
  rw [hr'] at hj
  simp only [List.mem_singleton] at hj
  subst hj
  unfold wpOpIn
  simp only [hi, hw a e, if_true]
  refine Oper.wpIn_mono (fun a' w' r => ?_) (so_wp e.eval s x)
  obtain ⟨v, h', L', rfl, ⟨k, hx⟩, st⟩ := r
  obtain ⟨ρ', e', hx'⟩ := hx a e
  exact ⟨k.sd st, hx' _ _ e' st (k.sd st) (hdn.step hj')⟩

theorem wd_so (i : Nat) {op : Op} {d : Tmp} {ty : TypeId} {pos : String} {af : Array Edge} (hi : ops[i]? = some ⟨some d, op, ty, pos, af, none⟩) (hr : soB ops done i = true) (hn : Nat.blt d n = true)
    (x : SO P w0 B h0 ρ h L ⟨some d, op, ty, pos, af, none⟩ fun v h' L' => Kept hs h' La Ls L' stores (done.setIfInBounds i true) ∧ WD r P w0 B h0 n ops Q hs La Ls stores f (done.setIfInBounds i true) ds (upd ρ d v) h' L') :
    WD r P w0 B h0 n ops Q hs La Ls stores (f + 1) done ds ρ h L :=
  wd_soG hi hr (fun _ _ => rfl) (x.mono fun v h' L' ⟨k, y⟩ => ⟨k, fun a e => ⟨_, e.put hn v, y⟩⟩)
theorem wd_so0 (i : Nat) {op : Op} {ty : TypeId} {pos : String} {af : Array Edge} (hi : ops[i]? = some ⟨none, op, ty, pos, af, none⟩) (hr : soB ops done i = true)
    (x : SO P w0 B h0 ρ h L ⟨none, op, ty, pos, af, none⟩ fun _ h' L' => Kept hs h' La Ls L' stores (done.setIfInBounds i true) ∧ WD r P w0 B h0 n ops Q hs La Ls stores f (done.setIfInBounds i true) ds ρ h' L') :
    WD r P w0 B h0 n ops Q hs La Ls stores (f + 1) done ds ρ h L :=
  wd_soG hi hr (fun _ _ => rfl) (x.mono fun v h' L' ⟨k, y⟩ => ⟨k, fun a e => ⟨_, e.put_none v, y⟩⟩)
theorem wd_soY (i : Nat) {op : Op} {d j : Nat} {ty : TypeId} {pos : String} {af : Array Edge} {want t : Bool} {oj : Oper} {dj : Tmp} (hi : ops[i]? = some ⟨some d, op, ty, pos, af, some (j, want)⟩) (hr : soB ops done i = true) (hj : ops[j]? = some oj) (hd : oj.dst = some dj)
    (hnj : Nat.blt dj n = true) (hv : ρ dj = .bool t) (hyes : (t == want) = true) (hn : Nat.blt d n = true)
    (x : SO P w0 B h0 ρ h L ⟨some d, op, ty, pos, af, some (j, want)⟩ fun v h' L' => Kept hs h' La Ls L' stores (done.setIfInBounds i true) ∧ WD r P w0 B h0 n ops Q hs La Ls stores f (done.setIfInBounds i true) ds (upd ρ d v) h' L') :
    WD r P w0 B h0 n ops Q hs La Ls stores (f + 1) done ds ρ h L :=
  wd_soG hi hr (fun a e => by simp only [Region.wanted, yielded_ev e hj hd hnj hv]; simpa using hyes) (x.mono fun v h' L' ⟨k, y⟩ => ⟨k, fun a e => ⟨_, e.put hn v, y⟩⟩)

/-! several that turn the state are ready -/
variable (r P w0 B h0 n) in
/-- The operation number 'i' may come up next. -/
def OneD (ops : Array Oper) (Q : Exit → Act → World → Prop) (hs : PH) (La Ls : OL) (stores : List Nat) (f : Nat) (done : Array Bool) (ds : List Deferred) (ρ : Nat → Value) (h : PH) (L : OL) (i : Nat) : Prop :=
  ∀ a w, Env a n ds ρ → St w0 B h0 h L w → SD hs La Ls stores done w → Down ops done → i ∈ Region.ready .any ops done →
    wpOpIn (Fr r) 0 P ops (Qn Q) i (fun a' w' => SD hs La Ls stores (done.setIfInBounds i true) w' ∧ wpD r P ops Q (SD hs La Ls stores) f (done.setIfInBounds i true) a' w') a w
theorem wd_pick2 {i j : Nat} (hr : (Region.ready .any ops done == [i, j]) = true) (x : OneD r P w0 B h0 n ops Q hs La Ls stores f done ds ρ h L i) (y : OneD r P w0 B h0 n ops Q hs La Ls stores f done ds ρ h L j) :
    WD r P w0 B h0 n ops Q hs La Ls stores (f + 1) done ds ρ h L := fun a w e s hS hdn => by
  have hr' : Region.ready .any ops done = [i, j] := eq_of_beq hr
  refine ⟨fun h0 => (by rw [hr'] at h0; cases h0), fun k hk => ?_⟩
  have hk' := hk
  rw [hr'] at hk
  simp only [List.mem_cons, List.not_mem_nil, or_false] at hk
  rcases hk with rfl | rfl
  · exact x a w e s hS hdn hk'
  · exact y a w e s hS hdn hk'
theorem wd_pick3 {i j k : Nat} (hr : (Region.ready .any ops done == [i, j, k]) = true) (x : OneD r P w0 B h0 n ops Q hs La Ls stores f done ds ρ h L i) (y : OneD r P w0 B h0 n ops Q hs La Ls stores f done ds ρ h L j)
    (z : OneD r P w0 B h0 n ops Q hs La Ls stores f done ds ρ h L k) : WD r P w0 B h0 n ops Q hs La Ls stores (f + 1) done ds ρ h L := fun a w e s hS hdn => by
  have hr' : Region.ready .any ops done = [i, j, k] := eq_of_beq hr
  refine ⟨fun h0 => (by rw [hr'] at h0; cases h0), fun m hk => ?_⟩
  have hk' := hk
  rw [hr'] at hk
  simp only [List.mem_cons, List.not_mem_nil, or_false] at hk
  rcases hk with rfl | rfl | rfl
  · exact x a w e s hS hdn hk'
  · exact y a w e s hS hdn hk'
  · exact z a w e s hS hdn hk'
/-- The order of the call's own blocks is of no matter. -/
theorem wq_perm {e : Exit} {L' : OL} (hp : L'.Perm L) (x : WQ w0 B h0 n Q e ds ρ h L') : WQ w0 B h0 n Q e ds ρ h L := fun a w en s =>
  x a w en ⟨s.os, s.tape, s.output, s.sz, s.old, s.inn, s.le, s.new, fun p hp' => s.own p (hp.subset hp'), ((hp.map Prod.fst).nodup_iff).2 s.nd⟩
theorem one_soG {i : Nat} {o : Oper} (hi : ops[i]? = some o) (hw : ∀ a, Env a n ds ρ → Region.wanted o (yielded ops a.tmps) = true)
    (x : SO P w0 B h0 ρ h L o fun v h' L' => Kept hs h' La Ls L' stores (done.setIfInBounds i true) ∧ ∀ a, Env a n ds ρ → ∃ ρ', Env (a.put o.dst v) n ds ρ' ∧ WD r P w0 B h0 n ops Q hs La Ls stores f (done.setIfInBounds i true) ds ρ' h' L') :
    OneD r P w0 B h0 n ops Q hs La Ls stores f done ds ρ h L i := fun a w e s _ hdn hm => by
  unfold wpOpIn
  simp only [hi, hw a e, if_true]
  refine Oper.wpIn_mono (fun a' w' r => ?_) (so_wp e.eval s x)
  obtain ⟨v, h', L', rfl, ⟨k, hx⟩, st⟩ := r
  obtain ⟨ρ', e', hx'⟩ := hx a e
  exact ⟨k.sd st, hx' _ _ e' st (k.sd st) (hdn.step hm)⟩
theorem one_so (i : Nat) {op : Op} {d : Tmp} {ty : TypeId} {pos : String} {af : Array Edge} (hi : ops[i]? = some ⟨some d, op, ty, pos, af, none⟩) (hn : Nat.blt d n = true)
    (x : SO P w0 B h0 ρ h L ⟨some d, op, ty, pos, af, none⟩ fun v h' L' => Kept hs h' La Ls L' stores (done.setIfInBounds i true) ∧ WD r P w0 B h0 n ops Q hs La Ls stores f (done.setIfInBounds i true) ds (upd ρ d v) h' L') :
    OneD r P w0 B h0 n ops Q hs La Ls stores f done ds ρ h L i :=
  one_soG hi (fun _ _ => rfl) (x.mono fun v h' L' ⟨k, y⟩ => ⟨k, fun a e => ⟨_, e.put hn v, y⟩⟩)
theorem one_so0 (i : Nat) {op : Op} {ty : TypeId} {pos : String} {af : Array Edge} (hi : ops[i]? = some ⟨none, op, ty, pos, af, none⟩)
    (x : SO P w0 B h0 ρ h L ⟨none, op, ty, pos, af, none⟩ fun _ h' L' => Kept hs h' La Ls L' stores (done.setIfInBounds i true) ∧ WD r P w0 B h0 n ops Q hs La Ls stores f (done.setIfInBounds i true) ds ρ h' L') :
    OneD r P w0 B h0 n ops Q hs La Ls stores f done ds ρ h L i :=
  one_soG hi (fun _ _ => rfl) (x.mono fun v h' L' ⟨k, y⟩ => ⟨k, fun a e => ⟨_, e.put_none v, y⟩⟩)

theorem inc_of {A L' : OL} (x : List.Sublist A L') : ∀ p ∈ A, p ∈ L' := fun _ hp => x.subset hp
/-- The guard was passed over itself. -/
theorem wd_noU (i : Nat) {op : Op} {d j : Nat} {ty : TypeId} {pos : String} {af : Array Edge} {want : Bool} {oj : Oper} {dj : Tmp} (hi : ops[i]? = some ⟨some d, op, ty, pos, af, some (j, want)⟩) (ht : takeB ops done stores i = true) (hj : ops[j]? = some oj) (hd : oj.dst = some dj)
    (hv : ρ dj = undef) (hn : Nat.blt d n = true) (x : WD r P w0 B h0 n ops Q hs La Ls stores f (done.setIfInBounds i true) ds (upd ρ d undef) h L) : WD r P w0 B h0 n ops Q hs La Ls stores (f + 1) done ds ρ h L :=
  wd_take hi rfl hn ht (fun a e => .inr ⟨by
    have hg := e.get dj
    rw [Array.getD_eq_getD_getElem?, hv] at hg
    simp only [Region.wanted, yielded, hj, hd, Option.bind_some]
    cases hh : a.tmps[dj]? with
    | none => rfl
    | some v => rw [hh] at hg; simp only [Option.getD_some] at hg; subst hg; rfl, rfl⟩) x
theorem wd_done (hr : Region.ready .any ops done = []) (x : WQ w0 B h0 n Q .normal ds ρ h L) : WD r P w0 B h0 n ops Q hs La Ls stores f done ds ρ h L := fun a w e s _ _ => by
  cases f with
  | zero => exact ⟨hr, x a w e s⟩
  | succ f => exact ⟨fun _ => x a w e s, by rw [hr]; simp⟩
end Go.Sx
