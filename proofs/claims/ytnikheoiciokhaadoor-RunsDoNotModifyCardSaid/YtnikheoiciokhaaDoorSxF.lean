/-
  THE LAYER (own work): calls that are handed several blocks; ranges over a function: what a call of yield is, what an iterator promises, the loop's law, the function's end behind it.
-/
import Derived.Test.YtnikheoiciokhaaDoorSxP
namespace Go.Sx
open Go
set_option linter.unusedVariables false

section
variable {r : Option Nat} {P : Program} {w0 w : World} {B : List Nat} {h0 : PH} {n : Nat} {Q : Exit → Act → World → Prop} {ds : List Deferred} {ρ : Nat → Value} {h : PH} {L La Lc Lc' : OL} {d : Option Tmp} {ty : TypeId} {pos : String} {af : Array Edge} {g : Option (Nat × Bool)} {K : Value → PH → OL → Prop}

/-- Behind a call that was handed the last blocks of the list, and that hands blocks back. -/
theorem St.callL (s : St w0 B h0 h (La ++ Lc) w) {h' : PH} {w' : World} (t : St w (Lc.map Prod.fst) h h' Lc' w') : St w0 B h0 h' (La ++ Lc') w' where
  os := t.os.trans s.os
  tape := t.tape.trans s.tape
  output := t.output.trans s.output
  sz := Nat.le_trans s.sz t.sz
  old k hk hn := by
    rw [t.old k (Nat.lt_of_lt_of_le hk s.sz) ?_]
    · exact s.old k hk hn
    · intro hm
      obtain ⟨q, hq, rfl⟩ := List.mem_map.1 hm
      rcases (s.own q (List.mem_append_right _ hq)).2.2 with h | h
      · omega
      · exact hn h
  inn := t.inn
  le := PH.le_trans s.le t.le
  new x y hx := by
    rcases t.new x y hx with h | h
    · exact s.new x y h
    · exact .inr (Nat.le_trans s.sz h)
  own p hp := by
    rcases List.mem_append.1 hp with hp | hp
    · have hq := s.own p (List.mem_append_left _ hp)
      have hlt := lt_of_some hq.1
      refine ⟨?_, ?_, hq.2.2⟩
      · rw [t.old _ hlt ?_]
        · exact hq.1
        · intro hm
          have hnd := s.nd
          rw [List.map_append, List.nodup_append] at hnd
          exact hnd.2.2 _ (List.mem_map.2 ⟨p, hp, rfl⟩) _ hm rfl
      · cases hh : h' p.1 with
        | none => rfl
        | some x =>
          rcases t.new _ _ hh with h | h
          · rw [hq.2.1] at h; cases h
          · omega
    · have hq := t.own p hp
      refine ⟨hq.1, hq.2.1, ?_⟩
      rcases hq.2.2 with h | h
      · exact .inl (Nat.le_trans s.sz h)
      · obtain ⟨q, hq, e⟩ := List.mem_map.1 h
        rw [← e]
        exact (s.own q (List.mem_append_right _ hq)).2.2
  nd := by
    have hnd := s.nd
    rw [List.map_append, List.nodup_append] at hnd ⊢
    refine ⟨hnd.1, t.nd, ?_⟩
    intro a ha b hb e
    subst e
    obtain ⟨p, hp, rfl⟩ := List.mem_map.1 ha
    obtain ⟨q, hq, e2⟩ := List.mem_map.1 hb
    have h1 := lt_of_some (s.own p (List.mem_append_left _ hp)).1
    rcases (t.own q hq).2.2 with h2 | h2
    · omega
    · exact hnd.2.2 _ (List.mem_map.2 ⟨p, hp, rfl⟩) _ h2 e2.symm

theorem St.perm {L' : OL} (hp : L'.Perm L) (s : St w0 B h0 h L w) : St w0 B h0 h L' w :=
  ⟨s.os, s.tape, s.output, s.sz, s.old, s.inn, s.le, s.new, fun p hp' => s.own p (hp.subset hp'), ((hp.map Prod.fst).nodup_iff).2 s.nd⟩

/-- A call of yield. -/
def CtY (P : Program) (l : Nat) (args : Array Value) (h : PH) (L : OL) (Post : Value → PH → OL → Prop) : Prop :=
  ∀ w, h.inn w → (∀ p ∈ L, w.heap[p.1]? = some p.2 ∧ h p.1 = none) → (L.map Prod.fst).Nodup →
    ∃ fn tmps assign body, (Instr.yield l args).run P w = .ok (.round l fn tmps assign body) w ∧
      RoundIn (Fr none) 0 P l fn tmps assign body w fun e w' => match e with
        | .returned v => ∃ h' L', St w (L.map Prod.fst) h h' L' w' ∧ Post v h' L'
        | .panicked _ => False
        | .outgrown => False

theorem so_yield {x : Operand} {l : Nat} {xs : List Operand} {ts : Array TypeId} {vs : List Value} {Post : Value → PH → OL → Prop} (La Lc : OL) (hx : ev ρ x = .func (.yield l) #[] #[]) (hv : xs.map (ev ρ) = vs) (hL : L = La ++ Lc) (hp : CtY P l vs.toArray h Lc Post)
    (hK : ∀ v h' Lc', h.le h' → Post v h' Lc' → K v h' (La ++ Lc')) : SO P w0 B h0 ρ h L ⟨d, .call ⟨.value x, xs.toArray, ts⟩, ty, pos, af, g⟩ K := fun w s => by
  subst hL
  obtain ⟨fn, tmps, assign, body, hy, hr⟩ := hp w s.inn (fun p hp => ⟨(s.own p (List.mem_append_right _ hp)).1, (s.own p (List.mem_append_right _ hp)).2.1⟩)
    (by have := s.nd; rw [List.map_append, List.nodup_append] at this; exact this.2.1)
  have : (execOp (ev ρ) ⟨d, .call ⟨.value x, xs.toArray, ts⟩, ty, pos, af, g⟩).run P w = .ok (.round l fn tmps assign body) w := by
    rw [← hy, ← hv]
    simp [execOp, resolve, hx, Deferred.ofValue, invoke]
  rw [this]
  refine hr.mono fun e w' q => ?_
  cases e with
  | returned v => obtain ⟨h', L', st, hpost⟩ := q; exact ⟨h', _, hK _ _ _ st.le hpost, s.callL st⟩
  | panicked c => exact q
  | outgrown => exact q

theorem so_yield1 {x : Operand} {l : Nat} {xs : List Operand} {ts : Array TypeId} {vs : List Value} {Post : Value → PH → OL → Prop} {p : Nat × Obj} (hx : ev ρ x = .func (.yield l) #[] #[]) (hv : xs.map (ev ρ) = vs) (hp : CtY P l vs.toArray h Lc Post)
    (hK : ∀ v h' Lc', h.le h' → Post v h' Lc' → K v h' (p :: Lc')) : SO P w0 B h0 ρ h (p :: Lc) ⟨d, .call ⟨.value x, xs.toArray, ts⟩, ty, pos, af, g⟩ K :=
  so_yield [p] Lc hx hv rfl hp hK

/-- A Go function that is handed blocks, and hands blocks back. -/
def CtX (P : Program) (f : FuncId) (args : Array Value) (h : PH) (L : OL) (Post : Value → PH → OL → Prop) : Prop :=
  ∀ w, h.inn w → (∀ p ∈ L, w.heap[p.1]? = some p.2 ∧ h p.1 = none) → (L.map Prod.fst).Nodup →
    Calls P f args w fun e w' => match e with
      | .returned v => ∃ h' L', St w (L.map Prod.fst) h h' L' w' ∧ Post v h' L'
      | .outgrown => False
      | .panicked _ => False
def FQX (P : Program) (fn : Func) (w0 : World) (h0 : PH) (L : OL) (Post : Value → PH → OL → Prop) : Exit → Act → World → Prop :=
  bodyPostM (Fr none) 0 P fn fun e w' => match e with
    | .returned v => ∃ h' L', St w0 (L.map Prod.fst) h0 h' L' w' ∧ Post v h' L'
    | .outgrown => False
    | .panicked _ => False
theorem ctX_enter {fn : Func} {c : Code} {f : FuncId} {Post : Value → PH → OL → Prop} (l : List Value) (hf : P.funcs[f]? = some fn) (hb : fn.body = some c) (hn : fn.ntmps = n) (hl : Nat.ble l.length n = true)
    (x : ∀ w0, (∀ b ∈ L.map Prod.fst, b < w0.heap.size) → WP none P w0 (L.map Prod.fst) h n c (FQX P fn w0 h L Post) [] (envL 0 l) h L) : CtX P f l.toArray h L Post := by
  subst hn
  intro w hi ho hnd
  refine (callsIn_wide (n := 0)).1 (callsIn_of_wp_marks hf hb trivial ?_)
  refine x w ?_ _ _ (envL_env l fn.ntmps (Nat.le_of_ble_eq_true hl)) (St.start hi ho hnd)
  intro b hb
  obtain ⟨p, hp, rfl⟩ := List.mem_map.1 hb
  exact lt_of_some (ho p hp).1
theorem fq_retX {fn : Func} {Post : Value → PH → OL → Prop} {L0 L' : OL} {rs : List ResultVar} {vs : List Value} (v : Value) (hr : fn.results = rs.toArray) (hl : RVs P ρ h L rs vs)
    (hv : (if h : vs.toArray.size = 1 then vs.toArray[0] else .tuple vs.toArray) = v) (hs : List.Sublist L' L) (hp : Post v h L') :
    WQ w0 (L0.map Prod.fst) h0 n (FQX P fn w0 h0 L0 Post) .ret [] ρ h L := fun a _ e s =>
  fqm_nil e.dfr ⟨v, by rw [results_run e s.mem hr hl, hv], h, L', s.drop hs, hp⟩
theorem fq_endX {fn : Func} {Post : Value → PH → OL → Prop} {L0 : OL} (x : WQ w0 (L0.map Prod.fst) h0 n (FQX P fn w0 h0 L0 Post) .ret ds ρ h L) :
    WQ w0 (L0.map Prod.fst) h0 n (FQX P fn w0 h0 L0 Post) .normal ds ρ h L := fun a w e s => x a w e s

/-- What an iterator promises: it calls yield on so many tuples, one behind the other, till a round says no. -/
def It (P : Program) (gf : FuncId) (lb : List Value) (h : PH) (N : Nat) (A : Nat → PH → List Value → Prop) : Prop :=
  ∀ (l : Nat) (I : Nat → PH → OL → Prop) (X : PH → OL → Prop) (h1 : PH) (L : OL), h.le h1 →
    (∀ k h h' L, h.le h' → I k h L → I k h' L) → (∀ h h' L, h.le h' → X h L → X h' L) → I 0 h1 L →
    (∀ k h L vs, k < N → h1.le h → I k h L → A k h vs → CtY P l vs.toArray h L fun v h' L' => (v = .bool true ∧ I (k + 1) h' L') ∨ (v = .bool false ∧ X h' L')) →
    CtX P gf (.func (.yield l) #[] #[] :: lb).toArray h1 L fun _ h' L' => I N h' L' ∨ X h' L'

theorem It.mono {gf : FuncId} {lb : List Value} {h h' : PH} {N : Nat} {A : Nat → PH → List Value → Prop} (x : It P gf lb h N A) (hl : h.le h') : It P gf lb h' N A :=
  fun l I X h1 L hle => x l I X h1 L (PH.le_trans hl hle)

/-- The temporaries with a tuple laid over parameters. -/
@[reducible] def updz : List Nat → List Value → (Nat → Value) → Nat → Value
  | p :: ps, v :: vs, ρ => updz ps vs (upd ρ p v)
  | _, _, ρ => ρ
theorem env_fold {ds : List Deferred} : ∀ (ps : List Nat) (vs : List Value) (t : Array Value) (ρ : Nat → Value), Env { tmps := t, defers := ds } n ds ρ → ps.all (fun p => Nat.blt p n) = true →
    Env { tmps := (ps.zip vs).foldl (fun tmps (p, v) => tmps.setIfInBounds p v) t, defers := ds } n ds (updz ps vs ρ) := by
  intro ps
  induction ps with
  | nil => intro vs t ρ e _; cases vs <;> exact e
  | cons p ps ih =>
    intro vs t ρ e hp
    cases vs with
    | nil => exact e
    | cons v vs =>
      simp only [List.all_cons, Bool.and_eq_true] at hp
      exact ih vs _ _ (e.put (d := p) hp.1 v) hp.2

/-- Behind the assignment to the loop's left sides. -/
def AQ (P : Program) (l : Nat) (body : Code) (R : Ending → World → Prop) : Exit → Act → World → Prop :=
  Exit.then (fun a w => ∃ w₂, (Instr.beginRound l).run P w = .ok () w₂ ∧ body.wpIn ((Fr none).inRound l) 0 P (roundPost P l R) a w₂) (fun _ _ _ => False)

theorem run_putObj {P : Program} {w : World} {l : Nat} {o o' : Obj} {f : Obj → OL} (s : St w0 B h0 h L w) (hs : Sel L l o f) : St w0 B h0 h (f o') (w.putObj l o') := by
  have hlt := lt_of_some (s.own _ hs.mem).1
  exact s.put hs rfl rfl rfl World.putObj_size (World.putObj_heap_same hlt) (fun k hk => World.putObj_heap_other hk)

theorem wq_begin {l : Nat} {body : Code} {R : Ending → World → Prop} {rec : Loop} {f : Obj → OL} (hs : Sel L l (.loop rec) f) (hr : rec.state = .ready)
    (x : WP (some l) P w0 B h0 n body (roundPost P l R) ds ρ h (f (.loop { rec with state := .busy }))) : WQ w0 B h0 n (AQ P l body R) .normal ds ρ h L := fun a w e s => by
  have hb := (s.own _ hs.mem).1
  exact ⟨_, run_beginRound hb hr, x a _ e (run_putObj (P := P) s hs)⟩

/-- What a round comes to. -/
def RR (w1 : World) (h1 : PH) (Lc : OL) (Post : Value → PH → OL → Prop) : Ending → World → Prop
  | .returned v, w' => ∃ h' L', St w1 (Lc.map Prod.fst) h1 h' L' w' ∧ Post v h' L'
  | .panicked _, _ => False
  | .outgrown, _ => False

/-- The round runs off its end. -/
theorem wq_roundN {l : Nat} {rec : Loop} {f : Obj → OL} {L' : OL} {Post : Value → PH → OL → Prop} (hs : Sel L l (.loop rec) f) (hsub : List.Sublist L' (f (.loop { rec with state := .ready, pending := none })))
    (hp : Post (.bool true) h L') : WQ w0 (Lc.map Prod.fst) h0 n (roundPost P l (RR w0 h0 Lc Post)) .normal ds ρ h L := fun a w e s => by
  have hb := (s.own _ hs.mem).1
  exact ⟨_, _, run_endRound none hb, h, L', (run_putObj (P := P) s hs).drop hsub, hp⟩
/-- .. returns. -/
theorem wq_roundR {l : Nat} {rec : Loop} {f : Obj → OL} {L' : OL} {Post : Value → PH → OL → Prop} (hs : Sel L l (.loop rec) f) (hsub : List.Sublist L' (f (.loop { rec with state := .done, pending := some .ret })))
    (hp : Post (.bool false) h L') : WQ w0 (Lc.map Prod.fst) h0 n (roundPost P l (RR w0 h0 Lc Post)) .ret ds ρ h L := fun a w e s => by
  have hb := (s.own _ hs.mem).1
  exact ⟨_, _, run_endRound (some .ret) hb, h, L', (run_putObj (P := P) s hs).drop hsub, hp⟩
/-- .. is left by a jump. -/
theorem wq_roundX {l id : Nat} {rec : Loop} {f : Obj → OL} {L' : OL} {Post : Value → PH → OL → Prop} (hs : Sel L l (.loop rec) f) (hsub : List.Sublist L' (f (.loop { rec with state := .done, pending := some (.exit id) })))
    (hp : Post (.bool false) h L') : WQ w0 (Lc.map Prod.fst) h0 n (roundPost P l (RR w0 h0 Lc Post)) (.exit id) ds ρ h L := fun a w e s => by
  have hb := (s.own _ hs.mem).1
  exact ⟨_, _, run_endRound (some (.exit id)) hb, h, L', (run_putObj (P := P) s hs).drop hsub, hp⟩

/-- What a round's ending leaves: the loop's record, and the caller's own blocks. -/
def YPost (l : Nat) (rec : LoopState → Option Code → Loop) (I : PH → OL → Prop) (X : Code → PH → OL → Prop) (v : Value) (h : PH) (L : OL) : Prop :=
  (v = .bool true ∧ ∃ L', L = (l, .loop (rec .ready none)) :: L' ∧ I h L') ∨ (v = .bool false ∧ ∃ c L', L = (l, .loop (rec .done (some c))) :: L' ∧ X c h L')

/-- .. it goes on. -/
theorem ypost_go {l : Nat} {rec : LoopState → Option Code → Loop} {I : PH → OL → Prop} {X : Code → PH → OL → Prop} {L0 L1 : OL} (hru : ∀ s p, { rec .ready none with state := s, pending := p } = rec s p)
    (he : L0 = (l, .loop { { rec .ready none with state := .busy } with state := .ready, pending := none }) :: L1) (hI : I h L1) : YPost l rec I X (.bool true) h L0 :=
  .inl ⟨rfl, L1, by rw [he]; exact congrArg (fun x => (l, Obj.loop x) :: L1) (hru .ready none), hI⟩
theorem ypost_stop {l : Nat} {rec : LoopState → Option Code → Loop} {I : PH → OL → Prop} {X : Code → PH → OL → Prop} {c : Code} {L0 L1 : OL} (hru : ∀ s p, { rec .ready none with state := s, pending := p } = rec s p)
    (he : L0 = (l, .loop { { rec .ready none with state := .busy } with state := .done, pending := some c }) :: L1) (hX : X c h L1) : YPost l rec I X (.bool false) h L0 :=
  .inr ⟨rfl, c, L1, by rw [he]; exact congrArg (fun x => (l, Obj.loop x) :: L1) (hru .done (some c)), hX⟩

/-- THE LOOP 'for .. := range g { body }'. 'I k': what the caller's own blocks hold ahead of round k; 'X c': .. where a round has left by the jump 'c'. -/
theorem xp_range {gx : Operand} {ps : List Nat} {assign body : Code} {gf : FuncId} {lb : List Value} {N : Nat} {A : Nat → PH → List Value → Prop} (I : Nat → PH → OL → Prop) (X : Code → PH → OL → Prop) (hg : ev ρ gx = .func (.func gf) #[] lb.toArray) (hgb : goB P gf = true) (hit : It P gf lb h N A)
    (hps : ∀ k h vs, A k h vs → vs.length = ps.length) (hpn : ps.all (fun p => Nat.blt p n) = true) (hIm : ∀ k h h' L, h.le h' → I k h L → I k h' L) (hXm : ∀ c h h' L, h.le h' → X c h L → X c h' L)
    (hI0 : I 0 h L)
    (round : ∀ (l : Nat) (rec : LoopState → Option Code → Loop) (k : Nat) (h1 : PH) (L1 : OL) (w1 : World) (vs : List Value), k < N → h.le h1 → I k h1 L1 → A k h1 vs → (rec .ready none).state = .ready → (∀ s p, { rec .ready none with state := s, pending := p } = rec s p) →
      WP (some l) P w1 (((l, Obj.loop (rec .ready none)) :: L1).map Prod.fst) h1 n assign (AQ P l body (RR w1 h1 ((l, .loop (rec .ready none)) :: L1) (YPost l rec (I (k + 1)) X))) [] (updz ps vs ρ) h1 ((l, .loop (rec .ready none)) :: L1))
    (done : ∀ D h' L', h.le h' → I N h' L' → WQ w0 B h0 n Q .normal ({ target := .collected D, args := #[] } :: ds) ρ h' ((D, .deferred (some [])) :: L'))
    (stop : ∀ D c h' L', h.le h' → X c h' L' → WP none P w0 B h0 n c Q ({ target := .collected D, args := #[] } :: ds) ρ h' ((D, .deferred (some [])) :: L')) :
    WP none P w0 B h0 n (.rangeFunc gx ps.toArray assign body) Q ds ρ h L := fun a w e s => by
  refine wpIn_rangeFunc ?_
  intro fn _
  obtain ⟨rec, hrec⟩ : ∃ rec : LoopState → Option Code → Loop, rec = fun st pe => { state := st, pending := pe, fn, tmps := a.tmps, params := ps.toArray, assign, body, defers := w.heap.size } := ⟨_, rfl⟩
  have s1 := s.alloc (.deferred (some []))
  have s2 := s1.alloc (.loop (rec .ready none))
  rw [World.size_alloc] at s2
  have s3 : St w0 B h0 h ([(w.heap.size, .deferred (some []))] ++ ((w.heap.size + 1, .loop (rec .ready none)) :: L)) ((w.alloc (.deferred (some []))).alloc (.loop (rec .ready none))) := s2.perm (List.Perm.swap _ _ _)
  refine ⟨w.heap.size + 1, [{ target := .collected w.heap.size, args := #[] }], (w.alloc (.deferred (some []))).alloc (.loop (rec .ready none)), { target := .fn (.func gf) lb.toArray, args := #[.func (.yield (w.heap.size + 1)) #[] #[]] },
    (w.alloc (.deferred (some []))).alloc (.loop (rec .ready none)), gf, (.func (.yield (w.heap.size + 1)) #[] #[] :: lb).toArray, (w.alloc (.deferred (some []))).alloc (.loop (rec .ready none)), ?_, ?_, fun _ _ => trivial, ?_, fr_depth none, ?_⟩
  · rw [hrec]; exact run_enterLoop_outer _ _ _ _ _
  · simp only [resolve, e.eval, hg]
    simp [Deferred.ofValue]
  · simp [invoke, run_callFunc hgb]
  · have hY := hit (w.heap.size + 1) (fun k h' L' => ∃ L1, L' = (w.heap.size + 1, .loop (rec .ready none)) :: L1 ∧ I k h' L1) (fun h' L' => ∃ c L1, L' = (w.heap.size + 1, .loop (rec .done (some c))) :: L1 ∧ X c h' L1) h ((w.heap.size + 1, .loop (rec .ready none)) :: L) (PH.le_refl _)
      (fun k h1 h2 L1 hl ⟨L2, e1, hi⟩ => ⟨L2, e1, hIm k h1 h2 L2 hl hi⟩) (fun h1 h2 L1 hl ⟨c, L2, e1, hi⟩ => ⟨c, L2, e1, hXm c h1 h2 L2 hl hi⟩) ⟨L, rfl, hI0⟩ ?_
    · refine callsIn_fr.2 ((hY _ s3.inn (fun p hp => ⟨(s3.own p (List.mem_append_right _ hp)).1, (s3.own p (List.mem_append_right _ hp)).2.1⟩) (by have := s3.nd; rw [List.map_append, List.nodup_append] at this; exact this.2.1)).mono ?_)
      intro e' w' q
      cases e' with
      | outgrown => exact q.elim
      | panicked c => exact q.elim
      | returned v =>
        obtain ⟨h', L', st, hpost⟩ := q
        have s4 := s3.callL st
        have ea : Env { a with defers := [{ target := .collected w.heap.size, args := #[] }] ++ a.defers } n ({ target := .collected w.heap.size, args := #[] } :: ds) ρ := ⟨e.size, e.get, by rw [e.dfr]; rfl⟩
        rcases hpost with ⟨L1, rfl, hi⟩ | ⟨c, L1, rfl, hi⟩
        · have hb := (s4.own (w.heap.size + 1, .loop (rec .ready none)) (by simp)).1
          refine ⟨none, _, ?_, done w.heap.size h' L1 st.le hi _ _ ea ((run_putObj (P := P) (o' := .loop { rec .ready none with state := .exhausted }) s4 (.tail .head)).drop (.cons_cons _ (List.sublist_cons_self _ _)))⟩
          have := run_endLoop (P := P) hb (by rw [hrec]; simp)
          rw [this, hrec]
        · have hb := (s4.own (w.heap.size + 1, .loop (rec .done (some c))) (by simp)).1
          refine ⟨some c, _, ?_, stop w.heap.size c h' L1 st.le hi _ _ ea ((run_putObj (P := P) (o' := .loop { rec .done (some c) with state := .exhausted }) s4 (.tail .head)).drop (.cons_cons _ (List.sublist_cons_self _ _)))⟩
          have := run_endLoop (P := P) hb (by rw [hrec]; simp)
          rw [this, hrec]
    · rintro k h1 L' vs hk hle ⟨L1, rfl, hi⟩ hA w1 hin hown hnd
      have hb := (hown (w.heap.size + 1, _) List.mem_cons_self).1
      refine ⟨_, _, _, _, run_yield (args := vs.toArray) hb (by rw [hrec]; simpa using hps k h1 vs hA), ?_⟩
      have hst : St w1 (((w.heap.size + 1, Obj.loop (rec .ready none)) :: L1).map Prod.fst) h1 h1 ((w.heap.size + 1, .loop (rec .ready none)) :: L1) w1 := St.start hin hown hnd
      have hR := round (w.heap.size + 1) rec k h1 L1 w1 vs hk hle hi hA (by rw [hrec]) (by intro s p; rw [hrec])
      have hen : Env { tmps := ((ps.zip vs).foldl (fun tmps (p, v) => tmps.setIfInBounds p v) a.tmps), defers := [] } n [] (updz ps vs ρ) :=
        env_fold (ds := []) ps vs a.tmps ρ ⟨e.size, e.get, rfl⟩ hpn
      have hW := hR _ _ hen hst
      have hz : (ps.toArray.zip vs.toArray).foldl (fun tmps (x : Tmp × Value) => match x with | (t, a) => tmps.setIfInBounds t a) a.tmps = (ps.zip vs).foldl (fun tmps (p, v) => tmps.setIfInBounds p v) a.tmps := by
        rw [List.zip_toArray, List.foldl_toArray]
      rw [hrec]
      refine (roundIn_of_wpIn trivial ?_ : RoundIn (Fr none) 0 P (w.heap.size + 1) fn _ assign body w1 (RR w1 h1 ((w.heap.size + 1, .loop (rec .ready none)) :: L1) (YPost (w.heap.size + 1) rec (I (k + 1)) X))).mono ?_
      · simp only [hz]
        exact hW
      · intro e' w' q
        cases e' with
        | returned v =>
          obtain ⟨h', L', st, hp⟩ := q
          rw [hrec] at st hp
          refine ⟨h', L', st, ?_⟩
          rcases hp with ⟨h1, L2, h2, h3⟩ | ⟨h1, c, L2, h2, h3⟩
          · exact .inl ⟨h1, L2, h2, h3⟩
          · exact .inr ⟨h1, c, L2, h2, h3⟩
        | panicked c => exact q
        | outgrown => exact q

/-- The end of a function behind such a loop. -/
theorem fq_retC {fn : Func} {Post : Ending → PH → OL → Prop} {L0 L' : OL} {D : Nat} {f : Obj → OL} {rs : List ResultVar} {vs : List Value} (v : Value) (hd : Sel L D (.deferred (some [])) f) (hr : fn.results = rs.toArray) (hl : RVs P ρ h (f (.deferred none)) rs vs)
    (hv : (if h : vs.toArray.size = 1 then vs.toArray[0] else .tuple vs.toArray) = v) (hs : List.Sublist L' (f (.deferred none))) (hf : L'.map Prod.fst = L0.map Prod.fst) (hp : Post (.returned v) h L') :
    WQ w0 (L0.map Prod.fst) h0 n (FQ P fn w0 h0 L0 Post) .ret [{ target := .collected D, args := #[] }] ρ h L := fun a w e s => by
  have hb := (s.own _ hd.mem).1
  have s' := run_putObj (P := P) (o' := .deferred none) s hd
  show LeavesInM (Fr none) 0 P fn a.tmps _ a.defers .returning w
  rw [e.dfr]
  exact ⟨by simp, .inl ⟨D, _, rfl, run_takeDeferred hb, v, by rw [results_run e s'.mem hr hl, hv], h, L', s'.drop hs, hf, hp⟩⟩
theorem fq_retCR {fn : Func} {Post : Value → PH → Prop} {D : Nat} {f : Obj → OL} {rs : List ResultVar} {vs : List Value} (v : Value) (hd : Sel L D (.deferred (some [])) f) (hr : fn.results = rs.toArray) (hl : RVs P ρ h (f (.deferred none)) rs vs)
    (hv : (if h : vs.toArray.size = 1 then vs.toArray[0] else .tuple vs.toArray) = v) (hp : Post v h) :
    WQ w0 [] h0 n (FQ P fn w0 h0 [] fun e h' _ => ∃ v, e = .returned v ∧ Post v h') .ret [{ target := .collected D, args := #[] }] ρ h L :=
  fq_retC (L0 := []) (L' := []) v hd hr hl hv (List.nil_sublist _) rfl ⟨v, rfl, hp⟩
theorem fq_endC {fn : Func} {Post : Ending → PH → OL → Prop} {L0 : OL} (x : WQ w0 (L0.map Prod.fst) h0 n (FQ P fn w0 h0 L0 Post) .ret ds ρ h L) :
    WQ w0 (L0.map Prod.fst) h0 n (FQ P fn w0 h0 L0 Post) .normal ds ρ h L := fun a w e s => x a w e s
end
end Go.Sx
