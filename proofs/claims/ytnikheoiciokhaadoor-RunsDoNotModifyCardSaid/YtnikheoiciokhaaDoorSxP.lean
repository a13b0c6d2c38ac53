/-
  THE LAYER, SIXTH PART (own work): slices: reading, making, appending, slicing; calls that hand new blocks over.
-/
import Derived.Test.YtnikheoiciokhaaDoorSxM
namespace Go.Sx
open Go
set_option linter.unusedVariables false

/-! ### New blocks handed over by a call -/

/-- A Go function that returns, and hands blocks of its own making over for writing. -/
def CtN (P : Program) (f : FuncId) (args : Array Value) (h : PH) (Post : Value → PH → OL → Prop) : Prop :=
  ∀ w, h.inn w → Calls P f args w fun e w' => match e with
    | .returned v => ∃ h' N, St w [] h h' N w' ∧ Post v h' N
    | .outgrown => False
    | .panicked _ => False

section
variable {r : Option Nat} {P : Program} {w0 w : World} {B : List Nat} {h0 : PH} {n : Nat} {Q : Exit → Act → World → Prop} {ds : List Deferred} {ρ : Nat → Value} {h : PH} {L : OL} {d : Option Tmp} {ty : TypeId} {pos : String} {af : Array Edge} {g : Option (Nat × Bool)} {K : Value → PH → OL → Prop}

theorem St.callN (s : St w0 B h0 h L w) {h' : PH} {N : OL} {w' : World} (t : St w [] h h' N w') : St w0 B h0 h' (N ++ L) w' where
  os := t.os.trans s.os
  tape := t.tape.trans s.tape
  output := t.output.trans s.output
  sz := Nat.le_trans s.sz t.sz
  old b hb hn := by rw [t.old b (Nat.lt_of_lt_of_le hb s.sz) (by simp)]; exact s.old b hb hn
  inn := t.inn
  le := PH.le_trans s.le t.le
  new b o hx := by
    rcases t.new b o hx with h | h
    · exact s.new b o h
    · exact .inr (Nat.le_trans s.sz h)
  own p hp := by
    rcases List.mem_append.1 hp with hp | hp
    · have := t.own p hp
      refine ⟨this.1, this.2.1, ?_⟩
      rcases this.2.2 with h | h
      · exact .inl (Nat.le_trans s.sz h)
      · cases h
    · have := s.own p hp
      have hlt := lt_of_some this.1
      refine ⟨by rw [t.old _ hlt (by simp)]; exact this.1, ?_, this.2.2⟩
      cases hh : h' p.1 with
      | none => rfl
      | some x =>
        rcases t.new _ _ hh with h | h
        · rw [this.2.1] at h; cases h
        · omega
  nd := by
    rw [List.map_append, List.nodup_append]
    refine ⟨t.nd, s.nd, ?_⟩
    intro a ha b hb e
    subst e
    obtain ⟨p, hp, rfl⟩ := List.mem_map.1 ha
    obtain ⟨q, hq, e2⟩ := List.mem_map.1 hb
    have h1 := (t.own p hp).2.2
    have h2 := lt_of_some (s.own q hq).1
    rcases h1 with h1 | h1
    · omega
    · cases h1

theorem so_callN {f : FuncId} {l : List Operand} {ts : Array TypeId} {vs : List Value} {Post : Value → PH → OL → Prop} (hp : CtN P f vs.toArray h Post) (hf : goB P f = true) (hv : l.map (ev ρ) = vs)
    (hK : ∀ v h' N, h.le h' → Post v h' N → K v h' (N ++ L)) : SO P w0 B h0 ρ h L ⟨d, .call ⟨.value (.func f), l.toArray, ts⟩, ty, pos, af, g⟩ K := fun w s => by
  have : (execOp (ev ρ) ⟨d, .call ⟨.value (.func f), l.toArray, ts⟩, ty, pos, af, g⟩).run P w = .ok (.enter f vs.toArray) w := by
    simp [execOp, resolve, Deferred.ofValue, invoke, run_callFunc hf, ← hv]
  rw [this]
  refine (hp w s.inn).mono fun e w' r => ?_
  cases e with
  | outgrown => exact r
  | returned v => obtain ⟨h', N, st, hpost⟩ := r; exact ⟨h', _, hK _ _ _ st.le hpost, s.callN st⟩
  | panicked c => exact r

/-- The end of such a function. -/
def FQN (P : Program) (fn : Func) (w0 : World) (h0 : PH) (Post : Value → PH → OL → Prop) : Exit → Act → World → Prop :=
  bodyPostM (Fr none) 0 P fn fun e w' => match e with
    | .returned v => ∃ h' N, St w0 [] h0 h' N w' ∧ Post v h' N
    | .outgrown => False
    | .panicked _ => False
theorem ctn_enter {fn : Func} {c : Code} {f : FuncId} {Post : Value → PH → OL → Prop} (l : List Value) (hf : P.funcs[f]? = some fn) (hb : fn.body = some c) (hn : fn.ntmps = n) (hl : Nat.ble l.length n = true)
    (x : ∀ w0, WP none P w0 [] h n c (FQN P fn w0 h Post) [] (envL 0 l) h []) : CtN P f l.toArray h Post := by
  subst hn
  intro w hi
  refine (callsIn_wide (n := 0)).1 (callsIn_of_wp_marks hf hb trivial ?_)
  exact x w _ _ (envL_env l fn.ntmps (Nat.le_of_ble_eq_true hl)) (St.start (L := []) hi (fun p hp => by cases hp) List.nodup_nil)
theorem fq_retN {fn : Func} {Post : Value → PH → OL → Prop} {N : OL} {rs : List ResultVar} {vs : List Value} (v : Value) (hr : fn.results = rs.toArray) (hl : RVs P ρ h L rs vs)
    (hv : (if h : vs.toArray.size = 1 then vs.toArray[0] else .tuple vs.toArray) = v) (hs : List.Sublist N L) (hp : Post v h N) : WQ w0 [] h0 n (FQN P fn w0 h0 Post) .ret [] ρ h L := fun a _ e s =>
  fqm_nil e.dfr ⟨v, by rw [results_run e s.mem hr hl, hv], h, N, s.drop hs, hp⟩
theorem fqn_end {fn : Func} {Post : Value → PH → OL → Prop} (x : WQ w0 [] h0 n (FQN P fn w0 h0 Post) .ret [] ρ h L) : WQ w0 [] h0 n (FQN P fn w0 h0 Post) .normal [] ρ h L := fun a w e s => x a w e s

/-! ### Reading -/

/-- The cells of a slice value's elements. -/
def Rd (P : Program) (h : PH) (L : OL) (size : Nat) (v : Value) (k : Nat) (cs : Array Value) : Prop := ∀ w, Mem h L w → (Builtin.firstCells size k v).run P w = .ok cs w
theorem rd_none (size k : Nat) (m c : Nat) : Rd P h L size (.slice none m c) k #[] := fun w _ => rfl
theorem rd_own {size k b off m cp : Nat} {c cs : Array Value} {E : TypeId} {fr : Nat × Nat} {f : Obj → OL} (hs : Sel L b (.cells c E fr) f) (hk : off + k * size ≤ c.size) (hc : c.extract off (off + k * size) = cs) : Rd P h L size (.slice (some ⟨b, off, none⟩) m cp) k cs := fun w hm => by
  show (loadCells ⟨b, off, none⟩ (k * size)).run P w = _
  rw [run_loadCells (mem_sel hm hs) off _ hk, hc]
theorem rd_h {size k b off m cp : Nat} {c cs : Array Value} {E : TypeId} {fr : Nat × Nat} (hs : h b = some (.cells c E fr)) (hk : off + k * size ≤ c.size) (hc : c.extract off (off + k * size) = cs) : Rd P h L size (.slice (some ⟨b, off, none⟩) m cp) k cs := fun w hm => by
  show (loadCells ⟨b, off, none⟩ (k * size)).run P w = _
  rw [run_loadCells (hm.1 _ _ hs) off _ hk, hc]
theorem rd_zero {size b off m cp : Nat} {c : Array Value} {E : TypeId} {fr : Nat × Nat} (hs : h b = some (.cells c E fr)) (hk : off ≤ c.size) : Rd P h L size (.slice (some ⟨b, off, none⟩) m cp) 0 #[] := rd_h hs (by simpa using hk) (by simp [Nat.min_le_left])

/-! ### append -/

/-- A slice type: its element's type, size and bytes. -/
def sliceE (P : Program) (t e size bytes : Nat) : Bool :=
  match P.underlying t with
  | some (.slice e') => Nat.beq e' e && (match P.info? e with | some i => Nat.beq i.size size && Nat.beq i.bytes bytes && (match i.zero with | some z => Nat.beq z.cells.size size | none => false) | none => false) && (match P.underlying t with | some (.int _) => false | _ => true)
  | _ => false
theorem sliceE_out {t e size bytes : Nat} (ht : sliceE P t e size bytes = true) : ∃ i z, P.underlying t = some (.slice e) ∧ P.info? e = some i ∧ i.size = size ∧ i.bytes = bytes ∧ i.zero = some z ∧ z.cells.size = size := by
  unfold sliceE at ht
  cases hu : P.underlying t with
  | none => rw [hu] at ht; cases ht
  | some dd =>
    rw [hu] at ht
    cases dd with
    | slice e' =>
      simp only [Bool.and_eq_true] at ht
      obtain ⟨⟨h1, h2⟩, _⟩ := ht
      have e1 := Nat.eq_of_beq_eq_true h1
      subst e1
      cases hi : P.info? e' with
      | none => rw [hi] at h2; cases h2
      | some i =>
        rw [hi] at h2
        cases hz : i.zero with
        | none => simp [hz] at h2
        | some z =>
          simp only [hz, Bool.and_eq_true] at h2
          exact ⟨i, z, rfl, rfl, Nat.eq_of_beq_eq_true h2.1.1, Nat.eq_of_beq_eq_true h2.1.2, hz, Nat.eq_of_beq_eq_true h2.2⟩
    | _ => cases ht

theorem growBy_le (need : Nat) : ∀ (r c : Nat), c < need → Builtin.growBy need r c ≤ need + (need + 768) / 4 := by
  intro r
  induction r with
  | zero => intro c hc; simp only [Builtin.growBy]; omega
  | succ r ih =>
    intro c hc
    simp only [Builtin.growBy]
    rw [if_neg (by omega)]
    by_cases h2 : c + (c + 768) / 4 < need
    · exact ih _ h2
    · cases r with
      | zero => simp only [Builtin.growBy]; omega
      | succ r => simp only [Builtin.growBy]; rw [if_pos (by omega)]; omega
theorem next_le {need c : Nat} (hc : c < need) : Builtin.nextslicecap need c ≤ 2 * need + 192 := by
  unfold Builtin.nextslicecap
  split
  · omega
  · split
    · omega
    · have := growBy_le need 4 c hc; omega

theorem zeroCells_size (z : Array Value) (k : Nat) : (Builtin.zeroCells z k).size = k * z.size := by simp [Builtin.zeroCells]

/-- append where there is no room: a new array. -/
theorem so_append_grow {x y : Operand} {t e size bytes : Nat} {a : Option Addr} {m c : Nat} {vy : Value} {k : Nat} {olds news : Array Value} (ht : sliceE P t e size bytes = true) (hx : ev ρ x = .slice a m c) (hy : ev ρ y = vy) (hlen : ∀ w, (Builtin.lenOf vy).run P w = .ok k w)
    (hroom : c < m + k) (hbytes : 0 < bytes) (hb : (2 * (m + k) + 192) * bytes ≤ 281474976710656) (ho : Rd P h L size (.slice a m c) m olds) (hn : Rd P h L size vy k news)
    (hK : ∀ b cap zs, m + k ≤ cap → zs.size = (cap - (m + k)) * size → K (.slice (some ⟨b, 0, none⟩) (m + k) cap) h ((b, .cells (olds ++ news ++ zs) e (0, 0)) :: L)) :
    SO P w0 B h0 ρ h L ⟨d, .call ⟨.builtin .append, #[x, y], #[t, t]⟩, ty, pos, af, g⟩ K := fun w s => by
  obtain ⟨i, z, hu, hi, hsz, hby, hz, hzs⟩ := sliceE_out ht
  have hzv : ∀ w, (zeroValue e).run P w = .ok z w := fun w => by simp [zeroValue, run_typeInfo hi, hz]
  have hbig : ¬ (Builtin.nextslicecap (m + k) c * bytes > 2 ^ 48) := by
    have h1 := next_le hroom
    have h2 := Nat.mul_le_mul_right bytes h1
    simp only [Nat.reducePow]
    omega
  have hb0 : ¬ bytes = 0 := by omega
  have hnr : ¬ (m + k ≤ c) := by omega
  generalize hcap : (Question.appendCap (m + k) c e).cut (w.tape w.drawn (.appendCap (m + k) c e)) = cap
  have hcapge : m + k ≤ cap := by rw [← hcap]; simp [Question.cut]
  have hd : St w0 B h0 h L { w with drawn := w.drawn + 1 } := s.drew _
  have : (execOp (ev ρ) ⟨d, .call ⟨.builtin .append, #[x, y], #[t, t]⟩, ty, pos, af, g⟩).run P w =
      .ok (.value (.slice (some ⟨w.heap.size, 0, none⟩) (m + k) cap)) (({ w with drawn := w.drawn + 1 } : World).alloc (.cells (olds ++ news ++ Builtin.zeroCells z.cells (cap - (m + k))) e)) := by
    have hf : (Question.appendCap (m + k) c e).forced = false := rfl
    have ho' := ho _ hd.mem
    have hn' := hn _ hd.mem
    have hz0 : (do pure ((← underlying t) matches .int _) : Sem Bool).run P w = .ok false w := by simp [run_underlying hu]
    simp only [execOp, resolve, invoke, builtin, Builtin.append_, hx, hy, List.map_toArray, List.map_cons, List.map_nil, Sem.run_bind, Sem.run_pure, Result.andThen_ok, List.getElem?_toArray, List.getElem?_cons_zero, List.getElem?_cons_succ, run_underlying hu, run_sizeOf hi, hsz,
      Bool.false_eq_true, if_false, hlen, hnr, run_typeInfo hi, hby, hb0, or_self, and_false, hbig, run_choose, hf, run_askRoom, hcap, Bool.not_false, if_true]
    simp only [World.drew_eq] at ho' hn' ⊢
    rw [ho']
    simp only [Result.andThen_ok]
    rw [hn']
    simp only [Result.andThen_ok, hzv, newRow, Sem.run_bind, run_newObj, Sem.run_pure]
    rfl
  rw [this]
  exact ⟨_, _, hK _ cap _ hcapge (by rw [zeroCells_size, hzs]), hd.alloc _⟩

/-- append of nothing. -/
theorem so_append_zero {x y : Operand} {t e size bytes : Nat} {a : Option Addr} {m c : Nat} {vy : Value} (ht : sliceE P t e size bytes = true) (hx : ev ρ x = .slice a m c) (hy : ev ρ y = vy) (hlen : ∀ w, (Builtin.lenOf vy).run P w = .ok 0 w) (hmc : m ≤ c)
    (hn : Rd P h L size vy 0 #[]) (hK : K (.slice a m c) h L) : SO P w0 B h0 ρ h L ⟨d, .call ⟨.builtin .append, #[x, y], #[t, t]⟩, ty, pos, af, g⟩ K := fun w s => by
  obtain ⟨i, z, hu, hi, hsz, hby, hz, hzs⟩ := sliceE_out ht
  have : (execOp (ev ρ) ⟨d, .call ⟨.builtin .append, #[x, y], #[t, t]⟩, ty, pos, af, g⟩).run P w = .ok (.value (.slice a m c)) w := by
    have hn' := hn _ s.mem
    simp only [execOp, resolve, invoke, builtin, Builtin.append_, hx, hy, List.map_toArray, List.map_cons, List.map_nil, Sem.run_bind, Sem.run_pure, Result.andThen_ok, List.getElem?_toArray, List.getElem?_cons_zero, List.getElem?_cons_succ, run_underlying hu, run_sizeOf hi, hsz,
      Bool.false_eq_true, if_false, hlen, Nat.add_zero, hmc, if_true, Bool.not_false]
    rw [hn']
    simp only [Result.andThen_ok]
    cases a with
    | none => rfl
    | some ad => simp [storeCells]
  rw [this]
  exact ⟨_, _, hK, s⟩

/-- append into the room of an array of the call's own. -/
theorem so_append_room {x y : Operand} {t e size bytes : Nat} {b off m c : Nat} {vy : Value} {k : Nat} {cs news : Array Value} {E : TypeId} {f : Obj → OL} (ht : sliceE P t e size bytes = true) (hx : ev ρ x = .slice (some ⟨b, off, none⟩) m c) (hy : ev ρ y = vy) (hlen : ∀ w, (Builtin.lenOf vy).run P w = .ok k w)
    (hroom : m + k ≤ c) (hs : Sel L b (.cells cs E (0, 0)) f) (hn : Rd P h L size vy k news) (h1 : ∀ u ∈ news.toList, u.oneCell' = true) (hsz' : off + m * size + news.size ≤ cs.size)
    (hK : K (.slice (some ⟨b, off, none⟩) (m + k) c) h (f (.cells (splice cs (off + m * size) news.toList) E (0, 0)))) : SO P w0 B h0 ρ h L ⟨d, .call ⟨.builtin .append, #[x, y], #[t, t]⟩, ty, pos, af, g⟩ K := fun w s => by
  obtain ⟨i, z, hu, hi, hsz, hby, hz, hzs⟩ := sliceE_out ht
  obtain ⟨w', hr, h2, h3, h4, h5, h6, h7⟩ := run_storeCells (P := P) (E := E) (off + m * size) news.toList 0 cs w (mem_sel s.mem hs) h1 (by simpa using hsz')
  have : (execOp (ev ρ) ⟨d, .call ⟨.builtin .append, #[x, y], #[t, t]⟩, ty, pos, af, g⟩).run P w = .ok (.value (.slice (some ⟨b, off, none⟩) (m + k) c)) w' := by
    have hn' := hn _ s.mem
    simp only [execOp, resolve, invoke, builtin, Builtin.append_, hx, hy, List.map_toArray, List.map_cons, List.map_nil, Sem.run_bind, Sem.run_pure, Result.andThen_ok, List.getElem?_toArray, List.getElem?_cons_zero, List.getElem?_cons_succ, run_underlying hu, run_sizeOf hi, hsz,
      Bool.false_eq_true, if_false, hlen, hroom, if_true, Bool.not_false]
    rw [hn']
    simp only [Result.andThen_ok, add_addr]
    rw [hr]
    rfl
  rw [this]
  exact ⟨_, _, hK, s.put hs h2 h3 h4 h5 (by rw [h6]; simp) h7⟩

theorem len_slice (a : Option Addr) (m c : Nat) (w : World) : (Builtin.lenOf (.slice a m c)).run P w = .ok m w := rfl

/-! ### Slice literals, make, slice expressions -/
theorem so_buildSlice0 {t e size bytes : Nat} (ht : sliceE P t e size bytes = true) (hK : ∀ b, K (.slice (some ⟨b, 0, none⟩) 0 0) h ((b, .cells #[] e (0, 0)) :: L)) : SO P w0 B h0 ρ h L ⟨d, .buildSlice t 0 #[], ty, pos, af, g⟩ K := fun w s => by
  obtain ⟨i, z, hu, hi, hsz, hby, hz, hzs⟩ := sliceE_out ht
  have : (execOp (ev ρ) ⟨d, .buildSlice t 0 #[], ty, pos, af, g⟩).run P w = .ok (.value (.slice (some ⟨w.heap.size, 0, none⟩) 0 0)) (w.alloc (.cells #[] e)) := by
    simp [execOp, Instr.buildSlice, run_underlying hu, run_sizeOf hi, Instr.fill, newRow]
    rw [show Array.map (fun _ => (default : Value)) (Array.range 0) = #[] from Array.ext' (by simp)]
  rw [this]
  exact ⟨_, _, hK _, s.alloc _⟩
/-- One element. -/
theorem so_buildSlice1 {t e size bytes : Nat} {x : Operand} {v : Value} {cs : Array Value} (ht : sliceE P t e size bytes = true) (hx : ev ρ x = v) (hc : v.cells = cs) (hcs : cs.size = size) (h0' : 0 < size) (hbig : size ≤ 16777216)
    (hK : ∀ b, K (.slice (some ⟨b, 0, none⟩) 1 1) h ((b, .cells cs e (0, 0)) :: L)) : SO P w0 B h0 ρ h L ⟨d, .buildSlice t 1 #[(0, x)], ty, pos, af, g⟩ K := fun w s => by
  obtain ⟨i, z, hu, hi, hsz, hby, hz, hzs⟩ := sliceE_out ht
  have hzv : ∀ w, (zeroValue e).run P w = .ok z w := fun w => by simp [zeroValue, run_typeInfo hi, hz]
  have hfill : Instr.fill (fun i => some (i * size, size)) ((Array.range (1 * size)).map (z.cells[· % z.cells.size]!)) [(0, v)] = some cs := by
    simp only [Instr.fill, hc, hcs, ne_eq, not_true_eq_false, Nat.zero_mul, Nat.zero_add, Array.size_map, Array.size_range, Nat.one_mul, gt_iff_lt, Nat.lt_irrefl, decide_false, Bool.or_self, Bool.false_eq_true, if_false, Option.some.injEq]
    have key : ∀ (l : List Value) (st : Nat) (acc : Array Value), st + l.length ≤ acc.size → (l.zipIdx st).foldl (fun cs (p : Value × Nat) => cs.setIfInBounds p.2 p.1) acc = splice acc st l := by
      intro l
      induction l with
      | nil => intro st acc _; rfl
      | cons u l ih =>
        intro st acc hl
        simp only [List.length_cons] at hl
        simp only [List.zipIdx_cons, List.foldl_cons, splice]
        exact ih _ _ (by simp; omega)
    rw [← Array.foldl_toList, Array.toList_zipIdx]
    have := key cs.toList 0 ((Array.range size).map (z.cells[· % z.cells.size]!)) (by simp [hcs])
    rw [show (fun (cs : Array Value) (x : Value × Nat) => match x with | (c, j) => cs.setIfInBounds j c) = (fun cs (p : Value × Nat) => cs.setIfInBounds p.2 p.1) from rfl]
    rw [this]
    exact splice_all (by simp [hcs])
  have hne : ¬ (1 * size = 0) := by omega
  have hle : ¬ (1 * size > 2 ^ 24) := by simp; omega
  have : (execOp (ev ρ) ⟨d, .buildSlice t 1 #[(0, x)], ty, pos, af, g⟩).run P w = .ok (.value (.slice (some ⟨w.heap.size, 0, none⟩) 1 1)) (w.alloc (.cells cs e)) := by
    simp only [execOp, Instr.buildSlice, Sem.run_bind, run_underlying hu, Result.andThen_ok, run_sizeOf hi, hsz, hle, if_false, hne, hzv, Sem.run_pure, List.map_toArray, List.map_cons, List.map_nil, hx]
    rw [hfill]
    simp [newRow]
  rw [this]
  exact ⟨_, _, hK _, s.alloc _⟩

theorem ro_slice {t e size bytes : Nat} {x : Operand} {a : Option Addr} {m c l hh mm : Nat} {lo hi mx : Option Operand} (ht : sliceE P t e size bytes = true) (hx : ev ρ x = .slice a m c)
    (hb : ∀ w, (Instr.sliceBounds true m c (lo.map (ev ρ)) (hi.map (ev ρ)) (mx.map (ev ρ))).run P w = .ok (l, hh, mm) w) :
    RO P ρ h L ⟨d, .slice t x lo hi mx, ty, pos, af, g⟩ (.slice (if mm = l then a else a.map (·.add (l * size))) (hh - l) (mm - l)) := fun w _ => by
  obtain ⟨i, z, hu, hii, hsz, hby, hz, hzs⟩ := sliceE_out ht
  simp [execOp, Instr.sliceAt, run_underlying hu, hx, Instr.slice, hb, run_sizeOf hii, hsz]
/-- 'x[:n:n]', n the length. -/
theorem ro_slice_full {t e size bytes : Nat} {x y u : Operand} {a : Option Addr} {m c : Nat} (ht : sliceE P t e size bytes = true) (hx : ev ρ x = .slice a m c) (hy : ev ρ y = .int .i64 m) (hu : ev ρ u = .int .i64 m) (hmc : m ≤ c) :
    RO P ρ h L ⟨d, .slice t x none (some y) (some u), ty, pos, af, g⟩ (.slice (if m = 0 then a else a.map (·.add 0)) m m) :=
  (ro_slice (l := 0) (hh := m) (mm := m) ht hx (fun w => by
    simp [Instr.sliceBounds, Instr.sliceBound, hy, hu, asIntOf, hmc])).as (by simp)
/-- 's == nil' -/
theorem ro_eqNil {x y : Operand} {T T' : TypeId} {e : Nat} {a : Option Addr} {m c : Nat} (ht : P.underlying T = some (.slice e)) (hx : ev ρ x = .slice a m c) (hy : ev ρ y = .slice none 0 0) : RO P ρ h L ⟨d, .binOp .eql T x y T', ty, pos, af, g⟩ (.bool a.isNone) := fun w _ => by
  have hb : binOp .eql T (.slice a m c) (.slice none 0 0) = (do pure (.bool (← Op.equal T (.slice a m c) (.slice none 0 0)))) := rfl
  have he : (Op.equal T (.slice a m c) (.slice none 0 0)).run P w = .ok a.isNone w := by
    show (Op.equalIn (9999 + 1) T (.slice a m c) (.slice none 0 0)).run P w = _
    unfold Op.equalIn
    cases a <;> simp [run_underlying ht]
  simp only [execOp, hx, hy, eqGuard, hb]
  simp [he]
end

/-! ### Bytes -/
def bget (xs : List (BitVec 8)) (i : Nat) : BitVec 8 := xs.getD i 0#8
/-- A byte slice whose elements are these. -/
def Bytes (h : PH) (s : SV) (xs : List (BitVec 8)) : Prop :=
  s.len = xs.length ∧ s.len ≤ s.cap ∧ (xs = [] ∨ ∃ b off c E fr, s.a = some ⟨b, off, none⟩ ∧ h b = some (.cells c E fr) ∧ off + xs.length ≤ c.size ∧ ∀ i, i < xs.length → c[off + i]? = some (u8 (bget xs i)))
theorem Bytes.mono {h k : PH} {s : SV} {xs : List (BitVec 8)} (x : Bytes h s xs) (hk : h.le k) : Bytes k s xs := by
  obtain ⟨h1, h2, h3⟩ := x
  refine ⟨h1, h2, h3.imp id ?_⟩
  rintro ⟨b, off, c, E, fr, ha, hb, hc⟩
  exact ⟨b, off, c, E, fr, ha, hk _ _ hb, hc⟩
theorem Bytes.nil (h : PH) : Bytes h ⟨none, 0, 0⟩ [] := ⟨rfl, Nat.le_refl _, .inl rfl⟩
theorem Bytes.some {h : PH} {s : SV} {xs : List (BitVec 8)} (x : Bytes h s xs) (hne : 0 < xs.length) : ∃ b off c E fr, s.a = some ⟨b, off, none⟩ ∧ h b = some (.cells c E fr) ∧ off + xs.length ≤ c.size ∧ ∀ i, i < xs.length → c[off + i]? = some (u8 (bget xs i)) := by
  rcases x.2.2 with h1 | h1
  · subst h1; simp at hne
  · exact h1
/-- The cells of bytes. -/
def encB (xs : List (BitVec 8)) : Array Value := (xs.map u8).toArray
theorem encB_size (xs : List (BitVec 8)) : (encB xs).size = xs.length := by simp [encB]
theorem encB_get (xs : List (BitVec 8)) (i : Nat) (hi : i < xs.length) : (encB xs)[i]? = some (u8 (bget xs i)) := by
  simp [encB, bget, hi]
theorem ones_encB (xs : List (BitVec 8)) : ∀ u ∈ (encB xs).toList, u.oneCell' = true := by
  intro u hu
  simp only [encB, List.mem_map] at hu
  obtain ⟨x, _, rfl⟩ := hu
  rfl
theorem rd_bytes {P : Program} {h : PH} {L : OL} {s : SV} {xs : List (BitVec 8)} (x : Bytes h s xs) : Rd P h L 1 (sv s) xs.length (encB xs) := by
  rcases x.2.2 with h1 | ⟨b, off, c, E, fr, ha, hb, hsz, hc⟩
  · subst h1
    intro w hm
    show (Builtin.firstCells 1 0 (.slice s.a s.len s.cap)).run P w = _
    cases s.a with
    | none => rfl
    | some a => rfl
  · obtain ⟨sa, sl, sc⟩ := s
    simp only at ha
    subst ha
    refine rd_h hb (by simpa using hsz) ?_
    apply Array.ext_getElem?
    intro i
    rw [Array.getElem?_extract]
    by_cases hi : i < xs.length
    · rw [if_pos (by omega), hc i hi, encB_get xs i hi]
    · rw [if_neg (by omega), Array.getElem?_eq_none (by rw [encB_size]; omega)]
/-- A block of the call's own that is frozen becomes a byte slice. -/
theorem bytes_of {h : PH} {b n cap : Nat} {xs : List (BitVec 8)} {c zs : Array Value} {E : TypeId} (hb : h b = some (.cells c E (0, 0))) (hc : c = encB xs ++ zs) (hn : n = xs.length) (hcap : n ≤ cap) : Bytes h ⟨some ⟨b, 0, none⟩, n, cap⟩ xs := by
  subst hc
  refine ⟨hn, hcap, .inr ⟨b, 0, _, E, _, rfl, hb, by simp [encB_size], fun i hi => ?_⟩⟩
  rw [Nat.zero_add, Array.getElem?_append_left (by rw [encB_size]; exact hi), encB_get xs i hi]
end Go.Sx
