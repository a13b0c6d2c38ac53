/-
  THE LAYER, THIRD PART (own work): loops over a written-out environment; value contracts; forms of the rules that a printer of proofs uses.
-/
import Derived.Test.YtnikheoiciokhaaDoorSxO
namespace Go.Sx
open Go
set_option linter.unusedVariables false

/-! ### Loops -/

@[reducible] def upds : List (Nat × Value) → (Nat → Value) → Nat → Value
  | [], ρ => ρ
  | p :: l, ρ => upd (upds l ρ) p.1 p.2

@[reducible] def hasB : List Nat → Nat → Bool
  | [], _ => false
  | w :: ws, t => bif Nat.beq t w then true else hasB ws t

/-- The slots of the list hold whatever; the others are as they were. -/
@[reducible] def ovr (ws : List Nat) (us ρ : Nat → Value) : Nat → Value := fun t => bif hasB ws t then us t else ρ t

def Out (ws : List Nat) (ρ' ρ : Nat → Value) : Prop := ∀ t, hasB ws t = false → ρ' t = ρ t
theorem out_ovr {ws : List Nat} {us ρ : Nat → Value} : Out ws (ovr ws us ρ) ρ := fun t ht => by simp [ovr, ht]
theorem out_refl {ws : List Nat} {ρ : Nat → Value} : Out ws ρ ρ := fun _ _ => rfl
theorem out_upd {ws : List Nat} {ρ' ρ : Nat → Value} {d : Nat} {v : Value} (hd : hasB ws d = true) (x : Out ws ρ' ρ) : Out ws (upd ρ' d v) ρ := fun t ht => by
  have : Nat.beq t d = false := by
    cases hb : Nat.beq t d with
    | false => rfl
    | true => have := Nat.eq_of_beq_eq_true hb; subst this; rw [hd] at ht; cases ht
  simp only [upd, this, cond_false]
  exact x t ht
theorem out_ovr2 {ws ws' : List Nat} {us ρ' ρ : Nat → Value} (hd : ∀ t, hasB ws t = false → hasB ws' t = false) (x : Out ws ρ' ρ) : Out ws (ovr ws' us ρ') ρ := fun t ht => by
  simp only [ovr, hd t ht, cond_false]
  exact x t ht
/-- One list of slots lies in another. -/
theorem has_sub {ws ws' : List Nat} (hb : ws'.all (hasB ws) = true) : ∀ t, hasB ws t = false → hasB ws' t = false := by
  induction ws' with
  | nil => intro t _; rfl
  | cons w l ih =>
    simp only [List.all_cons, Bool.and_eq_true] at hb
    intro t ht
    have h1 : Nat.beq t w = false := by
      cases hbq : Nat.beq t w with
      | false => rfl
      | true => have := Nat.eq_of_beq_eq_true hbq; subst this; rw [hb.1] at ht; cases ht
    simp only [hasB, h1, cond_false]
    exact ih hb.2 t ht

/-- The slots hold these values. -/
def Slots : List (Nat × Value) → (Nat → Value) → Prop
  | [], _ => True
  | p :: l, ρ => ρ p.1 = p.2 ∧ Slots l ρ

theorem upds_self {l : List (Nat × Value)} {ρ : Nat → Value} (hs : Slots l ρ) : upds l ρ = ρ := by
  induction l with
  | nil => rfl
  | cons p l ih =>
    funext t
    simp only [upds, upd]
    cases hb : Nat.beq t p.1 with
    | true => have := Nat.eq_of_beq_eq_true hb; subst this; simp only [cond_true]; exact hs.1.symm
    | false => simp only [cond_false]; rw [ih hs.2]
theorem ovr_self {ws : List Nat} {ρ' ρ : Nat → Value} (ho : Out ws ρ' ρ) : ovr ws ρ' ρ = ρ' := by
  funext t
  simp only [ovr]
  cases hb : hasB ws t with
  | true => rfl
  | false => simp only [cond_false]; exact (ho t hb).symm

section
variable {r : Option Nat} {P : Program} {w0 : World} {B : List Nat} {h0 : PH} {n : Nat} {Q : Exit → Act → World → Prop} {ds : List Deferred} {ρ : Nat → Value} {h : PH} {L : OL}

def InvE {A : Type} (ws : List Nat) (k : A → Nat) (vals : A → List (Nat × Value)) (J : A → PH → OL → Prop) (ρ : Nat → Value) : Nat → (Nat → Value) → PH → OL → Prop :=
  fun κ ρ' h' L' => ∃ (x : A) (us : Nat → Value), κ = k x ∧ ρ' = upds (vals x) (ovr ws us ρ) ∧ J x h' L'

/-- A loop: 'ws': the slots that it writes; 'A': what varies; 'vals': what the slots hold that are read later; 'J': what else holds; 'k' goes down. -/
theorem xp_loopE {A : Type} {c : Code} (ws : List Nat) (k : A → Nat) (vals : A → List (Nat × Value)) (J : A → PH → OL → Prop) (x0 : A) (hs : Slots (vals x0) ρ) (hJ : J x0 h L)
    (round : ∀ x us h' L', J x h' L' → WP r P w0 B h0 n c (Exit.then (LoopK w0 B h0 n ds (InvE ws k vals J ρ) (k x)) Q) ds (upds (vals x) (ovr ws us ρ)) h' L') : WP r P w0 B h0 n (.loop c) Q ds ρ h L :=
  xp_loop (InvE ws k vals J ρ) (k x0) ⟨x0, ρ, rfl, by rw [ovr_self out_refl, upds_self hs], hJ⟩ fun κ ρ' h' L' ⟨x, us, hκ, hρ, hJ'⟩ => by
    subst hκ; subst hρ; exact round x us h' L' hJ'

theorem wq_loopE {A : Type} {ws : List Nat} {k : A → Nat} {vals : A → List (Nat × Value)} {J : A → PH → OL → Prop} {ρ' : Nat → Value} {κ : Nat} (x : A) (hk : k x < κ) (ho : Out ws ρ' ρ) (hs : Slots (vals x) ρ') (hJ : J x h L) :
    WQ w0 B h0 n (Exit.then (LoopK w0 B h0 n ds (InvE ws k vals J ρ) κ) Q) .normal ds ρ' h L :=
  wq_loop (k x) hk ⟨x, ρ', rfl, by rw [ovr_self ho, upds_self hs], hJ⟩

/-- A cut, its environment written out. -/
theorem xp_cutE {A : Type} {x y : Code} (ws : List Nat) (vals : A → List (Nat × Value)) (J : A → PH → OL → Prop)
    (hx : WP r P w0 B h0 n x (CutQ w0 B h0 n ds (fun ρ' h' L' => ∃ (x : A) (us : Nat → Value), ρ' = upds (vals x) (ovr ws us ρ) ∧ J x h' L') Q) ds ρ h L)
    (hy : ∀ z us h' L', J z h' L' → WP r P w0 B h0 n y Q ds (upds (vals z) (ovr ws us ρ)) h' L') : WP r P w0 B h0 n (.seq x y) Q ds ρ h L :=
  xp_cut _ hx fun ρ' h' L' ⟨z, us, hρ, hJ⟩ => by subst hρ; exact hy z us h' L' hJ
theorem wq_cutE {A : Type} {ws : List Nat} {vals : A → List (Nat × Value)} {J : A → PH → OL → Prop} {ρ' : Nat → Value} (x : A) (ho : Out ws ρ' ρ) (hs : Slots (vals x) ρ') (hJ : J x h L) :
    WQ w0 B h0 n (CutQ w0 B h0 n ds (fun ρ' h' L' => ∃ (x : A) (us : Nat → Value), ρ' = upds (vals x) (ovr ws us ρ) ∧ J x h' L') Q) .normal ds ρ' h L :=
  wq_cut ⟨x, ρ', by rw [ovr_self ho, upds_self hs], hJ⟩

/-! ### Value contracts -/

theorem St.shrink {w : World} (s : St w0 B h0 h L w) : St w0 B h0 h0 L w where
  os := s.os
  tape := s.tape
  output := s.output
  sz := s.sz
  old := s.old
  inn b o hb := s.inn b o (s.le b o hb)
  le := PH.le_refl _
  new _ _ hb := .inl hb
  own p hp := by
    have := s.own p hp
    refine ⟨this.1, ?_, this.2.2⟩
    cases hh : h0 p.1 with
    | none => rfl
    | some x => rw [s.le _ _ hh] at this; cases this.2.1
  nd := s.nd
end

/-- A Go function that only computes. -/
def CtV (P : Program) (f : FuncId) (l : List Value) (v : Value) : Prop := ∀ h, CtR P f l.toArray h fun u h' => u = v ∧ h' = h

section
variable {r : Option Nat} {P : Program} {w0 : World} {B : List Nat} {h0 : PH} {n : Nat} {Q : Exit → Act → World → Prop} {ds : List Deferred} {ρ : Nat → Value} {h : PH} {L : OL} {d : Option Tmp} {ty : TypeId} {pos : String} {af : Array Edge} {g : Option (Nat × Bool)} {K : Value → PH → OL → Prop}

theorem ctr_enter {fn : Func} {c : Code} {f : FuncId} {Post : Value → PH → Prop} (l : List Value) (hf : P.funcs[f]? = some fn) (hb : fn.body = some c) (hn : fn.ntmps = n) (hl : Nat.ble l.length n = true)
    (x : ∀ w0, WP none P w0 [] h n c (FQ P fn w0 h [] fun e h' _ => ∃ v, e = .returned v ∧ Post v h') [] (envL 0 l) h []) : CtR P f l.toArray h Post := by
  subst hn; exact fnr_enter l hf hb hl x
/-- .. that writes one block of its caller's. -/
theorem ct1_enter {fn : Func} {c : Code} {f : FuncId} {b : Nat} {o : Obj} {Post : Ending → PH → OL → Prop} (l : List Value) (hf : P.funcs[f]? = some fn) (hb : fn.body = some c) (hn : fn.ntmps = n) (hl : Nat.ble l.length n = true)
    (x : ∀ w0, b < w0.heap.size → WP none P w0 [b] h n c (FQ P fn w0 h [(b, o)] Post) [] (envL 0 l) h [(b, o)]) : Ct P f l.toArray h [(b, o)] Post := by
  subst hn; exact fn_enter l hf hb (Nat.le_of_ble_eq_true hl) fun w0 hw => x w0 (hw b (by simp))

theorem fq_retV {fn : Func} {u : Value} {rs : List ResultVar} {vs : List Value} (hr : fn.results = rs.toArray) (hl : RVs P ρ h L rs vs) (v : Value)
    (hv : (if h : vs.toArray.size = 1 then vs.toArray[0] else .tuple vs.toArray) = v) (hp : v = u) :
    WQ w0 [] h0 n (FQ P fn w0 h0 [] fun e h' _ => ∃ v, e = .returned v ∧ v = u ∧ h' = h0) .ret [] ρ h L := fun a _ e s =>
  fqm_nil e.dfr ⟨v, by rw [results_run e s.mem hr hl, hv], h0, [], (s.drop (List.nil_sublist _)).shrink, rfl, v, rfl, hp, rfl⟩

theorem fq_end1 {fn : Func} {b : Nat} {o : Obj} {Post : Ending → PH → OL → Prop} (x : WQ w0 [b] h0 n (FQ P fn w0 h0 [(b, o)] Post) .ret ds ρ h L) : WQ w0 [b] h0 n (FQ P fn w0 h0 [(b, o)] Post) .normal ds ρ h L := fun a w e s => x a w e s
theorem fq_ret1 {fn : Func} {b : Nat} {o : Obj} {Post : Ending → PH → OL → Prop} {L' : OL} {rs : List ResultVar} {vs : List Value} (v : Value) (hr : fn.results = rs.toArray) (hl : RVs P ρ h L rs vs)
    (hv : (if h : vs.toArray.size = 1 then vs.toArray[0] else .tuple vs.toArray) = v) (hs : List.Sublist L' L) (hf : L'.map Prod.fst = [b]) (hp : Post (.returned v) h L') : WQ w0 [b] h0 n (FQ P fn w0 h0 [(b, o)] Post) .ret [] ρ h L :=
  fq_ret (L0 := [(b, o)]) v hr hl hv hs hf hp
theorem so_callV {f : FuncId} {l : List Operand} {ts : Array TypeId} {vs : List Value} {v : Value} (hp : CtV P f vs v) (hf : goB P f = true) (hv : l.map (ev ρ) = vs)
    (hK : K v h L) : SO P w0 B h0 ρ h L ⟨d, .call ⟨.value (.func f), l.toArray, ts⟩, ty, pos, af, g⟩ K :=
  so_call hf (by rw [← hv]; simp) (hp h) fun u h' _ ⟨e1, e2⟩ => by subst e1; subst e2; exact hK
theorem so_callR {f : FuncId} {l : List Operand} {ts : Array TypeId} {vs : List Value} {Post : Value → PH → Prop} (hp : CtR P f vs.toArray h Post) (hf : goB P f = true) (hv : l.map (ev ρ) = vs)
    (hK : ∀ v h', h.le h' → Post v h' → K v h' L) : SO P w0 B h0 ρ h L ⟨d, .call ⟨.value (.func f), l.toArray, ts⟩, ty, pos, af, g⟩ K :=
  so_call hf (by rw [← hv]; simp) hp hK
/-- .. through a function value. -/
theorem so_callFV {x : Operand} {f : FuncId} {l : List Operand} {ts : Array TypeId} {vs : List Value} {v : Value} (hx : ev ρ x = .func (.func f) #[] #[]) (hp : CtV P f vs v) (hf : goB P f = true) (hv : l.map (ev ρ) = vs)
    (hK : K v h L) : SO P w0 B h0 ρ h L ⟨d, .call ⟨.value x, l.toArray, ts⟩, ty, pos, af, g⟩ K :=
  so_callF hx hf (by rw [← hv]; simp) (hp h) fun u h' _ ⟨e1, e2⟩ => by subst e1; subst e2; exact hK
theorem so_callM {f : FuncId} {l : List Operand} {ts : Array TypeId} {vs : List Value} {b : Nat} {o : Obj} {up : Obj → OL} {Post : Value → PH → Obj → Prop}
    (hp : Ct P f vs.toArray h [(b, o)] fun e h' L' => ∃ v o', e = .returned v ∧ L' = [(b, o')] ∧ Post v h' o') (hf : goB P f = true) (hv : l.map (ev ρ) = vs) (hs : Sel L b o up)
    (hK : ∀ v h' o', h.le h' → Post v h' o' → K v h' (up o')) : SO P w0 B h0 ρ h L ⟨d, .call ⟨.value (.func f), l.toArray, ts⟩, ty, pos, af, g⟩ K :=
  so_call1 (first := #[]) (cap := #[]) rfl hf (by rw [← hv]; simp) hs hp hK

/-! ### Forms for the printer -/

theorem so_boxA {T : TypeId} {x : Operand} {c : Array Value} (hx : ev ρ x = .agg c) (hk : ∀ b, K (.pointer (some ⟨b, 0, none⟩)) h ((b, .cells c T (0, 0)) :: L)) : SO P w0 B h0 ρ h L ⟨d, .box T x, ty, pos, af, g⟩ K :=
  so_box (by rw [hx]; exact hk)
theorem so_boxS {T : TypeId} {x : Operand} {v : Value} (hx : ev ρ x = v) (h1 : v.oneCell' = true) (hk : ∀ b, K (.pointer (some ⟨b, 0, none⟩)) h ((b, .cells #[v] T (0, 0)) :: L)) : SO P w0 B h0 ρ h L ⟨d, .box T x, ty, pos, af, g⟩ K :=
  so_box (by rw [hx]; rw [show v.cells = #[v] by cases v <;> first | rfl | simp [Value.oneCell'] at h1]; exact hk)
theorem so_allocA {T : TypeId} {c : Array Value} (hz : zeroOf P T = some (.agg c)) (hk : ∀ b, K (.pointer (some ⟨b, 0, none⟩)) h ((b, .cells c T (0, 0)) :: L)) : SO P w0 B h0 ρ h L ⟨d, .alloc T, ty, pos, af, g⟩ K :=
  so_alloc hz hk
theorem so_allocS {T : TypeId} {v : Value} (hz : zeroOf P T = some v) (h1 : v.oneCell' = true) (hk : ∀ b, K (.pointer (some ⟨b, 0, none⟩)) h ((b, .cells #[v] T (0, 0)) :: L)) : SO P w0 B h0 ρ h L ⟨d, .alloc T, ty, pos, af, g⟩ K :=
  so_alloc hz (by rw [show v.cells = #[v] by cases v <;> first | rfl | simp [Value.oneCell'] at h1]; exact hk)
theorem ro_pickT {c a b : Operand} {t : Bool} (hc : ev ρ c = .bool t) (ht : t = true) : RO P ρ h L ⟨d, .pick c a b, ty, pos, af, g⟩ (ev ρ a) := ro_pick_t (by rw [hc, ht])
theorem ro_pickF {c a b : Operand} {t : Bool} (hc : ev ρ c = .bool t) (ht : t = false) : RO P ρ h L ⟨d, .pick c a b, ty, pos, af, g⟩ (ev ρ b) := ro_pick_f (by rw [hc, ht])
theorem xp_condT {c : Operand} {x y : Code} {t : Bool} (hc : ev ρ c = .bool t) (ht : t = true) (hx : WP r P w0 B h0 n x Q ds ρ h L) : WP r P w0 B h0 n (.cond c x y) Q ds ρ h L := xp_cond_t (by rw [hc, ht]) hx
theorem xp_condF {c : Operand} {x y : Code} {t : Bool} (hc : ev ρ c = .bool t) (ht : t = false) (hy : WP r P w0 B h0 n y Q ds ρ h L) : WP r P w0 B h0 n (.cond c x y) Q ds ρ h L := xp_cond_f (by rw [hc, ht]) hy
theorem wl_split {ops : Array Oper} {l : List Oper} {dj : Nat} {t : Bool} (hv : ρ dj = .bool t) (yes : t = true → WL r P w0 B h0 n ops l Q ds ρ h L) (no : t = false → WL r P w0 B h0 n ops l Q ds ρ h L) : WL r P w0 B h0 n ops l Q ds ρ h L := by
  cases t
  · exact no rfl
  · exact yes rfl
theorem yes_of {t want : Bool} (ht : t = want) : (t == want) = true := by subst ht; simp
theorem no_of {t want : Bool} (ht : t = !want) : (t == want) = false := by subst ht; cases want <;> rfl
theorem wl_noU {ops : Array Oper} {rest : List Oper} {op : Op} {dd j : Nat} {want : Bool} {oj : Oper} {dj : Tmp} (hn : Nat.blt dd n = true) (hj : ops[j]? = some oj) (hd : oj.dst = some dj) (hv : ρ dj = undef)
    (x : WL r P w0 B h0 n ops rest Q ds (upd ρ dd undef) h L) : WL r P w0 B h0 n ops (⟨some dd, op, ty, pos, af, some (j, want)⟩ :: rest) Q ds ρ h L := fun a w e s => by
  have hw : Region.wanted ⟨some dd, op, ty, pos, af, some (j, want)⟩ (yielded ops a.tmps) = false := by
    have hg := e.get dj
    rw [Array.getD_eq_getD_getElem?, hv] at hg
    simp only [Region.wanted, yielded, hj, hd, Option.bind_some]
    cases hh : a.tmps[dj]? with
    | none => rfl
    | some v => rw [hh] at hg; simp only [Option.getD_some] at hg; subst hg; rfl
  unfold wpListIn
  rw [if_neg (by rw [hw]; simp)]
  exact ⟨fun _ _ => trivial, x _ _ (e.put hn undef) s⟩
theorem ro_fieldAddrC {T : TypeId} {x : Operand} {f k b off : Nat} (o' : Nat) (ht : fieldB P T f k = true) (hx : ev ρ x = .pointer (some ⟨b, off, none⟩)) (ho : Nat.beq (off + k) o' = true) :
    RO P ρ h L ⟨d, .fieldAddr T x f, ty, pos, af, g⟩ (.pointer (some ⟨b, o', none⟩)) := (ro_fieldAddr ht hx).as (by rw [Nat.eq_of_beq_eq_true ho])
theorem ro_indexAddr_w {T : TypeId} {x y : Operand} {len b off : Nat} {k : IntKind} {m : Int} (ht : arrayB P T len 1 = true) (hx : ev ρ x = .pointer (some ⟨b, off, none⟩)) (hy : ev ρ y = .int k m) (h0' : 0 ≤ m) (h1 : m < len) :
    RO P ρ h L ⟨d, .indexAddr T x y, ty, pos, af, g⟩ (.pointer (some ⟨b, off + m.toNat, none⟩)) := (ro_indexAddr_array ht hx hy h0' h1).as (by rw [Nat.mul_one])
/-- An array type: its length; its elements lie in one cell. -/
def arrayS (P : Program) (t : TypeId) (len : Nat) : Bool :=
  match P.underlying t with
  | some (.array n e) => Nat.beq n len && scalarB P e
  | _ => false
theorem ro_index12 {T : TypeId} {x y : Operand} {k : IntKind} {c : V12} {m : Int} (ht : arrayS P T 12 = true) (hx : ev ρ x = .agg (encV12 c)) (hy : ev ρ y = .int k m) (h0' : 0 ≤ m) (h1 : m < 12) :
    RO P ρ h L ⟨d, .index T x y, ty, pos, af, g⟩ (u32 (rget c m.toNat)) := fun w _ => by
  unfold arrayS at ht
  cases hu : P.underlying T with
  | none => rw [hu] at ht; cases ht
  | some dd =>
    rw [hu] at ht
    cases dd with
    | array n e =>
      simp only [Bool.and_eq_true] at ht
      have hn : n = 12 := Nat.eq_of_beq_eq_true ht.1
      subst hn
      have hc := get_V12_at c m.toNat (by omega)
      rw [Nat.zero_add] at hc
      simp [execOp, hx, hy, Instr.index, asIntOf, run_underlying hu, h0', h1, run_sizeOf_scalar ht.2, part, run_isAgg_scalar ht.2, hc]
    | _ => cases ht
theorem mv_i {x : Operand} {a : Int} (hx : ev ρ x = int a) : RO P ρ h L ⟨d, .move x, ty, pos, af, g⟩ (int a) := (ro_move x).as hx
theorem as_i {x : Operand} {a : Int} (hx : ev ρ x = int a) : RO P ρ h L ⟨d, .assign x, ty, pos, af, g⟩ (int a) := (ro_assign x).as hx
theorem rv_i {t : Nat} {a : Int} (hx : ρ t = int a) : RV P ρ h L (.tmp t) (int a) := hx
theorem mv_8 {x : Operand} {a : BitVec 8} (hx : ev ρ x = u8 a) : RO P ρ h L ⟨d, .move x, ty, pos, af, g⟩ (u8 a) := (ro_move x).as hx
theorem as_8 {x : Operand} {a : BitVec 8} (hx : ev ρ x = u8 a) : RO P ρ h L ⟨d, .assign x, ty, pos, af, g⟩ (u8 a) := (ro_assign x).as hx
theorem rv_8 {t : Nat} {a : BitVec 8} (hx : ρ t = u8 a) : RV P ρ h L (.tmp t) (u8 a) := hx
theorem mv_32 {x : Operand} {a : BitVec 32} (hx : ev ρ x = u32 a) : RO P ρ h L ⟨d, .move x, ty, pos, af, g⟩ (u32 a) := (ro_move x).as hx
theorem as_32 {x : Operand} {a : BitVec 32} (hx : ev ρ x = u32 a) : RO P ρ h L ⟨d, .assign x, ty, pos, af, g⟩ (u32 a) := (ro_assign x).as hx
theorem rv_32 {t : Nat} {a : BitVec 32} (hx : ρ t = u32 a) : RV P ρ h L (.tmp t) (u32 a) := hx
theorem mv_64 {x : Operand} {a : BitVec 64} (hx : ev ρ x = u64 a) : RO P ρ h L ⟨d, .move x, ty, pos, af, g⟩ (u64 a) := (ro_move x).as hx
theorem as_64 {x : Operand} {a : BitVec 64} (hx : ev ρ x = u64 a) : RO P ρ h L ⟨d, .assign x, ty, pos, af, g⟩ (u64 a) := (ro_assign x).as hx
theorem rv_64 {t : Nat} {a : BitVec 64} (hx : ρ t = u64 a) : RV P ρ h L (.tmp t) (u64 a) := hx
theorem mv_i32 {x : Operand} {a : BitVec 32} (hx : ev ρ x = i32 a) : RO P ρ h L ⟨d, .move x, ty, pos, af, g⟩ (i32 a) := (ro_move x).as hx
theorem as_i32 {x : Operand} {a : BitVec 32} (hx : ev ρ x = i32 a) : RO P ρ h L ⟨d, .assign x, ty, pos, af, g⟩ (i32 a) := (ro_assign x).as hx
theorem rv_i32 {t : Nat} {a : BitVec 32} (hx : ρ t = i32 a) : RV P ρ h L (.tmp t) (i32 a) := hx
theorem mv_b {x : Operand} {a : Bool} (hx : ev ρ x = .bool a) : RO P ρ h L ⟨d, .move x, ty, pos, af, g⟩ (.bool a) := (ro_move x).as hx
theorem as_b {x : Operand} {a : Bool} (hx : ev ρ x = .bool a) : RO P ρ h L ⟨d, .assign x, ty, pos, af, g⟩ (.bool a) := (ro_assign x).as hx
theorem rv_b {t : Nat} {a : Bool} (hx : ρ t = .bool a) : RV P ρ h L (.tmp t) (.bool a) := hx
theorem mv_s {x : Operand} {a : Option Addr} {m c : Nat} (hx : ev ρ x = .slice a m c) : RO P ρ h L ⟨d, .move x, ty, pos, af, g⟩ (.slice a m c) := (ro_move x).as hx
theorem as_s {x : Operand} {a : Option Addr} {m c : Nat} (hx : ev ρ x = .slice a m c) : RO P ρ h L ⟨d, .assign x, ty, pos, af, g⟩ (.slice a m c) := (ro_assign x).as hx
theorem rv_s {t : Nat} {a : Option Addr} {m c : Nat} (hx : ρ t = .slice a m c) : RV P ρ h L (.tmp t) (.slice a m c) := hx
theorem mv_p {x : Operand} {a : Option Addr} (hx : ev ρ x = .pointer a) : RO P ρ h L ⟨d, .move x, ty, pos, af, g⟩ (.pointer a) := (ro_move x).as hx
theorem as_p {x : Operand} {a : Option Addr} (hx : ev ρ x = .pointer a) : RO P ρ h L ⟨d, .assign x, ty, pos, af, g⟩ (.pointer a) := (ro_assign x).as hx
theorem rv_p {t : Nat} {a : Option Addr} (hx : ρ t = .pointer a) : RV P ρ h L (.tmp t) (.pointer a) := hx
theorem mv_a {x : Operand} {a : Array Value} (hx : ev ρ x = .agg a) : RO P ρ h L ⟨d, .move x, ty, pos, af, g⟩ (.agg a) := (ro_move x).as hx
theorem as_a {x : Operand} {a : Array Value} (hx : ev ρ x = .agg a) : RO P ρ h L ⟨d, .assign x, ty, pos, af, g⟩ (.agg a) := (ro_assign x).as hx
theorem rv_a {t : Nat} {a : Array Value} (hx : ρ t = .agg a) : RV P ρ h L (.tmp t) (.agg a) := hx
theorem mv_f {x : Operand} {a : Go.Fn} {m c : Array Value} (hx : ev ρ x = .func a m c) : RO P ρ h L ⟨d, .move x, ty, pos, af, g⟩ (.func a m c) := (ro_move x).as hx
theorem as_f {x : Operand} {a : Go.Fn} {m c : Array Value} (hx : ev ρ x = .func a m c) : RO P ρ h L ⟨d, .assign x, ty, pos, af, g⟩ (.func a m c) := (ro_assign x).as hx
theorem rv_f {t : Nat} {a : Go.Fn} {m c : Array Value} (hx : ρ t = .func a m c) : RV P ρ h L (.tmp t) (.func a m c) := hx
theorem mv_t {x : Operand} {a : ByteArray} (hx : ev ρ x = .string a) : RO P ρ h L ⟨d, .move x, ty, pos, af, g⟩ (.string a) := (ro_move x).as hx
theorem as_t {x : Operand} {a : ByteArray} (hx : ev ρ x = .string a) : RO P ρ h L ⟨d, .assign x, ty, pos, af, g⟩ (.string a) := (ro_assign x).as hx
theorem rv_t {t : Nat} {a : ByteArray} (hx : ρ t = .string a) : RV P ρ h L (.tmp t) (.string a) := hx
theorem mv_u {x : Operand} {a : Array Value} (hx : ev ρ x = .tuple a) : RO P ρ h L ⟨d, .move x, ty, pos, af, g⟩ (.tuple a) := (ro_move x).as hx
theorem as_u {x : Operand} {a : Array Value} (hx : ev ρ x = .tuple a) : RO P ρ h L ⟨d, .assign x, ty, pos, af, g⟩ (.tuple a) := (ro_assign x).as hx
theorem rv_u {t : Nat} {a : Array Value} (hx : ρ t = .tuple a) : RV P ρ h L (.tmp t) (.tuple a) := hx
theorem mv_m {x : Operand} {a : Option Nat} (hx : ev ρ x = .map a) : RO P ρ h L ⟨d, .move x, ty, pos, af, g⟩ (.map a) := (ro_move x).as hx
theorem as_m {x : Operand} {a : Option Nat} (hx : ev ρ x = .map a) : RO P ρ h L ⟨d, .assign x, ty, pos, af, g⟩ (.map a) := (ro_assign x).as hx
theorem rv_m {t : Nat} {a : Option Nat} (hx : ρ t = .map a) : RV P ρ h L (.tmp t) (.map a) := hx
theorem blt_at {a s : Nat} (n : Nat) (hs : s = n) (h : a < n) : Nat.blt a s = true := by subst hs; simpa [Nat.blt_eq] using h
theorem set1 (o v : Value) : (#[o]).setIfInBounds 0 v = #[v] := rfl

theorem run_equal_bool {T : TypeId} (ht : P.underlying T = some .bool) (a b : Bool) (w : World) : (Op.equal T (.bool a) (.bool b)).run P w = .ok (a == b) w := by
  show (Op.equalIn (9999 + 1) T (.bool a) (.bool b)).run P w = _
  unfold Op.equalIn
  simp [run_underlying ht]
theorem rob_eql {x y : Operand} {T T' : TypeId} {a b : Bool} (ht : P.underlying T = some .bool) (hx : ev ρ x = .bool a) (hy : ev ρ y = .bool b) : RO P ρ h L ⟨d, .binOp .eql T x y T', ty, pos, af, g⟩ (.bool (a == b)) := fun w _ => by
  have hb : binOp .eql T (.bool a) (.bool b) = (do pure (.bool (← Op.equal T (.bool a) (.bool b)))) := rfl
  simp only [execOp, hx, hy, eqGuard, hb]
  simp [run_equal_bool ht]
theorem rob_neq {x y : Operand} {T T' : TypeId} {a b : Bool} (ht : P.underlying T = some .bool) (hx : ev ρ x = .bool a) (hy : ev ρ y = .bool b) : RO P ρ h L ⟨d, .binOp .neq T x y T', ty, pos, af, g⟩ (.bool (!(a == b))) := fun w _ => by
  have hb : binOp .neq T (.bool a) (.bool b) = (do pure (.bool (!(← Op.equal T (.bool a) (.bool b))))) := rfl
  simp only [execOp, hx, hy, eqGuard, hb]
  simp [run_equal_bool ht]
/-- A choice between two bools. -/
theorem ro_pick_b {c a b : Operand} {t x y : Bool} (hc : ev ρ c = .bool t) (ha : ev ρ a = .bool x) (hb : ev ρ b = .bool y) : RO P ρ h L ⟨d, .pick c a b, ty, pos, af, g⟩ (.bool (bif t then x else y)) := fun w _ => by
  cases t <;> simp [execOp, hc, asBool, ha, hb]

theorem ro_build {T : TypeId} {parts : Array (Nat × Operand)} {zero c : Array Value} {fs : Array Field} {places : Array (Nat × Nat)} (hz : zeroOf P T = some (.agg zero)) (hu : P.underlying T = some (.struct fs))
    (hp : ∀ w, (fs.mapM fun f => do pure (f.offset, ← sizeOf f.type) : Sem (Array (Nat × Nat))).run P w = .ok places w) (hc : Instr.fill (places[·]?) zero (parts.toList.map fun (i, x) => (i, ev ρ x)) = some c) :
    RO P ρ h L ⟨d, .build T parts, ty, pos, af, g⟩ (.agg c) := fun w _ => by
  have hc' : Instr.fill (places[·]?) zero (parts.map fun (i, x) => (i, ev ρ x)).toList = some c := by rw [Array.toList_map]; exact hc
  simp only [execOp, Instr.build, Sem.run_bind, run_zeroValue hz, Result.andThen_ok, run_underlying hu, hp, Value.cells]
  rw [hc']
  simp
theorem ro_buildArr {T : TypeId} {parts : Array (Nat × Operand)} {zero c : Array Value} {len size : Nat} (hz : zeroOf P T = some (.agg zero)) (ht : arrayB P T len size = true)
    (hc : Instr.fill (fun i => some (i * size, size)) zero (parts.toList.map fun (i, x) => (i, ev ρ x)) = some c) :
    RO P ρ h L ⟨d, .build T parts, ty, pos, af, g⟩ (.agg c) := fun w _ => by
  obtain ⟨e, i, hu, hi, hs⟩ := arrayB_out ht
  have hc' : Instr.fill (fun i => some (i * size, size)) zero (parts.map fun (i, x) => (i, ev ρ x)).toList = some c := by rw [Array.toList_map]; exact hc
  simp only [execOp, Instr.build, Sem.run_bind, run_zeroValue hz, Result.andThen_ok, run_underlying hu, run_sizeOf hi, Value.cells, hs]
  rw [hc']
  simp

/-- The places of a struct's fields. -/
def placesB (P : Program) (t : TypeId) (places : List (Nat × Nat)) : Bool :=
  match P.underlying t with
  | some (.struct fs) => (fs.toList.map fun f => (f.offset, (P.info? f.type).map (·.size))) == places.map fun p => (p.1, some p.2)
  | _ => false
theorem ro_buildS {T : TypeId} {parts : List (Nat × Operand)} {zero c : Array Value} {places : List (Nat × Nat)} (hp : placesB P T places = true) (hz : zeroOf P T = some (.agg zero))
    (hc : Instr.fill (fun i => places[i]?) zero (parts.map fun p => (p.1, ev ρ p.2)) = some c) : RO P ρ h L ⟨d, .build T parts.toArray, ty, pos, af, g⟩ (.agg c) := by
  unfold placesB at hp
  cases hu : P.underlying T with
  | none => rw [hu] at hp; cases hp
  | some dd =>
    rw [hu] at hp
    cases dd with
    | struct fs =>
      have hp' := eq_of_beq hp
      refine ro_build (places := places.toArray) hz hu (fun w => ?_) (by simpa using hc)
      have key : ∀ (l : List Field) (ps : List (Nat × Nat)), (l.map fun f => (f.offset, (P.info? f.type).map (·.size))) = ps.map (fun p => (p.1, some p.2)) →
          (List.mapM (fun f : Field => (Prod.mk f.offset <$> sizeOf f.type : Sem (Nat × Nat))) l).run P w = .ok ps w := by
        intro l
        induction l with
        | nil => intro ps hps; cases ps with | nil => rfl | cons => simp at hps
        | cons f l ih =>
          intro ps hps
          cases ps with
          | nil => simp at hps
          | cons p ps =>
            simp only [List.map_cons, List.cons.injEq, Prod.mk.injEq] at hps
            obtain ⟨⟨e1, e2⟩, e3⟩ := hps
            cases hi : P.info? f.type with
            | none => rw [hi] at e2; cases e2
            | some i =>
              rw [hi] at e2
              simp at e2
              simp [List.mapM_cons, run_sizeOf hi, ih ps e3, e1, e2]
      have := key fs.toList places hp'
      have e : (fs.mapM fun f => do pure (f.offset, ← sizeOf f.type) : Sem (Array (Nat × Nat))) = List.toArray <$> List.mapM (fun f : Field => (Prod.mk f.offset <$> sizeOf f.type : Sem (Nat × Nat))) fs.toList := by
        rw [← List.mapM_toArray]; simp only [bind_pure_comp, Array.toArray_toList]
      rw [e, Sem.run_map, this]
      rfl
    | _ => cases hp
end
end Go.Sx
