/-
  RUNS OF THE MACHINE AS PLAIN DATA (own work): the states of a run, where it stops; what a step keeps.
-/
import Derived.Test.YtnikheoiciokhaaDoorSxU
import Derived.Test.YtnikheoiciokhaaDoorSxI
namespace Go.Sx
open Go
set_option linter.unusedVariables false

namespace G
/-! ### What a step keeps -/
theorem load_len (s : MS) (a : BitVec 32) (n : Nat) (v : BitVec 32) : (fStore s a n v).1.mem.length = s.mem.length := by
  unfold fStore
  split
  · unfold store
    split
    · exact storeAcc_length _ _ _ _
    · rfl
  · rfl
theorem fStore_out (s : MS) (a : BitVec 32) (n : Nat) (v : BitVec 32) : (fStore s a n v).1.out = s.out := by unfold fStore; split <;> rfl
theorem fStore_time (s : MS) (a : BitVec 32) (n : Nat) (v : BitVec 32) : (fStore s a n v).1.time = s.time := by unfold fStore; split <;> rfl
theorem fStore_halted (s : MS) (a : BitVec 32) (n : Nat) (v : BitVec 32) : (fStore s a n v).1.halted = s.halted := by unfold fStore; split <;> rfl
theorem fStore_core (s : MS) (a : BitVec 32) (n : Nat) (v : BitVec 32) : (fStore s a n v).1.core = s.core := by unfold fStore; split <;> rfl
theorem execute_keeps (s : MS) (i : Instr) : (execute s i).1.mem.length = s.mem.length ∧ (execute s i).1.out = s.out ∧ (execute s i).1.time = s.time ∧ (execute s i).1.halted = s.halted := by
  unfold execute
  dsimp only
  split
  · exact ⟨rfl, rfl, rfl, rfl⟩
  · split
    · exact ⟨rfl, rfl, rfl, rfl⟩
    · split
      · split <;> exact ⟨rfl, rfl, rfl, rfl⟩
      · split
        · split
          · exact ⟨load_len _ _ _ _, fStore_out _ _ _ _, fStore_time _ _ _ _, fStore_halted _ _ _ _⟩
          · exact ⟨rfl, rfl, rfl, rfl⟩
        · split
          · exact ⟨rfl, rfl, rfl, rfl⟩
          · split
            · exact ⟨rfl, rfl, rfl, rfl⟩
            · split
              · exact ⟨rfl, rfl, rfl, rfl⟩
              · split <;> exact ⟨rfl, rfl, rfl, rfl⟩
theorem priv_keeps (s : MS) (i : Instr) : (privExecute s i).mem = s.mem ∧ (privExecute s i).out.length ≤ s.out.length + 1 ∧ (privExecute s i).time = s.time := by
  unfold privExecute
  dsimp only
  split
  · exact ⟨rfl, Nat.le_succ _, rfl⟩
  · split
    · exact ⟨rfl, Nat.le_succ _, rfl⟩
    · split
      · exact ⟨rfl, Nat.le_succ _, rfl⟩
      · split
        · exact ⟨rfl, Nat.le_succ _, rfl⟩
        · split
          · exact ⟨rfl, by simp, rfl⟩
          · exact ⟨rfl, Nat.le_succ _, rfl⟩
theorem noTimer_keeps (s : MS) : (stepNoTimer s).1.mem.length = s.mem.length ∧ (stepNoTimer s).1.out.length ≤ s.out.length + 1 ∧ (stepNoTimer s).1.time = (if s.halted then s.time else s.time + 1#64) := by
  unfold stepNoTimer
  by_cases h : s.halted = true
  · rw [if_pos h, if_pos h]; exact ⟨rfl, Nat.le_succ _, rfl⟩
  · rw [if_neg h, if_neg h]
    split
    · split
      · have := priv_keeps s (current s).1
        exact ⟨by show (privExecute s _).mem.length = _; rw [this.1], this.2.1, by show (privExecute s _).time + _ = _; rw [this.2.2]⟩
      · have := execute_keeps s (current s).1
        exact ⟨this.1, by show (execute s _).1.out.length ≤ _; rw [this.2.1]; exact Nat.le_succ _, by show (execute s _).1.time + _ = _; rw [this.2.2.1]⟩
    · exact ⟨rfl, Nat.le_succ _, rfl⟩
theorem step_keeps (s : MS) : (step s).1.mem.length = s.mem.length ∧ (step s).1.out.length ≤ s.out.length + 1 ∧ (step s).1.time = (if s.halted then s.time else s.time + 1#64) := by
  unfold step
  split
  · rename_i h
    have : s.halted = false := by cases hh : s.halted <;> simp_all
    exact ⟨rfl, Nat.le_succ _, by rw [this]; rfl⟩
  · exact noTimer_keeps s

/-! ### The states of a run -/
def st (s : MS) : Nat → MS
  | 0 => s
  | k + 1 => (step (st s k)).1
def tr (s : MS) : Nat → Trap
  | 0 => Trap.zero
  | k + 1 => (step (st s k)).2
theorem st_mem (s : MS) (k : Nat) : (st s k).mem.length = s.mem.length := by
  induction k with
  | zero => rfl
  | succ k ih => exact (step_keeps _).1.trans ih
theorem st_out (s : MS) (k : Nat) : (st s k).out.length ≤ s.out.length + k := by
  induction k with
  | zero => exact Nat.le_refl _
  | succ k ih => exact Nat.le_trans (step_keeps _).2.1 (by omega)
theorem st_add (s : MS) (j k : Nat) : st (st s j) k = st s (j + k) := by
  induction k with
  | zero => rfl
  | succ k ih => show (step (st (st s j) k)).1 = (step (st s (j + k))).1; rw [ih]
/-- Where a run of at most so many steps stops. -/
def lenFrom (s : MS) : Nat → Nat → Nat
  | k, 0 => k
  | k, f + 1 => if (st s k).halted then k else lenFrom s (k + 1) f
def runLen (s : MS) (n : Nat) : Nat := lenFrom s 0 n
theorem lenFrom_spec (s : MS) : ∀ f k, k ≤ lenFrom s k f ∧ lenFrom s k f ≤ k + f ∧ (∀ j, k ≤ j → j < lenFrom s k f → (st s j).halted = false) ∧ (lenFrom s k f = k + f ∨ (st s (lenFrom s k f)).halted = true) := by
  intro f
  induction f with
  | zero => intro k; exact ⟨Nat.le_refl _, Nat.le_refl _, fun j h1 h2 => absurd h2 (by simp only [lenFrom]; omega), .inl rfl⟩
  | succ f ih =>
    intro k
    unfold lenFrom
    by_cases h : (st s k).halted = true
    · rw [if_pos h]
      exact ⟨Nat.le_refl _, by omega, fun j h1 h2 => by omega, .inr h⟩
    · rw [if_neg h]
      obtain ⟨a, b, c, d⟩ := ih (k + 1)
      refine ⟨by omega, by omega, fun j h1 h2 => ?_, ?_⟩
      · by_cases hj : j = k
        · subst hj; simpa using h
        · exact c j (by omega) h2
      · rcases d with d | d
        · exact .inl (by omega)
        · exact .inr d
theorem runLen_le (s : MS) (n : Nat) : runLen s n ≤ n := by have := (lenFrom_spec s n 0).2.1; rw [Nat.zero_add] at this; exact this
theorem runLen_awake (s : MS) (n j : Nat) (hj : j < runLen s n) : (st s j).halted = false := (lenFrom_spec s n 0).2.2.1 j (Nat.zero_le _) hj
theorem runLen_stop (s : MS) (n : Nat) : runLen s n = n ∨ (st s (runLen s n)).halted = true := by have := (lenFrom_spec s n 0).2.2.2; rw [Nat.zero_add] at this; exact this
/-- The round at which the loop over the steps says 'no more'. -/
theorem run_last {s : MS} {n : Int} {k : Nat} (hk : k ≤ runLen s n.toNat) (hs : n ≤ k ∨ (st s k).halted = true) : k = runLen s n.toNat := by
  have h1 := runLen_le s n.toNat
  by_cases h : k < runLen s n.toNat
  · have := runLen_awake s n.toNat k h
    rcases hs with hs | hs
    · omega
    · rw [this] at hs; cases hs
  · omega
theorem run_more {s : MS} {n : Int} {k : Nat} (hk : k ≤ runLen s n.toNat) (hn : ¬ n ≤ k) (hh : ¬ (st s k).halted = true) : k < runLen s n.toNat := by
  rcases runLen_stop s n.toNat with h | h
  · omega
  · by_cases e : k = runLen s n.toNat
    · rw [← e] at h; exact absurd h hh
    · omega
/-- The traps of the first so many steps. -/
def trapsTo (s : MS) : Nat → List Trap
  | 0 => []
  | k + 1 => trapsTo s k ++ (if (tr s (k + 1)).cause = 0 then [] else [tr s (k + 1)])
theorem trapsTo_step (s : MS) (k : Nat) : trapsTo s k = trapsTo s (k - 1) ++ (if (tr s k).cause = 0 then [] else [tr s k]) := by
  cases k with
  | zero => rfl
  | succ k => rfl
theorem trapsTo_len (s : MS) (k : Nat) : (trapsTo s k).length ≤ k := by
  induction k with
  | zero => exact Nat.le_refl _
  | succ k ih => simp only [trapsTo, List.length_append]; split <;> simp <;> omega
/-! ### Where the program counter comes to a place -/
def untilFrom (s : MS) (pc : BitVec 32) : Nat → Nat → Nat
  | k, 0 => k
  | k, f + 1 => if (st s k).core.pc = pc then k else untilFrom s pc (k + 1) f
def untilAt (s : MS) (pc : BitVec 32) (K : Nat) : Nat := untilFrom s pc 0 K
theorem untilFrom_eq {s : MS} {pc : BitVec 32} {k K : Nat} (hk : k ≤ K) (hj : ∀ j, j < k → (st s j).core.pc ≠ pc) (he : (st s k).core.pc = pc ∨ k = K) : ∀ f i, i + f = K → i ≤ k → untilFrom s pc i f = k := by
  intro f
  induction f with
  | zero => intro i h1 h2; simp only [untilFrom]; omega
  | succ f ih =>
    intro i h1 h2
    unfold untilFrom
    by_cases hi : i = k
    · subst hi
      rcases he with he | he
      · rw [if_pos he]
      · omega
    · rw [if_neg (hj i (by omega))]; exact ih (i + 1) (by omega) (by omega)
theorem until_eq {s : MS} {pc : BitVec 32} {k K : Nat} (hk : k ≤ K) (hj : ∀ j, j < k → (st s j).core.pc ≠ pc) (he : (st s k).core.pc = pc ∨ k = K) : untilAt s pc K = k := untilFrom_eq hk hj he K 0 (by omega) (by omega)
theorem untilFrom_spec (s : MS) (pc : BitVec 32) : ∀ f i, i ≤ untilFrom s pc i f ∧ untilFrom s pc i f ≤ i + f ∧ (∀ j, i ≤ j → j < untilFrom s pc i f → (st s j).core.pc ≠ pc) ∧ ((st s (untilFrom s pc i f)).core.pc = pc ∨ untilFrom s pc i f = i + f) := by
  intro f
  induction f with
  | zero => intro i; exact ⟨Nat.le_refl _, Nat.le_refl _, fun j h1 h2 => absurd h2 (by simp only [untilFrom]; omega), .inr rfl⟩
  | succ f ih =>
    intro i
    unfold untilFrom
    by_cases h : (st s i).core.pc = pc
    · rw [if_pos h]; exact ⟨Nat.le_refl _, by omega, fun j h1 h2 => by omega, .inl h⟩
    · rw [if_neg h]
      obtain ⟨a, b, c, d⟩ := ih (i + 1)
      refine ⟨by omega, by omega, fun j h1 h2 => ?_, ?_⟩
      · by_cases hj : j = i
        · subst hj; exact h
        · exact c j (by omega) h2
      · rcases d with d | d
        · exact .inl d
        · exact .inr (by omega)
theorem until_le (s : MS) (pc : BitVec 32) (K : Nat) : untilAt s pc K ≤ K := by have := (untilFrom_spec s pc K 0).2.1; rw [Nat.zero_add] at this; exact this
theorem until_first (s : MS) (pc : BitVec 32) (K j : Nat) (hj : j < untilAt s pc K) : (st s j).core.pc ≠ pc := (untilFrom_spec s pc K 0).2.2.1 j (Nat.zero_le _) hj
theorem until_end (s : MS) (pc : BitVec 32) (K : Nat) : (st s (untilAt s pc K)).core.pc = pc ∨ untilAt s pc K = K := by have := (untilFrom_spec s pc K 0).2.2.2; rw [Nat.zero_add] at this; exact this

/-! ### Laws of runs -/
theorem st_time (s : MS) (k n : Nat) (hk : k ≤ runLen s n) : (st s k).time = s.time + BitVec.ofNat 64 k := by
  induction k with
  | zero => simp [st]
  | succ k ih =>
    have h1 := runLen_awake s n k (by omega)
    show (step (st s k)).1.time = _
    rw [(step_keeps _).2.2, h1, ih (by omega)]
    simp only [Bool.false_eq_true, if_false]
    rw [BitVec.add_assoc, show (1#64 : BitVec 64) = BitVec.ofNat 64 1 from rfl, ← BitVec.ofNat_add]
theorem runLen_of {s : MS} {n k : Nat} (hk : k ≤ n) (ha : ∀ j, j < k → (st s j).halted = false) (he : k = n ∨ (st s k).halted = true) : runLen s n = k := by
  have h1 := runLen_le s n
  rcases Nat.lt_trichotomy (runLen s n) k with h | h | h
  · rcases runLen_stop s n with h2 | h2
    · omega
    · rw [ha _ h] at h2; cases h2
  · exact h
  · rcases he with he | he
    · omega
    · rw [runLen_awake s n k h] at he; cases he
theorem runLen_add (s : MS) (n k : Nat) : runLen s (n + k) = runLen s n + runLen (st s (runLen s n)) k := by
  have h1 := runLen_le s n
  have h2 := runLen_le (st s (runLen s n)) k
  refine runLen_of (by omega) (fun j hj => ?_) ?_
  · by_cases h : j < runLen s n
    · exact runLen_awake s n j h
    · have := runLen_awake (st s (runLen s n)) k (j - runLen s n) (by omega)
      rw [st_add] at this
      rw [show j = runLen s n + (j - runLen s n) by omega]; exact this
  · rcases runLen_stop s n with h3 | h3
    · rcases runLen_stop (st s (runLen s n)) k with h4 | h4
      · exact .inl (by omega)
      · rw [st_add] at h4; exact .inr h4
    · have : runLen (st s (runLen s n)) k = 0 := by
        by_cases hz : runLen (st s (runLen s n)) k = 0
        · exact hz
        · have := runLen_awake (st s (runLen s n)) k 0 (by omega)
          rw [show st (st s (runLen s n)) 0 = st s (runLen s n) from rfl, h3] at this; cases this
      rw [this]; exact .inr h3
theorem runLen_part {s : MS} {n i : Nat} (hi : i ≤ runLen s n) : runLen s i = i := runLen_of (Nat.le_refl _) (fun j hj => runLen_awake s n j (by omega)) (.inl rfl)
theorem runLen_still {s : MS} {n : Nat} (h : s.halted = true) : runLen s n = 0 := runLen_of (Nat.zero_le _) (fun j hj => absurd hj (Nat.not_lt_zero j)) (.inr h)
theorem tr_add (s : MS) (i j : Nat) : tr (st s i) (j + 1) = tr s (i + j + 1) := by
  show (step (st (st s i) j)).2 = (step (st s (i + j))).2
  rw [st_add]
theorem trapsTo_add (s : MS) (i j : Nat) : trapsTo s (i + j) = trapsTo s i ++ trapsTo (st s i) j := by
  induction j with
  | zero => simp [trapsTo]
  | succ j ih =>
    show trapsTo s (i + j) ++ (if (tr s (i + j + 1)).cause = 0 then [] else [tr s (i + j + 1)]) = trapsTo s i ++ (trapsTo (st s i) j ++ (if (tr (st s i) (j + 1)).cause = 0 then [] else [tr (st s i) (j + 1)]))
    rw [ih, tr_add, List.append_assoc]
theorem has_senter (x : BitVec 32) : has (senter x) 1#32 = true := by
  have hh : has (senter x) 1#32 = (senter x).getLsbD 0 := has_bit _ 0 (by omega)
  rw [hh]
  unfold senter
  rw [show (2#32 : BitVec 32) = BitVec.ofNat 32 (2 ^ 1) from rfl, with_bit _ 1 (by omega) _ 0 (by omega), if_neg (by omega), show (1#32 : BitVec 32) = BitVec.ofNat 32 (2 ^ 0) from rfl, with_bit _ 0 (by omega) _ 0 (by omega), if_pos rfl]
theorem trap_super (c : Core) (t : Trap) (h : t.cause ≠ 0) : has (rget (trapEnter c t).csr 0) 1#32 = true := by
  unfold trapEnter
  rw [if_neg h]
  show has (rget (rset _ 0 _) 0) 1#32 = true
  rw [rget_rset _ _ _ _ (by omega), if_pos rfl]
  exact has_senter _
theorem noTimer_enter (s : MS) : (stepNoTimer s).2 = Trap.zero ∨ ∃ c, (stepNoTimer s).1.core = trapEnter c (stepNoTimer s).2 := by
  unfold stepNoTimer
  split
  · exact .inl rfl
  · split
    · split
      · exact .inr ⟨_, rfl⟩
      · exact .inr ⟨_, rfl⟩
    · exact .inr ⟨_, rfl⟩
theorem step_enter (s : MS) : (step s).2 = Trap.zero ∨ ∃ c, (step s).1.core = trapEnter c (step s).2 := by
  unfold step
  split
  · exact .inr ⟨_, rfl⟩
  · exact noTimer_enter s
theorem step_super (s : MS) (h : (step s).2.cause ≠ 0) : rget (step s).1.core.csr 0 % 2#32 = 1#32 := by
  rcases step_enter s with e | ⟨c, e⟩
  · rw [e] at h; exact absurd rfl h
  · have := trap_super c (step s).2 h
    rw [← e, super_law] at this
    simpa using this
/-- The machine of the fixed results. -/
def awake14 : MS := ⟨⟨vzero 16, 0#32, rset (rset (vzero 12) 0 1#32) 4 8#32⟩, [0#8, 0#8, 0#8, 80#8, 0#8, 0#8, 0#8, 0#8, 0#8, 0#8, 0#8, 96#8], 0#64, [], false⟩
/-- Is it small? -/
def few (s : MS) : Bool := decide (s.mem.length ≤ 600) && decide (s.out.length ≤ 600)
/-- Are two machines equal? -/
def same (a b : MS) : Bool := decide (a.core = b.core) && decide (a.mem = b.mem) && decide (a.time = b.time) && decide (a.out = b.out) && (a.halted == b.halted)
theorem same_iff (a b : MS) : same a b = true ↔ a = b := by
  cases a; cases b
  simp [same, and_assoc]
theorem same_refl (a : MS) : same a a = true := (same_iff a a).2 rfl
end G

/-- What run.steps yields. -/
def StepsA (s : MS) (k : Nat) (h : PH) (vs : List Value) : Prop := ∃ mm mo, vs = [int (k : Int), .agg (encRState ⟨mach (G.st s k) mm mo, G.tr s k⟩)] ∧ Rp h (G.st s k) mm mo

section
variable {r : Option Nat} {P : Program} {w0 : World} {B : List Nat} {h0 : PH} {n : Nat} {Q : Exit → Act → World → Prop} {ds : List Deferred} {ρ : Nat → Value} {h : PH} {L : OL}
/-- A function that is handed whatever blocks. -/
theorem ctL_enter {fn : Func} {c : Code} {f : FuncId} {Post : Ending → PH → OL → Prop} (l : List Value) (hf : P.funcs[f]? = some fn) (hb : fn.body = some c) (hn : fn.ntmps = n) (hl : Nat.ble l.length n = true)
    (x : ∀ w0, (∀ b ∈ L.map Prod.fst, b < w0.heap.size) → WP none P w0 (L.map Prod.fst) h n c (FQ P fn w0 h L Post) [] (envL 0 l) h L) : Ct P f l.toArray h L Post := by
  subst hn; exact fn_enter l hf hb (Nat.le_of_ble_eq_true hl) x
end
end Go.Sx
