/- Stepping through code on the ideal machine: the rules. -/
import Derived.Test.YthggbjpanpnlnaaM3
set_option linter.unusedVariables false
set_option linter.unusedSimpArgs false
/- Stepping through code on the ideal machine, with symbolic data, whose memory is known in parts: the rules of code. -/
namespace Go.Ideal
open Go

/-- A machine: a program, its table, what stands for functions. -/
structure Mach where
  P : Program
  G : Nat
  F : Tr Func
  I : FuncId → Option (List Value → Heap → Option (Value × Heap))

def Mach.run (X : Mach) (n : Nat) : CallF := Ideal.run X.P X.G X.F X.I n

/-- The call answers so (with whatever fuel that is enough). -/
def Runs (X : Mach) (g : FuncId) (args : List Value) (H : Heap) (Q : Value → Heap → Prop) : Prop :=
  ∃ n0 v H', (∀ n, n0 ≤ n → X.run n g args H = some (v, H')) ∧ Q v H'

theorem Runs.mono {X : Mach} {g : FuncId} {args : List Value} {H : Heap} {Q Q' : Value → Heap → Prop} (h : Runs X g args H Q) (hq : ∀ v H', Q v H' → Q' v H') : Runs X g args H Q' :=
  let ⟨n0, v, H', h1, h2⟩ := h; ⟨n0, v, H', h1, hq v H' h2⟩

/-! ### registers of which something is known -/
abbrev Regs := List (Nat × Value)
def lkR : Regs → Nat → Option Value
  | [], _ => none
  | (k, v) :: r, n => bif Nat.beq k n then some v else lkR r n
def Known (ρ : Regs) (t : Tr Value) : Prop := ∀ n v, lkR ρ n = some v → t.get n = some v

theorem Known.cons {ρ : Regs} {t : Tr Value} (h : Known ρ t) (d : Nat) (v : Value) : Known ((d, v) :: ρ) (t.set d v) := by
  intro n u hn
  simp only [lkR] at hn
  rw [Tr.get_set]
  cases hb : Nat.beq d n with
  | true =>
    rw [hb, cond_true] at hn
    cases hn
    rw [if_pos (Nat.eq_of_beq_eq_true hb).symm]
  | false =>
    rw [hb, cond_false] at hn
    have hne : n ≠ d := fun e => by rw [e, show Nat.beq d d = true from by simp] at hb; cases hb
    rw [if_neg hne]
    exact h n u hn

/-- All that the second one says, the first one says. -/
def Sub (ρ : Regs) : Regs → Prop
  | [] => True
  | p :: r => lkR ρ p.1 = some p.2 ∧ Sub ρ r
theorem Sub.known {ρ : Regs} : ∀ {ρ' : Regs} {t : Tr Value}, Sub ρ ρ' → Known ρ t → Known ρ' t
  | [], _, _, _ => fun n v h => by cases h
  | p :: r, t, hs, hk => by
    intro n v hn
    simp only [lkR] at hn
    cases hb : Nat.beq p.1 n with
    | true =>
      rw [hb, cond_true] at hn
      cases hn
      rw [← Nat.eq_of_beq_eq_true hb]
      exact hk _ _ hs.1
    | false =>
      rw [hb, cond_false] at hn
      exact Sub.known hs.2 hk n v hn

def evR (ρ : Regs) : Operand → Option Value
  | .tmp i => lkR ρ i
  | .const v => bif noAddr 3 v then some v else none
  | .func f => some (.func (.func f) #[] #[])
  | .global _ => none
theorem evR_ev {ρ : Regs} {t : Tr Value} {G : Nat} {x : Operand} {v : Value} (h : evR ρ x = some v) (hk : Known ρ t) : ev G t x = v := by
  cases x with
  | tmp i => show (t.get i).getD undef = v; rw [hk i v h]; rfl
  | const u =>
    simp only [evR] at h
    show (bif noAddr 3 u then u else .chan none) = v
    cases hn : noAddr 3 u with
    | true => rw [hn] at h; cases h; rfl
    | false => rw [hn] at h; cases h
  | func f => cases h; rfl
  | global g => cases h


/-! ### memory of which something is known -/
/-- What was there is as it was (but for some blocks); nothing lies beyond the count. -/
structure Kept (B : Heap) (m : List Nat) (H : Heap) : Prop where
  n : B.n ≤ H.n
  old : ∀ b, b < B.n → b ∉ m → H.get b = B.get b
  top : ∀ b, H.n ≤ b → H.get b = none
def Wf (H : Heap) : Prop := ∀ b, H.n ≤ b → H.get b = none

def blkOf : Value → Option Nat
  | .slice (some a) _ _ => some a.block
  | _ => none

/-- A slice of its own (made since B), full: its elements are L, each of sz cells. -/
def OwnL (B H : Heap) (v : Value) (sz : Nat) (e : TypeId) (L : List (List Value)) : Prop :=
  (∀ cs ∈ L, cs.length = sz) ∧
  ((v = .slice none 0 0 ∧ L = []) ∨
   ∃ b sp, v = .slice (some ⟨b, 0, sp⟩) L.length L.length ∧ (sp = none ∨ sp = some 0) ∧ B.n ≤ b ∧ b < H.n ∧ H.get b = some (.cells L.flatten e false))

/-- What is known of a part of memory: a block; a slice of its own. -/
inductive Ent where
  | blk (b : Nat) (o : IObj)
  | own (v : Value) (sz : Nat) (e : TypeId) (L : List (List Value))
  | rep (F : Nat → Prop) (S : Heap → Prop)
/-- Which blocks it speaks of. -/
def Ent.fp : Ent → Nat → Prop
  | .blk b _ => fun c => b = c
  | .own v _ _ _ => fun c => blkOf v = some c
  | .rep F _ => F
def Ent.ok (B : Heap) (m : List Nat) (H : Heap) : Ent → Prop
  | .blk b o => b < H.n ∧ H.get b = some o ∧ (B.n ≤ b ∨ b ∈ m)
  | .own v sz e L => OwnL B H v sz e L
  | .rep F S => S H ∧ (∀ b, F b → b < H.n ∧ (B.n ≤ b ∨ b ∈ m)) ∧ ∀ g g' : Heap, S g → g.n ≤ g'.n → (∀ b, F b → g'.get b = g.get b) → S g'
structure Blks (B : Heap) (m : List Nat) (bl : List Ent) (H : Heap) : Prop where
  ok : ∀ x ∈ bl, x.ok B m H
  ne : bl.Pairwise fun x y => ∀ b, x.fp b → ¬ y.fp b

theorem Blks.sub {B : Heap} {m : List Nat} {bl bl' : List Ent} {H : Heap} (h : Blks B m bl H) (hs : List.Sublist bl' bl) : Blks B m bl' H := ⟨fun x hx => h.ok x (hs.subset hx), h.ne.sublist hs⟩

/-- It holds of whatever memory fits. -/
def Has (B : Heap) (m : List Nat) (bl : List Ent) (S : Heap → Prop) : Prop := ∀ H, Kept B m H → Blks B m bl H → S H

structure WC (X : Mach) (N : Nat) (B : Heap) (M : List Nat) (c : Code) (ρ : Regs) (H : List Ent) (Q : IExit → Regs → List Ent → Prop) : Prop where
  go : ∀ t h, Known ρ t → Kept B M h → Blks B M H h → ∃ n0 e t' h' ρ' H', (∀ m n, n0 ≤ m → n0 ≤ n → evalCode X.P X.G N (X.run m) n c t h = some (e, t', h')) ∧ Known ρ' t' ∧ Kept B M h' ∧ Blks B M H' h' ∧ Q e ρ' H'

/-- What was known of memory ahead of each operation (the last one first). -/
abbrev Hist := List (Option (List Ent))
/-- The operations of a list, one behind the other. -/
def thru (P : Program) (G N : Nat) (S : List Ent → Heap → Prop) (call : CallF) (ops : Array Oper) : List Oper → Tr Value → Heap → Hist → Tr Value → Heap → Prop
  | [], t, h, gs, t', h' => gs = [] ∧ t' = t ∧ h' = h
  | o :: rest, t, h, gs, t', h' => ∃ g gs', gs = g :: gs' ∧ (∀ E, g = some E → S E h) ∧ ∃ b t1 h1, iwant ops o t = some b ∧ ((b = true ∧ ∃ r, stepOp P G call o t h = some (r, h1) ∧ putT N t o.dst r = some t1) ∨ (b = false ∧ h1 = h ∧ putT N t o.dst undef = some t1)) ∧ thru P G N S call ops rest t1 h1 gs' t' h'
theorem thru_eval {P : Program} {G N : Nat} {S : List Ent → Heap → Prop} {call : CallF} {ops : Array Oper} : ∀ {l : List Oper} {t t' : Tr Value} {h h' : Heap} {gs : Hist}, thru P G N S call ops l t h gs t' h' → evalOps P G N call ops l t h = some (t', h')
  | [], t, t', h, h', gs, e => by obtain ⟨_, rfl, rfl⟩ := e; rfl
  | o :: rest, t, t', h, h', gs, e => by
    obtain ⟨g, gs', _, _, b, t1, h1, e1, e2, e3⟩ := e
    have ih := thru_eval e3
    show (iwant ops o t).bind _ = _
    rw [e1]
    rcases e2 with ⟨rfl, r, q1, q2⟩ | ⟨rfl, rfl, q2⟩
    · simp only [Option.bind_some, cond_true, q1, q2]; exact ih
    · simp only [Option.bind_some, cond_false, q2]; exact ih

structure WO (X : Mach) (N : Nat) (B : Heap) (M : List Nat) (U : Hist) (ops : Array Oper) (l : List Oper) (ρ : Regs) (H : List Ent) (K : Hist → Regs → List Ent → Prop) : Prop where
  go : ∀ t h, Known ρ t → Kept B M h → Blks B M H h → ∃ n0 t' h' ρ' H' gs, (∀ m, n0 ≤ m → thru X.P X.G N (fun E h => Kept B M h ∧ Blks B M E h) (X.run m) ops l t h gs t' h') ∧ Known ρ' t' ∧ Kept B M h' ∧ Blks B M H' h' ∧ K (gs.reverse ++ U) ρ' H'

/-! ### code -/
section
variable {X : Mach} {N : Nat} {B : Heap} {M : List Nat} {ρ : Regs} {H : List Ent} {Q : IExit → Regs → List Ent → Prop}

theorem eval_succ {P : Program} {G : Nat} {call : CallF} {n : Nat} {c : Code} {t : Tr Value} {h : Heap} : evalCode P G N call (n + 1) c t h = evalStep P G N call (evalCode P G N call n) c t h := rfl

theorem WC.skip (h : Q .normal ρ H) : WC X N B M .skip ρ H Q := .mk fun t h0 hk hh hb => ⟨1, .normal, t, h0, ρ, H, fun m n _ hn => by
  obtain ⟨k, rfl⟩ : ∃ k, n = k + 1 := ⟨n - 1, by omega⟩
  rfl, hk, hh, hb, h⟩
theorem WC.ret (h : Q .ret ρ H) : WC X N B M .ret ρ H Q := .mk fun t h0 hk hh hb => ⟨1, .ret, t, h0, ρ, H, fun m n _ hn => by
  obtain ⟨k, rfl⟩ : ∃ k, n = k + 1 := ⟨n - 1, by omega⟩
  rfl, hk, hh, hb, h⟩
theorem WC.exit {id : Nat} (h : Q (.exit id) ρ H) : WC X N B M (.exit id) ρ H Q := .mk fun t h0 hk hh hb => ⟨1, .exit id, t, h0, ρ, H, fun m n _ hn => by
  obtain ⟨k, rfl⟩ : ∃ k, n = k + 1 := ⟨n - 1, by omega⟩
  rfl, hk, hh, hb, h⟩
theorem WC.scope {c : Code} (h : WC X N B M c ρ H Q) : WC X N B M (.scope c) ρ H Q := .mk fun t h0 hk hh hb => by
  obtain ⟨n0, e, t', h', ρ', H', h1, h2, h4, h5, h3⟩ := h.go t h0 hk hh hb
  refine ⟨n0 + 1, e, t', h', ρ', H', fun m n hm hn => ?_, h2, h4, h5, h3⟩
  obtain ⟨k, rfl⟩ : ∃ k, n = k + 1 := ⟨n - 1, by omega⟩
  exact h1 m k (by omega) (by omega)

/-- What comes behind the first of two. -/
def thenQ (X : Mach) (N : Nat) (B : Heap) (M : List Nat) (b : Code) (Q : IExit → Regs → List Ent → Prop) : IExit → Regs → List Ent → Prop
  | .normal, ρ, H => WC X N B M b ρ H Q
  | e, ρ, H => Q e ρ H
theorem WC.seq {a b : Code} (h : WC X N B M a ρ H (thenQ X N B M b Q)) : WC X N B M (.seq a b) ρ H Q := .mk fun t h0 hk hh hb => by
  obtain ⟨n0, e, t', h', ρ', H', h1, h2, h4, h5, h3⟩ := h.go t h0 hk hh hb
  cases e with
  | normal =>
    obtain ⟨n1, e2, t2, h2', ρ2, H2, g1, g2, g4, g5, g3⟩ := h3.go t' h' h2 h4 h5
    refine ⟨n0 + n1 + 1, e2, t2, h2', ρ2, H2, fun m n hm hn => ?_, g2, g4, g5, g3⟩
    obtain ⟨k, rfl⟩ : ∃ k, n = k + 1 := ⟨n - 1, by omega⟩
    show (evalCode X.P X.G N (X.run m) k a t h0).bind _ = _
    rw [h1 m k (by omega) (by omega)]
    exact g1 m k (by omega) (by omega)
  | exit i =>
    refine ⟨n0 + 1, _, t', h', ρ', H', fun m n hm hn => ?_, h2, h4, h5, h3⟩
    obtain ⟨k, rfl⟩ : ∃ k, n = k + 1 := ⟨n - 1, by omega⟩
    show (evalCode X.P X.G N (X.run m) k a t h0).bind _ = _
    rw [h1 m k (by omega) (by omega)]
    rfl
  | ret =>
    refine ⟨n0 + 1, _, t', h', ρ', H', fun m n hm hn => ?_, h2, h4, h5, h3⟩
    obtain ⟨k, rfl⟩ : ∃ k, n = k + 1 := ⟨n - 1, by omega⟩
    show (evalCode X.P X.G N (X.run m) k a t h0).bind _ = _
    rw [h1 m k (by omega) (by omega)]
    rfl

theorem WC.condT {c : Operand} {x y : Code} (hc : evR ρ c = some (.bool true)) (h : WC X N B M x ρ H Q) : WC X N B M (.cond c x y) ρ H Q := .mk fun t h0 hk hh hb => by
  obtain ⟨n0, e, t', h', ρ', H', h1, h2, h4, h5, h3⟩ := h.go t h0 hk hh hb
  refine ⟨n0 + 1, e, t', h', ρ', H', fun m n hm hn => ?_, h2, h4, h5, h3⟩
  obtain ⟨k, rfl⟩ : ∃ k, n = k + 1 := ⟨n - 1, by omega⟩
  rw [eval_succ]
  simp only [evalStep, evR_ev hc hk, cond_true]
  exact h1 m k (by omega) (by omega)
theorem WC.condF {c : Operand} {x y : Code} (hc : evR ρ c = some (.bool false)) (h : WC X N B M y ρ H Q) : WC X N B M (.cond c x y) ρ H Q := .mk fun t h0 hk hh hb => by
  obtain ⟨n0, e, t', h', ρ', H', h1, h2, h4, h5, h3⟩ := h.go t h0 hk hh hb
  refine ⟨n0 + 1, e, t', h', ρ', H', fun m n hm hn => ?_, h2, h4, h5, h3⟩
  obtain ⟨k, rfl⟩ : ∃ k, n = k + 1 := ⟨n - 1, by omega⟩
  rw [eval_succ]
  simp only [evalStep, evR_ev hc hk, cond_false]
  exact h1 m k (by omega) (by omega)

/-- What comes behind a block. -/
def blockQ (id : Nat) (Q : IExit → Regs → List Ent → Prop) : IExit → Regs → List Ent → Prop
  | .exit i, ρ, H => bif Nat.beq i id then Q .normal ρ H else Q (.exit i) ρ H
  | e, ρ, H => Q e ρ H
theorem WC.block {id : Nat} {c : Code} (h : WC X N B M c ρ H (blockQ id Q)) : WC X N B M (.block id c) ρ H Q := .mk fun t h0 hk hh hb => by
  obtain ⟨n0, e, t', h', ρ', H', h1, h2, h4, h5, h3⟩ := h.go t h0 hk hh hb
  have key : ∀ e2, (match (e, t', h') with
    | (.exit i, t', H') => some (bif Nat.beq i id then (IExit.normal, t', H') else (.exit i, t', H'))
    | q => some q) = some (e2, t', h') → Q e2 ρ' H' → ∃ n0 e t' h' ρ' H', (∀ m n, n0 ≤ m → n0 ≤ n → evalCode X.P X.G N (X.run m) n (.block id c) t h0 = some (e, t', h')) ∧ Known ρ' t' ∧ Kept B M h' ∧ Blks B M H' h' ∧ Q e ρ' H' := by
    intro e2 he hq
    refine ⟨n0 + 1, e2, t', h', ρ', H', fun m n hm hn => ?_, h2, h4, h5, hq⟩
    obtain ⟨k, rfl⟩ : ∃ k, n = k + 1 := ⟨n - 1, by omega⟩
    show (evalCode X.P X.G N (X.run m) k c t h0).bind _ = _
    rw [h1 m k (by omega) (by omega)]
    exact he
  cases e with
  | normal => exact key .normal rfl h3
  | ret => exact key .ret rfl h3
  | exit i =>
    simp only [blockQ] at h3
    cases hb : Nat.beq i id with
    | true => rw [hb] at h3; exact key .normal (by simp [hb]) h3
    | false => rw [hb] at h3; exact key (.exit i) (by simp [hb]) h3

/-- What comes behind a loop's round: it goes on (with a smaller measure), or leaves. -/
def roundQ {α : Type} (reg : α → Regs) (hp : α → List Ent) (J : α → Prop) (μ : α → Nat) (x : α) (Q : IExit → Regs → List Ent → Prop) : IExit → Regs → List Ent → Prop
  | .normal, ρ, H => ∃ x', Sub ρ (reg x') ∧ List.Sublist (hp x') H ∧ J x' ∧ μ x' < μ x
  | e, ρ, H => Q e ρ H
theorem WC.loop {α : Type} {c : Code} (reg : α → Regs) (hp : α → List Ent) (J : α → Prop) (μ : α → Nat) (x : α) (hs : Sub ρ (reg x)) (hh : List.Sublist (hp x) H) (hj : J x)
    (h : ∀ x, J x → WC X N B M c (reg x) (hp x) (roundQ reg hp J μ x Q)) : WC X N B M (.loop c) ρ H Q := by
  have hsub := hh
  have main : ∀ k x, μ x ≤ k → J x → ∀ t h0, Known (reg x) t → Kept B M h0 → Blks B M (hp x) h0 →
      ∃ n0 e t' h' ρ' H', (∀ m n, n0 ≤ m → n0 ≤ n → evalCode X.P X.G N (X.run m) n (.loop c) t h0 = some (e, t', h')) ∧ Known ρ' t' ∧ Kept B M h' ∧ Blks B M H' h' ∧ Q e ρ' H' := by
    intro k
    induction k with
    | zero =>
      intro x hk hj t h0 ht hh hb
      obtain ⟨n0, e, t', h', ρ', H', h1, h2, h4, h5, h3⟩ := (h x hj).go t h0 ht hh hb
      have leave : Q e ρ' H' → (e = .normal → False) → ∃ n0 e t' h' ρ' H', (∀ m n, n0 ≤ m → n0 ≤ n → evalCode X.P X.G N (X.run m) n (.loop c) t h0 = some (e, t', h')) ∧ Known ρ' t' ∧ Kept B M h' ∧ Blks B M H' h' ∧ Q e ρ' H' := by
        intro hq hne
        refine ⟨n0 + 1, e, t', h', ρ', H', fun m n hm hn => ?_, h2, h4, h5, hq⟩
        obtain ⟨k, rfl⟩ : ∃ k, n = k + 1 := ⟨n - 1, by omega⟩
        show (evalCode X.P X.G N (X.run m) k c t h0).bind _ = _
        rw [h1 m k (by omega) (by omega)]
        cases e with
        | normal => exact (hne rfl).elim
        | ret => rfl
        | exit i => rfl
      cases e with
      | normal => obtain ⟨x', _, _, _, hlt⟩ := h3; omega
      | ret => exact leave h3 (fun e => by cases e)
      | exit i => exact leave h3 (fun e => by cases e)
    | succ k ih =>
      intro x hk hj t h0 ht hh hb
      obtain ⟨n0, e, t', h', ρ', H', h1, h2, h4, h5, h3⟩ := (h x hj).go t h0 ht hh hb
      have leave : Q e ρ' H' → (e = .normal → False) → ∃ n0 e t' h' ρ' H', (∀ m n, n0 ≤ m → n0 ≤ n → evalCode X.P X.G N (X.run m) n (.loop c) t h0 = some (e, t', h')) ∧ Known ρ' t' ∧ Kept B M h' ∧ Blks B M H' h' ∧ Q e ρ' H' := by
        intro hq hne
        refine ⟨n0 + 1, e, t', h', ρ', H', fun m n hm hn => ?_, h2, h4, h5, hq⟩
        obtain ⟨k, rfl⟩ : ∃ k, n = k + 1 := ⟨n - 1, by omega⟩
        show (evalCode X.P X.G N (X.run m) k c t h0).bind _ = _
        rw [h1 m k (by omega) (by omega)]
        cases e with
        | normal => exact (hne rfl).elim
        | ret => rfl
        | exit i => rfl
      cases e with
      | ret => exact leave h3 (fun e => by cases e)
      | exit i => exact leave h3 (fun e => by cases e)
      | normal =>
        obtain ⟨x', hs', hh', hj', hlt⟩ := h3
        obtain ⟨n1, e2, t2, h2', ρ2, H2, g1, g2, g4, g5, g3⟩ := ih x' (by omega) hj' t' h' (hs'.known h2) h4 (h5.sub hh')
        refine ⟨n0 + n1 + 1, e2, t2, h2', ρ2, H2, fun m n hm hn => ?_, g2, g4, g5, g3⟩
        obtain ⟨k, rfl⟩ : ∃ k, n = k + 1 := ⟨n - 1, by omega⟩
        show (evalCode X.P X.G N (X.run m) k c t h0).bind _ = _
        rw [h1 m k (by omega) (by omega)]
        exact g1 m k (by omega) (by omega)
  refine .mk fun t h0 ht hh hb => ?_
  exact main (μ x) x (Nat.le_refl _) hj t h0 (hs.known ht) hh (hb.sub hsub)

theorem WC.region {id : Nat} {ops : Array Oper} (h : WO X N B M [] ops ops.toList ρ H fun _ => Q .normal) : WC X N B M (.region id ops false) ρ H Q := .mk fun t h0 hk hh hb => by
  obtain ⟨n0, t', h', ρ', H', gs, h1, h2, h4, h5, h3⟩ := h.go t h0 hk hh hb
  refine ⟨n0 + 1, .normal, t', h', ρ', H', fun m n hm hn => ?_, h2, h4, h5, h3⟩
  obtain ⟨k, rfl⟩ : ∃ k, n = k + 1 := ⟨n - 1, by omega⟩
  show (evalOps X.P X.G N (X.run m) ops ops.toList t h0).map _ = _
  rw [thru_eval (h1 m (by omega))]
  rfl

/-! ### a call -/
def regsOf : List Value → Nat → Regs
  | [], _ => []
  | v :: r, i => (i, v) :: regsOf r (i + 1)
theorem regsOf_lk : ∀ (l : List Value) (i n : Nat) (v : Value), lkR (regsOf l i) n = some v → i ≤ n ∧ l[n - i]? = some v
  | [], _, _, _, h => by cases h
  | u :: r, i, n, v, h => by
    simp only [regsOf, lkR] at h
    cases hb : Nat.beq i n with
    | true =>
      rw [hb, cond_true] at h
      cases h
      rw [← Nat.eq_of_beq_eq_true hb]
      exact ⟨Nat.le_refl _, by simp⟩
    | false =>
      rw [hb, cond_false] at h
      obtain ⟨h1, h2⟩ := regsOf_lk r (i + 1) n v h
      refine ⟨by omega, ?_⟩
      rw [show n - i = (n - (i + 1)) + 1 from by omega]
      simpa using h2
theorem regsOf_known (l : List Value) : Known (regsOf l 0) (tmpsOf l 0 .nil) := by
  intro n v h
  obtain ⟨_, h2⟩ := regsOf_lk l 0 n v h
  rw [tmpsOf_get]
  have hlt : n < l.length := by
    rcases Nat.lt_or_ge n l.length with h' | h'
    · exact h'
    · rw [Nat.sub_zero, List.getElem?_eq_none h'] at h2; cases h2
  rw [if_neg (by omega), if_pos (by omega)]
  exact h2

def resR (P : Program) (B : Heap) (M : List Nat) (ρ : Regs) (H : List Ent) : List ResultVar → List Value → Prop
  | [], l => l = []
  | .tmp i :: rest, l => ∃ v l', lkR ρ i = some v ∧ resR P B M ρ H rest l' ∧ l = v :: l'
  | .cell a ty :: rest, l => ∃ p v l', lkR ρ a = some p ∧ Has B M H (fun h => iLoad P ty p h = some v) ∧ resR P B M ρ H rest l' ∧ l = v :: l'
theorem resR_i {P : Program} {t : Tr Value} {h : Heap} (hk : Known ρ t) (hh : Kept B M h) (hb : Blks B M H h) : ∀ (rs : List ResultVar) (l : List Value), resR P B M ρ H rs l → iResults P t h rs = some l
  | [], l, e => by cases e; rfl
  | .tmp i :: rest, l, e => by
    obtain ⟨v, l', h1, h2, rfl⟩ := e
    show (some ((t.get i).getD undef)).bind _ = _
    rw [hk i v h1]
    show (iResults P t h rest).map _ = _
    rw [resR_i hk hh hb rest l' h2]
    rfl
  | .cell a ty :: rest, l, e => by
    obtain ⟨p, v, l', h1, h2, h3, rfl⟩ := e
    show (iLoad P ty ((t.get a).getD undef) h).bind _ = _
    rw [hk a p h1]
    show (iLoad P ty p h).bind _ = _
    rw [h2 h hh hb]
    show (iResults P t h rest).map _ = _
    rw [resR_i hk hh hb rest l' h3]
    rfl

/-- What a body must come to. -/
def bodyQ (P : Program) (B : Heap) (M : List Nat) (rs : List ResultVar) (Q : Value → Heap → Prop) : IExit → Regs → List Ent → Prop
  | .exit _, _, _ => False
  | _, ρ, H => ∃ l, resR P B M ρ H rs l ∧ ∀ h, Kept B M h → Blks B M H h → Q (tupled l) h

theorem Runs.enter {g : FuncId} {args : List Value} {fn : Func} {c : Code} {Q : Value → Heap → Prop} (H0 : Heap) (hwf : Wf H0) (M : List Nat) (bl : List Ent) (hbl : Blks H0 M bl H0) (hI : X.I g = none) (hF : X.F.get g = some fn) (hb : fn.body = some c) (hl : Nat.ble args.length fn.ntmps = true)
    (h : WC X fn.ntmps H0 M c (regsOf args 0) bl (bodyQ X.P H0 M fn.results.toList Q)) : Runs X g args H0 Q := by
  obtain ⟨n0, e, t', h', ρ', H', h1, h2, h4, h5, h3⟩ := h.go _ H0 (regsOf_known args) ⟨Nat.le_refl _, fun _ _ _ => rfl, hwf⟩ hbl
  have key : (e = .normal ∨ e = .ret) ∧ ∃ l, resR X.P H0 M ρ' H' fn.results.toList l ∧ Q (tupled l) h' := by
    cases e with
    | normal => obtain ⟨l, a, b⟩ := h3; exact ⟨.inl rfl, l, a, b h' h4 h5⟩
    | ret => obtain ⟨l, a, b⟩ := h3; exact ⟨.inr rfl, l, a, b h' h4 h5⟩
    | exit i => exact h3.elim
  obtain ⟨he, l, hl1, hq⟩ := key
  refine ⟨n0 + 1, tupled l, h', fun n hn => ?_, hq⟩
  obtain ⟨k, rfl⟩ : ∃ k, n = k + 1 := ⟨n - 1, by omega⟩
  show runStep X.P X.G X.F X.I k (X.run k) g args H0 = _
  unfold runStep
  rw [hI]
  simp only [hF, Option.bind_some, hb, hl, chk, cond_true, h1 k k (by omega) (by omega)]
  have hi := resR_i h2 h4 h5 _ _ hl1
  rcases he with rfl | rfl <;> simp only [hi, Option.map_some]
theorem blks_nil (H0 : Heap) (M : List Nat) (h : Heap) : Blks H0 M [] h := ⟨fun x hx => (List.not_mem_nil hx).elim, List.Pairwise.nil⟩
end
end Go.Ideal

/- Stepping through code on the ideal machine: the rules of the operations, memory known in parts. -/
namespace Go.Ideal
open Go

def iwR (ops : Array Oper) (g : Option (Nat × Bool)) (ρ : Regs) : Option Bool :=
  match g with
  | none => some true
  | some (j, want) => match (ops[j]?).bind (·.dst) with
    | none => some false
    | some d => match lkR ρ d with
      | some (.bool b) => some (b == want)
      | some (.tuple _) => some false
      | _ => none
theorem iwR_iw {ops : Array Oper} {o : Oper} {ρ : Regs} {t : Tr Value} {b : Bool} (h : iwR ops o.guard ρ = some b) (hk : Known ρ t) : iwant ops o t = some b := by
  unfold iwR at h
  unfold iwant
  split at h
  · rename_i hg; rw [hg]; exact h
  · rename_i j want hg
    rw [hg]
    simp only
    split at h
    · rename_i hd; rw [hd]; exact h
    · rename_i d hd
      rw [hd]
      simp only
      split at h
      · rename_i b' hl
        rw [hk d _ hl]
        exact h
      · rename_i a hl
        rw [hk d _ hl]
        exact h
      · cases h

def putR (d : Option Tmp) (v : Value) (ρ : Regs) : Regs :=
  match d with
  | some d => (d, v) :: ρ
  | none => ρ
def dOK (N : Nat) (d : Option Tmp) : Bool :=
  match d with
  | some d => Nat.blt d N
  | none => true
theorem putR_known {N : Nat} {d : Option Tmp} {v : Value} {ρ : Regs} {t : Tr Value} (hk : Known ρ t) (hd : dOK N d = true) : ∃ t', putT N t d v = some t' ∧ Known (putR d v ρ) t' := by
  cases d with
  | none => exact ⟨t, rfl, hk⟩
  | some d =>
    have hd : Nat.blt d N = true := hd
    exact ⟨t.set d v, by simp [putT, hd, chk], hk.cons d v⟩

def evL (ρ : Regs) : List Operand → Option (List Value)
  | [] => some []
  | x :: l => match evR ρ x with
    | some v => match evL ρ l with
      | some vs => some (v :: vs)
      | none => none
    | none => none
theorem evL_ev {ρ : Regs} {t : Tr Value} {G : Nat} (hk : Known ρ t) : ∀ {l : List Operand} {vs : List Value}, evL ρ l = some vs → l.map (ev G t) = vs
  | [], vs, h => by cases h; rfl
  | x :: l, vs, h => by
    simp only [evL] at h
    cases hx : evR ρ x with
    | none => rw [hx] at h; cases h
    | some v =>
      rw [hx] at h
      cases hl : evL ρ l with
      | none => rw [hl] at h; cases h
      | some vs' =>
        rw [hl] at h
        cases h
        rw [List.map_cons, evR_ev hx hk, evL_ev hk hl]
def evP (ρ : Regs) : List (Nat × Operand) → Option (List (Nat × Value))
  | [] => some []
  | p :: l => match evR ρ p.2 with
    | some v => match evP ρ l with
      | some vs => some ((p.1, v) :: vs)
      | none => none
    | none => none
theorem evP_ev {ρ : Regs} {t : Tr Value} {G : Nat} (hk : Known ρ t) : ∀ {l : List (Nat × Operand)} {vs : List (Nat × Value)}, evP ρ l = some vs → (l.map fun p => (p.1, ev G t p.2)) = vs
  | [], vs, h => by cases h; rfl
  | p :: l, vs, h => by
    simp only [evP] at h
    cases hx : evR ρ p.2 with
    | none => rw [hx] at h; cases h
    | some v =>
      rw [hx] at h
      cases hl : evP ρ l with
      | none => rw [hl] at h; cases h
      | some vs' =>
        rw [hl] at h
        cases h
        rw [List.map_cons, evR_ev hx hk, evP_ev hk hl]
def evO (ρ : Regs) : Option Operand → Option (Option Value)
  | none => some none
  | some x => match evR ρ x with
    | some v => some (some v)
    | none => none
theorem evO_ev {ρ : Regs} {t : Tr Value} {G : Nat} (hk : Known ρ t) {x : Option Operand} {v : Option Value} (h : evO ρ x = some v) : x.map (ev G t) = v := by
  cases x with
  | none => cases h; rfl
  | some x =>
    simp only [evO] at h
    cases hx : evR ρ x with
    | none => rw [hx] at h; cases h
    | some u => rw [hx] at h; cases h; rw [Option.map_some, evR_ev hx hk]


/-! ### what is known stays -/
structure Grow (H H' : Heap) : Prop where
  n : H.n ≤ H'.n
  old : ∀ b, b < H.n → H'.get b = H.get b
  top : ∀ b, H'.n ≤ b → H'.get b = none
theorem Grow.trans {H H' H'' : Heap} (h : Grow H H') (k : Grow H' H'') : Grow H H'' :=
  ⟨Nat.le_trans h.n k.n, fun b hb => (k.old b (Nat.lt_of_lt_of_le hb h.n)).trans (h.old b hb), k.top⟩
theorem Grow.refl {H : Heap} (h : Wf H) : Grow H H := ⟨Nat.le_refl _, fun _ _ => rfl, h⟩
theorem Grow.push {H : Heap} (h : Wf H) (o : IObj) : Grow H (H.push o) := by
  refine ⟨Nat.le_succ _, fun b hb => ?_, fun b hb => ?_⟩
  · rw [Heap.get_push, if_neg (by omega)]
  · have hb : H.n + 1 ≤ b := hb
    rw [Heap.get_push, if_neg (by omega)]
    exact h b (by omega)
theorem Kept.grow {B : Heap} {M : List Nat} {h h' : Heap} (k : Kept B M h) (g : Grow h h') : Kept B M h' :=
  ⟨Nat.le_trans k.n g.n, fun b hb hm => (g.old b (Nat.lt_of_lt_of_le hb k.n)).trans (k.old b hb hm), g.top⟩
/-- With no block that may turn, memory has only grown. -/
theorem Kept.pure {B : Heap} {h : Heap} (k : Kept B [] h) : Grow B h := ⟨k.n, fun b hb => k.old b hb (by simp), k.top⟩

theorem OwnL.keep {B h h' : Heap} {v : Value} {sz : Nat} {e : TypeId} {L : List (List Value)} (o : OwnL B h v sz e L) (hn : h.n ≤ h'.n) (hk : ∀ b, b < h.n → blkOf v = some b → h'.get b = h.get b) : OwnL B h' v sz e L := by
  obtain ⟨hl, o | ⟨b, sp, h1, h2, h3, h4, h5⟩⟩ := o
  · exact ⟨hl, .inl o⟩
  · exact ⟨hl, .inr ⟨b, sp, h1, h2, h3, Nat.lt_of_lt_of_le h4 hn, (hk b h4 (by rw [h1]; rfl)).trans h5⟩⟩
theorem Ent.lt {B : Heap} {M : List Nat} {h : Heap} {x : Ent} (hx : x.ok B M h) {b : Nat} (hb : x.fp b) : b < h.n := by
  cases x with
  | blk c o => cases hb; exact hx.1
  | own v sz e L =>
    obtain ⟨_, ⟨rfl, _⟩ | ⟨c, sp, rfl, _, _, h4, _⟩⟩ := hx
    · cases hb
    · cases hb; exact h4
  | rep F S => exact (hx.2.1 b hb).1
theorem Ent.home {B : Heap} {M : List Nat} {h : Heap} {x : Ent} (hx : x.ok B M h) {b : Nat} (hb : x.fp b) : B.n ≤ b ∨ b ∈ M := by
  cases x with
  | blk c o => cases hb; exact hx.2.2
  | own v sz e L =>
    obtain ⟨_, ⟨rfl, _⟩ | ⟨c, sp, rfl, _, h3, _, _⟩⟩ := hx
    · cases hb
    · cases hb; exact .inl h3
  | rep F S => exact (hx.2.1 b hb).2
theorem Ent.keep {B : Heap} {M : List Nat} {h h' : Heap} {x : Ent} (hx : x.ok B M h) (hn : h.n ≤ h'.n) (hk : ∀ b, x.fp b → h'.get b = h.get b) : x.ok B M h' := by
  cases x with
  | blk c o => exact ⟨Nat.lt_of_lt_of_le hx.1 hn, (hk c rfl).trans hx.2.1, hx.2.2⟩
  | own v sz e L => exact OwnL.keep hx hn (fun b _ hb => hk b hb)
  | rep F S => exact ⟨hx.2.2 _ _ hx.1 hn hk, fun b hb => ⟨Nat.lt_of_lt_of_le (hx.2.1 b hb).1 hn, (hx.2.1 b hb).2⟩, hx.2.2⟩

theorem Blks.grow {B : Heap} {M : List Nat} {bl : List Ent} {h h' : Heap} (k : Blks B M bl h) (g : Grow h h') : Blks B M bl h' :=
  ⟨fun x hx => Ent.keep (k.ok x hx) g.n (fun b hb => g.old b (Ent.lt (k.ok x hx) hb)), k.ne⟩
/-- One more, whose block is new. -/
theorem Blks.cons {B : Heap} {M : List Nat} {bl : List Ent} {h h' : Heap} (k : Blks B M bl h) (g : Grow h h') {x : Ent} (hx : x.ok B M h') (hn : ∀ b, x.fp b → h.n ≤ b) : Blks B M (x :: bl) h' := by
  have k' := k.grow g
  refine ⟨fun y hy => ?_, List.pairwise_cons.2 ⟨fun y hy b hb he => ?_, k'.ne⟩⟩
  · rcases List.mem_cons.1 hy with rfl | hy
    · exact hx
    · exact k'.ok y hy
  · have := Ent.lt (k.ok y hy) he
    have := hn b hb
    omega
theorem Blks.at {B : Heap} {M : List Nat} {bl : List Ent} {h : Heap} (k : Blks B M bl h) {i : Nat} {x : Ent} (hi : bl[i]? = some x) : x.ok B M h := k.ok x (List.mem_of_getElem? hi)
/-- One of them is turned into another one, at its own blocks or at new ones; the others stay. -/
theorem Blks.set {B : Heap} {M : List Nat} {bl : List Ent} {h h' : Heap} (k : Blks B M bl h) {i : Nat} {x y : Ent} (hi : bl[i]? = some x) (hn : h.n ≤ h'.n) (hk : ∀ b, b < h.n → ¬ x.fp b → h'.get b = h.get b) (hy : y.ok B M h') (hid : ∀ b, y.fp b → x.fp b ∨ h.n ≤ b) : Blks B M (bl.set i y) h' := by
  have hlt : i < bl.length := by
    rcases Nat.lt_or_ge i bl.length with h' | h'
    · exact h'
    · rw [List.getElem?_eq_none h'] at hi; cases hi
  have hxi : bl[i] = x := by rw [List.getElem?_eq_getElem hlt] at hi; exact Option.some.inj hi
  have pw := List.pairwise_iff_getElem.1 k.ne
  have other : ∀ j (hj : j < bl.length), j ≠ i → ∀ b, (bl[j]).fp b → ¬ x.fp b := by
    intro j hj hne b hb hx
    rcases Nat.lt_or_ge j i with h1 | h1
    · exact pw j i hj hlt h1 b hb (by rw [hxi]; exact hx)
    · exact pw i j hlt hj (by omega) b (by rw [hxi]; exact hx) hb
  constructor
  · intro z hz
    obtain ⟨j, hj⟩ := List.mem_iff_getElem?.1 hz
    rw [List.getElem?_set] at hj
    by_cases hij : i = j
    · subst hij
      rw [if_pos rfl, if_pos hlt] at hj
      cases hj
      exact hy
    · rw [if_neg hij] at hj
      have hzm := List.mem_of_getElem? hj
      have hzo := k.ok z hzm
      have hjl : j < bl.length := by
        rcases Nat.lt_or_ge j bl.length with h' | h'
        · exact h'
        · rw [List.getElem?_eq_none h'] at hj; cases hj
      have hzj : bl[j] = z := by rw [List.getElem?_eq_getElem hjl] at hj; exact Option.some.inj hj
      exact Ent.keep hzo hn (fun b hb => hk b (Ent.lt hzo hb) (other j hjl (fun e => hij e.symm) b (by rw [hzj]; exact hb)))
  · rw [List.pairwise_iff_getElem]
    intro a c ha hc hac b hb he
    simp only [List.length_set] at ha hc
    rw [List.getElem_set] at hb he
    by_cases h1 : i = a
    · rw [if_pos h1] at hb
      rw [if_neg (by omega)] at he
      rcases hid b hb with h2 | h2
      · exact other c hc (by omega) b he h2
      · have := Ent.lt (k.ok _ (List.getElem_mem hc)) he
        omega
    · rw [if_neg h1] at hb
      by_cases h2 : i = c
      · rw [if_pos h2] at he
        rcases hid b he with h3 | h3
        · exact other a ha (by omega) b hb h3
        · have := Ent.lt (k.ok _ (List.getElem_mem ha)) hb
          omega
      · rw [if_neg h2] at he
        exact pw a c ha hc hac b hb he

section
variable {X : Mach} {N : Nat} {B : Heap} {M : List Nat} {U : Hist} {ops : Array Oper} {rest : List Oper} {ρ : Regs} {H : List Ent} {K : Hist → Regs → List Ent → Prop}
variable {dst : Option Tmp} {ty : TypeId} {pos : String} {af : Array Edge} {gd : Option (Nat × Bool)} {v : Value}

theorem WO.nil (h : K U ρ H) : WO X N B M U ops [] ρ H K := .mk fun t h0 hk hh hb => ⟨0, t, h0, ρ, H, [], fun _ _ => ⟨rfl, rfl, rfl⟩, hk, hh, hb, h⟩

theorem trace_cons {g : Option (List Ent)} {gs U : Hist} : (g :: gs).reverse ++ U = gs.reverse ++ g :: U := by simp

theorem WO.unwanted {op : Op} (hw : iwR ops gd ρ = some false) (hd : dOK N dst = true) (k : WO X N B M (some H :: U) ops rest (putR dst undef ρ) H K) : WO X N B M U ops (⟨dst, op, ty, pos, af, gd⟩ :: rest) ρ H K := .mk fun t h0 hk hh hb => by
  obtain ⟨t', h1, h2⟩ := putR_known (v := undef) hk hd
  obtain ⟨n0, t2, h2', ρ2, H2, gs, g1, g⟩ := k.go t' h0 h2 hh hb
  refine ⟨n0, t2, h2', ρ2, H2, some H :: gs, fun m hm => ⟨some H, gs, rfl, fun E e => by cases e; exact ⟨hh, hb⟩, false, t', h0, iwR_iw (o := ⟨dst, op, ty, pos, af, gd⟩) hw hk, .inr ⟨rfl, rfl, h1⟩, g1 m hm⟩, ?_⟩
  rw [trace_cons]; exact g

theorem WO.step {o : Oper} {C : Value → List Ent → Prop} (g : Option (List Ent)) (hg : g = none ∨ g = some H) (hw : iwR ops o.guard ρ = some true)
    (hs : ∀ t h, Known ρ t → Kept B M h → Blks B M H h → ∃ n0 v h' H', (∀ m, n0 ≤ m → stepOp X.P X.G (X.run m) o t h = some (v, h')) ∧ Kept B M h' ∧ Blks B M H' h' ∧ C v H') (hd : dOK N o.dst = true)
    (k : ∀ v H', C v H' → WO X N B M (g :: U) ops rest (putR o.dst v ρ) H' K) : WO X N B M U ops (o :: rest) ρ H K := .mk fun t h0 hk hh hb => by
  obtain ⟨n1, v, h', H', hn1, q1, q2, q3⟩ := hs t h0 hk hh hb
  obtain ⟨t', h1, h2⟩ := putR_known (v := v) hk hd
  obtain ⟨n0, t2, h2', ρ2, H2, gs, g1, r⟩ := (k v H' q3).go t' h' h2 q1 q2
  refine ⟨n0 + n1, t2, h2', ρ2, H2, g :: gs, fun m hm => ⟨g, gs, rfl, fun E e => ?_, true, t', h', iwR_iw hw hk, .inl ⟨rfl, v, hn1 m (by omega), h1⟩, g1 m (by omega)⟩, ?_⟩
  · rcases hg with rfl | rfl
    · cases e
    · cases e; exact ⟨hh, hb⟩
  · rw [trace_cons]; exact r

theorem WO.pure {o : Oper} (hw : iwR ops o.guard ρ = some true) (hs : ∀ t h, Known ρ t → Kept B M h → Blks B M H h → ∀ call, stepOp X.P X.G call o t h = some (v, h)) (hd : dOK N o.dst = true) (k : WO X N B M (none :: U) ops rest (putR o.dst v ρ) H K) :
    WO X N B M U ops (o :: rest) ρ H K := WO.step (C := fun v' H' => v' = v ∧ H' = H) none (.inl rfl) hw (fun t h hk hh hb => ⟨0, v, h, H, fun m _ => hs t h hk hh hb _, hh, hb, rfl, rfl⟩) hd (fun v' H' e => by rw [e.1, e.2]; exact k)

theorem WO.move {x : Operand} (hw : iwR ops gd ρ = some true) (hx : evR ρ x = some v) (hd : dOK N dst = true) (k : WO X N B M (none :: U) ops rest (putR dst v ρ) H K) : WO X N B M U ops (⟨dst, .move x, ty, pos, af, gd⟩ :: rest) ρ H K :=
  WO.pure hw (fun t h0 hk hh hb call => by show some (ev X.G t x, h0) = _; rw [evR_ev hx hk]) hd k
theorem WO.assign {x : Operand} (hw : iwR ops gd ρ = some true) (hx : evR ρ x = some v) (hd : dOK N dst = true) (k : WO X N B M (none :: U) ops rest (putR dst v ρ) H K) : WO X N B M U ops (⟨dst, .assign x, ty, pos, af, gd⟩ :: rest) ρ H K :=
  WO.pure hw (fun t h0 hk hh hb call => by show some (ev X.G t x, h0) = _; rw [evR_ev hx hk]) hd k
theorem WO.pickT {c a b : Operand} (hw : iwR ops gd ρ = some true) (hc : evR ρ c = some (.bool true)) (hx : evR ρ a = some v) (hd : dOK N dst = true) (k : WO X N B M (none :: U) ops rest (putR dst v ρ) H K) : WO X N B M U ops (⟨dst, .pick c a b, ty, pos, af, gd⟩ :: rest) ρ H K :=
  WO.pure hw (fun t h0 hk hh hb call => by
    show (match ev X.G t c with | .bool t' => some (bif t' then ev X.G t a else ev X.G t b, h0) | _ => none) = _
    rw [evR_ev hc hk, ← evR_ev (G := X.G) hx hk]; rfl) hd k
theorem WO.pickF {c a b : Operand} (hw : iwR ops gd ρ = some true) (hc : evR ρ c = some (.bool false)) (hx : evR ρ b = some v) (hd : dOK N dst = true) (k : WO X N B M (none :: U) ops rest (putR dst v ρ) H K) : WO X N B M U ops (⟨dst, .pick c a b, ty, pos, af, gd⟩ :: rest) ρ H K :=
  WO.pure hw (fun t h0 hk hh hb call => by
    show (match ev X.G t c with | .bool t' => some (bif t' then ev X.G t a else ev X.G t b, h0) | _ => none) = _
    rw [evR_ev hc hk, ← evR_ev (G := X.G) hx hk]; rfl) hd k
theorem WO.nilCheck {x : Operand} {p : Addr} (hw : iwR ops gd ρ = some true) (hx : evR ρ x = some (.pointer (some p))) (hd : dOK N dst = true) (k : WO X N B M (none :: U) ops rest (putR dst (.pointer (some p)) ρ) H K) : WO X N B M U ops (⟨dst, .nilCheck x, ty, pos, af, gd⟩ :: rest) ρ H K :=
  WO.pure hw (fun t h0 hk hh hb call => by show (iNil (ev X.G t x)).map (·, h0) = _; rw [evR_ev hx hk]; rfl) hd k
theorem WO.load {x : Operand} {t : TypeId} {p : Value} (hw : iwR ops gd ρ = some true) (hx : evR ρ x = some p) (hl : Has B M H fun h => iLoad X.P t p h = some v) (hd : dOK N dst = true) (k : WO X N B M (none :: U) ops rest (putR dst v ρ) H K) : WO X N B M U ops (⟨dst, .load t x, ty, pos, af, gd⟩ :: rest) ρ H K :=
  WO.pure hw (fun t' h0 hk hh hb call => by show (iLoad X.P t (ev X.G t' x) h0).map (·, h0) = _; rw [evR_ev hx hk, hl h0 hh hb]; rfl) hd k
theorem WO.fieldAddr {x : Operand} {s : TypeId} {f : Nat} {p : Value} (hw : iwR ops gd ρ = some true) (hx : evR ρ x = some p) (hl : iFieldAddr X.P s p f = some v) (hd : dOK N dst = true) (k : WO X N B M (none :: U) ops rest (putR dst v ρ) H K) : WO X N B M U ops (⟨dst, .fieldAddr s x f, ty, pos, af, gd⟩ :: rest) ρ H K :=
  WO.pure hw (fun t' h0 hk hh hb call => by show (iFieldAddr X.P s (ev X.G t' x) f).map (·, h0) = _; rw [evR_ev hx hk, hl]; rfl) hd k
theorem WO.field {x : Operand} {s : TypeId} {f : Nat} {p : Value} (hw : iwR ops gd ρ = some true) (hx : evR ρ x = some p) (hl : iField X.P s p f = some v) (hd : dOK N dst = true) (k : WO X N B M (none :: U) ops rest (putR dst v ρ) H K) : WO X N B M U ops (⟨dst, .field s x f, ty, pos, af, gd⟩ :: rest) ρ H K :=
  WO.pure hw (fun t' h0 hk hh hb call => by show (iField X.P s (ev X.G t' x) f).map (·, h0) = _; rw [evR_ev hx hk, hl]; rfl) hd k
theorem WO.indexAddr {x i : Operand} {s : TypeId} {p q : Value} (hw : iwR ops gd ρ = some true) (hx : evR ρ x = some p) (hi : evR ρ i = some q) (hl : iIndexAddr X.P s p q = some v) (hd : dOK N dst = true) (k : WO X N B M (none :: U) ops rest (putR dst v ρ) H K) : WO X N B M U ops (⟨dst, .indexAddr s x i, ty, pos, af, gd⟩ :: rest) ρ H K :=
  WO.pure hw (fun t' h0 hk hh hb call => by show (iIndexAddr X.P s (ev X.G t' x) (ev X.G t' i)).map (·, h0) = _; rw [evR_ev hx hk, evR_ev hi hk, hl]; rfl) hd k
theorem WO.extract {x : Operand} {i : Nat} {a : Array Value} (hw : iwR ops gd ρ = some true) (hx : evR ρ x = some (.tuple a)) (hl : a[i]? = some v) (hd : dOK N dst = true) (k : WO X N B M (none :: U) ops rest (putR dst v ρ) H K) : WO X N B M U ops (⟨dst, .extract x i, ty, pos, af, gd⟩ :: rest) ρ H K :=
  WO.pure hw (fun t' h0 hk hh hb call => by show (iExtract (ev X.G t' x) i).map (·, h0) = _; rw [evR_ev hx hk]; show (a[i]?).map _ = _; rw [hl]; rfl) hd k
theorem WO.build {s : TypeId} {ps : Array (Nat × Operand)} {l : List (Nat × Value)} (hw : iwR ops gd ρ = some true) (hx : evP ρ ps.toList = some l) (hl : iBuild X.P s l = some v) (hd : dOK N dst = true) (k : WO X N B M (none :: U) ops rest (putR dst v ρ) H K) : WO X N B M U ops (⟨dst, .build s ps, ty, pos, af, gd⟩ :: rest) ρ H K :=
  WO.pure hw (fun t' h0 hk hh hb call => by show (iBuild X.P s (ps.toList.map fun p => (p.1, ev X.G t' p.2))).map (·, h0) = _; rw [evP_ev hk hx, hl]; rfl) hd k
theorem WO.makeFunc {fn : Fn} {a b : Array Operand} {la lb : List Value} (hw : iwR ops gd ρ = some true) (ha : evL ρ a.toList = some la) (hbb : evL ρ b.toList = some lb) (hd : dOK N dst = true) (k : WO X N B M (none :: U) ops rest (putR dst (.func fn la.toArray lb.toArray) ρ) H K) : WO X N B M U ops (⟨dst, .makeFunc fn a b, ty, pos, af, gd⟩ :: rest) ρ H K :=
  WO.pure hw (fun t' h0 hk hh hb call => by
    show some (Value.func fn (a.map (ev X.G t')) (b.map (ev X.G t')), h0) = _
    rw [← evL_ev (G := X.G) hk ha, ← evL_ev (G := X.G) hk hbb, show (a.toList.map (ev X.G t')).toArray = a.map (ev X.G t') from Array.ext' (by simp), show (b.toList.map (ev X.G t')).toArray = b.map (ev X.G t') from Array.ext' (by simp)]) hd k
theorem WO.binOp {op : BinOp} {t tz : TypeId} {x y : Operand} {p q : Value} (hw : iwR ops gd ρ = some true) (hx : evR ρ x = some p) (hy : evR ρ y = some q) (hl : iBin X.P op t x y p q = some v) (hn : noAddr 3 v = true) (hd : dOK N dst = true) (k : WO X N B M (none :: U) ops rest (putR dst v ρ) H K) :
    WO X N B M U ops (⟨dst, .binOp op t x y tz, ty, pos, af, gd⟩ :: rest) ρ H K :=
  WO.pure hw (fun t' h0 hk hh hb call => by
    show (iBin X.P op t x y (ev X.G t' x) (ev X.G t' y)).bind (fun r => chk (noAddr 3 r) (some (r, h0))) = _
    rw [evR_ev hx hk, evR_ev hy hk, hl]
    simp only [Option.bind_some, hn, chk, cond_true]) hd k
theorem WO.unOp {op : UnOp} {t : TypeId} {x : Operand} {p : Value} (hw : iwR ops gd ρ = some true) (hx : evR ρ x = some p) (hp : noAddr 3 p = true) (hl : pureRun X.P (Op.unary op p) = some v) (hn : noAddr 3 v = true) (hd : dOK N dst = true) (k : WO X N B M (none :: U) ops rest (putR dst v ρ) H K) :
    WO X N B M U ops (⟨dst, .unOp op t x, ty, pos, af, gd⟩ :: rest) ρ H K :=
  WO.pure hw (fun t' h0 hk hh hb call => by
    show chk (noAddr 3 (ev X.G t' x)) ((pureRun X.P (Op.unary op (ev X.G t' x))).bind fun r => chk (noAddr 3 r) (some (r, h0))) = _
    rw [evR_ev hx hk, hl]
    simp only [Option.bind_some, hn, hp, chk, cond_true]) hd k
theorem WO.slice {t : TypeId} {x : Operand} {lo hi mx : Option Operand} {p : Value} {l h m : Option Value} (hw : iwR ops gd ρ = some true) (hx : evR ρ x = some p) (hp : noAddr 3 p = false) (h1 : evO ρ lo = some l) (h2 : evO ρ hi = some h) (h3 : evO ρ mx = some m)
    (hl : Has B M H fun h' => iSlice X.P t p l h m h' = some v) (hd : dOK N dst = true) (k : WO X N B M (none :: U) ops rest (putR dst v ρ) H K) : WO X N B M U ops (⟨dst, .slice t x lo hi mx, ty, pos, af, gd⟩ :: rest) ρ H K :=
  WO.pure hw (fun t' h0 hk hh hb call => by
    show (bif noAddr 3 (ev X.G t' x) && _ && _ && _ then _ else (iSlice X.P t (ev X.G t' x) (lo.map (ev X.G t')) (hi.map (ev X.G t')) (mx.map (ev X.G t')) h0).map (·, h0)) = _
    rw [evR_ev hx hk, hp, evO_ev hk h1, evO_ev hk h2, evO_ev hk h3, hl h0 hh hb]
    rfl) hd k
theorem WO.builtin {b : Builtin} {args : Array Operand} {ts : Array TypeId} {l : List Value} (hw : iwR ops gd ρ = some true) (hx : evL ρ args.toList = some l) (hl : Has B M H fun h => iBuiltin2 X.P b ts ty l h = some (v, h)) (hd : dOK N dst = true) (k : WO X N B M (none :: U) ops rest (putR dst v ρ) H K) :
    WO X N B M U ops (⟨dst, .call { callee := .builtin b, args := args, argTypes := ts }, ty, pos, af, gd⟩ :: rest) ρ H K :=
  WO.pure hw (fun t' h0 hk hh hb call => by show iBuiltin2 X.P b ts ty (args.toList.map (ev X.G t')) h0 = _; rw [evL_ev hk hx, hl h0 hh hb]) hd k
theorem WO.lookup {t : TypeId} {x i : Operand} {ok : Bool} {p q : Value} (hw : iwR ops gd ρ = some true) (hx : evR ρ x = some p) (hi : evR ρ i = some q) (hq : noAddr 3 q = true) (hl : Has B M H fun h => iLookup X.P t p q ok h = some v) (hd : dOK N dst = true) (k : WO X N B M (none :: U) ops rest (putR dst v ρ) H K) : WO X N B M U ops (⟨dst, .lookup t x i ok, ty, pos, af, gd⟩ :: rest) ρ H K :=
  WO.pure hw (fun t' h0 hk hh hb call => by show (bif noAddr 3 (ev X.G t' i) then (iLookup X.P t (ev X.G t' x) (ev X.G t' i) ok h0).map (·, h0) else none) = _; rw [evR_ev hx hk, evR_ev hi hk, hl h0 hh hb, hq]; rfl) hd k

theorem WO.callG {f : Operand} {args : Array Operand} {ts : Array TypeId} {g : FuncId} {first cap : Array Value} {l : List Value} {S : Value → Prop} (hw : iwR ops gd ρ = some true) (hf : evR ρ f = some (.func (.func g) first cap)) (ha : evL ρ args.toList = some l) (hd : dOK N dst = true)
    (hr : ∀ h, Kept B M h → Blks B M H h → Runs X g (first.toList ++ l ++ cap.toList) h fun v h' => Grow h h' ∧ S v) (k : ∀ v, S v → WO X N B M (some H :: U) ops rest (putR dst v ρ) H K) : WO X N B M U ops (⟨dst, .call { callee := .value f, args := args, argTypes := ts }, ty, pos, af, gd⟩ :: rest) ρ H K := by
  refine WO.step (C := fun v H' => S v ∧ H' = H) (some H) (.inr rfl) hw (fun t h hk hh hb => ?_) hd (fun v H' e => by rw [e.2]; exact k v e.1)
  obtain ⟨n0, v, h', h1, h2, h3⟩ := hr h hh hb
  refine ⟨n0, v, h', H, fun m hm => ?_, hh.grow h2, hb.grow h2, h3, rfl⟩
  show (match ev X.G t f with | .func (.func g) first captured => X.run m g (first.toList ++ args.toList.map (ev X.G t) ++ captured.toList) h | _ => none) = _
  rw [evR_ev hf hk, evL_ev hk ha]
  exact h1 m hm
end

/-! ### integers -/
theorem bin_i64 {P : Program} {t : TypeId} {ox oy : Operand} (a b : Int) :
    iBin P .add t ox oy (.int .i64 a) (.int .i64 b) = some (.int .i64 (IntKind.i64.wrap (a + b))) ∧ iBin P .sub t ox oy (.int .i64 a) (.int .i64 b) = some (.int .i64 (IntKind.i64.wrap (a - b))) ∧
    iBin P .mul t ox oy (.int .i64 a) (.int .i64 b) = some (.int .i64 (IntKind.i64.wrap (a * b))) ∧
    iBin P .lss t ox oy (.int .i64 a) (.int .i64 b) = some (.bool (decide (a < b))) ∧ iBin P .leq t ox oy (.int .i64 a) (.int .i64 b) = some (.bool (decide (a ≤ b))) ∧
    iBin P .gtr t ox oy (.int .i64 a) (.int .i64 b) = some (.bool (decide (b < a))) ∧ iBin P .geq t ox oy (.int .i64 a) (.int .i64 b) = some (.bool (decide (b ≤ a))) ∧
    iBin P .eql t ox oy (.int .i64 a) (.int .i64 b) = some (.bool (decide (a = b))) ∧ iBin P .neq t ox oy (.int .i64 a) (.int .i64 b) = some (.bool (!decide (a = b))) := by
  refine ⟨rfl, rfl, rfl, rfl, rfl, rfl, rfl, rfl, rfl⟩
theorem bin_div {P : Program} {t : TypeId} {ox oy : Operand} (a b : Int) (hb : b ≠ 0) :
    iBin P .quo t ox oy (.int .i64 a) (.int .i64 b) = some (.int .i64 (IntKind.i64.wrap (a.tdiv b))) ∧ iBin P .rem t ox oy (.int .i64 a) (.int .i64 b) = some (.int .i64 (a.tmod b)) := by
  constructor
  · show pureRun P (Op.intDiv .quo .i64 a b) = _
    simp [Op.intDiv, hb]
    rfl
  · show pureRun P (Op.intDiv .rem .i64 a b) = _
    simp [Op.intDiv, hb]
    rfl
theorem wrap_in {a : Int} (h1 : -9223372036854775808 ≤ a) (h2 : a < 9223372036854775808) : IntKind.i64.wrap a = a := by
  have e : IntKind.i64.wrap a = (let m := a % 18446744073709551616; if m ≥ 9223372036854775808 then m - 18446744073709551616 else m) := by
    unfold IntKind.wrap
    simp [IntKind.bits, IntKind.signed]
  rw [e]
  simp only
  split <;> omega

section
variable {X : Mach} {N : Nat} {B : Heap} {M : List Nat} {U : Hist} {ops : Array Oper} {rest : List Oper} {ρ : Regs} {H : List Ent} {K : Hist → Regs → List Ent → Prop}
variable {dst : Option Tmp} {ty : TypeId} {pos : String} {af : Array Edge} {gd : Option (Nat × Bool)} {v : Value} {t tz : TypeId} {x y : Operand} {a b : Int}

theorem WO.cmp {op : BinOp} {p : Prop} [Decidable p] {q r : Value} (hw : iwR ops gd ρ = some true) (hx : evR ρ x = some q) (hy : evR ρ y = some r) (hl : iBin X.P op t x y q r = some (.bool (decide p))) (hd : dOK N dst = true)
    (k1 : p → WO X N B M (none :: U) ops rest (putR dst (.bool true) ρ) H K) (k2 : ¬ p → WO X N B M (none :: U) ops rest (putR dst (.bool false) ρ) H K) : WO X N B M U ops (⟨dst, .binOp op t x y tz, ty, pos, af, gd⟩ :: rest) ρ H K := by
  refine WO.binOp hw hx hy hl rfl hd ?_
  by_cases h : p
  · rw [decide_eq_true h]; exact k1 h
  · rw [decide_eq_false h]; exact k2 h
theorem WO.lss (hw : iwR ops gd ρ = some true) (hx : evR ρ x = some (.int .i64 a)) (hy : evR ρ y = some (.int .i64 b)) (hd : dOK N dst = true) (k1 : a < b → WO X N B M (none :: U) ops rest (putR dst (.bool true) ρ) H K) (k2 : ¬ a < b → WO X N B M (none :: U) ops rest (putR dst (.bool false) ρ) H K) :
    WO X N B M U ops (⟨dst, .binOp .lss t x y tz, ty, pos, af, gd⟩ :: rest) ρ H K := WO.cmp hw hx hy rfl hd k1 k2
theorem WO.leq (hw : iwR ops gd ρ = some true) (hx : evR ρ x = some (.int .i64 a)) (hy : evR ρ y = some (.int .i64 b)) (hd : dOK N dst = true) (k1 : a ≤ b → WO X N B M (none :: U) ops rest (putR dst (.bool true) ρ) H K) (k2 : ¬ a ≤ b → WO X N B M (none :: U) ops rest (putR dst (.bool false) ρ) H K) :
    WO X N B M U ops (⟨dst, .binOp .leq t x y tz, ty, pos, af, gd⟩ :: rest) ρ H K := WO.cmp hw hx hy rfl hd k1 k2
theorem WO.gtr (hw : iwR ops gd ρ = some true) (hx : evR ρ x = some (.int .i64 a)) (hy : evR ρ y = some (.int .i64 b)) (hd : dOK N dst = true) (k1 : b < a → WO X N B M (none :: U) ops rest (putR dst (.bool true) ρ) H K) (k2 : ¬ b < a → WO X N B M (none :: U) ops rest (putR dst (.bool false) ρ) H K) :
    WO X N B M U ops (⟨dst, .binOp .gtr t x y tz, ty, pos, af, gd⟩ :: rest) ρ H K := WO.cmp hw hx hy rfl hd k1 k2
theorem WO.geq (hw : iwR ops gd ρ = some true) (hx : evR ρ x = some (.int .i64 a)) (hy : evR ρ y = some (.int .i64 b)) (hd : dOK N dst = true) (k1 : b ≤ a → WO X N B M (none :: U) ops rest (putR dst (.bool true) ρ) H K) (k2 : ¬ b ≤ a → WO X N B M (none :: U) ops rest (putR dst (.bool false) ρ) H K) :
    WO X N B M U ops (⟨dst, .binOp .geq t x y tz, ty, pos, af, gd⟩ :: rest) ρ H K := WO.cmp hw hx hy rfl hd k1 k2
theorem WO.eql (hw : iwR ops gd ρ = some true) (hx : evR ρ x = some (.int .i64 a)) (hy : evR ρ y = some (.int .i64 b)) (hd : dOK N dst = true) (k1 : a = b → WO X N B M (none :: U) ops rest (putR dst (.bool true) ρ) H K) (k2 : ¬ a = b → WO X N B M (none :: U) ops rest (putR dst (.bool false) ρ) H K) :
    WO X N B M U ops (⟨dst, .binOp .eql t x y tz, ty, pos, af, gd⟩ :: rest) ρ H K := WO.cmp hw hx hy rfl hd k1 k2
theorem WO.neq (hw : iwR ops gd ρ = some true) (hx : evR ρ x = some (.int .i64 a)) (hy : evR ρ y = some (.int .i64 b)) (hd : dOK N dst = true) (k1 : ¬ a = b → WO X N B M (none :: U) ops rest (putR dst (.bool true) ρ) H K) (k2 : a = b → WO X N B M (none :: U) ops rest (putR dst (.bool false) ρ) H K) :
    WO X N B M U ops (⟨dst, .binOp .neq t x y tz, ty, pos, af, gd⟩ :: rest) ρ H K := by
  refine WO.binOp hw hx hy (bin_i64 a b).2.2.2.2.2.2.2.2 rfl hd ?_
  by_cases h : a = b
  · rw [decide_eq_true h]; exact k2 h
  · rw [decide_eq_false h]; exact k1 h
theorem WO.add (hw : iwR ops gd ρ = some true) (hx : evR ρ x = some (.int .i64 a)) (hy : evR ρ y = some (.int .i64 b)) (hd : dOK N dst = true) (h1 : -9223372036854775808 ≤ a + b) (h2 : a + b < 9223372036854775808) (k : WO X N B M (none :: U) ops rest (putR dst (.int .i64 (a + b)) ρ) H K) :
    WO X N B M U ops (⟨dst, .binOp .add t x y tz, ty, pos, af, gd⟩ :: rest) ρ H K := by
  refine WO.binOp hw hx hy (bin_i64 a b).1 rfl hd ?_
  rw [wrap_in h1 h2]; exact k
theorem WO.sub (hw : iwR ops gd ρ = some true) (hx : evR ρ x = some (.int .i64 a)) (hy : evR ρ y = some (.int .i64 b)) (hd : dOK N dst = true) (h1 : -9223372036854775808 ≤ a - b) (h2 : a - b < 9223372036854775808) (k : WO X N B M (none :: U) ops rest (putR dst (.int .i64 (a - b)) ρ) H K) :
    WO X N B M U ops (⟨dst, .binOp .sub t x y tz, ty, pos, af, gd⟩ :: rest) ρ H K := by
  refine WO.binOp hw hx hy (bin_i64 a b).2.1 rfl hd ?_
  rw [wrap_in h1 h2]; exact k
theorem WO.mul (hw : iwR ops gd ρ = some true) (hx : evR ρ x = some (.int .i64 a)) (hy : evR ρ y = some (.int .i64 b)) (hd : dOK N dst = true) (h1 : -9223372036854775808 ≤ a * b) (h2 : a * b < 9223372036854775808) (k : WO X N B M (none :: U) ops rest (putR dst (.int .i64 (a * b)) ρ) H K) :
    WO X N B M U ops (⟨dst, .binOp .mul t x y tz, ty, pos, af, gd⟩ :: rest) ρ H K := by
  refine WO.binOp hw hx hy (bin_i64 a b).2.2.1 rfl hd ?_
  rw [wrap_in h1 h2]; exact k
theorem WO.rem (hw : iwR ops gd ρ = some true) (hx : evR ρ x = some (.int .i64 a)) (hy : evR ρ y = some (.int .i64 b)) (hd : dOK N dst = true) (hb : b ≠ 0) (k : WO X N B M (none :: U) ops rest (putR dst (.int .i64 (a.tmod b)) ρ) H K) :
    WO X N B M U ops (⟨dst, .binOp .rem t x y tz, ty, pos, af, gd⟩ :: rest) ρ H K := WO.binOp hw hx hy (bin_div a b hb).2 rfl hd k
theorem WO.quo (hw : iwR ops gd ρ = some true) (hx : evR ρ x = some (.int .i64 a)) (hy : evR ρ y = some (.int .i64 b)) (hd : dOK N dst = true) (hb : b ≠ 0) (h1 : -9223372036854775808 ≤ a.tdiv b) (h2 : a.tdiv b < 9223372036854775808) (k : WO X N B M (none :: U) ops rest (putR dst (.int .i64 (a.tdiv b)) ρ) H K) :
    WO X N B M U ops (⟨dst, .binOp .quo t x y tz, ty, pos, af, gd⟩ :: rest) ρ H K := by
  refine WO.binOp hw hx hy (bin_div a b hb).1 rfl hd ?_
  rw [wrap_in h1 h2]; exact k
theorem WO.not {c : Bool} (hw : iwR ops gd ρ = some true) (hx : evR ρ x = some (.bool c)) (hd : dOK N dst = true) (k : WO X N B M (none :: U) ops rest (putR dst (.bool (!c)) ρ) H K) : WO X N B M U ops (⟨dst, .unOp .not t x, ty, pos, af, gd⟩ :: rest) ρ H K :=
  WO.unOp hw hx rfl rfl rfl hd k
theorem WO.neg (hw : iwR ops gd ρ = some true) (hx : evR ρ x = some (.int .i64 a)) (hd : dOK N dst = true) (h1 : -9223372036854775808 ≤ -a) (h2 : -a < 9223372036854775808) (k : WO X N B M (none :: U) ops rest (putR dst (.int .i64 (-a)) ρ) H K) : WO X N B M U ops (⟨dst, .unOp .neg t x, ty, pos, af, gd⟩ :: rest) ρ H K := by
  refine WO.unOp (v := .int .i64 (IntKind.i64.wrap (0 - a))) hw hx rfl rfl rfl hd ?_
  rw [show (0 : Int) - a = -a from by omega, wrap_in h1 h2]; exact k
end
end Go.Ideal

/- Stepping through code on the ideal machine: slices, own slices, boxes. -/
namespace Go.Ideal
open Go

/-- A slice whose elements (of sz cells) read as L. -/
def SliceL (H : Heap) (v : Value) (sz : Nat) (L : List (List Value)) : Prop :=
  (v = .slice none 0 0 ∧ L = []) ∨
  ∃ b o sp c row e fx, v = .slice (some ⟨b, o, sp⟩) L.length c ∧ L.length ≤ c ∧ (sp = none ∨ sp = some 0) ∧ b < H.n ∧ H.get b = some (.cells row e fx) ∧ o + L.length * sz ≤ row.length ∧
    ∀ (i : Nat) cs, L[i]? = some cs → cut row (o + i * sz) sz = cs

theorem SliceL.grow {H H' : Heap} {v : Value} {sz : Nat} {L : List (List Value)} (h : SliceL H v sz L) (g : Grow H H') : SliceL H' v sz L := by
  rcases h with h | ⟨b, o, sp, c, row, e, fx, h1, h2, h3, h4, h5, h6⟩
  · exact .inl h
  · exact .inr ⟨b, o, sp, c, row, e, fx, h1, h2, h3, Nat.lt_of_lt_of_le h4 g.n, (g.old b h4).trans h5, h6⟩

/-- The place of cell k of element i. -/
def slq (v : Value) (sz : Nat) (i : Int) (k : Nat) : Value :=
  match v with
  | .slice (some ⟨b, o, _⟩) _ _ => .pointer (some ⟨b, o + i.toNat * sz + k, none⟩)
  | _ => .pointer none

theorem SliceL.len {P : Program} {H : Heap} {v : Value} {sz : Nat} {L : List (List Value)} {t ty e : TypeId} (h : SliceL H v sz L) (ht : P.underlying t = some (.slice e)) : iBuiltin2 P .len #[t] ty [v] H = some (.int .i64 L.length, H) := by
  rcases h with ⟨rfl, rfl⟩ | ⟨b, o, sp, c, row, e, fx, rfl, _⟩
  · simp [iBuiltin2, iBuiltin, iLen, ht, goInt]
  · simp [iBuiltin2, iBuiltin, iLen, ht, goInt]

theorem SliceL.ix {P : Program} {H : Heap} {v : Value} {sz : Nat} {L : List (List Value)} {t e : TypeId} {inf : TypeInfo} {i : Int} (h : SliceL H v sz L) (ht : P.underlying t = some (.slice e)) (hi : P.info? e = some inf) (hs : inf.size = sz) (h0 : 0 ≤ i) (h1 : i < L.length) :
    iIndexAddr P t v (.int .i64 i) = some (slq v sz i 0) := by
  rcases h with ⟨rfl, rfl⟩ | ⟨b, o, sp, c, row, e', fx, rfl, _⟩
  · simp at h1; omega
  · have hd : (decide (0 ≤ i) && decide (i < (L.length : Int))) = true := by simp [h0, h1]
    simp only [iIndexAddr, asInt, Option.bind_some, ht, asSl, hi, hd, chk, cond_true, slq, hs, Nat.add_zero]

theorem SliceL.cells {H : Heap} {v : Value} {sz : Nat} {L : List (List Value)} {i : Int} {cs : List Value} (h : SliceL H v sz L) (h0 : 0 ≤ i) (h1 : L[i.toNat]? = some cs) :
    ∃ b o row e fx, slq v sz i 0 = .pointer (some ⟨b, o, none⟩) ∧ (∀ k, slq v sz i k = .pointer (some ⟨b, o + k, none⟩)) ∧ H.get b = some (.cells row e fx) ∧ o + sz ≤ row.length ∧ cut row o sz = cs := by
  rcases h with ⟨rfl, rfl⟩ | ⟨b, o, sp, c, row, e, fx, rfl, _, _, _, h5, h6, h7⟩
  · simp at h1
  · have hlt : i.toNat < L.length := by
      rcases Nat.lt_or_ge i.toNat L.length with h' | h'
      · exact h'
      · rw [List.getElem?_eq_none h'] at h1; cases h1
    refine ⟨b, o + i.toNat * sz, row, e, fx, rfl, fun k => rfl, h5, ?_, h7 _ _ h1⟩
    have : (i.toNat + 1) * sz ≤ L.length * sz := Nat.mul_le_mul_right _ hlt
    rw [Nat.add_mul, Nat.one_mul] at this
    omega

theorem iFieldAddr_off {P : Program} {s : TypeId} {f b o : Nat} {off : Nat} (h : iFieldAddr P s (.pointer (some ⟨0, 0, none⟩)) f = some (.pointer (some ⟨0, off, none⟩))) : iFieldAddr P s (.pointer (some ⟨b, o, none⟩)) f = some (.pointer (some ⟨b, o + off, none⟩)) := by
  unfold iFieldAddr at h ⊢
  simp only [asPtr, Option.bind_some] at h ⊢
  split at h
  · rename_i fs hs
    obtain ⟨fd, hf, h⟩ := bind_some h
    obtain ⟨i, hi, h⟩ := bind_some h
    obtain ⟨hc, h⟩ := chk_some h
    rw [hf, Option.bind_some, hi, Option.bind_some, hc]
    simp only [chk, cond_true]
    simp at h
    rw [h]
  · cases h

theorem SliceL.fa {P : Program} {v : Value} {sz : Nat} {i : Int} {k off : Nat} {s : TypeId} {f : Nat} {H : Heap} {L : List (List Value)} (h : SliceL H v sz L) (h0 : 0 ≤ i) (h1 : i < L.length) (hf : iFieldAddr P s (.pointer (some ⟨0, 0, none⟩)) f = some (.pointer (some ⟨0, off, none⟩))) :
    iFieldAddr P s (slq v sz i k) f = some (slq v sz i (k + off)) := by
  have hlt : i.toNat < L.length := by omega
  obtain ⟨b, o, row, e, fx, _, h3, _⟩ := h.cells h0 (List.getElem?_eq_getElem hlt)
  rw [h3, h3, iFieldAddr_off hf, Nat.add_assoc]

/-- One cell. -/
theorem SliceL.ld1 {P : Program} {H : Heap} {v : Value} {sz : Nat} {L : List (List Value)} {i : Int} {k : Nat} {cs : List Value} {x : Value} {t : TypeId} {d : TypeDesc} (h : SliceL H v sz L) (h0 : 0 ≤ i) (h1 : L[i.toNat]? = some cs) (hu : P.underlying t = some d) (hd : isAggD d = false) (hx : cs[k]? = some x) :
    iLoad P t (slq v sz i k) H = some x := by
  obtain ⟨b, o, row, e, fx, _, h3, h4, h5, h6⟩ := h.cells h0 h1
  rw [h3]
  simp only [iLoad, asPtr, Option.bind_some, rowOf, h4, hu, hd, cond_false]
  rw [← h6, cut_get] at hx
  split at hx
  · exact hx
  · cases hx
/-- Some cells: a struct. -/
theorem SliceL.ldA {P : Program} {H : Heap} {v : Value} {sz : Nat} {L : List (List Value)} {i : Int} {k m : Nat} {cs : List Value} {t : TypeId} {d : TypeDesc} {inf : TypeInfo} (h : SliceL H v sz L) (h0 : 0 ≤ i) (h1 : L[i.toNat]? = some cs) (hu : P.underlying t = some d) (hd : isAggD d = true) (hi : P.info? t = some inf) (hm : inf.size = m) (hk : k + m ≤ sz) :
    iLoad P t (slq v sz i k) H = some (.agg (cut cs k m).toArray) := by
  obtain ⟨b, o, row, e, fx, _, h3, h4, h5, h6⟩ := h.cells h0 h1
  rw [h3]
  have hb : Nat.ble (o + k + inf.size) row.length = true := Nat.ble_eq_true_of_le (by omega)
  simp only [iLoad, asPtr, Option.bind_some, rowOf, h4, hu, hd, cond_true, hi, hb, chk]
  have : cut row (o + k) inf.size = cut cs k m := by
    subst hm
    rw [← h6]
    apply List.ext_getElem?
    intro j
    rw [cut_get, cut_get, cut_get]
    by_cases hj : j < inf.size
    · rw [if_pos hj, if_pos hj, if_pos (by omega), Nat.add_assoc]
    · rw [if_neg hj, if_neg hj]
  rw [this]
theorem flatten_len {sz : Nat} : ∀ {L : List (List Value)}, (∀ cs ∈ L, cs.length = sz) → L.flatten.length = L.length * sz
  | [], _ => by simp
  | c :: L, h => by
    rw [List.flatten_cons, List.length_append, h c List.mem_cons_self, flatten_len (fun cs hc => h cs (List.mem_cons_of_mem _ hc)), List.length_cons, Nat.add_mul, Nat.one_mul, Nat.add_comm]
theorem flatten_cut {sz : Nat} : ∀ {L : List (List Value)}, (∀ cs ∈ L, cs.length = sz) → ∀ (i : Nat) cs, L[i]? = some cs → cut L.flatten (i * sz) sz = cs
  | [], _, i, cs, h => by simp at h
  | c :: L, hl, 0, cs, h => by
    simp at h
    subst h
    have := hl c List.mem_cons_self
    simp only [cut, Nat.zero_mul, List.drop_zero, List.flatten_cons]
    rw [← this, List.take_left]
  | c :: L, hl, i + 1, cs, h => by
    have hc := hl c List.mem_cons_self
    have ih := flatten_cut (fun cs hc => hl cs (List.mem_cons_of_mem _ hc)) i cs (by simpa using h)
    rw [← ih]
    simp only [cut, List.flatten_cons]
    rw [show (i + 1) * sz = c.length + i * sz from by rw [Nat.add_mul, Nat.one_mul, hc, Nat.add_comm], ← List.drop_drop, List.drop_left]

theorem OwnL.slice {H0 H : Heap} {v : Value} {sz : Nat} {e : TypeId} {L : List (List Value)} (h : OwnL H0 H v sz e L) : SliceL H v sz L := by
  obtain ⟨hl, h | ⟨b, sp, h1, h2, h3, h4, h5⟩⟩ := h
  · exact .inl h
  · exact .inr ⟨b, 0, sp, L.length, L.flatten, e, false, h1, Nat.le_refl _, h2, h4, h5, by rw [flatten_len hl]; omega, fun i cs hi => by rw [Nat.zero_add]; exact flatten_cut hl i cs hi⟩
theorem OwnL.nil (H0 H : Heap) (sz : Nat) (e : TypeId) : OwnL H0 H (.slice none 0 0) sz e [] := And.intro (fun cs h => (List.not_mem_nil h).elim) (Or.inl ⟨rfl, rfl⟩)
theorem OwnL.grows {H0 H H' : Heap} {v : Value} {sz : Nat} {e : TypeId} {L : List (List Value)} (h : OwnL H0 H v sz e L) (g : Grow H H') : OwnL H0 H' v sz e L := OwnL.keep h g.n (fun b hb _ => g.old b hb)

theorem cut_rows {sz : Nat} {row : List Value} : ∀ {L : List (List Value)} {o : Nat}, (∀ (i : Nat) cs, L[i]? = some cs → cut row (o + i * sz) sz = cs) → o + L.length * sz ≤ row.length → cut row o (L.length * sz) = L.flatten
  | [], o, _, _ => by simp [cut]
  | c :: L, o, h, hl => by
    have h0 := h 0 c (by simp)
    rw [Nat.zero_mul, Nat.add_zero] at h0
    have hlen : (L.length + 1) * sz = L.length * sz + sz := by rw [Nat.add_mul, Nat.one_mul]
    rw [List.length_cons, hlen] at hl
    have ih := cut_rows (sz := sz) (row := row) (L := L) (o := o + sz) (fun i cs hi => by
      have := h (i + 1) cs (by simpa using hi)
      rwa [show o + (i + 1) * sz = o + sz + i * sz from by rw [Nat.add_mul, Nat.one_mul]; omega] at this) (by omega)
    rw [List.flatten_cons, ← h0, ← ih, List.length_cons, hlen]
    apply List.ext_getElem?
    intro j
    have hl1 : (cut row o sz).length = sz := cut_length (by omega)
    rw [cut_get]
    by_cases hj : j < sz
    · rw [if_pos (by omega), List.getElem?_append_left (by omega), cut_get, if_pos hj]
    · rw [List.getElem?_append_right (by omega), hl1, cut_get]
      by_cases hj2 : j < L.length * sz + sz
      · rw [if_pos hj2, if_pos (by omega), show o + sz + (j - sz) = o + j from by omega]
      · rw [if_neg hj2, if_neg (by omega)]

theorem SliceL.src {H : Heap} {x : Value} {sz : Nat} {M : List (List Value)} (h : SliceL H x sz M) : iSrc H sz x = some (M.length, M.flatten) := by
  rcases h with ⟨rfl, rfl⟩ | ⟨b, o, sp, c, row, e, fx, rfl, _, _, _, h5, h6, h7⟩
  · rfl
  · simp only [iSrc]
    cases hb : Nat.beq M.length 0 with
    | true =>
      have := List.eq_nil_of_length_eq_zero (Nat.eq_of_beq_eq_true hb)
      subst this
      rfl
    | false =>
      simp only [cond_false, rowOf, h5, Option.bind_some]
      rw [show Nat.ble (o + M.length * sz) row.length = true from Nat.ble_eq_true_of_le h6, chk, cond_true, cut_rows h7 h6]

structure ElemT (P : Program) (t e : TypeId) (sz bytes : Nat) : Prop where
  slice : P.underlying t = some (.slice e)
  info : ∃ inf z, P.info? e = some inf ∧ inf.size = sz ∧ inf.bytes = bytes ∧ inf.zero = some z ∧ z.cells.size = sz
  plain : mapElem P e = false

theorem append_own {P : Program} {t u ty e : TypeId} {sz bytes : Nat} (hE : ElemT P t e sz bytes) {eu : TypeId} (hu : P.underlying u = some (.slice eu)) {H0 H : Heap} {Mu : List Nat} {v x : Value} {L M : List (List Value)} (hg : Kept H0 Mu H) (h : OwnL H0 H v sz e L) (hx : SliceL H x sz M)
    (hM : ∀ cs ∈ M, cs.length = sz) (hone : ∀ cs ∈ M, cs.all oneC = true) (hb : (L.length + M.length) * bytes ≤ 140737488355328) (hb2 : L.length + M.length ≤ 9223372036854775807) :
    ∃ r H', iBuiltin2 P .append #[t, u] ty [v, x] H = some (r, H') ∧ OwnL H0 H' r sz e (L ++ M) ∧ Kept H0 Mu H' ∧ H.n ≤ H'.n ∧ (∀ b, b < H.n → blkOf v ≠ some b → H'.get b = H.get b) ∧ (∀ b, blkOf r = some b → blkOf v = some b ∨ H.n ≤ b) := by
  obtain ⟨inf, z, hi, hs, hby, hz, hzs⟩ := hE.info
  have hsrc := hx.src
  rw [← hs] at hsrc
  have hnoI : noInt (.slice eu) = true := rfl
  have hzz : Nat.beq z.cells.size inf.size = true := by rw [hzs, hs]; simp
  have hLM : ∀ cs ∈ L ++ M, cs.length = sz := fun cs hc => by
    rcases List.mem_append.1 hc with hc | hc
    · exact h.1 cs hc
    · exact hM cs hc
  have hflat : (L ++ M).flatten = L.flatten ++ M.flatten := by simp
  have hall : M.flatten.all oneC = true := by
    rw [List.all_eq_true]
    intro y hy
    obtain ⟨cs, hc, hyc⟩ := List.mem_flatten.1 hy
    exact List.all_eq_true.1 (hone cs hc) y hyc
  have e0 : iBuiltin2 P .append #[t, u] ty [v, x] H = iAppend P t u v x H := rfl
  rw [e0]
  unfold iAppend
  simp only [hE.slice, hu, Option.bind_some, hi, hz, hnoI, hzz, Bool.and_self, chk, cond_true, hsrc]
  have pushG : ∀ o, Kept H0 Mu (H.push o) := fun o => hg.grow (Grow.push hg.top o)
  cases hb0 : Nat.beq M.length 0 with
  | true =>
    have hM0 := List.eq_nil_of_length_eq_zero (Nat.eq_of_beq_eq_true hb0)
    subst hM0
    obtain ⟨hl, ⟨rfl, rfl⟩ | ⟨b, sp, rfl, h2, h3, h4, h5⟩⟩ := h
    · exact ⟨_, H, rfl, OwnL.nil .., hg, Nat.le_refl _, fun _ _ _ => rfl, fun _ h => .inl h⟩
    · simp only [cond_true, Nat.ble_eq_true_of_le (Nat.le_refl L.length)]
      exact ⟨_, H, rfl, ⟨by simpa using hl, .inr ⟨b, sp, by simp, h2, h3, h4, by simpa using h5⟩⟩, hg, Nat.le_refl _, fun _ _ _ => rfl, fun _ h => .inl h⟩
  | false =>
    have hMpos : 0 < M.length := by
      rcases Nat.eq_zero_or_pos M.length with h' | h'
      · rw [h'] at hb0; cases hb0
      · exact h'
    obtain ⟨hl, ⟨rfl, rfl⟩ | ⟨b, sp, rfl, h2, h3, h4, h5⟩⟩ := h
    · simp only [cond_false]
      have h1 : Nat.ble (M.length * inf.bytes) bnd47 = true := Nat.ble_eq_true_of_le (by rw [hby]; simpa [bnd47] using hb)
      have h2 : Nat.ble M.length bnd63 = true := Nat.ble_eq_true_of_le (by simpa [bnd63] using hb2)
      simp only [h1, h2, Bool.and_self, cond_true]
      refine ⟨_, _, rfl, ⟨by simpa using hM, .inr ⟨H.n, none, by simp, .inl rfl, hg.n, Nat.lt_succ_self _, by rw [Heap.get_push, if_pos rfl]; simp⟩⟩, pushG _, Nat.le_succ _, fun b hb' _ => by rw [Heap.get_push, if_neg (by omega)], fun b h => by cases h; exact .inr (Nat.le_refl _)⟩
    · simp only [cond_false, rowOf, h5, Option.bind_some]
      have hroom : Nat.ble (L.length + M.length) L.length = false := by
        cases hq : Nat.ble (L.length + M.length) L.length with
        | false => rfl
        | true => have := Nat.le_of_ble_eq_true hq; omega
      have h1 : Nat.ble ((L.length + M.length) * inf.bytes) bnd47 = true := Nat.ble_eq_true_of_le (by rw [hby]; exact hb)
      have h2' : Nat.ble (L.length + M.length) bnd63 = true := Nat.ble_eq_true_of_le hb2
      have hfl := flatten_len hl
      have h6 : Nat.ble (0 + L.length * inf.size) L.flatten.length = true := Nat.ble_eq_true_of_le (by rw [hfl, hs]; omega)
      have hcut : cut L.flatten 0 (L.length * inf.size) = L.flatten := by
        unfold cut
        rw [List.drop_zero, hs, ← hfl, List.take_length]
      simp only [hroom, cond_false, h1, h2', h6, Bool.and_self, cond_true, hcut]
      rcases h2 with rfl | rfl
      · simp only [Bool.not_false, hall, hE.plain, show Nat.beq e e = true from by simp, Bool.and_self, cond_true]
        refine ⟨_, _, rfl, ⟨hLM, .inr ⟨H.n, none, by simp, .inl rfl, hg.n, Nat.lt_succ_self _, ?_⟩⟩, ⟨Nat.le_trans hg.n (Nat.le_succ _), ?_, ?_⟩, Nat.le_succ _, ?_, fun b h => by cases h; exact .inr (Nat.le_refl _)⟩
        · show ((H.put b .dead).push _).get H.n = _
          rw [Heap.get_push, if_pos (show H.n = (H.put b .dead).n from rfl), hflat]
        · intro c hc hm
          rw [Heap.get_push, if_neg (by show c ≠ H.n; have := hg.n; omega), Heap.get_put, if_neg (by omega)]
          exact hg.old c hc hm
        · intro c hc
          have hc : H.n + 1 ≤ c := hc
          rw [Heap.get_push, if_neg (by show c ≠ H.n; omega), Heap.get_put, if_neg (by omega)]
          exact hg.top c (by omega)
        · intro c hc hne
          rw [Heap.get_push, if_neg (by show c ≠ H.n; omega), Heap.get_put, if_neg (fun e => hne (by rw [e]; rfl))]
      · refine ⟨_, _, rfl, ⟨hLM, .inr ⟨H.n, none, by simp, .inl rfl, hg.n, Nat.lt_succ_self _, by rw [Heap.get_push, if_pos rfl, hflat]⟩⟩, pushG _, Nat.le_succ _, fun c hc _ => by rw [Heap.get_push, if_neg (by omega)], fun b h => by cases h; exact .inr (Nat.le_refl _)⟩
end Go.Ideal

/- Stepping through code on the ideal machine: the rules of the operations that make, read and write blocks. -/
namespace Go.Ideal
open Go
section
variable {X : Mach} {N : Nat} {B : Heap} {M : List Nat} {U : Hist} {ops : Array Oper} {rest : List Oper} {ρ : Regs} {H : List Ent} {K : Hist → Regs → List Ent → Prop}
variable {dst : Option Tmp} {ty : TypeId} {pos : String} {af : Array Edge} {gd : Option (Nat × Bool)} {v : Value}

/-- A new block. -/
theorem push_block {h : Heap} (hh : Kept B M h) (hb : Blks B M H h) (o : IObj) : Kept B M (h.push o) ∧ Blks B M (.blk h.n o :: H) (h.push o) := by
  have g := Grow.push hh.top o
  exact ⟨hh.grow g, hb.cons g ⟨Nat.lt_succ_self _, by rw [Heap.get_push, if_pos rfl], .inl hh.n⟩ (fun b e => by cases e; exact Nat.le_refl _)⟩

theorem WO.box {s : TypeId} {x : Operand} {u : Value} {cs : List Value} (hw : iwR ops gd ρ = some true) (hx : evR ρ x = some u) (hu : noJunk u = true) (hc : vcells u = cs) (hd : dOK N dst = true) (k : ∀ b, WO X N B M (none :: U) ops rest (putR dst (.pointer (some ⟨b, 0, none⟩)) ρ) (.blk b (.cells cs s false) :: H) K) :
    WO X N B M U ops (⟨dst, .box s x, ty, pos, af, gd⟩ :: rest) ρ H K := by
  refine WO.step (C := fun v H' => ∃ b, v = .pointer (some ⟨b, 0, none⟩) ∧ H' = .blk b (.cells cs s false) :: H) none (.inl rfl) hw (fun t h hk hh hb => ?_) hd (fun v H' e => by obtain ⟨b, rfl, rfl⟩ := e; exact k b)
  obtain ⟨p1, p2⟩ := push_block hh hb (.cells cs s false)
  refine ⟨0, _, _, _, fun m _ => ?_, p1, p2, h.n, rfl, rfl⟩
  show iBox s (ev X.G t x) h = _
  rw [evR_ev hx hk]
  subst hc
  cases u <;> first | rfl | (cases hu; done)

theorem WO.alloc {s : TypeId} {z : Value} {cs : List Value} (hw : iwR ops gd ρ = some true) (hz : iZero X.P s = some z) (hu : noJunk z = true) (hc : vcells z = cs) (hd : dOK N dst = true) (k : ∀ b, WO X N B M (none :: U) ops rest (putR dst (.pointer (some ⟨b, 0, none⟩)) ρ) (.blk b (.cells cs s false) :: H) K) :
    WO X N B M U ops (⟨dst, .alloc s, ty, pos, af, gd⟩ :: rest) ρ H K := by
  refine WO.step (C := fun v H' => ∃ b, v = .pointer (some ⟨b, 0, none⟩) ∧ H' = .blk b (.cells cs s false) :: H) none (.inl rfl) hw (fun t h hk hh hb => ?_) hd (fun v H' e => by obtain ⟨b, rfl, rfl⟩ := e; exact k b)
  obtain ⟨p1, p2⟩ := push_block hh hb (.cells cs s false)
  refine ⟨0, _, _, _, fun m _ => ?_, p1, p2, h.n, rfl, rfl⟩
  show (iZero X.P s).bind _ = _
  rw [hz]
  subst hc
  show iBox s z h = _
  cases z <;> first | rfl | (cases hu; done)

theorem blk_row {h : Heap} {k b : Nat} {cs : List Value} {e : TypeId} {f : Bool} (hb : Blks B M H h) (hk : H[k]? = some (.blk b (.cells cs e f))) : rowOf h b = some (cs, e, f) := by
  have := (hb.at hk).2.1
  unfold rowOf
  rw [this]

/-- One cell of a known block. -/
theorem WO.loadB (k0 : Nat) {x : Operand} {t : TypeId} {b o : Nat} {cs : List Value} {e : TypeId} {f : Bool} {d : TypeDesc} (hw : iwR ops gd ρ = some true) (hx : evR ρ x = some (.pointer (some ⟨b, o, none⟩))) (hk : H[k0]? = some (.blk b (.cells cs e f))) (hu : X.P.underlying t = some d) (ha : isAggD d = false) (hv : cs[o]? = some v) (hd : dOK N dst = true)
    (k : WO X N B M (none :: U) ops rest (putR dst v ρ) H K) : WO X N B M U ops (⟨dst, .load t x, ty, pos, af, gd⟩ :: rest) ρ H K :=
  WO.load hw hx (fun h hh hb => by simp only [iLoad, asPtr, Option.bind_some, blk_row hb hk, hu, ha, cond_false, hv]) hd k
/-- A struct of a known block. -/
theorem WO.loadBA (k0 : Nat) {x : Operand} {t : TypeId} {b o m : Nat} {cs r : List Value} {e : TypeId} {f : Bool} {d : TypeDesc} {inf : TypeInfo} (hw : iwR ops gd ρ = some true) (hx : evR ρ x = some (.pointer (some ⟨b, o, none⟩))) (hk : H[k0]? = some (.blk b (.cells cs e f))) (hu : X.P.underlying t = some d) (ha : isAggD d = true)
    (hi : X.P.info? t = some inf) (hm : inf.size = m) (hle : Nat.ble (o + m) cs.length = true) (hr : cut cs o m = r) (hd : dOK N dst = true) (k : WO X N B M (none :: U) ops rest (putR dst (.agg r.toArray) ρ) H K) : WO X N B M U ops (⟨dst, .load t x, ty, pos, af, gd⟩ :: rest) ρ H K :=
  WO.load hw hx (fun h hh hb => by subst hm; subst hr; simp only [iLoad, asPtr, Option.bind_some, blk_row hb hk, hu, ha, cond_true, hi, hle, chk]) hd k

theorem put_block {h : Heap} {k b : Nat} {o o' : IObj} (hh : Kept B M h) (hb : Blks B M H h) (hk : H[k]? = some (.blk b o)) : Kept B M (h.put b o') ∧ Blks B M (H.set k (.blk b o')) (h.put b o') := by
  have hx := hb.at hk
  refine ⟨⟨hh.n, ?_, ?_⟩, ?_⟩
  · intro c hc hm
    have hne : c ≠ b := fun e => by
      rcases hx.2.2 with h1 | h1
      · omega
      · exact hm (by rw [e]; exact h1)
    rw [Heap.get_put, if_neg hne]
    exact hh.old c hc hm
  · intro c hc
    have hc : h.n ≤ c := hc
    have := hx.1
    rw [Heap.get_put, if_neg (by omega)]
    exact hh.top c hc
  · refine hb.set hk (Nat.le_refl _) (fun c hc hne => ?_) ⟨hx.1, by rw [Heap.get_put, if_pos rfl], hx.2.2⟩ (fun c e => .inl (by cases e; rfl))
    rw [Heap.get_put, if_neg (fun e => hne (by rw [e]; rfl))]

theorem WO.storeB (k0 : Nat) {x y : Operand} {t : TypeId} {b o m : Nat} {cs cs' us : List Value} {e : TypeId} {u : Value} {inf : TypeInfo} {H' : List Ent} (hw : iwR ops gd ρ = some true) (hx : evR ρ x = some (.pointer (some ⟨b, o, none⟩))) (hy : evR ρ y = some u) (hk : H[k0]? = some (.blk b (.cells cs e false)))
    (hi : X.P.info? t = some inf) (hm : inf.size = m) (hc : vcells u = us) (hl : Nat.beq us.length m = true) (h1 : us.all oneC = true) (hle : Nat.ble (o + us.length) cs.length = true) (hs : splice cs o us = cs') (hH : H.set k0 (.blk b (.cells cs' e false)) = H') (hd : dOK N dst = true) (k : WO X N B M (some H :: U) ops rest (putR dst undef ρ) H' K) :
    WO X N B M U ops (⟨dst, .store t x y, ty, pos, af, gd⟩ :: rest) ρ H K := by
  refine WO.step (C := fun v H1 => v = undef ∧ H1 = H') (some H) (.inr rfl) hw (fun t' h hk' hh hb => ?_) hd (fun v H1 e => by rw [e.1, e.2]; exact k)
  obtain ⟨p1, p2⟩ := put_block (o' := .cells cs' e false) hh hb hk
  rw [hH] at p2
  refine ⟨0, undef, _, _, fun _ _ => ?_, p1, p2, rfl, rfl⟩
  show (iStore X.P t (ev X.G t' x) (ev X.G t' y) h).map (undef, ·) = _
  rw [evR_ev hx hk', evR_ev hy hk']
  subst hm; subst hc; subst hs
  simp only [iStore, asPtr, Option.bind_some, blk_row hb hk, hi, Bool.not_false, hl, h1, hle, Bool.and_self, chk, cond_true, Option.map_some]

/-- A slice literal of some elements. -/
theorem WO.lit {s e : TypeId} {n : Nat} {ps : Array (Nat × Operand)} {l : List (Nat × Value)} {sz : Nat} {L : List (List Value)} (hw : iwR ops gd ρ = some true) (hx : evP ρ ps.toList = some l) (hl : ∀ h, iBuildSlice X.P s n l h = some (.slice (some ⟨h.n, 0, some 0⟩) L.length L.length, h.push (.cells L.flatten e false))) (hsz : ∀ cs ∈ L, cs.length = sz) (hd : dOK N dst = true)
    (k : ∀ v, WO X N B M (none :: U) ops rest (putR dst v ρ) (.own v sz e L :: H) K) : WO X N B M U ops (⟨dst, .buildSlice s n ps, ty, pos, af, gd⟩ :: rest) ρ H K := by
  refine WO.step (C := fun v H' => H' = .own v sz e L :: H) none (.inl rfl) hw (fun t h hk hh hb => ?_) hd (fun v H' e => by rw [e]; exact k v)
  have g := Grow.push hh.top (.cells L.flatten e false)
  refine ⟨0, .slice (some ⟨h.n, 0, some 0⟩) L.length L.length, _, _, fun m _ => ?_, hh.grow g, hb.cons g (x := .own (.slice (some ⟨h.n, 0, some 0⟩) L.length L.length) sz e L) ?_ (fun b e => by cases e; exact Nat.le_refl _), rfl⟩
  · show iBuildSlice X.P s n (ps.toList.map fun p => (p.1, ev X.G t p.2)) h = _
    rw [evP_ev hk hx]
    exact hl h
  · exact ⟨hsz, .inr ⟨h.n, some 0, rfl, .inr rfl, hh.n, Nat.lt_succ_self _, by rw [Heap.get_push, if_pos rfl]⟩⟩

/-- The nil slice is a slice of its own. -/
theorem WO.nilOwn {l : List Oper} (sz : Nat) (e : TypeId) (k : WO X N B M U ops l ρ (.own (.slice none 0 0) sz e [] :: H) K) : WO X N B M U ops l ρ H K :=
  .mk fun t h hk hh hb => k.go t h hk hh (hb.cons (Grow.refl hh.top) (OwnL.nil ..) (fun b e => by cases e))
theorem WC.nilOwn {c : Code} {Q : IExit → Regs → List Ent → Prop} (sz : Nat) (e : TypeId) (k : WC X N B M c ρ (.own (.slice none 0 0) sz e [] :: H) Q) : WC X N B M c ρ H Q :=
  .mk fun t h hk hh hb => k.go t h hk hh (hb.cons (Grow.refl hh.top) (OwnL.nil ..) (fun b e => by cases e))

/-- append to a slice of its own. -/
theorem WO.append (k0 : Nat) {args : Array Operand} {t u e eu : TypeId} {x s : Value} {sz bytes : Nat} {L L' : List (List Value)} {H' : Value → List Ent} (hw : iwR ops gd ρ = some true) (ha : evL ρ args.toList = some [s, x]) (hk : H[k0]? = some (.own s sz e L)) (hE : ElemT X.P t e sz bytes) (hu : X.P.underlying u = some (.slice eu))
    (hx : Has B M H fun h => SliceL h x sz L') (hM : ∀ cs ∈ L', cs.length = sz) (hone : ∀ cs ∈ L', cs.all oneC = true) (hb1 : (L.length + L'.length) * bytes ≤ 140737488355328) (hb2 : L.length + L'.length ≤ 9223372036854775807) (hH : ∀ v, H.set k0 (.own v sz e (L ++ L')) = H' v) (hd : dOK N dst = true)
    (k : ∀ v, WO X N B M (some H :: U) ops rest (putR dst v ρ) (H' v) K) : WO X N B M U ops (⟨dst, .call { callee := .builtin .append, args := args, argTypes := #[t, u] }, ty, pos, af, gd⟩ :: rest) ρ H K := by
  refine WO.step (C := fun v H1 => H1 = H' v) (some H) (.inr rfl) hw (fun t' h hk' hh hb => ?_) hd (fun v H1 e => by rw [e]; exact k v)
  obtain ⟨r, h', g1, g2, g3, g4, g5, g6⟩ := append_own (ty := ty) hE hu hh (hb.at hk) (hx h hh hb) hM hone hb1 hb2
  refine ⟨0, r, h', H.set k0 (.own r sz e (L ++ L')), fun m _ => ?_, g3, hb.set hk g4 g5 g2 g6, hH r⟩
  show iBuiltin2 X.P .append #[t, u] ty (args.toList.map (ev X.G t')) h = _
  rw [evL_ev hk' ha]
  exact g1

/-- A call that hands back a slice of its own. -/
theorem WO.callO {f : Operand} {args : Array Operand} {ts : Array TypeId} {g : FuncId} {first cap : Array Value} {l : List Value} {sz : Nat} {e : TypeId} {L : List (List Value)} (hw : iwR ops gd ρ = some true) (hf : evR ρ f = some (.func (.func g) first cap)) (ha : evL ρ args.toList = some l) (hd : dOK N dst = true)
    (hr : ∀ h, Kept B M h → Blks B M H h → Runs X g (first.toList ++ l ++ cap.toList) h fun v h' => Grow h h' ∧ OwnL h h' v sz e L) (k : ∀ v, WO X N B M (some H :: U) ops rest (putR dst v ρ) (.own v sz e L :: H) K) : WO X N B M U ops (⟨dst, .call { callee := .value f, args := args, argTypes := ts }, ty, pos, af, gd⟩ :: rest) ρ H K := by
  refine WO.step (C := fun v H' => H' = .own v sz e L :: H) (some H) (.inr rfl) hw (fun t h hk hh hb => ?_) hd (fun v H' e => by rw [e]; exact k v)
  obtain ⟨n0, v, h', h1, h2, h3⟩ := hr h hh hb
  have hnew : ∀ b, blkOf v = some b → h.n ≤ b := by
    intro b hbv
    obtain ⟨_, ⟨rfl, _⟩ | ⟨c, sp, rfl, _, h4, _⟩⟩ := h3
    · cases hbv
    · cases hbv; exact h4
  have hown : OwnL B h' v sz e L := by
    obtain ⟨q1, q2 | ⟨c, sp, q3, q4, q5, q6⟩⟩ := h3
    · exact ⟨q1, .inl q2⟩
    · exact ⟨q1, .inr ⟨c, sp, q3, q4, Nat.le_trans hh.n q5, q6⟩⟩
  refine ⟨n0, v, h', .own v sz e L :: H, fun m hm => ?_, hh.grow h2, hb.cons h2 (x := .own v sz e L) hown hnew, rfl⟩
  show (match ev X.G t f with | .func (.func g) first captured => X.run m g (first.toList ++ args.toList.map (ev X.G t) ++ captured.toList) h | _ => none) = _
  rw [evR_ev hf hk, evL_ev hk ha]
  exact h1 m hm

/-- What is known of a slice of its own. -/
theorem has_own (k0 : Nat) {s : Value} {sz : Nat} {e : TypeId} {L : List (List Value)} (hk : H[k0]? = some (.own s sz e L)) : Has B M H fun h => SliceL h s sz L := fun h hh hb => OwnL.slice (hb.at hk)
theorem has_base {s : Value} {sz : Nat} {L : List (List Value)} (hs : ∀ h, Kept B M h → SliceL h s sz L) : Has B M H fun h => SliceL h s sz L := fun h hh _ => hs h hh
end
end Go.Ideal

/- Stepping through code on the ideal machine: facts on types, told by number; the rules that ask for them. -/
namespace Go.Ideal
open Go

/-- Field f of the struct s lies off cells behind its start. -/
structure FA (P : Program) (s : TypeId) (f off : Nat) : Prop where
  h : ∀ b o, iFieldAddr P s (.pointer (some ⟨b, o, none⟩)) f = some (.pointer (some ⟨b, o + off, none⟩))
theorem FA.of {P : Program} {s : TypeId} {f off : Nat} (h : iFieldAddr P s (.pointer (some ⟨0, 0, none⟩)) f = some (.pointer (some ⟨0, off, none⟩))) : FA P s f off := ⟨fun _ _ => iFieldAddr_off h⟩
/-- A type of one cell. -/
structure T1 (P : Program) (t : TypeId) : Prop where
  h : ∃ d inf, P.underlying t = some d ∧ isAggD d = false ∧ P.info? t = some inf ∧ inf.size = 1
/-- A struct or array type of n cells. -/
structure TA (P : Program) (t : TypeId) (n : Nat) : Prop where
  h : ∃ d inf, P.underlying t = some d ∧ isAggD d = true ∧ P.info? t = some inf ∧ inf.size = n
def t1B (P : Program) (t : TypeId) (agg : Bool) (n : Nat) : Bool :=
  match P.underlying t, P.info? t with
  | some d, some i => (isAggD d == agg) && Nat.beq i.size n
  | _, _ => false
theorem T1.of {P : Program} {t : TypeId} (h : t1B P t false 1 = true) : T1 P t := by
  unfold t1B at h
  split at h
  · rename_i d i h1 h2
    simp only [Bool.and_eq_true, beq_iff_eq] at h
    exact ⟨d, i, h1, h.1, h2, Nat.eq_of_beq_eq_true h.2⟩
  · cases h
theorem TA.of {P : Program} {t : TypeId} {n : Nat} (h : t1B P t true n = true) : TA P t n := by
  unfold t1B at h
  split at h
  · rename_i d i h1 h2
    simp only [Bool.and_eq_true, beq_iff_eq] at h
    exact ⟨d, i, h1, h.1, h2, Nat.eq_of_beq_eq_true h.2⟩
  · cases h

section
variable {X : Mach} {N : Nat} {B : Heap} {M : List Nat} {U : Hist} {ops : Array Oper} {rest : List Oper} {ρ : Regs} {H : List Ent} {K : Hist → Regs → List Ent → Prop}
variable {dst : Option Tmp} {ty : TypeId} {pos : String} {af : Array Edge} {gd : Option (Nat × Bool)} {v : Value}

theorem WO.fa {x : Operand} {s : TypeId} {f b o off : Nat} (hF : FA X.P s f off) (hw : iwR ops gd ρ = some true) (hx : evR ρ x = some (.pointer (some ⟨b, o, none⟩))) (hd : dOK N dst = true) (k : WO X N B M (none :: U) ops rest (putR dst (.pointer (some ⟨b, o + off, none⟩)) ρ) H K) :
    WO X N B M U ops (⟨dst, .fieldAddr s x f, ty, pos, af, gd⟩ :: rest) ρ H K := WO.fieldAddr hw hx (hF.h b o) hd k
theorem WO.ld (k0 : Nat) {x : Operand} {t : TypeId} {b o : Nat} {cs : List Value} {e : TypeId} {f : Bool} (hT : T1 X.P t) (hw : iwR ops gd ρ = some true) (hx : evR ρ x = some (.pointer (some ⟨b, o, none⟩))) (hk : H[k0]? = some (.blk b (.cells cs e f))) (hv : cs[o]? = some v) (hd : dOK N dst = true)
    (k : WO X N B M (none :: U) ops rest (putR dst v ρ) H K) : WO X N B M U ops (⟨dst, .load t x, ty, pos, af, gd⟩ :: rest) ρ H K := by
  obtain ⟨d, inf, h1, h2, h3, h4⟩ := hT.h
  exact WO.loadB k0 hw hx hk h1 h2 hv hd k
theorem WO.ldA (k0 : Nat) {x : Operand} {t : TypeId} {b o m : Nat} {cs r : List Value} {e : TypeId} {f : Bool} (hT : TA X.P t m) (hw : iwR ops gd ρ = some true) (hx : evR ρ x = some (.pointer (some ⟨b, o, none⟩))) (hk : H[k0]? = some (.blk b (.cells cs e f)))
    (hle : Nat.ble (o + m) cs.length = true) (hr : cut cs o m = r) (hd : dOK N dst = true) (k : WO X N B M (none :: U) ops rest (putR dst (.agg r.toArray) ρ) H K) : WO X N B M U ops (⟨dst, .load t x, ty, pos, af, gd⟩ :: rest) ρ H K := by
  obtain ⟨d, inf, h1, h2, h3, h4⟩ := hT.h
  exact WO.loadBA k0 hw hx hk h1 h2 h3 h4 hle hr hd k
theorem WO.st (k0 : Nat) {x y : Operand} {t : TypeId} {b o : Nat} {cs cs' us : List Value} {e : TypeId} {u : Value} {H' : List Ent} (hT : T1 X.P t) (hw : iwR ops gd ρ = some true) (hx : evR ρ x = some (.pointer (some ⟨b, o, none⟩))) (hy : evR ρ y = some u) (hk : H[k0]? = some (.blk b (.cells cs e false)))
    (hc : vcells u = us) (hl : Nat.beq us.length 1 = true) (h1 : us.all oneC = true) (hle : Nat.ble (o + us.length) cs.length = true) (hs : splice cs o us = cs') (hH : H.set k0 (.blk b (.cells cs' e false)) = H') (hd : dOK N dst = true) (k : WO X N B M (some H :: U) ops rest (putR dst undef ρ) H' K) :
    WO X N B M U ops (⟨dst, .store t x y, ty, pos, af, gd⟩ :: rest) ρ H K := by
  obtain ⟨d, inf, _, _, h3, h4⟩ := hT.h
  exact WO.storeB k0 hw hx hy hk h3 h4 hc hl h1 hle hs hH hd k
theorem WO.stA (k0 : Nat) {x y : Operand} {t : TypeId} {b o m : Nat} {cs cs' us : List Value} {e : TypeId} {u : Value} {H' : List Ent} (hT : TA X.P t m) (hw : iwR ops gd ρ = some true) (hx : evR ρ x = some (.pointer (some ⟨b, o, none⟩))) (hy : evR ρ y = some u) (hk : H[k0]? = some (.blk b (.cells cs e false)))
    (hc : vcells u = us) (hl : Nat.beq us.length m = true) (h1 : us.all oneC = true) (hle : Nat.ble (o + us.length) cs.length = true) (hs : splice cs o us = cs') (hH : H.set k0 (.blk b (.cells cs' e false)) = H') (hd : dOK N dst = true) (k : WO X N B M (some H :: U) ops rest (putR dst undef ρ) H' K) :
    WO X N B M U ops (⟨dst, .store t x y, ty, pos, af, gd⟩ :: rest) ρ H K := by
  obtain ⟨d, inf, _, _, h3, h4⟩ := hT.h
  exact WO.storeB k0 hw hx hy hk h3 h4 hc hl h1 hle hs hH hd k
theorem WO.notT {t : TypeId} {x : Operand} (hw : iwR ops gd ρ = some true) (hx : evR ρ x = some (.bool true)) (hd : dOK N dst = true) (k : WO X N B M (none :: U) ops rest (putR dst (.bool false) ρ) H K) : WO X N B M U ops (⟨dst, .unOp .not t x, ty, pos, af, gd⟩ :: rest) ρ H K := WO.not hw hx hd k
theorem WO.notF {t : TypeId} {x : Operand} (hw : iwR ops gd ρ = some true) (hx : evR ρ x = some (.bool false)) (hd : dOK N dst = true) (k : WO X N B M (none :: U) ops rest (putR dst (.bool true) ρ) H K) : WO X N B M U ops (⟨dst, .unOp .not t x, ty, pos, af, gd⟩ :: rest) ρ H K := WO.not hw hx hd k
theorem WO.notS {t : TypeId} {x : Operand} {c : Bool} (hw : iwR ops gd ρ = some true) (hx : evR ρ x = some (.bool c)) (hd : dOK N dst = true) (k1 : c = false → WO X N B M (none :: U) ops rest (putR dst (.bool true) ρ) H K) (k2 : c = true → WO X N B M (none :: U) ops rest (putR dst (.bool false) ρ) H K) :
    WO X N B M U ops (⟨dst, .unOp .not t x, ty, pos, af, gd⟩ :: rest) ρ H K := by
  refine WO.not hw hx hd ?_
  cases c with
  | true => exact k2 rfl
  | false => exact k1 rfl
/-- A call that answers a bool. -/
theorem WO.callB {f : Operand} {args : Array Operand} {ts : Array TypeId} {g : FuncId} {first cap : Array Value} {l : List Value} {c : Bool}
    (hr : ∀ h, Kept B M h → Blks B M H h → Runs X g (first.toList ++ l ++ cap.toList) h fun v h' => Grow h h' ∧ v = .bool c) (hw : iwR ops gd ρ = some true) (hf : evR ρ f = some (.func (.func g) first cap)) (ha : evL ρ args.toList = some l) (hd : dOK N dst = true)
    (k1 : c = true → WO X N B M (some H :: U) ops rest (putR dst (.bool true) ρ) H K) (k2 : c = false → WO X N B M (some H :: U) ops rest (putR dst (.bool false) ρ) H K) : WO X N B M U ops (⟨dst, .call { callee := .value f, args := args, argTypes := ts }, ty, pos, af, gd⟩ :: rest) ρ H K :=
  WO.callG hw hf ha hd hr (fun v e => by subst e; cases c with | true => exact k1 rfl | false => exact k2 rfl)
/-- A call that answers a value told. -/
theorem WO.callV {f : Operand} {args : Array Operand} {ts : Array TypeId} {g : FuncId} {first cap : Array Value} {l : List Value} {u : Value}
    (hr : ∀ h, Kept B M h → Blks B M H h → Runs X g (first.toList ++ l ++ cap.toList) h fun v h' => Grow h h' ∧ v = u) (hw : iwR ops gd ρ = some true) (hf : evR ρ f = some (.func (.func g) first cap)) (ha : evL ρ args.toList = some l) (hd : dOK N dst = true)
    (k : WO X N B M (some H :: U) ops rest (putR dst u ρ) H K) : WO X N B M U ops (⟨dst, .call { callee := .value f, args := args, argTypes := ts }, ty, pos, af, gd⟩ :: rest) ρ H K :=
  WO.callG hw hf ha hd hr (fun v e => by subst e; exact k)
/-- A result that lies in a known block. -/
theorem has_resA (k0 : Nat) {t : TypeId} {b o m : Nat} {cs r : List Value} {e : TypeId} {f : Bool} (hT : TA X.P t m) (hk : H[k0]? = some (.blk b (.cells cs e f))) (hle : Nat.ble (o + m) cs.length = true) (hr : cut cs o m = r) : Has B M H fun h => iLoad X.P t (.pointer (some ⟨b, o, none⟩)) h = some (.agg r.toArray) := by
  obtain ⟨d, inf, h1, h2, h3, h4⟩ := hT.h
  intro h hh hb
  subst h4; subst hr
  simp only [iLoad, asPtr, Option.bind_some, blk_row hb hk, h1, h2, cond_true, h3, hle, chk]

/-! ### which operation is it? (each is the identity; it fits one kind of operation alone) -/
theorem WO.isMove {x : Operand} (k : WO X N B M U ops (⟨dst, .move x, ty, pos, af, gd⟩ :: rest) ρ H K) : WO X N B M U ops (⟨dst, .move x, ty, pos, af, gd⟩ :: rest) ρ H K := k
theorem WO.isAssign {x : Operand} (k : WO X N B M U ops (⟨dst, .assign x, ty, pos, af, gd⟩ :: rest) ρ H K) : WO X N B M U ops (⟨dst, .assign x, ty, pos, af, gd⟩ :: rest) ρ H K := k
theorem WO.isPick {c a b : Operand} (k : WO X N B M U ops (⟨dst, .pick c a b, ty, pos, af, gd⟩ :: rest) ρ H K) : WO X N B M U ops (⟨dst, .pick c a b, ty, pos, af, gd⟩ :: rest) ρ H K := k
theorem WO.isNil {x : Operand} (k : WO X N B M U ops (⟨dst, .nilCheck x, ty, pos, af, gd⟩ :: rest) ρ H K) : WO X N B M U ops (⟨dst, .nilCheck x, ty, pos, af, gd⟩ :: rest) ρ H K := k
theorem WO.isLoad {t : TypeId} {x : Operand} (k : WO X N B M U ops (⟨dst, .load t x, ty, pos, af, gd⟩ :: rest) ρ H K) : WO X N B M U ops (⟨dst, .load t x, ty, pos, af, gd⟩ :: rest) ρ H K := k
theorem WO.isStore {t : TypeId} {x y : Operand} (k : WO X N B M U ops (⟨dst, .store t x y, ty, pos, af, gd⟩ :: rest) ρ H K) : WO X N B M U ops (⟨dst, .store t x y, ty, pos, af, gd⟩ :: rest) ρ H K := k
theorem WO.isFA {s : TypeId} {x : Operand} {f : Nat} (k : WO X N B M U ops (⟨dst, .fieldAddr s x f, ty, pos, af, gd⟩ :: rest) ρ H K) : WO X N B M U ops (⟨dst, .fieldAddr s x f, ty, pos, af, gd⟩ :: rest) ρ H K := k
theorem WO.isField {s : TypeId} {x : Operand} {f : Nat} (k : WO X N B M U ops (⟨dst, .field s x f, ty, pos, af, gd⟩ :: rest) ρ H K) : WO X N B M U ops (⟨dst, .field s x f, ty, pos, af, gd⟩ :: rest) ρ H K := k
theorem WO.isIA {s : TypeId} {x i : Operand} (k : WO X N B M U ops (⟨dst, .indexAddr s x i, ty, pos, af, gd⟩ :: rest) ρ H K) : WO X N B M U ops (⟨dst, .indexAddr s x i, ty, pos, af, gd⟩ :: rest) ρ H K := k
theorem WO.isExt {x : Operand} {i : Nat} (k : WO X N B M U ops (⟨dst, .extract x i, ty, pos, af, gd⟩ :: rest) ρ H K) : WO X N B M U ops (⟨dst, .extract x i, ty, pos, af, gd⟩ :: rest) ρ H K := k
theorem WO.isBuild {s : TypeId} {ps : Array (Nat × Operand)} (k : WO X N B M U ops (⟨dst, .build s ps, ty, pos, af, gd⟩ :: rest) ρ H K) : WO X N B M U ops (⟨dst, .build s ps, ty, pos, af, gd⟩ :: rest) ρ H K := k
theorem WO.isLit {s : TypeId} {n : Nat} {ps : Array (Nat × Operand)} (k : WO X N B M U ops (⟨dst, .buildSlice s n ps, ty, pos, af, gd⟩ :: rest) ρ H K) : WO X N B M U ops (⟨dst, .buildSlice s n ps, ty, pos, af, gd⟩ :: rest) ρ H K := k
theorem WO.isAlloc {s : TypeId} (k : WO X N B M U ops (⟨dst, .alloc s, ty, pos, af, gd⟩ :: rest) ρ H K) : WO X N B M U ops (⟨dst, .alloc s, ty, pos, af, gd⟩ :: rest) ρ H K := k
theorem WO.isBox {s : TypeId} {x : Operand} (k : WO X N B M U ops (⟨dst, .box s x, ty, pos, af, gd⟩ :: rest) ρ H K) : WO X N B M U ops (⟨dst, .box s x, ty, pos, af, gd⟩ :: rest) ρ H K := k
theorem WO.isMF {fn : Fn} {a b : Array Operand} (k : WO X N B M U ops (⟨dst, .makeFunc fn a b, ty, pos, af, gd⟩ :: rest) ρ H K) : WO X N B M U ops (⟨dst, .makeFunc fn a b, ty, pos, af, gd⟩ :: rest) ρ H K := k
theorem WO.isBin {op : BinOp} {t tz : TypeId} {x y : Operand} (k : WO X N B M U ops (⟨dst, .binOp op t x y tz, ty, pos, af, gd⟩ :: rest) ρ H K) : WO X N B M U ops (⟨dst, .binOp op t x y tz, ty, pos, af, gd⟩ :: rest) ρ H K := k
theorem WO.isUn {op : UnOp} {t : TypeId} {x : Operand} (k : WO X N B M U ops (⟨dst, .unOp op t x, ty, pos, af, gd⟩ :: rest) ρ H K) : WO X N B M U ops (⟨dst, .unOp op t x, ty, pos, af, gd⟩ :: rest) ρ H K := k
theorem WO.isSlice {t : TypeId} {x : Operand} {lo hi mx : Option Operand} (k : WO X N B M U ops (⟨dst, .slice t x lo hi mx, ty, pos, af, gd⟩ :: rest) ρ H K) : WO X N B M U ops (⟨dst, .slice t x lo hi mx, ty, pos, af, gd⟩ :: rest) ρ H K := k
theorem WO.isCall {c : Call} (k : WO X N B M U ops (⟨dst, .call c, ty, pos, af, gd⟩ :: rest) ρ H K) : WO X N B M U ops (⟨dst, .call c, ty, pos, af, gd⟩ :: rest) ρ H K := k
theorem WO.isLook {t : TypeId} {x i : Operand} {ok : Bool} (k : WO X N B M U ops (⟨dst, .lookup t x i ok, ty, pos, af, gd⟩ :: rest) ρ H K) : WO X N B M U ops (⟨dst, .lookup t x i ok, ty, pos, af, gd⟩ :: rest) ρ H K := k
theorem WO.isMapU {t : TypeId} {m i x : Operand} (k : WO X N B M U ops (⟨dst, .mapUpdate t m i x, ty, pos, af, gd⟩ :: rest) ρ H K) : WO X N B M U ops (⟨dst, .mapUpdate t m i x, ty, pos, af, gd⟩ :: rest) ρ H K := k
theorem WO.isMakeMap {t : TypeId} {r : Option Operand} (k : WO X N B M U ops (⟨dst, .makeMap t r, ty, pos, af, gd⟩ :: rest) ρ H K) : WO X N B M U ops (⟨dst, .makeMap t r, ty, pos, af, gd⟩ :: rest) ρ H K := k
theorem WO.isG {o : Op} {g : Nat × Bool} (k : WO X N B M U ops (⟨dst, o, ty, pos, af, some g⟩ :: rest) ρ H K) : WO X N B M U ops (⟨dst, o, ty, pos, af, some g⟩ :: rest) ρ H K := k
end
end Go.Ideal

/- Stepping through code on the ideal machine: drawn regions in which nothing is written. -/
namespace Go.Ideal
open Go

def isStill (P : Program) (o : Oper) : Bool :=
  match clsOf P o with
  | .still => true
  | _ => false
theorem isStill_eq {P : Program} {o : Oper} (h : isStill P o = true) : clsOf P o = .still := by
  unfold isStill at h
  split at h
  · assumption
  · cases h

/-- The look of 'statFrom', at places and operations alone. -/
def statJ (P : Program) (ops : Array Oper) (A : Tr Nat) : List (Nat × Oper) → List (Nat × Oper) → Bool
  | _, [] => true
  | seen, y :: rest => Nat.beq ((A.get y.1).getD 0) (maskOf A y.2) && (y.2.after.toList.all fun e => !Region.binds .any e || seen.any fun x => Nat.beq x.1 e.on) &&
      (seen.all fun x => !Nat.beq x.1 y.1 && !sameDst x.2 y.2 && (anc A x.1 y.1 || (!clash ops x.2 y.2 && !isBig P x.2))) && statJ P ops A (y :: seen) rest
def pjo (r : DRec) : Nat × Oper := (r.j, r.o)
theorem statFrom_J {P : Program} {ops : Array Oper} {A : Tr Nat} : ∀ (l seen : List DRec), statFrom P ops A seen l = statJ P ops A (seen.map pjo) (l.map pjo)
  | [], _ => rfl
  | y :: rest, seen => by
    simp only [statFrom, statJ, List.map_cons]
    rw [statFrom_J rest (y :: seen)]
    simp only [List.map_cons, List.any_map, List.all_map]
    rfl

def opsAt (ops : Array Oper) : List Nat → List Oper
  | [] => []
  | j :: r => match ops[j]? with
    | some o => o :: opsAt ops r
    | none => opsAt ops r

def drawOK (P : Program) (ops : Array Oper) (ord : List Nat) : Bool :=
  P.follows .mixedOrders && ((sched P ops ops.size 0 (List.range ops.size)) == ord) && (List.range ops.size).all (fun i => ord.any (Nat.beq i)) && ord.all (fun j => Nat.blt j ops.size) &&
    (opsAt ops ord).all (isStill P) && statJ P ops (ancs ops ord .nil) [] (ord.zip (opsAt ops ord))

theorem opsAt_cons {ops : Array Oper} {j : Nat} {r : List Nat} (h : j < ops.size) : opsAt ops (j :: r) = ops[j] :: opsAt ops r := by
  simp only [opsAt, Array.getElem?_eq_getElem h]

theorem drawRun_still {P : Program} {G N : Nat} {call : CallF} {ops : Array Oper} : ∀ (ord : List Nat) (t t' : Tr Value) (H H' : Heap), ord.all (fun j => Nat.blt j ops.size) = true → (opsAt ops ord).all (isStill P) = true →
    evalOps P G N call ops (opsAt ops ord) t H = some (t', H') → ∃ recs, drawRun P G N call ops ord t H = some (recs, t', H') ∧ recs.map pjo = ord.zip (opsAt ops ord) ∧ (∀ r ∈ recs, clsOf P r.o = .still) := by
  intro ord
  induction ord with
  | nil =>
    intro t t' H H' _ _ h
    cases h
    exact ⟨[], rfl, rfl, fun r hr => by cases hr⟩
  | cons j rest ih =>
    intro t t' H H' hj hs h
    simp only [List.all_cons, Bool.and_eq_true] at hj
    have hlt : j < ops.size := by simpa [Nat.blt_eq] using hj.1
    rw [opsAt_cons hlt] at h hs
    simp only [List.all_cons, Bool.and_eq_true] at hs
    have hst := isStill_eq hs.1
    obtain ⟨b, hb, h⟩ := bind_some h
    have hops : ops[j]? = some ops[j] := Array.getElem?_eq_getElem hlt
    cases b with
    | true =>
      rw [cond_true] at h
      obtain ⟨⟨r, H1⟩, hr, h⟩ := bind_some h
      obtain ⟨t1, ht, h⟩ := bind_some h
      have e := still_step hst hr
      simp only at e h ht
      obtain ⟨recs, g1, g2, g3⟩ := ih t1 t' H1 H' hj.2 hs.2 h
      refine ⟨⟨j, ops[j], t, H, true⟩ :: recs, ?_, ?_, ?_⟩
      · show (ops[j]?).bind _ = _
        rw [hops]
        simp only [Option.bind_some, hb, cond_true, hr, ht, Option.map_some]
        subst e
        simp only [Nat.ble_eq_true_of_le (Nat.le_refl H1.n), chk, cond_true, g1, Option.map_some]
      · rw [opsAt_cons hlt, List.map_cons, g2]; rfl
      · intro r hr
        rcases List.mem_cons.1 hr with rfl | hr
        · exact hst
        · exact g3 r hr
    | false =>
      rw [cond_false] at h
      obtain ⟨t1, ht, h⟩ := bind_some h
      obtain ⟨recs, g1, g2, g3⟩ := ih t1 t' H H' hj.2 hs.2 h
      refine ⟨⟨j, ops[j], t, H, false⟩ :: recs, ?_, ?_, ?_⟩
      · show (ops[j]?).bind _ = _
        rw [hops]
        simp only [Option.bind_some, hb, cond_false, ht, Option.map_some, Nat.ble_eq_true_of_le (Nat.le_refl H.n), chk, cond_true, g1]
      · rw [opsAt_cons hlt, List.map_cons, g2]; rfl
      · intro r hr
        rcases List.mem_cons.1 hr with rfl | hr
        · exact hst
        · exact g3 r hr

theorem scan_still {P : Program} {A : Tr Nat} {fd : Bool} {j : Nat} {test : Heap → Bool} {Hf : Heap} : ∀ (l : List DRec), (∀ r ∈ l, clsOf P r.o = .still) → scan P A fd j test Hf l false = true
  | [], _ => rfl
  | s :: rest, h => by
    simp only [scan, h s List.mem_cons_self]
    exact scan_still rest (fun r hr => h r (List.mem_cons_of_mem _ hr))
theorem dyn_still {P : Program} {G : Nat} {call : CallF} {A : Tr Nat} {Hf : Heap} : ∀ (l : List DRec), (∀ r ∈ l, clsOf P r.o = .still) → dynFrom P G call A Hf l = true
  | [], _ => rfl
  | s :: rest, h => by
    simp only [dynFrom, h s List.mem_cons_self, scan_still rest (fun r hr => h r (List.mem_cons_of_mem _ hr)), dyn_still rest (fun r hr => h r (List.mem_cons_of_mem _ hr)), Bool.and_true]
    cases s.wd <;> rfl

theorem WC.draw {X : Mach} {N : Nat} {B : Heap} {M : List Nat} {ρ : Regs} {H : List Ent} {Q : IExit → Regs → List Ent → Prop} {id : Nat} {ops : Array Oper} (ord : List Nat) (hd : drawOK X.P ops ord = true) (h : WO X N B M [] ops (opsAt ops ord) ρ H fun _ => Q .normal) : WC X N B M (.region id ops true) ρ H Q := .mk fun t h0 hk hh hb => by
  obtain ⟨n0, t', h', ρ', H', gs, h1, h2, h4, h5, h3⟩ := h.go t h0 hk hh hb
  simp only [drawOK, Bool.and_eq_true] at hd
  obtain ⟨⟨⟨⟨⟨d1, d2⟩, d3⟩, d4⟩, d5⟩, d6⟩ := hd
  have d2 : sched X.P ops ops.size 0 (List.range ops.size) = ord := by simpa using d2
  refine ⟨n0 + 1, .normal, t', h', ρ', H', fun m n hm hn => ?_, h2, h4, h5, h3⟩
  obtain ⟨k, rfl⟩ : ∃ k, n = k + 1 := ⟨n - 1, by omega⟩
  show (evalDraw X.P X.G N (X.run m) ops t h0).map _ = _
  obtain ⟨recs, g1, g2, g3⟩ := drawRun_still ord t t' h0 h' d4 d5 (thru_eval (h1 m (by omega)))
  have : evalDraw X.P X.G N (X.run m) ops t h0 = some (t', h') := by
    unfold evalDraw
    simp only [d2, d1, d3, Bool.and_self, chk, cond_true, g1, Option.bind_some]
    rw [statFrom_J, g2, dyn_still recs g3, List.map_nil, d6]
    rfl
  rw [this]
  rfl

theorem WO.indexAddrH {X : Mach} {N : Nat} {B : Heap} {M : List Nat} {U : Hist} {ops : Array Oper} {rest : List Oper} {ρ : Regs} {H : List Ent} {K : Hist → Regs → List Ent → Prop} {dst : Option Tmp} {ty : TypeId} {pos : String} {af : Array Edge} {gd : Option (Nat × Bool)} {v : Value}
    {x i : Operand} {s : TypeId} {p q : Value} (hw : iwR ops gd ρ = some true) (hx : evR ρ x = some p) (hi : evR ρ i = some q) (hl : Has B M H fun _ => iIndexAddr X.P s p q = some v) (hd : dOK N dst = true) (k : WO X N B M (none :: U) ops rest (putR dst v ρ) H K) : WO X N B M U ops (⟨dst, .indexAddr s x i, ty, pos, af, gd⟩ :: rest) ρ H K :=
  WO.pure hw (fun t' h0 hk hh hb call => by show (iIndexAddr X.P s (ev X.G t' x) (ev X.G t' i)).map (·, h0) = _; rw [evR_ev hx hk, evR_ev hi hk, hl h0 hh hb]; rfl) hd k

theorem WO.len {X : Mach} {N : Nat} {B : Heap} {M : List Nat} {U : Hist} {ops : Array Oper} {rest : List Oper} {ρ : Regs} {H : List Ent} {K : Hist → Regs → List Ent → Prop} {dst : Option Tmp} {ty : TypeId} {pos : String} {af : Array Edge} {gd : Option (Nat × Bool)} {v : Value}
    {args : Array Operand} {ts : Array TypeId} {l : List Value} (hw : iwR ops gd ρ = some true) (hx : evL ρ args.toList = some l) (hl : Has B M H fun h => iBuiltin2 X.P .len ts ty l h = some (v, h)) (hd : dOK N dst = true) (k : WO X N B M (none :: U) ops rest (putR dst v ρ) H K) :
    WO X N B M U ops (⟨dst, .call { callee := .builtin .len, args := args, argTypes := ts }, ty, pos, af, gd⟩ :: rest) ρ H K := WO.builtin hw hx hl hd k
end Go.Ideal

/- The ideal machine's memory never loses count: each operation, each body, each call. -/
namespace Go.Ideal
open Go

theorem n_push (H : Heap) (o : IObj) : H.n ≤ (H.push o).n := Nat.le_succ _
theorem n_put (H : Heap) (i : Nat) (o : IObj) : H.n ≤ (H.put i o).n := Nat.le_refl _

theorem iBox_n {t : TypeId} {x : Value} {H H' : Heap} {r : Value} (h : iBox t x H = some (r, H')) : H.n ≤ H'.n := by
  unfold iBox at h
  split at h <;> cases h
  exact n_push ..
theorem iAlloc_n {P : Program} {t : TypeId} {H H' : Heap} {r : Value} (h : iAlloc P t H = some (r, H')) : H.n ≤ H'.n := by
  obtain ⟨z, _, h⟩ := bind_some h
  exact iBox_n h
theorem iStore_n {P : Program} {t : TypeId} {v x : Value} {H H' : Heap} (h : iStore P t v x H = some H') : H.n ≤ H'.n := by
  obtain ⟨_, _, h⟩ := bind_some h
  obtain ⟨_, _, h⟩ := bind_some h
  obtain ⟨_, _, h⟩ := bind_some h
  obtain ⟨_, h⟩ := chk_some h
  cases h
  exact n_put ..
theorem iBuildSlice_n {P : Program} {t : TypeId} {n : Nat} {ps : List (Nat × Value)} {H H' : Heap} {r : Value} (h : iBuildSlice P t n ps H = some (r, H')) : H.n ≤ H'.n := by
  obtain ⟨_, _, h⟩ := bind_some h
  split at h
  · obtain ⟨_, _, h⟩ := bind_some h
    obtain ⟨_, _, h⟩ := bind_some h
    obtain ⟨_, h⟩ := chk_some h
    obtain ⟨_, _, e⟩ := map_some h
    cases e
    exact n_push ..
  · cases h
theorem iConvert_n {P : Program} {s d : TypeId} {x : Value} {H H' : Heap} {r : Value} (h : iConvert P s d x H = some (r, H')) : H.n ≤ H'.n := by
  obtain ⟨_, _, h⟩ := bind_some h
  obtain ⟨_, _, h⟩ := bind_some h
  split at h
  · split at h
    · obtain ⟨_, _, h⟩ := bind_some h
      obtain ⟨_, h⟩ := chk_some h
      cases h
      exact n_push ..
    · cases h
  · split at h
    · split at h
      · rcases bif_some h with ⟨_, h⟩ | ⟨_, h⟩
        · cases h; exact Nat.le_refl _
        · obtain ⟨_, _, h⟩ := bind_some h
          obtain ⟨_, h⟩ := chk_some h
          obtain ⟨_, _, e⟩ := map_some h
          cases e; exact Nat.le_refl _
      · cases h
    · cases h
  · rcases bif_some h with ⟨_, h⟩ | ⟨_, h⟩
    · obtain ⟨_, _, h⟩ := bind_some h
      obtain ⟨_, h⟩ := chk_some h
      cases h; exact Nat.le_refl _
    · cases h
theorem iMake_n {P : Program} {t : TypeId} {l c : Value} {H H' : Heap} {r : Value} (h : iMake P t l c H = some (r, H')) : H.n ≤ H'.n := by
  obtain ⟨_, _, h⟩ := bind_some h
  split at h
  · obtain ⟨_, _, h⟩ := bind_some h
    obtain ⟨_, _, h⟩ := bind_some h
    obtain ⟨_, _, h⟩ := bind_some h
    obtain ⟨_, _, h⟩ := bind_some h
    obtain ⟨_, h⟩ := chk_some h
    cases h; exact n_push ..
  · cases h
theorem iRange_n {P : Program} {t : TypeId} {x : Value} {H H' : Heap} {r : Value} (h : iRange P t x H = some (r, H')) : H.n ≤ H'.n := by
  unfold iRange at h
  split at h <;> cases h
  exact n_push ..
theorem iNext_n {x : Value} {b : Bool} {H H' : Heap} {r : Value} (h : iNext x b H = some (r, H')) : H.n ≤ H'.n := by
  obtain ⟨_, h⟩ := chk_some h
  split at h
  · split at h
    · rcases bif_some h with ⟨_, h⟩ | ⟨_, h⟩
      · cases h; exact n_put ..
      · cases h; exact Nat.le_refl _
    · cases h
  · cases h
theorem iAppend_n {P : Program} {t u : TypeId} {s x : Value} {H H' : Heap} {r : Value} (h : iAppend P t u s x H = some (r, H')) : H.n ≤ H'.n := by
  obtain ⟨_, _, h⟩ := bind_some h
  obtain ⟨_, _, h⟩ := bind_some h
  split at h
  · obtain ⟨_, _, h⟩ := bind_some h
    obtain ⟨_, _, h⟩ := bind_some h
    obtain ⟨_, h⟩ := chk_some h
    obtain ⟨_, _, h⟩ := bind_some h
    split at h
    · rcases bif_some h with ⟨_, h⟩ | ⟨_, h⟩
      · cases h; exact Nat.le_refl _
      · obtain ⟨_, h⟩ := chk_some h
        cases h; exact n_push ..
    · rcases bif_some h with ⟨_, h⟩ | ⟨_, h⟩
      · obtain ⟨_, h⟩ := chk_some h
        cases h; exact Nat.le_refl _
      · obtain ⟨_, _, h⟩ := bind_some h
        rcases bif_some h with ⟨_, h⟩ | ⟨_, h⟩
        · obtain ⟨_, h⟩ := chk_some h
          cases h; exact n_put ..
        · obtain ⟨_, h⟩ := chk_some h
          split at h
          · cases h; exact n_push ..
          · obtain ⟨_, h⟩ := chk_some h
            cases h
            exact Nat.le_succ _
          · cases h
    · cases h
  · cases h
theorem iCopy_n {P : Program} {t : TypeId} {d x : Value} {H H' : Heap} {r : Value} (h : iCopy P t d x H = some (r, H')) : H.n ≤ H'.n := by
  obtain ⟨_, _, h⟩ := bind_some h
  split at h
  · obtain ⟨_, _, h⟩ := bind_some h
    obtain ⟨_, _, h⟩ := bind_some h
    split at h
    · cases h; exact Nat.le_refl _
    · rcases bif_some h with ⟨_, h⟩ | ⟨_, h⟩
      · cases h; exact Nat.le_refl _
      · obtain ⟨_, _, h⟩ := bind_some h
        obtain ⟨_, h⟩ := chk_some h
        cases h; exact n_put ..
    · cases h
  · cases h
theorem iClear_n {P : Program} {t : TypeId} {x : Value} {H H' : Heap} {r : Value} (h : iClear P t x H = some (r, H')) : H.n ≤ H'.n := by
  obtain ⟨_, _, h⟩ := bind_some h
  split at h
  · obtain ⟨_, _, h⟩ := bind_some h
    obtain ⟨_, _, h⟩ := bind_some h
    obtain ⟨_, h⟩ := chk_some h
    split at h
    · cases h; exact Nat.le_refl _
    · rcases bif_some h with ⟨_, h⟩ | ⟨_, h⟩
      · cases h; exact Nat.le_refl _
      · obtain ⟨_, _, h⟩ := bind_some h
        obtain ⟨_, h⟩ := chk_some h
        cases h; exact n_put ..
    · cases h
  · cases h
theorem iMakeMap_n {P : Program} {t : TypeId} {x : Option Value} {H H' : Heap} {r : Value} (h : iMakeMap P t x H = some (r, H')) : H.n ≤ H'.n := by
  unfold iMakeMap at h
  split at h
  · cases h; exact n_push ..
  · obtain ⟨_, _, h⟩ := bind_some h
    split at h
    · obtain ⟨_, _, h⟩ := bind_some h
      cases h; exact n_push ..
    · cases h
theorem iUpdate_n {P : Program} {t : TypeId} {m k v : Value} {H H' : Heap} (h : iUpdate P t m k v H = some H') : H.n ≤ H'.n := by
  obtain ⟨_, _, h⟩ := bind_some h
  split at h
  · obtain ⟨_, _, h⟩ := bind_some h
    obtain ⟨_, h⟩ := chk_some h
    split at h
    · split at h
      · obtain ⟨_, _, h⟩ := bind_some h
        split at h <;> (cases h; exact n_put ..)
      · cases h
    · cases h
  · cases h
theorem iDelete_n {P : Program} {t : TypeId} {m k : Value} {H H' : Heap} {r : Value} (h : iDelete P t m k H = some (r, H')) : H.n ≤ H'.n := by
  obtain ⟨_, _, h⟩ := bind_some h
  split at h
  · obtain ⟨_, _, h⟩ := bind_some h
    obtain ⟨_, h⟩ := chk_some h
    split at h
    · split at h
      · obtain ⟨_, _, h⟩ := bind_some h
        split at h <;> (cases h; exact n_put ..)
      · cases h
    · cases h
  · cases h
theorem iBuiltin_n {P : Program} {b : Builtin} {ts : Array TypeId} {ty : TypeId} {args : List Value} {H H' : Heap} {r : Value} (h : iBuiltin2 P b ts ty args H = some (r, H')) : H.n ≤ H'.n := by
  unfold iBuiltin2 at h
  split at h
  · obtain ⟨_, _, h⟩ := bind_some h
    exact iDelete_n h
  · obtain ⟨_, _, h⟩ := bind_some h
    obtain ⟨_, _, e⟩ := map_some h
    cases e; exact Nat.le_refl _
  · unfold iBuiltin at h
    split at h
    · split at h
      · exact iAppend_n h
      · cases h
    · obtain ⟨_, _, h⟩ := bind_some h
      exact iCopy_n h
    · obtain ⟨_, _, h⟩ := bind_some h
      exact iClear_n h
    · obtain ⟨_, _, h⟩ := bind_some h
      obtain ⟨_, _, e⟩ := map_some h
      cases e; exact Nat.le_refl _
    · obtain ⟨_, _, h⟩ := bind_some h
      split at h
      · cases h; exact Nat.le_refl _
      · cases h
    · obtain ⟨_, h⟩ := chk_some h
      obtain ⟨_, _, h⟩ := bind_some h
      obtain ⟨_, h⟩ := chk_some h
      cases h; exact Nat.le_refl _
    · obtain ⟨_, h⟩ := chk_some h
      obtain ⟨_, _, h⟩ := bind_some h
      obtain ⟨_, h⟩ := chk_some h
      cases h; exact Nat.le_refl _
    · cases h

theorem iop_n {P : Program} {o : Oper} {ρ : Operand → Value} {H H' : Heap} {r : Value} (h : iop P o ρ H = some (r, H')) : H.n ≤ H'.n := by
  have same : ∀ {x : Option Value}, x.map (·, H) = some (r, H') → H.n ≤ H'.n := fun h => by
    obtain ⟨_, _, e⟩ := map_some h
    cases e; exact Nat.le_refl _
  unfold iop at h
  split at h
  · cases h; exact Nat.le_refl _
  · cases h; exact Nat.le_refl _
  · split at h
    · cases h; exact Nat.le_refl _
    · cases h
  · exact iAlloc_n h
  · exact iBox_n h
  · exact same h
  · exact iBuildSlice_n h
  · exact same h
  · obtain ⟨_, hs, e⟩ := map_some h
    cases e
    exact iStore_n hs
  · exact same h
  · obtain ⟨_, _, h⟩ := bind_some h
    obtain ⟨_, h⟩ := chk_some h
    cases h; exact Nat.le_refl _
  · obtain ⟨_, h⟩ := chk_some h
    obtain ⟨_, _, h⟩ := bind_some h
    obtain ⟨_, h⟩ := chk_some h
    cases h; exact Nat.le_refl _
  · exact iConvert_n h
  · obtain ⟨_, _, h⟩ := bind_some h
    obtain ⟨_, h⟩ := chk_some h
    cases h; exact Nat.le_refl _
  · cases h; exact Nat.le_refl _
  · exact iMake_n h
  · rcases bif_some h with ⟨_, h⟩ | ⟨_, h⟩
    · obtain ⟨_, _, h⟩ := bind_some h
      obtain ⟨_, h⟩ := chk_some h
      cases h; exact Nat.le_refl _
    · exact same h
  · exact same h
  · exact same h
  · exact same h
  · rcases bif_some h with ⟨_, h⟩ | ⟨_, h⟩
    · obtain ⟨_, _, h⟩ := bind_some h
      obtain ⟨_, h⟩ := chk_some h
      cases h; exact Nat.le_refl _
    · exact same h
  · exact same h
  · exact iRange_n h
  · exact iNext_n h
  · exact same h
  · exact iBuiltin_n h
  · exact iMakeMap_n h
  · rcases bif_some h with ⟨_, h⟩ | ⟨_, h⟩
    · exact same h
    · cases h
  · obtain ⟨_, hs, e⟩ := map_some h
    cases e
    exact iUpdate_n hs
  · cases h

def CallN (call : CallF) : Prop := ∀ g args H v H', call g args H = some (v, H') → H.n ≤ H'.n
theorem stepOp_n {P : Program} {G : Nat} {call : CallF} (hc : CallN call) {o : Oper} {t : Tr Value} {H H' : Heap} {r : Value} (h : stepOp P G call o t H = some (r, H')) : H.n ≤ H'.n := by
  unfold stepOp at h
  split at h
  · split at h
    · exact hc _ _ _ _ _ h
    · cases h
  · split at h
    · obtain ⟨_, _, h⟩ := bind_some h
      exact hc _ _ _ _ _ h
    · cases h
  · exact iop_n h
theorem evalOps_n {P : Program} {G N : Nat} {call : CallF} (hc : CallN call) {ops : Array Oper} : ∀ (l : List Oper) {t t' : Tr Value} {H H' : Heap}, evalOps P G N call ops l t H = some (t', H') → H.n ≤ H'.n := by
  intro l
  induction l with
  | nil => intro t t' H H' h; cases h; exact Nat.le_refl _
  | cons o rest ih =>
    intro t t' H H' h
    obtain ⟨b, _, h⟩ := bind_some h
    rcases bif_some h with ⟨_, h⟩ | ⟨_, h⟩
    · obtain ⟨q, hq, h⟩ := bind_some h
      obtain ⟨_, _, h⟩ := bind_some h
      exact Nat.le_trans (stepOp_n hc (H' := q.2) (r := q.1) hq) (ih h)
    · obtain ⟨_, _, h⟩ := bind_some h
      exact ih h
theorem drawRun_n {P : Program} {G N : Nat} {call : CallF} {ops : Array Oper} : ∀ (ord : List Nat) {t : Tr Value} {H : Heap} {z : List DRec × Tr Value × Heap}, drawRun P G N call ops ord t H = some z → H.n ≤ z.2.2.n := by
  intro ord
  induction ord with
  | nil => intro t H z h; cases h; exact Nat.le_refl _
  | cons j rest ih =>
    intro t H z h
    obtain ⟨_, _, h⟩ := bind_some h
    obtain ⟨_, _, h⟩ := bind_some h
    obtain ⟨_, _, h⟩ := bind_some h
    obtain ⟨hn, h⟩ := chk_some h
    obtain ⟨z1, hz, e⟩ := map_some h
    have := ih hz
    rw [← e]
    exact Nat.le_trans (Nat.le_of_ble_eq_true hn) this
theorem evalDraw_n {P : Program} {G N : Nat} {call : CallF} {ops : Array Oper} {t t' : Tr Value} {H H' : Heap} (h : evalDraw P G N call ops t H = some (t', H')) : H.n ≤ H'.n := by
  unfold evalDraw at h
  obtain ⟨_, h⟩ := chk_some h
  obtain ⟨z, hz, h⟩ := bind_some h
  obtain ⟨_, h⟩ := chk_some h
  have := drawRun_n _ hz
  have e : z.2 = (t', H') := Option.some.inj h
  rw [e] at this
  exact this
theorem evalCode_n {P : Program} {G N : Nat} {call : CallF} (hc : CallN call) (n : Nat) : ∀ (c : Code) {t t' : Tr Value} {H H' : Heap} {e : IExit}, evalCode P G N call n c t H = some (e, t', H') → H.n ≤ H'.n := by
  induction n with
  | zero => intro c t t' H H' e h; cases h
  | succ n ih =>
    intro c t t' H H' e h
    have h : evalStep P G N call (evalCode P G N call n) c t H = some (e, t', H') := h
    unfold evalStep at h
    split at h
    · cases h; exact Nat.le_refl _
    · cases h; exact Nat.le_refl _
    · rcases bif_some h with ⟨_, h⟩ | ⟨_, h⟩
      · obtain ⟨⟨t1, H1⟩, hq, e⟩ := map_some h
        cases e
        exact evalDraw_n hq
      · obtain ⟨⟨t1, H1⟩, hq, e⟩ := map_some h
        cases e
        exact evalOps_n hc _ hq
    · obtain ⟨⟨e1, t1, H1⟩, h1, h⟩ := bind_some h
      have := ih _ h1
      split at h
      · rename_i heq; cases heq; exact Nat.le_trans this (ih _ h)
      · cases h; exact this
    · split at h
      · exact ih _ h
      · cases h
    · obtain ⟨⟨e1, t1, H1⟩, h1, h⟩ := bind_some h
      have := ih _ h1
      split at h
      · rename_i i t2 H2 heq
        cases heq
        cases hb : Nat.beq i _ with
        | true => rw [hb] at h; cases h; exact this
        | false => rw [hb] at h; cases h; exact this
      · cases h; exact this
    · obtain ⟨⟨e1, t1, H1⟩, h1, h⟩ := bind_some h
      have := ih _ h1
      split at h
      · rename_i heq; cases heq; exact Nat.le_trans this (ih _ h)
      · cases h; exact this
    · cases h; exact Nat.le_refl _
    · cases h; exact Nat.le_refl _
    · exact ih _ h
    · cases h
theorem run_n {P : Program} {G : Nat} {F : Tr Func} {I : FuncId → Option (List Value → Heap → Option (Value × Heap))} (hI : ∀ g sem, I g = some sem → ∀ args H v H', sem args H = some (v, H') → H.n ≤ H'.n) (n : Nat) : CallN (run P G F I n) := by
  induction n with
  | zero => intro g args H v H' h; cases h
  | succ n ih =>
    intro g args H v H' h
    have h : runStep P G F I n (run P G F I n) g args H = some (v, H') := h
    unfold runStep at h
    split at h
    · rename_i sem hs
      exact hI g sem hs args H v H' h
    · obtain ⟨fn, _, h⟩ := bind_some h
      obtain ⟨c, _, h⟩ := bind_some h
      obtain ⟨_, h⟩ := chk_some h
      obtain ⟨⟨e, t1, H1⟩, h1, h⟩ := bind_some h
      have := evalCode_n ih n c h1
      split at h
      · rename_i heq; cases heq
        obtain ⟨_, _, e⟩ := map_some h
        cases e; exact this
      · rename_i heq; cases heq
        obtain ⟨_, _, e⟩ := map_some h
        cases e; exact this
      · cases h
end Go.Ideal

/- Stepping through code on the ideal machine: drawn regions with calls, where all that is ahead of a call stands ahead of it. -/
namespace Go.Ideal
open Go

/-- Is the first call behind it a call that it stands ahead of? -/
def okNext (P : Program) (A : Tr Nat) (j : Nat) : List (Nat × Oper) → Bool
  | [] => true
  | (i, s) :: r => match clsOf P s with
    | .big => anc A j i
    | .still => okNext P A j r
    | .fresh => false
def calmFrom (P : Program) (A : Tr Nat) : List (Nat × Oper) → Bool
  | [] => true
  | (j, o) :: r => (match clsOf P o with
    | .big => true
    | .still => okNext P A j r
    | .fresh => false) && calmFrom P A r

def drawOKB (P : Program) (ops : Array Oper) (ord : List Nat) : Bool :=
  P.follows .mixedOrders && ((sched P ops ops.size 0 (List.range ops.size)) == ord) && (List.range ops.size).all (fun i => ord.any (Nat.beq i)) && ord.all (fun j => Nat.blt j ops.size) &&
    calmFrom P (ancs ops ord .nil) (ord.zip (opsAt ops ord)) && statJ P ops (ancs ops ord .nil) [] (ord.zip (opsAt ops ord))

theorem drawRun_any {P : Program} {G N : Nat} {call : CallF} (hc : CallN call) {ops : Array Oper} : ∀ (ord : List Nat) (t t' : Tr Value) (H H' : Heap), ord.all (fun j => Nat.blt j ops.size) = true →
    evalOps P G N call ops (opsAt ops ord) t H = some (t', H') → ∃ recs, drawRun P G N call ops ord t H = some (recs, t', H') ∧ recs.map pjo = ord.zip (opsAt ops ord) := by
  intro ord
  induction ord with
  | nil =>
    intro t t' H H' _ h
    cases h
    exact ⟨[], rfl, rfl⟩
  | cons j rest ih =>
    intro t t' H H' hj h
    simp only [List.all_cons, Bool.and_eq_true] at hj
    have hlt : j < ops.size := by simpa [Nat.blt_eq] using hj.1
    rw [opsAt_cons hlt] at h
    obtain ⟨b, hb, h⟩ := bind_some h
    have hops : ops[j]? = some ops[j] := Array.getElem?_eq_getElem hlt
    cases b with
    | true =>
      rw [cond_true] at h
      obtain ⟨⟨r, H1⟩, hr, h⟩ := bind_some h
      obtain ⟨t1, ht, h⟩ := bind_some h
      have e := stepOp_n hc hr
      simp only at h ht
      obtain ⟨recs, g1, g2⟩ := ih t1 t' H1 H' hj.2 h
      refine ⟨⟨j, ops[j], t, H, true⟩ :: recs, ?_, ?_⟩
      · show (ops[j]?).bind _ = _
        rw [hops]
        simp only [Option.bind_some, hb, cond_true, hr, ht, Option.map_some, Nat.ble_eq_true_of_le e, chk, g1]
      · rw [opsAt_cons hlt, List.map_cons, g2]; rfl
    | false =>
      rw [cond_false] at h
      obtain ⟨t1, ht, h⟩ := bind_some h
      obtain ⟨recs, g1, g2⟩ := ih t1 t' H H' hj.2 h
      refine ⟨⟨j, ops[j], t, H, false⟩ :: recs, ?_, ?_⟩
      · show (ops[j]?).bind _ = _
        rw [hops]
        simp only [Option.bind_some, hb, cond_false, ht, Option.map_some, Nat.ble_eq_true_of_le (Nat.le_refl H.n), chk, cond_true, g1]
      · rw [opsAt_cons hlt, List.map_cons, g2]; rfl

theorem scan_next {P : Program} {A : Tr Nat} {fd : Bool} {j : Nat} {test : Heap → Bool} {Hf : Heap} : ∀ (l : List DRec), okNext P A j (l.map pjo) = true → scan P A fd j test Hf l false = true
  | [], _ => rfl
  | s :: rest, h => by
    simp only [List.map_cons, okNext, pjo] at h
    unfold scan
    cases hcl : clsOf P s.o with
    | big => rw [hcl] at h; simp [h]
    | still => rw [hcl] at h; exact scan_next rest h
    | fresh => rw [hcl] at h; cases h
theorem dyn_calm {P : Program} {G : Nat} {call : CallF} {A : Tr Nat} {Hf : Heap} : ∀ (l : List DRec), calmFrom P A (l.map pjo) = true → dynFrom P G call A Hf l = true
  | [], _ => rfl
  | s :: rest, h => by
    simp only [List.map_cons, calmFrom, pjo, Bool.and_eq_true] at h
    unfold dynFrom
    rw [dyn_calm rest h.2, Bool.and_true]
    cases s.wd with
    | false => rfl
    | true =>
      rw [cond_true]
      cases hcl : clsOf P s.o with
      | big => rfl
      | still => have h1 := h.1; rw [hcl] at h1; exact scan_next rest h1
      | fresh => have h1 := h.1; rw [hcl] at h1; cases h1

theorem WC.drawB {X : Mach} {N : Nat} {B : Heap} {M : List Nat} {ρ : Regs} {H : List Ent} {Q : IExit → Regs → List Ent → Prop} {id : Nat} {ops : Array Oper} (hN : ∀ m, CallN (X.run m)) (ord : List Nat) (hd : drawOKB X.P ops ord = true) (h : WO X N B M [] ops (opsAt ops ord) ρ H fun _ => Q .normal) : WC X N B M (.region id ops true) ρ H Q := .mk fun t h0 hk hh hb => by
  obtain ⟨n0, t', h', ρ', H', gs, h1, h2, h4, h5, h3⟩ := h.go t h0 hk hh hb
  simp only [drawOKB, Bool.and_eq_true] at hd
  obtain ⟨⟨⟨⟨⟨d1, d2⟩, d3⟩, d4⟩, d5⟩, d6⟩ := hd
  have d2 : sched X.P ops ops.size 0 (List.range ops.size) = ord := by simpa using d2
  refine ⟨n0 + 1, .normal, t', h', ρ', H', fun m n hm hn => ?_, h2, h4, h5, h3⟩
  obtain ⟨k, rfl⟩ : ∃ k, n = k + 1 := ⟨n - 1, by omega⟩
  show (evalDraw X.P X.G N (X.run m) ops t h0).map _ = _
  obtain ⟨recs, g1, g2⟩ := drawRun_any (hN m) ord t t' h0 h' d4 (thru_eval (h1 m (by omega)))
  have : evalDraw X.P X.G N (X.run m) ops t h0 = some (t', h') := by
    unfold evalDraw
    simp only [d2, d1, d3, Bool.and_self, chk, cond_true, g1, Option.bind_some]
    rw [statFrom_J, g2, dyn_calm recs (by rw [g2]; exact d5), List.map_nil, d6]
    rfl
  rw [this]
  rfl
end Go.Ideal

/- Stepping through code on the ideal machine: drawn regions where memory is read, or made, beside calls: what is read stays as it is. -/
namespace Go.Ideal
open Go

/-- Is the first call behind it (whatever new blocks are made ahead of it) a call that it stands ahead of? -/
def okNextF (P : Program) (A : Tr Nat) (j : Nat) : List (Nat × Oper) → Bool
  | [] => true
  | (i, s) :: r => match clsOf P s with
    | .big => anc A j i
    | _ => okNextF P A j r
def noWrite (ops : Array Oper) (o : Oper) (l : List (Nat × Oper)) : Bool := l.all fun y => match y.2.dst with
  | some d => !(lk ops o).any (Nat.beq d)
  | none => true
def keepDst (o : Oper) (l : List (Nat × Oper)) : Bool := l.all fun y => !sameDst o y.2
/-- The places of the calls behind it, up to the first one that it stands ahead of; and is there none such? -/
def spots (P : Program) (A : Tr Nat) (j : Nat) : Nat → List (Nat × Oper) → List Nat × Bool
  | _, [] => ([], true)
  | p, (i, s) :: r => match clsOf P s with
    | .big => bif anc A j i then ([p], false) else ((p :: (spots P A j (p + 1) r).1), (spots P A j (p + 1) r).2)
    | _ => spots P A j (p + 1) r
abbrev Plan := Oper × List Nat × Bool
def freeS (P : Program) (A : Tr Nat) (j : Nat) (o : Oper) (r : List (Nat × Oper)) : Bool := quietOp o || okNext P A j r
/-- The operations whose answers must be shown to stay, and where: the readers, and the makers of blocks. -/
def plansS (P : Program) (A : Tr Nat) : Nat → List (Nat × Oper) → List Plan
  | _, [] => []
  | p, (j, o) :: r => match clsOf P o with
    | .still => bif freeS P A j o r then plansS P A (p + 1) r else (o, spots P A j (p + 1) r) :: plansS P A (p + 1) r
    | _ => plansS P A (p + 1) r
def plansF (P : Program) (A : Tr Nat) : Nat → List (Nat × Oper) → List Plan
  | _, [] => []
  | p, (j, o) :: r => match clsOf P o with
    | .fresh => bif okNextF P A j r then plansF P A (p + 1) r else (o, spots P A j (p + 1) r) :: plansF P A (p + 1) r
    | _ => plansF P A (p + 1) r
def calmU (P : Program) (A : Tr Nat) (ops : Array Oper) : List (Nat × Oper) → Bool
  | [] => true
  | (j, o) :: r => (match clsOf P o with
    | .big => true
    | .still => freeS P A j o r || (noWrite ops o ((j, o) :: r) && keepDst o r)
    | .fresh => okNextF P A j r || (noWrite ops o ((j, o) :: r) && keepDst o r)) && calmU P A ops r

theorem scan_fresh {P : Program} {A : Tr Nat} {j : Nat} {test : Heap → Bool} {Hf : Heap} : ∀ (l : List DRec), okNextF P A j (l.map pjo) = true → scan P A false j test Hf l false = true
  | [], _ => rfl
  | s :: rest, h => by
    simp only [List.map_cons, okNextF, pjo] at h
    unfold scan
    cases hcl : clsOf P s.o with
    | big => rw [hcl] at h; simp [h]
    | still => rw [hcl] at h; exact scan_fresh rest h
    | fresh => rw [hcl] at h; exact scan_fresh rest h
theorem veq_int (k : IntKind) (n : Int) : veq 3 (.int k n) (.int k n) = true := by
  show (decide (k = k) && decide (n = n)) = true
  simp
theorem veq_bool (b : Bool) : veq 3 (.bool b) (.bool b) = true := by
  show (b == b) = true
  simp
theorem scan_quiet {P : Program} {A : Tr Nat} {fd : Bool} {j : Nat} {test : Heap → Bool} {Hf : Heap} (ht : ∀ h, test h = true) : ∀ (l : List DRec) (d : Bool), scan P A fd j test Hf l d = true
  | [], d => by simp [scan, ht]
  | s :: rest, d => by
    unfold scan
    cases hcl : clsOf P s.o with
    | big => simp [ht, scan_quiet ht rest]
    | still => exact scan_quiet ht rest _
    | fresh => exact scan_quiet ht rest _
theorem scan_spots {P : Program} {A : Tr Nat} {fd : Bool} {j : Nat} {test : Heap → Bool} {Hf : Heap} {At : Nat → Heap → Prop} : ∀ (l : List DRec) (p : Nat) (d : Bool), (∀ (i : Nat) (r : DRec), l[i]? = some r → At (p + i) r.H) →
    (∀ q ∈ (spots P A j p (l.map pjo)).1, ∀ h, At q h → test h = true) → ((spots P A j p (l.map pjo)).2 = true → test Hf = true) → scan P A fd j test Hf l d = true
  | [], p, d, _, _, h2 => by simp [scan, h2 rfl]
  | s :: rest, p, d, hA, h1, h2 => by
    have hA' : ∀ i r, rest[i]? = some r → At (p + 1 + i) r.H := fun i r h => by
      have := hA (i + 1) r (by simpa using h)
      rwa [show p + (i + 1) = p + 1 + i from by omega] at this
    have ih := fun d => scan_spots (P := P) (A := A) (j := j) (fd := fd) (test := test) (Hf := Hf) rest (p + 1) d hA'
    simp only [List.map_cons, spots, pjo] at h1 h2
    unfold scan
    cases hcl : clsOf P s.o with
    | big =>
      simp only [hcl] at h1 h2
      have hs := hA 0 s rfl
      cases ha : anc A j s.j with
      | true =>
        rw [ha, cond_true] at h1
        simp [h1 p (by simp) s.H hs]
      | false =>
        rw [ha, cond_false] at h1 h2
        have := ih true (fun q hq => h1 q (List.mem_cons_of_mem _ hq)) h2
        simp [h1 p (by simp) s.H hs, this]
    | still => simp only [hcl] at h1 h2; exact ih _ h1 h2
    | fresh => simp only [hcl] at h1 h2; exact ih _ h1 h2

def agree (P : Program) (G : Nat) (call : CallF) (tf : Tr Value) : List DRec → Prop
  | [] => True
  | r :: rest => (∀ d, (∀ y ∈ r :: rest, y.o.dst ≠ some d) → r.t.get d = tf.get d) ∧
      (r.wd = true → ∃ v1 H1, stepOp P G call r.o r.t r.H = some (v1, H1) ∧ ∀ d, r.o.dst = some d → (∀ y ∈ rest, y.o.dst ≠ some d) → tf.get d = some v1) ∧ agree P G call tf rest

theorem thru_recs {P : Program} {G N : Nat} {call : CallF} (hc : CallN call) {S : List Ent → Heap → Prop} {ops : Array Oper} : ∀ (ord : List Nat) (t t' : Tr Value) (H H' : Heap) (gs : Hist), ord.all (fun j => Nat.blt j ops.size) = true →
    thru P G N S call ops (opsAt ops ord) t H gs t' H' → ∃ recs, drawRun P G N call ops ord t H = some (recs, t', H') ∧ recs.map pjo = ord.zip (opsAt ops ord) ∧ (∀ (i : Nat) (r : DRec) (E : List Ent), recs[i]? = some r → gs[i]? = some (some E) → S E r.H) ∧ (∀ r ∈ recs, iwant ops r.o r.t = some r.wd) ∧
      (∀ d, (∀ y ∈ recs, y.o.dst ≠ some d) → t.get d = t'.get d) ∧ agree P G call t' recs := by
  intro ord
  induction ord with
  | nil =>
    intro t t' H H' gs _ h
    obtain ⟨rfl, rfl, rfl⟩ := h
    exact ⟨[], rfl, rfl, fun i r E hr => by simp at hr, fun r hr => (List.not_mem_nil hr).elim, fun _ _ => rfl, trivial⟩
  | cons j rest ih =>
    intro t t' H H' gs hj h
    simp only [List.all_cons, Bool.and_eq_true] at hj
    have hlt : j < ops.size := by simpa [Nat.blt_eq] using hj.1
    rw [opsAt_cons hlt] at h
    obtain ⟨g, gs', rfl, hS, b, t1, h1, hb, hor, hth⟩ := h
    obtain ⟨recs, g1, g2, g3, g5, g6, g7⟩ := ih t1 t' h1 H' gs' hj.2 hth
    have hops : ops[j]? = some ops[j] := Array.getElem?_eq_getElem hlt
    have hput : ∃ r, putT N t ops[j].dst r = some t1 := by
      rcases hor with ⟨_, r, _, e⟩ | ⟨_, _, e⟩
      · exact ⟨r, e⟩
      · exact ⟨_, e⟩
    have hget : ∀ d, ops[j].dst ≠ some d → t.get d = t1.get d := by
      intro d hd
      obtain ⟨r, e⟩ := hput
      unfold putT at e
      cases hdst : ops[j].dst with
      | none => rw [hdst] at e; cases e; rfl
      | some d' =>
        rw [hdst] at e
        obtain ⟨_, e⟩ := chk_some e
        cases e
        rw [Tr.get_set, if_neg (fun e => hd (by rw [hdst, e]))]
    have hn : H.n ≤ h1.n := by
      rcases hor with ⟨_, r, e, _⟩ | ⟨_, rfl, _⟩
      · exact stepOp_n hc e
      · exact Nat.le_refl _
    have hmain : ∀ d, (∀ y ∈ (⟨j, ops[j], t, H, b⟩ :: recs : List DRec), y.o.dst ≠ some d) → t.get d = t'.get d := by
      intro d hd
      rw [hget d (hd _ List.mem_cons_self)]
      exact g6 d (fun y hy => hd y (List.mem_cons_of_mem _ hy))
    refine ⟨⟨j, ops[j], t, H, b⟩ :: recs, ?_, ?_, ?_, ?_, hmain, hmain, ?_, g7⟩
    · show (ops[j]?).bind _ = _
      rw [hops]
      rcases hor with ⟨rfl, r, e1, e2⟩ | ⟨rfl, rfl, e2⟩
      · simp only [Option.bind_some, hb, cond_true, e1, e2, Option.map_some, Nat.ble_eq_true_of_le hn, chk, g1]
      · simp only [Option.bind_some, hb, cond_false, e2, Option.map_some, Nat.ble_eq_true_of_le hn, chk, cond_true, g1]
    · rw [opsAt_cons hlt, List.map_cons, g2]; rfl
    · intro i r E hr hg
      cases i with
      | zero => simp at hr hg; subst hr; exact hS E hg
      | succ i => exact g3 i r E (by simpa using hr) (by simpa using hg)
    · intro r hr
      rcases List.mem_cons.1 hr with rfl | hr
      · exact hb
      · exact g5 r hr
    · intro hwd
      rcases hor with ⟨_, r, e1, e2⟩ | ⟨rfl, _, _⟩
      · refine ⟨r, h1, e1, fun d hd hy => ?_⟩
        rw [← g6 d hy]
        have e2 : putT N t ops[j].dst r = some t1 := e2
        have hd : ops[j].dst = some d := hd
        rw [hd] at e2
        obtain ⟨_, e⟩ := chk_some e2
        cases e
        rw [Tr.get_set, if_pos rfl]
      · cases hwd

def vblk : Value → Option Nat
  | .pointer (some a) => some a.block
  | .slice (some a) _ _ => some a.block
  | _ => none
/-- A reader's answer is the same at the places; a maker's block is the same at the places. -/
def OkS (P : Program) (G : Nat) (call : CallF) (ops : Array Oper) (At : Nat → Heap → Prop) (tf : Tr Value) (Hf : Heap) (x : Plan) : Prop :=
  iwant ops x.1 tf = some false ∨ ∃ d v, ∃ T : Heap → Prop, x.1.dst = some d ∧ tf.get d = some v ∧ (∀ h, T h → veq 3 v v = true ∧ stepOp P G call x.1 tf h = some (v, h)) ∧ (∀ p ∈ x.2.1, ∀ h, At p h → T h) ∧ (x.2.2 = true → T Hf)
def OkF (P : Program) (G : Nat) (call : CallF) (ops : Array Oper) (At : Nat → Heap → Prop) (tf : Tr Value) (Hf : Heap) (x : Plan) : Prop :=
  iwant ops x.1 tf = some false ∨ ∃ d v o, ∃ T : Heap → Prop, x.1.dst = some d ∧ tf.get d = some v ∧ oeq (some o) (some o) = true ∧ (∀ h, ∃ v0, stepOp P G call x.1 tf h = some (v0, h.push o) ∧ vblk v0 = some h.n) ∧ (∀ h, T h → ∃ b, vblk v = some b ∧ h.get b = some o) ∧ (∀ p ∈ x.2.1, ∀ h, At p h → T h) ∧ (x.2.2 = true → T Hf)

theorem no_write {ops : Array Oper} {P : Program} {G : Nat} {call : CallF} {tf : Tr Value} {s : DRec} {rest : List DRec} (ha : ∀ d, (∀ y ∈ s :: rest, y.o.dst ≠ some d) → s.t.get d = tf.get d) (h1 : noWrite ops s.o (pjo s :: rest.map pjo) = true) : ∀ d ∈ lk ops s.o, s.t.get d = tf.get d := by
  intro d hd
  refine ha d (fun y hy e => ?_)
  have h2 := List.all_eq_true.1 h1 (pjo y) (by rw [← List.map_cons (f := pjo)]; exact List.mem_map_of_mem hy)
  simp only [pjo, e] at h2
  have h3 : (lk ops s.o).any (Nat.beq d) = true := List.any_eq_true.2 ⟨d, hd, by simp⟩
  rw [h3] at h2
  cases h2
theorem keep_dst {s : DRec} {rest : List DRec} (h : keepDst s.o (rest.map pjo) = true) {d : Tmp} (hd : s.o.dst = some d) : ∀ y ∈ rest, y.o.dst ≠ some d := by
  intro y hy e
  have h2 := List.all_eq_true.1 h (pjo y) (List.mem_map_of_mem hy)
  simp [pjo, sameDst, hd, e] at h2

theorem dyn_stays {P : Program} {G : Nat} {call : CallF} {A : Tr Nat} {ops : Array Oper} {At : Nat → Heap → Prop} {tf : Tr Value} {Hf : Heap} : ∀ (l : List DRec) (p : Nat), calmU P A ops (l.map pjo) = true → (∀ (i : Nat) (r : DRec), l[i]? = some r → At (p + i) r.H) → (∀ r ∈ l, iwant ops r.o r.t = some r.wd) → agree P G call tf l →
    (∀ x ∈ plansS P A p (l.map pjo), OkS P G call ops At tf Hf x) → (∀ x ∈ plansF P A p (l.map pjo), OkF P G call ops At tf Hf x) → dynFrom P G call A Hf l = true
  | [], _, _, _, _, _, _, _ => rfl
  | s :: rest, p, h, hA, hw, ha, hs, hf => by
    have hA' : ∀ i r, rest[i]? = some r → At (p + 1 + i) r.H := fun i r h => by
      have := hA (i + 1) r (by simpa using h)
      rwa [show p + (i + 1) = p + 1 + i from by omega] at this
    simp only [List.map_cons, calmU, pjo, Bool.and_eq_true] at h
    have hrs : ∀ x ∈ plansS P A (p + 1) (rest.map pjo), x ∈ plansS P A p ((s :: rest).map pjo) := by
      intro x hx
      simp only [List.map_cons, plansS, pjo]
      split
      · cases hq : freeS P A s.j s.o (rest.map pjo) with
        | true => rw [cond_true]; exact hx
        | false => rw [cond_false]; exact List.mem_cons_of_mem _ hx
      · exact hx
    have hrf : ∀ x ∈ plansF P A (p + 1) (rest.map pjo), x ∈ plansF P A p ((s :: rest).map pjo) := by
      intro x hx
      simp only [List.map_cons, plansF, pjo]
      split
      · cases hq : okNextF P A s.j (rest.map pjo) with
        | true => rw [cond_true]; exact hx
        | false => rw [cond_false]; exact List.mem_cons_of_mem _ hx
      · exact hx
    unfold dynFrom
    rw [dyn_stays rest (p + 1) h.2 hA' (fun r hr => hw r (List.mem_cons_of_mem _ hr)) ha.2.2 (fun x hx => hs x (hrs x hx)) (fun x hx => hf x (hrf x hx)), Bool.and_true]
    cases hwd : s.wd with
    | false => rfl
    | true =>
      rw [cond_true]
      obtain ⟨v1, H1, hv1, hd1⟩ := ha.2.1 hwd
      have hno : ∀ {x : Oper}, x = s.o → (∀ d ∈ lk ops s.o, s.t.get d = tf.get d) → ¬ iwant ops x tf = some false := by
        intro x e hlk h5
        rw [e, ← iwant_congr hlk, hw s List.mem_cons_self, hwd] at h5
        cases h5
      cases hcl : clsOf P s.o with
      | big => rfl
      | fresh =>
        have h1 := h.1
        rw [hcl] at h1
        simp only at h1 ⊢
        cases hq : okNextF P A s.j (rest.map pjo) with
        | true => exact scan_fresh rest hq
        | false =>
          have h1 : (okNextF P A s.j (rest.map pjo) || (noWrite ops s.o (pjo s :: rest.map pjo) && keepDst s.o (rest.map pjo))) = true := h1
          rw [hq, Bool.false_or, Bool.and_eq_true] at h1
          have hlk := no_write (P := P) (G := G) (call := call) ha.1 h1.1
          have hok : OkF P G call ops At tf Hf (s.o, spots P A s.j (p + 1) (rest.map pjo)) := by
            refine hf _ ?_
            simp only [List.map_cons, plansF, pjo, hcl, hq, cond_false]
            exact List.mem_cons_self
          rcases hok with h5 | ⟨d, v, o, T, q1, q2, q3, q4, q5, q6, q7⟩
          · exact (hno rfl hlk h5).elim
          · have hv := hd1 d q1 (keep_dst h1.2 q1)
            rw [q2] at hv
            cases hv
            obtain ⟨v0, e0, e1⟩ := q4 s.H
            have e0 : stepOp P G call s.o tf s.H = some (v0, s.H.push o) := e0
            rw [stepOp_congr hlk, e0] at hv1
            cases hv1
            have key : ∀ g, T g → freshTest P G call s g = true := by
              intro g hg
              obtain ⟨b, f1, f2⟩ := q5 g hg
              rw [e1] at f1
              cases f1
              unfold freshTest
              rw [stepOp_congr hlk, e0]
              simp only [Heap.get_push, if_true, f2]
              exact q3
            exact scan_spots (At := At) rest (p + 1) false hA' (fun q hq h hh => key h (q6 q hq h hh)) (fun e => key _ (q7 e))
      | still =>
        have h1 := h.1
        rw [hcl] at h1
        simp only at h1 ⊢
        cases hq : quietOp s.o with
        | true => exact scan_quiet (fun g => by simp [stillTest, hq]) rest false
        | false =>
          cases hn : okNext P A s.j (rest.map pjo) with
          | true => exact scan_next rest hn
          | false =>
            have hfr : freeS P A s.j s.o (rest.map pjo) = false := by simp [freeS, hq, hn]
            have h1 : (freeS P A s.j s.o (rest.map pjo) || (noWrite ops s.o (pjo s :: rest.map pjo) && keepDst s.o (rest.map pjo))) = true := h1
            rw [hfr, Bool.false_or, Bool.and_eq_true] at h1
            have hlk := no_write (P := P) (G := G) (call := call) ha.1 h1.1
            have hok : OkS P G call ops At tf Hf (s.o, spots P A s.j (p + 1) (rest.map pjo)) := by
              refine hs _ ?_
              simp only [List.map_cons, plansS, pjo, hcl, hfr, cond_false]
              exact List.mem_cons_self
            rcases hok with h5 | ⟨d, v, T, q1, q2, q3, q4, q5⟩
            · exact (hno rfl hlk h5).elim
            · have hv := hd1 d q1 (keep_dst h1.2 q1)
              rw [q2] at hv
              cases hv
              have key : ∀ g, T g → stillTest P G call s g = true := by
                intro g hg
                obtain ⟨f1, f2⟩ := q3 g hg
                have f2 : stepOp P G call s.o tf g = some (v1, g) := f2
                unfold stillTest
                rw [hv1, stepOp_congr hlk, f2]
                simp [f1]
              exact scan_spots (At := At) rest (p + 1) false hA' (fun q hq h hh => key h (q4 q hq h hh)) (fun e => key _ (q5 e))

def drawOKU (P : Program) (ops : Array Oper) (ord : List Nat) : Bool :=
  P.follows .mixedOrders && ((sched P ops ops.size 0 (List.range ops.size)) == ord) && (List.range ops.size).all (fun i => ord.any (Nat.beq i)) && ord.all (fun j => Nat.blt j ops.size) &&
    calmU P (ancs ops ord .nil) ops (ord.zip (opsAt ops ord)) && statJ P ops (ancs ops ord .nil) [] (ord.zip (opsAt ops ord))

/-- A reader's answer stays, where W is known of memory. -/
structure St (X : Mach) (N : Nat) (B : Heap) (M : List Nat) (W : List Ent) (ops : Array Oper) (ρ : Regs) (o : Oper) : Prop where
  h : iwR ops o.guard ρ = some false ∨ ∃ d v, o.dst = some d ∧ lkR ρ d = some v ∧ ∀ t h, Known ρ t → Kept B M h → Blks B M W h → veq 3 v v = true ∧ ∀ call, stepOp X.P X.G call o t h = some (v, h)
/-- A maker's block stays. -/
structure Sf (X : Mach) (N : Nat) (B : Heap) (M : List Nat) (W : List Ent) (ops : Array Oper) (ρ : Regs) (o : Oper) : Prop where
  h : iwR ops o.guard ρ = some false ∨ ∃ d v q, o.dst = some d ∧ lkR ρ d = some v ∧ oeq (some q) (some q) = true ∧ (∀ t, Known ρ t → ∀ call h, ∃ v0, stepOp X.P X.G call o t h = some (v0, h.push q) ∧ vblk v0 = some h.n) ∧ (∀ h, Kept B M h → Blks B M W h → ∃ b, vblk v = some b ∧ h.get b = some q)
/-- At these places W is known of memory. -/
def SpotL (U : Hist) (W : List Ent) : List Nat → Prop
  | [] => True
  | p :: ps => (∃ E, U.reverse[p]? = some (some E) ∧ List.Sublist W E) ∧ SpotL U W ps
def Spot (U : Hist) (H : List Ent) (W : List Ent) (q : List Nat × Bool) : Prop := SpotL U W q.1 ∧ (q.2 = true → List.Sublist W H)
def plansAt (ops : Array Oper) : List (Nat × List Nat × Bool) → List Plan
  | [] => []
  | (j, q) :: r => match ops[j]? with
    | some o => (o, q) :: plansAt ops r
    | none => plansAt ops r
def Sts (X : Mach) (N : Nat) (B : Heap) (M : List Nat) (U : Hist) (ops : Array Oper) (ρ : Regs) (H : List Ent) : List Plan → Prop
  | [] => True
  | (o, q) :: l => (∃ W, St X N B M W ops ρ o ∧ Spot U H W q) ∧ Sts X N B M U ops ρ H l
def Sfs (X : Mach) (N : Nat) (B : Heap) (M : List Nat) (U : Hist) (ops : Array Oper) (ρ : Regs) (H : List Ent) : List Plan → Prop
  | [] => True
  | (o, q) :: l => (∃ W, Sf X N B M W ops ρ o ∧ Spot U H W q) ∧ Sfs X N B M U ops ρ H l
theorem Sts.all {X : Mach} {N : Nat} {B : Heap} {M : List Nat} {U : Hist} {ops : Array Oper} {ρ : Regs} {H : List Ent} : ∀ {l : List Plan}, Sts X N B M U ops ρ H l → ∀ x ∈ l, ∃ W, St X N B M W ops ρ x.1 ∧ Spot U H W x.2
  | [], _, o, ho => (List.not_mem_nil ho).elim
  | _ :: _, h, o, ho => by
    rcases List.mem_cons.1 ho with rfl | ho
    · exact h.1
    · exact Sts.all h.2 o ho
theorem Sfs.all {X : Mach} {N : Nat} {B : Heap} {M : List Nat} {U : Hist} {ops : Array Oper} {ρ : Regs} {H : List Ent} : ∀ {l : List Plan}, Sfs X N B M U ops ρ H l → ∀ x ∈ l, ∃ W, Sf X N B M W ops ρ x.1 ∧ Spot U H W x.2
  | [], _, o, ho => (List.not_mem_nil ho).elim
  | _ :: _, h, o, ho => by
    rcases List.mem_cons.1 ho with rfl | ho
    · exact h.1
    · exact Sfs.all h.2 o ho
theorem SpotL.get {U : Hist} {W : List Ent} : ∀ {ps : List Nat}, SpotL U W ps → ∀ p ∈ ps, ∃ E, U.reverse[p]? = some (some E) ∧ List.Sublist W E
  | [], _ => fun p hp => (List.not_mem_nil hp).elim
  | q :: ps, h => fun p hp => by
    rcases List.mem_cons.1 hp with rfl | hp
    · exact h.1
    · exact SpotL.get h.2 p hp
theorem Spot.get {U : Hist} {H W : List Ent} {ps : List Nat} {f : Bool} (h : Spot U H W (ps, f)) : (∀ p ∈ ps, ∃ E, U.reverse[p]? = some (some E) ∧ List.Sublist W E) ∧ (f = true → List.Sublist W H) := ⟨SpotL.get h.1, h.2⟩

def plS (P : Program) (ops : Array Oper) (ord : List Nat) : List Plan := plansS P (ancs ops ord .nil) 0 (ord.zip (opsAt ops ord))
def plF (P : Program) (ops : Array Oper) (ord : List Nat) : List Plan := plansF P (ancs ops ord .nil) 0 (ord.zip (opsAt ops ord))

theorem WC.drawU {X : Mach} {N : Nat} {B : Heap} {M : List Nat} {ρ : Regs} {H : List Ent} {Q : IExit → Regs → List Ent → Prop} {id : Nat} {ops : Array Oper} (hN : ∀ m, CallN (X.run m)) (ord : List Nat) (ts tf : List (Nat × List Nat × Bool)) (hd : drawOKU X.P ops ord = true) (hts : plS X.P ops ord = plansAt ops ts) (htf : plF X.P ops ord = plansAt ops tf)
    (h : WO X N B M [] ops (opsAt ops ord) ρ H fun U ρ' H' => Sts X N B M U ops ρ' H' (plansAt ops ts) ∧ Sfs X N B M U ops ρ' H' (plansAt ops tf) ∧ Q .normal ρ' H') : WC X N B M (.region id ops true) ρ H Q := .mk fun t h0 hk hh hb => by
  obtain ⟨n0, t', h', ρ', H', gs, h1, h2, h4, h5, h6, h7, h3⟩ := h.go t h0 hk hh hb
  simp only [drawOKU, Bool.and_eq_true] at hd
  obtain ⟨⟨⟨⟨⟨d1, d2⟩, d3⟩, d4⟩, d5⟩, d6⟩ := hd
  have d2 : sched X.P ops ops.size 0 (List.range ops.size) = ord := by simpa using d2
  refine ⟨n0 + 1, .normal, t', h', ρ', H', fun m n hm hn => ?_, h2, h4, h5, h3⟩
  obtain ⟨k, rfl⟩ : ∃ k, n = k + 1 := ⟨n - 1, by omega⟩
  show (evalDraw X.P X.G N (X.run m) ops t h0).map _ = _
  obtain ⟨recs, g1, g2, g3, g5, g6, g7⟩ := thru_recs (hN m) ord t t' h0 h' gs d4 (h1 m (by omega))
  have hrev : (gs.reverse ++ ([] : Hist)).reverse = gs := by simp
  have spot : ∀ {W : List Ent} {q : List Nat × Bool}, Spot (gs.reverse ++ []) H' W q → (∀ p ∈ q.1, ∀ g, (∃ r, recs[p]? = some r ∧ r.H = g) → Kept B M g ∧ Blks B M W g) ∧ (q.2 = true → Kept B M h' ∧ Blks B M W h') := by
    intro W q hq
    obtain ⟨e1, e2⟩ := Spot.get (ps := q.1) (f := q.2) hq
    rw [hrev] at e1
    refine ⟨fun p hp g hg => ?_, fun hf => ⟨h4, h5.sub (e2 hf)⟩⟩
    obtain ⟨r, hr, rfl⟩ := hg
    obtain ⟨E, q1, q2⟩ := e1 p hp
    obtain ⟨s1, s2⟩ := g3 p r E hr q1
    exact ⟨s1, s2.sub q2⟩
  have hdyn : dynFrom X.P X.G (X.run m) (ancs ops ord .nil) h' recs = true := by
    refine dyn_stays (ops := ops) (At := fun p g => ∃ r, recs[p]? = some r ∧ r.H = g) recs 0 (by rw [g2]; exact d5) (fun i r hr => ⟨r, by rw [Nat.zero_add]; exact hr, rfl⟩) g5 g7 (fun x hx => ?_) (fun x hx => ?_)
    · rw [g2] at hx
      have hx : x ∈ plS X.P ops ord := hx
      rw [hts] at hx
      obtain ⟨W, ⟨hst⟩, hsp⟩ := h6.all x hx
      obtain ⟨e1, e2⟩ := spot hsp
      rcases hst with hst | ⟨d, v, q1, q2, q3⟩
      · exact .inl (iwR_iw hst h2)
      · exact .inr ⟨d, v, fun g => Kept B M g ∧ Blks B M W g, q1, h2 d v q2, fun g hg => ⟨(q3 t' g h2 hg.1 hg.2).1, (q3 t' g h2 hg.1 hg.2).2 _⟩, e1, e2⟩
    · rw [g2] at hx
      have hx : x ∈ plF X.P ops ord := hx
      rw [htf] at hx
      obtain ⟨W, ⟨hst⟩, hsp⟩ := h7.all x hx
      obtain ⟨e1, e2⟩ := spot hsp
      rcases hst with hst | ⟨d, v, o, q1, q2, q3, q4, q5⟩
      · exact .inl (iwR_iw hst h2)
      · exact .inr ⟨d, v, o, fun g => Kept B M g ∧ Blks B M W g, q1, h2 d v q2, q3, fun g => q4 t' h2 _ g, fun g hg => q5 g hg.1 hg.2, e1, e2⟩
  have : evalDraw X.P X.G N (X.run m) ops t h0 = some (t', h') := by
    unfold evalDraw
    simp only [d2, d1, d3, Bool.and_self, chk, cond_true, g1, Option.bind_some]
    rw [statFrom_J, g2, hdyn, List.map_nil, d6]
    rfl
  rw [this]
  rfl

/-! ### which answers stay -/
section
variable {X : Mach} {N : Nat} {B : Heap} {M : List Nat} {W : List Ent} {ops : Array Oper} {ρ : Regs}
variable {dst : Option Tmp} {d : Tmp} {ty : TypeId} {pos : String} {af : Array Edge} {gd : Option (Nat × Bool)} {v : Value}

theorem St.no {o : Oper} (h : iwR ops o.guard ρ = some false) : St X N B M W ops ρ o := ⟨.inl h⟩
theorem Sf.no {o : Oper} (h : iwR ops o.guard ρ = some false) : Sf X N B M W ops ρ o := ⟨.inl h⟩
theorem St.load {x : Operand} {t : TypeId} {p : Value} (hl : Has B M W fun h => iLoad X.P t p h = some v) (hv : veq 3 v v = true) (hx : evR ρ x = some p) (hd : lkR ρ d = some v) : St X N B M W ops ρ ⟨some d, .load t x, ty, pos, af, gd⟩ :=
  ⟨.inr ⟨d, v, rfl, hd, fun t' h0 hk hh hb => ⟨hv, fun call => by show (iLoad X.P t (ev X.G t' x) h0).map (·, h0) = _; rw [evR_ev hx hk, hl h0 hh hb]; rfl⟩⟩⟩
theorem St.ld (k0 : Nat) {x : Operand} {t : TypeId} {b o : Nat} {cs : List Value} {e : TypeId} {f : Bool} (hT : T1 X.P t) (hr : veq 3 v v = true) (hx : evR ρ x = some (.pointer (some ⟨b, o, none⟩))) (hd : lkR ρ d = some v) (hk : W[k0]? = some (.blk b (.cells cs e f))) (hv : cs[o]? = some v) : St X N B M W ops ρ ⟨some d, .load t x, ty, pos, af, gd⟩ := by
  obtain ⟨dd, inf, h1, h2, h3, h4⟩ := hT.h
  exact St.load (fun h hh hb => by simp only [iLoad, asPtr, Option.bind_some, blk_row hb hk, h1, h2, cond_false, hv]) hr hx hd
theorem St.ldA (k0 : Nat) {x : Operand} {t : TypeId} {b o m : Nat} {cs r : List Value} {e : TypeId} {f : Bool} (hT : TA X.P t m) (hv : veq 3 (.agg r.toArray) (.agg r.toArray) = true) (hx : evR ρ x = some (.pointer (some ⟨b, o, none⟩))) (hd : lkR ρ d = some (.agg r.toArray)) (hk : W[k0]? = some (.blk b (.cells cs e f)))
    (hle : Nat.ble (o + m) cs.length = true) (hr : cut cs o m = r) : St X N B M W ops ρ ⟨some d, .load t x, ty, pos, af, gd⟩ := St.load (has_resA k0 hT hk hle hr) hv hx hd
theorem St.len {args : Array Operand} {ts : Array TypeId} {l : List Value} {n : Int} (hl : Has B M W fun h => iBuiltin2 X.P .len ts ty l h = some (.int .i64 n, h)) (hx : evL ρ args.toList = some l) (hd : lkR ρ d = some (.int .i64 n)) : St X N B M W ops ρ ⟨some d, .call { callee := .builtin .len, args := args, argTypes := ts }, ty, pos, af, gd⟩ :=
  ⟨.inr ⟨d, .int .i64 n, rfl, hd, fun t' h0 hk hh hb => ⟨veq_int _ _, fun call => by show iBuiltin2 X.P .len ts ty (args.toList.map (ev X.G t')) h0 = _; rw [evL_ev hk hx, hl h0 hh hb]⟩⟩⟩
theorem St.lookup {t : TypeId} {x i : Operand} {ok : Bool} {p q : Value} (hl : Has B M W fun h => iLookup X.P t p q ok h = some v) (hv : veq 3 v v = true) (hx : evR ρ x = some p) (hi : evR ρ i = some q) (hq : noAddr 3 q = true) (hd : lkR ρ d = some v) : St X N B M W ops ρ ⟨some d, .lookup t x i ok, ty, pos, af, gd⟩ :=
  ⟨.inr ⟨d, v, rfl, hd, fun t' h0 hk hh hb => ⟨hv, fun call => by show (bif noAddr 3 (ev X.G t' i) then (iLookup X.P t (ev X.G t' x) (ev X.G t' i) ok h0).map (·, h0) else none) = _; rw [evR_ev hx hk, evR_ev hi hk, hl h0 hh hb, hq]; rfl⟩⟩⟩

/-- A box stays. -/
theorem Sf.box (k0 : Nat) {s : TypeId} {x : Operand} {b : Nat} {u : Value} {cs : List Value} (ho : oeq (some (.cells cs s false)) (some (.cells cs s false)) = true) (hx : evR ρ x = some u) (hu : noJunk u = true) (hc : vcells u = cs) (hd : lkR ρ d = some (.pointer (some ⟨b, 0, none⟩))) (hk : W[k0]? = some (.blk b (.cells cs s false))) : Sf X N B M W ops ρ ⟨some d, .box s x, ty, pos, af, gd⟩ := by
  refine ⟨.inr ⟨d, _, .cells cs s false, rfl, hd, ho, fun t hkn call h => ⟨.pointer (some ⟨h.n, 0, none⟩), ?_, rfl⟩, fun h hh hb => ⟨b, rfl, (hb.at hk).2.1⟩⟩⟩
  show iBox s (ev X.G t x) h = _
  rw [evR_ev hx hkn]
  subst hc
  cases u <;> first | rfl | (cases hu; done)
theorem Sf.alloc (k0 : Nat) {s : TypeId} {b : Nat} {z : Value} {cs : List Value} (ho : oeq (some (.cells cs s false)) (some (.cells cs s false)) = true) (hz : iZero X.P s = some z) (hu : noJunk z = true) (hc : vcells z = cs) (hd : lkR ρ d = some (.pointer (some ⟨b, 0, none⟩))) (hk : W[k0]? = some (.blk b (.cells cs s false))) : Sf X N B M W ops ρ ⟨some d, .alloc s, ty, pos, af, gd⟩ := by
  refine ⟨.inr ⟨d, _, .cells cs s false, rfl, hd, ho, fun t hkn call h => ⟨.pointer (some ⟨h.n, 0, none⟩), ?_, rfl⟩, fun h hh hb => ⟨b, rfl, (hb.at hk).2.1⟩⟩⟩
  show (iZero X.P s).bind _ = _
  rw [hz]
  subst hc
  show iBox s z h = _
  cases z <;> first | rfl | (cases hu; done)
theorem Sf.lit (k0 : Nat) {s e : TypeId} {n : Nat} {ps : Array (Nat × Operand)} {l : List (Nat × Value)} {sz : Nat} {L : List (List Value)} (hl : ∀ h, iBuildSlice X.P s n l h = some (.slice (some ⟨h.n, 0, some 0⟩) L.length L.length, h.push (.cells L.flatten e false))) (hne : L ≠ []) (ho : oeq (some (.cells L.flatten e false)) (some (.cells L.flatten e false)) = true)
    (hx : evP ρ ps.toList = some l) (hd : lkR ρ d = some v) (hk : W[k0]? = some (.own v sz e L)) : Sf X N B M W ops ρ ⟨some d, .buildSlice s n ps, ty, pos, af, gd⟩ := by
  refine ⟨.inr ⟨d, v, .cells L.flatten e false, rfl, hd, ho, fun t hkn call h => ⟨.slice (some ⟨h.n, 0, some 0⟩) L.length L.length, ?_, rfl⟩, fun h hh hb => ?_⟩⟩
  · show iBuildSlice X.P s n (ps.toList.map fun p => (p.1, ev X.G t p.2)) h = _
    rw [evP_ev hkn hx]
    exact hl h
  · obtain ⟨_, ⟨_, q2⟩ | ⟨c, sp, q3, q4, q5, q6, q7⟩⟩ := hb.at hk
    · exact absurd q2 hne
    · exact ⟨c, by rw [q3]; rfl, q7⟩
end
end Go.Ideal

/- Stepping through code on the ideal machine: slicing; calls that make or change whole data. -/
namespace Go.Ideal
open Go

/-- The slice of elements lo to hi of a slice whose elements have sz cells. -/
def slV (v : Value) (sz lo hi : Nat) : Value :=
  match v with
  | .slice (some ⟨b, o, some 0⟩) _ c => .slice (some ⟨b, bif Nat.beq c lo then o else o + lo * sz, some 0⟩) (hi - lo) (c - lo)
  | .slice (some ⟨b, o, none⟩) _ c => bif Nat.beq c 0 then .slice (some ⟨b, o, none⟩) 0 0 else .slice (some ⟨b, o + lo * sz, none⟩) (hi - lo) (c - lo)
  | v => v

/-- A slice as SliceL says, and its block's elements are of a type of sz cells (so that it may be sliced). -/
def SliceS (P : Program) (H : Heap) (v : Value) (sz : Nat) (L : List (List Value)) : Prop :=
  (v = .slice none 0 0 ∧ L = []) ∨
  ∃ b o sp c row e fx, v = .slice (some ⟨b, o, sp⟩) L.length c ∧ L.length ≤ c ∧ (sp = none ∨ sp = some 0) ∧ b < H.n ∧ H.get b = some (.cells row e fx) ∧ o + L.length * sz ≤ row.length ∧
    (∀ (i : Nat) cs, L[i]? = some cs → cut row (o + i * sz) sz = cs) ∧ (sp = none → ∃ inf, P.info? e = some inf ∧ inf.size = sz)
theorem SliceS.sl {P : Program} {H : Heap} {v : Value} {sz : Nat} {L : List (List Value)} (h : SliceS P H v sz L) : SliceL H v sz L := by
  rcases h with h | ⟨b, o, sp, c, row, e, fx, h1, h2, h3, h4, h5, h6, h7, _⟩
  · exact .inl h
  · exact .inr ⟨b, o, sp, c, row, e, fx, h1, h2, h3, h4, h5, h6, h7⟩
theorem SliceS.grow {P : Program} {H H' : Heap} {v : Value} {sz : Nat} {L : List (List Value)} (h : SliceS P H v sz L) (g : Grow H H') : SliceS P H' v sz L := by
  rcases h with h | ⟨b, o, sp, c, row, e, fx, h1, h2, h3, h4, h5, h6⟩
  · exact .inl h
  · exact .inr ⟨b, o, sp, c, row, e, fx, h1, h2, h3, Nat.lt_of_lt_of_le h4 g.n, (g.old b h4).trans h5, h6⟩
theorem OwnL.sliceS {P : Program} {H0 H : Heap} {v : Value} {sz bytes : Nat} {e t : TypeId} {L : List (List Value)} (hE : ElemT P t e sz bytes) (h : OwnL H0 H v sz e L) : SliceS P H v sz L := by
  obtain ⟨inf, z, hi, hs, _⟩ := hE.info
  obtain ⟨hl, h | ⟨b, sp, h1, h2, h3, h4, h5⟩⟩ := h
  · exact .inl h
  · exact .inr ⟨b, 0, sp, L.length, L.flatten, e, false, h1, Nat.le_refl _, h2, h4, h5, by rw [flatten_len hl]; omega, fun i cs hi => by rw [Nat.zero_add]; exact flatten_cut hl i cs hi, fun _ => ⟨inf, hi, hs⟩⟩

theorem SliceL.veq {H : Heap} {v : Value} {sz : Nat} {L : List (List Value)} (h : SliceL H v sz L) : veq 3 v v = true := by
  rcases h with ⟨rfl, rfl⟩ | ⟨b, o, sp, c, row, e, fx, rfl, _, h3, _⟩
  · rfl
  · rcases h3 with rfl | rfl
    · show (Nat.beq b b && Nat.beq o o && Nat.beq L.length L.length && Nat.beq c c) = true
      simp
    · show (Nat.beq b b && Nat.beq o o && Nat.beq 0 0 && Nat.beq L.length L.length && Nat.beq c c) = true
      simp

theorem SliceS.sub {P : Program} {H : Heap} {v : Value} {sz : Nat} {L : List (List Value)} (h : SliceS P H v sz L) {lo hi : Nat} (h1 : lo ≤ hi) (h2 : hi ≤ L.length) : SliceS P H (slV v sz lo hi) sz ((L.take hi).drop lo) := by
  have hlen : ((L.take hi).drop lo).length = hi - lo := by rw [List.length_drop, List.length_take]; omega
  rcases h with ⟨rfl, rfl⟩ | ⟨b, o, sp, c, row, e, fx, rfl, g2, g3, g4, g5, g6, g7, g8⟩
  · refine .inl ⟨rfl, ?_⟩
    simp
  · have hget : ∀ (i : Nat) cs, ((L.take hi).drop lo)[i]? = some cs → L[lo + i]? = some cs ∧ lo + i < hi := by
      intro i cs hi'
      rw [List.getElem?_drop, List.getElem?_take] at hi'
      split at hi'
      · exact ⟨hi', by omega⟩
      · cases hi'
    have hmul : hi * sz ≤ L.length * sz := Nat.mul_le_mul_right _ h2
    have hmul2 : (hi - lo) * sz + lo * sz = hi * sz := by rw [← Nat.add_mul]; congr 1; omega
    have hmul3 : ∀ i, (lo + i) * sz = lo * sz + i * sz := fun i => Nat.add_mul ..
    rcases g3 with rfl | rfl
    · simp only [slV]
      cases hc : Nat.beq c 0 with
      | true =>
        have hc0 := Nat.eq_of_beq_eq_true hc
        have hl0 : lo = 0 ∧ hi = 0 := by omega
        obtain ⟨rfl, rfl⟩ := hl0
        rw [cond_true]
        refine .inr ⟨b, o, none, 0, row, e, fx, by simp, by simp, .inl rfl, g4, g5, by simp; omega, fun i cs hi' => by simp at hi', g8⟩
      | false =>
        rw [cond_false]
        refine .inr ⟨b, o + lo * sz, none, c - lo, row, e, fx, by rw [hlen], by rw [hlen]; omega, .inl rfl, g4, g5, by rw [hlen]; omega, fun i cs hi' => ?_, g8⟩
        obtain ⟨q1, q2⟩ := hget i cs hi'
        have := g7 _ _ q1
        rwa [hmul3, ← Nat.add_assoc] at this
    · simp only [slV]
      cases hc : Nat.beq c lo with
      | true =>
        have hc0 := Nat.eq_of_beq_eq_true hc
        have hl0 : hi = lo := by omega
        rw [cond_true]
        refine .inr ⟨b, o, some 0, c - lo, row, e, fx, by rw [hlen], by rw [hlen]; omega, .inr rfl, g4, g5, by rw [hlen, hl0]; simp; omega, fun i cs hi' => ?_, g8⟩
        obtain ⟨_, q2⟩ := hget i cs hi'
        omega
      | false =>
        rw [cond_false]
        refine .inr ⟨b, o + lo * sz, some 0, c - lo, row, e, fx, by rw [hlen], by rw [hlen]; omega, .inr rfl, g4, g5, by rw [hlen]; omega, fun i cs hi' => ?_, g8⟩
        obtain ⟨q1, q2⟩ := hget i cs hi'
        have := g7 _ _ q1
        rwa [hmul3, ← Nat.add_assoc] at this

/-- The bounds of a slice expression. -/
inductive Bnds (n : Nat) : Option Value → Option Value → Nat → Nat → Prop where
  | lo (a : Int) (h0 : 0 ≤ a) (h1 : a ≤ n) : Bnds n (some (.int .i64 a)) none a.toNat n
  | hi (b : Int) (h0 : 0 ≤ b) (h1 : b ≤ n) : Bnds n none (some (.int .i64 b)) 0 b.toNat
  | both (a b : Int) (h0 : 0 ≤ a) (h1 : a ≤ b) (h2 : b ≤ n) : Bnds n (some (.int .i64 a)) (some (.int .i64 b)) a.toNat b.toNat
theorem Bnds.le {n : Nat} {l h : Option Value} {a b : Nat} (k : Bnds n l h a b) : a ≤ b ∧ b ≤ n := by cases k <;> omega
theorem Bnds.bnds {n c : Nat} {l h : Option Value} {a b : Nat} (k : Bnds n l h a b) (hc : n ≤ c) : Ideal.bnds n c l h none = some (a, b, c) := by
  have dec : ∀ {x y : Int}, 0 ≤ x → x ≤ y → (decide (0 ≤ x) && decide (x ≤ y)) = true := fun h1 h2 => by simp [h1, h2]
  cases k with
  | lo a h0 h1 =>
    simp only [Ideal.bnds, bnd, asInt, Option.bind_some, dec h0 h1, chk, cond_true, Nat.ble_eq_true_of_le hc]
  | hi b h0 h1 =>
    simp only [Ideal.bnds, bnd, asInt, Option.bind_some, dec h0 (show b ≤ (c : Int) by omega), chk, cond_true, Nat.ble_eq_true_of_le (show b.toNat ≤ c by omega)]
  | both a b h0 h1 h2 =>
    simp only [Ideal.bnds, bnd, asInt, Option.bind_some, dec (show 0 ≤ b by omega) (show b ≤ (c : Int) by omega), dec h0 (show a ≤ (b.toNat : Int) by omega), chk, cond_true, Nat.ble_eq_true_of_le (show b.toNat ≤ c by omega)]

/-- The nil slice of this type is sliced. -/
structure NilSl (P : Program) (t : TypeId) : Prop where
  lo : pureRun P (Instr.sliceAt t (.slice none 0 0) (some (.int .i64 0)) none none) = some (.slice none 0 0)
  hi : pureRun P (Instr.sliceAt t (.slice none 0 0) none (some (.int .i64 0)) none) = some (.slice none 0 0)
  both : pureRun P (Instr.sliceAt t (.slice none 0 0) (some (.int .i64 0)) (some (.int .i64 0)) none) = some (.slice none 0 0)
theorem NilSl.run {P : Program} {t : TypeId} (hN : NilSl P t) {l h : Option Value} {a b : Nat} (k : Bnds 0 l h a b) : pureRun P (Instr.sliceAt t (.slice none 0 0) l h none) = some (.slice none 0 0) := by
  cases k with
  | lo a h0 h1 => obtain rfl : a = 0 := by omega
                  exact hN.lo
  | hi b h0 h1 => obtain rfl : b = 0 := by omega
                  exact hN.hi
  | both a b h0 h1 h2 => obtain rfl : a = 0 := by omega
                         obtain rfl : b = 0 := by omega
                         exact hN.both
theorem Bnds.noAddr {n : Nat} {l h : Option Value} {a b : Nat} (k : Bnds n l h a b) : (l.all fun v => noAddr 3 v) = true ∧ (h.all fun v => noAddr 3 v) = true := by cases k <;> exact ⟨rfl, rfl⟩

theorem SliceS.iSl {P : Program} {H : Heap} {v : Value} {sz : Nat} {L : List (List Value)} {t e : TypeId} {inf : TypeInfo} (h : SliceS P H v sz L) (ht : P.underlying t = some (.slice e)) (hi : P.info? e = some inf) (hs : inf.size = sz) {l u : Option Value} {a b : Nat} (k : Bnds L.length l u a b) (hne : v ≠ .slice none 0 0) :
    iSlice P t v l u none H = some (slV v sz a b) ∧ noAddr 3 v = false := by
  rcases h with ⟨rfl, rfl⟩ | ⟨b', o, sp, c, row, e', fx, rfl, g2, g3, g4, g5, g6, g7, g8⟩
  · exact absurd rfl hne
  · refine ⟨?_, rfl⟩
    have hk := k.bnds g2
    unfold iSlice
    rw [ht]
    simp only [asSl, Option.bind_some, hi, hk]
    rcases g3 with rfl | rfl
    · obtain ⟨j, hj, hjs⟩ := g8 rfl
      simp only [slV, rowOf, g5, Option.bind_some, hj, hs, hjs, chk, show Nat.beq sz sz = true from by simp, cond_true]
      cases Nat.beq c 0 <;> rfl
    · simp only [slV, hs]

/-- One slicing step, whatever it is. -/
theorem slice_step {X : Mach} {ρ : Regs} {ops : Array Oper} {sz : Nat} {L : List (List Value)} {t e : TypeId} {inf : TypeInfo} {v : Value} {x : Operand} {lo hi : Option Operand} {dst : Option Tmp} {ty : TypeId} {pos : String} {af : Array Edge} {gd : Option (Nat × Bool)}
    (ht : X.P.underlying t = some (.slice e)) (hi' : X.P.info? e = some inf) (hs : inf.size = sz) (hN : NilSl X.P t) {l u : Option Value} {a b : Nat} (k : Bnds L.length l u a b) (hx : evR ρ x = some v) (h1 : evO ρ lo = some l) (h2 : evO ρ hi = some u)
    {tt : Tr Value} (hk : Known ρ tt) {h : Heap} (hS : SliceS X.P h v sz L) (call : CallF) : stepOp X.P X.G call ⟨dst, .slice t x lo hi none, ty, pos, af, gd⟩ tt h = some (slV v sz a b, h) := by
  show (bif noAddr 3 (ev X.G tt x) && (lo.all fun v => noAddr 3 (ev X.G tt v)) && (hi.all fun v => noAddr 3 (ev X.G tt v)) && _ then (pureRun X.P (Instr.sliceAt t (ev X.G tt x) (lo.map (ev X.G tt)) (hi.map (ev X.G tt)) none)).bind fun r => chk (noAddr 3 r) (some (r, h)) else (iSlice X.P t (ev X.G tt x) (lo.map (ev X.G tt)) (hi.map (ev X.G tt)) none h).map (·, h)) = _
  rw [evR_ev hx hk, evO_ev hk h1, evO_ev hk h2]
  have a1 : (lo.all fun v => noAddr 3 (ev X.G tt v)) = l.all fun v => noAddr 3 v := by rw [← evO_ev (G := X.G) hk h1]; cases lo <;> rfl
  have a2 : (hi.all fun v => noAddr 3 (ev X.G tt v)) = u.all fun v => noAddr 3 v := by rw [← evO_ev (G := X.G) hk h2]; cases hi <;> rfl
  rw [a1, a2, k.noAddr.1, k.noAddr.2]
  by_cases hv : v = .slice none 0 0
  · have hL : L = [] := by
      rcases hS with ⟨_, h⟩ | ⟨b', o, sp, c, row, e', fx, h, _⟩
      · exact h
      · rw [hv] at h; cases h
    subst hL
    subst hv
    rw [hN.run k]
    rfl
  · obtain ⟨e1, e2⟩ := hS.iSl ht hi' hs k hv
    rw [e2, e1]
    rfl

/-- What is needed of a slice type to slice it. -/
structure SlT (P : Program) (t : TypeId) (sz : Nat) : Prop where
  h : ∃ e inf, P.underlying t = some (.slice e) ∧ P.info? e = some inf ∧ inf.size = sz
  n : NilSl P t

section
variable {X : Mach} {N : Nat} {B : Heap} {M : List Nat} {U : Hist} {W : List Ent} {ops : Array Oper} {rest : List Oper} {ρ : Regs} {H : List Ent} {K : Hist → Regs → List Ent → Prop}
variable {dst : Option Tmp} {ty : TypeId} {pos : String} {af : Array Edge} {gd : Option (Nat × Bool)} {v : Value}

theorem WO.sliceV {t : TypeId} {x : Operand} {lo hi : Option Operand} {sz a b : Nat} {L : List (List Value)} {l u : Option Value} (hT : SlT X.P t sz) (hS : Has B M H fun h => SliceS X.P h v sz L) (hw : iwR ops gd ρ = some true) (hx : evR ρ x = some v) (h1 : evO ρ lo = some l) (h2 : evO ρ hi = some u) (k : Bnds L.length l u a b) (hd : dOK N dst = true)
    (kk : WO X N B M (none :: U) ops rest (putR dst (slV v sz a b) ρ) H K) : WO X N B M U ops (⟨dst, .slice t x lo hi none, ty, pos, af, gd⟩ :: rest) ρ H K := by
  obtain ⟨⟨e, inf, q1, q2, q3⟩, hN⟩ := hT
  exact WO.pure hw (fun t' h0 hk hh hb call => slice_step (ops := ops) q1 q2 q3 hN k hx h1 h2 hk (hS h0 hh hb) call) hd kk
theorem St.sliceV {t : TypeId} {d : Tmp} {x : Operand} {lo hi : Option Operand} {sz a b : Nat} {L : List (List Value)} {l u : Option Value} (hT : SlT X.P t sz) (hS : Has B M W fun h => SliceS X.P h v sz L) (hx : evR ρ x = some v) (h1 : evO ρ lo = some l) (h2 : evO ρ hi = some u) (hd : lkR ρ d = some (slV v sz a b)) (k : Bnds L.length l u a b) :
    St X N B M W ops ρ ⟨some d, .slice t x lo hi none, ty, pos, af, gd⟩ := by
  obtain ⟨⟨e, inf, q1, q2, q3⟩, hN⟩ := hT
  exact ⟨.inr ⟨d, slV v sz a b, rfl, hd, fun t' h0 hk hh hb => ⟨((hS h0 hh hb).sub k.le.1 k.le.2).sl.veq, fun call => slice_step (ops := ops) q1 q2 q3 hN k hx h1 h2 hk (hS h0 hh hb) call⟩⟩⟩
/-- A load whose value is equal to itself by its shape. -/
theorem St.loadH {d : Tmp} {x : Operand} {t : TypeId} {p : Value} (hl : Has B M W fun h => iLoad X.P t p h = some v ∧ veq 3 v v = true) (hx : evR ρ x = some p) (hd : lkR ρ d = some v) : St X N B M W ops ρ ⟨some d, .load t x, ty, pos, af, gd⟩ :=
  ⟨.inr ⟨d, v, rfl, hd, fun t' h0 hk hh hb => ⟨(hl h0 hh hb).2, fun call => by show (iLoad X.P t (ev X.G t' x) h0).map (·, h0) = _; rw [evR_ev hx hk, (hl h0 hh hb).1]; rfl⟩⟩⟩

theorem WO.fieldAddrH {x : Operand} {s : TypeId} {f : Nat} {p : Value} (hw : iwR ops gd ρ = some true) (hx : evR ρ x = some p) (hl : Has B M H fun _ => iFieldAddr X.P s p f = some v) (hd : dOK N dst = true) (k : WO X N B M (none :: U) ops rest (putR dst v ρ) H K) : WO X N B M U ops (⟨dst, .fieldAddr s x f, ty, pos, af, gd⟩ :: rest) ρ H K :=
  WO.pure hw (fun t' h0 hk hh hb call => by show (iFieldAddr X.P s (ev X.G t' x) f).map (·, h0) = _; rw [evR_ev hx hk, hl h0 hh hb]; rfl) hd k
/-! facts on memory, each told apart by its numbers alone -/
structure LdF (X : Mach) (B : Heap) (M : List Nat) (H : List Ent) (t : TypeId) (p v : Value) : Prop where
  h : Has B M H fun h => iLoad X.P t p h = some v
structure IxF (X : Mach) (B : Heap) (M : List Nat) (H : List Ent) (t : TypeId) (p : Value) (i : Int) (v : Value) : Prop where
  h : Has B M H fun _ => iIndexAddr X.P t p (.int .i64 i) = some v
structure FaF (X : Mach) (B : Heap) (M : List Nat) (H : List Ent) (s : TypeId) (p : Value) (f : Nat) (v : Value) : Prop where
  h : Has B M H fun _ => iFieldAddr X.P s p f = some v
structure LenF (X : Mach) (B : Heap) (M : List Nat) (H : List Ent) (t : TypeId) (p : Value) (n : Int) : Prop where
  h : ∀ ty, Has B M H fun h => iBuiltin2 X.P .len #[t] ty [p] h = some (.int .i64 n, h)
theorem WO.ldF {x : Operand} {t : TypeId} {p : Value} (hF : LdF X B M H t p v) (hw : iwR ops gd ρ = some true) (hx : evR ρ x = some p) (hd : dOK N dst = true) (k : WO X N B M (none :: U) ops rest (putR dst v ρ) H K) : WO X N B M U ops (⟨dst, .load t x, ty, pos, af, gd⟩ :: rest) ρ H K := WO.load hw hx hF.h hd k
theorem WO.ixF {x y : Operand} {t : TypeId} {p : Value} {i : Int} (hF : IxF X B M H t p i v) (hw : iwR ops gd ρ = some true) (hx : evR ρ x = some p) (hy : evR ρ y = some (.int .i64 i)) (hd : dOK N dst = true) (k : WO X N B M (none :: U) ops rest (putR dst v ρ) H K) : WO X N B M U ops (⟨dst, .indexAddr t x y, ty, pos, af, gd⟩ :: rest) ρ H K := WO.indexAddrH hw hx hy hF.h hd k
theorem WO.faF {x : Operand} {s : TypeId} {f : Nat} {p : Value} (hF : FaF X B M H s p f v) (hw : iwR ops gd ρ = some true) (hx : evR ρ x = some p) (hd : dOK N dst = true) (k : WO X N B M (none :: U) ops rest (putR dst v ρ) H K) : WO X N B M U ops (⟨dst, .fieldAddr s x f, ty, pos, af, gd⟩ :: rest) ρ H K := WO.fieldAddrH hw hx hF.h hd k
theorem WO.lenF {x : Operand} {t : TypeId} {p : Value} {n : Int} (hF : LenF X B M H t p n) (hw : iwR ops gd ρ = some true) (hx : evR ρ x = some p) (hd : dOK N dst = true) (k : WO X N B M (none :: U) ops rest (putR dst (.int .i64 n) ρ) H K) : WO X N B M U ops (⟨dst, .call { callee := .builtin .len, args := #[x], argTypes := #[t] }, ty, pos, af, gd⟩ :: rest) ρ H K :=
  WO.len hw (show evL ρ [x] = some [p] from by simp only [evL, hx]) (hF.h ty) hd k
theorem St.ldF {d : Tmp} {x : Operand} {t : TypeId} {p : Value} (hF : LdF X B M W t p v) (hv : veq 3 v v = true) (hx : evR ρ x = some p) (hd : lkR ρ d = some v) : St X N B M W ops ρ ⟨some d, .load t x, ty, pos, af, gd⟩ := St.load hF.h hv hx hd
theorem St.lenF {d : Tmp} {x : Operand} {t : TypeId} {p : Value} {n : Int} (hF : LenF X B M W t p n) (hx : evR ρ x = some p) (hd : lkR ρ d = some (.int .i64 n)) : St X N B M W ops ρ ⟨some d, .call { callee := .builtin .len, args := #[x], argTypes := #[t] }, ty, pos, af, gd⟩ :=
  St.len (hF.h ty) (show evL ρ [x] = some [p] from by simp only [evL, hx]) hd

theorem has_rep (k0 : Nat) {F : Nat → Prop} {S : Heap → Prop} (hk : H[k0]? = some (.rep F S)) : Has B M H S := fun _ _ hb => (hb.at hk).1
theorem Has.sub {S : Heap → Prop} {H' : List Ent} (h : Has B M H S) (hs : List.Sublist H H') : Has B M H' S := fun h0 hh hb => h h0 hh (hb.sub hs)

/-- New data: it lies in blocks that are new. -/
def New (h h' : Heap) (E : Ent) : Prop := E.ok h [] h'
theorem New.ok {h h' : Heap} {E : Ent} (hn : New h h' E) (hB : B.n ≤ h.n) : E.ok B M h' ∧ ∀ b, E.fp b → h.n ≤ b := by
  have hf : ∀ b, E.fp b → h.n ≤ b := fun b hb => by
    rcases Ent.home hn hb with h1 | h1
    · exact h1
    · cases h1
  refine ⟨?_, hf⟩
  cases E with
  | blk b o => exact ⟨hn.1, hn.2.1, .inl (Nat.le_trans hB (hf b rfl))⟩
  | own v sz e L =>
    obtain ⟨q1, q2 | ⟨c, sp, q3, q4, q5, q6⟩⟩ := hn
    · exact ⟨q1, .inl q2⟩
    · exact ⟨q1, .inr ⟨c, sp, q3, q4, Nat.le_trans hB q5, q6⟩⟩
  | rep F S => exact ⟨hn.1, fun b hb => ⟨(hn.2.1 b hb).1, .inl (Nat.le_trans hB (hf b hb))⟩, hn.2.2⟩

/-- A call that hands back a value and new data. -/
theorem WO.callE {α : Type} {f : Operand} {args : Array Operand} {ts : Array TypeId} {g : FuncId} {first cap : Array Value} {l : List Value} (V : α → Value) (E : α → List Ent) (R : α → Prop)
    (hr : ∀ h, Kept B M h → Blks B M H h → Runs X g (first.toList ++ l ++ cap.toList) h fun v h' => Grow h h' ∧ ∃ a, v = V a ∧ R a ∧ Blks h [] (E a) h') (hw : iwR ops gd ρ = some true) (hf : evR ρ f = some (.func (.func g) first cap)) (ha : evL ρ args.toList = some l) (hd : dOK N dst = true)
    (k : ∀ a, R a → WO X N B M (some H :: U) ops rest (putR dst (V a) ρ) (E a ++ H) K) : WO X N B M U ops (⟨dst, .call { callee := .value f, args := args, argTypes := ts }, ty, pos, af, gd⟩ :: rest) ρ H K := by
  refine WO.step (C := fun v H' => ∃ a, v = V a ∧ R a ∧ H' = E a ++ H) (some H) (.inr rfl) hw (fun t h hk hh hb => ?_) hd (fun v H' e => by obtain ⟨a, rfl, h2, rfl⟩ := e; exact k a h2)
  obtain ⟨n0, v, h', h1, h2, a, rfl, h4, h5⟩ := hr h hh hb
  have hb' := hb.grow h2
  refine ⟨n0, V a, h', E a ++ H, fun m hm => ?_, hh.grow h2, ⟨?_, ?_⟩, a, rfl, h4, rfl⟩
  · show (match ev X.G t f with | .func (.func g) first captured => X.run m g (first.toList ++ args.toList.map (ev X.G t) ++ captured.toList) h | _ => none) = _
    rw [evR_ev hf hk, evL_ev hk ha]
    exact h1 m hm
  · intro x hx
    rcases List.mem_append.1 hx with hx | hx
    · exact (New.ok (B := B) (M := M) (h5.ok x hx) hh.n).1
    · exact hb'.ok x hx
  · refine List.pairwise_append.2 ⟨h5.ne, hb'.ne, fun x hx y hy b hbx hby => ?_⟩
    have e1 := (New.ok (B := B) (M := M) (h5.ok x hx) hh.n).2 b hbx
    have e2 := Ent.lt (hb.ok y hy) hby
    omega

/-- A call that turns data that are known. -/
theorem WO.callM {α : Type} (k0 : Nat) {f : Operand} {args : Array Operand} {ts : Array TypeId} {g : FuncId} {first cap : Array Value} {l : List Value} {E0 : Ent} (V : α → Value) (E : α → Ent) (R : α → Prop) {H' : α → List Ent} (hk0 : H[k0]? = some E0)
    (hr : ∀ h, Kept B M h → Blks B M H h → Runs X g (first.toList ++ l ++ cap.toList) h fun v h' => h.n ≤ h'.n ∧ Wf h' ∧ (∀ b, b < h.n → ¬ E0.fp b → h'.get b = h.get b) ∧ ∃ a, v = V a ∧ R a ∧ (E a).ok B M h' ∧ ∀ b, (E a).fp b → E0.fp b ∨ h.n ≤ b) (hw : iwR ops gd ρ = some true) (hf : evR ρ f = some (.func (.func g) first cap)) (ha : evL ρ args.toList = some l)
    (hH : ∀ a, H.set k0 (E a) = H' a) (hd : dOK N dst = true) (k : ∀ a, R a → WO X N B M (some H :: U) ops rest (putR dst (V a) ρ) (H' a) K) :
    WO X N B M U ops (⟨dst, .call { callee := .value f, args := args, argTypes := ts }, ty, pos, af, gd⟩ :: rest) ρ H K := by
  refine WO.step (C := fun v H1 => ∃ a, v = V a ∧ R a ∧ H1 = H' a) (some H) (.inr rfl) hw (fun t h hk hh hb => ?_) hd (fun v H1 e => by obtain ⟨a, rfl, h2, rfl⟩ := e; exact k a h2)
  obtain ⟨n0, v, h', h1, h2, h3, h4, a, rfl, h6, h7, h8⟩ := hr h hh hb
  have hx := hb.at hk0
  refine ⟨n0, V a, h', H' a, fun m hm => ?_, ⟨Nat.le_trans hh.n h2, fun b hbB hm => ?_, h3⟩, ?_, a, rfl, h6, rfl⟩
  · show (match ev X.G t f with | .func (.func g) first captured => X.run m g (first.toList ++ args.toList.map (ev X.G t) ++ captured.toList) h | _ => none) = _
    rw [evR_ev hf hk, evL_ev hk ha]
    exact h1 m hm
  · rw [h4 b (Nat.lt_of_lt_of_le hbB hh.n) (fun hf => by rcases Ent.home hx hf with h9 | h9; omega; exact hm h9)]
    exact hh.old b hbB hm
  · rw [← hH a]
    exact hb.set hk0 h2 h4 h7 h8
end
end Go.Ideal

/- Stepping through code on the ideal machine: literals in known blocks; what is stored or built of slices; what stays beside writes. -/
namespace Go.Ideal
open Go

/-- What stands for a function answers for it. -/
theorem Runs.intr {X : Mach} {g : FuncId} {sem : List Value → Heap → Option (Value × Heap)} {args : List Value} {H H' : Heap} {v : Value} {Q : Value → Heap → Prop} (hI : X.I g = some sem) (hs : sem args H = some (v, H')) (hq : Q v H') : Runs X g args H Q := by
  refine ⟨1, v, H', fun n hn => ?_, hq⟩
  obtain ⟨k, rfl⟩ : ∃ k, n = k + 1 := ⟨n - 1, by omega⟩
  show runStep X.P X.G X.F X.I k (X.run k) g args H = _
  unfold runStep
  rw [hI]
  exact hs
def litV (b n : Nat) : Value := .slice (some ⟨b, 0, some 0⟩) n n
theorem SliceL.shape {H : Heap} {v : Value} {sz : Nat} {L : List (List Value)} (h : SliceL H v sz L) : ∃ a n c, v = .slice a n c := by
  rcases h with ⟨rfl, _⟩ | ⟨b, o, sp, c, row, e, fx, rfl, _⟩
  · exact ⟨_, _, _, rfl⟩
  · exact ⟨_, _, _, rfl⟩
theorem SliceL.oneC {H : Heap} {v : Value} {sz : Nat} {L : List (List Value)} (h : SliceL H v sz L) : oneC v = true := by
  obtain ⟨a, n, c, rfl⟩ := h.shape
  rfl
theorem SliceL.blk_lt {H : Heap} {v : Value} {sz : Nat} {L : List (List Value)} (h : SliceL H v sz L) {b : Nat} (hb : blkOf v = some b) : b < H.n := by
  rcases h with ⟨rfl, _⟩ | ⟨b', o, sp, c, row, e, fx, rfl, _, _, h4, _⟩
  · cases hb
  · cases hb; exact h4
theorem SliceS.keep {P : Program} {H H' : Heap} {v : Value} {sz : Nat} {L : List (List Value)} (h : SliceS P H v sz L) (hn : H.n ≤ H'.n) (hk : ∀ b, blkOf v = some b → H'.get b = H.get b) : SliceS P H' v sz L := by
  rcases h with h | ⟨b, o, sp, c, row, e, fx, h1, h2, h3, h4, h5, h6⟩
  · exact .inl h
  · exact .inr ⟨b, o, sp, c, row, e, fx, h1, h2, h3, Nat.lt_of_lt_of_le h4 hn, (hk b (by rw [h1]; rfl)).trans h5, h6⟩
theorem OwnL.blk_ge {B H : Heap} {v : Value} {sz : Nat} {e : TypeId} {L : List (List Value)} (h : OwnL B H v sz e L) {b : Nat} (hb : blkOf v = some b) : B.n ≤ b := by
  obtain ⟨_, ⟨rfl, _⟩ | ⟨c, sp, rfl, _, h3, _⟩⟩ := h
  · cases hb
  · cases hb; exact h3

section
variable {X : Mach} {N : Nat} {B : Heap} {M : List Nat} {U : Hist} {W : List Ent} {ops : Array Oper} {rest : List Oper} {ρ : Regs} {H : List Ent} {K : Hist → Regs → List Ent → Prop}
variable {dst : Option Tmp} {d : Tmp} {ty : TypeId} {pos : String} {af : Array Edge} {gd : Option (Nat × Bool)} {v : Value}

/-- What a slice literal makes. -/
structure LitF (X : Mach) (s : TypeId) (n : Nat) (l : List (Nat × Value)) (sz : Nat) (e : TypeId) (L : List (List Value)) : Prop where
  h : ∀ h, iBuildSlice X.P s n l h = some (.slice (some ⟨h.n, 0, some 0⟩) L.length L.length, h.push (.cells L.flatten e false))
  sz : ∀ cs ∈ L, cs.length = sz
/-- What a struct literal makes. -/
structure BuildF (X : Mach) (s : TypeId) (l : List (Nat × Value)) (v : Value) : Prop where
  h : iBuild X.P s l = some v
theorem WO.buildF {s : TypeId} {ps : Array (Nat × Operand)} {l : List (Nat × Value)} (hF : BuildF X s l v) (hw : iwR ops gd ρ = some true) (hx : evP ρ ps.toList = some l) (hd : dOK N dst = true) (k : WO X N B M (none :: U) ops rest (putR dst v ρ) H K) : WO X N B M U ops (⟨dst, .build s ps, ty, pos, af, gd⟩ :: rest) ρ H K := WO.build hw hx hF.h hd k
/-- What a builtin of plain values answers. -/
structure BiF (X : Mach) (b : Builtin) (l : List Value) (v : Value) : Prop where
  h : ∀ ts ty h, iBuiltin2 X.P b ts ty l h = some (v, h)
theorem WO.biF {b : Builtin} {args : Array Operand} {ts : Array TypeId} {l : List Value} (hF : BiF X b l v) (hw : iwR ops gd ρ = some true) (hx : evL ρ args.toList = some l) (hd : dOK N dst = true) (k : WO X N B M (none :: U) ops rest (putR dst v ρ) H K) :
    WO X N B M U ops (⟨dst, .call { callee := .builtin b, args := args, argTypes := ts }, ty, pos, af, gd⟩ :: rest) ρ H K := WO.builtin hw hx (fun h _ _ => hF.h ts ty h) hd k
theorem St.biF {b : Builtin} {args : Array Operand} {ts : Array TypeId} {l : List Value} (hF : BiF X b l v) (hv : veq 3 v v = true) (hx : evL ρ args.toList = some l) (hd : lkR ρ d = some v) : St X N B M W ops ρ ⟨some d, .call { callee := .builtin b, args := args, argTypes := ts }, ty, pos, af, gd⟩ :=
  ⟨.inr ⟨d, v, rfl, hd, fun t' h0 hk hh hb => ⟨hv, fun call => by show iBuiltin2 X.P b ts ty (args.toList.map (ev X.G t')) h0 = _; rw [evL_ev hk hx, hF.h ts ty h0]⟩⟩⟩
/-- A slice literal, whose block is known. -/
theorem WO.litB {s e : TypeId} {n : Nat} {ps : Array (Nat × Operand)} {l : List (Nat × Value)} {sz : Nat} {L : List (List Value)} (hF : LitF X s n l sz e L) (hw : iwR ops gd ρ = some true) (hx : evP ρ ps.toList = some l) (hd : dOK N dst = true)
    (k : ∀ b, WO X N B M (none :: U) ops rest (putR dst (litV b L.length) ρ) (.own (litV b L.length) sz e L :: H) K) : WO X N B M U ops (⟨dst, .buildSlice s n ps, ty, pos, af, gd⟩ :: rest) ρ H K := by
  refine WO.step (C := fun v H' => ∃ b, v = litV b L.length ∧ H' = .own v sz e L :: H) none (.inl rfl) hw (fun t h hk hh hb => ?_) hd (fun v H' e => by obtain ⟨b, rfl, rfl⟩ := e; exact k b)
  have g := Grow.push hh.top (.cells L.flatten e false)
  refine ⟨0, litV h.n L.length, _, _, fun m _ => ?_, hh.grow g, hb.cons g (x := .own (litV h.n L.length) sz e L) ?_ (fun b e => by cases e; exact Nat.le_refl _), h.n, rfl, rfl⟩
  · show iBuildSlice X.P s n (ps.toList.map fun p => (p.1, ev X.G t p.2)) h = _
    rw [evP_ev hk hx]
    exact hF.h h
  · exact ⟨hF.sz, .inr ⟨h.n, some 0, rfl, .inr rfl, hh.n, Nat.lt_succ_self _, by rw [Heap.get_push, if_pos rfl]⟩⟩
theorem Sf.litB (k0 : Nat) {b : Nat} {s e : TypeId} {n : Nat} {ps : Array (Nat × Operand)} {l : List (Nat × Value)} {sz : Nat} {L : List (List Value)} (hF : LitF X s n l sz e L) (ho : oeq (some (.cells L.flatten e false)) (some (.cells L.flatten e false)) = true)
    (hx : evP ρ ps.toList = some l) (hd : lkR ρ d = some (litV b L.length)) (hk : W[k0]? = some (.own (litV b L.length) sz e L)) : Sf X N B M W ops ρ ⟨some d, .buildSlice s n ps, ty, pos, af, gd⟩ := by
  refine ⟨.inr ⟨d, _, .cells L.flatten e false, rfl, hd, ho, fun t hkn call h => ⟨.slice (some ⟨h.n, 0, some 0⟩) L.length L.length, ?_, rfl⟩, fun h hh hb => ?_⟩⟩
  · show iBuildSlice X.P s n (ps.toList.map fun p => (p.1, ev X.G t p.2)) h = _
    rw [evP_ev hkn hx]
    exact hF.h h
  · obtain ⟨_, ⟨q1, _⟩ | ⟨c, sp, q3, q4, q5, q6, q7⟩⟩ := hb.at hk
    · cases q1
    · cases q3; exact ⟨b, rfl, q7⟩
theorem WO.buildH {s : TypeId} {ps : Array (Nat × Operand)} {l : List (Nat × Value)} (hl : Has B M H fun _ => iBuild X.P s l = some v) (hw : iwR ops gd ρ = some true) (hx : evP ρ ps.toList = some l) (hd : dOK N dst = true) (k : WO X N B M (none :: U) ops rest (putR dst v ρ) H K) : WO X N B M U ops (⟨dst, .build s ps, ty, pos, af, gd⟩ :: rest) ρ H K :=
  WO.pure hw (fun t h0 hk hh hb call => by show (iBuild X.P s (ps.toList.map fun p => (p.1, ev X.G t p.2))).map (·, h0) = _; rw [evP_ev hk hx, hl h0 hh hb]; rfl) hd k
/-- A slice is stored into one cell. -/
theorem WO.stS (k0 : Nat) {x y : Operand} {t : TypeId} {b o : Nat} {cs cs' : List Value} {e : TypeId} {u : Value} {H' : List Ent} {sz : Nat} {L : List (List Value)} (hT : T1 X.P t) (hS : Has B M H fun h => SliceL h u sz L) (hw : iwR ops gd ρ = some true) (hx : evR ρ x = some (.pointer (some ⟨b, o, none⟩))) (hy : evR ρ y = some u) (hk : H[k0]? = some (.blk b (.cells cs e false)))
    (hle : Nat.ble (o + 1) cs.length = true) (hs : splice cs o [u] = cs') (hH : H.set k0 (.blk b (.cells cs' e false)) = H') (hd : dOK N dst = true) (k : WO X N B M (some H :: U) ops rest (putR dst undef ρ) H' K) :
    WO X N B M U ops (⟨dst, .store t x y, ty, pos, af, gd⟩ :: rest) ρ H K := by
  refine WO.step (C := fun v H1 => v = undef ∧ H1 = H') (some H) (.inr rfl) hw (fun t' h hk' hh hb => ?_) hd (fun v H1 e => by rw [e.1, e.2]; exact k)
  obtain ⟨p1, p2⟩ := put_block (o' := .cells cs' e false) hh hb hk
  rw [hH] at p2
  refine ⟨0, undef, _, _, fun _ _ => ?_, p1, p2, rfl, rfl⟩
  show (iStore X.P t (ev X.G t' x) (ev X.G t' y) h).map (undef, ·) = _
  rw [evR_ev hx hk', evR_ev hy hk']
  obtain ⟨dd, inf, _, _, h3, h4⟩ := hT.h
  obtain ⟨a, n, c, rfl⟩ := (hS h hh hb).shape
  subst hs
  have hle' : Nat.ble (o + [Value.slice a n c].length) cs.length = true := hle
  have hl1 : Nat.beq [Value.slice a n c].length inf.size = true := by rw [h4]; rfl
  have hone : [Value.slice a n c].all oneC = true := rfl
  simp only [iStore, asPtr, Option.bind_some, blk_row hb hk, h3, vcells, Bool.not_false, hl1, hone, hle', Bool.and_self, chk, cond_true, Option.map_some]
end
end Go.Ideal

/- Stepping through code on the ideal machine: maps. -/
namespace Go.Ideal
open Go
/-- What an update of a map comes to. -/
structure UpdF (X : Mach) (t : TypeId) (es : List (Value × Value)) (k v : Value) (es' : List (Value × Value)) : Prop where
  h : ∀ h mb, h.get mb = some (.map es) → iUpdate X.P t (.map (some mb)) k v h = some (h.put mb (.map es'))
structure DelF (X : Mach) (t : TypeId) (es : List (Value × Value)) (k : Value) (es' : List (Value × Value)) : Prop where
  h : ∀ h mb, h.get mb = some (.map es) → iDelete X.P t (.map (some mb)) k h = some (.tuple #[], h.put mb (.map es'))
section
variable {X : Mach} {N : Nat} {B : Heap} {M : List Nat} {U : Hist} {ops : Array Oper} {rest : List Oper} {ρ : Regs} {H : List Ent} {K : Hist → Regs → List Ent → Prop}
variable {dst : Option Tmp} {ty : TypeId} {pos : String} {af : Array Edge} {gd : Option (Nat × Bool)} {v : Value}
theorem WO.makeMap {t : TypeId} (hw : iwR ops gd ρ = some true) (hd : dOK N dst = true) (k : ∀ b, WO X N B M (some H :: U) ops rest (putR dst (.map (some b)) ρ) (.blk b (.map []) :: H) K) : WO X N B M U ops (⟨dst, .makeMap t none, ty, pos, af, gd⟩ :: rest) ρ H K := by
  refine WO.step (C := fun v H' => ∃ b, v = .map (some b) ∧ H' = .blk b (.map []) :: H) (some H) (.inr rfl) hw (fun t h hk hh hb => ?_) hd (fun v H' e => by obtain ⟨b, rfl, rfl⟩ := e; exact k b)
  obtain ⟨p1, p2⟩ := push_block hh hb (.map [])
  exact ⟨0, _, _, _, fun m _ => rfl, p1, p2, h.n, rfl, rfl⟩
theorem WO.updF (k0 : Nat) {t : TypeId} {m i x : Operand} {mb : Nat} {es es' : List (Value × Value)} {key : Value} {H' : List Ent} (hF : UpdF X t es key v es') (hw : iwR ops gd ρ = some true) (hm : evR ρ m = some (.map (some mb))) (hi : evR ρ i = some key) (hx : evR ρ x = some v) (hk : H[k0]? = some (.blk mb (.map es))) (hH : H.set k0 (.blk mb (.map es')) = H') (hd : dOK N dst = true)
    (k : WO X N B M (some H :: U) ops rest (putR dst undef ρ) H' K) : WO X N B M U ops (⟨dst, .mapUpdate t m i x, ty, pos, af, gd⟩ :: rest) ρ H K := by
  refine WO.step (C := fun v H1 => v = undef ∧ H1 = H') (some H) (.inr rfl) hw (fun t' h hk' hh hb => ?_) hd (fun v H1 e => by rw [e.1, e.2]; exact k)
  obtain ⟨p1, p2⟩ := put_block (o' := .map es') hh hb hk
  rw [hH] at p2
  refine ⟨0, undef, _, _, fun _ _ => ?_, p1, p2, rfl, rfl⟩
  show (iUpdate X.P t (ev X.G t' m) (ev X.G t' i) (ev X.G t' x) h).map (undef, ·) = _
  rw [evR_ev hm hk', evR_ev hi hk', evR_ev hx hk', hF.h h mb (hb.at hk).2.1]
  rfl
theorem WO.delF (k0 : Nat) {t : TypeId} {args : Array Operand} {ts : Array TypeId} {mb : Nat} {es es' : List (Value × Value)} {key : Value} {H' : List Ent} (hF : DelF X t es key es') (hw : iwR ops gd ρ = some true) (ha : evL ρ args.toList = some [.map (some mb), key]) (ht : ts[0]? = some t) (hk : H[k0]? = some (.blk mb (.map es))) (hH : H.set k0 (.blk mb (.map es')) = H') (hd : dOK N dst = true)
    (k : WO X N B M (some H :: U) ops rest (putR dst (.tuple #[]) ρ) H' K) : WO X N B M U ops (⟨dst, .call { callee := .builtin .delete, args := args, argTypes := ts }, ty, pos, af, gd⟩ :: rest) ρ H K := by
  refine WO.step (C := fun v H1 => v = .tuple #[] ∧ H1 = H') (some H) (.inr rfl) hw (fun t' h hk' hh hb => ?_) hd (fun v H1 e => by rw [e.1, e.2]; exact k)
  obtain ⟨p1, p2⟩ := put_block (o' := .map es') hh hb hk
  rw [hH] at p2
  refine ⟨0, .tuple #[], _, _, fun _ _ => ?_, p1, p2, rfl, rfl⟩
  show iBuiltin2 X.P .delete ts ty (args.toList.map (ev X.G t')) h = _
  rw [evL_ev hk' ha]
  show (ts[0]?).bind _ = _
  rw [ht]
  exact hF.h h mb (hb.at hk).2.1
end
end Go.Ideal
