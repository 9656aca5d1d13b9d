/- The ideal machine, its first part: values, memory, operations, each kept by the model. -/
import Derived.WalkKit
import Derived.Below
import Derived.MapKept
import Derived.Laws.MakeOwn
import Derived.Laws.Tables
import Derived.Lib.ConvBytes
import Derived.Laws.BytesString
/- The ideal machine: tries, ideal heaps, the relation between an ideal value and the model's value. -/
namespace Go.Ideal
open Go

/-! ### tries -/
inductive Tr (α : Type) where
  | nil
  | node (l : Tr α) (v : Option α) (r : Tr α)

namespace Tr
variable {α : Type}
def get : Tr α → Nat → Option α
  | .nil, _ => none
  | .node l v r, n => bif Nat.beq n 0 then v else bif Nat.beq (n % 2) 1 then l.get (n / 2) else r.get (n / 2 - 1)
def left : Tr α → Tr α
  | .nil => .nil
  | .node l _ _ => l
def right : Tr α → Tr α
  | .nil => .nil
  | .node _ _ r => r
def here : Tr α → Option α
  | .nil => none
  | .node _ v _ => v
def setF (f : Nat) : Tr α → Nat → α → Tr α :=
  Nat.rec (fun t _ _ => t) (fun _ ih t n a => bif Nat.beq n 0 then .node t.left (some a) t.right
    else bif Nat.beq (n % 2) 1 then .node (ih t.left (n / 2) a) t.here t.right else .node t.left t.here (ih t.right (n / 2 - 1) a)) f
def set (t : Tr α) (n : Nat) (a : α) : Tr α := setF (n + 1) t n a

theorem get_parts (t : Tr α) (n : Nat) : t.get n = bif Nat.beq n 0 then t.here else bif Nat.beq (n % 2) 1 then t.left.get (n / 2) else t.right.get (n / 2 - 1) := by
  cases t with
  | nil => simp only [get, here, left, right]; cases Nat.beq n 0 <;> cases Nat.beq (n % 2) 1 <;> rfl
  | node l v r => rfl
theorem get_setF (f : Nat) : ∀ (t : Tr α) (n m : Nat) (a : α), n < f → (setF f t n a).get m = if m = n then some a else t.get m := by
  induction f with
  | zero => intro t n m a h; omega
  | succ f ih =>
    intro t n m a h
    have e : setF (f + 1) t n a = bif Nat.beq n 0 then .node t.left (some a) t.right
      else bif Nat.beq (n % 2) 1 then .node (setF f t.left (n / 2) a) t.here t.right else .node t.left t.here (setF f t.right (n / 2 - 1) a) := rfl
    rw [e, get_parts t m]
    by_cases hn : n = 0
    · subst hn
      rw [show Nat.beq 0 0 = true from rfl]
      simp only [cond_true, get]
      cases hmb : Nat.beq m 0 with
      | true => simp [Nat.eq_of_beq_eq_true hmb]
      | false =>
        have hm : m ≠ 0 := fun e => by rw [e] at hmb; cases hmb
        simp only [cond_false, if_neg hm]
    · have hnb : Nat.beq n 0 = false := by cases hb : Nat.beq n 0 with | false => rfl | true => exact absurd (Nat.eq_of_beq_eq_true hb) hn
      rw [hnb]
      by_cases ho : n % 2 = 1
      · have hob : Nat.beq (n % 2) 1 = true := by rw [ho]; rfl
        rw [hob]
        simp only [cond_false, cond_true, get]
        cases hmb : Nat.beq m 0 with
        | true =>
          have hm := Nat.eq_of_beq_eq_true hmb
          have : m ≠ n := by omega
          simp [this]
        | false =>
          have hm : m ≠ 0 := fun e => by rw [e] at hmb; cases hmb
          cases hmo : Nat.beq (m % 2) 1 with
          | true =>
            have hm1 := Nat.eq_of_beq_eq_true hmo
            simp only [cond_false, cond_true]
            rw [ih _ _ _ _ (by omega)]
            have : (m / 2 = n / 2) ↔ m = n := by omega
            simp [this]
          | false =>
            have hm1 : m % 2 ≠ 1 := fun e => by rw [e] at hmo; cases hmo
            have : m ≠ n := fun e => hm1 (e ▸ ho)
            simp [this]
      · have hob : Nat.beq (n % 2) 1 = false := by cases hb : Nat.beq (n % 2) 1 with | false => rfl | true => exact absurd (Nat.eq_of_beq_eq_true hb) ho
        rw [hob]
        simp only [cond_false, get]
        cases hmb : Nat.beq m 0 with
        | true =>
          have hm := Nat.eq_of_beq_eq_true hmb
          have : m ≠ n := by omega
          simp [this]
        | false =>
          have hm : m ≠ 0 := fun e => by rw [e] at hmb; cases hmb
          cases hmo : Nat.beq (m % 2) 1 with
          | true =>
            have hm1 := Nat.eq_of_beq_eq_true hmo
            have : m ≠ n := fun e => ho (e ▸ hm1)
            simp [this]
          | false =>
            have hm1 : m % 2 ≠ 1 := fun e => by rw [e] at hmo; cases hmo
            simp only [cond_false]
            rw [ih _ _ _ _ (by omega)]
            have : (m / 2 - 1 = n / 2 - 1) ↔ m = n := by omega
            simp [this]
theorem get_set (t : Tr α) (n m : Nat) (a : α) : (t.set n a).get m = if m = n then some a else t.get m := get_setF _ t n m a (Nat.lt_succ_self n)
end Tr

/-! ### the ideal heap. A slice's address bears in 'spot' whether its capacity is the real one (some 0) or at most the real one (none). -/
inductive IObj where
  | cells (c : List Value) (elem : TypeId) (fixed : Bool)
  | iter (s : ByteArray) (pos : Nat)
  | map (es : List (Value × Value))
  | dead

structure Heap where
  t : Tr IObj
  n : Nat

namespace Heap
def get (H : Heap) (i : Nat) : Option IObj := H.t.get i
def push (H : Heap) (o : IObj) : Heap := ⟨H.t.set H.n o, H.n + 1⟩
def put (H : Heap) (i : Nat) (o : IObj) : Heap := ⟨H.t.set i o, H.n⟩
def empty : Heap := ⟨.nil, 0⟩
theorem get_push (H : Heap) (o : IObj) (i : Nat) : (H.push o).get i = if i = H.n then some o else H.get i := Tr.get_set _ _ _ _
theorem get_put (H : Heap) (j : Nat) (o : IObj) (i : Nat) : (H.put j o).get i = if i = j then some o else H.get i := Tr.get_set _ _ _ _
end Heap

/-! ### the relation of values -/
structure Loc where
  blk : Nat
  off : Nat
  size : Nat
  esz : Nat

abbrev Inj := Nat → Option Loc

/-- ('.chan none' is the ideal machine's own: a value of which nothing is known; no operation of its takes it. '.chan (some 0)': a slice of length 0, wherever it leads: only 'len' takes it.) -/
inductive VRel (φ : Inj) : Value → Value → Prop where
  | junk (v : Value) : VRel φ (.chan none) v
  | empty (a : Option Addr) (c : Nat) : VRel φ (.chan (some 0)) (.slice a 0 c)
  | bool (b : Bool) : VRel φ (.bool b) (.bool b)
  | int (k : IntKind) (n : Int) : VRel φ (.int k n) (.int k n)
  | float (k : FloatKind) (n : Nat) : VRel φ (.float k n) (.float k n)
  | string (s : ByteArray) : VRel φ (.string s) (.string s)
  | pnil : VRel φ (.pointer none) (.pointer none)
  | ptr {b : Nat} {l : Loc} (o : Nat) (h : φ b = some l) : VRel φ (.pointer (some ⟨b, o, none⟩)) (.pointer (some ⟨l.blk, l.off + o, none⟩))
  | snil : VRel φ (.slice none 0 0) (.slice none 0 0)
  | sexact {b : Nat} {l : Loc} (o n c : Nat) (h : φ b = some l) : VRel φ (.slice (some ⟨b, o, some 0⟩) n c) (.slice (some ⟨l.blk, l.off + o, none⟩) n c)
  | sgrown {b : Nat} {l : Loc} (o n c c' : Nat) (h : φ b = some l) (hc : c ≤ c') (hs : l.off + o + c' * l.esz ≤ l.size) :
      VRel φ (.slice (some ⟨b, o, none⟩) n c) (.slice (some ⟨l.blk, l.off + o, none⟩) n c')
  | snone {b : Nat} {l : Loc} (o r p : Nat) (h : φ b = some l) : VRel φ (.slice (some ⟨b, o, none⟩) 0 0) (.slice (some ⟨r, p, none⟩) 0 0)
  | mnil : VRel φ (.map none) (.map none)
  | map {b : Nat} {l : Loc} (h : φ b = some l) : VRel φ (.map (some b)) (.map (some l.blk))
  | nilFunc : VRel φ .nilFunc .nilFunc
  | func (fn : Fn) (a b a' b' : Array Value) (ha : a.size = a'.size) (hb : b.size = b'.size)
      (h1 : ∀ (i : Nat) x y, a[i]? = some x → a'[i]? = some y → VRel φ x y) (h2 : ∀ (i : Nat) x y, b[i]? = some x → b'[i]? = some y → VRel φ x y) : VRel φ (.func fn a b) (.func fn a' b')
  | nilIface : VRel φ .nilIface .nilIface
  | iface (t : TypeId) {v v' : Value} (h : VRel φ v v') : VRel φ (.iface t v) (.iface t v')
  | agg (a a' : Array Value) (ha : a.size = a'.size) (h : ∀ (i : Nat) x y, a[i]? = some x → a'[i]? = some y → VRel φ x y) : VRel φ (.agg a) (.agg a')
  | tuple (a a' : Array Value) (ha : a.size = a'.size) (h : ∀ (i : Nat) x y, a[i]? = some x → a'[i]? = some y → VRel φ x y) : VRel φ (.tuple a) (.tuple a')

def ARel (φ : Inj) (a a' : Array Value) : Prop := a.size = a'.size ∧ ∀ (i : Nat) x y, a[i]? = some x → a'[i]? = some y → VRel φ x y

def Inj.le (φ ψ : Inj) : Prop := ∀ i l, φ i = some l → ψ i = some l
theorem Inj.le.refl (φ : Inj) : φ.le φ := fun _ _ h => h
theorem Inj.le.trans {φ ψ χ : Inj} (h : φ.le ψ) (k : ψ.le χ) : φ.le χ := fun i l e => k i l (h i l e)

theorem VRel.mono {φ ψ : Inj} (hl : φ.le ψ) {v v' : Value} (h : VRel φ v v') : VRel ψ v v' := by
  induction h with
  | junk v => exact .junk v
  | empty a c => exact .empty a c
  | bool b => exact .bool b
  | int k n => exact .int k n
  | float k n => exact .float k n
  | string s => exact .string s
  | pnil => exact .pnil
  | ptr o h => exact .ptr o (hl _ _ h)
  | snil => exact .snil
  | sexact o n c h => exact .sexact o n c (hl _ _ h)
  | sgrown o n c c' h hc hs => exact .sgrown o n c c' (hl _ _ h) hc hs
  | snone o r p h => exact .snone o r p (hl _ _ h)
  | mnil => exact .mnil
  | map h => exact .map (hl _ _ h)
  | nilFunc => exact .nilFunc
  | func fn a b a' b' ha hb _ _ i1 i2 => exact .func fn a b a' b' ha hb i1 i2
  | nilIface => exact .nilIface
  | iface t _ ih => exact .iface t ih
  | agg a a' ha _ ih => exact .agg a a' ha ih
  | tuple a a' ha _ ih => exact .tuple a a' ha ih

theorem ARel.mono {φ ψ : Inj} (hl : φ.le ψ) {v v' : Array Value} (h : ARel φ v v') : ARel ψ v v' := ⟨h.1, fun i x y hx hy => (h.2 i x y hx hy).mono hl⟩

theorem VRel.undef (φ : Inj) : VRel φ Go.undef Go.undef := .tuple _ _ rfl (fun i x y hx _ => by simp at hx)

theorem VRel.cells {φ : Inj} {v v' : Value} (h : VRel φ v v') (hj : v ≠ .chan none) : ARel φ v.cells v'.cells := by
  have one : ∀ {v v' : Value}, VRel φ v v' → ARel φ #[v] #[v'] := fun {v v'} h => ⟨rfl, fun i x y hx hy => by
    match i with
    | 0 => simp at hx hy; rw [← hx, ← hy]; exact h
    | i + 1 => simp at hx⟩
  cases h with
  | junk v => exact absurd rfl hj
  | empty a c => exact one (.empty a c)
  | agg a a' ha h => exact ⟨ha, h⟩
  | bool b => exact one (.bool b)
  | int k n => exact one (.int k n)
  | float k n => exact one (.float k n)
  | string s => exact one (.string s)
  | pnil => exact one .pnil
  | ptr o h => exact one (.ptr o h)
  | snil => exact one .snil
  | sexact o n c h => exact one (.sexact o n c h)
  | sgrown o n c c' h hc hs => exact one (.sgrown o n c c' h hc hs)
  | snone o r p h => exact one (.snone o r p h)
  | mnil => exact one .mnil
  | map h => exact one (.map h)
  | nilFunc => exact one .nilFunc
  | func fn a b a' b' ha hb h1 h2 => exact one (.func fn a b a' b' ha hb h1 h2)
  | nilIface => exact one .nilIface
  | iface t h => exact one (.iface t h)
  | tuple a a' ha h => exact one (.tuple a a' ha h)

/-- No address in it. -/
def noAddr : Nat → Value → Bool
  | _, .bool _ => true
  | _, .int _ _ => true
  | _, .float _ _ => true
  | _, .string _ => true
  | _, .pointer none => true
  | _, .slice none 0 0 => true
  | _, .map none => true
  | _, .nilFunc => true
  | _, .nilIface => true
  | n + 1, .iface _ v => noAddr n v
  | n + 1, .agg a => a.toList.all (noAddr n)
  | n + 1, .tuple a => a.toList.all (noAddr n)
  | _, _ => false

theorem arr_ext_of {a a' : Array Value} (ha : a.size = a'.size) (h : ∀ (i : Nat) x y, a[i]? = some x → a'[i]? = some y → x = y) : a = a' := by
  apply Array.ext ha
  intro i h1 h2
  exact h i _ _ (Array.getElem?_eq_getElem h1) (Array.getElem?_eq_getElem h2)

theorem VRel.same {φ : Inj} {v v' : Value} (h : VRel φ v v') : ∀ n, noAddr n v = true → v' = v := by
  induction h with
  | agg a a' ha _ ih =>
    intro n hn
    cases n with
    | zero => simp [noAddr] at hn
    | succ n =>
      simp only [noAddr, List.all_eq_true] at hn
      have : a = a' := arr_ext_of ha (fun i x y hx hy => (ih i x y hx hy n (hn x (by have := Array.mem_of_getElem? hx; simpa using this))).symm)
      rw [this]
  | tuple a a' ha _ ih =>
    intro n hn
    cases n with
    | zero => simp [noAddr] at hn
    | succ n =>
      simp only [noAddr, List.all_eq_true] at hn
      have : a = a' := arr_ext_of ha (fun i x y hx hy => (ih i x y hx hy n (hn x (by have := Array.mem_of_getElem? hx; simpa using this))).symm)
      rw [this]
  | iface t _ ih =>
    intro n hn
    cases n with
    | zero => simp [noAddr] at hn
    | succ n => simp only [noAddr] at hn; rw [ih n hn]
  | junk v => intro n hn; cases n <;> simp [noAddr] at hn
  | empty a c => intro n hn; cases n <;> simp [noAddr] at hn
  | ptr o h => intro n hn; cases n <;> simp [noAddr] at hn
  | sexact o n c h => intro m hn; cases m <;> simp [noAddr] at hn
  | sgrown o n c c' h hc hs => intro m hn; cases m <;> simp [noAddr] at hn
  | snone o r p h => intro m hn; cases m <;> simp [noAddr] at hn
  | func => intro m hn; cases m <;> simp [noAddr] at hn
  | map h => intro m hn; cases m <;> simp [noAddr] at hn
  | _ => intro _ _; rfl
end Go.Ideal

/- The ideal machine: the relation between an ideal heap and the model's memory, and how it is kept by reads, new blocks and writes. -/
namespace Go.Ideal
open Go

/-- Is it the type of a map? (Blocks of one map are never a part of a block.) -/
def mapElem (P : Program) (e : TypeId) : Bool :=
  match P.underlying e with
  | some (.map _ _) => true
  | _ => false

def ORel (P : Program) (φ : Inj) (hp : Array Obj) (l : Loc) : IObj → Prop
  | .cells c e fx => ∃ cur lo hi, hp[l.blk]? = some (.cells cur e (lo, hi)) ∧ cur.size = l.size ∧ (∀ i, P.info? e = some i → i.size = l.esz) ∧ l.off + c.length ≤ l.size ∧
      (∀ (k : Nat) x y, c[k]? = some x → cur[l.off + k]? = some y → VRel φ x y) ∧ (fx = false → ∀ k, l.off ≤ k → k < l.size → ¬ (lo ≤ k ∧ k < hi)) ∧ (mapElem P e = true → l.off = 0)
  | .iter s pos => hp[l.blk]? = some (.stringIter s pos) ∧ l.off = 0
  | .map L => ∃ es clock, hp[l.blk]? = some (.map es clock) ∧ es.size = L.length ∧ (∀ (j : Nat) p e, L[j]? = some p → es[j]? = some e → e.key = p.1 ∧ VRel φ p.2 e.val) ∧ MapKept.Stamped es clock
  | .dead => True

def wr : Option IObj → Bool
  | some (.cells _ _ false) => true
  | some (.iter _ _) => true
  | some (.map _) => true
  | _ => false
def lv : Option IObj → Bool
  | some (.cells _ _ _) => true
  | some (.iter _ _) => true
  | some (.map _) => true
  | _ => false

structure HRel (P : Program) (φ : Inj) (H : Heap) (hp : Array Obj) : Prop where
  obj : ∀ i l o, φ i = some l → H.get i = some o → ORel P φ hp l o
  dom : ∀ i l, φ i = some l → i < H.n
  low : ∀ i l, φ i = some l → l.blk < hp.size
  inj : ∀ i j l m, φ i = some l → φ j = some m → i ≠ j → wr (H.get i) = true → lv (H.get j) = true → l.blk ≠ m.blk

structure Ext (φ : Inj) (H : Heap) (w : World) (φ' : Inj) (H' : Heap) (w' : World) : Prop where
  le : φ.le φ'
  n : H.n ≤ H'.n
  wr : ∀ i, i < H.n → wr (H'.get i) = true → wr (H.get i) = true
  new : ∀ i l, φ' i = some l → φ i = none → H.n ≤ i ∧ (w.heap.size ≤ l.blk ∨ ∃ j m, φ j = some m ∧ Ideal.wr (H.get j) = true ∧ m.blk = l.blk)
  os : w'.os = w.os
  tape : w'.tape = w.tape
  output : w'.output = w.output
  size : w.heap.size ≤ w'.heap.size
  frame : ∀ b, b < w.heap.size → (∀ i l, φ i = some l → Ideal.wr (H.get i) = true → l.blk ≠ b) → w'.heap[b]? = w.heap[b]?

theorem Ext.refl (φ : Inj) (H : Heap) (w : World) : Ext φ H w φ H w :=
  ⟨Inj.le.refl φ, Nat.le_refl _, fun _ _ h => h, fun i l h k => (by rw [h] at k; cases k), rfl, rfl, rfl, Nat.le_refl _, fun _ _ _ => rfl⟩

theorem Ext.trans {φ φ' φ'' : Inj} {H H' H'' : Heap} {w w' w'' : World} (hd : ∀ i l, φ i = some l → i < H.n) (h : Ext φ H w φ' H' w') (k : Ext φ' H' w' φ'' H'' w'') : Ext φ H w φ'' H'' w'' := by
  refine ⟨h.le.trans k.le, Nat.le_trans h.n k.n, fun i hi hw => h.wr i hi (k.wr i (Nat.lt_of_lt_of_le hi h.n) hw), ?_, k.os.trans h.os, k.tape.trans h.tape, k.output.trans h.output, Nat.le_trans h.size k.size, ?_⟩
  · intro i l h2 h0
    cases h1 : φ' i with
    | some l' =>
      have e := k.le i l' h1
      rw [h2] at e
      cases e
      exact h.new i l h1 h0
    | none =>
      obtain ⟨hn, hor⟩ := k.new i l h2 h1
      refine ⟨Nat.le_trans h.n hn, ?_⟩
      rcases hor with hor | ⟨j, m, hj, hw, he⟩
      · exact .inl (Nat.le_trans h.size hor)
      · cases hj0 : φ j with
        | some m' =>
          have e := h.le j m' hj0
          rw [hj] at e
          cases e
          exact .inr ⟨j, m, hj0, h.wr j (hd j m hj0) hw, he⟩
        | none =>
          have := (h.new j m hj hj0).2
          rwa [he] at this
  · intro b hb hc
    rw [k.frame b (Nat.lt_of_lt_of_le hb h.size) ?_, h.frame b hb hc]
    intro i l hi hw
    cases h0 : φ i with
    | some l' =>
      have e := h.le i l' h0
      rw [hi] at e
      cases e
      exact hc i l h0 (h.wr i (hd i l h0) hw)
    | none =>
      rcases (h.new i l hi h0).2 with hor | ⟨j, m, hj, hw, he⟩
      · omega
      · rw [← he]; exact hc j m hj hw

theorem Ext.drew (φ : Inj) (H : Heap) (w : World) : Ext φ H w φ H w.drew :=
  ⟨Inj.le.refl φ, Nat.le_refl _, fun _ _ h => h, fun i l h k => (by rw [h] at k; cases k), rfl, rfl, rfl, Nat.le_refl _, fun _ _ _ => rfl⟩

/-- A live row's cell. -/
theorem HRel.cell {P : Program} {φ : Inj} {H : Heap} {w : World} (h : HRel P φ H w.heap) {b o : Nat} {l : Loc} {c : List Value} {e : TypeId} {fx : Bool} {x : Value} (hb : φ b = some l)
    (hg : H.get b = some (.cells c e fx)) (hx : c[o]? = some x) : ∃ y, w.cell? ⟨l.blk, l.off + o, none⟩ = some y ∧ VRel φ x y := by
  obtain ⟨cur, lo, hi, h1, h2, _, h4, h5, _⟩ := h.obj b l _ hb hg
  have hlt : o < c.length := by
    rcases Nat.lt_or_ge o c.length with h' | h'
    · exact h'
    · rw [List.getElem?_eq_none h'] at hx; cases hx
  have hlt2 : l.off + o < cur.size := by omega
  refine ⟨cur[l.off + o], ?_, h5 o x _ hx (Array.getElem?_eq_getElem hlt2)⟩
  simp [World.cell?, h1, hlt2]

/-- More of the ideal: a block that the model has made anew. -/
def Inj.put (φ : Inj) (i : Nat) (l : Loc) : Inj := fun j => if j = i then some l else φ j

theorem Inj.put_le {φ : Inj} {i : Nat} {l : Loc} (h : φ i = none) : φ.le (φ.put i l) := by
  intro j m hj
  unfold Inj.put
  split
  · rename_i e; rw [e, h] at hj; cases hj
  · exact hj
theorem Inj.put_same (φ : Inj) (i : Nat) (l : Loc) : φ.put i l i = some l := if_pos rfl

theorem HRel.fresh {P : Program} {φ : Inj} {H : Heap} {hp : Array Obj} (h : HRel P φ H hp) : φ H.n = none := by
  cases hf : φ H.n with
  | none => rfl
  | some l => exact absurd (h.dom _ _ hf) (Nat.lt_irrefl _)

theorem ORel.mono {P : Program} {φ ψ : Inj} {hp hp' : Array Obj} {l : Loc} {o : IObj} (hl : φ.le ψ) (hb : hp'[l.blk]? = hp[l.blk]?) (h : ORel P φ hp l o) : ORel P ψ hp' l o := by
  cases o with
  | cells c e fx =>
    obtain ⟨cur, lo, hi, h1, h2, h3, h4, h5, h6⟩ := h
    exact ⟨cur, lo, hi, hb.trans h1, h2, h3, h4, fun k x y hx hy => (h5 k x y hx hy).mono hl, h6⟩
  | iter s pos => exact ⟨hb.trans h.1, h.2⟩
  | map L =>
    obtain ⟨es, clock, h1, h2, h3, h4⟩ := h
    exact ⟨es, clock, hb.trans h1, h2, fun j p e hp he => ⟨(h3 j p e hp he).1, (h3 j p e hp he).2.mono hl⟩, h4⟩
  | dead => trivial

/-- A NEW BLOCK in both. -/
theorem HRel.alloc {P : Program} {φ : Inj} {H : Heap} {w : World} (h : HRel P φ H w.heap) (o : IObj) (ob : Obj) (l : Loc) (hl : l.blk = w.heap.size)
    (ho : ORel P (φ.put H.n l) (w.alloc ob).heap l o) :
    HRel P (φ.put H.n l) (H.push o) (w.alloc ob).heap ∧ Ext φ H w (φ.put H.n l) (H.push o) (w.alloc ob) := by
  have hfr := h.fresh
  have hle : φ.le (φ.put H.n l) := Inj.put_le hfr
  have hold : ∀ b, b < w.heap.size → (w.alloc ob).heap[b]? = w.heap[b]? := fun b hb => by
    show (w.heap.push ob)[b]? = _
    rw [Array.getElem?_push, if_neg (by omega)]
  have hsz : (w.alloc ob).heap.size = w.heap.size + 1 := by simp
  refine ⟨⟨?_, ?_, ?_, ?_⟩, ⟨hle, Nat.le_succ _, ?_, ?_, rfl, rfl, rfl, by omega, fun b hb _ => hold b hb⟩⟩
  · intro i m oo hi hg
    rw [Heap.get_push] at hg
    unfold Inj.put at hi
    by_cases e : i = H.n
    · rw [if_pos e] at hi hg
      cases hi; cases hg
      exact ho
    · rw [if_neg e] at hi hg
      exact (h.obj i m oo hi hg).mono hle (hold _ (h.low i m hi))
  · intro i m hi
    unfold Inj.put at hi
    by_cases e : i = H.n
    · rw [e]; exact Nat.lt_succ_self _
    · rw [if_neg e] at hi
      exact Nat.lt_succ_of_lt (h.dom i m hi)
  · intro i m hi
    unfold Inj.put at hi
    by_cases e : i = H.n
    · rw [if_pos e] at hi; cases hi; omega
    · rw [if_neg e] at hi
      have := h.low i m hi
      omega
  · intro i j m m' hi hj hne hw hv
    unfold Inj.put at hi hj
    rw [Heap.get_push] at hw hv
    by_cases e : i = H.n
    · rw [if_pos e] at hi; cases hi
      have hj' : j ≠ H.n := fun e' => hne (e.trans e'.symm)
      rw [if_neg hj'] at hj
      have := h.low j m' hj
      omega
    · rw [if_neg e] at hi hw
      by_cases e' : j = H.n
      · rw [if_pos e'] at hj; cases hj
        have := h.low i m hi
        omega
      · rw [if_neg e'] at hj hv
        exact h.inj i j m m' hi hj hne hw hv
  · intro i hi hw
    rw [Heap.get_push, if_neg (by omega)] at hw
    exact hw
  · intro i m hi h0
    unfold Inj.put at hi
    by_cases e : i = H.n
    · rw [if_pos e] at hi; cases hi
      exact ⟨by omega, .inl (by omega)⟩
    · rw [if_neg e, h0] at hi; cases hi

def _root_.Go.World.putI (w : World) (b : Nat) (o : Obj) : World := { w with heap := w.heap.setIfInBounds b o }

/-- A WRITE to one writable block in both. -/
theorem HRel.write {P : Program} {φ : Inj} {H : Heap} {w : World} (h : HRel P φ H w.heap) {i : Nat} {l : Loc} (hi : φ i = some l) (hw : wr (H.get i) = true) (o : IObj) (ob : Obj) (ho : ORel P φ (w.putI l.blk ob).heap l o) :
    HRel P φ (H.put i o) (w.putI l.blk ob).heap ∧ Ext φ H w φ (H.put i o) (w.putI l.blk ob) := by
  have hoth : ∀ b, b ≠ l.blk → (w.putI l.blk ob).heap[b]? = w.heap[b]? := fun b hb => by
    show (w.heap.setIfInBounds l.blk ob)[b]? = _
    rw [Array.getElem?_setIfInBounds]
    rw [if_neg (fun e => hb e.symm)]
  have hsz : (w.putI l.blk ob).heap.size = w.heap.size := by simp [World.putI]
  refine ⟨⟨?_, h.dom, ?_, ?_⟩, ⟨Inj.le.refl φ, Nat.le_refl _, ?_, fun j m hj h0 => (by rw [hj] at h0; cases h0), rfl, rfl, rfl, by omega, ?_⟩⟩
  · intro j m oo hj hg
    rw [Heap.get_put] at hg
    by_cases e : j = i
    · rw [if_pos e] at hg; cases hg
      rw [e, hi] at hj; cases hj
      exact ho
    · rw [if_neg e] at hg
      cases oo with
      | dead => trivial
      | cells c t fx =>
        have := h.inj i j l m hi hj (fun e' => e e'.symm) hw (by rw [hg]; rfl)
        exact (h.obj j m _ hj hg).mono (Inj.le.refl φ) (hoth _ (fun e' => this e'.symm))
      | iter s pos =>
        have := h.inj i j l m hi hj (fun e' => e e'.symm) hw (by rw [hg]; rfl)
        exact (h.obj j m _ hj hg).mono (Inj.le.refl φ) (hoth _ (fun e' => this e'.symm))
      | map L =>
        have := h.inj i j l m hi hj (fun e' => e e'.symm) hw (by rw [hg]; rfl)
        exact (h.obj j m _ hj hg).mono (Inj.le.refl φ) (hoth _ (fun e' => this e'.symm))
  · intro j m hj
    have := h.low j m hj
    omega
  · intro j k m m' hj hk hne hwj hvk
    rw [Heap.get_put] at hwj hvk
    refine h.inj j k m m' hj hk hne ?_ ?_
    · by_cases e : j = i
      · rw [e]; exact hw
      · rw [if_neg e] at hwj; exact hwj
    · by_cases e : k = i
      · rw [e]
        revert hw
        cases hg : H.get i with
        | none => intro hw; cases hw
        | some q => cases q <;> intro hw <;> first | rfl | cases hw
      · rw [if_neg e] at hvk; exact hvk
  · intro j hj hwj
    rw [Heap.get_put] at hwj
    by_cases e : j = i
    · rw [e]; exact hw
    · rw [if_neg e] at hwj; exact hwj
  · intro b hb hc
    exact hoth b (fun e => hc i l hi hw e.symm)

/-- A block that is given up by the ideal machine: nothing is known of it any more. -/
theorem HRel.kill {P : Program} {φ : Inj} {H : Heap} {hp : Array Obj} (h : HRel P φ H hp) (i : Nat) : HRel P φ (H.put i .dead) hp := by
  refine ⟨?_, h.dom, h.low, ?_⟩
  · intro j m oo hj hg
    rw [Heap.get_put] at hg
    by_cases e : j = i
    · rw [if_pos e] at hg; cases hg; trivial
    · rw [if_neg e] at hg; exact h.obj j m oo hj hg
  · intro j k m m' hj hk hne hwj hvk
    rw [Heap.get_put] at hwj hvk
    by_cases e : j = i
    · rw [if_pos e] at hwj; cases hwj
    · rw [if_neg e] at hwj
      by_cases e' : k = i
      · rw [if_pos e'] at hvk; cases hvk
      · rw [if_neg e'] at hvk; exact h.inj j k m m' hj hk hne hwj hvk
end Go.Ideal

/- The ideal machine: its operations on memory, each met by the model's. -/
namespace Go.Ideal
open Go

def chk {α : Type} (b : Bool) (k : Option α) : Option α := bif b then k else none
theorem chk_some {α : Type} {b : Bool} {k : Option α} {a : α} (h : chk b k = some a) : b = true ∧ k = some a := by
  cases b with
  | true => exact ⟨rfl, h⟩
  | false => cases h
theorem bind_some {α β : Type} {x : Option α} {f : α → Option β} {b : β} (h : x.bind f = some b) : ∃ a, x = some a ∧ f a = some b := by
  cases x with
  | none => cases h
  | some a => exact ⟨a, rfl, h⟩

/-! ### what needs no memory -/
def pureRun {α : Type} (P : Program) : Sem α → Option α
  | .pure a => some a
  | .program k => pureRun P (k P)
  | _ => none
theorem pureRun_run {α : Type} {P : Program} {s : Sem α} {a : α} (h : pureRun P s = some a) (w : World) : s.run P w = .ok a w := by
  induction s with
  | pure b => cases h; rfl
  | program k ih => exact ih P h
  | _ => cases h

/-! ### shapes -/
def asPtr : Value → Option (Nat × Nat)
  | .pointer (some ⟨b, o, none⟩) => some (b, o)
  | _ => none
theorem asPtr_some {v : Value} {b o : Nat} (h : asPtr v = some (b, o)) : v = .pointer (some ⟨b, o, none⟩) := by
  unfold asPtr at h
  split at h
  · cases h; rfl
  · cases h
def rowOf (H : Heap) (b : Nat) : Option (List Value × TypeId × Bool) :=
  match H.get b with
  | some (.cells c e f) => some (c, e, f)
  | _ => none
theorem rowOf_some {H : Heap} {b : Nat} {c : List Value} {e : TypeId} {f : Bool} (h : rowOf H b = some (c, e, f)) : H.get b = some (.cells c e f) := by
  unfold rowOf at h
  split at h
  · rename_i hg; cases h; exact hg
  · cases h
def isAggD : TypeDesc → Bool
  | .struct _ | .array _ _ => true
  | _ => false

theorem VRel.ptr_inv {φ : Inj} {b o : Nat} {v' : Value} (h : VRel φ (.pointer (some ⟨b, o, none⟩)) v') : ∃ l, φ b = some l ∧ v' = .pointer (some ⟨l.blk, l.off + o, none⟩) := by
  cases h with
  | ptr _ h => exact ⟨_, h, rfl⟩

theorem run_isAgg {P : Program} {t : TypeId} {d : TypeDesc} (h : P.underlying t = some d) (w : World) : (isAgg t).run P w = .ok (isAggD d) w := by
  simp only [isAgg, Sem.run_bind, run_underlying h, Result.andThen_ok]
  cases d <;> rfl

theorem addr_add (b o n : Nat) : Addr.add ⟨b, o, none⟩ n = ⟨b, o + n, none⟩ := Addr.add_lit b o n

/-! ### a load -/
def cut (c : List Value) (o n : Nat) : List Value := (c.drop o).take n
def iLoad (P : Program) (t : TypeId) (v : Value) (H : Heap) : Option Value :=
  (asPtr v).bind fun p => (rowOf H p.1).bind fun r => (P.underlying t).bind fun d =>
    bif isAggD d then (P.info? t).bind fun i => chk (Nat.ble (p.2 + i.size) r.1.length) (some (.agg (cut r.1 p.2 i.size).toArray)) else r.1[p.2]?

theorem cut_get {c : List Value} {o n : Nat} (j : Nat) : (cut c o n)[j]? = if j < n then c[o + j]? else none := by
  unfold cut
  rw [List.getElem?_take]
  split
  · rw [List.getElem?_drop]
  · rfl
theorem cut_length {c : List Value} {o n : Nat} (h : o + n ≤ c.length) : (cut c o n).length = n := by
  unfold cut
  rw [List.length_take, List.length_drop]
  omega

/-- The real cells behind a piece of an ideal row. -/
theorem HRel.piece {P : Program} {φ : Inj} {H : Heap} {w : World} (h : HRel P φ H w.heap) {b o n : Nat} {l : Loc} {c : List Value} {e : TypeId} {fx : Bool} (hb : φ b = some l)
    (hg : H.get b = some (.cells c e fx)) (hn : o + n ≤ c.length) :
    ∃ ys : List Value, ys.length = n ∧ (∀ (j : Nat) y, ys[j]? = some y → w.cell? ⟨l.blk, l.off + o + j, none⟩ = some y) ∧ (∀ (j : Nat) x y, (cut c o n)[j]? = some x → ys[j]? = some y → VRel φ x y) := by
  obtain ⟨cur, lo, hi, h1, h2, _, h4, h5, _⟩ := h.obj b l _ hb hg
  refine ⟨cut cur.toList (l.off + o) n, cut_length (by simp; omega), ?_, ?_⟩
  · intro j y hj
    rw [cut_get] at hj
    split at hj
    · simp only [World.cell?, h1]
      simpa using hj
    · cases hj
  · intro j x y hx hy
    rw [cut_get] at hx hy
    split at hx
    · rename_i hlt
      rw [if_pos hlt] at hy
      refine h5 (o + j) x y hx ?_
      rw [← Array.getElem?_toList]
      rw [show l.off + (o + j) = l.off + o + j from by omega]
      exact hy
    · cases hx

theorem load_sim {P : Program} {φ : Inj} {H : Heap} {w : World} {t : TypeId} {v v' x : Value} (h : HRel P φ H w.heap) (hv : VRel φ v v') (he : iLoad P t v H = some x) :
    ∃ x', (Instr.loadAt t v').run P w = .ok x' w ∧ VRel φ x x' := by
  obtain ⟨⟨b, o⟩, hp, he⟩ := bind_some he
  obtain ⟨⟨c, e, fx⟩, hr, he⟩ := bind_some he
  obtain ⟨d, hd, he⟩ := bind_some he
  have hg := rowOf_some hr
  rw [asPtr_some hp] at hv
  obtain ⟨l, hl, rfl⟩ := hv.ptr_inv
  have hrun : (Instr.loadAt t (.pointer (some ⟨l.blk, l.off + o, none⟩))).run P w = (loadVar t ⟨l.blk, l.off + o, none⟩).run P w := by
    simp [Instr.loadAt, Instr.sureAddr]
  rw [hrun]
  unfold loadVar
  rw [Sem.run_bind, run_isAgg hd, Result.andThen_ok]
  cases ha : isAggD d with
  | true =>
    rw [ha, cond_true] at he
    obtain ⟨i, hi, he⟩ := bind_some he
    obtain ⟨hle, he⟩ := chk_some he
    cases he
    obtain ⟨ys, hy1, hy2, hy3⟩ := h.piece hl hg (Nat.le_of_ble_eq_true hle)
    refine ⟨.agg ys.toArray, ?_, .agg _ _ ?_ ?_⟩
    · have hs : (sizeOf t).run P w = .ok ys.length w := by simp [sizeOf, typeInfo, hi, hy1]
      have hld := run_loadCells_list (P := P) w ⟨l.blk, l.off + o, none⟩ ys (fun j y hj => by rw [addr_add]; exact hy2 j y hj)
      simp only [if_true, Sem.run_bind, hs, Result.andThen_ok, hld, Sem.run_pure]
    · simp [cut_length (Nat.le_of_ble_eq_true hle), hy1]
    · intro j a b ha hb
      exact hy3 j a b (by simpa using ha) (by simpa using hb)
  | false =>
    rw [ha, cond_false] at he
    obtain ⟨y, hy, hxy⟩ := h.cell hl hg he
    refine ⟨y, ?_, hxy⟩
    simp [hy]

/-! ### a store -/
def oneC : Value → Bool
  | .agg _ | .tuple _ | .chan _ => false
  | _ => true
def vcells : Value → List Value
  | .agg a => a.toList
  | v => [v]
theorem vcells_eq (v : Value) : vcells v = v.cells.toList := by cases v <;> rfl
def splice (c : List Value) (o : Nat) (vs : List Value) : List Value := c.take o ++ vs ++ c.drop (o + vs.length)

def iStore (P : Program) (t : TypeId) (v x : Value) (H : Heap) : Option Heap :=
  (asPtr v).bind fun p => (rowOf H p.1).bind fun r => (P.info? t).bind fun i =>
    chk (!r.2.2 && Nat.beq (vcells x).length i.size && (vcells x).all oneC && Nat.ble (p.2 + (vcells x).length) r.1.length)
      (some (H.put p.1 (.cells (splice r.1 p.2 (vcells x)) r.2.1 false)))

theorem VRel.oneC {φ : Inj} {v v' : Value} (h : VRel φ v v') (ho : oneC v = true) : v'.oneCell' = true := by
  cases h <;> first | rfl | cases ho

theorem splice_get {c vs : List Value} {o : Nat} (h : o + vs.length ≤ c.length) (k : Nat) : (splice c o vs)[k]? = if k < o then c[k]? else if k < o + vs.length then vs[k - o]? else c[k]? := by
  unfold splice
  have ht : (c.take o).length = o := by rw [List.length_take]; omega
  by_cases h1 : k < o
  · rw [if_pos h1, List.append_assoc, List.getElem?_append_left (by omega), List.getElem?_take, if_pos h1]
  · rw [if_neg h1, List.append_assoc, List.getElem?_append_right (by omega), ht]
    by_cases h2 : k < o + vs.length
    · rw [if_pos h2, List.getElem?_append_left (by omega)]
    · rw [if_neg h2, List.getElem?_append_right (by omega), List.getElem?_drop]
      congr 1
      omega
theorem splice_length {c vs : List Value} {o : Nat} (h : o + vs.length ≤ c.length) : (splice c o vs).length = c.length := by
  unfold splice
  simp only [List.length_append, List.length_take, List.length_drop]
  omega

/-- Stores into a row whose cells there are not frozen. -/
theorem run_stores {P : Program} (g o : Nat) (e : TypeId) (lo hi : Nat) : ∀ (vs : List Value) (i : Nat) (cur : Array Value) (w : World), w.heap[g]? = some (.cells cur e (lo, hi)) → o + i + vs.length ≤ cur.size →
    (∀ k, o + i ≤ k → k < o + i + vs.length → ¬ (lo ≤ k ∧ k < hi)) → (∀ v ∈ vs, v.oneCell' = true) →
    (storeCells ⟨g, o, none⟩ vs i).run P w = .ok () (w.putI g (.cells (splice cur.toList (o + i) vs).toArray e (lo, hi)))
  | [], i, cur, w, hg, _, _, _ => by
    have : w.putI g (.cells (splice cur.toList (o + i) []).toArray e (lo, hi)) = w := by
      have hc : (splice cur.toList (o + i) []).toArray = cur := by simp [splice]
      rw [hc]
      unfold World.putI
      have hlt := (Array.getElem?_eq_some_iff.1 hg).1
      have : w.heap.setIfInBounds g (.cells cur e (lo, hi)) = w.heap := by
        apply Array.ext_getElem?
        intro j
        rw [Array.getElem?_setIfInBounds]
        split
        · rename_i hj; subst hj; exact hg.symm
        · rfl
      rw [this]
    rw [this]
    rfl
  | v :: rest, i, cur, w, hg, hl, hf, h1 => by
    have hlt := (Array.getElem?_eq_some_iff.1 hg).1
    have hone := h1 v (List.mem_cons_self ..)
    simp only [List.length_cons] at hl hf
    have hcell : w.cell? ⟨g, o + i, none⟩ = some (cur[o + i]'(by omega)) := by
      simp only [World.cell?, hg]
      exact Array.getElem?_eq_getElem (by omega)
    have hfz : w.frozen? ⟨g, o + i, none⟩ = false := by
      have := hf (o + i) (Nat.le_refl _) (by omega)
      simp only [World.frozen?, hg]
      simpa using this
    have hset : (w.setCell ⟨g, o + i, none⟩ v).heap[g]? = some (.cells (cur.setIfInBounds (o + i) v) e (lo, hi)) := by
      simp [World.setCell, Array.getElem?_modify, hg]
    have ih := run_stores (P := P) g o e lo hi rest (i + 1) (cur.setIfInBounds (o + i) v) (w.setCell ⟨g, o + i, none⟩ v) hset (by simp; omega) (fun k h3 h4 => hf k (by omega) (by omega)) (fun u hu => h1 u (List.mem_cons_of_mem _ hu))
    simp only [storeCells, Sem.run_bind, addr_add]
    rw [run_store P w _ v _ hone]
    simp only [hcell, hfz, Bool.false_eq_true, if_false, Result.andThen_ok]
    rw [ih]
    congr 1
    unfold World.putI World.setCell
    simp only
    congr 1
    apply Array.ext_getElem?
    intro j
    rw [Array.getElem?_setIfInBounds, Array.getElem?_setIfInBounds]
    by_cases hj : g = j
    · subst hj
      simp only [if_true, Array.size_modify]
      rw [if_pos hlt, if_pos hlt]
      congr 2
      apply Array.ext'
      apply List.ext_getElem?
      intro k
      simp only [Array.toList_setIfInBounds]
      rw [splice_get (by simp; omega), splice_get (by simp; omega)]
      simp only [List.length_cons]
      by_cases k1 : k < o + i
      · rw [if_pos (by omega), if_pos k1]
        rw [List.getElem?_set]
        rw [if_neg (by omega)]
      · rw [if_neg k1]
        by_cases k2 : k = o + i
        · subst k2
          rw [if_pos (by omega), if_pos (by omega), List.getElem?_set, if_pos rfl]
          simp
          omega
        · rw [if_neg (by omega)]
          by_cases k3 : k < o + (i + 1) + rest.length
          · rw [if_pos k3, if_pos (by omega)]
            rw [show k - (o + i) = (k - (o + (i + 1))) + 1 from by omega]
            simp
          · rw [if_neg k3, if_neg (by omega), List.getElem?_set, if_neg (by omega)]
    · rw [if_neg hj, if_neg hj, Array.getElem?_modify, if_neg hj]

/-- A piece of a writable row is written in both. -/
theorem HRel.storeRow {P : Program} {φ : Inj} {H : Heap} {w : World} (h : HRel P φ H w.heap) {b o : Nat} {l : Loc} {c : List Value} {e : TypeId} {vs vs' : List Value} (hb : φ b = some l)
    (hg : H.get b = some (.cells c e false)) (hn : o + vs.length ≤ c.length) (hlen : vs'.length = vs.length) (hvs : ∀ (j : Nat) x y, vs[j]? = some x → vs'[j]? = some y → VRel φ x y)
    (h1 : ∀ v ∈ vs', v.oneCell' = true) :
    ∃ w', (storeCells ⟨l.blk, l.off + o, none⟩ vs').run P w = .ok () w' ∧ HRel P φ (H.put b (.cells (splice c o vs) e false)) w'.heap ∧ Ext φ H w φ (H.put b (.cells (splice c o vs) e false)) w' := by
  obtain ⟨cur, lo, hi, g1, g2, g3, g4, g5, g6, g7⟩ := h.obj b l _ hb hg
  have hfree := g6 rfl
  have hcur : l.off + o + vs.length ≤ cur.size := by omega
  have hrun := run_stores (P := P) l.blk (l.off + o) e lo hi vs' 0 cur w g1 (by omega) (fun k h3 h4 => hfree k (by omega) (by omega)) h1
  simp only [Nat.add_zero] at hrun
  have hlt := (Array.getElem?_eq_some_iff.1 g1).1
  have hspl : l.off + o + vs'.length ≤ cur.toList.length := by have := Array.length_toList (xs := cur); omega
  have ho : ORel P φ (w.putI l.blk (.cells (splice cur.toList (l.off + o) vs').toArray e (lo, hi))).heap l (.cells (splice c o vs) e false) := by
    refine ⟨(splice cur.toList (l.off + o) vs').toArray, lo, hi, by simp [World.putI, hlt], by simp [splice_length hspl, g2], g3, by rw [splice_length hn]; exact g4, ?_, fun _ => hfree, g7⟩
    intro k x y hx hy
    rw [List.getElem?_toArray, splice_get hspl] at hy
    rw [splice_get hn] at hx
    by_cases k1 : k < o
    · rw [if_pos k1] at hx
      rw [if_pos (by omega)] at hy
      exact g5 k x y hx (by simpa using hy)
    · rw [if_neg k1] at hx
      rw [if_neg (by omega)] at hy
      by_cases k2 : k < o + vs.length
      · rw [if_pos k2] at hx
        rw [if_pos (by omega), show l.off + k - (l.off + o) = k - o from by omega] at hy
        exact hvs (k - o) x y hx hy
      · rw [if_neg k2] at hx
        rw [if_neg (by omega)] at hy
        exact g5 k x y hx (by simpa using hy)
  have hw := h.write hb (by rw [hg]; rfl) _ _ ho
  exact ⟨_, hrun, hw.1, hw.2⟩

theorem vcells_rel {φ : Inj} {x x' : Value} (hx : VRel φ x x') (hj : x ≠ .chan none) :
    x'.cells.toList.length = (vcells x).length ∧ ∀ (j : Nat) a b, (vcells x)[j]? = some a → x'.cells.toList[j]? = some b → VRel φ a b := by
  have hc := hx.cells hj
  rw [vcells_eq]
  refine ⟨by simpa using hc.1.symm, fun j a b ha hb => hc.2 j a b (by simpa using ha) (by simpa using hb)⟩

theorem all_oneC {φ : Inj} {vs vs' : List Value} (hlen : vs'.length = vs.length) (hvs : ∀ (j : Nat) x y, vs[j]? = some x → vs'[j]? = some y → VRel φ x y) (h : vs.all oneC = true) : ∀ v ∈ vs', v.oneCell' = true := by
  intro v hv
  obtain ⟨j, hj⟩ := List.mem_iff_getElem?.1 hv
  have hjl : j < vs.length := by
    rcases Nat.lt_or_ge j vs.length with h' | h'
    · exact h'
    · rw [List.getElem?_eq_none (by omega)] at hj; cases hj
  have hx := List.getElem?_eq_getElem hjl
  exact (hvs j _ v hx hj).oneC (List.all_eq_true.1 h _ (List.getElem_mem hjl))

theorem store_sim {P : Program} {φ : Inj} {H H' : Heap} {w : World} {t : TypeId} {v v' x x' : Value} (h : HRel P φ H w.heap) (hv : VRel φ v v') (hx : VRel φ x x') (he : iStore P t v x H = some H') :
    ∃ w', (Instr.storeAt t v' x').run P w = .ok () w' ∧ HRel P φ H' w'.heap ∧ Ext φ H w φ H' w' := by
  obtain ⟨⟨b, o⟩, hp, he⟩ := bind_some he
  obtain ⟨⟨c, e, fx⟩, hr, he⟩ := bind_some he
  obtain ⟨i, hi, he⟩ := bind_some he
  obtain ⟨hc, he⟩ := chk_some he
  cases he
  simp only [Bool.and_eq_true, Bool.not_eq_true'] at hc
  obtain ⟨⟨⟨hfx, hlen⟩, hone⟩, hle⟩ := hc
  subst hfx
  have hg := rowOf_some hr
  rw [asPtr_some hp] at hv
  obtain ⟨l, hl, rfl⟩ := hv.ptr_inv
  have hj : x ≠ .chan none := fun e => by rw [e] at hone; cases hone
  obtain ⟨k1, k2⟩ := vcells_rel hx hj
  obtain ⟨w', hw1, hw2, hw3⟩ := h.storeRow hl hg (Nat.le_of_ble_eq_true hle) k1 k2 (all_oneC k1 k2 hone)
  refine ⟨w', ?_, hw2, hw3⟩
  have hsz : x'.cells.size = i.size := by
    have := Nat.eq_of_beq_eq_true hlen
    rw [← Array.length_toList, k1, this]
  have hs : (sizeOf t).run P w = .ok i.size w := by simp [sizeOf, typeInfo, hi]
  simp only [Instr.storeAt, Instr.sureAddr, Sem.run_bind, Sem.run_pure, Result.andThen_ok, storeVar, hs, hsz, ne_eq, not_true_eq_false, if_false]
  exact hw1

/-! ### new variables -/
def esz (P : Program) (e : TypeId) : Nat := match P.info? e with | some i => i.size | none => 0
theorem esz_eq (P : Program) (e : TypeId) : ∀ i, P.info? e = some i → i.size = esz P e := fun i h => by unfold esz; rw [h]

/-- A row of cells is laid in both. -/
theorem HRel.newRow {P : Program} {φ : Inj} {H : Heap} {w : World} (h : HRel P φ H w.heap) (e : TypeId) (c : List Value) (c' : Array Value) (hlen : c'.size = c.length)
    (hc : ∀ (j : Nat) x y, c[j]? = some x → c'[j]? = some y → VRel φ x y) :
    HRel P (φ.put H.n ⟨w.heap.size, 0, c'.size, esz P e⟩) (H.push (.cells c e false)) (w.alloc (.cells c' e)).heap ∧
      Ext φ H w (φ.put H.n ⟨w.heap.size, 0, c'.size, esz P e⟩) (H.push (.cells c e false)) (w.alloc (.cells c' e)) := by
  refine h.alloc (.cells c e false) (.cells c' e) ⟨w.heap.size, 0, c'.size, esz P e⟩ rfl ⟨c', 0, 0, by show (w.heap.push _)[w.heap.size]? = _; simp, rfl, esz_eq P e, by simp; omega, ?_, fun _ k _ _ => by omega, fun _ => rfl⟩
  intro k x y hx hy
  refine (hc k x y hx ?_).mono (Inj.put_le h.fresh)
  simpa using hy

def iBox (t : TypeId) (x : Value) (H : Heap) : Option (Value × Heap) :=
  match x with
  | .chan _ => none
  | x => some (.pointer (some ⟨H.n, 0, none⟩), H.push (.cells (vcells x) t false))

theorem box_sim {P : Program} {φ : Inj} {H H' : Heap} {w : World} {t : TypeId} {x x' r : Value} (h : HRel P φ H w.heap) (hx : VRel φ x x') (he : iBox t x H = some (r, H')) :
    ∃ r' φ' w', (Instr.box t x').run P w = .ok r' w' ∧ VRel φ' r r' ∧ HRel P φ' H' w'.heap ∧ Ext φ H w φ' H' w' := by
  have hj : x ≠ .chan none := fun e => by rw [e] at he; cases he
  have he' : some (Value.pointer (some ⟨H.n, 0, none⟩), H.push (.cells (vcells x) t false)) = some (r, H') := by
    rw [← he]; cases x <;> first | rfl | (rename_i q; cases q <;> first | exact absurd rfl hj | cases he)
  cases he'
  obtain ⟨k1, k2⟩ := vcells_rel hx hj
  obtain ⟨n1, n2⟩ := h.newRow t (vcells x) x'.cells (by simpa using k1) (fun j a b ha hb => k2 j a b ha (by simpa using hb))
  refine ⟨.pointer (some ⟨w.heap.size, 0, none⟩), _, _, ?_, ?_, n1, n2⟩
  · simp [Instr.box, newVar, Go.newRow]
  · have := VRel.ptr (φ := φ.put H.n ⟨w.heap.size, 0, x'.cells.size, esz P t⟩) 0 (Inj.put_same ..)
    simpa using this

theorem VRel.self {φ : Inj} : ∀ (n : Nat) (v : Value), noAddr n v = true → VRel φ v v := by
  intro n
  induction n with
  | zero =>
    intro v hv
    unfold noAddr at hv
    split at hv <;> first | contradiction | (constructor; done) | cases hv
  | succ n ih =>
    intro v hv
    unfold noAddr at hv
    split at hv
    all_goals first | (constructor; done) | cases hv | skip
    · rename_i heq; cases heq; exact .iface _ (ih _ hv)
    · rename_i heq; cases heq
      exact .agg _ _ rfl (fun i x y hx hy => by rw [hx] at hy; cases hy; exact ih x (List.all_eq_true.1 hv x (by have := Array.mem_of_getElem? hx; simpa using this)))
    · rename_i heq; cases heq
      exact .tuple _ _ rfl (fun i x y hx hy => by rw [hx] at hy; cases hy; exact ih x (List.all_eq_true.1 hv x (by have := Array.mem_of_getElem? hx; simpa using this)))

def iZero (P : Program) (t : TypeId) : Option Value := (P.info? t).bind fun i => i.zero.bind fun z => chk (noAddr 2 z) (some z)
theorem zero_sim {P : Program} {t : TypeId} {z : Value} (h : iZero P t = some z) (w : World) : (zeroValue t).run P w = .ok z w ∧ noAddr 2 z = true := by
  obtain ⟨i, hi, h⟩ := bind_some h
  obtain ⟨z', hz, h⟩ := bind_some h
  obtain ⟨hn, h⟩ := chk_some h
  cases h
  exact ⟨by simp [zeroValue, typeInfo, hi, hz], hn⟩

def iAlloc (P : Program) (t : TypeId) (H : Heap) : Option (Value × Heap) := (iZero P t).bind fun z => iBox t z H
theorem alloc_sim {P : Program} {φ : Inj} {H H' : Heap} {w : World} {t : TypeId} {r : Value} (h : HRel P φ H w.heap) (he : iAlloc P t H = some (r, H')) :
    ∃ r' φ' w', (Instr.alloc t true (.tuple #[])).run P w = .ok r' w' ∧ VRel φ' r r' ∧ HRel P φ' H' w'.heap ∧ Ext φ H w φ' H' w' := by
  obtain ⟨z, hz, he⟩ := bind_some he
  obtain ⟨hz1, hz2⟩ := zero_sim hz w
  obtain ⟨r', φ', w', h1, h2, h3, h4⟩ := box_sim h (VRel.self 2 z hz2) he
  refine ⟨r', φ', w', ?_, h2, h3, h4⟩
  simp only [Instr.alloc, Sem.run_bind, hz1, Result.andThen_ok]
  exact h1
end Go.Ideal

/- The ideal machine: its operations on values that bear addresses, each met by the model's. -/
namespace Go.Ideal
open Go

/-! ### addresses of parts -/
def iFieldAddr (P : Program) (s : TypeId) (x : Value) (f : Nat) : Option Value :=
  (asPtr x).bind fun p => match P.underlying s with
    | some (.struct fs) => (fs[f]?).bind fun fd => (P.info? fd.type).bind fun i => chk (!Nat.beq i.size 0) (some (.pointer (some ⟨p.1, p.2 + fd.offset, none⟩)))
    | _ => none

theorem fieldAddr_sim {P : Program} {φ : Inj} {s : TypeId} {x x' r : Value} {f : Nat} (hx : VRel φ x x') (he : iFieldAddr P s x f = some r) (w : World) :
    ∃ r', (Instr.fieldAt s x' f).run P w = .ok r' w ∧ VRel φ r r' := by
  obtain ⟨⟨b, o⟩, hp, he⟩ := bind_some he
  rw [asPtr_some hp] at hx
  obtain ⟨l, hl, rfl⟩ := hx.ptr_inv
  split at he
  · rename_i fs hs
    obtain ⟨fd, hf, he⟩ := bind_some he
    obtain ⟨i, hi, he⟩ := bind_some he
    obtain ⟨hc, he⟩ := chk_some he
    cases he
    have hne : i.size ≠ 0 := fun e => by rw [e] at hc; cases hc
    refine ⟨.pointer (some ⟨l.blk, l.off + o + fd.offset, none⟩), ?_, ?_⟩
    · have hsz : ∀ w, (sizeOf fd.type).run P w = .ok i.size w := fun w => by simp [sizeOf, typeInfo, hi]
      simp [Instr.fieldAt, run_underlying hs, hf, Instr.sureAddr, fieldPlace, hsz, hne, addr_add]
    · have := VRel.ptr (φ := φ) (o + fd.offset) hl
      rwa [← Nat.add_assoc] at this
  · cases he

def asInt : Value → Option Int
  | .int _ n => some n
  | _ => none
theorem asInt_some {v : Value} {n : Int} (h : asInt v = some n) : ∃ k, v = .int k n := by
  unfold asInt at h
  split at h
  · cases h; exact ⟨_, rfl⟩
  · cases h
theorem VRel.int_inv {φ : Inj} {k : IntKind} {n : Int} {v' : Value} (h : VRel φ (.int k n) v') : v' = .int k n := by cases h; rfl
theorem VRel.bool_inv {φ : Inj} {b : Bool} {v' : Value} (h : VRel φ (.bool b) v') : v' = .bool b := by cases h; rfl
theorem VRel.string_inv {φ : Inj} {s : ByteArray} {v' : Value} (h : VRel φ (.string s) v') : v' = .string s := by cases h; rfl

structure Sl where
  b : Nat
  o : Nat
  sp : Option Nat
  n : Nat
  c : Nat
def asSl : Value → Option Sl
  | .slice (some ⟨b, o, sp⟩) n c => some ⟨b, o, sp, n, c⟩
  | _ => none
theorem asSl_some {v : Value} {s : Sl} (h : asSl v = some s) : v = .slice (some ⟨s.b, s.o, s.sp⟩) s.n s.c := by
  unfold asSl at h
  split at h
  · cases h; rfl
  · cases h

/-- What stands for an ideal slice that is not nil. -/
theorem VRel.slice_inv {φ : Inj} {b o : Nat} {sp : Option Nat} {n c : Nat} {v' : Value} (h : VRel φ (.slice (some ⟨b, o, sp⟩) n c) v') :
    ∃ l r p c', φ b = some l ∧ v' = .slice (some ⟨r, p, none⟩) n c' ∧
      ((sp = some 0 ∧ c' = c ∧ r = l.blk ∧ p = l.off + o) ∨ (sp = none ∧ c ≤ c' ∧ r = l.blk ∧ p = l.off + o ∧ l.off + o + c' * l.esz ≤ l.size) ∨ (sp = none ∧ n = 0 ∧ c = 0 ∧ c' = 0)) := by
  cases h with
  | sexact o n c h => exact ⟨_, _, _, _, h, rfl, .inl ⟨rfl, rfl, rfl, rfl⟩⟩
  | sgrown o n c c' h hc hs => exact ⟨_, _, _, _, h, rfl, .inr (.inl ⟨rfl, hc, rfl, rfl, hs⟩)⟩
  | snone o r p h => exact ⟨_, _, _, _, h, rfl, .inr (.inr ⟨rfl, rfl, rfl, rfl⟩)⟩

def iIndexAddr (P : Program) (t : TypeId) (x ix : Value) : Option Value :=
  (asInt ix).bind fun i => match P.underlying t with
    | some (.slice elem) => (asSl x).bind fun s => (P.info? elem).bind fun inf => chk (decide (0 ≤ i) && decide (i < (s.n : Int))) (some (.pointer (some ⟨s.b, s.o + i.toNat * inf.size, none⟩)))
    | some (.array len elem) => (asPtr x).bind fun p => (P.info? elem).bind fun inf => chk (decide (0 ≤ i) && decide (i < (len : Int))) (some (.pointer (some ⟨p.1, p.2 + i.toNat * inf.size, none⟩)))
    | _ => none

theorem indexAddr_sim {P : Program} {φ : Inj} {t : TypeId} {x x' ix ix' r : Value} (hx : VRel φ x x') (hix : VRel φ ix ix') (he : iIndexAddr P t x ix = some r) (w : World) :
    ∃ r', (Instr.indexAt t x' ix').run P w = .ok r' w ∧ VRel φ r r' := by
  obtain ⟨i, hi, he⟩ := bind_some he
  obtain ⟨k, hk⟩ := asInt_some hi
  rw [hk] at hix
  rw [hix.int_inv]
  split at he
  · rename_i elem ht
    obtain ⟨s, hs, he⟩ := bind_some he
    obtain ⟨inf, hinf, he⟩ := bind_some he
    obtain ⟨hc, he⟩ := chk_some he
    cases he
    simp only [Bool.and_eq_true, decide_eq_true_eq] at hc
    rw [asSl_some hs] at hx
    obtain ⟨l, r, p, c', hl, rfl, hor⟩ := hx.slice_inv
    have hrp : r = l.blk ∧ p = l.off + s.o := by
      rcases hor with ⟨_, _, h1, h2⟩ | ⟨_, _, h1, h2, _⟩ | ⟨_, h1, _⟩
      · exact ⟨h1, h2⟩
      · exact ⟨h1, h2⟩
      · omega
    obtain ⟨rfl, rfl⟩ := hrp
    refine ⟨.pointer (some ⟨l.blk, l.off + s.o + i.toNat * inf.size, none⟩), ?_, ?_⟩
    · have hsz : ∀ w, (sizeOf elem).run P w = .ok inf.size w := fun w => by simp [sizeOf, typeInfo, hinf]
      simp [Instr.indexAt, asIntOf, run_underlying ht, hc.1, hc.2, hsz, addr_add]
    · have := VRel.ptr (φ := φ) (s.o + i.toNat * inf.size) hl
      rwa [← Nat.add_assoc] at this
  · rename_i len elem ht
    obtain ⟨⟨b, o⟩, hp, he⟩ := bind_some he
    obtain ⟨inf, hinf, he⟩ := bind_some he
    obtain ⟨hc, he⟩ := chk_some he
    cases he
    simp only [Bool.and_eq_true, decide_eq_true_eq] at hc
    rw [asPtr_some hp] at hx
    obtain ⟨l, hl, rfl⟩ := hx.ptr_inv
    refine ⟨.pointer (some ⟨l.blk, l.off + o + i.toNat * inf.size, none⟩), ?_, ?_⟩
    · have hsz : ∀ w, (sizeOf elem).run P w = .ok inf.size w := fun w => by simp [sizeOf, typeInfo, hinf]
      simp [Instr.indexAt, asIntOf, run_underlying ht, hc.1, hc.2, hsz, addr_add, Instr.sureAddr]
    · have := VRel.ptr (φ := φ) (o + i.toNat * inf.size) hl
      rwa [← Nat.add_assoc] at this
  · cases he

/-! ### parts of aggregates -/
def iPart (P : Program) (t : TypeId) (cs : Array Value) (off : Nat) : Option Value :=
  (P.underlying t).bind fun d => bif isAggD d then (P.info? t).bind fun i => some (.agg (cs.extract off (off + i.size))) else cs[off]?

theorem part_sim {P : Program} {φ : Inj} {t : TypeId} {cs cs' : Array Value} {off : Nat} {r : Value} (h : ARel φ cs cs') (he : iPart P t cs off = some r) (w : World) :
    ∃ r', (part t cs' off).run P w = .ok r' w ∧ VRel φ r r' := by
  obtain ⟨d, hd, he⟩ := bind_some he
  unfold part
  rw [Sem.run_bind, run_isAgg hd, Result.andThen_ok]
  cases ha : isAggD d with
  | true =>
    rw [ha, cond_true] at he
    obtain ⟨i, hi, he⟩ := bind_some he
    cases he
    have hsz : ∀ w, (sizeOf t).run P w = .ok i.size w := fun w => by simp [sizeOf, typeInfo, hi]
    refine ⟨.agg (cs'.extract off (off + i.size)), by simp [hsz], .agg _ _ (by simp [h.1]) ?_⟩
    intro j a b hja hjb
    rw [Array.getElem?_extract] at hja hjb
    split at hja
    · split at hjb
      · exact h.2 _ a b hja hjb
      · cases hjb
    · cases hja
  | false =>
    rw [ha, cond_false] at he
    have hlt : off < cs.size := by
      rcases Nat.lt_or_ge off cs.size with h' | h'
      · exact h'
      · rw [Array.getElem?_eq_none h'] at he; cases he
    have hlt' : off < cs'.size := by rw [← h.1]; exact hlt
    refine ⟨cs'[off], ?_, h.2 off r _ he (Array.getElem?_eq_getElem hlt')⟩
    simp [Array.getElem?_eq_getElem hlt']

def asAgg : Value → Option (Array Value)
  | .agg a => some a
  | _ => none
theorem asAgg_some {v : Value} {a : Array Value} (h : asAgg v = some a) : v = .agg a := by
  unfold asAgg at h
  split at h
  · cases h; rfl
  · cases h
theorem VRel.agg_inv {φ : Inj} {a : Array Value} {v' : Value} (h : VRel φ (.agg a) v') : ∃ a', v' = .agg a' ∧ ARel φ a a' := by
  cases h with
  | agg _ a' ha h => exact ⟨a', rfl, ha, h⟩

def iField (P : Program) (t : TypeId) (x : Value) (f : Nat) : Option Value :=
  (asAgg x).bind fun cs => match P.underlying t with
    | some (.struct fs) => (fs[f]?).bind fun fd => iPart P fd.type cs fd.offset
    | _ => none
theorem field_sim {P : Program} {φ : Inj} {t : TypeId} {x x' r : Value} {f : Nat} (hx : VRel φ x x') (he : iField P t x f = some r) (w : World) :
    ∃ r', (Instr.field t x' f).run P w = .ok r' w ∧ VRel φ r r' := by
  obtain ⟨cs, hc, he⟩ := bind_some he
  rw [asAgg_some hc] at hx
  obtain ⟨cs', rfl, hcs⟩ := hx.agg_inv
  split at he
  · rename_i fs ht
    obtain ⟨fd, hf, he⟩ := bind_some he
    obtain ⟨r', h1, h2⟩ := part_sim hcs he w
    refine ⟨r', ?_, h2⟩
    simp [Instr.field, run_underlying ht, hf, Go.asAgg, h1]
  · cases he

def iIndexAgg (P : Program) (t : TypeId) (x ix : Value) : Option Value :=
  (asInt ix).bind fun i => (asAgg x).bind fun cs => match P.underlying t with
    | some (.array len elem) => (P.info? elem).bind fun inf => chk (decide (0 ≤ i) && decide (i < (len : Int))) (iPart P elem cs (i.toNat * inf.size))
    | _ => none
theorem indexAgg_sim {P : Program} {φ : Inj} {t : TypeId} {x x' ix ix' r : Value} (hx : VRel φ x x') (hix : VRel φ ix ix') (he : iIndexAgg P t x ix = some r) (w : World) :
    ∃ r', (Instr.index t x' ix').run P w = .ok r' w ∧ VRel φ r r' := by
  obtain ⟨i, hi, he⟩ := bind_some he
  obtain ⟨k, hk⟩ := asInt_some hi
  rw [hk] at hix
  rw [hix.int_inv]
  obtain ⟨cs, hc, he⟩ := bind_some he
  rw [asAgg_some hc] at hx
  obtain ⟨cs', rfl, hcs⟩ := hx.agg_inv
  split at he
  · rename_i len elem ht
    obtain ⟨inf, hinf, he⟩ := bind_some he
    obtain ⟨hb, he⟩ := chk_some he
    simp only [Bool.and_eq_true, decide_eq_true_eq] at hb
    obtain ⟨r', h1, h2⟩ := part_sim hcs he w
    have hsz : ∀ w, (sizeOf elem).run P w = .ok inf.size w := fun w => by simp [sizeOf, typeInfo, hinf]
    refine ⟨r', ?_, h2⟩
    simp [Instr.index, asIntOf, run_underlying ht, hb.1, hb.2, hsz, h1]
  · cases he

def iExtract (x : Value) (i : Nat) : Option Value :=
  match x with
  | .tuple a => a[i]?
  | _ => none
theorem extract_sim {P : Program} {φ : Inj} {x x' r : Value} {i : Nat} (hx : VRel φ x x') (he : iExtract x i = some r) (w : World) :
    ∃ r', (Instr.extract x' i).run P w = .ok r' w ∧ VRel φ r r' := by
  unfold iExtract at he
  split at he
  · rename_i a
    cases hx with
    | tuple _ a' ha h =>
      have hlt : i < a.size := by
        rcases Nat.lt_or_ge i a.size with h' | h'
        · exact h'
        · rw [Array.getElem?_eq_none h'] at he; cases he
      have hlt' : i < a'.size := by rw [← ha]; exact hlt
      refine ⟨a'[i], ?_, h i r _ he (Array.getElem?_eq_getElem hlt')⟩
      simp [Instr.extract, Array.getElem?_eq_getElem hlt']
  · cases he

/-! ### slicing -/
def bnd (v : Option Value) (dflt hi : Nat) : Option Nat :=
  match v with
  | none => some dflt
  | some x => (asInt x).bind fun i => chk (decide (0 ≤ i) && decide (i ≤ (hi : Int))) (some i.toNat)
/-- low, high, max as Go's slice expression takes them of a length and a capacity. -/
def bnds (len cap : Nat) (lo hi mx : Option Value) : Option (Nat × Nat × Nat) :=
  (bnd mx cap cap).bind fun m => (match hi, mx with
    | none, some _ => none
    | hi, _ => bnd hi len m).bind fun h => (bnd lo 0 h).bind fun l => chk (Nat.ble h m) (some (l, h, m))

def ORelV (φ : Inj) (a b : Option Value) : Prop :=
  match a, b with
  | none, none => True
  | some x, some y => VRel φ x y
  | _, _ => False

theorem run_bnd {P : Program} {φ : Inj} {v : Option Value} {hi r d : Nat} {x y : Value} (hv : v = some x) (hr : VRel φ x y) (h : bnd v d hi = some r) (hi' : Nat) (hle : hi ≤ hi') (code : BoundsCode) (w : World) :
    (Instr.sliceBound y hi' code).run P w = .ok r w ∧ r ≤ hi := by
  subst hv
  obtain ⟨i, h1, h⟩ := bind_some h
  obtain ⟨hc, h⟩ := chk_some h
  cases h
  obtain ⟨k, rfl⟩ := asInt_some h1
  rw [hr.int_inv]
  simp only [Bool.and_eq_true, decide_eq_true_eq] at hc
  refine ⟨?_, by omega⟩
  have : (0 ≤ i ∧ i ≤ (hi' : Int)) := ⟨hc.1, by omega⟩
  simp [Instr.sliceBound, asIntOf, this]

/-- The model's bounds: of a capacity that is the ideal one, or greater where no max is given. -/
theorem run_bnds {P : Program} {φ : Inj} {len cap cap' l h m : Nat} {lo hi mx lo' hi' mx' : Option Value} (h1 : ORelV φ lo lo') (h2 : ORelV φ hi hi') (h3 : ORelV φ mx mx') (he : bnds len cap lo hi mx = some (l, h, m)) (hcap : cap ≤ cap') (isS : Bool) (w : World) :
    ∃ m', (Instr.sliceBounds isS len cap' lo' hi' mx').run P w = .ok (l, h, m') w ∧ l ≤ h ∧ h ≤ m ∧ m ≤ cap ∧ ((mx = none ∧ m = cap ∧ m' = cap') ∨ (mx ≠ none ∧ m' = m)) := by
  obtain ⟨m0, e1, he⟩ := bind_some he
  obtain ⟨h0, e2, he⟩ := bind_some he
  obtain ⟨l0, e3, he⟩ := bind_some he
  obtain ⟨hle, he⟩ := chk_some he
  cases he
  have hle := Nat.le_of_ble_eq_true hle
  have low : l ≤ h ∧ ((lo' = none ∧ l = 0) ∨ ∃ y, lo' = some y ∧ ∀ code : BoundsCode, (Instr.sliceBound y h code).run P w = .ok l w) := by
    cases lo with
    | none =>
      cases lo' with
      | none => simp only [bnd] at e3; cases e3; exact ⟨Nat.zero_le _, .inl ⟨rfl, rfl⟩⟩
      | some y => exact h1.elim
    | some x =>
      cases lo' with
      | none => exact h1.elim
      | some y =>
        have := fun code => run_bnd (P := P) rfl h1 e3 h (Nat.le_refl _) code w
        exact ⟨(this .index).2, .inr ⟨y, rfl, fun code => (this code).1⟩⟩
  obtain ⟨hlh, low⟩ := low
  cases mx with
  | none =>
    cases mx' with
    | some y => exact h3.elim
    | none =>
      simp only [bnd] at e1; cases e1
      refine ⟨cap', ?_, hlh, hle, Nat.le_refl _, .inl ⟨rfl, rfl, rfl⟩⟩
      cases hi with
      | none =>
        cases hi' with
        | some y => exact h2.elim
        | none =>
          simp only [bnd] at e2; cases e2
          rcases low with ⟨rfl, rfl⟩ | ⟨y, rfl, hy⟩
          · simp [Instr.sliceBounds]
          · simp [Instr.sliceBounds, hy]
      | some x =>
        cases hi' with
        | none => exact h2.elim
        | some y =>
          have hb := fun code => (run_bnd (P := P) rfl h2 e2 cap' hcap code w).1
          rcases low with ⟨rfl, rfl⟩ | ⟨y, rfl, hy⟩
          · simp [Instr.sliceBounds, hb]
          · simp [Instr.sliceBounds, hb, hy]
  | some xm =>
    cases mx' with
    | none => exact h3.elim
    | some ym =>
      have hm := fun code => run_bnd (P := P) rfl h3 e1 cap' hcap code w
      refine ⟨m, ?_, hlh, hle, (hm .slice3C).2, .inr ⟨by simp, rfl⟩⟩
      cases hi with
      | none => simp at e2
      | some x =>
        cases hi' with
        | none => exact h2.elim
        | some y =>
          have hb := fun code => (run_bnd (P := P) rfl h2 e2 m (Nat.le_refl _) code w).1
          rcases low with ⟨rfl, rfl⟩ | ⟨y, rfl, hy⟩
          · simp [Instr.sliceBounds, hb, fun code => (hm code).1]
          · simp [Instr.sliceBounds, hb, fun code => (hm code).1, hy]

def iSlice (P : Program) (t : TypeId) (x : Value) (lo hi mx : Option Value) (H : Heap) : Option Value :=
  match P.underlying t with
  | some (.slice elem) => (asSl x).bind fun s => (P.info? elem).bind fun inf => (bnds s.n s.c lo hi mx).bind fun r =>
      match s.sp with
      | some 0 => some (.slice (some ⟨s.b, bif Nat.beq r.2.2 r.1 then s.o else s.o + r.1 * inf.size, some 0⟩) (r.2.1 - r.1) (r.2.2 - r.1))
      | none => bif Nat.beq s.c 0 then some (.slice (some ⟨s.b, s.o, none⟩) 0 0) else
          match mx with
          | some _ => some (.slice (some ⟨s.b, bif Nat.beq r.2.2 r.1 then s.o else s.o + r.1 * inf.size, some 0⟩) (r.2.1 - r.1) (r.2.2 - r.1))
          | none => (rowOf H s.b).bind fun q => (P.info? q.2.1).bind fun j => chk (Nat.beq inf.size j.size) (some (.slice (some ⟨s.b, s.o + r.1 * inf.size, none⟩) (r.2.1 - r.1) (s.c - r.1)))
      | _ => none
  | some (.array n elem) => (asPtr x).bind fun p => (P.info? elem).bind fun inf => (bnds n n lo hi mx).bind fun r =>
      some (.slice (some ⟨p.1, bif Nat.beq r.2.2 r.1 then p.2 else p.2 + r.1 * inf.size, some 0⟩) (r.2.1 - r.1) (r.2.2 - r.1))
  | _ => none

theorem beq_if (a b x y : Nat) : (bif Nat.beq a b then x else y) = if a = b then x else y := by
  cases h : Nat.beq a b with
  | true => rw [if_pos (Nat.eq_of_beq_eq_true h)]; rfl
  | false =>
    have : a ≠ b := fun e => by rw [e] at h; simp at h
    rw [if_neg this]; rfl

theorem slice_sim {P : Program} {φ : Inj} {H : Heap} {w : World} {t : TypeId} {x x' r : Value} {lo hi mx lo' hi' mx' : Option Value} (h : HRel P φ H w.heap) (hx : VRel φ x x') (h1 : ORelV φ lo lo') (h2 : ORelV φ hi hi') (h3 : ORelV φ mx mx')
    (he : iSlice P t x lo hi mx H = some r) : ∃ r', (Instr.sliceAt t x' lo' hi' mx').run P w = .ok r' w ∧ VRel φ r r' := by
  unfold iSlice at he
  split at he
  · rename_i elem ht
    obtain ⟨s, hs, he⟩ := bind_some he
    obtain ⟨inf, hinf, he⟩ := bind_some he
    obtain ⟨⟨l, hh, m⟩, hb, he⟩ := bind_some he
    simp only at he
    rw [asSl_some hs] at hx
    obtain ⟨L, rr, p, c', hl, rfl, hor⟩ := hx.slice_inv
    have hsz : ∀ w, (sizeOf elem).run P w = .ok inf.size w := fun w => by simp [sizeOf, typeInfo, hinf]
    have hcap : s.c ≤ c' := by rcases hor with ⟨_, h, _⟩ | ⟨_, h, _⟩ | ⟨_, _, h, h'⟩ <;> omega
    obtain ⟨m', hrun, g1, g2, g3, g4⟩ := run_bnds (P := P) h1 h2 h3 hb hcap true w
    have real : (Instr.sliceAt t (.slice (some ⟨rr, p, none⟩) s.n c') lo' hi' mx').run P w = .ok (.slice (some (if m' = l then ⟨rr, p, none⟩ else ⟨rr, p + l * inf.size, none⟩)) (hh - l) (m' - l)) w := by
      have : (Instr.sliceAt t (.slice (some ⟨rr, p, none⟩) s.n c') lo' hi' mx').run P w = (Instr.slice t (.slice (some ⟨rr, p, none⟩) s.n c') lo' hi' mx').run P w := by
        simp only [Instr.sliceAt, Sem.run_bind, run_underlying ht, Result.andThen_ok]
      rw [this]
      simp only [Instr.slice, Sem.run_bind, run_underlying ht, Result.andThen_ok, hrun, hsz, Sem.run_pure, Option.map_some, addr_add]
      split <;> rfl
    refine ⟨_, real, ?_⟩
    split at he
    · rename_i hsp
      rcases hor with ⟨_, e1, rfl, rfl⟩ | ⟨e0, _⟩ | ⟨e0, _⟩
      · subst e1
        have hm : m' = m := by rcases g4 with ⟨_, a, b⟩ | ⟨_, a⟩ <;> omega
        subst hm
        cases he
        rw [beq_if]
        by_cases e : m' = l
        · rw [if_pos e, if_pos e]; exact .sexact _ _ _ hl
        · rw [if_neg e, if_neg e, Nat.add_assoc]; exact .sexact _ _ _ hl
      · rw [hsp] at e0; cases e0
      · rw [hsp] at e0; cases e0
    · rename_i hsp
      cases hc0 : Nat.beq s.c 0 with
      | true =>
        rw [hc0, cond_true] at he
        cases he
        have hz := Nat.eq_of_beq_eq_true hc0
        have hl0 : l = 0 := by omega
        have hh0 : hh = 0 := by omega
        subst hl0 hh0
        rcases hor with ⟨e0, _⟩ | ⟨_, _, rfl, rfl, hs2⟩ | ⟨_, _, _, rfl⟩
        · rw [hsp] at e0; cases e0
        · rcases g4 with ⟨_, _, b⟩ | ⟨_, a⟩
          · subst b
            simp only [Nat.zero_mul, Nat.add_zero, ite_self, Nat.sub_zero]
            exact .sgrown _ _ _ _ hl (Nat.zero_le _) hs2
          · have : m' = 0 := by omega
            subst this
            simp only [if_true, Nat.sub_zero]
            exact .snone _ _ _ hl
        · have : m' = 0 := by rcases g4 with ⟨_, _, b⟩ | ⟨_, a⟩ <;> omega
          subst this
          simp only [if_true, Nat.sub_zero]
          exact .snone _ _ _ hl
      | false =>
        rw [hc0, cond_false] at he
        have hnz : s.c ≠ 0 := fun e => by rw [e] at hc0; cases hc0
        rcases hor with ⟨e0, _⟩ | ⟨_, _, rfl, rfl, hs2⟩ | ⟨_, _, h0, _⟩
        · rw [hsp] at e0; cases e0
        · split at he
          · cases he
            have hm : m' = m := by
              rcases g4 with ⟨e, _⟩ | ⟨_, a⟩
              · cases e
              · exact a
            subst hm
            rw [beq_if]
            by_cases e : m' = l
            · rw [if_pos e, if_pos e]; exact .sexact _ _ _ hl
            · rw [if_neg e, if_neg e, Nat.add_assoc]; exact .sexact _ _ _ hl
          · obtain ⟨⟨c, e, fx⟩, hq, he⟩ := bind_some he
            obtain ⟨j, hj, he⟩ := bind_some he
            obtain ⟨hck, he⟩ := chk_some he
            cases he
            have hg := rowOf_some hq
            obtain ⟨cur, lo0, hi0, _, _, k3, _⟩ := h.obj _ _ _ hl hg
            have hesz : inf.size = L.esz := by rw [Nat.eq_of_beq_eq_true hck]; exact k3 j hj
            rcases g4 with ⟨_, a, b⟩ | ⟨a, _⟩
            · subst b
              by_cases e : m' = l
              · rw [if_pos e]
                have : s.c = l := by omega
                rw [show hh - l = 0 from by omega, show s.c - l = 0 from by omega, show m' - l = 0 from by omega]
                exact .snone _ _ _ hl
              · rw [if_neg e, Nat.add_assoc]
                refine .sgrown _ _ _ _ hl (by omega) ?_
                rw [← hesz] at hs2 ⊢
                have hm : m' * inf.size = l * inf.size + (m' - l) * inf.size := by rw [← Nat.add_mul]; congr 1; omega
                omega
            · exact absurd rfl a
        · omega
    · cases he
  · rename_i n elem ht
    obtain ⟨⟨b, o⟩, hp, he⟩ := bind_some he
    obtain ⟨inf, hinf, he⟩ := bind_some he
    obtain ⟨⟨l, hh, m⟩, hb, he⟩ := bind_some he
    cases he
    rw [asPtr_some hp] at hx
    obtain ⟨L, hl, rfl⟩ := hx.ptr_inv
    have hsz : ∀ w, (sizeOf elem).run P w = .ok inf.size w := fun w => by simp [sizeOf, typeInfo, hinf]
    obtain ⟨m', hrun, g1, g2, g3, g4⟩ := run_bnds (P := P) h1 h2 h3 hb (Nat.le_refl _) false w
    have hm : m' = m := by rcases g4 with ⟨_, a, b⟩ | ⟨_, a⟩ <;> omega
    subst hm
    refine ⟨.slice (some (if m' = l then ⟨L.blk, L.off + o, none⟩ else ⟨L.blk, L.off + o + l * inf.size, none⟩)) (hh - l) (m' - l), ?_, ?_⟩
    · simp only [Instr.sliceAt, Sem.run_bind, run_underlying ht, Result.andThen_ok, Instr.sureAddr, Sem.run_pure, hrun, hsz, addr_add]
    · simp only [beq_if]
      by_cases e : m' = l
      · rw [if_pos e, if_pos e]; exact .sexact _ _ _ hl
      · rw [if_neg e, if_neg e, Nat.add_assoc]; exact .sexact _ _ _ hl
  · cases he
end Go.Ideal

/- The ideal machine: append, copy, clear, make, literals of slices, conversions, each met by the model's. -/
namespace Go.Ideal
open Go

/-! ### the model's append, over what its source reads as -/
section
variable {P : Program} {w : World}

theorem run_append_in {t u ty e : TypeId} {i : TypeInfo} {du : TypeDesc} {a : Addr} {sLen sCap n : Nat} {x : Value} {news : Array Value} {w' : World} (ht : P.underlying t = some (.slice e)) (hu : P.underlying u = some du)
    (hdu : ∀ k, du ≠ .int k) (hi : P.info? e = some i) (hlen : (Builtin.lenOf x).run P w = .ok n w) (hnew : (Builtin.firstCells i.size n x).run P w = .ok news w) (hroom : sLen + n ≤ sCap)
    (hst : (storeCells (a.add (sLen * i.size)) news.toList).run P w = .ok () w') :
    (Builtin.append_ #[t, u] ty #[.slice (some a) sLen sCap, x]).run P w = .ok (.slice (some a) (sLen + n) sCap) w' := by
  simp [Builtin.append_, run_underlying ht, run_underlying hu, sizeOf, typeInfo, hi]
  cases du <;> first | exact absurd rfl (hdu _) | simp [hlen, hnew, hroom, hst]

theorem run_append_nothing {t u ty e : TypeId} {i : TypeInfo} {du : TypeDesc} {b : Option Addr} {sLen sCap : Nat} {x : Value} (ht : P.underlying t = some (.slice e)) (hu : P.underlying u = some du)
    (hdu : ∀ k, du ≠ .int k) (hi : P.info? e = some i) (hlen : (Builtin.lenOf x).run P w = .ok 0 w) (hnew : (Builtin.firstCells i.size 0 x).run P w = .ok #[] w) (hle : sLen ≤ sCap) :
    (Builtin.append_ #[t, u] ty #[.slice b sLen sCap, x]).run P w = .ok (.slice b sLen sCap) w := by
  cases b with
  | none => 
    simp [Builtin.append_, run_underlying ht, run_underlying hu, sizeOf, typeInfo, hi]
    cases du <;> first | exact absurd rfl (hdu _) | simp [hlen, hnew, hle]
  | some a => exact run_append_in ht hu hdu hi hlen hnew (by omega) rfl

theorem run_append_new {t u ty e : TypeId} {i : TypeInfo} {z : Value} {du : TypeDesc} {b : Option Addr} {sLen sCap n : Nat} {x : Value} {olds news : Array Value} (ht : P.underlying t = some (.slice e)) (hu : P.underlying u = some du)
    (hdu : ∀ k, du ≠ .int k) (hi : P.info? e = some i) (hz : i.zero = some z) (hlen : (Builtin.lenOf x).run P w = .ok n w) (hnew : (Builtin.firstCells i.size n x).run P w.drew = .ok news w.drew)
    (hold : (Builtin.firstCells i.size sLen (.slice b sLen sCap)).run P w.drew = .ok olds w.drew) (hg : sCap < sLen + n) (hb : (sLen + n) * i.bytes ≤ 140737488355328) (h63 : sLen + n ≤ 9223372036854775807) :
    (Builtin.append_ #[t, u] ty #[.slice b sLen sCap, x]).run P w = .ok (.slice (some ⟨w.heap.size, 0, none⟩) (sLen + n) (grownCap w (sLen + n) sCap e))
        (w.drew.alloc (.cells (olds ++ news ++ Builtin.zeroCells z.cells (grownCap w (sLen + n) sCap e - (sLen + n))) e)) := by
  have hn : ¬ (sLen + n ≤ sCap) := by omega
  have h63' : ¬ (9223372036854775807 < ((sLen : Int) + (n : Int))) := by omega
  have hfit := growslice_fits hg hb
  have h48' : ¬ (281474976710656 < Builtin.nextslicecap (sLen + n) sCap * i.bytes) := by omega
  simp [Builtin.append_, run_underlying ht, run_underlying hu, sizeOf, typeInfo, hi]
  cases du <;> first | exact absurd rfl (hdu _) | simp [zeroValue, typeInfo, hi, hz, hlen, hn, h63', h48', Question.forced, hnew, hold, newRow, grownCap]
end

/-! ### what is appended or copied -/
def bytesOf (s : ByteArray) : List Value := s.data.toList.map fun b => .int .u8 b.toNat

def iSrc (H : Heap) (size : Nat) (x : Value) : Option (Nat × List Value) :=
  match x with
  | .slice none 0 0 => some (0, [])
  | .slice (some ⟨b, o, _⟩) n _ => bif Nat.beq n 0 then some (0, []) else (rowOf H b).bind fun r => chk (Nat.ble (o + n * size) r.1.length) (some (n, cut r.1 o (n * size)))
  | .string s => chk (Nat.beq size 1) (some (s.size, bytesOf s))
  | _ => none

theorem src_sim {P : Program} {φ : Inj} {H : Heap} {w : World} {size n m : Nat} {x x' : Value} {c : List Value} (h : HRel P φ H w.heap) (hx : VRel φ x x') (he : iSrc H size x = some (n, c)) (hm : m ≤ n) :
    c.length = n * size ∧ (∀ w0 : World, (Builtin.lenOf x').run P w0 = .ok n w0) ∧ ∃ ys : Array Value, ys.size = m * size ∧ (∀ w0 : World, w0.heap = w.heap → (Builtin.firstCells size m x').run P w0 = .ok ys w0) ∧
      ∀ (j : Nat) a b, (c.take (m * size))[j]? = some a → ys[j]? = some b → VRel φ a b := by
  unfold iSrc at he
  split at he
  · cases he
    obtain rfl : m = 0 := by omega
    cases hx
    exact ⟨by simp, fun _ => rfl, #[], by simp, fun w0 _ => rfl, fun j a b ha _ => by simp at ha⟩
  · rename_i b o sp k cp
    obtain ⟨l, r, p, c', hl, rfl, hor⟩ := hx.slice_inv
    cases hk : Nat.beq k 0 with
    | true =>
      rw [hk, cond_true] at he
      cases he
      obtain rfl : m = 0 := by omega
      obtain rfl := Nat.eq_of_beq_eq_true hk
      exact ⟨by simp, fun _ => rfl, #[], by simp, fun w0 _ => by simp [Builtin.firstCells, loadCells, loadCellsFrom], fun j a b ha _ => by simp at ha⟩
    | false =>
      rw [hk, cond_false] at he
      have hnz : k ≠ 0 := fun e => by rw [e] at hk; cases hk
      obtain ⟨⟨cc, e, fx⟩, hr, he⟩ := bind_some he
      obtain ⟨hle, he⟩ := chk_some he
      cases he
      have hle := Nat.le_of_ble_eq_true hle
      simp only at hle
      have hg := rowOf_some hr
      have hrp : r = l.blk ∧ p = l.off + o := by
        rcases hor with ⟨_, _, h1, h2⟩ | ⟨_, _, h1, h2, _⟩ | ⟨_, h1, _⟩
        · exact ⟨h1, h2⟩
        · exact ⟨h1, h2⟩
        · omega
      obtain ⟨rfl, rfl⟩ := hrp
      have hms : m * size ≤ n * size := Nat.mul_le_mul_right _ hm
      obtain ⟨ys, hy1, hy2, hy3⟩ := h.piece (o := o) (n := m * size) hl hg (by omega)
      refine ⟨cut_length hle, fun _ => rfl, ys.toArray, by simp [hy1], fun w0 hw0 => ?_, ?_⟩
      · have := run_loadCells_list (P := P) w0 ⟨l.blk, l.off + o, none⟩ ys (fun j y hj => by
          rw [addr_add]
          have := hy2 j y hj
          simpa [World.cell?, hw0] using this)
        simp only [Builtin.firstCells]
        rw [← hy1]
        exact this
      · intro j a b ha hb
        refine hy3 j a b ?_ (by simpa using hb)
        rw [List.getElem?_take] at ha
        split at ha
        · rename_i hj
          simp only [cut_get] at ha ⊢
          rw [if_pos hj]
          rwa [if_pos (by omega)] at ha
        · cases ha
  · rename_i s
    obtain ⟨hs, he⟩ := chk_some he
    cases he
    have hs := Nat.eq_of_beq_eq_true hs
    subst hs
    rw [hx.string_inv]
    refine ⟨by simp [bytesOf], fun _ => rfl, ((s.extract 0 m).data.map fun b => .int .u8 b.toNat), ?_, fun w0 _ => rfl, ?_⟩
    · simp
      exact Nat.min_eq_left hm
    · intro j a b ha hb
      rw [List.getElem?_take] at ha
      split at ha
      · rename_i hj
        simp only [bytesOf, List.getElem?_map, Array.getElem?_map] at ha hb
        have e : (s.extract 0 m).data[j]? = s.data[j]? := by
          rw [ByteArray.data_extract, Array.getElem?_extract]
          simp
          intro hh
          omega
        rw [e] at hb
        rw [Array.getElem?_toList] at ha
        rw [ha] at hb
        cases hb
        cases hq : s.data[j]? with
        | none => rw [hq] at ha; cases ha
        | some q => rw [hq] at ha; cases ha; exact .int _ _
      · cases ha
  · cases he
end Go.Ideal

/- The ideal machine: append, copy, clear, each met by the model's. -/
namespace Go.Ideal
open Go

def noInt : TypeDesc → Bool
  | .int _ => false
  | _ => true
theorem noInt_ne {d : TypeDesc} (h : noInt d = true) : ∀ k, d ≠ .int k := fun k e => by subst e; cases h

def bnd47 : Nat := 140737488355328
def bnd63 : Nat := 9223372036854775807

/-- Is a piece of a list wholly there? -/
def iAppend (P : Program) (t u : TypeId) (s x : Value) (H : Heap) : Option (Value × Heap) :=
  (P.underlying t).bind fun dt => (P.underlying u).bind fun du => match dt with
  | .slice e => (P.info? e).bind fun i => i.zero.bind fun z => chk (noInt du && Nat.beq z.cells.size i.size) <| (iSrc H i.size x).bind fun q => match s with
    | .slice none 0 0 => bif Nat.beq q.1 0 then some (s, H) else
        chk (Nat.ble (q.1 * i.bytes) bnd47 && Nat.ble q.1 bnd63) (some (.slice (some ⟨H.n, 0, none⟩) q.1 q.1, H.push (.cells q.2 e false)))
    | .slice (some ⟨b, o, sp⟩) sn sc => bif Nat.beq q.1 0 then chk (Nat.ble sn sc) (some (s, H)) else
        (rowOf H b).bind fun r =>
        bif Nat.ble (sn + q.1) sc then
          chk (!r.2.2 && Nat.ble (o + sn * i.size + q.2.length) r.1.length && q.2.all oneC) (some (.slice (some ⟨b, o, sp⟩) (sn + q.1) sc, H.put b (.cells (splice r.1 (o + sn * i.size) q.2) r.2.1 false)))
        else chk (Nat.ble ((sn + q.1) * i.bytes) bnd47 && Nat.ble (sn + q.1) bnd63 && Nat.ble (o + sn * i.size) r.1.length)
          (match sp with
          | some 0 => some (.slice (some ⟨H.n, 0, none⟩) (sn + q.1) (sn + q.1), H.push (.cells (cut r.1 o (sn * i.size) ++ q.2) e false))
          | none => chk (!r.2.2 && Nat.beq r.2.1 e && q.2.all oneC && !mapElem P e) (some (.slice (some ⟨H.n, 0, none⟩) (sn + q.1) (sn + q.1), (H.put b .dead).push (.cells (cut r.1 o (sn * i.size) ++ q.2) e false)))
          | _ => none)
    | _ => none
  | _ => none

theorem grownCap_ge' (w : World) (need old : Nat) (e : TypeId) : need ≤ grownCap w need old e := grownCap_ge w need old e

theorem size_zeroCells' (z : Array Value) (n : Nat) : (Builtin.zeroCells z n).size = n * z.size := by simp [Builtin.zeroCells]

/-- The new block that append makes: the old cells, the new ones, room. -/
theorem HRel.newGrown {P : Program} {φ : Inj} {H : Heap} {w : World} (h : HRel P φ H w.heap) (e : TypeId) (i : TypeInfo) (z : Value) (hi : P.info? e = some i) (hzs : z.cells.size = i.size) {need cap : Nat} (c : List Value) (c' : Array Value)
    (hlen : c.length = need * i.size) (hlen' : c'.size = need * i.size) (hc : ∀ (j : Nat) x y, c[j]? = some x → c'[j]? = some y → VRel φ x y) (hcap : need ≤ cap) :
    ∃ φ', HRel P φ' (H.push (.cells c e false)) (w.drew.alloc (.cells (c' ++ Builtin.zeroCells z.cells (cap - need)) e)).heap ∧
      Ext φ H w φ' (H.push (.cells c e false)) (w.drew.alloc (.cells (c' ++ Builtin.zeroCells z.cells (cap - need)) e)) ∧
      VRel φ' (.slice (some ⟨H.n, 0, none⟩) need need) (.slice (some ⟨w.heap.size, 0, none⟩) need cap) := by
  have hsz : (c' ++ Builtin.zeroCells z.cells (cap - need)).size = cap * i.size := by
    rw [Array.size_append, hlen', size_zeroCells', hzs, ← Nat.add_mul]
    congr 1; omega
  have hd : HRel P φ H w.drew.heap := h
  have hle : need * i.size ≤ cap * i.size := Nat.mul_le_mul_right _ hcap
  obtain ⟨n1, n2⟩ := hd.alloc (w := w.drew) (.cells c e false) (.cells (c' ++ Builtin.zeroCells z.cells (cap - need)) e) ⟨w.heap.size, 0, cap * i.size, i.size⟩ rfl
    ⟨_, 0, 0, by show (w.heap.push _)[w.heap.size]? = _; simp, hsz, fun j hj => by rw [hi] at hj; cases hj; rfl, by simp; omega, by
      intro k x y hx hy
      refine (hc k x y hx ?_).mono (Inj.put_le h.fresh)
      have hk : k < c.length := by
        rcases Nat.lt_or_ge k c.length with h' | h'
        · exact h'
        · rw [List.getElem?_eq_none h'] at hx; cases hx
      rw [Nat.zero_add, Array.getElem?_append_left (by omega)] at hy
      exact hy, fun _ k _ _ => by omega, fun _ => rfl⟩
  refine ⟨_, n1, (Ext.drew φ H w).trans h.dom n2, ?_⟩
  have := VRel.sgrown (φ := φ.put H.n ⟨w.heap.size, 0, cap * i.size, i.size⟩) 0 need need cap (Inj.put_same ..) hcap (by simp)
  simpa using this

theorem append_sim {P : Program} {φ : Inj} {H H' : Heap} {w : World} {t u ty : TypeId} {s s' x x' r : Value} (h : HRel P φ H w.heap) (hs : VRel φ s s') (hx : VRel φ x x') (he : iAppend P t u s x H = some (r, H')) :
    ∃ r' φ' w', (Builtin.append_ #[t, u] ty #[s', x']).run P w = .ok r' w' ∧ VRel φ' r r' ∧ HRel P φ' H' w'.heap ∧ Ext φ H w φ' H' w' := by
  replace he := bind_some he; obtain ⟨dt, ht, he⟩ := he
  replace he := bind_some he; obtain ⟨du, hu, he⟩ := he
  split at he
  · rename_i e
    replace he := bind_some he; obtain ⟨i, hi, he⟩ := he
    replace he := bind_some he; obtain ⟨z, hz, he⟩ := he
    replace he := chk_some he; obtain ⟨hck, he⟩ := he
    replace he := bind_some he; obtain ⟨⟨n, c⟩, hq, he⟩ := he
    simp only [Bool.and_eq_true] at hck
    have hdu := noInt_ne hck.1
    have hzs := Nat.eq_of_beq_eq_true hck.2
    obtain ⟨q1, q2, ys, q3, q4, q5⟩ := src_sim h hx hq (Nat.le_refl _)
    have q5' : ∀ (j : Nat) a b, c[j]? = some a → ys[j]? = some b → VRel φ a b := fun j a b ha hb => q5 j a b (by rw [← q1, List.take_length]; exact ha) hb
    simp only at he
    split at he
    · cases hs
      cases hn0 : Nat.beq n 0 with
      | true =>
        rw [hn0, cond_true] at he; cases he
        obtain rfl := Nat.eq_of_beq_eq_true hn0
        have hys : ys = #[] := by apply Array.eq_empty_of_size_eq_zero; simpa using q3
        subst hys
        exact ⟨_, φ, w, run_append_nothing ht hu hdu hi (q2 w) (q4 w rfl) (Nat.le_refl _), .snil, h, Ext.refl ..⟩
      | false =>
        rw [hn0, cond_false] at he
        replace he := chk_some he; obtain ⟨hb, he⟩ := he
        cases he
        simp only [Bool.and_eq_true] at hb
        have hb1 : n * i.bytes ≤ 140737488355328 := Nat.le_of_ble_eq_true hb.1
        have hb2 : n ≤ 9223372036854775807 := Nat.le_of_ble_eq_true hb.2
        have hnz : n ≠ 0 := fun e => by rw [e] at hn0; cases hn0
        have hrun := run_append_new (P := P) (w := w) (t := t) (u := u) (ty := ty) (b := none) (sLen := 0) (sCap := 0) (n := n) (x := x') (olds := #[]) (news := ys) ht hu hdu hi hz (q2 w) (q4 w.drew rfl) rfl (by omega) (by rw [Nat.zero_add]; exact hb1) (by omega)
        simp only [Nat.zero_add, Array.empty_append] at hrun
        obtain ⟨φ', g1, g2, g3⟩ := h.newGrown e i z hi hzs (need := n) (cap := grownCap w n 0 e) c ys q1 q3 q5' (grownCap_ge' ..)
        exact ⟨_, φ', _, hrun, g3, g1, g2⟩
    · rename_i b o sp sn sc
      obtain ⟨l, rr, p, c', hl, rfl, hor⟩ := hs.slice_inv
      have hcc : sc ≤ c' := by rcases hor with ⟨_, h, _⟩ | ⟨_, h, _⟩ | ⟨_, _, h, h'⟩ <;> omega
      cases hn0 : Nat.beq n 0 with
      | true =>
        rw [hn0, cond_true] at he
        replace he := chk_some he; obtain ⟨hle, he⟩ := he
        cases he
        have hle := Nat.le_of_ble_eq_true hle
        obtain rfl := Nat.eq_of_beq_eq_true hn0
        have hys : ys = #[] := by apply Array.eq_empty_of_size_eq_zero; simpa using q3
        subst hys
        exact ⟨_, φ, w, run_append_nothing ht hu hdu hi (q2 w) (q4 w rfl) (by omega), hs, h, Ext.refl ..⟩
      | false =>
        rw [hn0, cond_false] at he
        have hnz : n ≠ 0 := fun e => by rw [e] at hn0; cases hn0
        replace he := bind_some he; obtain ⟨⟨cr, er, fx⟩, hr, he⟩ := he
        simp only at he
        have hg := rowOf_some hr
        cases hroom : Nat.ble (sn + n) sc with
        | true =>
          rw [hroom, cond_true] at he
          have hroom := Nat.le_of_ble_eq_true hroom
          replace he := chk_some he; obtain ⟨hk, he⟩ := he
          cases he
          simp only [Bool.and_eq_true, Bool.not_eq_true'] at hk
          obtain ⟨⟨hfx, hfit⟩, hone⟩ := hk
          subst hfx
          have hfit := Nat.le_of_ble_eq_true hfit
          have hrp : rr = l.blk ∧ p = l.off + o := by
            rcases hor with ⟨_, _, h1, h2⟩ | ⟨_, _, h1, h2, _⟩ | ⟨_, h1, h2, _⟩
            · exact ⟨h1, h2⟩
            · exact ⟨h1, h2⟩
            · omega
          obtain ⟨rfl, rfl⟩ := hrp
          have k1 : ys.toList.length = c.length := by rw [Array.length_toList, q3, q1]
          have k2 : ∀ (j : Nat) x y, c[j]? = some x → ys.toList[j]? = some y → VRel φ x y := fun j a b ha hb => q5' j a b ha (by simpa using hb)
          obtain ⟨w', s1, s2, s3⟩ := h.storeRow (o := o + sn * i.size) hl hg hfit k1 k2 (all_oneC k1 k2 hone)
          rw [← Nat.add_assoc] at s1
          have hrun := run_append_in (P := P) (w := w) (t := t) (u := u) (ty := ty) (a := ⟨l.blk, l.off + o, none⟩) (sLen := sn) (sCap := c') (n := n) (x := x') (news := ys) (w' := w') ht hu hdu hi (q2 w) (q4 w rfl) (by omega) (by rw [addr_add]; exact s1)
          refine ⟨_, φ, w', hrun, ?_, s2, s3⟩
          rcases hor with ⟨rfl, rfl, _, _⟩ | ⟨rfl, _, _, _, h5⟩ | ⟨_, h1, h2, _⟩
          · exact .sexact _ _ _ hl
          · exact .sgrown _ _ _ _ hl hcc h5
          · omega
        | false =>
          rw [hroom, cond_false] at he
          have hroom : ¬ (sn + n ≤ sc) := fun e => by rw [Nat.ble_eq_true_of_le e] at hroom; cases hroom
          replace he := chk_some he; obtain ⟨hk, he⟩ := he
          simp only [Bool.and_eq_true] at hk
          obtain ⟨⟨hb1, hb2⟩, hold⟩ := hk
          have hb1 : (sn + n) * i.bytes ≤ 140737488355328 := Nat.le_of_ble_eq_true hb1
          have hb2 : sn + n ≤ 9223372036854775807 := Nat.le_of_ble_eq_true hb2
          have hold := Nat.le_of_ble_eq_true hold
          obtain ⟨os, o1, o2, o3⟩ := h.piece (o := o) (n := sn * i.size) hl hg hold
          -- the old cells, as the model reads them
          have hofs : ∀ (cp : Nat), (rr = l.blk ∧ p = l.off + o) ∨ sn = 0 → ∀ w0 : World, w0.heap = w.heap → (Builtin.firstCells i.size sn (.slice (some ⟨rr, p, none⟩) sn cp)).run P w0 = .ok os.toArray w0 := by
            intro cp hrp w0 hw0
            rcases hrp with ⟨rfl, rfl⟩ | rfl
            · have := run_loadCells_list (P := P) w0 ⟨l.blk, l.off + o, none⟩ os (fun j y hj => by
                rw [addr_add]
                have := o2 j y hj
                simpa [World.cell?, hw0] using this)
              simp only [Builtin.firstCells]
              rw [← o1]
              exact this
            · have hos : os = [] := by apply List.eq_nil_of_length_eq_zero; simpa using o1
              subst hos
              simp [Builtin.firstCells, loadCells, loadCellsFrom]
          have hcat1 : (cut cr o (sn * i.size) ++ c).length = (sn + n) * i.size := by rw [List.length_append, cut_length hold, q1, Nat.add_mul]
          have hcat2 : (os.toArray ++ ys).size = (sn + n) * i.size := by rw [Array.size_append, q3]; simp [o1, Nat.add_mul]
          have hcat3 : ∀ (j : Nat) a b, (cut cr o (sn * i.size) ++ c)[j]? = some a → (os.toArray ++ ys)[j]? = some b → VRel φ a b := by
            intro j a b ha hb
            rcases Nat.lt_or_ge j (sn * i.size) with hj | hj
            · rw [List.getElem?_append_left (by rw [cut_length hold]; exact hj)] at ha
              rw [Array.getElem?_append_left (by simp [o1]; exact hj)] at hb
              exact o3 j a b ha (by simpa using hb)
            · rw [List.getElem?_append_right (by rw [cut_length hold]; exact hj), cut_length hold] at ha
              rw [Array.getElem?_append_right (by simp [o1]; exact hj)] at hb
              simp only [List.size_toArray, o1] at hb
              exact q5' _ a b ha hb
          have grow : ∀ (cp : Nat), cp < sn + n → ((rr = l.blk ∧ p = l.off + o) ∨ sn = 0) → (Builtin.append_ #[t, u] ty #[.slice (some ⟨rr, p, none⟩) sn cp, x']).run P w =
              .ok (.slice (some ⟨w.heap.size, 0, none⟩) (sn + n) (grownCap w (sn + n) cp e)) (w.drew.alloc (.cells (os.toArray ++ ys ++ Builtin.zeroCells z.cells (grownCap w (sn + n) cp e - (sn + n))) e)) :=
            fun cp hcp hrp => run_append_new ht hu hdu hi hz (q2 w) (q4 w.drew rfl) (hofs cp hrp w.drew rfl) hcp hb1 hb2
          split at he
          · cases he
            rcases hor with ⟨_, rfl, rfl, rfl⟩ | ⟨e0, _⟩ | ⟨e0, _⟩
            · obtain ⟨φ', g1, g2, g3⟩ := h.newGrown e i z hi hzs (need := sn + n) (cap := grownCap w (sn + n) c' e) _ _ hcat1 hcat2 hcat3 (grownCap_ge' ..)
              exact ⟨_, φ', _, grow c' (by omega) (.inl ⟨rfl, rfl⟩), g3, g1, g2⟩
            · cases e0
            · cases e0
          · replace he := chk_some he; obtain ⟨hk, he⟩ := he
            cases he
            simp only [Bool.and_eq_true, Bool.not_eq_true'] at hk
            obtain ⟨⟨⟨hfx, hee⟩, hone⟩, hme⟩ := hk
            subst hfx
            obtain rfl := Nat.eq_of_beq_eq_true hee
            have hkill := h.kill b
            have hextk : Ext φ H w φ (H.put b .dead) w := ⟨Inj.le.refl φ, Nat.le_refl _, fun j hj hw => by
              rw [Heap.get_put] at hw
              by_cases e : j = b
              · rw [if_pos e] at hw; cases hw
              · rw [if_neg e] at hw; exact hw, fun j m hj h0 => (by rw [hj] at h0; cases h0), rfl, rfl, rfl, Nat.le_refl _, fun _ _ _ => rfl⟩
            -- where the model makes a new block
            have case_new : ∀ cp, cp < sn + n → ((rr = l.blk ∧ p = l.off + o) ∨ sn = 0) → ∃ r' φ' w', (Builtin.append_ #[t, u] ty #[.slice (some ⟨rr, p, none⟩) sn cp, x']).run P w = .ok r' w' ∧ VRel φ' (.slice (some ⟨H.n, 0, none⟩) (sn + n) (sn + n)) r' ∧
                HRel P φ' ((H.put b .dead).push (.cells (cut cr o (sn * i.size) ++ c) er false)) w'.heap ∧ Ext φ H w φ' ((H.put b .dead).push (.cells (cut cr o (sn * i.size) ++ c) er false)) w' := by
              intro cp hcp hrp
              obtain ⟨φ', g1, g2, g3⟩ := hkill.newGrown er i z hi hzs (need := sn + n) (cap := grownCap w (sn + n) cp er) _ _ hcat1 hcat2 hcat3 (grownCap_ge' ..)
              exact ⟨_, φ', _, grow cp hcp hrp, g3, g1, hextk.trans h.dom g2⟩
            rcases hor with ⟨e0, _⟩ | ⟨_, _, rfl, rfl, h5⟩ | ⟨_, hn1, hn2, rfl⟩
            · cases e0
            · by_cases hin : sn + n ≤ c'
              · -- the model has room: the same block, taken over
                obtain ⟨cur, lo, hi', k1, k2, k3, k4, k5, k6, k7⟩ := h.obj b l _ hl hg
                have hesz : i.size = l.esz := k3 i hi
                rw [← hesz] at h5
                have hmul : (sn + n) * i.size ≤ c' * i.size := Nat.mul_le_mul_right _ hin
                have hadd : (sn + n) * i.size = sn * i.size + n * i.size := Nat.add_mul ..
                have hl1 : ys.toList.length = n * i.size := by rw [Array.length_toList, q3]
                have hone' : ∀ v ∈ ys.toList, v.oneCell' = true := all_oneC (by rw [hl1, q1]) (fun j a b ha hb => q5' j a b ha (by simpa using hb)) hone
                have hst := run_stores (P := P) l.blk (l.off + o + sn * i.size) er lo hi' ys.toList 0 cur w k1 (by omega) (fun k h3 h4 => k6 rfl k (by omega) (by omega)) hone'
                simp only [Nat.add_zero] at hst
                have hrun := run_append_in (P := P) (w := w) (t := t) (u := u) (ty := ty) (a := ⟨l.blk, l.off + o, none⟩) (sLen := sn) (sCap := c') (n := n) (x := x') (news := ys) ht hu hdu hi (q2 w) (q4 w rfl) hin (by rw [addr_add]; exact hst)
                have hlt := (Array.getElem?_eq_some_iff.1 k1).1
                have hfr : φ H.n = none := h.fresh
                have hle := Inj.put_le (φ := φ) (i := H.n) (l := ⟨l.blk, l.off + o, l.size, i.size⟩) hfr
                have hbn : b < H.n := h.dom _ _ hl
                have hcl : cur.toList.length = l.size := by rw [Array.length_toList]; exact k2
                have hwb : wr (H.get b) = true := by rw [hg]; rfl
                refine ⟨_, φ.put H.n ⟨l.blk, l.off + o, l.size, i.size⟩, _, hrun, ?_, ⟨?_, ?_, ?_, ?_⟩, ⟨hle, Nat.le_succ _, ?_, ?_, rfl, rfl, rfl, by simp [World.putI], ?_⟩⟩
                · have := VRel.sgrown (φ := φ.put H.n ⟨l.blk, l.off + o, l.size, i.size⟩) 0 (sn + n) (sn + n) c' (Inj.put_same ..) hin (by simp only; omega)
                  simpa using this
                · intro j m oo hj hgj
                  rw [Heap.get_push, Heap.get_put] at hgj
                  unfold Inj.put at hj
                  by_cases e : j = H.n
                  · rw [if_pos e] at hj
                    rw [if_pos (show j = (H.put b IObj.dead).n from e)] at hgj
                    cases hj; cases hgj
                    refine ⟨(splice cur.toList (l.off + o + sn * i.size) ys.toList).toArray, lo, hi', by simp [World.putI, hlt], by simp [splice_length (show l.off + o + sn * i.size + ys.toList.length ≤ cur.toList.length by omega), k2], fun q hq => by rw [hi] at hq; cases hq; rfl, by rw [hcat1]; simp only; omega, ?_, fun _ k h3 h4 => k6 rfl k (by simp only at h3; omega) (by simp only at h4; omega), fun hm => by rw [hme] at hm; cases hm⟩
                    intro k a b' ha hb'
                    simp only [List.getElem?_toArray] at hb'
                    rw [splice_get (by omega)] at hb'
                    have hk : k < (sn + n) * i.size := by
                      rcases Nat.lt_or_ge k (cut cr o (sn * i.size) ++ c).length with h' | h'
                      · omega
                      · rw [List.getElem?_eq_none h'] at ha; cases ha
                    rcases Nat.lt_or_ge k (sn * i.size) with hj | hj
                    · rw [List.getElem?_append_left (by rw [cut_length hold]; exact hj), cut_get, if_pos hj] at ha
                      rw [if_pos (by omega)] at hb'
                      refine (k5 (o + k) a b' ha ?_).mono hle
                      rw [← Array.getElem?_toList, show l.off + (o + k) = l.off + o + k from by omega]
                      exact hb'
                    · rw [List.getElem?_append_right (by rw [cut_length hold]; exact hj), cut_length hold] at ha
                      rw [if_neg (by omega), if_pos (by omega), show l.off + o + k - (l.off + o + sn * i.size) = k - sn * i.size from by omega] at hb'
                      exact (q5' _ a b' ha (by simpa using hb')).mono hle
                  · rw [if_neg e] at hj
                    rw [if_neg (show ¬ j = (H.put b IObj.dead).n from e)] at hgj
                    by_cases e' : j = b
                    · rw [if_pos e'] at hgj; cases hgj; trivial
                    · rw [if_neg e'] at hgj
                      have hne : ∀ q, H.get j = some q → lv (H.get j) = true → l.blk ≠ m.blk := fun q _ hv => h.inj b j l m hl hj (fun e => e' e.symm) hwb hv
                      have hoth : m.blk ≠ l.blk → (w.putI l.blk (Obj.cells (splice cur.toList (l.off + o + sn * i.size) ys.toList).toArray er (lo, hi'))).heap[m.blk]? = w.heap[m.blk]? := fun hb => by
                        show (w.heap.setIfInBounds l.blk _)[m.blk]? = _
                        rw [Array.getElem?_setIfInBounds, if_neg (fun e => hb e.symm)]
                      cases oo with
                      | dead => trivial
                      | cells a1 a2 a3 => exact (h.obj j m _ hj hgj).mono hle (hoth (fun e => hne _ hgj (by rw [hgj]; rfl) e.symm))
                      | iter a1 a2 => exact (h.obj j m _ hj hgj).mono hle (hoth (fun e => hne _ hgj (by rw [hgj]; rfl) e.symm))
                      | map a1 => exact (h.obj j m _ hj hgj).mono hle (hoth (fun e => hne _ hgj (by rw [hgj]; rfl) e.symm))
                · intro j m hj
                  unfold Inj.put at hj
                  by_cases e : j = H.n
                  · rw [e]; exact Nat.lt_succ_self _
                  · rw [if_neg e] at hj; exact Nat.lt_succ_of_lt (h.dom j m hj)
                · intro j m hj
                  unfold Inj.put at hj
                  have : ∀ q, (w.putI l.blk q).heap.size = w.heap.size := fun q => by simp [World.putI]
                  rw [this]
                  by_cases e : j = H.n
                  · rw [if_pos e] at hj; cases hj; exact hlt
                  · rw [if_neg e] at hj; exact h.low j m hj
                · intro j k m m' hj hk hne hwj hvk
                  unfold Inj.put at hj hk
                  rw [Heap.get_push, Heap.get_put] at hwj hvk
                  have hnn : (H.put b IObj.dead).n = H.n := rfl
                  rw [hnn] at hwj hvk
                  by_cases e : j = H.n
                  · rw [if_pos e] at hj; cases hj
                    have ek : k ≠ H.n := fun e'' => hne (e.trans e''.symm)
                    rw [if_neg ek] at hk hvk
                    by_cases eb : k = b
                    · rw [if_pos eb] at hvk; cases hvk
                    · rw [if_neg eb] at hvk
                      exact h.inj b k l m' hl hk (fun e => eb e.symm) hwb hvk
                  · rw [if_neg e] at hj hwj
                    by_cases ejb : j = b
                    · rw [if_pos ejb] at hwj; cases hwj
                    · rw [if_neg ejb] at hwj
                      by_cases ek : k = H.n
                      · rw [if_pos ek] at hk; cases hk
                        exact h.inj j b m l hj hl ejb hwj (by rw [hg]; rfl)
                      · rw [if_neg ek] at hk hvk
                        by_cases eb : k = b
                        · rw [if_pos eb] at hvk; cases hvk
                        · rw [if_neg eb] at hvk
                          exact h.inj j k m m' hj hk hne hwj hvk
                · intro j hj hwj
                  rw [Heap.get_push, Heap.get_put] at hwj
                  have hnn : (H.put b IObj.dead).n = H.n := rfl
                  rw [hnn, if_neg (by omega)] at hwj
                  by_cases e : j = b
                  · rw [if_pos e] at hwj; cases hwj
                  · rw [if_neg e] at hwj; exact hwj
                · intro j m hj h0
                  unfold Inj.put at hj
                  by_cases e : j = H.n
                  · rw [if_pos e] at hj; cases hj
                    exact ⟨by omega, .inr ⟨b, l, hl, hwb, rfl⟩⟩
                  · rw [if_neg e, h0] at hj; cases hj
                · intro bb hbb hc
                  show (w.heap.setIfInBounds l.blk _)[bb]? = _
                  rw [Array.getElem?_setIfInBounds, if_neg (hc b l hl hwb)]
              · exact case_new c' (by omega) (.inl ⟨rfl, rfl⟩)
            · exact case_new 0 (by omega) (.inr hn1)
          · cases he
    · cases he
  · cases he
end Go.Ideal

/- The ideal machine: copy, clear, make, literals, conversions, tests for nil, type assertions, ranges over a string, each met by the model's. -/
namespace Go.Ideal
open Go

/-! ### copy -/
def iCopy (P : Program) (t : TypeId) (d x : Value) (H : Heap) : Option (Value × Heap) :=
  (P.underlying t).bind fun dt => match dt with
  | .slice e => (P.info? e).bind fun i => (iSrc H i.size x).bind fun q => match d with
    | .slice none 0 0 => some (goInt 0, H)
    | .slice (some ⟨b, o, _⟩) dn _ => bif Nat.beq (Nat.min q.1 dn) 0 then some (goInt 0, H) else (rowOf H b).bind fun r =>
        chk (!r.2.2 && Nat.ble (o + (q.2.take (Nat.min q.1 dn * i.size)).length) r.1.length && (q.2.take (Nat.min q.1 dn * i.size)).all oneC)
          (some (goInt (Nat.min q.1 dn : Nat), H.put b (.cells (splice r.1 o (q.2.take (Nat.min q.1 dn * i.size))) r.2.1 false)))
    | _ => none
  | _ => none

theorem copy_sim {P : Program} {φ : Inj} {H H' : Heap} {w : World} {t ty : TypeId} {ts : Array TypeId} {d d' x x' r : Value} (h : HRel P φ H w.heap) (hd : VRel φ d d') (hx : VRel φ x x') (hts : ts[0]? = some t) (he : iCopy P t d x H = some (r, H')) :
    ∃ r' φ' w', (Builtin.copy_ ts ty #[d', x']).run P w = .ok r' w' ∧ VRel φ' r r' ∧ HRel P φ' H' w'.heap ∧ Ext φ H w φ' H' w' := by
  replace he := bind_some he; obtain ⟨dt, ht, he⟩ := he
  split at he
  · rename_i e
    replace he := bind_some he; obtain ⟨i, hi, he⟩ := he
    replace he := bind_some he; obtain ⟨⟨n, c⟩, hq, he⟩ := he
    simp only at he
    have hsz : ∀ w, (sizeOf e).run P w = .ok i.size w := fun w => by simp [sizeOf, typeInfo, hi]
    split at he
    · cases he
      cases hd
      obtain ⟨_, q2, ys, q3, q4, _⟩ := src_sim (m := 0) h hx hq (Nat.zero_le _)
      refine ⟨_, φ, w, ?_, .int _ _, h, Ext.refl ..⟩
      simp [Builtin.copy_, hts, run_underlying ht, q2, hsz, q4]
      rfl
    · rename_i b o sp dn dc
      obtain ⟨l, rr, p, c', hl, rfl, hor⟩ := hd.slice_inv
      obtain ⟨q1, q2, ys, q3, q4, q5⟩ := src_sim (m := Nat.min n dn) h hx hq (Nat.min_le_left ..)
      have real : ∀ w', (storeCells ⟨rr, p, none⟩ ys.toList).run P w = .ok () w' → (Builtin.copy_ ts ty #[.slice (some ⟨rr, p, none⟩) dn c', x']).run P w = .ok (goInt (Nat.min n dn : Nat)) w' := by
        intro w' hst
        simp [Builtin.copy_, hts, run_underlying ht, q2, hsz, q4, hst]
      cases hm : Nat.beq (Nat.min n dn) 0 with
      | true =>
        rw [hm, cond_true] at he; cases he
        have hm := Nat.eq_of_beq_eq_true hm
        rw [hm] at q3 real
        have hys : ys = #[] := by apply Array.eq_empty_of_size_eq_zero; simpa using q3
        subst hys
        exact ⟨_, φ, w, real w rfl, .int _ _, h, Ext.refl ..⟩
      | false =>
        rw [hm, cond_false] at he
        replace he := bind_some he; obtain ⟨⟨cr, er, fx⟩, hr, he⟩ := he
        replace he := chk_some he; obtain ⟨hk, he⟩ := he
        cases he
        simp only [Bool.and_eq_true, Bool.not_eq_true'] at hk
        obtain ⟨⟨hfx, hfit⟩, hone⟩ := hk
        subst hfx
        have hfit := Nat.le_of_ble_eq_true hfit
        have hg := rowOf_some hr
        have hdn : dn ≠ 0 := fun e => by rw [e] at hm; simp at hm
        have hrp : rr = l.blk ∧ p = l.off + o := by
          rcases hor with ⟨_, _, h1, h2⟩ | ⟨_, _, h1, h2, _⟩ | ⟨_, h1, _⟩
          · exact ⟨h1, h2⟩
          · exact ⟨h1, h2⟩
          · exact absurd h1 hdn
        obtain ⟨rfl, rfl⟩ := hrp
        have hle : Nat.min n dn * i.size ≤ n * i.size := Nat.mul_le_mul_right _ (Nat.min_le_left ..)
        have k1 : ys.toList.length = (c.take (Nat.min n dn * i.size)).length := by rw [Array.length_toList, q3, List.length_take]; omega
        have k2 : ∀ (j : Nat) x y, (c.take (Nat.min n dn * i.size))[j]? = some x → ys.toList[j]? = some y → VRel φ x y := fun j a b ha hb => q5 j a b ha (by simpa using hb)
        obtain ⟨w', s1, s2, s3⟩ := h.storeRow hl hg hfit k1 k2 (all_oneC k1 k2 hone)
        exact ⟨_, φ, w', real w' s1, .int _ _, s2, s3⟩
    · cases he
  · cases he

/-! ### clear of a slice -/
def zeros (z : List Value) (n : Nat) : List Value := (List.replicate n z).flatten
def iClear (P : Program) (t : TypeId) (x : Value) (H : Heap) : Option (Value × Heap) :=
  (P.underlying t).bind fun dt => match dt with
  | .slice e => (P.info? e).bind fun i => (iZero P e).bind fun z => chk (Nat.beq z.cells.size i.size && oneC z) (match x with
    | .slice none 0 0 => some (.tuple #[], H)
    | .slice (some ⟨b, o, _⟩) n _ => bif Nat.beq n 0 then some (.tuple #[], H) else (rowOf H b).bind fun r =>
        chk (!r.2.2 && Nat.ble (o + (List.replicate n z).length) r.1.length) (some (.tuple #[], H.put b (.cells (splice r.1 o (List.replicate n z)) r.2.1 false)))
    | _ => none)
  | _ => none

theorem zeroCells_one (z : Value) (n : Nat) (hz : z.cells = #[z]) : (Builtin.zeroCells z.cells n).toList = List.replicate n z := by
  rw [hz]
  apply List.ext_getElem?
  intro j
  simp only [Builtin.zeroCells, Array.toList_map, Array.toList_range, List.getElem?_map, List.getElem?_replicate]
  by_cases hj : j < n
  · rw [List.getElem?_range (by simpa using hj)]
    simp [hj, Nat.mod_one]
  · rw [List.getElem?_eq_none (by simpa using hj)]
    simp [hj]

theorem oneC_cells {z : Value} (h : oneC z = true) : z.cells = #[z] := by cases z <;> first | rfl | cases h

theorem clear_sim {P : Program} {φ : Inj} {H H' : Heap} {w : World} {t ty : TypeId} {ts : Array TypeId} {x x' r : Value} (h : HRel P φ H w.heap) (hx : VRel φ x x') (hts : ts[0]? = some t) (he : iClear P t x H = some (r, H')) :
    ∃ r' φ' w', (Builtin.clear_ ts ty #[x']).run P w = .ok r' w' ∧ VRel φ' r r' ∧ HRel P φ' H' w'.heap ∧ Ext φ H w φ' H' w' := by
  replace he := bind_some he; obtain ⟨dt, ht, he⟩ := he
  split at he
  · rename_i e
    replace he := bind_some he; obtain ⟨i, hi, he⟩ := he
    replace he := bind_some he; obtain ⟨z, hz, he⟩ := he
    replace he := chk_some he; obtain ⟨hc, he⟩ := he
    simp only [Bool.and_eq_true] at hc
    obtain ⟨hz1, hz2⟩ := zero_sim hz w
    have hzc := oneC_cells hc.2
    split at he
    · cases he; cases hx
      exact ⟨_, φ, w, by simp [Builtin.clear_, hts, run_underlying ht]; rfl, VRel.undef φ, h, Ext.refl ..⟩
    · rename_i b o sp n c
      obtain ⟨l, rr, p, c', hl, rfl, hor⟩ := hx.slice_inv
      cases hn0 : Nat.beq n 0 with
      | true =>
        rw [hn0, cond_true] at he; cases he
        obtain rfl := Nat.eq_of_beq_eq_true hn0
        exact ⟨_, φ, w, by simp [Builtin.clear_, hts, run_underlying ht]; rfl, VRel.undef φ, h, Ext.refl ..⟩
      | false =>
        rw [hn0, cond_false] at he
        have hnz : n ≠ 0 := fun e => by rw [e] at hn0; cases hn0
        replace he := bind_some he; obtain ⟨⟨cr, er, fx⟩, hr, he⟩ := he
        replace he := chk_some he; obtain ⟨hk, he⟩ := he
        cases he
        simp only [Bool.and_eq_true, Bool.not_eq_true'] at hk
        obtain ⟨hfx, hfit⟩ := hk
        subst hfx
        have hfit := Nat.le_of_ble_eq_true hfit
        have hg := rowOf_some hr
        have hrp : rr = l.blk ∧ p = l.off + o := by
          rcases hor with ⟨_, _, h1, h2⟩ | ⟨_, _, h1, h2, _⟩ | ⟨_, h1, _⟩
          · exact ⟨h1, h2⟩
          · exact ⟨h1, h2⟩
          · exact absurd h1 hnz
        obtain ⟨rfl, rfl⟩ := hrp
        have hself : VRel φ z z := VRel.self 2 z hz2
        have k2 : ∀ (j : Nat) x y, (List.replicate n z)[j]? = some x → (List.replicate n z)[j]? = some y → VRel φ x y := by
          intro j a b ha hb
          rw [ha] at hb; cases hb
          rw [List.getElem?_replicate] at ha
          split at ha
          · cases ha; exact hself
          · cases ha
        obtain ⟨w', s1, s2, s3⟩ := h.storeRow hl hg hfit rfl k2 (fun v hv => by rw [List.eq_of_mem_replicate hv]; exact hself.oneC hc.2)
        refine ⟨_, φ, w', ?_, VRel.undef φ, s2, s3⟩
        obtain ⟨n, rfl⟩ : ∃ k, n = k + 1 := ⟨n - 1, by omega⟩
        simp [Builtin.clear_, hts, run_underlying ht, hz1, zeroCells_one z _ hzc, s1]
        rfl
    · cases he
  · cases he

/-! ### make of a slice -/
def iMake (P : Program) (t : TypeId) (ln cp : Value) (H : Heap) : Option (Value × Heap) :=
  (P.underlying t).bind fun dt => match dt with
  | .slice e => (P.info? e).bind fun i => (iZero P e).bind fun z => (asInt ln).bind fun l => (asInt cp).bind fun c =>
      chk (decide (0 ≤ l) && decide (l ≤ c) && decide ((i.bytes : Int) * c ≤ 281474976710656) && decide (c ≤ 9223372036854775807) && Nat.beq z.cells.size i.size)
        (some (.slice (some ⟨H.n, 0, some 0⟩) l.toNat c.toNat, H.push (.cells (zeros z.cells.toList c.toNat) e false)))
  | _ => none

theorem zeros_length (z : List Value) (n : Nat) : (zeros z n).length = n * z.length := by
  unfold zeros
  induction n with
  | zero => simp
  | succ n ih => rw [List.replicate_succ, List.flatten_cons, List.length_append, ih, Nat.succ_mul, Nat.add_comm]
theorem zeros_get (z : List Value) (n k : Nat) : (zeros z n)[k]? = if k < n * z.length then z[k % z.length]? else none := by
  induction n generalizing k with
  | zero => simp [zeros]
  | succ n ih =>
    have e : zeros z (n + 1) = z ++ zeros z n := by simp [zeros, List.replicate_succ]
    rw [e, Nat.succ_mul]
    by_cases hk : k < z.length
    · rw [List.getElem?_append_left hk, if_pos (by omega), Nat.mod_eq_of_lt hk]
    · rw [List.getElem?_append_right (by omega), ih]
      have : k % z.length = (k - z.length) % z.length := by rw [Nat.mod_eq_sub_mod (by omega)]
      rw [this]
      by_cases h2 : k - z.length < n * z.length
      · rw [if_pos h2, if_pos (by omega)]
      · rw [if_neg h2, if_neg (by omega)]
theorem madeCells_get (z : Array Value) (m k : Nat) : (madeCells z m)[k]? = if k < m then some (z[k % z.size]!) else none := by
  unfold madeCells
  rw [Array.getElem?_map]
  by_cases hk : k < m
  · rw [if_pos hk, Array.getElem?_range, if_pos hk]; rfl
  · rw [if_neg hk, Array.getElem?_range, if_neg hk]; rfl

/-- Both kinds of nought cells are the same. -/
theorem zeros_rel {φ : Inj} {z : Value} (hz : noAddr 2 z = true) (n m : Nat) (hm : m = n * z.cells.size) : (madeCells z.cells m).size = (zeros z.cells.toList n).length ∧
    ∀ (j : Nat) x y, (zeros z.cells.toList n)[j]? = some x → (madeCells z.cells m)[j]? = some y → VRel φ x y := by
  subst hm
  refine ⟨by rw [zeros_length]; simp [madeCells], ?_⟩
  intro j x y hx hy
  rw [zeros_get] at hx
  rw [madeCells_get] at hy
  simp only [Array.length_toList] at hx
  split at hx
  · rename_i hj
    rw [if_pos hj] at hy
    cases hy
    have hc := (VRel.self (φ := φ) 2 z hz).cells (fun e => by rw [e] at hz; cases hz)
    have hlt : j % z.cells.size < z.cells.size := by
      rcases Nat.eq_zero_or_pos z.cells.size with h0 | h0
      · rw [h0] at hj; omega
      · exact Nat.mod_lt _ h0
    refine hc.2 (j % z.cells.size) x _ (by simpa using hx) ?_
    rw [Array.getElem?_eq_getElem hlt]
    simp [hlt]
  · cases hx

theorem make_sim {P : Program} {φ : Inj} {H H' : Heap} {w : World} {t : TypeId} {ln ln' cp cp' r : Value} (h : HRel P φ H w.heap) (hl : VRel φ ln ln') (hc : VRel φ cp cp') (he : iMake P t ln cp H = some (r, H')) :
    ∃ r' φ' w', (Instr.makeSlice t ln' cp').run P w = .ok r' w' ∧ VRel φ' r r' ∧ HRel P φ' H' w'.heap ∧ Ext φ H w φ' H' w' := by
  replace he := bind_some he; obtain ⟨dt, ht, he⟩ := he
  split at he
  · rename_i e
    replace he := bind_some he; obtain ⟨i, hi, he⟩ := he
    replace he := bind_some he; obtain ⟨z, hz, he⟩ := he
    replace he := bind_some he; obtain ⟨l, hl1, he⟩ := he
    replace he := bind_some he; obtain ⟨c, hc1, he⟩ := he
    replace he := chk_some he; obtain ⟨hk, he⟩ := he
    cases he
    simp only [Bool.and_eq_true, decide_eq_true_eq] at hk
    obtain ⟨⟨⟨⟨k1, k2⟩, k3⟩, k4⟩, k5⟩ := hk
    obtain ⟨q1, hq1⟩ := asInt_some hl1
    obtain ⟨q2, hq2⟩ := asInt_some hc1
    rw [hq1] at hl
    rw [hq2] at hc
    rw [hl.int_inv, hc.int_inv]
    have hzs := Nat.eq_of_beq_eq_true k5
    obtain ⟨i', hi', hz'⟩ := bind_some hz
    rw [hi] at hi'; cases hi'
    obtain ⟨z', hzz, hz'⟩ := bind_some hz'
    obtain ⟨hzn, hz'⟩ := chk_some hz'
    cases hz'
    have hrun := run_make (P := P) w t e i z ht hi hzz q1 q2 l c k1 k2 k3 k4
    obtain ⟨r1, r2⟩ := zeros_rel (φ := φ) hzn c.toNat (c.toNat * i.size) (by rw [hzs])
    obtain ⟨n1, n2⟩ := h.newRow e (zeros z.cells.toList c.toNat) (madeCells z.cells (c.toNat * i.size)) r1 r2
    refine ⟨_, _, _, hrun, ?_, n1, n2⟩
    have := VRel.sexact (φ := φ.put H.n ⟨w.heap.size, 0, (madeCells z.cells (c.toNat * i.size)).size, esz P e⟩) 0 l.toNat c.toNat (Inj.put_same ..)
    simpa using this
  · cases he
end Go.Ideal

/- The ideal machine: literals of structs, arrays and slices, each met by the model's. -/
namespace Go.Ideal
open Go

theorem foldl_rel {φ : Inj} (off : Nat) : ∀ (l l' : List (Value × Nat)) (cs cs' : Array Value), l.length = l'.length → (∀ (j : Nat) a b, l[j]? = some a → l'[j]? = some b → a.2 = b.2 ∧ VRel φ a.1 b.1) → ARel φ cs cs' →
    ARel φ (l.foldl (fun cs (c, j) => cs.setIfInBounds (off + j) c) cs) (l'.foldl (fun cs (c, j) => cs.setIfInBounds (off + j) c) cs') := by
  intro l
  induction l with
  | nil =>
    intro l' cs cs' hl _ hc
    cases l' with
    | nil => exact hc
    | cons a l' => cases hl
  | cons a l ih =>
    intro l' cs cs' hl hr hc
    cases l' with
    | nil => cases hl
    | cons b l' =>
      obtain ⟨ca, ja⟩ := a
      obtain ⟨cb, jb⟩ := b
      obtain ⟨h1, h2⟩ := hr 0 _ _ rfl rfl
      simp only at h1 h2
      subst h1
      simp only [List.foldl_cons]
      refine ih l' _ _ (by simpa using hl) (fun j x y hx hy => hr (j + 1) x y (by simpa using hx) (by simpa using hy)) ⟨by simp [hc.1], ?_⟩
      intro i x y hx hy
      rw [Array.getElem?_setIfInBounds] at hx hy
      by_cases e : off + ja = i
      · rw [if_pos e] at hx hy
        split at hx
        · cases hx
          split at hy
          · cases hy; exact h2
          · cases hy
        · cases hx
      · rw [if_neg e] at hx hy
        exact hc.2 i x y hx hy

def PartsRel (φ : Inj) (ps ps' : List (Nat × Value)) : Prop :=
  ps.length = ps'.length ∧ ∀ (j : Nat) a b, ps[j]? = some a → ps'[j]? = some b → a.1 = b.1 ∧ VRel φ a.2 b.2 ∧ a.2 ≠ .chan none

theorem fill_rel {φ : Inj} (place : Nat → Option (Nat × Nat)) : ∀ (ps ps' : List (Nat × Value)) (cs cs' r : Array Value), PartsRel φ ps ps' → ARel φ cs cs' → Instr.fill place cs ps = some r →
    ∃ r', Instr.fill place cs' ps' = some r' ∧ ARel φ r r' := by
  intro ps
  induction ps with
  | nil =>
    intro ps' cs cs' r hp hc h
    cases ps' with
    | nil => cases h; exact ⟨cs', rfl, hc⟩
    | cons a l => cases hp.1
  | cons a ps ih =>
    intro ps' cs cs' r hp hc h
    cases ps' with
    | nil => cases hp.1
    | cons b ps' =>
      obtain ⟨i, v⟩ := a
      obtain ⟨i', v'⟩ := b
      obtain ⟨h1, h2, h3⟩ := hp.2 0 _ _ rfl rfl
      simp only at h1 h2 h3
      subst h1
      have hv := h2.cells h3
      unfold Instr.fill at h ⊢
      cases hpl : place i with
      | none => rw [hpl] at h; cases h
      | some q =>
        obtain ⟨off, size⟩ := q
        rw [hpl] at h
        simp only at h ⊢
        rw [← hv.1, ← hc.1]
        split at h
        · cases h
        · rename_i hcond
          rw [if_neg hcond]
          refine ih ps' _ _ r ⟨by simpa using hp.1, fun j x y hx hy => hp.2 (j + 1) x y (by simpa using hx) (by simpa using hy)⟩ ?_ h
          rw [← Array.foldl_toList, ← Array.foldl_toList]
          refine foldl_rel off _ _ _ _ (by simp [hv.1]) ?_ hc
          intro j x y hx hy
          simp only [Array.toList_zipIdx] at hx hy
          rw [List.getElem?_zipIdx] at hx hy
          cases hx0 : v.cells.toList[j]? with
          | none => rw [hx0] at hx; cases hx
          | some x0 =>
            cases hy0 : v'.cells.toList[j]? with
            | none => rw [hy0] at hy; cases hy
            | some y0 =>
              rw [hx0] at hx
              rw [hy0] at hy
              cases hx; cases hy
              exact ⟨rfl, hv.2 j x0 y0 (by simpa using hx0) (by simpa using hy0)⟩

theorem zero_cells_self {φ : Inj} {z : Value} (hz : noAddr 2 z = true) : ARel φ z.cells z.cells := (VRel.self (φ := φ) 2 z hz).cells (fun e => by rw [e] at hz; cases hz)

def noJunk : Value → Bool
  | .chan _ => false
  | _ => true
theorem noJunk_ne {v : Value} (h : noJunk v = true) : v ≠ .chan none := fun e => by rw [e] at h; cases h

def iBuild (P : Program) (t : TypeId) (parts : List (Nat × Value)) : Option Value :=
  (iZero P t).bind fun _ => chk (parts.all fun p => noJunk p.2) ((P.built t parts).map .agg)

theorem build_sim {P : Program} {φ : Inj} {t : TypeId} {ps ps' : List (Nat × Value)} {r : Value} (hl : ps.length = ps'.length) (hr : ∀ (j : Nat) a b, ps[j]? = some a → ps'[j]? = some b → a.1 = b.1 ∧ VRel φ a.2 b.2)
    (he : iBuild P t ps = some r) (w : World) : ∃ r', (Instr.build t ps'.toArray).run P w = .ok r' w ∧ VRel φ r r' := by
  replace he := bind_some he; obtain ⟨z, hz, he⟩ := he
  replace he := chk_some he; obtain ⟨hj, he⟩ := he
  have hparts : PartsRel φ ps ps' := ⟨hl, fun j a b ha hb => ⟨(hr j a b ha hb).1, (hr j a b ha hb).2, noJunk_ne (List.all_eq_true.1 hj a (List.mem_of_getElem? ha))⟩⟩
  obtain ⟨i, hi, hz'⟩ := bind_some hz
  obtain ⟨z', hzz, hz'⟩ := bind_some hz'
  obtain ⟨hzn, hz'⟩ := chk_some hz'
  cases hz'
  have hzc := zero_cells_self (φ := φ) hzn
  cases hb : P.built t ps with
  | none => rw [hb] at he; cases he
  | some cells =>
    rw [hb] at he
    cases he
    have : ∃ cells', P.built t ps' = some cells' ∧ ARel φ cells cells' := by
      unfold Program.built at hb ⊢
      rw [hi] at hb ⊢
      cases hu : P.underlying t with
      | none => rw [hu] at hb; cases hb
      | some d =>
        rw [hu] at hb
        cases d <;> try (simp at hb; done)
        case array n e =>
          simp only [hzz] at hb ⊢
          cases hie : P.info? e with
          | none => rw [hie] at hb; simp at hb
          | some ie =>
            rw [hie] at hb
            exact fill_rel _ ps ps' _ _ _ hparts hzc hb
        case struct fields =>
          simp only [hzz] at hb ⊢
          cases hp : fields.toList.mapM (fun f => (P.info? f.type).map fun i => (f.offset, i.size)) with
          | none => rw [hp] at hb; simp at hb
          | some places =>
            rw [hp] at hb
            exact fill_rel _ ps ps' _ _ _ hparts hzc hb
    obtain ⟨cells', h1, h2⟩ := this
    exact ⟨.agg cells', run_build w t ps'.toArray cells' (by simpa using h1), .agg _ _ h2.1 h2.2⟩

def iBuildSlice (P : Program) (t : TypeId) (len : Nat) (parts : List (Nat × Value)) (H : Heap) : Option (Value × Heap) :=
  (P.underlying t).bind fun dt => match dt with
  | .slice e => (P.info? e).bind fun i => (iZero P e).bind fun z => chk ((parts.all fun p => noJunk p.2) && Nat.beq z.cells.size i.size && Nat.ble (len * i.size) 16777216)
      ((Instr.fill (fun k => some (k * i.size, i.size)) (zeros z.cells.toList len).toArray parts).map fun cs => (.slice (some ⟨H.n, 0, some 0⟩) len len, H.push (.cells cs.toList e false)))
  | _ => none

theorem buildSlice_sim {P : Program} {φ : Inj} {H H' : Heap} {w : World} {t : TypeId} {len : Nat} {ps ps' : List (Nat × Value)} {r : Value} (h : HRel P φ H w.heap) (hl : ps.length = ps'.length) (hr : ∀ (j : Nat) a b, ps[j]? = some a → ps'[j]? = some b → a.1 = b.1 ∧ VRel φ a.2 b.2)
    (he : iBuildSlice P t len ps H = some (r, H')) : ∃ r' φ' w', (Instr.buildSlice t len ps'.toArray).run P w = .ok r' w' ∧ VRel φ' r r' ∧ HRel P φ' H' w'.heap ∧ Ext φ H w φ' H' w' := by
  replace he := bind_some he; obtain ⟨dt, ht, he⟩ := he
  split at he
  · rename_i e
    replace he := bind_some he; obtain ⟨i, hi, he⟩ := he
    replace he := bind_some he; obtain ⟨z, hz, he⟩ := he
    replace he := chk_some he; obtain ⟨hk, he⟩ := he
    simp only [Bool.and_eq_true] at hk
    obtain ⟨⟨hj, hzs⟩, hle⟩ := hk
    have hzs := Nat.eq_of_beq_eq_true hzs
    have hle := Nat.le_of_ble_eq_true hle
    have hparts : PartsRel φ ps ps' := ⟨hl, fun j a b ha hb => ⟨(hr j a b ha hb).1, (hr j a b ha hb).2, noJunk_ne (List.all_eq_true.1 hj a (List.mem_of_getElem? ha))⟩⟩
    obtain ⟨hz1, hz2⟩ := zero_sim hz w
    obtain ⟨r1, r2⟩ := zeros_rel (φ := φ) hz2 len (len * i.size) (by rw [hzs])
    cases hf : Instr.fill (fun k => some (k * i.size, i.size)) (zeros z.cells.toList len).toArray ps with
    | none => rw [hf] at he; cases he
    | some cs =>
      rw [hf] at he
      cases he
      obtain ⟨cs', f1, f2⟩ := fill_rel _ ps ps' _ (madeCells z.cells (len * i.size)) _ hparts ⟨by rw [r1]; simp, fun j x y hx hy => r2 j x y (by simpa using hx) hy⟩ hf
      have hsz : ∀ w, (sizeOf e).run P w = .ok i.size w := fun w => by simp [sizeOf, typeInfo, hi]
      have hnle : ¬ (16777216 < len * i.size) := by omega
      have hrun : (Instr.buildSlice t len ps'.toArray).run P w = .ok (.slice (some ⟨w.heap.size, 0, none⟩) len len) (w.alloc (.cells cs' e)) := by
        by_cases h0 : len * i.size = 0
        · have hm : madeCells z.cells (len * i.size) = #[] := by simp [madeCells, h0, Array.range_zero']
          rw [hm] at f1
          simp [Instr.buildSlice, run_underlying ht, hsz, h0, f1, newRow, Array.range_zero']
        · have hm : (Array.range (len * i.size)).map (fun x => z.cells[x % z.cells.size]!) = madeCells z.cells (len * i.size) := rfl
          simp only [Instr.buildSlice, Sem.run_bind, run_underlying ht, Result.andThen_ok, hsz]
          rw [if_neg (by omega)]
          simp [h0, hz1, hm, f1, newRow]
      obtain ⟨n1, n2⟩ := h.newRow e cs.toList cs' (by simp [f2.1]) (fun j x y hx hy => f2.2 j x y (by simpa using hx) hy)
      refine ⟨_, _, _, hrun, ?_, n1, n2⟩
      have := VRel.sexact (φ := φ.put H.n ⟨w.heap.size, 0, cs'.size, esz P e⟩) 0 len len (Inj.put_same ..)
      simpa using this
  · cases he
end Go.Ideal

/- The ideal machine: conversions between strings and bytes, tests for nil, type assertions, ranges over a string, each met by the model's. -/
namespace Go.Ideal
open Go

/-! ### tests for nil -/
def nilEq (d : TypeDesc) (x y : Value) : Option Bool :=
  match d, x, y with
  | .pointer _, .pointer (some _), .pointer none => some false
  | .pointer _, .pointer none, .pointer (some _) => some false
  | .slice _, .slice (some _) _ _, .slice none _ _ => some false
  | .slice _, .slice none _ _, .slice (some _) _ _ => some false
  | .func _ _ _, .func _ _ _, .nilFunc => some false
  | .func _ _ _, .nilFunc, .func _ _ _ => some false
  | .interface _, .iface _ _, .nilIface => some false
  | .interface _, .nilIface, .iface _ _ => some false
  | _, _, _ => none

theorem nilEq_sim_in {P : Program} {φ : Inj} {t : TypeId} {d : TypeDesc} {x x' y y' : Value} {b : Bool} (k : Nat) (ht : P.underlying t = some d) (hx : VRel φ x x') (hy : VRel φ y y') (he : nilEq d x y = some b) (w : World) :
    (Op.equalIn (k + 1) t x' y').run P w = .ok b w := by
  unfold nilEq at he
  split at he <;> cases he
  all_goals (cases hx <;> cases hy <;> simp [Op.equalIn, run_underlying ht])

theorem nilEq_sim {P : Program} {φ : Inj} {t : TypeId} {d : TypeDesc} {x x' y y' : Value} {b : Bool} (ht : P.underlying t = some d) (hx : VRel φ x x') (hy : VRel φ y y') (he : nilEq d x y = some b) (w : World) :
    (Op.equal t x' y').run P w = .ok b w := nilEq_sim_in 9999 ht hx hy he w

theorem eqGuard_nil {P : Program} {φ : Inj} {op : BinOp} {t : TypeId} {d : TypeDesc} {ox oy : Operand} {x x' y y' : Value} {b : Bool} (hx : VRel φ x x') (hy : VRel φ y y') (he : nilEq d x y = some b) (w : World) :
    (eqGuard op t ox oy x' y').run P w = .ok () w := by
  unfold nilEq at he
  split at he <;> cases he
  all_goals (cases hx <;> cases hy <;> cases op <;> simp [eqGuard])

theorem binOp_eql_nil {P : Program} {φ : Inj} {t : TypeId} {d : TypeDesc} {x x' y y' : Value} {b : Bool} (ht : P.underlying t = some d) (hx : VRel φ x x') (hy : VRel φ y y') (he : nilEq d x y = some b) (w : World) :
    (binOp .eql t x' y').run P w = .ok (.bool b) w ∧ (binOp .neq t x' y').run P w = .ok (.bool !b) w := by
  have h := nilEq_sim ht hx hy he w
  unfold nilEq at he
  split at he <;> cases he
  all_goals (cases hx <;> cases hy <;> exact ⟨by simp [binOp, h], by simp [binOp, h]⟩)

/-- All binary operations. -/
def iBin (P : Program) (op : BinOp) (t : TypeId) (ox oy : Operand) (x y : Value) : Option Value :=
  bif noAddr 3 x && noAddr 3 y then pureRun P (do eqGuard op t ox oy x y; binOp op t x y) else
  (P.underlying t).bind fun d => (nilEq d x y).bind fun b => match op with
    | .eql => some (.bool b)
    | .neq => some (.bool !b)
    | _ => none
theorem bin_sim {P : Program} {φ : Inj} {op : BinOp} {t : TypeId} {ox oy : Operand} {x x' y y' r : Value} (hx : VRel φ x x') (hy : VRel φ y y') (he : iBin P op t ox oy x y = some r) (hr : noAddr 3 r = true) (w : World) :
    (do eqGuard op t ox oy x' y'; binOp op t x' y' : Sem Value).run P w = .ok r w ∧ VRel φ r r := by
  unfold iBin at he
  cases hc : noAddr 3 x && noAddr 3 y with
  | true =>
    rw [hc, cond_true] at he
    rw [Bool.and_eq_true] at hc
    rw [hx.same 3 hc.1, hy.same 3 hc.2]
    exact ⟨pureRun_run he w, VRel.self 3 r hr⟩
  | false =>
    rw [hc, cond_false] at he
    replace he := bind_some he; obtain ⟨d, hd, he⟩ := he
    replace he := bind_some he; obtain ⟨b, hb, he⟩ := he
    have h1 := fun op => eqGuard_nil (P := P) (op := op) (t := t) (ox := ox) (oy := oy) hx hy hb w
    have h2 := binOp_eql_nil hd hx hy hb w
    split at he
    · cases he
      refine ⟨?_, .bool _⟩
      rw [Sem.run_bind, h1, Result.andThen_ok]; exact h2.1
    · cases he
      refine ⟨?_, .bool _⟩
      rw [Sem.run_bind, h1, Result.andThen_ok]; exact h2.2
    · cases he

/-! ### conversions -/
def byteOfV : Value → Option UInt8
  | .int .u8 n => some (UInt8.ofNat n.toNat)
  | _ => none
def bytesOfV : List Value → Option (List UInt8)
  | [] => some []
  | v :: r => (byteOfV v).bind fun b => (bytesOfV r).map (b :: ·)

def iConvert (P : Program) (src dst : TypeId) (x : Value) (H : Heap) : Option (Value × Heap) :=
  (P.underlying src).bind fun ds => (P.underlying dst).bind fun dd => match dd, x with
    | .slice e, .string s => match P.underlying e with
        | some (.int .u8) => (P.info? e).bind fun i => chk (Nat.beq i.size 1) (some (.slice (some ⟨H.n, 0, none⟩) s.size s.size, H.push (.cells (bytesOf s) e false)))
        | _ => none
    | .string, .slice (some ⟨b, o, _⟩) n _ => match ds with
        | .slice e => match P.underlying e with
          | some (.int .u8) => bif Nat.beq n 0 then some (.string .empty, H) else (rowOf H b).bind fun r => chk (Nat.ble (o + n) r.1.length) ((bytesOfV (cut r.1 o n)).map fun l => (.string ⟨l.toArray⟩, H))
          | _ => none
        | _ => none
    | _, _ => bif noAddr 3 x then (pureRun P (convert src dst x)).bind fun r => chk (noAddr 3 r) (some (r, H)) else none

theorem bytesOfV_int : ∀ {l : List Value} {bs : List UInt8}, bytesOfV l = some bs → ∃ ns : List Int, l = ns.map (Value.int .u8) ∧ bs = ns.map fun n => UInt8.ofNat n.toNat := by
  intro l
  induction l with
  | nil => intro bs h; cases h; exact ⟨[], rfl, rfl⟩
  | cons v l ih =>
    intro bs h
    obtain ⟨b, hb, h⟩ := bind_some h
    cases hl : bytesOfV l with
    | none => rw [hl] at h; cases h
    | some bs' =>
      rw [hl] at h
      cases h
      obtain ⟨ns, h1, h2⟩ := ih hl
      unfold byteOfV at hb
      split at hb
      · rename_i n
        cases hb
        exact ⟨n :: ns, by rw [h1]; rfl, by rw [h2]; rfl⟩
      · cases hb

theorem push_bytes (ns : List Int) : ∀ s : ByteArray, ns.foldl (fun (r : ByteArray) n => r.push (UInt8.ofNat n.toNat)) s = ⟨s.data ++ (ns.map fun n => UInt8.ofNat n.toNat).toArray⟩ := by
  induction ns with
  | nil => intro s; simp
  | cons n ns ih =>
    intro s
    rw [List.foldl_cons, ih]
    congr 1
    simp [ByteArray.push]

theorem list_eq_of_rel {φ : Inj} {ns : List Int} {ys : List Value} (hl : ys.length = ns.length) (h : ∀ (j : Nat) x y, (ns.map (Value.int .u8))[j]? = some x → ys[j]? = some y → VRel φ x y) : ys = ns.map (Value.int .u8) := by
  apply List.ext_getElem?
  intro j
  by_cases hj : j < ns.length
  · have hy : ys[j]? = some (ys[j]'(by omega)) := List.getElem?_eq_getElem (by omega)
    have hx : (ns.map (Value.int .u8))[j]? = some (Value.int .u8 ns[j]) := by simp [hj]
    rw [hx, hy, (h j _ _ hx hy).int_inv]
  · rw [List.getElem?_eq_none (by omega), List.getElem?_eq_none (by simp; omega)]

theorem convert_sim {P : Program} {φ : Inj} {H H' : Heap} {w : World} {src dst : TypeId} {x x' r : Value} (h : HRel P φ H w.heap) (hx : VRel φ x x') (he : iConvert P src dst x H = some (r, H')) :
    ∃ r' φ' w', (convert src dst x').run P w = .ok r' w' ∧ VRel φ' r r' ∧ HRel P φ' H' w'.heap ∧ Ext φ H w φ' H' w' := by
  replace he := bind_some he; obtain ⟨ds, hs, he⟩ := he
  replace he := bind_some he; obtain ⟨dd, hd, he⟩ := he
  split at he
  · rename_i e s
    split at he
    · rename_i hu8
      replace he := bind_some he; obtain ⟨i, hi, he⟩ := he
      replace he := chk_some he; obtain ⟨hk, he⟩ := he
      cases he
      have hsz := Nat.eq_of_beq_eq_true hk
      rw [hx.string_inv]
      have hrun := Lib.run_convert_string_bytes (P := P) w src dst e s hs hd hu8
      have hge := grownCap_ge w s.size 0 e
      have hcs : (Lib.bytesCells w e s).size = grownCap w s.size 0 e := by
        simp only [Lib.bytesCells, Array.size_append, Array.size_map, Array.size_replicate]
        have : s.data.size = s.size := rfl
        omega
      have hfr := h.fresh
      have hle := Inj.put_le (φ := φ) (i := H.n) (l := ⟨w.heap.size, 0, grownCap w s.size 0 e, 1⟩) hfr
      have hold : ∀ b, b < w.heap.size → (Lib.bytesWorld w e s).heap[b]? = w.heap[b]? := fun b hb => Lib.bytesWorld_at_old w e s b hb
      have hsize := Lib.bytesWorld_size w e s
      refine ⟨_, φ.put H.n ⟨w.heap.size, 0, grownCap w s.size 0 e, 1⟩, _, hrun, ?_, ⟨?_, ?_, ?_, ?_⟩, ⟨hle, Nat.le_succ _, ?_, ?_, rfl, rfl, rfl, by omega, fun b hb _ => hold b hb⟩⟩
      · have := VRel.sgrown (φ := φ.put H.n ⟨w.heap.size, 0, grownCap w s.size 0 e, 1⟩) 0 s.size s.size (grownCap w s.size 0 e) (Inj.put_same ..) hge (by simp)
        simpa using this
      · intro j m oo hj hg
        rw [Heap.get_push] at hg
        unfold Inj.put at hj
        by_cases e' : j = H.n
        · rw [if_pos e'] at hj hg
          cases hj; cases hg
          refine ⟨_, _, _, Lib.bytesWorld_at_new w e s, hcs, fun q hq => by rw [hi] at hq; cases hq; exact hsz, by simp [bytesOf]; exact hge, ?_, fun _ k _ h4 => by simp only at h4; omega, fun _ => rfl⟩
          intro k a b ha hb
          simp only [bytesOf, List.getElem?_map, Array.getElem?_toList] at ha
          simp only [Nat.zero_add, Lib.bytesCells] at hb
          cases hq : s.data[k]? with
          | none => rw [hq] at ha; cases ha
          | some q =>
            rw [hq] at ha
            cases ha
            have hk : k < s.data.size := by
              rcases Nat.lt_or_ge k s.data.size with h' | h'
              · exact h'
              · rw [Array.getElem?_eq_none h'] at hq; cases hq
            rw [Array.getElem?_append_left (by simpa using hk), Array.getElem?_map, hq] at hb
            cases hb
            exact .int _ _
        · rw [if_neg e'] at hj hg
          exact (h.obj j m oo hj hg).mono hle (hold _ (h.low j m hj))
      · intro j m hj
        unfold Inj.put at hj
        by_cases e' : j = H.n
        · rw [e']; exact Nat.lt_succ_self _
        · rw [if_neg e'] at hj; exact Nat.lt_succ_of_lt (h.dom j m hj)
      · intro j m hj
        unfold Inj.put at hj
        by_cases e' : j = H.n
        · rw [if_pos e'] at hj; cases hj; simp only; omega
        · rw [if_neg e'] at hj; have := h.low j m hj; omega
      · intro j k m m' hj hk hne hwj hvk
        unfold Inj.put at hj hk
        rw [Heap.get_push] at hwj hvk
        by_cases e1 : j = H.n
        · rw [if_pos e1] at hj; cases hj
          have e2 : k ≠ H.n := fun e2 => hne (e1.trans e2.symm)
          rw [if_neg e2] at hk
          have := h.low k m' hk
          simp only; omega
        · rw [if_neg e1] at hj hwj
          by_cases e2 : k = H.n
          · rw [if_pos e2] at hk; cases hk
            have := h.low j m hj
            simp only; omega
          · rw [if_neg e2] at hk hvk
            exact h.inj j k m m' hj hk hne hwj hvk
      · intro j hj hwj
        rw [Heap.get_push, if_neg (by omega)] at hwj
        exact hwj
      · intro j m hj h0
        unfold Inj.put at hj
        by_cases e' : j = H.n
        · rw [if_pos e'] at hj; cases hj
          exact ⟨by omega, .inl (Nat.le_refl _)⟩
        · rw [if_neg e', h0] at hj; cases hj
    · cases he
  · rename_i b o sp n c
    split at he
    · rename_i e
      split at he
      · rename_i hu8
        obtain ⟨l, rr, p, c', hl, rfl, hor⟩ := hx.slice_inv
        have real : ∀ q, (convert src dst (.slice (some ⟨rr, p, none⟩) n q)).run P w = (Conv.bytesToString (.slice (some ⟨rr, p, none⟩) n q)).run P w := fun q => by
          simp [convert, run_underlying hs, run_underlying hd, run_underlying hu8]
        cases hn0 : Nat.beq n 0 with
        | true =>
          rw [hn0, cond_true] at he; cases he
          obtain rfl := Nat.eq_of_beq_eq_true hn0
          refine ⟨_, φ, w, ?_, .string _, h, Ext.refl ..⟩
          rw [real]
          have := run_bytesToString (P := P) w ⟨rr, p, none⟩ 0 c' [] (by simp [loadCells, loadCellsFrom])
          simpa using this
        | false =>
          rw [hn0, cond_false] at he
          have hnz : n ≠ 0 := fun e => by rw [e] at hn0; cases hn0
          replace he := bind_some he; obtain ⟨⟨cr, er, fx⟩, hr, he⟩ := he
          replace he := chk_some he; obtain ⟨hk, he⟩ := he
          have hk := Nat.le_of_ble_eq_true hk
          simp only at hk he
          have hg := rowOf_some hr
          have hrp : rr = l.blk ∧ p = l.off + o := by
            rcases hor with ⟨_, _, h1, h2⟩ | ⟨_, _, h1, h2, _⟩ | ⟨_, h1, _⟩
            · exact ⟨h1, h2⟩
            · exact ⟨h1, h2⟩
            · exact absurd h1 hnz
          obtain ⟨rfl, rfl⟩ := hrp
          obtain ⟨ys, hy1, hy2, hy3⟩ := h.piece hl hg hk
          cases hb : bytesOfV (cut cr o n) with
          | none => rw [hb] at he; cases he
          | some bs =>
            rw [hb] at he
            cases he
            obtain ⟨ns, h1, h2⟩ := bytesOfV_int hb
            have hln : ns.length = n := by
              have := cut_length hk
              rw [h1] at this
              simpa using this
            rw [h1] at hy3
            have hys := list_eq_of_rel (by omega) hy3
            have hload := run_loadCells_list (P := P) w ⟨l.blk, l.off + o, none⟩ ys (fun j y hj => by rw [addr_add]; exact hy2 j y hj)
            rw [hys, List.length_map, hln] at hload
            refine ⟨.string ⟨bs.toArray⟩, φ, w, ?_, ?_, h, Ext.refl ..⟩
            · rw [real, run_bytesToString (P := P) w _ n c' ns hload, push_bytes, h2]
              simp
            · exact .string _
      · cases he
    · cases he
  · cases hn : noAddr 3 x with
    | false => rw [hn, cond_false] at he; cases he
    | true =>
      rw [hn, cond_true] at he
      replace he := bind_some he; obtain ⟨q, hq, he⟩ := he
      replace he := chk_some he; obtain ⟨hk, he⟩ := he
      cases he
      rw [hx.same 3 hn]
      exact ⟨_, φ, w, pureRun_run hq w, VRel.self 3 _ hk, h, Ext.refl ..⟩
end Go.Ideal

/- The ideal machine: all operations that call no function, each met by the model's. -/
namespace Go.Ideal
open Go

/-! ### type assertions -/
def iAssert (P : Program) (x : Value) (asserted : TypeId) (ok : Bool) : Option Value :=
  (P.underlying asserted).bind fun d => match d, x with
    | .interface want, .iface t _ => (P.info? t).bind fun i => match Instr.missingMethod want i.methods with
        | none => some (bif ok then .tuple #[x, .bool true] else x)
        | some _ => bif ok then (iZero P asserted).map fun z => .tuple #[z, .bool false] else none
    | _, .nilIface => bif ok then (iZero P asserted).map fun z => .tuple #[z, .bool false] else none
    | _, .iface t v => bif Nat.beq t asserted then some (bif ok then .tuple #[v, .bool true] else v) else bif ok then (iZero P asserted).map fun z => .tuple #[z, .bool false] else none
    | _, _ => none

theorem tuple2 {φ : Inj} {a a' b b' : Value} (h1 : VRel φ a a') (h2 : VRel φ b b') : VRel φ (.tuple #[a, b]) (.tuple #[a', b']) := by
  refine .tuple _ _ rfl ?_
  intro i x y hx hy
  match i with
  | 0 => simp at hx hy; rw [← hx, ← hy]; exact h1
  | 1 => simp at hx hy; rw [← hx, ← hy]; exact h2
  | i + 2 => simp at hx

theorem assert_sim {P : Program} {φ : Inj} {x x' r : Value} {xt asserted : TypeId} {ok : Bool} (hx : VRel φ x x') (he : iAssert P x asserted ok = some r) (w : World) :
    ∃ r', (Instr.typeAssert x' xt asserted ok).run P w = .ok r' w ∧ VRel φ r r' := by
  replace he := bind_some he; obtain ⟨d, hd, he⟩ := he
  have hu := run_underlying hd
  have fail : ∀ {q : Option Value}, q = (iZero P asserted).map (fun z => Value.tuple #[z, .bool false]) → q = some r → ∃ z, (zeroValue asserted).run P w = .ok z w ∧ r = .tuple #[z, .bool false] ∧ VRel φ z z := by
    intro q hq hr
    rw [hq] at hr
    cases hz : iZero P asserted with
    | none => rw [hz] at hr; cases hr
    | some z =>
      rw [hz] at hr; cases hr
      obtain ⟨z1, z2⟩ := zero_sim hz w
      exact ⟨z, z1, rfl, VRel.self 2 z z2⟩
  split at he
  · rename_i want t v
    replace he := bind_some he; obtain ⟨i, hi, he⟩ := he
    cases hx with
    | iface _ hv =>
      rename_i v'
      have hti : ∀ w, (typeInfo t).run P w = .ok i w := fun w => by simp [typeInfo, hi]
      split at he
      · rename_i hm
        cases he
        cases ok with
        | true => exact ⟨.tuple #[.iface t v', .bool true], by simp [Instr.typeAssert, hu, hti, hm], tuple2 (.iface t hv) (.bool true)⟩
        | false => exact ⟨.iface t v', by simp [Instr.typeAssert, hu, hti, hm], .iface t hv⟩
      · rename_i hm
        cases ok with
        | true =>
          obtain ⟨z, z1, rfl, z3⟩ := fail rfl he
          exact ⟨_, by simp [Instr.typeAssert, hu, hti, hm, z1], tuple2 z3 (.bool false)⟩
        | false => cases he
  · cases hx
    cases ok with
    | true =>
      obtain ⟨z, z1, rfl, z3⟩ := fail rfl he
      refine ⟨_, ?_, tuple2 z3 (.bool false)⟩
      cases d <;> simp [Instr.typeAssert, hu, z1]
    | false => cases he
  · rename_i t v hni
    cases hx with
    | iface _ hv =>
      rename_i v'
      have hne : ∀ ms, d ≠ .interface ms := fun ms e => hni ms e
      cases ht : Nat.beq t asserted with
      | true =>
        rw [ht, cond_true] at he
        obtain rfl := Nat.eq_of_beq_eq_true ht
        cases he
        cases ok with
        | true => exact ⟨.tuple #[v', .bool true], by cases d <;> first | exact absurd rfl (hne _) | simp [Instr.typeAssert, hu], tuple2 hv (.bool true)⟩
        | false => exact ⟨v', by cases d <;> first | exact absurd rfl (hne _) | simp [Instr.typeAssert, hu], hv⟩
      | false =>
        rw [ht, cond_false] at he
        have htn : t ≠ asserted := fun e => by rw [e] at ht; simp at ht
        cases ok with
        | true =>
          obtain ⟨z, z1, rfl, z3⟩ := fail rfl he
          refine ⟨_, ?_, tuple2 z3 (.bool false)⟩
          cases d <;> first | exact absurd rfl (hne _) | simp [Instr.typeAssert, hu, z1, htn]
        | false => cases he
  · cases he

/-! ### ranges over a string -/
def iRange (P : Program) (t : TypeId) (x : Value) (H : Heap) : Option (Value × Heap) :=
  match P.underlying t, x with
  | some .string, .string s => some (.pointer (some ⟨H.n, 0, none⟩), H.push (.iter s 0))
  | _, _ => none
theorem range_sim {P : Program} {φ : Inj} {H H' : Heap} {w : World} {t : TypeId} {x x' r : Value} (h : HRel P φ H w.heap) (hx : VRel φ x x') (he : iRange P t x H = some (r, H')) :
    ∃ r' φ' w', (Instr.range t x').run P w = .ok r' w' ∧ VRel φ' r r' ∧ HRel P φ' H' w'.heap ∧ Ext φ H w φ' H' w' := by
  unfold iRange at he
  split at he
  · rename_i s hu
    cases he
    rw [hx.string_inv]
    obtain ⟨n1, n2⟩ := h.alloc (.iter s 0) (.stringIter s 0) ⟨w.heap.size, 0, 0, 0⟩ rfl ⟨by show (w.heap.push _)[w.heap.size]? = _; simp, rfl⟩
    refine ⟨.pointer (some ⟨w.heap.size, 0, none⟩), _, _, ?_, ?_, n1, n2⟩
    · simp [Instr.range, run_underlying hu]
    · have := VRel.ptr (φ := φ.put H.n ⟨w.heap.size, 0, 0, 0⟩) 0 (Inj.put_same ..)
      simpa using this
  · cases he

def iNext (x : Value) (isS : Bool) (H : Heap) : Option (Value × Heap) :=
  chk isS <| match x with
  | .pointer (some ⟨b, 0, none⟩) => match H.get b with
    | some (.iter s pos) => bif Nat.blt pos s.size then some (.tuple #[.bool true, goInt pos, .int .i32 (Utf8.decode s pos).1], H.put b (.iter s (pos + (Utf8.decode s pos).2))) else some (.tuple #[.bool false], H)
    | _ => none
  | _ => none
theorem tuple_self {φ : Inj} {a : Array Value} (h : noAddr 3 (.tuple a) = true) : VRel φ (.tuple a) (.tuple a) := VRel.self 3 _ h
theorem next_sim {P : Program} {φ : Inj} {H H' : Heap} {w : World} {ty : TypeId} {x x' r : Value} {isS : Bool} (h : HRel P φ H w.heap) (hx : VRel φ x x') (he : iNext x isS H = some (r, H')) :
    ∃ r' φ' w', (Instr.next x' isS ty).run P w = .ok r' w' ∧ VRel φ' r r' ∧ HRel P φ' H' w'.heap ∧ Ext φ H w φ' H' w' := by
  replace he := chk_some he; obtain ⟨rfl, he⟩ := he
  split at he
  · rename_i b
    obtain ⟨l, hl, rfl⟩ := hx.ptr_inv
    split at he
    · rename_i s pos hg
      obtain ⟨hob, hoff⟩ : w.heap[l.blk]? = some (.stringIter s pos) ∧ l.off = 0 := h.obj b l _ hl hg
      rw [hoff]
      have hlt := (Array.getElem?_eq_some_iff.1 hob).1
      cases hp : Nat.blt pos s.size with
      | true =>
        rw [hp, cond_true] at he
        cases he
        have hp' : pos < s.size := by simpa [Nat.blt_eq] using hp
        obtain ⟨n1, n2⟩ := h.write hl (by rw [hg]; rfl) (.iter s (pos + (Utf8.decode s pos).2)) (.stringIter s (pos + (Utf8.decode s pos).2)) ⟨by show (w.heap.setIfInBounds l.blk _)[l.blk]? = _; simp [hlt], hoff⟩
        refine ⟨_, φ, _, ?_, tuple_self rfl, n1, n2⟩
        simp [Instr.next, getObj, setObj, Sem.run, hob, hp', World.putI]
      | false =>
        rw [hp, cond_false] at he
        cases he
        have hp' : ¬ pos < s.size := by intro e; rw [show Nat.blt pos s.size = true from by simpa [Nat.blt_eq] using e] at hp; cases hp
        refine ⟨_, φ, w, ?_, tuple_self rfl, h, Ext.refl ..⟩
        simp [Instr.next, getObj, Sem.run, hob, hp']
    · cases he
  · cases he

/-! ### tests and the like -/
def iNil (x : Value) : Option Value :=
  match x with
  | .pointer (some _) => some x
  | .iface _ _ => some x
  | .func (.func _) _ _ => some x
  | _ => none

def iLen (P : Program) (t : TypeId) (x : Value) : Option Value :=
  (P.underlying t).bind fun d => match d, x with
    | .string, .string s => some (goInt s.size)
    | .slice _, .slice _ n _ => some (goInt n)
    | .slice _, .chan (some _) => some (goInt 0)
    | .array n _, _ => some (goInt n)
    | .pointer a, _ => match P.underlying a with
      | some (.array n _) => some (goInt n)
      | _ => none
    | _, _ => none
theorem len_sim {P : Program} {φ : Inj} {ts : Array TypeId} {t ty : TypeId} {x x' r : Value} (hts : ts[0]? = some t) (hx : VRel φ x x') (he : iLen P t x = some r) (w : World) :
    (Builtin.len_ ts ty #[x']).run P w = .ok r w ∧ VRel φ r r := by
  replace he := bind_some he; obtain ⟨d, hd, he⟩ := he
  have hu := run_underlying hd
  split at he
  · cases he
    rw [hx.string_inv]
    exact ⟨by simp [Builtin.len_, hts, hu], .int _ _⟩
  · cases he
    refine ⟨?_, .int _ _⟩
    cases hx <;> simp [Builtin.len_, hts, hu]
  · cases he
    refine ⟨?_, .int _ _⟩
    cases hx <;> simp [Builtin.len_, hts, hu]
  · cases he
    exact ⟨by simp [Builtin.len_, hts, hu], .int _ _⟩
  · split at he
    · rename_i hu2
      cases he
      exact ⟨by simp [Builtin.len_, hts, hu, run_underlying hu2], .int _ _⟩
    · cases he
  · cases he

def iBuiltin (P : Program) (b : Builtin) (ts : Array TypeId) (ty : TypeId) (args : List Value) (H : Heap) : Option (Value × Heap) :=
  match b, args with
  | .append, [s, x] => match ts.toList with
    | [t, u] => iAppend P t u s x H
    | _ => none
  | .copy, [d, x] => (ts[0]?).bind fun t => iCopy P t d x H
  | .clear, [x] => (ts[0]?).bind fun t => iClear P t x H
  | .len, [x] => (ts[0]?).bind fun t => (iLen P t x).map (·, H)
  | .cap, [.slice (some ⟨_, _, some 0⟩) _ c] => (ts[0]?).bind fun t => match P.underlying t with
    | some (.slice _) => some (goInt c, H)
    | _ => none
  | .min, args => chk (args.all (noAddr 3)) ((pureRun P (Builtin.min_ ts ty args.toArray)).bind fun r => chk (noAddr 3 r) (some (r, H)))
  | .max, args => chk (args.all (noAddr 3)) ((pureRun P (Builtin.max_ ts ty args.toArray)).bind fun r => chk (noAddr 3 r) (some (r, H)))
  | _, _ => none

/-- The arguments of a call, related one by one. -/
def LRel (φ : Inj) (a a' : List Value) : Prop := a.length = a'.length ∧ ∀ (i : Nat) x y, a[i]? = some x → a'[i]? = some y → VRel φ x y

theorem LRel.same {φ : Inj} {a a' : List Value} (h : LRel φ a a') (hn : a.all (noAddr 3) = true) : a' = a := by
  have hl := h.1
  apply List.ext_getElem?
  intro i
  by_cases hi : i < a.length
  · have h1 : a[i]? = some a[i] := List.getElem?_eq_getElem hi
    have h2 : a'[i]? = some (a'[i]'(by omega)) := List.getElem?_eq_getElem (by omega)
    rw [h1, h2, (h.2 i _ _ h1 h2).same 3 (List.all_eq_true.1 hn _ (List.getElem_mem hi))]
  · rw [List.getElem?_eq_none (by omega), List.getElem?_eq_none (by omega)]
theorem LRel.two {φ : Inj} {x y : Value} {a' : List Value} (h : LRel φ [x, y] a') : ∃ x' y', a' = [x', y'] ∧ VRel φ x x' ∧ VRel φ y y' := by
  match a', h with
  | [x', y'], h => exact ⟨x', y', rfl, h.2 0 x x' rfl rfl, h.2 1 y y' rfl rfl⟩
  | [], h => cases h.1
  | [_], h => cases h.1
  | _ :: _ :: _ :: _, h => have := h.1; simp at this
theorem LRel.one {φ : Inj} {x : Value} {a' : List Value} (h : LRel φ [x] a') : ∃ x', a' = [x'] ∧ VRel φ x x' := by
  match a', h with
  | [x'], h => exact ⟨x', rfl, h.2 0 x x' rfl rfl⟩
  | [], h => cases h.1
  | _ :: _ :: _, h => have := h.1; simp at this

theorem builtin_sim {P : Program} {φ : Inj} {H H' : Heap} {w : World} {b : Builtin} {ts : Array TypeId} {ty : TypeId} {consts : Array Bool} {args args' : List Value} {r : Value} (h : HRel P φ H w.heap) (ha : LRel φ args args')
    (he : iBuiltin P b ts ty args H = some (r, H')) :
    ∃ r' φ' w', (builtin b ts ty consts args'.toArray).run P w = .ok (.value r') w' ∧ VRel φ' r r' ∧ HRel P φ' H' w'.heap ∧ Ext φ H w φ' H' w' := by
  unfold iBuiltin at he
  split at he
  · rename_i s x
    obtain ⟨s', x', rfl, hs, hx⟩ := ha.two
    split at he
    · rename_i t u hts
      have : ts = #[t, u] := by rw [← hts]
      subst this
      obtain ⟨r', φ', w', h1, h2, h3, h4⟩ := append_sim (ty := ty) h hs hx he
      exact ⟨r', φ', w', by simp [builtin, h1], h2, h3, h4⟩
    · cases he
  · rename_i d x
    obtain ⟨d', x', rfl, hd, hx⟩ := ha.two
    replace he := bind_some he; obtain ⟨t, hts, he⟩ := he
    obtain ⟨r', φ', w', h1, h2, h3, h4⟩ := copy_sim (ty := ty) h hd hx hts he
    exact ⟨r', φ', w', by simp [builtin, h1], h2, h3, h4⟩
  · rename_i x
    obtain ⟨x', rfl, hx⟩ := ha.one
    replace he := bind_some he; obtain ⟨t, hts, he⟩ := he
    obtain ⟨r', φ', w', h1, h2, h3, h4⟩ := clear_sim (ty := ty) h hx hts he
    exact ⟨r', φ', w', by simp [builtin, h1], h2, h3, h4⟩
  · rename_i x
    obtain ⟨x', rfl, hx⟩ := ha.one
    replace he := bind_some he; obtain ⟨t, hts, he⟩ := he
    cases hl : iLen P t x with
    | none => rw [hl] at he; cases he
    | some q =>
      rw [hl] at he; cases he
      obtain ⟨h1, h2⟩ := len_sim (ty := ty) hts hx hl w
      exact ⟨_, φ, w, by simp [builtin, h1], h2, h, Ext.refl ..⟩
  · rename_i b o n c
    obtain ⟨x', rfl, hx⟩ := ha.one
    replace he := bind_some he; obtain ⟨t, hts, he⟩ := he
    split at he
    · rename_i e hu
      cases he
      cases hx with
      | sexact _ _ _ hl => exact ⟨_, φ, w, by simp [builtin, Builtin.cap_, hts, run_underlying hu]; rfl, .int _ _, h, Ext.refl ..⟩
    · cases he
  · replace he := chk_some he; obtain ⟨hk, he⟩ := he
    replace he := bind_some he; obtain ⟨q, hq, he⟩ := he
    replace he := chk_some he; obtain ⟨hr, he⟩ := he
    cases he
    rw [ha.same hk]
    exact ⟨_, φ, w, by simp [builtin, pureRun_run hq w], VRel.self 3 _ hr, h, Ext.refl ..⟩
  · replace he := chk_some he; obtain ⟨hk, he⟩ := he
    replace he := bind_some he; obtain ⟨q, hq, he⟩ := he
    replace he := chk_some he; obtain ⟨hr, he⟩ := he
    cases he
    rw [ha.same hk]
    exact ⟨_, φ, w, by simp [builtin, pureRun_run hq w], VRel.self 3 _ hr, h, Ext.refl ..⟩
  · cases he
end Go.Ideal
