/- Chapter 20 on the ideal machine: the leaf functions, and the reference's graph. -/
import Derived.Test.YthggbjpanpnlnaaM4
set_option linter.unusedVariables false
set_option linter.unusedSimpArgs false
/- The machine of this seat with its standing answers: slices.Sorted over keys, and the examples 'shown'. -/
namespace Go.Proofs.Ythggbjpanpnlnaa
open Go Go.Ideal

def iShown (args : List Value) (H : Heap) : Option (Value × Heap) :=
  match args with
  | [] => some (.bool true, H)
  | _ => none
noncomputable def I1 : FuncId → Option (List Value → Heap → Option (Value × Heap)) := fun g => bif Nat.beq g 9 then some iShown else bif Nat.beq g 57 then some iSort else I0 g

theorem enters9 : Enters Try.prog 9 := table.enters (g := 9) (fn := Try.f9) (c := _) (by kernel_rfl) rfl
theorem enters57 : Enters Try.prog 57 := table.enters (g := 57) (fn := Try.f57) (c := _) (by kernel_rfl) rfl
theorem Shown_good (G : Nat) : GoodAt Try.prog G 9 iShown := by
  intro args H v H' h φ w args' hh hg hl
  unfold iShown at h
  split at h
  · cases h
    have : args' = [] := List.eq_nil_of_length_eq_zero hl.1.symm
    subst this
    refine (shown_calls w).mono ?_
    rintro e w' ⟨rfl, hb⟩
    obtain ⟨n1, n2⟩ := hh.below hb
    exact ⟨_, φ, rfl, .bool _, n1, n2⟩
  · cases h
theorem intr1 (G : Nat) : Intr Try.prog G I1 := by
  constructor
  · intro g sem h
    unfold I1 at h
    cases hb : Nat.beq g 9 with
    | true =>
      rw [hb] at h
      cases h
      rw [Nat.eq_of_beq_eq_true hb]
      exact Shown_good G
    | false =>
      rw [hb, cond_false] at h
      cases hb2 : Nat.beq g 57 with
      | true =>
        rw [hb2] at h
        cases h
        rw [Nat.eq_of_beq_eq_true hb2]
        exact Sort_good G
      | false => rw [hb2] at h; exact (intr G).good g sem h
  · intro g sem h
    unfold I1 at h
    cases hb : Nat.beq g 9 with
    | true => rw [Nat.eq_of_beq_eq_true hb]; exact enters9
    | false =>
      rw [hb, cond_false] at h
      cases hb2 : Nat.beq g 57 with
      | true => rw [Nat.eq_of_beq_eq_true hb2]; exact enters57
      | false => rw [hb2] at h; exact (intr G).enters g sem h

noncomputable def M : Mach := ⟨Try.prog, 0, tab, I1⟩
end Go.Proofs.Ythggbjpanpnlnaa

/- The leaf functions of chapter 20's law on the ideal machine: numbers, references. -/
namespace Go.Proofs.Ythggbjpanpnlnaa
open Go Go.Ideal
set_option maxHeartbeats 4000000

def ptr0 (o : Nat) : Value := .pointer (some ⟨0, o, none⟩)
theorem fa50_0 : FA M.P 50 0 0 := FA.of (by kernel_rfl)
theorem fa50_1 : FA M.P 50 1 1 := FA.of (by kernel_rfl)
theorem fa50_2 : FA M.P 50 2 2 := FA.of (by kernel_rfl)
theorem fa50_3 : FA M.P 50 3 3 := FA.of (by kernel_rfl)
theorem fa60_0 : FA M.P 60 0 0 := FA.of (by kernel_rfl)
theorem fa60_1 : FA M.P 60 1 4 := FA.of (by kernel_rfl)
theorem fa52_0 : FA M.P 52 0 0 := FA.of (by kernel_rfl)
theorem fa52_1 : FA M.P 52 1 4 := FA.of (by kernel_rfl)
theorem t3 : T1 M.P 3 := T1.of (by kernel_rfl)
theorem t4 : T1 M.P 4 := T1.of (by kernel_rfl)
theorem t50 : TA M.P 50 4 := TA.of (by kernel_rfl)
theorem t60 : TA M.P 60 8 := TA.of (by kernel_rfl)
theorem t52 : TA M.P 52 8 := TA.of (by kernel_rfl)
/-- A reference as a value. -/
def refV (c r : Int) (p q : Bool) : Value := .agg #[.int .i64 c, .int .i64 r, .bool p, .bool q]
def refC (c r : Int) (p q : Bool) : List Value := [.int .i64 c, .int .i64 r, .bool p, .bool q]
theorem build50 (a b : Int) : iBuild M.P 50 [(0, .int .i64 a), (1, .int .i64 b)] = some (refV a b false false) := by kernel_rfl
theorem zero50 : iZero M.P 50 = some (refV 0 0 false false) := by kernel_rfl

theorem pick_runs (h : Heap) (hwf : Wf h) (c n : Int) (h0 : -9223372036854775808 ≤ c) (h1 : c < 9223372036854775808) (hn : 0 < n) : Runs M 48 [.int .i64 c, .int .i64 n] h fun v h' => Grow h h' ∧ v = .int .i64 ((if c < 0 then -(c + 1) else c).tmod n) := by
  refine Runs.enter h hwf [] [] (blks_nil ..) (fn := Try.f48) (by kernel_rfl) (by kernel_rfl) rfl (by kernel_rfl) ?_
  repeat' (first
    | refine WC.seq ?_ | refine WC.region ?_ | refine WC.block ?_ | refine WC.condT rfl ?_ | refine WC.condF rfl ?_ | refine WC.skip ?_ | refine WC.exit ?_ | refine WC.ret ?_ | refine WC.scope ?_
    | (refine WO.isG ?_; refine WO.unwanted rfl rfl ?_)
    | (refine WO.isMove ?_; first | refine WO.move rfl rfl rfl ?_)
    | (refine WO.isPick ?_; first | refine WO.pickT rfl rfl rfl rfl ?_ | refine WO.pickF rfl rfl rfl rfl ?_)
    | (refine WO.isBin ?_; first | (refine WO.lss rfl rfl rfl rfl ?_ ?_ <;> intro hc) | (refine WO.leq rfl rfl rfl rfl ?_ ?_ <;> intro hc) | (refine WO.gtr rfl rfl rfl rfl ?_ ?_ <;> intro hc) | (refine WO.geq rfl rfl rfl rfl ?_ ?_ <;> intro hc) | (refine WO.eql rfl rfl rfl rfl ?_ ?_ <;> intro hc) | (refine WO.neq rfl rfl rfl rfl ?_ ?_ <;> intro hc) | (refine WO.add rfl rfl rfl rfl ?_ ?_ ?_; omega; omega) | (refine WO.sub rfl rfl rfl rfl ?_ ?_ ?_; omega; omega) | (refine WO.rem rfl rfl rfl rfl ?_ ?_; omega))
    | (refine WO.isAssign ?_; first | refine WO.assign rfl rfl rfl ?_)
    | (refine WO.isUn ?_; first | refine WO.notT rfl rfl rfl ?_ | refine WO.notF rfl rfl rfl ?_ | (refine WO.notS rfl rfl rfl ?_ ?_ <;> intro hc) | (refine WO.neg rfl rfl rfl ?_ ?_ ?_; omega; omega))
    | (refine WO.isNil ?_; first | refine WO.nilCheck rfl rfl rfl ?_)
    | refine WO.nil ?_)
  · exact ⟨_, ⟨_, _, rfl, rfl, rfl⟩, fun h' k _ => ⟨k.pure, by rw [if_pos hc]; rfl⟩⟩
  · exact ⟨_, ⟨_, _, rfl, rfl, rfl⟩, fun h' k _ => ⟨k.pure, by rw [if_neg hc]; rfl⟩⟩

def inG (i : Int) : Bool := decide (0 ≤ i ∧ i < 64000)
theorem cell44_runs (h : Heap) (hwf : Wf h) (i : Int) : Runs M 44 [.int .i64 i] h fun v h' => Grow h h' ∧ v = .bool (inG i) := by
  refine Runs.enter h hwf [] [] (blks_nil ..) (fn := Try.f44) (by kernel_rfl) (by kernel_rfl) rfl (by kernel_rfl) ?_
  repeat' (first
    | refine WC.seq ?_ | refine WC.region ?_ | refine WC.block ?_ | refine WC.condT rfl ?_ | refine WC.condF rfl ?_ | refine WC.skip ?_ | refine WC.exit ?_ | refine WC.ret ?_ | refine WC.scope ?_
    | (refine WO.isG ?_; refine WO.unwanted rfl rfl ?_)
    | (refine WO.isMove ?_; first | refine WO.move rfl rfl rfl ?_)
    | (refine WO.isPick ?_; first | refine WO.pickT rfl rfl rfl rfl ?_ | refine WO.pickF rfl rfl rfl rfl ?_)
    | (refine WO.isBin ?_; first | (refine WO.lss rfl rfl rfl rfl ?_ ?_ <;> intro hc) | (refine WO.leq rfl rfl rfl rfl ?_ ?_ <;> intro hc) | (refine WO.gtr rfl rfl rfl rfl ?_ ?_ <;> intro hc) | (refine WO.geq rfl rfl rfl rfl ?_ ?_ <;> intro hc) | (refine WO.eql rfl rfl rfl rfl ?_ ?_ <;> intro hc) | (refine WO.neq rfl rfl rfl rfl ?_ ?_ <;> intro hc) | (refine WO.add rfl rfl rfl rfl ?_ ?_ ?_; omega; omega) | (refine WO.sub rfl rfl rfl rfl ?_ ?_ ?_; omega; omega) | (refine WO.rem rfl rfl rfl rfl ?_ ?_; omega))
    | (refine WO.isAssign ?_; first | refine WO.assign rfl rfl rfl ?_)
    | (refine WO.isUn ?_; first | refine WO.notT rfl rfl rfl ?_ | refine WO.notF rfl rfl rfl ?_ | (refine WO.notS rfl rfl rfl ?_ ?_ <;> intro hc) | (refine WO.neg rfl rfl rfl ?_ ?_ ?_; omega; omega))
    | (refine WO.isNil ?_; first | refine WO.nilCheck rfl rfl rfl ?_)
    | refine WO.nil ?_)
  all_goals refine ⟨_, ⟨_, _, rfl, rfl, rfl⟩, fun h' k _ => ⟨k.pure, ?_⟩⟩
  all_goals (show Value.bool _ = _; congr 1; unfold inG; symm; first | (apply decide_eq_true; omega) | (apply decide_eq_false; omega))

def okRef (c r : Int) : Bool := decide (0 ≤ c ∧ c < 64 ∧ 0 ≤ r ∧ r < 1000)
theorem Right68_runs (h : Heap) (hwf : Wf h) (c r : Int) (p q : Bool) : Runs M 68 [refV c r p q] h fun v h' => Grow h h' ∧ v = .bool (okRef c r) := by
  refine Runs.enter h hwf [] [] (blks_nil ..) (fn := Try.f68) (by kernel_rfl) (by kernel_rfl) rfl (by kernel_rfl) ?_
  repeat' (first
    | refine WC.seq ?_ | refine WC.region ?_ | refine WC.block ?_ | refine WC.condT rfl ?_ | refine WC.condF rfl ?_ | refine WC.skip ?_ | refine WC.exit ?_ | refine WC.ret ?_ | refine WC.scope ?_
    | (refine WO.isG ?_; refine WO.unwanted rfl rfl ?_)
    | (refine WO.isMove ?_; first | refine WO.move rfl rfl rfl ?_)
    | (refine WO.isPick ?_; first | refine WO.pickT rfl rfl rfl rfl ?_ | refine WO.pickF rfl rfl rfl rfl ?_)
    | (refine WO.isLoad ?_; first | refine WO.ld 0 t3 rfl rfl rfl rfl rfl ?_)
    | (refine WO.isFA ?_; first | refine WO.fa fa50_0 rfl rfl rfl ?_ | refine WO.fa fa50_1 rfl rfl rfl ?_)
    | (refine WO.isBin ?_; first | (refine WO.lss rfl rfl rfl rfl ?_ ?_ <;> intro hc) | (refine WO.leq rfl rfl rfl rfl ?_ ?_ <;> intro hc) | (refine WO.gtr rfl rfl rfl rfl ?_ ?_ <;> intro hc) | (refine WO.geq rfl rfl rfl rfl ?_ ?_ <;> intro hc) | (refine WO.eql rfl rfl rfl rfl ?_ ?_ <;> intro hc) | (refine WO.neq rfl rfl rfl rfl ?_ ?_ <;> intro hc) | (refine WO.add rfl rfl rfl rfl ?_ ?_ ?_; omega; omega) | (refine WO.sub rfl rfl rfl rfl ?_ ?_ ?_; omega; omega) | (refine WO.rem rfl rfl rfl rfl ?_ ?_; omega))
    | (refine WO.isAssign ?_; first | refine WO.assign rfl rfl rfl ?_)
    | (refine WO.isUn ?_; first | refine WO.notT rfl rfl rfl ?_ | refine WO.notF rfl rfl rfl ?_ | (refine WO.notS rfl rfl rfl ?_ ?_ <;> intro hc) | (refine WO.neg rfl rfl rfl ?_ ?_ ?_; omega; omega))
    | (refine WO.isNil ?_; first | refine WO.nilCheck rfl rfl rfl ?_)
    | (refine WO.isBox ?_; first | (refine WO.box rfl rfl rfl rfl rfl ?_; intro b))
    | refine WO.nil ?_)
  all_goals refine ⟨_, ⟨_, _, rfl, rfl, rfl⟩, fun h' k _ => ⟨k.pure, ?_⟩⟩
  all_goals (show Value.bool _ = _; congr 1; unfold okRef; symm; first | (apply decide_eq_true; omega) | (apply decide_eq_false; omega))
theorem Right49_runs (h : Heap) (hwf : Wf h) (c r : Int) (p q : Bool) : Runs M 49 [refV c r p q] h fun v h' => Grow h h' ∧ v = .bool (okRef c r) := by
  refine Runs.enter h hwf [] [] (blks_nil ..) (fn := Try.f49) (by kernel_rfl) (by kernel_rfl) rfl (by kernel_rfl) ?_
  repeat' (first
    | refine WC.seq ?_ | refine WC.region ?_ | refine WC.block ?_ | refine WC.condT rfl ?_ | refine WC.condF rfl ?_ | refine WC.skip ?_ | refine WC.exit ?_ | refine WC.ret ?_ | refine WC.scope ?_
    | (refine WO.isG ?_; refine WO.unwanted rfl rfl ?_)
    | (refine WO.isMove ?_; first | refine WO.move rfl rfl rfl ?_)
    | (refine WO.isPick ?_; first | refine WO.pickT rfl rfl rfl rfl ?_ | refine WO.pickF rfl rfl rfl rfl ?_)
    | (refine WO.isLoad ?_; first | refine WO.ld 0 t3 rfl rfl rfl rfl rfl ?_)
    | (refine WO.isFA ?_; first | refine WO.fa fa50_0 rfl rfl rfl ?_ | refine WO.fa fa50_1 rfl rfl rfl ?_)
    | (refine WO.isBin ?_; first | (refine WO.lss rfl rfl rfl rfl ?_ ?_ <;> intro hc) | (refine WO.leq rfl rfl rfl rfl ?_ ?_ <;> intro hc) | (refine WO.gtr rfl rfl rfl rfl ?_ ?_ <;> intro hc) | (refine WO.geq rfl rfl rfl rfl ?_ ?_ <;> intro hc) | (refine WO.eql rfl rfl rfl rfl ?_ ?_ <;> intro hc) | (refine WO.neq rfl rfl rfl rfl ?_ ?_ <;> intro hc) | (refine WO.add rfl rfl rfl rfl ?_ ?_ ?_; omega; omega) | (refine WO.sub rfl rfl rfl rfl ?_ ?_ ?_; omega; omega) | (refine WO.rem rfl rfl rfl rfl ?_ ?_; omega))
    | (refine WO.isAssign ?_; first | refine WO.assign rfl rfl rfl ?_)
    | (refine WO.isUn ?_; first | refine WO.notT rfl rfl rfl ?_ | refine WO.notF rfl rfl rfl ?_ | (refine WO.notS rfl rfl rfl ?_ ?_ <;> intro hc) | (refine WO.neg rfl rfl rfl ?_ ?_ ?_; omega; omega))
    | (refine WO.isNil ?_; first | refine WO.nilCheck rfl rfl rfl ?_)
    | (refine WO.isBox ?_; first | (refine WO.box rfl rfl rfl rfl rfl ?_; intro b))
    | refine WO.nil ?_)
  all_goals refine ⟨_, ⟨_, _, rfl, rfl, rfl⟩, fun h' k _ => ⟨k.pure, ?_⟩⟩
  all_goals (show Value.bool _ = _; congr 1; unfold okRef; symm; first | (apply decide_eq_true; omega) | (apply decide_eq_false; omega))

def atC (i : Int) : Int := if 0 ≤ i ∧ i < 64000 then i % 64 else -1
def atR (i : Int) : Int := if 0 ≤ i ∧ i < 64000 then i / 64 else -1
theorem atC_in {i : Int} (h0 : 0 ≤ i) (h : i < 64000) : atC i = i.tmod 64 := by rw [atC, if_pos ⟨h0, h⟩, Int.tmod_eq_emod_of_nonneg h0]
theorem atR_in {i : Int} (h0 : 0 ≤ i) (h : i < 64000) : atR i = i.tdiv 64 := by rw [atR, if_pos ⟨h0, h⟩, Int.tdiv_eq_ediv_of_nonneg h0]
theorem atC_out {i : Int} (h : ¬ (0 ≤ i ∧ i < 64000)) : atC i = -1 := if_neg h
theorem atR_out {i : Int} (h : ¬ (0 ≤ i ∧ i < 64000)) : atR i = -1 := if_neg h
theorem tdiv64 {i : Int} (h0 : 0 ≤ i) (h : i < 64000) : 0 ≤ i.tdiv 64 ∧ i.tdiv 64 < 1000 := by rw [Int.tdiv_eq_ediv_of_nonneg h0]; omega
theorem At54_runs (h : Heap) (hwf : Wf h) (i : Int) : Runs M 54 [.int .i64 i] h fun v h' => Grow h h' ∧ v = refV (atC i) (atR i) false false := by
  refine Runs.enter h hwf [] [] (blks_nil ..) (fn := Try.f54) (by kernel_rfl) (by kernel_rfl) rfl (by kernel_rfl) ?_
  repeat' (first
    | refine WC.seq ?_ | refine WC.region ?_ | refine WC.block ?_ | refine WC.condT rfl ?_ | refine WC.condF rfl ?_ | refine WC.skip ?_ | refine WC.exit ?_ | refine WC.ret ?_ | refine WC.scope ?_
    | (refine WO.isG ?_; refine WO.unwanted rfl rfl ?_)
    | (refine WO.isMove ?_; first | refine WO.move rfl rfl rfl ?_)
    | (refine WO.isPick ?_; first | refine WO.pickT rfl rfl rfl rfl ?_ | refine WO.pickF rfl rfl rfl rfl ?_)
    | (refine WO.isBin ?_; first | (refine WO.quo rfl rfl rfl rfl (by omega) ?_ ?_ ?_; (have := @tdiv64 i (by omega) (by omega); omega); (have := @tdiv64 i (by omega) (by omega); omega)) | (refine WO.lss rfl rfl rfl rfl ?_ ?_ <;> intro hc) | (refine WO.leq rfl rfl rfl rfl ?_ ?_ <;> intro hc) | (refine WO.gtr rfl rfl rfl rfl ?_ ?_ <;> intro hc) | (refine WO.geq rfl rfl rfl rfl ?_ ?_ <;> intro hc) | (refine WO.eql rfl rfl rfl rfl ?_ ?_ <;> intro hc) | (refine WO.neq rfl rfl rfl rfl ?_ ?_ <;> intro hc) | (refine WO.add rfl rfl rfl rfl ?_ ?_ ?_; omega; omega) | (refine WO.sub rfl rfl rfl rfl ?_ ?_ ?_; omega; omega) | (refine WO.rem rfl rfl rfl rfl ?_ ?_; omega))
    | (refine WO.isAssign ?_; first | refine WO.assign rfl rfl rfl ?_)
    | (refine WO.isUn ?_; first | refine WO.notT rfl rfl rfl ?_ | refine WO.notF rfl rfl rfl ?_ | (refine WO.notS rfl rfl rfl ?_ ?_ <;> intro hc) | (refine WO.neg rfl rfl rfl ?_ ?_ ?_; omega; omega))
    | (refine WO.isNil ?_; first | refine WO.nilCheck rfl rfl rfl ?_)
    | (refine WO.isStore ?_; first | refine WO.stA 0 t50 rfl rfl rfl rfl rfl rfl rfl rfl rfl rfl rfl ?_)
    | (refine WO.isBuild ?_; first | refine WO.build rfl rfl (build50 _ _) rfl ?_)
    | (refine WO.isAlloc ?_; first | (refine WO.alloc rfl zero50 rfl rfl rfl ?_; intro b))
    | refine WO.nil ?_)
  all_goals refine ⟨_, ⟨_, _, _, rfl, has_resA 0 t50 rfl rfl rfl, rfl, rfl⟩, fun h' k _ => ⟨k.pure, ?_⟩⟩
  · rw [atC_out (by omega), atR_out (by omega)]; rfl
  · rw [atC_out (by omega), atR_out (by omega)]; rfl
  · rw [atC_in (by omega) (by omega), atR_in (by omega) (by omega)]; rfl
theorem At50_runs (h : Heap) (hwf : Wf h) (i : Int) : Runs M 50 [.int .i64 i] h fun v h' => Grow h h' ∧ v = refV (atC i) (atR i) false false := by
  refine Runs.enter h hwf [] [] (blks_nil ..) (fn := Try.f50) (by kernel_rfl) (by kernel_rfl) rfl (by kernel_rfl) ?_
  repeat' (first
    | refine WC.seq ?_ | refine WC.region ?_ | refine WC.block ?_ | refine WC.condT rfl ?_ | refine WC.condF rfl ?_ | refine WC.skip ?_ | refine WC.exit ?_ | refine WC.ret ?_ | refine WC.scope ?_
    | (refine WO.isG ?_; refine WO.unwanted rfl rfl ?_)
    | (refine WO.isMove ?_; first | refine WO.move rfl rfl rfl ?_)
    | (refine WO.isPick ?_; first | refine WO.pickT rfl rfl rfl rfl ?_ | refine WO.pickF rfl rfl rfl rfl ?_)
    | (refine WO.isBin ?_; first | (refine WO.quo rfl rfl rfl rfl (by omega) ?_ ?_ ?_; (have := @tdiv64 i (by omega) (by omega); omega); (have := @tdiv64 i (by omega) (by omega); omega)) | (refine WO.lss rfl rfl rfl rfl ?_ ?_ <;> intro hc) | (refine WO.leq rfl rfl rfl rfl ?_ ?_ <;> intro hc) | (refine WO.gtr rfl rfl rfl rfl ?_ ?_ <;> intro hc) | (refine WO.geq rfl rfl rfl rfl ?_ ?_ <;> intro hc) | (refine WO.eql rfl rfl rfl rfl ?_ ?_ <;> intro hc) | (refine WO.neq rfl rfl rfl rfl ?_ ?_ <;> intro hc) | (refine WO.add rfl rfl rfl rfl ?_ ?_ ?_; omega; omega) | (refine WO.sub rfl rfl rfl rfl ?_ ?_ ?_; omega; omega) | (refine WO.rem rfl rfl rfl rfl ?_ ?_; omega))
    | (refine WO.isAssign ?_; first | refine WO.assign rfl rfl rfl ?_)
    | (refine WO.isUn ?_; first | refine WO.notT rfl rfl rfl ?_ | refine WO.notF rfl rfl rfl ?_ | (refine WO.notS rfl rfl rfl ?_ ?_ <;> intro hc) | (refine WO.neg rfl rfl rfl ?_ ?_ ?_; omega; omega))
    | (refine WO.isNil ?_; first | refine WO.nilCheck rfl rfl rfl ?_)
    | (refine WO.isStore ?_; first | refine WO.stA 0 t50 rfl rfl rfl rfl rfl rfl rfl rfl rfl rfl rfl ?_)
    | (refine WO.isBuild ?_; first | refine WO.build rfl rfl (build50 _ _) rfl ?_)
    | (refine WO.isAlloc ?_; first | (refine WO.alloc rfl zero50 rfl rfl rfl ?_; intro b))
    | refine WO.nil ?_)
  all_goals refine ⟨_, ⟨_, _, _, rfl, has_resA 0 t50 rfl rfl rfl, rfl, rfl⟩, fun h' k _ => ⟨k.pure, ?_⟩⟩
  · rw [atC_out (by omega), atR_out (by omega)]; rfl
  · rw [atC_out (by omega), atR_out (by omega)]; rfl
  · rw [atC_in (by omega) (by omega), atR_in (by omega) (by omega)]; rfl
theorem plain67_runs (h : Heap) (hwf : Wf h) (c r : Int) (p q : Bool) : Runs M 67 [refV c r p q] h fun v h' => Grow h h' ∧ v = refV c r false false := by
  refine Runs.enter h hwf [] [] (blks_nil ..) (fn := Try.f67) (by kernel_rfl) (by kernel_rfl) rfl (by kernel_rfl) ?_
  repeat' (first
    | refine WC.seq ?_ | refine WC.region ?_ | refine WC.block ?_ | refine WC.condT rfl ?_ | refine WC.condF rfl ?_ | refine WC.skip ?_ | refine WC.exit ?_ | refine WC.ret ?_ | refine WC.scope ?_
    | (refine WO.isG ?_; refine WO.unwanted rfl rfl ?_)
    | (refine WO.isMove ?_; first | refine WO.move rfl rfl rfl ?_)
    | (refine WO.isPick ?_; first | refine WO.pickT rfl rfl rfl rfl ?_ | refine WO.pickF rfl rfl rfl rfl ?_)
    | (refine WO.isLoad ?_; first | refine WO.ld 1 t3 rfl rfl rfl rfl rfl ?_)
    | (refine WO.isFA ?_; first | refine WO.fa fa50_0 rfl rfl rfl ?_ | refine WO.fa fa50_1 rfl rfl rfl ?_)
    | (refine WO.isBin ?_; first | (refine WO.lss rfl rfl rfl rfl ?_ ?_ <;> intro hc) | (refine WO.leq rfl rfl rfl rfl ?_ ?_ <;> intro hc) | (refine WO.gtr rfl rfl rfl rfl ?_ ?_ <;> intro hc) | (refine WO.geq rfl rfl rfl rfl ?_ ?_ <;> intro hc) | (refine WO.eql rfl rfl rfl rfl ?_ ?_ <;> intro hc) | (refine WO.neq rfl rfl rfl rfl ?_ ?_ <;> intro hc) | (refine WO.add rfl rfl rfl rfl ?_ ?_ ?_; omega; omega) | (refine WO.sub rfl rfl rfl rfl ?_ ?_ ?_; omega; omega) | (refine WO.rem rfl rfl rfl rfl ?_ ?_; omega))
    | (refine WO.isAssign ?_; first | refine WO.assign rfl rfl rfl ?_)
    | (refine WO.isUn ?_; first | refine WO.notT rfl rfl rfl ?_ | refine WO.notF rfl rfl rfl ?_ | (refine WO.notS rfl rfl rfl ?_ ?_ <;> intro hc) | (refine WO.neg rfl rfl rfl ?_ ?_ ?_; omega; omega))
    | (refine WO.isNil ?_; first | refine WO.nilCheck rfl rfl rfl ?_)
    | (refine WO.isStore ?_; first | refine WO.stA 0 t50 rfl rfl rfl rfl rfl rfl rfl rfl rfl rfl rfl ?_)
    | (refine WO.isBuild ?_; first | refine WO.build rfl rfl (build50 _ _) rfl ?_)
    | (refine WO.isAlloc ?_; first | (refine WO.alloc rfl zero50 rfl rfl rfl ?_; intro b2))
    | (refine WO.isBox ?_; first | (refine WO.box rfl rfl rfl rfl rfl ?_; intro b))
    | refine WO.nil ?_)
  exact ⟨_, ⟨_, _, _, rfl, has_resA 0 t50 rfl rfl rfl, rfl, rfl⟩, fun h' k _ => ⟨k.pure, rfl⟩⟩

/-- An area as a value: two references. -/
def areaC (a b : List Value) : List Value := a ++ b
def okArea (ac ar bc br : Int) (p q s t : Bool) : Bool := okRef ac ar && okRef bc br && !p && !q && !s && !t && decide (ac ≤ bc ∧ ar ≤ br)
def areaV (ac ar : Int) (p q : Bool) (bc br : Int) (s t : Bool) : Value := .agg #[.int .i64 ac, .int .i64 ar, .bool p, .bool q, .int .i64 bc, .int .i64 br, .bool s, .bool t]
theorem area55_runs (h : Heap) (hwf : Wf h) (ac ar bc br : Int) (p q s t : Bool) : Runs M 55 [areaV ac ar p q bc br s t] h fun v h' => Grow h h' ∧ v = .bool (okArea ac ar bc br p q s t) := by
  refine Runs.enter h hwf [] [] (blks_nil ..) (fn := Try.f55) (by kernel_rfl) (by kernel_rfl) rfl (by kernel_rfl) ?_
  repeat' (first
    | refine WC.seq ?_ | refine WC.region ?_ | refine WC.block ?_ | refine WC.condT rfl ?_ | refine WC.condF rfl ?_ | refine WC.skip ?_ | refine WC.exit ?_ | refine WC.ret ?_ | refine WC.scope ?_
    | (refine WO.isG ?_; refine WO.unwanted rfl rfl ?_)
    | (refine WO.isMove ?_; first | refine WO.move rfl rfl rfl ?_)
    | (refine WO.isPick ?_; first | refine WO.pickT rfl rfl rfl rfl ?_ | refine WO.pickF rfl rfl rfl rfl ?_)
    | (refine WO.isLoad ?_; first | refine WO.ldA 0 t50 rfl rfl rfl rfl rfl rfl ?_ | refine WO.ld 0 t3 rfl rfl rfl rfl rfl ?_ | refine WO.ld 0 t4 rfl rfl rfl rfl rfl ?_)
    | (refine WO.isFA ?_; first | refine WO.fa fa60_0 rfl rfl rfl ?_ | refine WO.fa fa60_1 rfl rfl rfl ?_ | refine WO.fa fa50_2 rfl rfl rfl ?_ | refine WO.fa fa50_3 rfl rfl rfl ?_ | refine WO.fa fa50_0 rfl rfl rfl ?_ | refine WO.fa fa50_1 rfl rfl rfl ?_)
    | (refine WO.isBin ?_; first | (refine WO.lss rfl rfl rfl rfl ?_ ?_ <;> intro hc) | (refine WO.leq rfl rfl rfl rfl ?_ ?_ <;> intro hc) | (refine WO.gtr rfl rfl rfl rfl ?_ ?_ <;> intro hc) | (refine WO.geq rfl rfl rfl rfl ?_ ?_ <;> intro hc) | (refine WO.eql rfl rfl rfl rfl ?_ ?_ <;> intro hc) | (refine WO.neq rfl rfl rfl rfl ?_ ?_ <;> intro hc) | (refine WO.add rfl rfl rfl rfl ?_ ?_ ?_; omega; omega) | (refine WO.sub rfl rfl rfl rfl ?_ ?_ ?_; omega; omega) | (refine WO.rem rfl rfl rfl rfl ?_ ?_; omega))
    | (refine WO.isAssign ?_; first | refine WO.assign rfl rfl rfl ?_)
    | (refine WO.isCall ?_; first | (refine WO.callB (fun h hh _ => Right68_runs h hh.top _ _ _ _) rfl rfl rfl rfl ?_ ?_ <;> intro hc))
    | (refine WO.isUn ?_; first | refine WO.notT rfl rfl rfl ?_ | refine WO.notF rfl rfl rfl ?_ | (refine WO.notS rfl rfl rfl ?_ ?_ <;> intro hc) | (refine WO.neg rfl rfl rfl ?_ ?_ ?_; omega; omega))
    | (refine WO.isNil ?_; first | refine WO.nilCheck rfl rfl rfl ?_)
    | (refine WO.isBox ?_; first | (refine WO.box rfl rfl rfl rfl rfl ?_; intro b))
    | refine WO.nil ?_)
  all_goals refine ⟨_, ⟨_, _, rfl, rfl, rfl⟩, fun h' k _ => ⟨k.pure, ?_⟩⟩
  all_goals (show Value.bool _ = _; congr 1; unfold okArea; simp [*])
theorem min_i {P : Program} {ts : Array TypeId} {ty : TypeId} (h : Heap) (a b : Int) : iBuiltin2 P .min ts ty [.int .i64 a, .int .i64 b] h = some (.int .i64 (min a b), h) := by
  have e : pureRun P (Builtin.min_ ts ty #[.int .i64 a, .int .i64 b]) = some (.int .i64 (if b < a then b else a)) := rfl
  have e2 : (if b < a then b else a) = min a b := by omega
  rw [e2] at e
  unfold iBuiltin2 iBuiltin
  simp only [List.all_cons, List.all_nil, noAddr, Bool.and_self, chk, cond_true]
  show (pureRun P (Builtin.min_ ts ty #[.int .i64 a, .int .i64 b])).bind _ = _
  rw [e]
  rfl
theorem max_i {P : Program} {ts : Array TypeId} {ty : TypeId} (h : Heap) (a b : Int) : iBuiltin2 P .max ts ty [.int .i64 a, .int .i64 b] h = some (.int .i64 (max a b), h) := by
  have e : pureRun P (Builtin.max_ ts ty #[.int .i64 a, .int .i64 b]) = some (.int .i64 (if b > a then b else a)) := rfl
  have e2 : (if b > a then b else a) = max a b := by omega
  rw [e2] at e
  unfold iBuiltin2 iBuiltin
  simp only [List.all_cons, List.all_nil, noAddr, Bool.and_self, chk, cond_true]
  show (pureRun P (Builtin.max_ ts ty #[.int .i64 a, .int .i64 b])).bind _ = _
  rw [e]
  rfl

def inside (c r ac ar bc br : Int) : Bool := okRef c r && okRef ac ar && okRef bc br && decide (min ac bc ≤ c ∧ c ≤ max ac bc ∧ min ar br ≤ r ∧ r ≤ max ar br)
theorem Inside65_runs (h : Heap) (hwf : Wf h) (c r ac ar bc br : Int) (p1 p2 p3 q1 q2 q3 : Bool) : Runs M 65 [refV c r p1 q1, refV ac ar p2 q2, refV bc br p3 q3] h fun v h' => Grow h h' ∧ v = .bool (inside c r ac ar bc br) := by
  refine Runs.enter h hwf [] [] (blks_nil ..) (fn := Try.f65) (by kernel_rfl) (by kernel_rfl) rfl (by kernel_rfl) ?_
  repeat' (first
    | refine WC.seq ?_ | refine WC.region ?_ | refine WC.block ?_ | refine WC.condT rfl ?_ | refine WC.condF rfl ?_ | refine WC.skip ?_ | refine WC.exit ?_ | refine WC.ret ?_ | refine WC.scope ?_
    | (refine WO.isG ?_; refine WO.unwanted rfl rfl ?_)
    | (refine WO.isMove ?_; first | refine WO.move rfl rfl rfl ?_)
    | (refine WO.isPick ?_; first | refine WO.pickT rfl rfl rfl rfl ?_ | refine WO.pickF rfl rfl rfl rfl ?_)
    | (refine WO.isLoad ?_; first | refine WO.ld 0 t3 rfl rfl rfl rfl rfl ?_ | refine WO.ld 1 t3 rfl rfl rfl rfl rfl ?_ | refine WO.ld 2 t3 rfl rfl rfl rfl rfl ?_ | refine WO.ldA 0 t50 rfl rfl rfl rfl rfl rfl ?_ | refine WO.ldA 1 t50 rfl rfl rfl rfl rfl rfl ?_ | refine WO.ldA 2 t50 rfl rfl rfl rfl rfl rfl ?_)
    | (refine WO.isFA ?_; first | refine WO.fa fa50_0 rfl rfl rfl ?_ | refine WO.fa fa50_1 rfl rfl rfl ?_)
    | (refine WO.isBin ?_; first | (refine WO.lss rfl rfl rfl rfl ?_ ?_ <;> intro hc) | (refine WO.leq rfl rfl rfl rfl ?_ ?_ <;> intro hc) | (refine WO.gtr rfl rfl rfl rfl ?_ ?_ <;> intro hc) | (refine WO.geq rfl rfl rfl rfl ?_ ?_ <;> intro hc) | (refine WO.eql rfl rfl rfl rfl ?_ ?_ <;> intro hc) | (refine WO.neq rfl rfl rfl rfl ?_ ?_ <;> intro hc) | (refine WO.add rfl rfl rfl rfl ?_ ?_ ?_; omega; omega) | (refine WO.sub rfl rfl rfl rfl ?_ ?_ ?_; omega; omega) | (refine WO.rem rfl rfl rfl rfl ?_ ?_; omega))
    | (refine WO.isAssign ?_; first | refine WO.assign rfl rfl rfl ?_)
    | (refine WO.isCall ?_; first | (refine WO.callB (fun h hh _ => Right68_runs h hh.top _ _ _ _) rfl rfl rfl rfl ?_ ?_ <;> intro hc) | refine WO.builtin rfl rfl (fun h _ _ => min_i h _ _) rfl ?_ | refine WO.builtin rfl rfl (fun h _ _ => max_i h _ _) rfl ?_)
    | (refine WO.isUn ?_; first | refine WO.notT rfl rfl rfl ?_ | refine WO.notF rfl rfl rfl ?_ | (refine WO.notS rfl rfl rfl ?_ ?_ <;> intro hc) | (refine WO.neg rfl rfl rfl ?_ ?_ ?_; omega; omega))
    | (refine WO.isNil ?_; first | refine WO.nilCheck rfl rfl rfl ?_)
    | (refine WO.isBox ?_; first | (refine WO.box rfl rfl rfl rfl rfl ?_; intro b))
    | refine WO.nil ?_)
  all_goals refine ⟨_, ⟨_, _, rfl, rfl, rfl⟩, fun h' k _ => ⟨k.pure, ?_⟩⟩
  all_goals (show Value.bool _ = _; congr 1; unfold inside; simp [*])

def at27 (n : Int) : Int := (64 * ((if n < 0 then -(n + 1) else n).tmod 20).tdiv 5) + ((if n < 0 then -(n + 1) else n).tmod 20).tmod 5
theorem at27_bound (n : Int) : 0 ≤ ((if n < 0 then -(n + 1) else n).tmod 20) ∧ ((if n < 0 then -(n + 1) else n).tmod 20) < 20 := by
  have h0 : 0 ≤ (if n < 0 then -(n + 1) else n) := by split <;> omega
  rw [Int.tmod_eq_emod_of_nonneg h0]
  omega
theorem at27_runs (h : Heap) (hwf : Wf h) (n : Int) (h0 : -9223372036854775808 ≤ n) (h1 : n < 9223372036854775808) : Runs M 27 [.int .i64 n] h fun v h' => Grow h h' ∧ v = .int .i64 (at27 n) := by
  obtain ⟨b0, b1⟩ := at27_bound n
  have c0 : 0 ≤ ((if n < 0 then -(n + 1) else n).tmod 20).tdiv 5 ∧ ((if n < 0 then -(n + 1) else n).tmod 20).tdiv 5 < 4 := by rw [Int.tdiv_eq_ediv_of_nonneg b0]; omega
  have c1 : 0 ≤ ((if n < 0 then -(n + 1) else n).tmod 20).tmod 5 ∧ ((if n < 0 then -(n + 1) else n).tmod 20).tmod 5 < 5 := by rw [Int.tmod_eq_emod_of_nonneg b0]; omega
  refine Runs.enter h hwf [] [] (blks_nil ..) (fn := Try.f27) (by kernel_rfl) (by kernel_rfl) rfl (by kernel_rfl) ?_
  repeat' (first
    | refine WC.seq ?_ | refine WC.region ?_ | refine WC.block ?_ | refine WC.condT rfl ?_ | refine WC.condF rfl ?_ | refine WC.skip ?_ | refine WC.exit ?_ | refine WC.ret ?_ | refine WC.scope ?_
    | (refine WO.isG ?_; refine WO.unwanted rfl rfl ?_)
    | (refine WO.isMove ?_; first | refine WO.move rfl rfl rfl ?_)
    | (refine WO.isPick ?_; first | refine WO.pickT rfl rfl rfl rfl ?_ | refine WO.pickF rfl rfl rfl rfl ?_)
    | (refine WO.isBin ?_; first | (refine WO.quo rfl rfl rfl rfl (by omega) ?_ ?_ ?_; omega; omega) | (refine WO.mul rfl rfl rfl rfl ?_ ?_ ?_; omega; omega) | (refine WO.lss rfl rfl rfl rfl ?_ ?_ <;> intro hc) | (refine WO.leq rfl rfl rfl rfl ?_ ?_ <;> intro hc) | (refine WO.gtr rfl rfl rfl rfl ?_ ?_ <;> intro hc) | (refine WO.geq rfl rfl rfl rfl ?_ ?_ <;> intro hc) | (refine WO.eql rfl rfl rfl rfl ?_ ?_ <;> intro hc) | (refine WO.neq rfl rfl rfl rfl ?_ ?_ <;> intro hc) | (refine WO.add rfl rfl rfl rfl ?_ ?_ ?_; omega; omega) | (refine WO.sub rfl rfl rfl rfl ?_ ?_ ?_; omega; omega) | (refine WO.rem rfl rfl rfl rfl ?_ ?_; omega))
    | (refine WO.isAssign ?_; first | refine WO.assign rfl rfl rfl ?_)
    | (refine WO.isCall ?_; first | refine WO.callV (fun h hh _ => pick_runs h hh.top _ _ h0 h1 (by omega)) rfl rfl rfl rfl ?_)
    | (refine WO.isUn ?_; first | refine WO.notT rfl rfl rfl ?_ | refine WO.notF rfl rfl rfl ?_ | (refine WO.notS rfl rfl rfl ?_ ?_ <;> intro hc) | (refine WO.neg rfl rfl rfl ?_ ?_ ?_; omega; omega))
    | (refine WO.isNil ?_; first | refine WO.nilCheck rfl rfl rfl ?_)
    | refine WO.nil ?_)
  exact ⟨_, ⟨_, _, rfl, rfl, rfl⟩, fun h' k _ => ⟨k.pure, rfl⟩⟩
end Go.Proofs.Ythggbjpanpnlnaa

/- The functions of chapter 20's law on slices of ints, on the ideal machine. -/
namespace Go.Proofs.Ythggbjpanpnlnaa
open Go Go.Ideal
set_option maxHeartbeats 4000000

def encI (n : Int) : List Value := [.int .i64 n]
theorem info3 : ∃ inf, M.P.info? 3 = some inf ∧ inf.size = 1 := by
  obtain ⟨d, inf, _, _, h3, h4⟩ := t3.h
  exact ⟨inf, h3, h4⟩
/-- A slice of ints. -/
def Ints (h : Heap) (v : Value) (l : List Int) : Prop := SliceL h v 1 (l.map encI)
theorem Ints.len {B : Heap} {Mu : List Nat} {H : List Ent} {v : Value} {l : List Int} (s : Has B Mu H fun h => Ints h v l) : LenF M B Mu H 23 v l.length := .mk fun ty h hh hb => by
  have := SliceL.len (P := M.P) (t := 23) (ty := ty) (e := 3) (s h hh hb) Try.underlying23
  simpa using this
theorem Ints.ix {B : Heap} {Mu : List Nat} {H : List Ent} {v : Value} {l : List Int} {i : Int} (s : Has B Mu H fun h => Ints h v l) (h0 : 0 ≤ i) (h1 : i < l.length) : IxF M B Mu H 23 v i (slq v 1 i 0) := .mk fun h hh hb => by
  obtain ⟨inf, h2, h3⟩ := info3
  exact SliceL.ix (P := M.P) (s h hh hb) Try.underlying23 h2 h3 h0 (by simpa using h1)
theorem Ints.ld {B : Heap} {Mu : List Nat} {H : List Ent} {v : Value} {l : List Int} {i : Int} (s : Has B Mu H fun h => Ints h v l) (h0 : 0 ≤ i) (h1 : i < l.length) : LdF M B Mu H 3 (slq v 1 i 0) (.int .i64 (l.getD i.toNat 0)) := .mk fun h hh hb => by
  have hlt : i.toNat < l.length := by omega
  refine SliceL.ld1 (P := M.P) (cs := encI (l.getD i.toNat 0)) (s h hh hb) h0 ?_ Try.underlying3 rfl rfl
  rw [List.getElem?_map, List.getElem?_eq_getElem hlt, List.getD_eq_getElem?_getD, List.getElem?_eq_getElem hlt]
  rfl
/-- What was there at the start is there. -/
theorem Ints.base {B : Heap} {H : List Ent} {v : Value} {l : List Int} (s : Ints B v l) : Has B [] H fun h => Ints h v l := fun h hh _ => SliceL.grow s hh.pure
theorem Ints.own {B : Heap} {Mu : List Nat} {H : List Ent} {v : Value} {e : TypeId} {l : List Int} (k0 : Nat) (hk : H[k0]? = some (.own v 1 e (l.map encI))) : Has B Mu H fun h => Ints h v l := has_own k0 hk

theorem Has_runs (h : Heap) (hwf : Wf h) (v : Value) (l : List Int) (x : Int) (hs : Ints h v l) (hl : l.length < 9223372036854775807) : Runs M 17 [v, .int .i64 x] h fun r h' => Grow h h' ∧ r = .bool (l.contains x) := by
  refine Runs.enter h hwf [] [] (blks_nil ..) (fn := Try.f17) (by kernel_rfl) (by kernel_rfl) rfl (by kernel_rfl) ?_
  repeat' (first
    | refine WC.seq ?_ | refine WC.region ?_ | refine WC.block ?_ | refine WC.condT rfl ?_ | refine WC.condF rfl ?_ | refine WC.skip ?_ | refine WC.exit ?_ | refine WC.ret ?_ | refine WC.scope ?_
    | (refine WO.isG ?_; refine WO.unwanted rfl rfl ?_)
    | (refine WO.isMove ?_; first | refine WO.move rfl rfl rfl ?_)
    | (refine WO.isPick ?_; first | refine WO.pickT rfl rfl rfl rfl ?_ | refine WO.pickF rfl rfl rfl rfl ?_)
    | (refine WO.isBin ?_; first | (refine WO.lss rfl rfl rfl rfl ?_ ?_ <;> intro hc) | (refine WO.leq rfl rfl rfl rfl ?_ ?_ <;> intro hc) | (refine WO.gtr rfl rfl rfl rfl ?_ ?_ <;> intro hc) | (refine WO.geq rfl rfl rfl rfl ?_ ?_ <;> intro hc) | (refine WO.eql rfl rfl rfl rfl ?_ ?_ <;> intro hc) | (refine WO.neq rfl rfl rfl rfl ?_ ?_ <;> intro hc) | (refine WO.add rfl rfl rfl rfl ?_ ?_ ?_; omega; omega) | (refine WO.sub rfl rfl rfl rfl ?_ ?_ ?_; omega; omega) | (refine WO.rem rfl rfl rfl rfl ?_ ?_; omega))
    | (refine WO.isAssign ?_; first | refine WO.assign rfl rfl rfl ?_)
    | (refine WO.isUn ?_; first | refine WO.notT rfl rfl rfl ?_ | refine WO.notF rfl rfl rfl ?_ | (refine WO.notS rfl rfl rfl ?_ ?_ <;> intro hc) | (refine WO.neg rfl rfl rfl ?_ ?_ ?_; omega; omega))
    | (refine WO.isNil ?_; first | refine WO.nilCheck rfl rfl rfl ?_)
    | refine WO.nil ?_)
  refine WC.loop (α := Nat) (fun i => [(0, v), (1, .int .i64 x), (5, .int .i64 (i : Int))]) (fun _ => []) (fun i => i ≤ l.length ∧ ∀ j, j < i → l.getD j 0 ≠ x) (fun i => l.length - i) 0 ⟨rfl, rfl, rfl, trivial⟩ (List.Sublist.refl _) ⟨Nat.zero_le _, fun j hj => by omega⟩ ?_
  intro i hJ
  obtain ⟨hi, hno⟩ := hJ
  repeat' (first
    | refine WC.seq ?_ | refine WC.region ?_ | refine WC.block ?_ | refine WC.condT rfl ?_ | refine WC.condF rfl ?_ | refine WC.skip ?_ | refine WC.exit ?_ | refine WC.ret ?_ | refine WC.scope ?_
    | (refine WO.isG ?_; refine WO.unwanted rfl rfl ?_)
    | (refine WO.isMove ?_; first | refine WO.move rfl rfl rfl ?_)
    | (refine WO.isPick ?_; first | refine WO.pickT rfl rfl rfl rfl ?_ | refine WO.pickF rfl rfl rfl rfl ?_)
    | (refine WO.isLoad ?_; first | (refine WO.ldF (Ints.ld hs.base ?_ ?_) rfl rfl rfl ?_; omega; omega))
    | (refine WO.isBin ?_; first | (refine WO.lss rfl rfl rfl rfl ?_ ?_ <;> intro hc) | (refine WO.leq rfl rfl rfl rfl ?_ ?_ <;> intro hc) | (refine WO.gtr rfl rfl rfl rfl ?_ ?_ <;> intro hc) | (refine WO.geq rfl rfl rfl rfl ?_ ?_ <;> intro hc) | (refine WO.eql rfl rfl rfl rfl ?_ ?_ <;> intro hc) | (refine WO.neq rfl rfl rfl rfl ?_ ?_ <;> intro hc) | (refine WO.add rfl rfl rfl rfl ?_ ?_ ?_; omega; omega) | (refine WO.sub rfl rfl rfl rfl ?_ ?_ ?_; omega; omega) | (refine WO.rem rfl rfl rfl rfl ?_ ?_; omega))
    | (refine WO.isAssign ?_; first | refine WO.assign rfl rfl rfl ?_)
    | (refine WO.isCall ?_; first | refine WO.lenF (Ints.len hs.base) rfl rfl rfl ?_)
    | (refine WO.isUn ?_; first | refine WO.notT rfl rfl rfl ?_ | refine WO.notF rfl rfl rfl ?_ | (refine WO.notS rfl rfl rfl ?_ ?_ <;> intro hc) | (refine WO.neg rfl rfl rfl ?_ ?_ ?_; omega; omega))
    | (refine WO.isIA ?_; first | (refine WO.ixF (Ints.ix hs.base ?_ ?_) rfl rfl rfl rfl ?_; omega; omega))
    | (refine WO.isNil ?_; first | refine WO.nilCheck rfl rfl rfl ?_)
    | refine WO.nil ?_)
  · refine ⟨_, ⟨_, _, rfl, rfl, rfl⟩, fun h' k _ => ⟨k.pure, ?_⟩⟩
    have hm : x ∈ l := by
      have hlt : i < l.length := by omega
      rw [show ((i : Int)).toNat = i from by omega, List.getD_eq_getElem?_getD, List.getElem?_eq_getElem hlt] at hc
      rw [← hc]
      exact List.getElem_mem hlt
    show Value.bool true = _
    rw [List.contains_iff_mem.2 hm]
  · refine ⟨i + 1, ⟨rfl, rfl, rfl, trivial⟩, List.Sublist.refl _, ⟨by omega, fun j hj => ?_⟩, (by show l.length - (i + 1) < l.length - i; omega)⟩
    rcases Nat.lt_or_ge j i with h1 | h1
    · exact hno j h1
    · rw [show j = i from by omega]
      rwa [show ((i : Int)).toNat = i from by omega] at hc
  · refine ⟨_, ⟨_, _, rfl, rfl, rfl⟩, fun h' k _ => ⟨k.pure, ?_⟩⟩
    have hm : ¬ x ∈ l := by
      intro hm
      obtain ⟨j, hj, e⟩ := List.mem_iff_getElem.1 hm
      refine hno j (by omega) ?_
      rw [List.getD_eq_getElem?_getD, List.getElem?_eq_getElem hj]
      exact e
    show Value.bool false = _
    congr 1
    symm
    simpa using hm

theorem getD_ext {a b : List Int} (hl : a.length = b.length) (h : ∀ j, j < a.length → a.getD j 0 = b.getD j 0) : a = b := by
  refine List.ext_getElem hl (fun j h1 h2 => ?_)
  have := h j h1
  rwa [List.getD_eq_getElem?_getD, List.getD_eq_getElem?_getD, List.getElem?_eq_getElem h1, List.getElem?_eq_getElem h2] at this
theorem same_runs (h : Heap) (hwf : Wf h) (v w : Value) (a b : List Int) (hs : Ints h v a) (ht : Ints h w b) (hl : a.length < 9223372036854775807) : Runs M 12 [v, w] h fun r h' => Grow h h' ∧ r = .bool (decide (a = b)) := by
  refine Runs.enter h hwf [] [] (blks_nil ..) (fn := Try.f12) (by kernel_rfl) (by kernel_rfl) rfl (by kernel_rfl) ?_
  repeat' (first
    | refine WC.seq ?_ | refine WC.region ?_ | refine WC.block ?_ | refine WC.condT rfl ?_ | refine WC.condF rfl ?_ | refine WC.skip ?_ | refine WC.exit ?_ | refine WC.ret ?_ | refine WC.scope ?_
    | (refine WO.isG ?_; refine WO.unwanted rfl rfl ?_)
    | (refine WO.isMove ?_; first | refine WO.move rfl rfl rfl ?_)
    | (refine WO.isPick ?_; first | refine WO.pickT rfl rfl rfl rfl ?_ | refine WO.pickF rfl rfl rfl rfl ?_)
    | (refine WO.isBin ?_; first | (refine WO.lss rfl rfl rfl rfl ?_ ?_ <;> intro hc) | (refine WO.leq rfl rfl rfl rfl ?_ ?_ <;> intro hc) | (refine WO.gtr rfl rfl rfl rfl ?_ ?_ <;> intro hc) | (refine WO.geq rfl rfl rfl rfl ?_ ?_ <;> intro hc) | (refine WO.eql rfl rfl rfl rfl ?_ ?_ <;> intro hc) | (refine WO.neq rfl rfl rfl rfl ?_ ?_ <;> intro hc) | (refine WO.add rfl rfl rfl rfl ?_ ?_ ?_; omega; omega) | (refine WO.sub rfl rfl rfl rfl ?_ ?_ ?_; omega; omega) | (refine WO.rem rfl rfl rfl rfl ?_ ?_; omega))
    | (refine WO.isAssign ?_; first | refine WO.assign rfl rfl rfl ?_)
    | (refine WO.isCall ?_; first | refine WO.lenF (Ints.len hs.base) rfl rfl rfl ?_ | refine WO.lenF (Ints.len ht.base) rfl rfl rfl ?_)
    | (refine WO.isUn ?_; first | refine WO.notT rfl rfl rfl ?_ | refine WO.notF rfl rfl rfl ?_ | (refine WO.notS rfl rfl rfl ?_ ?_ <;> intro hc) | (refine WO.neg rfl rfl rfl ?_ ?_ ?_; omega; omega))
    | (refine WO.isNil ?_; first | refine WO.nilCheck rfl rfl rfl ?_)
    | refine WO.nil ?_)
  · refine ⟨_, ⟨_, _, rfl, rfl, rfl⟩, fun h' k _ => ⟨k.pure, ?_⟩⟩
    show Value.bool false = _
    congr 1
    symm
    exact decide_eq_false (fun e => hc (by rw [e]))
  · refine WC.loop (α := Nat) (fun i => [(0, v), (1, w), (5, .int .i64 (i : Int))]) (fun _ => []) (fun i => i ≤ a.length ∧ ∀ j, j < i → a.getD j 0 = b.getD j 0) (fun i => a.length - i) 0 ⟨rfl, rfl, rfl, trivial⟩ (List.Sublist.refl _) ⟨Nat.zero_le _, fun j hj => by omega⟩ ?_
    intro i hJ
    obtain ⟨hi, hno⟩ := hJ
    repeat' (first
    | refine WC.draw [0, 1, 2, 3, 4, 5, 6, 7, 8] (by kernel_rfl) ?_
    | refine WC.seq ?_ | refine WC.region ?_ | refine WC.block ?_ | refine WC.condT rfl ?_ | refine WC.condF rfl ?_ | refine WC.skip ?_ | refine WC.exit ?_ | refine WC.ret ?_ | refine WC.scope ?_
    | (refine WO.isG ?_; refine WO.unwanted rfl rfl ?_)
    | (refine WO.isMove ?_; first | refine WO.move rfl rfl rfl ?_)
    | (refine WO.isPick ?_; first | refine WO.pickT rfl rfl rfl rfl ?_ | refine WO.pickF rfl rfl rfl rfl ?_)
    | (refine WO.isLoad ?_; first | (refine WO.ldF (Ints.ld hs.base ?_ ?_) rfl rfl rfl ?_; omega; omega) | (refine WO.ldF (Ints.ld ht.base ?_ ?_) rfl rfl rfl ?_; omega; omega))
    | (refine WO.isBin ?_; first | (refine WO.lss rfl rfl rfl rfl ?_ ?_ <;> intro hc) | (refine WO.leq rfl rfl rfl rfl ?_ ?_ <;> intro hc) | (refine WO.gtr rfl rfl rfl rfl ?_ ?_ <;> intro hc) | (refine WO.geq rfl rfl rfl rfl ?_ ?_ <;> intro hc) | (refine WO.eql rfl rfl rfl rfl ?_ ?_ <;> intro hc) | (refine WO.neq rfl rfl rfl rfl ?_ ?_ <;> intro hc) | (refine WO.add rfl rfl rfl rfl ?_ ?_ ?_; omega; omega) | (refine WO.sub rfl rfl rfl rfl ?_ ?_ ?_; omega; omega) | (refine WO.rem rfl rfl rfl rfl ?_ ?_; omega))
    | (refine WO.isAssign ?_; first | refine WO.assign rfl rfl rfl ?_)
    | (refine WO.isCall ?_; first | refine WO.lenF (Ints.len hs.base) rfl rfl rfl ?_)
    | (refine WO.isUn ?_; first | refine WO.notT rfl rfl rfl ?_ | refine WO.notF rfl rfl rfl ?_ | (refine WO.notS rfl rfl rfl ?_ ?_ <;> intro hc) | (refine WO.neg rfl rfl rfl ?_ ?_ ?_; omega; omega))
    | (refine WO.isIA ?_; first | (refine WO.ixF (Ints.ix hs.base ?_ ?_) rfl rfl rfl rfl ?_; omega; omega) | (refine WO.ixF (Ints.ix ht.base ?_ ?_) rfl rfl rfl rfl ?_; omega; omega))
    | (refine WO.isNil ?_; first | refine WO.nilCheck rfl rfl rfl ?_)
    | refine WO.nil ?_)
    · refine ⟨_, ⟨_, _, rfl, rfl, rfl⟩, fun h' k _ => ⟨k.pure, ?_⟩⟩
      show Value.bool false = _
      congr 1
      symm
      exact decide_eq_false (fun e => hc (by rw [e]))
    · refine ⟨i + 1, ⟨rfl, rfl, rfl, trivial⟩, List.Sublist.refl _, ⟨by omega, fun j hj => ?_⟩, (by show a.length - (i + 1) < a.length - i; omega)⟩
      rcases Nat.lt_or_ge j i with h1 | h1
      · exact hno j h1
      · rw [show j = i from by omega]
        rwa [show ((i : Int)).toNat = i from by omega] at hc
    · refine ⟨_, ⟨_, _, rfl, rfl, rfl⟩, fun h' k _ => ⟨k.pure, ?_⟩⟩
      show Value.bool true = _
      congr 1
      symm
      exact decide_eq_true (getD_ext (by omega) (fun j hj => hno j (by omega)))

theorem elem23 : ElemT M.P 23 3 1 8 := by
  refine ⟨Try.underlying23, ?_, by kernel_rfl⟩
  have h : (M.P.info? 3).map (fun i => (i.size, i.bytes, (i.zero.map fun z => z.cells.size))) = some (1, 8, some 1) := by kernel_rfl
  cases hi : M.P.info? 3 with
  | none => rw [hi] at h; cases h
  | some inf =>
    rw [hi] at h
    simp only [Option.map_some, Option.some.injEq, Prod.mk.injEq] at h
    obtain ⟨h1, h2, h3⟩ := h
    cases hz : inf.zero with
    | none => rw [hz] at h3; cases h3
    | some z =>
      rw [hz] at h3
      exact ⟨inf, z, rfl, h1, h2, hz, by simpa using h3⟩
theorem lit1 (h : Heap) (x : Int) : iBuildSlice M.P 23 1 [(0, .int .i64 x)] h = some (.slice (some ⟨h.n, 0, some 0⟩) 1 1, h.push (.cells [.int .i64 x] 3 false)) := by kernel_rfl
theorem WO.litI {N : Nat} {B : Heap} {Mu : List Nat} {U : Hist} {ops : Array Oper} {rest : List Oper} {ρ : Regs} {H : List Ent} {K : Hist → Regs → List Ent → Prop} {dst : Option Tmp} {ty : TypeId} {pos : String} {af : Array Edge} {gd : Option (Nat × Bool)} {x : Operand} {n : Int}
    (hw : iwR ops gd ρ = some true) (hx : evR ρ x = some (.int .i64 n)) (hd : dOK N dst = true) (k : ∀ v, WO M N B Mu (none :: U) ops rest (putR dst v ρ) (.own v 1 3 [encI n] :: H) K) : WO M N B Mu U ops (⟨dst, .buildSlice 23 1 #[(0, x)], ty, pos, af, gd⟩ :: rest) ρ H K := by
  refine WO.lit (l := [(0, .int .i64 n)]) (sz := 1) (L := [encI n]) hw ?_ (fun h => lit1 h n) ?_ hd k
  · show (match evR ρ x with | some v => some [(0, v)] | none => none) = _
    rw [hx]
  · intro cs hcs
    rw [List.mem_singleton.1 hcs]
    rfl
theorem WO.appI {N : Nat} {B : Heap} {Mu : List Nat} {U : Hist} {ops : Array Oper} {rest : List Oper} {ρ : Regs} {H : List Ent} {K : Hist → Regs → List Ent → Prop} {dst : Option Tmp} {ty : TypeId} {pos : String} {af : Array Edge} {gd : Option (Nat × Bool)} (k0 : Nat) {args : Array Operand} {s x : Value} {l m : List Int} {H' : Value → List Ent}
    (hx : Has B Mu H fun h => Ints h x m) (hb : l.length + m.length ≤ 17592186044416) (hw : iwR ops gd ρ = some true) (ha : evL ρ args.toList = some [s, x]) (hk : H[k0]? = some (.own s 1 3 (l.map encI))) (hH : ∀ v, H.set k0 (.own v 1 3 ((l ++ m).map encI)) = H' v) (hd : dOK N dst = true)
    (k : ∀ v, WO M N B Mu (some H :: U) ops rest (putR dst v ρ) (H' v) K) : WO M N B Mu U ops (⟨dst, .call { callee := .builtin .append, args := args, argTypes := #[23, 23] }, ty, pos, af, gd⟩ :: rest) ρ H K := by
  have one : ∀ cs ∈ m.map encI, cs.length = 1 ∧ cs.all oneC = true := by
    intro cs hcs
    obtain ⟨n, _, rfl⟩ := List.mem_map.1 hcs
    exact ⟨rfl, rfl⟩
  refine WO.append k0 hw ha hk elem23 Try.underlying23 hx (fun cs hcs => (one cs hcs).1) (fun cs hcs => (one cs hcs).2) ?_ ?_ (fun v => ?_) hd k
  · rw [List.length_map, List.length_map]; omega
  · rw [List.length_map, List.length_map]; omega
  · rw [← hH v, List.map_append]
def wide (x : Int) : Prop := -9223372036854775808 ≤ x ∧ x < 9223372036854775808
def someOne (x : Int) : Int := if x.tmod 17 = 0 then x else at27 x
theorem take_map_step {f : Int → Int} {l : List Int} {i : Nat} (h : i < l.length) : (l.take (i + 1)).map f = (l.take i).map f ++ [f (l.getD ((i : Int)).toNat 0)] := by
  rw [List.take_add_one, List.map_append, show ((i : Int)).toNat = i from by omega, List.getElem?_eq_getElem h, List.getD_eq_getElem?_getD, List.getElem?_eq_getElem h]
  rfl
theorem some_runs (h : Heap) (hwf : Wf h) (v : Value) (l : List Int) (hs : Ints h v l) (hl : l.length < 9223372036854775807) (hw : ∀ x ∈ l, wide x) : Runs M 11 [v] h fun r h' => Grow h h' ∧ OwnL h h' r 1 3 (((l.take 40).map someOne).map encI) := by
  refine Runs.enter h hwf [] [] (blks_nil ..) (fn := Try.f11) (by kernel_rfl) (by kernel_rfl) rfl (by kernel_rfl) ?_
  refine WC.nilOwn 1 3 ?_
  repeat' (first
    | refine WC.seq ?_ | refine WC.region ?_ | refine WC.block ?_ | refine WC.condT rfl ?_ | refine WC.condF rfl ?_ | refine WC.skip ?_ | refine WC.exit ?_ | refine WC.ret ?_ | refine WC.scope ?_
    | (refine WO.isG ?_; refine WO.unwanted rfl rfl ?_)
    | (refine WO.isMove ?_; first | refine WO.move rfl rfl rfl ?_)
    | (refine WO.isPick ?_; first | refine WO.pickT rfl rfl rfl rfl ?_ | refine WO.pickF rfl rfl rfl rfl ?_)
    | (refine WO.isBin ?_; first | (refine WO.lss rfl rfl rfl rfl ?_ ?_ <;> intro hc) | (refine WO.leq rfl rfl rfl rfl ?_ ?_ <;> intro hc) | (refine WO.gtr rfl rfl rfl rfl ?_ ?_ <;> intro hc) | (refine WO.geq rfl rfl rfl rfl ?_ ?_ <;> intro hc) | (refine WO.eql rfl rfl rfl rfl ?_ ?_ <;> intro hc) | (refine WO.neq rfl rfl rfl rfl ?_ ?_ <;> intro hc) | (refine WO.add rfl rfl rfl rfl ?_ ?_ ?_; omega; omega) | (refine WO.sub rfl rfl rfl rfl ?_ ?_ ?_; omega; omega) | (refine WO.rem rfl rfl rfl rfl ?_ ?_; omega))
    | (refine WO.isAssign ?_; first | refine WO.assign rfl rfl rfl ?_)
    | (refine WO.isUn ?_; first | refine WO.notT rfl rfl rfl ?_ | refine WO.notF rfl rfl rfl ?_ | (refine WO.notS rfl rfl rfl ?_ ?_ <;> intro hc) | (refine WO.neg rfl rfl rfl ?_ ?_ ?_; omega; omega))
    | (refine WO.isNil ?_; first | refine WO.nilCheck rfl rfl rfl ?_)
    | refine WO.nil ?_)
  refine WC.loop (α := Nat × Value) (fun q => [(0, v), (3, q.2), (4, .int .i64 (q.1 : Int))]) (fun q => [.own q.2 1 3 (((l.take q.1).map someOne).map encI)]) (fun q => q.1 ≤ l.length ∧ q.1 ≤ 40) (fun q => l.length - q.1) (0, .slice none 0 0) ⟨rfl, rfl, rfl, trivial⟩ (List.Sublist.refl _) ⟨Nat.zero_le _, by show 0 ≤ 40; omega⟩ ?_
  rintro ⟨i, w⟩ ⟨hi, hi40⟩
  simp only at hi hi40
  have hx : ∀ (k : (i : Int) < l.length), wide (l.getD ((i : Int)).toNat 0) := fun k => by
    have hlt : i < l.length := by omega
    rw [show ((i : Int)).toNat = i from by omega, List.getD_eq_getElem?_getD, List.getElem?_eq_getElem hlt]
    exact hw _ (List.getElem_mem hlt)
  repeat' (first
    | refine WC.seq ?_ | refine WC.region ?_ | refine WC.block ?_ | refine WC.condT rfl ?_ | refine WC.condF rfl ?_ | refine WC.skip ?_ | refine WC.exit ?_ | refine WC.ret ?_ | refine WC.scope ?_
    | (refine WO.isG ?_; refine WO.unwanted rfl rfl ?_)
    | (refine WO.isMove ?_; first | refine WO.move rfl rfl rfl ?_)
    | (refine WO.isPick ?_; first | refine WO.pickT rfl rfl rfl rfl ?_ | refine WO.pickF rfl rfl rfl rfl ?_)
    | (refine WO.isLoad ?_; first | (refine WO.ldF (Ints.ld hs.base ?_ ?_) rfl rfl rfl ?_; omega; omega))
    | (refine WO.isBin ?_; first | (refine WO.lss rfl rfl rfl rfl ?_ ?_ <;> intro hc) | (refine WO.leq rfl rfl rfl rfl ?_ ?_ <;> intro hc) | (refine WO.gtr rfl rfl rfl rfl ?_ ?_ <;> intro hc) | (refine WO.geq rfl rfl rfl rfl ?_ ?_ <;> intro hc) | (refine WO.eql rfl rfl rfl rfl ?_ ?_ <;> intro hc) | (refine WO.neq rfl rfl rfl rfl ?_ ?_ <;> intro hc) | (refine WO.add rfl rfl rfl rfl ?_ ?_ ?_; omega; omega) | (refine WO.sub rfl rfl rfl rfl ?_ ?_ ?_; omega; omega) | (refine WO.rem rfl rfl rfl rfl ?_ ?_; omega))
    | (refine WO.isAssign ?_; first | refine WO.assign rfl rfl rfl ?_)
    | (refine WO.isCall ?_; first | refine WO.lenF (Ints.len hs.base) rfl rfl rfl ?_ | refine WO.callV (fun h hh _ => at27_runs h hh.top _ (hx (by omega)).1 (hx (by omega)).2) rfl rfl rfl rfl ?_ | (refine WO.appI 1 (m := [_]) (Ints.own (e := 3) 0 rfl) ?_ rfl rfl rfl (fun _ => rfl) rfl ?_; (simp only [List.length_map, List.length_take, List.length_cons, List.length_nil]; omega); intro w'))
    | (refine WO.isUn ?_; first | refine WO.notT rfl rfl rfl ?_ | refine WO.notF rfl rfl rfl ?_ | (refine WO.notS rfl rfl rfl ?_ ?_ <;> intro hc) | (refine WO.neg rfl rfl rfl ?_ ?_ ?_; omega; omega))
    | (refine WO.isIA ?_; first | (refine WO.ixF (Ints.ix hs.base ?_ ?_) rfl rfl rfl rfl ?_; omega; omega))
    | (refine WO.isNil ?_; first | refine WO.nilCheck rfl rfl rfl ?_)
    | (refine WO.isLit ?_; first | (refine WO.litI rfl rfl rfl ?_; intro u))
    | refine WO.nil ?_)
  · refine ⟨(i + 1, w'), ⟨rfl, rfl, rfl, trivial⟩, ?_, ⟨by show i + 1 ≤ l.length; simp only at *; omega, by show i + 1 ≤ 40; simp only at *; omega⟩, (by show l.length - (i + 1) < l.length - i; simp only at *; omega)⟩
    have e := take_map_step (f := someOne) (l := l) (i := i) (by simp only at *; omega)
    have e2 : someOne (l.getD ((i : Int)).toNat 0) = l.getD ((i : Int)).toNat 0 := if_pos hc
    show List.Sublist [Ent.own w' 1 3 (((l.take (i + 1)).map someOne).map encI)] _
    rw [e, e2]
    exact List.Sublist.cons _ (List.Sublist.refl _)
  · refine ⟨(i + 1, w'), ⟨rfl, rfl, rfl, trivial⟩, ?_, ⟨by show i + 1 ≤ l.length; simp only at *; omega, by show i + 1 ≤ 40; simp only at *; omega⟩, (by show l.length - (i + 1) < l.length - i; simp only at *; omega)⟩
    have e := take_map_step (f := someOne) (l := l) (i := i) (by simp only at *; omega)
    have e2 : someOne (l.getD ((i : Int)).toNat 0) = at27 (l.getD ((i : Int)).toNat 0) := if_neg hc
    show List.Sublist [Ent.own w' 1 3 (((l.take (i + 1)).map someOne).map encI)] _
    rw [e, e2]
    exact List.Sublist.cons _ (List.Sublist.refl _)
  · refine ⟨_, ⟨_, _, rfl, rfl, rfl⟩, fun h' k b => ⟨k.pure, ?_⟩⟩
    have e : i = 40 := by simp only at *; omega
    have o := b.at (i := 0) rfl
    rw [← e]
    exact o
  · refine ⟨_, ⟨_, _, rfl, rfl, rfl⟩, fun h' k b => ⟨k.pure, ?_⟩⟩
    have e : l.take 40 = l.take i := by rw [List.take_of_length_le (by simp only at *; omega), List.take_of_length_le (by simp only at *; omega)]
    have o := b.at (i := 0) rfl
    rw [e]
    exact o
end Go.Proofs.Ythggbjpanpnlnaa

/- The reference's graph (chapter 20) on the ideal machine: what is read of it. -/
namespace Go.Proofs.Ythggbjpanpnlnaa
open Go Go.Ideal
set_option maxHeartbeats 4000000

theorem hN : ∀ m, CallN (M.run m) := run_n (fun g sem h args H v H' hs => by
  show H.n ≤ H'.n
  have h : (bif Nat.beq g 9 then some iShown else bif Nat.beq g 57 then some iSort else I0 g) = some sem := h
  cases hb : Nat.beq g 9 with
  | true =>
    rw [hb] at h
    cases h
    unfold iShown at hs
    split at hs <;> cases hs
    exact Nat.le_refl _
  | false =>
    rw [hb, cond_false] at h
    cases hb3 : Nat.beq g 57 with
    | true =>
      rw [hb3] at h
      cases h
      unfold iSort at hs
      split at hs
      · cases hs; exact Nat.le_refl _
      · rcases bif_some hs with ⟨_, hs⟩ | ⟨_, hs⟩
        · cases hs; exact Nat.le_refl _
        · obtain ⟨_, _, hs⟩ := bind_some hs
          obtain ⟨_, hs⟩ := chk_some hs
          obtain ⟨_, _, e⟩ := map_some hs
          cases e; exact n_put ..
      · cases hs
    | false =>
    rw [hb3] at h
    have h : (bif Nat.beq g 34 then some (iSorted (fun g => Nat.beq g 58 || Nat.beq g 64) (fun e => Nat.beq e 64 || Nat.beq e 78) 3) else none) = some sem := h
    cases hb2 : Nat.beq g 34 with
    | false => rw [hb2] at h; cases h
    | true =>
      rw [hb2] at h
      cases h
      unfold iSorted at hs
      split at hs
      · obtain ⟨_, hs⟩ := chk_some hs
        split at hs
        · obtain ⟨_, _, hs⟩ := bind_some hs
          obtain ⟨_, hs⟩ := chk_some hs
          split at hs
          · split at hs
            · obtain ⟨_, _, hs⟩ := bind_some hs
              obtain ⟨_, hs⟩ := chk_some hs
              split at hs <;> cases hs
              · exact Nat.le_refl _
              · exact n_push ..
            · cases hs
          · cases hs
        · cases hs
      · cases hs)

theorem t41 : T1 M.P 41 := T1.of (by kernel_rfl)
theorem t54 : T1 M.P 54 := T1.of (by kernel_rfl)
theorem t70 : TA M.P 70 2 := TA.of (by kernel_rfl)
theorem fa56_0 : FA M.P 56 0 0 := FA.of (by kernel_rfl)
theorem fa70_0 : iFieldAddr M.P 70 (.pointer (some ⟨0, 0, none⟩)) 0 = some (.pointer (some ⟨0, 0, none⟩)) := by kernel_rfl
theorem fa70_1 : iFieldAddr M.P 70 (.pointer (some ⟨0, 0, none⟩)) 1 = some (.pointer (some ⟨0, 1, none⟩)) := by kernel_rfl
theorem faA0 {t : TypeId} (h : FA M.P t 0 0) : iFieldAddr M.P t (.pointer (some ⟨0, 0, none⟩)) 0 = some (.pointer (some ⟨0, 0, none⟩)) := h.h 0 0
theorem faA1 {t : TypeId} (h : FA M.P t 1 4) : iFieldAddr M.P t (.pointer (some ⟨0, 0, none⟩)) 1 = some (.pointer (some ⟨0, 4, none⟩)) := h.h 0 0

/-- An area. -/
structure AreaR where
  ac : Int
  ar : Int
  p : Bool
  q : Bool
  bc : Int
  br : Int
  s : Bool
  t : Bool
  deriving DecidableEq, Inhabited
def encA (a : AreaR) : List Value := [.int .i64 a.ac, .int .i64 a.ar, .bool a.p, .bool a.q, .int .i64 a.bc, .int .i64 a.br, .bool a.s, .bool a.t]
/-- What a slice of areas is to the machine: st its type, et its elements' type. -/
structure ATyp (st et : TypeId) : Prop where
  sl : M.P.underlying st = some (.slice et)
  ta : TA M.P et 8
  f0 : FA M.P et 0 0
  f1 : FA M.P et 1 4
theorem aty41 : ATyp 41 60 := ⟨Try.underlying41, t60, fa60_0, fa60_1⟩
theorem aty39 : ATyp 39 52 := ⟨Try.underlying39, t52, fa52_0, fa52_1⟩
def Areas (h : Heap) (v : Value) (l : List AreaR) : Prop := SliceS M.P h v 8 (l.map encA)
theorem Areas.grow {h h' : Heap} {v : Value} {l : List AreaR} (s : Areas h v l) (g : Grow h h') : Areas h' v l := SliceS.grow s g
theorem Areas.base {B : Heap} {H : List Ent} {v : Value} {l : List AreaR} (s : Areas B v l) : Has B [] H fun h => Areas h v l := fun h hh _ => SliceS.grow s hh.pure
section
variable {B : Heap} {Mu : List Nat} {H : List Ent} {v : Value} {l : List AreaR} {st et : TypeId} {i : Int}
theorem Areas.len' (hT : ATyp st et) (s : Has B Mu H fun h => Areas h v l) : LenF M B Mu H st v l.length := .mk fun ty h hh hb => by
  have := SliceL.len (P := M.P) (t := st) (ty := ty) (e := et) (s h hh hb).sl hT.sl
  simpa using this
theorem Areas.ix' (hT : ATyp st et) (s : Has B Mu H fun h => Areas h v l) (h0 : 0 ≤ i) (h1 : i < l.length) : IxF M B Mu H st v i (slq v 8 i 0) := .mk fun h hh hb => by
  obtain ⟨d, inf, _, _, h2, h3⟩ := hT.ta.h
  exact SliceL.ix (P := M.P) (s h hh hb).sl hT.sl h2 h3 h0 (by simpa using h1)
theorem Areas.fa0' (hT : ATyp st et) (s : Has B Mu H fun h => Areas h v l) (h0 : 0 ≤ i) (h1 : i < l.length) : FaF M B Mu H et (slq v 8 i 0) 0 (slq v 8 i 0) := .mk fun h hh hb =>
  SliceL.fa (s h hh hb).sl h0 (by simpa using h1) (faA0 hT.f0)
theorem Areas.fa1' (hT : ATyp st et) (s : Has B Mu H fun h => Areas h v l) (h0 : 0 ≤ i) (h1 : i < l.length) : FaF M B Mu H et (slq v 8 i 0) 1 (slq v 8 i 4) := .mk fun h hh hb =>
  SliceL.fa (s h hh hb).sl h0 (by simpa using h1) (faA1 hT.f1)
def gA (l : List AreaR) (i : Int) : AreaR := l.getD i.toNat default
theorem gA_get (h0 : 0 ≤ i) (h1 : i < l.length) : (l.map encA)[i.toNat]? = some (encA (gA l i)) := by
  have hlt : i.toNat < l.length := by omega
  rw [List.getElem?_map, List.getElem?_eq_getElem hlt, gA, List.getD_eq_getElem?_getD, List.getElem?_eq_getElem hlt]
  rfl
theorem Areas.lda (s : Has B Mu H fun h => Areas h v l) (h0 : 0 ≤ i) (h1 : i < l.length) : LdF M B Mu H 50 (slq v 8 i 0) (refV (gA l i).ac (gA l i).ar (gA l i).p (gA l i).q) := .mk fun h hh hb => by
  obtain ⟨d, inf, q1, q2, q3, q4⟩ := t50.h
  exact SliceL.ldA (P := M.P) (cs := encA (gA l i)) (s h hh hb).sl h0 (gA_get h0 h1) q1 q2 q3 q4 (by omega)
theorem Areas.ldb (s : Has B Mu H fun h => Areas h v l) (h0 : 0 ≤ i) (h1 : i < l.length) : LdF M B Mu H 50 (slq v 8 i 4) (refV (gA l i).bc (gA l i).br (gA l i).s (gA l i).t) := .mk fun h hh hb => by
  obtain ⟨d, inf, q1, q2, q3, q4⟩ := t50.h
  exact SliceL.ldA (P := M.P) (cs := encA (gA l i)) (s h hh hb).sl h0 (gA_get h0 h1) q1 q2 q3 q4 (by omega)
def areaW (a : AreaR) : Value := areaV a.ac a.ar a.p a.q a.bc a.br a.s a.t
theorem Areas.ldw' (hT : ATyp st et) (s : Has B Mu H fun h => Areas h v l) (h0 : 0 ≤ i) (h1 : i < l.length) : LdF M B Mu H et (slq v 8 i 0) (areaW (gA l i)) := .mk fun h hh hb => by
  obtain ⟨d, inf, q1, q2, q3, q4⟩ := hT.ta.h
  exact SliceL.ldA (P := M.P) (cs := encA (gA l i)) (s h hh hb).sl h0 (gA_get h0 h1) q1 q2 q3 q4 (by omega)
end

/-- A cell and its areas. -/
structure NodeR where
  at_ : Int
  av : Value
  ar : List AreaR
instance : Inhabited NodeR := ⟨⟨0, .slice none 0 0, []⟩⟩
def encN (n : NodeR) : List Value := [.int .i64 n.at_, n.av]
def RefG (h : Heap) (b : Nat) (sv : Value) (L : List NodeR) : Prop := b < h.n ∧ h.get b = some (.cells [sv] 56 false) ∧ SliceS M.P h sv 2 (L.map encN) ∧ ∀ n ∈ L, Areas h n.av n.ar
theorem RefG.grow {h h' : Heap} {b : Nat} {sv : Value} {L : List NodeR} (r : RefG h b sv L) (g : Grow h h') : RefG h' b sv L :=
  ⟨Nat.lt_of_lt_of_le r.1 g.n, (g.old b r.1).trans r.2.1, r.2.2.1.grow g, fun n hn => (r.2.2.2 n hn).grow g⟩
theorem RefG.base {B : Heap} {H : List Ent} {b : Nat} {sv : Value} {L : List NodeR} (r : RefG B b sv L) : Has B [] H fun h => RefG h b sv L := fun h hh _ => r.grow hh.pure
def gN (L : List NodeR) (i : Int) : NodeR := L.getD i.toNat default
section
variable {B : Heap} {Mu : List Nat} {H : List Ent} {b : Nat} {sv : Value} {L : List NodeR} {i : Int}
theorem gN_get (h0 : 0 ≤ i) (h1 : i < L.length) : (L.map encN)[i.toNat]? = some (encN (gN L i)) := by
  have hlt : i.toNat < L.length := by omega
  rw [List.getElem?_map, List.getElem?_eq_getElem hlt, gN, List.getD_eq_getElem?_getD, List.getElem?_eq_getElem hlt]
  rfl
theorem RefG.hld (R : Has B Mu H fun h => RefG h b sv L) : LdF M B Mu H 54 (.pointer (some ⟨b, 0, none⟩)) sv := .mk fun h hh hb => by
  obtain ⟨d, inf, h1, h2, h3, h4⟩ := t54.h
  have e := (R h hh hb).2.1
  have e2 : rowOf h b = some ([sv], 56, false) := by unfold rowOf; rw [e]
  simp only [iLoad, asPtr, Option.bind_some, e2, h1, h2, cond_false]
  rfl
theorem RefG.hlen (R : Has B Mu H fun h => RefG h b sv L) : LenF M B Mu H 54 sv L.length := .mk fun ty h hh hb => by
  have := SliceL.len (P := M.P) (t := 54) (ty := ty) (e := 70) (R h hh hb).2.2.1.sl Try.underlying54
  simpa using this
theorem RefG.hix (R : Has B Mu H fun h => RefG h b sv L) (h0 : 0 ≤ i) (h1 : i < L.length) : IxF M B Mu H 54 sv i (slq sv 2 i 0) := .mk fun h hh hb => by
  obtain ⟨d, inf, _, _, h2, h3⟩ := t70.h
  exact SliceL.ix (P := M.P) (R h hh hb).2.2.1.sl Try.underlying54 h2 h3 h0 (by simpa using h1)
theorem RefG.hfa0 (R : Has B Mu H fun h => RefG h b sv L) (h0 : 0 ≤ i) (h1 : i < L.length) : FaF M B Mu H 70 (slq sv 2 i 0) 0 (slq sv 2 i 0) := .mk fun h hh hb =>
  SliceL.fa (R h hh hb).2.2.1.sl h0 (by simpa using h1) fa70_0
theorem RefG.hfa1 (R : Has B Mu H fun h => RefG h b sv L) (h0 : 0 ≤ i) (h1 : i < L.length) : FaF M B Mu H 70 (slq sv 2 i 0) 1 (slq sv 2 i 1) := .mk fun h hh hb =>
  SliceL.fa (R h hh hb).2.2.1.sl h0 (by simpa using h1) fa70_1
theorem RefG.hat (R : Has B Mu H fun h => RefG h b sv L) (h0 : 0 ≤ i) (h1 : i < L.length) : LdF M B Mu H 3 (slq sv 2 i 0) (.int .i64 (gN L i).at_) := .mk fun h hh hb => by
  obtain ⟨d, inf, q1, q2, q3, q4⟩ := t3.h
  exact SliceL.ld1 (P := M.P) (R h hh hb).2.2.1.sl h0 (gN_get h0 h1) q1 q2 rfl
theorem RefG.hav (R : Has B Mu H fun h => RefG h b sv L) (h0 : 0 ≤ i) (h1 : i < L.length) : LdF M B Mu H 41 (slq sv 2 i 1) (gN L i).av := .mk fun h hh hb => by
  obtain ⟨d, inf, q1, q2, q3, q4⟩ := t41.h
  exact SliceL.ld1 (P := M.P) (R h hh hb).2.2.1.sl h0 (gN_get h0 h1) q1 q2 rfl
theorem RefG.hnode (R : Has B Mu H fun h => RefG h b sv L) (h0 : 0 ≤ i) (h1 : i < L.length) : LdF M B Mu H 70 (slq sv 2 i 0) (.agg (encN (gN L i)).toArray) := .mk fun h hh hb => by
  obtain ⟨d, inf, q1, q2, q3, q4⟩ := t70.h
  exact SliceL.ldA (P := M.P) (cs := encN (gN L i)) (R h hh hb).2.2.1.sl h0 (gN_get h0 h1) q1 q2 q3 q4 (by omega)
end

def nodeOf (L : List NodeR) (x : Int) : Option NodeR := L.find? (fun n => n.at_ == x)
def areasV (L : List NodeR) (x : Int) : Value := match nodeOf L x with
  | some n => n.av
  | none => .slice none 0 0
def areasOf (L : List NodeR) (x : Int) : List AreaR := match nodeOf L x with
  | some n => n.ar
  | none => []
theorem areasV_reads {h : Heap} {b : Nat} {sv : Value} {L : List NodeR} (R : RefG h b sv L) (x : Int) : Areas h (areasV L x) (areasOf L x) := by
  unfold areasV areasOf
  cases hn : nodeOf L x with
  | none => exact .inl ⟨rfl, rfl⟩
  | some n => exact R.2.2.2 n (List.mem_of_find?_eq_some hn)
theorem drop_find {L : List NodeR} {i : Nat} (p : NodeR → Bool) (h : i < L.length) : (L.drop i).find? p = if p (gN L (i : Int)) then some (gN L (i : Int)) else (L.drop (i + 1)).find? p := by
  have e : gN L (i : Int) = L[i] := by
    unfold gN
    rw [show ((i : Int)).toNat = i from by omega, List.getD_eq_getElem?_getD, List.getElem?_eq_getElem h]; rfl
  rw [List.drop_eq_getElem_cons h, List.find?_cons, e]
  cases p L[i] <;> rfl

theorem Areas26_runs (h : Heap) (hwf : Wf h) (b : Nat) (sv : Value) (L : List NodeR) (x : Int) (R : RefG h b sv L) (hl : L.length < 9223372036854775807) : Runs M 26 [.pointer (some ⟨b, 0, none⟩), .int .i64 x] h fun r h' => Grow h h' ∧ r = areasV L x := by
  refine Runs.enter h hwf [] [] (blks_nil ..) (fn := Try.f26) (by kernel_rfl) (by kernel_rfl) rfl (by kernel_rfl) ?_
  repeat' (first
    | refine WC.seq ?_ | refine WC.region ?_ | refine WC.block ?_ | refine WC.condT rfl ?_ | refine WC.condF rfl ?_ | refine WC.skip ?_ | refine WC.exit ?_ | refine WC.ret ?_ | refine WC.scope ?_
    | (refine WO.isG ?_; refine WO.unwanted rfl rfl ?_)
    | (refine WO.isMove ?_; first | refine WO.move rfl rfl rfl ?_)
    | (refine WO.isPick ?_; first | refine WO.pickT rfl rfl rfl rfl ?_ | refine WO.pickF rfl rfl rfl rfl ?_)
    | (refine WO.isBin ?_; first | (refine WO.lss rfl rfl rfl rfl ?_ ?_ <;> intro hc) | (refine WO.leq rfl rfl rfl rfl ?_ ?_ <;> intro hc) | (refine WO.gtr rfl rfl rfl rfl ?_ ?_ <;> intro hc) | (refine WO.geq rfl rfl rfl rfl ?_ ?_ <;> intro hc) | (refine WO.eql rfl rfl rfl rfl ?_ ?_ <;> intro hc) | (refine WO.neq rfl rfl rfl rfl ?_ ?_ <;> intro hc) | (refine WO.add rfl rfl rfl rfl ?_ ?_ ?_; omega; omega) | (refine WO.sub rfl rfl rfl rfl ?_ ?_ ?_; omega; omega) | (refine WO.rem rfl rfl rfl rfl ?_ ?_; omega))
    | (refine WO.isAssign ?_; first | refine WO.assign rfl rfl rfl ?_)
    | (refine WO.isUn ?_; first | refine WO.notT rfl rfl rfl ?_ | refine WO.notF rfl rfl rfl ?_ | (refine WO.notS rfl rfl rfl ?_ ?_ <;> intro hc) | (refine WO.neg rfl rfl rfl ?_ ?_ ?_; omega; omega))
    | (refine WO.isNil ?_; first | refine WO.nilCheck rfl rfl rfl ?_)
    | refine WO.nil ?_)
  refine WC.loop (α := Nat) (fun i => [(0, .pointer (some ⟨b, 0, none⟩)), (1, .int .i64 x), (5, .int .i64 (i : Int))]) (fun _ => []) (fun i => i ≤ L.length ∧ nodeOf L x = (L.drop i).find? (fun n => n.at_ == x)) (fun i => L.length - i) 0 ⟨rfl, rfl, rfl, trivial⟩ (List.Sublist.refl _) ⟨Nat.zero_le _, rfl⟩ ?_
  rintro i ⟨hi, hf⟩
  repeat' (first
    | refine WC.seq ?_ | refine WC.region ?_ | refine WC.block ?_ | refine WC.condT rfl ?_ | refine WC.condF rfl ?_ | refine WC.skip ?_ | refine WC.exit ?_ | refine WC.ret ?_ | refine WC.scope ?_
    | (refine WO.isG ?_; refine WO.unwanted rfl rfl ?_)
    | (refine WO.isMove ?_; first | refine WO.move rfl rfl rfl ?_)
    | (refine WO.isPick ?_; first | refine WO.pickT rfl rfl rfl rfl ?_ | refine WO.pickF rfl rfl rfl rfl ?_)
    | (refine WO.isLoad ?_; first | refine WO.ldF (RefG.hld R.base) rfl rfl rfl ?_ | (refine WO.ldF (RefG.hat R.base ?_ ?_) rfl rfl rfl ?_; omega; omega) | (refine WO.ldF (RefG.hav R.base ?_ ?_) rfl rfl rfl ?_; omega; omega))
    | (refine WO.isFA ?_; first | refine WO.fa fa56_0 rfl rfl rfl ?_ | (refine WO.faF (RefG.hfa0 R.base ?_ ?_) rfl rfl rfl ?_; omega; omega) | (refine WO.faF (RefG.hfa1 R.base ?_ ?_) rfl rfl rfl ?_; omega; omega))
    | (refine WO.isBin ?_; first | (refine WO.lss rfl rfl rfl rfl ?_ ?_ <;> intro hc) | (refine WO.leq rfl rfl rfl rfl ?_ ?_ <;> intro hc) | (refine WO.gtr rfl rfl rfl rfl ?_ ?_ <;> intro hc) | (refine WO.geq rfl rfl rfl rfl ?_ ?_ <;> intro hc) | (refine WO.eql rfl rfl rfl rfl ?_ ?_ <;> intro hc) | (refine WO.neq rfl rfl rfl rfl ?_ ?_ <;> intro hc) | (refine WO.add rfl rfl rfl rfl ?_ ?_ ?_; omega; omega) | (refine WO.sub rfl rfl rfl rfl ?_ ?_ ?_; omega; omega) | (refine WO.rem rfl rfl rfl rfl ?_ ?_; omega))
    | (refine WO.isAssign ?_; first | refine WO.assign rfl rfl rfl ?_)
    | (refine WO.isCall ?_; first | refine WO.lenF (RefG.hlen R.base) rfl rfl rfl ?_)
    | (refine WO.isUn ?_; first | refine WO.notT rfl rfl rfl ?_ | refine WO.notF rfl rfl rfl ?_ | (refine WO.notS rfl rfl rfl ?_ ?_ <;> intro hc) | (refine WO.neg rfl rfl rfl ?_ ?_ ?_; omega; omega))
    | (refine WO.isIA ?_; first | (refine WO.ixF (RefG.hix R.base ?_ ?_) rfl rfl rfl rfl ?_; omega; omega))
    | (refine WO.isNil ?_; first | refine WO.nilCheck rfl rfl rfl ?_)
    | refine WO.nil ?_)
  · refine ⟨_, ⟨_, _, rfl, rfl, rfl⟩, fun h' k _ => ⟨k.pure, ?_⟩⟩
    rw [drop_find _ (by omega), if_pos (by simp [hc])] at hf
    show (gN L (i : Int)).av = _
    unfold areasV
    rw [hf]
  · refine ⟨i + 1, ⟨rfl, rfl, rfl, trivial⟩, List.Sublist.refl _, ⟨by omega, ?_⟩, (by show L.length - (i + 1) < L.length - i; omega)⟩
    rw [hf, drop_find _ (by omega), if_neg (by simp [hc])]
  · refine ⟨_, ⟨_, _, rfl, rfl, rfl⟩, fun h' k _ => ⟨k.pure, ?_⟩⟩
    rw [List.drop_of_length_le (by omega)] at hf
    show Value.slice none 0 0 = _
    unfold areasV
    rw [hf]
    rfl
end Go.Proofs.Ythggbjpanpnlnaa

/- The reference's graph (chapter 20) on the ideal machine: who needs whom. -/
namespace Go.Proofs.Ythggbjpanpnlnaa
open Go Go.Ideal
set_option maxHeartbeats 4000000

/-- Do areas hold a cell? -/
def needs (l : List AreaR) (x : Int) : Bool := l.any fun a => inside (atC x) (atR x) a.ac a.ar a.bc a.br
def needsL (l : List AreaR) (xs : List Int) : Bool := xs.any (needs l)
theorem any_drop {α : Type} [Inhabited α] {l : List α} {i : Nat} (p : α → Bool) (h : i < l.length) : (l.drop i).any p = (p (l.getD ((i : Int)).toNat default) || (l.drop (i + 1)).any p) := by
  rw [show ((i : Int)).toNat = i from by omega, List.getD_eq_getElem?_getD, List.getElem?_eq_getElem h, List.drop_eq_getElem_cons h, List.any_cons]
  rfl

theorem Needs46_runs (h : Heap) (hwf : Wf h) (b : Nat) (sv : Value) (L : List NodeR) (x y : Int) (R : RefG h b sv L) (hl : L.length < 9223372036854775807) (ha : ∀ n ∈ L, n.ar.length < 9223372036854775807) :
    Runs M 46 [.pointer (some ⟨b, 0, none⟩), .int .i64 x, .int .i64 y] h fun r h' => Grow h h' ∧ r = .bool (needs (areasOf L x) y) := by
  have hS := areasV_reads R x
  have hlen : (areasOf L x).length < 9223372036854775807 := by
    unfold areasOf
    cases hn : nodeOf L x with
    | none => show 0 < _; omega
    | some n => exact ha n (List.mem_of_find?_eq_some hn)
  generalize hv : areasV L x = v at hS
  generalize hlv : areasOf L x = l at hS hlen
  refine Runs.enter h hwf [] [] (blks_nil ..) (fn := Try.f46) (by kernel_rfl) (by kernel_rfl) rfl (by kernel_rfl) ?_
  repeat' (first
    | refine WC.seq ?_ | refine WC.region ?_ | refine WC.block ?_ | refine WC.condT rfl ?_ | refine WC.condF rfl ?_ | refine WC.skip ?_ | refine WC.exit ?_ | refine WC.ret ?_ | refine WC.scope ?_
    | (refine WO.isG ?_; refine WO.unwanted rfl rfl ?_)
    | (refine WO.isMove ?_; first | refine WO.move rfl rfl rfl ?_)
    | (refine WO.isPick ?_; first | refine WO.pickT rfl rfl rfl rfl ?_ | refine WO.pickF rfl rfl rfl rfl ?_)
    | (refine WO.isBin ?_; first | (refine WO.lss rfl rfl rfl rfl ?_ ?_ <;> intro hc) | (refine WO.leq rfl rfl rfl rfl ?_ ?_ <;> intro hc) | (refine WO.gtr rfl rfl rfl rfl ?_ ?_ <;> intro hc) | (refine WO.geq rfl rfl rfl rfl ?_ ?_ <;> intro hc) | (refine WO.eql rfl rfl rfl rfl ?_ ?_ <;> intro hc) | (refine WO.neq rfl rfl rfl rfl ?_ ?_ <;> intro hc) | (refine WO.add rfl rfl rfl rfl ?_ ?_ ?_; omega; omega) | (refine WO.sub rfl rfl rfl rfl ?_ ?_ ?_; omega; omega) | (refine WO.rem rfl rfl rfl rfl ?_ ?_; omega))
    | (refine WO.isAssign ?_; first | refine WO.assign rfl rfl rfl ?_)
    | (refine WO.isCall ?_; first | refine WO.callV (fun h' hh _ => Areas26_runs h' hh.top b sv L x (R.grow hh.pure) hl) rfl rfl rfl rfl ?_ | refine WO.callV (fun h' hh _ => At54_runs h' hh.top y) rfl rfl rfl rfl ?_)
    | (refine WO.isUn ?_; first | refine WO.notT rfl rfl rfl ?_ | refine WO.notF rfl rfl rfl ?_ | (refine WO.notS rfl rfl rfl ?_ ?_ <;> intro hc) | (refine WO.neg rfl rfl rfl ?_ ?_ ?_; omega; omega))
    | (refine WO.isNil ?_; first | refine WO.nilCheck rfl rfl rfl ?_)
    | (refine WO.isStore ?_; first | refine WO.stA 0 t50 rfl rfl rfl rfl rfl rfl rfl rfl rfl rfl rfl ?_)
    | (refine WO.isAlloc ?_; first | (refine WO.alloc rfl zero50 rfl rfl rfl ?_; intro b2))
    | refine WO.nil ?_)
  rw [hv]
  refine WC.loop (α := Nat) (fun i => [(7, v), (8, .pointer (some ⟨b2, 0, none⟩)), (9, .int .i64 (i : Int))]) (fun _ => [.blk b2 (.cells (refC (atC y) (atR y) false false) 50 false)]) (fun i => i ≤ l.length ∧ needs l y = (l.drop i).any (fun a => inside (atC y) (atR y) a.ac a.ar a.bc a.br)) (fun i => l.length - i) 0 ⟨rfl, rfl, rfl, trivial⟩ (List.Sublist.refl _) ⟨Nat.zero_le _, rfl⟩ ?_
  rintro i ⟨hi, hf⟩
  repeat' (first
    | refine WC.drawB hN [0, 1, 2, 3, 4, 5, 6, 7, 8, 9, 10, 11, 12] (by kernel_rfl) ?_
    | refine WC.seq ?_ | refine WC.region ?_ | refine WC.block ?_ | refine WC.condT rfl ?_ | refine WC.condF rfl ?_ | refine WC.skip ?_ | refine WC.exit ?_ | refine WC.ret ?_ | refine WC.scope ?_
    | (refine WO.isG ?_; refine WO.unwanted rfl rfl ?_)
    | (refine WO.isMove ?_; first | refine WO.move rfl rfl rfl ?_)
    | (refine WO.isPick ?_; first | refine WO.pickT rfl rfl rfl rfl ?_ | refine WO.pickF rfl rfl rfl rfl ?_)
    | (refine WO.isLoad ?_; first | (refine WO.ldF (Areas.lda hS.base ?_ ?_) rfl rfl rfl ?_; omega; omega) | (refine WO.ldF (Areas.ldb hS.base ?_ ?_) rfl rfl rfl ?_; omega; omega) | (refine WO.ldF (Areas.ldw' aty41 hS.base ?_ ?_) rfl rfl rfl ?_; omega; omega) | refine WO.ldA 0 t50 rfl rfl rfl rfl rfl rfl ?_)
    | (refine WO.isFA ?_; first | (refine WO.faF (Areas.fa0' aty41 hS.base ?_ ?_) rfl rfl rfl ?_; omega; omega) | (refine WO.faF (Areas.fa1' aty41 hS.base ?_ ?_) rfl rfl rfl ?_; omega; omega))
    | (refine WO.isBin ?_; first | (refine WO.lss rfl rfl rfl rfl ?_ ?_ <;> intro hc) | (refine WO.leq rfl rfl rfl rfl ?_ ?_ <;> intro hc) | (refine WO.gtr rfl rfl rfl rfl ?_ ?_ <;> intro hc) | (refine WO.geq rfl rfl rfl rfl ?_ ?_ <;> intro hc) | (refine WO.eql rfl rfl rfl rfl ?_ ?_ <;> intro hc) | (refine WO.neq rfl rfl rfl rfl ?_ ?_ <;> intro hc) | (refine WO.add rfl rfl rfl rfl ?_ ?_ ?_; omega; omega) | (refine WO.sub rfl rfl rfl rfl ?_ ?_ ?_; omega; omega) | (refine WO.rem rfl rfl rfl rfl ?_ ?_; omega))
    | (refine WO.isAssign ?_; first | refine WO.assign rfl rfl rfl ?_)
    | (refine WO.isCall ?_; first | refine WO.lenF (Areas.len' aty41 hS.base) rfl rfl rfl ?_ | (refine WO.callB (fun h hh _ => Inside65_runs h hh.top _ _ _ _ _ _ _ _ _ _ _ _) rfl rfl rfl rfl ?_ ?_ <;> intro hc2))
    | (refine WO.isUn ?_; first | refine WO.notT rfl rfl rfl ?_ | refine WO.notF rfl rfl rfl ?_ | (refine WO.notS rfl rfl rfl ?_ ?_ <;> intro hc) | (refine WO.neg rfl rfl rfl ?_ ?_ ?_; omega; omega))
    | (refine WO.isIA ?_; first | (refine WO.ixF (Areas.ix' aty41 hS.base ?_ ?_) rfl rfl rfl rfl ?_; omega; omega))
    | (refine WO.isNil ?_; first | refine WO.nilCheck rfl rfl rfl ?_)
    | refine WO.nil ?_)
  · refine ⟨_, ⟨_, _, rfl, rfl, rfl⟩, fun h' k _ => ⟨k.pure, ?_⟩⟩
    rw [any_drop _ (by omega)] at hf
    show Value.bool true = _
    rw [hf]
    show Value.bool true = Value.bool (inside (atC y) (atR y) (gA l (i : Int)).ac (gA l (i : Int)).ar (gA l (i : Int)).bc (gA l (i : Int)).br || _)
    rw [hc2]
    rfl
  · refine ⟨i + 1, ⟨rfl, rfl, rfl, trivial⟩, List.Sublist.refl _, ⟨by omega, ?_⟩, (by show l.length - (i + 1) < l.length - i; omega)⟩
    rw [hf, any_drop _ (by omega)]
    show (inside (atC y) (atR y) (gA l (i : Int)).ac (gA l (i : Int)).ar (gA l (i : Int)).bc (gA l (i : Int)).br || _) = _
    rw [hc2]
    rfl
  · refine ⟨_, ⟨_, _, rfl, rfl, rfl⟩, fun h' k _ => ⟨k.pure, ?_⟩⟩
    rw [List.drop_of_length_le (by omega)] at hf
    show Value.bool false = _
    rw [hf]
    rfl

/-- Bounds on a graph: no list is as long as the largest int. -/
structure BndG (L : List NodeR) : Prop where
  l : L.length < 17592186044416
  a : ∀ n ∈ L, n.ar.length < 9223372036854775807
theorem needsOne_runs (h : Heap) (hwf : Wf h) (b : Nat) (sv : Value) (L : List NodeR) (x : Int) (w : Value) (l : List Int) (R : RefG h b sv L) (hL : BndG L) (hw : Ints h w l) (hl : l.length < 9223372036854775807) :
    Runs M 36 [.pointer (some ⟨b, 0, none⟩), .int .i64 x, w] h fun r h' => Grow h h' ∧ r = .bool (needsL (areasOf L x) l) := by
  refine Runs.enter h hwf [] [] (blks_nil ..) (fn := Try.f36) (by kernel_rfl) (by kernel_rfl) rfl (by kernel_rfl) ?_
  repeat' (first
    | refine WC.seq ?_ | refine WC.region ?_ | refine WC.block ?_ | refine WC.condT rfl ?_ | refine WC.condF rfl ?_ | refine WC.skip ?_ | refine WC.exit ?_ | refine WC.ret ?_ | refine WC.scope ?_
    | (refine WO.isG ?_; refine WO.unwanted rfl rfl ?_)
    | (refine WO.isMove ?_; first | refine WO.move rfl rfl rfl ?_)
    | (refine WO.isPick ?_; first | refine WO.pickT rfl rfl rfl rfl ?_ | refine WO.pickF rfl rfl rfl rfl ?_)
    | (refine WO.isBin ?_; first | (refine WO.lss rfl rfl rfl rfl ?_ ?_ <;> intro hc) | (refine WO.leq rfl rfl rfl rfl ?_ ?_ <;> intro hc) | (refine WO.gtr rfl rfl rfl rfl ?_ ?_ <;> intro hc) | (refine WO.geq rfl rfl rfl rfl ?_ ?_ <;> intro hc) | (refine WO.eql rfl rfl rfl rfl ?_ ?_ <;> intro hc) | (refine WO.neq rfl rfl rfl rfl ?_ ?_ <;> intro hc) | (refine WO.add rfl rfl rfl rfl ?_ ?_ ?_; omega; omega) | (refine WO.sub rfl rfl rfl rfl ?_ ?_ ?_; omega; omega) | (refine WO.rem rfl rfl rfl rfl ?_ ?_; omega))
    | (refine WO.isAssign ?_; first | refine WO.assign rfl rfl rfl ?_)
    | (refine WO.isUn ?_; first | refine WO.notT rfl rfl rfl ?_ | refine WO.notF rfl rfl rfl ?_ | (refine WO.notS rfl rfl rfl ?_ ?_ <;> intro hc) | (refine WO.neg rfl rfl rfl ?_ ?_ ?_; omega; omega))
    | (refine WO.isNil ?_; first | refine WO.nilCheck rfl rfl rfl ?_)
    | refine WO.nil ?_)
  refine WC.loop (α := Nat) (fun i => [(0, .pointer (some ⟨b, 0, none⟩)), (1, .int .i64 x), (2, w), (7, .int .i64 (i : Int))]) (fun _ => []) (fun i => i ≤ l.length ∧ needsL (areasOf L x) l = (l.drop i).any (needs (areasOf L x))) (fun i => l.length - i) 0 ⟨rfl, rfl, rfl, rfl, trivial⟩ (List.Sublist.refl _) ⟨Nat.zero_le _, rfl⟩ ?_
  rintro i ⟨hi, hf⟩
  repeat' (first
    | refine WC.seq ?_ | refine WC.region ?_ | refine WC.block ?_ | refine WC.condT rfl ?_ | refine WC.condF rfl ?_ | refine WC.skip ?_ | refine WC.exit ?_ | refine WC.ret ?_ | refine WC.scope ?_
    | (refine WO.isG ?_; refine WO.unwanted rfl rfl ?_)
    | (refine WO.isMove ?_; first | refine WO.move rfl rfl rfl ?_)
    | (refine WO.isPick ?_; first | refine WO.pickT rfl rfl rfl rfl ?_ | refine WO.pickF rfl rfl rfl rfl ?_)
    | (refine WO.isLoad ?_; first | (refine WO.ldF (Ints.ld hw.base ?_ ?_) rfl rfl rfl ?_; omega; omega))
    | (refine WO.isBin ?_; first | (refine WO.lss rfl rfl rfl rfl ?_ ?_ <;> intro hc) | (refine WO.leq rfl rfl rfl rfl ?_ ?_ <;> intro hc) | (refine WO.gtr rfl rfl rfl rfl ?_ ?_ <;> intro hc) | (refine WO.geq rfl rfl rfl rfl ?_ ?_ <;> intro hc) | (refine WO.eql rfl rfl rfl rfl ?_ ?_ <;> intro hc) | (refine WO.neq rfl rfl rfl rfl ?_ ?_ <;> intro hc) | (refine WO.add rfl rfl rfl rfl ?_ ?_ ?_; omega; omega) | (refine WO.sub rfl rfl rfl rfl ?_ ?_ ?_; omega; omega) | (refine WO.rem rfl rfl rfl rfl ?_ ?_; omega))
    | (refine WO.isAssign ?_; first | refine WO.assign rfl rfl rfl ?_)
    | (refine WO.isCall ?_; first | refine WO.lenF (Ints.len hw.base) rfl rfl rfl ?_ | (refine WO.callB (fun h' hh _ => Needs46_runs h' hh.top b sv L x _ (R.grow hh.pure) (by have := hL.l; omega) hL.a) rfl rfl rfl rfl ?_ ?_ <;> intro hc2))
    | (refine WO.isUn ?_; first | refine WO.notT rfl rfl rfl ?_ | refine WO.notF rfl rfl rfl ?_ | (refine WO.notS rfl rfl rfl ?_ ?_ <;> intro hc) | (refine WO.neg rfl rfl rfl ?_ ?_ ?_; omega; omega))
    | (refine WO.isIA ?_; first | (refine WO.ixF (Ints.ix hw.base ?_ ?_) rfl rfl rfl rfl ?_; omega; omega))
    | (refine WO.isNil ?_; first | refine WO.nilCheck rfl rfl rfl ?_)
    | refine WO.nil ?_)
  · refine ⟨_, ⟨_, _, rfl, rfl, rfl⟩, fun h' k _ => ⟨k.pure, ?_⟩⟩
    rw [any_drop _ (by omega)] at hf
    show Value.bool true = _
    rw [hf, show (default : Int) = 0 from rfl, hc2]
    rfl
  · refine ⟨i + 1, ⟨rfl, rfl, rfl, rfl, trivial⟩, List.Sublist.refl _, ⟨by omega, ?_⟩, (by show l.length - (i + 1) < l.length - i; omega)⟩
    rw [hf, any_drop _ (by omega), show (default : Int) = 0 from rfl, hc2]
    rfl
  · refine ⟨_, ⟨_, _, rfl, rfl, rfl⟩, fun h' k _ => ⟨k.pure, ?_⟩⟩
    rw [List.drop_of_length_le (by omega)] at hf
    show Value.bool false = _
    rw [hf]
    rfl

def ats (L : List NodeR) : List Int := L.map (·.at_)
theorem ats_step {L : List NodeR} {i : Nat} (h : i < L.length) : ats (L.take (i + 1)) = ats (L.take i) ++ [(gN L (i : Int)).at_] := by
  unfold ats gN
  rw [List.take_add_one, List.map_append, show ((i : Int)).toNat = i from by omega, List.getElem?_eq_getElem h, List.getD_eq_getElem?_getD, List.getElem?_eq_getElem h]
  rfl
theorem Cells22_runs (h : Heap) (hwf : Wf h) (b : Nat) (sv : Value) (L : List NodeR) (R : RefG h b sv L) (hL : BndG L) : Runs M 22 [.pointer (some ⟨b, 0, none⟩)] h fun r h' => Grow h h' ∧ OwnL h h' r 1 3 ((ats L).map encI) := by
  have hl := hL.l
  refine Runs.enter h hwf [] [] (blks_nil ..) (fn := Try.f22) (by kernel_rfl) (by kernel_rfl) rfl (by kernel_rfl) ?_
  refine WC.nilOwn 1 3 ?_
  repeat' (first
    | refine WC.seq ?_ | refine WC.region ?_ | refine WC.block ?_ | refine WC.condT rfl ?_ | refine WC.condF rfl ?_ | refine WC.skip ?_ | refine WC.exit ?_ | refine WC.ret ?_ | refine WC.scope ?_
    | (refine WO.isG ?_; refine WO.unwanted rfl rfl ?_)
    | (refine WO.isMove ?_; first | refine WO.move rfl rfl rfl ?_)
    | (refine WO.isPick ?_; first | refine WO.pickT rfl rfl rfl rfl ?_ | refine WO.pickF rfl rfl rfl rfl ?_)
    | (refine WO.isBin ?_; first | (refine WO.lss rfl rfl rfl rfl ?_ ?_ <;> intro hc) | (refine WO.leq rfl rfl rfl rfl ?_ ?_ <;> intro hc) | (refine WO.gtr rfl rfl rfl rfl ?_ ?_ <;> intro hc) | (refine WO.geq rfl rfl rfl rfl ?_ ?_ <;> intro hc) | (refine WO.eql rfl rfl rfl rfl ?_ ?_ <;> intro hc) | (refine WO.neq rfl rfl rfl rfl ?_ ?_ <;> intro hc) | (refine WO.add rfl rfl rfl rfl ?_ ?_ ?_; omega; omega) | (refine WO.sub rfl rfl rfl rfl ?_ ?_ ?_; omega; omega) | (refine WO.rem rfl rfl rfl rfl ?_ ?_; omega))
    | (refine WO.isAssign ?_; first | refine WO.assign rfl rfl rfl ?_)
    | (refine WO.isUn ?_; first | refine WO.notT rfl rfl rfl ?_ | refine WO.notF rfl rfl rfl ?_ | (refine WO.notS rfl rfl rfl ?_ ?_ <;> intro hc) | (refine WO.neg rfl rfl rfl ?_ ?_ ?_; omega; omega))
    | (refine WO.isNil ?_; first | refine WO.nilCheck rfl rfl rfl ?_)
    | refine WO.nil ?_)
  refine WC.loop (α := Nat × Value) (fun q => [(0, .pointer (some ⟨b, 0, none⟩)), (3, q.2), (4, .int .i64 (q.1 : Int))]) (fun q => [.own q.2 1 3 ((ats (L.take q.1)).map encI)]) (fun q => q.1 ≤ L.length) (fun q => L.length - q.1) (0, .slice none 0 0) ⟨rfl, rfl, rfl, trivial⟩ (List.Sublist.refl _) (Nat.zero_le _) ?_
  rintro ⟨i, w⟩ hi
  simp only at hi
  repeat' (first
    | refine WC.seq ?_ | refine WC.region ?_ | refine WC.block ?_ | refine WC.condT rfl ?_ | refine WC.condF rfl ?_ | refine WC.skip ?_ | refine WC.exit ?_ | refine WC.ret ?_ | refine WC.scope ?_
    | (refine WO.isG ?_; refine WO.unwanted rfl rfl ?_)
    | (refine WO.isMove ?_; first | refine WO.move rfl rfl rfl ?_)
    | (refine WO.isPick ?_; first | refine WO.pickT rfl rfl rfl rfl ?_ | refine WO.pickF rfl rfl rfl rfl ?_)
    | (refine WO.isLoad ?_; first | refine WO.ldF (RefG.hld R.base) rfl rfl rfl ?_ | (refine WO.ldF (RefG.hat R.base ?_ ?_) rfl rfl rfl ?_; omega; omega) | (refine WO.ldF (RefG.hav R.base ?_ ?_) rfl rfl rfl ?_; omega; omega))
    | (refine WO.isFA ?_; first | refine WO.fa fa56_0 rfl rfl rfl ?_ | (refine WO.faF (RefG.hfa0 R.base ?_ ?_) rfl rfl rfl ?_; omega; omega) | (refine WO.faF (RefG.hfa1 R.base ?_ ?_) rfl rfl rfl ?_; omega; omega))
    | (refine WO.isBin ?_; first | (refine WO.lss rfl rfl rfl rfl ?_ ?_ <;> intro hc) | (refine WO.leq rfl rfl rfl rfl ?_ ?_ <;> intro hc) | (refine WO.gtr rfl rfl rfl rfl ?_ ?_ <;> intro hc) | (refine WO.geq rfl rfl rfl rfl ?_ ?_ <;> intro hc) | (refine WO.eql rfl rfl rfl rfl ?_ ?_ <;> intro hc) | (refine WO.neq rfl rfl rfl rfl ?_ ?_ <;> intro hc) | (refine WO.add rfl rfl rfl rfl ?_ ?_ ?_; omega; omega) | (refine WO.sub rfl rfl rfl rfl ?_ ?_ ?_; omega; omega) | (refine WO.rem rfl rfl rfl rfl ?_ ?_; omega))
    | (refine WO.isAssign ?_; first | refine WO.assign rfl rfl rfl ?_)
    | (refine WO.isCall ?_; first | refine WO.lenF (RefG.hlen R.base) rfl rfl rfl ?_ | (refine WO.appI 1 (m := [_]) (Ints.own (e := 3) 0 rfl) ?_ rfl rfl rfl (fun _ => rfl) rfl ?_; (simp only [ats, List.length_map, List.length_take, List.length_cons, List.length_nil]; omega); intro w'))
    | (refine WO.isUn ?_; first | refine WO.notT rfl rfl rfl ?_ | refine WO.notF rfl rfl rfl ?_ | (refine WO.notS rfl rfl rfl ?_ ?_ <;> intro hc) | (refine WO.neg rfl rfl rfl ?_ ?_ ?_; omega; omega))
    | (refine WO.isIA ?_; first | (refine WO.ixF (RefG.hix R.base ?_ ?_) rfl rfl rfl rfl ?_; omega; omega))
    | (refine WO.isNil ?_; first | refine WO.nilCheck rfl rfl rfl ?_)
    | (refine WO.isLit ?_; first | (refine WO.litI rfl rfl rfl ?_; intro u))
    | refine WO.nil ?_)
  · refine ⟨(i + 1, w'), ⟨rfl, rfl, rfl, trivial⟩, ?_, (by show i + 1 ≤ L.length; omega), (by show L.length - (i + 1) < L.length - i; omega)⟩
    show List.Sublist [Ent.own w' 1 3 ((ats (L.take (i + 1))).map encI)] _
    rw [ats_step (by omega)]
    exact List.Sublist.cons _ (List.Sublist.refl _)
  · refine ⟨_, ⟨_, _, rfl, rfl, rfl⟩, fun h' k bb => ⟨k.pure, ?_⟩⟩
    have o := bb.at (i := 0) rfl
    rw [List.take_of_length_le (by omega)] at o
    exact o

/-- Who needs a cell. -/
def direct (L : List NodeR) (x : Int) : List Int := (ats L).filter fun a => needs (areasOf L a) x
theorem direct_step {L : List NodeR} {i : Nat} (x : Int) (h : i < L.length) : (ats (L.take (i + 1))).filter (fun a => needs (areasOf L a) x) = (ats (L.take i)).filter (fun a => needs (areasOf L a) x) ++ if needs (areasOf L (gN L (i : Int)).at_) x then [(gN L (i : Int)).at_] else [] := by
  rw [ats_step h, List.filter_append]
  cases hn : needs (areasOf L (gN L (i : Int)).at_) x <;> simp [hn]
theorem filter_le {L : List NodeR} {i : Nat} {p : Int → Bool} : ((ats (L.take i)).filter p).length ≤ L.length := by
  have h1 := List.length_filter_le p (ats (L.take i))
  have h2 : (ats (L.take i)).length ≤ L.length := by unfold ats; rw [List.length_map, List.length_take]; omega
  omega
theorem Direct23_runs (h : Heap) (hwf : Wf h) (b : Nat) (sv : Value) (L : List NodeR) (x : Int) (R : RefG h b sv L) (hL : BndG L) : Runs M 23 [.pointer (some ⟨b, 0, none⟩), .int .i64 x] h fun r h' => Grow h h' ∧ OwnL h h' r 1 3 ((direct L x).map encI) := by
  have hl := hL.l
  refine Runs.enter h hwf [] [] (blks_nil ..) (fn := Try.f23) (by kernel_rfl) (by kernel_rfl) rfl (by kernel_rfl) ?_
  refine WC.nilOwn 1 3 ?_
  repeat' (first
    | refine WC.seq ?_ | refine WC.region ?_ | refine WC.block ?_ | refine WC.condT rfl ?_ | refine WC.condF rfl ?_ | refine WC.skip ?_ | refine WC.exit ?_ | refine WC.ret ?_ | refine WC.scope ?_
    | (refine WO.isG ?_; refine WO.unwanted rfl rfl ?_)
    | (refine WO.isMove ?_; first | refine WO.move rfl rfl rfl ?_)
    | (refine WO.isPick ?_; first | refine WO.pickT rfl rfl rfl rfl ?_ | refine WO.pickF rfl rfl rfl rfl ?_)
    | (refine WO.isBin ?_; first | (refine WO.lss rfl rfl rfl rfl ?_ ?_ <;> intro hc) | (refine WO.leq rfl rfl rfl rfl ?_ ?_ <;> intro hc) | (refine WO.gtr rfl rfl rfl rfl ?_ ?_ <;> intro hc) | (refine WO.geq rfl rfl rfl rfl ?_ ?_ <;> intro hc) | (refine WO.eql rfl rfl rfl rfl ?_ ?_ <;> intro hc) | (refine WO.neq rfl rfl rfl rfl ?_ ?_ <;> intro hc) | (refine WO.add rfl rfl rfl rfl ?_ ?_ ?_; omega; omega) | (refine WO.sub rfl rfl rfl rfl ?_ ?_ ?_; omega; omega) | (refine WO.rem rfl rfl rfl rfl ?_ ?_; omega))
    | (refine WO.isAssign ?_; first | refine WO.assign rfl rfl rfl ?_)
    | (refine WO.isUn ?_; first | refine WO.notT rfl rfl rfl ?_ | refine WO.notF rfl rfl rfl ?_ | (refine WO.notS rfl rfl rfl ?_ ?_ <;> intro hc) | (refine WO.neg rfl rfl rfl ?_ ?_ ?_; omega; omega))
    | (refine WO.isNil ?_; first | refine WO.nilCheck rfl rfl rfl ?_)
    | refine WO.nil ?_)
  refine WC.loop (α := Nat × Value) (fun q => [(0, .pointer (some ⟨b, 0, none⟩)), (1, .int .i64 x), (5, q.2), (6, .int .i64 (q.1 : Int))]) (fun q => [.own q.2 1 3 (((ats (L.take q.1)).filter (fun a => needs (areasOf L a) x)).map encI)]) (fun q => q.1 ≤ L.length) (fun q => L.length - q.1) (0, .slice none 0 0) ⟨rfl, rfl, rfl, rfl, trivial⟩ (List.Sublist.refl _) (Nat.zero_le _) ?_
  rintro ⟨i, w⟩ hi
  simp only at hi
  have hfl := @filter_le L i (fun a => needs (areasOf L a) x)
  repeat' (first
    | refine WC.seq ?_ | refine WC.region ?_ | refine WC.block ?_ | refine WC.condT rfl ?_ | refine WC.condF rfl ?_ | refine WC.skip ?_ | refine WC.exit ?_ | refine WC.ret ?_ | refine WC.scope ?_
    | (refine WO.isG ?_; refine WO.unwanted rfl rfl ?_)
    | (refine WO.isMove ?_; first | refine WO.move rfl rfl rfl ?_)
    | (refine WO.isPick ?_; first | refine WO.pickT rfl rfl rfl rfl ?_ | refine WO.pickF rfl rfl rfl rfl ?_)
    | (refine WO.isLoad ?_; first | refine WO.ldF (RefG.hld R.base) rfl rfl rfl ?_ | (refine WO.ldF (RefG.hat R.base ?_ ?_) rfl rfl rfl ?_; omega; omega) | (refine WO.ldF (RefG.hav R.base ?_ ?_) rfl rfl rfl ?_; omega; omega))
    | (refine WO.isFA ?_; first | refine WO.fa fa56_0 rfl rfl rfl ?_ | (refine WO.faF (RefG.hfa0 R.base ?_ ?_) rfl rfl rfl ?_; omega; omega) | (refine WO.faF (RefG.hfa1 R.base ?_ ?_) rfl rfl rfl ?_; omega; omega))
    | (refine WO.isBin ?_; first | (refine WO.lss rfl rfl rfl rfl ?_ ?_ <;> intro hc) | (refine WO.leq rfl rfl rfl rfl ?_ ?_ <;> intro hc) | (refine WO.gtr rfl rfl rfl rfl ?_ ?_ <;> intro hc) | (refine WO.geq rfl rfl rfl rfl ?_ ?_ <;> intro hc) | (refine WO.eql rfl rfl rfl rfl ?_ ?_ <;> intro hc) | (refine WO.neq rfl rfl rfl rfl ?_ ?_ <;> intro hc) | (refine WO.add rfl rfl rfl rfl ?_ ?_ ?_; omega; omega) | (refine WO.sub rfl rfl rfl rfl ?_ ?_ ?_; omega; omega) | (refine WO.rem rfl rfl rfl rfl ?_ ?_; omega))
    | (refine WO.isAssign ?_; first | refine WO.assign rfl rfl rfl ?_)
    | (refine WO.isCall ?_; first | refine WO.lenF (RefG.hlen R.base) rfl rfl rfl ?_ | (refine WO.appI 1 (m := [_]) (Ints.own (e := 3) 0 rfl) ?_ rfl rfl rfl (fun _ => rfl) rfl ?_; (simp only [List.length_cons, List.length_nil]; omega); intro w') | (refine WO.callB (fun h' hh _ => Needs46_runs h' hh.top b sv L _ x (R.grow hh.pure) (by omega) hL.a) rfl rfl rfl rfl ?_ ?_ <;> intro hc2))
    | (refine WO.isUn ?_; first | refine WO.notT rfl rfl rfl ?_ | refine WO.notF rfl rfl rfl ?_ | (refine WO.notS rfl rfl rfl ?_ ?_ <;> intro hc) | (refine WO.neg rfl rfl rfl ?_ ?_ ?_; omega; omega))
    | (refine WO.isIA ?_; first | (refine WO.ixF (RefG.hix R.base ?_ ?_) rfl rfl rfl rfl ?_; omega; omega))
    | (refine WO.isNil ?_; first | refine WO.nilCheck rfl rfl rfl ?_)
    | (refine WO.isLit ?_; first | (refine WO.litI rfl rfl rfl ?_; intro u))
    | refine WO.nil ?_)
  · refine ⟨(i + 1, w'), ⟨rfl, rfl, rfl, rfl, trivial⟩, ?_, (by show i + 1 ≤ L.length; omega), (by show L.length - (i + 1) < L.length - i; omega)⟩
    show List.Sublist [Ent.own w' 1 3 (((ats (L.take (i + 1))).filter (fun a => needs (areasOf L a) x)).map encI)] _
    rw [direct_step x (by omega), if_pos hc2]
    exact List.Sublist.cons _ (List.Sublist.refl _)
  · refine ⟨(i + 1, w), ⟨rfl, rfl, rfl, rfl, trivial⟩, ?_, (by show i + 1 ≤ L.length; omega), (by show L.length - (i + 1) < L.length - i; omega)⟩
    show List.Sublist [Ent.own w 1 3 (((ats (L.take (i + 1))).filter (fun a => needs (areasOf L a) x)).map encI)] _
    rw [direct_step x (by omega), if_neg (by rw [hc2]; decide), List.append_nil]
    exact List.Sublist.refl _
  · refine ⟨_, ⟨_, _, rfl, rfl, rfl⟩, fun h' k bb => ⟨k.pure, ?_⟩⟩
    have o := bb.at (i := 0) rfl
    rw [List.take_of_length_le (by omega)] at o
    exact o
end Go.Proofs.Ythggbjpanpnlnaa

/- Plain lists of ints: rising lists, insertion, members. -/
namespace Go.Ideal

def Asc (l : List Int) : Prop := l.Pairwise (· < ·)
theorem Asc.nil : Asc [] := List.Pairwise.nil
theorem Asc.ext : ∀ {a b : List Int}, Asc a → Asc b → (∀ x, x ∈ a ↔ x ∈ b) → a = b
  | [], [], _, _, _ => rfl
  | [], y :: b, _, _, h => absurd ((h y).2 List.mem_cons_self) (by simp)
  | x :: a, [], _, _, h => absurd ((h x).1 List.mem_cons_self) (by simp)
  | x :: a, y :: b, ha, hb, h => by
    obtain ⟨ha1, ha2⟩ := List.pairwise_cons.1 ha
    obtain ⟨hb1, hb2⟩ := List.pairwise_cons.1 hb
    have hxy : x = y := by
      rcases List.mem_cons.1 ((h x).1 List.mem_cons_self) with e | e
      · exact e
      · rcases List.mem_cons.1 ((h y).2 List.mem_cons_self) with e2 | e2
        · exact e2.symm
        · have := hb1 x e; have := ha1 y e2; omega
    subst hxy
    congr 1
    refine Asc.ext ha2 hb2 (fun z => ⟨fun hz => ?_, fun hz => ?_⟩)
    · rcases List.mem_cons.1 ((h z).1 (List.mem_cons_of_mem _ hz)) with e | e
      · have := ha1 z hz; omega
      · exact e
    · rcases List.mem_cons.1 ((h z).2 (List.mem_cons_of_mem _ hz)) with e | e
      · have := hb1 z hz; omega
      · exact e

theorem Asc.ins {l : List Int} (h : Asc l) {k : Nat} {x : Int} (hk : k ≤ l.length) (h1 : ∀ j, j < k → l.getD j 0 < x) (h2 : k = l.length ∨ x < l.getD k 0) : Asc (l.take k ++ [x] ++ l.drop k) := by
  have get : ∀ j (hj : j < l.length), l.getD j 0 = l[j] := fun j hj => by rw [List.getD_eq_getElem?_getD, List.getElem?_eq_getElem hj]; rfl
  have hlow : ∀ y ∈ l.take k, y < x := by
    intro y hy
    obtain ⟨j, hj, e⟩ := List.mem_iff_getElem.1 hy
    rw [List.length_take] at hj
    have := h1 j (by omega)
    rw [get j (by omega)] at this
    rw [← e, List.getElem_take]
    exact this
  have hhigh : ∀ y ∈ l.drop k, x < y := by
    intro y hy
    obtain ⟨j, hj, e⟩ := List.mem_iff_getElem.1 hy
    rw [List.length_drop] at hj
    rw [List.getElem_drop] at e
    have h2 : x < l.getD k 0 := by rcases h2 with h2 | h2; omega; exact h2
    rw [get k (by omega)] at h2
    rcases Nat.eq_zero_or_pos j with rfl | hj0
    · simp only [Nat.add_zero] at e; rw [← e]; exact h2
    · have := List.pairwise_iff_getElem.1 h k (k + j) (by omega) (by omega) (by omega)
      rw [← e]; omega
  refine List.pairwise_append.2 ⟨List.pairwise_append.2 ⟨h.sublist (List.take_sublist _ _), List.pairwise_singleton _ _, fun a ha b hb => ?_⟩, h.sublist (List.drop_sublist _ _), fun a ha b hb => ?_⟩
  · rw [List.mem_singleton.1 hb]; exact hlow a ha
  · rcases List.mem_append.1 ha with ha | ha
    · have := hlow a ha; have := hhigh b hb; omega
    · rw [List.mem_singleton.1 ha]; exact hhigh b hb
theorem mem_ins {l : List Int} {k : Nat} {x y : Int} : y ∈ l.take k ++ [x] ++ l.drop k ↔ y ∈ l ∨ y = x := by
  have : y ∈ l ↔ y ∈ l.take k ∨ y ∈ l.drop k := by rw [← List.mem_append, List.take_append_drop]
  rw [this]
  simp only [List.mem_append, List.mem_singleton]
  constructor
  · rintro ((h | h) | h)
    · exact .inl (.inl h)
    · exact .inr h
    · exact .inl (.inr h)
  · rintro ((h | h) | h)
    · exact .inl (.inl h)
    · exact .inr h
    · exact .inl (.inr h)
theorem len_ins {l : List Int} {k : Nat} {x : Int} (hk : k ≤ l.length) : (l.take k ++ [x] ++ l.drop k).length = l.length + 1 := by
  simp only [List.length_append, List.length_take, List.length_drop, List.length_cons, List.length_nil]; omega

theorem nodup_len : ∀ {a b : List Int}, a.Nodup → (∀ x ∈ a, x ∈ b) → a.length ≤ b.length
  | [], _, _, _ => by simp
  | x :: a, b, h, hs => by
    obtain ⟨h1, h2⟩ := List.nodup_cons.1 h
    have hx := hs x List.mem_cons_self
    have := nodup_len (a := a) (b := b.erase x) h2 (fun y hy => by
      have hne : y ≠ x := fun e => h1 (e ▸ hy)
      exact (List.mem_erase_of_ne hne).2 (hs y (List.mem_cons_of_mem _ hy)))
    rw [List.length_erase_of_mem hx] at this
    have : 0 < b.length := List.length_pos_of_mem hx
    simp only [List.length_cons]
    omega
theorem Asc.nodup {l : List Int} (h : Asc l) : l.Nodup := List.Pairwise.imp (fun h => by omega) h

/-- Cells that hang on others: some are told, and whoever needs one that does. -/
inductive Hangs (keys : List Int) (need : Int → Int → Bool) (l : List Int) : Int → Prop where
  | one (x y : Int) (hx : x ∈ keys) (hy : y ∈ l) (h : need x y = true) : Hangs keys need l x
  | more (x y : Int) (hx : x ∈ keys) (hy : Hangs keys need l y) (h : need x y = true) : Hangs keys need l x

/-- The order: the first of those left that needs none of those left goes out, again and again. -/
def orderM (need : Int → Int → Bool) : Nat → List Int → List Int → List Int × List Int
  | 0, left, out => (out, left)
  | f + 1, left, out => match left.findIdx? (fun a => !left.any (need a)) with
    | none => (out, left)
    | some k => orderM need f (left.eraseIdx k) (out ++ [left.getD k 0])
theorem orderM_none {need : Int → Int → Bool} {f : Nat} {left out : List Int} (h : ∀ j, j < left.length → left.any (need (left.getD j 0)) = true) : orderM need f left out = (out, left) := by
  cases f with
  | zero => rfl
  | succ f =>
    have : left.findIdx? (fun a => !left.any (need a)) = none := by
      rw [List.findIdx?_eq_none_iff]
      intro x hx
      obtain ⟨j, hj, e⟩ := List.mem_iff_getElem.1 hx
      have := h j hj
      rw [List.getD_eq_getElem?_getD, List.getElem?_eq_getElem hj, Option.getD_some, e] at this
      simp [this]
    simp only [orderM, this]
theorem orderM_some {need : Int → Int → Bool} {left out : List Int} {k : Nat} (hk : k < left.length) (h : ∀ j, j < k → left.any (need (left.getD j 0)) = true) (h2 : left.any (need (left.getD k 0)) = false) : orderM need left.length left out = orderM need (left.eraseIdx k).length (left.eraseIdx k) (out ++ [left.getD k 0]) := by
  have hl : left.length = (left.eraseIdx k).length + 1 := by rw [List.length_eraseIdx, if_pos hk]; omega
  have : left.findIdx? (fun a => !left.any (need a)) = some k := by
    rw [List.findIdx?_eq_some_iff_getElem]
    refine ⟨hk, ?_, fun j hj => ?_⟩
    · rw [List.getD_eq_getElem?_getD, List.getElem?_eq_getElem hk, Option.getD_some] at h2
      simp [h2]
    · have := h j hj
      rw [List.getD_eq_getElem?_getD, List.getElem?_eq_getElem (by omega), Option.getD_some] at this
      simp [this]
  rw [hl]
  simp only [orderM, this]
end Go.Ideal

/- The reference's graph (chapter 20) on the ideal machine: rising lists, who hangs on whom, the order. -/
namespace Go.Proofs.Ythggbjpanpnlnaa
open Go Go.Ideal
set_option maxHeartbeats 4000000

theorem sl23 : SlT M.P 23 1 := by
  obtain ⟨inf, h2, h3⟩ := info3
  exact ⟨⟨3, inf, Try.underlying23, h2, h3⟩, ⟨by kernel_rfl, by kernel_rfl, by kernel_rfl⟩⟩
/-- A slice of ints that may be sliced. -/
def IntsS (h : Heap) (v : Value) (l : List Int) : Prop := SliceS M.P h v 1 (l.map encI)
theorem IntsS.own {B : Heap} {Mu : List Nat} {H : List Ent} {v : Value} {l : List Int} (k0 : Nat) (hk : H[k0]? = some (.own v 1 3 (l.map encI))) : Has B Mu H fun h => IntsS h v l := fun h hh hb => OwnL.sliceS elem23 (hb.at hk)
theorem IntsS.sub {B : Heap} {Mu : List Nat} {H : List Ent} {v : Value} {l : List Int} {a b : Nat} (s : Has B Mu H fun h => IntsS h v l) (h1 : a ≤ b) (h2 : b ≤ l.length) : Has B Mu H fun h => Ints h (slV v 1 a b) ((l.take b).drop a) := fun h hh hb => by
  have := (SliceS.sub (s h hh hb) h1 (by simpa using h2)).sl
  rw [← List.map_take, ← List.map_drop] at this
  exact this
theorem lit0 (h : Heap) : iBuildSlice M.P 23 0 [] h = some (.slice (some ⟨h.n, 0, some 0⟩) 0 0, h.push (.cells [] 3 false)) := by kernel_rfl
theorem WO.litE {N : Nat} {B : Heap} {Mu : List Nat} {U : Hist} {ops : Array Oper} {rest : List Oper} {ρ : Regs} {H : List Ent} {K : Hist → Regs → List Ent → Prop} {dst : Option Tmp} {ty : TypeId} {pos : String} {af : Array Edge} {gd : Option (Nat × Bool)}
    (hw : iwR ops gd ρ = some true) (hd : dOK N dst = true) (k : ∀ v, WO M N B Mu (none :: U) ops rest (putR dst v ρ) (.own v 1 3 (([] : List Int).map encI) :: H) K) : WO M N B Mu U ops (⟨dst, .buildSlice 23 0 #[], ty, pos, af, gd⟩ :: rest) ρ H K := by
  refine WO.lit (l := []) (sz := 1) (L := []) hw rfl (fun h => lit0 h) ?_ hd k
  intro cs hcs
  cases hcs

theorem oeq_cells {e : TypeId} {f : Bool} {c : List Value} (h : ∀ v ∈ c, veq 2 v v = true) : oeq (some (.cells c e f)) (some (.cells c e f)) = true := by
  have hz : ∀ c : List Value, (∀ v ∈ c, veq 2 v v = true) → (List.zipWith (veq 2) c c).all id = true := by
    intro c
    induction c with
    | nil => intro _; rfl
    | cons v c ih =>
      intro h
      rw [List.zipWith_cons_cons, List.all_cons, ih (fun v hv => h v (List.mem_cons_of_mem _ hv)), Bool.and_true]
      exact h v List.mem_cons_self
  show (Nat.beq c.length c.length && (List.zipWith (veq 2) c c).all id && Nat.beq e e && (f == f)) = true
  rw [hz c h]
  simp
theorem oeq_int (x : Int) : oeq (some (.cells [encI x].flatten 3 false)) (some (.cells [encI x].flatten 3 false)) = true := oeq_cells (fun v hv => by
  have : v = .int .i64 x := by simpa [encI] using hv
  rw [this]
  show (decide (IntKind.i64 = IntKind.i64) && decide (x = x)) = true
  simp)
def gI (l : List Int) (i : Int) : Int := l.getD i.toNat 0
theorem gI_nat (l : List Int) (i : Nat) : l.getD ((i : Int)).toNat 0 = l.getD i 0 := by rw [show ((i : Int)).toNat = i from by omega]

theorem rise_stay {y x : Int} {R t t' : List Int} (h1 : y ∈ R ↔ y ∈ t ∧ inG y = true) (h2 : y ∈ t' ↔ y ∈ t ∨ y = x) (h3 : inG x = false ∨ x ∈ R) : y ∈ R ↔ y ∈ t' ∧ inG y = true := by
  rw [h2]
  constructor
  · intro h; exact ⟨.inl (h1.1 h).1, (h1.1 h).2⟩
  · rintro ⟨h | rfl, hg⟩
    · exact h1.2 ⟨h, hg⟩
    · rcases h3 with h3 | h3
      · rw [h3] at hg; cases hg
      · exact h3
theorem rise_ins {y x : Int} {k : Nat} {R t t' : List Int} (h1 : y ∈ R ↔ y ∈ t ∧ inG y = true) (h2 : y ∈ t' ↔ y ∈ t ∨ y = x) (h3 : inG x = true) : y ∈ R.take k ++ [x] ++ R.drop k ↔ y ∈ t' ∧ inG y = true := by
  rw [mem_ins, h1, h2]
  constructor
  · rintro (⟨h, hg⟩ | rfl)
    · exact ⟨.inl h, hg⟩
    · exact ⟨.inr rfl, h3⟩
  · rintro ⟨h | rfl, hg⟩
    · exact .inl ⟨h, hg⟩
    · exact .inr rfl
theorem mem_at {R : List Int} {k : Nat} {x : Int} (hk : k < R.length) (h : R.getD k 0 = x) : x ∈ R := by
  rw [← h, List.getD_eq_getElem?_getD, List.getElem?_eq_getElem hk]
  exact List.getElem_mem hk
theorem Rising20_runs (h : Heap) (hwf : Wf h) (w : Value) (l : List Int) (hw : Ints h w l) (hl : l.length < 8796093022208) : Runs M 20 [w] h fun r h' => Grow h h' ∧ ∃ R, Asc R ∧ (∀ x, x ∈ R ↔ x ∈ l ∧ inG x = true) ∧ OwnL h h' r 1 3 (R.map encI) := by
  refine Runs.enter h hwf [] [] (blks_nil ..) (fn := Try.f20) (by kernel_rfl) (by kernel_rfl) rfl (by kernel_rfl) ?_
  refine WC.nilOwn 1 3 ?_
  repeat' (first
    | refine WC.seq ?_ | refine WC.region ?_ | refine WC.block ?_ | refine WC.condT rfl ?_ | refine WC.condF rfl ?_ | refine WC.skip ?_ | refine WC.exit ?_ | refine WC.ret ?_ | refine WC.scope ?_
    | (refine WO.isG ?_; refine WO.unwanted rfl rfl ?_)
    | (refine WO.isMove ?_; first | refine WO.move rfl rfl rfl ?_)
    | (refine WO.isPick ?_; first | refine WO.pickT rfl rfl rfl rfl ?_ | refine WO.pickF rfl rfl rfl rfl ?_)
    | (refine WO.isBin ?_; first | (refine WO.lss rfl rfl rfl rfl ?_ ?_ <;> intro hc) | (refine WO.leq rfl rfl rfl rfl ?_ ?_ <;> intro hc) | (refine WO.gtr rfl rfl rfl rfl ?_ ?_ <;> intro hc) | (refine WO.geq rfl rfl rfl rfl ?_ ?_ <;> intro hc) | (refine WO.eql rfl rfl rfl rfl ?_ ?_ <;> intro hc) | (refine WO.neq rfl rfl rfl rfl ?_ ?_ <;> intro hc) | (refine WO.add rfl rfl rfl rfl ?_ ?_ ?_; omega; omega) | (refine WO.sub rfl rfl rfl rfl ?_ ?_ ?_; omega; omega) | (refine WO.rem rfl rfl rfl rfl ?_ ?_; omega))
    | (refine WO.isAssign ?_; first | refine WO.assign rfl rfl rfl ?_)
    | (refine WO.isUn ?_; first | refine WO.notT rfl rfl rfl ?_ | refine WO.notF rfl rfl rfl ?_ | (refine WO.notS rfl rfl rfl ?_ ?_ <;> intro hc) | (refine WO.neg rfl rfl rfl ?_ ?_ ?_; omega; omega))
    | (refine WO.isNil ?_; first | refine WO.nilCheck rfl rfl rfl ?_)
    | refine WO.nil ?_)
  refine WC.loop (α := Nat × Value × List Int) (fun q => [(0, w), (3, q.2.1), (4, .int .i64 (q.1 : Int))]) (fun q => [.own q.2.1 1 3 (q.2.2.map encI)]) (fun q => q.1 ≤ l.length ∧ q.2.2.length ≤ q.1 ∧ Asc q.2.2 ∧ ∀ x, x ∈ q.2.2 ↔ x ∈ l.take q.1 ∧ inG x = true) (fun q => l.length - q.1) (0, .slice none 0 0, []) ⟨rfl, rfl, rfl, trivial⟩ (List.Sublist.refl _) ⟨Nat.zero_le _, Nat.le_refl _, Asc.nil, fun x => by simp⟩ ?_
  rintro ⟨i, o, R⟩ ⟨hi, hlen, hasc, hmem⟩
  simp only at hi hlen hasc hmem
  dsimp only
  have hstep : ∀ (k : i < l.length) x, x ∈ l.take (i + 1) ↔ x ∈ l.take i ∨ x = l.getD i 0 := by
    intro k x
    rw [List.take_add_one, List.getElem?_eq_getElem k, List.getD_eq_getElem?_getD, List.getElem?_eq_getElem k, List.mem_append]
    simp
  repeat' (first
    | refine WC.seq ?_ | refine WC.region ?_ | refine WC.block ?_ | refine WC.condT rfl ?_ | refine WC.condF rfl ?_ | refine WC.skip ?_ | refine WC.exit ?_ | refine WC.ret ?_ | refine WC.scope ?_
    | (refine WO.isG ?_; refine WO.unwanted rfl rfl ?_)
    | (refine WO.isMove ?_; first | refine WO.move rfl rfl rfl ?_)
    | (refine WO.isPick ?_; first | refine WO.pickT rfl rfl rfl rfl ?_ | refine WO.pickF rfl rfl rfl rfl ?_)
    | (refine WO.isLoad ?_; first | (refine WO.ldF (Ints.ld hw.base ?_ ?_) rfl rfl rfl ?_; omega; omega))
    | (refine WO.isBin ?_; first | (refine WO.lss rfl rfl rfl rfl ?_ ?_ <;> intro hc) | (refine WO.leq rfl rfl rfl rfl ?_ ?_ <;> intro hc) | (refine WO.gtr rfl rfl rfl rfl ?_ ?_ <;> intro hc) | (refine WO.geq rfl rfl rfl rfl ?_ ?_ <;> intro hc) | (refine WO.eql rfl rfl rfl rfl ?_ ?_ <;> intro hc) | (refine WO.neq rfl rfl rfl rfl ?_ ?_ <;> intro hc) | (refine WO.add rfl rfl rfl rfl ?_ ?_ ?_; omega; omega) | (refine WO.sub rfl rfl rfl rfl ?_ ?_ ?_; omega; omega) | (refine WO.rem rfl rfl rfl rfl ?_ ?_; omega))
    | (refine WO.isAssign ?_; first | refine WO.assign rfl rfl rfl ?_)
    | (refine WO.isCall ?_; first | refine WO.lenF (Ints.len hw.base) rfl rfl rfl ?_ | refine WO.callV (fun h' hh _ => cell44_runs h' hh.top _) rfl rfl rfl rfl ?_)
    | (refine WO.isUn ?_; first | refine WO.notT rfl rfl rfl ?_ | refine WO.notF rfl rfl rfl ?_ | (refine WO.notS rfl rfl rfl ?_ ?_ <;> intro hc) | (refine WO.neg rfl rfl rfl ?_ ?_ ?_; omega; omega))
    | (refine WO.isIA ?_; first | (refine WO.ixF (Ints.ix hw.base ?_ ?_) rfl rfl rfl rfl ?_; omega; omega))
    | (refine WO.isNil ?_; first | refine WO.nilCheck rfl rfl rfl ?_)
    | refine WO.nil ?_)
  · -- the inner loop
    have hlt : i < l.length := by omega
    rw [gI_nat]
    generalize hx : l.getD i 0 = x at *
    refine WC.loop (α := Nat) (fun k => [(0, w), (3, o), (4, .int .i64 (i : Int)), (5, .bool (inG x)), (6, .int .i64 (k : Int))]) (fun _ => [.own o 1 3 (R.map encI)]) (fun k => k ≤ R.length ∧ ∀ j, j < k → R.getD j 0 < x) (fun k => R.length - k) 0 ⟨rfl, rfl, rfl, rfl, rfl, trivial⟩ (List.Sublist.refl _) ⟨Nat.zero_le _, fun j hj => by omega⟩ ?_
    rintro k ⟨hk, hlow⟩
    cases hg : inG x
    all_goals
      repeat' (first
    | refine WC.draw (id := 7) [0, 1, 2, 3, 4, 5, 6, 7, 8, 9, 10, 11, 12, 13, 14] (by kernel_rfl) ?_
    | refine WC.draw (id := 9) [0, 1, 2, 3, 4, 5, 6, 7, 8, 9, 10, 11, 12, 13, 14, 15, 16, 17] (by kernel_rfl) ?_
    | refine WC.drawU (id := 10) hN [0, 1, 2, 3, 5, 6, 7, 8, 9, 11, 12, 13, 4, 10, 14, 15] [(3, [12], false), (8, [12, 13], false), (13, [12, 13, 14], false)] [(9, [12, 13], false)] (by kernel_rfl) (by kernel_rfl) (by kernel_rfl) ?_
    | (refine WO.litE rfl rfl ?_; intro u0)
    | refine WO.nil ⟨⟨⟨[.own o 1 3 (R.map encI)], St.sliceV sl23 (IntsS.own 0 rfl) rfl rfl rfl rfl (.hi _ (by omega) (by simp only [List.length_map]; omega)), (by
  refine ⟨?_, ?_⟩
  · repeat (first | exact trivial | refine ⟨⟨_, rfl, ?_⟩, ?_⟩ | exact List.nil_sublist _ | exact List.Sublist.refl _ | apply List.Sublist.cons_cons | apply List.Sublist.cons)
  · intro e; first | (cases e; done) | (repeat (first | exact List.nil_sublist _ | exact List.Sublist.refl _ | apply List.Sublist.cons_cons | apply List.Sublist.cons)))⟩, ⟨[], St.ldF (Ints.ld hw.base (by omega) (by omega)) (veq_int _ _) rfl rfl, (by
  refine ⟨?_, ?_⟩
  · repeat (first | exact trivial | refine ⟨⟨_, rfl, ?_⟩, ?_⟩ | exact List.nil_sublist _ | exact List.Sublist.refl _ | apply List.Sublist.cons_cons | apply List.Sublist.cons)
  · intro e; first | (cases e; done) | (repeat (first | exact List.nil_sublist _ | exact List.Sublist.refl _ | apply List.Sublist.cons_cons | apply List.Sublist.cons)))⟩, ⟨[.own o 1 3 (R.map encI)], St.sliceV sl23 (IntsS.own 0 rfl) rfl rfl rfl rfl (.lo _ (by omega) (by simp only [List.length_map]; omega)), (by
  refine ⟨?_, ?_⟩
  · repeat (first | exact trivial | refine ⟨⟨_, rfl, ?_⟩, ?_⟩ | exact List.nil_sublist _ | exact List.Sublist.refl _ | apply List.Sublist.cons_cons | apply List.Sublist.cons)
  · intro e; first | (cases e; done) | (repeat (first | exact List.nil_sublist _ | exact List.Sublist.refl _ | apply List.Sublist.cons_cons | apply List.Sublist.cons)))⟩, trivial⟩, ⟨⟨[.own u1 1 3 [encI _]], Sf.lit 0 (fun h => lit1 h _) (by simp) (oeq_int _) rfl rfl rfl, (by
  refine ⟨?_, ?_⟩
  · repeat (first | exact trivial | refine ⟨⟨_, rfl, ?_⟩, ?_⟩ | exact List.nil_sublist _ | exact List.Sublist.refl _ | apply List.Sublist.cons_cons | apply List.Sublist.cons)
  · intro e; first | (cases e; done) | (repeat (first | exact List.nil_sublist _ | exact List.Sublist.refl _ | apply List.Sublist.cons_cons | apply List.Sublist.cons)))⟩, trivial⟩, ?_⟩
    | refine WC.seq ?_ | refine WC.region ?_ | refine WC.block ?_ | refine WC.condT rfl ?_ | refine WC.condF rfl ?_ | refine WC.skip ?_ | refine WC.exit ?_ | refine WC.ret ?_ | refine WC.scope ?_
    | (refine WO.isG ?_; refine WO.unwanted rfl rfl ?_)
    | (refine WO.isMove ?_; first | refine WO.move rfl rfl rfl ?_)
    | (refine WO.isPick ?_; first | refine WO.pickT rfl rfl rfl rfl ?_ | refine WO.pickF rfl rfl rfl rfl ?_)
    | (refine WO.isLoad ?_; first | (refine WO.ldF (Ints.ld (Ints.own 0 rfl) ?_ ?_) rfl rfl rfl ?_; omega; omega) | (refine WO.ldF (Ints.ld hw.base ?_ ?_) rfl rfl rfl ?_; omega; omega))
    | (refine WO.isBin ?_; first | (refine WO.lss rfl rfl rfl rfl ?_ ?_ <;> intro hc) | (refine WO.leq rfl rfl rfl rfl ?_ ?_ <;> intro hc) | (refine WO.gtr rfl rfl rfl rfl ?_ ?_ <;> intro hc) | (refine WO.geq rfl rfl rfl rfl ?_ ?_ <;> intro hc) | (refine WO.eql rfl rfl rfl rfl ?_ ?_ <;> intro hc) | (refine WO.neq rfl rfl rfl rfl ?_ ?_ <;> intro hc) | (refine WO.add rfl rfl rfl rfl ?_ ?_ ?_; omega; omega) | (refine WO.sub rfl rfl rfl rfl ?_ ?_ ?_; omega; omega) | (refine WO.rem rfl rfl rfl rfl ?_ ?_; omega))
    | (refine WO.isAssign ?_; first | refine WO.assign rfl rfl rfl ?_)
    | (refine WO.isCall ?_; first | refine WO.lenF (Ints.len (Ints.own 0 rfl)) rfl rfl rfl ?_ | refine WO.lenF (Ints.len hw.base) rfl rfl rfl ?_ | (refine WO.appI 1 (l := []) (IntsS.sub (IntsS.own 2 rfl) ?_ ?_) ?_ rfl rfl rfl (fun _ => rfl) rfl ?_; omega; omega; (simp; omega); intro w1) | (refine WO.appI 1 (m := [_]) (Ints.own (e := 3) 0 rfl) ?_ rfl rfl rfl (fun _ => rfl) rfl ?_; (simp; omega); intro w2) | (refine WO.appI 1 (IntsS.sub (IntsS.own 2 rfl) ?_ ?_) ?_ rfl rfl rfl (fun _ => rfl) rfl ?_; (simp; omega); (simp); (simp; omega); intro w3))
    | (refine WO.isUn ?_; first | refine WO.notT rfl rfl rfl ?_ | refine WO.notF rfl rfl rfl ?_ | (refine WO.notS rfl rfl rfl ?_ ?_ <;> intro hc) | (refine WO.neg rfl rfl rfl ?_ ?_ ?_; omega; omega))
    | (refine WO.isIA ?_; first | (refine WO.ixF (Ints.ix (Ints.own 0 rfl) ?_ ?_) rfl rfl rfl rfl ?_; omega; omega) | (refine WO.ixF (Ints.ix hw.base ?_ ?_) rfl rfl rfl rfl ?_; omega; omega))
    | (refine WO.isNil ?_; first | refine WO.nilCheck rfl rfl rfl ?_)
    | (refine WO.isSlice ?_; first | (refine WO.sliceV sl23 (IntsS.own 1 rfl) rfl rfl rfl rfl (.hi _ ?_ ?_) rfl ?_; omega; (simp only [List.length_map]; omega)) | (refine WO.sliceV sl23 (IntsS.own 2 rfl) rfl rfl rfl rfl (.lo _ ?_ ?_) rfl ?_; omega; (simp only [List.length_map]; omega)))
    | (refine WO.isLit ?_; first | (refine WO.litI rfl rfl rfl ?_; intro u1))
    | refine WO.nil ?_)
    all_goals simp only [gI_nat, hx] at *
    all_goals first
      | (refine ⟨k + 1, ⟨rfl, rfl, rfl, rfl, rfl, trivial⟩, List.Sublist.refl _, ⟨by omega, fun j hj => ?_⟩, (by show R.length - (k + 1) < R.length - k; omega)⟩
         rcases Nat.lt_or_ge j k with h1 | h1
         · exact hlow j h1
         · rw [show j = k from by omega]; assumption)
      | (refine ⟨(i + 1, o, R), ⟨rfl, rfl, rfl, trivial⟩, List.Sublist.refl _, ⟨by show i + 1 ≤ _; omega, by show R.length ≤ i + 1; omega, hasc, fun y => ?_⟩, (by show l.length - (i + 1) < l.length - i; omega)⟩
         exact rise_stay (hmem y) (hstep hlt y) (by first | exact .inl hg | exact .inr (mem_at (k := k) (by omega) hc)))
      | (refine ⟨(i + 1, w3, R.take k ++ [x] ++ R.drop k), ⟨rfl, rfl, rfl, trivial⟩, ?_, ⟨by show i + 1 ≤ _; omega, by show (R.take k ++ [x] ++ R.drop k).length ≤ i + 1; rw [len_ins (by omega)]; omega, hasc.ins (by omega) hlow ?_, fun y => ?_⟩, (by show l.length - (i + 1) < l.length - i; omega)⟩
         · show List.Sublist [Ent.own w3 1 3 ((R.take k ++ [x] ++ R.drop k).map encI)] _
           have e : R.take k ++ [x] ++ R.drop k = [] ++ List.drop 0 (List.take ((k : Int)).toNat R) ++ [x] ++ List.drop ((k : Int)).toNat (List.take (List.map encI R).length R) := by
             rw [show ((k : Int)).toNat = k from by omega, List.length_map, List.take_length, List.nil_append, List.drop_zero]
           rw [e]
           exact List.Sublist.cons _ (List.Sublist.cons_cons _ (List.nil_sublist _))
         · omega
         · exact rise_ins (hmem y) (hstep hlt y) hg)
      | (refine ⟨(i + 1, o, R), ⟨rfl, rfl, rfl, trivial⟩, List.Sublist.refl _, ⟨by show i + 1 ≤ _; omega, by show R.length ≤ i + 1; omega, hasc, fun y => ?_⟩, (by show l.length - (i + 1) < l.length - i; omega)⟩
         have hm : x ∈ R := mem_at (k := k) (by omega) hc
         exact rise_stay (hmem y) (hstep hlt y) (.inr hm))
  · refine ⟨_, ⟨_, _, rfl, rfl, rfl⟩, fun h' k bb => ⟨k.pure, R, hasc, ?_, bb.at (i := 0) rfl⟩⟩
    intro x
    rw [hmem x, List.take_of_length_le (by omega)]
end Go.Proofs.Ythggbjpanpnlnaa

/- The reference's graph (chapter 20) on the ideal machine: who hangs on whom, the order. -/
namespace Go.Proofs.Ythggbjpanpnlnaa
open Go Go.Ideal
set_option maxHeartbeats 4000000

def need (L : List NodeR) (a x : Int) : Bool := needs (areasOf L a) x
theorem needsL_iff {ar : List AreaR} {l : List Int} : needsL ar l = true ↔ ∃ y ∈ l, needs ar y = true := by
  unfold needsL
  rw [List.any_eq_true]
theorem mem_ats {L : List NodeR} {n : NodeR} (h : n ∈ L) : n.at_ ∈ ats L := List.mem_map_of_mem h
theorem gN_mem {L : List NodeR} {i : Int} (h0 : 0 ≤ i) (h1 : i < L.length) : gN L i ∈ L := by
  have hlt : i.toNat < L.length := by omega
  unfold gN
  rw [List.getD_eq_getElem?_getD, List.getElem?_eq_getElem hlt]
  exact List.getElem_mem hlt
/-- The list so far: each once, each a cell that hangs. -/
structure Soh (L : List NodeR) (l : List Int) (s : List Int) : Prop where
  nd : s.Nodup
  sub : ∀ x ∈ s, x ∈ ats L
  ok : ∀ x ∈ s, Hangs (ats L) (need L) l x
theorem Soh.len {L : List NodeR} {l s : List Int} (h : Soh L l s) : s.length ≤ L.length := by
  have := nodup_len h.nd h.sub
  unfold ats at this
  rwa [List.length_map] at this
theorem Soh.snoc {L : List NodeR} {l s : List Int} (h : Soh L l s) {n : NodeR} (hn : n ∈ L) (h1 : needsL (areasOf L n.at_) l = true ∨ needsL (areasOf L n.at_) s = true) (h2 : s.contains n.at_ = false) : Soh L l (s ++ [n.at_]) := by
  have hni : n.at_ ∉ s := by simpa using h2
  have hh : Hangs (ats L) (need L) l n.at_ := by
    rcases h1 with h1 | h1
    · obtain ⟨y, hy, hyn⟩ := needsL_iff.1 h1
      exact .one _ y (mem_ats hn) hy hyn
    · obtain ⟨y, hy, hyn⟩ := needsL_iff.1 h1
      exact .more _ y (mem_ats hn) (h.ok y hy) hyn
  refine ⟨?_, fun x hx => ?_, fun x hx => ?_⟩
  · rw [List.nodup_append]
    exact ⟨h.nd, by simp, fun a ha b hb => by rw [List.mem_singleton.1 hb]; exact fun e => hni (e ▸ ha)⟩
  · rcases List.mem_append.1 hx with hx | hx
    · exact h.sub x hx
    · rw [List.mem_singleton.1 hx]; exact mem_ats hn
  · rcases List.mem_append.1 hx with hx | hx
    · exact h.ok x hx
    · rw [List.mem_singleton.1 hx]; exact hh
/-- Nothing is new among the first cells. -/
def Shut (L : List NodeR) (l s : List Int) (i : Nat) : Prop := ∀ j, j < i → (needsL (areasOf L (gN L (j : Int)).at_) l = true ∨ needsL (areasOf L (gN L (j : Int)).at_) s = true) → (gN L (j : Int)).at_ ∈ s
theorem Shut.all {L : List NodeR} {l s : List Int} (h : Shut L l s L.length) (hs : Soh L l s) (x : Int) : x ∈ s ↔ Hangs (ats L) (need L) l x := by
  refine ⟨hs.ok x, fun hx => ?_⟩
  have key : ∀ n ∈ L, (needsL (areasOf L n.at_) l = true ∨ needsL (areasOf L n.at_) s = true) → n.at_ ∈ s := by
    intro n hn hor
    obtain ⟨j, hj, e⟩ := List.mem_iff_getElem.1 hn
    have e2 : gN L (j : Int) = n := by
      unfold gN
      rw [show ((j : Int)).toNat = j from by omega, List.getD_eq_getElem?_getD, List.getElem?_eq_getElem hj, ← e]; rfl
    have := h j hj
    rw [e2] at this
    exact this hor
  have key2 : ∀ x ∈ ats L, (∃ y, (y ∈ l ∨ y ∈ s) ∧ need L x y = true) → x ∈ s := by
    intro x hx ⟨y, hy, hn⟩
    obtain ⟨n, hnL, rfl⟩ := List.mem_map.1 hx
    refine key n hnL ?_
    rcases hy with hy | hy
    · exact .inl (needsL_iff.2 ⟨y, hy, hn⟩)
    · exact .inr (needsL_iff.2 ⟨y, hy, hn⟩)
  induction hx with
  | one x y hx hy hn => exact key2 x hx ⟨y, .inl hy, hn⟩
  | more x y hx hy hn ih => exact key2 x hx ⟨y, .inr ih, hn⟩

theorem After14_runs (h : Heap) (hwf : Wf h) (b : Nat) (sv : Value) (L : List NodeR) (w : Value) (l : List Int) (R : RefG h b sv L) (hL : BndG L) (hL2 : L.length < 8796093022208) (hw : Ints h w l) (hl : l.length < 9223372036854775807) :
    Runs M 14 [.pointer (some ⟨b, 0, none⟩), w] h fun r h' => Grow h h' ∧ ∃ s, Asc s ∧ (∀ x, x ∈ s ↔ inG x = true ∧ Hangs (ats L) (need L) l x) ∧ OwnL h h' r 1 3 (s.map encI) := by
  have hl1 := hL.l
  refine Runs.enter h hwf [] [] (blks_nil ..) (fn := Try.f14) (by kernel_rfl) (by kernel_rfl) rfl (by kernel_rfl) ?_
  refine WC.nilOwn 1 3 ?_
  repeat' (first
    | refine WC.seq ?_ | refine WC.region ?_ | refine WC.block ?_ | refine WC.condT rfl ?_ | refine WC.condF rfl ?_ | refine WC.skip ?_ | refine WC.exit ?_ | refine WC.ret ?_ | refine WC.scope ?_
    | (refine WO.isG ?_; refine WO.unwanted rfl rfl ?_)
    | (refine WO.isMove ?_; first | refine WO.move rfl rfl rfl ?_)
    | (refine WO.isPick ?_; first | refine WO.pickT rfl rfl rfl rfl ?_ | refine WO.pickF rfl rfl rfl rfl ?_)
    | (refine WO.isBin ?_; first | (refine WO.lss rfl rfl rfl rfl ?_ ?_ <;> intro hc) | (refine WO.leq rfl rfl rfl rfl ?_ ?_ <;> intro hc) | (refine WO.gtr rfl rfl rfl rfl ?_ ?_ <;> intro hc) | (refine WO.geq rfl rfl rfl rfl ?_ ?_ <;> intro hc) | (refine WO.eql rfl rfl rfl rfl ?_ ?_ <;> intro hc) | (refine WO.neq rfl rfl rfl rfl ?_ ?_ <;> intro hc) | (refine WO.add rfl rfl rfl rfl ?_ ?_ ?_; omega; omega) | (refine WO.sub rfl rfl rfl rfl ?_ ?_ ?_; omega; omega) | (refine WO.rem rfl rfl rfl rfl ?_ ?_; omega))
    | (refine WO.isAssign ?_; first | refine WO.assign rfl rfl rfl ?_)
    | (refine WO.isUn ?_; first | refine WO.notT rfl rfl rfl ?_ | refine WO.notF rfl rfl rfl ?_ | (refine WO.notS rfl rfl rfl ?_ ?_ <;> intro hc) | (refine WO.neg rfl rfl rfl ?_ ?_ ?_; omega; omega))
    | (refine WO.isNil ?_; first | refine WO.nilCheck rfl rfl rfl ?_)
    | refine WO.nil ?_)
  refine WC.loop (α := Value × List Int × Bool) (fun q => [(0, .pointer (some ⟨b, 0, none⟩)), (1, w), (5, q.1), (6, .bool q.2.2)]) (fun q => [.own q.1 1 3 (q.2.1.map encI)]) (fun q => Soh L l q.2.1 ∧ (q.2.2 = false → Shut L l q.2.1 L.length)) (fun q => 2 * (L.length - q.2.1.length) + if q.2.2 then 1 else 0) (.slice none 0 0, [], true) ⟨rfl, rfl, rfl, rfl, trivial⟩ (List.Sublist.refl _) ⟨⟨List.nodup_nil, fun x hx => (List.not_mem_nil hx).elim, fun x hx => (List.not_mem_nil hx).elim⟩, fun e => by cases e⟩ ?_
  rintro ⟨o, s0, more⟩ ⟨hs0, hsh⟩
  dsimp only at *
  have hlen0 := hs0.len
  cases more with
  | false =>
    repeat' (first
    | refine WC.seq ?_ | refine WC.region ?_ | refine WC.block ?_ | refine WC.condT rfl ?_ | refine WC.condF rfl ?_ | refine WC.skip ?_ | refine WC.exit ?_ | refine WC.ret ?_ | refine WC.scope ?_
    | (refine WO.isG ?_; refine WO.unwanted rfl rfl ?_)
    | (refine WO.isMove ?_; first | refine WO.move rfl rfl rfl ?_)
    | (refine WO.isPick ?_; first | refine WO.pickT rfl rfl rfl rfl ?_ | refine WO.pickF rfl rfl rfl rfl ?_)
    | (refine WO.isBin ?_; first | (refine WO.lss rfl rfl rfl rfl ?_ ?_ <;> intro hc) | (refine WO.leq rfl rfl rfl rfl ?_ ?_ <;> intro hc) | (refine WO.gtr rfl rfl rfl rfl ?_ ?_ <;> intro hc) | (refine WO.geq rfl rfl rfl rfl ?_ ?_ <;> intro hc) | (refine WO.eql rfl rfl rfl rfl ?_ ?_ <;> intro hc) | (refine WO.neq rfl rfl rfl rfl ?_ ?_ <;> intro hc) | (refine WO.add rfl rfl rfl rfl ?_ ?_ ?_; omega; omega) | (refine WO.sub rfl rfl rfl rfl ?_ ?_ ?_; omega; omega) | (refine WO.rem rfl rfl rfl rfl ?_ ?_; omega))
    | (refine WO.isAssign ?_; first | refine WO.assign rfl rfl rfl ?_)
    | (refine WO.isCall ?_; first | refine WO.callE (α := Value × List Int) (fun a => a.1) (fun a => [.own a.1 1 3 (a.2.map encI)]) (fun a => Asc a.2 ∧ ∀ x, x ∈ a.2 ↔ x ∈ s0 ∧ inG x = true) (fun h' hh hb => (Rising20_runs h' hh.top o s0 (Ints.own 0 rfl h' hh hb) (by omega)).mono fun v h2 e => ⟨e.1, by obtain ⟨_, R', e1, e2, e3⟩ := e; exact ⟨(v, R'), rfl, ⟨e1, e2⟩, ⟨fun x hx => by rw [List.mem_singleton.1 hx]; exact e3, List.pairwise_singleton _ _⟩⟩⟩) rfl rfl rfl rfl ?_; rintro ⟨v, R'⟩ ⟨ha, hm⟩)
    | (refine WO.isUn ?_; first | refine WO.notT rfl rfl rfl ?_ | refine WO.notF rfl rfl rfl ?_ | (refine WO.notS rfl rfl rfl ?_ ?_ <;> intro hc) | (refine WO.neg rfl rfl rfl ?_ ?_ ?_; omega; omega))
    | (refine WO.isNil ?_; first | refine WO.nilCheck rfl rfl rfl ?_)
    | refine WO.nil ?_)
    refine ⟨_, ⟨_, _, rfl, rfl, rfl⟩, fun h' k bb => ⟨k.pure, R', ha, fun x => ?_, bb.at (i := 0) rfl⟩⟩
    rw [hm x, (hsh rfl).all hs0 x, And.comm]
  | true =>
    repeat' (first
    | refine WC.seq ?_ | refine WC.region ?_ | refine WC.block ?_ | refine WC.condT rfl ?_ | refine WC.condF rfl ?_ | refine WC.skip ?_ | refine WC.exit ?_ | refine WC.ret ?_ | refine WC.scope ?_
    | (refine WO.isG ?_; refine WO.unwanted rfl rfl ?_)
    | (refine WO.isMove ?_; first | refine WO.move rfl rfl rfl ?_)
    | (refine WO.isPick ?_; first | refine WO.pickT rfl rfl rfl rfl ?_ | refine WO.pickF rfl rfl rfl rfl ?_)
    | (refine WO.isBin ?_; first | (refine WO.lss rfl rfl rfl rfl ?_ ?_ <;> intro hc) | (refine WO.leq rfl rfl rfl rfl ?_ ?_ <;> intro hc) | (refine WO.gtr rfl rfl rfl rfl ?_ ?_ <;> intro hc) | (refine WO.geq rfl rfl rfl rfl ?_ ?_ <;> intro hc) | (refine WO.eql rfl rfl rfl rfl ?_ ?_ <;> intro hc) | (refine WO.neq rfl rfl rfl rfl ?_ ?_ <;> intro hc) | (refine WO.add rfl rfl rfl rfl ?_ ?_ ?_; omega; omega) | (refine WO.sub rfl rfl rfl rfl ?_ ?_ ?_; omega; omega) | (refine WO.rem rfl rfl rfl rfl ?_ ?_; omega))
    | (refine WO.isAssign ?_; first | refine WO.assign rfl rfl rfl ?_)
    | (refine WO.isUn ?_; first | refine WO.notT rfl rfl rfl ?_ | refine WO.notF rfl rfl rfl ?_ | (refine WO.notS rfl rfl rfl ?_ ?_ <;> intro hc) | (refine WO.neg rfl rfl rfl ?_ ?_ ?_; omega; omega))
    | (refine WO.isNil ?_; first | refine WO.nilCheck rfl rfl rfl ?_)
    | refine WO.nil ?_)
    refine WC.loop (α := Nat × Value × List Int × Bool) (fun q => [(0, .pointer (some ⟨b, 0, none⟩)), (1, w), (5, q.2.1), (6, .bool q.2.2.2), (7, .int .i64 (q.1 : Int))]) (fun q => [.own q.2.1 1 3 (q.2.2.1.map encI)]) (fun q => q.1 ≤ L.length ∧ Soh L l q.2.2.1 ∧ (q.2.2.2 = false → q.2.2.1 = s0 ∧ Shut L l s0 q.1) ∧ (q.2.2.2 = true → s0.length < q.2.2.1.length)) (fun q => L.length - q.1) (0, o, s0, false) ⟨rfl, rfl, rfl, rfl, rfl, trivial⟩ (List.Sublist.refl _) ⟨Nat.zero_le _, hs0, fun _ => ⟨rfl, fun j hj => by omega⟩, fun e => by cases e⟩ ?_
    rintro ⟨i, o, s, more⟩ ⟨hi, hs, hf, ht⟩
    dsimp only at *
    have hlen := hs.len
    repeat' (first
    | refine WC.seq ?_ | refine WC.region ?_ | refine WC.block ?_ | refine WC.condT rfl ?_ | refine WC.condF rfl ?_ | refine WC.skip ?_ | refine WC.exit ?_ | refine WC.ret ?_ | refine WC.scope ?_
    | (refine WO.isG ?_; refine WO.unwanted rfl rfl ?_)
    | (refine WO.isMove ?_; first | refine WO.move rfl rfl rfl ?_)
    | (refine WO.isPick ?_; first | refine WO.pickT rfl rfl rfl rfl ?_ | refine WO.pickF rfl rfl rfl rfl ?_)
    | (refine WO.isLoad ?_; first | refine WO.ldF (RefG.hld R.base) rfl rfl rfl ?_ | (refine WO.ldF (RefG.hat R.base ?_ ?_) rfl rfl rfl ?_; omega; omega) | (refine WO.ldF (RefG.hav R.base ?_ ?_) rfl rfl rfl ?_; omega; omega))
    | (refine WO.isFA ?_; first | refine WO.fa fa56_0 rfl rfl rfl ?_ | (refine WO.faF (RefG.hfa0 R.base ?_ ?_) rfl rfl rfl ?_; omega; omega) | (refine WO.faF (RefG.hfa1 R.base ?_ ?_) rfl rfl rfl ?_; omega; omega))
    | (refine WO.isBin ?_; first | (refine WO.lss rfl rfl rfl rfl ?_ ?_ <;> intro hc) | (refine WO.leq rfl rfl rfl rfl ?_ ?_ <;> intro hc) | (refine WO.gtr rfl rfl rfl rfl ?_ ?_ <;> intro hc) | (refine WO.geq rfl rfl rfl rfl ?_ ?_ <;> intro hc) | (refine WO.eql rfl rfl rfl rfl ?_ ?_ <;> intro hc) | (refine WO.neq rfl rfl rfl rfl ?_ ?_ <;> intro hc) | (refine WO.add rfl rfl rfl rfl ?_ ?_ ?_; omega; omega) | (refine WO.sub rfl rfl rfl rfl ?_ ?_ ?_; omega; omega) | (refine WO.rem rfl rfl rfl rfl ?_ ?_; omega))
    | (refine WO.isAssign ?_; first | refine WO.assign rfl rfl rfl ?_)
    | (refine WO.isCall ?_; first | refine WO.lenF (RefG.hlen R.base) rfl rfl rfl ?_ | (refine WO.callB (fun h' hh _ => needsOne_runs h' hh.top b sv L _ w l (R.grow hh.pure) hL (SliceL.grow hw hh.pure) hl) rfl rfl rfl rfl ?_ ?_ <;> intro hc1) | (refine WO.callB (fun h' hh hb => needsOne_runs h' hh.top b sv L _ o s (R.grow hh.pure) hL (Ints.own 0 rfl h' hh hb) (by omega)) rfl rfl rfl rfl ?_ ?_ <;> intro hc2) | (refine WO.callB (fun h' hh hb => Has_runs h' hh.top o s _ (Ints.own 0 rfl h' hh hb) (by omega)) rfl rfl rfl rfl ?_ ?_ <;> intro hc3) | (refine WO.appI 1 (m := [_]) (Ints.own (e := 3) 0 rfl) ?_ rfl rfl rfl (fun _ => rfl) rfl ?_; (simp only [List.length_cons, List.length_nil]; omega); intro w'))
    | (refine WO.isUn ?_; first | refine WO.notT rfl rfl rfl ?_ | refine WO.notF rfl rfl rfl ?_ | (refine WO.notS rfl rfl rfl ?_ ?_ <;> intro hc) | (refine WO.neg rfl rfl rfl ?_ ?_ ?_; omega; omega))
    | (refine WO.isIA ?_; first | (refine WO.ixF (RefG.hix R.base ?_ ?_) rfl rfl rfl rfl ?_; omega; omega))
    | (refine WO.isNil ?_; first | refine WO.nilCheck rfl rfl rfl ?_)
    | (refine WO.isLit ?_; first | (refine WO.litI rfl rfl rfl ?_; intro u))
    | refine WO.nil ?_)
    all_goals first
      | (refine ⟨(i + 1, w', s ++ [(gN L (i : Int)).at_], true), ⟨rfl, rfl, rfl, rfl, rfl, trivial⟩, List.Sublist.cons _ (List.Sublist.refl _), ⟨by show i + 1 ≤ L.length; omega, hs.snoc (gN_mem (by omega) (by omega)) (by first | exact .inl hc1 | exact .inr hc2) hc3, (fun e => by cases e), fun _ => ?_⟩, (by show L.length - (i + 1) < L.length - i; omega)⟩
         show s0.length < (s ++ [(gN L (i : Int)).at_]).length
         rw [List.length_append]
         cases more with
         | true => have := ht rfl; omega
         | false => rw [(hf rfl).1]; simp)
      | (refine ⟨(i + 1, o, s, more), ⟨rfl, rfl, rfl, rfl, rfl, trivial⟩, List.Sublist.refl _, ⟨by show i + 1 ≤ L.length; omega, hs, fun e => ⟨(hf e).1, fun j hj hor => ?_⟩, ht⟩, (by show L.length - (i + 1) < L.length - i; omega)⟩
         rcases Nat.lt_or_ge j i with h1 | h1
         · exact (hf e).2 j h1 hor
         · obtain rfl : j = i := by omega
           rw [← (hf e).1] at hor ⊢
           first
             | exact List.contains_iff_mem.1 hc3
             | (rw [hc1, hc2] at hor; rcases hor with hor | hor <;> cases hor))
      | (refine ⟨(o, s, more), ⟨rfl, rfl, rfl, rfl, trivial⟩, List.Sublist.refl _, ⟨hs, fun e => ?_⟩, ?_⟩
         · have e1 := hf e
           rw [show i = L.length from by omega, ← e1.1] at e1
           exact e1.2
         · show 2 * (L.length - s.length) + (if more then 1 else 0) < 2 * (L.length - s0.length) + (if true then 1 else 0)
           cases more with
           | true => have := ht rfl; simp; omega
           | false => rw [(hf rfl).1]; simp)
end Go.Proofs.Ythggbjpanpnlnaa

/- The reference's graph (chapter 20) on the ideal machine: the order. -/
namespace Go.Proofs.Ythggbjpanpnlnaa
open Go Go.Ideal
set_option maxHeartbeats 4000000

/-- What an order of cells comes to. -/
def Ordered (need : Int → Int → Bool) (l : List Int) (a b : List Int) : Prop := ∃ c, Asc c ∧ (∀ x, x ∈ c ↔ x ∈ l ∧ inG x = true) ∧ (a, b) = orderM need c.length c []
theorem asc_len {c l : List Int} (h : Asc c) (hm : ∀ x, x ∈ c ↔ x ∈ l ∧ inG x = true) : c.length ≤ l.length := nodup_len h.nodup (fun x hx => ((hm x).1 hx).1)

theorem Order16_runs (h : Heap) (hwf : Wf h) (b : Nat) (sv : Value) (L : List NodeR) (w : Value) (l : List Int) (R : RefG h b sv L) (hL : BndG L) (hw : Ints h w l) (hl : l.length < 8796093022208) :
    Runs M 16 [.pointer (some ⟨b, 0, none⟩), w] h fun r h' => Grow h h' ∧ ∃ u v x y, r = .tuple #[u, v] ∧ Ordered (need L) l x y ∧ Blks h [] [.own v 1 3 (y.map encI), .own u 1 3 (x.map encI)] h' := by
  have hl1 := hL.l
  refine Runs.enter h hwf [] [] (blks_nil ..) (fn := Try.f16) (by kernel_rfl) (by kernel_rfl) rfl (by kernel_rfl) ?_
  refine WC.nilOwn 1 3 ?_
  repeat' (first
    | refine WC.seq ?_ | refine WC.region ?_ | refine WC.block ?_ | refine WC.condT rfl ?_ | refine WC.condF rfl ?_ | refine WC.skip ?_ | refine WC.exit ?_ | refine WC.ret ?_ | refine WC.scope ?_
    | (refine WO.isG ?_; refine WO.unwanted rfl rfl ?_)
    | (refine WO.isMove ?_; first | refine WO.move rfl rfl rfl ?_)
    | (refine WO.isPick ?_; first | refine WO.pickT rfl rfl rfl rfl ?_ | refine WO.pickF rfl rfl rfl rfl ?_)
    | (refine WO.isBin ?_; first | (refine WO.lss rfl rfl rfl rfl ?_ ?_ <;> intro hc) | (refine WO.leq rfl rfl rfl rfl ?_ ?_ <;> intro hc) | (refine WO.gtr rfl rfl rfl rfl ?_ ?_ <;> intro hc) | (refine WO.geq rfl rfl rfl rfl ?_ ?_ <;> intro hc) | (refine WO.eql rfl rfl rfl rfl ?_ ?_ <;> intro hc) | (refine WO.neq rfl rfl rfl rfl ?_ ?_ <;> intro hc) | (refine WO.add rfl rfl rfl rfl ?_ ?_ ?_; omega; omega) | (refine WO.sub rfl rfl rfl rfl ?_ ?_ ?_; omega; omega) | (refine WO.rem rfl rfl rfl rfl ?_ ?_; omega))
    | (refine WO.isAssign ?_; first | refine WO.assign rfl rfl rfl ?_)
    | (refine WO.isCall ?_; first | refine WO.callE (α := Value × List Int) (fun a => a.1) (fun a => [.own a.1 1 3 (a.2.map encI)]) (fun a => Asc a.2 ∧ ∀ x, x ∈ a.2 ↔ x ∈ l ∧ inG x = true) (fun h' hh hb => (Rising20_runs h' hh.top w l (SliceL.grow hw hh.pure) (by omega)).mono fun v h2 e => ⟨e.1, by obtain ⟨_, R', e1, e2, e3⟩ := e; exact ⟨(v, R'), rfl, ⟨e1, e2⟩, ⟨fun x hx => by rw [List.mem_singleton.1 hx]; exact e3, List.pairwise_singleton _ _⟩⟩⟩) rfl rfl rfl rfl ?_; rintro ⟨cv, c⟩ ⟨hca, hcm⟩)
    | (refine WO.isUn ?_; first | refine WO.notT rfl rfl rfl ?_ | refine WO.notF rfl rfl rfl ?_ | (refine WO.notS rfl rfl rfl ?_ ?_ <;> intro hc) | (refine WO.neg rfl rfl rfl ?_ ?_ ?_; omega; omega))
    | (refine WO.isNil ?_; first | refine WO.nilCheck rfl rfl rfl ?_)
    | refine WO.nil ?_)
  have hcl := asc_len hca hcm
  dsimp only at hcl hca hcm
  refine WC.loop (α := Value × List Int × Value × List Int) (fun q => [(0, .pointer (some ⟨b, 0, none⟩)), (6, q.1), (7, q.2.2.1)]) (fun q => [.own q.1 1 3 (q.2.1.map encI), .own q.2.2.1 1 3 (q.2.2.2.map encI)]) (fun q => q.2.1.length + q.2.2.2.length ≤ c.length ∧ orderM (need L) q.2.1.length q.2.1 q.2.2.2 = orderM (need L) c.length c []) (fun q => q.2.1.length) (cv, c, .slice none 0 0, []) ⟨rfl, rfl, rfl, trivial⟩ (List.Sublist.refl _) ⟨Nat.le_refl _, rfl⟩ ?_
  rintro ⟨lv, left, ov, out⟩ ⟨hlen, hord⟩
  dsimp only at *
  repeat' (first
    | refine WC.seq ?_ | refine WC.region ?_ | refine WC.block ?_ | refine WC.condT rfl ?_ | refine WC.condF rfl ?_ | refine WC.skip ?_ | refine WC.exit ?_ | refine WC.ret ?_ | refine WC.scope ?_
    | (refine WO.isG ?_; refine WO.unwanted rfl rfl ?_)
    | (refine WO.isMove ?_; first | refine WO.move rfl rfl rfl ?_)
    | (refine WO.isPick ?_; first | refine WO.pickT rfl rfl rfl rfl ?_ | refine WO.pickF rfl rfl rfl rfl ?_)
    | (refine WO.isBin ?_; first | (refine WO.lss rfl rfl rfl rfl ?_ ?_ <;> intro hc) | (refine WO.leq rfl rfl rfl rfl ?_ ?_ <;> intro hc) | (refine WO.gtr rfl rfl rfl rfl ?_ ?_ <;> intro hc) | (refine WO.geq rfl rfl rfl rfl ?_ ?_ <;> intro hc) | (refine WO.eql rfl rfl rfl rfl ?_ ?_ <;> intro hc) | (refine WO.neq rfl rfl rfl rfl ?_ ?_ <;> intro hc) | (refine WO.add rfl rfl rfl rfl ?_ ?_ ?_; omega; omega) | (refine WO.sub rfl rfl rfl rfl ?_ ?_ ?_; omega; omega) | (refine WO.rem rfl rfl rfl rfl ?_ ?_; omega))
    | (refine WO.isAssign ?_; first | refine WO.assign rfl rfl rfl ?_)
    | (refine WO.isUn ?_; first | refine WO.notT rfl rfl rfl ?_ | refine WO.notF rfl rfl rfl ?_ | (refine WO.notS rfl rfl rfl ?_ ?_ <;> intro hc) | (refine WO.neg rfl rfl rfl ?_ ?_ ?_; omega; omega))
    | (refine WO.isNil ?_; first | refine WO.nilCheck rfl rfl rfl ?_)
    | refine WO.nil ?_)
  refine WC.loop (α := Nat) (fun k => [(0, .pointer (some ⟨b, 0, none⟩)), (6, lv), (7, ov), (8, .int .i64 (k : Int))]) (fun _ => [.own lv 1 3 (left.map encI), .own ov 1 3 (out.map encI)]) (fun k => k ≤ left.length ∧ ∀ j, j < k → left.any (need L (left.getD j 0)) = true) (fun k => left.length - k) 0 ⟨rfl, rfl, rfl, rfl, trivial⟩ (List.Sublist.refl _) ⟨Nat.zero_le _, fun j hj => by omega⟩ ?_
  rintro k ⟨hk, hlow⟩
  repeat' (first
    | refine WC.drawU (id := 9) hN [0, 1, 2, 3, 5, 6, 7, 8, 4, 9, 10] [(8, [8, 9], false)] [] (by kernel_rfl) (by kernel_rfl) (by kernel_rfl) ?_
    | (refine WO.litE rfl rfl ?_; intro u0)
    | refine WO.nil ⟨⟨⟨[.own lv 1 3 (left.map encI)], St.sliceV sl23 (IntsS.own 0 rfl) rfl rfl rfl rfl (.lo _ (by omega) (by simp only [List.length_map]; omega)), (by
  refine ⟨?_, ?_⟩
  · repeat (first | exact trivial | refine ⟨⟨_, rfl, ?_⟩, ?_⟩ | exact List.nil_sublist _ | exact List.Sublist.refl _ | apply List.Sublist.cons_cons | apply List.Sublist.cons)
  · intro e; first | (cases e; done) | (repeat (first | exact List.nil_sublist _ | exact List.Sublist.refl _ | apply List.Sublist.cons_cons | apply List.Sublist.cons)))⟩, trivial⟩, trivial, ?_⟩
    | refine WC.seq ?_ | refine WC.region ?_ | refine WC.block ?_ | refine WC.condT rfl ?_ | refine WC.condF rfl ?_ | refine WC.skip ?_ | refine WC.exit ?_ | refine WC.ret ?_ | refine WC.scope ?_
    | (refine WO.isG ?_; refine WO.unwanted rfl rfl ?_)
    | (refine WO.isMove ?_; first | refine WO.move rfl rfl rfl ?_)
    | (refine WO.isPick ?_; first | refine WO.pickT rfl rfl rfl rfl ?_ | refine WO.pickF rfl rfl rfl rfl ?_)
    | (refine WO.isLoad ?_; first | (refine WO.ldF (Ints.ld (Ints.own 0 rfl) ?_ ?_) rfl rfl rfl ?_; omega; omega))
    | (refine WO.isBin ?_; first | (refine WO.lss rfl rfl rfl rfl ?_ ?_ <;> intro hc) | (refine WO.leq rfl rfl rfl rfl ?_ ?_ <;> intro hc) | (refine WO.gtr rfl rfl rfl rfl ?_ ?_ <;> intro hc) | (refine WO.geq rfl rfl rfl rfl ?_ ?_ <;> intro hc) | (refine WO.eql rfl rfl rfl rfl ?_ ?_ <;> intro hc) | (refine WO.neq rfl rfl rfl rfl ?_ ?_ <;> intro hc) | (refine WO.add rfl rfl rfl rfl ?_ ?_ ?_; omega; omega) | (refine WO.sub rfl rfl rfl rfl ?_ ?_ ?_; omega; omega) | (refine WO.rem rfl rfl rfl rfl ?_ ?_; omega))
    | (refine WO.isAssign ?_; first | refine WO.assign rfl rfl rfl ?_)
    | (refine WO.isCall ?_; first | refine WO.lenF (Ints.len (Ints.own 0 rfl)) rfl rfl rfl ?_ | (refine WO.callB (fun h' hh hb => needsOne_runs h' hh.top b sv L _ lv left (R.grow hh.pure) hL (Ints.own 0 rfl h' hh hb) (by omega)) rfl rfl rfl rfl ?_ ?_ <;> intro hc1) | (refine WO.appI 2 (m := [_]) (Ints.own (e := 3) 0 rfl) ?_ rfl rfl rfl (fun _ => rfl) rfl ?_; (simp only [List.length_cons, List.length_nil]; omega); intro ov') | (refine WO.appI 0 (l := []) (IntsS.sub (IntsS.own 2 rfl) ?_ ?_) ?_ rfl rfl rfl (fun _ => rfl) rfl ?_; omega; omega; (simp; omega); intro w1) | (refine WO.appI 0 (IntsS.sub (IntsS.own 2 rfl) ?_ ?_) ?_ rfl rfl rfl (fun _ => rfl) rfl ?_; (simp only [List.length_map]; omega); (simp); (simp; omega); intro w3))
    | (refine WO.isUn ?_; first | refine WO.notT rfl rfl rfl ?_ | refine WO.notF rfl rfl rfl ?_ | (refine WO.notS rfl rfl rfl ?_ ?_ <;> intro hc) | (refine WO.neg rfl rfl rfl ?_ ?_ ?_; omega; omega))
    | (refine WO.isIA ?_; first | (refine WO.ixF (Ints.ix (Ints.own 0 rfl) ?_ ?_) rfl rfl rfl rfl ?_; omega; omega))
    | (refine WO.isNil ?_; first | refine WO.nilCheck rfl rfl rfl ?_)
    | (refine WO.isSlice ?_; first | (refine WO.sliceV sl23 (IntsS.own 2 rfl) rfl rfl rfl rfl (.hi _ ?_ ?_) rfl ?_; omega; (simp only [List.length_map]; omega)) | (refine WO.sliceV sl23 (IntsS.own 2 rfl) rfl rfl rfl rfl (.lo _ ?_ ?_) rfl ?_; omega; (simp only [List.length_map]; omega)))
    | (refine WO.isLit ?_; first | (refine WO.litI rfl rfl rfl ?_; intro u1))
    | refine WO.nil ?_)
  · refine ⟨k + 1, ⟨rfl, rfl, rfl, rfl, trivial⟩, List.Sublist.refl _, ⟨by omega, fun j hj => ?_⟩, (by show left.length - (k + 1) < left.length - k; omega)⟩
    rcases Nat.lt_or_ge j k with h1 | h1
    · exact hlow j h1
    · obtain rfl : j = k := by omega
      rw [gI_nat] at hc1
      exact hc1
  · omega
  · rw [gI_nat] at hc1
    have hk2 : k < left.length := by omega
    have he := orderM_some (need := need L) (out := out) hk2 hlow hc1
    have hel : (left.eraseIdx k).length = left.length - 1 := by rw [List.length_eraseIdx, if_pos hk2]
    refine ⟨(w3, left.eraseIdx k, ov', out ++ [left.getD k 0]), ⟨rfl, rfl, rfl, trivial⟩, ?_, ⟨?_, ?_⟩, ?_⟩
    · show List.Sublist [Ent.own w3 1 3 ((left.eraseIdx k).map encI), Ent.own ov' 1 3 ((out ++ [left.getD k 0]).map encI)] _
      have e : left.eraseIdx k = [] ++ List.drop 0 (List.take ((k : Int)).toNat left) ++ List.drop ((k : Int) + 1).toNat (List.take (List.map encI left).length left) := by
        rw [show ((k : Int)).toNat = k from by omega, show ((k : Int) + 1).toNat = k + 1 from by omega, List.length_map, List.take_length, List.nil_append, List.drop_zero, List.eraseIdx_eq_take_drop_succ]
      rw [e, ← gI_nat]
      exact List.Sublist.cons_cons _ (List.Sublist.cons _ (List.Sublist.cons _ (List.Sublist.refl _)))
    · show (left.eraseIdx k).length + (out ++ [left.getD k 0]).length ≤ c.length
      rw [hel, List.length_append]
      simp only [List.length_cons, List.length_nil]
      omega
    · show orderM (need L) (left.eraseIdx k).length (left.eraseIdx k) (out ++ [left.getD k 0]) = _
      rw [← he]; exact hord
    · show (left.eraseIdx k).length < left.length
      omega
  · have hkl : k = left.length := by omega
    subst hkl
    rw [orderM_none hlow] at hord
    refine ⟨_, ⟨_, _, rfl, ⟨_, _, rfl, rfl, rfl⟩, rfl⟩, fun h' kk bb => ⟨kk.pure, ov, lv, out, left, rfl, ⟨c, hca, hcm, hord⟩, bb⟩⟩
  · omega
end Go.Proofs.Ythggbjpanpnlnaa

/- The reference's graph (chapter 20) on the ideal machine: Set. -/
namespace Go.Proofs.Ythggbjpanpnlnaa
open Go Go.Ideal
set_option maxHeartbeats 4000000

theorem elemOf {t e : TypeId} {sz bytes : Nat} (h1 : M.P.underlying t = some (.slice e)) (h2 : (M.P.info? e).map (fun i => (i.size, i.bytes, (i.zero.map fun z => z.cells.size))) = some (sz, bytes, some sz)) (h3 : mapElem M.P e = false) : ElemT M.P t e sz bytes := by
  refine ⟨h1, ?_, h3⟩
  cases hi : M.P.info? e with
  | none => rw [hi] at h2; cases h2
  | some inf =>
    rw [hi] at h2
    simp only [Option.map_some, Option.some.injEq, Prod.mk.injEq] at h2
    obtain ⟨q1, q2, q3⟩ := h2
    cases hz : inf.zero with
    | none => rw [hz] at q3; cases q3
    | some z =>
      rw [hz] at q3
      exact ⟨inf, z, rfl, q1, q2, hz, by simpa using q3⟩
theorem elem54 : ElemT M.P 54 70 2 32 := elemOf Try.underlying54 (by kernel_rfl) (by kernel_rfl)
theorem elem41 : ElemT M.P 41 60 8 48 := elemOf Try.underlying41 (by kernel_rfl) (by kernel_rfl)
theorem elem39 : ElemT M.P 39 52 8 48 := elemOf Try.underlying39 (by kernel_rfl) (by kernel_rfl)
theorem slOf {t e : TypeId} {sz : Nat} (h1 : M.P.underlying t = some (.slice e)) (h2 : (M.P.info? e).map (fun i => i.size) = some sz) (hN : NilSl M.P t) : SlT M.P t sz := by
  cases hi : M.P.info? e with
  | none => rw [hi] at h2; cases h2
  | some inf =>
    rw [hi] at h2
    exact ⟨⟨e, inf, h1, hi, by simpa using h2⟩, hN⟩
theorem sl54 : SlT M.P 54 2 := slOf Try.underlying54 (by kernel_rfl) ⟨by kernel_rfl, by kernel_rfl, by kernel_rfl⟩
theorem litN (h : Heap) (x : Int) (v : Value) : iBuildSlice M.P 54 1 [(0, .agg #[.int .i64 x, v])] h = some (.slice (some ⟨h.n, 0, some 0⟩) 1 1, h.push (.cells [.int .i64 x, v] 70 false)) := by kernel_rfl
theorem litN0 (h : Heap)  : iBuildSlice M.P 54 0 [] h = some (.slice (some ⟨h.n, 0, some 0⟩) 0 0, h.push (.cells [] 70 false)) := by kernel_rfl
theorem litA0 (h : Heap)  : iBuildSlice M.P 41 0 [] h = some (.slice (some ⟨h.n, 0, some 0⟩) 0 0, h.push (.cells [] 60 false)) := by kernel_rfl
theorem litNF (x : Int) (v : Value) : LitF M 54 1 [(0, .agg #[.int .i64 x, v])] 2 70 [[.int .i64 x, v]] := ⟨fun h => litN h x v, fun cs hcs => by rw [List.mem_singleton.1 hcs]; rfl⟩
theorem litN0F : LitF M 54 0 [] 2 70 [] := ⟨litN0, fun cs hcs => nomatch hcs⟩
theorem litA0F : LitF M 41 0 [] 8 60 [] := ⟨litA0, fun cs hcs => nomatch hcs⟩
theorem build70 (a : Int) (s : Option Addr) (n c : Nat) : iBuild M.P 70 [(0, .int .i64 a), (1, .slice s n c)] = some (.agg #[.int .i64 a, .slice s n c]) := by kernel_rfl

theorem build70F (a : Int) (s : Option Addr) (n c : Nat) : BuildF M 70 [(0, .int .i64 a), (1, .slice s n c)] (.agg #[.int .i64 a, .slice s n c]) := ⟨build70 a s n c⟩
theorem encA_len (l : List AreaR) : ∀ cs ∈ l.map encA, cs.length = 8 := fun cs h => by obtain ⟨a, _, rfl⟩ := List.mem_map.1 h; rfl
theorem encA_one (l : List AreaR) : ∀ cs ∈ l.map encA, cs.all oneC = true := fun cs h => by obtain ⟨a, _, rfl⟩ := List.mem_map.1 h; rfl
theorem encN_len (l : List NodeR) : ∀ cs ∈ l.map encN, cs.length = 2 := fun cs h => by obtain ⟨a, _, rfl⟩ := List.mem_map.1 h; rfl
theorem encN_one {l : List NodeR} (hl : ∀ n ∈ l, oneC n.av = true) : ∀ cs ∈ l.map encN, cs.all oneC = true := fun cs h => by
  obtain ⟨a, ha, rfl⟩ := List.mem_map.1 h
  show (true && (oneC a.av && true)) = true
  rw [hl a ha]; rfl

section
variable {N : Nat} {B : Heap} {Mu : List Nat} {U : Hist} {ops : Array Oper} {rest : List Oper} {ρ : Regs} {H : List Ent} {K : Hist → Regs → List Ent → Prop} {dst : Option Tmp} {ty : TypeId} {pos : String} {af : Array Edge} {gd : Option (Nat × Bool)} {args : Array Operand} {s x : Value} {H' : Value → List Ent} {K' : Hist → Regs → List Ent → Prop}
theorem _root_.Go.Ideal.WO.know {X : Mach} {l : List Oper} {P : Prop} (hp : Has B Mu H fun _ => P) (k : P → WO X N B Mu U ops l ρ H K') : WO X N B Mu U ops l ρ H K' := .mk fun t h hk hh hb => (k (hp h hh hb)).go t h hk hh hb
theorem WO.appN (k0 : Nat) {l m : List NodeR} (hx : Has B Mu H fun h => SliceS M.P h x 2 (m.map encN)) (ho : ∀ n ∈ m, oneC n.av = true) (hb : l.length + m.length ≤ 4398046511104) (hw : iwR ops gd ρ = some true) (ha : evL ρ args.toList = some [s, x]) (hk : H[k0]? = some (.own s 2 70 (l.map encN))) (hH : ∀ v, H.set k0 (.own v 2 70 ((l ++ m).map encN)) = H' v) (hd : dOK N dst = true)
    (k : ∀ v, WO M N B Mu (some H :: U) ops rest (putR dst v ρ) (H' v) K) : WO M N B Mu U ops (⟨dst, .call { callee := .builtin .append, args := args, argTypes := #[54, 54] }, ty, pos, af, gd⟩ :: rest) ρ H K := by
  refine WO.append k0 hw ha hk elem54 Try.underlying54 (fun h hh hb => (hx h hh hb).sl) (encN_len m) (encN_one ho) ?_ ?_ (fun v => ?_) hd k
  · rw [List.length_map, List.length_map]; omega
  · rw [List.length_map, List.length_map]; omega
  · rw [← hH v, List.map_append]
theorem WO.appA (k0 : Nat) {l m : List AreaR} {st et : TypeId} (hE : ElemT M.P st et 8 48) (hx : Has B Mu H fun h => Areas h x m) (hb : l.length + m.length ≤ 2199023255552) (hw : iwR ops gd ρ = some true) (ha : evL ρ args.toList = some [s, x]) (hk : H[k0]? = some (.own s 8 et (l.map encA))) (hH : ∀ v, H.set k0 (.own v 8 et ((l ++ m).map encA)) = H' v) (hd : dOK N dst = true)
    (k : ∀ a n c, WO M N B Mu (some H :: U) ops rest (putR dst (.slice a n c) ρ) (H' (.slice a n c)) K) : WO M N B Mu U ops (⟨dst, .call { callee := .builtin .append, args := args, argTypes := #[st, st] }, ty, pos, af, gd⟩ :: rest) ρ H K := by
  refine WO.append (H' := H') k0 hw ha hk hE hE.slice (fun h hh hb => (hx h hh hb).sl) (encA_len m) (encA_one m) ?_ ?_ (fun v => ?_) hd (fun v => ?_)
  · rw [List.length_map, List.length_map]; omega
  · rw [List.length_map, List.length_map]; omega
  · rw [← hH v, List.map_append]
  · have hlt : k0 < H.length := by
      rcases Nat.lt_or_ge k0 H.length with h' | h'
      · exact h'
      · rw [List.getElem?_eq_none h'] at hk; cases hk
    have hk' : (H' v)[k0]? = some (.own v 8 et ((l ++ m).map encA)) := by rw [← hH v, List.getElem?_set, if_pos rfl, if_pos hlt]
    refine WO.know (P := ∃ a n c, v = .slice a n c) (fun h hh hb => (OwnL.slice (hb.at hk')).shape) ?_
    rintro ⟨a, n, c, rfl⟩
    exact k a n c
end

/-- A slice of nodes. -/
def Nodes (h : Heap) (v : Value) (L : List NodeR) : Prop := SliceS M.P h v 2 (L.map encN)
section
variable {B : Heap} {Mu : List Nat} {H : List Ent} {sv : Value} {L : List NodeR} {i : Int}
theorem Nodes.len (R : Has B Mu H fun h => Nodes h sv L) : LenF M B Mu H 54 sv L.length := .mk fun ty h hh hb => by
  have := SliceL.len (P := M.P) (t := 54) (ty := ty) (e := 70) (R h hh hb).sl Try.underlying54
  simpa using this
theorem Nodes.ix (R : Has B Mu H fun h => Nodes h sv L) (h0 : 0 ≤ i) (h1 : i < L.length) : IxF M B Mu H 54 sv i (slq sv 2 i 0) := .mk fun h hh hb => by
  obtain ⟨d, inf, _, _, h2, h3⟩ := t70.h
  exact SliceL.ix (P := M.P) (R h hh hb).sl Try.underlying54 h2 h3 h0 (by simpa using h1)
theorem Nodes.fa0 (R : Has B Mu H fun h => Nodes h sv L) (h0 : 0 ≤ i) (h1 : i < L.length) : FaF M B Mu H 70 (slq sv 2 i 0) 0 (slq sv 2 i 0) := .mk fun h hh hb => SliceL.fa (R h hh hb).sl h0 (by simpa using h1) fa70_0
theorem Nodes.at (R : Has B Mu H fun h => Nodes h sv L) (h0 : 0 ≤ i) (h1 : i < L.length) : LdF M B Mu H 3 (slq sv 2 i 0) (.int .i64 (gN L i).at_) := .mk fun h hh hb => by
  obtain ⟨d, inf, q1, q2, q3, q4⟩ := t3.h
  exact SliceL.ld1 (P := M.P) (R h hh hb).sl h0 (gN_get h0 h1) q1 q2 rfl
theorem Nodes.node (R : Has B Mu H fun h => Nodes h sv L) (h0 : 0 ≤ i) (h1 : i < L.length) : LdF M B Mu H 70 (slq sv 2 i 0) (.agg (encN (gN L i)).toArray) := .mk fun h hh hb => by
  obtain ⟨d, inf, q1, q2, q3, q4⟩ := t70.h
  exact SliceL.ldA (P := M.P) (cs := encN (gN L i)) (R h hh hb).sl h0 (gN_get h0 h1) q1 q2 q3 q4 (by omega)
end
theorem Nodes.own {B : Heap} {Mu : List Nat} {H : List Ent} {v : Value} {l : List NodeR} (k0 : Nat) (hk : H[k0]? = some (.own v 2 70 (l.map encN))) : Has B Mu H fun h => Nodes h v l := fun h hh hb => OwnL.sliceS elem54 (hb.at hk)
theorem Nodes.sub {B : Heap} {Mu : List Nat} {H : List Ent} {v : Value} {l : List NodeR} {a b : Nat} (s : Has B Mu H fun h => Nodes h v l) (h1 : a ≤ b) (h2 : b ≤ l.length) : Has B Mu H fun h => Nodes h (slV v 2 a b) ((l.take b).drop a) := fun h hh hb => by
  have := SliceS.sub (s h hh hb) h1 (by simpa using h2)
  rw [← List.map_take, ← List.map_drop] at this
  exact this

structure SRef (h : Heap) (b : Nat) (sv : Value) (L : List NodeR) : Prop where
  rg : RefG h b sv L
  d1 : blkOf sv ≠ some b
  d2 : ∀ n ∈ L, blkOf n.av ≠ some b
def FRef (b : Nat) (sv : Value) (L : List NodeR) (c : Nat) : Prop := c = b ∨ blkOf sv = some c ∨ ∃ n ∈ L, blkOf n.av = some c

abbrev Mod := List (Int × List AreaR)
def absN (L : List NodeR) : Mod := L.map fun n => (n.at_, n.ar)
def okA (a : AreaR) : Bool := okArea a.ac a.ar a.bc a.br a.p a.q a.s a.t
def leftM (m : Mod) (x : Int) : Mod := m.filter fun p => p.1 != x
def errM (m : Mod) (x : Int) (l : List AreaR) : Int := if inG x = false then 14 else if l.all okA = false then 1 else if 500 < l.length ∨ 2000 ≤ (leftM m x).length ∧ 0 < l.length then 5 else 0
def insM (m : Mod) (x : Int) (l : List AreaR) : Mod := m.takeWhile (fun p => decide (p.1 < x)) ++ [(x, l)] ++ m.dropWhile (fun p => decide (p.1 < x))
def setM (m : Mod) (x : Int) (l : List AreaR) : Mod := if errM m x l = 0 then (if l.length = 0 then leftM m x else insM (leftM m x) x l) else m

theorem errM_14 {m : Mod} {x : Int} {l : List AreaR} (h : inG x = false) : errM m x l = 14 := if_pos h
theorem errM_1 {m : Mod} {x : Int} {l : List AreaR} (h : inG x = true) (h2 : l.all okA = false) : errM m x l = 1 := by
  unfold errM; rw [if_neg (by rw [h]; decide), if_pos h2]
theorem errM_5 {m : Mod} {x : Int} {l : List AreaR} (h : inG x = true) (h2 : l.all okA = true) (h3 : 500 < l.length ∨ 2000 ≤ (leftM m x).length ∧ 0 < l.length) : errM m x l = 5 := by
  unfold errM; rw [if_neg (by rw [h]; decide), if_neg (by rw [h2]; decide), if_pos h3]
theorem errM_0 {m : Mod} {x : Int} {l : List AreaR} (h : inG x = true) (h2 : l.all okA = true) (h3 : ¬ (500 < l.length ∨ 2000 ≤ (leftM m x).length ∧ 0 < l.length)) : errM m x l = 0 := by
  unfold errM; rw [if_neg (by rw [h]; decide), if_neg (by rw [h2]; decide), if_neg h3]
theorem setM_bad {m : Mod} {x : Int} {l : List AreaR} (h : errM m x l ≠ 0) : setM m x l = m := if_neg h
theorem all_step {l : List AreaR} {i : Nat} (h : i < l.length) : (l.drop i).all okA = (okA (gA l (i : Int)) && (l.drop (i + 1)).all okA) := by
  unfold gA
  rw [show ((i : Int)).toNat = i from by omega, List.getD_eq_getElem?_getD, List.getElem?_eq_getElem h, List.drop_eq_getElem_cons h, List.all_cons]
  rfl
def leftN (L : List NodeR) (x : Int) : List NodeR := L.filter fun n => n.at_ != x
theorem leftN_abs (L : List NodeR) (x : Int) : absN (leftN L x) = leftM (absN L) x := by
  unfold absN leftN leftM
  rw [List.filter_map]
  rfl
theorem leftN_step {L : List NodeR} {i : Nat} (x : Int) (h : i < L.length) : leftN (L.take (i + 1)) x = leftN (L.take i) x ++ if (gN L (i : Int)).at_ != x then [gN L (i : Int)] else [] := by
  unfold leftN gN
  rw [List.take_add_one, List.filter_append, show ((i : Int)).toNat = i from by omega, List.getElem?_eq_getElem h, List.getD_eq_getElem?_getD, List.getElem?_eq_getElem h]
  simp only [Option.toList_some, Option.getD_some]
  cases hn : (L[i].at_ != x) <;> simp [hn]
theorem leftN_len {L : List NodeR} {i : Nat} {x : Int} : (leftN (L.take i) x).length ≤ L.length := by
  have h1 := List.length_filter_le (fun n : NodeR => n.at_ != x) (L.take i)
  have h2 : (L.take i).length ≤ L.length := by rw [List.length_take]; omega
  unfold leftN
  omega
theorem takeWhile_at {α : Type} {p : α → Bool} : ∀ {m : List α} {k : Nat}, k ≤ m.length → (∀ j (h : j < m.length), j < k → p m[j] = true) → (∀ h : k < m.length, p m[k] = false) → m.takeWhile p = m.take k ∧ m.dropWhile p = m.drop k
  | [], k, hk, _, _ => by simp
  | a :: m, 0, _, _, h2 => by
    have := h2 (by simp)
    simp only [List.getElem_cons_zero] at this
    simp [List.takeWhile_cons, List.dropWhile_cons, this]
  | a :: m, k + 1, hk, h1, h2 => by
    have h0 := h1 0 (by simp) (by omega)
    simp only [List.getElem_cons_zero] at h0
    obtain ⟨e1, e2⟩ := takeWhile_at (m := m) (k := k) (by simpa using hk) (fun j h hj => by have := h1 (j + 1) (by simpa using h) (by omega); simpa using this) (fun h => by have := h2 (by simpa using h); simpa using this)
    simp [List.takeWhile_cons, List.dropWhile_cons, h0, e1, e2]
theorem gN_elem {m : List NodeR} {j : Nat} (h : j < m.length) : gN m (j : Int) = m[j] := by
  unfold gN
  rw [show ((j : Int)).toNat = j from by omega, List.getD_eq_getElem?_getD, List.getElem?_eq_getElem h]; rfl
theorem while_at {m : List NodeR} {k : Nat} {x : Int} {v : Value} {l : List AreaR} (hk : k ≤ m.length) (h1 : ∀ j, j < k → (gN m (j : Int)).at_ < x) (h2 : k = m.length ∨ ¬ (gN m (k : Int)).at_ < x) :
    absN (m.take k ++ [⟨x, v, l⟩] ++ m.drop k) = insM (absN m) x l := by
  have hlen : (absN m).length = m.length := List.length_map _
  obtain ⟨e1, e2⟩ := takeWhile_at (p := fun p : Int × List AreaR => decide (p.1 < x)) (m := absN m) (k := k) (by omega) (fun j h hj => by
      have := h1 j hj
      rw [gN_elem (by omega)] at this
      simp only [absN, List.getElem_map]
      exact decide_eq_true this) (fun h => by
      rcases h2 with h2 | h2
      · omega
      · rw [gN_elem (by omega)] at h2
        simp only [absN, List.getElem_map]
        exact decide_eq_false h2)
  unfold insM
  rw [e1, e2]
  simp only [absN, List.map_append, List.map_take, List.map_drop, List.map_cons, List.map_nil]

theorem Set32_runs (h : Heap) (hwf : Wf h) (b : Nat) (sv : Value) (L : List NodeR) (x : Int) (w : Value) (l : List AreaR) (R : SRef h b sv L) (hL : L.length ≤ 1000000) (hw : Areas h w l) (hwb : blkOf w ≠ some b) (hl : l.length ≤ 1000000) :
    Runs M 32 [.pointer (some ⟨b, 0, none⟩), .int .i64 x, w] h fun v h' => h.n ≤ h'.n ∧ Wf h' ∧ (∀ c, c < h.n → c ≠ b → h'.get c = h.get c) ∧ v = .int .i64 (errM (absN L) x l) ∧
      ∃ sv' L', SRef h' b sv' L' ∧ absN L' = setM (absN L) x l ∧ ∀ c, FRef b sv' L' c → FRef b sv L c ∨ (h.n ≤ c ∧ c < h'.n) := by
  have hb := R.rg.1
  have old : ∀ {k : Heap}, Kept h [b] k → ∀ {c : Nat}, c < h.n → c ≠ b → k.get c = h.get c := fun kk c hc hne => kk.old c hc (by simpa using hne)
  have keepA : ∀ {H : List Ent} {v : Value} {l : List AreaR}, Areas h v l → blkOf v ≠ some b → Has h [b] H fun k => Areas k v l := fun hs hv k kk _ => SliceS.keep hs kk.n (fun c hc => old kk (hs.sl.blk_lt hc) (fun e => hv (e ▸ hc)))
  have hS : ∀ {H : List Ent}, Has h [b] H fun k => Nodes k sv L := fun k kk _ => SliceS.keep R.rg.2.2.1 kk.n (fun c hc => old kk (R.rg.2.2.1.sl.blk_lt hc) (fun e => R.d1 (e ▸ hc)))
  have hW : ∀ {H : List Ent}, Has h [b] H fun k => Areas k w l := keepA hw hwb
  -- nothing is changed
  have same : ∀ {k : Heap}, Kept h [b] k → k.get b = h.get b → SRef k b sv L := fun kk e =>
    ⟨⟨Nat.lt_of_lt_of_le hb kk.n, e.trans R.rg.2.1, hS _ kk (blks_nil ..), fun n hn => keepA (R.rg.2.2.2 n hn) (R.d2 n hn) _ kk (blks_nil ..)⟩, R.d1, R.d2⟩
  have one : ∀ n ∈ L, oneC n.av = true := fun n hn => (R.rg.2.2.2 n hn).sl.oneC
  have fin : ∀ {h' : Heap} {o' : Value} {L' : List NodeR}, Kept h [b] h' → OwnL h h' o' 2 70 (L'.map encN) → h'.get b = some (.cells [o'] 56 false) → (∀ n ∈ L', n ∈ L ∨ (Areas h' n.av n.ar ∧ ∀ c, blkOf n.av = some c → h.n ≤ c)) →
      SRef h' b o' L' ∧ ∀ c, FRef b o' L' c → FRef b sv L c ∨ (h.n ≤ c ∧ c < h'.n) := by
    intro h' o' L' kk ho hg hn
    refine ⟨⟨⟨Nat.lt_of_lt_of_le hb kk.n, hg, OwnL.sliceS elem54 ho, fun n hm => ?_⟩, fun e => ?_, fun n hm e => ?_⟩, fun c hc => ?_⟩
    · rcases hn n hm with h1 | ⟨h1, _⟩
      · exact keepA (R.rg.2.2.2 n h1) (R.d2 n h1) _ kk (blks_nil ..)
      · exact h1
    · have := ho.blk_ge e; omega
    · rcases hn n hm with h1 | ⟨_, h1⟩
      · exact R.d2 n h1 e
      · have := h1 b e; omega
    · rcases hc with rfl | hc | ⟨n, hm, hc⟩
      · exact .inl (.inl rfl)
      · exact .inr ⟨ho.blk_ge hc, ho.slice.blk_lt hc⟩
      · rcases hn n hm with h1 | ⟨h1, h2⟩
        · exact .inl (.inr (.inr ⟨n, h1, hc⟩))
        · exact .inr ⟨h2 c hc, h1.sl.blk_lt hc⟩
  refine Runs.enter h hwf [b] [.blk b (.cells [sv] 56 false)] ⟨fun y hy => by rw [List.mem_singleton.1 hy]; exact ⟨hb, R.rg.2.1, .inr (by simp)⟩, List.pairwise_singleton _ _⟩ (fn := Try.f32) (by kernel_rfl) (by kernel_rfl) rfl (by kernel_rfl) ?_
  repeat' (first
    | refine WC.seq ?_ | refine WC.region ?_ | refine WC.block ?_ | refine WC.condT rfl ?_ | refine WC.condF rfl ?_ | refine WC.skip ?_ | refine WC.exit ?_ | refine WC.ret ?_ | refine WC.scope ?_
    | (refine WO.isG ?_; refine WO.unwanted rfl rfl ?_)
    | (refine WO.isMove ?_; first | refine WO.move rfl rfl rfl ?_)
    | (refine WO.isPick ?_; first | refine WO.pickT rfl rfl rfl rfl ?_ | refine WO.pickF rfl rfl rfl rfl ?_)
    | (refine WO.isBin ?_; first | (refine WO.lss rfl rfl rfl rfl ?_ ?_ <;> intro hc) | (refine WO.leq rfl rfl rfl rfl ?_ ?_ <;> intro hc) | (refine WO.gtr rfl rfl rfl rfl ?_ ?_ <;> intro hc) | (refine WO.geq rfl rfl rfl rfl ?_ ?_ <;> intro hc) | (refine WO.eql rfl rfl rfl rfl ?_ ?_ <;> intro hc) | (refine WO.neq rfl rfl rfl rfl ?_ ?_ <;> intro hc) | (refine WO.add rfl rfl rfl rfl ?_ ?_ ?_; omega; omega) | (refine WO.sub rfl rfl rfl rfl ?_ ?_ ?_; omega; omega) | (refine WO.rem rfl rfl rfl rfl ?_ ?_; omega))
    | (refine WO.isAssign ?_; first | refine WO.assign rfl rfl rfl ?_)
    | (refine WO.isCall ?_; first | refine WO.callV (fun h' hh _ => cell44_runs h' hh.top _) rfl rfl rfl rfl ?_)
    | (refine WO.isUn ?_; first | refine WO.notT rfl rfl rfl ?_ | refine WO.notF rfl rfl rfl ?_ | (refine WO.notS rfl rfl rfl ?_ ?_ <;> intro hc) | (refine WO.neg rfl rfl rfl ?_ ?_ ?_; omega; omega))
    | (refine WO.isNil ?_; first | refine WO.nilCheck rfl rfl rfl ?_)
    | refine WO.nil ?_)
  · have hg := hc
    refine ⟨_, ⟨_, _, rfl, rfl, rfl⟩, fun h' k bb => ⟨k.n, k.top, fun c hc hne => old k hc hne, ?_, sv, L, same k ((bb.at (i := 0) rfl).2.1.trans R.rg.2.1.symm), ?_, fun c hc => .inl hc⟩⟩
    · rw [errM_14 hg]; rfl
    · rw [setM_bad (by rw [errM_14 hg]; decide)]
  · have hg := hc
    refine WC.loop (α := Nat) (fun i => [(0, .pointer (some ⟨b, 0, none⟩)), (1, .int .i64 x), (2, w), (8, .int .i64 (i : Int))]) (fun _ => [.blk b (.cells [sv] 56 false)]) (fun i => i ≤ l.length ∧ l.all okA = (l.drop i).all okA) (fun i => l.length - i) 0 ⟨rfl, rfl, rfl, rfl, trivial⟩ (List.Sublist.refl _) ⟨Nat.zero_le _, rfl⟩ ?_
    rintro i ⟨hi, hok⟩
    repeat' (first
    | refine WC.seq ?_ | refine WC.region ?_ | refine WC.block ?_ | refine WC.condT rfl ?_ | refine WC.condF rfl ?_ | refine WC.skip ?_ | refine WC.exit ?_ | refine WC.ret ?_ | refine WC.scope ?_
    | (refine WO.isG ?_; refine WO.unwanted rfl rfl ?_)
    | (refine WO.isMove ?_; first | refine WO.move rfl rfl rfl ?_)
    | (refine WO.isPick ?_; first | refine WO.pickT rfl rfl rfl rfl ?_ | refine WO.pickF rfl rfl rfl rfl ?_)
    | (refine WO.isLoad ?_; first | (refine WO.ldF (Areas.lda hW ?_ ?_) rfl rfl rfl ?_; omega; omega) | (refine WO.ldF (Areas.ldb hW ?_ ?_) rfl rfl rfl ?_; omega; omega) | (refine WO.ldF (Areas.ldw' aty41 hW ?_ ?_) rfl rfl rfl ?_; omega; omega))
    | (refine WO.isFA ?_; first | (refine WO.faF (Areas.fa0' aty41 hW ?_ ?_) rfl rfl rfl ?_; omega; omega) | (refine WO.faF (Areas.fa1' aty41 hW ?_ ?_) rfl rfl rfl ?_; omega; omega))
    | (refine WO.isBin ?_; first | (refine WO.lss rfl rfl rfl rfl ?_ ?_ <;> intro hc) | (refine WO.leq rfl rfl rfl rfl ?_ ?_ <;> intro hc) | (refine WO.gtr rfl rfl rfl rfl ?_ ?_ <;> intro hc) | (refine WO.geq rfl rfl rfl rfl ?_ ?_ <;> intro hc) | (refine WO.eql rfl rfl rfl rfl ?_ ?_ <;> intro hc) | (refine WO.neq rfl rfl rfl rfl ?_ ?_ <;> intro hc) | (refine WO.add rfl rfl rfl rfl ?_ ?_ ?_; omega; omega) | (refine WO.sub rfl rfl rfl rfl ?_ ?_ ?_; omega; omega) | (refine WO.rem rfl rfl rfl rfl ?_ ?_; omega))
    | (refine WO.isAssign ?_; first | refine WO.assign rfl rfl rfl ?_)
    | (refine WO.isCall ?_; first | refine WO.lenF (Areas.len' aty41 hW) rfl rfl rfl ?_ | (refine WO.callB (fun h' hh _ => area55_runs h' hh.top _ _ _ _ _ _ _ _) rfl rfl rfl rfl ?_ ?_ <;> intro hc1))
    | (refine WO.isUn ?_; first | refine WO.notT rfl rfl rfl ?_ | refine WO.notF rfl rfl rfl ?_ | (refine WO.notS rfl rfl rfl ?_ ?_ <;> intro hc) | (refine WO.neg rfl rfl rfl ?_ ?_ ?_; omega; omega))
    | (refine WO.isIA ?_; first | (refine WO.ixF (Areas.ix' aty41 hW ?_ ?_) rfl rfl rfl rfl ?_; omega; omega))
    | (refine WO.isNil ?_; first | refine WO.nilCheck rfl rfl rfl ?_)
    | refine WO.nil ?_)
    · refine ⟨i + 1, ⟨rfl, rfl, rfl, rfl, trivial⟩, List.Sublist.refl _, ⟨by omega, ?_⟩, (by show l.length - (i + 1) < l.length - i; omega)⟩
      rw [hok, all_step (by omega), show okA (gA l (i : Int)) = true from hc1, Bool.true_and]
    · have hbad : l.all okA = false := by rw [hok, all_step (by omega), show okA (gA l (i : Int)) = false from hc1, Bool.false_and]
      refine ⟨_, ⟨_, _, rfl, rfl, rfl⟩, fun h' k bb => ⟨k.n, k.top, fun c hc hne => old k hc hne, ?_, sv, L, same k ((bb.at (i := 0) rfl).2.1.trans R.rg.2.1.symm), ?_, fun c hc => .inl hc⟩⟩
      · rw [errM_1 hg hbad]; rfl
      · rw [setM_bad (by rw [errM_1 hg hbad]; decide)]
    · have hgood : l.all okA = true := by rw [hok, List.drop_of_length_le (by omega)]; rfl
      clear hok
      refine WC.nilOwn 2 70 ?_
      refine WC.loop (α := Nat × Value) (fun q => [(0, .pointer (some ⟨b, 0, none⟩)), (1, .int .i64 x), (2, w), (10, q.2), (11, .int .i64 (q.1 : Int))]) (fun q => [.own q.2 2 70 ((leftN (L.take q.1) x).map encN), .blk b (.cells [sv] 56 false)]) (fun q => q.1 ≤ L.length) (fun q => L.length - q.1) (0, .slice none 0 0) ⟨rfl, rfl, rfl, rfl, rfl, trivial⟩ (List.Sublist.refl _) (Nat.zero_le _) ?_
      clear hi hc i
      rintro ⟨i, o⟩ hi
      dsimp only at hi ⊢
      have hll := @leftN_len L i x
      repeat' (first
    | refine WC.seq ?_ | refine WC.region ?_ | refine WC.block ?_ | refine WC.condT rfl ?_ | refine WC.condF rfl ?_ | refine WC.skip ?_ | refine WC.exit ?_ | refine WC.ret ?_ | refine WC.scope ?_
    | (refine WO.isG ?_; refine WO.unwanted rfl rfl ?_)
    | (refine WO.isMove ?_; first | refine WO.move rfl rfl rfl ?_)
    | (refine WO.isPick ?_; first | refine WO.pickT rfl rfl rfl rfl ?_ | refine WO.pickF rfl rfl rfl rfl ?_)
    | (refine WO.isLoad ?_; first | (refine WO.ldF (Nodes.at hS ?_ ?_) rfl rfl rfl ?_; omega; omega) | (refine WO.ldF (Nodes.node hS ?_ ?_) rfl rfl rfl ?_; omega; omega) | refine WO.ld 1 t54 rfl rfl rfl rfl rfl ?_)
    | (refine WO.isFA ?_; first | (refine WO.faF (Nodes.fa0 hS ?_ ?_) rfl rfl rfl ?_; omega; omega) | refine WO.fa fa56_0 rfl rfl rfl ?_)
    | (refine WO.isBin ?_; first | (refine WO.lss rfl rfl rfl rfl ?_ ?_ <;> intro hc) | (refine WO.leq rfl rfl rfl rfl ?_ ?_ <;> intro hc) | (refine WO.gtr rfl rfl rfl rfl ?_ ?_ <;> intro hc) | (refine WO.geq rfl rfl rfl rfl ?_ ?_ <;> intro hc) | (refine WO.eql rfl rfl rfl rfl ?_ ?_ <;> intro hc) | (refine WO.neq rfl rfl rfl rfl ?_ ?_ <;> intro hc) | (refine WO.add rfl rfl rfl rfl ?_ ?_ ?_; omega; omega) | (refine WO.sub rfl rfl rfl rfl ?_ ?_ ?_; omega; omega) | (refine WO.rem rfl rfl rfl rfl ?_ ?_; omega))
    | (refine WO.isAssign ?_; first | refine WO.assign rfl rfl rfl ?_)
    | (refine WO.isCall ?_; first | refine WO.lenF (Nodes.len hS) rfl rfl rfl ?_ | (refine WO.appN 1 (m := [gN L (i : Int)]) (Nodes.own 0 rfl) ?_ ?_ rfl rfl rfl (fun _ => rfl) rfl ?_; exact (fun n hn => (by rw [List.mem_singleton.1 hn]; exact one _ (gN_mem (by omega) (by omega)))); (simp only [List.length_cons, List.length_nil]; omega); intro o'))
    | (refine WO.isUn ?_; first | refine WO.notT rfl rfl rfl ?_ | refine WO.notF rfl rfl rfl ?_ | (refine WO.notS rfl rfl rfl ?_ ?_ <;> intro hc) | (refine WO.neg rfl rfl rfl ?_ ?_ ?_; omega; omega))
    | (refine WO.isIA ?_; first | (refine WO.ixF (Nodes.ix hS ?_ ?_) rfl rfl rfl rfl ?_; omega; omega))
    | (refine WO.isNil ?_; first | refine WO.nilCheck rfl rfl rfl ?_)
    | (refine WO.isLit ?_; first | (refine WO.litB (litNF (gN L (i : Int)).at_ (gN L (i : Int)).av) rfl rfl rfl ?_; intro u))
    | refine WO.nil ?_)
      · refine ⟨(i + 1, o'), ⟨rfl, rfl, rfl, rfl, rfl, trivial⟩, ?_, (by show i + 1 ≤ L.length; omega), (by show L.length - (i + 1) < L.length - i; omega)⟩
        show List.Sublist [Ent.own o' 2 70 ((leftN (L.take (i + 1)) x).map encN), _] _
        rw [leftN_step x (by omega), if_pos (by simpa using hc)]
        exact List.Sublist.cons _ (List.Sublist.refl _)
      · refine ⟨(i + 1, o), ⟨rfl, rfl, rfl, rfl, rfl, trivial⟩, ?_, (by show i + 1 ≤ L.length; omega), (by show L.length - (i + 1) < L.length - i; omega)⟩
        show List.Sublist [Ent.own o 2 70 ((leftN (L.take (i + 1)) x).map encN), _] _
        rw [leftN_step x (by omega), if_neg (by simpa using hc), List.append_nil]
        exact List.Sublist.refl _
      · have hti : L.take i = L := List.take_of_length_le (by omega)
        have habs : absN (leftN (L.take i) x) = leftM (absN L) x := by rw [hti, leftN_abs]
        have hsub : ∀ n ∈ leftN (L.take i) x, n ∈ L := fun n hn => by rw [hti] at hn; exact (List.mem_filter.1 hn).1
        have hlen : (leftM (absN L) x).length = (leftN (L.take i) x).length := by rw [← habs]; exact List.length_map _
        clear hti hc hi
        generalize hLN : leftN (L.take i) x = LN at *
        clear hLN
        repeat' (first
    | refine WC.seq ?_ | refine WC.region ?_ | refine WC.block ?_ | refine WC.condT rfl ?_ | refine WC.condF rfl ?_ | refine WC.skip ?_ | refine WC.exit ?_ | refine WC.ret ?_ | refine WC.scope ?_
    | (refine WO.isG ?_; refine WO.unwanted rfl rfl ?_)
    | (refine WO.isMove ?_; first | refine WO.move rfl rfl rfl ?_)
    | (refine WO.isPick ?_; first | refine WO.pickT rfl rfl rfl rfl ?_ | refine WO.pickF rfl rfl rfl rfl ?_)
    | (refine WO.isLoad ?_; first | (refine WO.ldF (Areas.lda hW ?_ ?_) rfl rfl rfl ?_; omega; omega) | (refine WO.ldF (Areas.ldb hW ?_ ?_) rfl rfl rfl ?_; omega; omega) | (refine WO.ldF (Areas.ldw' aty41 hW ?_ ?_) rfl rfl rfl ?_; omega; omega))
    | (refine WO.isFA ?_; first | (refine WO.faF (Areas.fa0' aty41 hW ?_ ?_) rfl rfl rfl ?_; omega; omega) | (refine WO.faF (Areas.fa1' aty41 hW ?_ ?_) rfl rfl rfl ?_; omega; omega) | refine WO.fa fa56_0 rfl rfl rfl ?_)
    | (refine WO.isBin ?_; first | (refine WO.lss rfl rfl rfl rfl ?_ ?_ <;> intro hc) | (refine WO.leq rfl rfl rfl rfl ?_ ?_ <;> intro hc) | (refine WO.gtr rfl rfl rfl rfl ?_ ?_ <;> intro hc) | (refine WO.geq rfl rfl rfl rfl ?_ ?_ <;> intro hc) | (refine WO.eql rfl rfl rfl rfl ?_ ?_ <;> intro hc) | (refine WO.neq rfl rfl rfl rfl ?_ ?_ <;> intro hc) | (refine WO.add rfl rfl rfl rfl ?_ ?_ ?_; omega; omega) | (refine WO.sub rfl rfl rfl rfl ?_ ?_ ?_; omega; omega) | (refine WO.rem rfl rfl rfl rfl ?_ ?_; omega))
    | (refine WO.isAssign ?_; first | refine WO.assign rfl rfl rfl ?_)
    | (refine WO.isCall ?_; first | refine WO.lenF (Areas.len' aty41 hW) rfl rfl rfl ?_ | refine WO.lenF (Nodes.len (Nodes.own 0 rfl)) rfl rfl rfl ?_)
    | (refine WO.isUn ?_; first | refine WO.notT rfl rfl rfl ?_ | refine WO.notF rfl rfl rfl ?_ | (refine WO.notS rfl rfl rfl ?_ ?_ <;> intro hc) | (refine WO.neg rfl rfl rfl ?_ ?_ ?_; omega; omega))
    | (refine WO.isIA ?_; first | (refine WO.ixF (Areas.ix' aty41 hW ?_ ?_) rfl rfl rfl rfl ?_; omega; omega))
    | (refine WO.isNil ?_; first | refine WO.nilCheck rfl rfl rfl ?_)
    | (refine WO.isStore ?_; first | refine WO.stS 1 (sz := 2) (L := LN.map encN) t54 (fun h hh hb => OwnL.slice (hb.at (i := 0) rfl)) rfl rfl rfl rfl rfl rfl rfl rfl ?_)
    | refine WO.nil ?_)
        · have h5 : errM (absN L) x l = 5 := errM_5 hg hgood (by omega)
          refine ⟨_, ⟨_, _, rfl, rfl, rfl⟩, fun h' k bb => ⟨k.n, k.top, fun c hc hne => old k hc hne, by rw [h5]; rfl, sv, L, same k ((bb.at (i := 1) rfl).2.1.trans R.rg.2.1.symm), by rw [setM_bad (by rw [h5]; decide)], fun c hc => .inl hc⟩⟩
        · have h5 : errM (absN L) x l = 5 := errM_5 hg hgood (by omega)
          refine ⟨_, ⟨_, _, rfl, rfl, rfl⟩, fun h' k bb => ⟨k.n, k.top, fun c hc hne => old k hc hne, by rw [h5]; rfl, sv, L, same k ((bb.at (i := 1) rfl).2.1.trans R.rg.2.1.symm), by rw [setM_bad (by rw [h5]; decide)], fun c hc => .inl hc⟩⟩
        · omega
        · have h0 : errM (absN L) x l = 0 := errM_0 hg hgood (by omega)
          refine ⟨_, ⟨_, _, rfl, rfl, rfl⟩, fun h' k bb => ⟨k.n, k.top, fun c hc hne => old k hc hne, by rw [h0]; rfl, o, LN, (fin k (bb.at (i := 0) rfl) (bb.at (i := 1) rfl).2.1 (fun n hn => .inl (hsub n hn))).1, ?_, (fin k (bb.at (i := 0) rfl) (bb.at (i := 1) rfl).2.1 (fun n hn => .inl (hsub n hn))).2⟩⟩
          rw [habs, setM, if_pos h0, if_pos (by omega)]
        · have h0 : errM (absN L) x l = 0 := errM_0 hg hgood (by omega)
          have hl0 : ¬ l.length = 0 := by omega
          refine WC.loop (α := Nat) (fun k => [(0, .pointer (some ⟨b, 0, none⟩)), (1, .int .i64 x), (2, w), (10, o), (12, .int .i64 (k : Int))]) (fun _ => [.own o 2 70 (LN.map encN), .blk b (.cells [o] 56 false)]) (fun k => k ≤ LN.length ∧ ∀ j, j < k → (gN LN (j : Int)).at_ < x) (fun k => LN.length - k) 0 ⟨rfl, rfl, rfl, rfl, rfl, trivial⟩ (List.Sublist.refl _) ⟨Nat.zero_le _, fun j hj => by omega⟩ ?_
          clear hc
          rintro k ⟨hk, hlow⟩
          repeat' (first
    | refine WC.drawU (id := 23) hN [0, 1, 2, 3, 4, 6, 7, 8, 13, 14, 15, 5, 9, 10, 11, 12, 16, 17, 18, 19] [(4, [11], false), (15, [11, 12, 15, 16], false)] [(7, [11, 12], false)] (by kernel_rfl) (by kernel_rfl) (by kernel_rfl) ?_
    | refine WC.seq ?_ | refine WC.region ?_ | refine WC.block ?_ | refine WC.condT rfl ?_ | refine WC.condF rfl ?_ | refine WC.skip ?_ | refine WC.exit ?_ | refine WC.ret ?_ | refine WC.scope ?_
    | (refine WO.isG ?_; refine WO.unwanted rfl rfl ?_)
    | (refine WO.isMove ?_; first | refine WO.move rfl rfl rfl ?_)
    | (refine WO.isPick ?_; first | refine WO.pickT rfl rfl rfl rfl ?_ | refine WO.pickF rfl rfl rfl rfl ?_)
    | (refine WO.isLoad ?_; first | (refine WO.ldF (Nodes.at (Nodes.own 0 rfl) ?_ ?_) rfl rfl rfl ?_; omega; omega) | (refine WO.ldF (Nodes.node (Nodes.own 0 rfl) ?_ ?_) rfl rfl rfl ?_; omega; omega))
    | (refine WO.isFA ?_; first | (refine WO.faF (Nodes.fa0 (Nodes.own 0 rfl) ?_ ?_) rfl rfl rfl ?_; omega; omega))
    | (refine WO.isBin ?_; first | (refine WO.lss rfl rfl rfl rfl ?_ ?_ <;> intro hc) | (refine WO.leq rfl rfl rfl rfl ?_ ?_ <;> intro hc) | (refine WO.gtr rfl rfl rfl rfl ?_ ?_ <;> intro hc) | (refine WO.geq rfl rfl rfl rfl ?_ ?_ <;> intro hc) | (refine WO.eql rfl rfl rfl rfl ?_ ?_ <;> intro hc) | (refine WO.neq rfl rfl rfl rfl ?_ ?_ <;> intro hc) | (refine WO.add rfl rfl rfl rfl ?_ ?_ ?_; omega; omega) | (refine WO.sub rfl rfl rfl rfl ?_ ?_ ?_; omega; omega) | (refine WO.rem rfl rfl rfl rfl ?_ ?_; omega))
    | (refine WO.isAssign ?_; first | refine WO.assign rfl rfl rfl ?_)
    | (refine WO.isCall ?_; first | refine WO.lenF (Nodes.len (Nodes.own 0 rfl)) rfl rfl rfl ?_)
    | (refine WO.isUn ?_; first | refine WO.notT rfl rfl rfl ?_ | refine WO.notF rfl rfl rfl ?_ | (refine WO.notS rfl rfl rfl ?_ ?_ <;> intro hc) | (refine WO.neg rfl rfl rfl ?_ ?_ ?_; omega; omega))
    | (refine WO.isIA ?_; first | (refine WO.ixF (Nodes.ix (Nodes.own 0 rfl) ?_ ?_) rfl rfl rfl rfl ?_; omega; omega))
    | (refine WO.isNil ?_; first | refine WO.nilCheck rfl rfl rfl ?_)
    | refine WO.nil ?_)
          · refine ⟨k + 1, ⟨rfl, rfl, rfl, rfl, rfl, trivial⟩, List.Sublist.refl _, ⟨by omega, fun j hj => ?_⟩, (by show LN.length - (k + 1) < LN.length - k; omega)⟩
            rcases Nat.lt_or_ge j k with h1 | h1
            · exact hlow j h1
            · rw [show j = k from by omega]; exact hc
          all_goals have hcond : k = LN.length ∨ ¬ (gN LN (k : Int)).at_ < x := by first | exact .inr hc | exact .inl (by omega)
          all_goals clear hc
          all_goals
            repeat' (first
    | refine WO.nil ⟨⟨⟨[.own o 2 70 (LN.map encN)], St.sliceV sl54 (Nodes.own 0 rfl) rfl rfl rfl rfl (.hi _ (by omega) (by simp only [List.length_map]; omega)), (by
  refine ⟨?_, ?_⟩
  · repeat (first | exact trivial | refine ⟨⟨_, rfl, ?_⟩, ?_⟩ | exact List.nil_sublist _ | exact List.Sublist.refl _ | apply List.Sublist.cons_cons | apply List.Sublist.cons)
  · intro e; first | (cases e; done) | (repeat (first | exact List.nil_sublist _ | exact List.Sublist.refl _ | apply List.Sublist.cons_cons | apply List.Sublist.cons)))⟩, ⟨[.own o 2 70 (LN.map encN)], St.sliceV sl54 (Nodes.own 0 rfl) rfl rfl rfl rfl (.lo _ (by omega) (by simp only [List.length_map]; omega)), (by
  refine ⟨?_, ?_⟩
  · repeat (first | exact trivial | refine ⟨⟨_, rfl, ?_⟩, ?_⟩ | exact List.nil_sublist _ | exact List.Sublist.refl _ | apply List.Sublist.cons_cons | apply List.Sublist.cons)
  · intro e; first | (cases e; done) | (repeat (first | exact List.nil_sublist _ | exact List.Sublist.refl _ | apply List.Sublist.cons_cons | apply List.Sublist.cons)))⟩, trivial⟩, ⟨⟨[.own (litV u101 0) 8 60 []], Sf.litB 0 litA0F rfl rfl rfl rfl, (by
  refine ⟨?_, ?_⟩
  · repeat (first | exact trivial | refine ⟨⟨_, rfl, ?_⟩, ?_⟩ | exact List.nil_sublist _ | exact List.Sublist.refl _ | apply List.Sublist.cons_cons | apply List.Sublist.cons)
  · intro e; first | (cases e; done) | (repeat (first | exact List.nil_sublist _ | exact List.Sublist.refl _ | apply List.Sublist.cons_cons | apply List.Sublist.cons)))⟩, trivial⟩, ?_⟩
    | refine WC.seq ?_ | refine WC.region ?_ | refine WC.block ?_ | refine WC.condT rfl ?_ | refine WC.condF rfl ?_ | refine WC.skip ?_ | refine WC.exit ?_ | refine WC.ret ?_ | refine WC.scope ?_
    | (refine WO.isG ?_; refine WO.unwanted rfl rfl ?_)
    | (refine WO.isMove ?_; first | refine WO.move rfl rfl rfl ?_)
    | (refine WO.isPick ?_; first | refine WO.pickT rfl rfl rfl rfl ?_ | refine WO.pickF rfl rfl rfl rfl ?_)
    | (refine WO.isFA ?_; first | refine WO.fa fa56_0 rfl rfl rfl ?_)
    | (refine WO.isBin ?_; first | (refine WO.lss rfl rfl rfl rfl ?_ ?_ <;> intro hc) | (refine WO.leq rfl rfl rfl rfl ?_ ?_ <;> intro hc) | (refine WO.gtr rfl rfl rfl rfl ?_ ?_ <;> intro hc) | (refine WO.geq rfl rfl rfl rfl ?_ ?_ <;> intro hc) | (refine WO.eql rfl rfl rfl rfl ?_ ?_ <;> intro hc) | (refine WO.neq rfl rfl rfl rfl ?_ ?_ <;> intro hc) | (refine WO.add rfl rfl rfl rfl ?_ ?_ ?_; omega; omega) | (refine WO.sub rfl rfl rfl rfl ?_ ?_ ?_; omega; omega) | (refine WO.rem rfl rfl rfl rfl ?_ ?_; omega))
    | (refine WO.isAssign ?_; first | refine WO.assign rfl rfl rfl ?_)
    | (refine WO.isCall ?_; first | (refine WO.appN 1 (l := []) (Nodes.sub (Nodes.own 2 rfl) ?_ ?_) ?_ ?_ rfl rfl rfl (fun _ => rfl) rfl ?_; omega; omega; exact (fun n hn => one n (hsub n (List.mem_of_mem_take (List.mem_of_mem_drop hn)))); (simp; omega); intro w99) | (refine WO.appA 0 elem41 (l := []) hW ?_ rfl rfl rfl (fun _ => rfl) rfl ?_; (simp; omega); intro wa wn wc) | (refine WO.appN 2 (m := [⟨x, .slice wa wn wc, [] ++ l⟩]) (Nodes.own 0 rfl) ?_ ?_ rfl rfl rfl (fun _ => rfl) rfl ?_; exact (fun n hn => (by rw [List.mem_singleton.1 hn]; rfl)); (simp; omega); intro w106) | (refine WO.appN 2 (Nodes.sub (Nodes.own 3 rfl) ?_ ?_) ?_ ?_ rfl rfl rfl (fun _ => rfl) rfl ?_; (simp only [List.length_map]; omega); (simp); exact (fun n hn => one n (hsub n (List.mem_of_mem_take (List.mem_of_mem_drop hn)))); (simp; omega); intro w110))
    | (refine WO.isUn ?_; first | refine WO.notT rfl rfl rfl ?_ | refine WO.notF rfl rfl rfl ?_ | (refine WO.notS rfl rfl rfl ?_ ?_ <;> intro hc) | (refine WO.neg rfl rfl rfl ?_ ?_ ?_; omega; omega))
    | (refine WO.isNil ?_; first | refine WO.nilCheck rfl rfl rfl ?_)
    | (refine WO.isStore ?_; first | refine WO.stS 4 (sz := 2) t54 (fun h hh hb => OwnL.slice (hb.at (i := 2) rfl)) rfl rfl rfl rfl rfl rfl rfl rfl ?_)
    | (refine WO.isBuild ?_; first | refine WO.buildF (build70F _ _ _ _) rfl rfl rfl ?_)
    | (refine WO.isSlice ?_; first | (refine WO.sliceV sl54 (Nodes.own 1 rfl) rfl rfl rfl rfl (.hi _ ?_ ?_) rfl ?_; omega; (simp only [List.length_map]; omega)) | (refine WO.sliceV sl54 (Nodes.own 2 rfl) rfl rfl rfl rfl (.lo _ ?_ ?_) rfl ?_; omega; (simp only [List.length_map]; omega)))
    | (refine WO.isLit ?_; first | (refine WO.litB litN0F rfl rfl rfl ?_; intro u95) | (refine WO.litB litA0F rfl rfl rfl ?_; intro u101) | (refine WO.litB (litNF x (.slice wa wn wc)) rfl rfl rfl ?_; intro u105))
    | refine WO.nil ?_)
            refine ⟨_, ⟨_, _, rfl, rfl, rfl⟩, fun h' kk bb => ?_⟩
            have e : [] ++ List.drop 0 (List.take ((k : Int)).toNat LN) ++ [(⟨x, .slice wa wn wc, [] ++ l⟩ : NodeR)] ++ List.drop ((k : Int)).toNat (List.take (List.map encN LN).length LN) = LN.take k ++ [(⟨x, .slice wa wn wc, l⟩ : NodeR)] ++ LN.drop k := by
              rw [show ((k : Int)).toNat = k from by omega, List.length_map, List.take_length, List.nil_append, List.drop_zero, List.nil_append]
            have ho : OwnL h h' w110 2 70 ((LN.take k ++ [(⟨x, .slice wa wn wc, l⟩ : NodeR)] ++ LN.drop k).map encN) := by rw [← e]; exact bb.at (i := 2) rfl
            have hav : OwnL h h' (.slice wa wn wc) 8 60 (l.map encA) := bb.at (i := 1) rfl
            have hn : ∀ n ∈ LN.take k ++ [(⟨x, .slice wa wn wc, l⟩ : NodeR)] ++ LN.drop k, n ∈ L ∨ (Areas h' n.av n.ar ∧ ∀ c, blkOf n.av = some c → h.n ≤ c) := by
              intro n hn
              rcases List.mem_append.1 hn with hn | hn
              · rcases List.mem_append.1 hn with hn | hn
                · exact .inl (hsub n (List.mem_of_mem_take hn))
                · rw [List.mem_singleton.1 hn]
                  exact .inr ⟨OwnL.sliceS elem41 hav, fun c hc => hav.blk_ge hc⟩
              · exact .inl (hsub n (List.mem_of_mem_drop hn))
            obtain ⟨f1, f2⟩ := fin kk ho (bb.at (i := 4) rfl).2.1 hn
            refine ⟨kk.n, kk.top, fun c hc hne => old kk hc hne, by rw [h0]; rfl, w110, _, f1, ?_, f2⟩
            rw [while_at hk hlow hcond, habs, setM, if_pos h0, if_neg hl0]
        · have h0 : errM (absN L) x l = 0 := errM_0 hg hgood (by omega)
          refine ⟨_, ⟨_, _, rfl, rfl, rfl⟩, fun h' k bb => ⟨k.n, k.top, fun c hc hne => old k hc hne, by rw [h0]; rfl, o, LN, (fin k (bb.at (i := 0) rfl) (bb.at (i := 1) rfl).2.1 (fun n hn => .inl (hsub n hn))).1, ?_, (fin k (bb.at (i := 0) rfl) (bb.at (i := 1) rfl).2.1 (fun n hn => .inl (hsub n hn))).2⟩⟩
          rw [habs, setM, if_pos h0, if_pos (by omega)]
end Go.Proofs.Ythggbjpanpnlnaa
