/- Chapter 20 on the ideal machine: the program's graph, read and set. -/
import Derived.Test.YthggbjpanpnlnaaM5
set_option linter.unusedVariables false
set_option linter.unusedSimpArgs false
/- The program's graph (chapter 20) on the ideal machine: areas. -/
namespace Go.Proofs.Ythggbjpanpnlnaa
open Go Go.Ideal
set_option maxHeartbeats 4000000

theorem build50_0 : iBuild M.P 50 [] = some (refV 0 0 false false) := by kernel_rfl
theorem build52 (a b c d : Int) : iBuild M.P 52 [(0, refV a b false false), (1, refV c d false false)] = some (areaV a b false false c d false false) := by kernel_rfl
theorem build50_0F : BuildF M 50 [] (refV 0 0 false false) := ⟨build50_0⟩
theorem build50F (a b : Int) : BuildF M 50 [(0, .int .i64 a), (1, .int .i64 b)] (refV a b false false) := ⟨build50 a b⟩
theorem build52F (a b c d : Int) : BuildF M 52 [(0, refV a b false false), (1, refV c d false false)] (areaV a b false false c d false false) := ⟨build52 a b c d⟩
theorem minF (a b : Int) : BiF M .min [.int .i64 a, .int .i64 b] (.int .i64 (min a b)) := ⟨fun _ _ h => min_i h a b⟩
theorem maxF (a b : Int) : BiF M .max [.int .i64 a, .int .i64 b] (.int .i64 (max a b)) := ⟨fun _ _ h => max_i h a b⟩

def cornV (ac ar bc br : Int) : Value := if okRef ac ar && okRef bc br then .tuple #[refV (min ac bc) (min ar br) false false, refV (max ac bc) (max ar br) false false, .bool true] else .tuple #[refV 0 0 false false, refV 0 0 false false, .bool false]
theorem corners72_runs (h : Heap) (hwf : Wf h) (ac ar bc br : Int) (p1 p2 q1 q2 : Bool) : Runs M 72 [refV ac ar p1 q1, refV bc br p2 q2] h fun v h' => Grow h h' ∧ v = cornV ac ar bc br := by
  refine Runs.enter h hwf [] [] (blks_nil ..) (fn := Try.f72) (by kernel_rfl) (by kernel_rfl) rfl (by kernel_rfl) ?_
  repeat' (first
    | refine WC.drawU (id := 3) hN [0, 1, 2, 3, 4, 5, 6, 7, 8, 9, 10, 11, 12, 13, 14, 15, 16, 17, 18, 19, 20, 21, 22, 23, 24] [(12, [22, 23], false), (14, [22, 23], false), (15, [22, 23], false), (17, [22, 23], false), (19, [22, 23], false), (20, [22, 23], false)] [] (by kernel_rfl) (by kernel_rfl) (by kernel_rfl) ?_
    | refine WC.seq ?_ | refine WC.region ?_ | refine WC.block ?_ | refine WC.condT rfl ?_ | refine WC.condF rfl ?_ | refine WC.skip ?_ | refine WC.exit ?_ | refine WC.ret ?_ | refine WC.scope ?_
    | (refine WO.isG ?_; refine WO.unwanted rfl rfl ?_)
    | (refine WO.isMove ?_; first | refine WO.move rfl rfl rfl ?_)
    | (refine WO.isPick ?_; first | refine WO.pickT rfl rfl rfl rfl ?_ | refine WO.pickF rfl rfl rfl rfl ?_)
    | (refine WO.isLoad ?_; first | refine WO.ldA 3 t50 rfl rfl rfl rfl rfl rfl ?_ | refine WO.ldA 2 t50 rfl rfl rfl rfl rfl rfl ?_ | refine WO.ld 3 t3 rfl rfl rfl rfl rfl ?_ | refine WO.ld 2 t3 rfl rfl rfl rfl rfl ?_)
    | (refine WO.isFA ?_; first | refine WO.fa fa50_0 rfl rfl rfl ?_ | refine WO.fa fa50_1 rfl rfl rfl ?_)
    | (refine WO.isBin ?_; first | (refine WO.lss rfl rfl rfl rfl ?_ ?_ <;> intro hc) | (refine WO.leq rfl rfl rfl rfl ?_ ?_ <;> intro hc) | (refine WO.gtr rfl rfl rfl rfl ?_ ?_ <;> intro hc) | (refine WO.geq rfl rfl rfl rfl ?_ ?_ <;> intro hc) | (refine WO.eql rfl rfl rfl rfl ?_ ?_ <;> intro hc) | (refine WO.neq rfl rfl rfl rfl ?_ ?_ <;> intro hc) | (refine WO.add rfl rfl rfl rfl ?_ ?_ ?_; omega; omega) | (refine WO.sub rfl rfl rfl rfl ?_ ?_ ?_; omega; omega) | (refine WO.rem rfl rfl rfl rfl ?_ ?_; omega))
    | (refine WO.isAssign ?_; first | refine WO.assign rfl rfl rfl ?_)
    | (refine WO.isCall ?_; first | (refine WO.callB (fun h hh _ => Right49_runs h hh.top _ _ _ _) rfl rfl rfl rfl ?_ ?_ <;> intro hc1) | refine WO.biF (minF _ _) rfl rfl rfl ?_ | refine WO.biF (maxF _ _) rfl rfl rfl ?_)
    | (refine WO.isUn ?_; first | refine WO.notT rfl rfl rfl ?_ | refine WO.notF rfl rfl rfl ?_ | (refine WO.notS rfl rfl rfl ?_ ?_ <;> intro hc) | (refine WO.neg rfl rfl rfl ?_ ?_ ?_; omega; omega))
    | (refine WO.isNil ?_; first | refine WO.nilCheck rfl rfl rfl ?_)
    | (refine WO.isStore ?_; first | refine WO.stA 1 t50 rfl rfl rfl rfl rfl rfl rfl rfl rfl rfl rfl ?_ | refine WO.stA 0 t50 rfl rfl rfl rfl rfl rfl rfl rfl rfl rfl rfl ?_)
    | (refine WO.isBuild ?_; first | refine WO.buildF build50_0F rfl rfl rfl ?_ | refine WO.buildF (build50F _ _) rfl rfl rfl ?_)
    | (refine WO.isAlloc ?_; first | (refine WO.alloc rfl zero50 rfl rfl rfl ?_; intro c))
    | (refine WO.isBox ?_; first | (refine WO.box rfl rfl rfl rfl rfl ?_; intro b))
    | refine WO.nil ?_)
  · rename_i b2 c2 hA
    have e : cornV ac ar bc br = .tuple #[refV (min ac bc) (min ar br) false false, refV (max ac bc) (max ar br) false false, .bool true] := by unfold cornV; rw [hA, hc1]; rfl
    refine ⟨⟨⟨[.blk b (.cells (refC bc br p2 q2) 50 false), .blk b2 (.cells (refC ac ar p1 q1) 50 false)], St.ld 1 t3 (veq_int _ _) rfl rfl rfl rfl, (by
  refine ⟨?_, ?_⟩
  · repeat (first | exact trivial | refine ⟨⟨_, rfl, ?_⟩, ?_⟩ | exact List.nil_sublist _ | exact List.Sublist.refl _ | apply List.Sublist.cons_cons | apply List.Sublist.cons)
  · intro e; first | (cases e; done) | (repeat (first | exact List.nil_sublist _ | exact List.Sublist.refl _ | apply List.Sublist.cons_cons | apply List.Sublist.cons)))⟩, ⟨[.blk b (.cells (refC bc br p2 q2) 50 false), .blk b2 (.cells (refC ac ar p1 q1) 50 false)], St.ld 0 t3 (veq_int _ _) rfl rfl rfl rfl, (by
  refine ⟨?_, ?_⟩
  · repeat (first | exact trivial | refine ⟨⟨_, rfl, ?_⟩, ?_⟩ | exact List.nil_sublist _ | exact List.Sublist.refl _ | apply List.Sublist.cons_cons | apply List.Sublist.cons)
  · intro e; first | (cases e; done) | (repeat (first | exact List.nil_sublist _ | exact List.Sublist.refl _ | apply List.Sublist.cons_cons | apply List.Sublist.cons)))⟩, ⟨[], St.biF (maxF _ _) (veq_int _ _) rfl rfl, (by
  refine ⟨?_, ?_⟩
  · repeat (first | exact trivial | refine ⟨⟨_, rfl, ?_⟩, ?_⟩ | exact List.nil_sublist _ | exact List.Sublist.refl _ | apply List.Sublist.cons_cons | apply List.Sublist.cons)
  · intro e; first | (cases e; done) | (repeat (first | exact List.nil_sublist _ | exact List.Sublist.refl _ | apply List.Sublist.cons_cons | apply List.Sublist.cons)))⟩, ⟨[.blk b (.cells (refC bc br p2 q2) 50 false), .blk b2 (.cells (refC ac ar p1 q1) 50 false)], St.ld 1 t3 (veq_int _ _) rfl rfl rfl rfl, (by
  refine ⟨?_, ?_⟩
  · repeat (first | exact trivial | refine ⟨⟨_, rfl, ?_⟩, ?_⟩ | exact List.nil_sublist _ | exact List.Sublist.refl _ | apply List.Sublist.cons_cons | apply List.Sublist.cons)
  · intro e; first | (cases e; done) | (repeat (first | exact List.nil_sublist _ | exact List.Sublist.refl _ | apply List.Sublist.cons_cons | apply List.Sublist.cons)))⟩, ⟨[.blk b (.cells (refC bc br p2 q2) 50 false), .blk b2 (.cells (refC ac ar p1 q1) 50 false)], St.ld 0 t3 (veq_int _ _) rfl rfl rfl rfl, (by
  refine ⟨?_, ?_⟩
  · repeat (first | exact trivial | refine ⟨⟨_, rfl, ?_⟩, ?_⟩ | exact List.nil_sublist _ | exact List.Sublist.refl _ | apply List.Sublist.cons_cons | apply List.Sublist.cons)
  · intro e; first | (cases e; done) | (repeat (first | exact List.nil_sublist _ | exact List.Sublist.refl _ | apply List.Sublist.cons_cons | apply List.Sublist.cons)))⟩, ⟨[], St.biF (maxF _ _) (veq_int _ _) rfl rfl, (by
  refine ⟨?_, ?_⟩
  · repeat (first | exact trivial | refine ⟨⟨_, rfl, ?_⟩, ?_⟩ | exact List.nil_sublist _ | exact List.Sublist.refl _ | apply List.Sublist.cons_cons | apply List.Sublist.cons)
  · intro e; first | (cases e; done) | (repeat (first | exact List.nil_sublist _ | exact List.Sublist.refl _ | apply List.Sublist.cons_cons | apply List.Sublist.cons)))⟩, trivial⟩, trivial, ?_⟩
    repeat' (first
    | refine WC.seq ?_ | refine WC.region ?_ | refine WC.block ?_ | refine WC.condT rfl ?_ | refine WC.condF rfl ?_ | refine WC.skip ?_ | refine WC.exit ?_ | refine WC.ret ?_ | refine WC.scope ?_
    | (refine WO.isG ?_; refine WO.unwanted rfl rfl ?_)
    | (refine WO.isMove ?_; first | refine WO.move rfl rfl rfl ?_)
    | (refine WO.isPick ?_; first | refine WO.pickT rfl rfl rfl rfl ?_ | refine WO.pickF rfl rfl rfl rfl ?_)
    | (refine WO.isBin ?_; first | (refine WO.lss rfl rfl rfl rfl ?_ ?_ <;> intro hc) | (refine WO.leq rfl rfl rfl rfl ?_ ?_ <;> intro hc) | (refine WO.gtr rfl rfl rfl rfl ?_ ?_ <;> intro hc) | (refine WO.geq rfl rfl rfl rfl ?_ ?_ <;> intro hc) | (refine WO.eql rfl rfl rfl rfl ?_ ?_ <;> intro hc) | (refine WO.neq rfl rfl rfl rfl ?_ ?_ <;> intro hc) | (refine WO.add rfl rfl rfl rfl ?_ ?_ ?_; omega; omega) | (refine WO.sub rfl rfl rfl rfl ?_ ?_ ?_; omega; omega) | (refine WO.rem rfl rfl rfl rfl ?_ ?_; omega))
    | (refine WO.isAssign ?_; first | refine WO.assign rfl rfl rfl ?_)
    | (refine WO.isUn ?_; first | refine WO.notT rfl rfl rfl ?_ | refine WO.notF rfl rfl rfl ?_ | (refine WO.notS rfl rfl rfl ?_ ?_ <;> intro hc) | (refine WO.neg rfl rfl rfl ?_ ?_ ?_; omega; omega))
    | (refine WO.isNil ?_; first | refine WO.nilCheck rfl rfl rfl ?_)
    | refine WO.nil ?_)
    refine ⟨_, ⟨_, _, _, rfl, has_resA 1 t50 rfl rfl rfl, ⟨_, _, _, rfl, has_resA 0 t50 rfl rfl rfl, ⟨_, _, rfl, rfl, rfl⟩, rfl⟩, rfl⟩, fun h' k _ => ⟨k.pure, ?_⟩⟩
    rw [e]; rfl
  · rename_i b2 c2 hA
    refine ⟨_, ⟨_, _, _, rfl, has_resA 1 t50 rfl rfl rfl, ⟨_, _, _, rfl, has_resA 0 t50 rfl rfl rfl, ⟨_, _, rfl, rfl, rfl⟩, rfl⟩, rfl⟩, fun h' k _ => ⟨k.pure, ?_⟩⟩
    unfold cornV; rw [hA, hc1]; rfl
  · refine ⟨_, ⟨_, _, _, rfl, has_resA 1 t50 rfl rfl rfl, ⟨_, _, _, rfl, has_resA 0 t50 rfl rfl rfl, ⟨_, _, rfl, rfl, rfl⟩, rfl⟩, rfl⟩, fun h' k _ => ⟨k.pure, ?_⟩⟩
    unfold cornV; rw [hc1]; rfl

theorem inside_eq {c r ac ar bc br : Int} (h : (okRef ac ar && okRef bc br) = true) : inside c r ac ar bc br = decide (min ac bc ≤ c ∧ c ≤ max ac bc ∧ min ar br ≤ r ∧ r ≤ max ar br) := by
  rw [Bool.and_eq_true] at h
  unfold inside
  rw [h.1, h.2, Bool.and_true, Bool.and_true]
  have h1 := h.1
  have h2 := h.2
  unfold okRef at h1 h2 ⊢
  have h1 := of_decide_eq_true h1
  have h2 := of_decide_eq_true h2
  by_cases hd : min ac bc ≤ c ∧ c ≤ max ac bc ∧ min ar br ≤ r ∧ r ≤ max ar br
  · rw [decide_eq_true hd, decide_eq_true (by omega)]; rfl
  · rw [decide_eq_false hd, Bool.and_false]
theorem inside_no {c r ac ar bc br : Int} (h : (okRef ac ar && okRef bc br) = false) : inside c r ac ar bc br = false := by
  unfold inside
  rw [Bool.and_assoc (okRef c r), h, Bool.and_false, Bool.false_and]
theorem Inside63_runs (h : Heap) (hwf : Wf h) (c r ac ar bc br : Int) (p1 p2 p3 q1 q2 q3 : Bool) : Runs M 63 [refV c r p1 q1, refV ac ar p2 q2, refV bc br p3 q3] h fun v h' => Grow h h' ∧ v = .bool (inside c r ac ar bc br) := by
  cases hr : okRef ac ar && okRef bc br with
  | false =>
    have e : cornV ac ar bc br = .tuple #[refV 0 0 false false, refV 0 0 false false, .bool false] := by unfold cornV; rw [hr]; rfl
    refine Runs.enter h hwf [] [] (blks_nil ..) (fn := Try.f63) (by kernel_rfl) (by kernel_rfl) rfl (by kernel_rfl) ?_
    repeat' (first
    | refine WC.seq ?_ | refine WC.region ?_ | refine WC.block ?_ | refine WC.condT rfl ?_ | refine WC.condF rfl ?_ | refine WC.skip ?_ | refine WC.exit ?_ | refine WC.ret ?_ | refine WC.scope ?_
    | (refine WO.isG ?_; refine WO.unwanted rfl rfl ?_)
    | (refine WO.isMove ?_; first | refine WO.move rfl rfl rfl ?_)
    | (refine WO.isPick ?_; first | refine WO.pickT rfl rfl rfl rfl ?_ | refine WO.pickF rfl rfl rfl rfl ?_)
    | (refine WO.isLoad ?_; first | refine WO.ldA 1 t50 rfl rfl rfl rfl rfl rfl ?_ | refine WO.ldA 0 t50 rfl rfl rfl rfl rfl rfl ?_)
    | (refine WO.isBin ?_; first | (refine WO.lss rfl rfl rfl rfl ?_ ?_ <;> intro hc) | (refine WO.leq rfl rfl rfl rfl ?_ ?_ <;> intro hc) | (refine WO.gtr rfl rfl rfl rfl ?_ ?_ <;> intro hc) | (refine WO.geq rfl rfl rfl rfl ?_ ?_ <;> intro hc) | (refine WO.eql rfl rfl rfl rfl ?_ ?_ <;> intro hc) | (refine WO.neq rfl rfl rfl rfl ?_ ?_ <;> intro hc) | (refine WO.add rfl rfl rfl rfl ?_ ?_ ?_; omega; omega) | (refine WO.sub rfl rfl rfl rfl ?_ ?_ ?_; omega; omega) | (refine WO.rem rfl rfl rfl rfl ?_ ?_; omega))
    | (refine WO.isAssign ?_; first | refine WO.assign rfl rfl rfl ?_)
    | (refine WO.isCall ?_; first | refine WO.callV (fun h hh _ => (corners72_runs h hh.top ac ar bc br _ _ _ _).mono fun v h2 e2 => ⟨e2.1, e2.2.trans e⟩) rfl rfl rfl rfl ?_)
    | (refine WO.isUn ?_; first | refine WO.notT rfl rfl rfl ?_ | refine WO.notF rfl rfl rfl ?_ | (refine WO.notS rfl rfl rfl ?_ ?_ <;> intro hc) | (refine WO.neg rfl rfl rfl ?_ ?_ ?_; omega; omega))
    | (refine WO.isNil ?_; first | refine WO.nilCheck rfl rfl rfl ?_)
    | (refine WO.isStore ?_; first | refine WO.stA 1 t50 rfl rfl rfl rfl rfl rfl rfl rfl rfl rfl rfl ?_ | refine WO.stA 0 t50 rfl rfl rfl rfl rfl rfl rfl rfl rfl rfl rfl ?_)
    | (refine WO.isExt ?_; first | refine WO.extract rfl rfl rfl rfl ?_)
    | (refine WO.isBox ?_; first | (refine WO.box rfl rfl rfl rfl rfl ?_; intro b))
    | refine WO.nil ?_)
    refine ⟨_, ⟨_, _, rfl, rfl, rfl⟩, fun h' k _ => ⟨k.pure, ?_⟩⟩
    rw [inside_no hr]; rfl
  | true =>
    have e : cornV ac ar bc br = .tuple #[refV (min ac bc) (min ar br) false false, refV (max ac bc) (max ar br) false false, .bool true] := by unfold cornV; rw [hr]; rfl
    refine Runs.enter h hwf [] [] (blks_nil ..) (fn := Try.f63) (by kernel_rfl) (by kernel_rfl) rfl (by kernel_rfl) ?_
    repeat' (first
    | refine WC.seq ?_ | refine WC.region ?_ | refine WC.block ?_ | refine WC.condT rfl ?_ | refine WC.condF rfl ?_ | refine WC.skip ?_ | refine WC.exit ?_ | refine WC.ret ?_ | refine WC.scope ?_
    | (refine WO.isG ?_; refine WO.unwanted rfl rfl ?_)
    | (refine WO.isMove ?_; first | refine WO.move rfl rfl rfl ?_)
    | (refine WO.isPick ?_; first | refine WO.pickT rfl rfl rfl rfl ?_ | refine WO.pickF rfl rfl rfl rfl ?_)
    | (refine WO.isLoad ?_; first | refine WO.ldA 1 t50 rfl rfl rfl rfl rfl rfl ?_ | refine WO.ldA 0 t50 rfl rfl rfl rfl rfl rfl ?_ | refine WO.ld 2 t3 rfl rfl rfl rfl rfl ?_ | refine WO.ld 1 t3 rfl rfl rfl rfl rfl ?_ | refine WO.ld 0 t3 rfl rfl rfl rfl rfl ?_)
    | (refine WO.isFA ?_; first | refine WO.fa fa50_0 rfl rfl rfl ?_ | refine WO.fa fa50_1 rfl rfl rfl ?_)
    | (refine WO.isBin ?_; first | (refine WO.lss rfl rfl rfl rfl ?_ ?_ <;> intro hc) | (refine WO.leq rfl rfl rfl rfl ?_ ?_ <;> intro hc) | (refine WO.gtr rfl rfl rfl rfl ?_ ?_ <;> intro hc) | (refine WO.geq rfl rfl rfl rfl ?_ ?_ <;> intro hc) | (refine WO.eql rfl rfl rfl rfl ?_ ?_ <;> intro hc) | (refine WO.neq rfl rfl rfl rfl ?_ ?_ <;> intro hc) | (refine WO.add rfl rfl rfl rfl ?_ ?_ ?_; omega; omega) | (refine WO.sub rfl rfl rfl rfl ?_ ?_ ?_; omega; omega) | (refine WO.rem rfl rfl rfl rfl ?_ ?_; omega))
    | (refine WO.isAssign ?_; first | refine WO.assign rfl rfl rfl ?_)
    | (refine WO.isCall ?_; first | refine WO.callV (fun h hh _ => (corners72_runs h hh.top ac ar bc br _ _ _ _).mono fun v h2 e2 => ⟨e2.1, e2.2.trans e⟩) rfl rfl rfl rfl ?_)
    | (refine WO.isUn ?_; first | refine WO.notT rfl rfl rfl ?_ | refine WO.notF rfl rfl rfl ?_ | (refine WO.notS rfl rfl rfl ?_ ?_ <;> intro hc) | (refine WO.neg rfl rfl rfl ?_ ?_ ?_; omega; omega))
    | (refine WO.isNil ?_; first | refine WO.nilCheck rfl rfl rfl ?_)
    | (refine WO.isStore ?_; first | refine WO.stA 1 t50 rfl rfl rfl rfl rfl rfl rfl rfl rfl rfl rfl ?_ | refine WO.stA 0 t50 rfl rfl rfl rfl rfl rfl rfl rfl rfl rfl rfl ?_)
    | (refine WO.isExt ?_; first | refine WO.extract rfl rfl rfl rfl ?_)
    | (refine WO.isBox ?_; first | (refine WO.box rfl rfl rfl rfl rfl ?_; intro b))
    | refine WO.nil ?_)
    all_goals refine ⟨_, ⟨_, _, rfl, rfl, rfl⟩, fun h' k _ => ⟨k.pure, ?_⟩⟩
    all_goals (show Value.bool _ = _; rw [inside_eq hr]; congr 1; symm; first | (apply decide_eq_true; omega) | (apply decide_eq_false; omega))

theorem base_row {X : Mach} {B : Heap} {b : Nat} {cs : List Value} {e : TypeId} {f : Bool} (hlt : b < B.n) (hg : B.get b = some (.cells cs e f)) {h : Heap} (k : Kept B [] h) : rowOf h b = some (cs, e, f) := by
  have : h.get b = some (.cells cs e f) := (k.old b hlt (by simp)).trans hg
  unfold rowOf
  rw [this]
theorem LdF.base1 {X : Mach} {B : Heap} {H : List Ent} {t : TypeId} {b o : Nat} {cs : List Value} {e : TypeId} {f : Bool} {v : Value} (hT : T1 X.P t) (hlt : b < B.n) (hg : B.get b = some (.cells cs e f)) (hv : cs[o]? = some v) : LdF X B [] H t (.pointer (some ⟨b, o, none⟩)) v := .mk fun h hh _ => by
  obtain ⟨d, inf, h1, h2, h3, h4⟩ := hT.h
  simp only [iLoad, asPtr, Option.bind_some, base_row (X := X) hlt hg hh, h1, h2, cond_false, hv]
theorem LdF.baseA {X : Mach} {B : Heap} {H : List Ent} {t : TypeId} {b o m : Nat} {cs r : List Value} {e : TypeId} {f : Bool} (hT : TA X.P t m) (hlt : b < B.n) (hg : B.get b = some (.cells cs e f)) (hle : Nat.ble (o + m) cs.length = true) (hr : cut cs o m = r) : LdF X B [] H t (.pointer (some ⟨b, o, none⟩)) (.agg r.toArray) := .mk fun h hh _ => by
  obtain ⟨d, inf, h1, h2, h3, h4⟩ := hT.h
  subst h4; subst hr
  simp only [iLoad, asPtr, Option.bind_some, base_row (X := X) hlt hg hh, h1, h2, cond_true, h3, hle, chk]

/-- A function value answers a question on areas. -/
def Asks (h : Heap) (g : FuncId) (first cap : Array Value) (l : List AreaR) (p : AreaR → Bool) : Prop := ∀ a ∈ l, ∀ h', Grow h h' → Runs M g (first.toList ++ [areaW a] ++ cap.toList) h' fun r h'' => Grow h' h'' ∧ r = .bool (p a)
def idxV {α : Type} (l : List α) (p : α → Bool) : Int := match l.findIdx? p with
  | some i => i
  | none => -1
theorem idx_none {α : Type} {l : List α} {p : α → Bool} (h : ∀ x ∈ l, p x = false) : idxV l p = -1 := by
  unfold idxV
  rw [List.findIdx?_eq_none_iff.2 h]
theorem idx_some {α : Type} {l : List α} {p : α → Bool} {i : Nat} (hi : i < l.length) (h1 : p l[i] = true) (h2 : ∀ j (h : j < l.length), j < i → p l[j] = false) : idxV l p = i := by
  have : l.findIdx? p = some i := by
    rw [List.findIdx?_eq_some_iff_getElem]
    exact ⟨hi, h1, fun j hj => by rw [h2 j (by omega) hj]; decide⟩
  unfold idxV
  rw [this]
theorem gA_elem {l : List AreaR} {j : Nat} (h : j < l.length) : gA l (j : Int) = l[j] := by
  unfold gA
  rw [show ((j : Int)).toNat = j from by omega, List.getD_eq_getElem?_getD, List.getElem?_eq_getElem h]; rfl
theorem gA_mem {l : List AreaR} {j : Nat} (h : j < l.length) : gA l (j : Int) ∈ l := by rw [gA_elem h]; exact List.getElem_mem h

theorem IndexA66_runs (h : Heap) (hwf : Wf h) (v : Value) (l : List AreaR) (g : FuncId) (first cap : Array Value) (p : AreaR → Bool) (hs : Areas h v l) (hl : l.length < 9223372036854775807) (hp : Asks h g first cap l p) : Runs M 66 [v, .func (.func g) first cap] h fun r h' => Grow h h' ∧ r = .int .i64 (idxV l p) := by
  refine Runs.enter h hwf [] [] (blks_nil ..) (fn := Try.f66) (by kernel_rfl) (by kernel_rfl) rfl (by kernel_rfl) ?_
  repeat' (first
    | refine WC.seq ?_ | refine WC.region ?_ | refine WC.block ?_ | refine WC.condT rfl ?_ | refine WC.condF rfl ?_ | refine WC.skip ?_ | refine WC.exit ?_ | refine WC.ret ?_ | refine WC.scope ?_
    | (refine WO.isG ?_; refine WO.unwanted rfl rfl ?_)
    | (refine WO.isMove ?_; first | refine WO.move rfl rfl rfl ?_)
    | (refine WO.isPick ?_; first | refine WO.pickT rfl rfl rfl rfl ?_ | refine WO.pickF rfl rfl rfl rfl ?_)
    | (refine WO.isLoad ?_; first | (refine WO.ldF (Areas.lda hs.base ?_ ?_) rfl rfl rfl ?_; omega; omega) | (refine WO.ldF (Areas.ldb hs.base ?_ ?_) rfl rfl rfl ?_; omega; omega) | (refine WO.ldF (Areas.ldw' aty39 hs.base ?_ ?_) rfl rfl rfl ?_; omega; omega))
    | (refine WO.isFA ?_; first | (refine WO.faF (Areas.fa0' aty39 hs.base ?_ ?_) rfl rfl rfl ?_; omega; omega) | (refine WO.faF (Areas.fa1' aty39 hs.base ?_ ?_) rfl rfl rfl ?_; omega; omega))
    | (refine WO.isBin ?_; first | (refine WO.lss rfl rfl rfl rfl ?_ ?_ <;> intro hc) | (refine WO.leq rfl rfl rfl rfl ?_ ?_ <;> intro hc) | (refine WO.gtr rfl rfl rfl rfl ?_ ?_ <;> intro hc) | (refine WO.geq rfl rfl rfl rfl ?_ ?_ <;> intro hc) | (refine WO.eql rfl rfl rfl rfl ?_ ?_ <;> intro hc) | (refine WO.neq rfl rfl rfl rfl ?_ ?_ <;> intro hc) | (refine WO.add rfl rfl rfl rfl ?_ ?_ ?_; omega; omega) | (refine WO.sub rfl rfl rfl rfl ?_ ?_ ?_; omega; omega) | (refine WO.rem rfl rfl rfl rfl ?_ ?_; omega))
    | (refine WO.isAssign ?_; first | refine WO.assign rfl rfl rfl ?_)
    | (refine WO.isCall ?_; first | refine WO.lenF (Areas.len' aty39 hs.base) rfl rfl rfl ?_)
    | (refine WO.isUn ?_; first | refine WO.notT rfl rfl rfl ?_ | refine WO.notF rfl rfl rfl ?_ | (refine WO.notS rfl rfl rfl ?_ ?_ <;> intro hc) | (refine WO.neg rfl rfl rfl ?_ ?_ ?_; omega; omega))
    | (refine WO.isIA ?_; first | (refine WO.ixF (Areas.ix' aty39 hs.base ?_ ?_) rfl rfl rfl rfl ?_; omega; omega))
    | (refine WO.isNil ?_; first | refine WO.nilCheck rfl rfl rfl ?_)
    | refine WO.nil ?_)
  refine WC.loop (α := Nat) (fun i => [(0, v), (1, .func (.func g) first cap), (7, .int .i64 (l.length : Int)), (8, .int .i64 (i : Int))]) (fun _ => []) (fun i => i ≤ l.length ∧ ∀ j (h : j < l.length), j < i → p l[j] = false) (fun i => l.length - i) 0 ⟨rfl, rfl, rfl, rfl, trivial⟩ (List.Sublist.refl _) ⟨Nat.zero_le _, fun j _ hj => by omega⟩ ?_
  rintro i ⟨hi, hno⟩
  repeat' (first
    | refine WC.seq ?_ | refine WC.region ?_ | refine WC.block ?_ | refine WC.condT rfl ?_ | refine WC.condF rfl ?_ | refine WC.skip ?_ | refine WC.exit ?_ | refine WC.ret ?_ | refine WC.scope ?_
    | (refine WO.isG ?_; refine WO.unwanted rfl rfl ?_)
    | (refine WO.isMove ?_; first | refine WO.move rfl rfl rfl ?_)
    | (refine WO.isPick ?_; first | refine WO.pickT rfl rfl rfl rfl ?_ | refine WO.pickF rfl rfl rfl rfl ?_)
    | (refine WO.isLoad ?_; first | (refine WO.ldF (Areas.lda hs.base ?_ ?_) rfl rfl rfl ?_; omega; omega) | (refine WO.ldF (Areas.ldb hs.base ?_ ?_) rfl rfl rfl ?_; omega; omega) | (refine WO.ldF (Areas.ldw' aty39 hs.base ?_ ?_) rfl rfl rfl ?_; omega; omega))
    | (refine WO.isFA ?_; first | (refine WO.faF (Areas.fa0' aty39 hs.base ?_ ?_) rfl rfl rfl ?_; omega; omega) | (refine WO.faF (Areas.fa1' aty39 hs.base ?_ ?_) rfl rfl rfl ?_; omega; omega))
    | (refine WO.isBin ?_; first | (refine WO.lss rfl rfl rfl rfl ?_ ?_ <;> intro hc) | (refine WO.leq rfl rfl rfl rfl ?_ ?_ <;> intro hc) | (refine WO.gtr rfl rfl rfl rfl ?_ ?_ <;> intro hc) | (refine WO.geq rfl rfl rfl rfl ?_ ?_ <;> intro hc) | (refine WO.eql rfl rfl rfl rfl ?_ ?_ <;> intro hc) | (refine WO.neq rfl rfl rfl rfl ?_ ?_ <;> intro hc) | (refine WO.add rfl rfl rfl rfl ?_ ?_ ?_; omega; omega) | (refine WO.sub rfl rfl rfl rfl ?_ ?_ ?_; omega; omega) | (refine WO.rem rfl rfl rfl rfl ?_ ?_; omega))
    | (refine WO.isAssign ?_; first | refine WO.assign rfl rfl rfl ?_)
    | (refine WO.isCall ?_; first | refine WO.lenF (Areas.len' aty39 hs.base) rfl rfl rfl ?_ | (refine WO.callB (fun h' hh _ => hp _ (gA_mem (by omega)) h' hh.pure) rfl rfl rfl rfl ?_ ?_ <;> intro hc1))
    | (refine WO.isUn ?_; first | refine WO.notT rfl rfl rfl ?_ | refine WO.notF rfl rfl rfl ?_ | (refine WO.notS rfl rfl rfl ?_ ?_ <;> intro hc) | (refine WO.neg rfl rfl rfl ?_ ?_ ?_; omega; omega))
    | (refine WO.isIA ?_; first | (refine WO.ixF (Areas.ix' aty39 hs.base ?_ ?_) rfl rfl rfl rfl ?_; omega; omega))
    | (refine WO.isNil ?_; first | refine WO.nilCheck rfl rfl rfl ?_)
    | refine WO.nil ?_)
  · refine ⟨_, ⟨_, _, rfl, rfl, rfl⟩, fun h' k _ => ⟨k.pure, ?_⟩⟩
    rw [idx_some (i := i) (by omega) (by rw [← gA_elem (by omega)]; exact hc1) hno]; rfl
  · refine ⟨i + 1, ⟨rfl, rfl, rfl, rfl, trivial⟩, List.Sublist.refl _, ⟨by omega, fun j hj hji => ?_⟩, (by show l.length - (i + 1) < l.length - i; omega)⟩
    rcases Nat.lt_or_ge j i with h1 | h1
    · exact hno j hj h1
    · obtain rfl : j = i := by omega
      rw [← gA_elem (by omega)]; exact hc1
  · refine ⟨_, ⟨_, _, rfl, rfl, rfl⟩, fun h' k _ => ⟨k.pure, ?_⟩⟩
    rw [idx_none (fun x hx => by obtain ⟨j, hj, e⟩ := List.mem_iff_getElem.1 hx; rw [← e]; exact hno j hj (by omega))]; rfl
theorem idx_any {α : Type} (l : List α) (p : α → Bool) : decide (0 ≤ idxV l p) = l.any p := by
  unfold idxV
  cases h : l.findIdx? p with
  | none =>
    rw [List.findIdx?_eq_none_iff] at h
    have : l.any p = false := by rw [List.any_eq_false]; intro x hx; rw [h x hx]; decide
    rw [this]; rfl
  | some i =>
    obtain ⟨hi, h1, _⟩ := List.findIdx?_eq_some_iff_getElem.1 h
    have : l.any p = true := List.any_eq_true.2 ⟨l[i], List.getElem_mem hi, h1⟩
    rw [this]
    exact decide_eq_true (show (0 : Int) ≤ (i : Int) by omega)
theorem ContainsA51_runs (h : Heap) (hwf : Wf h) (v : Value) (l : List AreaR) (g : FuncId) (first cap : Array Value) (p : AreaR → Bool) (hs : Areas h v l) (hl : l.length < 9223372036854775807) (hp : Asks h g first cap l p) : Runs M 51 [v, .func (.func g) first cap] h fun r h' => Grow h h' ∧ r = .bool (l.any p) := by
  refine Runs.enter h hwf [] [] (blks_nil ..) (fn := Try.f51) (by kernel_rfl) (by kernel_rfl) rfl (by kernel_rfl) ?_
  have e := idx_any l p
  repeat' (first
    | refine WC.seq ?_ | refine WC.region ?_ | refine WC.block ?_ | refine WC.condT rfl ?_ | refine WC.condF rfl ?_ | refine WC.skip ?_ | refine WC.exit ?_ | refine WC.ret ?_ | refine WC.scope ?_
    | (refine WO.isG ?_; refine WO.unwanted rfl rfl ?_)
    | (refine WO.isMove ?_; first | refine WO.move rfl rfl rfl ?_)
    | (refine WO.isPick ?_; first | refine WO.pickT rfl rfl rfl rfl ?_ | refine WO.pickF rfl rfl rfl rfl ?_)
    | (refine WO.isBin ?_; first | (refine WO.lss rfl rfl rfl rfl ?_ ?_ <;> intro hc) | (refine WO.leq rfl rfl rfl rfl ?_ ?_ <;> intro hc) | (refine WO.gtr rfl rfl rfl rfl ?_ ?_ <;> intro hc) | (refine WO.geq rfl rfl rfl rfl ?_ ?_ <;> intro hc) | (refine WO.eql rfl rfl rfl rfl ?_ ?_ <;> intro hc) | (refine WO.neq rfl rfl rfl rfl ?_ ?_ <;> intro hc) | (refine WO.add rfl rfl rfl rfl ?_ ?_ ?_; omega; omega) | (refine WO.sub rfl rfl rfl rfl ?_ ?_ ?_; omega; omega) | (refine WO.rem rfl rfl rfl rfl ?_ ?_; omega))
    | (refine WO.isAssign ?_; first | refine WO.assign rfl rfl rfl ?_)
    | (refine WO.isCall ?_; first | refine WO.callV (fun h' hh _ => IndexA66_runs h' hh.top v l g first cap p (hs.grow hh.pure) hl (fun a ha h2 g2 => hp a ha h2 (hh.pure.trans g2))) rfl rfl rfl rfl ?_)
    | (refine WO.isUn ?_; first | refine WO.notT rfl rfl rfl ?_ | refine WO.notF rfl rfl rfl ?_ | (refine WO.notS rfl rfl rfl ?_ ?_ <;> intro hc) | (refine WO.neg rfl rfl rfl ?_ ?_ ?_; omega; omega))
    | (refine WO.isNil ?_; first | refine WO.nilCheck rfl rfl rfl ?_)
    | refine WO.nil ?_)
  · refine ⟨_, ⟨_, _, rfl, rfl, rfl⟩, fun h' k _ => ⟨k.pure, ?_⟩⟩
    rw [← e, decide_eq_true hc]; rfl
  · refine ⟨_, ⟨_, _, rfl, rfl, rfl⟩, fun h' k _ => ⟨k.pure, ?_⟩⟩
    rw [← e, decide_eq_false hc]; rfl

theorem needs62_runs (h : Heap) (hwf : Wf h) (a : AreaR) (b : Nat) (x y : Int) (hb : b < h.n) (hg : h.get b = some (.cells (refC x y false false) 50 false)) : Runs M 62 [areaW a, .pointer (some ⟨b, 0, none⟩)] h fun r h' => Grow h h' ∧ r = .bool (inside x y a.ac a.ar a.bc a.br) := by
  refine Runs.enter h hwf [] [] (blks_nil ..) (fn := Try.f62) (by kernel_rfl) (by kernel_rfl) rfl (by kernel_rfl) ?_
  repeat' (first
    | refine WC.seq ?_ | refine WC.region ?_ | refine WC.block ?_ | refine WC.condT rfl ?_ | refine WC.condF rfl ?_ | refine WC.skip ?_ | refine WC.exit ?_ | refine WC.ret ?_ | refine WC.scope ?_
    | (refine WO.isG ?_; refine WO.unwanted rfl rfl ?_)
    | (refine WO.isMove ?_; first | refine WO.move rfl rfl rfl ?_)
    | (refine WO.isPick ?_; first | refine WO.pickT rfl rfl rfl rfl ?_ | refine WO.pickF rfl rfl rfl rfl ?_)
    | (refine WO.isLoad ?_; first | refine WO.ldF (LdF.baseA t50 hb hg rfl rfl) rfl rfl rfl ?_ | refine WO.ldA 0 t50 rfl rfl rfl rfl rfl rfl ?_)
    | (refine WO.isFA ?_; first | refine WO.fa fa52_0 rfl rfl rfl ?_ | refine WO.fa fa52_1 rfl rfl rfl ?_)
    | (refine WO.isBin ?_; first | (refine WO.lss rfl rfl rfl rfl ?_ ?_ <;> intro hc) | (refine WO.leq rfl rfl rfl rfl ?_ ?_ <;> intro hc) | (refine WO.gtr rfl rfl rfl rfl ?_ ?_ <;> intro hc) | (refine WO.geq rfl rfl rfl rfl ?_ ?_ <;> intro hc) | (refine WO.eql rfl rfl rfl rfl ?_ ?_ <;> intro hc) | (refine WO.neq rfl rfl rfl rfl ?_ ?_ <;> intro hc) | (refine WO.add rfl rfl rfl rfl ?_ ?_ ?_; omega; omega) | (refine WO.sub rfl rfl rfl rfl ?_ ?_ ?_; omega; omega) | (refine WO.rem rfl rfl rfl rfl ?_ ?_; omega))
    | (refine WO.isAssign ?_; first | refine WO.assign rfl rfl rfl ?_)
    | (refine WO.isCall ?_; first | refine WO.callV (fun h' hh _ => Inside63_runs h' hh.top x y a.ac a.ar a.bc a.br _ _ _ _ _ _) rfl rfl rfl rfl ?_)
    | (refine WO.isUn ?_; first | refine WO.notT rfl rfl rfl ?_ | refine WO.notF rfl rfl rfl ?_ | (refine WO.notS rfl rfl rfl ?_ ?_ <;> intro hc) | (refine WO.neg rfl rfl rfl ?_ ?_ ?_; omega; omega))
    | (refine WO.isNil ?_; first | refine WO.nilCheck rfl rfl rfl ?_)
    | (refine WO.isBox ?_; first | (refine WO.box rfl rfl rfl rfl rfl ?_; intro c))
    | refine WO.nil ?_)
  exact ⟨_, ⟨_, _, rfl, rfl, rfl⟩, fun h' k _ => ⟨k.pure, rfl⟩⟩
end Go.Proofs.Ythggbjpanpnlnaa

/- The program's graph (chapter 20) on the ideal machine: which areas are right; what is read of the graph. -/
namespace Go.Proofs.Ythggbjpanpnlnaa
open Go Go.Ideal
set_option maxHeartbeats 4000000

section
variable {X : Mach} {N : Nat} {B : Heap} {Mu : List Nat} {U : Hist} {ops : Array Oper} {rest : List Oper} {ρ : Regs} {H : List Ent} {K : Hist → Regs → List Ent → Prop}
variable {dst : Option Tmp} {ty : TypeId} {pos : String} {af : Array Edge} {gd : Option (Nat × Bool)} {v : Value}
/-- What an operation of two plain values answers. -/
structure BinF (X : Mach) (op : BinOp) (t : TypeId) (p q v : Value) : Prop where
  h : ∀ ox oy, iBin X.P op t ox oy p q = some v
  n : noAddr 3 v = true
theorem WO.binF {op : BinOp} {t tz : TypeId} {x y : Operand} {p q : Value} (hF : BinF X op t p q v) (hw : iwR ops gd ρ = some true) (hx : evR ρ x = some p) (hy : evR ρ y = some q) (hd : dOK N dst = true) (k : WO X N B Mu (none :: U) ops rest (putR dst v ρ) H K) :
    WO X N B Mu U ops (⟨dst, .binOp op t x y tz, ty, pos, af, gd⟩ :: rest) ρ H K := WO.binOp hw hx hy (hF.h x y) hF.n hd k
/-- What a look-up in a map answers. -/
structure LookF (X : Mach) (B : Heap) (Mu : List Nat) (H : List Ent) (t : TypeId) (p q : Value) (ok : Bool) (v : Value) : Prop where
  h : Has B Mu H fun h => iLookup X.P t p q ok h = some v
  n : noAddr 3 q = true
theorem WO.lookF {t : TypeId} {x i : Operand} {ok : Bool} {p q : Value} (hF : LookF X B Mu H t p q ok v) (hw : iwR ops gd ρ = some true) (hx : evR ρ x = some p) (hi : evR ρ i = some q) (hd : dOK N dst = true) (k : WO X N B Mu (none :: U) ops rest (putR dst v ρ) H K) : WO X N B Mu U ops (⟨dst, .lookup t x i ok, ty, pos, af, gd⟩ :: rest) ρ H K :=
  WO.lookup hw hx hi hF.n hF.h hd k
end

theorem eq52 (a : AreaR) : BinF M .eql 52 (areaW a) (areaV a.ac a.ar false false a.bc a.br false false) (.bool (!a.p && !a.q && !a.s && !a.t)) := by
  refine ⟨fun ox oy => ?_, rfl⟩
  obtain ⟨ac, ar, p, q, bc, br, s, t⟩ := a
  have e0 : eqN M.P Op.maxDepth 52 (areaV ac ar p q bc br s t) (areaV ac ar false false bc br false false) = some (((ac == ac) && ((ar == ar) && ((p == false) && ((q == false) && true)))) && (((bc == bc) && ((br == br) && ((s == false) && ((t == false) && true)))) && true)) := by kernel_rfl
  have e2 : pureRun M.P (eqGuard .eql 52 ox oy (areaV ac ar p q bc br s t) (areaV ac ar false false bc br false false)) = some () := by kernel_rfl
  have := bin_eqN (P := M.P) (t := 52) (ox := ox) (oy := oy) rfl e2 e0
  rw [show areaW ⟨ac, ar, p, q, bc, br, s, t⟩ = areaV ac ar p q bc br s t from rfl]
  refine this.trans ?_
  simp
  cases p <;> cases q <;> cases s <;> cases t <;> rfl

theorem veq_agg {r : List Value} (h : ∀ v ∈ r, veq 2 v v = true) : veq 3 (.agg r.toArray) (.agg r.toArray) = true := by
  have hz : ∀ c : List Value, (∀ v ∈ c, veq 2 v v = true) → (List.zipWith (veq 2) c c).all id = true := by
    intro c
    induction c with
    | nil => intro _; rfl
    | cons v c ih =>
      intro h
      rw [List.zipWith_cons_cons, List.all_cons, ih (fun v hv => h v (List.mem_cons_of_mem _ hv)), Bool.and_true]
      exact h v List.mem_cons_self
  show (Nat.beq r.toArray.size r.toArray.size && (List.zipWith (veq 2) r.toArray.toList r.toArray.toList).all id) = true
  rw [hz _ h]
  simp
theorem veq2_int (k : IntKind) (n : Int) : veq 2 (.int k n) (.int k n) = true := by
  show (decide (k = k) && decide (n = n)) = true
  simp
theorem veq2_bool (b : Bool) : veq 2 (.bool b) (.bool b) = true := by
  show (b == b) = true
  simp
theorem veq_areaW (a : AreaR) : veq 3 (.agg (encA a).toArray) (.agg (encA a).toArray) = true := veq_agg (fun v hv => by
  simp only [encA, List.mem_cons, List.not_mem_nil, or_false] at hv
  rcases hv with rfl | rfl | rfl | rfl | rfl | rfl | rfl | rfl <;> first | exact veq2_int _ _ | exact veq2_bool _)
theorem veq_refC (x y : Int) (p q : Bool) : veq 3 (.agg (refC x y p q).toArray) (.agg (refC x y p q).toArray) = true := veq_agg (fun v hv => by
  simp only [refC, List.mem_cons, List.not_mem_nil, or_false] at hv
  rcases hv with rfl | rfl | rfl | rfl <;> first | exact veq2_int _ _ | exact veq2_bool _)
theorem right53_runs (h : Heap) (hwf : Wf h) (a : AreaR) : Runs M 53 [areaW a] h fun r h' => Grow h h' ∧ r = .bool (okA a) := by
  refine Runs.enter h hwf [] [] (blks_nil ..) (fn := Try.f53) (by kernel_rfl) (by kernel_rfl) rfl (by kernel_rfl) ?_
  repeat' (first
    | refine WC.drawU (id := 1) hN [0, 1, 2, 3, 4, 5, 6, 7, 8, 9, 10, 11, 12, 13, 14, 15, 16, 17, 18, 19, 20, 21, 22, 23, 24, 25, 26, 27, 28, 29, 31, 32, 30, 33, 34, 35, 36, 37] [(27, [32, 33], true), (32, [32, 33], false)] [] (by kernel_rfl) (by kernel_rfl) (by kernel_rfl) ?_
    | refine WC.seq ?_ | refine WC.region ?_ | refine WC.block ?_ | refine WC.condT rfl ?_ | refine WC.condF rfl ?_ | refine WC.skip ?_ | refine WC.exit ?_ | refine WC.ret ?_ | refine WC.scope ?_
    | (refine WO.isG ?_; refine WO.unwanted rfl rfl ?_)
    | (refine WO.isMove ?_; first | refine WO.move rfl rfl rfl ?_)
    | (refine WO.isPick ?_; first | refine WO.pickT rfl rfl rfl rfl ?_ | refine WO.pickF rfl rfl rfl rfl ?_)
    | (refine WO.isLoad ?_; first | refine WO.ldA 0 t50 rfl rfl rfl rfl rfl rfl ?_ | refine WO.ldA 0 t52 rfl rfl rfl rfl rfl rfl ?_ | refine WO.ld 0 t3 rfl rfl rfl rfl rfl ?_)
    | (refine WO.isFA ?_; first | refine WO.fa fa52_0 rfl rfl rfl ?_ | refine WO.fa fa52_1 rfl rfl rfl ?_ | refine WO.fa fa50_0 rfl rfl rfl ?_ | refine WO.fa fa50_1 rfl rfl rfl ?_)
    | (refine WO.isBin ?_; first | refine WO.binF (eq52 a) rfl rfl rfl rfl ?_ | (refine WO.lss rfl rfl rfl rfl ?_ ?_ <;> intro hc) | (refine WO.leq rfl rfl rfl rfl ?_ ?_ <;> intro hc) | (refine WO.gtr rfl rfl rfl rfl ?_ ?_ <;> intro hc) | (refine WO.geq rfl rfl rfl rfl ?_ ?_ <;> intro hc) | (refine WO.eql rfl rfl rfl rfl ?_ ?_ <;> intro hc) | (refine WO.neq rfl rfl rfl rfl ?_ ?_ <;> intro hc) | (refine WO.add rfl rfl rfl rfl ?_ ?_ ?_; omega; omega) | (refine WO.sub rfl rfl rfl rfl ?_ ?_ ?_; omega; omega) | (refine WO.rem rfl rfl rfl rfl ?_ ?_; omega))
    | (refine WO.isAssign ?_; first | refine WO.assign rfl rfl rfl ?_)
    | (refine WO.isCall ?_; first | (refine WO.callB (fun h hh _ => Right49_runs h hh.top _ _ _ _) rfl rfl rfl rfl ?_ ?_ <;> intro hc1) | refine WO.callV (fun h hh _ => plain67_runs h hh.top _ _ _ _) rfl rfl rfl rfl ?_)
    | (refine WO.isUn ?_; first | refine WO.notT rfl rfl rfl ?_ | refine WO.notF rfl rfl rfl ?_ | (refine WO.notS rfl rfl rfl ?_ ?_ <;> intro hc) | (refine WO.neg rfl rfl rfl ?_ ?_ ?_; omega; omega))
    | (refine WO.isNil ?_; first | refine WO.nilCheck rfl rfl rfl ?_)
    | (refine WO.isBuild ?_; first | refine WO.buildF (build52F _ _ _ _) rfl rfl rfl ?_)
    | (refine WO.isBox ?_; first | (refine WO.box rfl rfl rfl rfl rfl ?_; intro b))
    | refine WO.nil ?_)
  · refine ⟨⟨⟨[.blk b (.cells (encA a) 52 false)], St.ldA 0 t52 (veq_areaW a) rfl rfl rfl rfl rfl, (by
  refine ⟨?_, ?_⟩
  · repeat (first | exact trivial | refine ⟨⟨_, rfl, ?_⟩, ?_⟩ | exact List.nil_sublist _ | exact List.Sublist.refl _ | apply List.Sublist.cons_cons | apply List.Sublist.cons)
  · intro e; first | (cases e; done) | (repeat (first | exact List.nil_sublist _ | exact List.Sublist.refl _ | apply List.Sublist.cons_cons | apply List.Sublist.cons)))⟩, ⟨[.blk b (.cells (encA a) 52 false)], St.ldA 0 t50 (veq_refC a.bc a.br a.s a.t) rfl rfl rfl rfl rfl, (by
  refine ⟨?_, ?_⟩
  · repeat (first | exact trivial | refine ⟨⟨_, rfl, ?_⟩, ?_⟩ | exact List.nil_sublist _ | exact List.Sublist.refl _ | apply List.Sublist.cons_cons | apply List.Sublist.cons)
  · intro e; first | (cases e; done) | (repeat (first | exact List.nil_sublist _ | exact List.Sublist.refl _ | apply List.Sublist.cons_cons | apply List.Sublist.cons)))⟩, trivial⟩, trivial, ?_⟩
    repeat' (first
    | refine WC.seq ?_ | refine WC.region ?_ | refine WC.block ?_ | refine WC.condT rfl ?_ | refine WC.condF rfl ?_ | refine WC.skip ?_ | refine WC.exit ?_ | refine WC.ret ?_ | refine WC.scope ?_
    | (refine WO.isG ?_; refine WO.unwanted rfl rfl ?_)
    | (refine WO.isMove ?_; first | refine WO.move rfl rfl rfl ?_)
    | (refine WO.isPick ?_; first | refine WO.pickT rfl rfl rfl rfl ?_ | refine WO.pickF rfl rfl rfl rfl ?_)
    | (refine WO.isBin ?_; first | (refine WO.lss rfl rfl rfl rfl ?_ ?_ <;> intro hc) | (refine WO.leq rfl rfl rfl rfl ?_ ?_ <;> intro hc) | (refine WO.gtr rfl rfl rfl rfl ?_ ?_ <;> intro hc) | (refine WO.geq rfl rfl rfl rfl ?_ ?_ <;> intro hc) | (refine WO.eql rfl rfl rfl rfl ?_ ?_ <;> intro hc) | (refine WO.neq rfl rfl rfl rfl ?_ ?_ <;> intro hc) | (refine WO.add rfl rfl rfl rfl ?_ ?_ ?_; omega; omega) | (refine WO.sub rfl rfl rfl rfl ?_ ?_ ?_; omega; omega) | (refine WO.rem rfl rfl rfl rfl ?_ ?_; omega))
    | (refine WO.isAssign ?_; first | refine WO.assign rfl rfl rfl ?_)
    | (refine WO.isUn ?_; first | refine WO.notT rfl rfl rfl ?_ | refine WO.notF rfl rfl rfl ?_ | (refine WO.notS rfl rfl rfl ?_ ?_ <;> intro hc) | (refine WO.neg rfl rfl rfl ?_ ?_ ?_; omega; omega))
    | (refine WO.isNil ?_; first | refine WO.nilCheck rfl rfl rfl ?_)
    | refine WO.nil ?_)
    refine ⟨_, ⟨_, _, rfl, rfl, rfl⟩, fun h' k _ => ⟨k.pure, ?_⟩⟩
    show Value.bool _ = _
    congr 1
    unfold okA okArea
    simp [*]
  all_goals
    refine ⟨⟨⟨[], St.no rfl, (by
  refine ⟨?_, ?_⟩
  · repeat (first | exact trivial | refine ⟨⟨_, rfl, ?_⟩, ?_⟩ | exact List.nil_sublist _ | exact List.Sublist.refl _ | apply List.Sublist.cons_cons | apply List.Sublist.cons)
  · intro e; first | (cases e; done) | (repeat (first | exact List.nil_sublist _ | exact List.Sublist.refl _ | apply List.Sublist.cons_cons | apply List.Sublist.cons)))⟩, ⟨[], St.no rfl, (by
  refine ⟨?_, ?_⟩
  · repeat (first | exact trivial | refine ⟨⟨_, rfl, ?_⟩, ?_⟩ | exact List.nil_sublist _ | exact List.Sublist.refl _ | apply List.Sublist.cons_cons | apply List.Sublist.cons)
  · intro e; first | (cases e; done) | (repeat (first | exact List.nil_sublist _ | exact List.Sublist.refl _ | apply List.Sublist.cons_cons | apply List.Sublist.cons)))⟩, trivial⟩, trivial, ?_⟩
    repeat' (first
    | refine WC.seq ?_ | refine WC.region ?_ | refine WC.block ?_ | refine WC.condT rfl ?_ | refine WC.condF rfl ?_ | refine WC.skip ?_ | refine WC.exit ?_ | refine WC.ret ?_ | refine WC.scope ?_
    | (refine WO.isG ?_; refine WO.unwanted rfl rfl ?_)
    | (refine WO.isMove ?_; first | refine WO.move rfl rfl rfl ?_)
    | (refine WO.isPick ?_; first | refine WO.pickT rfl rfl rfl rfl ?_ | refine WO.pickF rfl rfl rfl rfl ?_)
    | (refine WO.isBin ?_; first | (refine WO.lss rfl rfl rfl rfl ?_ ?_ <;> intro hc) | (refine WO.leq rfl rfl rfl rfl ?_ ?_ <;> intro hc) | (refine WO.gtr rfl rfl rfl rfl ?_ ?_ <;> intro hc) | (refine WO.geq rfl rfl rfl rfl ?_ ?_ <;> intro hc) | (refine WO.eql rfl rfl rfl rfl ?_ ?_ <;> intro hc) | (refine WO.neq rfl rfl rfl rfl ?_ ?_ <;> intro hc) | (refine WO.add rfl rfl rfl rfl ?_ ?_ ?_; omega; omega) | (refine WO.sub rfl rfl rfl rfl ?_ ?_ ?_; omega; omega) | (refine WO.rem rfl rfl rfl rfl ?_ ?_; omega))
    | (refine WO.isAssign ?_; first | refine WO.assign rfl rfl rfl ?_)
    | (refine WO.isUn ?_; first | refine WO.notT rfl rfl rfl ?_ | refine WO.notF rfl rfl rfl ?_ | (refine WO.notS rfl rfl rfl ?_ ?_ <;> intro hc) | (refine WO.neg rfl rfl rfl ?_ ?_ ?_; omega; omega))
    | (refine WO.isNil ?_; first | refine WO.nilCheck rfl rfl rfl ?_)
    | refine WO.nil ?_)
    refine ⟨_, ⟨_, _, rfl, rfl, rfl⟩, fun h' k _ => ⟨k.pure, ?_⟩⟩
    show Value.bool false = _
    congr 1
    unfold okA okArea
    simp [*]

theorem Set52_runs (h : Heap) (hwf : Wf h) (a : AreaR) : Runs M 52 [areaW a] h fun r h' => Grow h h' ∧ r = .bool (!okA a) := by
  refine Runs.enter h hwf [] [] (blks_nil ..) (fn := Try.f52) (by kernel_rfl) (by kernel_rfl) rfl (by kernel_rfl) ?_
  repeat' (first
    | refine WC.seq ?_ | refine WC.region ?_ | refine WC.block ?_ | refine WC.condT rfl ?_ | refine WC.condF rfl ?_ | refine WC.skip ?_ | refine WC.exit ?_ | refine WC.ret ?_ | refine WC.scope ?_
    | (refine WO.isG ?_; refine WO.unwanted rfl rfl ?_)
    | (refine WO.isMove ?_; first | refine WO.move rfl rfl rfl ?_)
    | (refine WO.isPick ?_; first | refine WO.pickT rfl rfl rfl rfl ?_ | refine WO.pickF rfl rfl rfl rfl ?_)
    | (refine WO.isLoad ?_; first | refine WO.ldA 0 t52 rfl rfl rfl rfl rfl rfl ?_)
    | (refine WO.isBin ?_; first | (refine WO.lss rfl rfl rfl rfl ?_ ?_ <;> intro hc) | (refine WO.leq rfl rfl rfl rfl ?_ ?_ <;> intro hc) | (refine WO.gtr rfl rfl rfl rfl ?_ ?_ <;> intro hc) | (refine WO.geq rfl rfl rfl rfl ?_ ?_ <;> intro hc) | (refine WO.eql rfl rfl rfl rfl ?_ ?_ <;> intro hc) | (refine WO.neq rfl rfl rfl rfl ?_ ?_ <;> intro hc) | (refine WO.add rfl rfl rfl rfl ?_ ?_ ?_; omega; omega) | (refine WO.sub rfl rfl rfl rfl ?_ ?_ ?_; omega; omega) | (refine WO.rem rfl rfl rfl rfl ?_ ?_; omega))
    | (refine WO.isAssign ?_; first | refine WO.assign rfl rfl rfl ?_)
    | (refine WO.isCall ?_; first | (refine WO.callB (fun h hh _ => right53_runs h hh.top a) rfl rfl rfl rfl ?_ ?_ <;> intro hc1))
    | (refine WO.isUn ?_; first | refine WO.notT rfl rfl rfl ?_ | refine WO.notF rfl rfl rfl ?_ | (refine WO.notS rfl rfl rfl ?_ ?_ <;> intro hc) | (refine WO.neg rfl rfl rfl ?_ ?_ ?_; omega; omega))
    | (refine WO.isNil ?_; first | refine WO.nilCheck rfl rfl rfl ?_)
    | (refine WO.isBox ?_; first | (refine WO.box rfl rfl rfl rfl rfl ?_; intro b))
    | refine WO.nil ?_)
  all_goals
    refine ⟨_, ⟨_, _, rfl, rfl, rfl⟩, fun h' k _ => ⟨k.pure, ?_⟩⟩
    rw [hc1]; rfl

/-- The program's graph: a map, whose entries stand in some order, each key once. -/
def mapC (L : List NodeR) : List (Value × Value) := L.map fun n => (Value.int .i64 n.at_, n.av)
structure PrgG (h : Heap) (b mb : Nat) (L : List NodeR) : Prop where
  hb : b < h.n
  gb : h.get b = some (.cells [.map (some mb)] 80 false)
  hm : mb < h.n
  gm : h.get mb = some (.map (mapC L))
  nd : (ats L).Nodup
  ar : ∀ n ∈ L, Areas h n.av n.ar
theorem PrgG.grow {h h' : Heap} {b mb : Nat} {L : List NodeR} (r : PrgG h b mb L) (g : Grow h h') : PrgG h' b mb L :=
  ⟨Nat.lt_of_lt_of_le r.hb g.n, (g.old b r.hb).trans r.gb, Nat.lt_of_lt_of_le r.hm g.n, (g.old mb r.hm).trans r.gm, r.nd, fun n hn => (r.ar n hn).grow g⟩
theorem find_map (x : Int) : ∀ (L : List NodeR) (i : Nat), ∃ r, iFind (.int .i64) (.int .i64 x) (mapC L) i = some r ∧ (match r with
    | some (j, v) => ∃ n, nodeOf L x = some n ∧ v = n.av ∧ i ≤ j ∧ L[j - i]? = some n
    | none => nodeOf L x = none)
  | [], i => ⟨none, rfl, rfl⟩
  | n :: L, i => by
    have e : iFind (.int .i64) (.int .i64 x) (mapC (n :: L)) i = match Instr.sameNow (.int .i64) (.int .i64 x) (.int .i64 n.at_) with
      | some true => some (some (i, n.av))
      | some false => iFind (.int .i64) (.int .i64 x) (mapC L) (i + 1)
      | none => none := rfl
    have e2 : Instr.sameNow (.int .i64) (.int .i64 x) (.int .i64 n.at_) = some (x == n.at_) := by simp [Instr.sameNow]
    rw [e, e2]
    have e3 : nodeOf (n :: L) x = if n.at_ == x then some n else nodeOf L x := by
      unfold nodeOf
      rw [List.find?_cons]
      cases n.at_ == x <;> rfl
    cases hx : x == n.at_ with
    | true =>
      have hx' : (n.at_ == x) = true := by simp at hx ⊢; exact hx.symm
      refine ⟨some (i, n.av), rfl, n, ?_, rfl, Nat.le_refl _, by simp⟩
      rw [e3, if_pos hx']
    | false =>
      have hx' : ¬ (n.at_ == x) = true := by simp at hx ⊢; exact fun e => hx e.symm
      obtain ⟨r, h1, h2⟩ := find_map x L (i + 1)
      refine ⟨r, h1, ?_⟩
      rw [e3, if_neg hx']
      match r with
      | none => exact h2
      | some (j, v) =>
        obtain ⟨m, q1, q2, q3, q4⟩ := h2
        refine ⟨m, q1, q2, by omega, ?_⟩
        rw [show j - i = (j - (i + 1)) + 1 from by omega]
        simpa using q4
theorem zero39 : iZero M.P 39 = some (.slice none 0 0) := by kernel_rfl
theorem und78 : M.P.underlying 78 = some (.map 3 39) := by kernel_rfl
theorem und3 : M.P.underlying 3 = some (.int .i64) := by kernel_rfl
theorem look78 {h : Heap} {b mb : Nat} {L : List NodeR} (R : PrgG h b mb L) (x : Int) : iLookup M.P 78 (.map (some mb)) (.int .i64 x) false h = some (areasV L x) ∧ iLookup M.P 78 (.map (some mb)) (.int .i64 x) true h = some (.tuple #[areasV L x, .bool (nodeOf L x).isSome]) := by
  obtain ⟨r, h1, h2⟩ := find_map x L 0
  unfold iLookup
  rw [und78]
  simp only [Option.bind_some, und3, plainKey, chk, cond_true, R.gm, h1]
  cases r with
  | none =>
    simp only at h2
    rw [zero39]
    simp only [Option.map_some, okv, cond_true, cond_false, areasV, h2]
    exact ⟨trivial, rfl⟩
  | some q =>
    obtain ⟨j, v⟩ := q
    obtain ⟨n, q1, q2, _⟩ := h2
    simp only [okv, cond_true, cond_false, areasV, q1, q2]
    exact ⟨trivial, rfl⟩
theorem PrgG.base {B : Heap} {H : List Ent} {b mb : Nat} {L : List NodeR} (r : PrgG B b mb L) : Has B [] H fun h => PrgG h b mb L := fun h hh _ => r.grow hh.pure
theorem t78 : T1 M.P 78 := T1.of (by kernel_rfl)
theorem fa80_0 : FA M.P 80 0 0 := FA.of (by kernel_rfl)
section
variable {B : Heap} {Mu : List Nat} {H : List Ent} {b mb : Nat} {L : List NodeR} {x : Int}
theorem PrgG.hld (R : Has B Mu H fun h => PrgG h b mb L) : LdF M B Mu H 78 (.pointer (some ⟨b, 0, none⟩)) (.map (some mb)) := .mk fun h hh hb => by
  obtain ⟨d, inf, h1, h2, h3, h4⟩ := t78.h
  have e2 : rowOf h b = some ([.map (some mb)], 80, false) := by unfold rowOf; rw [(R h hh hb).gb]
  simp only [iLoad, asPtr, Option.bind_some, e2, h1, h2, cond_false]
  rfl
theorem PrgG.hlook (R : Has B Mu H fun h => PrgG h b mb L) : LookF M B Mu H 78 (.map (some mb)) (.int .i64 x) false (areasV L x) := ⟨fun h hh hb => (look78 (R h hh hb) x).1, rfl⟩
theorem PrgG.hlook2 (R : Has B Mu H fun h => PrgG h b mb L) : LookF M B Mu H 78 (.map (some mb)) (.int .i64 x) true (.tuple #[areasV L x, .bool (nodeOf L x).isSome]) := ⟨fun h hh hb => (look78 (R h hh hb) x).2, rfl⟩
end
theorem areasV_of {h : Heap} {L : List NodeR} (R : ∀ n ∈ L, Areas h n.av n.ar) (x : Int) : Areas h (areasV L x) (areasOf L x) := by
  unfold areasV areasOf
  cases hn : nodeOf L x with
  | none => exact .inl ⟨rfl, rfl⟩
  | some n => exact R n (List.mem_of_find?_eq_some hn)
theorem areasOf_len {L : List NodeR} {m : Nat} (hm : 0 < m) (ha : ∀ n ∈ L, n.ar.length < m) (x : Int) : (areasOf L x).length < m := by
  unfold areasOf
  cases hn : nodeOf L x with
  | none => exact hm
  | some n => exact ha n (List.mem_of_find?_eq_some hn)

theorem needs42_runs (h : Heap) (hwf : Wf h) (b mb : Nat) (L : List NodeR) (x y : Int) (R : PrgG h b mb L) (hL : BndG L) : Runs M 42 [.pointer (some ⟨b, 0, none⟩), .int .i64 x, .int .i64 y] h fun r h' => Grow h h' ∧ r = .bool (needs (areasOf L x) y) := by
  have hlen := areasOf_len (by omega) hL.a x
  refine Runs.enter h hwf [] [] (blks_nil ..) (fn := Try.f42) (by kernel_rfl) (by kernel_rfl) rfl (by kernel_rfl) ?_
  repeat' (first
    | refine WC.seq ?_ | refine WC.region ?_ | refine WC.block ?_ | refine WC.condT rfl ?_ | refine WC.condF rfl ?_ | refine WC.skip ?_ | refine WC.exit ?_ | refine WC.ret ?_ | refine WC.scope ?_
    | (refine WO.isG ?_; refine WO.unwanted rfl rfl ?_)
    | (refine WO.isMove ?_; first | refine WO.move rfl rfl rfl ?_)
    | (refine WO.isPick ?_; first | refine WO.pickT rfl rfl rfl rfl ?_ | refine WO.pickF rfl rfl rfl rfl ?_)
    | (refine WO.isLoad ?_; first | refine WO.ldF (PrgG.hld R.base) rfl rfl rfl ?_)
    | (refine WO.isFA ?_; first | refine WO.fa fa80_0 rfl rfl rfl ?_)
    | (refine WO.isBin ?_; first | (refine WO.lss rfl rfl rfl rfl ?_ ?_ <;> intro hc) | (refine WO.leq rfl rfl rfl rfl ?_ ?_ <;> intro hc) | (refine WO.gtr rfl rfl rfl rfl ?_ ?_ <;> intro hc) | (refine WO.geq rfl rfl rfl rfl ?_ ?_ <;> intro hc) | (refine WO.eql rfl rfl rfl rfl ?_ ?_ <;> intro hc) | (refine WO.neq rfl rfl rfl rfl ?_ ?_ <;> intro hc) | (refine WO.add rfl rfl rfl rfl ?_ ?_ ?_; omega; omega) | (refine WO.sub rfl rfl rfl rfl ?_ ?_ ?_; omega; omega) | (refine WO.rem rfl rfl rfl rfl ?_ ?_; omega))
    | (refine WO.isAssign ?_; first | refine WO.assign rfl rfl rfl ?_)
    | (refine WO.isCall ?_; first | refine WO.callV (fun h' hh _ => At50_runs h' hh.top y) rfl rfl rfl rfl ?_ | refine WO.callV (fun h' hh hb => ContainsA51_runs h' hh.top (areasV L x) (areasOf L x) 62 #[] #[.pointer (some ⟨b2, 0, none⟩)] (fun a => inside (atC y) (atR y) a.ac a.ar a.bc a.br) (areasV_of (fun n hn => (R.ar n hn).grow hh.pure) x) hlen (fun a _ h2 g => needs62_runs h2 g.top a b2 (atC y) (atR y) (Nat.lt_of_lt_of_le (hb.at (i := 0) rfl).1 g.n) ((g.old b2 (hb.at (i := 0) rfl).1).trans (hb.at (i := 0) rfl).2.1))) rfl rfl rfl rfl ?_)
    | (refine WO.isUn ?_; first | refine WO.notT rfl rfl rfl ?_ | refine WO.notF rfl rfl rfl ?_ | (refine WO.notS rfl rfl rfl ?_ ?_ <;> intro hc) | (refine WO.neg rfl rfl rfl ?_ ?_ ?_; omega; omega))
    | (refine WO.isNil ?_; first | refine WO.nilCheck rfl rfl rfl ?_)
    | (refine WO.isStore ?_; first | refine WO.stA 0 t50 rfl rfl rfl rfl rfl rfl rfl rfl rfl rfl rfl ?_)
    | (refine WO.isAlloc ?_; first | (refine WO.alloc rfl zero50 rfl rfl rfl ?_; intro b2))
    | (refine WO.isMF ?_; first | refine WO.makeFunc rfl rfl rfl rfl ?_)
    | (refine WO.isLook ?_; first | refine WO.lookF (PrgG.hlook R.base) rfl rfl rfl rfl ?_)
    | refine WO.nil ?_)
  exact ⟨_, ⟨_, _, rfl, rfl, rfl⟩, fun h' k _ => ⟨k.pure, rfl⟩⟩
end Go.Proofs.Ythggbjpanpnlnaa

/- The program's graph (chapter 20) on the ideal machine: cells, who needs one, areas told. -/
namespace Go.Proofs.Ythggbjpanpnlnaa
open Go Go.Ideal
set_option maxHeartbeats 4000000

theorem keysI_of : ∀ {L : List NodeR}, (∀ n ∈ L, wide n.at_) → keysI (mapC L) = some (ats L)
  | [], _ => rfl
  | n :: L, h => by
    have h1 := h n List.mem_cons_self
    have ih := keysI_of (L := L) (fun m hm => h m (List.mem_cons_of_mem _ hm))
    have e : keysI (mapC (n :: L)) = bif decide (-9223372036854775808 ≤ n.at_) && decide (n.at_ < 9223372036854775808) then (keysI (mapC L)).map (n.at_ :: ·) else none := rfl
    rw [e, ih, decide_eq_true h1.1, decide_eq_true h1.2]
    rfl
theorem map_encI (l : List Int) : (l.map encI).flatten = l.map (Value.int .i64) := by
  induction l with
  | nil => rfl
  | cons x l ih => simp only [List.map_cons, List.flatten_cons, ih]; rfl
theorem Sorted34_runs (h : Heap) (hwf : Wf h) (g : FuncId) (hg : g = 58 ∨ g = 64) (p mb : Nat) (e : TypeId) (he : e = 64 ∨ e = 78) (f : Bool) (es : List (Value × Value)) (ks : List Int) (hp : h.get p = some (.cells [.map (some mb)] e f)) (hm : h.get mb = some (.map es)) (hk : keysI es = some ks) (hl : ks.length ≤ 17592186044415) :
    Runs M 34 [.func (.func g) #[] #[.pointer (some ⟨p, 0, none⟩)]] h fun r h' => Grow h h' ∧ OwnL h h' r 1 3 ((sortI ks).map encI) := by
  have hrow : rowOf h p = some ([.map (some mb)], e, f) := by unfold rowOf; rw [hp]
  have hgi : (Nat.beq g 58 || Nat.beq g 64) = true := by rcases hg with rfl | rfl <;> rfl
  have hei : (Nat.beq e 64 || Nat.beq e 78) = true := by rcases he with rfl | rfl <;> rfl
  have hI : M.I 34 = some (iSorted (fun g => Nat.beq g 58 || Nat.beq g 64) (fun e => Nat.beq e 64 || Nat.beq e 78) 3) := rfl
  cases hS : sortI ks with
  | nil =>
    refine Runs.intr (v := .slice none 0 0) (H' := h) hI ?_ ⟨Grow.refl hwf, OwnL.nil ..⟩
    simp only [iSorted, hgi, chk, List.isEmpty, Bool.and_true, cond_true, hrow, Option.bind_some, hei, hm, hk, Nat.ble_eq_true_of_le hl, hS]
  | cons k l =>
    refine Runs.intr (v := .slice (some ⟨h.n, 0, none⟩) (l.length + 1) (l.length + 1)) (H' := h.push (.cells ((k :: l).map (Value.int .i64)) 3 false)) hI ?_ ⟨Grow.push hwf _, fun cs hcs => ?_, .inr ⟨h.n, none, by simp, .inl rfl, Nat.le_refl _, Nat.lt_succ_self _, ?_⟩⟩
    · simp only [iSorted, hgi, chk, List.isEmpty, Bool.and_true, cond_true, hrow, Option.bind_some, hei, hm, hk, Nat.ble_eq_true_of_le hl, hS]
    · obtain ⟨x, _, rfl⟩ := List.mem_map.1 hcs; rfl
    · rw [Heap.get_push, if_pos rfl, map_encI]
theorem Keys45_runs (h : Heap) (hwf : Wf h) (mb : Nat) : Runs M 45 [.map (some mb)] h fun r h' => Grow h h' ∧ ∃ p, r = .func (.func 64) #[] #[.pointer (some ⟨p, 0, none⟩)] ∧ Blks h [] [.blk p (.cells [.map (some mb)] 78 false)] h' := by
  refine Runs.enter h hwf [] [] (blks_nil ..) (fn := Try.f45) (by kernel_rfl) (by kernel_rfl) rfl (by kernel_rfl) ?_
  repeat' (first
    | refine WC.seq ?_ | refine WC.region ?_ | refine WC.block ?_ | refine WC.condT rfl ?_ | refine WC.condF rfl ?_ | refine WC.skip ?_ | refine WC.exit ?_ | refine WC.ret ?_ | refine WC.scope ?_
    | (refine WO.isG ?_; refine WO.unwanted rfl rfl ?_)
    | (refine WO.isMove ?_; first | refine WO.move rfl rfl rfl ?_)
    | (refine WO.isPick ?_; first | refine WO.pickT rfl rfl rfl rfl ?_ | refine WO.pickF rfl rfl rfl rfl ?_)
    | (refine WO.isBin ?_; first | (refine WO.lss rfl rfl rfl rfl ?_ ?_ <;> intro hc) | (refine WO.leq rfl rfl rfl rfl ?_ ?_ <;> intro hc) | (refine WO.gtr rfl rfl rfl rfl ?_ ?_ <;> intro hc) | (refine WO.geq rfl rfl rfl rfl ?_ ?_ <;> intro hc) | (refine WO.eql rfl rfl rfl rfl ?_ ?_ <;> intro hc) | (refine WO.neq rfl rfl rfl rfl ?_ ?_ <;> intro hc) | (refine WO.add rfl rfl rfl rfl ?_ ?_ ?_; omega; omega) | (refine WO.sub rfl rfl rfl rfl ?_ ?_ ?_; omega; omega) | (refine WO.rem rfl rfl rfl rfl ?_ ?_; omega))
    | (refine WO.isAssign ?_; first | refine WO.assign rfl rfl rfl ?_)
    | (refine WO.isUn ?_; first | refine WO.notT rfl rfl rfl ?_ | refine WO.notF rfl rfl rfl ?_ | (refine WO.notS rfl rfl rfl ?_ ?_ <;> intro hc) | (refine WO.neg rfl rfl rfl ?_ ?_ ?_; omega; omega))
    | (refine WO.isNil ?_; first | refine WO.nilCheck rfl rfl rfl ?_)
    | (refine WO.isBox ?_; first | (refine WO.box rfl rfl rfl rfl rfl ?_; intro b))
    | (refine WO.isMF ?_; first | refine WO.makeFunc rfl rfl rfl rfl ?_)
    | refine WO.nil ?_)
  exact ⟨_, ⟨_, _, rfl, rfl, rfl⟩, fun h' k bb => ⟨k.pure, _, rfl, bb⟩⟩

structure OkG (L : List NodeR) : Prop where
  b : BndG L
  w : ∀ n ∈ L, inG n.at_ = true
theorem inG_wide {x : Int} (h : inG x = true) : wide x := by
  have := of_decide_eq_true h
  constructor <;> omega
theorem OkG.wide {L : List NodeR} (h : OkG L) : ∀ n ∈ L, wide n.at_ := fun n hn => inG_wide (h.w n hn)
theorem ats_len (L : List NodeR) : (ats L).length = L.length := List.length_map _
theorem sort_len (l : List Int) : (sortI l).length = l.length := (sortI_perm l).length_eq
theorem Cells21_runs (h : Heap) (hwf : Wf h) (b mb : Nat) (L : List NodeR) (R : PrgG h b mb L) (hL : OkG L) : Runs M 21 [.pointer (some ⟨b, 0, none⟩)] h fun r h' => Grow h h' ∧ OwnL h h' r 1 3 ((sortI (ats L)).map encI) := by
  have hl := hL.b.l
  refine Runs.enter h hwf [] [] (blks_nil ..) (fn := Try.f21) (by kernel_rfl) (by kernel_rfl) rfl (by kernel_rfl) ?_
  repeat' (first
    | refine WC.seq ?_ | refine WC.region ?_ | refine WC.block ?_ | refine WC.condT rfl ?_ | refine WC.condF rfl ?_ | refine WC.skip ?_ | refine WC.exit ?_ | refine WC.ret ?_ | refine WC.scope ?_
    | (refine WO.isG ?_; refine WO.unwanted rfl rfl ?_)
    | (refine WO.isMove ?_; first | refine WO.move rfl rfl rfl ?_)
    | (refine WO.isPick ?_; first | refine WO.pickT rfl rfl rfl rfl ?_ | refine WO.pickF rfl rfl rfl rfl ?_)
    | (refine WO.isLoad ?_; first | refine WO.ldF (PrgG.hld R.base) rfl rfl rfl ?_)
    | (refine WO.isFA ?_; first | refine WO.fa fa80_0 rfl rfl rfl ?_)
    | (refine WO.isBin ?_; first | (refine WO.lss rfl rfl rfl rfl ?_ ?_ <;> intro hc) | (refine WO.leq rfl rfl rfl rfl ?_ ?_ <;> intro hc) | (refine WO.gtr rfl rfl rfl rfl ?_ ?_ <;> intro hc) | (refine WO.geq rfl rfl rfl rfl ?_ ?_ <;> intro hc) | (refine WO.eql rfl rfl rfl rfl ?_ ?_ <;> intro hc) | (refine WO.neq rfl rfl rfl rfl ?_ ?_ <;> intro hc) | (refine WO.add rfl rfl rfl rfl ?_ ?_ ?_; omega; omega) | (refine WO.sub rfl rfl rfl rfl ?_ ?_ ?_; omega; omega) | (refine WO.rem rfl rfl rfl rfl ?_ ?_; omega))
    | (refine WO.isAssign ?_; first | refine WO.assign rfl rfl rfl ?_)
    | (refine WO.isCall ?_; first | (refine WO.callE (g := 45) (α := Nat) (fun p => .func (.func 64) #[] #[.pointer (some ⟨p, 0, none⟩)]) (fun p => [.blk p (.cells [.map (some mb)] 78 false)]) (fun _ => True) (fun h' hh hb => (Keys45_runs h' hh.top mb).mono fun v h2 e => ⟨e.1, by obtain ⟨_, p, e1, e2⟩ := e; exact ⟨p, e1, trivial, e2⟩⟩) rfl rfl rfl rfl ?_; rintro p _) | (refine WO.callO (g := 34) rfl rfl rfl rfl (fun h' hh hb => Sorted34_runs h' hh.top 64 (.inr rfl) p mb 78 (.inr rfl) false (mapC L) (ats L) (hb.at (i := 0) rfl).2.1 (R.grow hh.pure).gm (keysI_of hL.wide) (by rw [ats_len]; omega)) ?_; intro v))
    | (refine WO.isUn ?_; first | refine WO.notT rfl rfl rfl ?_ | refine WO.notF rfl rfl rfl ?_ | (refine WO.notS rfl rfl rfl ?_ ?_ <;> intro hc) | (refine WO.neg rfl rfl rfl ?_ ?_ ?_; omega; omega))
    | (refine WO.isNil ?_; first | refine WO.nilCheck rfl rfl rfl ?_)
    | refine WO.nil ?_)
  exact ⟨_, ⟨_, _, rfl, rfl, rfl⟩, fun h' k bb => ⟨k.pure, bb.at (i := 0) rfl⟩⟩

def directP (L : List NodeR) (x : Int) : List Int := (sortI (ats L)).filter fun a => needs (areasOf L a) x
theorem filter_snoc {l : List Int} {p : Int → Bool} {i : Nat} (h : i < l.length) : (l.take (i + 1)).filter p = (l.take i).filter p ++ if p (l.getD ((i : Int)).toNat 0) then [l.getD ((i : Int)).toNat 0] else [] := by
  rw [List.take_add_one, List.filter_append, gI_nat, List.getElem?_eq_getElem h, List.getD_eq_getElem?_getD, List.getElem?_eq_getElem h]
  simp only [Option.toList_some, Option.getD_some]
  cases hn : p l[i] <;> simp [hn]
theorem filter_len {l : List Int} {p : Int → Bool} {i : Nat} : ((l.take i).filter p).length ≤ l.length := by
  have h1 := List.length_filter_le p (l.take i)
  have h2 : (l.take i).length ≤ l.length := by rw [List.length_take]; omega
  omega
theorem Direct18_runs (h : Heap) (hwf : Wf h) (b mb : Nat) (L : List NodeR) (x : Int) (R : PrgG h b mb L) (hL : OkG L) : Runs M 18 [.pointer (some ⟨b, 0, none⟩), .int .i64 x] h fun r h' => Grow h h' ∧ OwnL h h' r 1 3 ((directP L x).map encI) := by
  have hl := hL.b.l
  have hsl : (sortI (ats L)).length = L.length := by rw [sort_len, ats_len]
  refine Runs.enter h hwf [] [] (blks_nil ..) (fn := Try.f18) (by kernel_rfl) (by kernel_rfl) rfl (by kernel_rfl) ?_
  refine WC.nilOwn 1 3 ?_
  repeat' (first
    | refine WC.seq ?_ | refine WC.region ?_ | refine WC.block ?_ | refine WC.condT rfl ?_ | refine WC.condF rfl ?_ | refine WC.skip ?_ | refine WC.exit ?_ | refine WC.ret ?_ | refine WC.scope ?_
    | (refine WO.isG ?_; refine WO.unwanted rfl rfl ?_)
    | (refine WO.isMove ?_; first | refine WO.move rfl rfl rfl ?_)
    | (refine WO.isPick ?_; first | refine WO.pickT rfl rfl rfl rfl ?_ | refine WO.pickF rfl rfl rfl rfl ?_)
    | (refine WO.isLoad ?_; first | (refine WO.ldF (Ints.ld (Ints.own 0 rfl) ?_ ?_) rfl rfl rfl ?_; omega; omega))
    | (refine WO.isBin ?_; first | (refine WO.lss rfl rfl rfl rfl ?_ ?_ <;> intro hc) | (refine WO.leq rfl rfl rfl rfl ?_ ?_ <;> intro hc) | (refine WO.gtr rfl rfl rfl rfl ?_ ?_ <;> intro hc) | (refine WO.geq rfl rfl rfl rfl ?_ ?_ <;> intro hc) | (refine WO.eql rfl rfl rfl rfl ?_ ?_ <;> intro hc) | (refine WO.neq rfl rfl rfl rfl ?_ ?_ <;> intro hc) | (refine WO.add rfl rfl rfl rfl ?_ ?_ ?_; omega; omega) | (refine WO.sub rfl rfl rfl rfl ?_ ?_ ?_; omega; omega) | (refine WO.rem rfl rfl rfl rfl ?_ ?_; omega))
    | (refine WO.isAssign ?_; first | refine WO.assign rfl rfl rfl ?_)
    | (refine WO.isCall ?_; first | (refine WO.callO (g := 21) rfl rfl rfl rfl (fun h' hh hb => Cells21_runs h' hh.top b mb L (R.grow hh.pure) hL) ?_; intro cv) | refine WO.lenF (Ints.len (Ints.own 0 rfl)) rfl rfl rfl ?_)
    | (refine WO.isUn ?_; first | refine WO.notT rfl rfl rfl ?_ | refine WO.notF rfl rfl rfl ?_ | (refine WO.notS rfl rfl rfl ?_ ?_ <;> intro hc) | (refine WO.neg rfl rfl rfl ?_ ?_ ?_; omega; omega))
    | (refine WO.isIA ?_; first | (refine WO.ixF (Ints.ix (Ints.own 0 rfl) ?_ ?_) rfl rfl rfl rfl ?_; omega; omega))
    | (refine WO.isNil ?_; first | refine WO.nilCheck rfl rfl rfl ?_)
    | refine WO.nil ?_)
  refine WC.loop (α := Nat × Value) (fun q => [(0, .pointer (some ⟨b, 0, none⟩)), (1, .int .i64 x), (5, q.2), (9, cv), (10, .int .i64 ((sortI (ats L)).length : Int)), (11, .int .i64 (q.1 : Int))]) (fun q => [.own cv 1 3 ((sortI (ats L)).map encI), .own q.2 1 3 ((((sortI (ats L)).take q.1).filter (fun a => needs (areasOf L a) x)).map encI)]) (fun q => q.1 ≤ (sortI (ats L)).length) (fun q => (sortI (ats L)).length - q.1) (0, .slice none 0 0) ⟨rfl, rfl, rfl, rfl, rfl, rfl, trivial⟩ (List.Sublist.refl _) (Nat.zero_le _) ?_
  rintro ⟨i, o⟩ hi
  dsimp only at *
  have hfl := @filter_len (sortI (ats L)) (fun a => needs (areasOf L a) x) i
  repeat' (first
    | refine WC.seq ?_ | refine WC.region ?_ | refine WC.block ?_ | refine WC.condT rfl ?_ | refine WC.condF rfl ?_ | refine WC.skip ?_ | refine WC.exit ?_ | refine WC.ret ?_ | refine WC.scope ?_
    | (refine WO.isG ?_; refine WO.unwanted rfl rfl ?_)
    | (refine WO.isMove ?_; first | refine WO.move rfl rfl rfl ?_)
    | (refine WO.isPick ?_; first | refine WO.pickT rfl rfl rfl rfl ?_ | refine WO.pickF rfl rfl rfl rfl ?_)
    | (refine WO.isLoad ?_; first | (refine WO.ldF (Ints.ld (Ints.own 0 rfl) ?_ ?_) rfl rfl rfl ?_; omega; omega))
    | (refine WO.isBin ?_; first | (refine WO.lss rfl rfl rfl rfl ?_ ?_ <;> intro hc) | (refine WO.leq rfl rfl rfl rfl ?_ ?_ <;> intro hc) | (refine WO.gtr rfl rfl rfl rfl ?_ ?_ <;> intro hc) | (refine WO.geq rfl rfl rfl rfl ?_ ?_ <;> intro hc) | (refine WO.eql rfl rfl rfl rfl ?_ ?_ <;> intro hc) | (refine WO.neq rfl rfl rfl rfl ?_ ?_ <;> intro hc) | (refine WO.add rfl rfl rfl rfl ?_ ?_ ?_; omega; omega) | (refine WO.sub rfl rfl rfl rfl ?_ ?_ ?_; omega; omega) | (refine WO.rem rfl rfl rfl rfl ?_ ?_; omega))
    | (refine WO.isAssign ?_; first | refine WO.assign rfl rfl rfl ?_)
    | (refine WO.isCall ?_; first | refine WO.lenF (Ints.len (Ints.own 0 rfl)) rfl rfl rfl ?_ | (refine WO.callB (fun h' hh _ => needs42_runs h' hh.top b mb L _ x (R.grow hh.pure) hL.b) rfl rfl rfl rfl ?_ ?_ <;> intro hc2) | (refine WO.appI 2 (m := [_]) (Ints.own (e := 3) 0 rfl) ?_ rfl rfl rfl (fun _ => rfl) rfl ?_; (simp only [List.length_cons, List.length_nil]; omega); intro w'))
    | (refine WO.isUn ?_; first | refine WO.notT rfl rfl rfl ?_ | refine WO.notF rfl rfl rfl ?_ | (refine WO.notS rfl rfl rfl ?_ ?_ <;> intro hc) | (refine WO.neg rfl rfl rfl ?_ ?_ ?_; omega; omega))
    | (refine WO.isIA ?_; first | (refine WO.ixF (Ints.ix (Ints.own 0 rfl) ?_ ?_) rfl rfl rfl rfl ?_; omega; omega))
    | (refine WO.isNil ?_; first | refine WO.nilCheck rfl rfl rfl ?_)
    | (refine WO.isLit ?_; first | (refine WO.litI rfl rfl rfl ?_; intro u))
    | refine WO.nil ?_)
  · refine ⟨(i + 1, w'), ⟨rfl, rfl, rfl, rfl, rfl, rfl, trivial⟩, ?_, (by show i + 1 ≤ (sortI (ats L)).length; omega), (by show (sortI (ats L)).length - (i + 1) < (sortI (ats L)).length - i; omega)⟩
    show List.Sublist [_, Ent.own w' 1 3 ((((sortI (ats L)).take (i + 1)).filter (fun a => needs (areasOf L a) x)).map encI)] _
    rw [filter_snoc (by omega), if_pos hc2]
    exact List.Sublist.cons _ (List.Sublist.refl _)
  · refine ⟨(i + 1, o), ⟨rfl, rfl, rfl, rfl, rfl, rfl, trivial⟩, ?_, (by show i + 1 ≤ (sortI (ats L)).length; omega), (by show (sortI (ats L)).length - (i + 1) < (sortI (ats L)).length - i; omega)⟩
    show List.Sublist [_, Ent.own o 1 3 ((((sortI (ats L)).take (i + 1)).filter (fun a => needs (areasOf L a) x)).map encI)] _
    rw [filter_snoc (by omega), if_neg (by rw [hc2]; decide), List.append_nil]
    exact List.Sublist.refl _
  · refine ⟨_, ⟨_, _, rfl, rfl, rfl⟩, fun h' k bb => ⟨k.pure, ?_⟩⟩
    have o := bb.at (i := 1) rfl
    rw [List.take_of_length_le (by omega)] at o
    exact o
end Go.Proofs.Ythggbjpanpnlnaa

/- The program's graph (chapter 20) on the ideal machine: clones, areas told, a new graph, Set. -/
namespace Go.Proofs.Ythggbjpanpnlnaa
open Go Go.Ideal
set_option maxHeartbeats 4000000

theorem eqn23_n : BinF M .eql 23 (.slice none 0 0) (.slice none 0 0) (.bool true) := ⟨fun ox oy => by kernel_rfl, rfl⟩
theorem eqn23_s (a : Addr) (n c : Nat) : BinF M .eql 23 (.slice (some a) n c) (.slice none 0 0) (.bool false) := ⟨fun ox oy => by kernel_rfl, rfl⟩
theorem eqn39_n : BinF M .eql 39 (.slice none 0 0) (.slice none 0 0) (.bool true) := ⟨fun ox oy => by kernel_rfl, rfl⟩
theorem eqn39_s (a : Addr) (n c : Nat) : BinF M .eql 39 (.slice (some a) n c) (.slice none 0 0) (.bool false) := ⟨fun ox oy => by kernel_rfl, rfl⟩
theorem litE39 (h : Heap) : iBuildSlice M.P 39 0 [] h = some (.slice (some ⟨h.n, 0, some 0⟩) 0 0, h.push (.cells [] 52 false)) := by kernel_rfl
theorem litE39F : LitF M 39 0 [] 8 52 [] := ⟨litE39, fun cs hcs => nomatch hcs⟩

theorem Clone33_runs (h : Heap) (hwf : Wf h) (v : Value) (l : List Int) (hs : Ints h v l) (hl : l.length ≤ 17592186044416) : Runs M 33 [v] h fun r h' => Grow h h' ∧ OwnL h h' r 1 3 (l.map encI) := by
  have hs' := hs
  rcases hs' with ⟨rfl, e⟩ | ⟨b, o, sp, c, row, e, fx, rfl, _⟩
  · have hl0 : l = [] := by simpa using e
    subst hl0
    refine Runs.enter h hwf [] [] (blks_nil ..) (fn := Try.f33) (by kernel_rfl) (by kernel_rfl) rfl (by kernel_rfl) ?_
    repeat' (first
    | refine WC.seq ?_ | refine WC.region ?_ | refine WC.block ?_ | refine WC.condT rfl ?_ | refine WC.condF rfl ?_ | refine WC.skip ?_ | refine WC.exit ?_ | refine WC.ret ?_ | refine WC.scope ?_
    | (refine WO.isG ?_; refine WO.unwanted rfl rfl ?_)
    | (refine WO.isMove ?_; first | refine WO.move rfl rfl rfl ?_)
    | (refine WO.isPick ?_; first | refine WO.pickT rfl rfl rfl rfl ?_ | refine WO.pickF rfl rfl rfl rfl ?_)
    | (refine WO.isBin ?_; first | refine WO.binF eqn23_n rfl rfl rfl rfl ?_ | (refine WO.lss rfl rfl rfl rfl ?_ ?_ <;> intro hc) | (refine WO.leq rfl rfl rfl rfl ?_ ?_ <;> intro hc) | (refine WO.gtr rfl rfl rfl rfl ?_ ?_ <;> intro hc) | (refine WO.geq rfl rfl rfl rfl ?_ ?_ <;> intro hc) | (refine WO.eql rfl rfl rfl rfl ?_ ?_ <;> intro hc) | (refine WO.neq rfl rfl rfl rfl ?_ ?_ <;> intro hc) | (refine WO.add rfl rfl rfl rfl ?_ ?_ ?_; omega; omega) | (refine WO.sub rfl rfl rfl rfl ?_ ?_ ?_; omega; omega) | (refine WO.rem rfl rfl rfl rfl ?_ ?_; omega))
    | (refine WO.isAssign ?_; first | refine WO.assign rfl rfl rfl ?_)
    | (refine WO.isUn ?_; first | refine WO.notT rfl rfl rfl ?_ | refine WO.notF rfl rfl rfl ?_ | (refine WO.notS rfl rfl rfl ?_ ?_ <;> intro hc) | (refine WO.neg rfl rfl rfl ?_ ?_ ?_; omega; omega))
    | (refine WO.isNil ?_; first | refine WO.nilCheck rfl rfl rfl ?_)
    | refine WO.nil ?_)
    exact ⟨_, ⟨_, _, rfl, rfl, rfl⟩, fun h' k bb => ⟨k.pure, OwnL.nil ..⟩⟩
  · refine Runs.enter h hwf [] [] (blks_nil ..) (fn := Try.f33) (by kernel_rfl) (by kernel_rfl) rfl (by kernel_rfl) ?_
    repeat' (first
    | (refine WO.litE rfl rfl ?_; intro u0)
    | refine WC.seq ?_ | refine WC.region ?_ | refine WC.block ?_ | refine WC.condT rfl ?_ | refine WC.condF rfl ?_ | refine WC.skip ?_ | refine WC.exit ?_ | refine WC.ret ?_ | refine WC.scope ?_
    | (refine WO.isG ?_; refine WO.unwanted rfl rfl ?_)
    | (refine WO.isMove ?_; first | refine WO.move rfl rfl rfl ?_)
    | (refine WO.isPick ?_; first | refine WO.pickT rfl rfl rfl rfl ?_ | refine WO.pickF rfl rfl rfl rfl ?_)
    | (refine WO.isBin ?_; first | refine WO.binF (eqn23_s _ _ _) rfl rfl rfl rfl ?_ | (refine WO.lss rfl rfl rfl rfl ?_ ?_ <;> intro hc) | (refine WO.leq rfl rfl rfl rfl ?_ ?_ <;> intro hc) | (refine WO.gtr rfl rfl rfl rfl ?_ ?_ <;> intro hc) | (refine WO.geq rfl rfl rfl rfl ?_ ?_ <;> intro hc) | (refine WO.eql rfl rfl rfl rfl ?_ ?_ <;> intro hc) | (refine WO.neq rfl rfl rfl rfl ?_ ?_ <;> intro hc) | (refine WO.add rfl rfl rfl rfl ?_ ?_ ?_; omega; omega) | (refine WO.sub rfl rfl rfl rfl ?_ ?_ ?_; omega; omega) | (refine WO.rem rfl rfl rfl rfl ?_ ?_; omega))
    | (refine WO.isAssign ?_; first | refine WO.assign rfl rfl rfl ?_)
    | (refine WO.isCall ?_; first | (refine WO.appI 0 (l := []) (fun h' hh _ => SliceL.grow hs hh.pure) ?_ rfl rfl rfl (fun _ => rfl) rfl ?_; (simp; omega); intro w'))
    | (refine WO.isUn ?_; first | refine WO.notT rfl rfl rfl ?_ | refine WO.notF rfl rfl rfl ?_ | (refine WO.notS rfl rfl rfl ?_ ?_ <;> intro hc) | (refine WO.neg rfl rfl rfl ?_ ?_ ?_; omega; omega))
    | (refine WO.isNil ?_; first | refine WO.nilCheck rfl rfl rfl ?_)
    | refine WO.nil ?_)
    exact ⟨_, ⟨_, _, rfl, rfl, rfl⟩, fun h' k bb => ⟨k.pure, bb.at (i := 0) rfl⟩⟩
theorem Clone47_runs (h : Heap) (hwf : Wf h) (v : Value) (l : List AreaR) (hs : Areas h v l) (hl : l.length ≤ 2199023255552) : Runs M 47 [v] h fun r h' => Grow h h' ∧ OwnL h h' r 8 52 (l.map encA) := by
  have hs' := hs
  rcases hs' with ⟨rfl, e⟩ | ⟨b, o, sp, c, row, e, fx, rfl, _⟩
  · have hl0 : l = [] := by simpa using e
    subst hl0
    refine Runs.enter h hwf [] [] (blks_nil ..) (fn := Try.f47) (by kernel_rfl) (by kernel_rfl) rfl (by kernel_rfl) ?_
    repeat' (first
    | refine WC.seq ?_ | refine WC.region ?_ | refine WC.block ?_ | refine WC.condT rfl ?_ | refine WC.condF rfl ?_ | refine WC.skip ?_ | refine WC.exit ?_ | refine WC.ret ?_ | refine WC.scope ?_
    | (refine WO.isG ?_; refine WO.unwanted rfl rfl ?_)
    | (refine WO.isMove ?_; first | refine WO.move rfl rfl rfl ?_)
    | (refine WO.isPick ?_; first | refine WO.pickT rfl rfl rfl rfl ?_ | refine WO.pickF rfl rfl rfl rfl ?_)
    | (refine WO.isBin ?_; first | refine WO.binF eqn39_n rfl rfl rfl rfl ?_ | (refine WO.lss rfl rfl rfl rfl ?_ ?_ <;> intro hc) | (refine WO.leq rfl rfl rfl rfl ?_ ?_ <;> intro hc) | (refine WO.gtr rfl rfl rfl rfl ?_ ?_ <;> intro hc) | (refine WO.geq rfl rfl rfl rfl ?_ ?_ <;> intro hc) | (refine WO.eql rfl rfl rfl rfl ?_ ?_ <;> intro hc) | (refine WO.neq rfl rfl rfl rfl ?_ ?_ <;> intro hc) | (refine WO.add rfl rfl rfl rfl ?_ ?_ ?_; omega; omega) | (refine WO.sub rfl rfl rfl rfl ?_ ?_ ?_; omega; omega) | (refine WO.rem rfl rfl rfl rfl ?_ ?_; omega))
    | (refine WO.isAssign ?_; first | refine WO.assign rfl rfl rfl ?_)
    | (refine WO.isUn ?_; first | refine WO.notT rfl rfl rfl ?_ | refine WO.notF rfl rfl rfl ?_ | (refine WO.notS rfl rfl rfl ?_ ?_ <;> intro hc) | (refine WO.neg rfl rfl rfl ?_ ?_ ?_; omega; omega))
    | (refine WO.isNil ?_; first | refine WO.nilCheck rfl rfl rfl ?_)
    | refine WO.nil ?_)
    exact ⟨_, ⟨_, _, rfl, rfl, rfl⟩, fun h' k bb => ⟨k.pure, OwnL.nil ..⟩⟩
  · refine Runs.enter h hwf [] [] (blks_nil ..) (fn := Try.f47) (by kernel_rfl) (by kernel_rfl) rfl (by kernel_rfl) ?_
    repeat' (first
    | refine WC.seq ?_ | refine WC.region ?_ | refine WC.block ?_ | refine WC.condT rfl ?_ | refine WC.condF rfl ?_ | refine WC.skip ?_ | refine WC.exit ?_ | refine WC.ret ?_ | refine WC.scope ?_
    | (refine WO.isG ?_; refine WO.unwanted rfl rfl ?_)
    | (refine WO.isMove ?_; first | refine WO.move rfl rfl rfl ?_)
    | (refine WO.isPick ?_; first | refine WO.pickT rfl rfl rfl rfl ?_ | refine WO.pickF rfl rfl rfl rfl ?_)
    | (refine WO.isBin ?_; first | refine WO.binF (eqn39_s _ _ _) rfl rfl rfl rfl ?_ | (refine WO.lss rfl rfl rfl rfl ?_ ?_ <;> intro hc) | (refine WO.leq rfl rfl rfl rfl ?_ ?_ <;> intro hc) | (refine WO.gtr rfl rfl rfl rfl ?_ ?_ <;> intro hc) | (refine WO.geq rfl rfl rfl rfl ?_ ?_ <;> intro hc) | (refine WO.eql rfl rfl rfl rfl ?_ ?_ <;> intro hc) | (refine WO.neq rfl rfl rfl rfl ?_ ?_ <;> intro hc) | (refine WO.add rfl rfl rfl rfl ?_ ?_ ?_; omega; omega) | (refine WO.sub rfl rfl rfl rfl ?_ ?_ ?_; omega; omega) | (refine WO.rem rfl rfl rfl rfl ?_ ?_; omega))
    | (refine WO.isAssign ?_; first | refine WO.assign rfl rfl rfl ?_)
    | (refine WO.isCall ?_; first | (refine WO.appA 0 elem39 (l := []) hs.base ?_ rfl rfl rfl (fun _ => rfl) rfl ?_; (simp; omega); intro wa wn wc))
    | (refine WO.isUn ?_; first | refine WO.notT rfl rfl rfl ?_ | refine WO.notF rfl rfl rfl ?_ | (refine WO.notS rfl rfl rfl ?_ ?_ <;> intro hc) | (refine WO.neg rfl rfl rfl ?_ ?_ ?_; omega; omega))
    | (refine WO.isNil ?_; first | refine WO.nilCheck rfl rfl rfl ?_)
    | (refine WO.isLit ?_; first | (refine WO.litB litE39F rfl rfl rfl ?_; intro u0))
    | refine WO.nil ?_)
    exact ⟨_, ⟨_, _, rfl, rfl, rfl⟩, fun h' k bb => ⟨k.pure, bb.at (i := 0) rfl⟩⟩

theorem Areas25_runs (h : Heap) (hwf : Wf h) (b mb : Nat) (L : List NodeR) (x : Int) (R : PrgG h b mb L) (hL : ∀ n ∈ L, n.ar.length ≤ 1000000) : Runs M 25 [.pointer (some ⟨b, 0, none⟩), .int .i64 x] h fun r h' => Grow h h' ∧ OwnL h h' r 8 52 ((areasOf L x).map encA) := by
  have hlen := areasOf_len (m := 1000001) (by omega) (fun n hn => by have := hL n hn; omega) x
  refine Runs.enter h hwf [] [] (blks_nil ..) (fn := Try.f25) (by kernel_rfl) (by kernel_rfl) rfl (by kernel_rfl) ?_
  repeat' (first
    | refine WC.seq ?_ | refine WC.region ?_ | refine WC.block ?_ | refine WC.condT rfl ?_ | refine WC.condF rfl ?_ | refine WC.skip ?_ | refine WC.exit ?_ | refine WC.ret ?_ | refine WC.scope ?_
    | (refine WO.isG ?_; refine WO.unwanted rfl rfl ?_)
    | (refine WO.isMove ?_; first | refine WO.move rfl rfl rfl ?_)
    | (refine WO.isPick ?_; first | refine WO.pickT rfl rfl rfl rfl ?_ | refine WO.pickF rfl rfl rfl rfl ?_)
    | (refine WO.isLoad ?_; first | refine WO.ldF (PrgG.hld R.base) rfl rfl rfl ?_)
    | (refine WO.isFA ?_; first | refine WO.fa fa80_0 rfl rfl rfl ?_)
    | (refine WO.isBin ?_; first | (refine WO.lss rfl rfl rfl rfl ?_ ?_ <;> intro hc) | (refine WO.leq rfl rfl rfl rfl ?_ ?_ <;> intro hc) | (refine WO.gtr rfl rfl rfl rfl ?_ ?_ <;> intro hc) | (refine WO.geq rfl rfl rfl rfl ?_ ?_ <;> intro hc) | (refine WO.eql rfl rfl rfl rfl ?_ ?_ <;> intro hc) | (refine WO.neq rfl rfl rfl rfl ?_ ?_ <;> intro hc) | (refine WO.add rfl rfl rfl rfl ?_ ?_ ?_; omega; omega) | (refine WO.sub rfl rfl rfl rfl ?_ ?_ ?_; omega; omega) | (refine WO.rem rfl rfl rfl rfl ?_ ?_; omega))
    | (refine WO.isAssign ?_; first | refine WO.assign rfl rfl rfl ?_)
    | (refine WO.isCall ?_; first | (refine WO.callO (g := 47) rfl rfl rfl rfl (fun h' hh hb => Clone47_runs h' hh.top (areasV L x) (areasOf L x) (areasV_of (fun n hn => (R.ar n hn).grow hh.pure) x) (by omega)) ?_; intro v))
    | (refine WO.isUn ?_; first | refine WO.notT rfl rfl rfl ?_ | refine WO.notF rfl rfl rfl ?_ | (refine WO.notS rfl rfl rfl ?_ ?_ <;> intro hc) | (refine WO.neg rfl rfl rfl ?_ ?_ ?_; omega; omega))
    | (refine WO.isNil ?_; first | refine WO.nilCheck rfl rfl rfl ?_)
    | (refine WO.isLook ?_; first | refine WO.lookF (PrgG.hlook R.base) rfl rfl rfl rfl ?_)
    | refine WO.nil ?_)
  exact ⟨_, ⟨_, _, rfl, rfl, rfl⟩, fun h' k bb => ⟨k.pure, bb.at (i := 0) rfl⟩⟩

theorem build80 (mb : Nat) : iBuild M.P 80 [(0, .map (some mb))] = some (.agg #[.map (some mb)]) := by kernel_rfl
theorem New29_runs (h : Heap) (hwf : Wf h) : Runs M 29 [] h fun r h' => Grow h h' ∧ ∃ b mb, r = .pointer (some ⟨b, 0, none⟩) ∧ Blks h [] [.blk b (.cells [.map (some mb)] 80 false), .blk mb (.map [])] h' := by
  refine Runs.enter h hwf [] [] (blks_nil ..) (fn := Try.f29) (by kernel_rfl) (by kernel_rfl) rfl (by kernel_rfl) ?_
  repeat' (first
    | refine WC.seq ?_ | refine WC.region ?_ | refine WC.block ?_ | refine WC.condT rfl ?_ | refine WC.condF rfl ?_ | refine WC.skip ?_ | refine WC.exit ?_ | refine WC.ret ?_ | refine WC.scope ?_
    | (refine WO.isG ?_; refine WO.unwanted rfl rfl ?_)
    | (refine WO.isMove ?_; first | refine WO.move rfl rfl rfl ?_)
    | (refine WO.isPick ?_; first | refine WO.pickT rfl rfl rfl rfl ?_ | refine WO.pickF rfl rfl rfl rfl ?_)
    | (refine WO.isBin ?_; first | (refine WO.lss rfl rfl rfl rfl ?_ ?_ <;> intro hc) | (refine WO.leq rfl rfl rfl rfl ?_ ?_ <;> intro hc) | (refine WO.gtr rfl rfl rfl rfl ?_ ?_ <;> intro hc) | (refine WO.geq rfl rfl rfl rfl ?_ ?_ <;> intro hc) | (refine WO.eql rfl rfl rfl rfl ?_ ?_ <;> intro hc) | (refine WO.neq rfl rfl rfl rfl ?_ ?_ <;> intro hc) | (refine WO.add rfl rfl rfl rfl ?_ ?_ ?_; omega; omega) | (refine WO.sub rfl rfl rfl rfl ?_ ?_ ?_; omega; omega) | (refine WO.rem rfl rfl rfl rfl ?_ ?_; omega))
    | (refine WO.isAssign ?_; first | refine WO.assign rfl rfl rfl ?_)
    | (refine WO.isUn ?_; first | refine WO.notT rfl rfl rfl ?_ | refine WO.notF rfl rfl rfl ?_ | (refine WO.notS rfl rfl rfl ?_ ?_ <;> intro hc) | (refine WO.neg rfl rfl rfl ?_ ?_ ?_; omega; omega))
    | (refine WO.isNil ?_; first | refine WO.nilCheck rfl rfl rfl ?_)
    | (refine WO.isBuild ?_; first | refine WO.buildF ⟨build80 mb⟩ rfl rfl rfl ?_)
    | (refine WO.isBox ?_; first | (refine WO.box rfl rfl rfl rfl rfl ?_; intro b))
    | (refine WO.isMakeMap ?_; first | (refine WO.makeMap rfl rfl ?_; intro mb))
    | refine WO.nil ?_)
  exact ⟨_, ⟨_, _, rfl, rfl, rfl⟩, fun h' k bb => ⟨k.pure, _, _, rfl, bb⟩⟩

/-- Which blocks the program's graph lies in. -/
def FPrg (b mb : Nat) (L : List NodeR) (c : Nat) : Prop := c = b ∨ c = mb ∨ ∃ n ∈ L, blkOf n.av = some c
structure SPrg (h : Heap) (b mb : Nat) (L : List NodeR) : Prop where
  g : PrgG h b mb L
  d : ∀ n ∈ L, blkOf n.av ≠ some mb
theorem SPrg.ne {h : Heap} {b mb : Nat} {L : List NodeR} (s : SPrg h b mb L) : b ≠ mb := fun e => by
  have h1 := s.g.gb
  rw [e, s.g.gm] at h1
  cases h1

theorem okRef_at (x : Int) : okRef (atC x) (atR x) = inG x := by
  unfold okRef inG
  by_cases h : 0 ≤ x ∧ x < 64000
  · rw [decide_eq_true h]
    have h1 : atC x = x % 64 := if_pos h
    have h2 : atR x = x / 64 := if_pos h
    rw [h1, h2]
    exact decide_eq_true (by omega)
  · rw [decide_eq_false h, atC_out h, atR_out h]
    exact decide_eq_false (by omega)

/-- The entry of a key is put, or set anew; is taken away. -/
def putN (L : List NodeR) (n : NodeR) : List NodeR := match L.findIdx? (fun m => m.at_ == n.at_) with
  | some i => L.set i n
  | none => L ++ [n]
def dropN (L : List NodeR) (x : Int) : List NodeR := match L.findIdx? (fun m => m.at_ == x) with
  | some i => L.eraseIdx i
  | none => L
theorem find_idx (x : Int) : ∀ (L : List NodeR) (i : Nat), iFind (.int .i64) (.int .i64 x) (mapC L) i = some ((L.findIdx? (fun m => m.at_ == x)).map fun j => (i + j, (gN L (j : Int)).av))
  | [], i => rfl
  | n :: L, i => by
    have e : iFind (.int .i64) (.int .i64 x) (mapC (n :: L)) i = match Instr.sameNow (.int .i64) (.int .i64 x) (.int .i64 n.at_) with
      | some true => some (some (i, n.av))
      | some false => iFind (.int .i64) (.int .i64 x) (mapC L) (i + 1)
      | none => none := rfl
    have e2 : Instr.sameNow (.int .i64) (.int .i64 x) (.int .i64 n.at_) = some (x == n.at_) := by simp [Instr.sameNow]
    rw [e, e2, List.findIdx?_cons]
    cases hx : x == n.at_ with
    | true =>
      have hx' : (n.at_ == x) = true := by simp at hx ⊢; exact hx.symm
      rw [if_pos hx']
      rfl
    | false =>
      have hx' : ¬ (n.at_ == x) = true := by simp at hx ⊢; exact fun e => hx e.symm
      rw [if_neg hx']
      show iFind (.int .i64) (.int .i64 x) (mapC L) (i + 1) = _
      rw [find_idx x L (i + 1)]
      cases L.findIdx? (fun m => m.at_ == x) with
      | none => rfl
      | some j =>
        simp only [Option.map_some, Option.some.injEq, Prod.mk.injEq]
        refine ⟨by omega, ?_⟩
        unfold gN
        rw [show ((j : Int)).toNat = j from by omega, show (((j + 1 : Nat) : Int)).toNat = j + 1 from by omega]
        simp
theorem upd78 (L : List NodeR) (n : NodeR) : UpdF M 78 (mapC L) (.int .i64 n.at_) n.av (mapC (putN L n)) := ⟨fun h mb hm => by
  unfold iUpdate
  rw [und78]
  simp only [Option.bind_some, und3, plainKey, noAddr, Bool.and_self, chk, cond_true, hm, find_idx]
  unfold putN
  cases L.findIdx? (fun m => m.at_ == n.at_) with
  | none => simp [mapC]
  | some j => simp [mapC, List.map_set]⟩
theorem del78 (L : List NodeR) (x : Int) : DelF M 78 (mapC L) (.int .i64 x) (mapC (dropN L x)) := ⟨fun h mb hm => by
  unfold iDelete
  rw [und78]
  simp only [Option.bind_some, und3, plainKey, noAddr, Bool.and_self, chk, cond_true, hm, find_idx]
  unfold dropN
  cases L.findIdx? (fun m => m.at_ == x) with
  | none => simp [mapC]
  | some j => simp [mapC, List.eraseIdx_eq_take_drop_succ, List.map_take, List.map_drop]⟩

theorem idx_split {L : List NodeR} {x : Int} {i : Nat} (h : L.findIdx? (fun m => m.at_ == x) = some i) : ∃ A m C, L = A ++ m :: C ∧ A.length = i ∧ m.at_ = x := by
  obtain ⟨hi, h1, _⟩ := List.findIdx?_eq_some_iff_getElem.1 h
  refine ⟨L.take i, L[i], L.drop (i + 1), ?_, by rw [List.length_take]; omega, by simpa using h1⟩
  rw [← List.drop_eq_getElem_cons hi, List.take_append_drop]
theorem ats_app (A C : List NodeR) (m : NodeR) : ats (A ++ m :: C) = ats A ++ m.at_ :: ats C := by simp [ats]
theorem nd_split {A C : List NodeR} {m : NodeR} (h : (ats (A ++ m :: C)).Nodup) : (ats (A ++ C)).Nodup ∧ (∀ n ∈ A ++ C, n.at_ ≠ m.at_) := by
  rw [ats_app, List.nodup_append] at h
  obtain ⟨h1, h2, h3⟩ := h
  obtain ⟨h4, h5⟩ := List.nodup_cons.1 h2
  constructor
  · show ((A ++ C).map (·.at_)).Nodup
    rw [List.map_append, List.nodup_append]
    exact ⟨h1, h5, fun a ha b hb => h3 a ha b (List.mem_cons_of_mem _ hb)⟩
  · intro n hn e
    rcases List.mem_append.1 hn with hn | hn
    · exact h3 n.at_ (mem_ats hn) m.at_ List.mem_cons_self e
    · exact h4 (e ▸ mem_ats hn)
theorem none_ne {L : List NodeR} {x : Int} (h : L.findIdx? (fun m => m.at_ == x) = none) : ∀ n ∈ L, n.at_ ≠ x := fun n hn e => by
  have := List.findIdx?_eq_none_iff.1 h n hn
  simp [e] at this
theorem dropN_ok {L : List NodeR} {x : Int} (hn : (ats L).Nodup) : (ats (dropN L x)).Nodup ∧ (∀ n, n ∈ dropN L x ↔ n ∈ L ∧ n.at_ ≠ x) := by
  unfold dropN
  cases h : L.findIdx? (fun m => m.at_ == x) with
  | none => exact ⟨hn, fun n => ⟨fun hm => ⟨hm, none_ne h n hm⟩, fun hm => hm.1⟩⟩
  | some i =>
    obtain ⟨A, m, C, rfl, rfl, rfl⟩ := idx_split h
    have e : (A ++ m :: C).eraseIdx A.length = A ++ C := by rw [List.eraseIdx_append_of_length_le (Nat.le_refl _)]; simp
    simp only [e]
    obtain ⟨h1, h2⟩ := nd_split hn
    refine ⟨h1, fun n => ⟨fun hm => ⟨?_, h2 n hm⟩, fun hm => ?_⟩⟩
    · rcases List.mem_append.1 hm with hm | hm
      · exact List.mem_append_left _ hm
      · exact List.mem_append_right _ (List.mem_cons_of_mem _ hm)
    · rcases List.mem_append.1 hm.1 with h3 | h3
      · exact List.mem_append_left _ h3
      · rcases List.mem_cons.1 h3 with rfl | h3
        · exact absurd rfl hm.2
        · exact List.mem_append_right _ h3
theorem putN_ok {L : List NodeR} {n : NodeR} (hn : (ats L).Nodup) : (ats (putN L n)).Nodup ∧ (∀ m, m ∈ putN L n ↔ m = n ∨ (m ∈ L ∧ m.at_ ≠ n.at_)) ∧ (putN L n).length ≤ L.length + 1 := by
  unfold putN
  cases h : L.findIdx? (fun m => m.at_ == n.at_) with
  | none =>
    have hne := none_ne h
    refine ⟨?_, fun m => ?_, by simp⟩
    · show ((L ++ [n]).map (·.at_)).Nodup
      rw [List.map_append, List.nodup_append]
      refine ⟨hn, by simp, fun a ha b hb => ?_⟩
      obtain ⟨m, hm, rfl⟩ := List.mem_map.1 ha
      have hb : b = n.at_ := by simpa using hb
      rw [hb]; exact hne m hm
    · rw [List.mem_append, List.mem_singleton]
      constructor
      · rintro (hm | rfl)
        · exact .inr ⟨hm, hne m hm⟩
        · exact .inl rfl
      · rintro (rfl | hm)
        · exact .inr rfl
        · exact .inl hm.1
  | some i =>
    obtain ⟨A, m, C, rfl, rfl, he⟩ := idx_split h
    have e : (A ++ m :: C).set A.length n = A ++ n :: C := by rw [List.set_append_right _ _ (Nat.le_refl _)]; simp
    simp only [e]
    obtain ⟨h1, h2⟩ := nd_split hn
    refine ⟨?_, fun k => ?_, by simp⟩
    · rw [ats_app, ← he, ← ats_app]; exact hn
    · constructor
      · intro hk
        rcases List.mem_append.1 hk with hk | hk
        · exact .inr ⟨List.mem_append_left _ hk, by rw [← he]; exact h2 k (List.mem_append_left _ hk)⟩
        · rcases List.mem_cons.1 hk with rfl | hk
          · exact .inl rfl
          · exact .inr ⟨List.mem_append_right _ (List.mem_cons_of_mem _ hk), by rw [← he]; exact h2 k (List.mem_append_right _ hk)⟩
      · rintro (rfl | ⟨hk, hke⟩)
        · exact List.mem_append_right _ List.mem_cons_self
        · rcases List.mem_append.1 hk with hk | hk
          · exact List.mem_append_left _ hk
          · rcases List.mem_cons.1 hk with rfl | hk
            · exact absurd he hke
            · exact List.mem_append_right _ (List.mem_cons_of_mem _ hk)
theorem mem_setM {m : Mod} {x : Int} {l : List AreaR} (h : errM m x l = 0) (p : Int × List AreaR) : p ∈ setM m x l ↔ (p ∈ m ∧ p.1 ≠ x) ∨ (l.length ≠ 0 ∧ p = (x, l)) := by
  have hl : p ∈ leftM m x ↔ p ∈ m ∧ p.1 ≠ x := by
    unfold leftM
    rw [List.mem_filter]
    simp
  unfold setM
  rw [if_pos h]
  by_cases h0 : l.length = 0
  · rw [if_pos h0, hl]
    simp [h0]
  · rw [if_neg h0]
    have e : p ∈ leftM m x ↔ p ∈ (leftM m x).takeWhile (fun p => decide (p.1 < x)) ∨ p ∈ (leftM m x).dropWhile (fun p => decide (p.1 < x)) := by rw [← List.mem_append, List.takeWhile_append_dropWhile]
    unfold insM
    simp only [List.mem_append, List.mem_singleton]
    rw [← hl, e]
    constructor
    · rintro ((h | h) | h)
      · exact .inl (.inl h)
      · exact .inr ⟨h0, h⟩
      · exact .inl (.inr h)
    · rintro ((h | h) | h)
      · exact .inl (.inl h)
      · exact .inr h
      · exact .inl (.inr h.2)
theorem mem_absN {L : List NodeR} {p : Int × List AreaR} : p ∈ absN L ↔ ∃ n ∈ L, (n.at_, n.ar) = p := List.mem_map
theorem left_len {L : List NodeR} {x : Int} (hn : (ats L).Nodup) : (leftM (absN L) x).length = if (nodeOf L x).isSome then L.length - 1 else L.length := by
  rw [← leftN_abs]
  show ((leftN L x).map _).length = _
  rw [List.length_map]
  cases h : L.findIdx? (fun m => m.at_ == x) with
  | none =>
    have hne := none_ne h
    have e1 : leftN L x = L := List.filter_eq_self.2 (fun n hm => by simpa using hne n hm)
    have e2 : nodeOf L x = none := List.find?_eq_none.2 (fun n hm => by simpa using hne n hm)
    rw [e1, e2]; rfl
  | some i =>
    obtain ⟨A, m, C, rfl, rfl, rfl⟩ := idx_split h
    obtain ⟨_, h2⟩ := nd_split hn
    have e2 : (nodeOf (A ++ m :: C) m.at_).isSome = true := by
      unfold nodeOf
      rw [List.find?_isSome]
      exact ⟨m, List.mem_append_right _ List.mem_cons_self, by simp⟩
    have fl : ∀ l : List NodeR, (∀ n ∈ l, n.at_ ≠ m.at_) → leftN l m.at_ = l := fun l hl => List.filter_eq_self.2 (fun n hm => by simpa using hl n hm)
    have e1 : leftN (A ++ m :: C) m.at_ = A ++ C := by
      have q1 := fl A (fun n hm => h2 n (List.mem_append_left _ hm))
      have q2 := fl C (fun n hm => h2 n (List.mem_append_right _ hm))
      unfold leftN at q1 q2 ⊢
      rw [List.filter_append, List.filter_cons, q1, q2]
      simp
    rw [e1, e2]
    simp
end Go.Proofs.Ythggbjpanpnlnaa

/- The program's graph (chapter 20) on the ideal machine: Set. -/
namespace Go.Proofs.Ythggbjpanpnlnaa
open Go Go.Ideal
set_option maxHeartbeats 4000000

theorem PrgG.hlen {B : Heap} {Mu : List Nat} {H : List Ent} {b mb : Nat} {L : List NodeR} (R : Has B Mu H fun h => PrgG h b mb L) : LenF M B Mu H 78 (.map (some mb)) L.length := .mk fun ty h hh hb => by
  have e : iLenMap M.P 78 (.map (some mb)) h = some (.int .i64 L.length) := by
    unfold iLenMap
    rw [und78]
    simp only [Option.bind_some, (R h hh hb).gm, mapC, List.length_map]
    rfl
  have e2 : (#[78] : Array TypeId)[0]? = some 78 := rfl
  simp only [iBuiltin2, e2, Option.bind_some, e, Option.map_some]
theorem all_any (l : List AreaR) : l.any (fun a => !okA a) = !l.all okA := by
  induction l with
  | nil => rfl
  | cons a l ih => simp only [List.any_cons, List.all_cons, ih]; cases okA a <;> rfl
theorem veq_map (b : Nat) : veq 3 (.map (some b)) (.map (some b)) = true := by
  show Nat.beq b b = true
  simp

theorem Set28_runs (h : Heap) (hwf : Wf h) (b mb : Nat) (L : List NodeR) (x : Int) (w : Value) (l : List AreaR) (R : SPrg h b mb L) (hok : OkG L) (hs : Areas h w l) (hwb : blkOf w ≠ some mb) (hl : l.length ≤ 1000000) (hL : L.length ≤ 2000) :
    Runs M 28 [.pointer (some ⟨b, 0, none⟩), .int .i64 x, w] h fun v h' => h.n ≤ h'.n ∧ Wf h' ∧ (∀ c, c < h.n → c ≠ mb → h'.get c = h.get c) ∧ v = .int .i64 (errM (absN L) x l) ∧
      ∃ L', SPrg h' b mb L' ∧ (∀ p, p ∈ absN L' ↔ p ∈ setM (absN L) x l) ∧ L'.length ≤ L.length + 1 ∧ ∀ c, FPrg b mb L' c → FPrg b mb L c ∨ (h.n ≤ c ∧ c < h'.n) := by
  have hne := R.ne
  have old : ∀ {k : Heap}, Kept h [mb] k → ∀ {c : Nat}, c < h.n → c ≠ mb → k.get c = h.get c := fun kk c hc hn => kk.old c hc (by simpa using hn)
  have keepA : ∀ {k : Heap} {v : Value} {l : List AreaR}, Kept h [mb] k → Areas h v l → blkOf v ≠ some mb → Areas k v l := fun kk hs hv => SliceS.keep hs kk.n (fun c hc => old kk (hs.sl.blk_lt hc) (fun e => hv (e ▸ hc)))
  have hP : ∀ {k : Heap}, Kept h [mb] k → k.get mb = some (.map (mapC L)) → PrgG k b mb L := fun kk e =>
    ⟨Nat.lt_of_lt_of_le R.g.hb kk.n, (old kk R.g.hb hne).trans R.g.gb, Nat.lt_of_lt_of_le R.g.hm kk.n, e, R.g.nd, fun n hn => keepA kk (R.g.ar n hn) (R.d n hn)⟩
  have hW : ∀ {H : List Ent}, Has h [mb] H fun k => Areas k w l := fun k kk _ => keepA kk hs hwb
  have hP0 : Has h [mb] [.blk mb (.map (mapC L))] fun k => PrgG k b mb L := fun k kk hb => hP kk (hb.at (i := 0) rfl).2.1
  have fin : ∀ {k : Heap} {L' : List NodeR}, Kept h [mb] k → k.get mb = some (.map (mapC L')) → (ats L').Nodup → (∀ n ∈ L', n ∈ L ∨ (Areas k n.av n.ar ∧ ∀ c, blkOf n.av = some c → h.n ≤ c)) → SPrg k b mb L' ∧ ∀ c, FPrg b mb L' c → FPrg b mb L c ∨ (h.n ≤ c ∧ c < k.n) := by
    intro k L' kk hg hnd hn
    refine ⟨⟨⟨Nat.lt_of_lt_of_le R.g.hb kk.n, (old kk R.g.hb hne).trans R.g.gb, Nat.lt_of_lt_of_le R.g.hm kk.n, hg, hnd, fun n hm => ?_⟩, fun n hm e => ?_⟩, fun c hc => ?_⟩
    · rcases hn n hm with h1 | h1
      · exact keepA kk (R.g.ar n h1) (R.d n h1)
      · exact h1.1
    · rcases hn n hm with h1 | h1
      · exact R.d n h1 e
      · have := h1.2 mb e
        have := R.g.hm
        omega
    · rcases hc with rfl | rfl | ⟨n, hm, hc⟩
      · exact .inl (.inl rfl)
      · exact .inl (.inr (.inl rfl))
      · rcases hn n hm with h1 | h1
        · exact .inl (.inr (.inr ⟨n, h1, hc⟩))
        · exact .inr ⟨h1.2 c hc, h1.1.sl.blk_lt hc⟩
  have same : ∀ {k : Heap}, Kept h [mb] k → k.get mb = some (.map (mapC L)) → errM (absN L) x l ≠ 0 → ∃ L', SPrg k b mb L' ∧ (∀ p, p ∈ absN L' ↔ p ∈ setM (absN L) x l) ∧ L'.length ≤ L.length + 1 ∧ ∀ c, FPrg b mb L' c → FPrg b mb L c ∨ (h.n ≤ c ∧ c < k.n) := fun kk e he => by
    obtain ⟨f1, f2⟩ := fin kk e R.g.nd (fun n hn => .inl hn)
    exact ⟨L, f1, fun p => by rw [setM_bad he], by omega, f2⟩
  have hlen := left_len (x := x) R.g.nd
  have e14 : okRef (atC x) (atR x) = false → errM (absN L) x l = 14 := fun h => errM_14 (by rw [← okRef_at]; exact h)
  have e1 : okRef (atC x) (atR x) = true → (l.any fun a => !okA a) = true → errM (absN L) x l = 1 := fun h1 h2 => errM_1 (by rw [← okRef_at]; exact h1) (by rw [all_any] at h2; simpa using h2)
  have e5 : okRef (atC x) (atR x) = true → (l.any fun a => !okA a) = false → (500 < l.length ∨ (0 < l.length ∧ (nodeOf L x).isSome = false ∧ 2000 ≤ L.length)) → errM (absN L) x l = 5 := fun h1 h2 h3 => errM_5 (by rw [← okRef_at]; exact h1) (by rw [all_any] at h2; simpa using h2) (by
    rcases h3 with h3 | ⟨h3, h4, h5⟩
    · exact .inl h3
    · rw [hlen, h4]; exact .inr ⟨h5, h3⟩)
  have e0 : okRef (atC x) (atR x) = true → (l.any fun a => !okA a) = false → ¬ 500 < l.length → (¬ 0 < l.length ∨ (nodeOf L x).isSome = true ∨ ¬ 2000 ≤ L.length) → errM (absN L) x l = 0 := fun h1 h2 h3 h4 => errM_0 (by rw [← okRef_at]; exact h1) (by rw [all_any] at h2; simpa using h2) (by
    rintro (h5 | ⟨h5, h6⟩)
    · exact h3 h5
    · rw [hlen] at h5
      rcases h4 with h4 | h4 | h4
      · exact h4 h6
      · rw [h4, if_pos rfl] at h5; omega
      · split at h5 <;> omega)
  have drop : errM (absN L) x l = 0 → l.length = 0 → ∀ {k : Heap}, Kept h [mb] k → k.get mb = some (.map (mapC (dropN L x))) → ∃ L', SPrg k b mb L' ∧ (∀ p, p ∈ absN L' ↔ p ∈ setM (absN L) x l) ∧ L'.length ≤ L.length + 1 ∧ ∀ c, FPrg b mb L' c → FPrg b mb L c ∨ (h.n ≤ c ∧ c < k.n) := fun he h0 {k} kk hg => by
    obtain ⟨d1, d2⟩ := dropN_ok (x := x) R.g.nd
    obtain ⟨f1, f2⟩ := fin kk hg d1 (fun n hn => .inl ((d2 n).1 hn).1)
    refine ⟨_, f1, fun p => ?_, ?_, f2⟩
    · rw [mem_setM he, mem_absN, mem_absN]
      constructor
      · rintro ⟨n, hn, rfl⟩
        obtain ⟨q1, q2⟩ := (d2 n).1 hn
        exact .inl ⟨⟨n, q1, rfl⟩, q2⟩
      · rintro (⟨⟨n, hn, rfl⟩, q⟩ | ⟨q, _⟩)
        · exact ⟨n, (d2 n).2 ⟨hn, q⟩, rfl⟩
        · exact absurd h0 q
    · unfold dropN
      cases L.findIdx? (fun m => m.at_ == x) with
      | none => simp
      | some i => simp only; rw [List.length_eraseIdx]; split <;> omega
  have put : errM (absN L) x l = 0 → l.length ≠ 0 → ∀ {k : Heap} {av : Value}, Kept h [mb] k → k.get mb = some (.map (mapC (putN L ⟨x, av, l⟩))) → OwnL h k av 8 52 (l.map encA) → ∃ L', SPrg k b mb L' ∧ (∀ p, p ∈ absN L' ↔ p ∈ setM (absN L) x l) ∧ L'.length ≤ L.length + 1 ∧ ∀ c, FPrg b mb L' c → FPrg b mb L c ∨ (h.n ≤ c ∧ c < k.n) := fun he h0 {k av} kk hg ho => by
    obtain ⟨d1, d2, d3⟩ := putN_ok (n := ⟨x, av, l⟩) R.g.nd
    obtain ⟨f1, f2⟩ := fin kk hg d1 (fun n hn => by
      rcases (d2 n).1 hn with rfl | h1
      · exact .inr ⟨OwnL.sliceS elem39 ho, fun c hc => ho.blk_ge hc⟩
      · exact .inl h1.1)
    refine ⟨_, f1, fun p => ?_, d3, f2⟩
    rw [mem_setM he, mem_absN, mem_absN]
    constructor
    · rintro ⟨n, hn, rfl⟩
      rcases (d2 n).1 hn with rfl | h1
      · exact .inr ⟨h0, rfl⟩
      · exact .inl ⟨⟨n, h1.1, rfl⟩, h1.2⟩
    · rintro (⟨⟨n, hn, rfl⟩, q⟩ | ⟨_, rfl⟩)
      · exact ⟨n, (d2 n).2 (.inr ⟨hn, q⟩), rfl⟩
      · exact ⟨⟨x, av, l⟩, (d2 _).2 (.inl rfl), rfl⟩
  refine Runs.enter h hwf [mb] [.blk mb (.map (mapC L))] ⟨fun y hy => by rw [List.mem_singleton.1 hy]; exact ⟨R.g.hm, R.g.gm, .inr (by simp)⟩, List.pairwise_singleton _ _⟩ (fn := Try.f28) (by kernel_rfl) (by kernel_rfl) rfl (by kernel_rfl) ?_
  repeat' (first
    | refine WC.seq ?_ | refine WC.region ?_ | refine WC.block ?_ | refine WC.condT rfl ?_ | refine WC.condF rfl ?_ | refine WC.skip ?_ | refine WC.exit ?_ | refine WC.ret ?_ | refine WC.scope ?_
    | (refine WO.isG ?_; refine WO.unwanted rfl rfl ?_)
    | (refine WO.isMove ?_; first | refine WO.move rfl rfl rfl ?_)
    | (refine WO.isPick ?_; first | refine WO.pickT rfl rfl rfl rfl ?_ | refine WO.pickF rfl rfl rfl rfl ?_)
    | (refine WO.isLoad ?_; first | refine WO.ldF (PrgG.hld hP0) rfl rfl rfl ?_ | (refine WO.ldF (Areas.lda hW ?_ ?_) rfl rfl rfl ?_; omega; omega) | (refine WO.ldF (Areas.ldb hW ?_ ?_) rfl rfl rfl ?_; omega; omega) | (refine WO.ldF (Areas.ldw' aty39 hW ?_ ?_) rfl rfl rfl ?_; omega; omega))
    | (refine WO.isFA ?_; first | refine WO.fa fa80_0 rfl rfl rfl ?_ | (refine WO.faF (Areas.fa0' aty39 hW ?_ ?_) rfl rfl rfl ?_; omega; omega) | (refine WO.faF (Areas.fa1' aty39 hW ?_ ?_) rfl rfl rfl ?_; omega; omega))
    | (refine WO.isBin ?_; first | (refine WO.lss rfl rfl rfl rfl ?_ ?_ <;> intro hc) | (refine WO.leq rfl rfl rfl rfl ?_ ?_ <;> intro hc) | (refine WO.gtr rfl rfl rfl rfl ?_ ?_ <;> intro hc) | (refine WO.geq rfl rfl rfl rfl ?_ ?_ <;> intro hc) | (refine WO.eql rfl rfl rfl rfl ?_ ?_ <;> intro hc) | (refine WO.neq rfl rfl rfl rfl ?_ ?_ <;> intro hc) | (refine WO.add rfl rfl rfl rfl ?_ ?_ ?_; omega; omega) | (refine WO.sub rfl rfl rfl rfl ?_ ?_ ?_; omega; omega) | (refine WO.rem rfl rfl rfl rfl ?_ ?_; omega))
    | (refine WO.isAssign ?_; first | refine WO.assign rfl rfl rfl ?_)
    | (refine WO.isCall ?_; first | refine WO.callV (g := 50) (fun h' hh _ => At50_runs h' hh.top x) rfl rfl rfl rfl ?_ | (refine WO.callB (g := 49) (fun h' hh _ => Right49_runs h' hh.top _ _ _ _) rfl rfl rfl rfl ?_ ?_ <;> intro hc1) | (refine WO.callB (g := 51) (fun h' hh hb => ContainsA51_runs h' hh.top w l 52 #[] #[] (fun a => !okA a) (hW h' hh hb) (by omega) (fun a _ h2 g => Set52_runs h2 g.top a)) rfl rfl rfl rfl ?_ ?_ <;> intro hc2) | refine WO.lenF (PrgG.hlen hP0) rfl rfl rfl ?_ | refine WO.lenF (Areas.len' aty39 hW) rfl rfl rfl ?_ | (refine WO.delF 0 (del78 L x) rfl rfl rfl rfl rfl rfl ?_))
    | (refine WO.isUn ?_; first | refine WO.notT rfl rfl rfl ?_ | refine WO.notF rfl rfl rfl ?_ | (refine WO.notS rfl rfl rfl ?_ ?_ <;> intro hc) | (refine WO.neg rfl rfl rfl ?_ ?_ ?_; omega; omega))
    | (refine WO.isIA ?_; first | (refine WO.ixF (Areas.ix' aty39 hW ?_ ?_) rfl rfl rfl rfl ?_; omega; omega))
    | (refine WO.isNil ?_; first | refine WO.nilCheck rfl rfl rfl ?_)
    | (refine WO.isExt ?_; first | refine WO.extract rfl rfl rfl rfl ?_)
    | (refine WO.isLook ?_; first | refine WO.lookF (PrgG.hlook2 hP0) rfl rfl rfl rfl ?_)
    | refine WO.nil ?_)
  all_goals first
    | (exfalso; omega)
    | (have he := e1 hc1 hc2
       exact ⟨_, ⟨_, _, rfl, rfl, rfl⟩, fun h' k bb => ⟨k.n, k.top, fun c hc hne => old k hc hne, by rw [he]; rfl, same k (bb.at (i := 0) rfl).2.1 (by rw [he]; decide)⟩⟩)
    | (have he := e14 hc1
       exact ⟨_, ⟨_, _, rfl, rfl, rfl⟩, fun h' k bb => ⟨k.n, k.top, fun c hc hne => old k hc hne, by rw [he]; rfl, same k (bb.at (i := 0) rfl).2.1 (by rw [he]; decide)⟩⟩)
    | (have he := e5 hc1 hc2 (by first | exact .inl (by omega) | exact .inr ⟨by omega, by assumption, by omega⟩)
       exact ⟨_, ⟨_, _, rfl, rfl, rfl⟩, fun h' k bb => ⟨k.n, k.top, fun c hc hne => old k hc hne, by rw [he]; rfl, same k (bb.at (i := 0) rfl).2.1 (by rw [he]; decide)⟩⟩)
    | (have he := e0 hc1 hc2 (by omega) (by first | exact .inl (by omega) | exact .inr (.inl (by assumption)) | exact .inr (.inr (by omega)))
       first
         | exact ⟨_, ⟨_, _, rfl, rfl, rfl⟩, fun h' k bb => ⟨k.n, k.top, fun c hc hne => old k hc hne, by rw [he]; rfl, drop he (by omega) k (bb.at (i := 0) rfl).2.1⟩⟩
         | (repeat' (first
    | refine WC.drawU (id := 2) hN [0, 1, 2, 3, 4, 5, 6, 7] [(3, [6, 7], false)] [] (by kernel_rfl) (by kernel_rfl) (by kernel_rfl) ?_
    | refine WO.nil ⟨⟨⟨[.blk mb (.map (mapC L))], St.ldF (PrgG.hld hP0) (veq_map mb) rfl rfl, (by
  refine ⟨?_, ?_⟩
  · repeat (first | exact trivial | refine ⟨⟨_, rfl, ?_⟩, ?_⟩ | exact List.nil_sublist _ | exact List.Sublist.refl _ | apply List.Sublist.cons_cons | apply List.Sublist.cons)
  · intro e; first | (cases e; done) | (repeat (first | exact List.nil_sublist _ | exact List.Sublist.refl _ | apply List.Sublist.cons_cons | apply List.Sublist.cons)))⟩, trivial⟩, trivial, ?_⟩
    | refine WC.seq ?_ | refine WC.region ?_ | refine WC.block ?_ | refine WC.condT rfl ?_ | refine WC.condF rfl ?_ | refine WC.skip ?_ | refine WC.exit ?_ | refine WC.ret ?_ | refine WC.scope ?_
    | (refine WO.isG ?_; refine WO.unwanted rfl rfl ?_)
    | (refine WO.isMove ?_; first | refine WO.move rfl rfl rfl ?_)
    | (refine WO.isPick ?_; first | refine WO.pickT rfl rfl rfl rfl ?_ | refine WO.pickF rfl rfl rfl rfl ?_)
    | (refine WO.isLoad ?_; first | refine WO.ldF (PrgG.hld hP0) rfl rfl rfl ?_)
    | (refine WO.isFA ?_; first | refine WO.fa fa80_0 rfl rfl rfl ?_)
    | (refine WO.isBin ?_; first | (refine WO.lss rfl rfl rfl rfl ?_ ?_ <;> intro hc) | (refine WO.leq rfl rfl rfl rfl ?_ ?_ <;> intro hc) | (refine WO.gtr rfl rfl rfl rfl ?_ ?_ <;> intro hc) | (refine WO.geq rfl rfl rfl rfl ?_ ?_ <;> intro hc) | (refine WO.eql rfl rfl rfl rfl ?_ ?_ <;> intro hc) | (refine WO.neq rfl rfl rfl rfl ?_ ?_ <;> intro hc) | (refine WO.add rfl rfl rfl rfl ?_ ?_ ?_; omega; omega) | (refine WO.sub rfl rfl rfl rfl ?_ ?_ ?_; omega; omega) | (refine WO.rem rfl rfl rfl rfl ?_ ?_; omega))
    | (refine WO.isAssign ?_; first | refine WO.assign rfl rfl rfl ?_)
    | (refine WO.isCall ?_; first | (refine WO.callO (g := 47) rfl rfl rfl rfl (fun h' hh hb => Clone47_runs h' hh.top w l (hW h' hh hb) (by omega)) ?_; intro av))
    | (refine WO.isUn ?_; first | refine WO.notT rfl rfl rfl ?_ | refine WO.notF rfl rfl rfl ?_ | (refine WO.notS rfl rfl rfl ?_ ?_ <;> intro hc) | (refine WO.neg rfl rfl rfl ?_ ?_ ?_; omega; omega))
    | (refine WO.isNil ?_; first | refine WO.nilCheck rfl rfl rfl ?_)
    | (refine WO.isMapU ?_; first | refine WO.updF 1 (upd78 L ⟨x, av, l⟩) rfl rfl rfl rfl rfl rfl rfl ?_)
    | refine WO.nil ?_)
            exact ⟨_, ⟨_, _, rfl, rfl, rfl⟩, fun h' k bb => ⟨k.n, k.top, fun c hc hne => old k hc hne, by rw [he]; rfl, put he (by omega) k (bb.at (i := 1) rfl).2.1 (bb.at (i := 0) rfl)⟩⟩))
    | skip
end Go.Proofs.Ythggbjpanpnlnaa

/- The program's graph (chapter 20) on the ideal machine: lists whose head is cut off; counts. -/
namespace Go.Proofs.Ythggbjpanpnlnaa
open Go Go.Ideal
set_option maxHeartbeats 4000000

section
variable {X : Mach} {N : Nat} {B : Heap} {Mu : List Nat} {U : Hist} {ops : Array Oper} {rest : List Oper} {ρ : Regs} {H : List Ent} {K : Hist → Regs → List Ent → Prop}
/-- What is known of a part of memory is said in other words. -/
theorem blks_turn (k0 : Nat) {E E' : Ent} {h : Heap} (hb : Blks B Mu H h) (hk : H[k0]? = some E) (ht : E.ok B Mu h → E'.ok B Mu h) (hf : ∀ b, E'.fp b → E.fp b) : Blks B Mu (H.set k0 E') h :=
  hb.set hk (Nat.le_refl _) (fun _ _ _ => rfl) (ht (hb.at hk)) (fun b e => .inl (hf b e))
theorem WO.turnO (k0 : Nat) {E E' : Ent} {H' : List Ent} {l : List Oper} (hk : H[k0]? = some E) (ht : ∀ h, Kept B Mu h → E.ok B Mu h → E'.ok B Mu h) (hf : ∀ b, E'.fp b → E.fp b) (hH : H.set k0 E' = H') (k : WO X N B Mu U ops l ρ H' K) : WO X N B Mu U ops l ρ H K :=
  .mk fun t h hkn hh hb => k.go t h hkn hh (by rw [← hH]; exact blks_turn k0 hb hk (ht h hh) hf)
theorem WC.turnC (k0 : Nat) {E E' : Ent} {H' : List Ent} {c : Code} {Q : IExit → Regs → List Ent → Prop} (hk : H[k0]? = some E) (ht : ∀ h, Kept B Mu h → E.ok B Mu h → E'.ok B Mu h) (hf : ∀ b, E'.fp b → E.fp b) (hH : H.set k0 E' = H') (k : WC X N B Mu c ρ H' Q) : WC X N B Mu c ρ H Q :=
  .mk fun t h hkn hh hb => k.go t h hkn hh (by rw [← hH]; exact blks_turn k0 hb hk (ht h hh) hf)
end

/-- A slice of ints of its own, to the end of its room. -/
def TailI (h : Heap) (v : Value) (l : List Int) : Prop :=
  (v = .slice none 0 0 ∧ l = []) ∨ ∃ b o sp row, v = .slice (some ⟨b, o, sp⟩) l.length l.length ∧ (sp = none ∨ sp = some 0) ∧ b < h.n ∧ h.get b = some (.cells row 3 false) ∧ o + l.length ≤ row.length ∧ cut row o l.length = l.map (Value.int .i64)
def tailE (v : Value) (l : List Int) : Ent := .rep (fun c => blkOf v = some c) (fun h => TailI h v l)
theorem info3' : ∃ inf, M.P.info? 3 = some inf ∧ inf.size = 1 := info3
theorem cut_one {row : List Value} {o n : Nat} {l : List Int} (h : cut row o n = l.map (Value.int .i64)) (hn : l.length = n) : ∀ (i : Nat) cs, (l.map encI)[i]? = some cs → cut row (o + i * 1) 1 = cs := by
  intro i cs hi
  rw [List.getElem?_map] at hi
  cases hx : l[i]? with
  | none => rw [hx] at hi; cases hi
  | some x =>
    rw [hx] at hi
    cases hi
    have hlt : i < l.length := by
      rcases Nat.lt_or_ge i l.length with h' | h'
      · exact h'
      · rw [List.getElem?_eq_none h'] at hx; cases hx
    have h1 : (cut row o n)[i]? = some (.int .i64 x) := by rw [h, List.getElem?_map, hx]; rfl
    rw [cut_get, if_pos (by omega)] at h1
    apply List.ext_getElem?
    intro j
    rw [cut_get]
    match j with
    | 0 => rw [if_pos (by omega), Nat.mul_one, Nat.add_zero, h1]; rfl
    | j + 1 => rw [if_neg (by omega)]; rfl
theorem TailI.ints {h : Heap} {v : Value} {l : List Int} (t : TailI h v l) : IntsS h v l := by
  rcases t with ⟨rfl, rfl⟩ | ⟨b, o, sp, row, rfl, h2, h3, h4, h5, h6⟩
  · exact .inl ⟨rfl, rfl⟩
  · obtain ⟨inf, q1, q2⟩ := info3
    exact .inr ⟨b, o, sp, l.length, row, 3, false, by simp, by simp, h2, h3, h4, by simpa using h5, cut_one h6 rfl, fun _ => ⟨inf, q1, q2⟩⟩
theorem IntsS.ints {B : Heap} {Mu : List Nat} {H : List Ent} {v : Value} {l : List Int} (s : Has B Mu H fun h => IntsS h v l) : Has B Mu H fun h => Ints h v l := fun h hh hb => (s h hh hb).sl
theorem TailI.has {B : Heap} {Mu : List Nat} {H : List Ent} {v : Value} {l : List Int} (k0 : Nat) (hk : H[k0]? = some (tailE v l)) : Has B Mu H fun h => IntsS h v l := fun h hh hb => (hb.at hk).1.ints
theorem TailI.keep {g g' : Heap} {v : Value} {l : List Int} (t : TailI g v l) (hn : g.n ≤ g'.n) (hk : ∀ b, blkOf v = some b → g'.get b = g.get b) : TailI g' v l := by
  rcases t with t | ⟨b, o, sp, row, h1, h2, h3, h4, h5⟩
  · exact .inl t
  · exact .inr ⟨b, o, sp, row, h1, h2, Nat.lt_of_lt_of_le h3 hn, (hk b (by rw [h1]; rfl)).trans h4, h5⟩
theorem tail_ok {B : Heap} {Mu : List Nat} {h : Heap} {v : Value} {l : List Int} (t : TailI h v l) (hf : ∀ b, blkOf v = some b → B.n ≤ b ∨ b ∈ Mu) : (tailE v l).ok B Mu h := by
  refine ⟨t, fun b hb => ⟨?_, hf b hb⟩, fun g g' tg hn hk => tg.keep hn hk⟩
  exact t.ints.sl.blk_lt hb
theorem own_tail {B : Heap} {Mu : List Nat} {h : Heap} {v : Value} {l : List Int} (o : (Ent.own v 1 3 (l.map encI)).ok B Mu h) : (tailE v l).ok B Mu h := by
  have ho : OwnL B h v 1 3 (l.map encI) := o
  refine tail_ok ?_ (fun b hb => .inl (ho.blk_ge hb))
  obtain ⟨h1, ⟨h2, h3⟩ | ⟨b, sp, h2, h3, h4, h5, h6⟩⟩ := ho
  · exact .inl ⟨h2, by simpa using h3⟩
  · have e : (l.map encI).flatten = l.map (Value.int .i64) := map_encI l
    rw [e] at h6
    refine .inr ⟨b, 0, sp, l.map (Value.int .i64), by simpa using h2, h3, h5, h6, by simp, ?_⟩
    unfold cut
    rw [List.drop_zero, ← List.length_map (f := Value.int .i64), List.take_length]
theorem slV_blk (v : Value) (sz a b : Nat) {c : Nat} (h : blkOf (slV v sz a b) = some c) : blkOf v = some c := by
  unfold slV at h
  split at h
  · exact h
  · rename_i c'
    cases hb : Nat.beq c' 0 <;> (rw [hb] at h; exact h)
  · exact h
theorem TailI.tail {h : Heap} {v : Value} {x : Int} {l : List Int} (t : TailI h v (x :: l)) : TailI h (slV v 1 1 (l.length + 1)) l := by
  rcases t with ⟨_, h2⟩ | ⟨b, o, sp, row, rfl, h2, h3, h4, h5, h6⟩
  · cases h2
  · simp only [List.length_cons] at h5 h6 ⊢
    have hc : cut row (o + 1) l.length = l.map (Value.int .i64) := by
      apply List.ext_getElem?
      intro j
      have h7 : (cut row o (l.length + 1))[j + 1]? = ((x :: l).map (Value.int .i64))[j + 1]? := by rw [h6]
      rw [cut_get] at h7
      rw [cut_get]
      simp only [List.map_cons, List.getElem?_cons_succ] at h7
      by_cases hj : j < l.length
      · rw [if_pos hj]
        rw [if_pos (by omega)] at h7
        rw [← h7]; congr 1; omega
      · rw [if_neg hj]
        rw [if_neg (by omega)] at h7
        exact h7
    rcases h2 with rfl | rfl
    · simp only [slV]
      have : Nat.beq (l.length + 1) 0 = false := rfl
      rw [this, cond_false]
      exact .inr ⟨b, o + 1, none, row, by simp, .inl rfl, h3, h4, by omega, hc⟩
    · simp only [slV]
      cases hb : Nat.beq (l.length + 1) 1 with
      | true =>
        have h8 : l.length = 0 := by have := Nat.eq_of_beq_eq_true hb; omega
        have h9 := List.eq_nil_of_length_eq_zero h8
        subst h9
        exact .inr ⟨b, o, some 0, row, by simp, .inr rfl, h3, h4, by simp; simp at h5; omega, rfl⟩
      | false => exact .inr ⟨b, o + 1, some 0, row, by simp, .inr rfl, h3, h4, by omega, hc⟩

theorem append_tail {ty : TypeId} {B h : Heap} {Mu : List Nat} {v x : Value} {l m : List Int} (hg : Kept B Mu h) (hv : (tailE v l).ok B Mu h) (hx : Ints h x m) (hm : m.length ≠ 0) (hb : l.length + m.length ≤ 17592186044416) :
    ∃ r h', iBuiltin2 M.P .append #[23, 23] ty [v, x] h = some (r, h') ∧ (tailE r (l ++ m)).ok B Mu h' ∧ Kept B Mu h' ∧ h.n ≤ h'.n ∧ (∀ b, b < h.n → blkOf v ≠ some b → h'.get b = h.get b) ∧ (∀ b, blkOf r = some b → h.n ≤ b) := by
  obtain ⟨inf, z, hi, hs, hby, hz, hzs⟩ := elem23.info
  have hsrc := SliceL.src hx
  rw [← hs, List.length_map, map_encI] at hsrc
  have hzz : Nat.beq z.cells.size inf.size = true := by rw [hzs, hs]; simp
  have hall : (m.map (Value.int .i64)).all oneC = true := by rw [List.all_eq_true]; intro y hy; obtain ⟨n, _, rfl⟩ := List.mem_map.1 hy; rfl
  have e0 : iBuiltin2 M.P .append #[23, 23] ty [v, x] h = iAppend M.P 23 23 v x h := rfl
  have hb0 : Nat.beq m.length 0 = false := by
    cases hq : Nat.beq m.length 0 with
    | false => rfl
    | true => exact absurd (Nat.eq_of_beq_eq_true hq) hm
  have hkpush : ∀ o, Kept B Mu (h.push o) := fun o => hg.grow (Grow.push hg.top o)
  have newok : ∀ (g : Heap), h.n < g.n → g.get h.n = some (.cells ((l ++ m).map (Value.int .i64)) 3 false) → (tailE (.slice (some ⟨h.n, 0, none⟩) (l.length + m.length) (l.length + m.length)) (l ++ m)).ok B Mu g := fun g hlt hgg => by
    refine tail_ok (.inr ⟨h.n, 0, none, (l ++ m).map (Value.int .i64), by simp, .inl rfl, hlt, hgg, by simp, ?_⟩) (fun b hb => by cases hb; exact .inl hg.n)
    unfold cut
    rw [List.drop_zero, ← List.length_map (f := Value.int .i64), List.take_length]
  rw [e0]
  unfold iAppend
  simp only [Try.underlying23, show M.P.underlying 23 = some (.slice 3) from Try.underlying23, Option.bind_some, hi, hz, show noInt (.slice 3) = true from rfl, hzz, Bool.and_self, chk, cond_true, hsrc, hb0, cond_false]
  have h1 : Nat.ble ((l.length + m.length) * inf.bytes) bnd47 = true := Nat.ble_eq_true_of_le (by rw [hby]; simp only [bnd47]; omega)
  have h2 : Nat.ble (l.length + m.length) bnd63 = true := Nat.ble_eq_true_of_le (by simp only [bnd63]; omega)
  rcases hv.1 with ⟨rfl, rfl⟩ | ⟨b, o, sp, row, rfl, g2, g3, g4, g5, g6⟩
  · simp only [List.length_nil, Nat.zero_add] at h1 h2 newok
    simp only [h1, h2, Bool.and_self, cond_true]
    refine ⟨_, _, rfl, newok _ (Nat.lt_succ_self _) (by rw [Heap.get_push, if_pos rfl]; simp), hkpush _, Nat.le_succ _, fun b hb' _ => by rw [Heap.get_push, if_neg (by omega)], fun b e => by cases e; exact Nat.le_refl _⟩
  · have hroom : Nat.ble (l.length + m.length) l.length = false := by
      cases hq : Nat.ble (l.length + m.length) l.length with
      | false => rfl
      | true => have := Nat.le_of_ble_eq_true hq; omega
    have h6 : Nat.ble (o + l.length * inf.size) row.length = true := Nat.ble_eq_true_of_le (by rw [hs]; omega)
    have hcut : cut row o (l.length * inf.size) ++ m.map (Value.int .i64) = (l ++ m).map (Value.int .i64) := by rw [hs, Nat.mul_one, g6, List.map_append]
    simp only [rowOf, g4, Option.bind_some, hroom, cond_false, h1, h2, h6, Bool.and_self, cond_true, hcut]
    rcases g2 with rfl | rfl
    · simp only [Bool.not_false, hall, elem23.plain, show Nat.beq 3 3 = true from rfl, Bool.and_self, cond_true]
      refine ⟨_, _, rfl, newok _ (Nat.lt_succ_self _) ?_, ⟨Nat.le_trans hg.n (Nat.le_succ _), ?_, ?_⟩, Nat.le_succ _, ?_, fun b e => by cases e; exact Nat.le_refl _⟩
      · show ((h.put b .dead).push _).get h.n = _
        rw [Heap.get_push, if_pos (show h.n = (h.put b .dead).n from rfl)]
      · intro c hc hmm
        have hbB := (hv.2.1 b rfl).2
        rw [Heap.get_push, if_neg (by show c ≠ h.n; have := hg.n; omega), Heap.get_put, if_neg (fun e => by rcases hbB with h9 | h9; omega; exact hmm (e ▸ h9))]
        exact hg.old c hc hmm
      · intro c hc
        have hc : h.n + 1 ≤ c := hc
        rw [Heap.get_push, if_neg (by show c ≠ h.n; omega), Heap.get_put, if_neg (by omega)]
        exact hg.top c (by omega)
      · intro c hc hne
        rw [Heap.get_push, if_neg (by show c ≠ h.n; omega), Heap.get_put, if_neg (fun e => hne (by rw [e]; rfl))]
    · exact ⟨_, _, rfl, newok _ (Nat.lt_succ_self _) (by rw [Heap.get_push, if_pos rfl]), hkpush _, Nat.le_succ _, fun c hc _ => by rw [Heap.get_push, if_neg (by omega)], fun b e => by cases e; exact Nat.le_refl _⟩
theorem WO.appT {N : Nat} {B : Heap} {Mu : List Nat} {U : Hist} {ops : Array Oper} {rest : List Oper} {ρ : Regs} {H : List Ent} {K : Hist → Regs → List Ent → Prop} {dst : Option Tmp} {ty : TypeId} {pos : String} {af : Array Edge} {gd : Option (Nat × Bool)} (k0 : Nat) {args : Array Operand} {s x : Value} {l m : List Int} {H' : Value → List Ent}
    (hx : Has B Mu H fun h => Ints h x m) (hm : m.length ≠ 0) (hb : l.length + m.length ≤ 17592186044416) (hw : iwR ops gd ρ = some true) (ha : evL ρ args.toList = some [s, x]) (hk : H[k0]? = some (tailE s l)) (hH : ∀ v, H.set k0 (tailE v (l ++ m)) = H' v) (hd : dOK N dst = true)
    (k : ∀ v, WO M N B Mu (some H :: U) ops rest (putR dst v ρ) (H' v) K) : WO M N B Mu U ops (⟨dst, .call { callee := .builtin .append, args := args, argTypes := #[23, 23] }, ty, pos, af, gd⟩ :: rest) ρ H K := by
  refine WO.step (C := fun v H1 => H1 = H' v) (some H) (.inr rfl) hw (fun t' h hk' hh hb' => ?_) hd (fun v H1 e => by rw [e]; exact k v)
  obtain ⟨r, h', g1, g2, g3, g4, g5, g6⟩ := append_tail (ty := ty) hh (hb'.at hk) (hx h hh hb') hm hb
  refine ⟨0, r, h', H.set k0 (tailE r (l ++ m)), fun _ _ => ?_, g3, hb'.set hk g4 g5 g2 (fun b e => .inr (g6 b e)), hH r⟩
  show iBuiltin2 M.P .append #[23, 23] ty (args.toList.map (ev M.G t')) h = _
  rw [evL_ev hk' ha]
  exact g1
end Go.Proofs.Ythggbjpanpnlnaa

/- The program's graph (chapter 20) on the ideal machine: who hangs on whom. -/
namespace Go.Proofs.Ythggbjpanpnlnaa
open Go Go.Ideal
set_option maxHeartbeats 4000000

/-- Counts of cells. -/
abbrev Cnt := List (Int × Int)
def toN (q : Int × Int) : NodeR := ⟨q.1, .int .i64 q.2, []⟩
def keysS (S : Cnt) : List Int := S.map (·.1)
def cnt (S : Cnt) (k : Int) : Int := match S.findIdx? (fun q => q.1 == k) with
  | some i => (S.getD i (0, 0)).2
  | none => 0
def putS (S : Cnt) (k c : Int) : Cnt := match S.findIdx? (fun q => q.1 == k) with
  | some i => S.set i (k, c)
  | none => S ++ [(k, c)]
def cntC (S : Cnt) : List (Value × Value) := mapC (S.map toN)
theorem ats_toN (S : Cnt) : ats (S.map toN) = keysS S := by simp [ats, keysS, toN]
theorem find_toN (S : Cnt) (k : Int) : (S.map toN).findIdx? (fun m => m.at_ == k) = S.findIdx? (fun q => q.1 == k) := by
  rw [List.findIdx?_map]; rfl
theorem put_toN (S : Cnt) (k c : Int) : putN (S.map toN) (toN (k, c)) = (putS S k c).map toN := by
  unfold putN putS
  rw [find_toN S (toN (k, c)).at_]
  show (match S.findIdx? (fun q => q.1 == k) with | some i => (S.map toN).set i (toN (k, c)) | none => S.map toN ++ [toN (k, c)]) = _
  cases S.findIdx? (fun q => q.1 == k) with
  | none => simp
  | some i => simp [List.map_set]
theorem und64 : M.P.underlying 64 = some (.map 3 3) := by kernel_rfl
theorem zero3 : iZero M.P 3 = some (.int .i64 0) := by kernel_rfl
theorem look64 {h : Heap} {mb : Nat} {S : Cnt} (hm : h.get mb = some (.map (cntC S))) (k : Int) : iLookup M.P 64 (.map (some mb)) (.int .i64 k) false h = some (.int .i64 (cnt S k)) := by
  unfold iLookup
  rw [und64]
  simp only [Option.bind_some, und3, plainKey, chk, cond_true, hm, cntC, find_idx, find_toN]
  unfold cnt
  cases hi : S.findIdx? (fun q => q.1 == k) with
  | none => simp only [Option.map_none, zero3, Option.map_some, okv, cond_false]
  | some i =>
    obtain ⟨hlt, _⟩ := List.findIdx?_eq_some_iff_getElem.1 hi
    simp only [Option.map_some, okv, cond_false]
    rw [gN_elem (by simpa using hlt), List.getD_eq_getElem?_getD, List.getElem?_eq_getElem hlt]
    simp [toN]
theorem upd64 (S : Cnt) (k c : Int) : UpdF M 64 (cntC S) (.int .i64 k) (.int .i64 c) (cntC (putS S k c)) := ⟨fun h mb hm => by
  have e : cntC (putS S k c) = mapC (putN (S.map toN) (toN (k, c))) := by unfold cntC; rw [put_toN]
  rw [e]
  unfold iUpdate
  rw [und64]
  simp only [Option.bind_some, und3, plainKey, noAddr, Bool.and_self, chk, cond_true, hm, cntC, find_idx]
  unfold putN
  have e2 : List.findIdx? (fun m : NodeR => m.at_ == (toN (k, c)).at_) (S.map toN) = List.findIdx? (fun m => m.at_ == k) (S.map toN) := rfl
  rw [e2]
  cases List.findIdx? (fun m : NodeR => m.at_ == k) (S.map toN) with
  | none => simp [mapC, toN]
  | some j => simp [mapC, List.map_set, toN]⟩
theorem hlook64 {B : Heap} {Mu : List Nat} {H : List Ent} {mb : Nat} {S : Cnt} {k : Int} (k0 : Nat) (hk : H[k0]? = some (.blk mb (.map (cntC S)))) : LookF M B Mu H 64 (.map (some mb)) (.int .i64 k) false (.int .i64 (cnt S k)) := ⟨fun _ _ hb => look64 (hb.at hk).2.1 k, rfl⟩

theorem keys_put {S : Cnt} {k c : Int} : keysS (putS S k c) = if k ∈ keysS S then keysS S else keysS S ++ [k] := by
  unfold putS
  cases hi : S.findIdx? (fun q => q.1 == k) with
  | none =>
    have hn : k ∉ keysS S := fun hm => by
      obtain ⟨q, hq, e⟩ := List.mem_map.1 hm
      have := List.findIdx?_eq_none_iff.1 hi q hq
      simp [e] at this
    rw [if_neg hn]
    simp [keysS]
  | some i =>
    obtain ⟨hlt, h1, _⟩ := List.findIdx?_eq_some_iff_getElem.1 hi
    have h1 : S[i].1 = k := by simpa using h1
    have hm : k ∈ keysS S := List.mem_map.2 ⟨S[i], List.getElem_mem hlt, h1⟩
    rw [if_pos hm]
    show (S.set i (k, c)).map (·.1) = S.map (·.1)
    rw [List.map_set]
    apply List.ext_getElem?
    intro j
    rw [List.getElem?_set]
    split
    · rename_i hij
      subst hij
      simp [hlt, h1]
    · rfl
theorem cnt_put {S : Cnt} {k c : Int} : cnt (putS S k c) k = c := by
  unfold putS cnt
  cases hi : S.findIdx? (fun q => q.1 == k) with
  | none =>
    have hne := List.findIdx?_eq_none_iff.1 hi
    have e : (S ++ [(k, c)]).findIdx? (fun q => q.1 == k) = some S.length := by
      rw [List.findIdx?_eq_some_iff_getElem]
      refine ⟨by simp, by simp, fun j hj => ?_⟩
      rw [List.getElem_append_left hj]
      have := hne S[j] (List.getElem_mem hj)
      simp only [this]; decide
    simp only [e]
    simp
  | some i =>
    obtain ⟨hlt, h1, h2⟩ := List.findIdx?_eq_some_iff_getElem.1 hi
    have e : (S.set i (k, c)).findIdx? (fun q => q.1 == k) = some i := by
      rw [List.findIdx?_eq_some_iff_getElem]
      refine ⟨by simpa using hlt, by simp, fun j hj => ?_⟩
      rw [List.getElem_set_ne (by omega)]
      exact h2 j hj
    simp only [e]
    simp [List.getD_eq_getElem?_getD, hlt]
theorem cnt_mem {S : Cnt} {k : Int} (h : k ∈ keysS S) : (k, cnt S k) ∈ S := by
  unfold cnt
  cases hi : S.findIdx? (fun q => q.1 == k) with
  | none =>
    obtain ⟨q, hq, e⟩ := List.mem_map.1 h
    have := List.findIdx?_eq_none_iff.1 hi q hq
    simp [e] at this
  | some i =>
    obtain ⟨hlt, h1, _⟩ := List.findIdx?_eq_some_iff_getElem.1 hi
    have h1 : S[i].1 = k := by simpa using h1
    simp only [List.getD_eq_getElem?_getD, List.getElem?_eq_getElem hlt, Option.getD_some]
    rw [← h1]
    exact List.getElem_mem hlt
theorem cnt_none {S : Cnt} {k : Int} (h : k ∉ keysS S) : cnt S k = 0 := by
  unfold cnt
  cases hi : S.findIdx? (fun q => q.1 == k) with
  | none => rfl
  | some i =>
    obtain ⟨hlt, h1, _⟩ := List.findIdx?_eq_some_iff_getElem.1 hi
    have h1 : S[i].1 = k := by simpa using h1
    exact absurd (List.mem_map.2 ⟨S[i], List.getElem_mem hlt, h1⟩) h
theorem mem_put {S : Cnt} {k c : Int} (hn : (keysS S).Nodup) {q : Int × Int} (h : q ∈ putS S k c) : q = (k, c) ∨ (q ∈ S ∧ q.1 ≠ k) := by
  have h2 : toN q ∈ putN (S.map toN) (toN (k, c)) := by rw [put_toN]; exact List.mem_map_of_mem h
  have hn' : (ats (S.map toN)).Nodup := by rw [ats_toN]; exact hn
  rcases ((putN_ok (n := toN (k, c)) hn').2.1 (toN q)).1 h2 with h3 | ⟨h3, h4⟩
  · left
    have e1 : q.1 = k := congrArg NodeR.at_ h3
    have e2 : Value.int .i64 q.2 = Value.int .i64 c := congrArg NodeR.av h3
    have e3 : q.2 = c := by injection e2
    exact Prod.ext e1 e3
  · right
    obtain ⟨q', hq', e⟩ := List.mem_map.1 h3
    have e1 : q'.1 = q.1 := congrArg NodeR.at_ e
    have e2 : Value.int .i64 q'.2 = Value.int .i64 q.2 := congrArg NodeR.av e
    have e3 : q'.2 = q.2 := by injection e2
    have : q' = q := Prod.ext e1 e3
    exact ⟨this ▸ hq', h4⟩

theorem hangs_mem {keys : List Int} {nd : Int → Int → Bool} {l : List Int} {x : Int} (h : Hangs keys nd l x) : x ∈ keys := by cases h <;> assumption
theorem mem_directP {L : List NodeR} {x k : Int} : k ∈ directP L x ↔ k ∈ ats L ∧ need L k x = true := by
  unfold directP
  rw [List.mem_filter, (sortI_perm _).mem_iff]
  rfl
theorem directP_nodup {L : List NodeR} (h : (ats L).Nodup) (x : Int) : (directP L x).Nodup := ((sortI_perm (ats L)).nodup_iff.2 h).sublist List.filter_sublist
theorem directP_len (L : List NodeR) (x : Int) : (directP L x).length ≤ L.length := by
  have h1 := List.length_filter_le (fun a => needs (areasOf L a) x) (sortI (ats L))
  rw [sort_len, ats_len] at h1
  exact h1

/-- The search so far: S are the cells found (in the order in which they were), p how many have been gone through. -/
structure Bfs (L : List NodeR) (l : List Int) (S : Cnt) (p : Nat) : Prop where
  nd : (keysS S).Nodup
  ok : ∀ k ∈ keysS S, Hangs (ats L) (need L) l k
  done : ∀ i, i < p → ∀ k ∈ directP L ((l ++ keysS S).getD i 0), k ∈ keysS S
theorem Bfs.len {L : List NodeR} {l : List Int} {S : Cnt} {p : Nat} (h : Bfs L l S p) : (keysS S).length ≤ L.length := by
  have := nodup_len h.nd (fun x hx => hangs_mem (h.ok x hx))
  rwa [ats_len] at this
theorem getD_pre {a b : List Int} {i : Nat} (h : i < a.length) : (a ++ b).getD i 0 = a.getD i 0 := by
  rw [List.getD_eq_getElem?_getD, List.getD_eq_getElem?_getD, List.getElem?_append_left h]
theorem Bfs.at_ok {L : List NodeR} {l : List Int} {S : Cnt} {p : Nat} (h : Bfs L l S p) {i : Nat} (hi : i < (l ++ keysS S).length) {k : Int} (hk : k ∈ directP L ((l ++ keysS S).getD i 0)) : Hangs (ats L) (need L) l k := by
  obtain ⟨h1, h2⟩ := mem_directP.1 hk
  have hm : (l ++ keysS S).getD i 0 ∈ l ++ keysS S := by
    rw [List.getD_eq_getElem?_getD, List.getElem?_eq_getElem hi]
    exact List.getElem_mem hi
  rcases List.mem_append.1 hm with h3 | h3
  · exact .one k _ h1 h3 h2
  · exact .more k _ h1 (h.ok _ h3) h2
/-- One more cell is counted. -/
theorem Bfs.put {L : List NodeR} {l : List Int} {S : Cnt} {p : Nat} (h : Bfs L l S p) (hp : p ≤ (l ++ keysS S).length) {k c : Int} (hk : Hangs (ats L) (need L) l k) : Bfs L l (putS S k c) p := by
  have e : keysS (putS S k c) = keysS S ∨ (k ∉ keysS S ∧ keysS (putS S k c) = keysS S ++ [k]) := by
    rw [keys_put]
    by_cases hm : k ∈ keysS S
    · rw [if_pos hm]; exact .inl rfl
    · rw [if_neg hm]; exact .inr ⟨hm, rfl⟩
  rcases e with e | ⟨hm, e⟩
  · exact ⟨by rw [e]; exact h.nd, by rw [e]; exact h.ok, by rw [e]; exact h.done⟩
  · refine ⟨?_, ?_, ?_⟩
    · rw [e, List.nodup_append]
      exact ⟨h.nd, by simp, fun a ha b hb => by rw [List.mem_singleton.1 hb]; exact fun e => hm (e ▸ ha)⟩
    · rw [e]
      intro x hx
      rcases List.mem_append.1 hx with hx | hx
      · exact h.ok x hx
      · rw [List.mem_singleton.1 hx]; exact hk
    · rw [e]
      intro i hi x hx
      rw [← List.append_assoc, getD_pre (by omega)] at hx
      exact List.mem_append_left _ (h.done i hi x hx)
theorem Bfs.all {L : List NodeR} {l : List Int} {S : Cnt} (h : Bfs L l S (l ++ keysS S).length) (x : Int) : x ∈ keysS S ↔ Hangs (ats L) (need L) l x := by
  refine ⟨h.ok x, fun hx => ?_⟩
  have key : ∀ y ∈ l ++ keysS S, ∀ k ∈ directP L y, k ∈ keysS S := by
    intro y hy k hk
    obtain ⟨i, hi, e⟩ := List.mem_iff_getElem.1 hy
    refine h.done i hi k ?_
    rw [List.getD_eq_getElem?_getD, List.getElem?_eq_getElem hi, Option.getD_some, e]
    exact hk
  induction hx with
  | one x y hx hy hn => exact key y (List.mem_append_left _ hy) x (mem_directP.2 ⟨hx, hn⟩)
  | more x y hx hy hn ih => exact key y (List.mem_append_right _ ih) x (mem_directP.2 ⟨hx, hn⟩)
theorem asc_sort {l : List Int} (h : l.Nodup) : Asc (sortI l) := by
  have h1 := sortI_sorted l
  have h2 : (sortI l).Nodup := (sortI_perm l).nodup_iff.2 h
  exact List.Pairwise.imp₂ (fun a b (h3 : a ≤ b) (h4 : a ≠ b) => by omega) h1 h2
end Go.Proofs.Ythggbjpanpnlnaa

/- The program's graph (chapter 20) on the ideal machine: who hangs on whom: the walk. -/
namespace Go.Proofs.Ythggbjpanpnlnaa
open Go Go.Ideal
set_option maxHeartbeats 4000000

theorem Keys35_runs (h : Heap) (hwf : Wf h) (mb : Nat) : Runs M 35 [.map (some mb)] h fun r h' => Grow h h' ∧ ∃ p, r = .func (.func 58) #[] #[.pointer (some ⟨p, 0, none⟩)] ∧ Blks h [] [.blk p (.cells [.map (some mb)] 64 false)] h' := by
  refine Runs.enter h hwf [] [] (blks_nil ..) (fn := Try.f35) (by kernel_rfl) (by kernel_rfl) rfl (by kernel_rfl) ?_
  repeat' (first
    | refine WC.seq ?_ | refine WC.region ?_ | refine WC.block ?_ | refine WC.condT rfl ?_ | refine WC.condF rfl ?_ | refine WC.skip ?_ | refine WC.exit ?_ | refine WC.ret ?_ | refine WC.scope ?_
    | (refine WO.isG ?_; refine WO.unwanted rfl rfl ?_)
    | (refine WO.isMove ?_; first | refine WO.move rfl rfl rfl ?_)
    | (refine WO.isPick ?_; first | refine WO.pickT rfl rfl rfl rfl ?_ | refine WO.pickF rfl rfl rfl rfl ?_)
    | (refine WO.isBin ?_; first | (refine WO.lss rfl rfl rfl rfl ?_ ?_ <;> intro hc) | (refine WO.leq rfl rfl rfl rfl ?_ ?_ <;> intro hc) | (refine WO.gtr rfl rfl rfl rfl ?_ ?_ <;> intro hc) | (refine WO.geq rfl rfl rfl rfl ?_ ?_ <;> intro hc) | (refine WO.eql rfl rfl rfl rfl ?_ ?_ <;> intro hc) | (refine WO.neq rfl rfl rfl rfl ?_ ?_ <;> intro hc) | (refine WO.add rfl rfl rfl rfl ?_ ?_ ?_; omega; omega) | (refine WO.sub rfl rfl rfl rfl ?_ ?_ ?_; omega; omega) | (refine WO.rem rfl rfl rfl rfl ?_ ?_; omega))
    | (refine WO.isAssign ?_; first | refine WO.assign rfl rfl rfl ?_)
    | (refine WO.isUn ?_; first | refine WO.notT rfl rfl rfl ?_ | refine WO.notF rfl rfl rfl ?_ | (refine WO.notS rfl rfl rfl ?_ ?_ <;> intro hc) | (refine WO.neg rfl rfl rfl ?_ ?_ ?_; omega; omega))
    | (refine WO.isNil ?_; first | refine WO.nilCheck rfl rfl rfl ?_)
    | (refine WO.isBox ?_; first | (refine WO.box rfl rfl rfl rfl rfl ?_; intro b))
    | (refine WO.isMF ?_; first | refine WO.makeFunc rfl rfl rfl rfl ?_)
    | refine WO.nil ?_)
  exact ⟨_, ⟨_, _, rfl, rfl, rfl⟩, fun h' k bb => ⟨k.pure, _, rfl, bb⟩⟩

theorem WO.sliceT {N : Nat} {B : Heap} {Mu : List Nat} {U : Hist} {ops : Array Oper} {rest : List Oper} {ρ : Regs} {H : List Ent} {K : Hist → Regs → List Ent → Prop} {dst : Option Tmp} {ty : TypeId} {pos : String} {af : Array Edge} {gd : Option (Nat × Bool)} (k0 : Nat) {x lo : Operand} {v : Value} {y : Int} {l : List Int} {H' : List Ent}
    (hw : iwR ops gd ρ = some true) (hx : evR ρ x = some v) (h1 : evR ρ lo = some (.int .i64 1)) (hk : H[k0]? = some (tailE v (y :: l))) (hH : H.set k0 (tailE (slV v 1 1 (l.length + 1)) l) = H') (hd : dOK N dst = true) (k : WO M N B Mu (none :: U) ops rest (putR dst (slV v 1 1 (l.length + 1)) ρ) H' K) :
    WO M N B Mu U ops (⟨dst, .slice 23 x (some lo) none none, ty, pos, af, gd⟩ :: rest) ρ H K := by
  refine WO.sliceV (L := (y :: l).map encI) (l := some (.int .i64 1)) (u := none) sl23 (TailI.has k0 hk) hw hx (by simp only [evO, h1]) rfl (.lo 1 (by omega) (by simp; omega)) hd ?_
  refine WO.turnO k0 hk (fun h hh ho => tail_ok (ho.1.tail) (fun b hb => (ho.2.1 b (slV_blk _ _ _ _ hb)).2)) (fun b hb => slV_blk _ _ _ _ hb) hH ?_
  have e : ((y :: l).map encI).length = l.length + 1 := by simp
  rw [e]
  exact k

theorem bfs_step {L : List NodeR} {l : List Int} {S : Cnt} {p j : Nat} {d : List Int} (hb : Bfs L l S p) (hpl : p < (l ++ keysS S).length) (hd : d = directP L ((l ++ keysS S).getD p 0)) (hdn : d.Nodup) (hjl : j < d.length)
    (hcn : ∀ z ∈ S, 1 ≤ z.2 ∧ z.2 ≤ p + if z.1 ∈ d.take j then 1 else 0) (hin : ∀ k ∈ d.take j, k ∈ keysS S) :
    Bfs L l (putS S (d.getD j 0) (cnt S (d.getD j 0) + 1)) p ∧ (∀ z ∈ putS S (d.getD j 0) (cnt S (d.getD j 0) + 1), 1 ≤ z.2 ∧ z.2 ≤ p + if z.1 ∈ d.take (j + 1) then 1 else 0) ∧ (∀ z ∈ d.take (j + 1), z ∈ keysS (putS S (d.getD j 0) (cnt S (d.getD j 0) + 1))) ∧
      (cnt S (d.getD j 0) + 1 = 1 → keysS (putS S (d.getD j 0) (cnt S (d.getD j 0) + 1)) = keysS S ++ [d.getD j 0]) ∧ (cnt S (d.getD j 0) + 1 ≠ 1 → keysS (putS S (d.getD j 0) (cnt S (d.getD j 0) + 1)) = keysS S) := by
  have htk : ∀ z, z ∈ d.take (j + 1) ↔ z ∈ d.take j ∨ z = d.getD j 0 := by
    intro z
    rw [List.take_add_one, List.getElem?_eq_getElem hjl, List.getD_eq_getElem?_getD, List.getElem?_eq_getElem hjl, List.mem_append]
    simp
  have hnew : d.getD j 0 ∉ d.take j := by
    rw [List.getD_eq_getElem?_getD, List.getElem?_eq_getElem hjl, Option.getD_some]
    intro hm
    have h1 : (d.take j ++ d.drop j).Nodup := by rw [List.take_append_drop]; exact hdn
    rw [List.nodup_append] at h1
    refine h1.2.2 _ hm d[j] ?_ rfl
    rw [List.drop_eq_getElem_cons hjl]
    exact List.mem_cons_self
  have hmk : d.getD j 0 ∈ d := by
    rw [List.getD_eq_getElem?_getD, List.getElem?_eq_getElem hjl, Option.getD_some]; exact List.getElem_mem hjl
  generalize hk : d.getD j 0 = k at *
  have hcb : ∀ k, 0 ≤ cnt S k ∧ cnt S k ≤ p + 1 := fun k => by
    by_cases hm : k ∈ keysS S
    · have := hcn _ (cnt_mem hm)
      simp only at this
      split at this <;> omega
    · rw [cnt_none hm]; omega
  have hhang := hb.at_ok hpl (k := k) (by rw [← hd]; exact hmk)
  have hbp := hb.put (c := cnt S k + 1) (by omega) hhang
  have hkin : k ∈ keysS (putS S k (cnt S k + 1)) := by
    rw [keys_put]; split
    · assumption
    · simp
  have hkm : ∀ z, z ∈ keysS S → z ∈ keysS (putS S k (cnt S k + 1)) := fun z hz => by
    rw [keys_put]; split
    · exact hz
    · exact List.mem_append_left _ hz
  refine ⟨hbp, ?_, ?_, ?_, ?_⟩
  · intro z hz
    rcases mem_put hb.nd hz with rfl | ⟨hz, hzk⟩
    · simp only
      rw [if_pos ((htk k).2 (.inr rfl))]
      have h0 := hcb k
      have : cnt S k ≤ p := by
        by_cases hm : k ∈ keysS S
        · have := (hcn _ (cnt_mem hm)).2
          simp only at this
          rw [if_neg hnew] at this
          omega
        · rw [cnt_none hm]; omega
      omega
    · have h1 := hcn z hz
      refine ⟨h1.1, ?_⟩
      by_cases hm : z.1 ∈ d.take j
      · rw [if_pos hm] at h1
        rw [if_pos ((htk _).2 (.inl hm))]; exact h1.2
      · rw [if_neg hm] at h1
        split <;> omega
  · intro z hz
    rcases (htk z).1 hz with h1 | rfl
    · exact hkm z (hin z h1)
    · exact hkin
  · intro hc
    have hnk : k ∉ keysS S := fun hm => by have := (hcn _ (cnt_mem hm)).1; simp only at this; omega
    rw [keys_put, if_neg hnk]
  · intro hc
    have hyk : k ∈ keysS S := by
      by_cases hm : k ∈ keysS S
      · exact hm
      · rw [cnt_none hm] at hc; exact absurd rfl hc
    rw [keys_put, if_pos hyk]

theorem After13_runs (h : Heap) (hwf : Wf h) (b mb : Nat) (L : List NodeR) (w : Value) (l : List Int) (R : PrgG h b mb L) (hL : OkG L) (hL2 : L.length ≤ 1000000) (hw : Ints h w l) (hl : l.length ≤ 1000000) :
    Runs M 13 [.pointer (some ⟨b, 0, none⟩), w] h fun r h' => Grow h h' ∧ ∃ s, Asc s ∧ (∀ x, x ∈ s ↔ Hangs (ats L) (need L) l x) ∧ OwnL h h' r 1 3 (s.map encI) := by
  refine Runs.enter h hwf [] [] (blks_nil ..) (fn := Try.f13) (by kernel_rfl) (by kernel_rfl) rfl (by kernel_rfl) ?_
  repeat' (first
    | refine WC.seq ?_ | refine WC.region ?_ | refine WC.block ?_ | refine WC.condT rfl ?_ | refine WC.condF rfl ?_ | refine WC.skip ?_ | refine WC.exit ?_ | refine WC.ret ?_ | refine WC.scope ?_
    | (refine WO.isG ?_; refine WO.unwanted rfl rfl ?_)
    | (refine WO.isMove ?_; first | refine WO.move rfl rfl rfl ?_)
    | (refine WO.isPick ?_; first | refine WO.pickT rfl rfl rfl rfl ?_ | refine WO.pickF rfl rfl rfl rfl ?_)
    | (refine WO.isBin ?_; first | (refine WO.lss rfl rfl rfl rfl ?_ ?_ <;> intro hc) | (refine WO.leq rfl rfl rfl rfl ?_ ?_ <;> intro hc) | (refine WO.gtr rfl rfl rfl rfl ?_ ?_ <;> intro hc) | (refine WO.geq rfl rfl rfl rfl ?_ ?_ <;> intro hc) | (refine WO.eql rfl rfl rfl rfl ?_ ?_ <;> intro hc) | (refine WO.neq rfl rfl rfl rfl ?_ ?_ <;> intro hc) | (refine WO.add rfl rfl rfl rfl ?_ ?_ ?_; omega; omega) | (refine WO.sub rfl rfl rfl rfl ?_ ?_ ?_; omega; omega) | (refine WO.rem rfl rfl rfl rfl ?_ ?_; omega))
    | (refine WO.isAssign ?_; first | refine WO.assign rfl rfl rfl ?_)
    | (refine WO.isCall ?_; first | (refine WO.callO (g := 33) rfl rfl rfl rfl (fun h' hh hb => Clone33_runs h' hh.top w l (SliceL.grow hw hh.pure) (by omega)) ?_; intro tv0))
    | (refine WO.isUn ?_; first | refine WO.notT rfl rfl rfl ?_ | refine WO.notF rfl rfl rfl ?_ | (refine WO.notS rfl rfl rfl ?_ ?_ <;> intro hc) | (refine WO.neg rfl rfl rfl ?_ ?_ ?_; omega; omega))
    | (refine WO.isNil ?_; first | refine WO.nilCheck rfl rfl rfl ?_)
    | (refine WO.isMakeMap ?_; first | (refine WO.makeMap rfl rfl ?_; intro ms))
    | refine WO.nil ?_)
  refine WC.turnC 0 (E' := tailE tv0 l) rfl (fun _ _ ho => own_tail ho) (fun _ e => e) rfl ?_
  refine WC.loop (α := Value × Cnt × Nat) (fun q => [(0, .pointer (some ⟨b, 0, none⟩)), (5, .map (some ms)), (6, q.1)]) (fun q => [tailE q.1 ((l ++ keysS q.2.1).drop q.2.2), .blk ms (.map (cntC q.2.1))]) (fun q => q.2.2 ≤ (l ++ keysS q.2.1).length ∧ Bfs L l q.2.1 q.2.2 ∧ ∀ z ∈ q.2.1, 1 ≤ z.2 ∧ z.2 ≤ q.2.2) (fun q => l.length + L.length - q.2.2) (tv0, [], 0) ⟨rfl, rfl, rfl, trivial⟩ ?_ ⟨Nat.zero_le _, ⟨List.nodup_nil, fun k hk => (List.not_mem_nil hk).elim, fun i hi => absurd hi (Nat.not_lt_zero i)⟩, fun z hz => (List.not_mem_nil hz).elim⟩ ?_
  · show List.Sublist [tailE tv0 ((l ++ []).drop 0), _] _
    rw [List.append_nil]
    exact List.Sublist.refl _
  rintro ⟨tv, S0, p⟩ ⟨hp, hb0, hc0⟩
  dsimp only at hp hb0 hc0 ⊢
  have hSl := hb0.len
  have hlen0 : (l ++ keysS S0).length = l.length + (keysS S0).length := List.length_append
  cases hdr : (l ++ keysS S0).drop p with
  | nil =>
    have hpe : p = (l ++ keysS S0).length := by have := congrArg List.length hdr; rw [List.length_drop] at this; simp only [List.length_nil] at this; omega
    repeat' (first
    | refine WC.seq ?_ | refine WC.region ?_ | refine WC.block ?_ | refine WC.condT rfl ?_ | refine WC.condF rfl ?_ | refine WC.skip ?_ | refine WC.exit ?_ | refine WC.ret ?_ | refine WC.scope ?_
    | (refine WO.isG ?_; refine WO.unwanted rfl rfl ?_)
    | (refine WO.isMove ?_; first | refine WO.move rfl rfl rfl ?_)
    | (refine WO.isPick ?_; first | refine WO.pickT rfl rfl rfl rfl ?_ | refine WO.pickF rfl rfl rfl rfl ?_)
    | (refine WO.isBin ?_; first | (refine WO.lss rfl rfl rfl rfl ?_ ?_ <;> intro hc) | (refine WO.leq rfl rfl rfl rfl ?_ ?_ <;> intro hc) | (refine WO.gtr rfl rfl rfl rfl ?_ ?_ <;> intro hc) | (refine WO.geq rfl rfl rfl rfl ?_ ?_ <;> intro hc) | (refine WO.eql rfl rfl rfl rfl ?_ ?_ <;> intro hc) | (refine WO.neq rfl rfl rfl rfl ?_ ?_ <;> intro hc) | (refine WO.add rfl rfl rfl rfl ?_ ?_ ?_; omega; omega) | (refine WO.sub rfl rfl rfl rfl ?_ ?_ ?_; omega; omega) | (refine WO.rem rfl rfl rfl rfl ?_ ?_; omega))
    | (refine WO.isAssign ?_; first | refine WO.assign rfl rfl rfl ?_)
    | (refine WO.isCall ?_; first | refine WO.lenF (Ints.len (IntsS.ints (TailI.has 0 rfl))) rfl rfl rfl ?_ | (refine WO.callE (g := 35) (α := Nat) (fun p => .func (.func 58) #[] #[.pointer (some ⟨p, 0, none⟩)]) (fun p => [.blk p (.cells [.map (some ms)] 64 false)]) (fun _ => True) (fun h' hh hb => (Keys35_runs h' hh.top ms).mono fun v h2 e => ⟨e.1, by obtain ⟨_, p, e1, e2⟩ := e; exact ⟨p, e1, trivial, e2⟩⟩) rfl rfl rfl rfl ?_; rintro q _) | (refine WO.callO (g := 34) rfl rfl rfl rfl (fun h' hh hb => Sorted34_runs h' hh.top 58 (.inl rfl) q ms 64 (.inl rfl) false (cntC S0) (keysS S0) (hb.at (i := 0) rfl).2.1 (hb.at (i := 2) rfl).2.1 (by rw [← ats_toN]; exact keysI_of (fun n hn => by obtain ⟨z, hz, rfl⟩ := List.mem_map.1 hn; exact inG_wide (by have := hangs_mem (hb0.ok z.1 (List.mem_map_of_mem hz)); obtain ⟨m, hm, e⟩ := List.mem_map.1 this; rw [show (toN z).at_ = z.1 from rfl, ← e]; exact hL.w m hm))) (by omega)) ?_; intro v))
    | (refine WO.isUn ?_; first | refine WO.notT rfl rfl rfl ?_ | refine WO.notF rfl rfl rfl ?_ | (refine WO.notS rfl rfl rfl ?_ ?_ <;> intro hc) | (refine WO.neg rfl rfl rfl ?_ ?_ ?_; omega; omega))
    | (refine WO.isNil ?_; first | refine WO.nilCheck rfl rfl rfl ?_)
    | refine WO.nil ?_)
    · simp only [List.length_nil] at hc; omega
    · rw [hpe] at hb0
      exact ⟨_, ⟨_, _, rfl, rfl, rfl⟩, fun h' k bb => ⟨k.pure, sortI (keysS S0), asc_sort hb0.nd, fun x => by rw [(sortI_perm _).mem_iff, hb0.all x], bb.at (i := 0) rfl⟩⟩
  | cons x rest =>
    have hplt : p < (l ++ keysS S0).length := by have := congrArg List.length hdr; rw [List.length_drop] at this; simp only [List.length_cons] at this; omega
    have hx : x = (l ++ keysS S0).getD p 0 := by
      rw [List.drop_eq_getElem_cons hplt] at hdr
      rw [List.getD_eq_getElem?_getD, List.getElem?_eq_getElem hplt]
      exact (List.cons.inj hdr).1.symm
    have hrest : rest = (l ++ keysS S0).drop (p + 1) := by
      rw [List.drop_eq_getElem_cons hplt] at hdr
      exact (List.cons.inj hdr).2.symm
    have hdn := directP_nodup R.nd x
    have hdl := directP_len L x
    repeat' (first
    | refine WC.seq ?_ | refine WC.region ?_ | refine WC.block ?_ | refine WC.condT rfl ?_ | refine WC.condF rfl ?_ | refine WC.skip ?_ | refine WC.exit ?_ | refine WC.ret ?_ | refine WC.scope ?_
    | (refine WO.isG ?_; refine WO.unwanted rfl rfl ?_)
    | (refine WO.isMove ?_; first | refine WO.move rfl rfl rfl ?_)
    | (refine WO.isPick ?_; first | refine WO.pickT rfl rfl rfl rfl ?_ | refine WO.pickF rfl rfl rfl rfl ?_)
    | (refine WO.isLoad ?_; first | (refine WO.ldF (Ints.ld (IntsS.ints (TailI.has 0 rfl)) ?_ ?_) rfl rfl rfl ?_; omega; omega))
    | (refine WO.isBin ?_; first | (refine WO.lss rfl rfl rfl rfl ?_ ?_ <;> intro hc) | (refine WO.leq rfl rfl rfl rfl ?_ ?_ <;> intro hc) | (refine WO.gtr rfl rfl rfl rfl ?_ ?_ <;> intro hc) | (refine WO.geq rfl rfl rfl rfl ?_ ?_ <;> intro hc) | (refine WO.eql rfl rfl rfl rfl ?_ ?_ <;> intro hc) | (refine WO.neq rfl rfl rfl rfl ?_ ?_ <;> intro hc) | (refine WO.add rfl rfl rfl rfl ?_ ?_ ?_; omega; omega) | (refine WO.sub rfl rfl rfl rfl ?_ ?_ ?_; omega; omega) | (refine WO.rem rfl rfl rfl rfl ?_ ?_; omega))
    | (refine WO.isAssign ?_; first | refine WO.assign rfl rfl rfl ?_)
    | (refine WO.isCall ?_; first | refine WO.lenF (Ints.len (IntsS.ints (TailI.has 0 rfl))) rfl rfl rfl ?_ | (refine WO.callO (g := 18) rfl rfl rfl rfl (fun h' hh hb => Direct18_runs h' hh.top b mb L x (R.grow hh.pure) hL) ?_; intro dv) | refine WO.lenF (Ints.len (Ints.own 0 rfl)) rfl rfl rfl ?_)
    | (refine WO.isUn ?_; first | refine WO.notT rfl rfl rfl ?_ | refine WO.notF rfl rfl rfl ?_ | (refine WO.notS rfl rfl rfl ?_ ?_ <;> intro hc) | (refine WO.neg rfl rfl rfl ?_ ?_ ?_; omega; omega))
    | (refine WO.isIA ?_; first | (refine WO.ixF (Ints.ix (IntsS.ints (TailI.has 0 rfl)) ?_ ?_) rfl rfl rfl rfl ?_; omega; omega))
    | (refine WO.isNil ?_; first | refine WO.nilCheck rfl rfl rfl ?_)
    | refine WO.nil ?_)
    · refine WC.loop (α := Nat × Value × Cnt) (fun q => [(0, .pointer (some ⟨b, 0, none⟩)), (5, .map (some ms)), (6, q.2.1), (21, dv), (22, .int .i64 ((directP L x).length : Int)), (23, .int .i64 (q.1 : Int))]) (fun q => [.own dv 1 3 ((directP L x).map encI), tailE q.2.1 (x :: (l ++ keysS q.2.2).drop (p + 1)), .blk ms (.map (cntC q.2.2))])
        (fun q => q.1 ≤ (directP L x).length ∧ Bfs L l q.2.2 p ∧ (∃ t, keysS q.2.2 = keysS S0 ++ t) ∧ (∀ z ∈ q.2.2, 1 ≤ z.2 ∧ z.2 ≤ p + if z.1 ∈ (directP L x).take q.1 then 1 else 0) ∧ ∀ k ∈ (directP L x).take q.1, k ∈ keysS q.2.2) (fun q => (directP L x).length - q.1) (0, tv, S0) ⟨rfl, rfl, rfl, rfl, rfl, rfl, trivial⟩ (by rw [hrest]; exact List.Sublist.refl _) ⟨Nat.zero_le _, hb0, ⟨[], (List.append_nil _).symm⟩, fun z hz => by have := hc0 z hz; simp; omega, fun k hk => by simp at hk⟩ ?_
      rintro ⟨j, tv', S⟩ ⟨hj, hb, ⟨tl, htl⟩, hcn, hin⟩
      dsimp only at hj hb htl hcn hin ⊢
      have hSl2 := hb.len
      have hlen2 : (l ++ keysS S).length = l.length + (keysS S).length := List.length_append
      have hpl : p < (l ++ keysS S).length := by rw [hlen2, htl, List.length_append]; omega
      have hxS : x = (l ++ keysS S).getD p 0 := by rw [htl, ← List.append_assoc, getD_pre hplt]; exact hx
      have hcb : ∀ k, 0 ≤ cnt S k ∧ cnt S k ≤ p + 1 := fun k => by
        by_cases hm : k ∈ keysS S
        · have := hcn _ (cnt_mem hm)
          simp only at this
          split at this <;> omega
        · rw [cnt_none hm]; omega
      have hdrl : ((l ++ keysS S).drop (p + 1)).length ≤ 3000000 := by rw [List.length_drop, hlen2]; omega
      have hcb' := hcb ((directP L x).getD ((j : Int)).toNat 0)
      repeat' (first
    | refine WC.seq ?_ | refine WC.region ?_ | refine WC.block ?_ | refine WC.condT rfl ?_ | refine WC.condF rfl ?_ | refine WC.skip ?_ | refine WC.exit ?_ | refine WC.ret ?_ | refine WC.scope ?_
    | (refine WO.isG ?_; refine WO.unwanted rfl rfl ?_)
    | (refine WO.isMove ?_; first | refine WO.move rfl rfl rfl ?_)
    | (refine WO.isPick ?_; first | refine WO.pickT rfl rfl rfl rfl ?_ | refine WO.pickF rfl rfl rfl rfl ?_)
    | (refine WO.isLoad ?_; first | (refine WO.ldF (Ints.ld (Ints.own 0 rfl) ?_ ?_) rfl rfl rfl ?_; omega; omega))
    | (refine WO.isBin ?_; first | (refine WO.lss rfl rfl rfl rfl ?_ ?_ <;> intro hc) | (refine WO.leq rfl rfl rfl rfl ?_ ?_ <;> intro hc) | (refine WO.gtr rfl rfl rfl rfl ?_ ?_ <;> intro hc) | (refine WO.geq rfl rfl rfl rfl ?_ ?_ <;> intro hc) | (refine WO.eql rfl rfl rfl rfl ?_ ?_ <;> intro hc) | (refine WO.neq rfl rfl rfl rfl ?_ ?_ <;> intro hc) | (refine WO.add rfl rfl rfl rfl ?_ ?_ ?_; omega; omega) | (refine WO.sub rfl rfl rfl rfl ?_ ?_ ?_; omega; omega) | (refine WO.rem rfl rfl rfl rfl ?_ ?_; omega))
    | (refine WO.isAssign ?_; first | refine WO.assign rfl rfl rfl ?_)
    | (refine WO.isCall ?_; first | refine WO.lenF (Ints.len (Ints.own 0 rfl)) rfl rfl rfl ?_ | (refine WO.appT 2 (m := [_]) (Ints.own (e := 3) 0 rfl) ?_ ?_ rfl rfl rfl (fun _ => rfl) rfl ?_; (simp); (simp only [List.length_cons, List.length_nil]; omega); intro tw))
    | (refine WO.isUn ?_; first | refine WO.notT rfl rfl rfl ?_ | refine WO.notF rfl rfl rfl ?_ | (refine WO.notS rfl rfl rfl ?_ ?_ <;> intro hc) | (refine WO.neg rfl rfl rfl ?_ ?_ ?_; omega; omega))
    | (refine WO.isIA ?_; first | (refine WO.ixF (Ints.ix (Ints.own 0 rfl) ?_ ?_) rfl rfl rfl rfl ?_; omega; omega))
    | (refine WO.isNil ?_; first | refine WO.nilCheck rfl rfl rfl ?_)
    | (refine WO.isSlice ?_; first | (refine WO.sliceT 1 rfl rfl rfl rfl rfl rfl ?_))
    | (refine WO.isLit ?_; first | (refine WO.litI rfl rfl rfl ?_; intro u))
    | (refine WO.isLook ?_; first | refine WO.lookF (hlook64 2 rfl) rfl rfl rfl rfl ?_)
    | (refine WO.isMapU ?_; first | refine WO.updF 2 (upd64 S _ _) rfl rfl rfl rfl rfl rfl rfl ?_)
    | refine WO.nil ?_)
      · rw [gI_nat, cnt_put] at hc
        obtain ⟨e1, e2, e3, e4, _⟩ := bfs_step hb hpl (congrArg _ hxS) hdn (j := j) (by omega) hcn hin
        have hks := e4 hc
        refine ⟨(j + 1, tw, putS S ((directP L x).getD j 0) (cnt S ((directP L x).getD j 0) + 1)), ⟨by rfl, rfl, rfl, rfl, rfl, rfl, trivial⟩, ?_, ⟨by show j + 1 ≤ _; omega, e1, ⟨tl ++ [(directP L x).getD j 0], by rw [hks, htl, List.append_assoc]⟩, e2, e3⟩, (by show (directP L x).length - (j + 1) < (directP L x).length - j; omega)⟩
        show List.Sublist [_, tailE tw (x :: (l ++ keysS (putS S ((directP L x).getD j 0) (cnt S ((directP L x).getD j 0) + 1))).drop (p + 1)), _] _
        have e : x :: (l ++ keysS (putS S ((directP L x).getD j 0) (cnt S ((directP L x).getD j 0) + 1))).drop (p + 1) = x :: List.drop (p + 1) (l ++ keysS S) ++ [(directP L x).getD j 0] := by
          rw [hks, ← List.append_assoc, List.drop_append_of_le_length (by omega)]; rfl
        rw [e, ← gI_nat]
        exact List.Sublist.cons _ (List.Sublist.refl _)
      · rw [gI_nat, cnt_put] at hc
        obtain ⟨e1, e2, e3, _, e5⟩ := bfs_step hb hpl (congrArg _ hxS) hdn (j := j) (by omega) hcn hin
        have hks := e5 hc
        refine ⟨(j + 1, tv', putS S ((directP L x).getD j 0) (cnt S ((directP L x).getD j 0) + 1)), ⟨by rfl, rfl, rfl, rfl, rfl, rfl, trivial⟩, ?_, ⟨by show j + 1 ≤ _; omega, e1, ⟨tl, by rw [hks, htl]⟩, e2, e3⟩, (by show (directP L x).length - (j + 1) < (directP L x).length - j; omega)⟩
        show List.Sublist [_, tailE tv' (x :: (l ++ keysS (putS S ((directP L x).getD j 0) (cnt S ((directP L x).getD j 0) + 1))).drop (p + 1)), _] _
        rw [hks, ← gI_nat]
        exact List.Sublist.refl _
      · refine ⟨(slV tv' 1 1 (((l ++ keysS S).drop (p + 1)).length + 1), S, p + 1), ⟨rfl, rfl, rfl, trivial⟩, List.Sublist.cons _ (List.Sublist.refl _), ⟨by show p + 1 ≤ (l ++ keysS S).length; omega, ⟨hb.nd, hb.ok, fun i hi k hk => ?_⟩, fun z hz => ?_⟩, (by show l.length + L.length - (p + 1) < l.length + L.length - p; omega)⟩
        · rcases Nat.lt_or_ge i p with h1 | h1
          · exact hb.done i h1 k hk
          · obtain rfl : i = p := by (have hi : i < p + 1 := hi); omega
            refine hin k ?_
            rw [List.take_of_length_le (by omega), hxS]; exact hk
        · have := hcn z hz
          show 1 ≤ z.2 ∧ z.2 ≤ ((p + 1 : Nat) : Int)
          split at this <;> omega
    · simp only [List.length_cons] at hc; omega
end Go.Proofs.Ythggbjpanpnlnaa
