/- Chapter 20's laws on the ideal machine: GraphOrders, GraphSets, GraphReaches, GraphStands, GraphKeeps. -/
import Derived.Test.YthggbjpanpnlnaaM7
set_option linter.unusedVariables false
set_option linter.unusedSimpArgs false
/- Chapter 20's law on the ideal machine: GraphOrders, GraphSets. -/
namespace Go.Proofs.Ythggbjpanpnlnaa
open Go Go.Ideal
set_option maxHeartbeats 4000000

theorem Ordered.uniq {need : Int → Int → Bool} {l a b c d : List Int} (h : Ordered need l a b) (k : Ordered need l c d) : a = c ∧ b = d := by
  obtain ⟨x, hx, hm, e⟩ := h
  obtain ⟨y, hy, hn, e2⟩ := k
  have : x = y := Asc.ext hx hy (fun z => by rw [hm, hn])
  subst this
  rw [← e2] at e
  exact Prod.mk.inj e
theorem orderM_len {need : Int → Int → Bool} : ∀ (f : Nat) (left out : List Int), (orderM need f left out).1.length + (orderM need f left out).2.length = left.length + out.length
  | 0, left, out => Nat.add_comm _ _
  | f + 1, left, out => by
    simp only [orderM]
    cases h : left.findIdx? (fun a => !left.any (need a)) with
    | none => exact Nat.add_comm _ _
    | some k =>
      obtain ⟨hk, _⟩ := List.findIdx?_eq_some_iff_getElem.1 h
      simp only
      rw [orderM_len f, List.length_eraseIdx, if_pos hk, List.length_append]
      simp only [List.length_cons, List.length_nil]
      omega
theorem Ordered.len {need : Int → Int → Bool} {l a b : List Int} (h : Ordered need l a b) : a.length + b.length ≤ l.length := by
  obtain ⟨x, hx, hm, e⟩ := h
  have h1 := orderM_len (need := need) x.length x []
  rw [← e] at h1
  have h2 := asc_len hx hm
  simp only [List.length_nil] at h1
  omega
theorem law4_runs (h : Heap) (hwf : Wf h) (v w : Value) (l : List RawN) (cs : List Int) (S : LawN h v l) (hw : ∀ n ∈ l, wide n.at_ ∧ ∀ a ∈ n.ar, wide a.a ∧ wide a.b) (T : RawSl h w 1 (cs.map encI)) (hc : ∀ x ∈ cs, wide x) :
    Runs M 4 [v, w] h fun r h' => Grow h h' ∧ r = .bool true := by
  have hcl := cellsOf_len cs
  unfold cellsOf at hcl
  refine Runs.enter h hwf [] [] (blks_nil ..) (fn := Try.f4) (by kernel_rfl) (by kernel_rfl) rfl (by kernel_rfl) ?_
  repeat' (first
    | refine WC.seq ?_ | refine WC.region ?_ | refine WC.block ?_ | refine WC.condT rfl ?_ | refine WC.condF rfl ?_ | refine WC.skip ?_ | refine WC.exit ?_ | refine WC.ret ?_ | refine WC.scope ?_
    | (refine WO.isG ?_; refine WO.unwanted rfl rfl ?_)
    | (refine WO.isMove ?_; first | refine WO.move rfl rfl rfl ?_)
    | (refine WO.isPick ?_; first | refine WO.pickT rfl rfl rfl rfl ?_ | refine WO.pickF rfl rfl rfl rfl ?_)
    | (refine WO.isBin ?_; first | (refine WO.lss rfl rfl rfl rfl ?_ ?_ <;> intro hc) | (refine WO.leq rfl rfl rfl rfl ?_ ?_ <;> intro hc) | (refine WO.gtr rfl rfl rfl rfl ?_ ?_ <;> intro hc) | (refine WO.geq rfl rfl rfl rfl ?_ ?_ <;> intro hc) | (refine WO.eql rfl rfl rfl rfl ?_ ?_ <;> intro hc) | (refine WO.neq rfl rfl rfl rfl ?_ ?_ <;> intro hc) | (refine WO.add rfl rfl rfl rfl ?_ ?_ ?_; omega; omega) | (refine WO.sub rfl rfl rfl rfl ?_ ?_ ?_; omega; omega) | (refine WO.rem rfl rfl rfl rfl ?_ ?_; omega))
    | (refine WO.isAssign ?_; first | refine WO.assign rfl rfl rfl ?_)
    | (refine WO.isCall ?_; first | refine WO.callV (g := 9) (fun h' hh _ => shown_runs h' hh.top) rfl rfl rfl rfl ?_ | (refine WO.callE (g := 10) (α := Nat × Nat × List NodeR × Nat × Value × List NodeR) (fun q => .tuple #[.pointer (some ⟨q.1, 0, none⟩), .pointer (some ⟨q.2.2.2.1, 0, none⟩), .bool true]) (fun q => [refE q.2.2.2.1 q.2.2.2.2.1 q.2.2.2.2.2, prgE q.1 q.2.1 q.2.2.1]) (fun q => Twin q.2.2.1 q.2.2.2.2.2 ∧ q.2.2.1.length ≤ 40 ∧ q.2.2.2.2.2.length ≤ 40) (fun h' hh hb => (made_runs h' hh.top _ _ (S.grow hh.pure) hw).mono fun v h2 e => ⟨e.1, by obtain ⟨_, b, mb, L, b', sv, L', e1, e2, e3⟩ := e; exact ⟨(b, mb, L, b', sv, L'), e1, e2, e3⟩⟩) rfl rfl rfl rfl ?_; rintro ⟨b, mb, L, b', sv, L'⟩ ⟨tw, hL, hL'⟩; dsimp only at tw hL hL') | (refine WO.callO (g := 11) rfl rfl rfl rfl (fun h' hh _ => some2_runs h' hh.top _ _ (T.grow hh.pure) hc) ?_; intro cv) | (refine WO.callE (g := 15) (α := Value × Value × List Int × List Int × Nat) (fun q => .tuple #[q.1, q.2.1]) (fun q => [bufE q.2.1 q.2.2.2.1 q.2.2.2.2, .own q.1 1 3 (q.2.2.1.map encI)]) (fun q => Ordered (need L) ((cs.take 40).map someOne) q.2.2.1 q.2.2.2.1) (fun h' hh hb => (Order15_runs h' hh.top b mb L _ _ (hb.at (i := 2) rfl).1.g (tw.bnd (by omega)) (Ints.own 0 rfl h' hh hb) (by omega)).mono fun v h2 e => ⟨e.1, by obtain ⟨_, u, v, x, y, m, e1, e2, e3⟩ := e; exact ⟨(u, v, x, y, m), e1, e2, e3⟩⟩) rfl rfl rfl rfl ?_; rintro ⟨ou, ov, ox, oy, om⟩ ho; dsimp only at ho) | (refine WO.callE (g := 16) (α := Value × Value × List Int × List Int) (fun q => .tuple #[q.1, q.2.1]) (fun q => [.own q.2.1 1 3 (q.2.2.2.map encI), .own q.1 1 3 (q.2.2.1.map encI)]) (fun q => Ordered (need L') ((cs.take 40).map someOne) q.2.2.1 q.2.2.2) (fun h' hh hb => (Order16_runs h' hh.top b' sv L' _ _ (hb.at (i := 3) rfl).1.rg (tw.bnd' (by omega)) (Ints.own 2 rfl h' hh hb) (by omega)).mono fun v h2 e => ⟨e.1, by obtain ⟨_, u, v, x, y, e1, e2, e3⟩ := e; exact ⟨(u, v, x, y), e1, e2, e3⟩⟩) rfl rfl rfl rfl ?_; rintro ⟨pu, pv, px, py⟩ hp; dsimp only at hp) | refine WO.callV (g := 12) (fun h' hh hb => (same_runs h' hh.top ou pu ox px (Ints.own 3 rfl h' hh hb) (Ints.own 1 rfl h' hh hb) (by have := ho.len; omega)).mono fun r h2 e => ⟨e.1, e.2.trans (by rw [decide_eq_true (ho.uniq (tw.need ▸ hp)).1])⟩) rfl rfl rfl rfl ?_ | refine WO.callV (g := 12) (fun h' hh hb => (same_runs h' hh.top ov pv oy py (IntsS.ints (BufI.has 2 rfl) h' hh hb) (Ints.own 0 rfl h' hh hb) (by have := ho.len; omega)).mono fun r h2 e => ⟨e.1, e.2.trans (by rw [decide_eq_true (ho.uniq (tw.need ▸ hp)).2])⟩) rfl rfl rfl rfl ?_)
    | (refine WO.isUn ?_; first | refine WO.notT rfl rfl rfl ?_ | refine WO.notF rfl rfl rfl ?_ | (refine WO.notS rfl rfl rfl ?_ ?_ <;> intro hc) | (refine WO.neg rfl rfl rfl ?_ ?_ ?_; omega; omega))
    | (refine WO.isNil ?_; first | refine WO.nilCheck rfl rfl rfl ?_)
    | (refine WO.isExt ?_; first | refine WO.extract rfl rfl rfl rfl ?_)
    | refine WO.nil ?_)
  exact ⟨_, ⟨_, _, rfl, rfl, rfl⟩, fun h' k _ => ⟨k.pure, rfl⟩⟩

theorem dir_len {L : List NodeR} (x : Int) : (directP L x).length ≤ L.length := by
  have h2 : (directP L x).length ≤ (sortI (ats L)).length := List.length_filter_le _ _
  rw [sort_len, ats_len] at h2
  exact h2
theorem law7_runs (h : Heap) (hwf : Wf h) (v : Value) (c : Int) (l : List RawN) (S : LawN h v l) (hw : ∀ n ∈ l, wide n.at_ ∧ ∀ a ∈ n.ar, wide a.a ∧ wide a.b) (hc : wide c) :
    Runs M 7 [v, .int .i64 c] h fun r h' => Grow h h' ∧ r = .bool true := by
  refine Runs.enter h hwf [] [] (blks_nil ..) (fn := Try.f7) (by kernel_rfl) (by kernel_rfl) rfl (by kernel_rfl) ?_
  repeat' (first
    | refine WC.seq ?_ | refine WC.region ?_ | refine WC.block ?_ | refine WC.condT rfl ?_ | refine WC.condF rfl ?_ | refine WC.skip ?_ | refine WC.exit ?_ | refine WC.ret ?_ | refine WC.scope ?_
    | (refine WO.isG ?_; refine WO.unwanted rfl rfl ?_)
    | (refine WO.isMove ?_; first | refine WO.move rfl rfl rfl ?_)
    | (refine WO.isPick ?_; first | refine WO.pickT rfl rfl rfl rfl ?_ | refine WO.pickF rfl rfl rfl rfl ?_)
    | (refine WO.isBin ?_; first | (refine WO.lss rfl rfl rfl rfl ?_ ?_ <;> intro hc) | (refine WO.leq rfl rfl rfl rfl ?_ ?_ <;> intro hc) | (refine WO.gtr rfl rfl rfl rfl ?_ ?_ <;> intro hc) | (refine WO.geq rfl rfl rfl rfl ?_ ?_ <;> intro hc) | (refine WO.eql rfl rfl rfl rfl ?_ ?_ <;> intro hc) | (refine WO.neq rfl rfl rfl rfl ?_ ?_ <;> intro hc) | (refine WO.add rfl rfl rfl rfl ?_ ?_ ?_; omega; omega) | (refine WO.sub rfl rfl rfl rfl ?_ ?_ ?_; omega; omega) | (refine WO.rem rfl rfl rfl rfl ?_ ?_; omega))
    | (refine WO.isAssign ?_; first | refine WO.assign rfl rfl rfl ?_)
    | (refine WO.isCall ?_; first | refine WO.callV (g := 9) (fun h' hh _ => shown_runs h' hh.top) rfl rfl rfl rfl ?_ | (refine WO.callE (g := 10) (α := Nat × Nat × List NodeR × Nat × Value × List NodeR) (fun q => .tuple #[.pointer (some ⟨q.1, 0, none⟩), .pointer (some ⟨q.2.2.2.1, 0, none⟩), .bool true]) (fun q => [refE q.2.2.2.1 q.2.2.2.2.1 q.2.2.2.2.2, prgE q.1 q.2.1 q.2.2.1]) (fun q => Twin q.2.2.1 q.2.2.2.2.2 ∧ q.2.2.1.length ≤ 40 ∧ q.2.2.2.2.2.length ≤ 40) (fun h' hh hb => (made_runs h' hh.top _ _ (S.grow hh.pure) hw).mono fun v h2 e => ⟨e.1, by obtain ⟨_, b, mb, L, b', sv, L', e1, e2, e3⟩ := e; exact ⟨(b, mb, L, b', sv, L'), e1, e2, e3⟩⟩) rfl rfl rfl rfl ?_; rintro ⟨b, mb, L, b', sv, L'⟩ ⟨tw, hL, hL'⟩; dsimp only at tw hL hL') | (refine WO.callO (g := 21) rfl rfl rfl rfl (fun h' hh hb => Cells21_runs h' hh.top b mb L (hb.at (i := 1) rfl).1.g (tw.bnd (by omega))) ?_; intro dv) | (refine WO.callO (g := 22) rfl rfl rfl rfl (fun h' hh hb => Cells22_runs h' hh.top b' sv L' (hb.at (i := 1) rfl).1.rg (tw.bnd' (by omega))) ?_; intro dv) | (refine WO.callO (g := 18) rfl rfl rfl rfl (fun h' hh hb => Direct18_runs h' hh.top b mb L _ (hb.at (i := 3) rfl).1.g (tw.bnd (by omega))) ?_; intro dv) | (refine WO.callO (g := 18) rfl rfl rfl rfl (fun h' hh hb => Direct18_runs h' hh.top b mb L _ (hb.at (i := 6) rfl).1.g (tw.bnd (by omega))) ?_; intro dv) | (refine WO.callO (g := 23) rfl rfl rfl rfl (fun h' hh hb => Direct23_runs h' hh.top b' sv L' _ (hb.at (i := 3) rfl).1.rg (tw.bnd' (by omega))) ?_; intro dv) | (refine WO.callO (g := 23) rfl rfl rfl rfl (fun h' hh hb => Direct23_runs h' hh.top b' sv L' _ (hb.at (i := 6) rfl).1.rg (tw.bnd' (by omega))) ?_; intro dv) | (refine WO.callO (g := 25) rfl rfl rfl rfl (fun h' hh hb => Areas25_runs h' hh.top b mb L _ (hb.at (i := 5) rfl).1.g (fun n hn => Nat.le_trans (tw.len n hn) (by omega))) ?_; intro dv) | (refine WO.callO (g := 25) rfl rfl rfl rfl (fun h' hh hb => Areas25_runs h' hh.top b mb L _ (hb.at (i := 8) rfl).1.g (fun n hn => Nat.le_trans (tw.len n hn) (by omega))) ?_; intro dv) | refine WO.callV (g := 26) (fun h' hh hb => Areas26_runs h' hh.top b' sv L' _ (hb.at (i := 5) rfl).1.rg (by omega)) rfl rfl rfl rfl ?_ | refine WO.callV (g := 26) (fun h' hh hb => Areas26_runs h' hh.top b' sv L' _ (hb.at (i := 8) rfl).1.rg (by omega)) rfl rfl rfl rfl ?_ | refine WO.callV (g := 27) (fun h hh _ => at27_runs h hh.top c hc.1 hc.2) rfl rfl rfl rfl ?_ | refine WO.callV (g := 12) (fun h' hh hb => (same_runs h' hh.top _ _ (sortI (ats L)) (ats L') (Ints.own 1 rfl h' hh hb) (Ints.own 0 rfl h' hh hb) (by rw [sort_len, ats_len]; omega)).mono fun r h2 e => ⟨e.1, e.2.trans (by rw [decide_eq_true tw.sort])⟩) rfl rfl rfl rfl ?_ | refine WO.callV (g := 12) (fun h' hh hb => (same_runs h' hh.top _ _ (directP L c) (direct L' c) (Ints.own 1 rfl h' hh hb) (Ints.own 0 rfl h' hh hb) (by have := dir_len (L := L) c; omega)).mono fun r h2 e => ⟨e.1, e.2.trans (by rw [decide_eq_true (tw.direct c)])⟩) rfl rfl rfl rfl ?_ | refine WO.callV (g := 12) (fun h' hh hb => (same_runs h' hh.top _ _ (directP L (at27 c)) (direct L' (at27 c)) (Ints.own 1 rfl h' hh hb) (Ints.own 0 rfl h' hh hb) (by have := dir_len (L := L) (at27 c); omega)).mono fun r h2 e => ⟨e.1, e.2.trans (by rw [decide_eq_true (tw.direct (at27 c))])⟩) rfl rfl rfl rfl ?_ | refine WO.callV (g := 24) (fun h' hh hb => (sameAreas24_runs h' hh.top _ _ (areasOf L c) (areasOf L' c) (Areas.own elem39 0 rfl h' hh hb) (areasV_reads (hb.at (i := 5) rfl).1.rg c) (by have := areasOf_len (L := L) (m := 9) (by omega) (fun n hn => by have := tw.len n hn; omega) c; omega)).mono fun r h2 e => ⟨e.1, e.2.trans (by rw [decide_eq_true (tw.areas c)])⟩) rfl rfl rfl rfl ?_ | refine WO.callV (g := 24) (fun h' hh hb => (sameAreas24_runs h' hh.top _ _ (areasOf L (at27 c)) (areasOf L' (at27 c)) (Areas.own elem39 0 rfl h' hh hb) (areasV_reads (hb.at (i := 8) rfl).1.rg (at27 c)) (by have := areasOf_len (L := L) (m := 9) (by omega) (fun n hn => by have := tw.len n hn; omega) (at27 c); omega)).mono fun r h2 e => ⟨e.1, e.2.trans (by rw [decide_eq_true (tw.areas (at27 c))])⟩) rfl rfl rfl rfl ?_)
    | (refine WO.isUn ?_; first | refine WO.notT rfl rfl rfl ?_ | refine WO.notF rfl rfl rfl ?_ | (refine WO.notS rfl rfl rfl ?_ ?_ <;> intro hc) | (refine WO.neg rfl rfl rfl ?_ ?_ ?_; omega; omega))
    | (refine WO.isNil ?_; first | refine WO.nilCheck rfl rfl rfl ?_)
    | (refine WO.isExt ?_; first | refine WO.extract rfl rfl rfl rfl ?_)
    | refine WO.nil ?_)
  exact ⟨_, ⟨_, _, rfl, rfl, rfl⟩, fun h' k _ => ⟨k.pure, rfl⟩⟩
end Go.Proofs.Ythggbjpanpnlnaa

/- Chapter 20's law on the ideal machine: GraphReaches. -/
namespace Go.Proofs.Ythggbjpanpnlnaa
open Go Go.Ideal
set_option maxHeartbeats 4000000

theorem asc_at {l : List Int} (h : Asc l) {i j : Nat} (hij : i < j) (hj : j < l.length) : l.getD i 0 < l.getD j 0 := by
  rw [List.getD_eq_getElem?_getD, List.getD_eq_getElem?_getD, List.getElem?_eq_getElem hj, List.getElem?_eq_getElem (show i < l.length by omega)]
  exact List.pairwise_iff_getElem.1 h i j (by omega) hj hij
theorem hangs_hangs {keys : List Int} {need : Int → Int → Bool} {c s : List Int} (hs : ∀ x, x ∈ s → Hangs keys need c x) {x : Int} (h : Hangs keys need s x) : Hangs keys need c x := by
  induction h with
  | one x y hx hy hn => exact .more x y hx (hs y hy) hn
  | more x y hx hy hn ih => exact .more x y hx ih hn
theorem reach_any {L : List NodeR} {c s : List Int} (hs : ∀ x, x ∈ s ↔ Hangs (ats L) (need L) c x) {x : Int} (hx : x ∈ s) : ((c ++ s).any fun y => (directP L y).contains x) = true := by
  rw [List.any_eq_true]
  cases (hs x).1 hx with
  | one x y h1 h2 h3 => exact ⟨y, List.mem_append_left _ h2, List.contains_iff_mem.2 (mem_directP.2 ⟨h1, h3⟩)⟩
  | more x y h1 h2 h3 => exact ⟨y, List.mem_append_right _ ((hs y).2 h2), List.contains_iff_mem.2 (mem_directP.2 ⟨h1, h3⟩)⟩
theorem law5_runs (h : Heap) (hwf : Wf h) (v w : Value) (l : List RawN) (cs : List Int) (S : LawN h v l) (hw : ∀ n ∈ l, wide n.at_ ∧ ∀ a ∈ n.ar, wide a.a ∧ wide a.b) (T : RawSl h w 1 (cs.map encI)) (hc : ∀ x ∈ cs, wide x) :
    Runs M 5 [v, w] h fun r h' => Grow h h' ∧ r = .bool true := by
  have hcl := cellsOf_len cs
  unfold cellsOf at hcl
  refine Runs.enter h hwf [] [] (blks_nil ..) (fn := Try.f5) (by kernel_rfl) (by kernel_rfl) rfl (by kernel_rfl) ?_
  repeat' (first
    | refine WC.seq ?_ | refine WC.region ?_ | refine WC.block ?_ | refine WC.condT rfl ?_ | refine WC.condF rfl ?_ | refine WC.skip ?_ | refine WC.exit ?_ | refine WC.ret ?_ | refine WC.scope ?_
    | (refine WO.isG ?_; refine WO.unwanted rfl rfl ?_)
    | (refine WO.isMove ?_; first | refine WO.move rfl rfl rfl ?_)
    | (refine WO.isPick ?_; first | refine WO.pickT rfl rfl rfl rfl ?_ | refine WO.pickF rfl rfl rfl rfl ?_)
    | (refine WO.isBin ?_; first | (refine WO.lss rfl rfl rfl rfl ?_ ?_ <;> intro hc) | (refine WO.leq rfl rfl rfl rfl ?_ ?_ <;> intro hc) | (refine WO.gtr rfl rfl rfl rfl ?_ ?_ <;> intro hc) | (refine WO.geq rfl rfl rfl rfl ?_ ?_ <;> intro hc) | (refine WO.eql rfl rfl rfl rfl ?_ ?_ <;> intro hc) | (refine WO.neq rfl rfl rfl rfl ?_ ?_ <;> intro hc) | (refine WO.add rfl rfl rfl rfl ?_ ?_ ?_; omega; omega) | (refine WO.sub rfl rfl rfl rfl ?_ ?_ ?_; omega; omega) | (refine WO.rem rfl rfl rfl rfl ?_ ?_; omega))
    | (refine WO.isAssign ?_; first | refine WO.assign rfl rfl rfl ?_)
    | (refine WO.isCall ?_; first | refine WO.callV (g := 9) (fun h' hh _ => shown_runs h' hh.top) rfl rfl rfl rfl ?_ | (refine WO.callE (g := 10) (α := Nat × Nat × List NodeR × Nat × Value × List NodeR) (fun q => .tuple #[.pointer (some ⟨q.1, 0, none⟩), .pointer (some ⟨q.2.2.2.1, 0, none⟩), .bool true]) (fun q => [refE q.2.2.2.1 q.2.2.2.2.1 q.2.2.2.2.2, prgE q.1 q.2.1 q.2.2.1]) (fun q => Twin q.2.2.1 q.2.2.2.2.2 ∧ q.2.2.1.length ≤ 40 ∧ q.2.2.2.2.2.length ≤ 40) (fun h' hh hb => (made_runs h' hh.top _ _ (S.grow hh.pure) hw).mono fun v h2 e => ⟨e.1, by obtain ⟨_, b, mb, L, b', sv, L', e1, e2, e3⟩ := e; exact ⟨(b, mb, L, b', sv, L'), e1, e2, e3⟩⟩) rfl rfl rfl rfl ?_; rintro ⟨b, mb, L, b', sv, L'⟩ ⟨tw, hL, hL'⟩; dsimp only at tw hL hL') | (refine WO.callO (g := 11) rfl rfl rfl rfl (fun h' hh _ => some2_runs h' hh.top _ _ (T.grow hh.pure) hc) ?_; intro cv) | (refine WO.callE (g := 13) (α := Value × List Int) (fun q => q.1) (fun q => [.own q.1 1 3 (q.2.map encI)]) (fun q => Asc q.2 ∧ ∀ x, x ∈ q.2 ↔ Hangs (ats L) (need L) ((cs.take 40).map someOne) x) (fun h' hh hb => (After13_runs h' hh.top b mb L _ _ (hb.at (i := 2) rfl).1.g (tw.bnd (by omega)) (by omega) (Ints.own 0 rfl h' hh hb) (by omega)).mono fun v h2 e => ⟨e.1, by obtain ⟨_, s, e1, e2, e3⟩ := e; exact ⟨(v, s), rfl, ⟨e1, e2⟩, ⟨fun x hx => by rw [List.mem_singleton.1 hx]; exact e3, List.pairwise_singleton _ _⟩⟩⟩) rfl rfl rfl rfl ?_; rintro ⟨av, sa⟩ ⟨ha1, ha2⟩; dsimp only at ha1 ha2) | (refine WO.callE (g := 13) (α := Value × List Int) (fun q => q.1) (fun q => [.own q.1 1 3 (q.2.map encI)]) (fun q => Asc q.2 ∧ ∀ x, x ∈ q.2 ↔ Hangs (ats L) (need L) sa x) (fun h' hh hb => (After13_runs h' hh.top b mb L av sa (hb.at (i := 3) rfl).1.g (tw.bnd (by omega)) (by omega) (Ints.own 0 rfl h' hh hb) (by have := asc_hang (L := L) ha1 (fun x => (ha2 x).1); omega)).mono fun v h2 e => ⟨e.1, by obtain ⟨_, s, e1, e2, e3⟩ := e; exact ⟨(v, s), rfl, ⟨e1, e2⟩, ⟨fun x hx => by rw [List.mem_singleton.1 hx]; exact e3, List.pairwise_singleton _ _⟩⟩⟩) rfl rfl rfl rfl ?_; rintro ⟨bv, sb⟩ ⟨hb1, hb2⟩; dsimp only at hb1 hb2))
    | (refine WO.isUn ?_; first | refine WO.notT rfl rfl rfl ?_ | refine WO.notF rfl rfl rfl ?_ | (refine WO.notS rfl rfl rfl ?_ ?_ <;> intro hc) | (refine WO.neg rfl rfl rfl ?_ ?_ ?_; omega; omega))
    | (refine WO.isNil ?_; first | refine WO.nilCheck rfl rfl rfl ?_)
    | (refine WO.isExt ?_; first | refine WO.extract rfl rfl rfl rfl ?_)
    | refine WO.nil ?_)
  have hal := asc_hang (L := L) ha1 (fun x => (ha2 x).1)
  have hbl := asc_hang (L := L) hb1 (fun x => (hb2 x).1)
  generalize hcc : (cs.take 40).map someOne = cc at *
  refine WC.loop (α := Nat) (fun i => [(6, .pointer (some ⟨b, 0, none⟩)), (9, cv), (10, av), (11, bv), (12, .int .i64 (i : Int))]) (fun _ => [.own bv 1 3 (sb.map encI), .own av 1 3 (sa.map encI), .own cv 1 3 (cc.map encI), refE b' sv L', prgE b mb L]) (fun i => i ≤ sb.length) (fun i => sb.length - i) 0 ⟨rfl, rfl, rfl, rfl, rfl, trivial⟩ (List.Sublist.refl _) (Nat.zero_le _) ?_
  intro i hi
  repeat' (first
    | refine WC.seq ?_ | refine WC.region ?_ | refine WC.block ?_ | refine WC.condT rfl ?_ | refine WC.condF rfl ?_ | refine WC.skip ?_ | refine WC.exit ?_ | refine WC.ret ?_ | refine WC.scope ?_
    | (refine WO.isG ?_; refine WO.unwanted rfl rfl ?_)
    | (refine WO.isMove ?_; first | refine WO.move rfl rfl rfl ?_)
    | (refine WO.isPick ?_; first | refine WO.pickT rfl rfl rfl rfl ?_ | refine WO.pickF rfl rfl rfl rfl ?_)
    | (refine WO.isLoad ?_; first | (refine WO.ldF (Ints.ld (Ints.own (e := 3) 0 rfl) ?_ ?_) rfl rfl rfl ?_; omega; omega))
    | (refine WO.isBin ?_; first | (refine WO.lss rfl rfl rfl rfl ?_ ?_ <;> intro hc) | (refine WO.leq rfl rfl rfl rfl ?_ ?_ <;> intro hc) | (refine WO.gtr rfl rfl rfl rfl ?_ ?_ <;> intro hc) | (refine WO.geq rfl rfl rfl rfl ?_ ?_ <;> intro hc) | (refine WO.eql rfl rfl rfl rfl ?_ ?_ <;> intro hc) | (refine WO.neq rfl rfl rfl rfl ?_ ?_ <;> intro hc) | (refine WO.add rfl rfl rfl rfl ?_ ?_ ?_; omega; omega) | (refine WO.sub rfl rfl rfl rfl ?_ ?_ ?_; omega; omega) | (refine WO.rem rfl rfl rfl rfl ?_ ?_; omega))
    | (refine WO.isAssign ?_; first | refine WO.assign rfl rfl rfl ?_)
    | (refine WO.isCall ?_; first | refine WO.lenF (Ints.len (Ints.own (e := 3) 0 rfl)) rfl rfl rfl ?_ | refine WO.callV (g := 17) (fun h' hh hb => (Has_runs h' hh.top av sa (sb.getD ((i : Int)).toNat 0) (Ints.own 1 rfl h' hh hb) (by omega)).mono fun r h2 e => ⟨e.1, e.2.trans (by rw [List.contains_iff_mem.2 ((ha2 _).2 (hangs_hangs (fun x => (ha2 x).1) ((hb2 _).1 (getD_mem (by omega)))))])⟩) rfl rfl rfl rfl ?_)
    | (refine WO.isUn ?_; first | refine WO.notT rfl rfl rfl ?_ | refine WO.notF rfl rfl rfl ?_ | (refine WO.notS rfl rfl rfl ?_ ?_ <;> intro hc) | (refine WO.neg rfl rfl rfl ?_ ?_ ?_; omega; omega))
    | (refine WO.isIA ?_; first | (refine WO.ixF (Ints.ix (Ints.own (e := 3) 0 rfl) ?_ ?_) rfl rfl rfl rfl ?_; omega; omega))
    | (refine WO.isNil ?_; first | refine WO.nilCheck rfl rfl rfl ?_)
    | refine WO.nil ?_)
  · exact ⟨i + 1, ⟨rfl, rfl, rfl, rfl, rfl, trivial⟩, List.Sublist.refl _, (by show i + 1 ≤ _; omega), (by show sb.length - (i + 1) < sb.length - i; omega)⟩
  refine WC.loop (α := Nat) (fun i => [(6, .pointer (some ⟨b, 0, none⟩)), (9, cv), (10, av), (14, .int .i64 (i : Int))]) (fun _ => [.own av 1 3 (sa.map encI), .own cv 1 3 (cc.map encI), refE b' sv L', prgE b mb L]) (fun i => i ≤ cc.length) (fun i => cc.length - i) 0 ⟨rfl, rfl, rfl, rfl, trivial⟩ (List.Sublist.cons _ (List.Sublist.refl _)) (Nat.zero_le _) ?_
  intro j hj
  repeat' (first
    | refine WC.seq ?_ | refine WC.region ?_ | refine WC.block ?_ | refine WC.condT rfl ?_ | refine WC.condF rfl ?_ | refine WC.skip ?_ | refine WC.exit ?_ | refine WC.ret ?_ | refine WC.scope ?_
    | (refine WO.isG ?_; refine WO.unwanted rfl rfl ?_)
    | (refine WO.isMove ?_; first | refine WO.move rfl rfl rfl ?_)
    | (refine WO.isPick ?_; first | refine WO.pickT rfl rfl rfl rfl ?_ | refine WO.pickF rfl rfl rfl rfl ?_)
    | (refine WO.isLoad ?_; first | (refine WO.ldF (Ints.ld (Ints.own (e := 3) 1 rfl) ?_ ?_) rfl rfl rfl ?_; omega; omega))
    | (refine WO.isBin ?_; first | (refine WO.lss rfl rfl rfl rfl ?_ ?_ <;> intro hc) | (refine WO.leq rfl rfl rfl rfl ?_ ?_ <;> intro hc) | (refine WO.gtr rfl rfl rfl rfl ?_ ?_ <;> intro hc) | (refine WO.geq rfl rfl rfl rfl ?_ ?_ <;> intro hc) | (refine WO.eql rfl rfl rfl rfl ?_ ?_ <;> intro hc) | (refine WO.neq rfl rfl rfl rfl ?_ ?_ <;> intro hc) | (refine WO.add rfl rfl rfl rfl ?_ ?_ ?_; omega; omega) | (refine WO.sub rfl rfl rfl rfl ?_ ?_ ?_; omega; omega) | (refine WO.rem rfl rfl rfl rfl ?_ ?_; omega))
    | (refine WO.isAssign ?_; first | refine WO.assign rfl rfl rfl ?_)
    | (refine WO.isCall ?_; first | refine WO.lenF (Ints.len (Ints.own (e := 3) 1 rfl)) rfl rfl rfl ?_ | (refine WO.callO (g := 18) rfl rfl rfl rfl (fun h' hh hb => Direct18_runs h' hh.top b mb L _ (hb.at (i := 3) rfl).1.g (tw.bnd (by omega))) ?_; intro dv))
    | (refine WO.isUn ?_; first | refine WO.notT rfl rfl rfl ?_ | refine WO.notF rfl rfl rfl ?_ | (refine WO.notS rfl rfl rfl ?_ ?_ <;> intro hc) | (refine WO.neg rfl rfl rfl ?_ ?_ ?_; omega; omega))
    | (refine WO.isIA ?_; first | (refine WO.ixF (Ints.ix (Ints.own (e := 3) 1 rfl) ?_ ?_) rfl rfl rfl rfl ?_; omega; omega))
    | (refine WO.isNil ?_; first | refine WO.nilCheck rfl rfl rfl ?_)
    | refine WO.nil ?_)
  · have hdl := dir_len (L := L) (cc.getD ((j : Int)).toNat 0)
    refine WC.loop (α := Nat) (fun k => [(6, .pointer (some ⟨b, 0, none⟩)), (9, cv), (10, av), (14, .int .i64 (j : Int)), (15, dv), (16, .int .i64 (k : Int))]) (fun _ => [.own dv 1 3 ((directP L (cc.getD ((j : Int)).toNat 0)).map encI), .own av 1 3 (sa.map encI), .own cv 1 3 (cc.map encI), refE b' sv L', prgE b mb L]) (fun k => k ≤ (directP L (cc.getD ((j : Int)).toNat 0)).length) (fun k => (directP L (cc.getD ((j : Int)).toNat 0)).length - k) 0 ⟨rfl, rfl, rfl, rfl, rfl, rfl, trivial⟩ (List.Sublist.refl _) (Nat.zero_le _) ?_
    intro k hk
    repeat' (first
    | refine WC.seq ?_ | refine WC.region ?_ | refine WC.block ?_ | refine WC.condT rfl ?_ | refine WC.condF rfl ?_ | refine WC.skip ?_ | refine WC.exit ?_ | refine WC.ret ?_ | refine WC.scope ?_
    | (refine WO.isG ?_; refine WO.unwanted rfl rfl ?_)
    | (refine WO.isMove ?_; first | refine WO.move rfl rfl rfl ?_)
    | (refine WO.isPick ?_; first | refine WO.pickT rfl rfl rfl rfl ?_ | refine WO.pickF rfl rfl rfl rfl ?_)
    | (refine WO.isLoad ?_; first | (refine WO.ldF (Ints.ld (Ints.own (e := 3) 0 rfl) ?_ ?_) rfl rfl rfl ?_; omega; omega))
    | (refine WO.isBin ?_; first | (refine WO.lss rfl rfl rfl rfl ?_ ?_ <;> intro hc) | (refine WO.leq rfl rfl rfl rfl ?_ ?_ <;> intro hc) | (refine WO.gtr rfl rfl rfl rfl ?_ ?_ <;> intro hc) | (refine WO.geq rfl rfl rfl rfl ?_ ?_ <;> intro hc) | (refine WO.eql rfl rfl rfl rfl ?_ ?_ <;> intro hc) | (refine WO.neq rfl rfl rfl rfl ?_ ?_ <;> intro hc) | (refine WO.add rfl rfl rfl rfl ?_ ?_ ?_; omega; omega) | (refine WO.sub rfl rfl rfl rfl ?_ ?_ ?_; omega; omega) | (refine WO.rem rfl rfl rfl rfl ?_ ?_; omega))
    | (refine WO.isAssign ?_; first | refine WO.assign rfl rfl rfl ?_)
    | (refine WO.isCall ?_; first | refine WO.lenF (Ints.len (Ints.own (e := 3) 0 rfl)) rfl rfl rfl ?_ | refine WO.callV (g := 17) (fun h' hh hb => (Has_runs h' hh.top av sa ((directP L (cc.getD ((j : Int)).toNat 0)).getD ((k : Int)).toNat 0) (Ints.own 1 rfl h' hh hb) (by omega)).mono fun r h2 e => ⟨e.1, e.2.trans (by rw [List.contains_iff_mem.2 ((ha2 _).2 (.one _ (cc.getD ((j : Int)).toNat 0) (mem_directP.1 (getD_mem (by omega))).1 (getD_mem (by omega)) (mem_directP.1 (getD_mem (by omega))).2))])⟩) rfl rfl rfl rfl ?_)
    | (refine WO.isUn ?_; first | refine WO.notT rfl rfl rfl ?_ | refine WO.notF rfl rfl rfl ?_ | (refine WO.notS rfl rfl rfl ?_ ?_ <;> intro hc) | (refine WO.neg rfl rfl rfl ?_ ?_ ?_; omega; omega))
    | (refine WO.isIA ?_; first | (refine WO.ixF (Ints.ix (Ints.own (e := 3) 0 rfl) ?_ ?_) rfl rfl rfl rfl ?_; omega; omega))
    | (refine WO.isNil ?_; first | refine WO.nilCheck rfl rfl rfl ?_)
    | refine WO.nil ?_)
    · exact ⟨k + 1, ⟨rfl, rfl, rfl, rfl, rfl, rfl, trivial⟩, List.Sublist.refl _, (by show k + 1 ≤ _; omega), (by show _ - (k + 1) < _ - k; omega)⟩
    · exact ⟨j + 1, ⟨rfl, rfl, rfl, rfl, trivial⟩, List.Sublist.cons _ (List.Sublist.refl _), (by show j + 1 ≤ _; omega), (by show cc.length - (j + 1) < cc.length - j; omega)⟩
  refine WC.loop (α := Nat) (fun i => [(6, .pointer (some ⟨b, 0, none⟩)), (9, cv), (10, av), (18, .int .i64 (i : Int))]) (fun _ => [.own av 1 3 (sa.map encI), .own cv 1 3 (cc.map encI), refE b' sv L', prgE b mb L]) (fun i => i ≤ sa.length) (fun i => sa.length - i) 0 ⟨rfl, rfl, rfl, rfl, trivial⟩ (List.Sublist.refl _) (Nat.zero_le _) ?_
  intro i hi
  repeat' (first
    | refine WC.draw (id := 30) [0, 1, 2, 3, 4, 5, 6, 7, 8, 9, 10, 11, 12, 13, 14, 15, 16, 17] (by kernel_rfl) ?_
    | refine WC.seq ?_ | refine WC.region ?_ | refine WC.block ?_ | refine WC.condT rfl ?_ | refine WC.condF rfl ?_ | refine WC.skip ?_ | refine WC.exit ?_ | refine WC.ret ?_ | refine WC.scope ?_
    | (refine WO.isG ?_; refine WO.unwanted rfl rfl ?_)
    | (refine WO.isMove ?_; first | refine WO.move rfl rfl rfl ?_)
    | (refine WO.isPick ?_; first | refine WO.pickT rfl rfl rfl rfl ?_ | refine WO.pickF rfl rfl rfl rfl ?_)
    | (refine WO.isLoad ?_; first | (refine WO.ldF (Ints.ld (Ints.own (e := 3) 0 rfl) ?_ ?_) rfl rfl rfl ?_; omega; omega))
    | (refine WO.isBin ?_; first | (refine WO.lss rfl rfl rfl rfl ?_ ?_ <;> intro hc) | (refine WO.leq rfl rfl rfl rfl ?_ ?_ <;> intro hc) | (refine WO.gtr rfl rfl rfl rfl ?_ ?_ <;> intro hc) | (refine WO.geq rfl rfl rfl rfl ?_ ?_ <;> intro hc) | (refine WO.eql rfl rfl rfl rfl ?_ ?_ <;> intro hc) | (refine WO.neq rfl rfl rfl rfl ?_ ?_ <;> intro hc) | (refine WO.add rfl rfl rfl rfl ?_ ?_ ?_; omega; omega) | (refine WO.sub rfl rfl rfl rfl ?_ ?_ ?_; omega; omega) | (refine WO.rem rfl rfl rfl rfl ?_ ?_; omega))
    | (refine WO.isAssign ?_; first | refine WO.assign rfl rfl rfl ?_)
    | (refine WO.isCall ?_; first | refine WO.lenF (Ints.len (Ints.own (e := 3) 0 rfl)) rfl rfl rfl ?_ | refine WO.callV (g := 19) (fun h' hh hb => (reached19_runs h' hh.top b mb L (sa.getD ((i : Int)).toNat 0) cv av cc sa (hb.at (i := 3) rfl).1.g (tw.bnd (by omega)) (Ints.own 1 rfl h' hh hb) (Ints.own 0 rfl h' hh hb) (by omega)).mono fun r h2 e => ⟨e.1, e.2.trans (by rw [reach_any ha2 (getD_mem (by omega))])⟩) rfl rfl rfl rfl ?_)
    | (refine WO.isUn ?_; first | refine WO.notT rfl rfl rfl ?_ | refine WO.notF rfl rfl rfl ?_ | (refine WO.notS rfl rfl rfl ?_ ?_ <;> intro hc) | (refine WO.neg rfl rfl rfl ?_ ?_ ?_; omega; omega))
    | (refine WO.isIA ?_; first | (refine WO.ixF (Ints.ix (Ints.own (e := 3) 0 rfl) ?_ ?_) rfl rfl rfl rfl ?_; omega; omega))
    | (refine WO.isNil ?_; first | refine WO.nilCheck rfl rfl rfl ?_)
    | refine WO.nil ?_)
  · exfalso
    have := asc_at ha1 (i := ((i : Int) - 1).toNat) (j := ((i : Int)).toNat) (by omega) (by omega)
    omega
  · exact ⟨i + 1, ⟨rfl, rfl, rfl, rfl, trivial⟩, List.Sublist.refl _, (by show i + 1 ≤ _; omega), (by show sa.length - (i + 1) < sa.length - i; omega)⟩
  · exact ⟨i + 1, ⟨rfl, rfl, rfl, rfl, trivial⟩, List.Sublist.refl _, (by show i + 1 ≤ _; omega), (by show sa.length - (i + 1) < sa.length - i; omega)⟩
  · exact ⟨_, ⟨_, _, rfl, rfl, rfl⟩, fun h' k _ => ⟨k.pure, rfl⟩⟩
end Go.Proofs.Ythggbjpanpnlnaa

/- Chapter 20's law on the ideal machine: GraphStands. -/
namespace Go.Proofs.Ythggbjpanpnlnaa
open Go Go.Ideal
set_option maxHeartbeats 4000000

theorem mem_erase {l : List Int} {k : Nat} (hk : k < l.length) (y : Int) : y ∈ l ↔ y = l[k] ∨ y ∈ l.eraseIdx k := by
  have e : l = l.take k ++ l[k] :: l.drop (k + 1) := by rw [← List.drop_eq_getElem_cons hk, List.take_append_drop]
  have e2 : y ∈ l ↔ y ∈ l.take k ++ l[k] :: l.drop (k + 1) := by rw [← e]
  rw [e2, List.eraseIdx_eq_take_drop_succ, List.mem_append, List.mem_cons, List.mem_append]
  constructor
  · rintro (h | h | h)
    · exact .inr (.inl h)
    · exact .inl h
    · exact .inr (.inr h)
  · rintro (h | h | h)
    · exact .inr (.inl h)
    · exact .inl h
    · exact .inr (.inr h)
theorem orderM_spec {need : Int → Int → Bool} : ∀ (f : Nat) (left out : List Int), left.length ≤ f → out.Pairwise (fun x y => need x y = false) → (∀ x ∈ out, need x x = false) → (∀ x ∈ out, ∀ y ∈ left, need x y = false) →
    ((orderM need f left out).1.Pairwise (fun x y => need x y = false) ∧ ∀ x ∈ (orderM need f left out).1, need x x = false) ∧ (∀ x ∈ (orderM need f left out).2, (orderM need f left out).2.any (need x) = true) ∧ (∀ x, (x ∈ (orderM need f left out).1 ∨ x ∈ (orderM need f left out).2) ↔ (x ∈ out ∨ x ∈ left))
  | 0, left, out, hl, h1, h2, h3 => by
    have : left = [] := List.eq_nil_of_length_eq_zero (by omega)
    subst this
    exact ⟨⟨h1, h2⟩, fun x hx => (List.not_mem_nil hx).elim, fun x => Iff.rfl⟩
  | f + 1, left, out, hl, h1, h2, h3 => by
    simp only [orderM]
    cases h : left.findIdx? (fun a => !left.any (need a)) with
    | none =>
      refine ⟨⟨h1, h2⟩, fun x hx => ?_, fun x => Iff.rfl⟩
      have := List.findIdx?_eq_none_iff.1 h x hx
      simpa using this
    | some k =>
      obtain ⟨hk, hp, _⟩ := List.findIdx?_eq_some_iff_getElem.1 h
      have hp : ∀ y ∈ left, need left[k] y = false := by
        intro y hy
        simp only [Bool.not_eq_true', List.any_eq_false] at hp
        simpa using hp y hy
      have hm := mem_erase hk
      have hx : left[k] ∈ left := List.getElem_mem hk
      have e : left.getD k 0 = left[k] := by rw [List.getD_eq_getElem?_getD, List.getElem?_eq_getElem hk]; rfl
      simp only [e]
      obtain ⟨q1, q2, q3⟩ := orderM_spec f (left.eraseIdx k) (out ++ [left[k]]) (by rw [List.length_eraseIdx, if_pos hk]; omega) (List.pairwise_append.2 ⟨h1, List.pairwise_singleton _ _, fun a ha b hb => by rw [List.mem_singleton.1 hb]; exact h3 a ha _ hx⟩)
        (fun x hx' => by
          rcases List.mem_append.1 hx' with h | h
          · exact h2 x h
          · rw [List.mem_singleton.1 h]; exact hp _ hx)
        (fun x hx' y hy => by
          have hy' := (hm y).2 (.inr hy)
          rcases List.mem_append.1 hx' with h | h
          · exact h3 x h y hy'
          · rw [List.mem_singleton.1 h]; exact hp y hy')
      refine ⟨q1, q2, fun x => ?_⟩
      rw [q3 x, List.mem_append, List.mem_singleton, hm x]
      constructor
      · rintro ((h | h) | h)
        · exact .inl h
        · exact .inr (.inl h)
        · exact .inr (.inr h)
      · rintro (h | h | h)
        · exact .inl (.inl h)
        · exact .inl (.inr h)
        · exact .inr h
theorem Ordered.spec {need : Int → Int → Bool} {l a b : List Int} (h : Ordered need l a b) : ∃ c, Asc c ∧ (∀ x, x ∈ c ↔ x ∈ l ∧ inG x = true) ∧ a.length + b.length = c.length ∧ (∀ x, x ∈ a ++ b ↔ x ∈ c) ∧ (∀ i j, i ≤ j → j < a.length → need (a.getD i 0) (a.getD j 0) = false) ∧ ∀ x ∈ b, b.any (need x) = true := by
  obtain ⟨c, hc, hm, e⟩ := h
  have h1 := orderM_len (need := need) c.length c []
  obtain ⟨⟨q1, q2⟩, q3, q4⟩ := orderM_spec (need := need) c.length c [] (Nat.le_refl _) List.Pairwise.nil (fun x hx => (List.not_mem_nil hx).elim) (fun x hx => (List.not_mem_nil hx).elim)
  rw [← e] at h1 q1 q2 q3 q4
  simp only [List.length_nil, Nat.add_zero] at h1
  have q1 : a.Pairwise (fun x y => need x y = false) := q1
  refine ⟨c, hc, hm, h1, fun x => ?_, fun i j hij hj => ?_, q3⟩
  · rw [List.mem_append, q4 x]
    exact ⟨fun h => h.elim (fun h => (List.not_mem_nil h).elim) id, .inr⟩
  · have e1 : a.getD i 0 = a[i]'(by omega) := by rw [List.getD_eq_getElem?_getD, List.getElem?_eq_getElem]; rfl
    have e2 : a.getD j 0 = a[j] := by rw [List.getD_eq_getElem?_getD, List.getElem?_eq_getElem hj]; rfl
    rw [e1, e2]
    rcases Nat.lt_or_ge i j with hlt | hge
    · exact List.pairwise_iff_getElem.1 q1 i j (by omega) hj hlt
    · have : i = j := by omega
      subst this
      exact q2 _ (List.getElem_mem _)
theorem need_ats {L : List NodeR} {x y : Int} (h : need L x y = true) : x ∈ ats L := by
  by_cases hx : x ∈ ats L
  · exact hx
  · unfold need needs at h
    rw [areas_none hx] at h
    cases h
theorem no_dir {L : List NodeR} {x y : Int} (h : need L x y = false) : (directP L y).contains x = false := by
  cases hx : (directP L y).contains x with
  | false => rfl
  | true => rw [(mem_directP.1 (List.contains_iff_mem.1 hx)).2] at h; cases h
theorem stuck_any {L : List NodeR} {l : List Int} {x : Int} (h : l.any (need L x) = true) : ((l ++ []).any fun y => (directP L y).contains x) = true := by
  rw [List.append_nil]
  obtain ⟨y, hy, hn⟩ := List.any_eq_true.1 h
  exact List.any_eq_true.2 ⟨y, hy, List.contains_iff_mem.2 (mem_directP.2 ⟨need_ats hn, hn⟩)⟩
theorem law6_runs (h : Heap) (hwf : Wf h) (v w : Value) (l : List RawN) (cs : List Int) (S : LawN h v l) (hw : ∀ n ∈ l, wide n.at_ ∧ ∀ a ∈ n.ar, wide a.a ∧ wide a.b) (T : RawSl h w 1 (cs.map encI)) (hc : ∀ x ∈ cs, wide x) :
    Runs M 6 [v, w] h fun r h' => Grow h h' ∧ r = .bool true := by
  have hcl := cellsOf_len cs
  unfold cellsOf at hcl
  refine Runs.enter h hwf [] [] (blks_nil ..) (fn := Try.f6) (by kernel_rfl) (by kernel_rfl) rfl (by kernel_rfl) ?_
  repeat' (first
    | (refine WO.litE rfl rfl ?_; intro u0)
    | refine WC.seq ?_ | refine WC.region ?_ | refine WC.block ?_ | refine WC.condT rfl ?_ | refine WC.condF rfl ?_ | refine WC.skip ?_ | refine WC.exit ?_ | refine WC.ret ?_ | refine WC.scope ?_
    | (refine WO.isG ?_; refine WO.unwanted rfl rfl ?_)
    | (refine WO.isMove ?_; first | refine WO.move rfl rfl rfl ?_)
    | (refine WO.isPick ?_; first | refine WO.pickT rfl rfl rfl rfl ?_ | refine WO.pickF rfl rfl rfl rfl ?_)
    | (refine WO.isBin ?_; first | (refine WO.lss rfl rfl rfl rfl ?_ ?_ <;> intro hc) | (refine WO.leq rfl rfl rfl rfl ?_ ?_ <;> intro hc) | (refine WO.gtr rfl rfl rfl rfl ?_ ?_ <;> intro hc) | (refine WO.geq rfl rfl rfl rfl ?_ ?_ <;> intro hc) | (refine WO.eql rfl rfl rfl rfl ?_ ?_ <;> intro hc) | (refine WO.neq rfl rfl rfl rfl ?_ ?_ <;> intro hc) | (refine WO.add rfl rfl rfl rfl ?_ ?_ ?_; omega; omega) | (refine WO.sub rfl rfl rfl rfl ?_ ?_ ?_; omega; omega) | (refine WO.rem rfl rfl rfl rfl ?_ ?_; omega))
    | (refine WO.isAssign ?_; first | refine WO.assign rfl rfl rfl ?_)
    | (refine WO.isCall ?_; first | refine WO.callV (g := 9) (fun h' hh _ => shown_runs h' hh.top) rfl rfl rfl rfl ?_ | (refine WO.callE (g := 10) (α := Nat × Nat × List NodeR × Nat × Value × List NodeR) (fun q => .tuple #[.pointer (some ⟨q.1, 0, none⟩), .pointer (some ⟨q.2.2.2.1, 0, none⟩), .bool true]) (fun q => [refE q.2.2.2.1 q.2.2.2.2.1 q.2.2.2.2.2, prgE q.1 q.2.1 q.2.2.1]) (fun q => Twin q.2.2.1 q.2.2.2.2.2 ∧ q.2.2.1.length ≤ 40 ∧ q.2.2.2.2.2.length ≤ 40) (fun h' hh hb => (made_runs h' hh.top _ _ (S.grow hh.pure) hw).mono fun v h2 e => ⟨e.1, by obtain ⟨_, b, mb, L, b', sv, L', e1, e2, e3⟩ := e; exact ⟨(b, mb, L, b', sv, L'), e1, e2, e3⟩⟩) rfl rfl rfl rfl ?_; rintro ⟨b, mb, L, b', sv, L'⟩ ⟨tw, hL, hL'⟩; dsimp only at tw hL hL') | (refine WO.callO (g := 11) rfl rfl rfl rfl (fun h' hh _ => some2_runs h' hh.top _ _ (T.grow hh.pure) hc) ?_; intro cv) | (refine WO.callE (g := 15) (α := Value × Value × List Int × List Int × Nat) (fun q => .tuple #[q.1, q.2.1]) (fun q => [bufE q.2.1 q.2.2.2.1 q.2.2.2.2, .own q.1 1 3 (q.2.2.1.map encI)]) (fun q => Ordered (need L) ((cs.take 40).map someOne) q.2.2.1 q.2.2.2.1) (fun h' hh hb => (Order15_runs h' hh.top b mb L _ _ (hb.at (i := 2) rfl).1.g (tw.bnd (by omega)) (Ints.own 0 rfl h' hh hb) (by omega)).mono fun v h2 e => ⟨e.1, by obtain ⟨_, u, v, x, y, m, e1, e2, e3⟩ := e; exact ⟨(u, v, x, y, m), e1, e2, e3⟩⟩) rfl rfl rfl rfl ?_; rintro ⟨ou, ov, ox, oy, om⟩ ho; dsimp only at ho; have hol := ho.len) | (refine WO.appI 0 (l := []) (m := ox) (Ints.own 2 rfl) ?_ rfl rfl rfl (fun _ => rfl) rfl ?_; (simp; omega); intro w0) | (refine WO.appI 0 (l := ox) (m := oy) (IntsS.ints (BufI.has 1 rfl)) ?_ rfl rfl rfl (fun _ => rfl) rfl ?_; omega; intro w1) | (refine WO.callE (g := 20) (α := Value × List Int) (fun q => q.1) (fun q => [.own q.1 1 3 (q.2.map encI)]) (fun q => Asc q.2 ∧ ∀ x, x ∈ q.2 ↔ x ∈ (ox ++ oy) ∧ inG x = true) (fun h' hh hb => (Rising20_runs h' hh.top _ (ox ++ oy) (Ints.own 0 rfl h' hh hb) (by first | omega | (simp only [List.length_append]; omega))).mono fun v hm1 e => ⟨e.1, by obtain ⟨_, s, e1, e2, e3⟩ := e; exact ⟨(v, s), rfl, ⟨e1, e2⟩, ⟨fun x hx => by rw [List.mem_singleton.1 hx]; exact e3, List.pairwise_singleton _ _⟩⟩⟩) rfl rfl rfl rfl ?_; rintro ⟨r1, R1⟩ ⟨hr1, hm1⟩; dsimp only at hr1 hm1) | (refine WO.callE (g := 20) (α := Value × List Int) (fun q => q.1) (fun q => [.own q.1 1 3 (q.2.map encI)]) (fun q => Asc q.2 ∧ ∀ x, x ∈ q.2 ↔ x ∈ ((cs.take 40).map someOne) ∧ inG x = true) (fun h' hh hb => (Rising20_runs h' hh.top _ ((cs.take 40).map someOne) (Ints.own 4 rfl h' hh hb) (by first | omega | (simp only [List.length_append]; omega))).mono fun v hm2 e => ⟨e.1, by obtain ⟨_, s, e1, e2, e3⟩ := e; exact ⟨(v, s), rfl, ⟨e1, e2⟩, ⟨fun x hx => by rw [List.mem_singleton.1 hx]; exact e3, List.pairwise_singleton _ _⟩⟩⟩) rfl rfl rfl rfl ?_; rintro ⟨r2, R2⟩ ⟨hr2, hm2⟩; dsimp only at hr2 hm2) | (refine WO.callE (g := 20) (α := Value × List Int) (fun q => q.1) (fun q => [.own q.1 1 3 (q.2.map encI)]) (fun q => Asc q.2 ∧ ∀ x, x ∈ q.2 ↔ x ∈ ((cs.take 40).map someOne) ∧ inG x = true) (fun h' hh hb => (Rising20_runs h' hh.top _ ((cs.take 40).map someOne) (Ints.own 5 rfl h' hh hb) (by first | omega | (simp only [List.length_append]; omega))).mono fun v hm3 e => ⟨e.1, by obtain ⟨_, s, e1, e2, e3⟩ := e; exact ⟨(v, s), rfl, ⟨e1, e2⟩, ⟨fun x hx => by rw [List.mem_singleton.1 hx]; exact e3, List.pairwise_singleton _ _⟩⟩⟩) rfl rfl rfl rfl ?_; rintro ⟨r3, R3⟩ ⟨hr3, hm3⟩; dsimp only at hr3 hm3) | refine WO.callV (g := 12) (fun h' hh hb => (same_runs h' hh.top r1 r2 R1 R2 (Ints.own 1 rfl h' hh hb) (Ints.own 0 rfl h' hh hb) (by have := asc_len hr1 hm1; rw [List.length_append] at this; omega)).mono fun r h2 e => ⟨e.1, e.2.trans (by rw [decide_eq_true (Asc.ext hr1 hr2 (fun x => by obtain ⟨c, _, q2, _, q4, _⟩ := ho.spec; rw [hm1, hm2, q4, q2, and_assoc, and_self]))])⟩) rfl rfl rfl rfl ?_ | refine WO.lenF (Ints.len (l := ox) (Ints.own (e := 3) 4 rfl)) rfl rfl rfl ?_ | refine WO.lenF (Ints.len (l := oy) (IntsS.ints (BufI.has 3 rfl))) rfl rfl rfl ?_ | refine WO.lenF (Ints.len (l := R3) (Ints.own (e := 3) 0 rfl)) rfl rfl rfl ?_)
    | (refine WO.isUn ?_; first | refine WO.notT rfl rfl rfl ?_ | refine WO.notF rfl rfl rfl ?_ | (refine WO.notS rfl rfl rfl ?_ ?_ <;> intro hc) | (refine WO.neg rfl rfl rfl ?_ ?_ ?_; omega; omega))
    | (refine WO.isNil ?_; first | refine WO.nilCheck rfl rfl rfl ?_)
    | (refine WO.isExt ?_; first | refine WO.extract rfl rfl rfl rfl ?_)
    | refine WO.nil ?_)
  all_goals first
    | (exfalso
       obtain ⟨c, q1, q2, q3, _⟩ := ho.spec
       have : c = R3 := Asc.ext q1 hr3 (fun x => by rw [q2, hm3])
       rw [this] at q3
       omega)
    | skip
  obtain ⟨c0, _, _, _, _, hpw, hst⟩ := ho.spec
  refine WC.loop (α := Nat) (fun i => [(6, .pointer (some ⟨b, 0, none⟩)), (10, ou), (11, ov), (12, .int .i64 (i : Int))]) (fun _ => [bufE ov oy om, .own ou 1 3 (ox.map encI), .own cv 1 3 (((cs.take 40).map someOne).map encI), refE b' sv L', prgE b mb L]) (fun i => i ≤ ox.length) (fun i => ox.length - i) 0 ⟨rfl, rfl, rfl, rfl, trivial⟩ (List.Sublist.cons _ (List.Sublist.cons _ (List.Sublist.cons _ (List.Sublist.cons _ (List.Sublist.refl _))))) (Nat.zero_le _) ?_
  intro i hi
  repeat' (first
    | refine WC.seq ?_ | refine WC.region ?_ | refine WC.block ?_ | refine WC.condT rfl ?_ | refine WC.condF rfl ?_ | refine WC.skip ?_ | refine WC.exit ?_ | refine WC.ret ?_ | refine WC.scope ?_
    | (refine WO.isG ?_; refine WO.unwanted rfl rfl ?_)
    | (refine WO.isMove ?_; first | refine WO.move rfl rfl rfl ?_)
    | (refine WO.isPick ?_; first | refine WO.pickT rfl rfl rfl rfl ?_ | refine WO.pickF rfl rfl rfl rfl ?_)
    | (refine WO.isLoad ?_; first | (refine WO.ldF (Ints.ld (Ints.own (e := 3) 1 rfl) ?_ ?_) rfl rfl rfl ?_; omega; omega))
    | (refine WO.isBin ?_; first | (refine WO.lss rfl rfl rfl rfl ?_ ?_ <;> intro hc) | (refine WO.leq rfl rfl rfl rfl ?_ ?_ <;> intro hc) | (refine WO.gtr rfl rfl rfl rfl ?_ ?_ <;> intro hc) | (refine WO.geq rfl rfl rfl rfl ?_ ?_ <;> intro hc) | (refine WO.eql rfl rfl rfl rfl ?_ ?_ <;> intro hc) | (refine WO.neq rfl rfl rfl rfl ?_ ?_ <;> intro hc) | (refine WO.add rfl rfl rfl rfl ?_ ?_ ?_; omega; omega) | (refine WO.sub rfl rfl rfl rfl ?_ ?_ ?_; omega; omega) | (refine WO.rem rfl rfl rfl rfl ?_ ?_; omega))
    | (refine WO.isAssign ?_; first | refine WO.assign rfl rfl rfl ?_)
    | (refine WO.isCall ?_; first | refine WO.lenF (Ints.len (Ints.own (e := 3) 1 rfl)) rfl rfl rfl ?_ | (refine WO.callO (g := 18) rfl rfl rfl rfl (fun h' hh hb => Direct18_runs h' hh.top b mb L _ (hb.at (i := 4) rfl).1.g (tw.bnd (by omega))) ?_; intro dv))
    | (refine WO.isUn ?_; first | refine WO.notT rfl rfl rfl ?_ | refine WO.notF rfl rfl rfl ?_ | (refine WO.notS rfl rfl rfl ?_ ?_ <;> intro hc) | (refine WO.neg rfl rfl rfl ?_ ?_ ?_; omega; omega))
    | (refine WO.isIA ?_; first | (refine WO.ixF (Ints.ix (Ints.own (e := 3) 1 rfl) ?_ ?_) rfl rfl rfl rfl ?_; omega; omega))
    | (refine WO.isNil ?_; first | refine WO.nilCheck rfl rfl rfl ?_)
    | refine WO.nil ?_)
  · have hdl := dir_len (L := L) (ox.getD ((i : Int)).toNat 0)
    refine WC.loop (α := Nat) (fun k => [(6, .pointer (some ⟨b, 0, none⟩)), (10, ou), (11, ov), (12, .int .i64 (i : Int)), (13, dv), (14, .int .i64 (k : Int))]) (fun _ => [.own dv 1 3 ((directP L (ox.getD ((i : Int)).toNat 0)).map encI), bufE ov oy om, .own ou 1 3 (ox.map encI), .own cv 1 3 (((cs.take 40).map someOne).map encI), refE b' sv L', prgE b mb L]) (fun k => k ≤ i + 1) (fun k => i + 1 - k) 0 ⟨rfl, rfl, rfl, rfl, rfl, rfl, trivial⟩ (List.Sublist.refl _) (Nat.zero_le _) ?_
    intro k hk
    repeat' (first
    | refine WC.seq ?_ | refine WC.region ?_ | refine WC.block ?_ | refine WC.condT rfl ?_ | refine WC.condF rfl ?_ | refine WC.skip ?_ | refine WC.exit ?_ | refine WC.ret ?_ | refine WC.scope ?_
    | (refine WO.isG ?_; refine WO.unwanted rfl rfl ?_)
    | (refine WO.isMove ?_; first | refine WO.move rfl rfl rfl ?_)
    | (refine WO.isPick ?_; first | refine WO.pickT rfl rfl rfl rfl ?_ | refine WO.pickF rfl rfl rfl rfl ?_)
    | (refine WO.isLoad ?_; first | (refine WO.ldF (Ints.ld (Ints.own (e := 3) 2 rfl) ?_ ?_) rfl rfl rfl ?_; omega; omega))
    | (refine WO.isBin ?_; first | (refine WO.lss rfl rfl rfl rfl ?_ ?_ <;> intro hc) | (refine WO.leq rfl rfl rfl rfl ?_ ?_ <;> intro hc) | (refine WO.gtr rfl rfl rfl rfl ?_ ?_ <;> intro hc) | (refine WO.geq rfl rfl rfl rfl ?_ ?_ <;> intro hc) | (refine WO.eql rfl rfl rfl rfl ?_ ?_ <;> intro hc) | (refine WO.neq rfl rfl rfl rfl ?_ ?_ <;> intro hc) | (refine WO.add rfl rfl rfl rfl ?_ ?_ ?_; omega; omega) | (refine WO.sub rfl rfl rfl rfl ?_ ?_ ?_; omega; omega) | (refine WO.rem rfl rfl rfl rfl ?_ ?_; omega))
    | (refine WO.isAssign ?_; first | refine WO.assign rfl rfl rfl ?_)
    | (refine WO.isCall ?_; first | refine WO.lenF (Ints.len (Ints.own (e := 3) 2 rfl)) rfl rfl rfl ?_ | refine WO.callV (g := 17) (fun h' hh hb => (Has_runs h' hh.top dv (directP L (ox.getD ((i : Int)).toNat 0)) (ox.getD ((k : Int)).toNat 0) (Ints.own 0 rfl h' hh hb) (by omega)).mono fun r h2 e => ⟨e.1, e.2.trans (by rw [no_dir (hpw ((k : Int)).toNat ((i : Int)).toNat (by omega) (by omega))])⟩) rfl rfl rfl rfl ?_)
    | (refine WO.isUn ?_; first | refine WO.notT rfl rfl rfl ?_ | refine WO.notF rfl rfl rfl ?_ | (refine WO.notS rfl rfl rfl ?_ ?_ <;> intro hc) | (refine WO.neg rfl rfl rfl ?_ ?_ ?_; omega; omega))
    | (refine WO.isIA ?_; first | (refine WO.ixF (Ints.ix (Ints.own (e := 3) 2 rfl) ?_ ?_) rfl rfl rfl rfl ?_; omega; omega))
    | (refine WO.isNil ?_; first | refine WO.nilCheck rfl rfl rfl ?_)
    | refine WO.nil ?_)
    · exact ⟨k + 1, ⟨rfl, rfl, rfl, rfl, rfl, rfl, trivial⟩, List.Sublist.refl _, (by show k + 1 ≤ _; omega), (by show i + 1 - (k + 1) < i + 1 - k; omega)⟩
    · exact ⟨i + 1, ⟨rfl, rfl, rfl, rfl, trivial⟩, List.Sublist.cons _ (List.Sublist.refl _), (by show i + 1 ≤ _; omega), (by show ox.length - (i + 1) < ox.length - i; omega)⟩
  refine WC.loop (α := Nat) (fun i => [(6, .pointer (some ⟨b, 0, none⟩)), (11, ov), (16, .int .i64 (i : Int))]) (fun _ => [bufE ov oy om, .own ou 1 3 (ox.map encI), .own cv 1 3 (((cs.take 40).map someOne).map encI), refE b' sv L', prgE b mb L]) (fun i => i ≤ oy.length) (fun i => oy.length - i) 0 ⟨rfl, rfl, rfl, trivial⟩ (List.Sublist.refl _) (Nat.zero_le _) ?_
  intro j hj
  repeat' (first
    | refine WC.seq ?_ | refine WC.region ?_ | refine WC.block ?_ | refine WC.condT rfl ?_ | refine WC.condF rfl ?_ | refine WC.skip ?_ | refine WC.exit ?_ | refine WC.ret ?_ | refine WC.scope ?_
    | (refine WO.isG ?_; refine WO.unwanted rfl rfl ?_)
    | (refine WO.isMove ?_; first | refine WO.move rfl rfl rfl ?_)
    | (refine WO.isPick ?_; first | refine WO.pickT rfl rfl rfl rfl ?_ | refine WO.pickF rfl rfl rfl rfl ?_)
    | (refine WO.isLoad ?_; first | (refine WO.ldF (Ints.ld (IntsS.ints (BufI.has 0 rfl)) ?_ ?_) rfl rfl rfl ?_; omega; omega))
    | (refine WO.isBin ?_; first | (refine WO.lss rfl rfl rfl rfl ?_ ?_ <;> intro hc) | (refine WO.leq rfl rfl rfl rfl ?_ ?_ <;> intro hc) | (refine WO.gtr rfl rfl rfl rfl ?_ ?_ <;> intro hc) | (refine WO.geq rfl rfl rfl rfl ?_ ?_ <;> intro hc) | (refine WO.eql rfl rfl rfl rfl ?_ ?_ <;> intro hc) | (refine WO.neq rfl rfl rfl rfl ?_ ?_ <;> intro hc) | (refine WO.add rfl rfl rfl rfl ?_ ?_ ?_; omega; omega) | (refine WO.sub rfl rfl rfl rfl ?_ ?_ ?_; omega; omega) | (refine WO.rem rfl rfl rfl rfl ?_ ?_; omega))
    | (refine WO.isAssign ?_; first | refine WO.assign rfl rfl rfl ?_)
    | (refine WO.isCall ?_; first | refine WO.lenF (Ints.len (IntsS.ints (BufI.has 0 rfl))) rfl rfl rfl ?_ | refine WO.callV (g := 19) (fun h' hh hb => (reached19_runs h' hh.top b mb L (oy.getD ((j : Int)).toNat 0) ov (.slice none 0 0) oy [] (hb.at (i := 4) rfl).1.g (tw.bnd (by omega)) (IntsS.ints (BufI.has 0 rfl) h' hh hb) (.inl ⟨rfl, rfl⟩) (by simp only [List.length_nil]; omega)).mono fun r h2 e => ⟨e.1, e.2.trans (by rw [stuck_any (hst _ (getD_mem (by omega)))])⟩) rfl rfl rfl rfl ?_)
    | (refine WO.isUn ?_; first | refine WO.notT rfl rfl rfl ?_ | refine WO.notF rfl rfl rfl ?_ | (refine WO.notS rfl rfl rfl ?_ ?_ <;> intro hc) | (refine WO.neg rfl rfl rfl ?_ ?_ ?_; omega; omega))
    | (refine WO.isIA ?_; first | (refine WO.ixF (Ints.ix (IntsS.ints (BufI.has 0 rfl)) ?_ ?_) rfl rfl rfl rfl ?_; omega; omega))
    | (refine WO.isNil ?_; first | refine WO.nilCheck rfl rfl rfl ?_)
    | refine WO.nil ?_)
  · exact ⟨j + 1, ⟨rfl, rfl, rfl, trivial⟩, List.Sublist.refl _, (by show j + 1 ≤ _; omega), (by show oy.length - (j + 1) < oy.length - j; omega)⟩
  · exact ⟨_, ⟨_, _, rfl, rfl, rfl⟩, fun h' k _ => ⟨k.pure, rfl⟩⟩
end Go.Proofs.Ythggbjpanpnlnaa

/- Chapter 20's law on the ideal machine: GraphKeeps. -/
namespace Go.Proofs.Ythggbjpanpnlnaa
open Go Go.Ideal
set_option maxHeartbeats 4000000

def modL (m : Mod) : List NodeR := m.map fun p => ⟨p.1, .slice none 0 0, p.2⟩
theorem abs_modL (m : Mod) : absN (modL m) = m := by
  unfold absN modL
  rw [List.map_map]
  exact List.map_id m
theorem len_modL (m : Mod) : (modL m).length = m.length := List.length_map _
theorem err_none {L L' : List NodeR} (t : Twin L L') {x : Int} {l : List AreaR} (hx : inG x = true) (hok : l.all okA = true) (hl : l.length ≤ 8) (hL : L.length ≤ 1000) : errM (absN L) x l = 0 := by
  rw [err_plain (by omega) (by rw [absN, List.length_map]; omega), if_neg (by rw [hx]; decide), if_neg (by rw [hok]; decide)]
theorem err_none' {L L' : List NodeR} (t : Twin L L') {x : Int} {l : List AreaR} (hx : inG x = true) (hok : l.all okA = true) (hl : l.length ≤ 8) (hL : L'.length ≤ 1000) : errM (absN L') x l = 0 := by
  rw [err_plain (by omega) (by rw [absN, List.length_map]; omega), if_neg (by rw [hx]; decide), if_neg (by rw [hok]; decide)]
theorem set28_twin {B h' : Heap} {Mu : List Nat} {H : List Ent} {b mb : Nat} {L L' : List NodeR} {x : Int} {w : Value} {l : List AreaR} (hh : Kept B Mu h') (hb : Blks B Mu H h') (k0 : Nat) (hk : H[k0]? = some (prgE b mb L)) (t : Twin L L') (hx : inG x = true) (hok : l.all okA = true) (hs : Areas h' w l) (hwb : blkOf w ≠ some mb) (hl : l.length ≤ 8) (hL : L.length ≤ 1000) (hL' : L'.length ≤ 1000) :
    Runs M 28 [.pointer (some ⟨b, 0, none⟩), .int .i64 x, w] h' fun v h2 => h'.n ≤ h2.n ∧ Wf h2 ∧ (∀ c, c < h'.n → ¬ (prgE b mb L).fp c → h2.get c = h'.get c) ∧ ∃ K : List NodeR, v = .int .i64 0 ∧ (Twin K (modL (setM (absN L') x l)) ∧ K.length ≤ L.length + 1) ∧ (prgE b mb K).ok B Mu h2 ∧ ∀ c, (prgE b mb K).fp c → (prgE b mb L).fp c ∨ h'.n ≤ c := by
  refine (set28_call hh hb k0 hk (t.bnd hL) hs hwb (by omega) (by omega)).mono fun v h2 e => ?_
  obtain ⟨e1, e2, e3, K, e4, ⟨e5, e6, e7⟩, e8, e9⟩ := e
  exact ⟨e1, e2, e3, K, by rw [e4, err_none t hx hok hl hL], ⟨t.set hL hL' hl e5 e6 (abs_modL _), e7⟩, e8, e9⟩
theorem Twin.congr {L A C : List NodeR} (t : Twin L A) (g : Good (absN C)) (h : ∀ p, p ∈ absN A ↔ p ∈ absN C) : Twin L C := ⟨g, t.nd, fun p => (t.mem p).trans (h p)⟩
theorem areas_back {C : List NodeR} (g : Good (absN C)) {n : Int} (p : Int × List AreaR) : ((p ∈ absN C ∧ p.1 ≠ n) ∨ ((areasOf C n).length ≠ 0 ∧ p = (n, areasOf C n))) ↔ p ∈ absN C := by
  have hnd : (ats C).Nodup := by rw [ats_abs]; exact g.asc.nodup
  constructor
  · rintro (h | ⟨h, rfl⟩)
    · exact h.1
    · by_cases hn : n ∈ ats C
      · rw [ats_abs, List.mem_map] at hn
        obtain ⟨p, hp, rfl⟩ := hn
        rw [areas_some hnd (a := p.2) hp]
        exact hp
      · rw [areas_none hn] at h
        exact absurd rfl h
  · intro h
    by_cases hp : p.1 = n
    · subst hp
      have e := areas_some hnd (x := p.1) (a := p.2) h
      exact .inr ⟨by rw [e]; exact g.ne p h, by rw [e]⟩
    · exact .inl ⟨h, hp⟩
theorem Twin.all {L L' : List NodeR} (t : Twin L L') (x : Int) : (areasOf L' x).all okA = true ∧ (areasOf L' x).length ≤ 8 := by
  by_cases hn : x ∈ ats L'
  · have hnd : (ats L').Nodup := t.asc.nodup
    rw [ats_abs, List.mem_map] at hn
    obtain ⟨p, hp, rfl⟩ := hn
    rw [areas_some hnd (a := p.2) hp]
    exact ⟨t.g.ok p hp, t.g.len p hp⟩
  · rw [areas_none hn]
    exact ⟨rfl, by simp⟩
theorem hangs_mono2 {k k' : List Int} {need need' : Int → Int → Bool} {l : List Int} (hk : ∀ x, x ∈ k → x ∈ k') (hn : ∀ x y, need x y = true → need' x y = true) {x : Int} (h : Hangs k need l x) : Hangs k' need' l x := by
  induction h with
  | one x y hx hy h => exact .one x y (hk x hx) hy (hn x y h)
  | more x y hx hy h ih => exact .more x y (hk x hx) ih (hn x y h)
theorem hangs_key {k : List Int} {need : Int → Int → Bool} {l : List Int} {x : Int} (h : Hangs k need l x) : x ∈ k := by cases h <;> assumption
/-- With a cell's areas taken away: what hangs now hung before, and that cell doesn't hang. -/
theorem less_hangs {L L' K : List NodeR} (t : Twin L L') {n : Int} (hL : L'.length ≤ 1000) (hn : inG n = true) (s : Twin K (modL (setM (absN L') n []))) {c : List Int} {x : Int} (h : Hangs (ats K) (need K) c x) : Hangs (ats L) (need L) c x ∧ x ≠ n := by
  have h0 := err_none' t (l := []) hn rfl (by simp) hL
  have hm : ∀ p, p ∈ absN K ↔ p ∈ absN L' ∧ p.1 ≠ n := fun p => by
    rw [s.mem, abs_modL, mem_setM h0]
    simp
  have hk : ∀ x, x ∈ ats K → x ∈ ats L ∧ x ≠ n := fun x hx => by
    rw [ats_abs, List.mem_map] at hx
    obtain ⟨p, hp, rfl⟩ := hx
    refine ⟨?_, ((hm p).1 hp).2⟩
    rw [t.keys, ats_abs]
    exact List.mem_map_of_mem ((hm p).1 hp).1
  refine ⟨hangs_mono2 (fun x hx => (hk x hx).1) (fun x y e => ?_) h, (hk x (hangs_key h)).2⟩
  have hx := need_ats e
  rw [ats_abs, List.mem_map] at hx
  obtain ⟨p, hp, rfl⟩ := hx
  unfold need at e ⊢
  rw [areas_some s.nd (a := p.2) hp] at e
  rw [areas_some t.nd (a := p.2) ((t.mem p).2 ((hm p).1 hp).1)]
  exact e
theorem at27_in (c : Int) : inG (at27 c) = true := by
  obtain ⟨b0, b1⟩ := at27_bound c
  unfold inG at27
  rw [Int.tdiv_eq_ediv_of_nonneg b0, Int.tmod_eq_emod_of_nonneg (b := 5) b0]
  exact decide_eq_true (by omega)
theorem Twin.keep1 {L L' K : List NodeR} {n : Int} (t : Twin L L') (hL : L'.length ≤ 1000) (hn : inG n = true) (s : Twin K (modL (setM (absN L') n (areasOf L n)))) : Twin K L' := by
  refine s.congr t.g (fun p => ?_)
  rw [t.areas] at s ⊢
  rw [abs_modL, mem_setM (err_none' t hn (t.all n).1 (t.all n).2 hL)]
  exact areas_back t.g p
theorem Twin.keep2 {L L' K : List NodeR} {n : Int} (t : Twin L L') (hL : L'.length ≤ 900) (hn : inG n = true) (s : Twin K (modL (setM (absN (modL (setM (absN L') n []))) n (areasOf L n)))) : Twin K L' := by
  have h0 := err_none' t (l := []) hn rfl (by simp) (show L'.length ≤ 1000 by omega)
  have hlen : (setM (absN L') n []).length ≤ 901 := by
    have := set_len (m := absN L') (x := n) (l := [])
    rw [show (absN L').length = L'.length from List.length_map _] at this
    omega
  refine s.congr t.g (fun p => ?_)
  rw [t.areas] at s ⊢
  have h1 : errM (setM (absN L') n []) n (areasOf L' n) = 0 := by
    have := (t.all n).2
    rw [err_plain (by omega) (by omega), if_neg (by rw [hn]; decide), if_neg (by rw [(t.all n).1]; decide)]
  rw [abs_modL, abs_modL, mem_setM h1, mem_setM h0]
  refine Iff.trans ?_ (areas_back t.g (n := n) p)
  simp
theorem eq45 : BinF M .eql 45 (.int .i64 0) (.int .i64 0) (.bool true) := ⟨fun ox oy => by kernel_rfl, rfl⟩
theorem ne45 : BinF M .neq 45 (.int .i64 0) (.int .i64 0) (.bool false) := ⟨fun ox oy => by kernel_rfl, rfl⟩
theorem twin_after {L K L' : List NodeR} (t : Twin L L') (s : Twin K L') {c sa sb : List Int} (ha : Asc sa) (ha2 : ∀ x, x ∈ sa ↔ Hangs (ats L) (need L) c x) (hb : Asc sb) (hb2 : ∀ x, x ∈ sb ↔ Hangs (ats K) (need K) c x) : sb = sa := Asc.ext hb ha (fun x => by rw [hb2, ha2, s.hangs, t.hangs])
theorem none_left {L L' K : List NodeR} (t : Twin L L') {n : Int} (hL : L'.length ≤ 1000) (hn : inG n = true) (s : Twin K (modL (setM (absN L') n []))) : areasOf K n = [] := by
  have h0 := err_none' t (l := []) hn rfl (by simp) hL
  refine areas_none (fun hx => ?_)
  rw [ats_abs, List.mem_map] at hx
  obtain ⟨p, hp, rfl⟩ := hx
  rw [s.mem, abs_modL, mem_setM h0] at hp
  simp at hp
theorem law8_runs (h : Heap) (hwf : Wf h) (v : Value) (c : Int) (w : Value) (l : List RawN) (cs : List Int) (S : LawN h v l) (hw : ∀ n ∈ l, wide n.at_ ∧ ∀ a ∈ n.ar, wide a.a ∧ wide a.b) (hcw : wide c) (T : RawSl h w 1 (cs.map encI)) (hc : ∀ x ∈ cs, wide x) :
    Runs M 8 [v, .int .i64 c, w] h fun r h' => Grow h h' ∧ r = .bool true := by
  have hcl := cellsOf_len cs
  unfold cellsOf at hcl
  have hin := at27_in c
  refine Runs.enter h hwf [] [] (blks_nil ..) (fn := Try.f8) (by kernel_rfl) (by kernel_rfl) rfl (by kernel_rfl) ?_
  repeat' (first
    | refine WC.seq ?_ | refine WC.region ?_ | refine WC.block ?_ | refine WC.condT rfl ?_ | refine WC.condF rfl ?_ | refine WC.skip ?_ | refine WC.exit ?_ | refine WC.ret ?_ | refine WC.scope ?_
    | (refine WO.isG ?_; refine WO.unwanted rfl rfl ?_)
    | (refine WO.isMove ?_; first | refine WO.move rfl rfl rfl ?_)
    | (refine WO.isPick ?_; first | refine WO.pickT rfl rfl rfl rfl ?_ | refine WO.pickF rfl rfl rfl rfl ?_)
    | (refine WO.isBin ?_; first | refine WO.binF ne45 rfl rfl rfl rfl ?_ | (refine WO.lss rfl rfl rfl rfl ?_ ?_ <;> intro hc) | (refine WO.leq rfl rfl rfl rfl ?_ ?_ <;> intro hc) | (refine WO.gtr rfl rfl rfl rfl ?_ ?_ <;> intro hc) | (refine WO.geq rfl rfl rfl rfl ?_ ?_ <;> intro hc) | (refine WO.eql rfl rfl rfl rfl ?_ ?_ <;> intro hc) | (refine WO.neq rfl rfl rfl rfl ?_ ?_ <;> intro hc) | (refine WO.add rfl rfl rfl rfl ?_ ?_ ?_; omega; omega) | (refine WO.sub rfl rfl rfl rfl ?_ ?_ ?_; omega; omega) | (refine WO.rem rfl rfl rfl rfl ?_ ?_; omega))
    | (refine WO.isAssign ?_; first | refine WO.assign rfl rfl rfl ?_)
    | (refine WO.isCall ?_; first | refine WO.callV (g := 9) (fun h' hh _ => shown_runs h' hh.top) rfl rfl rfl rfl ?_ | (refine WO.callE (g := 10) (α := Nat × Nat × List NodeR × Nat × Value × List NodeR) (fun q => .tuple #[.pointer (some ⟨q.1, 0, none⟩), .pointer (some ⟨q.2.2.2.1, 0, none⟩), .bool true]) (fun q => [refE q.2.2.2.1 q.2.2.2.2.1 q.2.2.2.2.2, prgE q.1 q.2.1 q.2.2.1]) (fun q => Twin q.2.2.1 q.2.2.2.2.2 ∧ q.2.2.1.length ≤ 40 ∧ q.2.2.2.2.2.length ≤ 40) (fun h' hh hb => (made_runs h' hh.top _ _ (S.grow hh.pure) hw).mono fun v h2 e => ⟨e.1, by obtain ⟨_, b, mb, L, b', sv, L', e1, e2, e3⟩ := e; exact ⟨(b, mb, L, b', sv, L'), e1, e2, e3⟩⟩) rfl rfl rfl rfl ?_; rintro ⟨b, mb, L, b', sv, L'⟩ ⟨tw, hL, hL'⟩; dsimp only at tw hL hL') | (refine WO.callO (g := 11) rfl rfl rfl rfl (fun h' hh _ => some2_runs h' hh.top _ _ (T.grow hh.pure) hc) ?_; intro cv) | refine WO.callV (g := 27) (fun h hh _ => at27_runs h hh.top c hcw.1 hcw.2) rfl rfl rfl rfl ?_ | (refine WO.callE (g := 13) (α := Value × List Int) (fun q => q.1) (fun q => [.own q.1 1 3 (q.2.map encI)]) (fun q => Asc q.2 ∧ ∀ x, x ∈ q.2 ↔ Hangs (ats L) (need L) ((cs.take 40).map someOne) x) (fun h' hh hb => (After13_runs h' hh.top b mb L _ _ (hb.at (i := 2) rfl).1.g (tw.bnd (by omega)) (by omega) (Ints.own 0 rfl h' hh hb) (by omega)).mono fun v h2 e => ⟨e.1, by obtain ⟨_, s, e1, e2, e3⟩ := e; exact ⟨(v, s), rfl, ⟨e1, e2⟩, ⟨fun x hx => by rw [List.mem_singleton.1 hx]; exact e3, List.pairwise_singleton _ _⟩⟩⟩) rfl rfl rfl rfl ?_; rintro ⟨av, sa⟩ ⟨ha1, ha2⟩; dsimp only at ha1 ha2) | (refine WO.callO (g := 25) rfl rfl rfl rfl (fun h' hh hb => Areas25_runs h' hh.top b mb L _ (hb.at (i := 3) rfl).1.g (fun n hn => Nat.le_trans (tw.len n hn) (by omega))) ?_; intro dv) | (refine WO.callO (g := 21) rfl rfl rfl rfl (fun h' hh hb => Cells21_runs h' hh.top b mb L (hb.at (i := 4) rfl).1.g (tw.bnd (by omega))) ?_; intro qv) | (refine WO.callM (g := 28) 5 (α := List NodeR) (fun _ => .int .i64 0) (fun K => prgE b mb K) (fun K => Twin K (modL (setM (absN L') (at27 c) (areasOf L (at27 c)))) ∧ K.length ≤ L.length + 1) rfl (fun h' hh hb => set28_twin (L := L) (L' := L') hh hb 5 rfl tw hin (by rw [tw.areas]; exact (tw.all _).1) (Areas.own elem39 1 rfl h' hh hb) (fun e => blks_apart hb (i := 1) (j := 5) (by omega) rfl rfl mb e (.inr (.inl rfl))) (by rw [tw.areas]; exact (tw.all _).2) (by omega) (by omega)) rfl rfl rfl (fun _ => rfl) rfl ?_; rintro K1 ⟨tk1, hK1⟩; have tw1 := tw.keep1 (by omega) hin tk1) | (refine WO.callE (g := 13) (α := Value × List Int) (fun q => q.1) (fun q => [.own q.1 1 3 (q.2.map encI)]) (fun q => Asc q.2 ∧ ∀ x, x ∈ q.2 ↔ Hangs (ats K1) (need K1) ((cs.take 40).map someOne) x) (fun h' hh hb => (After13_runs h' hh.top b mb K1 _ _ (hb.at (i := 5) rfl).1.g (tw1.bnd (by omega)) (by omega) (Ints.own 3 rfl h' hh hb) (by omega)).mono fun v hf2 e => ⟨e.1, by obtain ⟨_, s, e1, e2, e3⟩ := e; exact ⟨(v, s), rfl, ⟨e1, e2⟩, ⟨fun x hx => by rw [List.mem_singleton.1 hx]; exact e3, List.pairwise_singleton _ _⟩⟩⟩) rfl rfl rfl rfl ?_; rintro ⟨fv, sf⟩ ⟨hf1, hf2⟩; dsimp only at hf1 hf2) | refine WO.callV (g := 12) (fun h' hh hb => (same_runs h' hh.top fv av sf sa (Ints.own 0 rfl h' hh hb) (Ints.own 3 rfl h' hh hb) (by have := asc_hang (L := K1) hf1 (fun x => (hf2 x).1); omega)).mono fun r h2 e => ⟨e.1, e.2.trans (by rw [decide_eq_true (twin_after tw tw1 ha1 ha2 hf1 hf2)])⟩) rfl rfl rfl rfl ?_ | (refine WO.callO (g := 21) rfl rfl rfl rfl (fun h' hh hb => Cells21_runs h' hh.top b mb K1 (hb.at (i := 6) rfl).1.g (tw1.bnd (by omega))) ?_; intro pv) | refine WO.callV (g := 12) (fun h' hh hb => (same_runs h' hh.top pv qv (sortI (ats K1)) (sortI (ats L)) (Ints.own 0 rfl h' hh hb) (Ints.own 2 rfl h' hh hb) (by rw [sort_len, ats_len]; omega)).mono fun r h2 e => ⟨e.1, e.2.trans (by rw [decide_eq_true (tw1.sort.trans tw.sort.symm)])⟩) rfl rfl rfl rfl ?_ | (refine WO.callM (g := 28) 7 (α := List NodeR) (fun _ => .int .i64 0) (fun K => prgE b mb K) (fun K => Twin K (modL (setM (absN L') (at27 c) [])) ∧ K.length ≤ K1.length + 1) rfl (fun h' hh hb => set28_twin (L := K1) (L' := L') hh hb 7 rfl tw1 hin rfl (.inl ⟨rfl, rfl⟩) (fun e => by cases e) (by simp) (by omega) (by omega)) rfl rfl rfl (fun _ => rfl) rfl ?_; rintro K2 ⟨tw2, hK2⟩) | (refine WO.callO (g := 25) (L := []) rfl rfl rfl rfl (fun h' hh hb => (Areas25_runs h' hh.top b mb K2 (at27 c) (hb.at (i := 7) rfl).1.g (fun n hn => Nat.le_trans (tw2.len n hn) (by omega))).mono fun v h2 e => ⟨e.1, by have e2 := e.2; rw [none_left tw (by omega) hin tw2] at e2; exact e2⟩) ?_; intro ev) | refine WO.lenF (Areas.len' (l := []) aty39 (Areas.own (l := []) elem39 0 rfl)) rfl rfl rfl ?_ | (refine WO.callE (g := 13) (α := Value × List Int) (fun q => q.1) (fun q => [.own q.1 1 3 (q.2.map encI)]) (fun q => Asc q.2 ∧ ∀ x, x ∈ q.2 ↔ Hangs (ats K2) (need K2) ((cs.take 40).map someOne) x) (fun h' hh hb => (After13_runs h' hh.top b mb K2 _ _ (hb.at (i := 8) rfl).1.g (tw2.bnd (by omega)) (by omega) (Ints.own 6 rfl h' hh hb) (by omega)).mono fun v hl2 e => ⟨e.1, by obtain ⟨_, s, e1, e2, e3⟩ := e; exact ⟨(v, s), rfl, ⟨e1, e2⟩, ⟨fun x hx => by rw [List.mem_singleton.1 hx]; exact e3, List.pairwise_singleton _ _⟩⟩⟩) rfl rfl rfl rfl ?_; rintro ⟨lv, sl⟩ ⟨hl1, hl2⟩; dsimp only at hl1 hl2))
    | (refine WO.isUn ?_; first | refine WO.notT rfl rfl rfl ?_ | refine WO.notF rfl rfl rfl ?_ | (refine WO.notS rfl rfl rfl ?_ ?_ <;> intro hc) | (refine WO.neg rfl rfl rfl ?_ ?_ ?_; omega; omega))
    | (refine WO.isNil ?_; first | refine WO.nilCheck rfl rfl rfl ?_)
    | (refine WO.isExt ?_; first | refine WO.extract rfl rfl rfl rfl ?_)
    | refine WO.nil ?_)
  · exact absurd rfl (by assumption)
  have hll := asc_hang (L := K2) hl1 (fun x => (hl2 x).1)
  refine WC.loop (α := Nat) (fun i => [(8, .pointer (some ⟨b, 0, none⟩)), (11, .int .i64 (at27 c)), (12, cv), (13, av), (14, dv), (16, lv), (17, .int .i64 (i : Int))]) (fun _ => [.own lv 1 3 (sl.map encI), .own dv 8 52 ((areasOf L (at27 c)).map encA), .own av 1 3 (sa.map encI), .own cv 1 3 (((cs.take 40).map someOne).map encI), prgE b mb K2]) (fun i => i ≤ sl.length) (fun i => sl.length - i) 0 ⟨rfl, rfl, rfl, rfl, rfl, rfl, rfl, trivial⟩ (List.Sublist.cons_cons _ (List.Sublist.cons _ (List.Sublist.cons _ (List.Sublist.cons _ (List.Sublist.cons _ (List.Sublist.cons_cons _ (List.Sublist.cons_cons _ (List.Sublist.cons_cons _ (List.Sublist.cons _ (List.Sublist.refl _)))))))))) (Nat.zero_le _) ?_
  intro i hi
  have hal := asc_hang (L := L) ha1 (fun x => (ha2 x).1)
  have hx : ∀ (k : (i : Int) < sl.length), sl.getD ((i : Int)).toNat 0 ∈ sa ∧ sl.getD ((i : Int)).toNat 0 ≠ at27 c := fun k => by
    obtain ⟨q1, q2⟩ := less_hangs tw (by omega) hin tw2 ((hl2 _).1 (getD_mem (l := sl) (j := ((i : Int)).toNat) (by omega)))
    exact ⟨(ha2 _).2 q1, q2⟩
  repeat' (first
    | refine WC.seq ?_ | refine WC.region ?_ | refine WC.block ?_ | refine WC.condT rfl ?_ | refine WC.condF rfl ?_ | refine WC.skip ?_ | refine WC.exit ?_ | refine WC.ret ?_ | refine WC.scope ?_
    | (refine WO.isG ?_; refine WO.unwanted rfl rfl ?_)
    | (refine WO.isMove ?_; first | refine WO.move rfl rfl rfl ?_)
    | (refine WO.isPick ?_; first | refine WO.pickT rfl rfl rfl rfl ?_ | refine WO.pickF rfl rfl rfl rfl ?_)
    | (refine WO.isLoad ?_; first | (refine WO.ldF (Ints.ld (Ints.own (e := 3) 0 rfl) ?_ ?_) rfl rfl rfl ?_; omega; omega))
    | (refine WO.isBin ?_; first | refine WO.binF eq45 rfl rfl rfl rfl ?_ | (refine WO.lss rfl rfl rfl rfl ?_ ?_ <;> intro hc) | (refine WO.leq rfl rfl rfl rfl ?_ ?_ <;> intro hc) | (refine WO.gtr rfl rfl rfl rfl ?_ ?_ <;> intro hc) | (refine WO.geq rfl rfl rfl rfl ?_ ?_ <;> intro hc) | (refine WO.eql rfl rfl rfl rfl ?_ ?_ <;> intro hc) | (refine WO.neq rfl rfl rfl rfl ?_ ?_ <;> intro hc) | (refine WO.add rfl rfl rfl rfl ?_ ?_ ?_; omega; omega) | (refine WO.sub rfl rfl rfl rfl ?_ ?_ ?_; omega; omega) | (refine WO.rem rfl rfl rfl rfl ?_ ?_; omega))
    | (refine WO.isAssign ?_; first | refine WO.assign rfl rfl rfl ?_)
    | (refine WO.isCall ?_; first | refine WO.lenF (Ints.len (Ints.own (e := 3) 0 rfl)) rfl rfl rfl ?_ | refine WO.callV (g := 17) (fun h' hh hb => (Has_runs h' hh.top av sa (sl.getD ((i : Int)).toNat 0) (Ints.own 2 rfl h' hh hb) (by omega)).mono fun r h2 e => ⟨e.1, e.2.trans (by rw [List.contains_iff_mem.2 (hx (by omega)).1])⟩) rfl rfl rfl rfl ?_ | (refine WO.callM (g := 28) 4 (α := List NodeR) (fun _ => .int .i64 0) (fun K => prgE b mb K) (fun K => Twin K (modL (setM (absN (modL (setM (absN L') (at27 c) []))) (at27 c) (areasOf L (at27 c)))) ∧ K.length ≤ K2.length + 1) rfl (fun h' hh hb => set28_twin (L := K2) (L' := modL (setM (absN L') (at27 c) [])) hh hb 4 rfl tw2 hin (by rw [tw.areas]; exact (tw.all _).1) (Areas.own elem39 1 rfl h' hh hb) (fun e => blks_apart hb (i := 1) (j := 4) (by omega) rfl rfl mb e (.inr (.inl rfl))) (by rw [tw.areas]; exact (tw.all _).2) (by omega) (by rw [len_modL]; have := set_len (m := absN L') (x := at27 c) (l := []); rw [show (absN L').length = L'.length from List.length_map _] at this; omega)) rfl rfl rfl (fun _ => rfl) rfl ?_; rintro K3 ⟨tk3, hK3⟩; have tw3 := tw.keep2 (by omega) hin tk3) | (refine WO.callE (g := 13) (α := Value × List Int) (fun q => q.1) (fun q => [.own q.1 1 3 (q.2.map encI)]) (fun q => Asc q.2 ∧ ∀ x, x ∈ q.2 ↔ Hangs (ats K3) (need K3) ((cs.take 40).map someOne) x) (fun h' hh hb => (After13_runs h' hh.top b mb K3 _ _ (hb.at (i := 4) rfl).1.g (tw3.bnd (by omega)) (by omega) (Ints.own 3 rfl h' hh hb) (by omega)).mono fun v hg2 e => ⟨e.1, by obtain ⟨_, s, e1, e2, e3⟩ := e; exact ⟨(v, s), rfl, ⟨e1, e2⟩, ⟨fun x hx => by rw [List.mem_singleton.1 hx]; exact e3, List.pairwise_singleton _ _⟩⟩⟩) rfl rfl rfl rfl ?_; rintro ⟨gv, sg⟩ ⟨hg1, hg2⟩; dsimp only at hg1 hg2) | refine WO.callV (g := 12) (fun h' hh hb => (same_runs h' hh.top gv av sg sa (Ints.own 0 rfl h' hh hb) (Ints.own 3 rfl h' hh hb) (by have := asc_hang (L := K3) hg1 (fun x => (hg2 x).1); omega)).mono fun r h2 e => ⟨e.1, e.2.trans (by rw [decide_eq_true (twin_after tw tw3 ha1 ha2 hg1 hg2)])⟩) rfl rfl rfl rfl ?_)
    | (refine WO.isUn ?_; first | refine WO.notT rfl rfl rfl ?_ | refine WO.notF rfl rfl rfl ?_ | (refine WO.notS rfl rfl rfl ?_ ?_ <;> intro hc) | (refine WO.neg rfl rfl rfl ?_ ?_ ?_; omega; omega))
    | (refine WO.isIA ?_; first | (refine WO.ixF (Ints.ix (Ints.own (e := 3) 0 rfl) ?_ ?_) rfl rfl rfl rfl ?_; omega; omega))
    | (refine WO.isNil ?_; first | refine WO.nilCheck rfl rfl rfl ?_)
    | refine WO.nil ?_)
  · exact absurd hc (hx (by omega)).2
  · exact ⟨i + 1, ⟨rfl, rfl, rfl, rfl, rfl, rfl, rfl, trivial⟩, List.Sublist.refl _, (by show i + 1 ≤ _; omega), (by show sl.length - (i + 1) < sl.length - i; omega)⟩
  · exact ⟨_, ⟨_, _, rfl, rfl, rfl⟩, fun h' k _ => ⟨k.pure, rfl⟩⟩
end Go.Proofs.Ythggbjpanpnlnaa
