/- The ideal machine, its second part: calls, regions drawn in whatever order, code; its calls are the model's calls. -/
import Derived.Test.YthggbjpanpnlnaaM1
import Derived.LoopN
import Derived.Scope
import Derived.Orders
/- The ideal machine: maps whose keys are integers, strings or bools. -/
namespace Go.Ideal
open Go

theorem mapSome {α β : Type} {x : Option α} {f : α → β} {b : β} (h : x.map f = some b) : ∃ a, x = some a ∧ f a = b := by
  cases x with
  | none => cases h
  | some a => cases h; exact ⟨a, rfl, rfl⟩

def plainKey : TypeDesc → Bool
  | .int _ => true
  | .string => true
  | .bool => true
  | _ => false

def iFind (d : TypeDesc) (k : Value) : List (Value × Value) → Nat → Option (Option (Nat × Value))
  | [], _ => some none
  | p :: es, i => match Instr.sameNow d k p.1 with
    | some true => some (some (i, p.2))
    | some false => iFind d k es (i + 1)
    | none => none

def FRel (φ : Inj) (d : TypeDesc) (k : Value) (L : List (Value × Value)) (i : Nat) : Option (Nat × Value) → Option (Nat × Value) → Prop
  | none, none => True
  | some (a, v), some (b, v') => a = b ∧ VRel φ v v' ∧ i ≤ a ∧ ∃ p, L[a - i]? = some p ∧ Instr.sameNow d k p.1 = some true
  | _, _ => False

def MRel (φ : Inj) (L : List (Value × Value)) (es : Array MapEntry) : Prop :=
  es.size = L.length ∧ ∀ (j : Nat) p e, L[j]? = some p → es[j]? = some e → e.key = p.1 ∧ VRel φ p.2 e.val

theorem find_rel {φ : Inj} {d : TypeDesc} {k : Value} : ∀ (L : List (Value × Value)) (es : List MapEntry) (i : Nat) (r : Option (Nat × Value)), es.length = L.length →
    (∀ (j : Nat) p e, L[j]? = some p → es[j]? = some e → e.key = p.1 ∧ VRel φ p.2 e.val) → iFind d k L i = some r →
    ∃ r', Instr.findNow d k es i = some r' ∧ FRel φ d k L i r r' := by
  intro L
  induction L with
  | nil =>
    intro es i r hl _ h
    cases h
    cases es with
    | nil => exact ⟨none, rfl, trivial⟩
    | cons _ _ => cases hl
  | cons p L ih =>
    intro es i r hl hr h
    cases es with
    | nil => cases hl
    | cons e es =>
      obtain ⟨hk, hv⟩ := hr 0 p e rfl rfl
      simp only [iFind] at h
      simp only [Instr.findNow, hk]
      cases hs : Instr.sameNow d k p.1 with
      | none => rw [hs] at h; cases h
      | some b =>
        rw [hs] at h
        cases b with
        | true =>
          cases h
          exact ⟨_, rfl, rfl, hv, Nat.le_refl _, p, by simp, hs⟩
        | false =>
          obtain ⟨r', h1, h2⟩ := ih es (i + 1) r (by simpa using hl) (fun j p e hp he => hr (j + 1) p e (by simpa using hp) (by simpa using he)) h
          refine ⟨r', h1, ?_⟩
          match r, r', h2 with
          | none, none, _ => trivial
          | some (a, v), some (b, v'), h2 =>
            obtain ⟨g1, g2, g3, q, g4, g5⟩ := h2
            refine ⟨g1, g2, by omega, q, ?_, g5⟩
            rw [show a - i = (a - (i + 1)) + 1 from by omega]
            simpa using g4
          | none, some _, h2 => exact h2.elim
          | some _, none, h2 => exact h2.elim

theorem plain_check' {P : Program} {kt : TypeId} {kd : TypeDesc} (hk : P.underlying kt = some kd) (hp : plainKey kd = true) (e : Bool) (n : Nat) (v : Value) (w : World) : (Instr.checkKey e (n + 1) kt v).run P w = .ok () w := by
  simp only [Instr.checkKey, Sem.run_bind, run_underlying hk, Result.andThen_ok]
  cases kd <;> first | (cases hp; done) | skip
  all_goals cases v <;> rfl
theorem plain_check {P : Program} {kt : TypeId} {kd : TypeDesc} (hk : P.underlying kt = some kd) (hp : plainKey kd = true) (e : Bool) (v : Value) (w : World) : (Instr.checkKey e 10000 kt v).run P w = .ok () w :=
  plain_check' hk hp e 9999 v w

theorem run_find {P : Program} {φ : Inj} {kt : TypeId} {kd : TypeDesc} {k : Value} {L : List (Value × Value)} {es : Array MapEntry} {r : Option (Nat × Value)} (hk : P.underlying kt = some kd) (hr : MRel φ L es) (h : iFind kd k L 0 = some r) :
    ∃ r', (∀ w, (Instr.findKey kt k es.toList).run P w = .ok r' w) ∧ FRel φ kd k L 0 r r' := by
  obtain ⟨r', h1, h2⟩ := find_rel L es.toList 0 r (by simpa using hr.1) (fun j p e hp he => hr.2 j p e hp (by simpa using he)) h
  exact ⟨r', fun w => by simp [Instr.findKey, run_underlying hk, h1], h2⟩

theorem run_getMap {P : Program} {w : World} {b : Nat} {es : Array MapEntry} {clock : Nat} (h : w.heap[b]? = some (.map es clock)) : (getObj b).run P w = .ok (.map es clock) w := by
  simp only [getObj, Sem.run, h]
theorem run_setMap {P : Program} {w : World} {b : Nat} {es es' : Array MapEntry} {clock clock' : Nat} (h : w.heap[b]? = some (.map es clock)) : (setObj b (.map es' clock')).run P w = .ok () (w.putI b (.map es' clock')) := by
  simp only [setObj, Sem.run, h]
  rfl

def okv (ok : Bool) (v : Value) (b : Bool) : Value := bif ok then .tuple #[v, .bool b] else v
theorem okv_rel {φ : Inj} {v v' : Value} (h : VRel φ v v') (ok b : Bool) : VRel φ (okv ok v b) (if ok then .tuple #[v', .bool b] else v') := by
  cases ok with
  | true => exact tuple2 h (.bool b)
  | false => exact h

def iLookup (P : Program) (t : TypeId) (x ix : Value) (ok : Bool) (H : Heap) : Option Value :=
  (P.underlying t).bind fun d => match d with
  | .map kt el => (P.underlying kt).bind fun kd => chk (plainKey kd) (match x with
    | .map none => (iZero P el).map fun z => okv ok z false
    | .map (some b) => match H.get b with
      | some (.map L) => (iFind kd ix L 0).bind fun r => match r with
        | some (_, v) => some (okv ok v true)
        | none => (iZero P el).map fun z => okv ok z false
      | _ => none
    | _ => none)
  | _ => none

theorem lookup_sim {P : Program} {φ : Inj} {H : Heap} {w : World} {t : TypeId} {x x' ix ix' r : Value} {ok : Bool} (h : HRel P φ H w.heap) (hx : VRel φ x x') (hix : VRel φ ix ix') (hj : ix = ix') (he : iLookup P t x ix ok H = some r) :
    ∃ r', (Instr.lookup t x' ix' ok).run P w = .ok r' w ∧ VRel φ r r' := by
  subst hj
  replace he := bind_some he; obtain ⟨d, hd, he⟩ := he
  split at he
  · rename_i kt el
    replace he := bind_some he; obtain ⟨kd, hkd, he⟩ := he
    replace he := chk_some he; obtain ⟨hp, he⟩ := he
    split at he
    · obtain ⟨z, hz, e⟩ := mapSome he
      cases e
      cases hx
      obtain ⟨hz1, hz2⟩ := zero_sim hz w
      refine ⟨_, ?_, okv_rel (VRel.self 2 z hz2) ok false⟩
      have hf : ∀ w, (Instr.findKey kt ix []).run P w = .ok none w := fun w => by simp [Instr.findKey, run_underlying hkd, Instr.findNow]
      simp [Instr.lookup, run_underlying hd, plain_check hkd hp, hf, hz1]
    · rename_i b
      cases hx with
      | map hb =>
        rename_i l
        split at he
        · rename_i L hg
          obtain ⟨es, clock, hm, hr1, hr2, hst⟩ := h.obj b l _ hb hg
          have hr : MRel φ L es := ⟨hr1, hr2⟩
          replace he := bind_some he; obtain ⟨q, hq, he⟩ := he
          obtain ⟨q', h1, h2⟩ := run_find (k := ix) hkd hr hq
          have hgo := run_getMap (P := P) hm
          match q, q', h2 with
          | none, none, _ =>
            obtain ⟨z, hz, e⟩ := mapSome he
            cases e
            obtain ⟨hz1, hz2⟩ := zero_sim hz w
            refine ⟨_, ?_, okv_rel (VRel.self 2 z hz2) ok false⟩
            simp [Instr.lookup, run_underlying hd, hgo, plain_check hkd hp, h1, hz1]
          | some (a, v), some (a', v'), h2 =>
            cases he
            refine ⟨_, ?_, okv_rel h2.2.1 ok true⟩
            simp [Instr.lookup, run_underlying hd, hgo, plain_check hkd hp, h1]
          | none, some _, h2 => exact h2.elim
          | some _, none, h2 => exact h2.elim
        · cases he
    · cases he
  · cases he

def iMakeMap (P : Program) (t : TypeId) (r : Option Value) (H : Heap) : Option (Value × Heap) :=
  match r with
  | none => some (.map (some H.n), H.push (.map []))
  | some x => (P.underlying t).bind fun d => match d with
    | .map _ _ => (asInt x).bind fun _ => some (.map (some H.n), H.push (.map []))
    | _ => none

theorem makeMap_sim {P : Program} {φ : Inj} {H H' : Heap} {w : World} {t : TypeId} {x x' : Option Value} {r : Value} (h : HRel P φ H w.heap) (hx : ORelV φ x x') (he : iMakeMap P t x H = some (r, H')) :
    ∃ r' φ' w', (Instr.makeMap t x').run P w = .ok r' w' ∧ VRel φ' r r' ∧ HRel P φ' H' w'.heap ∧ Ext φ H w φ' H' w' := by
  obtain ⟨n1, n2⟩ := h.alloc (.map []) (.map #[] 0) ⟨w.heap.size, 0, 0, 0⟩ rfl ⟨#[], 0, by show (w.heap.push _)[w.heap.size]? = _; simp, rfl, fun j p e hp => by simp at hp, MapKept.stamped_empty 0⟩
  have hv : VRel (φ.put H.n ⟨w.heap.size, 0, 0, 0⟩) (.map (some H.n)) (.map (some w.heap.size)) := VRel.map (φ := φ.put H.n ⟨w.heap.size, 0, 0, 0⟩) (Inj.put_same ..)
  unfold iMakeMap at he
  split at he
  · cases he
    cases x' with
    | some _ => exact hx.elim
    | none => exact ⟨_, _, _, by simp [Instr.makeMap], hv, n1, n2⟩
  · rename_i v
    replace he := bind_some he; obtain ⟨d, hd, he⟩ := he
    split at he
    · replace he := bind_some he; obtain ⟨n, hn, he⟩ := he
      cases he
      obtain ⟨k, rfl⟩ := asInt_some hn
      cases x' with
      | none => exact hx.elim
      | some v' =>
        have := VRel.int_inv (φ := φ) (show VRel φ (.int k n) v' from hx)
        subst this
        exact ⟨_, _, _, by simp [Instr.makeMap, run_underlying hd, Go.asInt, asIntOf], hv, n1, n2⟩
    · cases he

def iUpdate (P : Program) (t : TypeId) (m k v : Value) (H : Heap) : Option Heap :=
  (P.underlying t).bind fun d => match d with
  | .map kt _ => (P.underlying kt).bind fun kd => chk (plainKey kd && noAddr 3 k) (match m with
    | .map (some b) => match H.get b with
      | some (.map L) => (iFind kd k L 0).bind fun r => match r with
        | some (i, _) => some (H.put b (.map (L.set i (k, v))))
        | none => some (H.put b (.map (L ++ [(k, v)])))
      | _ => none
    | _ => none)
  | _ => none

theorem bytes_eq {a b : ByteArray} (h : (a == b) = true) : a = b := by
  have h2 : a.data = b.data := eq_of_beq (α := Array UInt8) h
  cases a; cases b
  cases h2
  rfl
theorem bytes_refl (a : ByteArray) : (a == a) = true := beq_self_eq_true (α := Array UInt8) a.data
theorem same_bits {d : TypeDesc} {a b : Value} (h : Instr.sameNow d a b = some true) (n : Nat) : Instr.sameBits n b a = true := by
  unfold Instr.sameNow at h
  split at h
  · rename_i k a k' b
    by_cases e : k = k'
    · rw [if_pos e] at h
      simp at h
      subst h; subst e
      cases n <;> simp [Instr.sameBits]
    · rw [if_neg e] at h; cases h
  · rename_i a b
    simp only [Option.some.injEq] at h
    have := bytes_eq h
    subst this
    cases n <;> exact bytes_refl a
  · rename_i a b
    simp at h
    subst h
    cases n <;> simp [Instr.sameBits]
  · cases h

theorem same_key {d : TypeDesc} {a b : Value} (h : Instr.sameNow d a b = some true) : a = b := by
  unfold Instr.sameNow at h
  split at h
  · rename_i k a k' b
    by_cases e : k = k'
    · rw [if_pos e] at h
      simp at h
      subst h; subst e
      rfl
    · rw [if_neg e] at h; cases h
  · rename_i a b
    simp only [Option.some.injEq] at h
    rw [bytes_eq h]
  · rename_i a b
    simp at h
    rw [h]
  · cases h
theorem same_self {d : TypeDesc} {a : Value} (h : Instr.sameNow d a a = some false) : False := by
  cases a <;> cases d <;> simp [Instr.sameNow] at h
  rename_i s
  have h : (s == s) = false := h
  rw [bytes_refl] at h; cases h
theorem find_none' {d : TypeDesc} {k : Value} : ∀ (L : List (Value × Value)) (i : Nat), iFind d k L i = some none → ∀ p ∈ L, p.1 ≠ k := by
  intro L
  induction L with
  | nil => intro i _ p hp; cases hp
  | cons q L ih =>
    intro i h p hp
    simp only [iFind] at h
    cases hs : Instr.sameNow d k q.1 with
    | none => rw [hs] at h; cases h
    | some b =>
      rw [hs] at h
      cases b with
      | true => cases h
      | false =>
        rcases List.mem_cons.1 hp with rfl | hp
        · intro e; rw [e] at hs; exact same_self hs
        · exact ih (i + 1) h p hp
theorem find_none {φ : Inj} {d : TypeDesc} {k : Value} {L : List (Value × Value)} {es : Array MapEntry} (hr : MRel φ L es) (h : iFind d k L 0 = some none) : ∀ x ∈ es.toList, x.key ≠ k := by
  intro x hx
  obtain ⟨j, hj⟩ := List.mem_iff_getElem?.1 hx
  have hjs : j < es.size := by
    rcases Nat.lt_or_ge j es.size with h' | h'
    · exact h'
    · rw [List.getElem?_eq_none (by simpa using h')] at hj; cases hj
  have hp : L[j]? = some (L[j]'(by rw [← hr.1]; exact hjs)) := List.getElem?_eq_getElem _
  rw [(hr.2 j _ x hp (by simpa using hj)).1]
  exact find_none' L 0 h _ (List.mem_of_getElem? hp)

theorem mrel_set {φ : Inj} {L : List (Value × Value)} {es : Array MapEntry} {i : Nat} {k v v' : Value} (h : MRel φ L es) (hv : VRel φ v v') :
    MRel φ (L.set i (k, v)) (es.modify i fun e => { e with key := k, val := v' }) := by
  refine ⟨by simp [h.1], fun j p e hp he => ?_⟩
  rw [Array.getElem?_modify] at he
  rw [List.getElem?_set] at hp
  by_cases hij : i = j
  · subst hij
    rw [if_pos rfl] at he hp
    cases hes : es[i]? with
    | none => rw [hes] at he; cases he
    | some e0 =>
      rw [hes] at he
      cases he
      split at hp
      · cases hp; exact ⟨rfl, hv⟩
      · cases hp
  · rw [if_neg hij] at he hp
    exact h.2 j p e hp he

theorem mrel_push {φ : Inj} {L : List (Value × Value)} {es : Array MapEntry} {k v v' : Value} {born : Nat} (h : MRel φ L es) (hv : VRel φ v v') : MRel φ (L ++ [(k, v)]) (es.push { key := k, val := v', born := born }) := by
  refine ⟨by simp [h.1], fun j p e hp he => ?_⟩
  rw [Array.getElem?_push] at he
  by_cases hj : j = es.size
  · rw [if_pos hj] at he
    cases he
    rw [List.getElem?_append_right (by have := h.1; omega)] at hp
    rw [show j - L.length = 0 from by have := h.1; omega] at hp
    cases hp
    exact ⟨rfl, hv⟩
  · rw [if_neg hj] at he
    have hlt : j < es.size := by
      rcases Nat.lt_or_ge j es.size with h' | h'
      · exact h'
      · rw [Array.getElem?_eq_none h'] at he; cases he
    rw [List.getElem?_append_left (by have := h.1; omega)] at hp
    exact h.2 j p e hp he

theorem mrel_erase {φ : Inj} {L : List (Value × Value)} {es : Array MapEntry} {i : Nat} (h : MRel φ L es) (hi : i < L.length) : MRel φ (L.eraseIdx i) (es.eraseIdxIfInBounds i) := by
  have hi' : i < es.size := by rw [h.1]; exact hi
  have e1 : (es.eraseIdxIfInBounds i) = es.eraseIdx i := by simp [Array.eraseIdxIfInBounds, hi']
  rw [e1]
  refine ⟨by simp [List.length_eraseIdx, hi, h.1], fun j p e hp he => ?_⟩
  have he' : (es.toList.eraseIdx i)[j]? = some e := by
    rw [← Array.toList_eraseIdx]
    simpa using he
  rw [List.getElem?_eraseIdx] at hp he'
  split at hp
  · rename_i hlt
    rw [if_pos hlt] at he'
    exact h.2 j p e hp (by simpa using he')
  · rename_i hlt
    rw [if_neg hlt] at he'
    exact h.2 (j + 1) p e hp (by simpa using he')

theorem MRel.mono {φ ψ : Inj} (hl : φ.le ψ) {L : List (Value × Value)} {es : Array MapEntry} (h : MRel φ L es) : MRel ψ L es := ⟨h.1, fun j p e hp he => ⟨(h.2 j p e hp he).1, (h.2 j p e hp he).2.mono hl⟩⟩

theorem putMap {P : Program} {φ : Inj} {H : Heap} {w : World} (h : HRel P φ H w.heap) {b : Nat} {l : Loc} {L L' : List (Value × Value)} {es' : Array MapEntry} {clock : Nat} (hb : φ b = some l) (hg : H.get b = some (.map L)) (hr : MRel φ L' es') (hst : MapKept.Stamped es' clock) (hlt : l.blk < w.heap.size) :
    HRel P φ (H.put b (.map L')) (w.putI l.blk (.map es' clock)).heap ∧ Ext φ H w φ (H.put b (.map L')) (w.putI l.blk (.map es' clock)) :=
  h.write hb (by rw [hg]; rfl) (.map L') (.map es' clock) ⟨es', clock, by simp [World.putI, hlt], hr.1, hr.2, hst⟩

theorem update_sim {P : Program} {φ : Inj} {H H' : Heap} {w : World} {t : TypeId} {m m' k k' v v' : Value} (h : HRel P φ H w.heap) (hm : VRel φ m m') (hk : VRel φ k k') (hv : VRel φ v v') (he : iUpdate P t m k v H = some H') :
    ∃ w', (Instr.mapUpdate t m' k' v').run P w = .ok () w' ∧ HRel P φ H' w'.heap ∧ Ext φ H w φ H' w' := by
  replace he := bind_some he; obtain ⟨d, hd, he⟩ := he
  split at he
  · rename_i kt el
    replace he := bind_some he; obtain ⟨kd, hkd, he⟩ := he
    replace he := chk_some he; obtain ⟨hp, he⟩ := he
    rw [Bool.and_eq_true] at hp
    obtain ⟨hp, hn⟩ := hp
    have := hk.same 3 hn
    subst this
    split at he
    · rename_i b
      cases hm with
      | map hb =>
        rename_i l
        split at he
        · rename_i L hg
          obtain ⟨es, clock, hob, hr1, hr2, hst⟩ := h.obj b l _ hb hg
          have hr : MRel φ L es := ⟨hr1, hr2⟩
          have hlt := h.low b l hb
          replace he := bind_some he; obtain ⟨q, hq, he⟩ := he
          obtain ⟨q', h1, h2⟩ := run_find (k := k') hkd hr hq
          have hgo := run_getMap (P := P) hob
          match q, q', h2 with
          | none, none, _ =>
            cases he
            obtain ⟨p1, p2⟩ := putMap h (clock := clock + 1) hb hg (mrel_push (k := k') (born := clock) hr hv) (MapKept.stamped_push hst (find_none hr hq)) hlt
            refine ⟨_, ?_, p1, p2⟩
            simp [Instr.mapUpdate, run_underlying hd, hgo, plain_check hkd hp, h1, run_setMap (P := P) hob]
          | some (a, u), some (a', u'), h2 =>
            cases he
            obtain ⟨rfl, hu, _, p, hpL, hsn⟩ := h2
            rw [Nat.sub_zero] at hpL
            have haL : a < L.length := by
              rcases Nat.lt_or_ge a L.length with h' | h'
              · exact h'
              · rw [List.getElem?_eq_none h'] at hpL; cases hpL
            have hes : es[a]? = some es[a] := Array.getElem?_eq_getElem (by rw [hr.1]; exact haL)
            have hkey := (hr.2 a p _ hpL hes).1
            obtain ⟨p1, p2⟩ := putMap h (clock := clock) hb hg (mrel_set (i := a) (k := k') hr hv) (MapKept.stamped_modify hst a _ (fun _ _ => rfl) (fun e _ he => by rw [hes] at he; cases he; rw [hkey]; exact (same_key hsn).symm ▸ rfl)) hlt
            refine ⟨_, ?_, p1, p2⟩
            have hstay : ∀ w, (Instr.keyThatStays (((es[a]?).map (·.key)).getD k') k').run P w = .ok k' w := fun w => by
              rw [hes]
              simp [Instr.keyThatStays, hkey, same_bits hsn]
            simp only [Instr.mapUpdate, Sem.run_bind, run_underlying hd, Result.andThen_ok, hgo, plain_check hkd hp, h1, hstay, run_setMap (P := P) hob]
          | none, some _, h2 => exact h2.elim
          | some _, none, h2 => exact h2.elim
        · cases he
    · cases he
  · cases he

def iDelete (P : Program) (t : TypeId) (m k : Value) (H : Heap) : Option (Value × Heap) :=
  (P.underlying t).bind fun d => match d with
  | .map kt _ => (P.underlying kt).bind fun kd => chk (plainKey kd && noAddr 3 k) (match m with
    | .map (some b) => match H.get b with
      | some (.map L) => (iFind kd k L 0).bind fun r => match r with
        | some (i, _) => some (.tuple #[], H.put b (.map (L.eraseIdx i)))
        | none => some (.tuple #[], H.put b (.map L))
      | _ => none
    | _ => none)
  | _ => none

theorem delete_sim {P : Program} {φ : Inj} {H H' : Heap} {w : World} {t ty : TypeId} {ts : Array TypeId} {m m' k k' r : Value} (h : HRel P φ H w.heap) (hts : ts[0]? = some t) (hm : VRel φ m m') (hk : VRel φ k k') (he : iDelete P t m k H = some (r, H')) :
    ∃ r' φ' w', (Builtin.delete_ ts ty #[m', k']).run P w = .ok r' w' ∧ VRel φ' r r' ∧ HRel P φ' H' w'.heap ∧ Ext φ H w φ' H' w' := by
  replace he := bind_some he; obtain ⟨d, hd, he⟩ := he
  split at he
  · rename_i kt el
    replace he := bind_some he; obtain ⟨kd, hkd, he⟩ := he
    replace he := chk_some he; obtain ⟨hp, he⟩ := he
    rw [Bool.and_eq_true] at hp
    obtain ⟨hp, hn⟩ := hp
    have := hk.same 3 hn
    subst this
    split at he
    · rename_i b
      cases hm with
      | map hb =>
        rename_i l
        split at he
        · rename_i L hg
          obtain ⟨es, clock, hob, hr1, hr2, hst⟩ := h.obj b l _ hb hg
          have hr : MRel φ L es := ⟨hr1, hr2⟩
          have hlt := h.low b l hb
          replace he := bind_some he; obtain ⟨q, hq, he⟩ := he
          obtain ⟨q', h1, h2⟩ := run_find (k := k') hkd hr hq
          have hgo := run_getMap (P := P) hob
          have hund : VRel φ (.tuple #[]) (.tuple #[]) := VRel.undef φ
          match q, q', h2 with
          | none, none, _ =>
            cases he
            obtain ⟨p1, p2⟩ := putMap h (clock := clock) hb hg hr hst hlt
            refine ⟨_, φ, _, ?_, hund, p1, p2⟩
            simp [Builtin.delete_, hts, run_underlying hd, hgo, plain_check hkd hp, h1, run_setMap (P := P) hob]
          | some (a, u), some (a', u'), h2 =>
            cases he
            obtain ⟨rfl, hu, _, p, hpL, hsn⟩ := h2
            rw [Nat.sub_zero] at hpL
            have haL : a < L.length := by
              rcases Nat.lt_or_ge a L.length with h' | h'
              · exact h'
              · rw [List.getElem?_eq_none h'] at hpL; cases hpL
            obtain ⟨p1, p2⟩ := putMap h (clock := clock) hb hg (mrel_erase hr haL) (MapKept.stamped_erase hst a) hlt
            refine ⟨_, φ, _, ?_, hund, p1, p2⟩
            simp [Builtin.delete_, hts, run_underlying hd, hgo, plain_check hkd hp, h1, run_setMap (P := P) hob]
          | none, some _, h2 => exact h2.elim
          | some _, none, h2 => exact h2.elim
        · cases he
    · cases he
  · cases he

def iLenMap (P : Program) (t : TypeId) (m : Value) (H : Heap) : Option Value :=
  (P.underlying t).bind fun d => match d with
  | .map _ _ => match m with
    | .map (some b) => match H.get b with
      | some (.map L) => some (goInt L.length)
      | _ => none
    | .map none => some (goInt 0)
    | _ => none
  | _ => none
theorem lenMap_sim {P : Program} {φ : Inj} {H : Heap} {w : World} {t ty : TypeId} {ts : Array TypeId} {m m' r : Value} (h : HRel P φ H w.heap) (hts : ts[0]? = some t) (hm : VRel φ m m') (he : iLenMap P t m H = some r) :
    (Builtin.len_ ts ty #[m']).run P w = .ok r w ∧ VRel φ r r := by
  replace he := bind_some he; obtain ⟨d, hd, he⟩ := he
  split at he
  · split at he
    · rename_i b
      cases hm with
      | map hb =>
        rename_i l
        split at he
        · rename_i L hg
          obtain ⟨es, clock, hob, hr1, hr2, hst⟩ := h.obj b l _ hb hg
          have hr : MRel φ L es := ⟨hr1, hr2⟩
          cases he
          refine ⟨?_, .int _ _⟩
          simp [Builtin.len_, hts, run_underlying hd, run_getMap (P := P) hob, hr.1]
        · cases he
    · cases he
      cases hm
      exact ⟨by simp [Builtin.len_, hts, run_underlying hd], .int _ _⟩
    · cases he
  · cases he

def iBuiltin2 (P : Program) (b : Builtin) (ts : Array TypeId) (ty : TypeId) (args : List Value) (H : Heap) : Option (Value × Heap) :=
  match b, args with
  | .delete, [m, k] => (ts[0]?).bind fun t => iDelete P t m k H
  | .len, [.map m] => (ts[0]?).bind fun t => (iLenMap P t (.map m) H).map (·, H)
  | _, _ => iBuiltin P b ts ty args H

theorem builtin2_sim {P : Program} {φ : Inj} {H H' : Heap} {w : World} {b : Builtin} {ts : Array TypeId} {ty : TypeId} {consts : Array Bool} {args args' : List Value} {r : Value} (h : HRel P φ H w.heap) (ha : LRel φ args args')
    (he : iBuiltin2 P b ts ty args H = some (r, H')) :
    ∃ r' φ' w', (builtin b ts ty consts args'.toArray).run P w = .ok (.value r') w' ∧ VRel φ' r r' ∧ HRel P φ' H' w'.heap ∧ Ext φ H w φ' H' w' := by
  unfold iBuiltin2 at he
  split at he
  · rename_i m k
    obtain ⟨m', k', rfl, hm, hk⟩ := ha.two
    replace he := bind_some he; obtain ⟨t, hts, he⟩ := he
    obtain ⟨r', φ', w', h1, h2, h3, h4⟩ := delete_sim (ty := ty) h hts hm hk he
    exact ⟨r', φ', w', by simp [builtin, h1], h2, h3, h4⟩
  · rename_i m
    obtain ⟨m', rfl, hm⟩ := ha.one
    replace he := bind_some he; obtain ⟨t, hts, he⟩ := he
    obtain ⟨q, hq, e⟩ := mapSome he
    cases e
    obtain ⟨h1, h2⟩ := lenMap_sim (ty := ty) h hts hm hq
    exact ⟨_, φ, w, by simp [builtin, h1], h2, h, Ext.refl ..⟩
  · exact builtin_sim h ha he
end Go.Ideal

/- The ideal machine: all operations but calls of functions; the evaluator. -/
namespace Go.Ideal
open Go

/-! ### operands -/
def ev (G : Nat) (t : Tr Value) : Operand → Value
  | .tmp i => (t.get i).getD undef
  | .const v => bif noAddr 3 v then v else .chan none
  | .global g => bif Nat.blt g G then .pointer (some ⟨g, 0, none⟩) else .chan none
  | .func f => .func (.func f) #[] #[]

structure GOK (G : Nat) (φ : Inj) : Prop where
  at' : ∀ g, g < G → ∃ l, φ g = some l ∧ l.blk = g ∧ l.off = 0
theorem GOK.mono {G : Nat} {φ ψ : Inj} (h : GOK G φ) (hl : φ.le ψ) : GOK G ψ := ⟨fun g hg => let ⟨l, h1, h2⟩ := h.at' g hg; ⟨l, hl _ _ h1, h2⟩⟩

structure State (P : Program) (G N : Nat) (φ : Inj) (t : Tr Value) (H : Heap) (a : Act) (w : World) : Prop where
  size : a.tmps.size = N
  defers : a.defers = []
  tmps : ∀ i, VRel φ ((t.get i).getD undef) (a.tmps.getD i undef)
  heap : HRel P φ H w.heap
  glob : GOK G φ

theorem State.ev {P : Program} {G N : Nat} {φ : Inj} {t : Tr Value} {H : Heap} {a : Act} {w : World} (h : State P G N φ t H a w) (x : Operand) : VRel φ (Ideal.ev G t x) (a.eval x) := by
  cases x with
  | tmp i => exact h.tmps i
  | const v =>
    show VRel φ (bif noAddr 3 v then v else .chan none) v
    cases hn : noAddr 3 v with
    | true => exact VRel.self 3 v hn
    | false => exact .junk v
  | global g =>
    show VRel φ (bif Nat.blt g G then .pointer (some ⟨g, 0, none⟩) else .chan none) (.pointer (some ⟨g, 0, none⟩))
    cases hg : Nat.blt g G with
    | true =>
      have hlt : g < G := by simpa [Nat.blt_eq] using hg
      obtain ⟨l, h1, h2, h3⟩ := h.glob.at' g hlt
      have := VRel.ptr (φ := φ) 0 h1
      rw [h2, h3] at this
      simpa using this
    | false => exact .junk _
  | func f => exact .func _ _ _ _ _ rfl rfl (fun i x y hx => by simp at hx) (fun i x y hx => by simp at hx)

/-! ### operations -/
def isIface : TypeDesc → Bool
  | .interface _ => true
  | _ => false


def iop (P : Program) (o : Oper) (ρ : Operand → Value) (H : Heap) : Option (Value × Heap) :=
  match o.op with
  | .move x => some (ρ x, H)
  | .assign x => some (ρ x, H)
  | .pick c a b => match ρ c with
    | .bool t => some (bif t then ρ a else ρ b, H)
    | _ => none
  | .alloc t => iAlloc P t H
  | .box t x => iBox t (ρ x) H
  | .build t ps => (iBuild P t (ps.toList.map fun p => (p.1, ρ p.2))).map (·, H)
  | .buildSlice t n ps => iBuildSlice P t n (ps.toList.map fun p => (p.1, ρ p.2)) H
  | .load t a => (iLoad P t (ρ a) H).map (·, H)
  | .store t a x => (iStore P t (ρ a) (ρ x) H).map (undef, ·)
  | .nilCheck x => (iNil (ρ x)).map (·, H)
  | .binOp op t x y _ => (iBin P op t x y (ρ x) (ρ y)).bind fun r => chk (noAddr 3 r) (some (r, H))
  | .unOp op _ x => chk (noAddr 3 (ρ x)) ((pureRun P (Op.unary op (ρ x))).bind fun r => chk (noAddr 3 r) (some (r, H)))
  | .convert s d x => iConvert P s d (ρ x) H
  | .makeInterface t x => (P.underlying t).bind fun d => chk (!isIface d) (some (.iface t (ρ x), H))
  | .makeFunc fn a b => some (.func fn (a.map ρ) (b.map ρ), H)
  | .makeSlice t l c => iMake P t (ρ l) (ρ c) H
  | .slice t x lo hi mx => bif noAddr 3 (ρ x) && (lo.all fun v => noAddr 3 (ρ v)) && (hi.all fun v => noAddr 3 (ρ v)) && (mx.all fun v => noAddr 3 (ρ v)) then
      (pureRun P (Instr.sliceAt t (ρ x) (lo.map ρ) (hi.map ρ) (mx.map ρ))).bind fun r => chk (noAddr 3 r) (some (r, H))
    else (iSlice P t (ρ x) (lo.map ρ) (hi.map ρ) (mx.map ρ) H).map (·, H)
  | .fieldAddr s x f => (iFieldAddr P s (ρ x) f).map (·, H)
  | .field t x f => (iField P t (ρ x) f).map (·, H)
  | .indexAddr t x i => (iIndexAddr P t (ρ x) (ρ i)).map (·, H)
  | .index t x i => bif noAddr 3 (ρ x) && noAddr 3 (ρ i) then (pureRun P (Instr.index t (ρ x) (ρ i))).bind fun r => chk (noAddr 3 r) (some (r, H)) else (iIndexAgg P t (ρ x) (ρ i)).map (·, H)
  | .extract x i => (iExtract (ρ x) i).map (·, H)
  | .range t x => iRange P t (ρ x) H
  | .next x isS => iNext (ρ x) isS H
  | .typeAssert x _ t ok => (iAssert P (ρ x) t ok).map (·, H)
  | .call { callee := .builtin b, args, argTypes } => iBuiltin2 P b argTypes o.type (args.toList.map ρ) H
  | .makeMap t r => iMakeMap P t (r.map ρ) H
  | .lookup t x i ok => bif noAddr 3 (ρ i) then (iLookup P t (ρ x) (ρ i) ok H).map (·, H) else none
  | .mapUpdate t m k x => (iUpdate P t (ρ m) (ρ k) (ρ x) H).map (undef, ·)
  | _ => none

/-- What an ideal operation comes to in the model. -/
def OpSim (P : Program) (o : Oper) (ρ' : Operand → Value) (φ : Inj) (H : Heap) (w : World) (r : Value) (H' : Heap) : Prop :=
  ∃ r' φ' w', ((execOp ρ' o).run P w = .ok (.value r') w' ∨ (execOp ρ' o).run P w = .ok .skip w' ∧ r' = undef) ∧ VRel φ' r r' ∧ HRel P φ' H' w'.heap ∧ Ext φ H w φ' H' w'

theorem map_some {α β : Type} {x : Option α} {f : α → β} {b : β} (h : x.map f = some b) : ∃ a, x = some a ∧ f a = b := by
  cases x with
  | none => cases h
  | some a => cases h; exact ⟨a, rfl, rfl⟩

theorem parts_rel {φ : Inj} {ρ ρ' : Operand → Value} (hρ : ∀ x, VRel φ (ρ x) (ρ' x)) (ps : Array (Nat × Operand)) :
    (ps.toList.map fun p => (p.1, ρ p.2)).length = (ps.toList.map fun p => (p.1, ρ' p.2)).length ∧
    ∀ (j : Nat) a b, (ps.toList.map fun p => (p.1, ρ p.2))[j]? = some a → (ps.toList.map fun p => (p.1, ρ' p.2))[j]? = some b → a.1 = b.1 ∧ VRel φ a.2 b.2 := by
  refine ⟨by simp, fun j a b ha hb => ?_⟩
  rw [List.getElem?_map] at ha hb
  cases hq : ps.toList[j]? with
  | none => rw [hq] at ha; cases ha
  | some q =>
    rw [hq] at ha hb
    cases ha; cases hb
    exact ⟨rfl, hρ _⟩

theorem lrel_map {φ : Inj} {ρ ρ' : Operand → Value} (hρ : ∀ x, VRel φ (ρ x) (ρ' x)) (xs : List Operand) : LRel φ (xs.map ρ) (xs.map ρ') := by
  refine ⟨by simp, fun j a b ha hb => ?_⟩
  rw [List.getElem?_map] at ha hb
  cases hq : xs[j]? with
  | none => rw [hq] at ha; cases ha
  | some q =>
    rw [hq] at ha hb
    cases ha; cases hb
    exact hρ _
theorem arel_map {φ : Inj} {ρ ρ' : Operand → Value} (hρ : ∀ x, VRel φ (ρ x) (ρ' x)) (xs : Array Operand) : ARel φ (xs.map ρ) (xs.map ρ') := by
  refine ⟨by simp, fun j a b ha hb => ?_⟩
  rw [Array.getElem?_map] at ha hb
  cases hq : xs[j]? with
  | none => rw [hq] at ha; cases ha
  | some q =>
    rw [hq] at ha hb
    cases ha; cases hb
    exact hρ _
theorem orel_map {φ : Inj} {ρ ρ' : Operand → Value} (hρ : ∀ x, VRel φ (ρ x) (ρ' x)) (x : Option Operand) : ORelV φ (x.map ρ) (x.map ρ') := by
  cases x with
  | none => trivial
  | some x => exact hρ x
theorem osame {φ : Inj} {ρ ρ' : Operand → Value} (hρ : ∀ x, VRel φ (ρ x) (ρ' x)) (x : Option Operand) (h : (x.all fun v => noAddr 3 (ρ v)) = true) : x.map ρ' = x.map ρ := by
  cases x with
  | none => rfl
  | some x => simp only [Option.map_some]; rw [(hρ x).same 3 h]

theorem iNil_sim {P : Program} {φ : Inj} {o : Oper} {x : Operand} {ρ' : Operand → Value} {v r : Value} (ho : o.op = .nilCheck x) (hx : VRel φ v (ρ' x)) (he : iNil v = some r) (w : World) :
    (execOp ρ' o).run P w = .ok (.value (ρ' x)) w ∧ r = v := by
  simp only [execOp, ho]
  generalize ρ' x = y at hx
  unfold iNil at he
  split at he <;> cases he
  · cases hx; exact ⟨rfl, rfl⟩
  · cases hx; exact ⟨rfl, rfl⟩
  · cases hx; exact ⟨rfl, rfl⟩

theorem op_sim {P : Program} {φ : Inj} {H H' : Heap} {w : World} {o : Oper} {ρ ρ' : Operand → Value} {r : Value} (h : HRel P φ H w.heap) (hρ : ∀ x, VRel φ (ρ x) (ρ' x)) (he : iop P o ρ H = some (r, H')) : OpSim P o ρ' φ H w r H' := by
  unfold iop at he
  have val : ∀ {r' φ' w'}, (execOp ρ' o).run P w = .ok (.value r') w' → VRel φ' r r' → HRel P φ' H' w'.heap → Ext φ H w φ' H' w' → OpSim P o ρ' φ H w r H' := fun h1 h2 h3 h4 => ⟨_, _, _, .inl h1, h2, h3, h4⟩
  split at he
  · rename_i x ho
    cases he
    exact val (by simp [execOp, ho]) (hρ x) h (Ext.refl ..)
  · rename_i x ho
    cases he
    exact val (by simp [execOp, ho]) (hρ x) h (Ext.refl ..)
  · rename_i c a b ho
    split at he
    · rename_i t hc
      cases he
      have hct : ρ' c = .bool t := by have := hρ c; rw [hc] at this; exact this.bool_inv
      cases t with
      | true => exact val (by simp [execOp, ho, hct, asBool]) (hρ a) h (Ext.refl ..)
      | false => exact val (by simp [execOp, ho, hct, asBool]) (hρ b) h (Ext.refl ..)
    · cases he
  · rename_i t ho
    obtain ⟨r', φ', w', h1, h2, h3, h4⟩ := alloc_sim h he
    exact val (by simp [execOp, ho, h1]) h2 h3 h4
  · rename_i t x ho
    obtain ⟨r', φ', w', h1, h2, h3, h4⟩ := box_sim h (hρ x) he
    exact val (by simp [execOp, ho, h1]) h2 h3 h4
  · rename_i t ps ho
    obtain ⟨q, hq, e⟩ := map_some he
    cases e
    obtain ⟨p1, p2⟩ := parts_rel hρ ps
    obtain ⟨r', h1, h2⟩ := build_sim p1 p2 hq w
    refine val ?_ h2 h (Ext.refl ..)
    have : (ps.map fun p => (p.1, ρ' p.2)) = (ps.toList.map fun p => (p.1, ρ' p.2)).toArray := by apply Array.ext'; simp
    simp only [execOp, ho]
    rw [show (ps.map fun x => match x with | (i, x) => (i, ρ' x)) = (ps.toList.map fun p => (p.1, ρ' p.2)).toArray from this]
    simp [h1]
  · rename_i t n ps ho
    obtain ⟨p1, p2⟩ := parts_rel hρ ps
    obtain ⟨r', φ', w', h1, h2, h3, h4⟩ := buildSlice_sim h p1 p2 he
    refine val ?_ h2 h3 h4
    have : (ps.map fun p => (p.1, ρ' p.2)) = (ps.toList.map fun p => (p.1, ρ' p.2)).toArray := by apply Array.ext'; simp
    simp only [execOp, ho]
    rw [show (ps.map fun x => match x with | (i, x) => (i, ρ' x)) = (ps.toList.map fun p => (p.1, ρ' p.2)).toArray from this]
    simp [h1]
  · rename_i t a ho
    obtain ⟨q, hq, e⟩ := map_some he
    cases e
    obtain ⟨r', h1, h2⟩ := load_sim h (hρ a) hq
    exact val (by simp [execOp, ho, h1]) h2 h (Ext.refl ..)
  · rename_i t a x ho
    obtain ⟨q, hq, e⟩ := map_some he
    cases e
    obtain ⟨w', h1, h2, h3⟩ := store_sim h (hρ a) (hρ x) hq
    exact ⟨_, φ, w', .inr ⟨by simp [execOp, ho, h1], rfl⟩, VRel.undef φ, h2, h3⟩
  · rename_i x ho
    obtain ⟨q, hq, e⟩ := map_some he
    cases e
    obtain ⟨h1, rfl⟩ := iNil_sim (P := P) ho (hρ x) hq w
    exact val h1 (hρ x) h (Ext.refl ..)
  · rename_i op t x y yt ho
    obtain ⟨q, hq, he⟩ := bind_some he
    obtain ⟨hk, he⟩ := chk_some he
    cases he
    obtain ⟨h1, h2⟩ := bin_sim (hρ x) (hρ y) hq hk w
    refine val ?_ h2 h (Ext.refl ..)
    simp only [execOp, ho]
    rw [Sem.run_bind, h1]
    rfl
  · rename_i op t x ho
    obtain ⟨hn, he⟩ := chk_some he
    obtain ⟨q, hq, he⟩ := bind_some he
    obtain ⟨hk, he⟩ := chk_some he
    cases he
    have := (hρ x).same 3 hn
    refine val ?_ (VRel.self 3 _ hk) h (Ext.refl ..)
    simp only [execOp, ho, this]
    rw [Sem.run_bind, pureRun_run hq w]
    rfl
  · rename_i s d x ho
    obtain ⟨r', φ', w', h1, h2, h3, h4⟩ := convert_sim h (hρ x) he
    exact val (by simp [execOp, ho, h1]) h2 h3 h4
  · rename_i t x ho
    obtain ⟨d, hd, he⟩ := bind_some he
    obtain ⟨hk, he⟩ := chk_some he
    cases he
    refine val ?_ (.iface t (hρ x)) h (Ext.refl ..)
    have hne : ∀ ms, d ≠ .interface ms := fun ms e => by subst e; cases hk
    cases d <;> first | exact absurd rfl (hne _) | simp [execOp, ho, Instr.makeInterface, run_underlying hd]
  · rename_i fn a b ho
    cases he
    have ha := arel_map hρ a
    have hb := arel_map hρ b
    exact val (by simp [execOp, ho, Instr.makeFunc]) (.func fn _ _ _ _ ha.1 hb.1 ha.2 hb.2) h (Ext.refl ..)
  · rename_i t l c ho
    obtain ⟨r', φ', w', h1, h2, h3, h4⟩ := make_sim h (hρ l) (hρ c) he
    exact val (by simp [execOp, ho, h1]) h2 h3 h4
  · rename_i t x lo hi mx ho
    cases hn : (noAddr 3 (ρ x) && (lo.all fun v => noAddr 3 (ρ v)) && (hi.all fun v => noAddr 3 (ρ v)) && (mx.all fun v => noAddr 3 (ρ v))) with
    | true =>
      rw [hn, cond_true] at he
      simp only [Bool.and_eq_true] at hn
      obtain ⟨⟨⟨n1, n2⟩, n3⟩, n4⟩ := hn
      obtain ⟨q, hq, he⟩ := bind_some he
      obtain ⟨hk, he⟩ := chk_some he
      cases he
      refine val ?_ (VRel.self 3 _ hk) h (Ext.refl ..)
      simp only [execOp, ho, (hρ x).same 3 n1, osame hρ lo n2, osame hρ hi n3, osame hρ mx n4]
      rw [Sem.run_bind, pureRun_run hq w]
      rfl
    | false =>
      rw [hn, cond_false] at he
      obtain ⟨q, hq, e⟩ := map_some he
      cases e
      obtain ⟨r', h1, h2⟩ := slice_sim h (hρ x) (orel_map hρ lo) (orel_map hρ hi) (orel_map hρ mx) hq
      exact val (by simp [execOp, ho, h1]) h2 h (Ext.refl ..)
  · rename_i s x f ho
    obtain ⟨q, hq, e⟩ := map_some he
    cases e
    obtain ⟨r', h1, h2⟩ := fieldAddr_sim (hρ x) hq w
    exact val (by simp [execOp, ho, h1]) h2 h (Ext.refl ..)
  · rename_i t x f ho
    obtain ⟨q, hq, e⟩ := map_some he
    cases e
    obtain ⟨r', h1, h2⟩ := field_sim (hρ x) hq w
    exact val (by simp [execOp, ho, h1]) h2 h (Ext.refl ..)
  · rename_i t x i ho
    obtain ⟨q, hq, e⟩ := map_some he
    cases e
    obtain ⟨r', h1, h2⟩ := indexAddr_sim (hρ x) (hρ i) hq w
    exact val (by simp [execOp, ho, h1]) h2 h (Ext.refl ..)
  · rename_i t x i ho
    cases hn : (noAddr 3 (ρ x) && noAddr 3 (ρ i)) with
    | true =>
      rw [hn, cond_true] at he
      rw [Bool.and_eq_true] at hn
      obtain ⟨q, hq, he⟩ := bind_some he
      obtain ⟨hk, he⟩ := chk_some he
      cases he
      refine val ?_ (VRel.self 3 _ hk) h (Ext.refl ..)
      simp only [execOp, ho, (hρ x).same 3 hn.1, (hρ i).same 3 hn.2]
      rw [Sem.run_bind, pureRun_run hq w]
      rfl
    | false =>
      rw [hn, cond_false] at he
      obtain ⟨q, hq, e⟩ := map_some he
      cases e
      obtain ⟨r', h1, h2⟩ := indexAgg_sim (hρ x) (hρ i) hq w
      exact val (by simp [execOp, ho, h1]) h2 h (Ext.refl ..)
  · rename_i x i ho
    obtain ⟨q, hq, e⟩ := map_some he
    cases e
    obtain ⟨r', h1, h2⟩ := extract_sim (P := P) (hρ x) hq w
    exact val (by simp [execOp, ho, h1]) h2 h (Ext.refl ..)
  · rename_i t x ho
    obtain ⟨r', φ', w', h1, h2, h3, h4⟩ := range_sim h (hρ x) he
    exact val (by simp [execOp, ho, h1]) h2 h3 h4
  · rename_i x isS ho
    obtain ⟨r', φ', w', h1, h2, h3, h4⟩ := next_sim (ty := o.type) h (hρ x) he
    exact val (by simp [execOp, ho, h1]) h2 h3 h4
  · rename_i x xt t ok ho
    obtain ⟨q, hq, e⟩ := map_some he
    cases e
    obtain ⟨r', h1, h2⟩ := assert_sim (xt := xt) (hρ x) hq w
    exact val (by simp [execOp, ho, h1]) h2 h (Ext.refl ..)
  · rename_i b args ts ho
    obtain ⟨r', φ', w', h1, h2, h3, h4⟩ := builtin2_sim (consts := args.map fun | .const _ => true | _ => false) h (lrel_map hρ args.toList) he
    refine val ?_ h2 h3 h4
    have e : (args.toList.map ρ').toArray = args.map ρ' := by apply Array.ext'; simp
    rw [e] at h1
    simp only [execOp, ho, resolve, invoke, Sem.run_bind, Sem.run_pure, Result.andThen_ok]
    exact h1
  · rename_i t x ho
    obtain ⟨r', φ', w', h1, h2, h3, h4⟩ := makeMap_sim h (orel_map hρ x) he
    exact val (by simp [execOp, ho, h1]) h2 h3 h4
  · rename_i t x i ok ho
    cases hn : noAddr 3 (ρ i) with
    | true =>
      rw [hn, cond_true] at he
      obtain ⟨q, hq, e⟩ := map_some he
      cases e
      obtain ⟨r', h1, h2⟩ := lookup_sim h (hρ x) (hρ i) ((hρ i).same 3 hn).symm hq
      exact val (by simp [execOp, ho, h1]) h2 h (Ext.refl ..)
    | false => rw [hn] at he; cases he
  · rename_i t m k x ho
    obtain ⟨q, hq, e⟩ := map_some he
    cases e
    obtain ⟨w', h1, h2, h3⟩ := update_sim h (hρ m) (hρ k) (hρ x) hq
    exact ⟨undef, φ, w', .inr ⟨by simp [execOp, ho, h1], rfl⟩, VRel.undef φ, h2, h3⟩
  · cases he
end Go.Ideal

/- The ideal machine: the evaluator of bodies and calls, and the theorem: what it answers, the model answers. -/
namespace Go.Ideal
open Go

/-- Is an operation wanted (its guard)? none: nothing is known of the guard's value. -/
def iwant (ops : Array Oper) (o : Oper) (t : Tr Value) : Option Bool :=
  match o.guard with
  | none => some true
  | some (j, want) => match (ops[j]?).bind (·.dst) with
    | none => some false
    | some d => match (t.get d).getD undef with
      | .bool b => some (b == want)
      | .chan _ => none
      | _ => some false

def putT (N : Nat) (t : Tr Value) (dst : Option Tmp) (v : Value) : Option (Tr Value) :=
  match dst with
  | some d => chk (Nat.blt d N) (some (t.set d v))
  | none => some t

abbrev CallF := FuncId → List Value → Heap → Option (Value × Heap)

/-- A method of a value in an interface: its function, and the receiver. -/
def iMethod (P : Program) (t : TypeId) (v : Value) (name : String) : Option (FuncId × Value) :=
  (P.info? t).bind fun i => (i.methods.find? (·.name == name)).bind fun m => chk m.path.isEmpty <| m.func.bind fun f => (P.underlying t).bind fun d =>
    match d, f.2 with
    | .pointer _, true => some (f.1, v)
    | .pointer _, false => none
    | _, false => some (f.1, v)
    | _, _ => none

def stepOp (P : Program) (G : Nat) (call : CallF) (o : Oper) (t : Tr Value) (H : Heap) : Option (Value × Heap) :=
  match o.op with
  | .call { callee := .value f, args, .. } => match ev G t f with
    | .func (.func g) first captured => call g (first.toList ++ args.toList.map (ev G t) ++ captured.toList) H
    | _ => none
  | .call { callee := .invoke recv name, args, .. } => match ev G t recv with
    | .iface ty v => (iMethod P ty v name).bind fun q => call q.1 (q.2 :: args.toList.map (ev G t)) H
    | _ => none
  | _ => iop P o (ev G t) H

def evalOps (P : Program) (G N : Nat) (call : CallF) (ops : Array Oper) : List Oper → Tr Value → Heap → Option (Tr Value × Heap)
  | [], t, H => some (t, H)
  | o :: rest, t, H => (iwant ops o t).bind fun b => bif b then
      (stepOp P G call o t H).bind fun q => (putT N t o.dst q.1).bind fun t' => evalOps P G N call ops rest t' q.2
    else (putT N t o.dst undef).bind fun t' => evalOps P G N call ops rest t' H

/-! ### soundness -/
def GoodAt (P : Program) (G : Nat) (g : FuncId) (sem : List Value → Heap → Option (Value × Heap)) : Prop :=
  ∀ args H v H', sem args H = some (v, H') → ∀ φ (w : World) args', HRel P φ H w.heap → GOK G φ → LRel φ args args' →
    Calls P g args'.toArray w fun e w' => ∃ v' φ', e = .returned v' ∧ VRel φ' v v' ∧ HRel P φ' H' w'.heap ∧ Ext φ H w φ' H' w'

/-- All that a trie holds. -/
def _root_.Go.Ideal.Tr.All {α : Type} (p : Nat → α → Prop) (f : Nat → Nat) : Tr α → Prop
  | .nil => True
  | .node l v r => (∀ a, v = some a → p (f 0) a) ∧ Tr.All p (fun n => f (2 * n + 1)) l ∧ Tr.All p (fun n => f (2 * n + 2)) r
theorem _root_.Go.Ideal.Tr.All.get' {α : Type} {p : Nat → α → Prop} : ∀ {t : Tr α} {f : Nat → Nat} {n : Nat} {a : α}, Tr.All p f t → t.get n = some a → p (f n) a := by
  intro t
  induction t with
  | nil => intro f n a _ h; cases h
  | node l v r il ir =>
    intro f n a hA h
    obtain ⟨h0, h1, h2⟩ := hA
    simp only [Tr.get] at h
    cases hn : Nat.beq n 0 with
    | true =>
      rw [hn, cond_true] at h
      rw [Nat.eq_of_beq_eq_true hn]
      exact h0 a h
    | false =>
      rw [hn, cond_false] at h
      have hnz : n ≠ 0 := fun e => by rw [e] at hn; cases hn
      cases ho : Nat.beq (n % 2) 1 with
      | true =>
        rw [ho, cond_true] at h
        have ho := Nat.eq_of_beq_eq_true ho
        have := il h1 h
        rwa [show 2 * (n / 2) + 1 = n from by omega] at this
      | false =>
        rw [ho, cond_false] at h
        have ho : n % 2 ≠ 1 := fun e => by rw [e] at ho; cases ho
        have := ir h2 h
        rwa [show 2 * (n / 2 - 1) + 2 = n from by omega] at this
theorem _root_.Go.Ideal.Tr.All.get {α : Type} {p : Nat → α → Prop} {t : Tr α} {n : Nat} {a : α} (hA : Tr.All p id t) (h : t.get n = some a) : p n a := Tr.All.get' hA h

structure Table (P : Program) (F : Tr Func) : Prop where
  at' : ∀ g fn, F.get g = some fn → P.funcs[g]? = some fn ∧ (fn.name == "runtime.NumGoroutine") = false

/-- A function that is entered when it is called (all but the few that have no body). -/
def Enters (P : Program) (g : FuncId) : Prop := ∀ args w, (callFunc g args).run P w = .ok (.enter g args) w

theorem Table.enters {P : Program} {F : Tr Func} (h : Table P F) {g : FuncId} {fn : Func} {c : Code} (hg : F.get g = some fn) (hb : fn.body = some c) : Enters P g := by
  intro args w
  obtain ⟨h1, h2⟩ := h.at' g fn hg
  have h3 : ¬ fn.name = "runtime.NumGoroutine" := fun e => by rw [e] at h2; simp at h2
  simp [callFunc, h1, h3, hb]

def Good (P : Program) (G : Nat) (call : CallF) : Prop := ∀ g, GoodAt P G g (call g) ∧ ∀ args H r, call g args H = some r → Enters P g

theorem iwant_sim {P : Program} {G N : Nat} {φ : Inj} {t : Tr Value} {H : Heap} {a : Act} {w : World} (h : State P G N φ t H a w) {ops : Array Oper} {o : Oper} {b : Bool} (he : iwant ops o t = some b) :
    Region.wanted o (yielded ops a.tmps) = b := by
  unfold iwant at he
  unfold Region.wanted
  split at he
  · rename_i hg
    rw [hg]; cases he; rfl
  · rename_i j want hg
    rw [hg]
    simp only [yielded]
    split at he
    · rename_i hd
      rw [hd]; cases he; rfl
    · rename_i d hd
      rw [hd]
      have hr := h.tmps d
      have key : (Option.bind (some d) fun x => a.tmps[x]?) = some (a.tmps.getD d undef) ∨ ((Option.bind (some d) fun x => a.tmps[x]?) = none ∧ a.tmps.getD d undef = undef) := by
        simp only [Option.bind_some]
        rcases Nat.lt_or_ge d a.tmps.size with h' | h'
        · left; simp [Array.getD, h']
        · right
          have hn : ¬ d < a.tmps.size := Nat.not_lt.2 h'
          simp [Array.getD, hn]
      split at he
      · rename_i bb hb
        rw [hb] at hr
        have := hr.bool_inv
        rcases key with k | ⟨_, k⟩
        · rw [k, this]; cases he; rfl
        · rw [this] at k; cases k
      · cases he
      · rename_i v hnb hnj
        cases he
        rcases key with k | ⟨k, _⟩
        · rw [k]
          cases hv : a.tmps.getD d undef with
          | bool bb =>
            rw [hv] at hr
            generalize (t.get d).getD undef = q at *
            cases hr with
            | junk => exact absurd rfl (hnj none)
            | bool => exact absurd rfl (hnb bb)
          | _ => rfl
        · rw [k]; rfl

theorem putT_sim {P : Program} {G N : Nat} {φ φ' : Inj} {t t' : Tr Value} {H H' : Heap} {a : Act} {w w' : World} (h : State P G N φ t H a w) {dst : Option Tmp} {v v' : Value} (he : putT N t dst v = some t') (hv : VRel φ' v v') (hh : HRel P φ' H' w'.heap)
    (hx : Ext φ H w φ' H' w') : State P G N φ' t' H' (a.put dst v') w' := by
  unfold putT at he
  have hgl := h.glob.mono hx.le
  cases dst with
  | none =>
    cases he
    exact ⟨h.size, h.defers, fun i => (h.tmps i).mono hx.le, hh, hgl⟩
  | some d =>
    obtain ⟨hd, he⟩ := chk_some he
    cases he
    have hd : d < N := by simpa [Nat.blt_eq] using hd
    refine ⟨by simp [Act.put, h.size], h.defers, fun i => ?_, hh, hgl⟩
    simp only [Act.put, Tr.get_set]
    by_cases e : i = d
    · subst e
      have hlt : i < a.tmps.size := by rw [h.size]; exact hd
      simp [Array.getD, hlt]
      exact hv
    · have hne : ¬ d = i := fun e' => e e'.symm
      rw [if_neg e]
      have : (a.tmps.setIfInBounds d v').getD i undef = a.tmps.getD i undef := by
        simp only [Array.getD_eq_getD_getElem?]
        rw [Array.getElem?_setIfInBounds, if_neg hne]
      rw [this]
      exact (h.tmps i).mono hx.le

theorem method_sim {P : Program} {φ : Inj} {t : TypeId} {v v' r : Value} {name : String} {f : FuncId} (hv : VRel φ v v') (he : iMethod P t v name = some (f, r)) (w : World) (k : Nat) :
    ∃ r', (method (k + 1) t v' name).run P w = .ok (f, r') w ∧ VRel φ r r' := by
  replace he := bind_some he; obtain ⟨i, hi, he⟩ := he
  replace he := bind_some he; obtain ⟨m, hm, he⟩ := he
  replace he := chk_some he; obtain ⟨hp, he⟩ := he
  replace he := bind_some he; obtain ⟨fp, hf, he⟩ := he
  replace he := bind_some he; obtain ⟨d, hd, he⟩ := he
  obtain ⟨f0, ptr⟩ := fp
  have hpe : m.path.toList = [] := by
    have : m.path = #[] := by simpa using hp
    rw [this]
  have hti : ∀ w, (typeInfo t).run P w = .ok i w := fun w => by simp [typeInfo, hi]
  simp only at he
  split at he
  · cases he
    exact ⟨v', by simp [method, hti, hm, hpe, follow, hf, receiverAt, run_underlying hd, Place.get], hv⟩
  · cases he
  · rename_i hnp hptr
    cases he
    refine ⟨v', ?_, hv⟩
    have hne : ∀ e, d ≠ .pointer e := fun e he => by subst he; simp_all
    cases d <;> first | exact absurd rfl (hne _) | simp [method, hti, hm, hpe, follow, hf, receiverAt, run_underlying hd, Place.get]
  · cases he

/-- One operation of a region: what comes of it, comes in the model. -/
theorem stepOp_sim {P : Program} {G N : Nat} {call : CallF} (hcall : Good P G call) {φ : Inj} {t : Tr Value} {H H' : Heap} {a : Act} {w : World} {o : Oper} {r : Value} (h : State P G N φ t H a w) (he : stepOp P G call o t H = some (r, H'))
    {K : Act → World → Prop} {Q : Exit → Act → World → Prop} (hK : ∀ φ' r' w', VRel φ' r r' → HRel P φ' H' w'.heap → Ext φ H w φ' H' w' → K (a.put o.dst r') w') : o.wp P a w K Q := by
  unfold stepOp at he
  split at he
  · rename_i f args ts ho
    have hf := h.ev f
    split at he
    · rename_i g first captured hfe
      rw [hfe] at hf
      obtain ⟨hgood, hent⟩ := hcall g
      have hen := hent _ _ _ he
      cases hf' : a.eval f with
      | func fn first' captured' =>
        rw [hf'] at hf
        cases hf with
        | func _ _ _ _ _ ha hb h1 h2 =>
          have hl : LRel φ (first.toList ++ args.toList.map (ev G t) ++ captured.toList) (first'.toList ++ args.toList.map a.eval ++ captured'.toList) := by
            have hm := lrel_map (ρ := ev G t) (ρ' := a.eval) (fun x => h.ev x) args.toList
            refine ⟨by simp [ha, hb], ?_⟩
            intro i x y hx hy
            have hfl : first.toList.length = first'.toList.length := by simpa using ha
            rw [List.append_assoc] at hx hy
            by_cases h1' : i < first.toList.length
            · rw [List.getElem?_append_left h1'] at hx
              rw [List.getElem?_append_left (by omega)] at hy
              exact h1 i x y (by simpa using hx) (by simpa using hy)
            · rw [List.getElem?_append_right (by omega)] at hx hy
              rw [← hfl] at hy
              by_cases h2' : i - first.toList.length < (args.toList.map (ev G t)).length
              · rw [List.getElem?_append_left h2'] at hx
                rw [List.getElem?_append_left (by rw [← hm.1]; exact h2')] at hy
                exact hm.2 _ x y hx hy
              · rw [List.getElem?_append_right (by omega)] at hx
                rw [List.getElem?_append_right (by rw [← hm.1]; omega)] at hy
                rw [← hm.1] at hy
                exact h2 _ x y (by simpa using hx) (by simpa using hy)
          have hc := hgood _ _ _ _ he φ w _ h.heap h.glob hl
          unfold Oper.wp
          have hrun : (execOp a.eval o).run P w = .ok (.enter g (first'.toList ++ args.toList.map a.eval ++ captured'.toList).toArray) w := by
            have e1 : (first'.toList ++ args.toList.map a.eval ++ captured'.toList).toArray = first' ++ args.map a.eval ++ captured' := by apply Array.ext'; simp
            rw [e1]
            simp only [execOp, ho, resolve, hf', Deferred.ofValue, Sem.run_bind, Sem.run_pure, Result.andThen_ok, invoke]
            exact hen _ w
          rw [hrun]
          show Calls P g _ w _
          refine hc.mono ?_
          rintro e w' ⟨v', φ', rfl, g1, g2, g3⟩
          exact hK φ' v' w' g1 g2 g3
      | _ => rw [hf'] at hf; cases hf
    · cases he
  · rename_i recv name args ts ho
    have hf := h.ev recv
    split at he
    · rename_i ty v hfe
      rw [hfe] at hf
      replace he := bind_some he; obtain ⟨⟨g, rv⟩, hm, he⟩ := he
      obtain ⟨hgood, hent⟩ := hcall g
      have hen := hent _ _ _ he
      cases hf' : a.eval recv with
      | iface ty' v' =>
        rw [hf'] at hf
        cases hf with
        | iface _ hv =>
          obtain ⟨r', m1, m2⟩ := method_sim (P := P) hv hm w (P.types.size + Made.depth - 1)
          have hfuel : P.types.size + Made.depth - 1 + 1 = P.types.size + Made.depth := by simp [Made.depth]
          rw [hfuel] at m1
          have hm' := lrel_map (ρ := ev G t) (ρ' := a.eval) (fun x => h.ev x) args.toList
          have hl : LRel φ (rv :: args.toList.map (ev G t)) (r' :: args.toList.map a.eval) := by
            refine ⟨by simp, ?_⟩
            intro i x y hx hy
            match i with
            | 0 => simp at hx hy; rw [← hx, ← hy]; exact m2
            | i + 1 => exact hm'.2 i x y (by simpa using hx) (by simpa using hy)
          have hc := hgood _ _ _ _ he φ w _ h.heap h.glob hl
          unfold Oper.wp
          have hrun : (execOp a.eval o).run P w = .ok (.enter g (r' :: args.toList.map a.eval).toArray) w := by
            have e1 : (r' :: args.toList.map a.eval).toArray = #[r'] ++ args.map a.eval := by apply Array.ext'; simp
            rw [e1]
            have e2 : (#[Value.iface ty v'] ++ args.map a.eval).extract 1 (#[Value.iface ty v'] ++ args.map a.eval).size = args.map a.eval := by
              apply Array.ext'
              simp only [Array.toList_extract, List.size_toArray, Array.size_append]
              simp
              exact List.take_of_length_le (by simp)
            simp only [execOp, ho, resolve, hf', Sem.run_bind, Sem.run_pure, Result.andThen_ok, invoke]
            have e0 : (#[Value.iface ty v'] ++ args.map a.eval)[0]? = some (Value.iface ty v') := by rw [Array.getElem?_append_left (by simp)]; rfl
            rw [e0]
            simp only [e2, callMethod, Sem.run_bind]
            rw [show (program : Sem Program).run P w = .ok P w from rfl]
            simp only [Result.andThen_ok, m1]
            exact hen _ w
          rw [hrun]
          show Calls P g _ w _
          refine hc.mono ?_
          rintro e w' ⟨v', φ', rfl, g1, g2, g3⟩
          exact hK φ' v' w' g1 g2 g3
      | _ => rw [hf'] at hf; cases hf
    · cases he
  · obtain ⟨r', φ', w', hrun, g1, g2, g3⟩ := op_sim h.heap (fun x => h.ev x) he
    unfold Oper.wp
    rcases hrun with hrun | ⟨hrun, rfl⟩
    · rw [hrun]; exact hK φ' r' w' g1 g2 g3
    · rw [hrun]; exact hK φ' undef w' g1 g2 g3

theorem evalOps_sim {P : Program} {G N : Nat} {call : CallF} (hcall : Good P G call) {ops : Array Oper} {Q : Exit → Act → World → Prop} : ∀ (l : List Oper) {φ : Inj} {t t' : Tr Value} {H H' : Heap} {a : Act} {w : World}, State P G N φ t H a w →
    evalOps P G N call ops l t H = some (t', H') → (∀ φ' a' w', State P G N φ' t' H' a' w' → Ext φ H w φ' H' w' → Q .normal a' w') → wpList P ops Q l a w := by
  intro l
  induction l with
  | nil =>
    intro φ t t' H H' a w h he hQ
    cases he
    exact hQ φ a w h (Ext.refl ..)
  | cons o rest ih =>
    intro φ t t' H H' a w h he hQ
    obtain ⟨b, hb, he⟩ := bind_some he
    have hw := iwant_sim h hb
    unfold wpList
    cases b with
    | true =>
      rw [if_pos hw]
      rw [cond_true] at he
      obtain ⟨⟨r, H1⟩, hs, he⟩ := bind_some he
      obtain ⟨t1, ht1, he⟩ := bind_some he
      refine .inl (stepOp_sim hcall h hs ?_)
      intro φ' r' w' g1 g2 g3
      have hst := putT_sim h ht1 g1 g2 g3
      exact ih hst he (fun φ'' a' w'' s e => hQ φ'' a' w'' s (g3.trans h.heap.dom e))
    | false =>
      rw [if_neg (by rw [hw]; decide)]
      rw [cond_false] at he
      obtain ⟨t1, ht1, he⟩ := bind_some he
      have hst := putT_sim h ht1 (VRel.undef φ) h.heap (Ext.refl ..)
      exact ih hst he hQ

end Go.Ideal

/- The ideal machine: regions whose order is drawn: one order is run, and it is looked whether each other order comes to the same. -/
namespace Go.Ideal
open Go

/-! ### equality of values, by computing -/
def vat (a b : Value) : Bool :=
  match a, b with
  | .bool a, .bool b => a == b
  | .int k a, .int j b => decide (k = j) && decide (a = b)
  | .float k a, .float j b => decide (k = j) && Nat.beq a b
  | .string a, .string b => decide (a.data.toList = b.data.toList)
  | .pointer none, .pointer none => true
  | .pointer (some ⟨b, o, none⟩), .pointer (some ⟨c, p, none⟩) => Nat.beq b c && Nat.beq o p
  | .slice none n c, .slice none m d => Nat.beq n m && Nat.beq c d
  | .slice (some ⟨b, o, none⟩) n c, .slice (some ⟨b', o', none⟩) m d => Nat.beq b b' && Nat.beq o o' && Nat.beq n m && Nat.beq c d
  | .slice (some ⟨b, o, some s⟩) n c, .slice (some ⟨b', o', some s'⟩) m d => Nat.beq b b' && Nat.beq o o' && Nat.beq s s' && Nat.beq n m && Nat.beq c d
  | .map none, .map none => true
  | .map (some b), .map (some c) => Nat.beq b c
  | .nilFunc, .nilFunc => true
  | .nilIface, .nilIface => true
  | _, _ => false

theorem vat_eq {a b : Value} (h : vat a b = true) : a = b := by
  unfold vat at h
  split at h <;> try simp only [Bool.and_eq_true, decide_eq_true_eq, beq_iff_eq, reduceCtorEq] at h
  · rw [h]
  · rw [h.1, h.2]
  · rw [h.1, Nat.eq_of_beq_eq_true h.2]
  · rename_i a b
    obtain ⟨⟨a⟩⟩ := a
    obtain ⟨⟨b⟩⟩ := b
    simp at h
    subst h
    rfl
  · rfl
  · rw [Nat.eq_of_beq_eq_true h.1, Nat.eq_of_beq_eq_true h.2]
  · rw [Nat.eq_of_beq_eq_true h.1, Nat.eq_of_beq_eq_true h.2]
  · rw [Nat.eq_of_beq_eq_true h.1.1.1, Nat.eq_of_beq_eq_true h.1.1.2, Nat.eq_of_beq_eq_true h.1.2, Nat.eq_of_beq_eq_true h.2]
  · rw [Nat.eq_of_beq_eq_true h.1.1.1.1, Nat.eq_of_beq_eq_true h.1.1.1.2, Nat.eq_of_beq_eq_true h.1.1.2, Nat.eq_of_beq_eq_true h.1.2, Nat.eq_of_beq_eq_true h.2]
  · rfl
  · rw [Nat.eq_of_beq_eq_true h]
  · rfl
  · rfl

def veqS (ih : Value → Value → Bool) (a b : Value) : Bool :=
  match a, b with
  | .iface t v, .iface u w => Nat.beq t u && ih v w
  | .agg a, .agg b => Nat.beq a.size b.size && (List.zipWith ih a.toList b.toList).all id
  | .tuple a, .tuple b => Nat.beq a.size b.size && (List.zipWith ih a.toList b.toList).all id
  | a, b => vat a b
def veq (n : Nat) : Value → Value → Bool := Nat.rec vat (fun _ ih => veqS ih) n

theorem zip_eq {f : Value → Value → Bool} (hf : ∀ a b, f a b = true → a = b) : ∀ {a b : List Value}, a.length = b.length → (List.zipWith f a b).all id = true → a = b
  | [], [], _, _ => rfl
  | x :: a, y :: b, hl, h => by
    simp only [List.zipWith_cons_cons, List.all_cons, Bool.and_eq_true, id_eq] at h
    rw [hf _ _ h.1, zip_eq hf (by simpa using hl) h.2]
  | [], _ :: _, hl, _ => by cases hl
  | _ :: _, [], hl, _ => by cases hl

theorem veq_eq (n : Nat) : ∀ (a b : Value), veq n a b = true → a = b := by
  induction n with
  | zero => exact fun a b h => vat_eq h
  | succ n ih =>
    intro a b h
    have h : veqS (veq n) a b = true := h
    unfold veqS at h
    split at h
    · rw [Bool.and_eq_true] at h
      rw [Nat.eq_of_beq_eq_true h.1, ih _ _ h.2]
    · rw [Bool.and_eq_true] at h
      have := zip_eq ih (Nat.eq_of_beq_eq_true h.1) h.2
      rw [Array.ext' this]
    · rw [Bool.and_eq_true] at h
      have := zip_eq ih (Nat.eq_of_beq_eq_true h.1) h.2
      rw [Array.ext' this]
    · exact vat_eq h

def oeq (a b : Option IObj) : Bool :=
  match a, b with
  | some (.cells c e f), some (.cells d u g) => Nat.beq c.length d.length && (List.zipWith (veq 2) c d).all id && Nat.beq e u && (f == g)
  | _, _ => false
theorem oeq_eq {a b : Option IObj} (h : oeq a b = true) : a = b := by
  unfold oeq at h
  split at h
  · simp only [Bool.and_eq_true, beq_iff_eq] at h
    obtain ⟨⟨⟨h1, h2⟩, h3⟩, rfl⟩ := h
    rw [zip_eq (veq_eq 2) (Nat.eq_of_beq_eq_true h1) h2, Nat.eq_of_beq_eq_true h3]
  · cases h

/-! ### kinds of operations -/
inductive Cls where
  | still
  | fresh
  | big

def notSl : Option TypeDesc → Bool
  | some (.slice _) => false
  | some _ => true
  | none => false

def clsOf (P : Program) (o : Oper) : Cls :=
  match o.op with
  | .move _ => .still
  | .assign _ => .still
  | .pick _ _ _ => .still
  | .build _ _ => .still
  | .nilCheck _ => .still
  | .binOp _ _ _ _ _ => .still
  | .unOp _ _ _ => .still
  | .makeInterface _ _ => .still
  | .makeFunc _ _ _ => .still
  | .fieldAddr _ _ _ => .still
  | .field _ _ _ => .still
  | .indexAddr _ _ _ => .still
  | .index _ _ _ => .still
  | .extract _ _ => .still
  | .typeAssert _ _ _ _ => .still
  | .load _ _ => .still
  | .lookup _ _ _ _ => .still
  | .slice _ _ _ _ _ => .still
  | .convert _ d _ => bif notSl (P.underlying d) then (match P.underlying d with | some .string => .big | _ => .still) else .big
  | .call { callee := .builtin b, .. } => match b with
    | .len | .min | .max | .cap => .still
    | _ => .big
  | .alloc _ => .fresh
  | .box _ _ => .fresh
  | .buildSlice _ _ _ => .fresh
  | _ => .big

theorem bif_some {α : Type} {b : Bool} {x y : Option α} {r : α} (h : (bif b then x else y) = some r) : (b = true ∧ x = some r) ∨ (b = false ∧ y = some r) := by
  cases b with
  | true => exact .inl ⟨rfl, h⟩
  | false => exact .inr ⟨rfl, h⟩

theorem cls_map {α β : Type} {x : Option α} {f : α → β} {b : β} (h : x.map f = some b) : ∃ a, x = some a ∧ f a = b := map_some h

theorem still_iop {P : Program} {o : Oper} {ρ : Operand → Value} {H H' : Heap} {r : Value} (hc : clsOf P o = .still) (h : iop P o ρ H = some (r, H')) : H' = H := by
  unfold clsOf at hc
  unfold iop at h
  split at hc <;> first | (cases hc; done) | skip
  all_goals (rename_i ho; rw [ho] at h; simp only at h)
  all_goals first
    | (cases h; rfl; done)
    | (obtain ⟨_, _, e⟩ := map_some h; cases e; rfl; done)
    | skip
  · split at h
    · cases h; rfl
    · cases h
  · obtain ⟨_, _, h⟩ := bind_some h
    obtain ⟨_, h⟩ := chk_some h
    cases h; rfl
  · obtain ⟨_, h⟩ := chk_some h
    obtain ⟨_, _, h⟩ := bind_some h
    obtain ⟨_, h⟩ := chk_some h
    cases h; rfl
  · obtain ⟨_, _, h⟩ := bind_some h
    obtain ⟨_, h⟩ := chk_some h
    cases h; rfl
  · cases hx : (noAddr 3 (ρ _) && noAddr 3 (ρ _)) with
    | true =>
      rw [hx, cond_true] at h
      obtain ⟨_, _, h⟩ := bind_some h
      obtain ⟨_, h⟩ := chk_some h
      cases h; rfl
    | false =>
      rw [hx, cond_false] at h
      obtain ⟨_, _, e⟩ := map_some h; cases e; rfl
  · rcases bif_some h with ⟨_, h⟩ | ⟨_, h⟩
    · obtain ⟨_, _, e⟩ := map_some h; cases e; rfl
    · cases h
  · rcases bif_some h with ⟨_, h⟩ | ⟨_, h⟩
    · obtain ⟨_, _, h⟩ := bind_some h
      obtain ⟨_, h⟩ := chk_some h
      cases h; rfl
    · obtain ⟨_, _, e⟩ := map_some h; cases e; rfl
  · unfold iConvert at h
    obtain ⟨_, _, h⟩ := bind_some h
    obtain ⟨dd, hd, h⟩ := bind_some h
    rw [hd] at hc
    split at h
    · simp [notSl] at hc
    · simp [notSl] at hc
    · rcases bif_some h with ⟨_, h⟩ | ⟨_, h⟩
      · obtain ⟨_, _, h⟩ := bind_some h
        obtain ⟨_, h⟩ := chk_some h
        cases h; rfl
      · cases h
  · have hb := h
    clear h
    split at hc <;> first | (cases hc; done) | skip
    all_goals unfold iBuiltin2 at hb
    all_goals (split at hb <;> first | (rename_i e _; cases e; done) | (rename_i e _ _; cases e; done) | (rename_i e; cases e; done) | (obtain ⟨_, _, hb⟩ := bind_some hb; obtain ⟨_, _, e⟩ := map_some hb; cases e; rfl) | skip)
    all_goals (unfold iBuiltin at hb; split at hb <;> first | (rename_i e _; cases e; done) | (rename_i e _ _; cases e; done) | (rename_i e _ _ _; cases e; done) | (rename_i e; cases e; done) | (cases hb; done) | skip)
    all_goals first
      | (obtain ⟨_, _, hb⟩ := bind_some hb; obtain ⟨_, _, e⟩ := map_some hb; cases e; rfl)
      | (obtain ⟨_, hb⟩ := chk_some hb; obtain ⟨_, _, hb⟩ := bind_some hb; obtain ⟨_, hb⟩ := chk_some hb; cases hb; rfl)
      | (obtain ⟨_, _, hb⟩ := bind_some hb; split at hb <;> cases hb; rfl)

def lk (ops : Array Oper) (o : Oper) : List Tmp := o.looksAt ops

theorem still_step {P : Program} {G : Nat} {call : CallF} {o : Oper} {t : Tr Value} {H H' : Heap} {r : Value} (hc : clsOf P o = .still) (h : stepOp P G call o t H = some (r, H')) : H' = H := by
  unfold stepOp at h
  split at h
  · rename_i ho; unfold clsOf at hc; rw [ho] at hc; cases hc
  · rename_i ho; unfold clsOf at hc; rw [ho] at hc; cases hc
  · exact still_iop hc h

theorem iop_congr {P : Program} {o : Oper} {ρ ρ' : Operand → Value} {H : Heap} (h : ∀ x ∈ o.op.operands, ρ x = ρ' x) : iop P o ρ H = iop P o ρ' H := by
  obtain ⟨dst, op, type, pos, after, guard⟩ := o
  have pairs : ∀ ps : Array (Nat × Operand), (∀ x ∈ ps.map (·.2), ρ x = ρ' x) →
      (ps.toList.map fun p => (p.1, ρ p.2)) = (ps.toList.map fun p => (p.1, ρ' p.2)) := fun ps hp =>
    List.map_congr_left fun p hm => by rw [hp p.2 (Array.mem_map.2 ⟨p, by simpa using hm, rfl⟩)]
  cases op <;> simp only [Op.operands] at h <;> simp only [iop]
  case build t ps => rw [pairs ps fun x hx => h x (by simpa using hx)]
  case buildSlice t n ps => rw [pairs ps fun x hx => h x (by simpa using hx)]
  case makeFunc fn first captured =>
    rw [Array.map_congr_left (xs := first) fun x hx => h x (by simp [hx]), Array.map_congr_left (xs := captured) fun x hx => h x (by simp [hx])]
  case call c =>
    obtain ⟨callee, args, ts⟩ := c
    cases callee with
    | builtin b =>
      simp only [Call.operands] at h
      simp only
      rw [show args.toList.map ρ = args.toList.map ρ' from List.map_congr_left fun x hx => h x (by simp; simpa using hx)]
    | _ => rfl
  case slice t x lo hi mx => cases lo <;> cases hi <;> cases mx <;> simp_all
  case makeMap t r => cases r <;> simp_all
  all_goals (first | rfl | (simp_all; done))

theorem ev_congr {G : Nat} {t t' : Tr Value} {l : List Tmp} (h : ∀ d ∈ l, t.get d = t'.get d) {x : Operand} (hx : ∀ d, x = .tmp d → d ∈ l) : ev G t x = ev G t' x := by
  cases x with
  | tmp d => show (t.get d).getD undef = _; rw [h d (hx d rfl)]; rfl
  | _ => rfl

theorem stepOp_congr {P : Program} {G : Nat} {call : CallF} {ops : Array Oper} {o : Oper} {t t' : Tr Value} {H : Heap} (h : ∀ d ∈ lk ops o, t.get d = t'.get d) : stepOp P G call o t H = stepOp P G call o t' H := by
  have hx : ∀ x ∈ o.op.operands, ev G t x = ev G t' x := fun x hx => ev_congr h (fun d e => by
    subst e
    exact List.mem_append_left _ (List.mem_filterMap.2 ⟨.tmp d, by simpa using hx, rfl⟩))
  unfold stepOp
  split
  · rename_i f args ts ho
    rw [ho] at hx
    simp only [Op.operands, Call.operands] at hx
    have h1 : ev G t f = ev G t' f := hx f (by simp)
    have h2 : args.toList.map (ev G t) = args.toList.map (ev G t') := List.map_congr_left fun x hm => hx x (by simp; exact .inr (by simpa using hm))
    rw [h1, h2]
  · rename_i recv name args ts ho
    rw [ho] at hx
    simp only [Op.operands, Call.operands] at hx
    have h1 : ev G t recv = ev G t' recv := hx recv (by simp)
    have h2 : args.toList.map (ev G t) = args.toList.map (ev G t') := List.map_congr_left fun x hm => hx x (by simp; exact .inr (by simpa using hm))
    rw [h1, h2]
  · exact iop_congr hx

theorem iwant_congr {ops : Array Oper} {o : Oper} {t t' : Tr Value} (h : ∀ d ∈ lk ops o, t.get d = t'.get d) : iwant ops o t = iwant ops o t' := by
  unfold iwant
  cases hg : o.guard with
  | none => rfl
  | some p =>
    obtain ⟨j, want⟩ := p
    simp only
    cases hd : (ops[j]?).bind (·.dst) with
    | none => rfl
    | some d =>
      have : d ∈ lk ops o := by
        unfold lk Oper.looksAt
        rw [hg]
        simp only
        rw [hd]
        simp
      simp only
      rw [h d this]

/-! ### one order, and whether each other one comes to the same -/
def clash (ops : Array Oper) (x y : Oper) : Bool :=
  (match x.dst with
   | some d => (lk ops y).any (Nat.beq d)
   | none => false) ||
  (match y.dst with
   | some d => (lk ops x).any (Nat.beq d)
   | none => false)

def sameDst (x y : Oper) : Bool :=
  match x.dst, y.dst with
  | some d, some e => Nat.beq d e
  | _, _ => false

def isBig (P : Program) (o : Oper) : Bool :=
  match clsOf P o with
  | .big => true
  | _ => false

/-- The operations ahead of one, as bits. -/
def maskOf (A : Tr Nat) (o : Oper) : Nat := o.after.toList.foldr (fun e s => bif Region.binds .any e then 2 ^ e.on ||| ((A.get e.on).getD 0 ||| s) else s) 0
def anc (A : Tr Nat) (i j : Nat) : Bool := ((A.get j).getD 0).testBit i

structure DRec where
  j : Nat
  o : Oper
  t : Tr Value
  H : Heap
  wd : Bool

def statPair (P : Program) (ops : Array Oper) (A : Tr Nat) (x y : DRec) : Bool :=
  !Nat.beq x.j y.j && !sameDst x.o y.o && (anc A x.j y.j || (!clash ops x.o y.o && !isBig P x.o))

def statFrom (P : Program) (ops : Array Oper) (A : Tr Nat) : List DRec → List DRec → Bool
  | _, [] => true
  | seen, y :: rest => Nat.beq ((A.get y.j).getD 0) (maskOf A y.o) && (y.o.after.toList.all fun e => !Region.binds .any e || seen.any fun x => Nat.beq x.j e.on) && (seen.all fun x => statPair P ops A x y) &&
      statFrom P ops A (y :: seen) rest

def drawRun (P : Program) (G N : Nat) (call : CallF) (ops : Array Oper) : List Nat → Tr Value → Heap → Option (List DRec × Tr Value × Heap)
  | [], t, H => some ([], t, H)
  | j :: rest, t, H => (ops[j]?).bind fun o => (iwant ops o t).bind fun b =>
      (bif b then (stepOp P G call o t H).bind fun q => (putT N t o.dst q.1).map fun t' => (t', q.2) else (putT N t o.dst undef).map fun t' => (t', H)).bind fun s =>
      chk (Nat.ble H.n s.2.n) ((drawRun P G N call ops rest s.1 s.2).map fun z => (⟨j, o, t, H, b⟩ :: z.1, z.2))

/-- Is a test passed at each memory at which an operation might come? -/
def scan (P : Program) (A : Tr Nat) (fd : Bool) (j : Nat) (test : Heap → Bool) (Hf : Heap) : List DRec → Bool → Bool
  | [], dirty => !dirty || test Hf
  | s :: rest, dirty => match clsOf P s.o with
    | .big => (!dirty || test s.H) && (anc A j s.j || scan P A fd j test Hf rest true)
    | .fresh => scan P A fd j test Hf rest (dirty || fd)
    | .still => scan P A fd j test Hf rest dirty

/-- Does it look at no memory? -/
def quietOp (o : Oper) : Bool :=
  match o.op with
  | .move _ => true
  | .assign _ => true
  | .pick _ _ _ => true
  | .build _ _ => true
  | .nilCheck _ => true
  | .binOp _ _ _ _ _ => true
  | .unOp _ _ _ => true
  | .makeInterface _ _ => true
  | .makeFunc _ _ _ => true
  | .fieldAddr _ _ _ => true
  | .field _ _ _ => true
  | .indexAddr _ _ _ => true
  | .index _ _ _ => true
  | .extract _ _ => true
  | .typeAssert _ _ _ _ => true
  | _ => false
theorem quiet_step {P : Program} {G : Nat} {call : CallF} {o : Oper} {t : Tr Value} {H H' : Heap} {r : Value} (hq : quietOp o = true) (h : stepOp P G call o t H = some (r, H')) (H2 : Heap) : stepOp P G call o t H2 = some (r, H2) := by
  have mp : ∀ {x : Option Value}, x.map (·, H) = some (r, H') → x.map (·, H2) = some (r, H2) := fun h => by
    obtain ⟨_, e1, e⟩ := map_some h
    cases e; rw [e1]; rfl
  have bd : ∀ {x : Option Value}, x.bind (fun r => chk (noAddr 3 r) (some (r, H))) = some (r, H') → x.bind (fun r => chk (noAddr 3 r) (some (r, H2))) = some (r, H2) := fun h => by
    obtain ⟨v, e1, h⟩ := bind_some h
    obtain ⟨e2, h⟩ := chk_some h
    cases h
    rw [e1]; simp only [Option.bind_some, e2, chk, cond_true]
  obtain ⟨dst, op, type, pos, after, guard⟩ := o
  cases op <;> simp only [quietOp, Bool.false_eq_true] at hq <;> unfold stepOp iop at h ⊢ <;> simp only at h ⊢
  case move => cases h; rfl
  case assign => cases h; rfl
  case pick =>
    split at h
    · cases h; rfl
    · cases h
  case build => exact mp h
  case nilCheck => exact mp h
  case binOp => exact bd h
  case unOp =>
    obtain ⟨e1, h⟩ := chk_some h
    rw [e1, chk, cond_true]
    exact bd h
  case makeInterface =>
    obtain ⟨d, e1, h⟩ := bind_some h
    obtain ⟨e2, h⟩ := chk_some h
    cases h
    rw [e1]; simp only [Option.bind_some, e2, chk, cond_true]
  case makeFunc => cases h; rfl
  case fieldAddr => exact mp h
  case field => exact mp h
  case indexAddr => exact mp h
  case index =>
    rcases bif_some h with ⟨e1, h⟩ | ⟨e1, h⟩
    · rw [e1, cond_true]; exact bd h
    · rw [e1, cond_false]; exact mp h
  case extract => exact mp h
  case typeAssert => exact mp h

def stillTest (P : Program) (G : Nat) (call : CallF) (r : DRec) (H : Heap) : Bool :=
  quietOp r.o || match stepOp P G call r.o r.t r.H, stepOp P G call r.o r.t H with
  | some (v, _), some (v', _) => veq 3 v v'
  | _, _ => false
def freshTest (P : Program) (G : Nat) (call : CallF) (r : DRec) (H : Heap) : Bool :=
  match stepOp P G call r.o r.t r.H with
  | some (_, H') => oeq (H'.get r.H.n) (H.get r.H.n)
  | _ => false

def dynFrom (P : Program) (G : Nat) (call : CallF) (A : Tr Nat) (Hf : Heap) : List DRec → Bool
  | [] => true
  | r :: rest => (bif r.wd then (match clsOf P r.o with
      | .still => scan P A true r.j (stillTest P G call r) Hf rest false
      | .fresh => scan P A false r.j (freshTest P G call r) Hf rest false
      | .big => true) else true) && dynFrom P G call A Hf rest

/-- An order: what can come before a call comes before it. -/
def pickNext (P : Program) (ops : Array Oper) (done : Nat) (l : List Nat) : Option Nat :=
  let ready := l.filter fun j => match ops[j]? with
    | some o => o.after.toList.all fun e => !Region.binds .any e || done.testBit e.on
    | none => false
  match ready.find? fun j => match ops[j]? with
    | some o => !isBig P o
    | none => false with
  | some j => some j
  | none => ready.head?
def sched (P : Program) (ops : Array Oper) (f : Nat) : Nat → List Nat → List Nat :=
  Nat.rec (fun _ _ => []) (fun _ ih done l => match pickNext P ops done l with
    | some j => j :: ih (done ||| 2 ^ j) (l.filter fun i => !Nat.beq i j)
    | none => []) f
def ancs (ops : Array Oper) : List Nat → Tr Nat → Tr Nat
  | [], A => A
  | j :: rest, A => match ops[j]? with
    | some o => ancs ops rest (A.set j (maskOf A o))
    | none => A

def evalDraw (P : Program) (G N : Nat) (call : CallF) (ops : Array Oper) (t : Tr Value) (H : Heap) : Option (Tr Value × Heap) :=
  let ord := sched P ops ops.size 0 (List.range ops.size)
  let A := ancs ops ord .nil
  chk (P.follows .mixedOrders && (List.range ops.size).all fun i => ord.any (Nat.beq i)) ((drawRun P G N call ops ord t H).bind fun z =>
    chk (statFrom P ops A [] z.1 && dynFrom P G call A z.2.2 z.1) (some z.2))
end Go.Ideal

/- The ideal machine: equality of values of struct types, told plainly. -/
namespace Go.Ideal
open Go

theorem pureRun_bind {α β : Type} {P : Program} (s : Sem α) (f : α → Sem β) : pureRun P (s >>= f) = (pureRun P s).bind fun a => pureRun P (f a) := by
  induction s with
  | pure a => rfl
  | program k ih => exact ih P
  | _ => rfl
theorem pureRun_pure {α : Type} {P : Program} (a : α) : pureRun P (pure a : Sem α) = some a := rfl
theorem pureRun_underlying {P : Program} {t : TypeId} {d : TypeDesc} (h : P.underlying t = some d) : pureRun P (underlying t) = some d := by
  unfold underlying
  rw [pureRun_bind]
  show Option.bind (some P) _ = _
  simp [h]
  rfl

def eqFs (P : Program) (ih : TypeId → Value → Value → Option Bool) (xs ys : Array Value) : List Field → Option Bool
  | [] => some true
  | f :: r => bif f.name == "_" then eqFs P ih xs ys r else (pureRun P (part f.type xs f.offset)).bind fun a => (pureRun P (part f.type ys f.offset)).bind fun b => (ih f.type a b).bind fun c => (eqFs P ih xs ys r).map fun q => c && q
def eqN (P : Program) : Nat → TypeId → Value → Value → Option Bool
  | 0, _, _, _ => none
  | d + 1, t, x, y => (P.underlying t).bind fun ds => match ds, x, y with
    | .bool, .bool a, .bool b => some (a == b)
    | .int _, .int k a, .int k' b => if k = k' then some (a == b) else none
    | .string, .string a, .string b => some (a == b)
    | .struct fs, .agg xs, .agg ys => bif P.stoodInHeld t then none else eqFs P (eqN P d) xs ys fs.toList
    | _, _, _ => none

theorem eqFs_run {P : Program} {d : Nat} (ih : ∀ t x y b, eqN P d t x y = some b → pureRun P (Op.equalIn d t x y) = some b) {xs ys : Array Value} : ∀ (fs : List Field) {b : Bool}, eqFs P (eqN P d) xs ys fs = some b →
    pureRun P (do
      for f in fs do
        if f.name ≠ "_" then
          if !(← Op.equalIn d f.type (← part f.type xs f.offset) (← part f.type ys f.offset)) then return false
      pure true : Sem Bool) = some b
  | [], b, h => by cases h; rfl
  | f :: r, b, h => by
    simp only [eqFs] at h
    simp only [List.forIn_cons]
    by_cases hn : f.name = "_"
    · have hb : (f.name == "_") = true := by simp [hn]
      rw [hb, cond_true] at h
      have := eqFs_run ih r h
      rw [if_neg (by simp [hn])]
      exact this
    · have hb : (f.name == "_") = false := by simp [hn]
      rw [hb, cond_false] at h
      obtain ⟨u, h1, h⟩ := bind_some h
      obtain ⟨v, h2, h⟩ := bind_some h
      obtain ⟨c, h3, h⟩ := bind_some h
      have h4 := ih _ _ _ _ h3
      rw [if_pos hn]
      simp only [bind_assoc]
      rw [pureRun_bind, h1, Option.bind_some, pureRun_bind, h2, Option.bind_some, pureRun_bind, h4, Option.bind_some]
      obtain ⟨q, h5, rfl⟩ := map_some h
      cases c with
      | true =>
        rw [Bool.true_and]
        exact eqFs_run ih r h5
      | false => rfl

theorem eqN_run {P : Program} : ∀ (d : Nat) (t : TypeId) (x y : Value) (b : Bool), eqN P d t x y = some b → pureRun P (Op.equalIn d t x y) = some b
  | 0, _, _, _, _, h => by cases h
  | d + 1, t, x, y, b, h => by
    obtain ⟨ds, hu, h⟩ := bind_some h
    simp only [Op.equalIn, pureRun_bind, pureRun_underlying hu, Option.bind_some]
    split at h
    · cases h; rfl
    · split at h
      · rename_i hk
        cases h
        simp only [hk, if_true]; rfl
      · cases h
    · cases h; rfl
    · rcases bif_some h with ⟨_, h⟩ | ⟨hs, h⟩
      · cases h
      · simp only [pureRun_bind, ← Array.forIn_toList]
        show Option.bind (some P) _ = _
        rw [Option.bind_some, if_neg (by rw [hs]; decide)]
        exact eqFs_run (eqN_run d) _ h
    · cases h

/-- == and != of structs of plain parts. -/
theorem bin_eqN {P : Program} {t : TypeId} {ox oy : Operand} {xs ys : Array Value} {b : Bool} (hn : (noAddr 3 (.agg xs) && noAddr 3 (.agg ys)) = true) (hg : pureRun P (eqGuard .eql t ox oy (.agg xs) (.agg ys)) = some ()) (h : eqN P Op.maxDepth t (.agg xs) (.agg ys) = some b) :
    iBin P .eql t ox oy (.agg xs) (.agg ys) = some (.bool b) := by
  unfold iBin
  rw [hn, cond_true, pureRun_bind, hg, Option.bind_some]
  show pureRun P (do pure (Value.bool (← Op.equal t (.agg xs) (.agg ys)))) = _
  rw [pureRun_bind, show pureRun P (Op.equal t (.agg xs) (.agg ys)) = some b from eqN_run _ _ _ _ _ h]
  rfl
theorem bin_neN {P : Program} {t : TypeId} {ox oy : Operand} {xs ys : Array Value} {b : Bool} (hn : (noAddr 3 (.agg xs) && noAddr 3 (.agg ys)) = true) (hg : pureRun P (eqGuard .neq t ox oy (.agg xs) (.agg ys)) = some ()) (h : eqN P Op.maxDepth t (.agg xs) (.agg ys) = some b) :
    iBin P .neq t ox oy (.agg xs) (.agg ys) = some (.bool (!b)) := by
  unfold iBin
  rw [hn, cond_true, pureRun_bind, hg, Option.bind_some]
  show pureRun P (do pure (Value.bool (!(← Op.equal t (.agg xs) (.agg ys))))) = _
  rw [pureRun_bind, show pureRun P (Op.equal t (.agg xs) (.agg ys)) = some b from eqN_run _ _ _ _ _ h]
  rfl
end Go.Ideal

/- The ideal machine: regions whose order is drawn: whatever the order, what the one order came to comes. -/
namespace Go.Ideal
open Go

def stT (recs : List DRec) (tf : Tr Value) (k : Nat) : Tr Value :=
  match recs[k]? with
  | some r => r.t
  | none => tf
def stH (recs : List DRec) (Hf : Heap) (k : Nat) : Heap :=
  match recs[k]? with
  | some r => r.H
  | none => Hf

theorem stT_some {recs : List DRec} {tf : Tr Value} {k : Nat} {r : DRec} (h : recs[k]? = some r) : stT recs tf k = r.t := by unfold stT; rw [h]
theorem stH_some {recs : List DRec} {Hf : Heap} {k : Nat} {r : DRec} (h : recs[k]? = some r) : stH recs Hf k = r.H := by unfold stH; rw [h]

structure Canon (P : Program) (G N : Nat) (call : CallF) (ops : Array Oper) (recs : List DRec) (t0 : Tr Value) (H0 : Heap) (tf : Tr Value) (Hf : Heap) : Prop where
  t0 : stT recs tf 0 = t0
  H0 : stH recs Hf 0 = H0
  at' : ∀ (k : Nat) (r : DRec), recs[k]? = some r → ops[r.j]? = some r.o ∧ iwant ops r.o r.t = some r.wd ∧ r.H.n ≤ (stH recs Hf (k + 1)).n ∧
    (r.wd = true → ∃ v, stepOp P G call r.o r.t r.H = some (v, stH recs Hf (k + 1)) ∧ putT N r.t r.o.dst v = some (stT recs tf (k + 1))) ∧
    (r.wd = false → putT N r.t r.o.dst undef = some (stT recs tf (k + 1)) ∧ stH recs Hf (k + 1) = r.H)

theorem drawRun_canon {P : Program} {G N : Nat} {call : CallF} {ops : Array Oper} : ∀ (ord : List Nat) {t0 : Tr Value} {H0 : Heap} {recs : List DRec} {tf : Tr Value} {Hf : Heap},
    drawRun P G N call ops ord t0 H0 = some (recs, tf, Hf) → Canon P G N call ops recs t0 H0 tf Hf ∧ recs.map (·.j) = ord := by
  intro ord
  induction ord with
  | nil =>
    intro t0 H0 recs tf Hf h
    cases h
    exact ⟨⟨rfl, rfl, fun k r h => by simp at h⟩, rfl⟩
  | cons j rest ih =>
    intro t0 H0 recs tf Hf h
    obtain ⟨o, ho, h⟩ := bind_some h
    obtain ⟨b, hb, h⟩ := bind_some h
    obtain ⟨⟨t1, H1⟩, hs, h⟩ := bind_some h
    obtain ⟨hn, h⟩ := chk_some h
    obtain ⟨⟨recs', tf', Hf'⟩, hr, e⟩ := map_some h
    cases e
    obtain ⟨hc, hm⟩ := ih hr
    refine ⟨⟨rfl, rfl, ?_⟩, by simp [hm]⟩
    intro k r hk
    have eT : ∀ k, stT (⟨j, o, t0, H0, b⟩ :: recs') tf (k + 1) = stT recs' tf k := fun k => by unfold stT; simp
    have eH : ∀ k, stH (⟨j, o, t0, H0, b⟩ :: recs') Hf (k + 1) = stH recs' Hf k := fun k => by unfold stH; simp
    cases k with
    | zero =>
      simp at hk
      subst hk
      rw [eT, eH, hc.t0, hc.H0]
      refine ⟨ho, hb, Nat.le_of_ble_eq_true hn, ?_, ?_⟩
      · intro hw
        simp only at hw
        subst hw
        rw [cond_true] at hs
        obtain ⟨⟨v, H2⟩, h1, hs⟩ := bind_some hs
        obtain ⟨t2, h2, e⟩ := map_some hs
        cases e
        exact ⟨v, h1, h2⟩
      · intro hw
        simp only at hw
        subst hw
        rw [cond_false] at hs
        obtain ⟨t2, h2, e⟩ := map_some hs
        cases e
        exact ⟨h2, rfl⟩
    | succ k =>
      rw [eT, eH]
      exact hc.at' k r (by simpa using hk)

/-! ### what the static look shows -/
theorem maskOf_bit {A : Tr Nat} {o : Oper} {i : Nat} (h : (maskOf A o).testBit i = true) : ∃ e ∈ o.after.toList, Region.binds .any e = true ∧ (e.on = i ∨ ((A.get e.on).getD 0).testBit i = true) := by
  unfold maskOf at h
  generalize o.after.toList = L at h ⊢
  induction L with
  | nil => simp at h
  | cons e l ih =>
    simp only [List.foldr_cons] at h
    cases hb : Region.binds .any e with
    | false =>
      rw [hb, cond_false] at h
      obtain ⟨e', h1, h2⟩ := ih h
      exact ⟨e', List.mem_cons_of_mem _ h1, h2⟩
    | true =>
      rw [hb, cond_true, Nat.testBit_or, Nat.testBit_or, Bool.or_eq_true, Bool.or_eq_true] at h
      rcases h with h | h | h
      · rw [Nat.testBit_two_pow] at h
        exact ⟨e, List.mem_cons_self, hb, .inl (by simpa using h)⟩
      · exact ⟨e, List.mem_cons_self, hb, .inr h⟩
      · obtain ⟨e', h1, h2⟩ := ih h
        exact ⟨e', List.mem_cons_of_mem _ h1, h2⟩

theorem stat_spec {P : Program} {ops : Array Oper} {A : Tr Nat} : ∀ (l seen : List DRec), statFrom P ops A seen l = true → ∀ (k : Nat) (y : DRec), l[k]? = some y →
    (A.get y.j).getD 0 = maskOf A y.o ∧
    (∀ e ∈ y.o.after.toList, Region.binds .any e = true → (∃ x ∈ seen, x.j = e.on) ∨ ∃ (m : Nat) (x : DRec), m < k ∧ l[m]? = some x ∧ x.j = e.on) ∧
    (∀ x ∈ seen, statPair P ops A x y = true) ∧ (∀ (m : Nat) (x : DRec), m < k → l[m]? = some x → statPair P ops A x y = true) := by
  intro l
  induction l with
  | nil => intro seen _ k y h; simp at h
  | cons z rest ih =>
    intro seen h k y hk
    simp only [statFrom, Bool.and_eq_true] at h
    obtain ⟨⟨⟨h1, h2⟩, h3⟩, h4⟩ := h
    cases k with
    | zero =>
      simp at hk
      subst hk
      refine ⟨Nat.eq_of_beq_eq_true h1, ?_, fun x hx => List.all_eq_true.1 h3 x hx, fun m x hm => by omega⟩
      intro e he hb
      have := List.all_eq_true.1 h2 e he
      rw [hb] at this
      simp only [Bool.not_true, Bool.false_or, List.any_eq_true] at this
      obtain ⟨x, hx, hxe⟩ := this
      exact .inl ⟨x, hx, Nat.eq_of_beq_eq_true hxe⟩
    | succ k =>
      obtain ⟨g1, g2, g3, g4⟩ := ih (z :: seen) h4 k y (by simpa using hk)
      refine ⟨g1, ?_, fun x hx => g3 x (List.mem_cons_of_mem _ hx), ?_⟩
      · intro e he hb
        rcases g2 e he hb with ⟨x, hx, hxe⟩ | ⟨m, x, hm, hx, hxe⟩
        · rcases List.mem_cons.1 hx with rfl | hx
          · exact .inr ⟨0, x, by omega, by simp, hxe⟩
          · exact .inl ⟨x, hx, hxe⟩
        · exact .inr ⟨m + 1, x, by omega, by simpa using hx, hxe⟩
      · intro m x hm hx
        cases m with
        | zero => simp at hx; subst hx; exact g3 z List.mem_cons_self
        | succ m => exact g4 m x (by omega) (by simpa using hx)

structure Stat (P : Program) (ops : Array Oper) (A : Tr Nat) (recs : List DRec) : Prop where
  mask : ∀ (k : Nat) (y : DRec), recs[k]? = some y → (A.get y.j).getD 0 = maskOf A y.o
  edge : ∀ (k : Nat) (y : DRec), recs[k]? = some y → ∀ e ∈ y.o.after.toList, Region.binds .any e = true → ∃ (m : Nat) (x : DRec), m < k ∧ recs[m]? = some x ∧ x.j = e.on
  ne : ∀ (k l : Nat) (x y : DRec), k < l → recs[k]? = some x → recs[l]? = some y → x.j ≠ y.j
  dst : ∀ (k l : Nat) (x y : DRec), k < l → recs[k]? = some x → recs[l]? = some y → ∀ d, x.o.dst = some d → y.o.dst ≠ some d
  free : ∀ (k l : Nat) (x y : DRec), k < l → recs[k]? = some x → recs[l]? = some y → anc A x.j y.j = true ∨ (clash ops x.o y.o = false ∧ isBig P x.o = false)

theorem stat_of {P : Program} {ops : Array Oper} {A : Tr Nat} {recs : List DRec} (h : statFrom P ops A [] recs = true) : Stat P ops A recs := by
  have hs := stat_spec recs [] h
  have pair : ∀ (k l : Nat) (x y : DRec), k < l → recs[k]? = some x → recs[l]? = some y → statPair P ops A x y = true := fun k l x y hkl hx hy => (hs l y hy).2.2.2 k x hkl hx
  refine ⟨fun k y hy => (hs k y hy).1, ?_, ?_, ?_, ?_⟩
  · intro k y hy e he hb
    rcases (hs k y hy).2.1 e he hb with ⟨x, hx, _⟩ | h
    · cases hx
    · exact h
  · intro k l x y hkl hx hy e
    have := pair k l x y hkl hx hy
    simp [statPair, e] at this
  · intro k l x y hkl hx hy d hd hd'
    have := pair k l x y hkl hx hy
    simp [statPair, sameDst, hd, hd'] at this
  · intro k l x y hkl hx hy
    have := pair k l x y hkl hx hy
    simp only [statPair, Bool.and_eq_true, Bool.or_eq_true, Bool.not_eq_true'] at this
    exact this.2

theorem clash_no {ops : Array Oper} {x y : Oper} (h : clash ops x y = false) : (∀ d, x.dst = some d → d ∉ lk ops y) ∧ (∀ d, y.dst = some d → d ∉ lk ops x) := by
  unfold clash at h
  rw [Bool.or_eq_false_iff] at h
  constructor
  · intro d hd hm
    rw [hd] at h
    have := h.1
    simp only [List.any_eq_false] at this
    exact this d hm (by simp)
  · intro d hd hm
    rw [hd] at h
    have := h.2
    simp only [List.any_eq_false] at this
    exact this d hm (by simp)

/-- Whoever is listed has all that is ahead of it listed. -/
def Closed (recs : List DRec) (listed : Array Bool) : Prop :=
  ∀ (k : Nat) (r : DRec), recs[k]? = some r → listed.getD r.j false = true → ∀ e ∈ r.o.after.toList, Region.binds .any e = true → listed.getD e.on false = true

theorem anc_in {P : Program} {ops : Array Oper} {A : Tr Nat} {recs : List DRec} {listed : Array Bool} (hs : Stat P ops A recs) (hc : Closed recs listed) : ∀ (l : Nat) (y : DRec), recs[l]? = some y →
    (∀ e ∈ y.o.after.toList, Region.binds .any e = true → listed.getD e.on false = true) → ∀ i, anc A i y.j = true → listed.getD i false = true := by
  intro l
  induction l using Nat.strongRecOn with
  | ind l ih =>
    intro y hy ha i hi
    unfold anc at hi
    rw [hs.mask l y hy] at hi
    obtain ⟨e, he, hb, hor⟩ := maskOf_bit hi
    rcases hor with rfl | hor
    · exact ha e he hb
    · obtain ⟨m, x, hm, hx, hxe⟩ := hs.edge l y hy e he hb
      have hin := ha e he hb
      rw [← hxe] at hin
      exact ih m hm x hx (hc m x hx hin) i (by unfold anc; rw [hxe]; exact hor)

/-! ### a block made before or behind its time -/
theorem vrel_ptr0 {ψ : Inj} {b s : Nat} {l : Loc} (h : ψ b = some l) (hb : l.blk = s) (ho : l.off = 0) : VRel ψ (.pointer (some ⟨b, 0, none⟩)) (.pointer (some ⟨s, 0, none⟩)) := by
  have := VRel.ptr (φ := ψ) 0 h
  rw [hb, ho] at this
  exact this
theorem vrel_sl0 {ψ : Inj} {b s : Nat} {l : Loc} (n c : Nat) (h : ψ b = some l) (hb : l.blk = s) (ho : l.off = 0) : VRel ψ (.slice (some ⟨b, 0, some 0⟩) n c) (.slice (some ⟨s, 0, none⟩) n c) := by
  have := VRel.sexact (φ := ψ) 0 n c h
  rw [hb, ho] at this
  exact this

def FreshSim (P : Program) (φ : Inj) (w : World) (s : Sem Value) (H : Heap) (c : List Value) (e : TypeId) (r : Value) : Prop :=
  ∃ (c' : Array Value) (r' : Value), s.run P w = .ok r' (w.alloc (.cells c' e)) ∧ c'.size = c.length ∧ (∀ (j : Nat) x y, c[j]? = some x → c'[j]? = some y → VRel φ x y) ∧
    ∀ (ψ : Inj) l, ψ H.n = some l → l.blk = w.heap.size → l.off = 0 → VRel ψ r r'

theorem box_fresh {P : Program} {H H' : Heap} {t : TypeId} {x r : Value} (he : iBox t x H = some (r, H')) : ∃ c, H' = H.push (.cells c t false) ∧
    ∀ (φ : Inj) (x' : Value) (w : World), VRel φ x x' → FreshSim P φ w (Instr.box t x') H c t r := by
  have hj : x ≠ .chan none := fun e => by rw [e] at he; cases he
  have he' : some (Value.pointer (some ⟨H.n, 0, none⟩), H.push (.cells (vcells x) t false)) = some (r, H') := by
    rw [← he]; cases x <;> first | rfl | (rename_i q; cases q <;> first | exact absurd rfl hj | cases he)
  cases he'
  refine ⟨vcells x, rfl, ?_⟩
  intro φ x' w hx
  obtain ⟨k1, k2⟩ := vcells_rel hx hj
  refine ⟨x'.cells, .pointer (some ⟨w.heap.size, 0, none⟩), by simp [Instr.box, newVar, Go.newRow], by simpa using k1, fun j a b ha hb => k2 j a b ha (by simpa using hb), ?_⟩
  intro ψ l h1 h2 h3
  exact vrel_ptr0 h1 h2 h3

theorem alloc_fresh {P : Program} {H H' : Heap} {t : TypeId} {r : Value} (he : iAlloc P t H = some (r, H')) : ∃ c, H' = H.push (.cells c t false) ∧
    ∀ (φ : Inj) (w : World), FreshSim P φ w (Instr.alloc t true (.tuple #[])) H c t r := by
  obtain ⟨z, hz, he⟩ := bind_some he
  obtain ⟨c, hc, h⟩ := box_fresh (P := P) he
  refine ⟨c, hc, fun φ w => ?_⟩
  obtain ⟨hz1, hz2⟩ := zero_sim hz w
  obtain ⟨c', r', h1, h2⟩ := h φ z w (VRel.self 2 z hz2)
  refine ⟨c', r', ?_, h2⟩
  simp only [Instr.alloc, Sem.run_bind, hz1, Result.andThen_ok]
  exact h1

theorem buildSlice_fresh {P : Program} {H H' : Heap} {t : TypeId} {len : Nat} {ps : List (Nat × Value)} {r : Value} (he : iBuildSlice P t len ps H = some (r, H')) : ∃ c e, H' = H.push (.cells c e false) ∧
    ∀ (φ : Inj) (ps' : List (Nat × Value)) (w : World), ps.length = ps'.length → (∀ (j : Nat) a b, ps[j]? = some a → ps'[j]? = some b → a.1 = b.1 ∧ VRel φ a.2 b.2) → FreshSim P φ w (Instr.buildSlice t len ps'.toArray) H c e r := by
  replace he := bind_some he; obtain ⟨dt, ht, he⟩ := he
  split at he
  · rename_i e
    replace he := bind_some he; obtain ⟨i, hi, he⟩ := he
    replace he := bind_some he; obtain ⟨z, hz, he⟩ := he
    replace he := chk_some he; obtain ⟨hk, he⟩ := he
    simp only [Bool.and_eq_true] at hk
    obtain ⟨⟨hj, hzs⟩, hle⟩ := hk
    have hzs := Nat.eq_of_beq_eq_true hzs
    have hle := Nat.le_of_ble_eq_true hle
    cases hf : Instr.fill (fun k => some (k * i.size, i.size)) (zeros z.cells.toList len).toArray ps with
    | none => rw [hf] at he; cases he
    | some cs =>
      rw [hf] at he
      cases he
      refine ⟨cs.toList, e, rfl, ?_⟩
      intro φ ps' w hl hr
      have hparts : PartsRel φ ps ps' := ⟨hl, fun j a b ha hb => ⟨(hr j a b ha hb).1, (hr j a b ha hb).2, noJunk_ne (List.all_eq_true.1 hj a (List.mem_of_getElem? ha))⟩⟩
      obtain ⟨hz1, hz2⟩ := zero_sim hz w
      obtain ⟨r1, r2⟩ := zeros_rel (φ := φ) hz2 len (len * i.size) (by rw [hzs])
      obtain ⟨cs', f1, f2⟩ := fill_rel _ ps ps' _ (madeCells z.cells (len * i.size)) _ hparts ⟨by rw [r1]; simp, fun j x y hx hy => r2 j x y (by simpa using hx) hy⟩ hf
      have hsz : ∀ w, (sizeOf e).run P w = .ok i.size w := fun w => by simp [sizeOf, typeInfo, hi]
      have hnle : ¬ (16777216 < len * i.size) := by omega
      have hrun : (Instr.buildSlice t len ps'.toArray).run P w = .ok (.slice (some ⟨w.heap.size, 0, none⟩) len len) (w.alloc (.cells cs' e)) := by
        by_cases h0 : len * i.size = 0
        · have hm : madeCells z.cells (len * i.size) = #[] := by simp [madeCells, h0, Array.range_zero']
          rw [hm] at f1
          simp [Instr.buildSlice, run_underlying ht, hsz, h0, f1, newRow, Array.range_zero']
        · have hm : (Array.range (len * i.size)).map (fun x => z.cells[x % z.cells.size]!) = madeCells z.cells (len * i.size) := rfl
          simp only [Instr.buildSlice, Sem.run_bind, run_underlying ht, Result.andThen_ok, hsz]
          rw [if_neg (by omega)]
          simp [h0, hz1, hm, f1, newRow]
      refine ⟨cs', _, hrun, by simp [f2.1], fun j x y hx hy => f2.2 j x y (by simpa using hx) hy, ?_⟩
      intro ψ l h1 h2 h3
      exact vrel_sl0 len len h1 h2 h3
  · cases he

theorem cls_fresh {P : Program} {o : Oper} (hc : clsOf P o = .fresh) : (∃ t, o.op = .alloc t) ∨ (∃ t x, o.op = .box t x) ∨ ∃ t n ps, o.op = .buildSlice t n ps := by
  obtain ⟨dst, op, type, pos, after, guard⟩ := o
  cases op with
  | alloc t => exact .inl ⟨t, rfl⟩
  | box t x => exact .inr (.inl ⟨t, x, rfl⟩)
  | buildSlice t n ps => exact .inr (.inr ⟨t, n, ps, rfl⟩)
  | convert s d x =>
    simp only [clsOf] at hc
    cases hq : notSl (P.underlying d) with
    | true =>
      rw [hq, cond_true] at hc
      split at hc <;> cases hc
    | false => rw [hq] at hc; cases hc
  | call c =>
    obtain ⟨callee, args, ts⟩ := c
    cases callee with
    | builtin b => simp only [clsOf] at hc; split at hc <;> cases hc
    | _ => simp [clsOf] at hc
  | _ => simp [clsOf] at hc

theorem fresh_iop {P : Program} {o : Oper} {ρ : Operand → Value} {H H' : Heap} {r : Value} (hc : clsOf P o = .fresh) (he : iop P o ρ H = some (r, H')) : ∃ c e, H' = H.push (.cells c e false) ∧
    ∀ (φ : Inj) (ρ' : Operand → Value) (w : World), (∀ x, VRel φ (ρ x) (ρ' x)) → ∃ (c' : Array Value) (r' : Value), (execOp ρ' o).run P w = .ok (.value r') (w.alloc (.cells c' e)) ∧ c'.size = c.length ∧
      (∀ (j : Nat) x y, c[j]? = some x → c'[j]? = some y → VRel φ x y) ∧ ∀ (ψ : Inj) l, ψ H.n = some l → l.blk = w.heap.size → l.off = 0 → VRel ψ r r' := by
  rcases cls_fresh hc with ⟨t, ho⟩ | ⟨t, x, ho⟩ | ⟨t, n, ps, ho⟩
  · have he : iAlloc P t H = some (r, H') := by unfold iop at he; rw [ho] at he; exact he
    obtain ⟨c, h1, h2⟩ := alloc_fresh he
    refine ⟨c, t, h1, fun φ ρ' w hρ => ?_⟩
    obtain ⟨c', r', g1, g2⟩ := h2 φ w
    exact ⟨c', r', by simp [execOp, ho, g1], g2⟩
  · have he : iBox t (ρ x) H = some (r, H') := by unfold iop at he; rw [ho] at he; exact he
    obtain ⟨c, h1, h2⟩ := box_fresh (P := P) he
    refine ⟨c, t, h1, fun φ ρ' w hρ => ?_⟩
    obtain ⟨c', r', g1, g2⟩ := h2 φ (ρ' x) w (hρ x)
    exact ⟨c', r', by simp [execOp, ho, g1], g2⟩
  · have he : iBuildSlice P t n (ps.toList.map fun p => (p.1, ρ p.2)) H = some (r, H') := by unfold iop at he; rw [ho] at he; exact he
    obtain ⟨c, e, h1, h2⟩ := buildSlice_fresh he
    refine ⟨c, e, h1, fun φ ρ' w hρ => ?_⟩
    obtain ⟨p1, p2⟩ := parts_rel hρ ps
    obtain ⟨c', r', g1, g2⟩ := h2 φ _ w p1 p2
    refine ⟨c', r', ?_, g2⟩
    have e1 : (ps.toList.map fun p => (p.1, ρ' p.2)).toArray = ps.map fun (i, x) => (i, ρ' x) := by apply Array.ext'; simp
    rw [e1] at g1
    simp [execOp, ho, g1]

/-! ### registers along the one order -/
section
variable {P : Program} {G N : Nat} {call : CallF} {ops : Array Oper} {recs : List DRec} {t0 tf : Tr Value} {H0 Hf : Heap} {A : Tr Nat}

theorem putT_get {t t' : Tr Value} {dst : Option Tmp} {v : Value} (h : putT N t dst v = some t') (d : Nat) : (dst = some d → t'.get d = some v) ∧ (dst ≠ some d → t'.get d = t.get d) := by
  unfold putT at h
  cases dst with
  | none => cases h; exact ⟨fun e => (by cases e), fun _ => rfl⟩
  | some x =>
    obtain ⟨_, h⟩ := chk_some h
    cases h
    rw [Tr.get_set]
    constructor
    · intro e; cases e; rw [if_pos rfl]
    · intro e; rw [if_neg (fun e' => e (by rw [e']))]

theorem Canon.one (hc : Canon P G N call ops recs t0 H0 tf Hf) {k : Nat} {r : DRec} (h : recs[k]? = some r) {d : Nat} (hd : r.o.dst ≠ some d) : (stT recs tf (k + 1)).get d = (stT recs tf k).get d := by
  obtain ⟨_, _, _, h1, h2⟩ := hc.at' k r h
  rw [stT_some h]
  cases hw : r.wd with
  | true => obtain ⟨v, _, hp⟩ := h1 hw; exact (putT_get hp d).2 hd
  | false => exact (putT_get (h2 hw).1 d).2 hd

theorem Canon.keep (hc : Canon P G N call ops recs t0 H0 tf Hf) {d : Nat} : ∀ (m : Nat), m ≤ recs.length → (∀ (k : Nat) (r : DRec), k < m → recs[k]? = some r → r.o.dst ≠ some d) → (stT recs tf m).get d = t0.get d := by
  intro m
  induction m with
  | zero => intro _ _; rw [hc.t0]
  | succ m ih =>
    intro hm h
    have hr : recs[m]? = some recs[m] := List.getElem?_eq_getElem (by omega)
    rw [hc.one hr (h m _ (by omega) hr)]
    exact ih (by omega) (fun k r hk => h k r (by omega))

theorem Canon.val (hc : Canon P G N call ops recs t0 H0 tf Hf) (hs : Stat P ops A recs) {d k : Nat} {r : DRec} (hr : recs[k]? = some r) (hd : r.o.dst = some d) : ∀ (m : Nat), k < m → m ≤ recs.length → (stT recs tf m).get d = (stT recs tf (k + 1)).get d := by
  intro m
  induction m with
  | zero => intro h; omega
  | succ m ih =>
    intro hk hm
    rcases Nat.lt_or_ge k m with h | h
    · have hr' : recs[m]? = some recs[m] := List.getElem?_eq_getElem (by omega)
      rw [hc.one hr' (hs.dst k m r _ h hr hr' d hd)]
      exact ih h (by omega)
    · have : k = m := by omega
      rw [this]

theorem Canon.mono (hc : Canon P G N call ops recs t0 H0 tf Hf) {p : Nat} : ∀ (q : Nat), p ≤ q → q ≤ recs.length → (stH recs Hf p).n ≤ (stH recs Hf q).n := by
  intro q
  induction q with
  | zero => intro h _; rw [Nat.le_zero.1 h]; exact Nat.le_refl _
  | succ q ih =>
    intro h hq
    rcases Nat.lt_or_ge p (q + 1) with h' | h'
    · have hr : recs[q]? = some recs[q] := List.getElem?_eq_getElem (by omega)
      have h1 := (hc.at' q _ hr).2.2.1
      have h2 := ih (by omega) (by omega)
      rw [stH_some hr] at h2
      omega
    · rw [show p = q + 1 from by omega]; exact Nat.le_refl _
end
end Go.Ideal

/- The ideal machine: regions whose order is drawn: the theorem. -/
namespace Go.Ideal
open Go

theorem HRel.widen {P : Program} {φ : Inj} {H H' : Heap} {hp : Array Obj} (h : HRel P φ H hp) (hn : H.n ≤ H'.n) (hg : ∀ i, i < H.n → H'.get i = H.get i) : HRel P φ H' hp := by
  refine ⟨?_, fun i l hi => Nat.lt_of_lt_of_le (h.dom i l hi) hn, h.low, ?_⟩
  · intro i l o hi ho
    rw [hg i (h.dom i l hi)] at ho
    exact h.obj i l o hi ho
  · intro i j l m hi hj hne hw hl
    rw [hg i (h.dom i l hi)] at hw
    rw [hg j (h.dom j m hj)] at hl
    exact h.inj i j l m hi hj hne hw hl

theorem Ext.widen {φ φ' : Inj} {H0 H H' : Heap} {w0 w : World} (h : Ext φ H0 w0 φ' H w) (hn : H.n ≤ H'.n) (hg : ∀ i, i < H.n → H'.get i = H.get i) : Ext φ H0 w0 φ' H' w := by
  refine ⟨h.le, Nat.le_trans h.n hn, ?_, h.new, h.os, h.tape, h.output, h.size, h.frame⟩
  intro i hi hw
  rw [hg i (Nat.lt_of_lt_of_le hi h.n)] at hw
  exact h.wr i hi hw

theorem HRel.late {P : Program} {φ : Inj} {H : Heap} {w : World} (h : HRel P φ H w.heap) {n : Nat} {c : List Value} {e : TypeId} {c' : Array Value} (hn : φ n = none) (hlt : n < H.n) (hg : H.get n = some (.cells c e false))
    (hsz : c'.size = c.length) (hc : ∀ (j : Nat) x y, c[j]? = some x → c'[j]? = some y → VRel φ x y) : HRel P (φ.put n ⟨w.heap.size, 0, c'.size, esz P e⟩) H (w.alloc (.cells c' e)).heap := by
  have hle : φ.le (φ.put n ⟨w.heap.size, 0, c'.size, esz P e⟩) := Inj.put_le hn
  have hold : ∀ b, b < w.heap.size → (w.alloc (.cells c' e)).heap[b]? = w.heap[b]? := fun b hb => by
    show (w.heap.push _)[b]? = _
    rw [Array.getElem?_push, if_neg (by omega)]
  have hs : (w.alloc (.cells c' e)).heap.size = w.heap.size + 1 := by simp
  refine ⟨?_, ?_, ?_, ?_⟩
  · intro i l o hi ho
    unfold Inj.put at hi
    split at hi
    · rename_i e1
      cases hi
      rw [e1, hg] at ho
      cases ho
      refine ⟨c', 0, 0, by show (w.heap.push _)[w.heap.size]? = _; simp, rfl, esz_eq P e, by simp; omega, ?_, fun _ k _ _ => by omega, fun _ => rfl⟩
      intro k x y hx hy
      exact (hc k x y hx (by simpa using hy)).mono hle
    · exact (h.obj i l o hi ho).mono hle (hold _ (h.low i l hi))
  · intro i l hi
    unfold Inj.put at hi
    split at hi
    · rename_i e1; rw [e1]; exact hlt
    · exact h.dom i l hi
  · intro i l hi
    unfold Inj.put at hi
    split at hi
    · cases hi; rw [hs]; exact Nat.lt_succ_self _
    · have := h.low i l hi; omega
  · intro i j l m hi hj hne hw hl
    unfold Inj.put at hi hj
    split at hi
    · split at hj
      · omega
      · cases hi
        have := h.low j m hj
        show w.heap.size ≠ m.blk
        omega
    · split at hj
      · cases hj
        have := h.low i l hi
        show l.blk ≠ w.heap.size
        omega
      · exact h.inj i j l m hi hj hne hw hl

theorem Ext.late {φ φ' : Inj} {H0 H : Heap} {w0 w : World} (h : Ext φ H0 w0 φ' H w) {n : Nat} {l : Loc} (ob : Obj) (hn : φ' n = none) (hlt : H0.n ≤ n) (hl : l.blk = w.heap.size) : Ext φ H0 w0 (φ'.put n l) H (w.alloc ob) := by
  have hle : φ'.le (φ'.put n l) := Inj.put_le hn
  have hs : (w.alloc ob).heap.size = w.heap.size + 1 := by simp
  refine ⟨h.le.trans hle, h.n, h.wr, ?_, h.os, h.tape, h.output, by have := h.size; omega, ?_⟩
  · intro i m hi h0
    unfold Inj.put at hi
    split at hi
    · rename_i e
      cases hi
      rw [e]
      exact ⟨hlt, .inl (by rw [hl]; exact h.size)⟩
    · exact h.new i m hi h0
  · intro b hb hf
    have : (w.alloc ob).heap[b]? = w.heap[b]? := by
      show (w.heap.push _)[b]? = _
      rw [Array.getElem?_push, if_neg (by have := h.size; omega)]
    rw [this]
    exact h.frame b hb hf

theorem State.widen {P : Program} {G N : Nat} {φ : Inj} {t : Tr Value} {H H' : Heap} {a : Act} {w : World} (h : State P G N φ t H a w) (hn : H.n ≤ H'.n) (hg : ∀ i, i < H.n → H'.get i = H.get i) : State P G N φ t H' a w :=
  ⟨h.size, h.defers, h.tmps, h.heap.widen hn hg, h.glob⟩

theorem State.regs {P : Program} {G N : Nat} {φ : Inj} {t t' : Tr Value} {H : Heap} {a : Act} {w : World} (h : State P G N φ t H a w) (ht : ∀ i, t'.get i = t.get i) : State P G N φ t' H a w :=
  ⟨h.size, h.defers, fun i => by rw [ht]; exact h.tmps i, h.heap, h.glob⟩

section
variable {P : Program} {G N : Nat} {call : CallF} {ops : Array Oper} {recs : List DRec} {t0 tf : Tr Value} {H0 Hf : Heap} {A : Tr Nat}

theorem fresh_step {o : Oper} {t : Tr Value} {H H' : Heap} {r : Value} (hc : clsOf P o = .fresh) (h : stepOp P G call o t H = some (r, H')) : iop P o (ev G t) H = some (r, H') := by
  unfold stepOp at h
  split at h
  · rename_i ho; unfold clsOf at hc; rw [ho] at hc; cases hc
  · rename_i ho; unfold clsOf at hc; rw [ho] at hc; cases hc
  · exact h

/-- Between two calls the one order's memory only grows. -/
theorem Canon.quiet (hc : Canon P G N call ops recs t0 H0 tf Hf) {p : Nat} : ∀ (q : Nat), p ≤ q → q ≤ recs.length → (∀ k r, p ≤ k → k < q → recs[k]? = some r → isBig P r.o = false) →
    ∀ i, i < (stH recs Hf p).n → (stH recs Hf q).get i = (stH recs Hf p).get i := by
  intro q
  induction q with
  | zero => intro h _ _ i _; rw [Nat.le_zero.1 h]
  | succ q ih =>
    intro h hq hb i hi
    rcases Nat.lt_or_ge p (q + 1) with h' | h'
    · have hr : recs[q]? = some recs[q] := List.getElem?_eq_getElem (by omega)
      have h2 := ih (by omega) (by omega) (fun k r hk hk' => hb k r hk (by omega)) i hi
      rw [← h2]
      have hn := hc.mono (p := p) q (by omega) (by omega)
      obtain ⟨_, _, _, g1, g2⟩ := hc.at' q _ hr
      rw [stH_some hr] at h2 hn ⊢
      cases hw : (recs[q]).wd with
      | false => rw [(g2 hw).2]
      | true =>
        obtain ⟨v, hv, _⟩ := g1 hw
        have hnb := hb q _ (by omega) (by omega) hr
        cases hcl : clsOf P (recs[q]).o with
        | still => rw [still_step hcl hv]
        | fresh =>
          obtain ⟨c, e, he, _⟩ := fresh_iop hcl (fresh_step hcl hv)
          rw [he, Heap.get_push, if_neg (by omega)]
        | big => unfold isBig at hnb; rw [hcl] at hnb; cases hnb
    · rw [show p = q + 1 from by omega]

/-- Where only operations that are still lie between, nothing turns. -/
theorem Canon.calm (hc : Canon P G N call ops recs t0 H0 tf Hf) {p : Nat} : ∀ (q : Nat), p ≤ q → q ≤ recs.length → (∀ k r, p ≤ k → k < q → recs[k]? = some r → clsOf P r.o = .still) → stH recs Hf q = stH recs Hf p := by
  intro q
  induction q with
  | zero => intro h _ _; rw [Nat.le_zero.1 h]
  | succ q ih =>
    intro h hq hb
    rcases Nat.lt_or_ge p (q + 1) with h' | h'
    · have hr : recs[q]? = some recs[q] := List.getElem?_eq_getElem (by omega)
      rw [← ih (by omega) (by omega) (fun k r hk hk' => hb k r hk (by omega))]
      obtain ⟨_, _, _, g1, g2⟩ := hc.at' q _ hr
      rw [stH_some hr]
      cases hw : (recs[q]).wd with
      | false => exact (g2 hw).2
      | true =>
        obtain ⟨v, hv, _⟩ := g1 hw
        exact still_step (hb q _ (by omega) (by omega) hr) hv
    · rw [show p = q + 1 from by omega]

/-- What 'scan' looks at: each memory at which the operation may come. -/
theorem scan_spec {fd : Bool} {j : Nat} {test : Heap → Bool} : ∀ (l : List DRec) (dirty : Bool), scan P A fd j test Hf l dirty = true → ∀ m, m ≤ l.length → (∀ r, l[m]? = some r → isBig P r.o = true) →
    (∀ k r, k < m → l[k]? = some r → isBig P r.o = true → anc A j r.j = false) →
    test (stH l Hf m) = true ∨ (dirty = false ∧ ∀ k r, k < m → l[k]? = some r → clsOf P r.o = .still ∨ (fd = false ∧ clsOf P r.o = .fresh)) := by
  intro l
  induction l with
  | nil =>
    intro dirty h m hm _ _
    have hm0 : m = 0 := by simpa using hm
    subst hm0
    cases dirty with
    | false => exact .inr ⟨rfl, fun k r hk => by omega⟩
    | true => left; show test Hf = true; simpa [scan] using h
  | cons s rest ih =>
    intro dirty h m hm hb ha
    cases m with
    | zero =>
      have hbs := hb s (by simp)
      unfold isBig at hbs
      split at hbs
      · rename_i hcl
        simp only [scan, hcl, Bool.and_eq_true] at h
        cases dirty with
        | false => exact .inr ⟨rfl, fun k r hk => by omega⟩
        | true => left; simpa [stH] using h.1
      · cases hbs
    | succ m =>
      have hst : stH (s :: rest) Hf (m + 1) = stH rest Hf m := by unfold stH; simp
      rw [hst]
      have hb' : ∀ r, rest[m]? = some r → isBig P r.o = true := fun r hr => hb r (by simpa using hr)
      have ha' : ∀ k r, k < m → rest[k]? = some r → isBig P r.o = true → anc A j r.j = false := fun k r hk hr => ha (k + 1) r (by omega) (by simpa using hr)
      have hm' : m ≤ rest.length := by simpa using hm
      cases hcl : clsOf P s.o with
      | big =>
        simp only [scan, hcl, Bool.and_eq_true, Bool.or_eq_true] at h
        have hna := ha 0 s (by omega) (by simp) (by unfold isBig; rw [hcl])
        rcases h.2 with h2 | h2
        · rw [hna] at h2; cases h2
        · rcases ih true h2 m hm' hb' ha' with h3 | ⟨h3, _⟩
          · exact .inl h3
          · cases h3
      | fresh =>
        simp only [scan, hcl] at h
        rcases ih _ h m hm' hb' ha' with h3 | ⟨h3, h4⟩
        · exact .inl h3
        · rw [Bool.or_eq_false_iff] at h3
          refine .inr ⟨h3.1, ?_⟩
          intro k r hk hr
          cases k with
          | zero => simp at hr; subst hr; exact .inr ⟨h3.2, hcl⟩
          | succ k => exact h4 k r (by omega) (by simpa using hr)
      | still =>
        simp only [scan, hcl] at h
        rcases ih _ h m hm' hb' ha' with h3 | ⟨h3, h4⟩
        · exact .inl h3
        · refine .inr ⟨h3, ?_⟩
          intro k r hk hr
          cases k with
          | zero => simp at hr; subst hr; exact .inl hcl
          | succ k => exact h4 k r (by omega) (by simpa using hr)

theorem dyn_spec : ∀ (l : List DRec), dynFrom P G call A Hf l = true → ∀ k r, l[k]? = some r → r.wd = true →
    (clsOf P r.o = .still → scan P A true r.j (stillTest P G call r) Hf (l.drop (k + 1)) false = true) ∧ (clsOf P r.o = .fresh → scan P A false r.j (freshTest P G call r) Hf (l.drop (k + 1)) false = true) := by
  intro l
  induction l with
  | nil => intro _ k r h; simp at h
  | cons s rest ih =>
    intro h k r hk hw
    simp only [dynFrom, Bool.and_eq_true] at h
    cases k with
    | zero =>
      simp at hk
      subst hk
      have h1 := h.1
      rw [hw, cond_true] at h1
      simp only [Nat.zero_add, List.drop_succ_cons, List.drop_zero]
      constructor
      · intro hc; rw [hc] at h1; exact h1
      · intro hc; rw [hc] at h1; exact h1
    | succ k =>
      have := ih h.2 k r (by simpa using hk) hw
      simpa using this

theorem stH_drop (k m : Nat) : stH (recs.drop k) Hf m = stH recs Hf (k + m) := by
  unfold stH
  rw [List.getElem?_drop]

/-- What stands while the operations come in some order: 'listed' have come. -/
structure DInv (P : Program) (G N : Nat) (ops : Array Oper) (recs : List DRec) (t0 tf : Tr Value) (H0 Hf : Heap) (φ0 : Inj) (w0 : World) (listed : Array Bool) (a : Act) (w : World) (φ : Inj) (t : Tr Value) (m : Nat) : Prop where
  size : listed.size = ops.size
  closed : Closed recs listed
  le : m ≤ recs.length
  front : ∀ (r : DRec), recs[m]? = some r → isBig P r.o = true ∧ listed.getD r.j false = false
  below : ∀ (k : Nat) (r : DRec), k < m → recs[k]? = some r → isBig P r.o = true → listed.getD r.j false = true
  val : ∀ (k : Nat) (r : DRec), recs[k]? = some r → listed.getD r.j false = true → ∀ d, r.o.dst = some d → t.get d = (stT recs tf (k + 1)).get d
  old : ∀ d, (∀ (k : Nat) (r : DRec), recs[k]? = some r → listed.getD r.j false = true → r.o.dst ≠ some d) → t.get d = t0.get d
  st : State P G N φ t (stH recs Hf m) a w
  ext : Ext φ0 H0 w0 φ (stH recs Hf m) w
  un : ∀ (k : Nat) (r : DRec), recs[k]? = some r → listed.getD r.j false = false → r.wd = true → clsOf P r.o = .fresh → φ r.H.n = none

theorem getD_set_self {b : Array Bool} {i : Nat} (h : i < b.size) : (b.setIfInBounds i true).getD i false = true := by
  simp [Array.getD, h]
theorem getD_set_other {b : Array Bool} {i j : Nat} (h : i ≠ j) : (b.setIfInBounds i true).getD j false = b.getD j false := by
  simp only [Array.getD_eq_getD_getElem?]
  rw [Array.getElem?_setIfInBounds_ne h]

/-- The next front, behind an operation. -/
theorem next_front (f : Nat → Bool) (n : Nat) : ∀ p, p ≤ n → ∃ m, p ≤ m ∧ m ≤ n ∧ (m < n → f m = true) ∧ ∀ k, p ≤ k → k < m → f k = false := by
  intro p hp
  induction hd : n - p generalizing p with
  | zero => exact ⟨p, Nat.le_refl _, hp, fun h => by omega, fun k h1 h2 => by omega⟩
  | succ d ih =>
    cases hf : f p with
    | true => exact ⟨p, Nat.le_refl _, hp, fun _ => hf, fun k h1 h2 => by omega⟩
    | false =>
      obtain ⟨m, h1, h2, h3, h4⟩ := ih (p + 1) (by omega) (by omega)
      refine ⟨m, by omega, h2, h3, fun k hk1 hk2 => ?_⟩
      rcases Nat.lt_or_ge p k with h | h
      · exact h4 k (by omega) hk2
      · rw [show k = p from by omega]; exact hf

theorem inv_step (hcall : Good P G call) (hc : Canon P G N call ops recs t0 H0 tf Hf) (hs : Stat P ops A recs) (hd : dynFrom P G call A Hf recs = true) {φ0 : Inj} {w0 : World} (hdom : ∀ i l, φ0 i = some l → i < H0.n)
    {listed : Array Bool} {a : Act} {w : World} {φ : Inj} {t : Tr Value} {m : Nat} (hi : DInv P G N ops recs t0 tf H0 Hf φ0 w0 listed a w φ t m) {l : Nat} {y : DRec} (hy : recs[l]? = some y) (hlt : y.j < ops.size) (hun : listed.getD y.j false = false)
    (haf : ∀ e ∈ y.o.after.toList, Region.binds .any e = true → listed.getD e.on false = true) {Q : Exit → Act → World → Prop} {K : Act → World → Prop}
    (hK : ∀ (a' : Act) (w' : World) (φ' : Inj) (t' : Tr Value) (m' : Nat), DInv P G N ops recs t0 tf H0 Hf φ0 w0 (listed.setIfInBounds y.j true) a' w' φ' t' m' → K a' w') : wpOp P ops Q y.j K a w := by
  obtain ⟨ho, hwt, hnn, hrun, hskip⟩ := hc.at' l y hy
  have hll : l < recs.length := by
    rcases Nat.lt_or_ge l recs.length with h | h
    · exact h
    · rw [List.getElem?_eq_none h] at hy; cases hy
  have hanc : ∀ i, anc A i y.j = true → listed.getD i false = true := anc_in hs hi.closed l y hy haf
  -- nobody that is listed has y ahead of it
  have hnot : ∀ (k : Nat) (r : DRec), recs[k]? = some r → listed.getD r.j false = true → anc A y.j r.j = false := by
    intro k r hr hl
    cases hb : anc A y.j r.j with
    | false => rfl
    | true =>
      have := anc_in hs hi.closed k r hr (hi.closed k r hr hl) y.j hb
      rw [hun] at this; cases this
  -- its operands
  have hops : ∀ d ∈ lk ops y.o, t.get d = y.t.get d := by
    intro d hdl
    have hyT : (stT recs tf l) = y.t := stT_some hy
    by_cases hex : ∃ (k : Nat) (r : DRec), recs[k]? = some r ∧ listed.getD r.j false = true ∧ r.o.dst = some d
    · obtain ⟨k, r, hr, hl, hdst⟩ := hex
      rw [hi.val k r hr hl d hdst]
      rcases Nat.lt_trichotomy k l with h | h | h
      · rw [← hc.val hs hr hdst l h (by omega), hyT]
      · subst h
        rw [hy] at hr; cases hr
        rw [hun] at hl; cases hl
      · rcases hs.free l k y r h hy hr with h1 | ⟨h1, _⟩
        · rw [hnot k r hr hl] at h1; cases h1
        · exact absurd hdl ((clash_no h1).2 d hdst)
    · have hno : ∀ (k : Nat) (r : DRec), recs[k]? = some r → listed.getD r.j false = true → r.o.dst ≠ some d := fun k r hr hl hdst => hex ⟨k, r, hr, hl, hdst⟩
      rw [hi.old d hno, ← hyT]
      symm
      refine hc.keep l (by omega) ?_
      intro k r hk hr hdst
      rcases hs.free k l r y hk hr hy with h1 | ⟨h1, _⟩
      · exact hno k r hr (hanc r.j h1) hdst
      · exact absurd hdl ((clash_no h1).1 d hdst)
  -- what is listed behind it
  have hnl : (listed.setIfInBounds y.j true).size = ops.size := by simp [hi.size]
  have hself : (listed.setIfInBounds y.j true).getD y.j false = true := getD_set_self (by rw [hi.size]; exact hlt)
  have hother : ∀ (k : Nat) (r : DRec), recs[k]? = some r → k ≠ l → (listed.setIfInBounds y.j true).getD r.j false = listed.getD r.j false := by
    intro k r hr hk
    refine getD_set_other ?_
    rcases Nat.lt_or_ge k l with h | h
    · exact fun e => hs.ne k l r y h hr hy e.symm
    · exact hs.ne l k y r (by omega) hy hr
  have hmono : ∀ i, listed.getD i false = true → (listed.setIfInBounds y.j true).getD i false = true := by
    intro i h
    by_cases e : y.j = i
    · rw [← e]; exact hself
    · rw [getD_set_other e]; exact h
  have hclosed : Closed recs (listed.setIfInBounds y.j true) := by
    intro k r hr hl e he hb
    by_cases hk : k = l
    · subst hk
      rw [hy] at hr; cases hr
      exact hmono _ (haf e he hb)
    · rw [hother k r hr hk] at hl
      exact hmono _ (hi.closed k r hr hl e he hb)
  -- all calls ahead of it have come
  have hbl : ∀ (k : Nat) (r : DRec), k < l → recs[k]? = some r → isBig P r.o = true → listed.getD r.j false = true := by
    intro k r hk hr hb
    rcases hs.free k l r y hk hr hy with h1 | ⟨_, h1⟩
    · exact hanc r.j h1
    · rw [hb] at h1; cases h1
  have hml : l ≤ m := by
    rcases Nat.lt_or_ge m l with h | h
    · have hr : recs[m]? = some recs[m] := List.getElem?_eq_getElem (by omega)
      obtain ⟨h1, h2⟩ := hi.front _ hr
      rw [hbl m _ h hr h1] at h2; cases h2
    · exact h
  -- registers behind it
  have hregs : ∀ {t' : Tr Value} {v : Value}, putT N y.t y.o.dst v = some (stT recs tf (l + 1)) → putT N t y.o.dst v = some t' →
      (∀ (k : Nat) (r : DRec), recs[k]? = some r → (listed.setIfInBounds y.j true).getD r.j false = true → ∀ d, r.o.dst = some d → t'.get d = (stT recs tf (k + 1)).get d) ∧
      (∀ d, (∀ (k : Nat) (r : DRec), recs[k]? = some r → (listed.setIfInBounds y.j true).getD r.j false = true → r.o.dst ≠ some d) → t'.get d = t0.get d) := by
    intro t' v h1 h2
    constructor
    · intro k r hr hl d hdst
      by_cases hk : k = l
      · subst hk
        rw [hy] at hr; cases hr
        rw [(putT_get h1 d).1 hdst, (putT_get h2 d).1 hdst]
      · rw [hother k r hr hk] at hl
        have hne : y.o.dst ≠ some d := by
          rcases Nat.lt_or_ge k l with h | h
          · exact hs.dst k l r y h hr hy d hdst
          · exact fun e => hs.dst l k y r (by omega) hy hr d e hdst
        rw [(putT_get h2 d).2 hne]
        exact hi.val k r hr hl d hdst
    · intro d hno
      rw [(putT_get h2 d).2 (hno l y hy hself)]
      refine hi.old d (fun k r hr hl => hno k r hr (hmono _ hl))
  have hput : ∀ {v : Value} {s : Tr Value}, putT N y.t y.o.dst v = some s → ∃ t', putT N t y.o.dst v = some t' := by
    intro v s h
    unfold putT at h ⊢
    cases hdd : y.o.dst with
    | none => exact ⟨t, rfl⟩
    | some d =>
      rw [hdd] at h
      obtain ⟨hb, _⟩ := chk_some h
      exact ⟨t.set d v, by simp only [hb, chk, cond_true]⟩
  have hwant : iwant ops y.o t = some y.wd := by rw [iwant_congr hops]; exact hwt
  have hw := iwant_sim hi.st hwant
  have hunK : ∀ {φ' : Inj}, (∀ (k : Nat) (r : DRec), recs[k]? = some r → k ≠ l → listed.getD r.j false = false → r.wd = true → clsOf P r.o = .fresh → φ' r.H.n = none) →
      ∀ (k : Nat) (r : DRec), recs[k]? = some r → (listed.setIfInBounds y.j true).getD r.j false = false → r.wd = true → clsOf P r.o = .fresh → φ' r.H.n = none := by
    intro φ' h k r hr hl hw' hcl
    by_cases hk : k = l
    · subst hk
      rw [hy] at hr; cases hr
      rw [hself] at hl; cases hl
    · rw [hother k r hr hk] at hl
      exact h k r hr hk hl hw' hcl
  -- where it is no call: the front stays
  have hfrontStay : isBig P y.o = false → (∀ (r : DRec), recs[m]? = some r → isBig P r.o = true ∧ (listed.setIfInBounds y.j true).getD r.j false = false) ∧ (∀ (k : Nat) (r : DRec), k < m → recs[k]? = some r → isBig P r.o = true → (listed.setIfInBounds y.j true).getD r.j false = true) ∧ l < m := by
    intro hnb
    have hne : m ≠ l := by
      intro e
      subst e
      have := (hi.front y hy).1
      rw [hnb] at this; cases this
    refine ⟨?_, fun k r hk hr hb => hmono _ (hi.below k r hk hr hb), by omega⟩
    intro r hr
    obtain ⟨h1, h2⟩ := hi.front r hr
    exact ⟨h1, by rw [hother m r hr hne]; exact h2⟩
  -- where it is a call: it is the front, and the front goes on
  have hfrontGo : isBig P y.o = true → m = l ∧ ∃ m', l + 1 ≤ m' ∧ m' ≤ recs.length ∧ (∀ (r : DRec), recs[m']? = some r → isBig P r.o = true ∧ (listed.setIfInBounds y.j true).getD r.j false = false) ∧
      (∀ (k : Nat) (r : DRec), k < m' → recs[k]? = some r → isBig P r.o = true → (listed.setIfInBounds y.j true).getD r.j false = true) ∧ (∀ (k : Nat) (r : DRec), l + 1 ≤ k → k < m' → recs[k]? = some r → isBig P r.o = false) := by
    intro hb
    have e : m = l := by
      rcases Nat.lt_or_ge l m with h | h
      · have := hi.below l y h hy hb
        rw [hun] at this; cases this
      · omega
    refine ⟨e, ?_⟩
    obtain ⟨m', h1, h2, h3, h4⟩ := next_front (fun k => match recs[k]? with | some r => isBig P r.o | none => false) recs.length (l + 1) (by omega)
    have hq : ∀ (k : Nat) (r : DRec), l + 1 ≤ k → k < m' → recs[k]? = some r → isBig P r.o = false := by
      intro k r hk1 hk2 hr
      have := h4 k hk1 hk2
      simp only [hr] at this
      exact this
    refine ⟨m', h1, h2, ?_, ?_, hq⟩
    · intro r hr
      have hlt' : m' < recs.length := by
        rcases Nat.lt_or_ge m' recs.length with h | h
        · exact h
        · rw [List.getElem?_eq_none h] at hr; cases hr
      have hbr := h3 hlt'
      simp only [hr] at hbr
      refine ⟨hbr, ?_⟩
      rw [hother m' r hr (by omega)]
      cases hl : listed.getD r.j false with
      | false => rfl
      | true =>
        rcases hs.free l m' y r (by omega) hy hr with h5 | ⟨_, h5⟩
        · rw [hnot m' r hr hl] at h5; cases h5
        · rw [hb] at h5; cases h5
    · intro k r hk hr hbk
      rcases Nat.lt_trichotomy k l with h | h | h
      · exact hmono _ (hbl k r h hr hbk)
      · subst h; rw [hy] at hr; cases hr; exact hself
      · have := hq k r (by omega) hk hr
        rw [hbk] at this; cases this
  unfold wpOp
  rw [ho]
  simp only
  cases hwd : y.wd with
  | false =>
    rw [hwd] at hw
    rw [if_neg (by rw [hw]; decide)]
    obtain ⟨hp, hH⟩ := hskip hwd
    obtain ⟨t', ht'⟩ := hput hp
    obtain ⟨r1, r2⟩ := hregs hp ht'
    have hst := putT_sim hi.st ht' (VRel.undef φ) hi.st.heap (Ext.refl ..)
    cases hb : isBig P y.o with
    | false =>
      obtain ⟨f1, f2, f3⟩ := hfrontStay hb
      exact hK _ _ φ t' m ⟨hnl, hclosed, hi.le, f1, f2, r1, r2, hst, hi.ext, hunK (fun k r hr _ hl => hi.un k r hr hl)⟩
    | true =>
      obtain ⟨e, m', h1, h2, f1, f2, f3⟩ := hfrontGo hb
      subst e
      have hq := hc.quiet m' h1 h2 f3
      have hn := hc.mono m' h1 h2
      rw [hH] at hq hn
      rw [← stH_some (Hf := Hf) hy] at hq hn
      exact hK _ _ φ t' m' ⟨hnl, hclosed, h2, f1, f2, r1, r2, hst.widen hn hq, hi.ext.widen hn hq, hunK (fun k r hr _ hl => hi.un k r hr hl)⟩
  | true =>
    rw [hwd] at hw
    rw [if_pos hw]
    left
    obtain ⟨v, hv, hp⟩ := hrun hwd
    obtain ⟨t', ht'⟩ := hput hp
    obtain ⟨r1, r2⟩ := hregs hp ht'
    cases hcl : clsOf P y.o with
    | big =>
      have hb : isBig P y.o = true := by unfold isBig; rw [hcl]
      obtain ⟨e, m', h1, h2, f1, f2, f3⟩ := hfrontGo hb
      subst e
      have hq := hc.quiet m' h1 h2 f3
      have hn := hc.mono m' h1 h2
      have hv' : stepOp P G call y.o t (stH recs Hf m) = some (v, stH recs Hf (m + 1)) := by rw [stepOp_congr hops, stH_some hy]; exact hv
      refine stepOp_sim hcall hi.st hv' ?_
      intro φ' r' w' g1 g2 g3
      have hst := putT_sim hi.st ht' g1 g2 g3
      refine hK _ _ φ' t' m' ⟨hnl, hclosed, h2, f1, f2, r1, r2, hst.widen hn hq, (hi.ext.trans hdom g3).widen hn hq, hunK ?_⟩
      intro k r hr hk hl hw' hclr
      have hold := hi.un k r hr hl hw' hclr
      cases hφ : φ' r.H.n with
      | none => rfl
      | some loc =>
        have h5 := (g3.new _ _ hφ hold).1
        have h6 := g2.dom _ _ hφ
        have hkl : k < recs.length := by
          rcases Nat.lt_or_ge k recs.length with h | h
          · exact h
          · rw [List.getElem?_eq_none h] at hr; cases hr
        rcases Nat.lt_or_ge k m with h | h
        · have h7 := hc.mono (p := k + 1) m (by omega) (by omega)
          obtain ⟨_, _, _, q1, _⟩ := hc.at' k r hr
          obtain ⟨v', hv', _⟩ := q1 hw'
          obtain ⟨c, e, he, _⟩ := fresh_iop hclr (fresh_step hclr hv')
          rw [he] at h7
          have : (r.H.push (IObj.cells c e false)).n = r.H.n + 1 := rfl
          omega
        · have h7 := hc.mono (p := m + 1) k (by omega) (by omega)
          rw [stH_some hr] at h7
          omega
    | still =>
      have hb : isBig P y.o = false := by unfold isBig; rw [hcl]
      obtain ⟨f1, f2, f3⟩ := hfrontStay hb
      have hHe : stH recs Hf (l + 1) = y.H := still_step hcl hv
      have hsc := (dyn_spec recs hd l y hy hwd).1 hcl
      have hspec := scan_spec (P := P) (A := A) (Hf := Hf) (recs.drop (l + 1)) false hsc (m - (l + 1)) (by rw [List.length_drop]; have := hi.le; omega)
        (fun r hr => by rw [List.getElem?_drop, show l + 1 + (m - (l + 1)) = m from by omega] at hr; exact (hi.front r hr).1)
        (fun k r hk hr hbk => by
          rw [List.getElem?_drop] at hr
          exact hnot _ r hr (hi.below _ r (by omega) hr hbk))
      rw [stH_drop, show l + 1 + (m - (l + 1)) = m from by omega] at hspec
      have hv' : ∃ H2, stepOp P G call y.o t (stH recs Hf m) = some (v, H2) := by
        rw [stepOp_congr hops]
        rcases hspec with h5 | ⟨_, h5⟩
        · unfold stillTest at h5
          rcases Bool.or_eq_true _ _ ▸ h5 with h5 | h5
          · exact ⟨_, quiet_step h5 hv _⟩
          rw [hv] at h5
          split at h5
          · rename_i u v1 H1 v2 H2 e1 e2
            cases e1
            rw [e2]
            exact ⟨H2, by rw [veq_eq 3 _ _ h5]⟩
          · cases h5
        · have : stH recs Hf m = stH recs Hf (l + 1) := hc.calm m (by omega) hi.le (fun k r hk1 hk2 hr => by
            rcases h5 (k - (l + 1)) r (by omega) (by rw [List.getElem?_drop, show l + 1 + (k - (l + 1)) = k from by omega]; exact hr) with h6 | ⟨h6, _⟩
            · exact h6
            · cases h6)
          rw [this, hHe]
          exact ⟨_, hv⟩
      obtain ⟨H2, hv'⟩ := hv'
      have hH2 := still_step hcl hv'
      rw [hH2] at hv'
      refine stepOp_sim hcall hi.st hv' ?_
      intro φ' r' w' g1 g2 g3
      have hst := putT_sim hi.st ht' g1 g2 g3
      refine hK _ _ φ' t' m ⟨hnl, hclosed, hi.le, f1, f2, r1, r2, hst, hi.ext.trans hdom g3, hunK ?_⟩
      intro k r hr hk hl hw' hclr
      have hold := hi.un k r hr hl hw' hclr
      cases hφ : φ' r.H.n with
      | none => rfl
      | some loc =>
        have h5 := (g3.new _ _ hφ hold).1
        have h6 := g2.dom _ _ hφ
        omega
    | fresh =>
      have hb : isBig P y.o = false := by unfold isBig; rw [hcl]
      obtain ⟨f1, f2, f3⟩ := hfrontStay hb
      have hvt : stepOp P G call y.o t y.H = some (v, stH recs Hf (l + 1)) := by rw [stepOp_congr hops]; exact hv
      obtain ⟨c, e, he, hsim⟩ := fresh_iop hcl (fresh_step hcl hvt)
      have hsc := (dyn_spec recs hd l y hy hwd).2 hcl
      have hspec := scan_spec (P := P) (A := A) (Hf := Hf) (recs.drop (l + 1)) false hsc (m - (l + 1)) (by rw [List.length_drop]; have := hi.le; omega)
        (fun r hr => by rw [List.getElem?_drop, show l + 1 + (m - (l + 1)) = m from by omega] at hr; exact (hi.front r hr).1)
        (fun k r hk hr hbk => by
          rw [List.getElem?_drop] at hr
          exact hnot _ r hr (hi.below _ r (by omega) hr hbk))
      rw [stH_drop, show l + 1 + (m - (l + 1)) = m from by omega] at hspec
      have hnm := hc.mono (p := l + 1) m (by omega) hi.le
      have hpush : (stH recs Hf (l + 1)).get y.H.n = some (.cells c e false) := by rw [he, Heap.get_push, if_pos rfl]
      have hpn : (stH recs Hf (l + 1)).n = y.H.n + 1 := by rw [he]; rfl
      have hget : (stH recs Hf m).get y.H.n = some (.cells c e false) := by
        rcases hspec with h5 | ⟨_, h5⟩
        · unfold freshTest at h5
          rw [hv] at h5
          simp only at h5
          rw [← oeq_eq h5]
          exact hpush
        · rw [hc.quiet (p := l + 1) m (by omega) hi.le (fun k r hk1 hk2 hr => by
            rcases h5 (k - (l + 1)) r (by omega) (by rw [List.getElem?_drop, show l + 1 + (k - (l + 1)) = k from by omega]; exact hr) with h6 | ⟨_, h6⟩ <;> (unfold isBig; rw [h6])) _ (by omega)]
          exact hpush
      have hnone := hi.un l y hy hun hwd hcl
      obtain ⟨c', r', s1, s2, s3, s4⟩ := hsim φ a.eval w (fun x => hi.st.ev x)
      have hlate := hi.st.heap.late hnone (by omega) hget s2 s3
      have hle : φ.le (φ.put y.H.n ⟨w.heap.size, 0, c'.size, esz P e⟩) := Inj.put_le hnone
      have h0 : H0.n ≤ y.H.n := by
        have := hc.mono (p := 0) l (by omega) (by omega)
        rw [hc.H0, stH_some hy] at this
        exact this
      have hext := hi.ext.late (l := ⟨w.heap.size, 0, c'.size, esz P e⟩) (.cells c' e) hnone h0 rfl
      unfold Oper.wp
      rw [s1]
      have hst : State P G N (φ.put y.H.n ⟨w.heap.size, 0, c'.size, esz P e⟩) t' (stH recs Hf m) (a.put y.o.dst r') (w.alloc (.cells c' e)) := by
        have hs0 : State P G N (φ.put y.H.n ⟨w.heap.size, 0, c'.size, esz P e⟩) t (stH recs Hf m) a (w.alloc (.cells c' e)) :=
          ⟨hi.st.size, hi.st.defers, fun i => (hi.st.tmps i).mono hle, hlate, hi.st.glob.mono hle⟩
        exact putT_sim hs0 ht' (s4 _ _ (Inj.put_same ..) rfl rfl) hlate (Ext.refl ..)
      refine hK _ _ _ t' m ⟨hnl, hclosed, hi.le, f1, f2, r1, r2, hst, hext, hunK ?_⟩
      intro k r hr hk hl hw' hclr
      have hold := hi.un k r hr hl hw' hclr
      have hne : r.H.n ≠ y.H.n := by
        have key : ∀ (p q : Nat) (x z : DRec), p < q → recs[p]? = some x → recs[q]? = some z → x.wd = true → clsOf P x.o = .fresh → x.H.n < z.H.n := by
          intro p q x z hpq hx hz hxw hxc
          have hql : q < recs.length := by
            rcases Nat.lt_or_ge q recs.length with h | h
            · exact h
            · rw [List.getElem?_eq_none h] at hz; cases hz
          have h7 := hc.mono (p := p + 1) q (by omega) (by omega)
          obtain ⟨_, _, _, q1, _⟩ := hc.at' p x hx
          obtain ⟨v', hv', _⟩ := q1 hxw
          obtain ⟨c1, e1, he1, _⟩ := fresh_iop hxc (fresh_step hxc hv')
          rw [he1, stH_some hz] at h7
          have : (x.H.push (IObj.cells c1 e1 false)).n = x.H.n + 1 := rfl
          omega
        rcases Nat.lt_or_ge k l with h | h
        · have := key k l r y h hr hy hw' hclr; omega
        · have := key l k y r (by omega) hy hr hwd hcl; omega
      unfold Inj.put
      rw [if_neg hne]
      exact hold

theorem ready_spec {listed : Array Bool} {i : Nat} (h : i ∈ Region.ready .any ops listed) : i < ops.size ∧ listed.getD i false = false ∧ ∃ o, ops[i]? = some o ∧ ∀ e ∈ o.after.toList, Region.binds .any e = true → listed.getD e.on false = true := by
  unfold Region.ready at h
  rw [List.mem_filter] at h
  obtain ⟨h1, h2⟩ := h
  have hlt : i < ops.size := by simpa using h1
  simp only [Bool.and_eq_true, Bool.not_eq_true'] at h2
  refine ⟨hlt, ?_, ?_⟩
  · have := h2.1
    simp only [Array.getD_eq_getD_getElem?] at this ⊢
    cases hg : listed[i]? with
    | none => rfl
    | some b => rw [hg] at this; simpa using this
  · have h3 := h2.2
    rw [Array.getElem?_eq_getElem hlt] at h3 ⊢
    refine ⟨_, rfl, ?_⟩
    intro e he hb
    simp only [Option.map_some, Option.getD_some, Array.all_eq_true'] at h3
    have := h3 e (by simpa using he)
    rw [hb] at this
    simpa using this

theorem ready_of {listed : Array Bool} {i : Nat} {o : Oper} (hs : listed.size = ops.size) (hlt : i < ops.size) (hu : listed.getD i false = false) (ho : ops[i]? = some o) (ha : ∀ e ∈ o.after.toList, Region.binds .any e = true → listed.getD e.on false = true) : i ∈ Region.ready .any ops listed := by
  unfold Region.ready
  rw [List.mem_filter]
  refine ⟨by simpa using hlt, ?_⟩
  simp only [Bool.and_eq_true, Bool.not_eq_true']
  constructor
  · simp only [Array.getD_eq_getD_getElem?] at hu ⊢
    have hl : i < listed.size := by omega
    rw [Array.getElem?_eq_getElem hl] at hu ⊢
    exact hu
  · rw [ho]
    simp only [Option.map_some, Option.getD_some, Array.all_eq_true']
    intro e he
    cases hb : Region.binds .any e with
    | false => rfl
    | true => simpa using ha e (by simpa using he) hb

theorem draw_any (hcall : Good P G call) (hc : Canon P G N call ops recs t0 H0 tf Hf) (hs : Stat P ops A recs) (hd : dynFrom P G call A Hf recs = true) (hcov : ∀ i, i < ops.size → ∃ (k : Nat) (r : DRec), recs[k]? = some r ∧ r.j = i)
    {φ0 : Inj} {w0 : World} (hdom : ∀ i l, φ0 i = some l → i < H0.n) {Q : Exit → Act → World → Prop} (hQ : ∀ φ' a' w', State P G N φ' tf Hf a' w' → Ext φ0 H0 w0 φ' Hf w' → Q .normal a' w') :
    ∀ (fuel : Nat) (listed : Array Bool) (a : Act) (w : World) (φ : Inj) (t : Tr Value) (m : Nat) (rem : List Nat), DInv P G N ops recs t0 tf H0 Hf φ0 w0 listed a w φ t m → (∀ i, i < ops.size → listed.getD i false = false → i ∈ rem) → rem.length ≤ fuel →
      wpAny P .any ops Q fuel listed a w := by
  -- when nothing is ready, all have come
  have hdone : ∀ {listed : Array Bool} {a : Act} {w : World} {φ : Inj} {t : Tr Value} {m : Nat}, DInv P G N ops recs t0 tf H0 Hf φ0 w0 listed a w φ t m → Region.ready .any ops listed = [] → Q .normal a w := by
    intro listed a w φ t m hi hr
    have hall : ∀ (k : Nat) (r : DRec), recs[k]? = some r → listed.getD r.j false = true := by
      intro k
      induction k using Nat.strongRecOn with
      | ind k ih =>
        intro r hrk
        cases hl : listed.getD r.j false with
        | true => rfl
        | false =>
          have ho := (hc.at' k r hrk).1
          have hlt : r.j < ops.size := by
            rcases Nat.lt_or_ge r.j ops.size with h | h
            · exact h
            · rw [Array.getElem?_eq_none h] at ho; cases ho
          have := ready_of hi.size hlt hl ho (fun e he hb => by
            obtain ⟨m', x, hm', hx, hxe⟩ := hs.edge k r hrk e he hb
            rw [← hxe]; exact ih m' hm' x hx)
          rw [hr] at this; cases this
    have hm : m = recs.length := by
      rcases Nat.lt_or_ge m recs.length with h | h
      · have hr' : recs[m]? = some recs[m] := List.getElem?_eq_getElem h
        have h1 := (hi.front _ hr').2
        rw [hall m _ hr'] at h1; cases h1
      · exact Nat.le_antisymm hi.le h
    subst hm
    have hHf : stH recs Hf recs.length = Hf := by unfold stH; rw [List.getElem?_eq_none (Nat.le_refl _)]
    have hTf : stT recs tf recs.length = tf := by unfold stT; rw [List.getElem?_eq_none (Nat.le_refl _)]
    have hst := hi.st
    have hex := hi.ext
    rw [hHf] at hst hex
    refine hQ φ a w (hst.regs ?_) hex
    intro d
    by_cases hex : ∃ (k : Nat) (r : DRec), recs[k]? = some r ∧ r.o.dst = some d
    · obtain ⟨k, r, hr', hdst⟩ := hex
      have hkl : k < recs.length := by
        rcases Nat.lt_or_ge k recs.length with h | h
        · exact h
        · rw [List.getElem?_eq_none h] at hr'; cases hr'
      have h7 := hc.val hs hr' hdst _ hkl (Nat.le_refl _)
      rw [hTf] at h7
      rw [hi.val k r hr' (hall k r hr') d hdst, h7]
    · have h7 := hc.keep (d := d) _ (Nat.le_refl _) (fun k r _ hr' hdst => hex ⟨k, r, hr', hdst⟩)
      rw [hTf] at h7
      rw [hi.old d (fun k r hr' _ hdst => hex ⟨k, r, hr', hdst⟩), h7]
  intro fuel
  induction fuel with
  | zero =>
    intro listed a w φ t m rem hi hrem hlen
    have hr : Region.ready .any ops listed = [] := by
      cases hrd : Region.ready .any ops listed with
      | nil => rfl
      | cons i l =>
        obtain ⟨h1, h2, _⟩ := ready_spec (show i ∈ Region.ready .any ops listed by rw [hrd]; exact List.mem_cons_self)
        have := hrem i h1 h2
        rw [List.length_eq_zero_iff.1 (Nat.le_zero.1 hlen)] at this
        cases this
    exact ⟨hr, hdone hi hr⟩
  | succ fuel ih =>
    intro listed a w φ t m rem hi hrem hlen
    refine ⟨hdone hi, ?_⟩
    intro i hir
    obtain ⟨h1, h2, o, ho, ha⟩ := ready_spec hir
    obtain ⟨l, y, hy, hyj⟩ := hcov i h1
    have hyo := (hc.at' l y hy).1
    rw [hyj, ho] at hyo
    cases hyo
    rw [← hyj]
    refine inv_step hcall hc hs hd hdom hi hy (by rw [hyj]; exact h1) (by rw [hyj]; exact h2) ha ?_
    intro a' w' φ' t' m' hi'
    refine ih _ a' w' φ' t' m' (rem.erase i) hi' ?_ ?_
    · intro j hj hlj
      rw [hyj] at hlj
      by_cases e : i = j
      · subst e
        rw [getD_set_self (by rw [hi.size]; exact hj)] at hlj; cases hlj
      · rw [getD_set_other e] at hlj
        exact (List.mem_erase_of_ne (fun h => e h.symm)).2 (hrem j hj hlj)
    · rw [List.length_erase_of_mem (hrem i h1 h2)]; omega

theorem evalDraw_sim (hcall : Good P G call) {id : Nat} {Q : Exit → Act → World → Prop} {φ : Inj} {t t' : Tr Value} {H H' : Heap} {a : Act} {w : World} (h : State P G N φ t H a w) (he : evalDraw P G N call ops t H = some (t', H'))
    (hQ : ∀ φ' a' w', State P G N φ' t' H' a' w' → Ext φ H w φ' H' w' → Q .normal a' w') : (Code.region id ops true).wp P Q a w := by
  unfold evalDraw at he
  obtain ⟨hk, he⟩ := chk_some he
  obtain ⟨⟨recs, tf, Hf⟩, hr, he⟩ := bind_some he
  obtain ⟨hk2, he⟩ := chk_some he
  cases he
  rw [Bool.and_eq_true] at hk hk2
  obtain ⟨hc, hm⟩ := drawRun_canon _ hr
  have hs := stat_of hk2.1
  refine wp_region_any hk.1 ?_
  have hw : State P G N φ t H a { w with drawn := w.drawn + 1 } := ⟨h.size, h.defers, h.tmps, h.heap, h.glob⟩
  have hx : Ext φ H w φ H { w with drawn := w.drawn + 1 } := Ext.drew φ H w
  obtain ⟨m, _, h2, h3, h4⟩ := next_front (fun k => match recs[k]? with | some r => isBig P r.o | none => false) recs.length 0 (Nat.zero_le _)
  have hq : ∀ (k : Nat) (r : DRec), 0 ≤ k → k < m → recs[k]? = some r → isBig P r.o = false := by
    intro k r _ hk hr
    have := h4 k (Nat.zero_le _) hk
    simp only [hr] at this
    exact this
  have hquiet := hc.quiet m (Nat.zero_le _) h2 hq
  have hmono := hc.mono (p := 0) m (Nat.zero_le _) h2
  rw [hc.H0] at hquiet hmono
  have hrep : ∀ i, (Array.replicate ops.size false).getD i false = false := fun i => by
    simp only [Array.getD_eq_getD_getElem?, Array.getElem?_replicate]
    split <;> rfl
  refine draw_any hcall hc hs hk2.2 ?_ h.heap.dom hQ ops.size (Array.replicate ops.size false) a _ φ t m (List.range ops.size) ⟨by simp, ?_, h2, ?_, ?_, ?_, ?_, hw.widen hmono hquiet, hx.widen hmono hquiet, ?_⟩ ?_ (by simp)
  · intro i hi
    have := List.all_eq_true.1 hk.2 i (List.mem_range.2 hi)
    rw [List.any_eq_true] at this
    obtain ⟨j, hj, hji⟩ := this
    rw [← hm] at hj
    obtain ⟨r, hr, hrj⟩ := List.mem_map.1 hj
    obtain ⟨k, hk⟩ := List.mem_iff_getElem?.1 hr
    exact ⟨k, r, hk, by rw [hrj]; exact (Nat.eq_of_beq_eq_true hji).symm⟩
  · intro k r _ hl
    rw [hrep] at hl; cases hl
  · intro r hr
    have hlt : m < recs.length := by
      rcases Nat.lt_or_ge m recs.length with h | h
      · exact h
      · rw [List.getElem?_eq_none h] at hr; cases hr
    have := h3 hlt
    simp only [hr] at this
    exact ⟨this, hrep _⟩
  · intro k r hk hr hb
    rw [hq k r (Nat.zero_le _) hk hr] at hb; cases hb
  · intro k r _ hl
    rw [hrep] at hl; cases hl
  · intro d _; rfl
  · intro k r hr _ hwd hcl
    cases hφ : φ r.H.n with
    | none => rfl
    | some l =>
      have h5 := h.heap.dom _ _ hφ
      have hkl : k < recs.length := by
        rcases Nat.lt_or_ge k recs.length with h | h
        · exact h
        · rw [List.getElem?_eq_none h] at hr; cases hr
      have h6 := hc.mono (p := 0) k (Nat.zero_le _) (by omega)
      rw [hc.H0, stH_some hr] at h6
      omega
  · intro i hi _
    exact List.mem_range.2 hi
end
end Go.Ideal

/- The ideal machine: the evaluator of bodies, and the theorem: what it answers, the model answers. -/
namespace Go.Ideal
open Go

inductive IExit where
  | normal
  | exit (id : Nat)
  | ret

def IExit.real : IExit → Exit
  | .normal => .normal
  | .exit id => .exit id
  | .ret => .ret

abbrev IRes := Option (IExit × Tr Value × Heap)

def evalStep (P : Program) (G N : Nat) (call : CallF) (ih : Code → Tr Value → Heap → IRes) (c : Code) (t : Tr Value) (H : Heap) : IRes :=
  match c with
  | .skip => some (.normal, t, H)
  | .label _ => some (.normal, t, H)
  | .region _ ops draw => bif draw then (evalDraw P G N call ops t H).map fun q => (.normal, q) else (evalOps P G N call ops ops.toList t H).map fun q => (.normal, q)
  | .seq a b => (ih a t H).bind fun q => match q with
    | (.normal, t', H') => ih b t' H'
    | q => some q
  | .cond c x y => match ev G t c with
    | .bool b => ih (bif b then x else y) t H
    | _ => none
  | .block id c => (ih c t H).bind fun q => match q with
    | (.exit i, t', H') => some (bif Nat.beq i id then (.normal, t', H') else (.exit i, t', H'))
    | q => some q
  | .loop c => (ih c t H).bind fun q => match q with
    | (.normal, t', H') => ih (.loop c) t' H'
    | q => some q
  | .exit id => some (.exit id, t, H)
  | .ret => some (.ret, t, H)
  | .scope c => ih c t H
  | _ => none

def evalCode (P : Program) (G N : Nat) (call : CallF) (n : Nat) : Code → Tr Value → Heap → IRes :=
  Nat.rec (fun _ _ _ => none) (fun _ ih c t H => evalStep P G N call ih c t H) n

def tmpsOf : List Value → Nat → Tr Value → Tr Value
  | [], _, t => t
  | v :: r, i, t => tmpsOf r (i + 1) (t.set i v)

def iResult (P : Program) (t : Tr Value) (H : Heap) : ResultVar → Option Value
  | .tmp i => some ((t.get i).getD undef)
  | .cell a ty => iLoad P ty ((t.get a).getD undef) H
def iResults (P : Program) (t : Tr Value) (H : Heap) : List ResultVar → Option (List Value)
  | [] => some []
  | r :: rest => (iResult P t H r).bind fun v => (iResults P t H rest).map (v :: ·)
def tupled : List Value → Value
  | [v] => v
  | l => .tuple l.toArray

/-- A call: through a table of the functions' bodies (or what stands for a function). -/
def runStep (P : Program) (G : Nat) (F : Tr Func) (I : FuncId → Option (List Value → Heap → Option (Value × Heap))) (k : Nat) (ih : CallF) : CallF := fun g args H =>
  match I g with
  | some sem => sem args H
  | none => (F.get g).bind fun fn => fn.body.bind fun c => chk (Nat.ble args.length fn.ntmps) ((evalCode P G fn.ntmps ih k c (tmpsOf args 0 .nil) H).bind fun q => match q with
    | (.normal, t, H') => (iResults P t H' fn.results.toList).map fun l => (tupled l, H')
    | (.ret, t, H') => (iResults P t H' fn.results.toList).map fun l => (tupled l, H')
    | _ => none)

def run (P : Program) (G : Nat) (F : Tr Func) (I : FuncId → Option (List Value → Heap → Option (Value × Heap))) (n : Nat) : CallF :=
  Nat.rec (fun _ _ _ => none) (fun k ih => runStep P G F I k ih) n

theorem evalCode_sim {P : Program} {G N : Nat} {call : CallF} (hcall : Good P G call) (n : Nat) :
    (∀ (c : Code) {t t' : Tr Value} {H H' : Heap} {e : IExit}, evalCode P G N call n c t H = some (e, t', H') → ∀ {φ : Inj} {a : Act} {w : World} {Q : Exit → Act → World → Prop}, State P G N φ t H a w →
      (∀ φ' a' w', State P G N φ' t' H' a' w' → Ext φ H w φ' H' w' → Q e.real a' w') → c.wp P Q a w) ∧
    (∀ (c : Code) {t t' : Tr Value} {H H' : Heap} {e : IExit}, evalCode P G N call n (.loop c) t H = some (e, t', H') → ∀ {φ : Inj} {a : Act} {w : World} {Q : Exit → Act → World → Prop}, State P G N φ t H a w →
      (∀ φ' a' w', State P G N φ' t' H' a' w' → Ext φ H w φ' H' w' → Q e.real a' w') → Code.rounds P c Q n a w) := by
  induction n with
  | zero => exact ⟨fun c _ _ _ _ _ h => (by cases h), fun c _ _ _ _ _ h => (by cases h)⟩
  | succ n ih =>
    obtain ⟨ih1, ih2⟩ := ih
    have hloop : ∀ (c : Code) {t t' : Tr Value} {H H' : Heap} {e : IExit}, evalCode P G N call (n + 1) (.loop c) t H = some (e, t', H') → ∀ {φ : Inj} {a : Act} {w : World} {Q : Exit → Act → World → Prop}, State P G N φ t H a w →
      (∀ φ' a' w', State P G N φ' t' H' a' w' → Ext φ H w φ' H' w' → Q e.real a' w') → Code.rounds P c Q (n + 1) a w := by
      intro c t t' H H' e he φ a w Q h hQ
      have he : (evalCode P G N call n c t H).bind (fun q => match q with
        | (.normal, t', H') => evalCode P G N call n (.loop c) t' H'
        | q => some q) = some (e, t', H') := he
      obtain ⟨⟨e1, t1, H1⟩, h1, he⟩ := bind_some he
      rw [rounds_succ]
      refine ih1 c h1 h ?_
      intro φ' a' w' hs hx
      cases e1 with
      | normal => exact ih2 c he hs (fun φ'' a'' w'' s e => hQ φ'' a'' w'' s (hx.trans h.heap.dom e))
      | exit id => cases he; exact hQ φ' a' w' hs hx
      | ret => cases he; exact hQ φ' a' w' hs hx
    refine ⟨?_, hloop⟩
    intro c t t' H H' e he φ a w Q h hQ
    have hstep : evalStep P G N call (evalCode P G N call n) c t H = some (e, t', H') := he
    cases c with
    | skip => cases hstep; exact wp_skip (hQ φ a w h (Ext.refl ..))
    | label l => cases hstep; exact wp_label (hQ φ a w h (Ext.refl ..))
    | region id ops draw =>
      have hstep : (bif draw then (evalDraw P G N call ops t H).map fun q => (IExit.normal, q) else (evalOps P G N call ops ops.toList t H).map fun q => (IExit.normal, q)) = some (e, t', H') := hstep
      cases draw with
      | true =>
        rw [cond_true] at hstep
        obtain ⟨⟨t1, H1⟩, h1, e1⟩ := map_some hstep
        cases e1
        exact evalDraw_sim hcall h h1 hQ
      | false =>
        rw [cond_false] at hstep
        obtain ⟨⟨t1, H1⟩, h1, e1⟩ := map_some hstep
        cases e1
        exact wp_region_list (evalOps_sim hcall ops.toList h h1 hQ)
    | seq x y =>
      have hstep : (evalCode P G N call n x t H).bind (fun q => match q with
        | (.normal, t', H') => evalCode P G N call n y t' H'
        | q => some q) = some (e, t', H') := hstep
      obtain ⟨⟨e1, t1, H1⟩, h1, he1⟩ := bind_some hstep
      refine wp_seq (ih1 x h1 h ?_)
      intro φ' a' w' hs hx
      cases e1 with
      | normal => exact ih1 y he1 hs (fun φ'' a'' w'' s e => hQ φ'' a'' w'' s (hx.trans h.heap.dom e))
      | exit id => cases he1; exact hQ φ' a' w' hs hx
      | ret => cases he1; exact hQ φ' a' w' hs hx
    | cond c x y =>
      have hstep : (match ev G t c with
        | .bool b => evalCode P G N call n (bif b then x else y) t H
        | _ => none) = some (e, t', H') := hstep
      have hc := h.ev c
      split at hstep
      · rename_i b hb
        rw [hb] at hc
        refine wp_cond hc.bool_inv ?_
        cases b with
        | true => exact ih1 x hstep h hQ
        | false => exact ih1 y hstep h hQ
      · cases hstep
    | block id c =>
      have hstep : (evalCode P G N call n c t H).bind (fun q => match q with
        | (.exit i, t', H') => some (bif Nat.beq i id then (IExit.normal, t', H') else (.exit i, t', H'))
        | q => some q) = some (e, t', H') := hstep
      obtain ⟨⟨e1, t1, H1⟩, h1, he1⟩ := bind_some hstep
      refine wp_block (ih1 c h1 h ?_)
      intro φ' a' w' hs hx
      cases e1 with
      | normal => cases he1; exact hQ φ' a' w' hs hx
      | ret => cases he1; exact hQ φ' a' w' hs hx
      | exit i =>
        simp only at he1
        show Exit.inBlock id Q (.exit i) a' w'
        simp only [Exit.inBlock]
        cases hb : Nat.beq i id with
        | true =>
          rw [hb, cond_true] at he1
          rw [if_pos (Nat.eq_of_beq_eq_true hb)]
          cases he1; exact hQ φ' a' w' hs hx
        | false =>
          rw [hb, cond_false] at he1
          have : ¬ i = id := fun e => by rw [e] at hb; simp at hb
          rw [if_neg this]
          cases he1; exact hQ φ' a' w' hs hx
    | loop c => exact wp_loop_rounds (n + 1) (hloop c he h hQ)
    | exit id => cases hstep; exact wp_exit (hQ φ a w h (Ext.refl ..))
    | ret => cases hstep; exact wp_ret (hQ φ a w h (Ext.refl ..))
    | scope c =>
      have hstep : evalCode P G N call n c t H = some (e, t', H') := hstep
      refine wp_scope_straight (ih1 c hstep h ?_)
      intro φ' a' w' hs hx
      have := hQ φ' a' w' hs hx
      cases e <;> exact this
    | rangeFunc => cases hstep
    | goto l => cases hstep
    | refuse s => cases hstep
end Go.Ideal

/- The ideal machine: its calls are the model's calls. -/
namespace Go.Ideal
open Go

theorem tmpsOf_get : ∀ (l : List Value) (k : Nat) (t : Tr Value) (i : Nat), (tmpsOf l k t).get i = if i < k then t.get i else if i < k + l.length then l[i - k]? else t.get i
  | [], k, t, i => by
    simp only [tmpsOf, List.length_nil, Nat.add_zero]
    split <;> rfl
  | v :: r, k, t, i => by
    rw [tmpsOf, tmpsOf_get r (k + 1) (t.set k v) i]
    simp only [Tr.get_set, List.length_cons]
    by_cases h1 : i < k
    · rw [if_pos (by omega), if_neg (by omega), if_pos h1]
    · by_cases h2 : i = k
      · subst h2
        rw [if_pos (by omega), if_pos rfl, if_neg (by omega), if_pos (by omega)]
        simp
      · rw [if_neg (by omega), if_neg h1]
        by_cases h3 : i < k + 1 + r.length
        · rw [if_pos h3, if_pos (by omega), show i - k = (i - (k + 1)) + 1 from by omega]
          simp
        · rw [if_neg h3, if_neg h2, if_neg (by omega)]

def resF (tmps : Array Value) : ResultVar → Sem Value
  | .tmp t => pure (tmps.getD t undef)
  | .cell x ty => do loadVar ty (← asAddr (tmps.getD x undef))
theorem results_eq (fn : Func) (tmps : Array Value) : results fn tmps = (do let vs ← fn.results.mapM (resF tmps); pure (if h : vs.size = 1 then vs[0] else .tuple vs)) := by
  unfold results
  congr 1

theorem results_sim {P : Program} {G N : Nat} {φ : Inj} {t : Tr Value} {H : Heap} {a : Act} {w : World} (h : State P G N φ t H a w) : ∀ (rs : List ResultVar) {l : List Value}, iResults P t H rs = some l →
    ∃ l', (rs.mapM (resF a.tmps)).run P w = .ok l' w ∧ LRel φ l l' := by
  intro rs
  induction rs with
  | nil => intro l he; cases he; exact ⟨[], rfl, rfl, fun i x y hx => by simp at hx⟩
  | cons r rs ih =>
    intro l he
    obtain ⟨v, hv, he⟩ := bind_some he
    obtain ⟨l1, hl1, e⟩ := map_some he
    cases e
    obtain ⟨l', h1, h2⟩ := ih hl1
    have hone : ∃ v', (resF a.tmps r).run P w = .ok v' w ∧ VRel φ v v' := by
      cases r with
      | tmp i => cases hv; exact ⟨_, rfl, h.tmps i⟩
      | cell x ty =>
        have hx := h.tmps x
        have hv : iLoad P ty ((t.get x).getD undef) H = some v := hv
        obtain ⟨v', l1, l2⟩ := load_sim h.heap hx hv
        refine ⟨v', ?_, l2⟩
        obtain ⟨⟨b, o⟩, hp, _⟩ := bind_some hv
        rw [asPtr_some hp] at hx
        obtain ⟨l, hl, hx'⟩ := hx.ptr_inv
        rw [hx'] at l1
        simp only [Instr.loadAt, Instr.sureAddr, Sem.run_bind, Sem.run_pure, Result.andThen_ok] at l1
        simp only [resF, hx', asAddr, Sem.run_bind, Sem.run_pure, Result.andThen_ok, l1]
    obtain ⟨v', g1, g2⟩ := hone
    refine ⟨v' :: l', ?_, by simp [h2.1], ?_⟩
    · simp only [List.mapM_cons, Sem.run_bind, g1, Result.andThen_ok, h1, Sem.run_pure]
    · intro i x y hx hy
      match i with
      | 0 => simp at hx hy; rw [← hx, ← hy]; exact g2
      | i + 1 => exact h2.2 i x y (by simpa using hx) (by simpa using hy)

theorem tupled_rel {φ : Inj} {l l' : List Value} (h : LRel φ l l') : VRel φ (tupled l) (if hs : l'.toArray.size = 1 then l'.toArray[0] else .tuple l'.toArray) := by
  match l, l', h with
  | [], [], h => exact .tuple _ _ rfl (fun i x y hx => by simp at hx)
  | [v], [v'], h =>
    have := h.2 0 v v' rfl rfl
    simpa [tupled] using this
  | v :: u :: r, v' :: u' :: r', h =>
    have h1 := h.1
    rw [dif_neg (by simp)]
    exact .tuple _ _ (by simpa using h.1) (fun i x y hx hy => h.2 i x y (by simpa using hx) (by simpa using hy))
  | [], _ :: _, h => cases h.1
  | _ :: _, [], h => cases h.1
  | [_], _ :: _ :: _, h => have := h.1; simp at this
  | _ :: _ :: _, [_], h => have := h.1; simp at this

/-- What stands for a function without its body being evaluated. -/
structure Intr (P : Program) (G : Nat) (I : FuncId → Option (List Value → Heap → Option (Value × Heap))) : Prop where
  good : ∀ g sem, I g = some sem → GoodAt P G g sem
  enters : ∀ g sem, I g = some sem → Enters P g

theorem run_sim {P : Program} {G : Nat} {F : Tr Func} {I : FuncId → Option (List Value → Heap → Option (Value × Heap))} (hF : Table P F) (hI : Intr P G I) (n : Nat) : Good P G (run P G F I n) := by
  induction n with
  | zero => exact fun g => ⟨fun args H v H' h => (by cases h), fun args H r h => (by cases h)⟩
  | succ n ih =>
    intro g
    have hrun : ∀ args H, run P G F I (n + 1) g args H = runStep P G F I n (run P G F I n) g args H := fun _ _ => rfl
    cases hig : I g with
    | some sem =>
      have e : ∀ args H, run P G F I (n + 1) g args H = sem args H := fun args H => by rw [hrun]; unfold runStep; rw [hig]
      refine ⟨fun args H v H' h => hI.good g sem hig args H v H' (by rw [← e]; exact h), fun args H r h => hI.enters g sem hig⟩
    | none =>
      have e : ∀ args H, run P G F I (n + 1) g args H = (F.get g).bind fun fn => fn.body.bind fun c => chk (Nat.ble args.length fn.ntmps) ((evalCode P G fn.ntmps (run P G F I n) n c (tmpsOf args 0 .nil) H).bind fun q => match q with
          | (.normal, t, H') => (iResults P t H' fn.results.toList).map fun l => (tupled l, H')
          | (.ret, t, H') => (iResults P t H' fn.results.toList).map fun l => (tupled l, H')
          | _ => none) := fun args H => by rw [hrun]; unfold runStep; rw [hig]; try rfl
      constructor
      · intro args H v H' h φ w args' hh hg hl
        rw [e] at h
        obtain ⟨fn, hfn, h⟩ := bind_some h
        obtain ⟨c, hc, h⟩ := bind_some h
        obtain ⟨hle, h⟩ := chk_some h
        have hle := Nat.le_of_ble_eq_true hle
        obtain ⟨⟨ex, t1, H1⟩, hev, h⟩ := bind_some h
        obtain ⟨hP, _⟩ := hF.at' g fn hfn
        refine calls_of_wp hP hc ?_
        have hst : State P G fn.ntmps φ (tmpsOf args 0 .nil) H { tmps := args'.toArray ++ Array.replicate (fn.ntmps - args'.toArray.size) undef, defers := [] } w := by
          refine ⟨by simp; rw [← hl.1]; omega, rfl, fun i => ?_, hh, hg⟩
          rw [tmpsOf_get]
          simp only [Nat.not_lt_zero, if_false, Nat.zero_add, Nat.sub_zero, Array.getD_eq_getD_getElem?]
          by_cases hi : i < args.length
          · rw [if_pos hi, Array.getElem?_append_left (by simp; rw [← hl.1]; exact hi)]
            have h1 : args[i]? = some args[i] := List.getElem?_eq_getElem hi
            have h2 : args'[i]? = some (args'[i]'(by rw [← hl.1]; exact hi)) := List.getElem?_eq_getElem _
            simp only [List.getElem?_toArray]
            rw [h1, h2]
            exact hl.2 i _ _ h1 h2
          · rw [if_neg hi, Array.getElem?_append_right (by simp; rw [← hl.1]; omega)]
            have hu : ((Array.replicate (fn.ntmps - args'.toArray.size) undef)[i - args'.toArray.size]?).getD undef = undef := by
              rw [Array.getElem?_replicate]
              split <;> rfl
            rw [hu]
            exact VRel.undef φ
        refine (evalCode_sim ih n).1 c hev hst ?_
        intro φ' a' w' hs hx
        have fin : ∀ l, iResults P t1 H1 fn.results.toList = some l → (v, H') = (tupled l, H1) → a'.defers = [] ∧ ∃ v', (results fn a'.tmps).run P w' = .ok v' w' ∧ ∃ v'' φ'', Ending.returned v' = .returned v'' ∧ VRel φ'' v v'' ∧ HRel P φ'' H' w'.heap ∧ Ext φ H w φ'' H' w' := by
          intro l hl he
          cases he
          obtain ⟨l', r1, r2⟩ := results_sim hs _ hl
          refine ⟨hs.defers, _, ?_, _, φ', rfl, tupled_rel r2, hs.heap, hx⟩
          rw [results_eq, Array.mapM_eq_mapM_toList]
          simp only [Sem.run_bind, Sem.run_map, r1, Result.andThen_ok, Sem.run_pure]
        cases ex with
        | normal =>
          obtain ⟨l, hl, he⟩ := map_some h
          exact fin l hl he.symm
        | ret =>
          obtain ⟨l, hl, he⟩ := map_some h
          exact fin l hl he.symm
        | exit id => cases h
      · intro args H r h
        rw [e] at h
        obtain ⟨fn, hfn, h⟩ := bind_some h
        obtain ⟨c, hc, _⟩ := bind_some h
        exact hF.enters hfn hc

/-- A CALL THAT THE IDEAL MACHINE ANSWERS ON PLAIN VALUES, FROM NO MEMORY AT ALL: the model answers the same from whatever memory, and nothing that was there has turned. -/
theorem HRel.none (P : Program) (hp : Array Obj) : HRel P (fun _ => .none) .empty hp := ⟨fun i l o h => (by cases h), fun i l h => (by cases h), fun i l h => (by cases h), fun i j l m h => (by cases h)⟩

theorem closed {P : Program} {F : Tr Func} {I : FuncId → Option (List Value → Heap → Option (Value × Heap))} (hF : Table P F) (hI : Intr P 0 I) (n : Nat) {g : FuncId} {args : List Value} {v : Value} (hargs : args.all (noAddr 3) = true)
    (he : (run P 0 F I n g args .empty).map (·.1) = some v) (hv : noAddr 3 v = true) (w : World) :
    Calls P g args.toArray w fun e w' => e = .returned v ∧ RowKit.Below w.heap.size w w' := by
  obtain ⟨⟨v0, H'⟩, h, e⟩ := map_some he
  cases e
  have hl : LRel (fun _ => .none) args args := ⟨rfl, fun i x y hx hy => by
    rw [hx] at hy; cases hy
    exact VRel.self 3 x (List.all_eq_true.1 hargs x (List.mem_of_getElem? hx))⟩
  refine ((run_sim hF hI n g).1 args .empty v0 H' h _ w args (HRel.none P w.heap) ⟨fun g hg => by omega⟩ hl).mono ?_
  rintro e w' ⟨v', φ', rfl, g1, _, g3⟩
  refine ⟨by rw [g1.same 3 hv], ⟨g3.os, g3.tape, g3.output, g3.size, fun k hk => g3.frame k hk (fun i l hi => by cases hi)⟩⟩
end Go.Ideal
