/-
  No cell of these rows narrows 'for every input' (looked for: loops, veiled, ifaces, maps, wideKeys, modest, calm, conditions, laid).
  DERIVED. THE GIVEN ROWS OF THIS SEAT. 6 by the template 'for every input the law returns true; each argument reads behind the call as it read before'; 0 by the template 'total and deterministic' (their statements: YthggbjpanpnlnaaTotals.lean).
  GIVEN WITH THE SEED: the statements are not yours to turn. If you find one false, say at which input.
  Laid BY PROGRAM, IN A SANDBOX (cutbox-rows.mjs): the forced cells as the released guide's own fill.sh prints them over the translation 998ca4681077d95b… (all of the seat's roots in one cut). By AI agents, Wed Nov 11 2026. No macro, syntax, notation, axiom, sorry.
-/
import Derived.Test.YthggbjpanpnlnaaChecked
import GoSem.Claim
import GoSem.ClaimJoined
import GoSem.ClaimMapViews
import Derived.JoinedTies
import Derived.KernelRfl
namespace Go.Proofs.Ythggbjpanpnlnaa
/- THE CELL 'sum', in the pinned program and in every row, IS THE sha256 OF THE DUMP (.gsa) THAT YthggbjpanpnlnaaProg.lean LOADS. Nothing in Lean hashes anything: it is a label: what it is worth is what the hold of that sum in a sandbox is worth. -/
noncomputable def Try.pinned : Pinned := { name := "ythggbjpanpnlnaa", sum := "998ca4681077d95b1ffd511cce2772694a0999c0235fd198bddfaabd4563e514", checked := Try.checked }
namespace Rows
def none {H : Type} : Left H := { results := [], args := [] }

/-- 'tabardlaw20.GraphAfters': WHATEVER THE INPUT: true; the input reads as it did. -/
def graphAftersSpec : ChangeSpec := { name := "graphAfters", fn := fun _ => fun
  | [d1, d2] => { results := [.lit (.bool true)], args := [d1, d2] }
  | _ => none }
def graphAftersRow : OpenClaim := { program := "ythggbjpanpnlnaa", sum := "998ca4681077d95b1ffd511cce2772694a0999c0235fd198bddfaabd4563e514", func := "tabard/tabardlaw20.GraphAfters", spec := "graphAfters", unfollowed := true, recurses := true, apart := false }
def GraphAftersSaid : Prop := graphAftersRow.holds Try.pinned (OpenSpec.ofChange graphAftersSpec)

/-- ITS FALSE NEIGHBOUR: 'it returns false'. Refute it at one input. -/
def graphAftersWrong : ChangeSpec := { name := "graphAfters", fn := fun _ => fun
  | [d1, d2] => { results := [.lit (.bool false)], args := [d1, d2] }
  | _ => none }
def GraphAftersWrongFalsely : Prop := graphAftersRow.holds Try.pinned (OpenSpec.ofChange graphAftersWrong)

/-- 'tabardlaw20.GraphOrders': WHATEVER THE INPUT: true; the input reads as it did. -/
def graphOrdersSpec : ChangeSpec := { name := "graphOrders", fn := fun _ => fun
  | [d1, d2] => { results := [.lit (.bool true)], args := [d1, d2] }
  | _ => none }
def graphOrdersRow : OpenClaim := { program := "ythggbjpanpnlnaa", sum := "998ca4681077d95b1ffd511cce2772694a0999c0235fd198bddfaabd4563e514", func := "tabard/tabardlaw20.GraphOrders", spec := "graphOrders", unfollowed := true, recurses := true, apart := false }
def GraphOrdersSaid : Prop := graphOrdersRow.holds Try.pinned (OpenSpec.ofChange graphOrdersSpec)

/-- ITS FALSE NEIGHBOUR: 'it returns false'. Refute it at one input. -/
def graphOrdersWrong : ChangeSpec := { name := "graphOrders", fn := fun _ => fun
  | [d1, d2] => { results := [.lit (.bool false)], args := [d1, d2] }
  | _ => none }
def GraphOrdersWrongFalsely : Prop := graphOrdersRow.holds Try.pinned (OpenSpec.ofChange graphOrdersWrong)

/-- 'tabardlaw20.GraphReaches': WHATEVER THE INPUT: true; the input reads as it did. -/
def graphReachesSpec : ChangeSpec := { name := "graphReaches", fn := fun _ => fun
  | [d1, d2] => { results := [.lit (.bool true)], args := [d1, d2] }
  | _ => none }
def graphReachesRow : OpenClaim := { program := "ythggbjpanpnlnaa", sum := "998ca4681077d95b1ffd511cce2772694a0999c0235fd198bddfaabd4563e514", func := "tabard/tabardlaw20.GraphReaches", spec := "graphReaches", unfollowed := true, recurses := true, apart := false }
def GraphReachesSaid : Prop := graphReachesRow.holds Try.pinned (OpenSpec.ofChange graphReachesSpec)

/-- ITS FALSE NEIGHBOUR: 'it returns false'. Refute it at one input. -/
def graphReachesWrong : ChangeSpec := { name := "graphReaches", fn := fun _ => fun
  | [d1, d2] => { results := [.lit (.bool false)], args := [d1, d2] }
  | _ => none }
def GraphReachesWrongFalsely : Prop := graphReachesRow.holds Try.pinned (OpenSpec.ofChange graphReachesWrong)

/-- 'tabardlaw20.GraphStands': WHATEVER THE INPUT: true; the input reads as it did. -/
def graphStandsSpec : ChangeSpec := { name := "graphStands", fn := fun _ => fun
  | [d1, d2] => { results := [.lit (.bool true)], args := [d1, d2] }
  | _ => none }
def graphStandsRow : OpenClaim := { program := "ythggbjpanpnlnaa", sum := "998ca4681077d95b1ffd511cce2772694a0999c0235fd198bddfaabd4563e514", func := "tabard/tabardlaw20.GraphStands", spec := "graphStands", unfollowed := true, recurses := true, apart := false }
def GraphStandsSaid : Prop := graphStandsRow.holds Try.pinned (OpenSpec.ofChange graphStandsSpec)

/-- ITS FALSE NEIGHBOUR: 'it returns false'. Refute it at one input. -/
def graphStandsWrong : ChangeSpec := { name := "graphStands", fn := fun _ => fun
  | [d1, d2] => { results := [.lit (.bool false)], args := [d1, d2] }
  | _ => none }
def GraphStandsWrongFalsely : Prop := graphStandsRow.holds Try.pinned (OpenSpec.ofChange graphStandsWrong)

/-- 'tabardlaw20.GraphSets': WHATEVER THE INPUT: true; the input reads as it did. -/
def graphSetsSpec : ChangeSpec := { name := "graphSets", fn := fun _ => fun
  | [d1, d2] => { results := [.lit (.bool true)], args := [d1, d2] }
  | _ => none }
def graphSetsRow : OpenClaim := { program := "ythggbjpanpnlnaa", sum := "998ca4681077d95b1ffd511cce2772694a0999c0235fd198bddfaabd4563e514", func := "tabard/tabardlaw20.GraphSets", spec := "graphSets", unfollowed := true, recurses := true, apart := false }
def GraphSetsSaid : Prop := graphSetsRow.holds Try.pinned (OpenSpec.ofChange graphSetsSpec)

/-- ITS FALSE NEIGHBOUR: 'it returns false'. Refute it at one input. -/
def graphSetsWrong : ChangeSpec := { name := "graphSets", fn := fun _ => fun
  | [d1, d2] => { results := [.lit (.bool false)], args := [d1, d2] }
  | _ => none }
def GraphSetsWrongFalsely : Prop := graphSetsRow.holds Try.pinned (OpenSpec.ofChange graphSetsWrong)

/-- 'tabardlaw20.GraphKeeps': WHATEVER THE INPUT: true; the input reads as it did. -/
def graphKeepsSpec : ChangeSpec := { name := "graphKeeps", fn := fun _ => fun
  | [d1, d2, d3] => { results := [.lit (.bool true)], args := [d1, d2, d3] }
  | _ => none }
def graphKeepsRow : OpenClaim := { program := "ythggbjpanpnlnaa", sum := "998ca4681077d95b1ffd511cce2772694a0999c0235fd198bddfaabd4563e514", func := "tabard/tabardlaw20.GraphKeeps", spec := "graphKeeps", unfollowed := true, recurses := true, apart := false }
def GraphKeepsSaid : Prop := graphKeepsRow.holds Try.pinned (OpenSpec.ofChange graphKeepsSpec)

/-- ITS FALSE NEIGHBOUR: 'it returns false'. Refute it at one input. -/
def graphKeepsWrong : ChangeSpec := { name := "graphKeeps", fn := fun _ => fun
  | [d1, d2, d3] => { results := [.lit (.bool false)], args := [d1, d2, d3] }
  | _ => none }
def GraphKeepsWrongFalsely : Prop := graphKeepsRow.holds Try.pinned (OpenSpec.ofChange graphKeepsWrong)

/- THE SECOND FORM. 'bulk': how many values and letters a reading holds, each counted each time it is reached (what is shared counts as often as it is met; a slice's spare places count too). A statement '..UptoSaid' is the law's where the arguments, and the package variables that the reading takes, are together of bulk at most 1048576: NARROWER than '..Said'. Prove '..Said' where nothing that the law and all that it calls make is longer than what came in: it says more and counts as full. Else prove '..UptoSaid'. A law counts once. -/
mutual
def uptoBulk {H : Type} : DataW H → Nat
  | .lit (.string bytes) => bytes.length + 1
  | .lit _ => 1
  | .nil => 1
  | .ptr d => uptoBulk d + 1
  | .slice elems spare => uptoBulkAll elems + uptoBulkAll spare + 1
  | .agg parts => uptoBulkAll parts + 1
  | .iface _ d => uptoBulk d + 1
  | .map entries => uptoBulkEntries entries + 1
  | .held _ => 1
def uptoBulkAll {H : Type} : List (DataW H) → Nat
  | [] => 0
  | d :: r => uptoBulk d + uptoBulkAll r
def uptoBulkEntries {H : Type} : List (Lit × DataW H) → Nat
  | [] => 0
  | x :: r => uptoBulkEntry x + uptoBulkEntries r
def uptoBulkEntry {H : Type} : Lit × DataW H → Nat
  | (.string bytes, d) => bytes.length + uptoBulk d + 1
  | (_, d) => uptoBulk d + 1
 end
def uptoSmall : (H : Type) → List (DataW H) → Bool := fun _ ds => decide (uptoBulkAll ds ≤ 1048576)
def OpenSpec.upto (s : _root_.Go.ChangeSpec) : _root_.Go.OpenSpec := { _root_.Go.OpenSpec.ofChange s with cond := some uptoSmall }

/-- 'tabardlaw20.GraphAfters', WHERE WHAT IT READS IS OF BULK AT MOST 1048576: true; the input reads as it did. -/
def graphAftersUptoRow : OpenClaim := { program := "ythggbjpanpnlnaa", sum := "998ca4681077d95b1ffd511cce2772694a0999c0235fd198bddfaabd4563e514", func := "tabard/tabardlaw20.GraphAfters", spec := "graphAfters", unfollowed := true, recurses := true, apart := false, narrowed := true }
def GraphAftersUptoSaid : Prop := graphAftersUptoRow.holds Try.pinned (OpenSpec.upto graphAftersSpec)

/-- 'tabardlaw20.GraphOrders', WHERE WHAT IT READS IS OF BULK AT MOST 1048576: true; the input reads as it did. -/
def graphOrdersUptoRow : OpenClaim := { program := "ythggbjpanpnlnaa", sum := "998ca4681077d95b1ffd511cce2772694a0999c0235fd198bddfaabd4563e514", func := "tabard/tabardlaw20.GraphOrders", spec := "graphOrders", unfollowed := true, recurses := true, apart := false, narrowed := true }
def GraphOrdersUptoSaid : Prop := graphOrdersUptoRow.holds Try.pinned (OpenSpec.upto graphOrdersSpec)

/-- 'tabardlaw20.GraphReaches', WHERE WHAT IT READS IS OF BULK AT MOST 1048576: true; the input reads as it did. -/
def graphReachesUptoRow : OpenClaim := { program := "ythggbjpanpnlnaa", sum := "998ca4681077d95b1ffd511cce2772694a0999c0235fd198bddfaabd4563e514", func := "tabard/tabardlaw20.GraphReaches", spec := "graphReaches", unfollowed := true, recurses := true, apart := false, narrowed := true }
def GraphReachesUptoSaid : Prop := graphReachesUptoRow.holds Try.pinned (OpenSpec.upto graphReachesSpec)

/-- 'tabardlaw20.GraphStands', WHERE WHAT IT READS IS OF BULK AT MOST 1048576: true; the input reads as it did. -/
def graphStandsUptoRow : OpenClaim := { program := "ythggbjpanpnlnaa", sum := "998ca4681077d95b1ffd511cce2772694a0999c0235fd198bddfaabd4563e514", func := "tabard/tabardlaw20.GraphStands", spec := "graphStands", unfollowed := true, recurses := true, apart := false, narrowed := true }
def GraphStandsUptoSaid : Prop := graphStandsUptoRow.holds Try.pinned (OpenSpec.upto graphStandsSpec)

/-- 'tabardlaw20.GraphSets', WHERE WHAT IT READS IS OF BULK AT MOST 1048576: true; the input reads as it did. -/
def graphSetsUptoRow : OpenClaim := { program := "ythggbjpanpnlnaa", sum := "998ca4681077d95b1ffd511cce2772694a0999c0235fd198bddfaabd4563e514", func := "tabard/tabardlaw20.GraphSets", spec := "graphSets", unfollowed := true, recurses := true, apart := false, narrowed := true }
def GraphSetsUptoSaid : Prop := graphSetsUptoRow.holds Try.pinned (OpenSpec.upto graphSetsSpec)

/-- 'tabardlaw20.GraphKeeps', WHERE WHAT IT READS IS OF BULK AT MOST 1048576: true; the input reads as it did. -/
def graphKeepsUptoRow : OpenClaim := { program := "ythggbjpanpnlnaa", sum := "998ca4681077d95b1ffd511cce2772694a0999c0235fd198bddfaabd4563e514", func := "tabard/tabardlaw20.GraphKeeps", spec := "graphKeeps", unfollowed := true, recurses := true, apart := false, narrowed := true }
def GraphKeepsUptoSaid : Prop := graphKeepsUptoRow.holds Try.pinned (OpenSpec.upto graphKeepsSpec)

end Rows
end Go.Proofs.Ythggbjpanpnlnaa
