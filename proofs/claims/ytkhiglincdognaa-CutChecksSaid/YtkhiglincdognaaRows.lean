/-
  No cell of these rows narrows 'for every input' (looked for: loops, veiled, ifaces, maps, wideKeys, modest, calm, conditions, laid).
  DERIVED. THE GIVEN ROWS OF THIS SEAT. 10 by the template 'for every input the law returns true; each argument reads behind the call as it read before'; 0 by the template 'total and deterministic' (their statements: YtkhiglincdognaaTotals.lean).
  GIVEN WITH THE SEED: the statements are not yours to turn. If you find one false, say at which input.
  Laid BY PROGRAM, IN A SANDBOX (cutbox-rows.mjs): the forced cells as the released guide's own fill.sh prints them over the translation cf7e71a1acc05655… (all of the seat's roots in one cut). By AI agents, Wed Nov 11 2026. No macro, syntax, notation, axiom, sorry.
-/
import Derived.Test.YtkhiglincdognaaChecked
import GoSem.Claim
import GoSem.ClaimJoined
import GoSem.ClaimMapViews
import Derived.JoinedTies
import Derived.KernelRfl
namespace Go.Proofs.Ytkhiglincdognaa
/- THE CELL 'sum', in the pinned program and in every row, IS THE sha256 OF THE DUMP (.gsa) THAT YtkhiglincdognaaProg.lean LOADS. Nothing in Lean hashes anything: it is a label: what it is worth is what the hold of that sum in a sandbox is worth. -/
noncomputable def Try.pinned : Pinned := { name := "ytkhiglincdognaa", sum := "cf7e71a1acc0565573911129b46ba8bb78e078e74f642402043d1700898da3ab", checked := Try.checked }
namespace Rows
def none {H : Type} : Left H := { results := [], args := [] }

/-- 'partsynclaw21.CutLattice': WHATEVER THE INPUT: true; the input reads as it did. -/
def cutLatticeSpec : ChangeSpec := { name := "cutLattice", fn := fun _ => fun
  | [d] => { results := [.lit (.bool true)], args := [d] }
  | _ => none }
def cutLatticeRow : OpenClaim := { program := "ytkhiglincdognaa", sum := "cf7e71a1acc0565573911129b46ba8bb78e078e74f642402043d1700898da3ab", func := "partsync/partsynclaw21.CutLattice", spec := "cutLattice", apart := false }
def CutLatticeSaid : Prop := cutLatticeRow.holds Try.pinned (OpenSpec.ofChange cutLatticeSpec)

/-- ITS FALSE NEIGHBOUR: 'it returns false'. Refute it at one input. -/
def cutLatticeWrong : ChangeSpec := { name := "cutLattice", fn := fun _ => fun
  | [d] => { results := [.lit (.bool false)], args := [d] }
  | _ => none }
def CutLatticeWrongFalsely : Prop := cutLatticeRow.holds Try.pinned (OpenSpec.ofChange cutLatticeWrong)

/-- 'partsynclaw21.CutPrefixes': WHATEVER THE INPUT: true; the input reads as it did. -/
def cutPrefixesSpec : ChangeSpec := { name := "cutPrefixes", fn := fun _ => fun
  | [d] => { results := [.lit (.bool true)], args := [d] }
  | _ => none }
def cutPrefixesRow : OpenClaim := { program := "ytkhiglincdognaa", sum := "cf7e71a1acc0565573911129b46ba8bb78e078e74f642402043d1700898da3ab", func := "partsync/partsynclaw21.CutPrefixes", spec := "cutPrefixes", unfollowed := true, recurses := true, apart := false }
def CutPrefixesSaid : Prop := cutPrefixesRow.holds Try.pinned (OpenSpec.ofChange cutPrefixesSpec)

/-- ITS FALSE NEIGHBOUR: 'it returns false'. Refute it at one input. -/
def cutPrefixesWrong : ChangeSpec := { name := "cutPrefixes", fn := fun _ => fun
  | [d] => { results := [.lit (.bool false)], args := [d] }
  | _ => none }
def CutPrefixesWrongFalsely : Prop := cutPrefixesRow.holds Try.pinned (OpenSpec.ofChange cutPrefixesWrong)

/-- 'partsynclaw21.CutChecks': WHATEVER THE INPUT: true; the input reads as it did. -/
def cutChecksSpec : ChangeSpec := { name := "cutChecks", fn := fun _ => fun
  | [d1, d2, d3, d4, d5] => { results := [.lit (.bool true)], args := [d1, d2, d3, d4, d5] }
  | _ => none }
def cutChecksRow : OpenClaim := { program := "ytkhiglincdognaa", sum := "cf7e71a1acc0565573911129b46ba8bb78e078e74f642402043d1700898da3ab", func := "partsync/partsynclaw21.CutChecks", spec := "cutChecks", apart := false }
def CutChecksSaid : Prop := cutChecksRow.holds Try.pinned (OpenSpec.ofChange cutChecksSpec)

/-- ITS FALSE NEIGHBOUR: 'it returns false'. Refute it at one input. -/
def cutChecksWrong : ChangeSpec := { name := "cutChecks", fn := fun _ => fun
  | [d1, d2, d3, d4, d5] => { results := [.lit (.bool false)], args := [d1, d2, d3, d4, d5] }
  | _ => none }
def CutChecksWrongFalsely : Prop := cutChecksRow.holds Try.pinned (OpenSpec.ofChange cutChecksWrong)

/-- 'partsynclaw21.CutWholes': WHATEVER THE INPUT: true; the input reads as it did. -/
def cutWholesSpec : ChangeSpec := { name := "cutWholes", fn := fun _ => fun
  | [d1, d2, d3, d4] => { results := [.lit (.bool true)], args := [d1, d2, d3, d4] }
  | _ => none }
def cutWholesRow : OpenClaim := { program := "ytkhiglincdognaa", sum := "cf7e71a1acc0565573911129b46ba8bb78e078e74f642402043d1700898da3ab", func := "partsync/partsynclaw21.CutWholes", spec := "cutWholes", apart := false }
def CutWholesSaid : Prop := cutWholesRow.holds Try.pinned (OpenSpec.ofChange cutWholesSpec)

/-- ITS FALSE NEIGHBOUR: 'it returns false'. Refute it at one input. -/
def cutWholesWrong : ChangeSpec := { name := "cutWholes", fn := fun _ => fun
  | [d1, d2, d3, d4] => { results := [.lit (.bool false)], args := [d1, d2, d3, d4] }
  | _ => none }
def CutWholesWrongFalsely : Prop := cutWholesRow.holds Try.pinned (OpenSpec.ofChange cutWholesWrong)

/-- 'partsynclaw21.CutRecovers': WHATEVER THE INPUT: true; the input reads as it did. -/
def cutRecoversSpec : ChangeSpec := { name := "cutRecovers", fn := fun _ => fun
  | [d] => { results := [.lit (.bool true)], args := [d] }
  | _ => none }
def cutRecoversRow : OpenClaim := { program := "ytkhiglincdognaa", sum := "cf7e71a1acc0565573911129b46ba8bb78e078e74f642402043d1700898da3ab", func := "partsync/partsynclaw21.CutRecovers", spec := "cutRecovers", apart := false }
def CutRecoversSaid : Prop := cutRecoversRow.holds Try.pinned (OpenSpec.ofChange cutRecoversSpec)

/-- ITS FALSE NEIGHBOUR: 'it returns false'. Refute it at one input. -/
def cutRecoversWrong : ChangeSpec := { name := "cutRecovers", fn := fun _ => fun
  | [d] => { results := [.lit (.bool false)], args := [d] }
  | _ => none }
def CutRecoversWrongFalsely : Prop := cutRecoversRow.holds Try.pinned (OpenSpec.ofChange cutRecoversWrong)

/-- 'partsynclaw21.CutCloses': WHATEVER THE INPUT: true; the input reads as it did. -/
def cutClosesSpec : ChangeSpec := { name := "cutCloses", fn := fun _ => fun
  | [d1, d2, d3, d4] => { results := [.lit (.bool true)], args := [d1, d2, d3, d4] }
  | _ => none }
def cutClosesRow : OpenClaim := { program := "ytkhiglincdognaa", sum := "cf7e71a1acc0565573911129b46ba8bb78e078e74f642402043d1700898da3ab", func := "partsync/partsynclaw21.CutCloses", spec := "cutCloses", apart := false }
def CutClosesSaid : Prop := cutClosesRow.holds Try.pinned (OpenSpec.ofChange cutClosesSpec)

/-- ITS FALSE NEIGHBOUR: 'it returns false'. Refute it at one input. -/
def cutClosesWrong : ChangeSpec := { name := "cutCloses", fn := fun _ => fun
  | [d1, d2, d3, d4] => { results := [.lit (.bool false)], args := [d1, d2, d3, d4] }
  | _ => none }
def CutClosesWrongFalsely : Prop := cutClosesRow.holds Try.pinned (OpenSpec.ofChange cutClosesWrong)

/-- 'partsynclaw21.CutOfs': WHATEVER THE INPUT: true; the input reads as it did. -/
def cutOfsSpec : ChangeSpec := { name := "cutOfs", fn := fun _ => fun
  | [d1, d2, d3, d4] => { results := [.lit (.bool true)], args := [d1, d2, d3, d4] }
  | _ => none }
def cutOfsRow : OpenClaim := { program := "ytkhiglincdognaa", sum := "cf7e71a1acc0565573911129b46ba8bb78e078e74f642402043d1700898da3ab", func := "partsync/partsynclaw21.CutOfs", spec := "cutOfs", unfollowed := true, recurses := true, apart := false }
def CutOfsSaid : Prop := cutOfsRow.holds Try.pinned (OpenSpec.ofChange cutOfsSpec)

/-- ITS FALSE NEIGHBOUR: 'it returns false'. Refute it at one input. -/
def cutOfsWrong : ChangeSpec := { name := "cutOfs", fn := fun _ => fun
  | [d1, d2, d3, d4] => { results := [.lit (.bool false)], args := [d1, d2, d3, d4] }
  | _ => none }
def CutOfsWrongFalsely : Prop := cutOfsRow.holds Try.pinned (OpenSpec.ofChange cutOfsWrong)

/-- 'partsynclaw21.CutJoins': WHATEVER THE INPUT: true; the input reads as it did. -/
def cutJoinsSpec : ChangeSpec := { name := "cutJoins", fn := fun _ => fun
  | [d] => { results := [.lit (.bool true)], args := [d] }
  | _ => none }
def cutJoinsRow : OpenClaim := { program := "ytkhiglincdognaa", sum := "cf7e71a1acc0565573911129b46ba8bb78e078e74f642402043d1700898da3ab", func := "partsync/partsynclaw21.CutJoins", spec := "cutJoins", apart := false }
def CutJoinsSaid : Prop := cutJoinsRow.holds Try.pinned (OpenSpec.ofChange cutJoinsSpec)

/-- ITS FALSE NEIGHBOUR: 'it returns false'. Refute it at one input. -/
def cutJoinsWrong : ChangeSpec := { name := "cutJoins", fn := fun _ => fun
  | [d] => { results := [.lit (.bool false)], args := [d] }
  | _ => none }
def CutJoinsWrongFalsely : Prop := cutJoinsRow.holds Try.pinned (OpenSpec.ofChange cutJoinsWrong)

/-- 'partsynclaw21.CutGreatest': WHATEVER THE INPUT: true; the input reads as it did. -/
def cutGreatestSpec : ChangeSpec := { name := "cutGreatest", fn := fun _ => fun
  | [d] => { results := [.lit (.bool true)], args := [d] }
  | _ => none }
def cutGreatestRow : OpenClaim := { program := "ytkhiglincdognaa", sum := "cf7e71a1acc0565573911129b46ba8bb78e078e74f642402043d1700898da3ab", func := "partsync/partsynclaw21.CutGreatest", spec := "cutGreatest", apart := false }
def CutGreatestSaid : Prop := cutGreatestRow.holds Try.pinned (OpenSpec.ofChange cutGreatestSpec)

/-- ITS FALSE NEIGHBOUR: 'it returns false'. Refute it at one input. -/
def cutGreatestWrong : ChangeSpec := { name := "cutGreatest", fn := fun _ => fun
  | [d] => { results := [.lit (.bool false)], args := [d] }
  | _ => none }
def CutGreatestWrongFalsely : Prop := cutGreatestRow.holds Try.pinned (OpenSpec.ofChange cutGreatestWrong)

/-- 'partsynclaw21.CutOrders': WHATEVER THE INPUT: true; the input reads as it did. -/
def cutOrdersSpec : ChangeSpec := { name := "cutOrders", fn := fun _ => fun
  | [d1, d2, d3] => { results := [.lit (.bool true)], args := [d1, d2, d3] }
  | _ => none }
def cutOrdersRow : OpenClaim := { program := "ytkhiglincdognaa", sum := "cf7e71a1acc0565573911129b46ba8bb78e078e74f642402043d1700898da3ab", func := "partsync/partsynclaw21.CutOrders", spec := "cutOrders", apart := false }
def CutOrdersSaid : Prop := cutOrdersRow.holds Try.pinned (OpenSpec.ofChange cutOrdersSpec)

/-- ITS FALSE NEIGHBOUR: 'it returns false'. Refute it at one input. -/
def cutOrdersWrong : ChangeSpec := { name := "cutOrders", fn := fun _ => fun
  | [d1, d2, d3] => { results := [.lit (.bool false)], args := [d1, d2, d3] }
  | _ => none }
def CutOrdersWrongFalsely : Prop := cutOrdersRow.holds Try.pinned (OpenSpec.ofChange cutOrdersWrong)

/- THE SECOND FORM. 'bulk': how many values and letters a reading holds, each counted each time it is reached (what is shared counts as often as it is met; a slice's spare places count too). A statement '..UptoSaid' is the law's where the arguments, and the package variables that the reading takes, are together of bulk at most 1048576: NARROWER than '..Said'. Prove '..Said' where nothing that the law and all that it calls make is longer than what came in: it says more and counts as full. Else prove '..UptoSaid'. A law counts once. -/
mutual
def uptoBulk {H : Type} : DataW H → Nat
  | .lit (.string bytes) => bytes.length + 1
  | .lit _ => 1
  | .nil => 1
  | .ptr d => uptoBulk d + 1
  | .slice elems spare => uptoBulkAll elems + uptoBulkAll spare + 1
  | .agg parts => uptoBulkAll parts + 1
  | .iface _ d => uptoBulk d + 1
  | .map entries => uptoBulkEntries entries + 1
  | .held _ => 1
def uptoBulkAll {H : Type} : List (DataW H) → Nat
  | [] => 0
  | d :: r => uptoBulk d + uptoBulkAll r
def uptoBulkEntries {H : Type} : List (Lit × DataW H) → Nat
  | [] => 0
  | x :: r => uptoBulkEntry x + uptoBulkEntries r
def uptoBulkEntry {H : Type} : Lit × DataW H → Nat
  | (.string bytes, d) => bytes.length + uptoBulk d + 1
  | (_, d) => uptoBulk d + 1
 end
def uptoSmall : (H : Type) → List (DataW H) → Bool := fun _ ds => decide (uptoBulkAll ds ≤ 1048576)
def OpenSpec.upto (s : _root_.Go.ChangeSpec) : _root_.Go.OpenSpec := { _root_.Go.OpenSpec.ofChange s with cond := some uptoSmall }

/-- 'partsynclaw21.CutLattice', WHERE WHAT IT READS IS OF BULK AT MOST 1048576: true; the input reads as it did. -/
def cutLatticeUptoRow : OpenClaim := { program := "ytkhiglincdognaa", sum := "cf7e71a1acc0565573911129b46ba8bb78e078e74f642402043d1700898da3ab", func := "partsync/partsynclaw21.CutLattice", spec := "cutLattice", apart := false, narrowed := true }
def CutLatticeUptoSaid : Prop := cutLatticeUptoRow.holds Try.pinned (OpenSpec.upto cutLatticeSpec)

/-- 'partsynclaw21.CutPrefixes', WHERE WHAT IT READS IS OF BULK AT MOST 1048576: true; the input reads as it did. -/
def cutPrefixesUptoRow : OpenClaim := { program := "ytkhiglincdognaa", sum := "cf7e71a1acc0565573911129b46ba8bb78e078e74f642402043d1700898da3ab", func := "partsync/partsynclaw21.CutPrefixes", spec := "cutPrefixes", unfollowed := true, recurses := true, apart := false, narrowed := true }
def CutPrefixesUptoSaid : Prop := cutPrefixesUptoRow.holds Try.pinned (OpenSpec.upto cutPrefixesSpec)

/-- 'partsynclaw21.CutChecks', WHERE WHAT IT READS IS OF BULK AT MOST 1048576: true; the input reads as it did. -/
def cutChecksUptoRow : OpenClaim := { program := "ytkhiglincdognaa", sum := "cf7e71a1acc0565573911129b46ba8bb78e078e74f642402043d1700898da3ab", func := "partsync/partsynclaw21.CutChecks", spec := "cutChecks", apart := false, narrowed := true }
def CutChecksUptoSaid : Prop := cutChecksUptoRow.holds Try.pinned (OpenSpec.upto cutChecksSpec)

/-- 'partsynclaw21.CutWholes', WHERE WHAT IT READS IS OF BULK AT MOST 1048576: true; the input reads as it did. -/
def cutWholesUptoRow : OpenClaim := { program := "ytkhiglincdognaa", sum := "cf7e71a1acc0565573911129b46ba8bb78e078e74f642402043d1700898da3ab", func := "partsync/partsynclaw21.CutWholes", spec := "cutWholes", apart := false, narrowed := true }
def CutWholesUptoSaid : Prop := cutWholesUptoRow.holds Try.pinned (OpenSpec.upto cutWholesSpec)

/-- 'partsynclaw21.CutRecovers', WHERE WHAT IT READS IS OF BULK AT MOST 1048576: true; the input reads as it did. -/
def cutRecoversUptoRow : OpenClaim := { program := "ytkhiglincdognaa", sum := "cf7e71a1acc0565573911129b46ba8bb78e078e74f642402043d1700898da3ab", func := "partsync/partsynclaw21.CutRecovers", spec := "cutRecovers", apart := false, narrowed := true }
def CutRecoversUptoSaid : Prop := cutRecoversUptoRow.holds Try.pinned (OpenSpec.upto cutRecoversSpec)

/-- 'partsynclaw21.CutCloses', WHERE WHAT IT READS IS OF BULK AT MOST 1048576: true; the input reads as it did. -/
def cutClosesUptoRow : OpenClaim := { program := "ytkhiglincdognaa", sum := "cf7e71a1acc0565573911129b46ba8bb78e078e74f642402043d1700898da3ab", func := "partsync/partsynclaw21.CutCloses", spec := "cutCloses", apart := false, narrowed := true }
def CutClosesUptoSaid : Prop := cutClosesUptoRow.holds Try.pinned (OpenSpec.upto cutClosesSpec)

/-- 'partsynclaw21.CutOfs', WHERE WHAT IT READS IS OF BULK AT MOST 1048576: true; the input reads as it did. -/
def cutOfsUptoRow : OpenClaim := { program := "ytkhiglincdognaa", sum := "cf7e71a1acc0565573911129b46ba8bb78e078e74f642402043d1700898da3ab", func := "partsync/partsynclaw21.CutOfs", spec := "cutOfs", unfollowed := true, recurses := true, apart := false, narrowed := true }
def CutOfsUptoSaid : Prop := cutOfsUptoRow.holds Try.pinned (OpenSpec.upto cutOfsSpec)

/-- 'partsynclaw21.CutJoins', WHERE WHAT IT READS IS OF BULK AT MOST 1048576: true; the input reads as it did. -/
def cutJoinsUptoRow : OpenClaim := { program := "ytkhiglincdognaa", sum := "cf7e71a1acc0565573911129b46ba8bb78e078e74f642402043d1700898da3ab", func := "partsync/partsynclaw21.CutJoins", spec := "cutJoins", apart := false, narrowed := true }
def CutJoinsUptoSaid : Prop := cutJoinsUptoRow.holds Try.pinned (OpenSpec.upto cutJoinsSpec)

/-- 'partsynclaw21.CutGreatest', WHERE WHAT IT READS IS OF BULK AT MOST 1048576: true; the input reads as it did. -/
def cutGreatestUptoRow : OpenClaim := { program := "ytkhiglincdognaa", sum := "cf7e71a1acc0565573911129b46ba8bb78e078e74f642402043d1700898da3ab", func := "partsync/partsynclaw21.CutGreatest", spec := "cutGreatest", apart := false, narrowed := true }
def CutGreatestUptoSaid : Prop := cutGreatestUptoRow.holds Try.pinned (OpenSpec.upto cutGreatestSpec)

/-- 'partsynclaw21.CutOrders', WHERE WHAT IT READS IS OF BULK AT MOST 1048576: true; the input reads as it did. -/
def cutOrdersUptoRow : OpenClaim := { program := "ytkhiglincdognaa", sum := "cf7e71a1acc0565573911129b46ba8bb78e078e74f642402043d1700898da3ab", func := "partsync/partsynclaw21.CutOrders", spec := "cutOrders", apart := false, narrowed := true }
def CutOrdersUptoSaid : Prop := cutOrdersUptoRow.holds Try.pinned (OpenSpec.upto cutOrdersSpec)

end Rows
end Go.Proofs.Ytkhiglincdognaa
