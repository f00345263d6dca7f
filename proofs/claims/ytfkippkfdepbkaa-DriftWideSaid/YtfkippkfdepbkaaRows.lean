/-
  No cell of these rows narrows 'for every input' (looked for: loops, veiled, ifaces, maps, wideKeys, modest, calm, conditions, laid).
  DERIVED. THE GIVEN ROWS OF THIS SEAT. 6 by the template 'for every input the law returns true; each argument reads behind the call as it read before'; 0 by the template 'total and deterministic' (their statements: YtfkippkfdepbkaaTotals.lean).
  GIVEN WITH THE SEED: the statements are not yours to turn. If you find one false, say at which input.
  Laid BY PROGRAM, IN A SANDBOX (cutbox-rows.mjs): the forced cells as the released guide's own fill.sh prints them over the translation b81bfadef0c3b4a3… (all of the seat's roots in one cut). By AI agents, Wed Nov 11 2026. No macro, syntax, notation, axiom, sorry.
-/
import Derived.Test.YtfkippkfdepbkaaChecked
import GoSem.Claim
import GoSem.ClaimJoined
import GoSem.ClaimMapViews
import Derived.JoinedTies
import Derived.KernelRfl
namespace Go.Proofs.Ytfkippkfdepbkaa
/- THE CELL 'sum', in the pinned program and in every row, IS THE sha256 OF THE DUMP (.gsa) THAT YtfkippkfdepbkaaProg.lean LOADS. Nothing in Lean hashes anything: it is a label: what it is worth is what the hold of that sum in a sandbox is worth. -/
noncomputable def Try.pinned : Pinned := { name := "ytfkippkfdepbkaa", sum := "b81bfadef0c3b4a3b864eee4badec8788d2a22cd0aa1ebba2e7f02af58f3a480", checked := Try.checked }
namespace Rows
def none {H : Type} : Left H := { results := [], args := [] }

/-- 'lodestarlaw12.DriftChecks': WHATEVER THE INPUT: true; the input reads as it did. -/
def driftChecksSpec : ChangeSpec := { name := "driftChecks", fn := fun _ => fun
  | [d1, d2] => { results := [.lit (.bool true)], args := [d1, d2] }
  | _ => none }
def driftChecksRow : OpenClaim := { program := "ytfkippkfdepbkaa", sum := "b81bfadef0c3b4a3b864eee4badec8788d2a22cd0aa1ebba2e7f02af58f3a480", func := "lodestar/lodestarlaw12.DriftChecks", spec := "driftChecks", apart := false }
def DriftChecksSaid : Prop := driftChecksRow.holds Try.pinned (OpenSpec.ofChange driftChecksSpec)

/-- ITS FALSE NEIGHBOUR: 'it returns false'. Refute it at one input. -/
def driftChecksWrong : ChangeSpec := { name := "driftChecks", fn := fun _ => fun
  | [d1, d2] => { results := [.lit (.bool false)], args := [d1, d2] }
  | _ => none }
def DriftChecksWrongFalsely : Prop := driftChecksRow.holds Try.pinned (OpenSpec.ofChange driftChecksWrong)

/-- 'lodestarlaw12.DriftBounds': WHATEVER THE INPUT: true; the input reads as it did. -/
def driftBoundsSpec : ChangeSpec := { name := "driftBounds", fn := fun _ => fun
  | [d1, d2, d3] => { results := [.lit (.bool true)], args := [d1, d2, d3] }
  | _ => none }
def driftBoundsRow : OpenClaim := { program := "ytfkippkfdepbkaa", sum := "b81bfadef0c3b4a3b864eee4badec8788d2a22cd0aa1ebba2e7f02af58f3a480", func := "lodestar/lodestarlaw12.DriftBounds", spec := "driftBounds", apart := false }
def DriftBoundsSaid : Prop := driftBoundsRow.holds Try.pinned (OpenSpec.ofChange driftBoundsSpec)

/-- ITS FALSE NEIGHBOUR: 'it returns false'. Refute it at one input. -/
def driftBoundsWrong : ChangeSpec := { name := "driftBounds", fn := fun _ => fun
  | [d1, d2, d3] => { results := [.lit (.bool false)], args := [d1, d2, d3] }
  | _ => none }
def DriftBoundsWrongFalsely : Prop := driftBoundsRow.holds Try.pinned (OpenSpec.ofChange driftBoundsWrong)

/-- 'lodestarlaw12.DriftHolds': WHATEVER THE INPUT: true; the input reads as it did. -/
def driftHoldsSpec : ChangeSpec := { name := "driftHolds", fn := fun _ => fun
  | [d] => { results := [.lit (.bool true)], args := [d] }
  | _ => none }
def driftHoldsRow : OpenClaim := { program := "ytfkippkfdepbkaa", sum := "b81bfadef0c3b4a3b864eee4badec8788d2a22cd0aa1ebba2e7f02af58f3a480", func := "lodestar/lodestarlaw12.DriftHolds", spec := "driftHolds", apart := false }
def DriftHoldsSaid : Prop := driftHoldsRow.holds Try.pinned (OpenSpec.ofChange driftHoldsSpec)

/-- ITS FALSE NEIGHBOUR: 'it returns false'. Refute it at one input. -/
def driftHoldsWrong : ChangeSpec := { name := "driftHolds", fn := fun _ => fun
  | [d] => { results := [.lit (.bool false)], args := [d] }
  | _ => none }
def DriftHoldsWrongFalsely : Prop := driftHoldsRow.holds Try.pinned (OpenSpec.ofChange driftHoldsWrong)

/-- 'lodestarlaw12.DriftWide': WHATEVER THE INPUT: true; the input reads as it did. -/
def driftWideSpec : ChangeSpec := { name := "driftWide", fn := fun _ => fun
  | [d1, d2, d3] => { results := [.lit (.bool true)], args := [d1, d2, d3] }
  | _ => none }
def driftWideRow : OpenClaim := { program := "ytfkippkfdepbkaa", sum := "b81bfadef0c3b4a3b864eee4badec8788d2a22cd0aa1ebba2e7f02af58f3a480", func := "lodestar/lodestarlaw12.DriftWide", spec := "driftWide", apart := false }
def DriftWideSaid : Prop := driftWideRow.holds Try.pinned (OpenSpec.ofChange driftWideSpec)

/-- ITS FALSE NEIGHBOUR: 'it returns false'. Refute it at one input. -/
def driftWideWrong : ChangeSpec := { name := "driftWide", fn := fun _ => fun
  | [d1, d2, d3] => { results := [.lit (.bool false)], args := [d1, d2, d3] }
  | _ => none }
def DriftWideWrongFalsely : Prop := driftWideRow.holds Try.pinned (OpenSpec.ofChange driftWideWrong)

/-- 'lodestarlaw12.DriftWindow': WHATEVER THE INPUT: true; the input reads as it did. -/
def driftWindowSpec : ChangeSpec := { name := "driftWindow", fn := fun _ => fun
  | [d] => { results := [.lit (.bool true)], args := [d] }
  | _ => none }
def driftWindowRow : OpenClaim := { program := "ytfkippkfdepbkaa", sum := "b81bfadef0c3b4a3b864eee4badec8788d2a22cd0aa1ebba2e7f02af58f3a480", func := "lodestar/lodestarlaw12.DriftWindow", spec := "driftWindow", apart := false }
def DriftWindowSaid : Prop := driftWindowRow.holds Try.pinned (OpenSpec.ofChange driftWindowSpec)

/-- ITS FALSE NEIGHBOUR: 'it returns false'. Refute it at one input. -/
def driftWindowWrong : ChangeSpec := { name := "driftWindow", fn := fun _ => fun
  | [d] => { results := [.lit (.bool false)], args := [d] }
  | _ => none }
def DriftWindowWrongFalsely : Prop := driftWindowRow.holds Try.pinned (OpenSpec.ofChange driftWindowWrong)

/-- 'lodestarlaw12.DriftRight': WHATEVER THE INPUT: true; the input reads as it did. -/
def driftRightSpec : ChangeSpec := { name := "driftRight", fn := fun _ => fun
  | [d] => { results := [.lit (.bool true)], args := [d] }
  | _ => none }
def driftRightRow : OpenClaim := { program := "ytfkippkfdepbkaa", sum := "b81bfadef0c3b4a3b864eee4badec8788d2a22cd0aa1ebba2e7f02af58f3a480", func := "lodestar/lodestarlaw12.DriftRight", spec := "driftRight", apart := false }
def DriftRightSaid : Prop := driftRightRow.holds Try.pinned (OpenSpec.ofChange driftRightSpec)

/-- ITS FALSE NEIGHBOUR: 'it returns false'. Refute it at one input. -/
def driftRightWrong : ChangeSpec := { name := "driftRight", fn := fun _ => fun
  | [d] => { results := [.lit (.bool false)], args := [d] }
  | _ => none }
def DriftRightWrongFalsely : Prop := driftRightRow.holds Try.pinned (OpenSpec.ofChange driftRightWrong)

/- THE SECOND FORM. 'bulk': how many values and letters a reading holds, each counted each time it is reached (what is shared counts as often as it is met; a slice's spare places count too). A statement '..UptoSaid' is the law's where the arguments, and the package variables that the reading takes, are together of bulk at most 1048576: NARROWER than '..Said'. Prove '..Said' where nothing that the law and all that it calls make is longer than what came in: it says more and counts as full. Else prove '..UptoSaid'. A law counts once. -/
mutual
def uptoBulk {H : Type} : DataW H → Nat
  | .lit (.string bytes) => bytes.length + 1
  | .lit _ => 1
  | .nil => 1
  | .ptr d => uptoBulk d + 1
  | .slice elems spare => uptoBulkAll elems + uptoBulkAll spare + 1
  | .agg parts => uptoBulkAll parts + 1
  | .iface _ d => uptoBulk d + 1
  | .map entries => uptoBulkEntries entries + 1
  | .held _ => 1
def uptoBulkAll {H : Type} : List (DataW H) → Nat
  | [] => 0
  | d :: r => uptoBulk d + uptoBulkAll r
def uptoBulkEntries {H : Type} : List (Lit × DataW H) → Nat
  | [] => 0
  | x :: r => uptoBulkEntry x + uptoBulkEntries r
def uptoBulkEntry {H : Type} : Lit × DataW H → Nat
  | (.string bytes, d) => bytes.length + uptoBulk d + 1
  | (_, d) => uptoBulk d + 1
 end
def uptoSmall : (H : Type) → List (DataW H) → Bool := fun _ ds => decide (uptoBulkAll ds ≤ 1048576)
def OpenSpec.upto (s : _root_.Go.ChangeSpec) : _root_.Go.OpenSpec := { _root_.Go.OpenSpec.ofChange s with cond := some uptoSmall }

/-- 'lodestarlaw12.DriftChecks', WHERE WHAT IT READS IS OF BULK AT MOST 1048576: true; the input reads as it did. -/
def driftChecksUptoRow : OpenClaim := { program := "ytfkippkfdepbkaa", sum := "b81bfadef0c3b4a3b864eee4badec8788d2a22cd0aa1ebba2e7f02af58f3a480", func := "lodestar/lodestarlaw12.DriftChecks", spec := "driftChecks", apart := false, narrowed := true }
def DriftChecksUptoSaid : Prop := driftChecksUptoRow.holds Try.pinned (OpenSpec.upto driftChecksSpec)

/-- 'lodestarlaw12.DriftBounds', WHERE WHAT IT READS IS OF BULK AT MOST 1048576: true; the input reads as it did. -/
def driftBoundsUptoRow : OpenClaim := { program := "ytfkippkfdepbkaa", sum := "b81bfadef0c3b4a3b864eee4badec8788d2a22cd0aa1ebba2e7f02af58f3a480", func := "lodestar/lodestarlaw12.DriftBounds", spec := "driftBounds", apart := false, narrowed := true }
def DriftBoundsUptoSaid : Prop := driftBoundsUptoRow.holds Try.pinned (OpenSpec.upto driftBoundsSpec)

/-- 'lodestarlaw12.DriftHolds', WHERE WHAT IT READS IS OF BULK AT MOST 1048576: true; the input reads as it did. -/
def driftHoldsUptoRow : OpenClaim := { program := "ytfkippkfdepbkaa", sum := "b81bfadef0c3b4a3b864eee4badec8788d2a22cd0aa1ebba2e7f02af58f3a480", func := "lodestar/lodestarlaw12.DriftHolds", spec := "driftHolds", apart := false, narrowed := true }
def DriftHoldsUptoSaid : Prop := driftHoldsUptoRow.holds Try.pinned (OpenSpec.upto driftHoldsSpec)

/-- 'lodestarlaw12.DriftWide', WHERE WHAT IT READS IS OF BULK AT MOST 1048576: true; the input reads as it did. -/
def driftWideUptoRow : OpenClaim := { program := "ytfkippkfdepbkaa", sum := "b81bfadef0c3b4a3b864eee4badec8788d2a22cd0aa1ebba2e7f02af58f3a480", func := "lodestar/lodestarlaw12.DriftWide", spec := "driftWide", apart := false, narrowed := true }
def DriftWideUptoSaid : Prop := driftWideUptoRow.holds Try.pinned (OpenSpec.upto driftWideSpec)

/-- 'lodestarlaw12.DriftWindow', WHERE WHAT IT READS IS OF BULK AT MOST 1048576: true; the input reads as it did. -/
def driftWindowUptoRow : OpenClaim := { program := "ytfkippkfdepbkaa", sum := "b81bfadef0c3b4a3b864eee4badec8788d2a22cd0aa1ebba2e7f02af58f3a480", func := "lodestar/lodestarlaw12.DriftWindow", spec := "driftWindow", apart := false, narrowed := true }
def DriftWindowUptoSaid : Prop := driftWindowUptoRow.holds Try.pinned (OpenSpec.upto driftWindowSpec)

/-- 'lodestarlaw12.DriftRight', WHERE WHAT IT READS IS OF BULK AT MOST 1048576: true; the input reads as it did. -/
def driftRightUptoRow : OpenClaim := { program := "ytfkippkfdepbkaa", sum := "b81bfadef0c3b4a3b864eee4badec8788d2a22cd0aa1ebba2e7f02af58f3a480", func := "lodestar/lodestarlaw12.DriftRight", spec := "driftRight", apart := false, narrowed := true }
def DriftRightUptoSaid : Prop := driftRightUptoRow.holds Try.pinned (OpenSpec.upto driftRightSpec)

end Rows
end Go.Proofs.Ytfkippkfdepbkaa
