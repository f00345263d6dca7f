/-
  No cell of these rows narrows 'for every input' (looked for: loops, veiled, ifaces, maps, wideKeys, modest, calm, conditions, laid).
  DERIVED. THE GIVEN ROWS OF THIS SEAT. 5 by the template 'for every input the law returns true; each argument reads behind the call as it read before'; 0 by the template 'total and deterministic' (their statements: YteaiehoclgpdhaaTotals.lean).
  GIVEN WITH THE SEED: the statements are not yours to turn. If you find one false, say at which input.
  Laid BY PROGRAM, IN A SANDBOX (cutbox-rows.mjs): the forced cells as the released guide's own fill.sh prints them over the translation b0f00aaa245a2c23… (all of the seat's roots in one cut). By AI agents, Wed Nov 11 2026. No macro, syntax, notation, axiom, sorry.
-/
import Derived.Test.YteaiehoclgpdhaaChecked
import GoSem.Claim
import GoSem.ClaimJoined
import GoSem.ClaimMapViews
import Derived.JoinedTies
import Derived.KernelRfl
namespace Go.Proofs.Yteaiehoclgpdhaa
/- THE CELL 'sum', in the pinned program and in every row, IS THE sha256 OF THE DUMP (.gsa) THAT YteaiehoclgpdhaaProg.lean LOADS. Nothing in Lean hashes anything: it is a label: what it is worth is what the hold of that sum in a sandbox is worth. -/
noncomputable def Try.pinned : Pinned := { name := "yteaiehoclgpdhaa", sum := "b0f00aaa245a2c23fa3b2b54173e38ee5858d5fde39eb0267a9fa6c74bed0e4c", checked := Try.checked }
namespace Rows
def none {H : Type} : Left H := { results := [], args := [] }

/-- 'lodestarlaw02.SerialAdds': WHATEVER THE INPUT: true; the input reads as it did. -/
def serialAddsSpec : ChangeSpec := { name := "serialAdds", fn := fun _ => fun
  | [d1, d2] => { results := [.lit (.bool true)], args := [d1, d2] }
  | _ => none }
def serialAddsRow : OpenClaim := { program := "yteaiehoclgpdhaa", sum := "b0f00aaa245a2c23fa3b2b54173e38ee5858d5fde39eb0267a9fa6c74bed0e4c", func := "lodestar/lodestarlaw02.SerialAdds", spec := "serialAdds", apart := false }
def SerialAddsSaid : Prop := serialAddsRow.holds Try.pinned (OpenSpec.ofChange serialAddsSpec)

/-- ITS FALSE NEIGHBOUR: 'it returns false'. Refute it at one input. -/
def serialAddsWrong : ChangeSpec := { name := "serialAdds", fn := fun _ => fun
  | [d1, d2] => { results := [.lit (.bool false)], args := [d1, d2] }
  | _ => none }
def SerialAddsWrongFalsely : Prop := serialAddsRow.holds Try.pinned (OpenSpec.ofChange serialAddsWrong)

/-- 'lodestarlaw02.SerialCompares': WHATEVER THE INPUT: true; the input reads as it did. -/
def serialComparesSpec : ChangeSpec := { name := "serialCompares", fn := fun _ => fun
  | [d1, d2] => { results := [.lit (.bool true)], args := [d1, d2] }
  | _ => none }
def serialComparesRow : OpenClaim := { program := "yteaiehoclgpdhaa", sum := "b0f00aaa245a2c23fa3b2b54173e38ee5858d5fde39eb0267a9fa6c74bed0e4c", func := "lodestar/lodestarlaw02.SerialCompares", spec := "serialCompares", apart := false }
def SerialComparesSaid : Prop := serialComparesRow.holds Try.pinned (OpenSpec.ofChange serialComparesSpec)

/-- ITS FALSE NEIGHBOUR: 'it returns false'. Refute it at one input. -/
def serialComparesWrong : ChangeSpec := { name := "serialCompares", fn := fun _ => fun
  | [d1, d2] => { results := [.lit (.bool false)], args := [d1, d2] }
  | _ => none }
def SerialComparesWrongFalsely : Prop := serialComparesRow.holds Try.pinned (OpenSpec.ofChange serialComparesWrong)

/-- 'lodestarlaw02.SerialLater': WHATEVER THE INPUT: true; the input reads as it did. -/
def serialLaterSpec : ChangeSpec := { name := "serialLater", fn := fun _ => fun
  | [d1, d2, d3] => { results := [.lit (.bool true)], args := [d1, d2, d3] }
  | _ => none }
def serialLaterRow : OpenClaim := { program := "yteaiehoclgpdhaa", sum := "b0f00aaa245a2c23fa3b2b54173e38ee5858d5fde39eb0267a9fa6c74bed0e4c", func := "lodestar/lodestarlaw02.SerialLater", spec := "serialLater", apart := false }
def SerialLaterSaid : Prop := serialLaterRow.holds Try.pinned (OpenSpec.ofChange serialLaterSpec)

/-- ITS FALSE NEIGHBOUR: 'it returns false'. Refute it at one input. -/
def serialLaterWrong : ChangeSpec := { name := "serialLater", fn := fun _ => fun
  | [d1, d2, d3] => { results := [.lit (.bool false)], args := [d1, d2, d3] }
  | _ => none }
def SerialLaterWrongFalsely : Prop := serialLaterRow.holds Try.pinned (OpenSpec.ofChange serialLaterWrong)

/-- 'lodestarlaw02.SerialTurned': WHATEVER THE INPUT: true; the input reads as it did. -/
def serialTurnedSpec : ChangeSpec := { name := "serialTurned", fn := fun _ => fun
  | [d1, d2, d3] => { results := [.lit (.bool true)], args := [d1, d2, d3] }
  | _ => none }
def serialTurnedRow : OpenClaim := { program := "yteaiehoclgpdhaa", sum := "b0f00aaa245a2c23fa3b2b54173e38ee5858d5fde39eb0267a9fa6c74bed0e4c", func := "lodestar/lodestarlaw02.SerialTurned", spec := "serialTurned", apart := false }
def SerialTurnedSaid : Prop := serialTurnedRow.holds Try.pinned (OpenSpec.ofChange serialTurnedSpec)

/-- ITS FALSE NEIGHBOUR: 'it returns false'. Refute it at one input. -/
def serialTurnedWrong : ChangeSpec := { name := "serialTurned", fn := fun _ => fun
  | [d1, d2, d3] => { results := [.lit (.bool false)], args := [d1, d2, d3] }
  | _ => none }
def SerialTurnedWrongFalsely : Prop := serialTurnedRow.holds Try.pinned (OpenSpec.ofChange serialTurnedWrong)

/-- 'lodestarlaw02.SerialRound': WHATEVER THE INPUT: true; the input reads as it did. -/
def serialRoundSpec : ChangeSpec := { name := "serialRound", fn := fun _ => fun
  | [d1, d2] => { results := [.lit (.bool true)], args := [d1, d2] }
  | _ => none }
def serialRoundRow : OpenClaim := { program := "yteaiehoclgpdhaa", sum := "b0f00aaa245a2c23fa3b2b54173e38ee5858d5fde39eb0267a9fa6c74bed0e4c", func := "lodestar/lodestarlaw02.SerialRound", spec := "serialRound", apart := false }
def SerialRoundSaid : Prop := serialRoundRow.holds Try.pinned (OpenSpec.ofChange serialRoundSpec)

/-- ITS FALSE NEIGHBOUR: 'it returns false'. Refute it at one input. -/
def serialRoundWrong : ChangeSpec := { name := "serialRound", fn := fun _ => fun
  | [d1, d2] => { results := [.lit (.bool false)], args := [d1, d2] }
  | _ => none }
def SerialRoundWrongFalsely : Prop := serialRoundRow.holds Try.pinned (OpenSpec.ofChange serialRoundWrong)

/- THE SECOND FORM. 'bulk': how many values and letters a reading holds, each counted each time it is reached (what is shared counts as often as it is met; a slice's spare places count too). A statement '..UptoSaid' is the law's where the arguments, and the package variables that the reading takes, are together of bulk at most 1048576: NARROWER than '..Said'. Prove '..Said' where nothing that the law and all that it calls make is longer than what came in: it says more and counts as full. Else prove '..UptoSaid'. A law counts once. -/
mutual
def uptoBulk {H : Type} : DataW H → Nat
  | .lit (.string bytes) => bytes.length + 1
  | .lit _ => 1
  | .nil => 1
  | .ptr d => uptoBulk d + 1
  | .slice elems spare => uptoBulkAll elems + uptoBulkAll spare + 1
  | .agg parts => uptoBulkAll parts + 1
  | .iface _ d => uptoBulk d + 1
  | .map entries => uptoBulkEntries entries + 1
  | .held _ => 1
def uptoBulkAll {H : Type} : List (DataW H) → Nat
  | [] => 0
  | d :: r => uptoBulk d + uptoBulkAll r
def uptoBulkEntries {H : Type} : List (Lit × DataW H) → Nat
  | [] => 0
  | x :: r => uptoBulkEntry x + uptoBulkEntries r
def uptoBulkEntry {H : Type} : Lit × DataW H → Nat
  | (.string bytes, d) => bytes.length + uptoBulk d + 1
  | (_, d) => uptoBulk d + 1
 end
def uptoSmall : (H : Type) → List (DataW H) → Bool := fun _ ds => decide (uptoBulkAll ds ≤ 1048576)
def OpenSpec.upto (s : _root_.Go.ChangeSpec) : _root_.Go.OpenSpec := { _root_.Go.OpenSpec.ofChange s with cond := some uptoSmall }

/-- 'lodestarlaw02.SerialAdds', WHERE WHAT IT READS IS OF BULK AT MOST 1048576: true; the input reads as it did. -/
def serialAddsUptoRow : OpenClaim := { program := "yteaiehoclgpdhaa", sum := "b0f00aaa245a2c23fa3b2b54173e38ee5858d5fde39eb0267a9fa6c74bed0e4c", func := "lodestar/lodestarlaw02.SerialAdds", spec := "serialAdds", apart := false, narrowed := true }
def SerialAddsUptoSaid : Prop := serialAddsUptoRow.holds Try.pinned (OpenSpec.upto serialAddsSpec)

/-- 'lodestarlaw02.SerialCompares', WHERE WHAT IT READS IS OF BULK AT MOST 1048576: true; the input reads as it did. -/
def serialComparesUptoRow : OpenClaim := { program := "yteaiehoclgpdhaa", sum := "b0f00aaa245a2c23fa3b2b54173e38ee5858d5fde39eb0267a9fa6c74bed0e4c", func := "lodestar/lodestarlaw02.SerialCompares", spec := "serialCompares", apart := false, narrowed := true }
def SerialComparesUptoSaid : Prop := serialComparesUptoRow.holds Try.pinned (OpenSpec.upto serialComparesSpec)

/-- 'lodestarlaw02.SerialLater', WHERE WHAT IT READS IS OF BULK AT MOST 1048576: true; the input reads as it did. -/
def serialLaterUptoRow : OpenClaim := { program := "yteaiehoclgpdhaa", sum := "b0f00aaa245a2c23fa3b2b54173e38ee5858d5fde39eb0267a9fa6c74bed0e4c", func := "lodestar/lodestarlaw02.SerialLater", spec := "serialLater", apart := false, narrowed := true }
def SerialLaterUptoSaid : Prop := serialLaterUptoRow.holds Try.pinned (OpenSpec.upto serialLaterSpec)

/-- 'lodestarlaw02.SerialTurned', WHERE WHAT IT READS IS OF BULK AT MOST 1048576: true; the input reads as it did. -/
def serialTurnedUptoRow : OpenClaim := { program := "yteaiehoclgpdhaa", sum := "b0f00aaa245a2c23fa3b2b54173e38ee5858d5fde39eb0267a9fa6c74bed0e4c", func := "lodestar/lodestarlaw02.SerialTurned", spec := "serialTurned", apart := false, narrowed := true }
def SerialTurnedUptoSaid : Prop := serialTurnedUptoRow.holds Try.pinned (OpenSpec.upto serialTurnedSpec)

/-- 'lodestarlaw02.SerialRound', WHERE WHAT IT READS IS OF BULK AT MOST 1048576: true; the input reads as it did. -/
def serialRoundUptoRow : OpenClaim := { program := "yteaiehoclgpdhaa", sum := "b0f00aaa245a2c23fa3b2b54173e38ee5858d5fde39eb0267a9fa6c74bed0e4c", func := "lodestar/lodestarlaw02.SerialRound", spec := "serialRound", apart := false, narrowed := true }
def SerialRoundUptoSaid : Prop := serialRoundUptoRow.holds Try.pinned (OpenSpec.upto serialRoundSpec)

end Rows
end Go.Proofs.Yteaiehoclgpdhaa
