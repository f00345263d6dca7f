/-
  No cell of these rows narrows 'for every input' (looked for: loops, veiled, ifaces, maps, wideKeys, modest, calm, conditions, laid).
  DERIVED. THE GIVEN ROWS OF THIS SEAT. 5 by the template 'for every input the law returns true; each argument reads behind the call as it read before'; 0 by the template 'total and deterministic' (their statements: YtbghjmgijjhihaaTotals.lean).
  GIVEN WITH THE SEED: the statements are not yours to turn. If you find one false, say at which input.
  Laid BY PROGRAM, IN A SANDBOX (cutbox-rows.mjs): the forced cells as the released guide's own fill.sh prints them over the translation 3e0824200c1c35fc… (all of the seat's roots in one cut). By AI agents, Wed Nov 11 2026. No macro, syntax, notation, axiom, sorry.
-/
import Derived.Test.YtbghjmgijjhihaaChecked
import GoSem.Claim
import GoSem.ClaimJoined
import GoSem.ClaimMapViews
import Derived.JoinedTies
import Derived.KernelRfl
namespace Go.Proofs.Ytbghjmgijjhihaa
/- THE CELL 'sum', in the pinned program and in every row, IS THE sha256 OF THE DUMP (.gsa) THAT YtbghjmgijjhihaaProg.lean LOADS. Nothing in Lean hashes anything: it is a label: what it is worth is what the hold of that sum in a sandbox is worth. -/
noncomputable def Try.pinned : Pinned := { name := "ytbghjmgijjhihaa", sum := "3e0824200c1c35fc58cb4944037f2391bda74f78cb887ab786362dd079a84f8b", checked := Try.checked }
namespace Rows
def none {H : Type} : Left H := { results := [], args := [] }

/-- 'lodestarlaw06.StreamCut': WHATEVER THE INPUT: true; the input reads as it did. -/
def streamCutSpec : ChangeSpec := { name := "streamCut", fn := fun _ => fun
  | [d1, d2] => { results := [.lit (.bool true)], args := [d1, d2] }
  | _ => none }
def streamCutRow : OpenClaim := { program := "ytbghjmgijjhihaa", sum := "3e0824200c1c35fc58cb4944037f2391bda74f78cb887ab786362dd079a84f8b", func := "lodestar/lodestarlaw06.StreamCut", spec := "streamCut", apart := false }
def StreamCutSaid : Prop := streamCutRow.holds Try.pinned (OpenSpec.ofChange streamCutSpec)

/-- ITS FALSE NEIGHBOUR: 'it returns false'. Refute it at one input. -/
def streamCutWrong : ChangeSpec := { name := "streamCut", fn := fun _ => fun
  | [d1, d2] => { results := [.lit (.bool false)], args := [d1, d2] }
  | _ => none }
def StreamCutWrongFalsely : Prop := streamCutRow.holds Try.pinned (OpenSpec.ofChange streamCutWrong)

/-- 'lodestarlaw06.StreamOne': WHATEVER THE INPUT: true; the input reads as it did. -/
def streamOneSpec : ChangeSpec := { name := "streamOne", fn := fun _ => fun
  | [d1, d2] => { results := [.lit (.bool true)], args := [d1, d2] }
  | _ => none }
def streamOneRow : OpenClaim := { program := "ytbghjmgijjhihaa", sum := "3e0824200c1c35fc58cb4944037f2391bda74f78cb887ab786362dd079a84f8b", func := "lodestar/lodestarlaw06.StreamOne", spec := "streamOne", apart := false }
def StreamOneSaid : Prop := streamOneRow.holds Try.pinned (OpenSpec.ofChange streamOneSpec)

/-- ITS FALSE NEIGHBOUR: 'it returns false'. Refute it at one input. -/
def streamOneWrong : ChangeSpec := { name := "streamOne", fn := fun _ => fun
  | [d1, d2] => { results := [.lit (.bool false)], args := [d1, d2] }
  | _ => none }
def StreamOneWrongFalsely : Prop := streamOneRow.holds Try.pinned (OpenSpec.ofChange streamOneWrong)

/-- 'lodestarlaw06.StreamPacks': WHATEVER THE INPUT: true; the input reads as it did. -/
def streamPacksSpec : ChangeSpec := { name := "streamPacks", fn := fun _ => fun
  | [d] => { results := [.lit (.bool true)], args := [d] }
  | _ => none }
def streamPacksRow : OpenClaim := { program := "ytbghjmgijjhihaa", sum := "3e0824200c1c35fc58cb4944037f2391bda74f78cb887ab786362dd079a84f8b", func := "lodestar/lodestarlaw06.StreamPacks", spec := "streamPacks", apart := false }
def StreamPacksSaid : Prop := streamPacksRow.holds Try.pinned (OpenSpec.ofChange streamPacksSpec)

/-- ITS FALSE NEIGHBOUR: 'it returns false'. Refute it at one input. -/
def streamPacksWrong : ChangeSpec := { name := "streamPacks", fn := fun _ => fun
  | [d] => { results := [.lit (.bool false)], args := [d] }
  | _ => none }
def StreamPacksWrongFalsely : Prop := streamPacksRow.holds Try.pinned (OpenSpec.ofChange streamPacksWrong)

/-- 'lodestarlaw06.StreamFeeds': WHATEVER THE INPUT: true; the input reads as it did. -/
def streamFeedsSpec : ChangeSpec := { name := "streamFeeds", fn := fun _ => fun
  | [d] => { results := [.lit (.bool true)], args := [d] }
  | _ => none }
def streamFeedsRow : OpenClaim := { program := "ytbghjmgijjhihaa", sum := "3e0824200c1c35fc58cb4944037f2391bda74f78cb887ab786362dd079a84f8b", func := "lodestar/lodestarlaw06.StreamFeeds", spec := "streamFeeds", apart := false }
def StreamFeedsSaid : Prop := streamFeedsRow.holds Try.pinned (OpenSpec.ofChange streamFeedsSpec)

/-- ITS FALSE NEIGHBOUR: 'it returns false'. Refute it at one input. -/
def streamFeedsWrong : ChangeSpec := { name := "streamFeeds", fn := fun _ => fun
  | [d] => { results := [.lit (.bool false)], args := [d] }
  | _ => none }
def StreamFeedsWrongFalsely : Prop := streamFeedsRow.holds Try.pinned (OpenSpec.ofChange streamFeedsWrong)

/-- 'lodestarlaw06.StreamNil': WHATEVER THE INPUT: true; the input reads as it did. -/
def streamNilSpec : ChangeSpec := { name := "streamNil", fn := fun _ => fun
  | [d] => { results := [.lit (.bool true)], args := [d] }
  | _ => none }
def streamNilRow : OpenClaim := { program := "ytbghjmgijjhihaa", sum := "3e0824200c1c35fc58cb4944037f2391bda74f78cb887ab786362dd079a84f8b", func := "lodestar/lodestarlaw06.StreamNil", spec := "streamNil", apart := false }
def StreamNilSaid : Prop := streamNilRow.holds Try.pinned (OpenSpec.ofChange streamNilSpec)

/-- ITS FALSE NEIGHBOUR: 'it returns false'. Refute it at one input. -/
def streamNilWrong : ChangeSpec := { name := "streamNil", fn := fun _ => fun
  | [d] => { results := [.lit (.bool false)], args := [d] }
  | _ => none }
def StreamNilWrongFalsely : Prop := streamNilRow.holds Try.pinned (OpenSpec.ofChange streamNilWrong)

/- THE SECOND FORM. 'bulk': how many values and letters a reading holds, each counted each time it is reached (what is shared counts as often as it is met; a slice's spare places count too). A statement '..UptoSaid' is the law's where the arguments, and the package variables that the reading takes, are together of bulk at most 1048576: NARROWER than '..Said'. Prove '..Said' where nothing that the law and all that it calls make is longer than what came in: it says more and counts as full. Else prove '..UptoSaid'. A law counts once. -/
mutual
def uptoBulk {H : Type} : DataW H → Nat
  | .lit (.string bytes) => bytes.length + 1
  | .lit _ => 1
  | .nil => 1
  | .ptr d => uptoBulk d + 1
  | .slice elems spare => uptoBulkAll elems + uptoBulkAll spare + 1
  | .agg parts => uptoBulkAll parts + 1
  | .iface _ d => uptoBulk d + 1
  | .map entries => uptoBulkEntries entries + 1
  | .held _ => 1
def uptoBulkAll {H : Type} : List (DataW H) → Nat
  | [] => 0
  | d :: r => uptoBulk d + uptoBulkAll r
def uptoBulkEntries {H : Type} : List (Lit × DataW H) → Nat
  | [] => 0
  | x :: r => uptoBulkEntry x + uptoBulkEntries r
def uptoBulkEntry {H : Type} : Lit × DataW H → Nat
  | (.string bytes, d) => bytes.length + uptoBulk d + 1
  | (_, d) => uptoBulk d + 1
 end
def uptoSmall : (H : Type) → List (DataW H) → Bool := fun _ ds => decide (uptoBulkAll ds ≤ 1048576)
def OpenSpec.upto (s : _root_.Go.ChangeSpec) : _root_.Go.OpenSpec := { _root_.Go.OpenSpec.ofChange s with cond := some uptoSmall }

/-- 'lodestarlaw06.StreamCut', WHERE WHAT IT READS IS OF BULK AT MOST 1048576: true; the input reads as it did. -/
def streamCutUptoRow : OpenClaim := { program := "ytbghjmgijjhihaa", sum := "3e0824200c1c35fc58cb4944037f2391bda74f78cb887ab786362dd079a84f8b", func := "lodestar/lodestarlaw06.StreamCut", spec := "streamCut", apart := false, narrowed := true }
def StreamCutUptoSaid : Prop := streamCutUptoRow.holds Try.pinned (OpenSpec.upto streamCutSpec)

/-- 'lodestarlaw06.StreamOne', WHERE WHAT IT READS IS OF BULK AT MOST 1048576: true; the input reads as it did. -/
def streamOneUptoRow : OpenClaim := { program := "ytbghjmgijjhihaa", sum := "3e0824200c1c35fc58cb4944037f2391bda74f78cb887ab786362dd079a84f8b", func := "lodestar/lodestarlaw06.StreamOne", spec := "streamOne", apart := false, narrowed := true }
def StreamOneUptoSaid : Prop := streamOneUptoRow.holds Try.pinned (OpenSpec.upto streamOneSpec)

/-- 'lodestarlaw06.StreamPacks', WHERE WHAT IT READS IS OF BULK AT MOST 1048576: true; the input reads as it did. -/
def streamPacksUptoRow : OpenClaim := { program := "ytbghjmgijjhihaa", sum := "3e0824200c1c35fc58cb4944037f2391bda74f78cb887ab786362dd079a84f8b", func := "lodestar/lodestarlaw06.StreamPacks", spec := "streamPacks", apart := false, narrowed := true }
def StreamPacksUptoSaid : Prop := streamPacksUptoRow.holds Try.pinned (OpenSpec.upto streamPacksSpec)

/-- 'lodestarlaw06.StreamFeeds', WHERE WHAT IT READS IS OF BULK AT MOST 1048576: true; the input reads as it did. -/
def streamFeedsUptoRow : OpenClaim := { program := "ytbghjmgijjhihaa", sum := "3e0824200c1c35fc58cb4944037f2391bda74f78cb887ab786362dd079a84f8b", func := "lodestar/lodestarlaw06.StreamFeeds", spec := "streamFeeds", apart := false, narrowed := true }
def StreamFeedsUptoSaid : Prop := streamFeedsUptoRow.holds Try.pinned (OpenSpec.upto streamFeedsSpec)

/-- 'lodestarlaw06.StreamNil', WHERE WHAT IT READS IS OF BULK AT MOST 1048576: true; the input reads as it did. -/
def streamNilUptoRow : OpenClaim := { program := "ytbghjmgijjhihaa", sum := "3e0824200c1c35fc58cb4944037f2391bda74f78cb887ab786362dd079a84f8b", func := "lodestar/lodestarlaw06.StreamNil", spec := "streamNil", apart := false, narrowed := true }
def StreamNilUptoSaid : Prop := streamNilUptoRow.holds Try.pinned (OpenSpec.upto streamNilSpec)

end Rows
end Go.Proofs.Ytbghjmgijjhihaa
