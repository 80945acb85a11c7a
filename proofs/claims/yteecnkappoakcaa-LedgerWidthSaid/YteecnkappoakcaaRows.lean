/-
  No cell of these rows narrows 'for every input' (looked for: loops, veiled, ifaces, maps, wideKeys, modest, calm, conditions, laid).
  DERIVED. THE GIVEN ROWS OF THIS SEAT. 8 by the template 'for every input the law returns true; each argument reads behind the call as it read before'; 0 by the template 'total and deterministic' (their statements: YteecnkappoakcaaTotals.lean).
  GIVEN WITH THE SEED: the statements are not yours to turn. If you find one false, say at which input.
  Laid BY PROGRAM, IN A SANDBOX (cutbox-rows.mjs): the forced cells as the released guide's own fill.sh prints them over the translation 2e16f599bbc25146… (all of the seat's roots in one cut). By AI agents, Wed Nov 11 2026. No macro, syntax, notation, axiom, sorry.
-/
import Derived.Test.YteecnkappoakcaaChecked
import GoSem.Claim
import GoSem.ClaimJoined
import GoSem.ClaimMapViews
import Derived.JoinedTies
import Derived.KernelRfl
namespace Go.Proofs.Yteecnkappoakcaa
/- THE CELL 'sum', in the pinned program and in every row, IS THE sha256 OF THE DUMP (.gsa) THAT YteecnkappoakcaaProg.lean LOADS. Nothing in Lean hashes anything: it is a label: what it is worth is what the hold of that sum in a sandbox is worth. -/
noncomputable def Try.pinned : Pinned := { name := "yteecnkappoakcaa", sum := "2e16f599bbc25146f693a9fa88e0cb837df4a69494b3ee9f5e1c32ad3f265898", checked := Try.checked }
namespace Rows
def none {H : Type} : Left H := { results := [], args := [] }

/-- 'hypercubelaw3.LedgerPlays': WHATEVER THE INPUT: true; the input reads as it did. -/
def ledgerPlaysSpec : ChangeSpec := { name := "ledgerPlays", fn := fun _ => fun
  | [d1, d2, d3] => { results := [.lit (.bool true)], args := [d1, d2, d3] }
  | _ => none }
def ledgerPlaysRow : OpenClaim := { program := "yteecnkappoakcaa", sum := "2e16f599bbc25146f693a9fa88e0cb837df4a69494b3ee9f5e1c32ad3f265898", func := "hypercube/hypercubelaw3.LedgerPlays", spec := "ledgerPlays", apart := false }
def LedgerPlaysSaid : Prop := ledgerPlaysRow.holds Try.pinned (OpenSpec.ofChange ledgerPlaysSpec)

/-- ITS FALSE NEIGHBOUR: 'it returns false'. Refute it at one input. -/
def ledgerPlaysWrong : ChangeSpec := { name := "ledgerPlays", fn := fun _ => fun
  | [d1, d2, d3] => { results := [.lit (.bool false)], args := [d1, d2, d3] }
  | _ => none }
def LedgerPlaysWrongFalsely : Prop := ledgerPlaysRow.holds Try.pinned (OpenSpec.ofChange ledgerPlaysWrong)

/-- 'hypercubelaw3.LedgerBounds': WHATEVER THE INPUT: true; the input reads as it did. -/
def ledgerBoundsSpec : ChangeSpec := { name := "ledgerBounds", fn := fun _ => fun
  | [d1, d2] => { results := [.lit (.bool true)], args := [d1, d2] }
  | _ => none }
def ledgerBoundsRow : OpenClaim := { program := "yteecnkappoakcaa", sum := "2e16f599bbc25146f693a9fa88e0cb837df4a69494b3ee9f5e1c32ad3f265898", func := "hypercube/hypercubelaw3.LedgerBounds", spec := "ledgerBounds", apart := false }
def LedgerBoundsSaid : Prop := ledgerBoundsRow.holds Try.pinned (OpenSpec.ofChange ledgerBoundsSpec)

/-- ITS FALSE NEIGHBOUR: 'it returns false'. Refute it at one input. -/
def ledgerBoundsWrong : ChangeSpec := { name := "ledgerBounds", fn := fun _ => fun
  | [d1, d2] => { results := [.lit (.bool false)], args := [d1, d2] }
  | _ => none }
def LedgerBoundsWrongFalsely : Prop := ledgerBoundsRow.holds Try.pinned (OpenSpec.ofChange ledgerBoundsWrong)

/-- 'hypercubelaw3.LedgerBack': WHATEVER THE INPUT: true; the input reads as it did. -/
def ledgerBackSpec : ChangeSpec := { name := "ledgerBack", fn := fun _ => fun
  | [d1, d2, d3] => { results := [.lit (.bool true)], args := [d1, d2, d3] }
  | _ => none }
def ledgerBackRow : OpenClaim := { program := "yteecnkappoakcaa", sum := "2e16f599bbc25146f693a9fa88e0cb837df4a69494b3ee9f5e1c32ad3f265898", func := "hypercube/hypercubelaw3.LedgerBack", spec := "ledgerBack", apart := false }
def LedgerBackSaid : Prop := ledgerBackRow.holds Try.pinned (OpenSpec.ofChange ledgerBackSpec)

/-- ITS FALSE NEIGHBOUR: 'it returns false'. Refute it at one input. -/
def ledgerBackWrong : ChangeSpec := { name := "ledgerBack", fn := fun _ => fun
  | [d1, d2, d3] => { results := [.lit (.bool false)], args := [d1, d2, d3] }
  | _ => none }
def LedgerBackWrongFalsely : Prop := ledgerBackRow.holds Try.pinned (OpenSpec.ofChange ledgerBackWrong)

/-- 'hypercubelaw3.LedgerApart': WHATEVER THE INPUT: true; the input reads as it did. -/
def ledgerApartSpec : ChangeSpec := { name := "ledgerApart", fn := fun _ => fun
  | [d1, d2] => { results := [.lit (.bool true)], args := [d1, d2] }
  | _ => none }
def ledgerApartRow : OpenClaim := { program := "yteecnkappoakcaa", sum := "2e16f599bbc25146f693a9fa88e0cb837df4a69494b3ee9f5e1c32ad3f265898", func := "hypercube/hypercubelaw3.LedgerApart", spec := "ledgerApart", apart := false }
def LedgerApartSaid : Prop := ledgerApartRow.holds Try.pinned (OpenSpec.ofChange ledgerApartSpec)

/-- ITS FALSE NEIGHBOUR: 'it returns false'. Refute it at one input. -/
def ledgerApartWrong : ChangeSpec := { name := "ledgerApart", fn := fun _ => fun
  | [d1, d2] => { results := [.lit (.bool false)], args := [d1, d2] }
  | _ => none }
def LedgerApartWrongFalsely : Prop := ledgerApartRow.holds Try.pinned (OpenSpec.ofChange ledgerApartWrong)

/-- 'hypercubelaw3.LedgerHigh': WHATEVER THE INPUT: true; the input reads as it did. -/
def ledgerHighSpec : ChangeSpec := { name := "ledgerHigh", fn := fun _ => fun
  | [d1, d2] => { results := [.lit (.bool true)], args := [d1, d2] }
  | _ => none }
def ledgerHighRow : OpenClaim := { program := "yteecnkappoakcaa", sum := "2e16f599bbc25146f693a9fa88e0cb837df4a69494b3ee9f5e1c32ad3f265898", func := "hypercube/hypercubelaw3.LedgerHigh", spec := "ledgerHigh", apart := false }
def LedgerHighSaid : Prop := ledgerHighRow.holds Try.pinned (OpenSpec.ofChange ledgerHighSpec)

/-- ITS FALSE NEIGHBOUR: 'it returns false'. Refute it at one input. -/
def ledgerHighWrong : ChangeSpec := { name := "ledgerHigh", fn := fun _ => fun
  | [d1, d2] => { results := [.lit (.bool false)], args := [d1, d2] }
  | _ => none }
def LedgerHighWrongFalsely : Prop := ledgerHighRow.holds Try.pinned (OpenSpec.ofChange ledgerHighWrong)

/-- 'hypercubelaw3.LedgerNone': WHATEVER THE INPUT: true; the input reads as it did. -/
def ledgerNoneSpec : ChangeSpec := { name := "ledgerNone", fn := fun _ => fun
  | [d1, d2] => { results := [.lit (.bool true)], args := [d1, d2] }
  | _ => none }
def ledgerNoneRow : OpenClaim := { program := "yteecnkappoakcaa", sum := "2e16f599bbc25146f693a9fa88e0cb837df4a69494b3ee9f5e1c32ad3f265898", func := "hypercube/hypercubelaw3.LedgerNone", spec := "ledgerNone", apart := false }
def LedgerNoneSaid : Prop := ledgerNoneRow.holds Try.pinned (OpenSpec.ofChange ledgerNoneSpec)

/-- ITS FALSE NEIGHBOUR: 'it returns false'. Refute it at one input. -/
def ledgerNoneWrong : ChangeSpec := { name := "ledgerNone", fn := fun _ => fun
  | [d1, d2] => { results := [.lit (.bool false)], args := [d1, d2] }
  | _ => none }
def LedgerNoneWrongFalsely : Prop := ledgerNoneRow.holds Try.pinned (OpenSpec.ofChange ledgerNoneWrong)

/-- 'hypercubelaw3.LedgerSums': WHATEVER THE INPUT: true; the input reads as it did. -/
def ledgerSumsSpec : ChangeSpec := { name := "ledgerSums", fn := fun _ => fun
  | [d] => { results := [.lit (.bool true)], args := [d] }
  | _ => none }
def ledgerSumsRow : OpenClaim := { program := "yteecnkappoakcaa", sum := "2e16f599bbc25146f693a9fa88e0cb837df4a69494b3ee9f5e1c32ad3f265898", func := "hypercube/hypercubelaw3.LedgerSums", spec := "ledgerSums", apart := false }
def LedgerSumsSaid : Prop := ledgerSumsRow.holds Try.pinned (OpenSpec.ofChange ledgerSumsSpec)

/-- ITS FALSE NEIGHBOUR: 'it returns false'. Refute it at one input. -/
def ledgerSumsWrong : ChangeSpec := { name := "ledgerSums", fn := fun _ => fun
  | [d] => { results := [.lit (.bool false)], args := [d] }
  | _ => none }
def LedgerSumsWrongFalsely : Prop := ledgerSumsRow.holds Try.pinned (OpenSpec.ofChange ledgerSumsWrong)

/-- 'hypercubelaw3.LedgerWidth': WHATEVER THE INPUT: true; the input reads as it did. -/
def ledgerWidthSpec : ChangeSpec := { name := "ledgerWidth", fn := fun _ => fun
  | [d1, d2, d3] => { results := [.lit (.bool true)], args := [d1, d2, d3] }
  | _ => none }
def ledgerWidthRow : OpenClaim := { program := "yteecnkappoakcaa", sum := "2e16f599bbc25146f693a9fa88e0cb837df4a69494b3ee9f5e1c32ad3f265898", func := "hypercube/hypercubelaw3.LedgerWidth", spec := "ledgerWidth", apart := false }
def LedgerWidthSaid : Prop := ledgerWidthRow.holds Try.pinned (OpenSpec.ofChange ledgerWidthSpec)

/-- ITS FALSE NEIGHBOUR: 'it returns false'. Refute it at one input. -/
def ledgerWidthWrong : ChangeSpec := { name := "ledgerWidth", fn := fun _ => fun
  | [d1, d2, d3] => { results := [.lit (.bool false)], args := [d1, d2, d3] }
  | _ => none }
def LedgerWidthWrongFalsely : Prop := ledgerWidthRow.holds Try.pinned (OpenSpec.ofChange ledgerWidthWrong)

/- THE SECOND FORM. 'bulk': how many values and letters a reading holds, each counted each time it is reached (what is shared counts as often as it is met; a slice's spare places count too). A statement '..UptoSaid' is the law's where the arguments, and the package variables that the reading takes, are together of bulk at most 1048576: NARROWER than '..Said'. Prove '..Said' where nothing that the law and all that it calls make is longer than what came in: it says more and counts as full. Else prove '..UptoSaid'. A law counts once. -/
mutual
def uptoBulk {H : Type} : DataW H → Nat
  | .lit (.string bytes) => bytes.length + 1
  | .lit _ => 1
  | .nil => 1
  | .ptr d => uptoBulk d + 1
  | .slice elems spare => uptoBulkAll elems + uptoBulkAll spare + 1
  | .agg parts => uptoBulkAll parts + 1
  | .iface _ d => uptoBulk d + 1
  | .map entries => uptoBulkEntries entries + 1
  | .held _ => 1
def uptoBulkAll {H : Type} : List (DataW H) → Nat
  | [] => 0
  | d :: r => uptoBulk d + uptoBulkAll r
def uptoBulkEntries {H : Type} : List (Lit × DataW H) → Nat
  | [] => 0
  | x :: r => uptoBulkEntry x + uptoBulkEntries r
def uptoBulkEntry {H : Type} : Lit × DataW H → Nat
  | (.string bytes, d) => bytes.length + uptoBulk d + 1
  | (_, d) => uptoBulk d + 1
 end
def uptoSmall : (H : Type) → List (DataW H) → Bool := fun _ ds => decide (uptoBulkAll ds ≤ 1048576)
def OpenSpec.upto (s : _root_.Go.ChangeSpec) : _root_.Go.OpenSpec := { _root_.Go.OpenSpec.ofChange s with cond := some uptoSmall }

/-- 'hypercubelaw3.LedgerPlays', WHERE WHAT IT READS IS OF BULK AT MOST 1048576: true; the input reads as it did. -/
def ledgerPlaysUptoRow : OpenClaim := { program := "yteecnkappoakcaa", sum := "2e16f599bbc25146f693a9fa88e0cb837df4a69494b3ee9f5e1c32ad3f265898", func := "hypercube/hypercubelaw3.LedgerPlays", spec := "ledgerPlays", apart := false, narrowed := true }
def LedgerPlaysUptoSaid : Prop := ledgerPlaysUptoRow.holds Try.pinned (OpenSpec.upto ledgerPlaysSpec)

/-- 'hypercubelaw3.LedgerBounds', WHERE WHAT IT READS IS OF BULK AT MOST 1048576: true; the input reads as it did. -/
def ledgerBoundsUptoRow : OpenClaim := { program := "yteecnkappoakcaa", sum := "2e16f599bbc25146f693a9fa88e0cb837df4a69494b3ee9f5e1c32ad3f265898", func := "hypercube/hypercubelaw3.LedgerBounds", spec := "ledgerBounds", apart := false, narrowed := true }
def LedgerBoundsUptoSaid : Prop := ledgerBoundsUptoRow.holds Try.pinned (OpenSpec.upto ledgerBoundsSpec)

/-- 'hypercubelaw3.LedgerBack', WHERE WHAT IT READS IS OF BULK AT MOST 1048576: true; the input reads as it did. -/
def ledgerBackUptoRow : OpenClaim := { program := "yteecnkappoakcaa", sum := "2e16f599bbc25146f693a9fa88e0cb837df4a69494b3ee9f5e1c32ad3f265898", func := "hypercube/hypercubelaw3.LedgerBack", spec := "ledgerBack", apart := false, narrowed := true }
def LedgerBackUptoSaid : Prop := ledgerBackUptoRow.holds Try.pinned (OpenSpec.upto ledgerBackSpec)

/-- 'hypercubelaw3.LedgerApart', WHERE WHAT IT READS IS OF BULK AT MOST 1048576: true; the input reads as it did. -/
def ledgerApartUptoRow : OpenClaim := { program := "yteecnkappoakcaa", sum := "2e16f599bbc25146f693a9fa88e0cb837df4a69494b3ee9f5e1c32ad3f265898", func := "hypercube/hypercubelaw3.LedgerApart", spec := "ledgerApart", apart := false, narrowed := true }
def LedgerApartUptoSaid : Prop := ledgerApartUptoRow.holds Try.pinned (OpenSpec.upto ledgerApartSpec)

/-- 'hypercubelaw3.LedgerHigh', WHERE WHAT IT READS IS OF BULK AT MOST 1048576: true; the input reads as it did. -/
def ledgerHighUptoRow : OpenClaim := { program := "yteecnkappoakcaa", sum := "2e16f599bbc25146f693a9fa88e0cb837df4a69494b3ee9f5e1c32ad3f265898", func := "hypercube/hypercubelaw3.LedgerHigh", spec := "ledgerHigh", apart := false, narrowed := true }
def LedgerHighUptoSaid : Prop := ledgerHighUptoRow.holds Try.pinned (OpenSpec.upto ledgerHighSpec)

/-- 'hypercubelaw3.LedgerNone', WHERE WHAT IT READS IS OF BULK AT MOST 1048576: true; the input reads as it did. -/
def ledgerNoneUptoRow : OpenClaim := { program := "yteecnkappoakcaa", sum := "2e16f599bbc25146f693a9fa88e0cb837df4a69494b3ee9f5e1c32ad3f265898", func := "hypercube/hypercubelaw3.LedgerNone", spec := "ledgerNone", apart := false, narrowed := true }
def LedgerNoneUptoSaid : Prop := ledgerNoneUptoRow.holds Try.pinned (OpenSpec.upto ledgerNoneSpec)

/-- 'hypercubelaw3.LedgerSums', WHERE WHAT IT READS IS OF BULK AT MOST 1048576: true; the input reads as it did. -/
def ledgerSumsUptoRow : OpenClaim := { program := "yteecnkappoakcaa", sum := "2e16f599bbc25146f693a9fa88e0cb837df4a69494b3ee9f5e1c32ad3f265898", func := "hypercube/hypercubelaw3.LedgerSums", spec := "ledgerSums", apart := false, narrowed := true }
def LedgerSumsUptoSaid : Prop := ledgerSumsUptoRow.holds Try.pinned (OpenSpec.upto ledgerSumsSpec)

/-- 'hypercubelaw3.LedgerWidth', WHERE WHAT IT READS IS OF BULK AT MOST 1048576: true; the input reads as it did. -/
def ledgerWidthUptoRow : OpenClaim := { program := "yteecnkappoakcaa", sum := "2e16f599bbc25146f693a9fa88e0cb837df4a69494b3ee9f5e1c32ad3f265898", func := "hypercube/hypercubelaw3.LedgerWidth", spec := "ledgerWidth", apart := false, narrowed := true }
def LedgerWidthUptoSaid : Prop := ledgerWidthUptoRow.holds Try.pinned (OpenSpec.upto ledgerWidthSpec)

end Rows
end Go.Proofs.Yteecnkappoakcaa
