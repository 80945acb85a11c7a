/-
  No cell of these rows narrows 'for every input' (looked for: loops, veiled, ifaces, maps, wideKeys, modest, calm, conditions, laid).
  DERIVED. THE GIVEN ROWS OF THIS SEAT. 10 by the template 'for every input the law returns true; each argument reads behind the call as it read before'; 0 by the template 'total and deterministic' (their statements: YtgnkpahnhhmceaaTotals.lean).
  GIVEN WITH THE SEED: the statements are not yours to turn. If you find one false, say at which input.
  Laid BY PROGRAM, IN A SANDBOX (cutbox-rows.mjs): the forced cells as the released guide's own fill.sh prints them over the translation efb23640cdea8782… (all of the seat's roots in one cut). By AI agents, Wed Nov 11 2026. No macro, syntax, notation, axiom, sorry.
-/
import Derived.Test.YtgnkpahnhhmceaaChecked
import GoSem.Claim
import GoSem.ClaimJoined
import GoSem.ClaimMapViews
import Derived.JoinedTies
import Derived.KernelRfl
namespace Go.Proofs.Ytgnkpahnhhmceaa
/- THE CELL 'sum', in the pinned program and in every row, IS THE sha256 OF THE DUMP (.gsa) THAT YtgnkpahnhhmceaaProg.lean LOADS. Nothing in Lean hashes anything: it is a label: what it is worth is what the hold of that sum in a sandbox is worth. -/
noncomputable def Try.pinned : Pinned := { name := "ytgnkpahnhhmceaa", sum := "efb23640cdea8782da38198a52649a662b0edaa449d80068fe01fff081c77b67", checked := Try.checked }
namespace Rows
def none {H : Type} : Left H := { results := [], args := [] }

/-- 'hypercubelaw9.MatchAll': WHATEVER THE INPUT: true; the input reads as it did. -/
def matchAllSpec : ChangeSpec := { name := "matchAll", fn := fun _ => fun
  | [d1, d2, d3, d4] => { results := [.lit (.bool true)], args := [d1, d2, d3, d4] }
  | _ => none }
def matchAllRow : OpenClaim := { program := "ytgnkpahnhhmceaa", sum := "efb23640cdea8782da38198a52649a662b0edaa449d80068fe01fff081c77b67", func := "hypercube/hypercubelaw9.MatchAll", spec := "matchAll", unfollowed := true, recurses := true, apart := false }
def MatchAllSaid : Prop := matchAllRow.holds Try.pinned (OpenSpec.ofChange matchAllSpec)

/-- ITS FALSE NEIGHBOUR: 'it returns false'. Refute it at one input. -/
def matchAllWrong : ChangeSpec := { name := "matchAll", fn := fun _ => fun
  | [d1, d2, d3, d4] => { results := [.lit (.bool false)], args := [d1, d2, d3, d4] }
  | _ => none }
def MatchAllWrongFalsely : Prop := matchAllRow.holds Try.pinned (OpenSpec.ofChange matchAllWrong)

/-- 'hypercubelaw9.MatchLeast': WHATEVER THE INPUT: true; the input reads as it did. -/
def matchLeastSpec : ChangeSpec := { name := "matchLeast", fn := fun _ => fun
  | [d1, d2, d3, d4, d5] => { results := [.lit (.bool true)], args := [d1, d2, d3, d4, d5] }
  | _ => none }
def matchLeastRow : OpenClaim := { program := "ytgnkpahnhhmceaa", sum := "efb23640cdea8782da38198a52649a662b0edaa449d80068fe01fff081c77b67", func := "hypercube/hypercubelaw9.MatchLeast", spec := "matchLeast", unfollowed := true, recurses := true, apart := false }
def MatchLeastSaid : Prop := matchLeastRow.holds Try.pinned (OpenSpec.ofChange matchLeastSpec)

/-- ITS FALSE NEIGHBOUR: 'it returns false'. Refute it at one input. -/
def matchLeastWrong : ChangeSpec := { name := "matchLeast", fn := fun _ => fun
  | [d1, d2, d3, d4, d5] => { results := [.lit (.bool false)], args := [d1, d2, d3, d4, d5] }
  | _ => none }
def MatchLeastWrongFalsely : Prop := matchLeastRow.holds Try.pinned (OpenSpec.ofChange matchLeastWrong)

/-- 'hypercubelaw9.MatchErrs': WHATEVER THE INPUT: true; the input reads as it did. -/
def matchErrsSpec : ChangeSpec := { name := "matchErrs", fn := fun _ => fun
  | [d1, d2, d3, d4, d5, d6] => { results := [.lit (.bool true)], args := [d1, d2, d3, d4, d5, d6] }
  | _ => none }
def matchErrsRow : OpenClaim := { program := "ytgnkpahnhhmceaa", sum := "efb23640cdea8782da38198a52649a662b0edaa449d80068fe01fff081c77b67", func := "hypercube/hypercubelaw9.MatchErrs", spec := "matchErrs", unfollowed := true, recurses := true, apart := false }
def MatchErrsSaid : Prop := matchErrsRow.holds Try.pinned (OpenSpec.ofChange matchErrsSpec)

/-- ITS FALSE NEIGHBOUR: 'it returns false'. Refute it at one input. -/
def matchErrsWrong : ChangeSpec := { name := "matchErrs", fn := fun _ => fun
  | [d1, d2, d3, d4, d5, d6] => { results := [.lit (.bool false)], args := [d1, d2, d3, d4, d5, d6] }
  | _ => none }
def MatchErrsWrongFalsely : Prop := matchErrsRow.holds Try.pinned (OpenSpec.ofChange matchErrsWrong)

/-- 'hypercubelaw9.MatchMore': WHATEVER THE INPUT: true; the input reads as it did. -/
def matchMoreSpec : ChangeSpec := { name := "matchMore", fn := fun _ => fun
  | [d1, d2, d3, d4, d5, d6, d7] => { results := [.lit (.bool true)], args := [d1, d2, d3, d4, d5, d6, d7] }
  | _ => none }
def matchMoreRow : OpenClaim := { program := "ytgnkpahnhhmceaa", sum := "efb23640cdea8782da38198a52649a662b0edaa449d80068fe01fff081c77b67", func := "hypercube/hypercubelaw9.MatchMore", spec := "matchMore", unfollowed := true, recurses := true, apart := false }
def MatchMoreSaid : Prop := matchMoreRow.holds Try.pinned (OpenSpec.ofChange matchMoreSpec)

/-- ITS FALSE NEIGHBOUR: 'it returns false'. Refute it at one input. -/
def matchMoreWrong : ChangeSpec := { name := "matchMore", fn := fun _ => fun
  | [d1, d2, d3, d4, d5, d6, d7] => { results := [.lit (.bool false)], args := [d1, d2, d3, d4, d5, d6, d7] }
  | _ => none }
def MatchMoreWrongFalsely : Prop := matchMoreRow.holds Try.pinned (OpenSpec.ofChange matchMoreWrong)

/-- 'hypercubelaw9.MatchSquare': WHATEVER THE INPUT: true; the input reads as it did. -/
def matchSquareSpec : ChangeSpec := { name := "matchSquare", fn := fun _ => fun
  | [d1, d2, d3] => { results := [.lit (.bool true)], args := [d1, d2, d3] }
  | _ => none }
def matchSquareRow : OpenClaim := { program := "ytgnkpahnhhmceaa", sum := "efb23640cdea8782da38198a52649a662b0edaa449d80068fe01fff081c77b67", func := "hypercube/hypercubelaw9.MatchSquare", spec := "matchSquare", unfollowed := true, recurses := true, apart := false }
def MatchSquareSaid : Prop := matchSquareRow.holds Try.pinned (OpenSpec.ofChange matchSquareSpec)

/-- ITS FALSE NEIGHBOUR: 'it returns false'. Refute it at one input. -/
def matchSquareWrong : ChangeSpec := { name := "matchSquare", fn := fun _ => fun
  | [d1, d2, d3] => { results := [.lit (.bool false)], args := [d1, d2, d3] }
  | _ => none }
def MatchSquareWrongFalsely : Prop := matchSquareRow.holds Try.pinned (OpenSpec.ofChange matchSquareWrong)

/-- 'hypercubelaw9.MatchOwn': WHATEVER THE INPUT: true; the input reads as it did. -/
def matchOwnSpec : ChangeSpec := { name := "matchOwn", fn := fun _ => fun
  | [d1, d2, d3, d4] => { results := [.lit (.bool true)], args := [d1, d2, d3, d4] }
  | _ => none }
def matchOwnRow : OpenClaim := { program := "ytgnkpahnhhmceaa", sum := "efb23640cdea8782da38198a52649a662b0edaa449d80068fe01fff081c77b67", func := "hypercube/hypercubelaw9.MatchOwn", spec := "matchOwn", unfollowed := true, recurses := true, apart := false }
def MatchOwnSaid : Prop := matchOwnRow.holds Try.pinned (OpenSpec.ofChange matchOwnSpec)

/-- ITS FALSE NEIGHBOUR: 'it returns false'. Refute it at one input. -/
def matchOwnWrong : ChangeSpec := { name := "matchOwn", fn := fun _ => fun
  | [d1, d2, d3, d4] => { results := [.lit (.bool false)], args := [d1, d2, d3, d4] }
  | _ => none }
def MatchOwnWrongFalsely : Prop := matchOwnRow.holds Try.pinned (OpenSpec.ofChange matchOwnWrong)

/-- 'hypercubelaw9.MatchEven': WHATEVER THE INPUT: true; the input reads as it did. -/
def matchEvenSpec : ChangeSpec := { name := "matchEven", fn := fun _ => fun
  | [d1, d2, d3] => { results := [.lit (.bool true)], args := [d1, d2, d3] }
  | _ => none }
def matchEvenRow : OpenClaim := { program := "ytgnkpahnhhmceaa", sum := "efb23640cdea8782da38198a52649a662b0edaa449d80068fe01fff081c77b67", func := "hypercube/hypercubelaw9.MatchEven", spec := "matchEven", unfollowed := true, recurses := true, apart := false }
def MatchEvenSaid : Prop := matchEvenRow.holds Try.pinned (OpenSpec.ofChange matchEvenSpec)

/-- ITS FALSE NEIGHBOUR: 'it returns false'. Refute it at one input. -/
def matchEvenWrong : ChangeSpec := { name := "matchEven", fn := fun _ => fun
  | [d1, d2, d3] => { results := [.lit (.bool false)], args := [d1, d2, d3] }
  | _ => none }
def MatchEvenWrongFalsely : Prop := matchEvenRow.holds Try.pinned (OpenSpec.ofChange matchEvenWrong)

/-- 'hypercubelaw9.MatchOne': WHATEVER THE INPUT: true; the input reads as it did. -/
def matchOneSpec : ChangeSpec := { name := "matchOne", fn := fun _ => fun
  | [d] => { results := [.lit (.bool true)], args := [d] }
  | _ => none }
def matchOneRow : OpenClaim := { program := "ytgnkpahnhhmceaa", sum := "efb23640cdea8782da38198a52649a662b0edaa449d80068fe01fff081c77b67", func := "hypercube/hypercubelaw9.MatchOne", spec := "matchOne", unfollowed := true, recurses := true, apart := false }
def MatchOneSaid : Prop := matchOneRow.holds Try.pinned (OpenSpec.ofChange matchOneSpec)

/-- ITS FALSE NEIGHBOUR: 'it returns false'. Refute it at one input. -/
def matchOneWrong : ChangeSpec := { name := "matchOne", fn := fun _ => fun
  | [d] => { results := [.lit (.bool false)], args := [d] }
  | _ => none }
def MatchOneWrongFalsely : Prop := matchOneRow.holds Try.pinned (OpenSpec.ofChange matchOneWrong)

/-- 'hypercubelaw9.MatchColumns': WHATEVER THE INPUT: true; the input reads as it did. -/
def matchColumnsSpec : ChangeSpec := { name := "matchColumns", fn := fun _ => fun
  | [d1, d2, d3] => { results := [.lit (.bool true)], args := [d1, d2, d3] }
  | _ => none }
def matchColumnsRow : OpenClaim := { program := "ytgnkpahnhhmceaa", sum := "efb23640cdea8782da38198a52649a662b0edaa449d80068fe01fff081c77b67", func := "hypercube/hypercubelaw9.MatchColumns", spec := "matchColumns", unfollowed := true, recurses := true, apart := false }
def MatchColumnsSaid : Prop := matchColumnsRow.holds Try.pinned (OpenSpec.ofChange matchColumnsSpec)

/-- ITS FALSE NEIGHBOUR: 'it returns false'. Refute it at one input. -/
def matchColumnsWrong : ChangeSpec := { name := "matchColumns", fn := fun _ => fun
  | [d1, d2, d3] => { results := [.lit (.bool false)], args := [d1, d2, d3] }
  | _ => none }
def MatchColumnsWrongFalsely : Prop := matchColumnsRow.holds Try.pinned (OpenSpec.ofChange matchColumnsWrong)

/-- 'hypercubelaw9.MatchWide': WHATEVER THE INPUT: true; the input reads as it did. -/
def matchWideSpec : ChangeSpec := { name := "matchWide", fn := fun _ => fun
  | [d1, d2] => { results := [.lit (.bool true)], args := [d1, d2] }
  | _ => none }
def matchWideRow : OpenClaim := { program := "ytgnkpahnhhmceaa", sum := "efb23640cdea8782da38198a52649a662b0edaa449d80068fe01fff081c77b67", func := "hypercube/hypercubelaw9.MatchWide", spec := "matchWide", unfollowed := true, recurses := true, apart := false }
def MatchWideSaid : Prop := matchWideRow.holds Try.pinned (OpenSpec.ofChange matchWideSpec)

/-- ITS FALSE NEIGHBOUR: 'it returns false'. Refute it at one input. -/
def matchWideWrong : ChangeSpec := { name := "matchWide", fn := fun _ => fun
  | [d1, d2] => { results := [.lit (.bool false)], args := [d1, d2] }
  | _ => none }
def MatchWideWrongFalsely : Prop := matchWideRow.holds Try.pinned (OpenSpec.ofChange matchWideWrong)

/- THE SECOND FORM. 'bulk': how many values and letters a reading holds, each counted each time it is reached (what is shared counts as often as it is met; a slice's spare places count too). A statement '..UptoSaid' is the law's where the arguments, and the package variables that the reading takes, are together of bulk at most 1048576: NARROWER than '..Said'. Prove '..Said' where nothing that the law and all that it calls make is longer than what came in: it says more and counts as full. Else prove '..UptoSaid'. A law counts once. -/
mutual
def uptoBulk {H : Type} : DataW H → Nat
  | .lit (.string bytes) => bytes.length + 1
  | .lit _ => 1
  | .nil => 1
  | .ptr d => uptoBulk d + 1
  | .slice elems spare => uptoBulkAll elems + uptoBulkAll spare + 1
  | .agg parts => uptoBulkAll parts + 1
  | .iface _ d => uptoBulk d + 1
  | .map entries => uptoBulkEntries entries + 1
  | .held _ => 1
def uptoBulkAll {H : Type} : List (DataW H) → Nat
  | [] => 0
  | d :: r => uptoBulk d + uptoBulkAll r
def uptoBulkEntries {H : Type} : List (Lit × DataW H) → Nat
  | [] => 0
  | x :: r => uptoBulkEntry x + uptoBulkEntries r
def uptoBulkEntry {H : Type} : Lit × DataW H → Nat
  | (.string bytes, d) => bytes.length + uptoBulk d + 1
  | (_, d) => uptoBulk d + 1
 end
def uptoSmall : (H : Type) → List (DataW H) → Bool := fun _ ds => decide (uptoBulkAll ds ≤ 1048576)
def OpenSpec.upto (s : _root_.Go.ChangeSpec) : _root_.Go.OpenSpec := { _root_.Go.OpenSpec.ofChange s with cond := some uptoSmall }

/-- 'hypercubelaw9.MatchAll', WHERE WHAT IT READS IS OF BULK AT MOST 1048576: true; the input reads as it did. -/
def matchAllUptoRow : OpenClaim := { program := "ytgnkpahnhhmceaa", sum := "efb23640cdea8782da38198a52649a662b0edaa449d80068fe01fff081c77b67", func := "hypercube/hypercubelaw9.MatchAll", spec := "matchAll", unfollowed := true, recurses := true, apart := false, narrowed := true }
def MatchAllUptoSaid : Prop := matchAllUptoRow.holds Try.pinned (OpenSpec.upto matchAllSpec)

/-- 'hypercubelaw9.MatchLeast', WHERE WHAT IT READS IS OF BULK AT MOST 1048576: true; the input reads as it did. -/
def matchLeastUptoRow : OpenClaim := { program := "ytgnkpahnhhmceaa", sum := "efb23640cdea8782da38198a52649a662b0edaa449d80068fe01fff081c77b67", func := "hypercube/hypercubelaw9.MatchLeast", spec := "matchLeast", unfollowed := true, recurses := true, apart := false, narrowed := true }
def MatchLeastUptoSaid : Prop := matchLeastUptoRow.holds Try.pinned (OpenSpec.upto matchLeastSpec)

/-- 'hypercubelaw9.MatchErrs', WHERE WHAT IT READS IS OF BULK AT MOST 1048576: true; the input reads as it did. -/
def matchErrsUptoRow : OpenClaim := { program := "ytgnkpahnhhmceaa", sum := "efb23640cdea8782da38198a52649a662b0edaa449d80068fe01fff081c77b67", func := "hypercube/hypercubelaw9.MatchErrs", spec := "matchErrs", unfollowed := true, recurses := true, apart := false, narrowed := true }
def MatchErrsUptoSaid : Prop := matchErrsUptoRow.holds Try.pinned (OpenSpec.upto matchErrsSpec)

/-- 'hypercubelaw9.MatchMore', WHERE WHAT IT READS IS OF BULK AT MOST 1048576: true; the input reads as it did. -/
def matchMoreUptoRow : OpenClaim := { program := "ytgnkpahnhhmceaa", sum := "efb23640cdea8782da38198a52649a662b0edaa449d80068fe01fff081c77b67", func := "hypercube/hypercubelaw9.MatchMore", spec := "matchMore", unfollowed := true, recurses := true, apart := false, narrowed := true }
def MatchMoreUptoSaid : Prop := matchMoreUptoRow.holds Try.pinned (OpenSpec.upto matchMoreSpec)

/-- 'hypercubelaw9.MatchSquare', WHERE WHAT IT READS IS OF BULK AT MOST 1048576: true; the input reads as it did. -/
def matchSquareUptoRow : OpenClaim := { program := "ytgnkpahnhhmceaa", sum := "efb23640cdea8782da38198a52649a662b0edaa449d80068fe01fff081c77b67", func := "hypercube/hypercubelaw9.MatchSquare", spec := "matchSquare", unfollowed := true, recurses := true, apart := false, narrowed := true }
def MatchSquareUptoSaid : Prop := matchSquareUptoRow.holds Try.pinned (OpenSpec.upto matchSquareSpec)

/-- 'hypercubelaw9.MatchOwn', WHERE WHAT IT READS IS OF BULK AT MOST 1048576: true; the input reads as it did. -/
def matchOwnUptoRow : OpenClaim := { program := "ytgnkpahnhhmceaa", sum := "efb23640cdea8782da38198a52649a662b0edaa449d80068fe01fff081c77b67", func := "hypercube/hypercubelaw9.MatchOwn", spec := "matchOwn", unfollowed := true, recurses := true, apart := false, narrowed := true }
def MatchOwnUptoSaid : Prop := matchOwnUptoRow.holds Try.pinned (OpenSpec.upto matchOwnSpec)

/-- 'hypercubelaw9.MatchEven', WHERE WHAT IT READS IS OF BULK AT MOST 1048576: true; the input reads as it did. -/
def matchEvenUptoRow : OpenClaim := { program := "ytgnkpahnhhmceaa", sum := "efb23640cdea8782da38198a52649a662b0edaa449d80068fe01fff081c77b67", func := "hypercube/hypercubelaw9.MatchEven", spec := "matchEven", unfollowed := true, recurses := true, apart := false, narrowed := true }
def MatchEvenUptoSaid : Prop := matchEvenUptoRow.holds Try.pinned (OpenSpec.upto matchEvenSpec)

/-- 'hypercubelaw9.MatchOne', WHERE WHAT IT READS IS OF BULK AT MOST 1048576: true; the input reads as it did. -/
def matchOneUptoRow : OpenClaim := { program := "ytgnkpahnhhmceaa", sum := "efb23640cdea8782da38198a52649a662b0edaa449d80068fe01fff081c77b67", func := "hypercube/hypercubelaw9.MatchOne", spec := "matchOne", unfollowed := true, recurses := true, apart := false, narrowed := true }
def MatchOneUptoSaid : Prop := matchOneUptoRow.holds Try.pinned (OpenSpec.upto matchOneSpec)

/-- 'hypercubelaw9.MatchColumns', WHERE WHAT IT READS IS OF BULK AT MOST 1048576: true; the input reads as it did. -/
def matchColumnsUptoRow : OpenClaim := { program := "ytgnkpahnhhmceaa", sum := "efb23640cdea8782da38198a52649a662b0edaa449d80068fe01fff081c77b67", func := "hypercube/hypercubelaw9.MatchColumns", spec := "matchColumns", unfollowed := true, recurses := true, apart := false, narrowed := true }
def MatchColumnsUptoSaid : Prop := matchColumnsUptoRow.holds Try.pinned (OpenSpec.upto matchColumnsSpec)

/-- 'hypercubelaw9.MatchWide', WHERE WHAT IT READS IS OF BULK AT MOST 1048576: true; the input reads as it did. -/
def matchWideUptoRow : OpenClaim := { program := "ytgnkpahnhhmceaa", sum := "efb23640cdea8782da38198a52649a662b0edaa449d80068fe01fff081c77b67", func := "hypercube/hypercubelaw9.MatchWide", spec := "matchWide", unfollowed := true, recurses := true, apart := false, narrowed := true }
def MatchWideUptoSaid : Prop := matchWideUptoRow.holds Try.pinned (OpenSpec.upto matchWideSpec)

end Rows
end Go.Proofs.Ytgnkpahnhhmceaa
