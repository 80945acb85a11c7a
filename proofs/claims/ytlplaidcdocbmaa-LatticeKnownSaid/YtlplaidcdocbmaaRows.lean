/-
  No cell of these rows narrows 'for every input' (looked for: loops, veiled, ifaces, maps, wideKeys, modest, calm, conditions, laid).
  DERIVED. THE GIVEN ROWS OF THIS SEAT. 24 by the template 'for every input the law returns true; each argument reads behind the call as it read before'; 0 by the template 'total and deterministic' (their statements: YtlplaidcdocbmaaTotals.lean).
  GIVEN WITH THE SEED: the statements are not yours to turn. If you find one false, say at which input.
  Laid BY PROGRAM, IN A SANDBOX (cutbox-rows.mjs): the forced cells as the released guide's own fill.sh prints them over the translation 33f126b7789ddbc0… (all of the seat's roots in one cut). By AI agents, Wed Nov 11 2026. No macro, syntax, notation, axiom, sorry.
-/
import Derived.Test.YtlplaidcdocbmaaChecked
import GoSem.Claim
import GoSem.ClaimJoined
import GoSem.ClaimMapViews
import Derived.JoinedTies
import Derived.KernelRfl
namespace Go.Proofs.Ytlplaidcdocbmaa
/- THE CELL 'sum', in the pinned program and in every row, IS THE sha256 OF THE DUMP (.gsa) THAT YtlplaidcdocbmaaProg.lean LOADS. Nothing in Lean hashes anything: it is a label: what it is worth is what the hold of that sum in a sandbox is worth. -/
noncomputable def Try.pinned : Pinned := { name := "ytlplaidcdocbmaa", sum := "33f126b7789ddbc05b4740cccdf5f86175525cae15f35c493af4ebfc9a0e176c", checked := Try.checked }
namespace Rows
def none {H : Type} : Left H := { results := [], args := [] }

/-- 'hypercubelaw8.LatticeSets': WHATEVER THE INPUT: true; the input reads as it did. -/
def latticeSetsSpec : ChangeSpec := { name := "latticeSets", fn := fun _ => fun
  | [d] => { results := [.lit (.bool true)], args := [d] }
  | _ => none }
def latticeSetsRow : OpenClaim := { program := "ytlplaidcdocbmaa", sum := "33f126b7789ddbc05b4740cccdf5f86175525cae15f35c493af4ebfc9a0e176c", func := "hypercube/hypercubelaw8.LatticeSets", spec := "latticeSets", unfollowed := true, recurses := true, apart := false }
def LatticeSetsSaid : Prop := latticeSetsRow.holds Try.pinned (OpenSpec.ofChange latticeSetsSpec)

/-- ITS FALSE NEIGHBOUR: 'it returns false'. Refute it at one input. -/
def latticeSetsWrong : ChangeSpec := { name := "latticeSets", fn := fun _ => fun
  | [d] => { results := [.lit (.bool false)], args := [d] }
  | _ => none }
def LatticeSetsWrongFalsely : Prop := latticeSetsRow.holds Try.pinned (OpenSpec.ofChange latticeSetsWrong)

/-- 'hypercubelaw8.LatticeLevels': WHATEVER THE INPUT: true; the input reads as it did. -/
def latticeLevelsSpec : ChangeSpec := { name := "latticeLevels", fn := fun _ => fun
  | [d1, d2] => { results := [.lit (.bool true)], args := [d1, d2] }
  | _ => none }
def latticeLevelsRow : OpenClaim := { program := "ytlplaidcdocbmaa", sum := "33f126b7789ddbc05b4740cccdf5f86175525cae15f35c493af4ebfc9a0e176c", func := "hypercube/hypercubelaw8.LatticeLevels", spec := "latticeLevels", unfollowed := true, recurses := true, apart := false }
def LatticeLevelsSaid : Prop := latticeLevelsRow.holds Try.pinned (OpenSpec.ofChange latticeLevelsSpec)

/-- ITS FALSE NEIGHBOUR: 'it returns false'. Refute it at one input. -/
def latticeLevelsWrong : ChangeSpec := { name := "latticeLevels", fn := fun _ => fun
  | [d1, d2] => { results := [.lit (.bool false)], args := [d1, d2] }
  | _ => none }
def LatticeLevelsWrongFalsely : Prop := latticeLevelsRow.holds Try.pinned (OpenSpec.ofChange latticeLevelsWrong)

/-- 'hypercubelaw8.LatticeUp': WHATEVER THE INPUT: true; the input reads as it did. -/
def latticeUpSpec : ChangeSpec := { name := "latticeUp", fn := fun _ => fun
  | [d] => { results := [.lit (.bool true)], args := [d] }
  | _ => none }
def latticeUpRow : OpenClaim := { program := "ytlplaidcdocbmaa", sum := "33f126b7789ddbc05b4740cccdf5f86175525cae15f35c493af4ebfc9a0e176c", func := "hypercube/hypercubelaw8.LatticeUp", spec := "latticeUp", unfollowed := true, recurses := true, apart := false }
def LatticeUpSaid : Prop := latticeUpRow.holds Try.pinned (OpenSpec.ofChange latticeUpSpec)

/-- ITS FALSE NEIGHBOUR: 'it returns false'. Refute it at one input. -/
def latticeUpWrong : ChangeSpec := { name := "latticeUp", fn := fun _ => fun
  | [d] => { results := [.lit (.bool false)], args := [d] }
  | _ => none }
def LatticeUpWrongFalsely : Prop := latticeUpRow.holds Try.pinned (OpenSpec.ofChange latticeUpWrong)

/-- 'hypercubelaw8.LatticeTrue': WHATEVER THE INPUT: true; the input reads as it did. -/
def latticeTrueSpec : ChangeSpec := { name := "latticeTrue", fn := fun _ => fun
  | [d1, d2, d3, d4] => { results := [.lit (.bool true)], args := [d1, d2, d3, d4] }
  | _ => none }
def latticeTrueRow : OpenClaim := { program := "ytlplaidcdocbmaa", sum := "33f126b7789ddbc05b4740cccdf5f86175525cae15f35c493af4ebfc9a0e176c", func := "hypercube/hypercubelaw8.LatticeTrue", spec := "latticeTrue", unfollowed := true, recurses := true, apart := false }
def LatticeTrueSaid : Prop := latticeTrueRow.holds Try.pinned (OpenSpec.ofChange latticeTrueSpec)

/-- ITS FALSE NEIGHBOUR: 'it returns false'. Refute it at one input. -/
def latticeTrueWrong : ChangeSpec := { name := "latticeTrue", fn := fun _ => fun
  | [d1, d2, d3, d4] => { results := [.lit (.bool false)], args := [d1, d2, d3, d4] }
  | _ => none }
def LatticeTrueWrongFalsely : Prop := latticeTrueRow.holds Try.pinned (OpenSpec.ofChange latticeTrueWrong)

/-- 'hypercubelaw11.TreeAll': WHATEVER THE INPUT: true; the input reads as it did. -/
def treeAllSpec : ChangeSpec := { name := "treeAll", fn := fun _ => fun
  | [d1, d2, d3] => { results := [.lit (.bool true)], args := [d1, d2, d3] }
  | _ => none }
def treeAllRow : OpenClaim := { program := "ytlplaidcdocbmaa", sum := "33f126b7789ddbc05b4740cccdf5f86175525cae15f35c493af4ebfc9a0e176c", func := "hypercube/hypercubelaw11.TreeAll", spec := "treeAll", unfollowed := true, recurses := true, apart := false }
def TreeAllSaid : Prop := treeAllRow.holds Try.pinned (OpenSpec.ofChange treeAllSpec)

/-- ITS FALSE NEIGHBOUR: 'it returns false'. Refute it at one input. -/
def treeAllWrong : ChangeSpec := { name := "treeAll", fn := fun _ => fun
  | [d1, d2, d3] => { results := [.lit (.bool false)], args := [d1, d2, d3] }
  | _ => none }
def TreeAllWrongFalsely : Prop := treeAllRow.holds Try.pinned (OpenSpec.ofChange treeAllWrong)

/-- 'hypercubelaw11.TreeLeast': WHATEVER THE INPUT: true; the input reads as it did. -/
def treeLeastSpec : ChangeSpec := { name := "treeLeast", fn := fun _ => fun
  | [d1, d2, d3] => { results := [.lit (.bool true)], args := [d1, d2, d3] }
  | _ => none }
def treeLeastRow : OpenClaim := { program := "ytlplaidcdocbmaa", sum := "33f126b7789ddbc05b4740cccdf5f86175525cae15f35c493af4ebfc9a0e176c", func := "hypercube/hypercubelaw11.TreeLeast", spec := "treeLeast", unfollowed := true, recurses := true, apart := false }
def TreeLeastSaid : Prop := treeLeastRow.holds Try.pinned (OpenSpec.ofChange treeLeastSpec)

/-- ITS FALSE NEIGHBOUR: 'it returns false'. Refute it at one input. -/
def treeLeastWrong : ChangeSpec := { name := "treeLeast", fn := fun _ => fun
  | [d1, d2, d3] => { results := [.lit (.bool false)], args := [d1, d2, d3] }
  | _ => none }
def TreeLeastWrongFalsely : Prop := treeLeastRow.holds Try.pinned (OpenSpec.ofChange treeLeastWrong)

/-- 'hypercubelaw11.TreeDear': WHATEVER THE INPUT: true; the input reads as it did. -/
def treeDearSpec : ChangeSpec := { name := "treeDear", fn := fun _ => fun
  | [d1, d2, d3] => { results := [.lit (.bool true)], args := [d1, d2, d3] }
  | _ => none }
def treeDearRow : OpenClaim := { program := "ytlplaidcdocbmaa", sum := "33f126b7789ddbc05b4740cccdf5f86175525cae15f35c493af4ebfc9a0e176c", func := "hypercube/hypercubelaw11.TreeDear", spec := "treeDear", unfollowed := true, recurses := true, apart := false }
def TreeDearSaid : Prop := treeDearRow.holds Try.pinned (OpenSpec.ofChange treeDearSpec)

/-- ITS FALSE NEIGHBOUR: 'it returns false'. Refute it at one input. -/
def treeDearWrong : ChangeSpec := { name := "treeDear", fn := fun _ => fun
  | [d1, d2, d3] => { results := [.lit (.bool false)], args := [d1, d2, d3] }
  | _ => none }
def TreeDearWrongFalsely : Prop := treeDearRow.holds Try.pinned (OpenSpec.ofChange treeDearWrong)

/-- 'hypercubelaw11.TreeKnown': WHATEVER THE INPUT: true; the input reads as it did. -/
def treeKnownSpec : ChangeSpec := { name := "treeKnown", fn := fun _ => fun
  | [d] => { results := [.lit (.bool true)], args := [d] }
  | _ => none }
def treeKnownRow : OpenClaim := { program := "ytlplaidcdocbmaa", sum := "33f126b7789ddbc05b4740cccdf5f86175525cae15f35c493af4ebfc9a0e176c", func := "hypercube/hypercubelaw11.TreeKnown", spec := "treeKnown", unfollowed := true, recurses := true, apart := false }
def TreeKnownSaid : Prop := treeKnownRow.holds Try.pinned (OpenSpec.ofChange treeKnownSpec)

/-- ITS FALSE NEIGHBOUR: 'it returns false'. Refute it at one input. -/
def treeKnownWrong : ChangeSpec := { name := "treeKnown", fn := fun _ => fun
  | [d] => { results := [.lit (.bool false)], args := [d] }
  | _ => none }
def TreeKnownWrongFalsely : Prop := treeKnownRow.holds Try.pinned (OpenSpec.ofChange treeKnownWrong)

/-- 'hypercubelaw11.TreeFew': WHATEVER THE INPUT: true; the input reads as it did. -/
def treeFewSpec : ChangeSpec := { name := "treeFew", fn := fun _ => fun
  | [d] => { results := [.lit (.bool true)], args := [d] }
  | _ => none }
def treeFewRow : OpenClaim := { program := "ytlplaidcdocbmaa", sum := "33f126b7789ddbc05b4740cccdf5f86175525cae15f35c493af4ebfc9a0e176c", func := "hypercube/hypercubelaw11.TreeFew", spec := "treeFew", unfollowed := true, recurses := true, apart := false }
def TreeFewSaid : Prop := treeFewRow.holds Try.pinned (OpenSpec.ofChange treeFewSpec)

/-- ITS FALSE NEIGHBOUR: 'it returns false'. Refute it at one input. -/
def treeFewWrong : ChangeSpec := { name := "treeFew", fn := fun _ => fun
  | [d] => { results := [.lit (.bool false)], args := [d] }
  | _ => none }
def TreeFewWrongFalsely : Prop := treeFewRow.holds Try.pinned (OpenSpec.ofChange treeFewWrong)

/-- 'hypercubelaw11.TreeMany': WHATEVER THE INPUT: true; the input reads as it did. -/
def treeManySpec : ChangeSpec := { name := "treeMany", fn := fun _ => fun
  | [d1, d2] => { results := [.lit (.bool true)], args := [d1, d2] }
  | _ => none }
def treeManyRow : OpenClaim := { program := "ytlplaidcdocbmaa", sum := "33f126b7789ddbc05b4740cccdf5f86175525cae15f35c493af4ebfc9a0e176c", func := "hypercube/hypercubelaw11.TreeMany", spec := "treeMany", unfollowed := true, recurses := true, apart := false }
def TreeManySaid : Prop := treeManyRow.holds Try.pinned (OpenSpec.ofChange treeManySpec)

/-- ITS FALSE NEIGHBOUR: 'it returns false'. Refute it at one input. -/
def treeManyWrong : ChangeSpec := { name := "treeMany", fn := fun _ => fun
  | [d1, d2] => { results := [.lit (.bool false)], args := [d1, d2] }
  | _ => none }
def TreeManyWrongFalsely : Prop := treeManyRow.holds Try.pinned (OpenSpec.ofChange treeManyWrong)

/-- 'hypercubelaw8.LatticeAll': WHATEVER THE INPUT: true; the input reads as it did. -/
def latticeAllSpec : ChangeSpec := { name := "latticeAll", fn := fun _ => fun
  | [d1, d2, d3, d4] => { results := [.lit (.bool true)], args := [d1, d2, d3, d4] }
  | _ => none }
def latticeAllRow : OpenClaim := { program := "ytlplaidcdocbmaa", sum := "33f126b7789ddbc05b4740cccdf5f86175525cae15f35c493af4ebfc9a0e176c", func := "hypercube/hypercubelaw8.LatticeAll", spec := "latticeAll", unfollowed := true, recurses := true, apart := false }
def LatticeAllSaid : Prop := latticeAllRow.holds Try.pinned (OpenSpec.ofChange latticeAllSpec)

/-- ITS FALSE NEIGHBOUR: 'it returns false'. Refute it at one input. -/
def latticeAllWrong : ChangeSpec := { name := "latticeAll", fn := fun _ => fun
  | [d1, d2, d3, d4] => { results := [.lit (.bool false)], args := [d1, d2, d3, d4] }
  | _ => none }
def LatticeAllWrongFalsely : Prop := latticeAllRow.holds Try.pinned (OpenSpec.ofChange latticeAllWrong)

/-- 'hypercubelaw8.LatticeSizes': WHATEVER THE INPUT: true; the input reads as it did. -/
def latticeSizesSpec : ChangeSpec := { name := "latticeSizes", fn := fun _ => fun
  | [d1, d2, d3, d4, d5] => { results := [.lit (.bool true)], args := [d1, d2, d3, d4, d5] }
  | _ => none }
def latticeSizesRow : OpenClaim := { program := "ytlplaidcdocbmaa", sum := "33f126b7789ddbc05b4740cccdf5f86175525cae15f35c493af4ebfc9a0e176c", func := "hypercube/hypercubelaw8.LatticeSizes", spec := "latticeSizes", unfollowed := true, recurses := true, apart := false }
def LatticeSizesSaid : Prop := latticeSizesRow.holds Try.pinned (OpenSpec.ofChange latticeSizesSpec)

/-- ITS FALSE NEIGHBOUR: 'it returns false'. Refute it at one input. -/
def latticeSizesWrong : ChangeSpec := { name := "latticeSizes", fn := fun _ => fun
  | [d1, d2, d3, d4, d5] => { results := [.lit (.bool false)], args := [d1, d2, d3, d4, d5] }
  | _ => none }
def LatticeSizesWrongFalsely : Prop := latticeSizesRow.holds Try.pinned (OpenSpec.ofChange latticeSizesWrong)

/-- 'hypercubelaw8.LatticeKnown': WHATEVER THE INPUT: true; the input reads as it did. -/
def latticeKnownSpec : ChangeSpec := { name := "latticeKnown", fn := fun _ => fun
  | [d] => { results := [.lit (.bool true)], args := [d] }
  | _ => none }
def latticeKnownRow : OpenClaim := { program := "ytlplaidcdocbmaa", sum := "33f126b7789ddbc05b4740cccdf5f86175525cae15f35c493af4ebfc9a0e176c", func := "hypercube/hypercubelaw8.LatticeKnown", spec := "latticeKnown", unfollowed := true, recurses := true, apart := false }
def LatticeKnownSaid : Prop := latticeKnownRow.holds Try.pinned (OpenSpec.ofChange latticeKnownSpec)

/-- ITS FALSE NEIGHBOUR: 'it returns false'. Refute it at one input. -/
def latticeKnownWrong : ChangeSpec := { name := "latticeKnown", fn := fun _ => fun
  | [d] => { results := [.lit (.bool false)], args := [d] }
  | _ => none }
def LatticeKnownWrongFalsely : Prop := latticeKnownRow.holds Try.pinned (OpenSpec.ofChange latticeKnownWrong)

/-- 'hypercubelaw8.LatticeCosts': WHATEVER THE INPUT: true; the input reads as it did. -/
def latticeCostsSpec : ChangeSpec := { name := "latticeCosts", fn := fun _ => fun
  | [d1, d2, d3, d4] => { results := [.lit (.bool true)], args := [d1, d2, d3, d4] }
  | _ => none }
def latticeCostsRow : OpenClaim := { program := "ytlplaidcdocbmaa", sum := "33f126b7789ddbc05b4740cccdf5f86175525cae15f35c493af4ebfc9a0e176c", func := "hypercube/hypercubelaw8.LatticeCosts", spec := "latticeCosts", unfollowed := true, recurses := true, apart := false }
def LatticeCostsSaid : Prop := latticeCostsRow.holds Try.pinned (OpenSpec.ofChange latticeCostsSpec)

/-- ITS FALSE NEIGHBOUR: 'it returns false'. Refute it at one input. -/
def latticeCostsWrong : ChangeSpec := { name := "latticeCosts", fn := fun _ => fun
  | [d1, d2, d3, d4] => { results := [.lit (.bool false)], args := [d1, d2, d3, d4] }
  | _ => none }
def LatticeCostsWrongFalsely : Prop := latticeCostsRow.holds Try.pinned (OpenSpec.ofChange latticeCostsWrong)

/-- 'hypercubelaw8.LatticeNone': WHATEVER THE INPUT: true; the input reads as it did. -/
def latticeNoneSpec : ChangeSpec := { name := "latticeNone", fn := fun _ => fun
  | [d1, d2, d3] => { results := [.lit (.bool true)], args := [d1, d2, d3] }
  | _ => none }
def latticeNoneRow : OpenClaim := { program := "ytlplaidcdocbmaa", sum := "33f126b7789ddbc05b4740cccdf5f86175525cae15f35c493af4ebfc9a0e176c", func := "hypercube/hypercubelaw8.LatticeNone", spec := "latticeNone", unfollowed := true, recurses := true, apart := false }
def LatticeNoneSaid : Prop := latticeNoneRow.holds Try.pinned (OpenSpec.ofChange latticeNoneSpec)

/-- ITS FALSE NEIGHBOUR: 'it returns false'. Refute it at one input. -/
def latticeNoneWrong : ChangeSpec := { name := "latticeNone", fn := fun _ => fun
  | [d1, d2, d3] => { results := [.lit (.bool false)], args := [d1, d2, d3] }
  | _ => none }
def LatticeNoneWrongFalsely : Prop := latticeNoneRow.holds Try.pinned (OpenSpec.ofChange latticeNoneWrong)

/-- 'hypercubelaw10.SortsRight': WHATEVER THE INPUT: true; the input reads as it did. -/
def sortsRightSpec : ChangeSpec := { name := "sortsRight", fn := fun _ => fun
  | [d1, d2, d3, d4, d5, d6] => { results := [.lit (.bool true)], args := [d1, d2, d3, d4, d5, d6] }
  | _ => none }
def sortsRightRow : OpenClaim := { program := "ytlplaidcdocbmaa", sum := "33f126b7789ddbc05b4740cccdf5f86175525cae15f35c493af4ebfc9a0e176c", func := "hypercube/hypercubelaw10.SortsRight", spec := "sortsRight", unfollowed := true, recurses := true, apart := false }
def SortsRightSaid : Prop := sortsRightRow.holds Try.pinned (OpenSpec.ofChange sortsRightSpec)

/-- ITS FALSE NEIGHBOUR: 'it returns false'. Refute it at one input. -/
def sortsRightWrong : ChangeSpec := { name := "sortsRight", fn := fun _ => fun
  | [d1, d2, d3, d4, d5, d6] => { results := [.lit (.bool false)], args := [d1, d2, d3, d4, d5, d6] }
  | _ => none }
def SortsRightWrongFalsely : Prop := sortsRightRow.holds Try.pinned (OpenSpec.ofChange sortsRightWrong)

/-- 'hypercubelaw10.SortsScans': WHATEVER THE INPUT: true; the input reads as it did. -/
def sortsScansSpec : ChangeSpec := { name := "sortsScans", fn := fun _ => fun
  | [d1, d2, d3] => { results := [.lit (.bool true)], args := [d1, d2, d3] }
  | _ => none }
def sortsScansRow : OpenClaim := { program := "ytlplaidcdocbmaa", sum := "33f126b7789ddbc05b4740cccdf5f86175525cae15f35c493af4ebfc9a0e176c", func := "hypercube/hypercubelaw10.SortsScans", spec := "sortsScans", unfollowed := true, recurses := true, apart := false }
def SortsScansSaid : Prop := sortsScansRow.holds Try.pinned (OpenSpec.ofChange sortsScansSpec)

/-- ITS FALSE NEIGHBOUR: 'it returns false'. Refute it at one input. -/
def sortsScansWrong : ChangeSpec := { name := "sortsScans", fn := fun _ => fun
  | [d1, d2, d3] => { results := [.lit (.bool false)], args := [d1, d2, d3] }
  | _ => none }
def SortsScansWrongFalsely : Prop := sortsScansRow.holds Try.pinned (OpenSpec.ofChange sortsScansWrong)

/-- 'hypercubelaw10.SortsLevels': WHATEVER THE INPUT: true; the input reads as it did. -/
def sortsLevelsSpec : ChangeSpec := { name := "sortsLevels", fn := fun _ => fun
  | [d1, d2, d3] => { results := [.lit (.bool true)], args := [d1, d2, d3] }
  | _ => none }
def sortsLevelsRow : OpenClaim := { program := "ytlplaidcdocbmaa", sum := "33f126b7789ddbc05b4740cccdf5f86175525cae15f35c493af4ebfc9a0e176c", func := "hypercube/hypercubelaw10.SortsLevels", spec := "sortsLevels", unfollowed := true, recurses := true, apart := false }
def SortsLevelsSaid : Prop := sortsLevelsRow.holds Try.pinned (OpenSpec.ofChange sortsLevelsSpec)

/-- ITS FALSE NEIGHBOUR: 'it returns false'. Refute it at one input. -/
def sortsLevelsWrong : ChangeSpec := { name := "sortsLevels", fn := fun _ => fun
  | [d1, d2, d3] => { results := [.lit (.bool false)], args := [d1, d2, d3] }
  | _ => none }
def SortsLevelsWrongFalsely : Prop := sortsLevelsRow.holds Try.pinned (OpenSpec.ofChange sortsLevelsWrong)

/-- 'hypercubelaw10.SortsLeast': WHATEVER THE INPUT: true; the input reads as it did. -/
def sortsLeastSpec : ChangeSpec := { name := "sortsLeast", fn := fun _ => fun
  | [d1, d2, d3, d4] => { results := [.lit (.bool true)], args := [d1, d2, d3, d4] }
  | _ => none }
def sortsLeastRow : OpenClaim := { program := "ytlplaidcdocbmaa", sum := "33f126b7789ddbc05b4740cccdf5f86175525cae15f35c493af4ebfc9a0e176c", func := "hypercube/hypercubelaw10.SortsLeast", spec := "sortsLeast", unfollowed := true, recurses := true, apart := false }
def SortsLeastSaid : Prop := sortsLeastRow.holds Try.pinned (OpenSpec.ofChange sortsLeastSpec)

/-- ITS FALSE NEIGHBOUR: 'it returns false'. Refute it at one input. -/
def sortsLeastWrong : ChangeSpec := { name := "sortsLeast", fn := fun _ => fun
  | [d1, d2, d3, d4] => { results := [.lit (.bool false)], args := [d1, d2, d3, d4] }
  | _ => none }
def SortsLeastWrongFalsely : Prop := sortsLeastRow.holds Try.pinned (OpenSpec.ofChange sortsLeastWrong)

/-- 'hypercubelaw10.SortsCost': WHATEVER THE INPUT: true; the input reads as it did. -/
def sortsCostSpec : ChangeSpec := { name := "sortsCost", fn := fun _ => fun
  | [d1, d2, d3, d4, d5] => { results := [.lit (.bool true)], args := [d1, d2, d3, d4, d5] }
  | _ => none }
def sortsCostRow : OpenClaim := { program := "ytlplaidcdocbmaa", sum := "33f126b7789ddbc05b4740cccdf5f86175525cae15f35c493af4ebfc9a0e176c", func := "hypercube/hypercubelaw10.SortsCost", spec := "sortsCost", unfollowed := true, recurses := true, apart := false }
def SortsCostSaid : Prop := sortsCostRow.holds Try.pinned (OpenSpec.ofChange sortsCostSpec)

/-- ITS FALSE NEIGHBOUR: 'it returns false'. Refute it at one input. -/
def sortsCostWrong : ChangeSpec := { name := "sortsCost", fn := fun _ => fun
  | [d1, d2, d3, d4, d5] => { results := [.lit (.bool false)], args := [d1, d2, d3, d4, d5] }
  | _ => none }
def SortsCostWrongFalsely : Prop := sortsCostRow.holds Try.pinned (OpenSpec.ofChange sortsCostWrong)

/-- 'hypercubelaw10.SortsKnown': WHATEVER THE INPUT: true; the input reads as it did. -/
def sortsKnownSpec : ChangeSpec := { name := "sortsKnown", fn := fun _ => fun
  | [d] => { results := [.lit (.bool true)], args := [d] }
  | _ => none }
def sortsKnownRow : OpenClaim := { program := "ytlplaidcdocbmaa", sum := "33f126b7789ddbc05b4740cccdf5f86175525cae15f35c493af4ebfc9a0e176c", func := "hypercube/hypercubelaw10.SortsKnown", spec := "sortsKnown", unfollowed := true, recurses := true, apart := false }
def SortsKnownSaid : Prop := sortsKnownRow.holds Try.pinned (OpenSpec.ofChange sortsKnownSpec)

/-- ITS FALSE NEIGHBOUR: 'it returns false'. Refute it at one input. -/
def sortsKnownWrong : ChangeSpec := { name := "sortsKnown", fn := fun _ => fun
  | [d] => { results := [.lit (.bool false)], args := [d] }
  | _ => none }
def SortsKnownWrongFalsely : Prop := sortsKnownRow.holds Try.pinned (OpenSpec.ofChange sortsKnownWrong)

/-- 'hypercubelaw10.SortsMany': WHATEVER THE INPUT: true; the input reads as it did. -/
def sortsManySpec : ChangeSpec := { name := "sortsMany", fn := fun _ => fun
  | [d1, d2, d3] => { results := [.lit (.bool true)], args := [d1, d2, d3] }
  | _ => none }
def sortsManyRow : OpenClaim := { program := "ytlplaidcdocbmaa", sum := "33f126b7789ddbc05b4740cccdf5f86175525cae15f35c493af4ebfc9a0e176c", func := "hypercube/hypercubelaw10.SortsMany", spec := "sortsMany", unfollowed := true, recurses := true, apart := false }
def SortsManySaid : Prop := sortsManyRow.holds Try.pinned (OpenSpec.ofChange sortsManySpec)

/-- ITS FALSE NEIGHBOUR: 'it returns false'. Refute it at one input. -/
def sortsManyWrong : ChangeSpec := { name := "sortsMany", fn := fun _ => fun
  | [d1, d2, d3] => { results := [.lit (.bool false)], args := [d1, d2, d3] }
  | _ => none }
def SortsManyWrongFalsely : Prop := sortsManyRow.holds Try.pinned (OpenSpec.ofChange sortsManyWrong)

/-- 'hypercubelaw10.SortsOrders': WHATEVER THE INPUT: true; the input reads as it did. -/
def sortsOrdersSpec : ChangeSpec := { name := "sortsOrders", fn := fun _ => fun
  | [d1, d2] => { results := [.lit (.bool true)], args := [d1, d2] }
  | _ => none }
def sortsOrdersRow : OpenClaim := { program := "ytlplaidcdocbmaa", sum := "33f126b7789ddbc05b4740cccdf5f86175525cae15f35c493af4ebfc9a0e176c", func := "hypercube/hypercubelaw10.SortsOrders", spec := "sortsOrders", unfollowed := true, recurses := true, apart := false }
def SortsOrdersSaid : Prop := sortsOrdersRow.holds Try.pinned (OpenSpec.ofChange sortsOrdersSpec)

/-- ITS FALSE NEIGHBOUR: 'it returns false'. Refute it at one input. -/
def sortsOrdersWrong : ChangeSpec := { name := "sortsOrders", fn := fun _ => fun
  | [d1, d2] => { results := [.lit (.bool false)], args := [d1, d2] }
  | _ => none }
def SortsOrdersWrongFalsely : Prop := sortsOrdersRow.holds Try.pinned (OpenSpec.ofChange sortsOrdersWrong)

/-- 'hypercubelaw10.SortsAll': WHATEVER THE INPUT: true; the input reads as it did. -/
def sortsAllSpec : ChangeSpec := { name := "sortsAll", fn := fun _ => fun
  | [d1, d2, d3] => { results := [.lit (.bool true)], args := [d1, d2, d3] }
  | _ => none }
def sortsAllRow : OpenClaim := { program := "ytlplaidcdocbmaa", sum := "33f126b7789ddbc05b4740cccdf5f86175525cae15f35c493af4ebfc9a0e176c", func := "hypercube/hypercubelaw10.SortsAll", spec := "sortsAll", unfollowed := true, recurses := true, apart := false }
def SortsAllSaid : Prop := sortsAllRow.holds Try.pinned (OpenSpec.ofChange sortsAllSpec)

/-- ITS FALSE NEIGHBOUR: 'it returns false'. Refute it at one input. -/
def sortsAllWrong : ChangeSpec := { name := "sortsAll", fn := fun _ => fun
  | [d1, d2, d3] => { results := [.lit (.bool false)], args := [d1, d2, d3] }
  | _ => none }
def SortsAllWrongFalsely : Prop := sortsAllRow.holds Try.pinned (OpenSpec.ofChange sortsAllWrong)

/- THE SECOND FORM. 'bulk': how many values and letters a reading holds, each counted each time it is reached (what is shared counts as often as it is met; a slice's spare places count too). A statement '..UptoSaid' is the law's where the arguments, and the package variables that the reading takes, are together of bulk at most 1048576: NARROWER than '..Said'. Prove '..Said' where nothing that the law and all that it calls make is longer than what came in: it says more and counts as full. Else prove '..UptoSaid'. A law counts once. -/
mutual
def uptoBulk {H : Type} : DataW H → Nat
  | .lit (.string bytes) => bytes.length + 1
  | .lit _ => 1
  | .nil => 1
  | .ptr d => uptoBulk d + 1
  | .slice elems spare => uptoBulkAll elems + uptoBulkAll spare + 1
  | .agg parts => uptoBulkAll parts + 1
  | .iface _ d => uptoBulk d + 1
  | .map entries => uptoBulkEntries entries + 1
  | .held _ => 1
def uptoBulkAll {H : Type} : List (DataW H) → Nat
  | [] => 0
  | d :: r => uptoBulk d + uptoBulkAll r
def uptoBulkEntries {H : Type} : List (Lit × DataW H) → Nat
  | [] => 0
  | x :: r => uptoBulkEntry x + uptoBulkEntries r
def uptoBulkEntry {H : Type} : Lit × DataW H → Nat
  | (.string bytes, d) => bytes.length + uptoBulk d + 1
  | (_, d) => uptoBulk d + 1
 end
def uptoSmall : (H : Type) → List (DataW H) → Bool := fun _ ds => decide (uptoBulkAll ds ≤ 1048576)
def OpenSpec.upto (s : _root_.Go.ChangeSpec) : _root_.Go.OpenSpec := { _root_.Go.OpenSpec.ofChange s with cond := some uptoSmall }

/-- 'hypercubelaw8.LatticeSets', WHERE WHAT IT READS IS OF BULK AT MOST 1048576: true; the input reads as it did. -/
def latticeSetsUptoRow : OpenClaim := { program := "ytlplaidcdocbmaa", sum := "33f126b7789ddbc05b4740cccdf5f86175525cae15f35c493af4ebfc9a0e176c", func := "hypercube/hypercubelaw8.LatticeSets", spec := "latticeSets", unfollowed := true, recurses := true, apart := false, narrowed := true }
def LatticeSetsUptoSaid : Prop := latticeSetsUptoRow.holds Try.pinned (OpenSpec.upto latticeSetsSpec)

/-- 'hypercubelaw8.LatticeLevels', WHERE WHAT IT READS IS OF BULK AT MOST 1048576: true; the input reads as it did. -/
def latticeLevelsUptoRow : OpenClaim := { program := "ytlplaidcdocbmaa", sum := "33f126b7789ddbc05b4740cccdf5f86175525cae15f35c493af4ebfc9a0e176c", func := "hypercube/hypercubelaw8.LatticeLevels", spec := "latticeLevels", unfollowed := true, recurses := true, apart := false, narrowed := true }
def LatticeLevelsUptoSaid : Prop := latticeLevelsUptoRow.holds Try.pinned (OpenSpec.upto latticeLevelsSpec)

/-- 'hypercubelaw8.LatticeUp', WHERE WHAT IT READS IS OF BULK AT MOST 1048576: true; the input reads as it did. -/
def latticeUpUptoRow : OpenClaim := { program := "ytlplaidcdocbmaa", sum := "33f126b7789ddbc05b4740cccdf5f86175525cae15f35c493af4ebfc9a0e176c", func := "hypercube/hypercubelaw8.LatticeUp", spec := "latticeUp", unfollowed := true, recurses := true, apart := false, narrowed := true }
def LatticeUpUptoSaid : Prop := latticeUpUptoRow.holds Try.pinned (OpenSpec.upto latticeUpSpec)

/-- 'hypercubelaw8.LatticeTrue', WHERE WHAT IT READS IS OF BULK AT MOST 1048576: true; the input reads as it did. -/
def latticeTrueUptoRow : OpenClaim := { program := "ytlplaidcdocbmaa", sum := "33f126b7789ddbc05b4740cccdf5f86175525cae15f35c493af4ebfc9a0e176c", func := "hypercube/hypercubelaw8.LatticeTrue", spec := "latticeTrue", unfollowed := true, recurses := true, apart := false, narrowed := true }
def LatticeTrueUptoSaid : Prop := latticeTrueUptoRow.holds Try.pinned (OpenSpec.upto latticeTrueSpec)

/-- 'hypercubelaw11.TreeAll', WHERE WHAT IT READS IS OF BULK AT MOST 1048576: true; the input reads as it did. -/
def treeAllUptoRow : OpenClaim := { program := "ytlplaidcdocbmaa", sum := "33f126b7789ddbc05b4740cccdf5f86175525cae15f35c493af4ebfc9a0e176c", func := "hypercube/hypercubelaw11.TreeAll", spec := "treeAll", unfollowed := true, recurses := true, apart := false, narrowed := true }
def TreeAllUptoSaid : Prop := treeAllUptoRow.holds Try.pinned (OpenSpec.upto treeAllSpec)

/-- 'hypercubelaw11.TreeLeast', WHERE WHAT IT READS IS OF BULK AT MOST 1048576: true; the input reads as it did. -/
def treeLeastUptoRow : OpenClaim := { program := "ytlplaidcdocbmaa", sum := "33f126b7789ddbc05b4740cccdf5f86175525cae15f35c493af4ebfc9a0e176c", func := "hypercube/hypercubelaw11.TreeLeast", spec := "treeLeast", unfollowed := true, recurses := true, apart := false, narrowed := true }
def TreeLeastUptoSaid : Prop := treeLeastUptoRow.holds Try.pinned (OpenSpec.upto treeLeastSpec)

/-- 'hypercubelaw11.TreeDear', WHERE WHAT IT READS IS OF BULK AT MOST 1048576: true; the input reads as it did. -/
def treeDearUptoRow : OpenClaim := { program := "ytlplaidcdocbmaa", sum := "33f126b7789ddbc05b4740cccdf5f86175525cae15f35c493af4ebfc9a0e176c", func := "hypercube/hypercubelaw11.TreeDear", spec := "treeDear", unfollowed := true, recurses := true, apart := false, narrowed := true }
def TreeDearUptoSaid : Prop := treeDearUptoRow.holds Try.pinned (OpenSpec.upto treeDearSpec)

/-- 'hypercubelaw11.TreeKnown', WHERE WHAT IT READS IS OF BULK AT MOST 1048576: true; the input reads as it did. -/
def treeKnownUptoRow : OpenClaim := { program := "ytlplaidcdocbmaa", sum := "33f126b7789ddbc05b4740cccdf5f86175525cae15f35c493af4ebfc9a0e176c", func := "hypercube/hypercubelaw11.TreeKnown", spec := "treeKnown", unfollowed := true, recurses := true, apart := false, narrowed := true }
def TreeKnownUptoSaid : Prop := treeKnownUptoRow.holds Try.pinned (OpenSpec.upto treeKnownSpec)

/-- 'hypercubelaw11.TreeFew', WHERE WHAT IT READS IS OF BULK AT MOST 1048576: true; the input reads as it did. -/
def treeFewUptoRow : OpenClaim := { program := "ytlplaidcdocbmaa", sum := "33f126b7789ddbc05b4740cccdf5f86175525cae15f35c493af4ebfc9a0e176c", func := "hypercube/hypercubelaw11.TreeFew", spec := "treeFew", unfollowed := true, recurses := true, apart := false, narrowed := true }
def TreeFewUptoSaid : Prop := treeFewUptoRow.holds Try.pinned (OpenSpec.upto treeFewSpec)

/-- 'hypercubelaw11.TreeMany', WHERE WHAT IT READS IS OF BULK AT MOST 1048576: true; the input reads as it did. -/
def treeManyUptoRow : OpenClaim := { program := "ytlplaidcdocbmaa", sum := "33f126b7789ddbc05b4740cccdf5f86175525cae15f35c493af4ebfc9a0e176c", func := "hypercube/hypercubelaw11.TreeMany", spec := "treeMany", unfollowed := true, recurses := true, apart := false, narrowed := true }
def TreeManyUptoSaid : Prop := treeManyUptoRow.holds Try.pinned (OpenSpec.upto treeManySpec)

/-- 'hypercubelaw8.LatticeAll', WHERE WHAT IT READS IS OF BULK AT MOST 1048576: true; the input reads as it did. -/
def latticeAllUptoRow : OpenClaim := { program := "ytlplaidcdocbmaa", sum := "33f126b7789ddbc05b4740cccdf5f86175525cae15f35c493af4ebfc9a0e176c", func := "hypercube/hypercubelaw8.LatticeAll", spec := "latticeAll", unfollowed := true, recurses := true, apart := false, narrowed := true }
def LatticeAllUptoSaid : Prop := latticeAllUptoRow.holds Try.pinned (OpenSpec.upto latticeAllSpec)

/-- 'hypercubelaw8.LatticeSizes', WHERE WHAT IT READS IS OF BULK AT MOST 1048576: true; the input reads as it did. -/
def latticeSizesUptoRow : OpenClaim := { program := "ytlplaidcdocbmaa", sum := "33f126b7789ddbc05b4740cccdf5f86175525cae15f35c493af4ebfc9a0e176c", func := "hypercube/hypercubelaw8.LatticeSizes", spec := "latticeSizes", unfollowed := true, recurses := true, apart := false, narrowed := true }
def LatticeSizesUptoSaid : Prop := latticeSizesUptoRow.holds Try.pinned (OpenSpec.upto latticeSizesSpec)

/-- 'hypercubelaw8.LatticeKnown', WHERE WHAT IT READS IS OF BULK AT MOST 1048576: true; the input reads as it did. -/
def latticeKnownUptoRow : OpenClaim := { program := "ytlplaidcdocbmaa", sum := "33f126b7789ddbc05b4740cccdf5f86175525cae15f35c493af4ebfc9a0e176c", func := "hypercube/hypercubelaw8.LatticeKnown", spec := "latticeKnown", unfollowed := true, recurses := true, apart := false, narrowed := true }
def LatticeKnownUptoSaid : Prop := latticeKnownUptoRow.holds Try.pinned (OpenSpec.upto latticeKnownSpec)

/-- 'hypercubelaw8.LatticeCosts', WHERE WHAT IT READS IS OF BULK AT MOST 1048576: true; the input reads as it did. -/
def latticeCostsUptoRow : OpenClaim := { program := "ytlplaidcdocbmaa", sum := "33f126b7789ddbc05b4740cccdf5f86175525cae15f35c493af4ebfc9a0e176c", func := "hypercube/hypercubelaw8.LatticeCosts", spec := "latticeCosts", unfollowed := true, recurses := true, apart := false, narrowed := true }
def LatticeCostsUptoSaid : Prop := latticeCostsUptoRow.holds Try.pinned (OpenSpec.upto latticeCostsSpec)

/-- 'hypercubelaw8.LatticeNone', WHERE WHAT IT READS IS OF BULK AT MOST 1048576: true; the input reads as it did. -/
def latticeNoneUptoRow : OpenClaim := { program := "ytlplaidcdocbmaa", sum := "33f126b7789ddbc05b4740cccdf5f86175525cae15f35c493af4ebfc9a0e176c", func := "hypercube/hypercubelaw8.LatticeNone", spec := "latticeNone", unfollowed := true, recurses := true, apart := false, narrowed := true }
def LatticeNoneUptoSaid : Prop := latticeNoneUptoRow.holds Try.pinned (OpenSpec.upto latticeNoneSpec)

/-- 'hypercubelaw10.SortsRight', WHERE WHAT IT READS IS OF BULK AT MOST 1048576: true; the input reads as it did. -/
def sortsRightUptoRow : OpenClaim := { program := "ytlplaidcdocbmaa", sum := "33f126b7789ddbc05b4740cccdf5f86175525cae15f35c493af4ebfc9a0e176c", func := "hypercube/hypercubelaw10.SortsRight", spec := "sortsRight", unfollowed := true, recurses := true, apart := false, narrowed := true }
def SortsRightUptoSaid : Prop := sortsRightUptoRow.holds Try.pinned (OpenSpec.upto sortsRightSpec)

/-- 'hypercubelaw10.SortsScans', WHERE WHAT IT READS IS OF BULK AT MOST 1048576: true; the input reads as it did. -/
def sortsScansUptoRow : OpenClaim := { program := "ytlplaidcdocbmaa", sum := "33f126b7789ddbc05b4740cccdf5f86175525cae15f35c493af4ebfc9a0e176c", func := "hypercube/hypercubelaw10.SortsScans", spec := "sortsScans", unfollowed := true, recurses := true, apart := false, narrowed := true }
def SortsScansUptoSaid : Prop := sortsScansUptoRow.holds Try.pinned (OpenSpec.upto sortsScansSpec)

/-- 'hypercubelaw10.SortsLevels', WHERE WHAT IT READS IS OF BULK AT MOST 1048576: true; the input reads as it did. -/
def sortsLevelsUptoRow : OpenClaim := { program := "ytlplaidcdocbmaa", sum := "33f126b7789ddbc05b4740cccdf5f86175525cae15f35c493af4ebfc9a0e176c", func := "hypercube/hypercubelaw10.SortsLevels", spec := "sortsLevels", unfollowed := true, recurses := true, apart := false, narrowed := true }
def SortsLevelsUptoSaid : Prop := sortsLevelsUptoRow.holds Try.pinned (OpenSpec.upto sortsLevelsSpec)

/-- 'hypercubelaw10.SortsLeast', WHERE WHAT IT READS IS OF BULK AT MOST 1048576: true; the input reads as it did. -/
def sortsLeastUptoRow : OpenClaim := { program := "ytlplaidcdocbmaa", sum := "33f126b7789ddbc05b4740cccdf5f86175525cae15f35c493af4ebfc9a0e176c", func := "hypercube/hypercubelaw10.SortsLeast", spec := "sortsLeast", unfollowed := true, recurses := true, apart := false, narrowed := true }
def SortsLeastUptoSaid : Prop := sortsLeastUptoRow.holds Try.pinned (OpenSpec.upto sortsLeastSpec)

/-- 'hypercubelaw10.SortsCost', WHERE WHAT IT READS IS OF BULK AT MOST 1048576: true; the input reads as it did. -/
def sortsCostUptoRow : OpenClaim := { program := "ytlplaidcdocbmaa", sum := "33f126b7789ddbc05b4740cccdf5f86175525cae15f35c493af4ebfc9a0e176c", func := "hypercube/hypercubelaw10.SortsCost", spec := "sortsCost", unfollowed := true, recurses := true, apart := false, narrowed := true }
def SortsCostUptoSaid : Prop := sortsCostUptoRow.holds Try.pinned (OpenSpec.upto sortsCostSpec)

/-- 'hypercubelaw10.SortsKnown', WHERE WHAT IT READS IS OF BULK AT MOST 1048576: true; the input reads as it did. -/
def sortsKnownUptoRow : OpenClaim := { program := "ytlplaidcdocbmaa", sum := "33f126b7789ddbc05b4740cccdf5f86175525cae15f35c493af4ebfc9a0e176c", func := "hypercube/hypercubelaw10.SortsKnown", spec := "sortsKnown", unfollowed := true, recurses := true, apart := false, narrowed := true }
def SortsKnownUptoSaid : Prop := sortsKnownUptoRow.holds Try.pinned (OpenSpec.upto sortsKnownSpec)

/-- 'hypercubelaw10.SortsMany', WHERE WHAT IT READS IS OF BULK AT MOST 1048576: true; the input reads as it did. -/
def sortsManyUptoRow : OpenClaim := { program := "ytlplaidcdocbmaa", sum := "33f126b7789ddbc05b4740cccdf5f86175525cae15f35c493af4ebfc9a0e176c", func := "hypercube/hypercubelaw10.SortsMany", spec := "sortsMany", unfollowed := true, recurses := true, apart := false, narrowed := true }
def SortsManyUptoSaid : Prop := sortsManyUptoRow.holds Try.pinned (OpenSpec.upto sortsManySpec)

/-- 'hypercubelaw10.SortsOrders', WHERE WHAT IT READS IS OF BULK AT MOST 1048576: true; the input reads as it did. -/
def sortsOrdersUptoRow : OpenClaim := { program := "ytlplaidcdocbmaa", sum := "33f126b7789ddbc05b4740cccdf5f86175525cae15f35c493af4ebfc9a0e176c", func := "hypercube/hypercubelaw10.SortsOrders", spec := "sortsOrders", unfollowed := true, recurses := true, apart := false, narrowed := true }
def SortsOrdersUptoSaid : Prop := sortsOrdersUptoRow.holds Try.pinned (OpenSpec.upto sortsOrdersSpec)

/-- 'hypercubelaw10.SortsAll', WHERE WHAT IT READS IS OF BULK AT MOST 1048576: true; the input reads as it did. -/
def sortsAllUptoRow : OpenClaim := { program := "ytlplaidcdocbmaa", sum := "33f126b7789ddbc05b4740cccdf5f86175525cae15f35c493af4ebfc9a0e176c", func := "hypercube/hypercubelaw10.SortsAll", spec := "sortsAll", unfollowed := true, recurses := true, apart := false, narrowed := true }
def SortsAllUptoSaid : Prop := sortsAllUptoRow.holds Try.pinned (OpenSpec.upto sortsAllSpec)

end Rows
end Go.Proofs.Ytlplaidcdocbmaa
