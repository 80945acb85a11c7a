-- Cut by pack.py, a program of this session; not trusted: Lean checks it.
import Derived.Deep.Draws
import Derived.Tactics
import Derived.OwnWalk
import Derived.Outline
import Derived.Lib.Walk
import Derived.Lib.SliceRun
import Derived.Test.YtlplaidcdocbmaaZCore18
import Derived.Test.YtlplaidcdocbmaaZS1
import Derived.Test.YtlplaidcdocbmaaZPlainS
/- sorts: the sets of one level. -/
namespace Go.Proofs.Ytlplaidcdocbmaa.Srt
open Go.RowKit Go.Shelf Go.Proofs.Ytlplaidcdocbmaa.Core
set_option linter.unusedVariables false
set_option linter.unusedSimpArgs false

/-- A row that a loop lays behind W0: what lay in W0 stays. -/
def Acc (W0 : World) (e : TypeId) (sz : Nat) (vo : Value) (n : Nat) (xs : List Value) (wr : World) : Prop := wr.ownsRow W0.heap.size e sz vo n xs ∧ Below W0.heap.size W0 wr
section
variable {W0 wr w' : World} {e : TypeId} {sz n m : Nat} {vo v' : Value} {xs ys : List Value}
theorem Acc.nil (W0 : World) (e : TypeId) (sz : Nat) : Acc W0 e sz (.slice none 0 0) 0 [] W0 := ⟨World.ownsRow_nil _ _ _ _, Below.refl _ _⟩
theorem Acc.below (h : Acc W0 e sz vo n xs wr) (hb : Below wr.heap.size wr w') : Acc W0 e sz vo n xs w' := ⟨ownsRow_below' h.1 hb, h.2.trans (hb.mono h.2.size)⟩
theorem Acc.append (h : Acc W0 e sz vo n xs wr) (hown : w'.ownsRow W0.heap.size e sz v' m ys) (hg : wr.grownBy w' vo.ownBlock) : Acc W0 e sz v' m ys w' :=
  ⟨hown, h.2.trans ((Below.refl _ wr).grown hg h.2.size (own_base_le h.1))⟩
end

end Go.Proofs.Ytlplaidcdocbmaa.Srt
