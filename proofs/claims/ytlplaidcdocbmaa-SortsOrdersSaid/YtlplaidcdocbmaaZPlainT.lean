-- Cut by pack.py, a program of this session; not trusted: Lean checks it.
import Derived.Test.YtlplaidcdocbmaaZPlainS
/- Whether a plan may be; orders of dimensions. -/
namespace Go.Proofs.Ytlplaidcdocbmaa.Srt
open Go.Proofs.Ytlplaidcdocbmaa.Core Go.Proofs.Ytlplaidcdocbmaa.Mat
set_option linter.unusedVariables false
set_option linter.unusedSimpArgs false

/-- Whether an edge may stand at a place of a plan. -/
def okE (d i : Nat) (e : Ed) : Bool := (e.set == (((sets d).getD i 0 : Nat) : Int)) && (if i = 0 then e.par == -1 && !e.scan else (parents ((sets d).getD i 0) d).any fun p => ((p : Nat) : Int) == e.par)
def rightGo (d : Nat) : Nat → List Int → List Ed → Bool
  | _, _, [] => true
  | i, seen, e :: r => okE d i e && !(e.scan && seen.contains e.par) && rightGo d (i + 1) (if e.scan then seen ++ [e.par] else seen) r
/-- Whether a plan may be. -/
def rightS (d : Nat) (o : List Ed) : Bool := (o.length == (sets d).length) && rightGo d 0 [] o

-- orders
def bitsL (d s : Nat) : List Nat := (List.range d).filter fun i => s.testBit i
/-- In which order a set's dimensions are sorted. -/
def orderS (o : List Ed) (d : Nat) : Nat → Nat → List Nat
  | 0, s => bitsL d s
  | f + 1, s => match o.find? fun e => e.scan && e.par == (s : Int) with
    | some e => orderS o d f e.set.toNat ++ bitsL d (s - e.set.toNat)
    | none => bitsL d s
def ordersS (o : List Ed) (d : Nat) : List (List Nat) := o.map fun e => orderS o d 5 e.set.toNat
end Go.Proofs.Ytlplaidcdocbmaa.Srt
