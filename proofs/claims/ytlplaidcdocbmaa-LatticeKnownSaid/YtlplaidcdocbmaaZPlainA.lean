-- Cut by pack.py, a program of this session; not trusted: Lean checks it.

/- Sets of dimensions as plain numbers: levels, sets, parents, sizes. -/
namespace Go.Proofs.Ytlplaidcdocbmaa.Core

/-- How many dimensions a set (below 16) has. -/
def lev (s : Nat) : Nat := ((List.range 4).filter fun i => s.testBit i).length
/-- All sets of d dimensions: levels fall, numbers rise. -/
def sets (d : Nat) : List Nat := (List.range (d + 1)).reverse.flatMap fun l => (List.range (2 ^ d)).filter fun s => lev s == l
/-- A set's parents, rising. -/
def parents (s d : Nat) : List Nat := (List.range (2 ^ d)).filter fun p => (p &&& s == s) && (lev p == lev s + 1)
/-- The product of the cards of a set's dimensions, from dimension i on. -/
def prodFrom (s : Nat) : Nat → List Int → Int
  | _, [] => 1
  | i, c :: cs => (if s.testBit i then c else 1) * prodFrom s (i + 1) cs
def prod (s : Nat) (cs : List Int) : Int := prodFrom s 0 cs
def size (cs : List Int) (n : Int) (s : Nat) : Int := min (prod s cs) n
/-- How many binary digits a number has. -/
def digits (n : Nat) : Nat := if n = 0 then 0 else n.log2 + 1
theorem pow16 : ∀ d : Nat, d ≤ 4 → 2 ^ d ≤ 16
  | 0, _ => by decide
  | 1, _ => by decide
  | 2, _ => by decide
  | 3, _ => by decide
  | 4, _ => by decide
  | n + 5, h => absurd h (by omega)
theorem parents_len (s d : Nat) (hd : d ≤ 4) : (parents s d).length ≤ 16 := Nat.le_trans (List.length_filter_le _ _) (by rw [List.length_range]; exact pow16 d hd)

end Go.Proofs.Ytlplaidcdocbmaa.Core
