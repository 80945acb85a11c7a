-- Cut by pack.py, a program of this session; not trusted: Lean checks it.
import Derived.Test.YtgnkpahnhhmceaaZCore8
/- More of the plain choice: its length, that it is a choice, that its total is the least, that it is ahead of the others of its total. -/
namespace Go.Proofs.Ytgnkpahnhhmceaa.Core
open Go.RowKit Go.Proofs.YtgnkpahnhhmceaaW.PrintWords Go.Proofs.YtgnkpahnhhmceaaW.PrintLast Go.Proofs.YtgnkpahnhhmceaaW.PrintMore
set_option linter.unusedVariables false
set_option linter.unusedSimpArgs false

theorem pick_length : ∀ (rs : List (List Int)) (s : Nat), (pick rs s).length ≤ rs.length
  | [], s => by simp [pick]
  | r :: rs, s => by
    unfold pick
    split
    · simp only [List.length_cons]; have := pick_length rs (s ||| 2 ^ ‹Nat›); omega
    · have := pick_length rs s; simp only [List.length_cons]; omega

end Go.Proofs.Ytgnkpahnhhmceaa.Core
