-- Cut by pack.py, a program of this session; not trusted: Lean checks it.
import Derived.Test.YtlplaidcdocbmaaZCore12
import Derived.Test.YtlplaidcdocbmaaZCore18
/- tree.Plan's contract in printed words. -/
namespace Go.Proofs.Ytlplaidcdocbmaa.Core
open Go.RowKit Go.Shelf Go.Proofs.YtlplaidcdocbmaaW.PrintWords
set_option linter.unusedVariables false
set_option linter.unusedSimpArgs false

/-- The plan, whatever its edges are called. -/
def planL {S : Type} (mk : Int → Int → Bool → S) (cs : List Int) (n : Int) : List S :=
  (List.range (sets cs.length).length).map fun i => mk (((sets cs.length).getD i 0 : Nat) : Int) (parentT cs n i) false

theorem reps_edges {S : Type} (R : S → List Value → Prop) (mk : Int → Int → Bool → S) (hk : ∀ a b c, R (mk a b c) [.int .i64 a, .int .i64 b, .bool c]) (cs : List Int) (n : Int) :
    ∀ k : Nat, Reps R 3 ((List.range k).map fun i => mk (((sets cs.length).getD i 0 : Nat) : Int) (parentT cs n i) false) (edgesT cs n k)
  | 0 => by exact Reps.none _ _
  | k + 1 => by
    rw [edgesT_succ, List.range_succ, List.map_append]
    exact (reps_edges R mk hk cs n k).snoc (hk _ _ _) rfl

theorem plan_R {S : Type} (K : Kd S) (hsz : K.sz = 3) (mk : Int → Int → Bool → S) (hk : ∀ w base ok a b c, K.M w base ok (mk a b c) [.int .i64 a, .int .i64 b, .bool c]) (A : Option Addr) (c : Nat) (l : List Int) (m n : Int) (w : World)
    (hr : Kd.C (Kd.int .i64) w A l.length l) (hok : okCards l = true) (hn : 0 ≤ n ∧ n ≤ 1000000) :
    Calls Try.prog 37 #[.agg #[.slice A l.length c, .int .i64 m], .int .i64 n] w fun e w' => ∃ v0_ : Value, e = .returned (v0_) ∧ Kd.R K 49 w' w.heap.size (fun _ => True) v0_ (planL mk l n) ∧ Below w.heap.size w w' := by
  refine (treePlan_calls A c l m n hok hn w (fun i hi => cell_int hr i hi)).mono ?_
  rintro e w' ⟨v, he, hown, hb⟩
  refine ⟨v, he, ?_, hb⟩
  have hrep := reps_edges (fun x cs => K.M w' w.heap.size (fun k => True ∧ some k ≠ v.ownBlock) x cs) mk (fun a b c => hk _ _ _ a b c) l n (sets l.length).length
  have hlen : (planL mk l n).length = (sets l.length).length := by simp [planL]
  refine ⟨fun _ _ => trivial, edgesT l n (sets l.length).length, ?_, ?_⟩
  · rw [hlen, hsz]; exact hown
  · rw [hsz]; exact hrep
end Go.Proofs.Ytlplaidcdocbmaa.Core
