-- Cut and merged by pack.py, a program of this session; not trusted: Lean checks it.
import Derived.Test.YtlplaidcdocbmaaChecked
import Derived.KernelRfl
import GoSem.ClaimJoined
import GoSem.ClaimOpenFrom
import Derived.JoinedOf
import Derived.Test.YtlplaidcdocbmaaProg
import Derived.Below
import Derived.Deep.Draws
import Derived.Deep.AppendLies
import Derived.Maps.AppendAt
import Derived.OwnWalk
import Derived.Laws.BytesArg
import Derived.Laws.MakeOwn
import Derived.Laws.OwnMore
import Derived.Deep.OwnRows
import Derived.Tactics
import Derived.Lib.ConvBytes
import Derived.Laws.Slices
import Derived.WalkKit
import Derived.RowKit3
import Derived.Deep.LoopGhost
import Derived.Deep.QuietTactic
import Derived.BigQuiet
import Derived.WideLaws
import Derived.Deep.DeepCutAuto
import Derived.Deep.CutBlock
import Derived.Deep.RegionHeld3
import Derived.Laws.Rows
import Derived.Lib.AppendStr
import Derived.ArgAppend
import Derived.Laws.IdiomCopy
import Derived.OrdersHeld
import Derived.Laws.BitsLemmas
import Derived.RowKit
import Derived.Test.YtlplaidcdocbmaaZV0
section
namespace Go.Proofs.Ytlplaidcdocbmaa.Head
def c (n : Nat) : Char := Char.ofNat n
def w1 : List Char := [c 104, c 97, c 114, c 110, c 101, c 115, c 115]
def w2 : List Char := [c 99, c 55, c 49, c 101, c 51, c 57, c 98, c 55, c 53, c 48, c 48, c 54, c 98, c 99, c 49, c 49, c 102, c 54, c 51, c 57, c 102, c 101, c 57, c 56, c 49, c 49, c 102, c 50, c 102, c 48, c 101, c 102, c 55, c 51, c 99, c 55, c 54, c 98, c 98, c 51, c 52, c 50, c 100, c 53, c 53, c 53, c 99, c 97, c 98, c 48, c 97, c 101, c 55, c 49, c 97, c 51, c 102, c 52, c 51, c 49, c 56, c 53, c 57, c 98]
def w3 : List Char := [c 99, c 117, c 116]
def tail : List Char := [c 97, c 116, c 32, c 104, c 121, c 112, c 101, c 114, c 99, c 117, c 98, c 101, c 47, c 104, c 121, c 112, c 101, c 114, c 99, c 117, c 98, c 101, c 108, c 97, c 119, c 56, c 46, c 76, c 97, c 116, c 116, c 105, c 99, c 101, c 83, c 101, c 116, c 115, c 32, c 104, c 121, c 112, c 101, c 114, c 99, c 117, c 98, c 101, c 47, c 104, c 121, c 112, c 101, c 114, c 99, c 117, c 98, c 101, c 108, c 97, c 119, c 56, c 46, c 76, c 97, c 116, c 116, c 105, c 99, c 101, c 76, c 101, c 118, c 101, c 108, c 115, c 32, c 104, c 121, c 112, c 101, c 114, c 99, c 117, c 98, c 101, c 47, c 104, c 121, c 112, c 101, c 114, c 99, c 117, c 98, c 101, c 108, c 97, c 119, c 56, c 46, c 76, c 97, c 116, c 116, c 105, c 99, c 101, c 85, c 112, c 32, c 104, c 121, c 112, c 101, c 114, c 99, c 117, c 98, c 101, c 47, c 104, c 121, c 112, c 101, c 114, c 99, c 117, c 98, c 101, c 108, c 97, c 119, c 56, c 46, c 76, c 97, c 116, c 116, c 105, c 99, c 101, c 84, c 114, c 117, c 101, c 32, c 104, c 121, c 112, c 101, c 114, c 99, c 117, c 98, c 101, c 47, c 104, c 121, c 112, c 101, c 114, c 99, c 117, c 98, c 101, c 108, c 97, c 119, c 49, c 49, c 46, c 84, c 114, c 101, c 101, c 65, c 108, c 108, c 32, c 104, c 121, c 112, c 101, c 114, c 99, c 117, c 98, c 101, c 47, c 104, c 121, c 112, c 101, c 114, c 99, c 117, c 98, c 101, c 108, c 97, c 119, c 49, c 49, c 46, c 84, c 114, c 101, c 101, c 76, c 101, c 97, c 115, c 116, c 32, c 104, c 121, c 112, c 101, c 114, c 99, c 117, c 98, c 101, c 47, c 104, c 121, c 112, c 101, c 114, c 99, c 117, c 98, c 101, c 108, c 97, c 119, c 49, c 49, c 46, c 84, c 114, c 101, c 101, c 68, c 101, c 97, c 114, c 32, c 104, c 121, c 112, c 101, c 114, c 99, c 117, c 98, c 101, c 47, c 104, c 121, c 112, c 101, c 114, c 99, c 117, c 98, c 101, c 108, c 97, c 119, c 49, c 49, c 46, c 84, c 114, c 101, c 101, c 75, c 110, c 111, c 119, c 110, c 32, c 104, c 121, c 112, c 101, c 114, c 99, c 117, c 98, c 101, c 47, c 104, c 121, c 112, c 101, c 114, c 99, c 117, c 98, c 101, c 108, c 97, c 119, c 49, c 49, c 46, c 84, c 114, c 101, c 101, c 70, c 101, c 119, c 32, c 104, c 121, c 112, c 101, c 114, c 99, c 117, c 98, c 101, c 47, c 104, c 121, c 112, c 101, c 114, c 99, c 117, c 98, c 101, c 108, c 97, c 119, c 49, c 49, c 46, c 84, c 114, c 101, c 101, c 77, c 97, c 110, c 121, c 32, c 104, c 121, c 112, c 101, c 114, c 99, c 117, c 98, c 101, c 47, c 104, c 121, c 112, c 101, c 114, c 99, c 117, c 98, c 101, c 108, c 97, c 119, c 56, c 46, c 76, c 97, c 116, c 116, c 105, c 99, c 101, c 65, c 108, c 108, c 32, c 104, c 121, c 112, c 101, c 114, c 99, c 117, c 98, c 101, c 47, c 104, c 121, c 112, c 101, c 114, c 99, c 117, c 98, c 101, c 108, c 97, c 119, c 56, c 46, c 76, c 97, c 116, c 116, c 105, c 99, c 101, c 83, c 105, c 122, c 101, c 115, c 32, c 104, c 121, c 112, c 101, c 114, c 99, c 117, c 98, c 101, c 47, c 104, c 121, c 112, c 101, c 114, c 99, c 117, c 98, c 101, c 108, c 97, c 119, c 56, c 46, c 76, c 97, c 116, c 116, c 105, c 99, c 101, c 75, c 110, c 111, c 119, c 110, c 32, c 104, c 121, c 112, c 101, c 114, c 99, c 117, c 98, c 101, c 47, c 104, c 121, c 112, c 101, c 114, c 99, c 117, c 98, c 101, c 108, c 97, c 119, c 56, c 46, c 76, c 97, c 116, c 116, c 105, c 99, c 101, c 67, c 111, c 115, c 116, c 115, c 32, c 104, c 121, c 112, c 101, c 114, c 99, c 117, c 98, c 101, c 47, c 104, c 121, c 112, c 101, c 114, c 99, c 117, c 98, c 101, c 108, c 97, c 119, c 56, c 46, c 76, c 97, c 116, c 116, c 105, c 99, c 101, c 78, c 111, c 110, c 101, c 32, c 104, c 121, c 112, c 101, c 114, c 99, c 117, c 98, c 101, c 47, c 104, c 121, c 112, c 101, c 114, c 99, c 117, c 98, c 101, c 108, c 97, c 119, c 49, c 48, c 46, c 83, c 111, c 114, c 116, c 115, c 82, c 105, c 103, c 104, c 116, c 32, c 104, c 121, c 112, c 101, c 114, c 99, c 117, c 98, c 101, c 47, c 104, c 121, c 112, c 101, c 114, c 99, c 117, c 98, c 101, c 108, c 97, c 119, c 49, c 48, c 46, c 83, c 111, c 114, c 116, c 115, c 83, c 99, c 97, c 110, c 115, c 32, c 104, c 121, c 112, c 101, c 114, c 99, c 117, c 98, c 101, c 47, c 104, c 121, c 112, c 101, c 114, c 99, c 117, c 98, c 101, c 108, c 97, c 119, c 49, c 48, c 46, c 83, c 111, c 114, c 116, c 115, c 76, c 101, c 118, c 101, c 108, c 115, c 32, c 104, c 121, c 112, c 101, c 114, c 99, c 117, c 98, c 101, c 47, c 104, c 121, c 112, c 101, c 114, c 99, c 117, c 98, c 101, c 108, c 97, c 119, c 49, c 48, c 46, c 83, c 111, c 114, c 116, c 115, c 76, c 101, c 97, c 115, c 116, c 32, c 104, c 121, c 112, c 101, c 114, c 99, c 117, c 98, c 101, c 47, c 104, c 121, c 112, c 101, c 114, c 99, c 117, c 98, c 101, c 108, c 97, c 119, c 49, c 48, c 46, c 83, c 111, c 114, c 116, c 115, c 67, c 111, c 115, c 116, c 32, c 104, c 121, c 112, c 101, c 114, c 99, c 117, c 98, c 101, c 47, c 104, c 121, c 112, c 101, c 114, c 99, c 117, c 98, c 101, c 108, c 97, c 119, c 49, c 48, c 46, c 83, c 111, c 114, c 116, c 115, c 75, c 110, c 111, c 119, c 110, c 32, c 104, c 121, c 112, c 101, c 114, c 99, c 117, c 98, c 101, c 47, c 104, c 121, c 112, c 101, c 114, c 99, c 117, c 98, c 101, c 108, c 97, c 119, c 49, c 48, c 46, c 83, c 111, c 114, c 116, c 115, c 77, c 97, c 110, c 121, c 32, c 104, c 121, c 112, c 101, c 114, c 99, c 117, c 98, c 101, c 47, c 104, c 121, c 112, c 101, c 114, c 99, c 117, c 98, c 101, c 108, c 97, c 119, c 49, c 48, c 46, c 83, c 111, c 114, c 116, c 115, c 79, c 114, c 100, c 101, c 114, c 115, c 32, c 104, c 121, c 112, c 101, c 114, c 99, c 117, c 98, c 101, c 47, c 104, c 121, c 112, c 101, c 114, c 99, c 117, c 98, c 101, c 108, c 97, c 119, c 49, c 48, c 46, c 83, c 111, c 114, c 116, c 115, c 65, c 108, c 108]
theorem order_eq : Try.checked.prog.initOrder = String.ofList (w1 ++ c 32 :: (w2 ++ c 32 :: (w3 ++ c 32 :: tail))) := by kernel_rfl
theorem order_list : Try.checked.prog.initOrder.toList = w1 ++ c 32 :: (w2 ++ c 32 :: (w3 ++ c 32 :: tail)) := by rw [order_eq, String.toList_ofList]
theorem word (r : List Char) : ∀ w : List Char, (w.all fun x => x != c 32) = true → wordsSigns (w ++ c 32 :: r) = w :: wordsSigns r
  | [], _ => rfl
  | x :: w, h => by
    rw [List.all_cons, Bool.and_eq_true] at h
    have ih := word r w h.2
    have hx : x ≠ c 32 := by simpa using h.1
    show wordsSigns (x :: (w ++ c 32 :: r)) = _
    rw [wordsSigns.eq_3 _ _ (fun e => hx (by rw [e]; rfl)), ih]
theorem words : wordsSigns Try.checked.prog.initOrder.toList = w1 :: w2 :: w3 :: wordsSigns tail := by
  rw [order_list, word _ _ (by kernel_rfl), word _ _ (by kernel_rfl), word _ _ (by kernel_rfl)]
theorem main : ∀ R, behindMainWord (w1 :: w2 :: w3 :: R) = w3 :: R := by
  intro R
  kernel_rfl
theorem t1 : (w3 == "gc".toList) = false := by kernel_rfl
theorem t2 : (w3 == "cut".toList) = true := by kernel_rfl
theorem t3 : (w3 == "spec".toList) = false := by kernel_rfl
theorem t4 : (w3 == "finals".toList) = false := by kernel_rfl
theorem t5 : (w3 == "carried".toList) = false := by kernel_rfl
theorem strip (R : List (List Char)) : stripLifts liftWords (w3 :: R) = ([], w3 :: R) := by
  have h : ∀ (os : List String), (os.all fun o => !(w3 == o.toList)) = true → stripLifts os (w3 :: R) = ([], w3 :: R) := by
    intro os
    induction os with
    | nil => intro _; rfl
    | cons o os ih =>
      intro ho
      rw [List.all_cons, Bool.and_eq_true] at ho
      have hf : (w3 == o.toList) = false := by simpa using ho.1
      rw [stripLifts, hf]
      exact ih ho.2
  exact h _ (by kernel_rfl)
theorem lays : Try.checked.prog.laysLater = false := by kernel_rfl
theorem bears : Try.checked.prog.bearsReflect = false := by kernel_rfl
theorem door : Try.checked.prog.doorFits [] = true := by kernel_rfl
theorem head3 (R : List (List Char)) : ((w3 :: R).head? == some "cut".toList) = true := by
  rw [List.head?_cons]
  exact t2
theorem lifts_of (P : Program) (R : List (List Char)) (h : behindMainWord (wordsSigns P.initOrder.toList) = w3 :: R) : P.headLifts = [] := by
  unfold Program.headLifts
  rw [h, strip]
  simp only [ite_self]
theorem mayEnter_of (P : Program) (R : List (List Char)) (h : behindMainWord (wordsSigns P.initOrder.toList) = w3 :: R) (h1 : P.laysLater = false) (h2 : P.bearsReflect = false) (h3 : P.doorFits [] = true) : P.mayEnter = true := by
  unfold Program.mayEnter
  rw [h]
  simp only [strip, head3, h1, h2, h3, t1, t3, t5, Bool.not_false, Bool.or_true, Bool.and_self, Bool.true_and, Bool.and_true, Bool.false_and, Bool.false_or, Bool.or_false, List.contains_nil, Bool.not_true]
theorem liftsFinal_of (P : Program) (R : List (List Char)) (h : behindMainWord (wordsSigns P.initOrder.toList) = w3 :: R) : P.liftsFinal = false := by
  unfold Program.liftsFinal
  rw [lifts_of P R h, h]
  show ((w3 :: R).head? == some "carried".toList && _ || _) = false
  rw [List.head?_cons]
  have h : (some w3 == some "carried".toList) = false := t5
  rw [h]
  rfl
theorem make_of (P : Program) (R : List (List Char)) (h : behindMainWord (wordsSigns P.initOrder.toList) = w3 :: R) : P.make = some .cut := by
  unfold Program.make
  rw [h]
  simp only [t1, t2, t3, t4, t5, Bool.or_false, Bool.or_self, Bool.false_eq_true, if_false, Bool.true_or, if_true]
theorem here : behindMainWord (wordsSigns Try.checked.prog.initOrder.toList) = w3 :: wordsSigns tail := by rw [words, main]
theorem mayEnter : Try.checked.prog.mayEnter = true := mayEnter_of _ _ here lays bears door
theorem liftsFinal : Try.checked.prog.liftsFinal = false := liftsFinal_of _ _ here
theorem make : Try.checked.prog.make = some .cut := make_of _ _ here
noncomputable def rest (P : Program) (f : FuncId) (fn : Func) (s : ChangeSpec) (c : OpenClaim) : {b : Bool // P.mayEnter = true → P.liftsFinal = false → P.make = some .cut → b = true → joinedFacts P f fn s c = true} := by
  refine ⟨?b, ?h⟩
  case h =>
    intro h1 h2 h3 h
    unfold joinedFacts
    rw [h1, h2, h3]
    exact h
theorem closed (f : FuncId) (fn : Func) (s : ChangeSpec) (c : OpenClaim) (h : (rest Try.checked.prog f fn s c).1 = true) : joinedFacts Try.checked.prog f fn s c = true := (rest Try.checked.prog f fn s c).2 mayEnter liftsFinal make h
end Go.Proofs.Ytlplaidcdocbmaa.Head
end
section
namespace Go.Proofs.Ytlplaidcdocbmaa.PSortsAll
open Go.RowKit Go.Proofs.YtlplaidcdocbmaaW.PrintWords Go.Proofs.YtlplaidcdocbmaaW.PrintLast Go.Proofs.YtlplaidcdocbmaaW.PrintMore
attribute [local go_sem] max2_int min2_int max_two min_two max_three min_three max_four min_four
set_option linter.unusedVariables false
set_option linter.unusedSimpArgs false
def errW : Option Int → Value
 | none => .nilIface
 | some c => .iface 0 (.int .i64 c)
theorem errW_none : errW none = .nilIface := rfl
theorem errW_some (c : Int) : errW (some c) = .iface 0 (.int .i64 c) := rfl
theorem info3 : (Try.prog.info? 3).map (fun i => (i.zero, i.size, i.bytes)) = some (some (.int .i64 0), 1, 8) := by kernel_rfl
theorem info24 : (Try.prog.info? 24).map (fun i => (i.zero, i.size, i.bytes)) = some (some (.slice none 0 0), 1, 24) := by kernel_rfl
theorem info49 : (Try.prog.info? 49).map (fun i => (i.zero, i.size, i.bytes)) = some (some (.agg #[(.int .i64 0), (.int .i64 0), (.bool false)]), 3, 24) := by kernel_rfl
def rd_L1 (xs : List (List Int)) (i : Int) : (List Int) := xs.getD i.toNat ([] : List Int)
theorem at_L1 {w : World} {A : Option Addr} {n : Nat} {xs : List (List Int)} (h : Kd.C (Kd.slice 3 (Kd.int .i64)) w A n xs) (i : Int) (h0 : 0 ≤ i) (h1 : i < n) : ∃ ad A0 c0, A = some ad ∧ w.cell? (ad.add i.toNat) = some (.slice A0 (rd_L1 xs i).length c0) ∧ (rd_L1 xs i).length ≤ c0 ∧ (Kd.int .i64).C w A0 (rd_L1 xs i).length (rd_L1 xs i) := by
 obtain ⟨ad, c, e, _, hK, hc0⟩ := Kd.C_get h ([] : List Int) i h0 h1
 have hc : ∀ j u, c[j]? = some u → w.cell? (ad.add (i.toNat * 1 + j)) = some u := hc0
 obtain ⟨A0, c0, rfl, l0, g0⟩ := hK
 exact ⟨ad, A0, c0, e, by have hq := hc 0 _ rfl; rwa [Nat.mul_one, Nat.add_zero] at hq, l0, g0⟩
structure S39 where
 f0 : (List Int)
 f1 : (List Int)
def k39 : Kd S39 := Kd.iso (Kd.pair (Kd.slice 3 (Kd.int .i64)) (Kd.slice 3 (Kd.int .i64))) (fun x : S39 => (x.f0, x.f1))
structure S49 where
 f0 : Int
 f1 : Int
 f2 : Bool
def z49 : S49 := ⟨(0 : Int), (0 : Int), false⟩
def k49 : Kd S49 := Kd.iso (Kd.pair (Kd.int .i64) (Kd.pair (Kd.int .i64) Kd.bool)) (fun x : S49 => (x.f0, x.f1, x.f2))
theorem k49_open {w : World} {x : S49} {cs : List Value} (h : k49.K w x cs) : cs = [.int .i64 x.f0, .int .i64 x.f1, .bool x.f2] := by
 obtain ⟨_, _, rfl, rfl, ⟨_, _, rfl, rfl, rfl⟩⟩ := h
 exact rfl
theorem k49_mkM (w : World) (base : Nat) (ok : Nat → Prop) (x : S49)  : k49.M w base ok x [.int .i64 x.f0, .int .i64 x.f1, .bool x.f2] := ⟨[.int .i64 x.f0], [.int .i64 x.f1, .bool x.f2], rfl, rfl, ⟨[.int .i64 x.f1], [.bool x.f2], rfl, rfl, rfl⟩⟩
def rd_T49 (xs : List S49) (i : Int) : S49 := xs.getD i.toNat z49
theorem at_T49 {w : World} {A : Option Addr} {n : Nat} {xs : List S49} (h : Kd.C k49 w A n xs) (i : Int) (h0 : 0 ≤ i) (h1 : i < n) : ∃ ad , A = some ad ∧ w.cell? (ad.add (i.toNat * 3)) = some (.int .i64 (rd_T49 xs i).f0) ∧ w.cell? ⟨(ad.add (i.toNat * 3)).block, (ad.add (i.toNat * 3)).off + 1, none⟩ = some (.int .i64 (rd_T49 xs i).f1) ∧ w.cell? ⟨(ad.add (i.toNat * 3)).block, (ad.add (i.toNat * 3)).off + 2, none⟩ = some (.bool (rd_T49 xs i).f2) := by
 obtain ⟨ad, c, e, _, hK, hc0⟩ := Kd.C_get h z49 i h0 h1
 have hc : ∀ j u, c[j]? = some u → w.cell? (ad.add (i.toNat * 3 + j)) = some u := hc0
 obtain rfl := k49_open hK
 exact ⟨ad, e, hc 0 _ rfl, by rw [← add_field _ _ 1 (by omega)]; exact hc 1 _ rfl, by rw [← add_field _ _ 2 (by omega)]; exact hc 2 _ rfl⟩
end Go.Proofs.Ytlplaidcdocbmaa.PSortsAll
end
section
namespace Go.Proofs.Ytlplaidcdocbmaa.PSortsAll
open Go.RowKit Go.Proofs.YtlplaidcdocbmaaW.PrintWords Go.Proofs.YtlplaidcdocbmaaW.PrintLast Go.Proofs.YtlplaidcdocbmaaW.PrintMore
attribute [local go_sem] max2_int min2_int max_two min_two max_three min_three max_four min_four
set_option linter.unusedVariables false
set_option linter.unusedSimpArgs false
def hypercubelaw1_within.f (a0 : Int) (a1 : Int) : Option (Int) := if a1 = 0 then (none) else (if (Int.tmod a0 a1) < 0 then (some (wrap64 ((Int.tmod a0 a1) + a1))) else (some (Int.tmod a0 a1)))
set_option maxHeartbeats 8000000 in
set_option maxRecDepth 100000 in
theorem hypercubelaw1_within.calls (a0 : Int) (a1 : Int) (r : Int) (w : World) (h : hypercubelaw1_within.f a0 a1 = some r) :
 Calls Try.prog 70 #[.int .i64 a0, .int .i64 a1] w fun e w' => e = .returned (.int .i64 r) ∧ Drawn0 w w' := by
 have H : (if a1 = 0 then (none) else (if (Int.tmod a0 a1) < 0 then (some (wrap64 ((Int.tmod a0 a1) + a1))) else (some (Int.tmod a0 a1)))) = some r := h
 clear h
 by_cases c3 : a1 = 0
 ·rw [if_pos c3] at H
  exact absurd H (by simp)
 rw [if_neg c3] at H
 have c3b0 : (a1 == 0) = false := beq_eq_false_iff_ne.mpr c3
 have c3b1 : (a1 != 0) = true := bne_iff_ne.mpr c3
 by_cases c4 : (Int.tmod a0 a1) < 0
 ·rw [if_pos c4] at H
  have c4b0 : decide ((Int.tmod a0 a1) < 0) = true := decide_eq_true c4
  clear c4
  obtain rfl := Option.some.inj H
  go_enter Try.func70, Try.ntmps70
  go_wp2
  go_ret
  exact ⟨by first | rfl | (simp; done) | (simp [*]; done), by repeat (first | exact Drawn0.refl _ | apply Drawn0.step)⟩
 rw [if_neg c4] at H
 have c4b0 : decide ((Int.tmod a0 a1) < 0) = false := decide_eq_false c4
 clear c4
 obtain rfl := Option.some.inj H
 go_enter Try.func70, Try.ntmps70
 go_wp2
 go_ret
 exact ⟨by first | rfl | (simp; done) | (simp [*]; done), by repeat (first | exact Drawn0.refl _ | apply Drawn0.step)⟩
end Go.Proofs.Ytlplaidcdocbmaa.PSortsAll
end
