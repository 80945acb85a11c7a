-- Cut by pack.py, a program of this session; not trusted: Lean checks it.
import Derived.Test.YtlplaidcdocbmaaChecked
import Derived.KernelRfl
import GoSem.ClaimJoined
import GoSem.ClaimOpenFrom
import Derived.JoinedOf
/- The head row of the seat's translation, read sign by sign outside the kernel's own reading of strings. -/
namespace Go.Proofs.Ytlplaidcdocbmaa.Head
def c (n : Nat) : Char := Char.ofNat n
def w1 : List Char := [c 104, c 97, c 114, c 110, c 101, c 115, c 115]
def w2 : List Char := [c 99, c 55, c 49, c 101, c 51, c 57, c 98, c 55, c 53, c 48, c 48, c 54, c 98, c 99, c 49, c 49, c 102, c 54, c 51, c 57, c 102, c 101, c 57, c 56, c 49, c 49, c 102, c 50, c 102, c 48, c 101, c 102, c 55, c 51, c 99, c 55, c 54, c 98, c 98, c 51, c 52, c 50, c 100, c 53, c 53, c 53, c 99, c 97, c 98, c 48, c 97, c 101, c 55, c 49, c 97, c 51, c 102, c 52, c 51, c 49, c 56, c 53, c 57, c 98]
def w3 : List Char := [c 99, c 117, c 116]
def tail : List Char := [c 97, c 116, c 32, c 104, c 121, c 112, c 101, c 114, c 99, c 117, c 98, c 101, c 47, c 104, c 121, c 112, c 101, c 114, c 99, c 117, c 98, c 101, c 108, c 97, c 119, c 56, c 46, c 76, c 97, c 116, c 116, c 105, c 99, c 101, c 83, c 101, c 116, c 115, c 32, c 104, c 121, c 112, c 101, c 114, c 99, c 117, c 98, c 101, c 47, c 104, c 121, c 112, c 101, c 114, c 99, c 117, c 98, c 101, c 108, c 97, c 119, c 56, c 46, c 76, c 97, c 116, c 116, c 105, c 99, c 101, c 76, c 101, c 118, c 101, c 108, c 115, c 32, c 104, c 121, c 112, c 101, c 114, c 99, c 117, c 98, c 101, c 47, c 104, c 121, c 112, c 101, c 114, c 99, c 117, c 98, c 101, c 108, c 97, c 119, c 56, c 46, c 76, c 97, c 116, c 116, c 105, c 99, c 101, c 85, c 112, c 32, c 104, c 121, c 112, c 101, c 114, c 99, c 117, c 98, c 101, c 47, c 104, c 121, c 112, c 101, c 114, c 99, c 117, c 98, c 101, c 108, c 97, c 119, c 56, c 46, c 76, c 97, c 116, c 116, c 105, c 99, c 101, c 84, c 114, c 117, c 101, c 32, c 104, c 121, c 112, c 101, c 114, c 99, c 117, c 98, c 101, c 47, c 104, c 121, c 112, c 101, c 114, c 99, c 117, c 98, c 101, c 108, c 97, c 119, c 49, c 49, c 46, c 84, c 114, c 101, c 101, c 65, c 108, c 108, c 32, c 104, c 121, c 112, c 101, c 114, c 99, c 117, c 98, c 101, c 47, c 104, c 121, c 112, c 101, c 114, c 99, c 117, c 98, c 101, c 108, c 97, c 119, c 49, c 49, c 46, c 84, c 114, c 101, c 101, c 76, c 101, c 97, c 115, c 116, c 32, c 104, c 121, c 112, c 101, c 114, c 99, c 117, c 98, c 101, c 47, c 104, c 121, c 112, c 101, c 114, c 99, c 117, c 98, c 101, c 108, c 97, c 119, c 49, c 49, c 46, c 84, c 114, c 101, c 101, c 68, c 101, c 97, c 114, c 32, c 104, c 121, c 112, c 101, c 114, c 99, c 117, c 98, c 101, c 47, c 104, c 121, c 112, c 101, c 114, c 99, c 117, c 98, c 101, c 108, c 97, c 119, c 49, c 49, c 46, c 84, c 114, c 101, c 101, c 75, c 110, c 111, c 119, c 110, c 32, c 104, c 121, c 112, c 101, c 114, c 99, c 117, c 98, c 101, c 47, c 104, c 121, c 112, c 101, c 114, c 99, c 117, c 98, c 101, c 108, c 97, c 119, c 49, c 49, c 46, c 84, c 114, c 101, c 101, c 70, c 101, c 119, c 32, c 104, c 121, c 112, c 101, c 114, c 99, c 117, c 98, c 101, c 47, c 104, c 121, c 112, c 101, c 114, c 99, c 117, c 98, c 101, c 108, c 97, c 119, c 49, c 49, c 46, c 84, c 114, c 101, c 101, c 77, c 97, c 110, c 121, c 32, c 104, c 121, c 112, c 101, c 114, c 99, c 117, c 98, c 101, c 47, c 104, c 121, c 112, c 101, c 114, c 99, c 117, c 98, c 101, c 108, c 97, c 119, c 56, c 46, c 76, c 97, c 116, c 116, c 105, c 99, c 101, c 65, c 108, c 108, c 32, c 104, c 121, c 112, c 101, c 114, c 99, c 117, c 98, c 101, c 47, c 104, c 121, c 112, c 101, c 114, c 99, c 117, c 98, c 101, c 108, c 97, c 119, c 56, c 46, c 76, c 97, c 116, c 116, c 105, c 99, c 101, c 83, c 105, c 122, c 101, c 115, c 32, c 104, c 121, c 112, c 101, c 114, c 99, c 117, c 98, c 101, c 47, c 104, c 121, c 112, c 101, c 114, c 99, c 117, c 98, c 101, c 108, c 97, c 119, c 56, c 46, c 76, c 97, c 116, c 116, c 105, c 99, c 101, c 75, c 110, c 111, c 119, c 110, c 32, c 104, c 121, c 112, c 101, c 114, c 99, c 117, c 98, c 101, c 47, c 104, c 121, c 112, c 101, c 114, c 99, c 117, c 98, c 101, c 108, c 97, c 119, c 56, c 46, c 76, c 97, c 116, c 116, c 105, c 99, c 101, c 67, c 111, c 115, c 116, c 115, c 32, c 104, c 121, c 112, c 101, c 114, c 99, c 117, c 98, c 101, c 47, c 104, c 121, c 112, c 101, c 114, c 99, c 117, c 98, c 101, c 108, c 97, c 119, c 56, c 46, c 76, c 97, c 116, c 116, c 105, c 99, c 101, c 78, c 111, c 110, c 101, c 32, c 104, c 121, c 112, c 101, c 114, c 99, c 117, c 98, c 101, c 47, c 104, c 121, c 112, c 101, c 114, c 99, c 117, c 98, c 101, c 108, c 97, c 119, c 49, c 48, c 46, c 83, c 111, c 114, c 116, c 115, c 82, c 105, c 103, c 104, c 116, c 32, c 104, c 121, c 112, c 101, c 114, c 99, c 117, c 98, c 101, c 47, c 104, c 121, c 112, c 101, c 114, c 99, c 117, c 98, c 101, c 108, c 97, c 119, c 49, c 48, c 46, c 83, c 111, c 114, c 116, c 115, c 83, c 99, c 97, c 110, c 115, c 32, c 104, c 121, c 112, c 101, c 114, c 99, c 117, c 98, c 101, c 47, c 104, c 121, c 112, c 101, c 114, c 99, c 117, c 98, c 101, c 108, c 97, c 119, c 49, c 48, c 46, c 83, c 111, c 114, c 116, c 115, c 76, c 101, c 118, c 101, c 108, c 115, c 32, c 104, c 121, c 112, c 101, c 114, c 99, c 117, c 98, c 101, c 47, c 104, c 121, c 112, c 101, c 114, c 99, c 117, c 98, c 101, c 108, c 97, c 119, c 49, c 48, c 46, c 83, c 111, c 114, c 116, c 115, c 76, c 101, c 97, c 115, c 116, c 32, c 104, c 121, c 112, c 101, c 114, c 99, c 117, c 98, c 101, c 47, c 104, c 121, c 112, c 101, c 114, c 99, c 117, c 98, c 101, c 108, c 97, c 119, c 49, c 48, c 46, c 83, c 111, c 114, c 116, c 115, c 67, c 111, c 115, c 116, c 32, c 104, c 121, c 112, c 101, c 114, c 99, c 117, c 98, c 101, c 47, c 104, c 121, c 112, c 101, c 114, c 99, c 117, c 98, c 101, c 108, c 97, c 119, c 49, c 48, c 46, c 83, c 111, c 114, c 116, c 115, c 75, c 110, c 111, c 119, c 110, c 32, c 104, c 121, c 112, c 101, c 114, c 99, c 117, c 98, c 101, c 47, c 104, c 121, c 112, c 101, c 114, c 99, c 117, c 98, c 101, c 108, c 97, c 119, c 49, c 48, c 46, c 83, c 111, c 114, c 116, c 115, c 77, c 97, c 110, c 121, c 32, c 104, c 121, c 112, c 101, c 114, c 99, c 117, c 98, c 101, c 47, c 104, c 121, c 112, c 101, c 114, c 99, c 117, c 98, c 101, c 108, c 97, c 119, c 49, c 48, c 46, c 83, c 111, c 114, c 116, c 115, c 79, c 114, c 100, c 101, c 114, c 115, c 32, c 104, c 121, c 112, c 101, c 114, c 99, c 117, c 98, c 101, c 47, c 104, c 121, c 112, c 101, c 114, c 99, c 117, c 98, c 101, c 108, c 97, c 119, c 49, c 48, c 46, c 83, c 111, c 114, c 116, c 115, c 65, c 108, c 108]
theorem order_eq : Try.checked.prog.initOrder = String.ofList (w1 ++ c 32 :: (w2 ++ c 32 :: (w3 ++ c 32 :: tail))) := by kernel_rfl
theorem order_list : Try.checked.prog.initOrder.toList = w1 ++ c 32 :: (w2 ++ c 32 :: (w3 ++ c 32 :: tail)) := by rw [order_eq, String.toList_ofList]
theorem word (r : List Char) : ∀ w : List Char, (w.all fun x => x != c 32) = true → wordsSigns (w ++ c 32 :: r) = w :: wordsSigns r
  | [], _ => rfl
  | x :: w, h => by
    rw [List.all_cons, Bool.and_eq_true] at h
    have ih := word r w h.2
    have hx : x ≠ c 32 := by simpa using h.1
    show wordsSigns (x :: (w ++ c 32 :: r)) = _
    rw [wordsSigns.eq_3 _ _ (fun e => hx (by rw [e]; rfl)), ih]
theorem words : wordsSigns Try.checked.prog.initOrder.toList = w1 :: w2 :: w3 :: wordsSigns tail := by
  rw [order_list, word _ _ (by kernel_rfl), word _ _ (by kernel_rfl), word _ _ (by kernel_rfl)]
theorem main : ∀ R, behindMainWord (w1 :: w2 :: w3 :: R) = w3 :: R := by
  intro R
  kernel_rfl
theorem t1 : (w3 == "gc".toList) = false := by kernel_rfl
theorem t2 : (w3 == "cut".toList) = true := by kernel_rfl
theorem t3 : (w3 == "spec".toList) = false := by kernel_rfl
theorem t4 : (w3 == "finals".toList) = false := by kernel_rfl
theorem t5 : (w3 == "carried".toList) = false := by kernel_rfl
theorem strip (R : List (List Char)) : stripLifts liftWords (w3 :: R) = ([], w3 :: R) := by
  have h : ∀ (os : List String), (os.all fun o => !(w3 == o.toList)) = true → stripLifts os (w3 :: R) = ([], w3 :: R) := by
    intro os
    induction os with
    | nil => intro _; rfl
    | cons o os ih =>
      intro ho
      rw [List.all_cons, Bool.and_eq_true] at ho
      have hf : (w3 == o.toList) = false := by simpa using ho.1
      rw [stripLifts, hf]
      exact ih ho.2
  exact h _ (by kernel_rfl)
theorem lays : Try.checked.prog.laysLater = false := by kernel_rfl
theorem bears : Try.checked.prog.bearsReflect = false := by kernel_rfl
theorem door : Try.checked.prog.doorFits [] = true := by kernel_rfl
theorem head3 (R : List (List Char)) : ((w3 :: R).head? == some "cut".toList) = true := by
  rw [List.head?_cons]
  exact t2
theorem lifts_of (P : Program) (R : List (List Char)) (h : behindMainWord (wordsSigns P.initOrder.toList) = w3 :: R) : P.headLifts = [] := by
  unfold Program.headLifts
  rw [h, strip]
  simp only [ite_self]
theorem mayEnter_of (P : Program) (R : List (List Char)) (h : behindMainWord (wordsSigns P.initOrder.toList) = w3 :: R) (h1 : P.laysLater = false) (h2 : P.bearsReflect = false) (h3 : P.doorFits [] = true) : P.mayEnter = true := by
  unfold Program.mayEnter
  rw [h]
  simp only [strip, head3, h1, h2, h3, t1, t3, t5, Bool.not_false, Bool.or_true, Bool.and_self, Bool.true_and, Bool.and_true, Bool.false_and, Bool.false_or, Bool.or_false, List.contains_nil, Bool.not_true]
theorem liftsFinal_of (P : Program) (R : List (List Char)) (h : behindMainWord (wordsSigns P.initOrder.toList) = w3 :: R) : P.liftsFinal = false := by
  unfold Program.liftsFinal
  rw [lifts_of P R h, h]
  show ((w3 :: R).head? == some "carried".toList && _ || _) = false
  rw [List.head?_cons]
  have h : (some w3 == some "carried".toList) = false := t5
  rw [h]
  rfl
theorem make_of (P : Program) (R : List (List Char)) (h : behindMainWord (wordsSigns P.initOrder.toList) = w3 :: R) : P.make = some .cut := by
  unfold Program.make
  rw [h]
  simp only [t1, t2, t3, t4, t5, Bool.or_false, Bool.or_self, Bool.false_eq_true, if_false, Bool.true_or, if_true]
theorem here : behindMainWord (wordsSigns Try.checked.prog.initOrder.toList) = w3 :: wordsSigns tail := by rw [words, main]
theorem mayEnter : Try.checked.prog.mayEnter = true := mayEnter_of _ _ here lays bears door
theorem liftsFinal : Try.checked.prog.liftsFinal = false := liftsFinal_of _ _ here
theorem make : Try.checked.prog.make = some .cut := make_of _ _ here
/-- The closed part of a row but for the three facts that read the head row. -/
noncomputable def rest (P : Program) (f : FuncId) (fn : Func) (s : ChangeSpec) (c : OpenClaim) : {b : Bool // P.mayEnter = true → P.liftsFinal = false → P.make = some .cut → b = true → joinedFacts P f fn s c = true} := by
  refine ⟨?b, ?h⟩
  case h =>
    intro h1 h2 h3 h
    unfold joinedFacts
    rw [h1, h2, h3]
    exact h
theorem closed (f : FuncId) (fn : Func) (s : ChangeSpec) (c : OpenClaim) (h : (rest Try.checked.prog f fn s c).1 = true) : joinedFacts Try.checked.prog f fn s c = true := (rest Try.checked.prog f fn s c).2 mayEnter liftsFinal make h
end Go.Proofs.Ytlplaidcdocbmaa.Head
