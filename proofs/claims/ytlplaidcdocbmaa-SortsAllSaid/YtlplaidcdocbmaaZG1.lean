-- Cut and merged by pack.py, a program of this session; not trusted: Lean checks it.
import Derived.RangeFuncNested
import Derived.RangeFuncBound
import Derived.RangeFuncCalls
import Derived.RangeFuncLeaves
import Derived.Shelf.Abstract
import Derived.Shelf.RegionOpen
import Derived.WalkKit
import Derived.OwnWalkIn
import Derived.TacticsInMore
import Derived.LoopNIn
import Derived.LoopIn
import Derived.Maps.AppendAt
import Derived.Test.YtlplaidcdocbmaaProg
import Derived.Lib.Walk
import Derived.Lib.SliceRun
import Derived.Shelf.AbstractIn
import Derived.Deep.Draws
import Derived.Tactics
import Derived.Deep.QuietTactic
import Derived.BigQuiet
import Derived.Shelf.SlSortCmp.Insertion
import Derived.Laws.BitsLemmas
import Derived.Test.YtlplaidcdocbmaaZV0
import Derived.Lib.Strings
import Derived.Lib.Slices
import Derived.Lib.Small
import Derived.Lib.BitFns
import Derived.Lib.QuietBelowIn
section
namespace Go.Proofs.Ytlplaidcdocbmaa.Core
open Go Go.RowKit
set_option linter.unusedVariables false
set_option linter.unusedSimpArgs false
structure Apart0 (p : Prop) : Prop where mk :: (out : p)
def Same (fp : Nat → Prop) (W W' : World) : Prop := W.heap.size ≤ W'.heap.size ∧ ∀ k, fp k → W'.heap[k]? = W.heap[k]?
theorem Same.refl (fp : Nat → Prop) (W : World) : Same fp W W := ⟨Nat.le_refl _, fun _ _ => rfl⟩
theorem Same.trans {fp : Nat → Prop} {A B C : World} (h : Same fp A B) (k : Same fp B C) : Same fp A C := ⟨Nat.le_trans h.1 k.1, fun i hi => (k.2 i hi).trans (h.2 i hi)⟩
theorem Same.less {fp fp' : Nat → Prop} {A B : World} (h : Same fp A B) (hf : ∀ k, fp' k → fp k) : Same fp' A B := ⟨h.1, fun k hk => h.2 k (hf k hk)⟩
theorem Same.below {fp : Nat → Prop} {A B : World} {n : Nat} (h : Below n A B) (hf : ∀ k, fp k → k < n) : Same fp A B := ⟨h.size, fun k hk => h.block k (hf k hk)⟩
theorem Same.putObj {fp : Nat → Prop} {A : World} {r : Nat} (o : Obj) (hf : ¬ fp r) : Same fp A (A.putObj r o) := ⟨by simp, fun k hk => World.putObj_heap_other (fun e => hf (e ▸ hk))⟩
theorem Same.grown {fp : Nat → Prop} {A B : World} {row : Option Nat} (h : A.grownBy B row) (hf : ∀ k, fp k → k < A.heap.size ∧ some k ≠ row) : Same fp A B := ⟨h.size, fun k hk => h.block k (hf k hk).1 (hf k hk).2⟩
def Obj30 : Obj → Bool
  | .cells _ t _ => t == 30
  | _ => true
def Keeps (B : Nat) (W W' : World) : Prop := W.heap.size ≤ W'.heap.size ∧ ∀ (k : Nat) (o : Obj), B ≤ k → W.heap[k]? = some o → Obj30 o = true → W'.heap[k]? = some o
theorem Keeps.refl (B : Nat) (W : World) : Keeps B W W := ⟨Nat.le_refl _, fun _ _ _ h _ => h⟩
theorem Keeps.trans {B : Nat} {X Y Z : World} (h : Keeps B X Y) (k : Keeps B Y Z) : Keeps B X Z := ⟨Nat.le_trans h.1 k.1, fun i o hB hi ho => k.2 i o hB (h.2 i o hB hi ho) ho⟩
theorem Keeps.mono {B B' : Nat} {W W' : World} (h : Keeps B W W') (hB : B ≤ B') : Keeps B' W W' := ⟨h.1, fun k o hk => h.2 k o (by omega)⟩
theorem Keeps.putObj {B l : Nat} (W : World) (o : Obj) (h : l < B) : Keeps B W (W.putObj l o) := ⟨by simp, fun k o' hk ho _ => (World.putObj_heap_other (by omega)).trans ho⟩
theorem Keeps.below {W W' : World} (B : Nat) (h : Below W.heap.size W W') : Keeps B W W' := ⟨h.size, fun k o _ hk _ => (h.block k (Array.getElem?_eq_some_iff.1 hk).1).trans hk⟩
theorem Keeps.grown {B : Nat} {W W' : World} {row : Option Nat} (hg : W.grownBy W' row) (hrow : ∀ j, row = some j → j < B ∨ ∃ o, W.heap[j]? = some o ∧ Obj30 o = false) : Keeps B W W' :=
  ⟨hg.size, fun k o hB hk ho => (hg.block k (Array.getElem?_eq_some_iff.1 hk).1 (fun e => by
    rcases hrow k e.symm with h | ⟨o', h1, h2⟩
    · omega
    · rw [h1] at hk; cases hk; rw [h2] at ho; cases ho)).trans hk⟩
def Emits {α : Type} (P : Program) (fp : Nat → Prop) (g : Nat) (lb : Array Value) (encs : α → Array Value) (xs : List α) (w : World) : Prop :=
  ∀ (n l : Nat) (J Jx : List α → World → Prop) (W : World), Same fp w W → OwnFrom W.heap.size J → OwnFrom W.heap.size Jx →
    (∀ (m : Nat) pre x W1, J pre W1 → pre ++ [x] <+: xs → YieldAt Fence.wide m P l (encs x) W1 fun e W' =>
      Keeps W.heap.size W1 W' ∧ ((e = .returned (.bool true) ∧ J (pre ++ [x]) W' ∧ Same fp W1 W') ∨ (e = .returned (.bool false) ∧ Jx (pre ++ [x]) W'))) →
    J [] W →
    CallsIn Fence.wide n P g (#[.func (.yield l) #[] #[]] ++ lb) W fun e W' => (∃ v, e = .returned v) ∧ (J xs W' ∨ ∃ pre, pre <+: xs ∧ Jx pre W')
def leftAt {α : Type} (B : Nat) (fp : Nat → Prop) (I : List α → World → Prop) (Ix : Code → List α → World → Prop) (xs : List α) (W : World) : Exit → Act → World → Prop
  | .normal, _, W' => Keeps B W W' ∧ Same fp W W' ∧ I xs W'
  | .ret, _, W' => Keeps B W W' ∧ Ix .ret xs W'
  | .exit id, _, W' => Keeps B W W' ∧ Ix (.exit id) xs W'
  | .goto t, _, W' => Keeps B W W' ∧ Ix (.goto t) xs W'
  | .panic _, _, _ => False
  | .outgrown, _, _ => False
theorem wpIn_emits {α : Type} {P : Program} {n : Nat} {g : Operand} {ps : Array Tmp} {assign body : Code} {Q : Exit → Act → World → Prop} {a : Act} {w : World}
    {gf : Nat} {lb : Array Value} (hg : a.eval g = .func (.func gf) #[] lb) (eg : ∀ args w, (callFunc gf args).run P w = .ok (.enter gf args) w)
    {encs : α → Array Value} {fp : Nat → Prop} {xs : List α} {w0 : World} (hem : Emits P fp gf lb encs xs w0) (h0w : Same fp w0 w) (hfp : ∀ k, fp k → k < w.heap.size) (hps : ∀ x, (encs x).size = ps.size)
    (I : List α → World → Prop) (Ix : Code → List α → World → Prop) (hI : OwnFrom w.heap.size I) (hIx : ∀ c, OwnFrom w.heap.size (Ix c)) (h0 : I [] w) (a₁ : α → Act)
    (hassign : ∀ (l m : Nat) (x : α) (W : World) (K : Act → World → Prop), K (a₁ x) W →
      assign.wpIn (Fence.wide.inRound l) m P (Exit.then K (fun _ _ _ => False)) { tmps := (ps.zip (encs x)).foldl (fun t (p, v) => t.setIfInBounds p v) a.tmps, defers := [] } W)
    (hbody : ∀ (l m : Nat) (pre : List α) (x : α) (W : World), I pre W → pre ++ [x] <+: xs → body.wpIn (Fence.wide.inRound l) m P (leftAt w.heap.size fp I Ix (pre ++ [x]) W) (a₁ x) W)
    (hdone : ∀ (D : Nat) (W : World), w.heap.size ≤ D → I xs W → W.heap[D]? = some (.deferred (some [])) → Q .normal { a with defers := { target := .collected D, args := #[] } :: a.defers } W)
    (hstop : ∀ (D : Nat) (c : Code) (pre : List α) (W : World), w.heap.size ≤ D → pre <+: xs → Ix c pre W → W.heap[D]? = some (.deferred (some [])) → c.wpIn Fence.wide n P Q { a with defers := { target := .collected D, args := #[] } :: a.defers } W) :
    (Code.rangeFunc g ps assign body).wpIn Fence.wide n P Q a w := by
  refine wpIn_rangeFunc fun fn hfn => ?_
  rw [show Fence.wide.round = none from rfl]
  obtain ⟨rec, hrec⟩ : ∃ rec : LoopState → Option Code → Loop, rec = fun st pe => { state := st, pending := pe, fn, tmps := a.tmps, params := ps, assign, body, defers := w.heap.size } := ⟨_, rfl⟩
  obtain ⟨D, hD⟩ : ∃ D, D = w.heap.size := ⟨_, rfl⟩
  obtain ⟨W1, hW1⟩ : ∃ W1, (w.alloc (.deferred (some []))).alloc (.loop (rec .ready none)) = W1 := ⟨_, rfl⟩
  have hsz : W1.heap.size = D + 2 := by rw [← hW1, hD]; simp
  have hL1 : W1.heap[D + 1]? = some (.loop (rec .ready none)) := by
    have := World.alloc_heap_new (w.alloc (.deferred (some []))) (.loop (rec .ready none))
    rw [← hW1, hD]; rwa [World.size_alloc] at this
  have hK1 : W1.heap[D]? = some (.deferred (some [])) := by
    rw [← hW1, hD]; exact (Below.heap_alloc _ _ _ (by simp)).trans (World.alloc_heap_new w _)
  have hI1 : I [] W1 := by rw [← hW1]; exact hI.alloc _ (hI.alloc _ h0)
  have hS1 : Same fp w0 W1 := h0w.trans (by
    rw [← hW1]; exact ⟨by simp; omega, fun k hk => (Below.heap_alloc _ _ k (by have := hfp k hk; simp; omega)).trans (Below.heap_alloc _ _ k (hfp k hk))⟩)
  have nfp : ∀ k, D ≤ k → ¬ fp k := fun k hk hf => by have := hfp k hf; omega
  rw [← hD] at hI hIx hbody hdone hstop
  have lies : ∀ {A B : World} {row : Option Nat} {k : Nat} {o : Obj}, k < D + 2 → A.grownBy B row → (∀ r, row = some r → W1.heap.size ≤ r ∧ ∃ o : Obj, A.heap[r]? = some o ∧ o.isCells = false) → A.heap[k]? = some o → B.heap[k]? = some o :=
    fun hk hg hr ho => (hg.block _ (Array.getElem?_eq_some_iff.1 ho).1 (fun e => by have := (hr _ e.symm).1; omega)).trans ho
  have less : ∀ {A : World} {row : Option Nat}, (∀ r, row = some r → W1.heap.size ≤ r ∧ ∃ o : Obj, A.heap[r]? = some o ∧ o.isCells = false) → (∀ r, row = some r → D ≤ r ∧ ∃ o : Obj, A.heap[r]? = some o ∧ o.isCells = false) :=
    fun hr r e => ⟨by have := (hr r e).1; omega, (hr r e).2⟩
  refine ⟨D + 1, [{ target := .collected D, args := #[] }], W1, { target := .fn (.func gf) lb, args := #[.func (.yield (D + 1)) #[] #[]] }, W1, gf,
    #[.func (.yield (D + 1)) #[] #[]] ++ lb, W1, ?_, ?_, fun _ _ => trivial, ?_, (fun h => by cases h), ?_⟩
  · rw [← hW1, hrec, hD]; exact run_enterLoop_outer _ _ _ _ _
  · simp only [resolve, hg]
    simp [go_sem]
  · simp [invoke, go_sem, eg]
  refine (hem (n - 1) (D + 1)
    (fun pre W => I pre W ∧ W.heap[D + 1]? = some (.loop (rec .ready none)) ∧ W.heap[D]? = some (.deferred (some [])))
    (fun pre W => ∃ c, Ix c pre W ∧ W.heap[D + 1]? = some (.loop (rec .done (some c))) ∧ W.heap[D]? = some (.deferred (some [])))
    W1 hS1 (fun s A B row hs hg' hr => ⟨hI s A B row hs.1 hg' (less hr), lies (by omega) hg' hr hs.2.1, lies (by omega) hg' hr hs.2.2⟩)
    (fun s A B row ⟨c, hc, hl, hk⟩ hg' hr => ⟨c, hIx c s A B row hc hg' (less hr), lies (by omega) hg' hr hl, lies (by omega) hg' hr hk⟩)
    ?_ ⟨hI1, hL1, hK1⟩).mono ?_
  · rintro m pre x W ⟨hi, hl, hk⟩ hpre
    have hlt : D + 1 < W.heap.size := (Array.getElem?_eq_some_iff.1 hl).1
    have hy := run_yield (P := P) (args := encs x) hl (by rw [hrec]; exact hps x)
    rw [hrec] at hy
    refine ⟨fn, _, assign, body, hy, roundIn_of_wpIn trivial (hassign _ m x W _ ⟨_, run_beginRound hl (by rw [hrec]), ?_⟩)⟩
    clear hy
    obtain ⟨W2, hW2⟩ : ∃ W2, W.putObj (D + 1) (.loop { rec .ready none with state := .busy }) = W2 := ⟨_, rfl⟩
    have hl2 : W2.heap[D + 1]? = some (.loop { rec .ready none with state := .busy }) := by rw [← hW2]; exact World.putObj_heap_same hlt
    have hk2 : W2.heap[D]? = some (.deferred (some [])) := by rw [← hW2]; exact (World.putObj_heap_other (by omega)).trans hk
    have hi2 : I pre W2 := by rw [← hW2]; exact hI.putObj _ hi (by omega) hl rfl
    have hkf2 : Keeps (D + 2) W W2 := by rw [← hW2]; exact Keeps.putObj W _ (by omega)
    have hs2 : Same fp W W2 := by rw [← hW2]; exact Same.putObj _ (nfp _ (by omega))
    rw [hW2]
    refine wpIn_mono (hbody _ m pre x W2 hi2 hpre) ?_
    have fin : ∀ (jump : Option Code) (W3 : World), Keeps D W2 W3 → ∃ W4, Keeps W1.heap.size W W4 ∧ (Instr.endRound (D + 1) jump).run P W3 = .ok (.bool jump.isNone) W4 ∧
        W4 = W3.putObj (D + 1) (.loop (rec (if jump.isNone then .ready else .done) jump)) ∧ (∃ o, W3.heap[D + 1]? = some (.loop o)) ∧
        W4.heap[D + 1]? = some (.loop (rec (if jump.isNone then .ready else .done) jump)) ∧ W4.heap[D]? = some (.deferred (some [])) := fun jump W3 hkf => by
      have hl3 := hkf.2 _ _ (by omega) hl2 rfl
      have hend := run_endRound (P := P) jump hl3
      refine ⟨W3.putObj (D + 1) (.loop (rec (if jump.isNone then .ready else .done) jump)), by rw [hsz]; exact (hkf2.trans (hkf.mono (by omega))).trans (Keeps.putObj _ _ (by omega)), ?_, rfl, ⟨_, hl3⟩, World.putObj_heap_same (Array.getElem?_eq_some_iff.1 hl3).1, (World.putObj_heap_other (by omega)).trans (hkf.2 _ _ (Nat.le_refl _) hk2 rfl)⟩
      rw [hrec] at hend ⊢
      exact hend
    rintro e a3 W3 hp
    cases e with
    | normal =>
      obtain ⟨hk3, hs3, hi3⟩ := hp
      obtain ⟨W4, hkw, hr, e4, ⟨o, ho⟩, hl4, hk4⟩ := fin none W3 hk3
      exact ⟨_, _, hr, hkw, .inl ⟨rfl, ⟨by rw [e4]; exact hI.putObj _ hi3 (by omega) ho rfl, hl4, hk4⟩, (hs2.trans hs3).trans (by rw [e4]; exact Same.putObj _ (nfp _ (by omega)))⟩⟩
    | ret =>
      obtain ⟨hk3, hi3⟩ := hp
      obtain ⟨W4, hkw, hr, e4, ⟨o, ho⟩, hl4, hk4⟩ := fin (some .ret) W3 hk3
      exact ⟨_, _, hr, hkw, .inr ⟨rfl, .ret, by rw [e4]; exact (hIx _).putObj _ hi3 (by omega) ho rfl, hl4, hk4⟩⟩
    | exit id =>
      obtain ⟨hk3, hi3⟩ := hp
      obtain ⟨W4, hkw, hr, e4, ⟨o, ho⟩, hl4, hk4⟩ := fin (some (.exit id)) W3 hk3
      exact ⟨_, _, hr, hkw, .inr ⟨rfl, .exit id, by rw [e4]; exact (hIx _).putObj _ hi3 (by omega) ho rfl, hl4, hk4⟩⟩
    | goto t =>
      obtain ⟨hk3, hi3⟩ := hp
      obtain ⟨W4, hkw, hr, e4, ⟨o, ho⟩, hl4, hk4⟩ := fin (some (.goto t)) W3 hk3
      exact ⟨_, _, hr, hkw, .inr ⟨rfl, .goto t, by rw [e4]; exact (hIx _).putObj _ hi3 (by omega) ho rfl, hl4, hk4⟩⟩
    | panic ch => exact hp.elim
    | outgrown => exact hp.elim
  · rintro e W2 ⟨⟨v, rfl⟩, ⟨hi, hl, hk⟩ | ⟨pre, hpre, c, hi, hl, hk⟩⟩
    · have hend := run_endLoop (P := P) hl (by rw [hrec]; simp)
      refine ⟨none, _, by rw [hrec] at hend; exact hend, hdone D _ (Nat.le_refl _) (hI.putObj _ hi (by omega) hl rfl) ((World.putObj_heap_other (by omega)).trans hk)⟩
    · have hend := run_endLoop (P := P) hl (by rw [hrec]; simp)
      exact ⟨some c, _, by rw [hrec] at hend; exact hend, hstop D c pre _ (Nat.le_refl _) hpre ((hIx c).putObj _ hi (by omega) hl rfl) ((World.putObj_heap_other (by omega)).trans hk)⟩
end Go.Proofs.Ytlplaidcdocbmaa.Core
end
section
namespace Go.Proofs.Ytlplaidcdocbmaa.Core
def lev (s : Nat) : Nat := ((List.range 4).filter fun i => s.testBit i).length
def sets (d : Nat) : List Nat := (List.range (d + 1)).reverse.flatMap fun l => (List.range (2 ^ d)).filter fun s => lev s == l
def parents (s d : Nat) : List Nat := (List.range (2 ^ d)).filter fun p => (p &&& s == s) && (lev p == lev s + 1)
def prodFrom (s : Nat) : Nat → List Int → Int
  | _, [] => 1
  | i, c :: cs => (if s.testBit i then c else 1) * prodFrom s (i + 1) cs
def prod (s : Nat) (cs : List Int) : Int := prodFrom s 0 cs
def size (cs : List Int) (n : Int) (s : Nat) : Int := min (prod s cs) n
def digits (n : Nat) : Nat := if n = 0 then 0 else n.log2 + 1
theorem pow16 : ∀ d : Nat, d ≤ 4 → 2 ^ d ≤ 16
  | 0, _ => by decide
  | 1, _ => by decide
  | 2, _ => by decide
  | 3, _ => by decide
  | 4, _ => by decide
  | n + 5, h => absurd h (by omega)
theorem parents_len (s d : Nat) (hd : d ≤ 4) : (parents s d).length ≤ 16 := Nat.le_trans (List.length_filter_le _ _) (by rw [List.length_range]; exact pow16 d hd)
end Go.Proofs.Ytlplaidcdocbmaa.Core
end
section
namespace Go.Proofs.Ytlplaidcdocbmaa.Core
open Go.RowKit Go.Shelf
attribute [local go_sem] Oper.semAt_some
set_option linter.unusedVariables false
set_option linter.unusedSimpArgs false
def encI (x : Nat) : Value := .int .i64 (x : Int)
def encA (x : Nat) : Array Value := #[.int .i64 (x : Int)]
theorem count_calls (d : Nat) (hd : d ≤ 4) (w : World) : Calls Try.prog 62 #[.int .i64 (d : Int)] w fun e w' => e = .returned (.int .i64 ((2 ^ d : Nat) : Int)) ∧ w' = w := by
  match d, hd with
  | 0, _ => go_enter Try.func62, Try.ntmps62; go_wp2; go_ret; exact ⟨congrArg (fun z => Ending.returned (.int .i64 z)) (by decide +kernel), rfl⟩
  | 1, _ => go_enter Try.func62, Try.ntmps62; go_wp2; go_ret; exact ⟨congrArg (fun z => Ending.returned (.int .i64 z)) (by decide +kernel), rfl⟩
  | 2, _ => go_enter Try.func62, Try.ntmps62; go_wp2; go_ret; exact ⟨congrArg (fun z => Ending.returned (.int .i64 z)) (by decide +kernel), rfl⟩
  | 3, _ => go_enter Try.func62, Try.ntmps62; go_wp2; go_ret; exact ⟨congrArg (fun z => Ending.returned (.int .i64 z)) (by decide +kernel), rfl⟩
  | 4, _ => go_enter Try.func62, Try.ntmps62; go_wp2; go_ret; exact ⟨congrArg (fun z => Ending.returned (.int .i64 z)) (by decide +kernel), rfl⟩
theorem below_calls (m : Int) (w : World) : Calls Try.prog 61 #[.int .i64 m] w fun e w' =>
    e = .returned (.func (.func 88) #[] #[.pointer (some ⟨w.heap.size, 0, none⟩)]) ∧ w' = w.alloc (.cells #[.int .i64 m] 3) := by
  go_enter Try.func61, Try.ntmps61
  go_wp2
  go_ret
  exact ⟨rfl, rfl⟩
theorem below_emits (Bn m : Nat) (hm : m ≤ 16) (w : World) (hB : w.heap[Bn]? = some (.cells #[.int .i64 (m : Int)] 3 (0, 0))) :
    Emits Try.prog (fun k => k = Bn) 88 #[.pointer (some ⟨Bn, 0, none⟩)] encA (List.range m) w := by
  intro n l J Jx W hS hJ hJx hY h0
  have hBW : W.heap[Bn]? = some (.cells #[.int .i64 (m : Int)] 3 (0, 0)) := (hS.2 Bn rfl).trans hB
  have hcell : W.cell? ⟨Bn, 0, none⟩ = some (.int .i64 (m : Int)) := Boxed.cell hBW
  clear hBW hS hJ hJx hB
  refine callsIn_of_wp Try.func88 rfl trivial ?_ rfl
  simp only [Try.ntmps88, List.size_toArray, List.length_cons, List.length_nil, Nat.reduceAdd, Nat.reduceSub, Array.replicate_succ, Array.replicate_zero, List.push_toArray, List.append_toArray, List.nil_append, List.cons_append]
  gi_wp2
  gi_loopw [5] (fun p wr => ∃ k : Nat, p = .int .i64 (k : Int) ∧ k ≤ m ∧ J (List.range k) wr)
    (fun p _ => m - (intOf p).toNat)
  case atStart =>
    exact ⟨0, rfl, by omega, h0⟩
  case round =>
    obtain ⟨k, rfl, hk, hJs⟩ := hrel
    by_cases hlt : k < m
    · have hd : decide ((k : Int) < (m : Int)) = true := decide_eq_true (by omega)
      have hw : wrap64 ((k : Int) + 1) = ((k + 1 : Nat) : Int) := by unfold wrap64; omega
      have hpre : List.range k ++ [k] <+: List.range m := by
        rw [← List.range_succ, show List.range (k + 1) = (List.range m).take (k + 1) by rw [List.take_range, Nat.min_eq_left (by omega)]]
        exact List.take_prefix _ _
      obtain ⟨fn, tmps, assign, body, hy, hR⟩ := hY (n - 1) (List.range k) k wr hJs hpre
      dsimp only [encA] at hy
      gi_wp2
      refine ⟨(fun h => by cases h), hR.mono ?_⟩
      rintro e W3 ⟨_, (⟨rfl, hJ3, hk3⟩ | ⟨rfl, hJx3⟩)⟩
      · gi_wp2
        go_roundw
        case rel => exact ⟨k + 1, by simp, by omega, by rw [List.range_succ]; exact hJ3⟩
        case measure => simp [intOf]; omega
      · gi_wp2
        refine bodyPost_ret (results_none rfl _ _ _) rfl ?_
        exact ⟨⟨_, rfl⟩, .inr ⟨_, hpre, hJx3⟩⟩
    · have hd : decide ((k : Int) < (m : Int)) = false := decide_eq_false (by omega)
      obtain rfl : k = m := by omega
      gi_wp2
      go_end0
      exact ⟨⟨_, rfl⟩, .inl hJs⟩
end Go.Proofs.Ytlplaidcdocbmaa.Core
end
section
namespace Go.Proofs.Ytlplaidcdocbmaa.Core
open Go.RowKit Go.Shelf
attribute [local go_sem] Oper.semAt_some
set_option linter.unusedVariables false
set_option linter.unusedSimpArgs false
theorem below_grown {W W' : World} (h : Below W.heap.size W W') : W.grownBy W' none := ⟨h.os, h.tape, h.output, h.size, fun k hk _ => h.block k hk⟩
theorem same_below {fp : Nat → Prop} {W W' : World} (h : Below W.heap.size W W') (hf : ∀ k, fp k → k < W.heap.size) : Same fp W W' := Same.below h hf
theorem ownFrom_same {β : Type} {B : Nat} {fp : Nat → Prop} {w0 : World} (hf : ∀ k, fp k → k < B ∧ k < w0.heap.size) : OwnFrom B (fun (_ : β) W => Same fp w0 W) :=
  fun _ X Y row hs hg hr => ⟨Nat.le_trans hs.1 hg.size, fun k hk => (hg.block k (by have := hs.1; have := (hf k hk).2; omega) (fun e => by have := (hr k e.symm).1; have := (hf k hk).1; omega)).trans (hs.2 k hk)⟩
theorem ownFrom_mono {β : Type} {B B' : Nat} {I : β → World → Prop} (h : OwnFrom B I) (hB : B ≤ B') : OwnFrom B' I :=
  fun s X Y row hs hg hr => h s X Y row hs hg (fun r e => ⟨by have := (hr r e).1; omega, (hr r e).2⟩)
theorem ownFrom_filter {B : Nat} {J : List Nat → World → Prop} (p : Nat → Bool) (h : OwnFrom B J) : OwnFrom B (fun (pre : List Nat) W => J (pre.filter p) W) := fun s X Y row hs hg hr => h _ X Y row hs hg hr
theorem kept_calls (g k : Nat) (lb kb : Array Value) (w : World) : Calls Try.prog 67 #[.func (.func g) #[] lb, .func (.func k) #[] kb] w fun e w' =>
    e = .returned (.func (.func 91) #[] #[.pointer (some ⟨w.heap.size, 0, none⟩), .pointer (some ⟨w.heap.size + 1, 0, none⟩)]) ∧
    w' = (w.alloc (.cells #[.func (.func g) #[] lb] 64)).alloc (.cells #[.func (.func k) #[] kb] 30) := by
  go_enter Try.func67, Try.ntmps67
  go_wp2
  go_ret
  exact ⟨rfl, rfl⟩
set_option maxHeartbeats 1000000 in
theorem kept_emits {fp fpk : Nat → Prop} {gf : Nat} {lb : Array Value} {xs : List Nat} {w : World} (hem : Emits Try.prog fp gf lb encA xs w)
    (eg : ∀ args w, (callFunc gf args).run Try.prog w = .ok (.enter gf args) w) (hfp : ∀ k, fp k → k < w.heap.size) (kf : Nat) (kb : Array Value) (ek : ∀ args w, (callFunc kf args).run Try.prog w = .ok (.enter kf args) w)
    (hfk : ∀ k, fpk k → k < w.heap.size) (p : Nat → Bool)
    (hkeep : ∀ x ∈ xs, ∀ W, Same fpk w W → Calls Try.prog kf (#[encI x] ++ kb) W fun e W' => e = .returned (.bool (p x)) ∧ Below W.heap.size W W')
    (Ba Bk : Nat) (hA : w.heap[Ba]? = some (.cells #[.func (.func gf) #[] lb] 64 (0, 0))) (hK : w.heap[Bk]? = some (.cells #[.func (.func kf) #[] kb] 30 (0, 0))) :
    Emits Try.prog (fun k => fp k ∨ fpk k ∨ k = Ba ∨ k = Bk) 91 #[.pointer (some ⟨Ba, 0, none⟩), .pointer (some ⟨Bk, 0, none⟩)] encA (xs.filter p) w := by
  intro n l J Jx W hS hJ hJx hY h0
  have hAW : W.heap[Ba]? = some (.cells #[.func (.func gf) #[] lb] 64 (0, 0)) := (hS.2 Ba (by simp)).trans hA
  have hKW : W.heap[Bk]? = some (.cells #[.func (.func kf) #[] kb] 30 (0, 0)) := (hS.2 Bk (by simp)).trans hK
  have hbA : Ba < w.heap.size := (Array.getElem?_eq_some_iff.1 hA).1
  have hbK : Bk < w.heap.size := (Array.getElem?_eq_some_iff.1 hK).1
  have hcA : W.cell? ⟨Ba, 0, none⟩ = some (.func (.func gf) #[] lb) := Boxed.cell hAW
  have hwW : w.heap.size ≤ W.heap.size := hS.1
  have hbAW : Ba < W.heap.size := by omega
  clear hA hK
  refine callsIn_of_wp_marks Try.func91 rfl trivial ?_ rfl
  simp only [Try.ntmps91, List.size_toArray, List.length_cons, List.length_nil, Nat.reduceAdd, Nat.reduceSub, Array.replicate_succ, Array.replicate_zero, List.push_toArray, List.append_toArray, List.nil_append, List.cons_append]
  gi_wp2
  obtain ⟨W0, hW0⟩ : ∃ W0, W.alloc (.cells #[.func (.yield l) #[] #[]] 30) = W0 := ⟨_, rfl⟩
  have hsz : W0.heap.size = W.heap.size + 1 := by rw [← hW0]; simp
  have hY0 : W0.heap[W.heap.size]? = some (.cells #[.func (.yield l) #[] #[]] 30 (0, 0)) := by rw [← hW0]; exact World.alloc_heap_new W _
  have hold : ∀ k, k < W.heap.size → W0.heap[k]? = W.heap[k]? := fun k hk => by rw [← hW0]; exact Below.heap_alloc _ _ k hk
  have hJ0 : J [] W0 := by rw [← hW0]; exact hJ.alloc _ h0
  rw [hW0]
  clear hW0 h0
  have hfa : ∀ k, (fp k ∨ fpk k ∨ k = Ba ∨ k = Bk ∨ k = W.heap.size) → k < W0.heap.size ∧ k < W0.heap.size := fun k hk => by
    rcases hk with h | h | h | h | h
    · have := hfp k h; omega
    · have := hfk k h; omega
    all_goals omega
  have hs0 : Same (fun k => fp k ∨ fpk k ∨ k = Ba ∨ k = Bk) w W0 := hS.trans ⟨by omega, fun k hk => hold k (by
    rcases hk with h | h | h | h
    · have := hfp k h; omega
    · have := hfk k h; omega
    all_goals omega)⟩
  have hJB : ∀ {B}, W.heap.size ≤ B → OwnFrom B J := fun h => ownFrom_mono hJ h
  refine wpIn_emits rfl eg hem (hs0.less (fun k hk => .inl hk)) (fun k hk => (hfa k (.inl hk)).1) (fun _ => rfl)
    (fun pre Wc => J (pre.filter p) Wc ∧ Same (fun k => fp k ∨ fpk k ∨ k = Ba ∨ k = Bk ∨ k = W.heap.size) W0 Wc) (fun c pre Wc => c = .ret ∧ Jx (pre.filter p) Wc)
    (OwnFrom.and (ownFrom_filter p (ownFrom_mono hJ (by omega))) (ownFrom_same hfa)) (fun c => OwnFrom.and (ownFrom_pure _ _) (ownFrom_filter p (ownFrom_mono hJx (by omega)))) ⟨hJ0, Same.refl _ _⟩
    (fun x => { tmps := #[.func (.yield l) #[] #[], .pointer (some ⟨Ba, 0, none⟩), .pointer (some ⟨Bk, 0, none⟩), .pointer (some ⟨W.heap.size, 0, none⟩), (.int .i64 (x : Int)), .func (.func gf) #[] lb, (.int .i64 (x : Int)), undef, undef, undef, undef, undef, undef, undef, undef, undef], defers := [] })
    ?assign ?body ?done ?stop
  case assign => intro l' m x Wc K hKc; dsimp only [encA]; gi_wp2; exact hKc
  case done =>
    rintro D Wc hD ⟨hj, hs⟩ hDef
    gi_wp2
    refine ⟨by simp, .inl ⟨_, _, rfl, run_takeDeferred hDef, ?_⟩⟩
    exact ⟨_, results_none rfl _ _ _, ⟨_, rfl⟩, .inl (hJ.putObj _ hj (by omega) hDef rfl)⟩
  case stop =>
    rintro D c pre Wc hD hpre ⟨rfl, hj⟩ hDef
    gi_wp2
    refine ⟨by simp, .inl ⟨_, _, rfl, run_takeDeferred hDef, ?_⟩⟩
    exact ⟨_, results_none rfl _ _ _, ⟨_, rfl⟩, .inr ⟨_, hpre.filter p, hJx.putObj _ hj (by omega) hDef rfl⟩⟩
  case body =>
    rintro l' m pre x Wc ⟨hj, hs⟩ hpre
    have hcK : Wc.cell? ⟨Bk, 0, none⟩ = some (.func (.func kf) #[] kb) := Boxed.cell (t := 30) (((hs.2 Bk (by simp)).trans (hold Bk (by omega))).trans hKW)
    have hx : x ∈ xs := hpre.subset (by simp)
    have hk := hkeep x hx Wc ((hs0.less (fun k hk => .inr (.inl hk))).trans (hs.less (fun k hk => .inr (.inl hk))))
    have hfc : ∀ k, (fp k ∨ fpk k ∨ k = Ba ∨ k = Bk ∨ k = W.heap.size) → k < Wc.heap.size := fun k hk => by have := (hfa k hk).1; have := hs.1; omega
    have hfw : ∀ f, Fence.wide.fn f := fun _ => trivial
    have hdw : Fence.wide.depth.isSome = false := rfl
    cases hp : p x with
    | false =>
      rw [hp] at hk
      gi_wp2
      refine (CallsIn.inRound l' (callsIn_wide.2 hk)).mono ?_
      rintro e W1 ⟨rfl, hb1⟩
      gi_wp2
      refine ⟨Keeps.below _ hb1, same_below hb1 (fun k hk => hfc k (.inl hk)), ?_, hs.trans (same_below hb1 hfc)⟩
      rw [List.filter_append, List.filter_cons, hp]
      simpa using hJ _ Wc W1 none hj (below_grown hb1) (fun r e => by cases e)
    | true =>
      rw [hp] at hk
      gi_wp2
      refine (CallsIn.inRound l' (callsIn_wide.2 hk)).mono ?_
      rintro e W1 ⟨rfl, hb1⟩
      have hs1 := hs.trans (same_below hb1 hfc)
      have hcY : W1.cell? ⟨W.heap.size, 0, none⟩ = some (.func (.yield l) #[] #[]) := Boxed.cell (t := 30) ((hs1.2 _ (by simp)).trans hY0)
      have hj1 := hJ _ Wc W1 none hj (below_grown hb1) (fun r e => by cases e)
      have hfx : (pre ++ [x]).filter p = pre.filter p ++ [x] := by rw [List.filter_append, List.filter_cons, hp]; simp
      have hpf : pre.filter p ++ [x] <+: xs.filter p := by rw [← hfx]; exact hpre.filter p
      obtain ⟨fn, tmps, assign, body, hy, hR⟩ := hY (m - 1) _ x W1 hj1 hpf
      dsimp only [encA] at hy
      gi_wp2
      refine (show RoundIn (Fence.wide.inRound l') _ _ _ _ _ _ _ _ _ from hR).mono ?_
      rintro e W2 ⟨hkf, (⟨rfl, hj2, hsm⟩ | ⟨rfl, hjx⟩)⟩
      · gi_wp2
        have hk2 : Keeps W0.heap.size Wc W2 := (Keeps.below _ hb1).trans (hkf.mono (by omega))
        refine ⟨hk2, (same_below hb1 (fun k hk => hfc k (.inl hk))).trans (hsm.less (fun k hk => .inl hk)), ?_, ?_⟩
        · show J (List.filter p (pre ++ [x])) W2
          rw [hfx]; exact hj2
        · refine ⟨Nat.le_trans hs.1 hk2.1, fun k hk => ?_⟩
          by_cases hkb : k = W.heap.size
          · subst hkb
            exact (hkf.2 _ _ (Nat.le_refl _) ((hs1.2 _ hk).trans hY0) rfl).trans hY0.symm
          · refine (hsm.2 k ?_).trans (hs1.2 k hk)
            rcases hk with h | h | h | h | h
            · exact .inl h
            · exact .inr (.inl h)
            · exact .inr (.inr (.inl h))
            · exact .inr (.inr (.inr h))
            · exact absurd h hkb
      · gi_wp2
        refine ⟨(Keeps.below _ hb1).trans (hkf.mono (by omega)), rfl, ?_⟩
        show Jx (List.filter p (pre ++ [x])) W2
        rw [hfx]; exact hjx
end Go.Proofs.Ytlplaidcdocbmaa.Core
end
section
namespace Go.Proofs.Ytlplaidcdocbmaa.Core
open Go.RowKit Go.Shelf
attribute [local go_sem] Oper.semAt_some
set_option linter.unusedVariables false
set_option linter.unusedSimpArgs false
theorem info3 : (Try.prog.info? 3).map (fun i => (i.zero, i.size, i.bytes)) = some (some (.int .i64 0), 1, 8) := by kernel_rfl
theorem ownsRow_type {W : World} {base : Nat} {e : TypeId} {size : Nat} {v : Value} {k : Nat} {xs : List Value} (h : W.ownsRow base e size v k xs) (he : e ≠ 30) : ∀ j, v.ownBlock = some j → ∃ o, W.heap[j]? = some o ∧ Obj30 o = false := by
  intro j hj
  rcases h.2 with ⟨rfl, _⟩ | ⟨g, cap, cur, rfl, _, hgb, _⟩
  · simp [Value.ownBlock] at hj
  · have : g = j := by simpa [Value.ownBlock] using hj
    subst this
    exact ⟨_, hgb, by simp [Obj30, he]⟩
set_option maxHeartbeats 2000000 in
theorem appendSeq_calls {fp : Nat → Prop} {gf : Nat} {lb : Array Value} {xs : List Nat} {w : World} (hem : Emits Try.prog fp gf lb encA xs w)
    (eg : ∀ args w, (callFunc gf args).run Try.prog w = .ok (.enter gf args) w) (hfp : ∀ k, fp k → k < w.heap.size) (hlen : xs.length ≤ 16) :
    Calls Try.prog 87 #[.slice none 0 0, .func (.func gf) #[] lb] w fun e w' => ∃ v : Value, e = .returned v ∧ w'.ownsRow w.heap.size 3 1 v xs.length (xs.map encI) ∧ (v = .slice none 0 0 ↔ xs = []) ∧ Below w.heap.size w w' := by
  obtain ⟨i0, hi, hz0, hz1, hz2⟩ := info_parts info3
  refine (callsIn_wide (n := 3)).1 ?_
  refine callsIn_of_wp_marks Try.func87 rfl trivial ?_ rfl
  simp only [Try.ntmps87, List.size_toArray, List.length_cons, List.length_nil, Nat.reduceAdd, Nat.reduceSub, Array.replicate_succ, Array.replicate_zero, List.push_toArray, List.append_toArray, List.nil_append, List.cons_append]
  gi_wp2
  obtain ⟨W0, hW0⟩ : ∃ W0, w.alloc (.cells #[.slice none 0 0] 24) = W0 := ⟨_, rfl⟩
  have hsz : W0.heap.size = w.heap.size + 1 := by rw [← hW0]; simp
  have hBox : Boxed W0 w.heap.size 24 (.slice none 0 0) := by rw [← hW0]; exact Boxed.new _ _ _
  have hB0 : Below w.heap.size w W0 := by rw [← hW0]; exact (Below.refl _ w).alloc (Nat.le_refl _) _
  rw [hW0]
  clear hW0
  refine wpIn_emits rfl eg hem (Same.below hB0 hfp) (fun k hk => by have := hfp k hk; omega) (fun _ => rfl)
    (fun pre W => (∃ v, Boxed W w.heap.size 24 v ∧ W.ownsRow w.heap.size 3 1 v pre.length (pre.map encI) ∧ (v = .slice none 0 0 ↔ pre = [])) ∧ Below w.heap.size w W) (fun _ _ _ => False)
    (OwnFrom.and (Own.from (holdsRow_own w.heap.size w.heap.size 24 3 1 (fun (pre : List Nat) => pre.length) (fun pre => pre.map encI) (fun pre v => (v = .slice none 0 0 ↔ pre = []))) _) (ownFrom_below (Nat.le_refl _) (by omega)))
    (fun c _ _ _ _ h _ _ => h) ⟨⟨_, hBox, World.ownsRow_nil _ _ _ _, by simp⟩, hB0⟩
    (fun x => { tmps := #[.slice none 0 0, .func (.func gf) #[] lb, .pointer (some ⟨w.heap.size, 0, none⟩), undef, .slice none 0 0, .int .i64 (x : Int), .func (.func gf) #[] lb, .int .i64 (x : Int), undef, undef, undef, undef, undef], defers := [] })
    ?assign ?body ?done ?stop
  case assign => intro l' m x Wc K hKc; dsimp only [encA]; gi_wp2; exact hKc
  case stop => intro D c pre Wc hD hpre hf hDef; exact hf.elim
  case done =>
    rintro D Wc hD ⟨⟨v, hv, hrow, hnil⟩, hB⟩ hDef
    have hc := hv.cell
    gi_wp2
    refine ⟨by simp, .inl ⟨_, _, rfl, run_takeDeferred hDef, ?_⟩⟩
    exact ⟨_, results_tmp rfl _ _ _, v, rfl, ownsRow_putObj hrow _ hDef rfl, hnil, hB.trans (belowK_b (w := w) (Nat.le_refl _) Wc D _ _ (by omega) hDef rfl rfl)⟩
  case body =>
    rintro l' m pre x W ⟨⟨v, hv, hrow, hnil⟩, hB⟩ hpre
    have hpl : pre.length + 1 ≤ 16 := by have := hpre.length_le; simp at this; omega
    have hc := hv.cell
    have hfr := hv.frozen
    have hlt := hv.lt
    gi_wp2_with (gi_at_builtin; refine wpListIn_append_own _ rfl _ _ 24 rfl w.heap.size 3 i0 (.int .i64 0) 1 8 Try.underlying24 hi hz0 hz1 hz2 rfl (by decide) _ _ _ rfl (hrow.alloc _) ⟨W.heap.size, 0, none⟩ 1 1 [.int .i64 (x : Int)] rfl rfl (cell_one_new _ _ _) (by simp [Value.oneCell']) (by unfold maxLen; omega) (by omega) (by have := hB.size; simp; omega) ?_; intro v' w1 hown' hgrow _; obtain ⟨g', cap', rfl⟩ := ownsRow_succ hown'; obtain ⟨hv1, hv2, hr2, hk2, hb2⟩ := hv.appended (by decide) hrow hB.size (Nat.le_refl _) hown' hgrow; have hc1 := hv1.cell; have hf1 := hv1.frozen)
    refine ⟨(Keeps.grown (World.grownBy_alloc W _ none) (fun j e => by cases e)).trans ((Keeps.grown hgrow (fun j e => .inr (ownsRow_type (hrow.alloc _) (by decide) j e))).trans (Keeps.grown (grownBy_setCell' w1 _ _) (fun j e => by cases e; left; omega))),
      Same.below hb2 hfp, ⟨_, hv2, by simpa [encI] using hr2, by simp⟩, hB.trans hb2⟩
theorem collect_calls {fp : Nat → Prop} {gf : Nat} {lb : Array Value} {xs : List Nat} {w : World} (hem : Emits Try.prog fp gf lb encA xs w)
    (eg : ∀ args w, (callFunc gf args).run Try.prog w = .ok (.enter gf args) w) (hfp : ∀ k, fp k → k < w.heap.size) (hlen : xs.length ≤ 16) :
    Calls Try.prog 60 #[.func (.func gf) #[] lb] w fun e w' => ∃ v : Value, e = .returned v ∧ w'.ownsRow w.heap.size 3 1 v xs.length (xs.map encI) ∧ (v = .slice none 0 0 ↔ xs = []) ∧ Below w.heap.size w w' := by
  have hc := appendSeq_calls hem eg hfp hlen
  clear hem
  go_enter Try.func60, Try.ntmps60
  go_wp2_with (go_at_call 87; refine hc.mono ?_; rintro e w' ⟨v, rfl, hrow, hnil, hb⟩)
  go_ret
  exact ⟨v, rfl, hrow, hnil, hb⟩
end Go.Proofs.Ytlplaidcdocbmaa.Core
end
section
namespace Go.Proofs.Ytlplaidcdocbmaa.Core
open Go.RowKit Go.Shelf
set_option linter.unusedVariables false
set_option linter.unusedSimpArgs false
set_option maxHeartbeats 2000000 in
theorem clone_ints {base n : Nat} {v : Value} {news : List Value} {w : World} (h : w.ownsRow base 3 1 v n news) (hn : n ≤ 1000) (h1 : ∀ u ∈ news, u.oneCell' = true) :
    Calls Try.prog 66 #[v] w fun e w' => ∃ v' : Value, e = .returned v' ∧ w'.ownsRow w.heap.size 3 1 v' n news ∧ Below w.heap.size w w' := by
  obtain ⟨i0, hi, hz0, hz1, hz2⟩ := info_parts info3
  have q24 : ∀ (w : World) (a : Option Addr) (n c n' c' : Nat), (binOp .eql 24 (.slice a n c) (.slice none n' c')).run Try.prog w = .ok (.bool a.isNone) w := fun w a n c n' c' => Lib.run_eql_slice_nil w _ _ a n c n' c' Try.underlying24
  rcases h.2 with ⟨rfl, h0⟩ | ⟨g, cap, cur, rfl, hb, hg, hnc, hcm, hcs, htake⟩
  · subst h0
    have hx : news = [] := by have := h.1; simpa using this
    subst hx
    clear h h1
    go_enter Try.func66, Try.ntmps66
    go_wp2
    go_ret
    exact ⟨_, rfl, World.ownsRow_nil _ _ _ _, Below.refl _ _⟩
  · have HC := Apart0.mk h
    have hnl := h.1
    have HG := Apart0.mk hg
    clear hg h htake hcs hb
    go_enter Try.func66, Try.ntmps66
    go_wp2_with (at_builtin; refine wpList_append_own _ rfl _ _ 24 rfl w.heap.size 3 i0 (.int .i64 0) 1 8 Try.underlying24 hi hz0 hz1 hz2 rfl (by decide) _ _ _ rfl (World.ownsRow_made w #[] 0 (Nat.le_refl _) (Nat.zero_le _) rfl) ⟨g, 0, none⟩ n cap news rfl ?qc1 ?qc2 ?qc3 ?qc4 ?qc5 ?qc6 ?_)
    case qc1 => exact hnl
    case qc2 =>
      intro j u hj
      have hjn : j < n * 1 := by
        have := (List.getElem?_eq_some_iff.1 hj).1
        omega
      rw [Addr.add_lit, Nat.zero_add]
      exact Lib.cell?_alloc_some _ ((HC.out.cellAt j hjn).trans hj)
    case qc3 => exact h1
    case qc4 => unfold maxLen; omega
    case qc5 => omega
    case qc6 => simp
    intro v' w1 hown hgrow hnil
    go_wp2
    go_ret
    exact ⟨v', rfl, by simpa using hown, ((Below.refl _ w).alloc (Nat.le_refl _) _).grown hgrow (by simp) (by intro k hk; simp [Value.ownBlock] at hk; omega)⟩
end Go.Proofs.Ytlplaidcdocbmaa.Core
end
section
namespace Go.Proofs.Ytlplaidcdocbmaa.Core
open Go.RowKit Go.Shelf
set_option linter.unusedVariables false
set_option linter.unusedSimpArgs false
theorem level_calls (s : Nat) (hs : s < 16) (w : World) : Calls Try.prog 31 #[.int .i64 (s : Int)] w fun e w' => e = .returned (.int .i64 ((lev s : Nat) : Int)) ∧ w' = w := by
  match s, hs with
  | 0, _ => go_enter Try.func31, Try.ntmps31; go_wp2; go_ret; exact ⟨congrArg (fun z => Ending.returned (.int .i64 z)) (by decide +kernel), rfl⟩
  | 1, _ => go_enter Try.func31, Try.ntmps31; go_wp2; go_ret; exact ⟨congrArg (fun z => Ending.returned (.int .i64 z)) (by decide +kernel), rfl⟩
  | 2, _ => go_enter Try.func31, Try.ntmps31; go_wp2; go_ret; exact ⟨congrArg (fun z => Ending.returned (.int .i64 z)) (by decide +kernel), rfl⟩
  | 3, _ => go_enter Try.func31, Try.ntmps31; go_wp2; go_ret; exact ⟨congrArg (fun z => Ending.returned (.int .i64 z)) (by decide +kernel), rfl⟩
  | 4, _ => go_enter Try.func31, Try.ntmps31; go_wp2; go_ret; exact ⟨congrArg (fun z => Ending.returned (.int .i64 z)) (by decide +kernel), rfl⟩
  | 5, _ => go_enter Try.func31, Try.ntmps31; go_wp2; go_ret; exact ⟨congrArg (fun z => Ending.returned (.int .i64 z)) (by decide +kernel), rfl⟩
  | 6, _ => go_enter Try.func31, Try.ntmps31; go_wp2; go_ret; exact ⟨congrArg (fun z => Ending.returned (.int .i64 z)) (by decide +kernel), rfl⟩
  | 7, _ => go_enter Try.func31, Try.ntmps31; go_wp2; go_ret; exact ⟨congrArg (fun z => Ending.returned (.int .i64 z)) (by decide +kernel), rfl⟩
  | 8, _ => go_enter Try.func31, Try.ntmps31; go_wp2; go_ret; exact ⟨congrArg (fun z => Ending.returned (.int .i64 z)) (by decide +kernel), rfl⟩
  | 9, _ => go_enter Try.func31, Try.ntmps31; go_wp2; go_ret; exact ⟨congrArg (fun z => Ending.returned (.int .i64 z)) (by decide +kernel), rfl⟩
  | 10, _ => go_enter Try.func31, Try.ntmps31; go_wp2; go_ret; exact ⟨congrArg (fun z => Ending.returned (.int .i64 z)) (by decide +kernel), rfl⟩
  | 11, _ => go_enter Try.func31, Try.ntmps31; go_wp2; go_ret; exact ⟨congrArg (fun z => Ending.returned (.int .i64 z)) (by decide +kernel), rfl⟩
  | 12, _ => go_enter Try.func31, Try.ntmps31; go_wp2; go_ret; exact ⟨congrArg (fun z => Ending.returned (.int .i64 z)) (by decide +kernel), rfl⟩
  | 13, _ => go_enter Try.func31, Try.ntmps31; go_wp2; go_ret; exact ⟨congrArg (fun z => Ending.returned (.int .i64 z)) (by decide +kernel), rfl⟩
  | 14, _ => go_enter Try.func31, Try.ntmps31; go_wp2; go_ret; exact ⟨congrArg (fun z => Ending.returned (.int .i64 z)) (by decide +kernel), rfl⟩
  | 15, _ => go_enter Try.func31, Try.ntmps31; go_wp2; go_ret; exact ⟨congrArg (fun z => Ending.returned (.int .i64 z)) (by decide +kernel), rfl⟩
  | n + 16, h => exact absurd h (by omega)
theorem and_bits (p s : Nat) (hp : p < 16) (hs : s < 16) : bits .and .i64 (p : Int) (s : Int) = ((p &&& s : Nat) : Int) := by
  have h : ∀ p : Fin 16, ∀ s : Fin 16, bits .and .i64 (p.1 : Int) (s.1 : Int) = ((p.1 &&& s.1 : Nat) : Int) := by decide +kernel
  exact h ⟨p, hp⟩ ⟨s, hs⟩
theorem lev_le (s : Nat) (hs : s < 16) : lev s ≤ 4 := by
  have h : ∀ s : Fin 16, lev s.1 ≤ 4 := by decide +kernel
  exact h ⟨s, hs⟩
set_option maxHeartbeats 1000000 in
theorem keepPar (p s Bs : Nat) (hp : p < 16) (hs : s < 16) (w : World) (hB : w.cell? ⟨Bs, 0, none⟩ = some (.int .i64 (s : Int))) :
    Calls Try.prog 68 #[.int .i64 (p : Int), .pointer (some ⟨Bs, 0, none⟩)] w fun e w' => e = .returned (.bool ((p &&& s == s) && (lev p == lev s + 1))) ∧ Below w.heap.size w w' := by
  have l1 := lev_le s hs
  have l2 := lev_le p hp
  by_cases h1 : p &&& s = s
  · have g : (bits .and .i64 (p : Int) (s : Int) == (s : Int)) = true := by rw [and_bits p s hp hs, h1]; simp
    have E : Apart0 (∀ b, (p &&& s == s && b) = b) := ⟨by intro b; rw [h1]; simp⟩
    clear h1
    by_cases h2 : lev p = lev s + 1
    · have g2 : ((lev p : Int) == (lev s : Int) + 1) = true := beq_iff_eq.2 (by omega)
      have E2 : Apart0 ((lev p == lev s + 1) = true) := ⟨by rw [h2]; simp⟩
      clear h2
      go_enter Try.func68, Try.ntmps68
      go_wp2
      go_quiet ((go_at_call 31; exact Calls.quiet_of_same (level_calls _ (by omega) _)))
      go_wp2
      go_ret
      exact ⟨by rw [E.out, E2.out]; rfl, ((Below.refl _ w).trans ⟨rfl, rfl, rfl, Nat.le_refl _, fun _ _ => rfl⟩)⟩
    · have g2 : ((lev p : Int) == (lev s : Int) + 1) = false := beq_eq_false_iff_ne.2 (by omega)
      have E2 : Apart0 ((lev p == lev s + 1) = false) := ⟨beq_eq_false_iff_ne.2 h2⟩
      clear h2
      go_enter Try.func68, Try.ntmps68
      go_wp2
      go_quiet ((go_at_call 31; exact Calls.quiet_of_same (level_calls _ (by omega) _)))
      go_wp2
      go_ret
      exact ⟨by rw [E.out, E2.out]; rfl, ((Below.refl _ w).trans ⟨rfl, rfl, rfl, Nat.le_refl _, fun _ _ => rfl⟩)⟩
  · have g : (bits .and .i64 (p : Int) (s : Int) == (s : Int)) = false := by rw [and_bits p s hp hs]; exact beq_eq_false_iff_ne.2 (by omega)
    have E : Apart0 (∀ b, (p &&& s == s && b) = false) := ⟨by intro b; rw [beq_eq_false_iff_ne.2 h1]; simp⟩
    clear h1
    go_enter Try.func68, Try.ntmps68
    go_wp2
    go_quiet ((go_at_call 31; exact Calls.quiet_of_same (level_calls _ (by omega) _)))
    go_wp2
    go_ret
    exact ⟨by rw [E.out]; rfl, ((Below.refl _ w).trans ⟨rfl, rfl, rfl, Nat.le_refl _, fun _ _ => rfl⟩)⟩
end Go.Proofs.Ytlplaidcdocbmaa.Core
end
section
namespace Go.Proofs.Ytlplaidcdocbmaa.Core
open Go.RowKit Go.Shelf
set_option linter.unusedVariables false
set_option linter.unusedSimpArgs false
theorem enters88 : ∀ args w, (callFunc 88 args).run Try.prog w = .ok (.enter 88 args) w := enters_of Try.func88 (by kernel_rfl) rfl
theorem enters91 : ∀ args w, (callFunc 91 args).run Try.prog w = .ok (.enter 91 args) w := enters_of Try.func91 (by kernel_rfl) rfl
theorem enters68 : ∀ args w, (callFunc 68 args).run Try.prog w = .ok (.enter 68 args) w := enters_of Try.func68 (by kernel_rfl) rfl
theorem par_emits (s m Bs Bn Ba Bk : Nat) (hs : s < 16) (hm : m ≤ 16) (w : World) (hBs : w.heap[Bs]? = some (.cells #[.int .i64 (s : Int)] 3 (0, 0))) (hBn : w.heap[Bn]? = some (.cells #[.int .i64 (m : Int)] 3 (0, 0)))
    (hBa : w.heap[Ba]? = some (.cells #[.func (.func 88) #[] #[.pointer (some ⟨Bn, 0, none⟩)]] 64 (0, 0))) (hBk : w.heap[Bk]? = some (.cells #[.func (.func 68) #[] #[.pointer (some ⟨Bs, 0, none⟩)]] 30 (0, 0))) :
    Emits Try.prog (fun k => k = Bn ∨ k = Bs ∨ k = Ba ∨ k = Bk) 91 #[.pointer (some ⟨Ba, 0, none⟩), .pointer (some ⟨Bk, 0, none⟩)] encA ((List.range m).filter fun p => (p &&& s == s) && (lev p == lev s + 1)) w := by
  have lt : ∀ {k : Nat} {o : Obj}, w.heap[k]? = some o → k < w.heap.size := fun h => (Array.getElem?_eq_some_iff.1 h).1
  have h0 := below_emits Bn m hm w hBn
  exact kept_emits (fp := fun k => k = Bn) (xs := List.range m) h0 enters88 (fun k hk => by rw [hk]; exact lt hBn) 68 #[.pointer (some ⟨Bs, 0, none⟩)] enters68 (fpk := fun k => k = Bs) (fun k hk => by rw [hk]; exact lt hBs) _
    (fun x hx W hW => keepPar x s Bs (by have := List.mem_range.1 hx; omega) hs W (Boxed.cell (t := 3) ((hW.2 Bs rfl).trans hBs))) Ba Bk hBa hBk
theorem ownsRow_base {W : World} {base base' : Nat} {e : TypeId} {size : Nat} {v : Value} {k : Nat} {xs : List Value} (h : W.ownsRow base e size v k xs) (hb : base' ≤ base) : W.ownsRow base' e size v k xs := by
  refine ⟨h.1, ?_⟩
  rcases h.2 with hn | ⟨g, cap, cur, hv, hbg, rest⟩
  · exact .inl hn
  · exact .inr ⟨g, cap, cur, hv, Nat.le_trans hb hbg, rest⟩
set_option maxHeartbeats 1000000 in
theorem parents_calls (s d : Nat) (hs : s < 16) (hd : d ≤ 4) (w : World) : Calls Try.prog 30 #[.int .i64 (s : Int), .int .i64 (d : Int)] w fun e w' =>
    ∃ v : Value, e = .returned v ∧ w'.ownsRow w.heap.size 3 1 v (parents s d).length ((parents s d).map encI) ∧ Below w.heap.size w w' := by
  obtain ⟨m, hm⟩ : ∃ m, m = 2 ^ d := ⟨_, rfl⟩
  have hm16 : m ≤ 16 := by rw [hm]; exact pow16 d hd
  have hc := fun W => count_calls d hd W
  rw [← hm] at hc
  have HP := Apart0.mk (show (List.range m).filter (fun p => (p &&& s == s) && (lev p == lev s + 1)) = parents s d by rw [hm]; rfl)
  clear hm
  go_enter Try.func30, Try.ntmps30
  go_wp2_with fail
  refine (hc _).mono ?_
  rintro e w1 ⟨rfl, rfl⟩
  clear hc
  go_wp2_with fail
  refine (below_calls _ _).mono ?_
  rintro e w1 ⟨rfl, rfl⟩
  go_wp2_with fail
  refine (kept_calls _ _ _ _ _).mono ?_
  rintro e w1 ⟨rfl, rfl⟩
  simp only [World.size_alloc]
  obtain ⟨W4, hW4⟩ : ∃ W4, ((((w.alloc (.cells #[.int .i64 (s : Int)] 3)).alloc (.cells #[.int .i64 (m : Int)] 3)).alloc (.cells #[.func (.func 88) #[] #[.pointer (some ⟨w.heap.size + 1, 0, none⟩)]] 64)).alloc (.cells #[.func (.func 68) #[] #[.pointer (some ⟨w.heap.size, 0, none⟩)]] 30)) = W4 := ⟨_, rfl⟩
  rw [hW4]
  have hB4 : Below w.heap.size w W4 := by
    rw [← hW4]; exact ((((Below.refl _ w).alloc (Nat.le_refl _) _).alloc (by simp only [World.size_alloc]; omega) _).alloc (by simp only [World.size_alloc]; omega) _).alloc (by simp only [World.size_alloc]; omega) _
  have hsz : W4.heap.size = w.heap.size + 4 := by rw [← hW4]; simp
  have b3 : W4.heap[w.heap.size + 3]? = some (.cells #[.func (.func 68) #[] #[.pointer (some ⟨w.heap.size, 0, none⟩)]] 30 (0, 0)) := by
    rw [← hW4]; have := World.alloc_heap_new (((w.alloc (.cells #[.int .i64 (s : Int)] 3)).alloc (.cells #[.int .i64 (m : Int)] 3)).alloc (.cells #[.func (.func 88) #[] #[.pointer (some ⟨w.heap.size + 1, 0, none⟩)]] 64)) (.cells #[.func (.func 68) #[] #[.pointer (some ⟨w.heap.size, 0, none⟩)]] 30); simpa using this
  have b2 : W4.heap[w.heap.size + 2]? = some (.cells #[.func (.func 88) #[] #[.pointer (some ⟨w.heap.size + 1, 0, none⟩)]] 64 (0, 0)) := by
    rw [← hW4, Below.heap_alloc _ _ _ (by simp)]; have := World.alloc_heap_new ((w.alloc (.cells #[.int .i64 (s : Int)] 3)).alloc (.cells #[.int .i64 (m : Int)] 3)) (.cells #[.func (.func 88) #[] #[.pointer (some ⟨w.heap.size + 1, 0, none⟩)]] 64); simpa using this
  have b1 : W4.heap[w.heap.size + 1]? = some (.cells #[.int .i64 (m : Int)] 3 (0, 0)) := by
    rw [← hW4, Below.heap_alloc _ _ _ (by simp), Below.heap_alloc _ _ _ (by simp)]; have := World.alloc_heap_new (w.alloc (.cells #[.int .i64 (s : Int)] 3)) (.cells #[.int .i64 (m : Int)] 3); simpa using this
  have b0 : W4.heap[w.heap.size]? = some (.cells #[.int .i64 (s : Int)] 3 (0, 0)) := by
    rw [← hW4, Below.heap_alloc _ _ _ (by simp; omega), Below.heap_alloc _ _ _ (by simp; omega), Below.heap_alloc _ _ _ (by simp)]; exact World.alloc_heap_new w _
  clear hW4
  have hem := par_emits s m _ _ _ _ hs hm16 W4 b0 b1 b2 b3
  rw [HP.out] at hem
  have hcol := collect_calls hem enters91 (fun k hk => by omega) (parents_len s d hd)
  have HPL := parents_len s d hd
  clear hem b0 b1 b2 b3
  go_wp2_with fail
  refine hcol.mono ?_
  rintro e w5 ⟨v, rfl, hrow, hnil, hb5⟩
  go_wp2_with fail
  have hcl := clone_ints hrow (by omega) (fun u hu => by obtain ⟨x, _, rfl⟩ := List.mem_map.1 hu; rfl)
  refine hcl.mono ?_
  rintro e w6 ⟨v6, rfl, hrow6, hb6⟩
  go_wp2_with fail
  go_ret
  refine ⟨v6, rfl, ?_, ?_⟩
  · have := ownsRow_base hrow6 (base' := w.heap.size) (Nat.le_trans hB4.size hb5.size)
    exact this
  · exact (hB4.trans (hb5.mono hB4.size)).trans (hb6.mono (Nat.le_trans hB4.size hb5.size))
end Go.Proofs.Ytlplaidcdocbmaa.Core
end
section
namespace Go.Proofs.Ytlplaidcdocbmaa.Core
open Go.RowKit Go.Shelf Go.Sort Go.Lib
set_option linter.unusedVariables false
set_option linter.unusedSimpArgs false
def insRen : Ren := { f := fun k => if k = 20 then 104 else 0, t := fun k => if k = 22 then 24 else if k = 24 then 3 else if k = 25 then 23 else k, g := fun _ => 0 }
theorem insLays : SlLaysF.n20 Try.prog insRen where
  mixed := by kernel_rfl
  f20 := ⟨"slices.insertionSortCmpFunc[int]", by decide, Try.func104.trans (by kernel_rfl)⟩
  t0 := Try.underlying0
  a0 := Try.isAgg0
  z0 := Try.sizeOf0
  v0 := Try.zeroValue0
  t3 := Try.underlying3
  a3 := Try.isAgg3
  z3 := Try.sizeOf3
  v3 := Try.zeroValue3
  t4 := Try.underlying4
  a4 := Try.isAgg4
  z4 := Try.sizeOf4
  v4 := Try.zeroValue4
  t22 := Try.underlying24
  a22 := Try.isAgg24
  z22 := Try.sizeOf24
  v22 := Try.zeroValue24
  a24 := Try.isAgg3
  z24 := Try.sizeOf3
  t25 := Try.underlying23
  a25 := Try.isAgg23
  z25 := Try.sizeOf23
  v25 := Try.zeroValue23
def cmpc (x y : Nat) : Int := if x < y then -1 else if y < x then 1 else 0
def cf (x y : Fin 16) : Int := cmpc (lev y.1) (lev x.1)
def encF (x : Fin 16) : Value := .int .i64 (x.1 : Int)
theorem compare_calls (x y : Nat) (w : World) : Calls Try.prog 65 #[.int .i64 (x : Int), .int .i64 (y : Int)] w fun e w' => e = .returned (.int .i64 (cmpc x y)) ∧ w' = w := by
  by_cases h1 : x < y
  · have E : Apart0 (cmpc x y = -1) := ⟨by unfold cmpc; rw [if_pos h1]⟩
    go_enter Try.func65, Try.ntmps65
    go_wp2
    go_ret
    exact ⟨by rw [E.out]; rfl, rfl⟩
  · by_cases h2 : y < x
    · have E : Apart0 (cmpc x y = 1) := ⟨by unfold cmpc; rw [if_neg h1, if_pos h2]⟩
      go_enter Try.func65, Try.ntmps65
      go_wp2
      go_ret
      exact ⟨by rw [E.out]; rfl, rfl⟩
    · have E : Apart0 (cmpc x y = 0) := ⟨by unfold cmpc; rw [if_neg h1, if_neg h2]⟩
      go_enter Try.func65, Try.ntmps65
      go_wp2
      go_ret
      exact ⟨by rw [E.out]; rfl, rfl⟩
theorem cmp_calls (x y : Fin 16) (w : World) : Calls Try.prog 64 #[encF x, encF y] w fun e w' => e = .returned (.int .i64 (cf x y)) ∧ w' = w := by
  have l1 := level_calls x.1 x.2
  have l2 := level_calls y.1 y.2
  have h3 := compare_calls (lev y.1) (lev x.1)
  have e : cf x y = cmpc (lev y.1) (lev x.1) := rfl
  have E := Apart0.mk e
  clear e
  unfold encF
  generalize x.1 = a at *
  generalize y.1 = b at *
  generalize cf x y = c at *
  go_enter Try.func64, Try.ntmps64
  go_wp2_with fail
  refine (l2 _).mono ?_
  rintro e w' ⟨rfl, rfl⟩
  go_wp2_with fail
  refine (l1 _).mono ?_
  rintro e w' ⟨rfl, rfl⟩
  go_wp2_with fail
  refine (h3 _).mono ?_
  rintro e w' ⟨rfl, rfl⟩
  go_wp2_with fail
  go_ret
  exact ⟨by rw [E.out]; rfl, rfl⟩
theorem cmp_reads (blk size : Nat) (w : World) : CmpReads Try.prog 64 #[] encF cf blk 0 size w := fun m os dk hs x y => (cmp_calls x y _).mono (fun e w' h => ⟨h.1, 0, h.2⟩)
theorem enters64 : ∀ args w, (callFunc 64 args).run Try.prog w = .ok (.enter 64 args) w := enters_of Try.func64 (by kernel_rfl) rfl
set_option maxHeartbeats 1000000 in
theorem stable_calls (blk cap : Nat) (d : Array (Fin 16)) (w : World) (hH : Holds encF w blk 0 d) (h16 : d.size ≤ 16) :
    Calls Try.prog 89 #[.slice (some ⟨blk, 0, none⟩) d.size cap, .int .i64 (d.size : Int), .func (.func 64) #[] #[]] w fun e w' =>
      e = .returned (.tuple #[]) ∧ ∃ n, w' = (putRow encF w blk 0 (Sort.insertionSort (ltOf cf) d 0 d.size)).drewN n := by
  have hi := Any.insertionSortCmpFunc_one insLays encF (fun x => rfl) cf 64 #[] blk 0 cap 0 d.size d w enters64 (cmp_reads blk d.size w) hH (Nat.zero_le _) (Nat.le_refl _) (by omega)
  change Calls Try.prog 104 _ _ _ at hi
  have h20 : ¬ (20 : Int) ≤ (d.size : Int) := by omega
  have h20' : ¬ (20 : Int) < (d.size : Int) := by omega
  clear hH
  go_enter Try.func89, Try.ntmps89
  go_wp2
  refine wp_loop_rounds 1 ?_
  rw [rounds_succ]
  go_wp2_with (go_at_call 104; refine hi.mono ?_; rintro e w' ⟨rfl, n, rfl⟩)
  refine wp_loop_rounds 1 ?_
  rw [rounds_succ]
  go_wp2
  go_end0
  exact ⟨rfl, n, rfl⟩
theorem sortStable_calls (blk cap : Nat) (d : Array (Fin 16)) (w : World) (hH : Holds encF w blk 0 d) (h16 : d.size ≤ 16) :
    Calls Try.prog 63 #[.slice (some ⟨blk, 0, none⟩) d.size cap, .func (.func 64) #[] #[]] w fun e w' =>
      e = .returned (.tuple #[]) ∧ ∃ n, w' = (putRow encF w blk 0 (Sort.insertionSort (ltOf cf) d 0 d.size)).drewN n := by
  have hi := stable_calls blk cap d w hH h16
  clear hH
  go_enter Try.func63, Try.ntmps63
  go_wp2_with (go_at_call 89; refine hi.mono ?_; rintro e w' ⟨rfl, n, rfl⟩)
  go_end0
  exact ⟨rfl, n, rfl⟩
theorem own_putRow {w : World} {base g cap : Nat} {l : List (Fin 16)} (h : w.ownsRow base 3 1 (.slice (some ⟨g, 0, none⟩) l.length cap) l.length (l.map encF)) (d : Array (Fin 16)) (hd : d.size = l.length) :
    (putRow encF w g 0 d).ownsRow base 3 1 (.slice (some ⟨g, 0, none⟩) l.length cap) l.length (d.toList.map encF) := by
  rcases h.2 with ⟨h', _⟩ | ⟨g', cap', cur, h', hb, hg, hnc, hcm, hcs, htake⟩
  · simp at h'
  · simp only [Value.slice.injEq, Option.some.injEq, Addr.mk.injEq, and_true, true_and] at h'
    obtain ⟨rfl, rfl⟩ := h'
    refine ⟨by simp [hd], .inr ⟨g, cap, putCells encF 0 d cur, rfl, hb, ?_, hnc, hcm, by simpa [putCells] using hcs, ?_⟩⟩
    · show (w.heap.modify g (onCells (putCells encF 0 d)))[g]? = _
      rw [Array.getElem?_modify, if_pos rfl, hg]
      rfl
    · apply List.ext_getElem?
      intro k
      rw [List.getElem?_take, List.getElem?_map, Array.getElem?_toList, Array.getElem?_toList]
      simp only [putCells, Array.getElem?_mapIdx]
      by_cases hk : k < l.length
      · rw [if_pos (by omega), Array.getElem?_eq_getElem (show k < cur.size by omega), Array.getElem?_eq_getElem (show k < d.size by omega)]
        simp only [Option.map_some]
        rw [if_pos ⟨Nat.zero_le _, by omega⟩, Nat.sub_zero, getElem!_pos d k (by omega)]
      · rw [if_neg (by omega), Array.getElem?_eq_none (show d.size ≤ k by omega)]
        rfl
theorem below_putRow {w : World} {B g : Nat} (hg : B ≤ g) (d : Array (Fin 16)) (n : Nat) : Below B w ((putRow encF w g 0 d).drewN n) := by
  refine ⟨rfl, rfl, rfl, ?_, fun k hk => ?_⟩
  · show w.heap.size ≤ (w.heap.modify _ _).size
    rw [Array.size_modify]
    exact Nat.le_refl _
  · show (w.heap.modify g _)[k]? = _
    rw [Array.getElem?_modify, if_neg (by omega)]
theorem holds_own {w : World} {base g cap : Nat} {l : List (Fin 16)} (h : w.ownsRow base 3 1 (.slice (some ⟨g, 0, none⟩) l.length cap) l.length (l.map encF)) : Holds encF w g 0 l.toArray := by
  intro j hj
  rw [Nat.zero_add]
  have hj' : j < l.length := by simpa using hj
  refine ⟨?_, h.frozenAt j⟩
  rw [h.cellAt j (by omega), List.getElem?_map, List.getElem?_eq_getElem hj', getElem!_pos _ j hj]
  rfl
end Go.Proofs.Ytlplaidcdocbmaa.Core
end
section
namespace Go.Proofs.Ytlplaidcdocbmaa.Core
open Go.RowKit Go.Shelf Go.Sort Go.Lib
set_option linter.unusedVariables false
set_option linter.unusedSimpArgs false
def all16 (d : Nat) : List (Fin 16) := (List.finRange 16).take (2 ^ d)
def iter (b : Nat) : Nat → Nat → Array (Fin 16) → Array (Fin 16)
  | 0, _, d => d
  | n + 1, i, d => iter b n (i + 1) (insInner (ltOf cf) 0 i d)
theorem insOuter_iter (b : Nat) : ∀ (n i : Nat) (d : Array (Fin 16)), i + n = b → insOuter (ltOf cf) 0 b i d = iter b n i d
  | 0, i, d, h => by rw [insOuter_stop _ _ _ _ _ (by omega)]; rfl
  | n + 1, i, d, h => by rw [insOuter_go _ _ _ _ _ (by omega), insOuter_iter b n (i + 1) _ (by omega)]; rfl
theorem sorted_eq (d : Nat) (hd : d ≤ 4) : ((Sort.insertionSort (ltOf cf) (all16 d).toArray 0 (all16 d).toArray.size).toList.map encF) = (sets d).map encI ∧ (Sort.insertionSort (ltOf cf) (all16 d).toArray 0 (all16 d).toArray.size).size = (all16 d).length
    ∧ (List.range (2 ^ d)).map encI = (all16 d).map encF ∧ (sets d).length = (all16 d).length ∧ (all16 d).length = 2 ^ d := by
  have key : ∀ d : Fin 5, (((iter (all16 d.1).length ((all16 d.1).length - 1) 1 (all16 d.1).toArray).toList.map (fun x => x.1)) = sets d.1 ∧ (iter (all16 d.1).length ((all16 d.1).length - 1) 1 (all16 d.1).toArray).size = (all16 d.1).length) ∧ List.range (2 ^ d.1) = (all16 d.1).map (fun x => x.1)
      ∧ (sets d.1).length = (all16 d.1).length ∧ (all16 d.1).length = 2 ^ d.1 ∧ 1 ≤ (all16 d.1).length := by decide +kernel
  obtain ⟨⟨h1, h2⟩, h3, h4, h5, h6⟩ := key ⟨d, by omega⟩
  dsimp only at h1 h2 h3 h4 h5 h6
  have e : Sort.insertionSort (ltOf cf) (all16 d).toArray 0 (all16 d).toArray.size = iter (all16 d).length ((all16 d).length - 1) 1 (all16 d).toArray := by
    unfold Sort.insertionSort
    exact insOuter_iter _ _ _ _ (by simp; omega)
  rw [e]
  refine ⟨?_, h2, ?_, h4, h5⟩
  · rw [← h1, List.map_map]; rfl
  · rw [h3, List.map_map]; rfl
set_option maxHeartbeats 1000000 in
theorem sets_calls (d : Nat) (hd : d ≤ 4) (w : World) : Calls Try.prog 29 #[.int .i64 (d : Int)] w fun e w' =>
    ∃ v : Value, e = .returned v ∧ w'.ownsRow w.heap.size 3 1 v (sets d).length ((sets d).map encI) ∧ Below w.heap.size w w' := by
  obtain ⟨s1, s2, s3, s4, s5⟩ := sorted_eq d hd
  have hpos : 1 ≤ (all16 d).length := by rw [s5]; exact Nat.one_le_two_pow
  obtain ⟨m, hm⟩ : ∃ m, m = 2 ^ d := ⟨_, rfl⟩
  have hm16 : m ≤ 16 := by rw [hm]; exact pow16 d hd
  have hc := fun W => count_calls d hd W
  rw [← hm] at hc s3 s5
  generalize all16 d = A at *
  have hA : m = A.length := s5.symm
  subst hA
  have S1 := Apart0.mk s1
  have S2 := Apart0.mk s2
  have S3 := Apart0.mk s3
  have S4 := Apart0.mk s4
  clear s1 s2 s3 s4 s5 hm
  go_enter Try.func29, Try.ntmps29
  go_wp2_with fail
  refine (hc _).mono ?_
  rintro e w1 ⟨rfl, he⟩
  rw [he]
  clear hc he
  go_wp2_with fail
  refine (below_calls _ _).mono ?_
  rintro e w1 ⟨rfl, rfl⟩
  go_wp2_with fail
  have hb := Boxed.new w 3 (.int .i64 (A.length : Int))
  have hB1 : Below w.heap.size w (w.alloc (.cells #[.int .i64 (A.length : Int)] 3)) := (Below.refl _ w).alloc (Nat.le_refl _) _
  have hcol := collect_calls (below_emits w.heap.size A.length hm16 _ hb) enters88 (fun k hk => by rw [hk]; simp) (by simpa using hm16)
  have HB := Apart0.mk hB1
  clear hb hB1
  refine hcol.mono ?_
  rintro e w2 ⟨v, rfl, hrow, hnil, hb2⟩
  rw [List.length_range, S3.out] at hrow
  have hw2 := HB.out.trans (hb2.mono HB.out.size)
  rcases hrow.2 with ⟨_, h0⟩ | ⟨g, cap, cur, rfl, hbg, _⟩
  · omega
  have hg : w.heap.size ≤ g := by have := HB.out.size; omega
  have HOW := Apart0.mk hrow
  have hst := sortStable_calls g cap A.toArray w2 (holds_own hrow) (by simpa using hm16)
  rw [List.size_toArray] at hst
  have HW2 := Apart0.mk hw2
  clear hrow hb2 hw2 hnil hbg hcol
  go_wp2_with fail
  refine hst.mono ?_
  rintro e w3 ⟨rfl, n, hw3⟩
  have hr3 : w3.ownsRow w.heap.size 3 1 (.slice (some ⟨g, 0, none⟩) A.length cap) A.length ((sets d).map encI) := by
    have := own_putRow (ownsRow_base HOW.out (base' := w.heap.size) HB.out.size) _ (by rw [← S2.out])
    rw [S1.out] at this
    rw [hw3]
    exact this
  have hb3 : Below w.heap.size w w3 := by rw [hw3]; exact HW2.out.trans (below_putRow hg _ n)
  have hcl := clone_ints hr3 (by omega) (fun u hu => by obtain ⟨x, _, rfl⟩ := List.mem_map.1 hu; rfl)
  have HB3 := Apart0.mk hb3
  clear hr3 hb3 hw3 hst
  go_wp2_with fail
  refine hcl.mono ?_
  rintro e w4 ⟨v4, rfl, hrow4, hb4⟩
  go_wp2_with fail
  go_ret
  refine ⟨v4, rfl, ?_, HB3.out.trans (hb4.mono HB3.out.size)⟩
  rw [S4.out]
  exact ownsRow_base hrow4 HB3.out.size
end Go.Proofs.Ytlplaidcdocbmaa.Core
end
section
namespace Go.Proofs.Ytlplaidcdocbmaa.Core
open Go.RowKit Go.Shelf
attribute [local go_sem] Oper.semAt_some
set_option linter.unusedVariables false
set_option linter.unusedSimpArgs false
theorem bit_test (s i : Nat) (hs : s < 16) (hi : i < 4) : (bits .and .i64 ((s : Int) / 2 ^ i) 1 == 1) = s.testBit i := by
  have h : ∀ s : Fin 16, ∀ i : Fin 4, (bits .and .i64 ((s.1 : Int) / 2 ^ i.1) 1 == 1) = s.1.testBit i.1 := by decide +kernel
  exact h ⟨s, hs⟩ ⟨i, hi⟩
theorem keepBit (i s Bs : Nat) (hi : i < 4) (hs : s < 16) (w : World) (hB : w.cell? ⟨Bs, 0, none⟩ = some (.int .i64 (s : Int))) :
    Calls Try.prog 71 #[.int .i64 (i : Int), .pointer (some ⟨Bs, 0, none⟩)] w fun e w' => e = .returned (.bool (s.testBit i)) ∧ Below w.heap.size w w' := by
  go_enter Try.func71, Try.ntmps71
  go_wp2
  go_ret
  exact ⟨congrArg (fun b => Ending.returned (.bool b)) (bit_test s i hs hi), Below.refl _ _⟩
theorem enters71 : ∀ args w, (callFunc 71 args).run Try.prog w = .ok (.enter 71 args) w := enters_of Try.func71 (by kernel_rfl) rfl
theorem bit_emits (s m Bs Bn Ba Bk : Nat) (hs : s < 16) (hm : m ≤ 4) (w : World) (hBs : w.heap[Bs]? = some (.cells #[.int .i64 (s : Int)] 3 (0, 0))) (hBn : w.heap[Bn]? = some (.cells #[.int .i64 (m : Int)] 3 (0, 0)))
    (hBa : w.heap[Ba]? = some (.cells #[.func (.func 88) #[] #[.pointer (some ⟨Bn, 0, none⟩)]] 64 (0, 0))) (hBk : w.heap[Bk]? = some (.cells #[.func (.func 71) #[] #[.pointer (some ⟨Bs, 0, none⟩)]] 30 (0, 0))) :
    Emits Try.prog (fun k => k = Bn ∨ k = Bs ∨ k = Ba ∨ k = Bk) 91 #[.pointer (some ⟨Ba, 0, none⟩), .pointer (some ⟨Bk, 0, none⟩)] encA ((List.range m).filter fun i => s.testBit i) w := by
  have lt : ∀ {k : Nat} {o : Obj}, w.heap[k]? = some o → k < w.heap.size := fun h => (Array.getElem?_eq_some_iff.1 h).1
  have h0 := below_emits Bn m (by omega) w hBn
  exact kept_emits (fp := fun k => k = Bn) (xs := List.range m) h0 enters88 (fun k hk => by rw [hk]; exact lt hBn) 71 #[.pointer (some ⟨Bs, 0, none⟩)] enters71 (fpk := fun k => k = Bs) (fun k hk => by rw [hk]; exact lt hBs) _
    (fun x hx W hW => keepBit x s Bs (by have := List.mem_range.1 hx; omega) hs W (Boxed.cell (t := 3) ((hW.2 Bs rfl).trans hBs))) Ba Bk hBa hBk
theorem alloc_get (w : World) (o : Obj) (k : Nat) : (w.alloc o).heap[k]? = if k = w.heap.size then some o else w.heap[k]? := by
  show (w.heap.push o)[k]? = _
  rw [Array.getElem?_push]
def prodL (cs : List Int) (is : List Nat) : Int := is.foldl (fun n i => n * cs.getD i 0) 1
theorem prodL_snoc (cs : List Int) (is : List Nat) (i : Nat) : prodL cs (is ++ [i]) = prodL cs is * cs.getD i 0 := by simp [prodL]
theorem prodL_le (cs : List Int) (hc : ∀ x ∈ cs, 0 ≤ x ∧ x ≤ 16) : ∀ is : List Nat, 0 ≤ prodL cs is.reverse ∧ prodL cs is.reverse ≤ 16 ^ is.length
  | [] => by simp [prodL]
  | i :: is => by
    have ih := prodL_le cs hc is
    rw [List.reverse_cons, prodL_snoc, List.length_cons, Int.pow_succ]
    have hx : 0 ≤ cs.getD i 0 ∧ cs.getD i 0 ≤ 16 := by
      by_cases h : i < cs.length
      · have : cs.getD i 0 = cs[i] := by simp [h]
        rw [this]; exact hc _ (List.getElem_mem h)
      · have : cs.getD i 0 = 0 := by simp [h]
        omega
    exact ⟨Int.mul_nonneg ih.1 hx.1, Int.mul_le_mul ih.2 hx.2 hx.1 (Int.le_trans ih.1 ih.2)⟩
theorem prodL_bound (cs : List Int) (hc : ∀ x ∈ cs, 0 ≤ x ∧ x ≤ 16) (is : List Nat) (hi : is.length ≤ 4) : 0 ≤ prodL cs is ∧ prodL cs is ≤ 65536 := by
  have h := prodL_le cs hc is.reverse
  rw [List.reverse_reverse, List.length_reverse] at h
  refine ⟨h.1, Int.le_trans h.2 ?_⟩
  generalize is.length = k at *
  rcases (by omega : k = 0 ∨ k = 1 ∨ k = 2 ∨ k = 3 ∨ k = 4) with rfl | rfl | rfl | rfl | rfl <;> decide
theorem cell_lt {w : World} {a : Addr} {v : Value} (h : w.cell? a = some v) : a.block < w.heap.size := by
  rcases Nat.lt_or_ge a.block w.heap.size with h' | h'
  · exact h'
  · simp [World.cell?, h'] at h
theorem ownFrom_block {β : Type} {B k : Nat} {o : Obj} (h : k < B) : OwnFrom B (fun (_ : β) W => W.heap[k]? = some o) :=
  fun _ X Y row hs hg hr => (hg.block k (Array.getElem?_eq_some_iff.1 hs).1 (fun e => by have := (hr k e.symm).1; omega)).trans hs
set_option maxHeartbeats 2000000 in
theorem size_calls (A : Option Addr) (c : Nat) (cs : List Int) (ms n : Int) (s : Nat) (hs : s < 16) (hl : cs.length ≤ 4) (hc : ∀ x ∈ cs, 0 ≤ x ∧ x ≤ 16) (hn : 0 ≤ n ∧ n ≤ 1000000) (w : World)
    (hcell : ∀ i : Nat, i < cs.length → ∃ ad, A = some ad ∧ w.cell? (ad.add i) = some (.int .i64 (cs.getD i 0))) :
    Calls Try.prog 34 #[.agg #[.slice A cs.length c, .int .i64 ms], .int .i64 n, .int .i64 (s : Int)] w fun e w' =>
      e = .returned (.int .i64 (min (prodL cs ((List.range cs.length).filter fun i => s.testBit i)) n)) ∧ Below w.heap.size w w' := by
  have HC := Apart0.mk hcell
  clear hcell
  refine (callsIn_wide (n := 3)).1 ?_
  refine callsIn_of_wp_marks Try.func34 rfl trivial ?_ rfl
  simp only [Try.ntmps34, List.size_toArray, List.length_cons, List.length_nil, Nat.reduceAdd, Nat.reduceSub, Array.replicate_succ, Array.replicate_zero, List.push_toArray, List.append_toArray, List.nil_append, List.cons_append]
  have hfw : ∀ f, Fence.wide.fn f := fun _ => trivial
  have hdw : Fence.wide.depth.isSome = false := rfl
  gi_wp2_with fail
  refine (callsIn_wide.2 (below_calls _ _)).mono ?_
  rintro e w1 ⟨rfl, rfl⟩
  gi_wp2_with fail
  refine (callsIn_wide.2 (kept_calls _ _ _ _ _)).mono ?_
  rintro e w1 ⟨rfl, rfl⟩
  simp only [World.size_alloc]
  gi_wp2_with fail
  obtain ⟨W0, hW0⟩ : ∃ W0, ((((((w.alloc (.cells #[.slice A cs.length c, .int .i64 ms] 33)).alloc (.cells #[.int .i64 (s : Int)] 3)).alloc (.cells #[.int .i64 1] 3)).alloc (.cells #[.int .i64 (cs.length : Int)] 3)).alloc
      (.cells #[.func (.func 88) #[] #[.pointer (some ⟨w.heap.size + 1 + 1 + 1, 0, none⟩)]] 64)).alloc (.cells #[.func (.func 71) #[] #[.pointer (some ⟨w.heap.size + 1, 0, none⟩)]] 30)) = W0 := ⟨_, rfl⟩
  rw [hW0]
  have hsz : W0.heap.size = w.heap.size + 6 := by rw [← hW0]; simp
  have hB0 : Below w.heap.size w W0 := by
    rw [← hW0]; exact ((((((Below.refl _ w).alloc (Nat.le_refl _) _).alloc (by simp only [World.size_alloc]; omega) _).alloc (by simp only [World.size_alloc]; omega) _).alloc (by simp only [World.size_alloc]; omega) _).alloc (by simp only [World.size_alloc]; omega) _).alloc (by simp only [World.size_alloc]; omega) _
  have b0 : W0.heap[w.heap.size]? = some (.cells #[.slice A cs.length c, .int .i64 ms] 33 (0, 0)) := by rw [← hW0]; simp only [alloc_get, World.size_alloc]; repeat (first | rw [if_pos trivial] | rw [if_pos (by omega)] | rw [if_neg (by omega)])
  have b1 : W0.heap[w.heap.size + 1]? = some (.cells #[.int .i64 (s : Int)] 3 (0, 0)) := by rw [← hW0]; simp only [alloc_get, World.size_alloc]; repeat (first | rw [if_pos trivial] | rw [if_pos (by omega)] | rw [if_neg (by omega)])
  have b2 : W0.heap[w.heap.size + 1 + 1]? = some (.cells #[.int .i64 1] 3 (0, 0)) := by rw [← hW0]; simp only [alloc_get, World.size_alloc]; repeat (first | rw [if_pos trivial] | rw [if_pos (by omega)] | rw [if_neg (by omega)])
  have b3 : W0.heap[w.heap.size + 1 + 1 + 1]? = some (.cells #[.int .i64 (cs.length : Int)] 3 (0, 0)) := by rw [← hW0]; simp only [alloc_get, World.size_alloc]; repeat (first | rw [if_pos trivial] | rw [if_pos (by omega)] | rw [if_neg (by omega)])
  have b4 : W0.heap[w.heap.size + 1 + 1 + 1 + 1]? = some (.cells #[.func (.func 88) #[] #[.pointer (some ⟨w.heap.size + 1 + 1 + 1, 0, none⟩)]] 64 (0, 0)) := by rw [← hW0]; simp only [alloc_get, World.size_alloc]; repeat (first | rw [if_pos trivial] | rw [if_pos (by omega)] | rw [if_neg (by omega)])
  have b5 : W0.heap[w.heap.size + 1 + 1 + 1 + 1 + 1]? = some (.cells #[.func (.func 71) #[] #[.pointer (some ⟨w.heap.size + 1, 0, none⟩)]] 30 (0, 0)) := by rw [← hW0]; simp only [alloc_get, World.size_alloc]; repeat (first | rw [if_pos trivial] | rw [if_pos (by omega)] | rw [if_neg (by omega)])
  clear hW0
  have hem := bit_emits s cs.length _ _ _ _ hs hl W0 b1 b3 b4 b5
  clear b1 b3 b4 b5
  have HP := Apart0.mk hc
  refine wpIn_emits rfl enters91 hem (Same.refl _ _) (fun k hk => by omega) (fun _ => rfl)
    (fun pre W => Boxed W (w.heap.size + 1 + 1) 3 (.int .i64 (prodL cs pre)) ∧ (W.heap[w.heap.size]? = some (.cells #[.slice A cs.length c, .int .i64 ms] 33 (0, 0)) ∧ Below w.heap.size w W)) (fun _ _ _ => False)
    (OwnFrom.and (Own.from (boxed_own _ _ _) _) (OwnFrom.and (ownFrom_block (by omega)) (ownFrom_below (Nat.le_refl _) (by omega))))
    (fun c _ _ _ _ h _ _ => h) ⟨b2, b0, hB0⟩
    (fun x => { tmps := #[.agg #[.slice A cs.length c, .int .i64 ms], .int .i64 n, .int .i64 (s : Int), .pointer (some ⟨w.heap.size, 0, none⟩), undef, .pointer (some ⟨w.heap.size + 1, 0, none⟩), .int .i64 0, .pointer (some ⟨w.heap.size + 1 + 1, 0, none⟩), .int .i64 (x : Int), .pointer (some ⟨w.heap.size, 0, none⟩), .slice A cs.length c, .int .i64 (cs.length : Int),
      .func (.func 88) #[] #[.pointer (some ⟨w.heap.size + 1 + 1 + 1, 0, none⟩)], .func (.func 71) #[] #[.pointer (some ⟨w.heap.size + 1, 0, none⟩)], .func (.func 91) #[] #[.pointer (some ⟨w.heap.size + 1 + 1 + 1 + 1, 0, none⟩), .pointer (some ⟨w.heap.size + 1 + 1 + 1 + 1 + 1, 0, none⟩)], .int .i64 (x : Int), undef, undef, undef, undef, undef, undef, undef, undef, undef, undef], defers := [] })
    ?assign ?body ?done ?stop
  case assign => intro l' m x Wc K hKc; dsimp only [encA]; gi_wp2; exact hKc
  case stop => intro D c pre Wc hD hpre hf hDef; exact hf.elim
  case done =>
    rintro D Wc hD ⟨hv, hb, hB⟩ hDef
    have hcl := hv.cell
    gi_wp2
    refine ⟨by simp, .inl ⟨_, _, rfl, run_takeDeferred hDef, ?_⟩⟩
    exact ⟨_, results_tmp rfl _ _ _, rfl, hB.trans (belowK_b (w := w) (Nat.le_refl _) Wc D _ _ (by omega) hDef rfl rfl)⟩
  case body =>
    rintro l' m pre x W ⟨hv, hb, hB⟩ hpre
    have hx : x < cs.length := by have := hpre.subset (show x ∈ pre ++ [x] by simp); simpa using (List.mem_filter.1 this).1
    have hpl : (pre ++ [x]).length ≤ 4 := by have := hpre.length_le; have := List.length_filter_le (fun i => s.testBit i) (List.range cs.length); simp at *; omega
    obtain ⟨ad, rfl, hca⟩ := HC.out x hx
    have hca' : W.cell? (ad.add x) = some (.int .i64 (cs.getD x 0)) := (hB.cell (cell_lt hca)).trans hca
    have hP := prodL_bound cs hc pre (by simp at hpl; omega)
    have hP2 := prodL_bound cs hc (pre ++ [x]) hpl
    rw [prodL_snoc] at hP2
    have hcell := hv.cell
    have hfr := hv.frozen
    have hcb : W.cell? ⟨w.heap.size, 0, none⟩ = some (.slice (some ad) cs.length c) := by simp [World.cell?, hb]
    have HS := Apart0.mk (prodL_snoc cs pre x)
    have HV := Apart0.mk hv
    have HBb := Apart0.mk hb
    generalize prodL cs pre = P at *
    generalize hC : cs.getD x 0 = C at *
    have HWR := Apart0.mk (show IntKind.i64.wrap (P * C) = P * C by rw [IntKind.wrap_i64]; omega)
    have hlt := hv.lt
    have hxl : (x : Int) < (cs.length : Int) := by omega
    clear hca hC hv hb hP2 hc hpre
    gi_wp2
    have mixed : Try.prog.follows .mixedOrders = true := by kernel_rfl
    gi_region_with_o (fail)
    all_goals
      gi_wp2
      rw [HWR.out]
      have hg := grownBy_setCell' W (w.heap.size + 1 + 1) (.int .i64 (P * C))
      have hbw : Below w.heap.size W ((W.setCell ⟨w.heap.size + 1 + 1, 0, none⟩ (.int .i64 (P * C))).drew) := ((Below.refl _ W).setCell (by show w.heap.size ≤ w.heap.size + 1 + 1; omega) _).drew
      refine ⟨Keeps.grown (W' := W.setCell ⟨w.heap.size + 1 + 1, 0, none⟩ (.int .i64 (P * C))) hg (fun j e => by cases e; left; omega), ⟨hg.size, fun k hk => Below.heap_setCell W _ _ k (by show k ≠ w.heap.size + 1 + 1; omega)⟩, ?_, ?_, hB.trans hbw⟩
      · rw [HS.out]; exact HV.out.set _
      · exact (Below.heap_setCell W _ _ _ (by simp; omega)).trans HBb.out
end Go.Proofs.Ytlplaidcdocbmaa.Core
end
section
namespace Go.Proofs.Ytlplaidcdocbmaa.Core
open Go.RowKit Go.Shelf Go.Proofs.YtlplaidcdocbmaaW.PrintWords
set_option linter.unusedVariables false
set_option linter.unusedSimpArgs false
def ofN (l : List Nat) : List Int := l.map fun (n : Nat) => (n : Int)
def sizeI (cs : List Int) (n s : Int) : Int := min (prodL cs ((List.range cs.length).filter fun i => s.toNat.testBit i)) n
def okCards (cs : List Int) : Bool := decide (cs.length ≤ 4) && cs.all fun x => decide (0 ≤ x) && decide (x ≤ 16)
theorem okCards_len {cs : List Int} (h : okCards cs = true) : cs.length ≤ 4 := by
  unfold okCards at h; rw [Bool.and_eq_true, decide_eq_true_eq] at h; exact h.1
theorem okCards_all {cs : List Int} (h : okCards cs = true) : ∀ x ∈ cs, 0 ≤ x ∧ x ≤ 16 := by
  unfold okCards at h; rw [Bool.and_eq_true, List.all_eq_true] at h
  intro x hx
  have := h.2 x hx
  simpa using this
theorem okCards_of {cs : List Int} (h1 : cs.length ≤ 4) (h2 : ∀ x ∈ cs, 0 ≤ x ∧ x ≤ 16) : okCards cs = true := by
  unfold okCards; rw [Bool.and_eq_true, decide_eq_true_eq, List.all_eq_true]
  exact ⟨h1, fun x hx => by simpa using h2 x hx⟩
theorem cell_int {w : World} {A : Option Addr} {l : List Int} (hr : Kd.C (Kd.int .i64) w A l.length l) (k : Nat) (hk : k < l.length) :
    ∃ ad, A = some ad ∧ w.cell? (ad.add k) = some (.int .i64 (l.getD k 0)) := by
  obtain ⟨ad, c, e, hc, hK, hcell⟩ := Kd.C_get hr (0 : Int) (k : Int) (by omega) (by omega)
  refine ⟨ad, e, ?_⟩
  have hc1 : c = [.int .i64 (l.getD k 0)] := by
    have := hK
    simpa [Kd.int, Kd.scalar, rd] using this
  have h := hcell 0 _ (by rw [hc1]; rfl)
  simpa [Kd.int, Kd.scalar] using h
end Go.Proofs.Ytlplaidcdocbmaa.Core
end
section
namespace Go.Proofs.Ytlplaidcdocbmaa.Core
open Go.RowKit Go.Proofs.YtlplaidcdocbmaaW.PrintWords
set_option linter.unusedVariables false
set_option linter.unusedSimpArgs false
theorem tab_len : ∀ k : Nat, k < 256 → (Lib.len8tab[k]?.map (·.toNat)) = some (Lib.bitLen k) := by decide +kernel
theorem tab_get (k : Nat) (h : k < 256) (hs : k < Lib.len8tab.size) : (Lib.len8tab[k]).toNat = Lib.bitLen k := by
  have e := tab_len k h
  rw [getElem?_pos _ k hs] at e
  exact Option.some.inj e
theorem bit8 : ∀ k : Nat, k < 256 → Lib.bitLen k ≤ 8 := by decide +kernel
theorem ret_i {a b : Int} (h : a = b) : Ending.returned (.int .i64 a) = .returned (.int .i64 b) := by rw [h]
theorem w2 (k : Nat) (h : k ≤ 300) : wrap64 (wrap64 (k : Int)) = (k : Int) := by unfold wrap64; omega
theorem tab_size : Lib.len8tab.size = 256 := by decide +kernel
theorem valA (x : Int) (h0 : 0 ≤ x) (h1 : x < 256) (hs : x.toNat < Lib.len8tab.size) : wrap64 (wrap64 ((Lib.len8tab[x.toNat]'hs).toNat : Int)) = (Lib.bitLen x.toNat : Int) := by
  have e := tab_get x.toNat (by omega) hs
  have b := bit8 x.toNat (by omega)
  generalize (Lib.len8tab[x.toNat]'hs).toNat = a at *
  rw [e]
  exact w2 _ (by omega)
theorem valB (y : Int) (h0 : 0 ≤ y) (h1 : y < 256) (hs : y.toNat < Lib.len8tab.size) : wrap64 (8 + wrap64 ((Lib.len8tab[y.toNat]'hs).toNat : Int)) = 8 + (Lib.bitLen y.toNat : Int) := by
  have e := tab_get y.toNat (by omega) hs
  have b := bit8 y.toNat (by omega)
  generalize (Lib.len8tab[y.toNat]'hs).toNat = a at *
  rw [e]
  unfold wrap64
  omega
theorem lenA (x : Int) (w : World) (h0 : 0 ≤ x) (h1 : x < 256) :
    Calls Try.prog 99 #[.int .u64 x] w fun e w' => e = .returned (.int .i64 (Lib.bitLen x.toNat)) ∧ w' = w := by
  have b1 : ¬ (4294967296 : Int) ≤ x := by omega
  have b2 : ¬ (65536 : Int) ≤ x := by omega
  have b3 : ¬ (256 : Int) ≤ x := by omega
  have hs : 0 ≤ x ∧ x < (Lib.len8tab.size : Int) := by rw [tab_size]; omega
  have HV := Apart0.mk (fun h => valA x h0 h1 h)
  go_enter Try.func99, Try.ntmps99
  go_wp2
  go_ret
  exact ⟨ret_i (HV.out _), rfl⟩
theorem lenB (x : Int) (w : World) (h0 : 256 ≤ x) (h1 : x < 65536) :
    Calls Try.prog 99 #[.int .u64 x] w fun e w' => e = .returned (.int .i64 (8 + Lib.bitLen (x / 256).toNat)) ∧ w' = w := by
  have b1 : ¬ (4294967296 : Int) ≤ x := by omega
  have b2 : ¬ (65536 : Int) ≤ x := by omega
  have b3 : (256 : Int) ≤ x := by omega
  have hs : 0 ≤ x / 256 ∧ x / 256 < (Lib.len8tab.size : Int) := by rw [tab_size]; omega
  have hv := fun h => valB (x / 256) (by omega) (by omega) h
  have HV := Apart0.mk hv
  clear hv
  go_enter Try.func99, Try.ntmps99
  go_wp2
  go_ret
  exact ⟨ret_i (HV.out _), rfl⟩
def lenI (x : Int) : Int := if x < 256 then (Lib.bitLen x.toNat : Int) else 8 + (Lib.bitLen (x / 256).toNat : Int)
theorem len_K (x : Int) (h0 : 0 ≤ x) (h1 : x < 65536) (w : World) : Calls Try.prog 79 #[.int .u64 x] w fun e w' => e = .returned (.int .i64 (lenI x)) ∧ Drawn0 w w' := by
  have hc : Calls Try.prog 99 #[.int .u64 x] w fun e w' => e = .returned (.int .i64 (lenI x)) ∧ w' = w := by
    unfold lenI
    by_cases h : x < 256
    · rw [if_pos h]; exact lenA x w h0 h
    · rw [if_neg h]; exact lenB x w (by omega) h1
  generalize lenI x = y at *
  go_enter Try.func79, Try.ntmps79
  go_wp2_with (go_at_call 99; refine hc.mono ?_; rintro e w' ⟨rfl, rfl⟩)
  go_ret
  exact ⟨rfl, Drawn0.refl _⟩
end Go.Proofs.Ytlplaidcdocbmaa.Core
end
section
namespace Go.Proofs.Ytlplaidcdocbmaa.Core
open Go.RowKit Go.Proofs.YtlplaidcdocbmaaW.PrintWords Go.Proofs.YtlplaidcdocbmaaW.PrintMore
set_option linter.unusedVariables false
set_option linter.unusedSimpArgs false
theorem prodL_pos (cs : List Int) (hc : ∀ x ∈ cs, 1 ≤ x) : ∀ is : List Nat, (∀ i ∈ is, i < cs.length) → 1 ≤ prodL cs is.reverse
  | [], _ => by simp [prodL]
  | i :: is, h => by
    have ih := prodL_pos cs hc is (fun j hj => h j (List.mem_cons_of_mem _ hj))
    rw [List.reverse_cons, prodL_snoc]
    have hi := h i List.mem_cons_self
    have hx : 1 ≤ cs.getD i 0 := by
      have e : cs.getD i 0 = cs[i] := by simp [hi]
      rw [e]; exact hc _ (List.getElem_mem hi)
    calc (1 : Int) = 1 * 1 := by omega
      _ ≤ prodL cs is.reverse * cs.getD i 0 := Int.mul_le_mul ih hx (by omega) (by omega)
def ones (cs : List Int) (s : Int) : List Nat := (List.range cs.length).filter fun i => s.toNat.testBit i
theorem prodS_pos (cs : List Int) (hc : ∀ x ∈ cs, 1 ≤ x) (s : Int) : 1 ≤ prodL cs (ones cs s) := by
  have h := prodL_pos cs hc (ones cs s).reverse (fun i hi => by
    rw [List.mem_reverse] at hi
    exact List.mem_range.1 (List.mem_filter.1 hi).1)
  rwa [List.reverse_reverse] at h
theorem sizeI_eq (cs : List Int) (n s : Int) : sizeI cs n s = min (prodL cs (ones cs s)) n := rfl
theorem sizeI_bd (cs : List Int) (hc : ∀ x ∈ cs, 1 ≤ x) (n s : Int) (hn : 0 ≤ n) : 0 ≤ sizeI cs n s ∧ sizeI cs n s ≤ n ∧ (1 ≤ n → 1 ≤ sizeI cs n s) := by
  have h := prodS_pos cs hc s
  rw [sizeI_eq]
  omega
def sortI (z : Int) : Int := z + z * lenI z
theorem sortN : ∀ z : Nat, z < 301 → sortI z ≤ 10 * (z : Int) ∧ (z ≠ 0 → Int.tmod (sortI z) z = 0 ∧ 2 ≤ Int.tdiv (sortI z) z ∧ (z : Int) < sortI z) ∧ 0 ≤ lenI z ∧ lenI z ≤ 9 ∧ (z : Int) ≤ sortI z := by decide +kernel
theorem sort_bd {z : Int} (h0 : 0 ≤ z) (h : z ≤ 300) : 0 ≤ lenI z ∧ lenI z ≤ 9 ∧ z ≤ sortI z ∧ sortI z ≤ 10 * z := by
  obtain ⟨k, rfl⟩ := Int.eq_ofNat_of_zero_le h0
  have := sortN k (by omega)
  exact ⟨this.2.2.1, this.2.2.2.1, this.2.2.2.2, this.1⟩
theorem u64_small {z : Int} (h0 : 0 ≤ z) (h : z ≤ 65535) : IntKind.u64.wrap (mx z 0) = z := by
  have e : mx z 0 = z := by unfold mx; omega
  rw [e]
  show z % 18446744073709551616 = z
  omega
theorem bit_fin : ∀ s : Nat, s < 16 → ∀ i : Nat, i < 4 → 0 ≤ IntKind.u64.wrap (i : Int) ∧ decide (Go.bits .and .i64 (shr .i64 (s : Int) (IntKind.u64.wrap (i : Int))) 1 = 1) = s.testBit i := by decide +kernel
theorem next_fin (i : Nat) (h : i ≤ 1000) : wrap64 ((i : Int) + 1) = ((i + 1 : Nat) : Int) := by unfold wrap64; omega
theorem rdn (xs : List Int) (k : Nat) : rd xs (k : Int) = xs.getD k 0 := by simp [rd]
theorem mn_eq (a b : Int) : mn a b = min a b := by unfold mn; omega
theorem w64 (x : Int) (h0 : -9223372036854775808 ≤ x) (h : x ≤ 9223372036854775807) : wrap64 x = x := by unfold wrap64; omega
def upTo (cs : List Int) (s i : Nat) : Int := prodL cs ((List.range i).filter fun j => s.testBit j)
theorem upTo_yes (cs : List Int) (s i : Nat) (h : s.testBit i = true) : upTo cs s (i + 1) = upTo cs s i * cs.getD i 0 := by
  unfold upTo
  rw [List.range_succ, List.filter_append, show [i].filter (fun j => s.testBit j) = [i] by simp [h], prodL_snoc]
theorem upTo_no (cs : List Int) (s i : Nat) (h : s.testBit i = false) : upTo cs s (i + 1) = upTo cs s i := by
  unfold upTo
  rw [List.range_succ, List.filter_append, show [i].filter (fun j => s.testBit j) = [] by simp [h], List.append_nil]
theorem upTo_bd (cs : List Int) (s i : Nat) (hok : okCards cs = true) (hi : i ≤ 4) : 0 ≤ upTo cs s i ∧ upTo cs s i ≤ 65536 :=
  prodL_bound cs (okCards_all hok) _ (by have := List.length_filter_le (fun j => s.testBit j) (List.range i); simp at this; omega)
theorem upTo_end (cs : List Int) (s : Nat) (n : Int) : min (upTo cs s cs.length) n = sizeI cs n s := rfl
end Go.Proofs.Ytlplaidcdocbmaa.Core
end
section
namespace Go.Proofs.Ytlplaidcdocbmaa.Core
open Go.RowKit Go.Shelf
attribute [local go_sem] Oper.semAt_some
set_option linter.unusedVariables false
set_option linter.unusedSimpArgs false
end Go.Proofs.Ytlplaidcdocbmaa.Core
end
section
namespace Go.Proofs.Ytlplaidcdocbmaa.Core
open Go.RowKit Go.Shelf Go.Sort
attribute [local go_sem] Oper.semAt_some
set_option linter.unusedVariables false
set_option linter.unusedSimpArgs false
def leastL (f : Nat → Int) : List Nat → Nat
  | [] => 0
  | x :: r => r.foldl (fun b y => if f y < f b then y else b) x
theorem leastL_one (f : Nat → Int) (x : Nat) : leastL f ([] ++ [x]) = x := rfl
theorem leastL_snoc (f : Nat → Int) (xs : List Nat) (y : Nat) (h : xs ≠ []) : leastL f (xs ++ [y]) = if f y < f (leastL f xs) then y else leastL f xs := by
  cases xs with
  | nil => exact absurd rfl h
  | cons x r =>
    show List.foldl _ x (r ++ [y]) = _
    rw [List.foldl_append]
    rfl
theorem leastL_mem (f : Nat → Int) (xs : List Nat) (h : xs ≠ []) : leastL f xs ∈ xs := by
  cases xs with
  | nil => exact absurd rfl h
  | cons x r =>
    have key : ∀ (l : List Nat) (b : Nat), l.foldl (fun b y => if f y < f b then y else b) b ∈ b :: l := by
      intro l
      induction l with
      | nil => intro b; simp
      | cons y l ih =>
        intro b
        rw [List.foldl_cons]
        have := ih (if f y < f b then y else b)
        by_cases hc : f y < f b
        · rw [if_pos hc] at this ⊢; exact List.mem_cons_of_mem _ this
        · rw [if_neg hc] at this ⊢
          rcases List.mem_cons.1 this with h | h
          · rw [h]; exact List.mem_cons_self
          · exact List.mem_cons_of_mem _ (List.mem_cons_of_mem _ h)
    exact key r x
end Go.Proofs.Ytlplaidcdocbmaa.Core
end
