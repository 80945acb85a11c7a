-- Cut by pack.py, a program of this session; not trusted: Lean checks it.
import Derived.RangeFuncNested
import Derived.RangeFuncBound
import Derived.RangeFuncCalls
import Derived.RangeFuncLeaves
/- A range over a function value that hands out a known list: one law, my own, over the kit's law of the statement. -/
namespace Go.Proofs.Ytlplaidcdocbmaa.Core
open Go Go.RowKit
set_option linter.unusedVariables false
set_option linter.unusedSimpArgs false

/-- A fact that the walk does not look behind. -/
structure Apart0 (p : Prop) : Prop where mk :: (out : p)
/-- The blocks of fp lie as they lay. -/
def Same (fp : Nat → Prop) (W W' : World) : Prop := W.heap.size ≤ W'.heap.size ∧ ∀ k, fp k → W'.heap[k]? = W.heap[k]?
theorem Same.refl (fp : Nat → Prop) (W : World) : Same fp W W := ⟨Nat.le_refl _, fun _ _ => rfl⟩
theorem Same.trans {fp : Nat → Prop} {A B C : World} (h : Same fp A B) (k : Same fp B C) : Same fp A C := ⟨Nat.le_trans h.1 k.1, fun i hi => (k.2 i hi).trans (h.2 i hi)⟩
theorem Same.less {fp fp' : Nat → Prop} {A B : World} (h : Same fp A B) (hf : ∀ k, fp' k → fp k) : Same fp' A B := ⟨h.1, fun k hk => h.2 k (hf k hk)⟩
theorem Same.below {fp : Nat → Prop} {A B : World} {n : Nat} (h : Below n A B) (hf : ∀ k, fp k → k < n) : Same fp A B := ⟨h.size, fun k hk => h.block k (hf k hk)⟩
theorem Same.putObj {fp : Nat → Prop} {A : World} {r : Nat} (o : Obj) (hf : ¬ fp r) : Same fp A (A.putObj r o) := ⟨by simp, fun k hk => World.putObj_heap_other (fun e => hf (e ▸ hk))⟩
theorem Same.grown {fp : Nat → Prop} {A B : World} {row : Option Nat} (h : A.grownBy B row) (hf : ∀ k, fp k → k < A.heap.size ∧ some k ≠ row) : Same fp A B := ⟨h.size, fun k hk => h.block k (hf k hk).1 (hf k hk).2⟩

/-- What no round of a caller's may turn: whatever is no cells, and what is a cell of a function type (30). -/
def Obj30 : Obj → Bool
  | .cells _ t _ => t == 30
  | _ => true
/-- Of what lay at B or beyond, whatever no round may turn lies as it lay. -/
def Keeps (B : Nat) (W W' : World) : Prop := W.heap.size ≤ W'.heap.size ∧ ∀ (k : Nat) (o : Obj), B ≤ k → W.heap[k]? = some o → Obj30 o = true → W'.heap[k]? = some o
theorem Keeps.refl (B : Nat) (W : World) : Keeps B W W := ⟨Nat.le_refl _, fun _ _ _ h _ => h⟩
theorem Keeps.trans {B : Nat} {X Y Z : World} (h : Keeps B X Y) (k : Keeps B Y Z) : Keeps B X Z := ⟨Nat.le_trans h.1 k.1, fun i o hB hi ho => k.2 i o hB (h.2 i o hB hi ho) ho⟩
theorem Keeps.mono {B B' : Nat} {W W' : World} (h : Keeps B W W') (hB : B ≤ B') : Keeps B' W W' := ⟨h.1, fun k o hk => h.2 k o (by omega)⟩
theorem Keeps.putObj {B l : Nat} (W : World) (o : Obj) (h : l < B) : Keeps B W (W.putObj l o) := ⟨by simp, fun k o' hk ho _ => (World.putObj_heap_other (by omega)).trans ho⟩
theorem Keeps.below {W W' : World} (B : Nat) (h : Below W.heap.size W W') : Keeps B W W' := ⟨h.size, fun k o _ hk _ => (h.block k (Array.getElem?_eq_some_iff.1 hk).1).trans hk⟩
theorem Keeps.grown {B : Nat} {W W' : World} {row : Option Nat} (hg : W.grownBy W' row) (hrow : ∀ j, row = some j → j < B ∨ ∃ o, W.heap[j]? = some o ∧ Obj30 o = false) : Keeps B W W' :=
  ⟨hg.size, fun k o hB hk ho => (hg.block k (Array.getElem?_eq_some_iff.1 hk).1 (fun e => by
    rcases hrow k e.symm with h | ⟨o', h1, h2⟩
    · omega
    · rw [h1] at hk; cases hk; rw [h2] at ho; cases ho)).trans hk⟩

/-- The iterator's value, made in w, hands out xs one by one; it reads the blocks of fp alone, and turns none but those that are no cells and that it has laid itself. -/
def Emits {α : Type} (P : Program) (fp : Nat → Prop) (g : Nat) (lb : Array Value) (encs : α → Array Value) (xs : List α) (w : World) : Prop :=
  ∀ (n l : Nat) (J Jx : List α → World → Prop) (W : World), Same fp w W → OwnFrom W.heap.size J → OwnFrom W.heap.size Jx →
    (∀ (m : Nat) pre x W1, J pre W1 → pre ++ [x] <+: xs → YieldAt Fence.wide m P l (encs x) W1 fun e W' =>
      Keeps W.heap.size W1 W' ∧ ((e = .returned (.bool true) ∧ J (pre ++ [x]) W' ∧ Same fp W1 W') ∨ (e = .returned (.bool false) ∧ Jx (pre ++ [x]) W'))) →
    J [] W →
    CallsIn Fence.wide n P g (#[.func (.yield l) #[] #[]] ++ lb) W fun e W' => (∃ v, e = .returned v) ∧ (J xs W' ∨ ∃ pre, pre <+: xs ∧ Jx pre W')

theorem Emits.later {α : Type} {P : Program} {fp : Nat → Prop} {g : Nat} {lb : Array Value} {encs : α → Array Value} {xs : List α} {w w' : World}
    (h : Emits P fp g lb encs xs w) (hs : Same fp w w') : Emits P fp g lb encs xs w' := fun n l J Jx W hW => h n l J Jx W (hs.trans hW)

/-- How a round's body may be left. -/
def leftAt {α : Type} (B : Nat) (fp : Nat → Prop) (I : List α → World → Prop) (Ix : Code → List α → World → Prop) (xs : List α) (W : World) : Exit → Act → World → Prop
  | .normal, _, W' => Keeps B W W' ∧ Same fp W W' ∧ I xs W'
  | .ret, _, W' => Keeps B W W' ∧ Ix .ret xs W'
  | .exit id, _, W' => Keeps B W W' ∧ Ix (.exit id) xs W'
  | .goto t, _, W' => Keeps B W W' ∧ Ix (.goto t) xs W'
  | .panic _, _, _ => False
  | .outgrown, _, _ => False

theorem wpIn_emits {α : Type} {P : Program} {n : Nat} {g : Operand} {ps : Array Tmp} {assign body : Code} {Q : Exit → Act → World → Prop} {a : Act} {w : World}
    {gf : Nat} {lb : Array Value} (hg : a.eval g = .func (.func gf) #[] lb) (eg : ∀ args w, (callFunc gf args).run P w = .ok (.enter gf args) w)
    {encs : α → Array Value} {fp : Nat → Prop} {xs : List α} {w0 : World} (hem : Emits P fp gf lb encs xs w0) (h0w : Same fp w0 w) (hfp : ∀ k, fp k → k < w.heap.size) (hps : ∀ x, (encs x).size = ps.size)
    (I : List α → World → Prop) (Ix : Code → List α → World → Prop) (hI : OwnFrom w.heap.size I) (hIx : ∀ c, OwnFrom w.heap.size (Ix c)) (h0 : I [] w) (a₁ : α → Act)
    (hassign : ∀ (l m : Nat) (x : α) (W : World) (K : Act → World → Prop), K (a₁ x) W →
      assign.wpIn (Fence.wide.inRound l) m P (Exit.then K (fun _ _ _ => False)) { tmps := (ps.zip (encs x)).foldl (fun t (p, v) => t.setIfInBounds p v) a.tmps, defers := [] } W)
    (hbody : ∀ (l m : Nat) (pre : List α) (x : α) (W : World), I pre W → pre ++ [x] <+: xs → body.wpIn (Fence.wide.inRound l) m P (leftAt w.heap.size fp I Ix (pre ++ [x]) W) (a₁ x) W)
    (hdone : ∀ (D : Nat) (W : World), w.heap.size ≤ D → I xs W → W.heap[D]? = some (.deferred (some [])) → Q .normal { a with defers := { target := .collected D, args := #[] } :: a.defers } W)
    (hstop : ∀ (D : Nat) (c : Code) (pre : List α) (W : World), w.heap.size ≤ D → pre <+: xs → Ix c pre W → W.heap[D]? = some (.deferred (some [])) → c.wpIn Fence.wide n P Q { a with defers := { target := .collected D, args := #[] } :: a.defers } W) :
    (Code.rangeFunc g ps assign body).wpIn Fence.wide n P Q a w := by
  refine wpIn_rangeFunc fun fn hfn => ?_
  rw [show Fence.wide.round = none from rfl]
  -- the record, by its state and its pending jump
  obtain ⟨rec, hrec⟩ : ∃ rec : LoopState → Option Code → Loop, rec = fun st pe => { state := st, pending := pe, fn, tmps := a.tmps, params := ps, assign, body, defers := w.heap.size } := ⟨_, rfl⟩
  obtain ⟨D, hD⟩ : ∃ D, D = w.heap.size := ⟨_, rfl⟩
  obtain ⟨W1, hW1⟩ : ∃ W1, (w.alloc (.deferred (some []))).alloc (.loop (rec .ready none)) = W1 := ⟨_, rfl⟩
  have hsz : W1.heap.size = D + 2 := by rw [← hW1, hD]; simp
  have hL1 : W1.heap[D + 1]? = some (.loop (rec .ready none)) := by
    have := World.alloc_heap_new (w.alloc (.deferred (some []))) (.loop (rec .ready none))
    rw [← hW1, hD]; rwa [World.size_alloc] at this
  have hK1 : W1.heap[D]? = some (.deferred (some [])) := by
    rw [← hW1, hD]; exact (Below.heap_alloc _ _ _ (by simp)).trans (World.alloc_heap_new w _)
  have hI1 : I [] W1 := by rw [← hW1]; exact hI.alloc _ (hI.alloc _ h0)
  have hS1 : Same fp w0 W1 := h0w.trans (by
    rw [← hW1]; exact ⟨by simp; omega, fun k hk => (Below.heap_alloc _ _ k (by have := hfp k hk; simp; omega)).trans (Below.heap_alloc _ _ k (hfp k hk))⟩)
  have nfp : ∀ k, D ≤ k → ¬ fp k := fun k hk hf => by have := hfp k hf; omega
  rw [← hD] at hI hIx hbody hdone hstop
  -- a block of the law's own lies on while the iterator steps
  have lies : ∀ {A B : World} {row : Option Nat} {k : Nat} {o : Obj}, k < D + 2 → A.grownBy B row → (∀ r, row = some r → W1.heap.size ≤ r ∧ ∃ o : Obj, A.heap[r]? = some o ∧ o.isCells = false) → A.heap[k]? = some o → B.heap[k]? = some o :=
    fun hk hg hr ho => (hg.block _ (Array.getElem?_eq_some_iff.1 ho).1 (fun e => by have := (hr _ e.symm).1; omega)).trans ho
  have less : ∀ {A : World} {row : Option Nat}, (∀ r, row = some r → W1.heap.size ≤ r ∧ ∃ o : Obj, A.heap[r]? = some o ∧ o.isCells = false) → (∀ r, row = some r → D ≤ r ∧ ∃ o : Obj, A.heap[r]? = some o ∧ o.isCells = false) :=
    fun hr r e => ⟨by have := (hr r e).1; omega, (hr r e).2⟩
  refine ⟨D + 1, [{ target := .collected D, args := #[] }], W1, { target := .fn (.func gf) lb, args := #[.func (.yield (D + 1)) #[] #[]] }, W1, gf,
    #[.func (.yield (D + 1)) #[] #[]] ++ lb, W1, ?_, ?_, fun _ _ => trivial, ?_, (fun h => by cases h), ?_⟩
  · rw [← hW1, hrec, hD]; exact run_enterLoop_outer _ _ _ _ _
  · simp only [resolve, hg]
    simp [go_sem]
  · simp [invoke, go_sem, eg]
  refine (hem (n - 1) (D + 1)
    (fun pre W => I pre W ∧ W.heap[D + 1]? = some (.loop (rec .ready none)) ∧ W.heap[D]? = some (.deferred (some [])))
    (fun pre W => ∃ c, Ix c pre W ∧ W.heap[D + 1]? = some (.loop (rec .done (some c))) ∧ W.heap[D]? = some (.deferred (some [])))
    W1 hS1 (fun s A B row hs hg' hr => ⟨hI s A B row hs.1 hg' (less hr), lies (by omega) hg' hr hs.2.1, lies (by omega) hg' hr hs.2.2⟩)
    (fun s A B row ⟨c, hc, hl, hk⟩ hg' hr => ⟨c, hIx c s A B row hc hg' (less hr), lies (by omega) hg' hr hl, lies (by omega) hg' hr hk⟩)
    ?_ ⟨hI1, hL1, hK1⟩).mono ?_
  · rintro m pre x W ⟨hi, hl, hk⟩ hpre
    have hlt : D + 1 < W.heap.size := (Array.getElem?_eq_some_iff.1 hl).1
    have hy := run_yield (P := P) (args := encs x) hl (by rw [hrec]; exact hps x)
    rw [hrec] at hy
    refine ⟨fn, _, assign, body, hy, roundIn_of_wpIn trivial (hassign _ m x W _ ⟨_, run_beginRound hl (by rw [hrec]), ?_⟩)⟩
    clear hy
    obtain ⟨W2, hW2⟩ : ∃ W2, W.putObj (D + 1) (.loop { rec .ready none with state := .busy }) = W2 := ⟨_, rfl⟩
    have hl2 : W2.heap[D + 1]? = some (.loop { rec .ready none with state := .busy }) := by rw [← hW2]; exact World.putObj_heap_same hlt
    have hk2 : W2.heap[D]? = some (.deferred (some [])) := by rw [← hW2]; exact (World.putObj_heap_other (by omega)).trans hk
    have hi2 : I pre W2 := by rw [← hW2]; exact hI.putObj _ hi (by omega) hl rfl
    have hkf2 : Keeps (D + 2) W W2 := by rw [← hW2]; exact Keeps.putObj W _ (by omega)
    have hs2 : Same fp W W2 := by rw [← hW2]; exact Same.putObj _ (nfp _ (by omega))
    rw [hW2]
    refine wpIn_mono (hbody _ m pre x W2 hi2 hpre) ?_
    -- the round's end
    have fin : ∀ (jump : Option Code) (W3 : World), Keeps D W2 W3 → ∃ W4, Keeps W1.heap.size W W4 ∧ (Instr.endRound (D + 1) jump).run P W3 = .ok (.bool jump.isNone) W4 ∧
        W4 = W3.putObj (D + 1) (.loop (rec (if jump.isNone then .ready else .done) jump)) ∧ (∃ o, W3.heap[D + 1]? = some (.loop o)) ∧
        W4.heap[D + 1]? = some (.loop (rec (if jump.isNone then .ready else .done) jump)) ∧ W4.heap[D]? = some (.deferred (some [])) := fun jump W3 hkf => by
      have hl3 := hkf.2 _ _ (by omega) hl2 rfl
      have hend := run_endRound (P := P) jump hl3
      refine ⟨W3.putObj (D + 1) (.loop (rec (if jump.isNone then .ready else .done) jump)), by rw [hsz]; exact (hkf2.trans (hkf.mono (by omega))).trans (Keeps.putObj _ _ (by omega)), ?_, rfl, ⟨_, hl3⟩, World.putObj_heap_same (Array.getElem?_eq_some_iff.1 hl3).1, (World.putObj_heap_other (by omega)).trans (hkf.2 _ _ (Nat.le_refl _) hk2 rfl)⟩
      rw [hrec] at hend ⊢
      exact hend
    rintro e a3 W3 hp
    cases e with
    | normal =>
      obtain ⟨hk3, hs3, hi3⟩ := hp
      obtain ⟨W4, hkw, hr, e4, ⟨o, ho⟩, hl4, hk4⟩ := fin none W3 hk3
      exact ⟨_, _, hr, hkw, .inl ⟨rfl, ⟨by rw [e4]; exact hI.putObj _ hi3 (by omega) ho rfl, hl4, hk4⟩, (hs2.trans hs3).trans (by rw [e4]; exact Same.putObj _ (nfp _ (by omega)))⟩⟩
    | ret =>
      obtain ⟨hk3, hi3⟩ := hp
      obtain ⟨W4, hkw, hr, e4, ⟨o, ho⟩, hl4, hk4⟩ := fin (some .ret) W3 hk3
      exact ⟨_, _, hr, hkw, .inr ⟨rfl, .ret, by rw [e4]; exact (hIx _).putObj _ hi3 (by omega) ho rfl, hl4, hk4⟩⟩
    | exit id =>
      obtain ⟨hk3, hi3⟩ := hp
      obtain ⟨W4, hkw, hr, e4, ⟨o, ho⟩, hl4, hk4⟩ := fin (some (.exit id)) W3 hk3
      exact ⟨_, _, hr, hkw, .inr ⟨rfl, .exit id, by rw [e4]; exact (hIx _).putObj _ hi3 (by omega) ho rfl, hl4, hk4⟩⟩
    | goto t =>
      obtain ⟨hk3, hi3⟩ := hp
      obtain ⟨W4, hkw, hr, e4, ⟨o, ho⟩, hl4, hk4⟩ := fin (some (.goto t)) W3 hk3
      exact ⟨_, _, hr, hkw, .inr ⟨rfl, .goto t, by rw [e4]; exact (hIx _).putObj _ hi3 (by omega) ho rfl, hl4, hk4⟩⟩
    | panic ch => exact hp.elim
    | outgrown => exact hp.elim
  · rintro e W2 ⟨⟨v, rfl⟩, ⟨hi, hl, hk⟩ | ⟨pre, hpre, c, hi, hl, hk⟩⟩
    · have hend := run_endLoop (P := P) hl (by rw [hrec]; simp)
      refine ⟨none, _, by rw [hrec] at hend; exact hend, hdone D _ (Nat.le_refl _) (hI.putObj _ hi (by omega) hl rfl) ((World.putObj_heap_other (by omega)).trans hk)⟩
    · have hend := run_endLoop (P := P) hl (by rw [hrec]; simp)
      exact ⟨some c, _, by rw [hrec] at hend; exact hend, hstop D c pre _ (Nat.le_refl _) hpre ((hIx c).putObj _ hi (by omega) hl rfl) ((World.putObj_heap_other (by omega)).trans hk)⟩
end Go.Proofs.Ytlplaidcdocbmaa.Core
