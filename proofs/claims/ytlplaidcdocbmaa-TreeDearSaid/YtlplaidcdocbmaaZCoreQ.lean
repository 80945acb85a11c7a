-- Cut by pack.py, a program of this session; not trusted: Lean checks it.
import Derived.Lib.QuietBelowIn
/- A region that draws its order, in a round of a range over a function: walked once, where it holds no defer statement and its callees end in Below. -/
namespace Go.Proofs.Ytlplaidcdocbmaa.Core
open Go Go.Sort Go.RowKit
variable {F : Fence} {n : Nat} {P : Program} {C : World → Prop} {ops : Array Oper} {md : Region.Mode}

def NoDefer (ops : Array Oper) : Prop := ∀ (i : Nat) (o : Oper), ops[i]? = some o → ∀ c, o.op ≠ Op.defer c

theorem at_of_quiet {o : Oper} {a : Act} {K : Act → Prop} {K' : Act → World → Prop} {Q' : Exit → Act → World → Prop} {w : World} (hno : ∀ c, o.op ≠ .defer c) (hw : C w) (h : ∀ a w', C w' → K a → K' a w')
    (ha : o.askedIn F P a C) (hh : o.quietIn F n P a C K) : o.wpIn F n P a w K' Q' := by
  obtain ⟨v, h1, h2⟩ := hh
  have h3 := h1 w hw
  unfold Oper.quietAtIn at h3
  refine ⟨ha w hw, ?_⟩
  rw [Oper.semAt_eq _ _ _ hno]
  cases hr : (execOp a.eval o).run P w with
  | halt x w' => rw [hr] at h3; exact h3.elim
  | ok x w' =>
    rw [hr] at h3
    cases x with
    | value u => obtain ⟨e1, e2⟩ := h3; rw [e1, e2]; exact h _ _ hw h2
    | skip =>
      obtain ⟨e1, e2⟩ := h3
      rw [e1]
      show K' (a.put o.dst undef) w
      rw [← e2]
      exact h _ _ hw h2
    | enter f args =>
      obtain ⟨e1, hd, hc⟩ := h3
      rw [e1]
      exact ⟨hd, hc.mono fun e w'' ⟨he, hw''⟩ => by subst he; exact h _ _ hw'' h2⟩
    | _ => exact h3.elim

theorem any_of_quiet {Q : Act → Prop} {Q' : Exit → Act → World → Prop} (hno : NoDefer ops) (hQ : ∀ a w, C w → Q a → Q' .normal a w) : ∀ (fuel : Nat) (listed : Array Bool) (a : Act) (w : World), C w →
    wpAnyQIn F n P md ops C Q fuel listed a → wpAnyIn F n P md ops Q' fuel listed a w
  | 0, _, _, _, hw, h => ⟨h.1, hQ _ _ hw h.2⟩
  | fuel + 1, listed, a, w, hw, h => ⟨fun h0 => hQ _ _ hw (h.1 h0), fun i hi => by
    have hq := h.2 i hi
    have ih := fun a' w' hw' => any_of_quiet hno hQ fuel (listed.setIfInBounds i true) a' w' hw'
    unfold qOpIn at hq
    unfold wpOpIn
    cases ho : ops[i]? with
    | none => simp only [ho] at hq; exact ih _ _ hw hq
    | some o =>
      simp only [ho] at hq
      obtain ⟨ha, hh⟩ := hq
      by_cases hwt : Region.wanted o (yielded ops a.tmps) = true
      · simp only [hwt, if_true] at hh ⊢
        exact at_of_quiet (hno i o ho) hw (fun a' w' hw' hK => ih a' w' hw' hK) ha hh
      · simp only [hwt] at hh ⊢
        exact ⟨ha w hw, ih _ _ hw hh⟩⟩

theorem region_of_quiet {id : Nat} {Q : Exit → Act → World → Prop} {a : Act} {w : World} (hno : NoDefer ops) (hm : P.follows .mixedOrders = true) (hB : Region.lexB .any ops = true) (hC : C { w with drawn := w.drawn + 1 })
    (h : wpQuietIn F n P ops C (fun a' => ∀ w', C w' → Q .normal a' w') ops.toList a) : (Code.region id ops true).wpIn F n P Q a w := by
  simp only [Region.lexB, Bool.and_eq_true] at hB
  refine wpIn_region_any hm (any_of_quiet (Q := fun a' => ∀ w', C w' → Q .normal a' w') hno (fun _ w' hw' h => h w' hw') _ _ _ _ hC ?_)
  have := wpAnyQIn_lex (F := F) (n := n) (C := C) (md := .any) hB.1 ops.toList 0 (Array.replicate ops.size false) a (by simp) (by simpa using hB.2) h
  simpa using this

/-- The class: so many draws on, blocks laid behind. -/
theorem region_below {id : Nat} {Q : Exit → Act → World → Prop} {a : Act} {w : World} {l : List Oper} (hno : (l.all fun o => match o.op with | .defer _ => false | _ => true) = true) (hm : P.follows .mixedOrders = true) (hB : Region.lexB .any l.toArray = true)
    (h : wpQuietIn F n P l.toArray (fun w' => ∃ p : Regrown, w' = grow (redrawn w p.d) p.os) (fun a' => ∀ w', (∃ p : Regrown, w' = grow (redrawn w p.d) p.os) → Q .normal a' w') l a) : (Code.region id l.toArray true).wpIn F n P Q a w :=
  region_of_quiet (C := fun w' => ∃ p : Regrown, w' = grow (redrawn w p.d) p.os) (fun i o ho c e => by
    rw [List.getElem?_toArray] at ho
    have := List.all_eq_true.1 hno o (List.mem_of_getElem? ho)
    rw [e] at this
    cases this) hm hB ⟨⟨w.drawn + 1, #[]⟩, by rw [grow_empty]; rfl⟩ (by simpa using h)
end Go.Proofs.Ytlplaidcdocbmaa.Core
