-- Cut by pack.py, a program of this session; not trusted: Lean checks it.
import Derived.RegionTactic
/- A region that draws its order, in which all is read or made anew: what each operation yields is told by a fact that later worlds keep; no order is walked. -/
namespace Go.Proofs.Ytlplaidcdocbmaa.Mono
open Go
set_option linter.unusedVariables false
set_option linter.unusedSimpArgs false
section
variable {P : Program} {ops : Array Oper} {Q : Exit → Act → World → Prop} {n : Nat} {D : Nat → Nat} {R : World → World → Prop} {V : Nat → Value → World → Prop} {a0 : Act} {w0 : World}
/-- How it stands when these have come up. -/
structure St (n : Nat) (D : Nat → Nat) (R : World → World → Prop) (V : Nat → Value → World → Prop) (a0 : Act) (w0 : World) (listed : Array Bool) (a : Act) (w : World) : Prop where
  size : listed.size = n
  rel : R w0 w
  defers : a.defers = a0.defers
  tsize : a.tmps.size = a0.tmps.size
  other : ∀ t, (∀ j, j < n → D j ≠ t) → a.tmps[t]? = a0.tmps[t]?
  val : ∀ j, j < n → listed.getD j true = true → ∃ v, a.tmps[D j]? = some v ∧ V j v w
theorem left_set (listed : Array Bool) (n i : Nat) (hs : listed.size = n) (hi : i < n) (hl : listed.getD i true = false) :
    ((List.range n).filter fun j => !(listed.setIfInBounds i true).getD j true).length < ((List.range n).filter fun j => !listed.getD j true).length := by
  have e : ((List.range n).filter fun j => !(listed.setIfInBounds i true).getD j true) = ((List.range n).filter fun j => !listed.getD j true).filter (fun j => j != i) := by
    rw [List.filter_filter]
    refine List.filter_congr (fun j hj => ?_)
    have hjn := List.mem_range.1 hj
    by_cases h : j = i
    · subst h
      simp [Array.getD_eq_getD_getElem?, hs, hjn]
    · simp [Array.getD_eq_getD_getElem?, Array.getElem?_setIfInBounds, h, Ne.symm h]
  rw [e]
  refine List.length_filter_lt_length_iff_exists.2 ⟨i, List.mem_filter.2 ⟨List.mem_range.2 hi, by rw [hl]; rfl⟩, by simp⟩
theorem all_listed (listed : Array Bool) (hs : listed.size = n) (hn : ops.size = n) (hback : ∀ i o, ops[i]? = some o → ∀ e ∈ o.after, Region.binds .any e = true → e.on < i)
    (hr : Region.ready .any ops listed = []) : ∀ j, j < n → listed.getD j true = true := by
  intro j
  induction j using Nat.strongRecOn with
  | _ j ih =>
    intro hj
    cases hl : listed.getD j true with
    | true => rfl
    | false =>
      exfalso
      have hjo : j < ops.size := by omega
      have hmem : j ∈ Region.ready .any ops listed := by
        unfold Region.ready
        refine List.mem_filter.2 ⟨List.mem_range.2 hjo, ?_⟩
        rw [hl, Array.getElem?_eq_getElem hjo]
        simp only [Bool.not_false, Bool.true_and, Option.map_some, Option.getD_some, Array.all_eq_true]
        intro k hk
        cases hb : Region.binds .any (ops[j].after[k]) with
        | false => rfl
        | true =>
          have hlt := hback j _ (Array.getElem?_eq_getElem hjo) _ (Array.getElem_mem hk) hb
          have := ih _ hlt (by omega)
          have hsz : (ops[j].after[k]).on < listed.size := by omega
          simp [Array.getD_eq_getD_getElem?, hsz] at this ⊢
          exact this
      rw [hr] at hmem
      cases hmem
theorem mono_any (hn : ops.size = n) (hRt : ∀ a b c, R a b → R b c → R a c) (hV : ∀ i v w w', R w w' → V i v w → V i v w')
    (hD : ∀ i o, ops[i]? = some o → o.dst = some (D i)) (hinj : ∀ i j, i < n → j < n → D i = D j → i = j) (hsz : ∀ i, i < n → D i < a0.tmps.size)
    (hback : ∀ i o, ops[i]? = some o → ∀ e ∈ o.after, Region.binds .any e = true → e.on < i)
    (hstep : ∀ i o, ops[i]? = some o → ∀ (a : Act) (w : World), R w0 w → (∀ t, (∀ j, j < n → D j ≠ t) → a.tmps[t]? = a0.tmps[t]?) → (∀ e ∈ o.after, Region.binds .any e = true → ∃ v, a.tmps[D e.on]? = some v ∧ V e.on v w) →
      ∀ K : Act → World → Prop, (∀ v w', V i v w' → R w w' → K (a.put o.dst v) w') → if Region.wanted o (yielded ops a.tmps) = true then Oper.wp P o a w K Q else K (a.put o.dst undef) w)
    (hend : ∀ a w, R w0 w → a.defers = a0.defers → a.tmps.size = a0.tmps.size → (∀ t, (∀ j, j < n → D j ≠ t) → a.tmps[t]? = a0.tmps[t]?) → (∀ i, i < n → ∃ v, a.tmps[D i]? = some v ∧ V i v w) → Q .normal a w) :
    ∀ (fuel : Nat) (listed : Array Bool) (a : Act) (w : World), ((List.range n).filter fun j => !listed.getD j true).length ≤ fuel → St n D R V a0 w0 listed a w → wpAny P .any ops Q fuel listed a w := by
  have fin : ∀ (listed : Array Bool) (a : Act) (w : World), St n D R V a0 w0 listed a w → (∀ j, j < n → listed.getD j true = true) → Q .normal a w :=
    fun listed a w h hl => hend a w h.rel h.defers h.tsize h.other (fun i hi => h.val i hi (hl i hi))
  intro fuel
  induction fuel with
  | zero =>
    intro listed a w hf h
    have hl : ∀ j, j < n → listed.getD j true = true := fun j hj => by
      cases hb : listed.getD j true with
      | true => rfl
      | false =>
        have hm : j ∈ ((List.range n).filter fun j => !listed.getD j true) := List.mem_filter.2 ⟨List.mem_range.2 hj, by rw [hb]; rfl⟩
        have h0 := List.length_eq_zero_iff.1 (Nat.le_zero.1 hf)
        rw [h0] at hm
        cases hm
    refine ⟨?_, fin listed a w h hl⟩
    unfold Region.ready
    refine List.filter_eq_nil_iff.2 (fun j hj => ?_)
    rw [hl j (by have := List.mem_range.1 hj; omega)]
    simp
  | succ fuel ih =>
    intro listed a w hf h
    refine ⟨fun hr => fin listed a w h (all_listed listed h.size hn hback hr), fun i hi => ?_⟩
    unfold Region.ready at hi
    obtain ⟨hi1, hi2⟩ := List.mem_filter.1 hi
    have hin : i < n := by have := List.mem_range.1 hi1; omega
    have hio : i < ops.size := by omega
    rw [Array.getElem?_eq_getElem hio] at hi2
    simp only [Option.map_some, Option.getD_some, Bool.and_eq_true, Array.all_eq_true, Bool.not_eq_true'] at hi2
    obtain ⟨hl, haft⟩ := hi2
    have ho := Array.getElem?_eq_getElem hio
    refine wpOp_step ho (fun K' hK => ?_)
    refine hstep i _ ho a w h.rel h.other (fun e he hb => ?_) K' (fun v w' hv hr => hK _ _ (ih _ _ _ (by have := left_set listed n i h.size hin hl; omega) ?_))
    · obtain ⟨k, hk, rfl⟩ := Array.mem_iff_getElem.1 he
      have hlt := hback i _ ho _ he hb
      have h1 := haft k hk
      rw [hb] at h1
      have hsz' : (ops[i].after[k]).on < listed.size := by rw [h.size]; omega
      refine h.val _ (by omega) ?_
      simp [Array.getD_eq_getD_getElem?, hsz'] at h1 ⊢
      exact h1
    · have hd := hD i _ ho
      rw [hd]
      refine ⟨by simpa using h.size, hRt _ _ _ h.rel hr, h.defers, by simpa [Act.put] using h.tsize, fun t ht => ?_, fun j hj hlj => ?_⟩
      · have hne : D i ≠ t := ht i hin
        rw [← h.other t ht]
        simp [Act.put, Array.getElem?_setIfInBounds, hne]
      · by_cases e : j = i
        · subst e
          refine ⟨v, ?_, hv⟩
          have := hsz j hj
          simp [Act.put, Array.getElem?_setIfInBounds, h.tsize, this]
        · have hlj' : listed.getD j true = true := by
            have hne : i ≠ j := fun h => e h.symm
            simpa [Array.getD_eq_getD_getElem?, Array.getElem?_setIfInBounds, hne] using hlj
          obtain ⟨u, hu, hVu⟩ := h.val j hj hlj'
          refine ⟨u, ?_, hV j u w w' hr hVu⟩
          have hne : D i ≠ D j := fun h => e (hinj j i hj hin h.symm)
          simpa [Act.put, Array.getElem?_setIfInBounds, hne] using hu
theorem mono_region {id : Nat} (hm : P.follows .mixedOrders = true) (hn : ops.size = n) (hR0 : R w0 w0.drew) (hRt : ∀ a b c, R a b → R b c → R a c) (hV : ∀ i v w w', R w w' → V i v w → V i v w')
    (hD : ∀ i o, ops[i]? = some o → o.dst = some (D i)) (hinj : ∀ i j, i < n → j < n → D i = D j → i = j) (hsz : ∀ i, i < n → D i < a0.tmps.size)
    (hback : ∀ i o, ops[i]? = some o → ∀ e ∈ o.after, Region.binds .any e = true → e.on < i)
    (hstep : ∀ i o, ops[i]? = some o → ∀ (a : Act) (w : World), R w0 w → (∀ t, (∀ j, j < n → D j ≠ t) → a.tmps[t]? = a0.tmps[t]?) → (∀ e ∈ o.after, Region.binds .any e = true → ∃ v, a.tmps[D e.on]? = some v ∧ V e.on v w) →
      ∀ K : Act → World → Prop, (∀ v w', V i v w' → R w w' → K (a.put o.dst v) w') → if Region.wanted o (yielded ops a.tmps) = true then Oper.wp P o a w K Q else K (a.put o.dst undef) w)
    (hend : ∀ a w, R w0 w → a.defers = a0.defers → a.tmps.size = a0.tmps.size → (∀ t, (∀ j, j < n → D j ≠ t) → a.tmps[t]? = a0.tmps[t]?) → (∀ i, i < n → ∃ v, a.tmps[D i]? = some v ∧ V i v w) → Q .normal a w) :
    (Code.region id ops true).wp P Q a0 w0 := by
  refine wp_region_any hm (mono_any hn hRt hV hD hinj hsz hback hstep hend ops.size _ a0 _ ?_ ⟨by simpa using hn, hR0, rfl, rfl, fun _ _ => rfl, fun j hj hl => ?_⟩)
  · refine Nat.le_trans (List.length_filter_le _ _) ?_
    simp [hn]
  · exfalso
    simp [Array.getD_eq_getD_getElem?, hn, hj] at hl
end
end Go.Proofs.Ytlplaidcdocbmaa.Mono
