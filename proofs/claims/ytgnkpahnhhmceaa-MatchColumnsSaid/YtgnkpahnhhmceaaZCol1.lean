-- Cut by pack.py, a program of this session; not trusted: Lean checks it.
import Derived.RegionTactic
import Derived.Test.YtgnkpahnhhmceaaZMore1
/- A region that draws its order, by an invariant over what has come up; a made row put into a row of rows. -/
namespace Go.Proofs.Ytgnkpahnhhmceaa.Core
open Go Go.RowKit Go.Proofs.YtgnkpahnhhmceaaW.PrintWords Go.Proofs.YtgnkpahnhhmceaaW.PrintLast Go.Proofs.YtgnkpahnhhmceaaW.PrintMore
set_option linter.unusedVariables false
set_option linter.unusedSimpArgs false
section
variable {P : Program} {ops : Array Oper} {Q : Exit → Act → World → Prop} {n : Nat} {Inv : (Nat → Bool) → Act → World → Prop}
theorem left_set (listed : Array Bool) (n i : Nat) (hs : listed.size = n) (hi : i < n) (hl : listed.getD i true = false) :
    ((List.range n).filter fun j => !(listed.setIfInBounds i true).getD j true).length < ((List.range n).filter fun j => !listed.getD j true).length := by
  have e : ((List.range n).filter fun j => !(listed.setIfInBounds i true).getD j true) = ((List.range n).filter fun j => !listed.getD j true).filter (fun j => j != i) := by
    rw [List.filter_filter]
    refine List.filter_congr (fun j hj => ?_)
    have hjn := List.mem_range.1 hj
    by_cases h : j = i
    · subst h
      simp [Array.getD_eq_getD_getElem?, hs, hjn]
    · simp [Array.getD_eq_getD_getElem?, Array.getElem?_setIfInBounds, h, Ne.symm h]
  rw [e]
  refine List.length_filter_lt_length_iff_exists.2 ⟨i, List.mem_filter.2 ⟨List.mem_range.2 hi, by rw [hl]; rfl⟩, by simp⟩
theorem all_listed (listed : Array Bool) (hs : listed.size = n) (hn : ops.size = n) (hback : ∀ i o, ops[i]? = some o → ∀ e ∈ o.after, Region.binds .any e = true → e.on < i)
    (hr : Region.ready .any ops listed = []) : ∀ j, j < n → listed.getD j true = true := by
  intro j
  induction j using Nat.strongRecOn with
  | _ j ih =>
    intro hj
    cases hl : listed.getD j true with
    | true => rfl
    | false =>
      exfalso
      have hjo : j < ops.size := by omega
      have hmem : j ∈ Region.ready .any ops listed := by
        unfold Region.ready
        refine List.mem_filter.2 ⟨List.mem_range.2 hjo, ?_⟩
        rw [hl, Array.getElem?_eq_getElem hjo]
        simp only [Bool.not_false, Bool.true_and, Option.map_some, Option.getD_some, Array.all_eq_true]
        intro k hk
        cases hb : Region.binds .any (ops[j].after[k]) with
        | false => rfl
        | true =>
          have hlt := hback j _ (Array.getElem?_eq_getElem hjo) _ (Array.getElem_mem hk) hb
          have := ih _ hlt (by omega)
          have hsz : (ops[j].after[k]).on < listed.size := by omega
          simp [Array.getD_eq_getD_getElem?, hsz] at this ⊢
          exact this
      rw [hr] at hmem
      cases hmem
/-- What has come up, as a function. -/
def upOf (listed : Array Bool) (j : Nat) : Bool := listed.getD j false
theorem upOf_true {listed : Array Bool} {j : Nat} (hj : j < listed.size) : listed.getD j true = upOf listed j := by
  simp [upOf, Array.getD_eq_getD_getElem?, hj]
theorem upOf_set {listed : Array Bool} {i : Nat} (hi : i < listed.size) : upOf (listed.setIfInBounds i true) = fun j => j == i || upOf listed j := by
  funext j
  by_cases e : j = i
  · subst e
    simp [upOf, Array.getD_eq_getD_getElem?, hi]
  · have : i ≠ j := fun h => e h.symm
    simp [upOf, Array.getD_eq_getD_getElem?, Array.getElem?_setIfInBounds, this, e]
theorem inv_any (hn : ops.size = n) (hback : ∀ i o, ops[i]? = some o → ∀ e ∈ o.after, Region.binds .any e = true → e.on < i)
    (hstep : ∀ i o, ops[i]? = some o → ∀ (L : Nat → Bool) (a : Act) (w : World), Inv L a w → L i = false → (∀ e ∈ o.after, Region.binds .any e = true → L e.on = true) →
      ∀ K : Act → World → Prop, (∀ a' w', Inv (fun j => j == i || L j) a' w' → K a' w') → if Region.wanted o (yielded ops a.tmps) = true then Oper.wp P o a w K Q else K (a.put o.dst undef) w)
    (hend : ∀ (L : Nat → Bool) a w, Inv L a w → (∀ i, i < n → L i = true) → Q .normal a w) :
    ∀ (fuel : Nat) (listed : Array Bool) (a : Act) (w : World), ((List.range n).filter fun j => !listed.getD j true).length ≤ fuel → listed.size = n → Inv (upOf listed) a w → wpAny P .any ops Q fuel listed a w := by
  intro fuel
  induction fuel with
  | zero =>
    intro listed a w hf hs h
    have hl : ∀ j, j < n → listed.getD j true = true := fun j hj => by
      cases hb : listed.getD j true with
      | true => rfl
      | false =>
        have hm : j ∈ ((List.range n).filter fun j => !listed.getD j true) := List.mem_filter.2 ⟨List.mem_range.2 hj, by rw [hb]; rfl⟩
        have h0 := List.length_eq_zero_iff.1 (Nat.le_zero.1 hf)
        rw [h0] at hm
        cases hm
    refine ⟨?_, hend _ a w h (fun i hi => by rw [← upOf_true (by omega)]; exact hl i hi)⟩
    unfold Region.ready
    refine List.filter_eq_nil_iff.2 (fun j hj => ?_)
    rw [hl j (by have := List.mem_range.1 hj; omega)]
    simp
  | succ fuel ih =>
    intro listed a w hf hs h
    refine ⟨fun hr => hend _ a w h (fun i hi => by rw [← upOf_true (by omega)]; exact all_listed listed hs hn hback hr i hi), fun i hi => ?_⟩
    unfold Region.ready at hi
    obtain ⟨hi1, hi2⟩ := List.mem_filter.1 hi
    have hin : i < n := by have := List.mem_range.1 hi1; omega
    have hio : i < ops.size := by omega
    rw [Array.getElem?_eq_getElem hio] at hi2
    simp only [Option.map_some, Option.getD_some, Bool.and_eq_true, Array.all_eq_true, Bool.not_eq_true'] at hi2
    obtain ⟨hl, haft⟩ := hi2
    have ho := Array.getElem?_eq_getElem hio
    refine wpOp_step ho (fun K' hK => ?_)
    refine hstep i _ ho (upOf listed) a w h (by rw [← upOf_true (by omega)]; exact hl) (fun e he hb => ?_) K' (fun a' w' hI => hK _ _ (ih _ _ _ (by have := left_set listed n i hs hin hl; omega) (by simpa using hs) (by rw [upOf_set (by omega)]; exact hI)))
    obtain ⟨k, hk, rfl⟩ := Array.mem_iff_getElem.1 he
    have h1 := haft k hk
    rw [hb] at h1
    simpa [upOf] using h1
theorem inv_region {id : Nat} {a0 : Act} {w0 : World} (hm : P.follows .mixedOrders = true) (hn : ops.size = n) (hback : ∀ i o, ops[i]? = some o → ∀ e ∈ o.after, Region.binds .any e = true → e.on < i)
    (h0 : Inv (fun _ => false) a0 w0.drew)
    (hstep : ∀ i o, ops[i]? = some o → ∀ (L : Nat → Bool) (a : Act) (w : World), Inv L a w → L i = false → (∀ e ∈ o.after, Region.binds .any e = true → L e.on = true) →
      ∀ K : Act → World → Prop, (∀ a' w', Inv (fun j => j == i || L j) a' w' → K a' w') → if Region.wanted o (yielded ops a.tmps) = true then Oper.wp P o a w K Q else K (a.put o.dst undef) w)
    (hend : ∀ (L : Nat → Bool) a w, Inv L a w → (∀ i, i < n → L i = true) → Q .normal a w) :
    (Code.region id ops true).wp P Q a0 w0 := by
  refine wp_region_any hm (inv_any hn hback hstep hend ops.size _ a0 _ ?_ (by simpa using hn) ?_)
  · refine Nat.le_trans (List.length_filter_le _ _) ?_
    simp [hn]
  · have e : upOf (Array.replicate ops.size false) = fun _ => false := by
      funext j
      simp [upOf, Array.getD_eq_getD_getElem?, Array.getElem?_replicate]
      split <;> rfl
    rw [e]
    exact h0
end
/-- A made row is put into a row of rows, for an element that held another. -/
theorem S_in {w : World} {base : Nat} {ok okr : Nat → Prop} {g n cap : Nat} {xs : List (List Int)} {v : Value} {zs : List Int} (h : Kd.S Gd 22 w base ok (.slice (some ⟨g, 0, none⟩) n cap) xs) (hr : Kd.R (Kd.int .i64) 3 w base okr v zs)
    (hd : ∀ q, ok q → okr q → False) (k : Nat) (hk : k < n) :
    (∃ u, w.cell? ⟨g, k, none⟩ = some u) ∧ w.frozen? ⟨g, k, none⟩ = false ∧ Kd.S Gd 22 (w.setCell ⟨g, k, none⟩ v) base (fun q => ok q ∨ okr q) (.slice (some ⟨g, 0, none⟩) n cap) (xs.set k zs) := by
  have hg : ok g := (Kd.S_R h).1 g rfl
  have h1 := Kd.S_mono (ok' := fun q => (ok q ∨ okr q) ∧ ¬ okr q) h (fun q hq => ⟨.inl hq, fun hh => hd q hq hh⟩)
  obtain ⟨oki, c0, hcl, hM, hcc, hfr, hoki, hH⟩ := Kd.S_elem h1 [] (k : Int) (by omega) (by omega)
  have hH2 := Kd.H_more hH (fun q hq => .inr hq)
  rw [Int.toNat_natCast] at hM hcc hfr
  obtain ⟨ve, rfl, ge⟩ := hM
  have hv := hcc 0 _ rfl
  have hf := hfr 0
  rw [Nat.add_zero, show Gd.sz = 1 from rfl, Nat.mul_one] at hv hf
  have HP := Kd.S_seg0 hH2 (by omega) (by omega) (seg := [v]) (j := 0) (show 1 ≤ 1 from by decide) (x' := zs) (Kd.M_row hr) (fun _ hq => .inr hq)
  simp only [show Gd.sz = 1 from rfl, Nat.mul_one, Nat.add_zero, Int.toNat_natCast] at HP
  exact ⟨⟨_, hv⟩, hf, HP.1⟩
end Go.Proofs.Ytgnkpahnhhmceaa.Core
