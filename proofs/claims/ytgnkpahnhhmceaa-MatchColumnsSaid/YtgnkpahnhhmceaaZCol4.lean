-- Cut by pack.py, a program of this session; not trusted: Lean checks it.
import Derived.Test.YtgnkpahnhhmceaaZCol3
/- MatchColumns: three stores into three grids; what is written of a drawn region's temporaries. -/
namespace Go.Proofs.Ytgnkpahnhhmceaa.Core
open Go Go.RowKit Go.Proofs.YtgnkpahnhhmceaaW.PrintWords Go.Proofs.YtgnkpahnhhmceaaW.PrintLast Go.Proofs.YtgnkpahnhhmceaaW.PrintMore
set_option linter.unusedVariables false
set_option linter.unusedSimpArgs false
theorem cell_far {w : World} {ad p : Addr} {v u : Value} (h : w.cell? ad = some v) (hne : ad.block ≠ p.block) : (w.setCell p u).cell? ad = some v := by
  rw [World.cell?_of_block (Below.heap_setCell w p u ad.block hne)]; exact h
theorem frozen_far {w : World} {ad p : Addr} {b : Bool} {u : Value} (h : w.frozen? ad = b) (hne : ad.block ≠ p.block) : (w.setCell p u).frozen? ad = b := by
  rw [World.frozen?_of_block (Below.heap_setCell w p u ad.block hne)]; exact h
/-- S_put, and where the row lies. -/
theorem S_put' {w : World} {base : Nat} {ok : Nat → Prop} {g n cap : Nat} {xs : List (List Int)} (h : Kd.S Gd 22 w base ok (.slice (some ⟨g, 0, none⟩) n cap) xs) (k : Nat) (hk : k < n) (i : Nat) (hi : i < (xs.getD k []).length) :
    ∃ gk ck, base ≤ gk ∧ ok gk ∧ gk ≠ g ∧ ok g ∧ base ≤ g ∧ w.cell? ⟨g, k, none⟩ = some (.slice (some ⟨gk, 0, none⟩) (xs.getD k []).length ck) ∧ (∃ u, w.cell? ⟨gk, i, none⟩ = some u) ∧ w.frozen? ⟨gk, i, none⟩ = false ∧
      ∀ v, Kd.S Gd 22 (w.setCell ⟨gk, i, none⟩ (.int .i64 v)) base ok (.slice (some ⟨g, 0, none⟩) n cap) (xs.set k ((xs.getD k []).set i v)) := by
  obtain ⟨oki, c, hcl, hM, hcc, hok, hbk⟩ := Kd.S_borrow h [] (k : Int) (by omega) (by omega)
  rw [Int.toNat_natCast] at hM hcc hbk
  obtain ⟨ve, rfl, ge⟩ := hM
  have hg0 : ok g := (Kd.S_R h).1 g rfl
  have hbg : base ≤ g := by
    rcases Kd.S_base2 h with h | ⟨q, h1, h2⟩
    · simp [Value.ownBlock] at h
    · have : g = q := by simpa [Value.ownBlock] using h1
      omega
  generalize xs.getD k [] = r at *
  obtain ⟨gk, ck, rfl, hb, hl, cl, hG⟩ := Kd.R_form ge (by omega)
  have hv := hcc 0 _ rfl
  rw [Nat.add_zero, show Gd.sz = 1 from rfl, Nat.mul_one, add_plain] at hv
  obtain ⟨hc1, hf1⟩ := Kd.R_celln 0 ge (i : Int) (by omega) (by omega)
  rw [Int.toNat_natCast] at hc1 hf1
  have hgk := hok gk (ge.1 gk rfl)
  refine ⟨gk, ck, hb, hgk.1, fun e => hgk.2 (by rw [e]; rfl), hg0, hbg, hv, ⟨_, hc1⟩, hf1, fun v => ?_⟩
  have HP := Kd.R_putg ge (i : Int) v
  rw [Int.toNat_natCast] at HP
  exact hbk HP.2 (fun k_ e_ => by injection e_ with e_; subst e_; exact ge.1 _ rfl) (x' := r.set i v) (Kd.M_row HP.1)
/-- Three numbers are stored, one into each of three grids that lie apart. -/
theorem put3 {w : World} {s k : Nat} {ok : Nat → Nat → Prop} {g c : Nat → Nat} {xs : Nat → List (List Int)} (d1 : ∀ x y q, x < 3 → y < 3 → x ≠ y → ok x q → ok y q → False)
    (hS : ∀ x, x < 3 → Kd.S Gd 22 w s (ok x) (.slice (some ⟨g x, 0, none⟩) k (c x)) (xs x)) (r i : Nat → Nat) (hr : ∀ x, x < 3 → r x < k) (hl : ∀ x, x < 3 → ((xs x).getD (r x) []).length = k) (hi : ∀ x, x < 3 → i x < k) :
    ∃ b cc : Nat → Nat, (∀ x, x < 3 → s ≤ b x ∧ ok x (b x) ∧ s ≤ g x ∧ ok x (g x) ∧ b x ≠ g x) ∧ (∀ x, x < 3 → w.cell? ⟨g x, r x, none⟩ = some (.slice (some ⟨b x, 0, none⟩) k (cc x)) ∧ (∃ u, w.cell? ⟨b x, i x, none⟩ = some u) ∧ w.frozen? ⟨b x, i x, none⟩ = false) ∧
      ∀ v, ∀ x, x < 3 → Kd.S Gd 22 (((w.setCell ⟨b 0, i 0, none⟩ (.int .i64 v)).setCell ⟨b 1, i 1, none⟩ (.int .i64 v)).setCell ⟨b 2, i 2, none⟩ (.int .i64 v)) s (ok x) (.slice (some ⟨g x, 0, none⟩) k (c x)) ((xs x).set (r x) (((xs x).getD (r x) []).set (i x) v)) := by
  have h0 := S_put' (hS 0 (by omega)) (r 0) (hr 0 (by omega)) (i 0) (by rw [hl 0 (by omega)]; exact hi 0 (by omega))
  have h1 := S_put' (hS 1 (by omega)) (r 1) (hr 1 (by omega)) (i 1) (by rw [hl 1 (by omega)]; exact hi 1 (by omega))
  have h2 := S_put' (hS 2 (by omega)) (r 2) (hr 2 (by omega)) (i 2) (by rw [hl 2 (by omega)]; exact hi 2 (by omega))
  obtain ⟨b0, e0, p01, p02, p03, p04, p05, p06, p07, p08, p09⟩ := h0
  obtain ⟨b1, e1, p11, p12, p13, p14, p15, p16, p17, p18, _⟩ := h1
  obtain ⟨b2, e2, p21, p22, p23, p24, p25, p26, p27, p28, _⟩ := h2
  rw [hl 0 (by omega)] at p06
  rw [hl 1 (by omega)] at p16
  rw [hl 2 (by omega)] at p26
  have n01 : ∀ q, ok 1 q → q ≠ b0 := fun q hq e => d1 0 1 q (by omega) (by omega) (by omega) (by rw [e]; exact p02) hq
  have n02 : ∀ q, ok 2 q → q ≠ b0 := fun q hq e => d1 0 2 q (by omega) (by omega) (by omega) (by rw [e]; exact p02) hq
  have n10 : ∀ q, ok 0 q → q ≠ b1 := fun q hq e => d1 1 0 q (by omega) (by omega) (by omega) (by rw [e]; exact p12) hq
  have n12 : ∀ q, ok 2 q → q ≠ b1 := fun q hq e => d1 1 2 q (by omega) (by omega) (by omega) (by rw [e]; exact p12) hq
  have n20 : ∀ q, ok 0 q → q ≠ b2 := fun q hq e => d1 2 0 q (by omega) (by omega) (by omega) (by rw [e]; exact p22) hq
  have n21 : ∀ q, ok 1 q → q ≠ b2 := fun q hq e => d1 2 1 q (by omega) (by omega) (by omega) (by rw [e]; exact p22) hq
  refine ⟨fun x => if x = 0 then b0 else if x = 1 then b1 else b2, fun x => if x = 0 then e0 else if x = 1 then e1 else e2, fun x hx => ?_, fun x hx => ?_, fun v => ?_⟩
  · match x, hx with
    | 0, _ => exact ⟨p01, p02, p05, p04, p03⟩
    | 1, _ => exact ⟨p11, p12, p15, p14, p13⟩
    | 2, _ => exact ⟨p21, p22, p25, p24, p23⟩
  · match x, hx with
    | 0, _ => exact ⟨p06, p07, p08⟩
    | 1, _ => exact ⟨p16, p17, p18⟩
    | 2, _ => exact ⟨p26, p27, p28⟩
  · have s0 := p09 v
    have s1 := Kd.S_far (hS 1 (by omega)) (p := ⟨b0, i 0, none⟩) n01 (.int .i64 v)
    have s2 := Kd.S_far (hS 2 (by omega)) (p := ⟨b0, i 0, none⟩) n02 (.int .i64 v)
    have q1 := S_put' s1 (r 1) (hr 1 (by omega)) (i 1) (by rw [hl 1 (by omega)]; exact hi 1 (by omega))
    obtain ⟨b1', e1', _, _, _, _, _, q16, _, _, q19⟩ := q1
    have hh1 := cell_far (u := .int .i64 v) (p := ⟨b0, i 0, none⟩) p16 (n01 _ p14)
    rw [hl 1 (by omega)] at q16
    obtain rfl : b1' = b1 := by
      rw [hh1] at q16
      injection q16 with h; injection h with h _ _; injection h with h; injection h with h
      exact h.symm
    have s1 := q19 v
    have s0 := Kd.S_far s0 (p := ⟨b1', i 1, none⟩) n10 (.int .i64 v)
    have s2 := Kd.S_far s2 (p := ⟨b1', i 1, none⟩) n12 (.int .i64 v)
    have q2 := S_put' s2 (r 2) (hr 2 (by omega)) (i 2) (by rw [hl 2 (by omega)]; exact hi 2 (by omega))
    obtain ⟨b2', e2', _, _, _, _, _, q26, _, _, q29⟩ := q2
    have hh2 := cell_far (u := .int .i64 v) (p := ⟨b1', i 1, none⟩) (cell_far (u := .int .i64 v) (p := ⟨b0, i 0, none⟩) p26 (n02 _ p24)) (n12 _ p24)
    rw [hl 2 (by omega)] at q26
    obtain rfl : b2' = b2 := by
      rw [hh2] at q26
      injection q26 with h; injection h with h _ _; injection h with h; injection h with h
      exact h.symm
    have s2 := q29 v
    have s0 := Kd.S_far s0 (p := ⟨b2', i 2, none⟩) n20 (.int .i64 v)
    have s1 := Kd.S_far s1 (p := ⟨b2', i 2, none⟩) n21 (.int .i64 v)
    intro x hx
    match x, hx with
    | 0, _ => exact s0
    | 1, _ => exact s1
    | 2, _ => exact s2
/-- Some of the temporaries have been written. -/
def setM (T : Array Value) (lo : Nat) : Nat → Array Value → Array Value
  | 0, A => A
  | n + 1, A => (setM T lo n A).setIfInBounds (lo + n) (T.getD (lo + n) undef)
theorem setM_size (T : Array Value) (lo : Nat) : ∀ (n : Nat) (A : Array Value), (setM T lo n A).size = A.size
  | 0, A => rfl
  | n + 1, A => by show ((setM T lo n A).setIfInBounds _ _).size = _; simp [setM_size T lo n A]
theorem setM_get (T : Array Value) (lo : Nat) : ∀ (n : Nat) (A : Array Value), A.size = T.size → ∀ t, (setM T lo n A)[t]? = if lo ≤ t ∧ t < lo + n then T[t]? else A[t]?
  | 0, A, hs, t => by rw [if_neg (by omega)]; rfl
  | n + 1, A, hs, t => by
    show ((setM T lo n A).setIfInBounds (lo + n) (T.getD (lo + n) undef))[t]? = _
    have ih := setM_get T lo n A hs t
    have hz := setM_size T lo n A
    generalize setM T lo n A = B at *
    by_cases e : lo + n = t
    · subst e
      rw [if_pos ⟨by omega, by omega⟩]
      by_cases hl : lo + n < T.size
      · simp [Array.getElem?_setIfInBounds, hz, hs, hl, Array.getD_eq_getD_getElem?]
      · rw [Array.getElem?_eq_none (show T.size ≤ lo + n by omega)]
        rw [Array.getElem?_eq_none (by simp; omega)]
    · have h1 : (B.setIfInBounds (lo + n) (T.getD (lo + n) undef))[t]? = B[t]? := by simp [Array.getElem?_setIfInBounds, e]
      rw [h1, ih]
      by_cases h : lo ≤ t ∧ t < lo + n
      · rw [if_pos h, if_pos ⟨by omega, by omega⟩]
      · rw [if_neg h, if_neg (by omega)]
theorem rebuild (T A : Array Value) (lo n : Nat) (hs : T.size = A.size) (ho : ∀ t, ¬ (lo ≤ t ∧ t < lo + n) → T[t]? = A[t]?) : T = setM T lo n A := by
  refine Array.ext_getElem? (fun t => ?_)
  rw [setM_get T lo n A hs.symm t]
  by_cases h : lo ≤ t ∧ t < lo + n
  · rw [if_pos h]
  · rw [if_neg h]; exact ho t h
/-- The grids' rows as far as they are made. -/
def zrows (k i : Nat) : List (List Int) := (List.range k).map fun j => if j < i then List.replicate k 0 else []
theorem zrows_zero (k : Nat) : zrows k 0 = List.replicate k [] := by
  unfold zrows
  refine List.ext_getElem (by simp) (fun j h1 h2 => by simp)
theorem zrows_len (k i : Nat) : (zrows k i).length = k := by simp [zrows]
theorem zrows_succ (k i : Nat) (hi : i < k) : (zrows k i).set i (List.replicate k 0) = zrows k (i + 1) := by
  unfold zrows
  refine List.ext_getElem (by simp) (fun j h1 h2 => ?_)
  rw [List.getElem_set]
  simp only [List.getElem_map, List.getElem_range]
  by_cases e : i = j
  · subst e; rw [if_pos rfl, if_pos (by omega)]
  · rw [if_neg e]
    by_cases h : j < i
    · rw [if_pos h, if_pos (by omega)]
    · rw [if_neg h, if_neg (by omega)]
end Go.Proofs.Ytgnkpahnhhmceaa.Core
