-- Cut by pack.py, a program of this session; not trusted: Lean checks it.
import Derived.Deep.Draws
import Derived.Tactics
import Derived.Tactics2
import Derived.OwnWalk
import Derived.Outline
import Derived.Lib.Walk
import Derived.Test.YtgnkpahnhhmceaaZPlainM
import Derived.Test.YtgnkpahnhhmceaaZCore12
import Derived.Test.YtgnkpahnhhmceaaZMoreC
/- MatchMore's walk: three grids of costs; one row of the second is made dearer, each row of the third gets one more cell. -/
namespace Go.Proofs.Ytgnkpahnhhmceaa.Core
open Go.RowKit Go.Proofs.YtgnkpahnhhmceaaW.PrintWords Go.Proofs.YtgnkpahnhhmceaaW.PrintLast Go.Proofs.YtgnkpahnhhmceaaW.PrintMore
set_option linter.unusedVariables false
set_option linter.unusedSimpArgs false
abbrev Gd : Kd (List Int) := Kd.slice 3 (Kd.int .i64)
/-- The blocks outside lo .. hi (below the size of then) are as they were. -/
structure KeepO (lo hi : Nat) (w w' : World) : Prop where
  os : w'.os = w.os
  tape : w'.tape = w.tape
  output : w'.output = w.output
  size : w.heap.size ≤ w'.heap.size
  block : ∀ k, k < w.heap.size → ¬ (lo ≤ k ∧ k < hi) → w'.heap[k]? = w.heap[k]?
theorem KeepO.refl (lo hi : Nat) (w : World) : KeepO lo hi w w := ⟨rfl, rfl, rfl, Nat.le_refl _, fun _ _ _ => rfl⟩
theorem KeepO.drewN {lo hi : Nat} {w w' : World} (h : KeepO lo hi w w') (n : Nat) : KeepO lo hi w (w'.drewN n) := ⟨h.os, h.tape, h.output, h.size, h.block⟩
theorem KeepO.drew {lo hi : Nat} {w w' : World} (h : KeepO lo hi w w') : KeepO lo hi w w'.drew := ⟨h.os, h.tape, h.output, h.size, h.block⟩
theorem KeepO.set {lo hi : Nat} {w w' : World} (h : KeepO lo hi w w') {g j : Nat} {v : Value} (h1 : lo ≤ g) (h2 : g < hi) : KeepO lo hi w (w'.setCell ⟨g, j, none⟩ v) := by
  have hb := below_set (w := w') (W := w') (g := w'.heap.size) (j := j) (v := v) (Below.refl _ _) (Nat.le_refl _)
  refine ⟨h.os, h.tape, h.output, ?_, fun k hk hn => ?_⟩
  · have : (w'.setCell ⟨g, j, none⟩ v).heap.size = w'.heap.size := by simp [World.setCell]
    rw [this]; exact h.size
  · rw [Below.heap_setCell w' ⟨g, j, none⟩ v k (fun e => hn (by subst e; exact ⟨h1, h2⟩))]
    exact h.block k hk hn
theorem KeepO.below {lo hi : Nat} {w w' : World} (h : KeepO lo hi w w') (hlo : lo ≤ w.heap.size) : Below lo w w' := ⟨h.os, h.tape, h.output, h.size, fun k hk => h.block k (by omega) (by omega)⟩
theorem withinM (a n : Int) (hn : 0 < n) (h2 : n ≤ 4611686018427387904) (w : World) : Calls Try.prog 18 #[.int .i64 a, .int .i64 n] w fun e w' => ∃ z : Nat, (z : Int) < n ∧ e = .returned (.int .i64 (z : Int)) ∧ Below w.heap.size w w' := by
  obtain ⟨z, hz, h0, h1⟩ := within_f a n hn h2
  obtain ⟨m, rfl⟩ := Int.eq_ofNat_of_zero_le h0
  refine (hypercubelaw9_within.calls a n _ w hz).mono ?_
  rintro e w' ⟨rfl, hb⟩
  exact ⟨m, h1, rfl, below_drawn hb⟩
/-- One number of one row: read, and written. -/
theorem S_put {w : World} {base : Nat} {ok : Nat → Prop} {g n cap : Nat} {xs : List (List Int)} (h : Kd.S Gd 22 w base ok (.slice (some ⟨g, 0, none⟩) n cap) xs) (k : Nat) (hk : k < n) (i : Nat) (hi : i < (xs.getD k []).length) :
    ∃ gk ck, base ≤ gk ∧ gk < w.heap.size ∧ ok gk ∧ w.cell? ⟨g, k, none⟩ = some (.slice (some ⟨gk, 0, none⟩) (xs.getD k []).length ck) ∧ w.cell? ⟨gk, i, none⟩ = some (.int .i64 ((xs.getD k []).getD i 0)) ∧ w.frozen? ⟨gk, i, none⟩ = false ∧
      ∀ v, Kd.S Gd 22 (w.setCell ⟨gk, i, none⟩ (.int .i64 v)) base ok (.slice (some ⟨g, 0, none⟩) n cap) (xs.set k ((xs.getD k []).set i v)) := by
  obtain ⟨oki, c, hcl, hM, hcc, hok, hbk⟩ := Kd.S_borrow h [] (k : Int) (by omega) (by omega)
  rw [Int.toNat_natCast] at hM hcc hbk
  obtain ⟨ve, rfl, ge⟩ := hM
  generalize xs.getD k [] = r at *
  obtain ⟨gk, ck, rfl, hb, hl, cl, hG⟩ := Kd.R_form ge (by omega)
  have hv := hcc 0 _ rfl
  rw [Nat.add_zero, show Gd.sz = 1 from rfl, Nat.mul_one, add_plain] at hv
  obtain ⟨hc1, hf1⟩ := Kd.R_celln 0 ge (i : Int) (by omega) (by omega)
  rw [Int.toNat_natCast] at hc1 hf1
  refine ⟨gk, ck, hb, hl, (hok gk (ge.1 gk rfl)).1, hv, ?_, hf1, fun v => ?_⟩
  · simpa [rdOf] using hc1
  · have HP := Kd.R_putg ge (i : Int) v
    rw [Int.toNat_natCast] at HP
    exact hbk HP.2 (fun k_ e_ => by injection e_ with e_; subst e_; exact ge.1 _ rfl) (x' := r.set i v) (Kd.M_row HP.1)
theorem S_row {w : World} {base : Nat} {ok : Nat → Prop} {g n cap : Nat} {xs : List (List Int)} (h : Kd.S Gd 22 w base ok (.slice (some ⟨g, 0, none⟩) n cap) xs) (k : Nat) (hk : k < n) :
    ∃ A c, w.cell? ⟨g, k, none⟩ = some (.slice A (xs.getD k []).length c) := by
  obtain ⟨oki, c, hcl, hM, hcc, hok, hbk⟩ := Kd.S_borrow h [] (k : Int) (by omega) (by omega)
  rw [Int.toNat_natCast] at hM hcc hbk
  obtain ⟨ve, rfl, ge⟩ := hM
  obtain ⟨A, c, rfl⟩ := Kd.R_slice ge
  have hv := hcc 0 _ rfl
  rw [Nat.add_zero, show Gd.sz = 1 from rfl, Nat.mul_one, add_plain] at hv
  exact ⟨A, c, hv⟩
/-- The row as far as it is made dearer. -/
def rowAt (r : List Int) (w : Int) (i : Nat) : List Int := (r.take i).map (· + w) ++ r.drop i
theorem rowAt_len (r : List Int) (w : Int) (i : Nat) (hi : i ≤ r.length) : (rowAt r w i).length = r.length := by unfold rowAt; simp; omega
theorem rowAt_zero (r : List Int) (w : Int) : rowAt r w 0 = r := by simp [rowAt]
theorem rowAt_end (r : List Int) (w : Int) : rowAt r w r.length = r.map (· + w) := by simp [rowAt]
theorem rowAt_get (r : List Int) (w : Int) (i : Nat) (hi : i < r.length) : (rowAt r w i).getD i 0 = r.getD i 0 := by
  unfold rowAt
  rw [List.getD_eq_getElem?_getD, List.getElem?_append_right (by simp; omega)]
  simp [List.getD_eq_getElem?_getD, Nat.min_eq_left (Nat.le_of_lt hi)]
theorem rowAt_set (r : List Int) (w : Int) (i : Nat) (hi : i < r.length) : (rowAt r w i).set i (r.getD i 0 + w) = rowAt r w (i + 1) := by
  unfold rowAt
  have hl : ((r.take i).map (· + w)).length = i := by simp; omega
  have hd : r.drop i = r[i] :: r.drop (i + 1) := List.drop_eq_getElem_cons hi
  have hg : r.getD i 0 = r[i] := by simp [hi]
  rw [List.set_append_right _ _ (by omega), hl, Nat.sub_self, hd, List.set_cons_zero, hg, List.take_succ_eq_append_getElem hi, List.map_append, List.append_assoc]
  rfl
theorem set_self (C : List (List Int)) (k : Nat) (hk : k < C.length) : C.set k (C.getD k []) = C := by
  have e : C.getD k [] = C[k] := by simp [hk]
  rw [e, List.set_getElem_self]
theorem set_get (C : List (List Int)) (k : Nat) (r : List Int) (hk : k < C.length) : (C.set k r).getD k [] = r := by simp [hk]

/-- match.Assign of costs that are right. -/
theorem asgM (A0 : Option Addr) (c0 : Nat) (l0 : List (List Int)) (w : World) (hr : right l0 = true) (hr0 : Kd.C Gd w A0 l0.length l0) (hc0 : l0.length ≤ c0) :
    Calls Try.prog 15 #[.slice A0 l0.length c0] w fun e w' => ∃ A c, e = .returned (.tuple #[.slice A (pick l0 0).length c, .int .i64 (best l0 0), .bool true]) ∧ Kd.C (Kd.int .i64) w' A (pick l0 0).length (pick l0 0) ∧ (pick l0 0).length ≤ c ∧ Below w.heap.size w w' := by
  refine (assign_calls A0 c0 l0 w hr0 hc0).mono ?_
  have ha : assign l0 = (pick l0 0, best l0 0, true) := by unfold assign; rw [if_pos hr]
  rw [ha]
  rintro e w' ⟨v, rfl, hv, hb⟩
  obtain ⟨A, c, rfl⟩ := Kd.R_slice hv
  have h := Kd.R_reads' hv
  exact ⟨A, c, rfl, h.2.2, h.2.1, hb⟩
theorem best_nonneg {m : Nat} {c : List (List Int)} (hc : c.length ≤ 12) (hcm : c.length ≤ m) (h : ∀ r ∈ c, RowC m r) : 0 ≤ best c 0 ∧ best c 0 ≤ 12000000 := by
  obtain ⟨ks, p1, f1, t1, b1, a1⟩ := chosen hc hcm h
  have h2 := tot_le (m := m) c ks (good_rowc h)
  have h3 : 0 ≤ tot c ks := by
    have : ∀ (rs : List (List Int)) (ks : List Nat), Good m rs → 0 ≤ tot rs ks := by
      intro rs
      induction rs with
      | nil => intro ks _; simp [tot]
      | cons r rs ih =>
        intro ks hg
        cases ks with
        | nil => simp [tot]
        | cons k ks =>
          have h4 := ih ks (fun r hr => hg r (by simp [hr]))
          have h5 := (hg r (by simp)).2 k
          show 0 ≤ r.getD k 0 + tot rs ks
          omega
    exact this c ks (good_rowc h)
  omega
theorem below_set3 {B : Nat} {w W : World} {g j : Nat} {v : Value} (h : Below B w W) (hg : B ≤ g) : Below B w (W.setCell ⟨g, j, none⟩ v) := h.setCell hg _
/-- One row, taken out (to be appended to) and put back. -/
theorem S_out {w : World} {base : Nat} {ok : Nat → Prop} {g n cap : Nat} {xs : List (List Int)} (h : Kd.S Gd 22 w base ok (.slice (some ⟨g, 0, none⟩) n cap) xs) (k : Nat) (hk : k < n) :
    ∃ (oki : Nat → Prop) (A : Option Addr) (c : Nat), w.cell? ⟨g, k, none⟩ = some (.slice A (xs.getD k []).length c) ∧ Kd.R (Kd.int .i64) 3 w base oki (.slice A (xs.getD k []).length c) (xs.getD k []) ∧
      ∀ (W w7 : World) (v1 : Value) (r' : List Int), Below w.heap.size w W → Kd.R (Kd.int .i64) 3 w7 base (fun q => oki q ∨ ok q ∧ W.heap.size ≤ q) v1 r' → W.grownBy w7 (Value.slice A (xs.getD k []).length c).ownBlock →
        w7.cell? ⟨g, k, none⟩ = some (.slice A (xs.getD k []).length c) ∧ w7.frozen? ⟨g, k, none⟩ = false ∧ Kd.S Gd 22 (w7.setCell ⟨g, k, none⟩ v1) base ok (.slice (some ⟨g, 0, none⟩) n cap) (xs.set k r') := by
  obtain ⟨oki, c0, hcl, hM, hcc, _, hoki, hH⟩ := Kd.S_elem h [] (k : Int) (by omega) (by omega)
  rw [Int.toNat_natCast] at hM hcc
  obtain ⟨ve, rfl, ge⟩ := hM
  generalize hr : xs.getD k [] = r at *
  obtain ⟨A, c, rfl⟩ := Kd.R_slice ge
  have hv := hcc 0 _ rfl
  rw [Nat.add_zero, show Gd.sz = 1 from rfl, Nat.mul_one] at hv
  refine ⟨oki, A, c, hv, ge, fun W w7 v1 r' hb ho hg => ?_⟩
  have HH := Kd.H_grown (Kd.H_widen (Kd.H_below hH hb)) hg (fun q e => .inl (ge.1 q e))
  obtain ⟨h1, h2⟩ := Kd.H_at HH (by omega) (by omega)
  have h1 := h1 0 _ rfl
  have h2 := h2 0
  rw [Nat.add_zero, show Gd.sz = 1 from rfl, Nat.mul_one, Int.toNat_natCast] at h1 h2
  have HP := Kd.S_seg0 HH (by omega) (by omega) (seg := [v1]) (j := 0) (show 1 ≤ 1 from by decide) (x' := r') (Kd.M_row ho) (fun _ hk => hk)
  simp only [show Gd.sz = 1 from rfl, Nat.mul_one, Nat.add_zero, Int.toNat_natCast] at HP
  exact ⟨h1, h2, HP.1⟩
/-- The third grid as far as it has been made wider. -/
def Wide (C E : List (List Int)) (i : Nat) : Prop := E.length = C.length ∧ ∀ j, j < C.length → (i ≤ j → E.getD j [] = C.getD j []) ∧ (j < i → ∃ v : Int, 0 ≤ v ∧ v ≤ 60 ∧ E.getD j [] = C.getD j [] ++ [v])
theorem wide_zero (C : List (List Int)) : Wide C C 0 := ⟨rfl, fun j hj => ⟨fun _ => rfl, fun h => absurd h (by omega)⟩⟩
theorem wide_succ {C E : List (List Int)} {i : Nat} (h : Wide C E i) (hi : i < C.length) {v : Int} (h0 : 0 ≤ v) (h1 : v ≤ 60) : Wide C (E.set i (E.getD i [] ++ [v])) (i + 1) := by
  refine ⟨by simpa using h.1, fun j hj => ?_⟩
  obtain ⟨a, b⟩ := h.2 j hj
  have hg : (E.set i (E.getD i [] ++ [v])).getD j [] = if j = i then E.getD i [] ++ [v] else E.getD j [] := by
    by_cases e : j = i
    · subst e
      have := h.1
      simp [show j < E.length by omega]
    · rw [if_neg e]
      simp [List.getD_eq_getElem?_getD, List.getElem?_set, Ne.symm e]
  rw [hg]
  refine ⟨fun hij => by rw [if_neg (by omega)]; exact a (by omega), fun hij => ?_⟩
  by_cases e : j = i
  · subst e
    rw [if_pos rfl, a (Nat.le_refl _)]
    exact ⟨v, h0, h1, rfl⟩
  · rw [if_neg e]
    exact b (by omega)

set_option maxRecDepth 100000 in
set_option maxHeartbeats 4000000 in
theorem more_calls (a0 a1 : Int) (A2 : Option Addr) (c2 : Nat) (l2 : List Int) (a3 a4 a5 : Int) (A6 : Option Addr) (c6 : Nat) (l6 : List Int) (w : World) (hr2 : Kd.C (Kd.int .i64) w A2 l2.length l2) (hc2 : l2.length ≤ c2)
    (hr6 : Kd.C (Kd.int .i64) w A6 l6.length l6) (hc6 : l6.length ≤ c6) :
    Calls Try.prog 6 #[.int .i64 a0, .int .i64 a1, .slice A2 l2.length c2, .int .i64 a3, .int .i64 a4, .int .i64 a5, .slice A6 l6.length c6] w fun e w' => e = .returned (.bool true) ∧ Below w.heap.size w w' := by
  have HR2 := Aside0.mk hr2
  have HR6 := Aside0.mk hr6
  clear hr2 hr6
  obtain ⟨C, hC⟩ : ∃ C, C = costs a0 a1 l2 a3 := ⟨_, rfl⟩
  have HC := Aside0.mk hC
  have HCo := Aside0.mk (fun W (h : Kd.C (Kd.int .i64) W A2 l2.length l2) => costs_calls a0 a1 A2 c2 l2 a3 W h hc2)
  rw [← hC] at HCo
  clear hC
  go_enter Try.func6, Try.ntmps6
  go_wp2_with fail
  (with_reducible refine (known_calls _).mono ?_)
  rintro e w0 ⟨rfl, hb0⟩
  have HB0 := Aside0.mk hb0
  have HR2 := Aside0.mk (Kd.C_below HR2.out hb0)
  clear hb0
  go_wp2_with fail
  (with_reducible refine (HCo.out _ HR2.out).mono ?_)
  rintro e w1 ⟨v1, rfl, hs1, hb1⟩
  have HS1 := Aside0.mk hs1
  have HB1 := Aside0.mk hb1
  have HR2 := Aside0.mk (Kd.C_below HR2.out hb1)
  clear hs1 hb1
  go_wp2_with fail
  (with_reducible refine (HCo.out _ HR2.out).mono ?_)
  rintro e w2 ⟨v2, rfl, hs2, hb2⟩
  have HS2 := Aside0.mk hs2
  have HB2 := Aside0.mk hb2
  have HR2 := Aside0.mk (Kd.C_below HR2.out hb2)
  clear hs2 hb2
  go_wp2_with fail
  (with_reducible refine (HCo.out _ HR2.out).mono ?_)
  rintro e w3 ⟨v3, rfl, hs3, hb3⟩
  have HS3 := Aside0.mk hs3
  have HB3 := Aside0.mk hb3
  clear hs3 hb3
  obtain ⟨A1, c1, rfl⟩ := Kd.S_slice HS1.out
  obtain ⟨Ad, cd, rfl⟩ := Kd.S_slice HS2.out
  obtain ⟨Ae, ce, rfl⟩ := Kd.S_slice HS3.out
  by_cases hn0 : C.length = 0
  · have e0 : ((C.length : Int) == 0) = true := by rw [hn0]; rfl
    go_wp2_with fail
    go_ret
    exact ⟨rfl, HB0.out.trans (((HB1.out.mono HB0.out.size).trans ((HB2.out.mono (Nat.le_trans HB0.out.size HB1.out.size)).trans (HB3.out.mono (Nat.le_trans (Nat.le_trans HB0.out.size HB1.out.size) HB2.out.size)))))⟩
  have e0 : ((C.length : Int) == 0) = false := beq_eq_false_iff_ne.2 (by omega)
  obtain ⟨m, hm, hcm, hc5, hrows⟩ := costs_rows a0 a1 l2 a3
  rw [← HC.out] at hcm hc5 hrows
  have HROWS := Aside0.mk hrows
  clear hrows
  go_wp2_with fail
  (with_reducible refine (withinM a4 (C.length : Int) (by omega) (by omega) _).mono ?_)
  rintro e w4 ⟨k, hk, rfl, hb4⟩
  have HB4 := Aside0.mk hb4
  clear hb4
  go_wp2_with fail
  (with_reducible refine (withinM a5 1000 (by decide) (by decide) _).mono ?_)
  rintro e w5 ⟨z, hz, rfl, hb5⟩
  have HB5 := Aside0.mk hb5
  clear hb5
  have hkn : k < C.length := by omega
  -- the grids' blocks
  obtain ⟨gd, cd', ed, gdb, gdl, cld, hGd⟩ := Kd.S_form HS2.out (by omega)
  injection ed with ed1 ed2 ed3
  subst ed1 ed3
  clear ed2 hGd
  have hs12 := HB2.out.size
  have hs23 := HB3.out.size
  have hs34 := HB4.out.size
  have hs45 := HB5.out.size
  have hs01 := HB1.out.size
  have hs00 := HB0.out.size
  have SD := Aside0.mk (show Kd.S Gd 22 w5 w1.heap.size (fun q => q < w2.heap.size) (.slice (some ⟨gd, 0, none⟩) C.length cd) C from
    Kd.S_below (Kd.S_below (Kd.S_below (Kd.S_mono (Kd.S_bound HS2.out) (fun q hq => hq.2.2.1)) HB3.out) HB4.out) HB5.out)
  have SE := Aside0.mk (show Kd.S Gd 22 w5 w2.heap.size (fun q => w2.heap.size ≤ q ∧ q < w3.heap.size) (.slice Ae C.length ce) C from
    Kd.S_below (Kd.S_below (Kd.S_mono (Kd.S_bound HS3.out) (fun q hq => ⟨hq.2.1, hq.2.2.1⟩)) HB4.out) HB5.out)
  have BC := Aside0.mk (show Below w1.heap.size w1 w5 from HB2.out.trans ((HB3.out.mono hs12).trans ((HB4.out.mono (by omega)).trans (HB5.out.mono (by omega)))))
  have BW := Aside0.mk (show Below w.heap.size w w1 from HB0.out.trans (HB1.out.mono (by omega)))
  obtain ⟨R0, hR0⟩ : ∃ R0, R0 = C.getD k [] := ⟨_, rfl⟩
  have hR0m : R0.length = m := by
    rw [hR0]
    have e : C.getD k [] = C[k] := by simp [hkn]
    rw [e]; exact (HROWS.out _ (List.getElem_mem hkn)).1
  have hR0b : ∀ i, 0 ≤ R0.getD i 0 ∧ R0.getD i 0 ≤ 1000000 := fun i => by
    rw [hR0]
    have e : C.getD k [] = C[k] := by simp [hkn]
    rw [e]; exact (good_rowc HROWS.out _ (List.getElem_mem hkn)).2 i
  have HR0 := Aside0.mk hR0
  have HRm := Aside0.mk hR0m
  have HRb := Aside0.mk hR0b
  clear hR0 hR0m hR0b
  have qk : ((k : Int) < (C.length : Int)) = True := eq_true hk
  have qk' : (k < C.length) = True := eq_true hkn
  have HZ := Aside0.mk hz
  have HIst := Aside0.mk (show Kd.S Gd 22 w5 w1.heap.size (fun q => q < w2.heap.size) (.slice (some ⟨gd, 0, none⟩) C.length cd) (C.set k (rowAt R0 z 0)) ∧ KeepO w1.heap.size w2.heap.size w5 w5 from ⟨by
    rw [rowAt_zero, HR0.out, set_self C k hkn]; exact SD.out, KeepO.refl _ _ _⟩)
  go_wp2_with fail
  go_loopw [20] (fun v20 wr => ∃ i : Nat, v20 = .int .i64 (i : Int) ∧ i ≤ m ∧ Aside0 (Kd.S Gd 22 wr w1.heap.size (fun q => q < w2.heap.size) (.slice (some ⟨gd, 0, none⟩) C.length cd) (C.set k (rowAt R0 z i)) ∧ KeepO w1.heap.size w2.heap.size w5 wr))
    (fun p _ => m - (intOf p).toNat)
  case atStart => exact ⟨0, rfl, by omega, HIst⟩
  case round =>
    obtain ⟨i, rfl, hi, HI⟩ := hrel
    have hlen := rowAt_len R0 z i (by rw [HRm.out]; exact hi)
    rw [HRm.out] at hlen
    have hsg := set_get C k (rowAt R0 z i) hkn
    by_cases hlt : i < m
    · have hd := Aside0.mk (Kd.S_drew HI.out.1)
      obtain ⟨gk, ck, hgb, hgl, hgo, hx, hy, hf, hput⟩ := S_put HI.out.1 k hkn i (by rw [hsg, hlen]; exact hlt)
      obtain ⟨gk', ck', _, _, _, hx', _, _, hput'⟩ := S_put hd.out k hkn i (by rw [hsg, hlen]; exact hlt)
      rw [hsg, hlen] at hx hx'
      rw [hsg, rowAt_get R0 z i (by rw [HRm.out]; exact hlt)] at hy
      have eg : gk = gk' ∧ ck = ck' := by
        have h1 : wr.drew.cell? ⟨gd, k, none⟩ = wr.cell? ⟨gd, k, none⟩ := rfl
        rw [h1, hx] at hx'
        injection hx' with h2
        injection h2 with h3 h4 h5
        injection h3 with h6
        injection h6 with h7
        exact ⟨h7, h5⟩
      obtain ⟨rfl, rfl⟩ := eg
      clear hx'
      have HP := Aside0.mk (hput' (R0.getD i 0 + z))
      have HN := Aside0.mk (HI.out.2.drew.set (j := i) (v := .int .i64 (R0.getD i 0 + z)) hgb hgo)
      have hxb := HRb.out i
      obtain ⟨x, hxe⟩ : ∃ x, x = R0.getD i 0 := ⟨_, rfl⟩
      rw [← hxe] at hy hxb HP HN
      have HXE := Aside0.mk hxe
      clear hxe hput hput'
      have qi : ((i : Int) < (m : Int)) = True := eq_true (by omega)
      have qd : decide ((i : Int) < (m : Int)) = true := decide_eq_true (by omega)
      have hwx : wrap64 (x + (z : Int)) = x + (z : Int) := wrap_small _ (by omega) (by omega)
      go_wp2_with fail
      refine start_ (n := 16) (S := fun w' => w'.cell? ⟨gd, k, none⟩ = some (.slice (some ⟨gk, 0, none⟩) m ck) ∧ w'.cell? ⟨gk, i, none⟩ = some (.int .i64 x)) (ds := [15]) #[false, false, false, false, false, false, false, false, false, false, false, false, false, false, false, false] (by kernel_rfl) rfl rfl ⟨hx, hy⟩ (fun hHeld => ?_)
      refine pure_ (i := 0) (N := some 67) (v := ?_) (a' := ?_) #[true, false, false, false, false, false, false, false, false, false, false, false, false, false, false, false] rfl rfl (by kernel_rfl) (fun _ _ _ h => h) (Or.inl ⟨by rfl, ?_⟩) ?_ ?_
      rotate_left
      · intro w'
        go_simp
        with_reducible rfl
      rotate_left
      · simp only [Act.put, List.setIfInBounds_toArray, List.set_cons_zero, List.set_cons_succ, i64_w, i32_w]
        rfl
      refine pure_ (i := 1) (N := some 68) (v := ?_) (a' := ?_) #[true, true, false, false, false, false, false, false, false, false, false, false, false, false, false, false] rfl rfl (by kernel_rfl) (fun _ _ _ h => h) (Or.inl ⟨by rfl, ?_⟩) ?_ ?_
      rotate_left
      · intro w'
        go_simp
        with_reducible rfl
      rotate_left
      · simp only [Act.put, List.setIfInBounds_toArray, List.set_cons_zero, List.set_cons_succ, i64_w, i32_w]
        rfl
      refine pure_ (i := 2) (N := some 69) (v := ?_) (a' := ?_) #[true, true, true, false, false, false, false, false, false, false, false, false, false, false, false, false] rfl rfl (by kernel_rfl) (fun _ _ _ h => h) (Or.inl ⟨by rfl, ?_⟩) ?_ ?_
      rotate_left
      · intro w'
        go_simp
        with_reducible rfl
      rotate_left
      · simp only [Act.put, List.setIfInBounds_toArray, List.set_cons_zero, List.set_cons_succ, i64_w, i32_w]
        rfl
      refine take_ (i := 3) (N := some 70) (v := ?_) (a' := ?_) #[true, true, true, true, false, false, false, false, false, false, false, false, false, false, false, false] rfl rfl (by kernel_rfl) (fun _ _ _ h => h) (Or.inl ⟨by rfl, ?_⟩) hHeld ?_ ?_
      rotate_left
      · intro w' s0
        (try obtain ⟨s0, s1⟩ := s0)
        go_simp
        with_reducible rfl
      rotate_left
      · simp only [Act.put, List.setIfInBounds_toArray, List.set_cons_zero, List.set_cons_succ, i64_w, i32_w]
        rfl
      refine pure_ (i := 4) (N := some 71) (v := ?_) (a' := ?_) #[true, true, true, true, true, false, false, false, false, false, false, false, false, false, false, false] rfl rfl (by kernel_rfl) (fun _ _ _ h => h) (Or.inl ⟨by rfl, ?_⟩) ?_ ?_
      rotate_left
      · intro w'
        go_simp
        with_reducible rfl
      rotate_left
      · simp only [Act.put, List.setIfInBounds_toArray, List.set_cons_zero, List.set_cons_succ, i64_w, i32_w]
        rfl
      refine pure_ (i := 5) (N := some 72) (v := ?_) (a' := ?_) #[true, true, true, true, true, true, false, false, false, false, false, false, false, false, false, false] rfl rfl (by kernel_rfl) (fun _ _ _ h => h) (Or.inl ⟨by rfl, ?_⟩) ?_ ?_
      rotate_left
      · intro w'
        go_simp
        with_reducible rfl
      rotate_left
      · simp only [Act.put, List.setIfInBounds_toArray, List.set_cons_zero, List.set_cons_succ, i64_w, i32_w]
        rfl
      refine pure_ (i := 6) (N := some 73) (v := ?_) (a' := ?_) #[true, true, true, true, true, true, true, false, false, false, false, false, false, false, false, false] rfl rfl (by kernel_rfl) (fun _ _ _ h => h) (Or.inl ⟨by rfl, ?_⟩) ?_ ?_
      rotate_left
      · intro w'
        go_simp
        with_reducible rfl
      rotate_left
      · simp only [Act.put, List.setIfInBounds_toArray, List.set_cons_zero, List.set_cons_succ, i64_w, i32_w]
        rfl
      refine pure_ (i := 7) (N := some 74) (v := ?_) (a' := ?_) #[true, true, true, true, true, true, true, true, false, false, false, false, false, false, false, false] rfl rfl (by kernel_rfl) (fun _ _ _ h => h) (Or.inl ⟨by rfl, ?_⟩) ?_ ?_
      rotate_left
      · intro w'
        go_simp
        with_reducible rfl
      rotate_left
      · simp only [Act.put, List.setIfInBounds_toArray, List.set_cons_zero, List.set_cons_succ, i64_w, i32_w]
        rfl
      refine take_ (i := 8) (N := some 75) (v := ?_) (a' := ?_) #[true, true, true, true, true, true, true, true, true, false, false, false, false, false, false, false] rfl rfl (by kernel_rfl) (fun _ _ _ h => h) (Or.inl ⟨by rfl, ?_⟩) hHeld ?_ ?_
      rotate_left
      · intro w' s0
        (try obtain ⟨s0, s1⟩ := s0)
        go_simp
        with_reducible rfl
      rotate_left
      · simp only [Act.put, List.setIfInBounds_toArray, List.set_cons_zero, List.set_cons_succ, i64_w, i32_w]
        rfl
      refine pure_ (i := 9) (N := some 76) (v := ?_) (a' := ?_) #[true, true, true, true, true, true, true, true, true, true, false, false, false, false, false, false] rfl rfl (by kernel_rfl) (fun _ _ _ h => h) (Or.inl ⟨by rfl, ?_⟩) ?_ ?_
      rotate_left
      · intro w'
        go_simp
        with_reducible rfl
      rotate_left
      · simp only [Act.put, List.setIfInBounds_toArray, List.set_cons_zero, List.set_cons_succ, i64_w, i32_w]
        rfl
      refine pure_ (i := 10) (N := some 77) (v := ?_) (a' := ?_) #[true, true, true, true, true, true, true, true, true, true, true, false, false, false, false, false] rfl rfl (by kernel_rfl) (fun _ _ _ h => h) (Or.inl ⟨by rfl, ?_⟩) ?_ ?_
      rotate_left
      · intro w'
        go_simp
        with_reducible rfl
      rotate_left
      · simp only [Act.put, List.setIfInBounds_toArray, List.set_cons_zero, List.set_cons_succ, i64_w, i32_w]
        rfl
      refine take_ (i := 11) (N := some 78) (v := ?_) (a' := ?_) #[true, true, true, true, true, true, true, true, true, true, true, true, false, false, false, false] rfl rfl (by kernel_rfl) (fun _ _ _ h => h) (Or.inl ⟨by rfl, ?_⟩) hHeld ?_ ?_
      rotate_left
      · intro w' s0
        (try obtain ⟨s0, s1⟩ := s0)
        go_simp
        with_reducible rfl
      rotate_left
      · simp only [Act.put, List.setIfInBounds_toArray, List.set_cons_zero, List.set_cons_succ, i64_w, i32_w]
        rfl
      refine pure_ (i := 12) (N := some 79) (v := ?_) (a' := ?_) #[true, true, true, true, true, true, true, true, true, true, true, true, true, false, false, false] rfl rfl (by kernel_rfl) (fun _ _ _ h => h) (Or.inl ⟨by rfl, ?_⟩) ?_ ?_
      rotate_left
      · intro w'
        go_simp
        with_reducible rfl
      rotate_left
      · simp only [Act.put, List.setIfInBounds_toArray, List.set_cons_zero, List.set_cons_succ, i64_w, i32_w]
        rfl
      refine pure_ (i := 13) (N := some 80) (v := ?_) (a' := ?_) #[true, true, true, true, true, true, true, true, true, true, true, true, true, true, false, false] rfl rfl (by kernel_rfl) (fun _ _ _ h => h) (Or.inl ⟨by rfl, ?_⟩) ?_ ?_
      rotate_left
      · intro w'
        go_simp
        with_reducible rfl
      rotate_left
      · simp only [Act.put, List.setIfInBounds_toArray, List.set_cons_zero, List.set_cons_succ, i64_w, i32_w]
        rfl
      refine pure_ (i := 14) (N := some 81) (v := ?_) (a' := ?_) #[true, true, true, true, true, true, true, true, true, true, true, true, true, true, true, false] rfl rfl (by kernel_rfl) (fun _ _ _ h => h) (Or.inl ⟨by rfl, ?_⟩) ?_ ?_
      rotate_left
      · intro w'
        go_simp
        with_reducible rfl
      rotate_left
      · simp only [Act.put, List.setIfInBounds_toArray, List.set_cons_zero, List.set_cons_succ, i64_w, i32_w]
        rfl
      refine last_ (i := 15) (N := none) #[true, true, true, true, true, true, true, true, true, true, true, true, true, true, true, true] rfl rfl (by kernel_rfl) (by decide) (fun K hK => ?_)
      refine skip_ (w1 := ?_) (by rfl) rfl ?_ ?_
      rotate_left
      · go_simp
        rfl
      refine hK.out _ _ ?_
      clear hK K
      refine done_ (by kernel_rfl) ?_
      go_wp2_with fail
      go_roundw
      case rel => exact ⟨i + 1, congrArg _ (Int.natCast_succ i).symm, by omega, ⟨by
        have h := HP.out
        rw [hsg, HXE.out, rowAt_set R0 z i (by rw [HRm.out]; exact hlt), List.set_set, ← HXE.out] at h
        exact h, HN.out⟩⟩
      case measure => simp only [intOf]; omega
    · obtain rfl : i = m := by omega
      obtain ⟨Ar, cr, hxr⟩ := S_row HI.out.1 k hkn
      rw [hsg, hlen] at hxr
      have hD : C.set k (rowAt R0 z i) = dearer C k z := by
        unfold dearer
        rw [← HR0.out, ← HRm.out, rowAt_end]
      have SD6 := Aside0.mk (show Kd.S Gd 22 wr w1.heap.size (fun q => q < w2.heap.size) (.slice (some ⟨gd, 0, none⟩) C.length cd) (dearer C k z) from by rw [← hD]; exact HI.out.1)
      have hsz6 := HI.out.2.size
      have SE6 := Aside0.mk (show Kd.S Gd 22 wr w2.heap.size (fun q => w2.heap.size ≤ q) (.slice Ae C.length ce) C from
        Kd.S_mono (Kd.S_move SE.out (fun q hq => HI.out.2.block q (by omega) (by omega))) (fun q hq => hq.1))
      have BC6 := Aside0.mk (show Below w1.heap.size w1 wr from BC.out.trans (HI.out.2.below (by omega)))
      have qd : decide ((i : Int) < (i : Int)) = false := decide_eq_false (by omega)
      clear hsg hD HI HIst
      go_wp2_with fail
      obtain ⟨ge, ce', ee, geb, gel, cle, hGe⟩ := Kd.S_form SE6.out (by omega)
      injection ee with ee1 ee2 ee3
      subst ee1 ee3
      clear ee2 hGe
      clear hxr qd
      have HJst := Aside0.mk (show ∃ E, Wide C E 0 ∧ Kd.S Gd 22 wr w2.heap.size (fun q => w2.heap.size ≤ q) (.slice (some ⟨ge, 0, none⟩) C.length ce) E ∧ Below w2.heap.size wr wr from ⟨C, wide_zero C, SE6.out, Below.refl _ _⟩)
      generalize wr = w6 at *
      go_loopw [21] (fun v21 wr => ∃ j : Nat, v21 = .int .i64 (j : Int) ∧ j ≤ C.length ∧ Aside0 (∃ E, Wide C E j ∧ Kd.S Gd 22 wr w2.heap.size (fun q => w2.heap.size ≤ q) (.slice (some ⟨ge, 0, none⟩) C.length ce) E ∧ Below w2.heap.size w6 wr))
        (fun p _ => C.length - (intOf p).toNat)
      case atStart => exact ⟨0, rfl, by omega, HJst⟩
      case round =>
        obtain ⟨j, rfl, hj, HJ⟩ := hrel
        obtain ⟨E, hE, hSE, hBE⟩ := HJ.out
        have HE := Aside0.mk hE
        have HSE := Aside0.mk hSE
        have HBE := Aside0.mk hBE
        clear HJ hE hSE hBE HJst
        by_cases hjl : j < C.length
        · have qj : ((j : Int) < (C.length : Int)) = True := eq_true (by omega)
          have qj' : (j < C.length) = True := eq_true hjl
          have qdj : decide ((j : Int) < (C.length : Int)) = true := decide_eq_true (by omega)
          by_cases hjs : j < l6.length
          · have ql : ((j : Int) < (l6.length : Int)) = True := eq_true (by omega)
            have ql' : (j < l6.length) = True := eq_true hjs
            have qdl : decide ((j : Int) < (l6.length : Int)) = true := decide_eq_true (by omega)
            have HR6' := Kd.C_below HR6.out (BW.out.trans ((BC6.out.mono (by omega)).trans (HBE.out.mono (by omega))))
            obtain ⟨a6, e6, hx6⟩ := Kd.at_int HR6' (j : Int) (by omega) (by omega)
            subst e6
            rw [Int.toNat_natCast] at hx6
            clear HR6'
            go_wp2_with fail
            (with_reducible refine (withinM (rd l6 (j : Int)) 60 (by decide) (by decide) _).mono ?_)
            rintro e w7 ⟨y, hy, rfl, hb7⟩
            have HS7 := Aside0.mk (Kd.S_below HSE.out hb7)
            have HB7 := Aside0.mk (HBE.out.trans (hb7.mono (Nat.le_trans (by omega) HBE.out.size)))
            clear hb7
            have hEl : E.getD j [] = C.getD j [] := (HE.out.2 j hjl).1 (Nat.le_refl _)
            have hrl : (E.getD j []).length ≤ 9 := by
              rw [hEl]
              have e : C.getD j [] = C[j] := by simp [hjl]
              rw [e, (HROWS.out _ (List.getElem_mem hjl)).1]; exact hm
            have HN := Aside0.mk (wide_succ HE.out hjl (v := ((y : Nat) : Int)) (by omega) (by omega))
            obtain ⟨oki, Ak, ckj, hxk, hRk, hback⟩ := S_out HS7.out j hjl
            generalize hrr : E.getD j [] = r at *
            have UU := Aside0.mk hRk
            have HBK := Aside0.mk (fun w8 v1 => hback w7 w8 v1 (r ++ [((y : Nat) : Int)]) (Below.refl _ _))
            clear hRk hback hEl
            go_wp2_with (first | ((with_reducible refine gate_builtin (b := .append) (xs := #[.tmp 103, .tmp 105]) rfl ?_); at_builtin; refine Kd.R_append (Kd.int .i64) (w0 := w6) w2.heap.size rfl (.tmp 103) (.tmp 105) 22 3 (.int .i64 0) 8 rfl Try.underlying22 info3 rfl (by decide) (by omega) (.slice Ak r.length ckj) r ((y : Nat) : Int) [.int .i64 ((y : Nat) : Int)] (fun q => oki q ∨ (w2.heap.size ≤ q) ∧ w7.heap.size ≤ q) (fun _ => False) rfl rfl ?aP (fun _ hk => hk.elim) ?aF ?aO ?aB ?aS ?aL ?_; (case aP => exact rfl); (case aB => exact HB7.out); (case aF => exact (fun q hq => .inr ⟨Nat.le_trans (Nat.le_trans (by omega) HB7.out.size) hq, hq⟩)); (case aO => exact (Kd.R_mono UU.out (fun _ hk => .inl hk))); (case aS => exact (Nat.le_trans (by omega) HB7.out.size)); (case aL => omega); intro v8 w8 ho hb hg hat; obtain ⟨A8, c8, e8⟩ := Kd.R_slice ho; subst e8; have HO8 := Aside0.mk ho; have HB8 := Aside0.mk hb; obtain ⟨h81, h82, h83⟩ := HBK.out w8 _ ho hg; have HS8 := Aside0.mk h83; clear ho hb hg hat hxk h83))
            go_roundw
            case rel => exact ⟨j + 1, congrArg _ (Int.natCast_succ j).symm, by omega, ⟨_, HN.out, (by have h := HS8.out; rw [List.length_append] at h; exact h), below_set3 HB8.out geb⟩⟩
            case measure => simp only [intOf]; omega
          · have qdl : decide ((j : Int) < (l6.length : Int)) = false := decide_eq_false (by omega)
            have hEl : E.getD j [] = C.getD j [] := (HE.out.2 j hjl).1 (Nat.le_refl _)
            have hrl : (E.getD j []).length ≤ 9 := by
              rw [hEl]
              have e : C.getD j [] = C[j] := by simp [hjl]
              rw [e, (HROWS.out _ (List.getElem_mem hjl)).1]; exact hm
            have HN := Aside0.mk (wide_succ HE.out hjl (v := ((j : Nat) : Int)) (by omega) (by omega))
            obtain ⟨oki, Ak, ckj, hxk, hRk, hback⟩ := S_out HSE.out j hjl
            generalize hrr : E.getD j [] = r at *
            have UU := Aside0.mk hRk
            have HBK := Aside0.mk (fun w8 v1 => hback wr w8 v1 (r ++ [((j : Nat) : Int)]) (Below.refl _ _))
            clear hRk hback hEl
            go_wp2_with (first | ((with_reducible refine gate_builtin (b := .append) (xs := #[.tmp 103, .tmp 105]) rfl ?_); at_builtin; refine Kd.R_append (Kd.int .i64) (w0 := w6) w2.heap.size rfl (.tmp 103) (.tmp 105) 22 3 (.int .i64 0) 8 rfl Try.underlying22 info3 rfl (by decide) (by omega) (.slice Ak r.length ckj) r ((j : Nat) : Int) [.int .i64 ((j : Nat) : Int)] (fun q => oki q ∨ (w2.heap.size ≤ q) ∧ wr.heap.size ≤ q) (fun _ => False) rfl rfl ?aP (fun _ hk => hk.elim) ?aF ?aO ?aB ?aS ?aL ?_; (case aP => exact rfl); (case aB => exact HBE.out); (case aF => exact (fun q hq => .inr ⟨Nat.le_trans (Nat.le_trans (by omega) HBE.out.size) hq, hq⟩)); (case aO => exact (Kd.R_mono UU.out (fun _ hk => .inl hk))); (case aS => exact (Nat.le_trans (by omega) HBE.out.size)); (case aL => omega); intro v8 w8 ho hb hg hat; obtain ⟨A8, c8, e8⟩ := Kd.R_slice ho; subst e8; have HO8 := Aside0.mk ho; have HB8 := Aside0.mk hb; obtain ⟨h81, h82, h83⟩ := HBK.out w8 _ ho hg; have HS8 := Aside0.mk h83; clear ho hb hg hat hxk h83))
            go_roundw
            case rel => exact ⟨j + 1, congrArg _ (Int.natCast_succ j).symm, by omega, ⟨_, HN.out, (by have h := HS8.out; rw [List.length_append] at h; exact h), below_set3 HB8.out geb⟩⟩
            case measure => simp only [intOf]; omega
        · obtain rfl : j = C.length := by omega
          have qdj : decide ((C.length : Int) < (C.length : Int)) = false := decide_eq_false (by omega)
          go_wp2_with fail
          have hrt : right C = true := right_of (by omega) (by omega) hcm HROWS.out
          have hrb : ∀ r ∈ C, ∀ v ∈ r, v ≤ 1000 := fun r hr v hv => by
            rw [HC.out] at hr
            have := costs_small a0 a1 l2 a3 r hr v hv
            omega
          have hzz : 0 ≤ (z : Int) ∧ (z : Int) ≤ 1000 := by have := HZ.out; omega
          have hdp := dearer_pick (by omega) hcm HROWS.out hrb hzz hkn
          have hdr := dearer_rows HROWS.out hrb hzz hkn
          have hdl : (dearer C k z).length = C.length := by simp [dearer]
          have hdt : right (dearer C k z) = true := right_of (m := i) (by omega) (by omega) (by omega) hdr
          have hel : E.length = C.length := HE.out.1
          have her : ∀ r ∈ E, RowC (i + 1) r := fun r hr => by
            obtain ⟨j, hj, rfl⟩ := List.mem_iff_getElem.1 hr
            obtain ⟨v, v0, v1, hv⟩ := (HE.out.2 j (by omega)).2 (by omega)
            have e1 : E.getD j [] = E[j] := by simp [hj]
            have e2 : C.getD j [] = C[j]'(by omega) := by simp [show j < C.length by omega]
            rw [e1, e2] at hv
            have hc := HROWS.out _ (List.getElem_mem (show j < C.length by omega))
            rw [hv]
            refine ⟨by rw [List.length_append, hc.1]; rfl, fun x hx => ?_⟩
            rcases List.mem_append.1 hx with hx | hx
            · exact hc.2 x hx
            · rw [List.mem_singleton.1 hx]; omega
          have het : right E = true := right_of (m := i + 1) (by omega) (by omega) (by omega) her
          have heb := wider_best (by omega) hcm HROWS.out hel her (fun j hj => by
            obtain ⟨v, _, _, hv⟩ := (HE.out.2 j hj).2 hj
            exact ⟨v, hv⟩)
          have hbb := best_nonneg (by omega) hcm HROWS.out
          have hsz7 := HBE.out.size
          have HRC := Aside0.mk (show Kd.C Gd wr A1 C.length C from Kd.C_below (Kd.S_reads' HS1.out).2.2 (BC6.out.trans (HBE.out.mono (by omega))))
          have SD7 := Kd.S_move SD6.out (fun q hq => HBE.out.block q hq)
          have HRD := Aside0.mk (Kd.S_reads' SD7)
          have HRE := Aside0.mk (Kd.S_reads' HSE.out)
          have HC1 := Aside0.mk (Kd.S_reads' HS1.out).2.1
          clear SD7
          have HT := Aside0.mk (And.intro hrt (And.intro hdt het))
          have HDP := Aside0.mk hdp
          have HBW := Aside0.mk (show Below w.heap.size w wr from BW.out.trans ((BC6.out.mono (by omega)).trans (HBE.out.mono (by omega))))
          clear hrt hdt het hdp hrb hdr her
          go_wp2_with fail
          (with_reducible refine (asgM A1 c1 C wr HT.out.1 HRC.out HC1.out).mono ?_)
          rintro e w8 ⟨Aa, ca, rfl, hra, hca, hb8⟩
          have HRA := Aside0.mk hra
          have HRD8 := Aside0.mk (Kd.C_below HRD.out.2.2 hb8)
          have HRE8 := Aside0.mk (Kd.C_below HRE.out.2.2 hb8)
          have HB8 := Aside0.mk (HBW.out.trans (hb8.mono (by have := HBW.out.size; omega)))
          clear hra hb8
          have hB := asgM (some ⟨gd, 0, none⟩) cd (dearer C k z) w8 HT.out.2.1 HRD8.out (by rw [hdl]; exact HRD.out.2.1)
          rw [hdl, HDP.out.1, HDP.out.2] at hB
          have HBc := Aside0.mk hB
          clear hB
          go_wp2_with fail
          (with_reducible refine HBc.out.mono ?_)
          rintro e w9 ⟨Ab, cb, rfl, hrb, hcb, hb9⟩
          have HRB := Aside0.mk hrb
          have HRA9 := Aside0.mk (Kd.C_below HRA.out hb9)
          have HRE9 := Aside0.mk (Kd.C_below HRE8.out hb9)
          have HB9 := Aside0.mk (HB8.out.trans (hb9.mono (by have := HB8.out.size; omega)))
          clear hrb hb9
          have hEc := asgM (some ⟨ge, 0, none⟩) ce E w9 HT.out.2.2 HRE9.out (by rw [hel]; exact HRE.out.2.1)
          rw [hel] at hEc
          have HEc := Aside0.mk hEc
          clear hEc
          go_wp2_with fail
          (with_reducible refine HEc.out.mono ?_)
          rintro e w10 ⟨Af, cf, rfl, _, _, hb10⟩
          have HRA10 := Aside0.mk (Kd.C_below HRA9.out hb10)
          have HRB10 := Aside0.mk (Kd.C_below HRB.out hb10)
          have HB10 := Aside0.mk (HB9.out.trans (hb10.mono (by have := HB9.out.size; omega)))
          clear hb10
          have hpl := pick_length C 0
          obtain ⟨bb, hbbe⟩ : ∃ bb, bb = best C 0 := ⟨_, rfl⟩
          obtain ⟨be, hbee⟩ : ∃ be, be = best E 0 := ⟨_, rfl⟩
          rw [← hbbe, ← hbee] at heb
          rw [← hbbe] at hbb
          rw [← hbbe, ← hbee]
          have hwz : wrap64 (bb + (z : Int)) = bb + (z : Int) := wrap_small _ (by omega) (by omega)
          have qle : decide (be ≤ bb) = true := decide_eq_true heb
          have qeq : (bb + (z : Int) == bb + (z : Int)) = true := beq_self_eq_true _
          go_wp2_with fail
          (with_reducible refine (ints_calls Aa ca (pick C 0) Ab cb (pick C 0) w10 HRA10.out hca HRB10.out hcb (by omega)).mono ?_)
          rintro e w11 ⟨rfl, hd11⟩
          have HB11 := Aside0.mk (HB10.out.trans ((below_drawn hd11).mono (by have := HB10.out.size; omega)))
          clear hd11
          have qdd : decide (pick C 0 = pick C 0) = true := decide_eq_true rfl
          rw [qdd]
          go_wp2_with fail
          go_ret
          exact ⟨by show Ending.returned (Value.bool (decide (best E 0 ≤ best C 0))) = _; rw [← hbbe, ← hbee, qle], HB11.out⟩
end Go.Proofs.Ytgnkpahnhhmceaa.Core
