-- Cut by pack.py, a program of this session; not trusted: Lean checks it.
import Derived.Deep.Draws
import Derived.Tactics
import Derived.Tactics2
import Derived.OwnWalk
import Derived.Outline
import Derived.Lib.Walk
import Derived.Test.YtgnkpahnhhmceaaZCol6
/- MatchColumns' walk. -/
namespace Go.Proofs.Ytgnkpahnhhmceaa.Core
open Go Go.RowKit Go.Proofs.YtgnkpahnhhmceaaW.PrintWords Go.Proofs.YtgnkpahnhhmceaaW.PrintLast Go.Proofs.YtgnkpahnhhmceaaW.PrintMore
set_option linter.unusedVariables false
set_option linter.unusedSimpArgs false
def ints (n : Nat) : List Int := (List.range n).map fun (j : Nat) => (j : Int)
theorem ints_succ (n : Nat) : ints (n + 1) = ints n ++ [(n : Int)] := by unfold ints; rw [List.range_succ, List.map_append]; rfl
theorem ints_len (n : Nat) : (ints n).length = n := by simp [ints]
theorem rebuild2 (T A : Array Value) (lo n lo2 n2 : Nat) (hs : T.size = A.size) (ho : ∀ t, ¬ (lo ≤ t ∧ t < lo + n) → ¬ (lo2 ≤ t ∧ t < lo2 + n2) → T[t]? = A[t]?) : T = setM T lo2 n2 (setM T lo n A) := by
  refine rebuild T (setM T lo n A) lo2 n2 (by rw [setM_size]; exact hs) (fun t h => ?_)
  rw [setM_get T lo n A hs.symm t]
  by_cases h1 : lo ≤ t ∧ t < lo + n
  · rw [if_pos h1]
  · rw [if_neg h1]; exact ho t h1 h
theorem getD_of {T : Array Value} {t : Nat} {v : Value} (h : T[t]? = some v) : T.getD t undef = v := by
  rw [Array.getD_eq_getD_getElem?, h]; rfl
set_option maxRecDepth 100000 in
set_option maxHeartbeats 4000000 in
theorem columns_calls (a0 : Int) (A1 : Option Addr) (c1 : Nat) (l1 : List Int) (A2 : Option Addr) (c2 : Nat) (l2 : List Int) (w : World) (hr1 : Kd.C (Kd.int .i64) w A1 l1.length l1) (hc1 : l1.length ≤ c1)
    (hr2 : Kd.C (Kd.int .i64) w A2 l2.length l2) (hc2 : l2.length ≤ c2) :
    Calls Try.prog 11 #[.int .i64 a0, .slice A1 l1.length c1, .slice A2 l2.length c2] w fun e w' => e = .returned (.bool true) ∧ Below w.heap.size w w' := by
  have HR1 := Aside0.mk hr1
  have HR2 := Aside0.mk hr2
  clear hr1 hr2
  go_enter Try.func11, Try.ntmps11
  go_wp2_with fail
  (with_reducible refine (known_calls _).mono ?_)
  rintro e w0 ⟨rfl, hb0⟩
  have HB0 := Aside0.mk hb0
  clear hb0
  go_wp2_with fail
  (with_reducible refine (withinM a0 5 (by decide) (by decide) _).mono ?_)
  rintro e w1 ⟨z, hz, rfl, hb1⟩
  have HB1 := Aside0.mk (HB0.out.trans (hb1.mono HB0.out.size))
  clear hb1
  have hwz : wrap64 (1 + (z : Int)) = 1 + (z : Int) := wrap_small _ (by omega) (by omega)
  go_wp2_with fail
  obtain ⟨k, hkz⟩ : ∃ k : Nat, k = z + 1 := ⟨_, rfl⟩
  have hkI : (1 + (z : Int)) = (k : Int) := by omega
  rw [hkI]
  have hk0 : 0 < k := by omega
  have hk5 : k ≤ 5 := by omega
  clear hwz hkI hkz hz
  have HT0 := Aside0.mk (show Kd.R (Kd.int .i64) 3 w1 w.heap.size (fun _ => True) (.slice none 0 0) (ints 0) ∧ Below w.heap.size w w1 from ⟨Kd.R_nil _ _ _ _ _, HB1.out⟩)
  go_loopw [8, 9] (fun v8 v9 wr => ∃ i : Nat, v9 = .int .i64 (i : Int) ∧ i ≤ k ∧ Aside0 (Kd.R (Kd.int .i64) 3 wr w.heap.size (fun _ => True) v8 (ints i) ∧ Below w.heap.size w wr))
    (fun _ p _ => k - (intOf p).toNat)
  case atStart => exact ⟨0, rfl, by omega, HT0⟩
  case round =>
    obtain ⟨i, rfl, hi, HI⟩ := hrel
    by_cases hlt : i < k
    · have hdk : decide ((i : Int) < (k : Int)) = true := decide_eq_true (by omega)
      have hin := ints_len i
      have HI1 := Aside0.mk HI.out.1
      have HI2 := Aside0.mk HI.out.2
      clear HI HT0
      go_wp2_with (first | ((with_reducible refine gate_builtin (b := .append) (xs := #[.tmp 42, .tmp 44]) rfl ?_); at_builtin; refine Kd.R_append (Kd.int .i64) (w0 := w) w.heap.size rfl (.tmp 42) (.tmp 44) 22 3 (.int .i64 0) 8 rfl Try.underlying22 info3' rfl (by decide) (by omega) _ (ints i) (i : Int) [.int .i64 (i : Int)] (fun _ => True) (fun _ => False) rfl rfl ?aP (fun _ hk => hk.elim) ?aF ?aO ?aB ?aS ?aL ?_; (case aP => exact rfl); (case aB => exact HI2.out); (case aF => exact (fun _ _ => trivial)); (case aO => exact HI1.out); (case aS => exact HI2.out.size); (case aL => omega); intro v10 w10 ho hb hg hat; have HO := Aside0.mk ho; have HB := Aside0.mk hb; clear ho hb hg hat))
      go_roundw
      case rel => exact ⟨i + 1, congrArg _ (Int.natCast_succ i).symm, by omega, ⟨by rw [ints_succ]; exact HO.out, HB.out⟩⟩
      case measure => simp only [intOf]; omega
    · obtain rfl : k = i := by omega
      have hdk : decide ((k : Int) < (k : Int)) = false := decide_eq_false (by omega)
      obtain ⟨gt, ct, ht, hgt, hgl, _, _⟩ := Kd.R_form HI.out.1 (by rw [ints_len]; exact hk0)
      rw [ints_len] at ht
      subst ht
      have HP0 := Aside0.mk (show ∃ T, Per k T ∧ Kd.R (Kd.int .i64) 3 wr w.heap.size (fun _ => True) (.slice (some ⟨gt, 0, none⟩) k ct) T ∧ Below w.heap.size w wr from ⟨ints k, per_range k, HI.out.1, HI.out.2⟩)
      clear HI HT0
      go_wp2_with fail
      clear hdk
      go_loopw [10] (fun v10 wr => ∃ i : Nat, v10 = .int .i64 (i : Int) ∧ i ≤ 20 ∧ Aside0 (∃ T, Per k T ∧ Kd.R (Kd.int .i64) 3 wr w.heap.size (fun _ => True) (.slice (some ⟨gt, 0, none⟩) k ct) T ∧ Below w.heap.size w wr))
        (fun p _ => 20 - (intOf p).toNat)
      case atStart => exact ⟨0, rfl, by omega, HP0⟩
      case round =>
        obtain ⟨i, rfl, hi, HI⟩ := hrel
        obtain ⟨T, hper, hT, hTB⟩ := HI.out
        have HPer := Aside0.mk hper
        have HTr := Aside0.mk hT
        have HTb := Aside0.mk hTB
        clear HI HP0 hper hT hTB
        go_upto_region 10 with (fail)
        go_cut [53] (fun v53 wc => v53 = .bool (decide (i < l2.length ∧ i < 20)) ∧ wc = wr)
        case first =>
          by_cases hl : i < l2.length
          · have q1 : ((i : Int) < (l2.length : Int)) = True := eq_true (by omega)
            have q1' : (i < l2.length) = True := eq_true hl
            have qd1 : decide ((i : Int) < (l2.length : Int)) = true := decide_eq_true (by omega)
            by_cases h20 : i < 20
            · have qd2 : decide ((i : Int) < 20) = true := decide_eq_true (by omega)
              have qd2' : decide (i < 20) = true := decide_eq_true h20
              go_wp2
              go_meet
              case rel => exact ⟨by rw [decide_eq_true (show i < l2.length ∧ i < 20 from ⟨hl, h20⟩)], rfl⟩
            · have qd2 : decide ((i : Int) < 20) = false := decide_eq_false (by omega)
              have qd2' : decide (i < 20) = false := decide_eq_false h20
              go_wp2
              go_meet
              case rel => exact ⟨by rw [decide_eq_false (show ¬ (i < l2.length ∧ i < 20) from fun h => h20 h.2)], rfl⟩
          · have qd1 : decide ((i : Int) < (l2.length : Int)) = false := decide_eq_false (by omega)
            go_wp2
            go_meet
            case rel => exact ⟨by rw [decide_eq_false (show ¬ (i < l2.length ∧ i < 20) from fun h => hl h.1)], rfl⟩
        case rest =>
          obtain ⟨rfl, rfl⟩ := hcut
          by_cases hc : i < l2.length ∧ i < 20
          · have qc : decide (i < l2.length ∧ i < 20) = true := decide_eq_true hc
            obtain ⟨hl, h20⟩ := hc
            have q1 : ((i : Int) < (l2.length : Int)) = True := eq_true (by omega)
            have q1' : (i < l2.length) = True := eq_true hl
            have hC2 := Kd.C_below HR2.out HTb.out
            obtain ⟨a2, e2, hx2⟩ := Kd.at_int hC2 (i : Int) (by omega) (by omega)
            subst e2
            rw [Int.toNat_natCast] at hx2
            clear hC2
            obtain ⟨q, hq⟩ : ∃ q : Nat, q = i % k := ⟨_, rfl⟩
            have hqk : q < k := by rw [hq]; exact Nat.mod_lt _ hk0
            have hkz : ((k : Int) == 0) = false := beq_eq_false_iff_ne.2 (by omega)
            have hkz' : ((k : Int) = 0) = False := eq_false (by omega)
            have hkz2 : (k = 0) = False := eq_false (by omega)
            have hqm : Int.tmod (i : Int) (k : Int) = (q : Int) := by rw [hq]; exact Int.ofNat_tmod i k
            have HQ := Aside0.mk hqm
            clear hqm hq
            rw [qc]
            go_wp2_with fail
            refine start_ (n := 11) (S := fun w' => w'.cell? (a2.add i) = some (.int .i64 (rd l2 (i : Int)))) (ds := []) #[false, false, false, false, false, false, false, false, false, false, false] (by kernel_rfl) rfl rfl hx2 (fun hHeld => ?_)
            refine pure_ (i := 0) (N := some 56) (v := ?_) (a' := ?_) #[true, false, false, false, false, false, false, false, false, false, false] rfl rfl (by kernel_rfl) (fun _ _ _ h => h) (Or.inl ⟨by rfl, ?_⟩) ?_ ?_
            rotate_left
            · intro w'
              go_simp
              with_reducible rfl
            rotate_left
            · simp only [Act.put, List.setIfInBounds_toArray, List.set_cons_zero, List.set_cons_succ, i64_w, i32_w]
              rfl
            refine pure_ (i := 1) (N := some 57) (v := ?_) (a' := ?_) #[true, true, false, false, false, false, false, false, false, false, false] rfl rfl (by kernel_rfl) (fun _ _ _ h => h) (Or.inl ⟨by rfl, ?_⟩) ?_ ?_
            rotate_left
            · intro w'
              go_simp
              with_reducible rfl
            rotate_left
            · simp only [Act.put, List.setIfInBounds_toArray, List.set_cons_zero, List.set_cons_succ, i64_w, i32_w]
              rfl
            refine pure_ (i := 2) (N := some 58) (v := ?_) (a' := ?_) #[true, true, true, false, false, false, false, false, false, false, false] rfl rfl (by kernel_rfl) (fun _ _ _ h => h) (Or.inl ⟨by rfl, ?_⟩) ?_ ?_
            rotate_left
            · intro w'
              go_simp
              with_reducible rfl
            rotate_left
            · simp only [Act.put, List.setIfInBounds_toArray, List.set_cons_zero, List.set_cons_succ, i64_w, i32_w]
              rfl
            refine pure_ (i := 3) (N := some 59) (v := ?_) (a' := ?_) #[true, true, true, true, false, false, false, false, false, false, false] rfl rfl (by kernel_rfl) (fun _ _ _ h => h) (Or.inl ⟨by rfl, ?_⟩) ?_ ?_
            rotate_left
            · intro w'
              go_simp
              with_reducible rfl
            rotate_left
            · simp only [Act.put, List.setIfInBounds_toArray, List.set_cons_zero, List.set_cons_succ, i64_w, i32_w]
              rfl
            refine pure_ (i := 4) (N := some 60) (v := ?_) (a' := ?_) #[true, true, true, true, true, false, false, false, false, false, false] rfl rfl (by kernel_rfl) (fun _ _ _ h => h) (Or.inl ⟨by rfl, ?_⟩) ?_ ?_
            rotate_left
            · intro w'
              go_simp
              with_reducible rfl
            rotate_left
            · simp only [Act.put, List.setIfInBounds_toArray, List.set_cons_zero, List.set_cons_succ, i64_w, i32_w]
              rfl
            refine pure_ (i := 5) (N := some 61) (v := ?_) (a' := ?_) #[true, true, true, true, true, true, false, false, false, false, false] rfl rfl (by kernel_rfl) (fun _ _ _ h => h) (Or.inl ⟨by rfl, ?_⟩) ?_ ?_
            rotate_left
            · intro w'
              go_simp
              with_reducible rfl
            rotate_left
            · simp only [Act.put, List.setIfInBounds_toArray, List.set_cons_zero, List.set_cons_succ, i64_w, i32_w]
              rfl
            refine take_ (i := 6) (N := some 62) (v := ?_) (a' := ?_) #[true, true, true, true, true, true, true, false, false, false, false] rfl rfl (by kernel_rfl) (fun _ _ _ h => h) (Or.inl ⟨by rfl, ?_⟩) hHeld ?_ ?_
            rotate_left
            · intro w' s0
              (try obtain ⟨s0, s1⟩ := s0)
              (try obtain ⟨s1, s2⟩ := s1)
              (try obtain ⟨s2, s3⟩ := s2)
              go_simp
              with_reducible rfl
            rotate_left
            · simp only [Act.put, List.setIfInBounds_toArray, List.set_cons_zero, List.set_cons_succ, i64_w, i32_w]
              rfl
            refine pure_ (i := 7) (N := some 63) (v := ?_) (a' := ?_) #[true, true, true, true, true, true, true, true, false, false, false] rfl rfl (by kernel_rfl) (fun _ _ _ h => h) (Or.inl ⟨by rfl, ?_⟩) ?_ ?_
            rotate_left
            · intro w'
              go_simp
              with_reducible rfl
            rotate_left
            · simp only [Act.put, List.setIfInBounds_toArray, List.set_cons_zero, List.set_cons_succ, i64_w, i32_w]
              rfl
            refine one_ (i := 8) (N := some 64) #[true, true, true, true, true, true, true, true, true, false, false] rfl rfl (by kernel_rfl) (by decide) (fun K hK => ?_)
            refine goes_ Try.func18 (by kernel_rfl) rfl #[.int .i64 (rd l2 (i : Int)), .int .i64 (k : Int)] (by rfl) rfl rfl (by (try simp only [List.map_toArray, List.map_cons, List.map_nil]); first | done | rfl) ?_
            (with_reducible refine (withinM (rd l2 (i : Int)) (k : Int) (by omega) (by omega) _).mono ?_)
            rintro e w11 ⟨b, hb, rfl, hb11⟩
            refine ⟨_, rfl, ?_⟩
            have HT11 := Aside0.mk (Kd.R_below (Kd.R_drew HTr.out) hb11)
            have HB11 := Aside0.mk ((below_drew1 HTb.out).trans (hb11.mono HTb.out.size))
            have hx11 := pw_cell_below hb11 hHeld
            clear hb11
            refine hK.out _ _ hx11 (fun hHeld => ?_)
            clear hK K
            refine norm_ (a' := ?_) ?_ ?_
            rotate_left
            · show Act.put _ (some 64) _ = _
              simp only [Act.put, List.setIfInBounds_toArray, List.set_cons_zero, List.set_cons_succ, i64_w, i32_w]
              rfl
            refine pure_ (i := 9) (N := some 11) (v := ?_) (a' := ?_) #[true, true, true, true, true, true, true, true, true, true, false] rfl rfl (by kernel_rfl) (fun _ _ _ h => h) (Or.inl ⟨by rfl, ?_⟩) ?_ ?_
            rotate_left
            · intro w'
              go_simp
              with_reducible rfl
            rotate_left
            · simp only [Act.put, List.setIfInBounds_toArray, List.set_cons_zero, List.set_cons_succ, i64_w, i32_w]
              rfl
            refine pure_ (i := 10) (N := some 12) (v := ?_) (a' := ?_) #[true, true, true, true, true, true, true, true, true, true, true] rfl rfl (by kernel_rfl) (fun _ _ _ h => h) (Or.inl ⟨by rfl, ?_⟩) ?_ ?_
            rotate_left
            · intro w'
              go_simp
              with_reducible rfl
            rotate_left
            · simp only [Act.put, List.setIfInBounds_toArray, List.set_cons_zero, List.set_cons_succ, i64_w, i32_w]
              rfl
            refine done_ (by kernel_rfl) ?_
            go_wp2_with fail
            rw [HQ.out]
            have hbk : b < k := by omega
            have qq1 : ((q : Int) < (k : Int)) = True := eq_true (by omega)
            have qq2 : (q < k) = True := eq_true hqk
            have qb1 : ((b : Int) < (k : Int)) = True := eq_true (by omega)
            have qb2 : (b < k) = True := eq_true hbk
            have HT12 := Aside0.mk (Kd.R_drew HT11.out)
            have HB12 := Aside0.mk (below_drew1 HB11.out)
            have rdx : ∀ j : Nat, rdOf (0 : Int) T (j : Int) = T.getD j 0 := fun j => by simp [rdOf]
            obtain ⟨hcq, hfq⟩ := Kd.R_celln 0 HT12.out (q : Int) (by omega) (by omega)
            obtain ⟨hcb, hfb⟩ := Kd.R_celln 0 HT12.out (b : Int) (by omega) (by omega)
            obtain ⟨xb, hxb⟩ : ∃ x, x = T.getD b 0 := ⟨_, rfl⟩
            obtain ⟨xq, hxq⟩ : ∃ x, x = T.getD q 0 := ⟨_, rfl⟩
            have hsw := per_swap HPer.out hqk hbk
            rw [← hxb, ← hxq] at hsw
            have HSW := Aside0.mk hsw
            clear hsw
            have hq1 := Kd.R_putn HT12.out (q : Int) xb
            obtain ⟨hcb2, hfb2⟩ := Kd.R_celln 0 hq1 (b : Int) (by omega) (by omega)
            have hq2 := Kd.R_putn hq1 (b : Int) xq
            rw [Int.toNat_natCast] at hcq hfq hcb hfb hcb2 hfb2 hq1 hq2
            rw [Int.toNat_natCast] at hcb2 hfb2 hq2
            rw [rdx] at hcq hcb
            rw [← hxq] at hcq
            rw [← hxb] at hcb
            generalize hxs : rdOf (0 : Int) _ (b : Int) = xs at hcb2
            have HQ1 := Aside0.mk hq1
            have HQ2 := Aside0.mk hq2
            clear hq1 hq2
            clear hx2 hHeld hx11 hxs hxb hxq
            refine start_ (n := 16) (S := fun w' => w'.cell? ⟨gt, b, none⟩ = some (.int .i64 xb) ∧ w'.cell? ⟨gt, q, none⟩ = some (.int .i64 xq)) (ds := [13, 15]) #[false, false, false, false, false, false, false, false, false, false, false, false, false, false, false, false] (by kernel_rfl) rfl rfl ⟨hcb, hcq⟩ (fun hHeld => ?_)
            generalize w11.drew = w12 at HT12 HB12 HQ1 HQ2 hfq hfb hfb2 hcb hcq hcb2 hHeld ⊢
            refine pure_ (i := 0) (N := some 65) (v := ?_) (a' := ?_) #[true, false, false, false, false, false, false, false, false, false, false, false, false, false, false, false] rfl rfl (by kernel_rfl) (fun _ _ _ h => h) (Or.inl ⟨by rfl, ?_⟩) ?_ ?_
            rotate_left
            · intro w'
              go_simp
              with_reducible rfl
            rotate_left
            · simp only [Act.put, List.setIfInBounds_toArray, List.set_cons_zero, List.set_cons_succ, i64_w, i32_w]
              rfl
            refine pure_ (i := 1) (N := some 66) (v := ?_) (a' := ?_) #[true, true, false, false, false, false, false, false, false, false, false, false, false, false, false, false] rfl rfl (by kernel_rfl) (fun _ _ _ h => h) (Or.inl ⟨by rfl, ?_⟩) ?_ ?_
            rotate_left
            · intro w'
              go_simp
              with_reducible rfl
            rotate_left
            · simp only [Act.put, List.setIfInBounds_toArray, List.set_cons_zero, List.set_cons_succ, i64_w, i32_w]
              rfl
            refine pure_ (i := 2) (N := some 67) (v := ?_) (a' := ?_) #[true, true, true, false, false, false, false, false, false, false, false, false, false, false, false, false] rfl rfl (by kernel_rfl) (fun _ _ _ h => h) (Or.inl ⟨by rfl, ?_⟩) ?_ ?_
            rotate_left
            · intro w'
              go_simp
              with_reducible rfl
            rotate_left
            · simp only [Act.put, List.setIfInBounds_toArray, List.set_cons_zero, List.set_cons_succ, i64_w, i32_w]
              rfl
            refine pure_ (i := 3) (N := some 68) (v := ?_) (a' := ?_) #[true, true, true, true, false, false, false, false, false, false, false, false, false, false, false, false] rfl rfl (by kernel_rfl) (fun _ _ _ h => h) (Or.inl ⟨by rfl, ?_⟩) ?_ ?_
            rotate_left
            · intro w'
              go_simp
              with_reducible rfl
            rotate_left
            · simp only [Act.put, List.setIfInBounds_toArray, List.set_cons_zero, List.set_cons_succ, i64_w, i32_w]
              rfl
            refine pure_ (i := 4) (N := some 69) (v := ?_) (a' := ?_) #[true, true, true, true, true, false, false, false, false, false, false, false, false, false, false, false] rfl rfl (by kernel_rfl) (fun _ _ _ h => h) (Or.inl ⟨by rfl, ?_⟩) ?_ ?_
            rotate_left
            · intro w'
              go_simp
              with_reducible rfl
            rotate_left
            · simp only [Act.put, List.setIfInBounds_toArray, List.set_cons_zero, List.set_cons_succ, i64_w, i32_w]
              rfl
            refine pure_ (i := 5) (N := some 70) (v := ?_) (a' := ?_) #[true, true, true, true, true, true, false, false, false, false, false, false, false, false, false, false] rfl rfl (by kernel_rfl) (fun _ _ _ h => h) (Or.inl ⟨by rfl, ?_⟩) ?_ ?_
            rotate_left
            · intro w'
              go_simp
              with_reducible rfl
            rotate_left
            · simp only [Act.put, List.setIfInBounds_toArray, List.set_cons_zero, List.set_cons_succ, i64_w, i32_w]
              rfl
            refine pure_ (i := 6) (N := some 71) (v := ?_) (a' := ?_) #[true, true, true, true, true, true, true, false, false, false, false, false, false, false, false, false] rfl rfl (by kernel_rfl) (fun _ _ _ h => h) (Or.inl ⟨by rfl, ?_⟩) ?_ ?_
            rotate_left
            · intro w'
              go_simp
              with_reducible rfl
            rotate_left
            · simp only [Act.put, List.setIfInBounds_toArray, List.set_cons_zero, List.set_cons_succ, i64_w, i32_w]
              rfl
            refine take_ (i := 7) (N := some 72) (v := ?_) (a' := ?_) #[true, true, true, true, true, true, true, true, false, false, false, false, false, false, false, false] rfl rfl (by kernel_rfl) (fun _ _ _ h => h) (Or.inl ⟨by rfl, ?_⟩) hHeld ?_ ?_
            rotate_left
            · intro w' s0
              (try obtain ⟨s0, s1⟩ := s0)
              (try obtain ⟨s1, s2⟩ := s1)
              (try obtain ⟨s2, s3⟩ := s2)
              go_simp
              with_reducible rfl
            rotate_left
            · simp only [Act.put, List.setIfInBounds_toArray, List.set_cons_zero, List.set_cons_succ, i64_w, i32_w]
              rfl
            refine pure_ (i := 8) (N := some 73) (v := ?_) (a' := ?_) #[true, true, true, true, true, true, true, true, true, false, false, false, false, false, false, false] rfl rfl (by kernel_rfl) (fun _ _ _ h => h) (Or.inl ⟨by rfl, ?_⟩) ?_ ?_
            rotate_left
            · intro w'
              go_simp
              with_reducible rfl
            rotate_left
            · simp only [Act.put, List.setIfInBounds_toArray, List.set_cons_zero, List.set_cons_succ, i64_w, i32_w]
              rfl
            refine pure_ (i := 9) (N := some 74) (v := ?_) (a' := ?_) #[true, true, true, true, true, true, true, true, true, true, false, false, false, false, false, false] rfl rfl (by kernel_rfl) (fun _ _ _ h => h) (Or.inl ⟨by rfl, ?_⟩) ?_ ?_
            rotate_left
            · intro w'
              go_simp
              with_reducible rfl
            rotate_left
            · simp only [Act.put, List.setIfInBounds_toArray, List.set_cons_zero, List.set_cons_succ, i64_w, i32_w]
              rfl
            refine pure_ (i := 10) (N := some 75) (v := ?_) (a' := ?_) #[true, true, true, true, true, true, true, true, true, true, true, false, false, false, false, false] rfl rfl (by kernel_rfl) (fun _ _ _ h => h) (Or.inl ⟨by rfl, ?_⟩) ?_ ?_
            rotate_left
            · intro w'
              go_simp
              with_reducible rfl
            rotate_left
            · simp only [Act.put, List.setIfInBounds_toArray, List.set_cons_zero, List.set_cons_succ, i64_w, i32_w]
              rfl
            refine take_ (i := 11) (N := some 76) (v := ?_) (a' := ?_) #[true, true, true, true, true, true, true, true, true, true, true, true, false, false, false, false] rfl rfl (by kernel_rfl) (fun _ _ _ h => h) (Or.inl ⟨by rfl, ?_⟩) hHeld ?_ ?_
            rotate_left
            · intro w' s0
              (try obtain ⟨s0, s1⟩ := s0)
              (try obtain ⟨s1, s2⟩ := s1)
              (try obtain ⟨s2, s3⟩ := s2)
              go_simp
              with_reducible rfl
            rotate_left
            · simp only [Act.put, List.setIfInBounds_toArray, List.set_cons_zero, List.set_cons_succ, i64_w, i32_w]
              rfl
            refine pure_ (i := 12) (N := some 77) (v := ?_) (a' := ?_) #[true, true, true, true, true, true, true, true, true, true, true, true, true, false, false, false] rfl rfl (by kernel_rfl) (fun _ _ _ h => h) (Or.inl ⟨by rfl, ?_⟩) ?_ ?_
            rotate_left
            · intro w'
              go_simp
              with_reducible rfl
            rotate_left
            · simp only [Act.put, List.setIfInBounds_toArray, List.set_cons_zero, List.set_cons_succ, i64_w, i32_w]
              rfl
            refine last_ (i := 13) (N := none) #[true, true, true, true, true, true, true, true, true, true, true, true, true, true, false, false] rfl rfl (by kernel_rfl) (by decide) (fun K hK => ?_)
            refine skip_ (w1 := ?_) (by rfl) rfl ?_ ?_
            rotate_left
            · go_simp
              rfl
            refine hK.out _ _ ?_
            clear hK K
            refine pure_ (i := 14) (N := some 78) (v := ?_) (a' := ?_) #[true, true, true, true, true, true, true, true, true, true, true, true, true, true, true, false] rfl rfl (by kernel_rfl) (fun _ _ _ h => h) (Or.inl ⟨by rfl, ?_⟩) ?_ ?_
            rotate_left
            · intro w'
              go_simp
              with_reducible rfl
            rotate_left
            · simp only [Act.put, List.setIfInBounds_toArray, List.set_cons_zero, List.set_cons_succ, i64_w, i32_w]
              rfl
            refine last_ (i := 15) (N := none) #[true, true, true, true, true, true, true, true, true, true, true, true, true, true, true, true] rfl rfl (by kernel_rfl) (by decide) (fun K hK => ?_)
            refine skip_ (w1 := ?_) (by rfl) rfl ?_ ?_
            rotate_left
            · go_simp
              rfl
            refine hK.out _ _ ?_
            clear hK K
            refine done_ (by kernel_rfl) ?_
            go_wp2_with fail
            go_roundw
            case rel => exact ⟨i + 1, congrArg _ (Int.natCast_succ i).symm, by omega, ⟨_, HSW.out, HQ2.out, below_set3 (below_set3 HB12.out hgt) hgt⟩⟩
            case measure => simp only [intOf]; omega
          · have qc : decide (i < l2.length ∧ i < 20) = false := decide_eq_false hc
            rw [qc]
            go_wp2_with fail
            obtain ⟨ws, hws⟩ : ∃ x : World, x = wc := ⟨_, rfl⟩
            subst hws
            refine region14 hk0 (by omega) (by rfl) (by simp) ?_
            intro a14 w14 gs cs ok hsz hdf hoth hb14 d1 b1 hS
            obtain ⟨T14, df⟩ := a14
            dsimp only at hsz hdf hoth hS
            subst hdf
            have hT14 := rebuild2 T14 _ 79 6 13 3 hsz (fun t h1 h2 => hoth t (by omega) (by omega))
            simp only [setM, Nat.reduceAdd, Nat.add_zero, List.setIfInBounds_toArray, List.set_cons_zero, List.set_cons_succ] at hT14
            rw [getD_of (hS 0 (by omega)).1, getD_of (hS 1 (by omega)).1, getD_of (hS 2 (by omega)).1] at hT14
            obtain ⟨v79, ev79⟩ : ∃ u, u = T14.getD 79 undef := ⟨_, rfl⟩
            rw [← ev79] at hT14
            clear ev79
            obtain ⟨v80, ev80⟩ : ∃ u, u = T14.getD 80 undef := ⟨_, rfl⟩
            rw [← ev80] at hT14
            clear ev80
            obtain ⟨v81, ev81⟩ : ∃ u, u = T14.getD 81 undef := ⟨_, rfl⟩
            rw [← ev81] at hT14
            clear ev81
            obtain ⟨v82, ev82⟩ : ∃ u, u = T14.getD 82 undef := ⟨_, rfl⟩
            rw [← ev82] at hT14
            clear ev82
            obtain ⟨v83, ev83⟩ : ∃ u, u = T14.getD 83 undef := ⟨_, rfl⟩
            rw [← ev83] at hT14
            clear ev83
            obtain ⟨v84, ev84⟩ : ∃ u, u = T14.getD 84 undef := ⟨_, rfl⟩
            rw [← ev84] at hT14
            clear ev84
            have HG0 := Aside0.mk (show Grids w14 ws.heap.size k gs cs (fun _ => zrows k 0) ∧ Below ws.heap.size ws w14 from ⟨⟨ok, d1, b1, fun x hx => by rw [zrows_zero]; exact (hS x hx).2⟩, hb14⟩)
            clear hS hoth hsz d1 b1 hb14
            subst hT14
            go_wp2_with fail
            go_loopw [16] (fun v16 wr2 => ∃ p : Nat, v16 = .int .i64 (p : Int) ∧ p ≤ k ∧ Aside0 (Grids wr2 ws.heap.size k gs cs (fun _ => zrows k p) ∧ Below ws.heap.size ws wr2))
              (fun v _ => k - (intOf v).toNat)
            case atStart => exact ⟨0, rfl, by omega, HG0⟩
            case round =>
              obtain ⟨p, rfl, hp, HG⟩ := hrel
              clear HG0
              by_cases hlp : p < k
              · have hdp : decide ((p : Int) < (k : Int)) = true := decide_eq_true (by omega)
                go_wp2_with fail
                have hG := HG.out.1
                have hGB := HG.out.2
                unfold Grids at hG
                obtain ⟨ok3, d3, b3, hS3⟩ := hG
                refine region18 (s := ws.heap.size) (k := k) (i := p) (g := gs) (c := cs) (C := fun _ => zrows k p) (by omega) hlp (fun _ _ => zrows_len k p) (fun x hx => by match x, hx with | 0, _ => rfl | 1, _ => rfl | 2, _ => rfl) (by rfl) (by rfl) (by simp) hGB.size ok3 d3 b3 hS3 ?_
                intro a18 w18 ok4 hsz hdf hoth hb18 d4 b4 hS4
                obtain ⟨T18, df⟩ := a18
                dsimp only at hsz hdf hoth hS4
                subst hdf
                have hT18 := rebuild T18 _ 90 15 hsz (fun t h1 => hoth t (by omega))
                simp only [setM, Nat.reduceAdd, Nat.add_zero, List.setIfInBounds_toArray, List.set_cons_zero, List.set_cons_succ] at hT18
                obtain ⟨v90, ev90⟩ : ∃ u, u = T18.getD 90 undef := ⟨_, rfl⟩
                rw [← ev90] at hT18
                clear ev90
                obtain ⟨v91, ev91⟩ : ∃ u, u = T18.getD 91 undef := ⟨_, rfl⟩
                rw [← ev91] at hT18
                clear ev91
                obtain ⟨v92, ev92⟩ : ∃ u, u = T18.getD 92 undef := ⟨_, rfl⟩
                rw [← ev92] at hT18
                clear ev92
                obtain ⟨v93, ev93⟩ : ∃ u, u = T18.getD 93 undef := ⟨_, rfl⟩
                rw [← ev93] at hT18
                clear ev93
                obtain ⟨v94, ev94⟩ : ∃ u, u = T18.getD 94 undef := ⟨_, rfl⟩
                rw [← ev94] at hT18
                clear ev94
                obtain ⟨v95, ev95⟩ : ∃ u, u = T18.getD 95 undef := ⟨_, rfl⟩
                rw [← ev95] at hT18
                clear ev95
                obtain ⟨v96, ev96⟩ : ∃ u, u = T18.getD 96 undef := ⟨_, rfl⟩
                rw [← ev96] at hT18
                clear ev96
                obtain ⟨v97, ev97⟩ : ∃ u, u = T18.getD 97 undef := ⟨_, rfl⟩
                rw [← ev97] at hT18
                clear ev97
                obtain ⟨v98, ev98⟩ : ∃ u, u = T18.getD 98 undef := ⟨_, rfl⟩
                rw [← ev98] at hT18
                clear ev98
                obtain ⟨v99, ev99⟩ : ∃ u, u = T18.getD 99 undef := ⟨_, rfl⟩
                rw [← ev99] at hT18
                clear ev99
                obtain ⟨v100, ev100⟩ : ∃ u, u = T18.getD 100 undef := ⟨_, rfl⟩
                rw [← ev100] at hT18
                clear ev100
                obtain ⟨v101, ev101⟩ : ∃ u, u = T18.getD 101 undef := ⟨_, rfl⟩
                rw [← ev101] at hT18
                clear ev101
                obtain ⟨v102, ev102⟩ : ∃ u, u = T18.getD 102 undef := ⟨_, rfl⟩
                rw [← ev102] at hT18
                clear ev102
                obtain ⟨v103, ev103⟩ : ∃ u, u = T18.getD 103 undef := ⟨_, rfl⟩
                rw [← ev103] at hT18
                clear ev103
                obtain ⟨v104, ev104⟩ : ∃ u, u = T18.getD 104 undef := ⟨_, rfl⟩
                rw [← ev104] at hT18
                clear ev104
                have HG1 := Aside0.mk (show Grids w18 ws.heap.size k gs cs (fun _ => zrows k (p + 1)) ∧ Below ws.heap.size ws w18 from ⟨⟨ok4, d4, b4, fun x hx => by have h := hS4 x hx; rw [zrows_succ k p hlp] at h; exact h⟩, hGB.trans hb18⟩)
                clear hoth hsz d3 b3 hS3 d4 b4 hS4 hb18 hGB HG
                subst hT18
                go_wp2_with fail
                go_roundw
                case rel => exact ⟨p + 1, congrArg _ (Int.natCast_succ p).symm, by omega, HG1⟩
                case measure => simp only [intOf]; omega
              · obtain rfl : k = p := by omega
                have hdp : decide ((k : Int) < (k : Int)) = false := decide_eq_false (by omega)
                go_wp2_with fail
                have HD0 := Aside0.mk (show ∃ C, Filled k T C 0 0 ∧ Grids wr ws.heap.size k gs cs C ∧ Below ws.heap.size ws wr from ⟨_, filled_zero k T, HG.out.1, HG.out.2⟩)
                clear HG
                go_loopw [17] (fun v17 wr3 => ∃ p : Nat, v17 = .int .i64 (p : Int) ∧ p ≤ k ∧ Aside0 (∃ C, Filled k T C p 0 ∧ Grids wr3 ws.heap.size k gs cs C ∧ Below ws.heap.size ws wr3))
                  (fun v _ => k - (intOf v).toNat)
                case atStart => exact ⟨0, rfl, by omega, HD0⟩
                case round =>
                  obtain ⟨p, rfl, hp', HE⟩ := hrel
                  clear HD0
                  by_cases hlp' : p < k
                  · have hdp' : decide ((p : Int) < (k : Int)) = true := decide_eq_true (by omega)
                    go_wp2_with fail
                    go_loopw [18] (fun v18 wr4 => ∃ q : Nat, v18 = .int .i64 (q : Int) ∧ q ≤ k ∧ Aside0 (∃ C, Filled k T C p q ∧ Grids wr4 ws.heap.size k gs cs C ∧ Below ws.heap.size ws wr4))
                      (fun v _ => k - (intOf v).toNat)
                    case atStart => exact ⟨0, rfl, Nat.zero_le _, HE⟩
                    case round =>
                      obtain ⟨q, rfl, hq', HF⟩ := hrel
                      clear HE
                      by_cases hlq : q < k
                      · have hdq : decide ((q : Int) < (k : Int)) = true := decide_eq_true (Int.ofNat_lt.2 hlq)
                        obtain ⟨n1, hnb, hpk⟩ := mul5 p k (by omega) hk5
                        go_upto_if 125 with fail
                        go_cut [19] (fun v19 wx => ∃ y : Nat, v19 = .int .i64 (y : Int) ∧ y ≤ 1000 ∧ Below wr.heap.size wr wx)
                        case first =>
                          by_cases hln : n1 + q < l1.length
                          · have qd1 : decide ((n1 : Int) + (q : Int) < (l1.length : Int)) = true := decide_eq_true (by omega)
                            have qi1 : ((n1 : Int) + (q : Int) < (l1.length : Int)) = True := eq_true (by omega)
                            have qi2 : (n1 + q < l1.length) = True := eq_true hln
                            have hC1 := Kd.C_below HR1.out (HTb.out.trans (HF.out.choose_spec.2.2.mono HTb.out.size))
                            obtain ⟨a1, e1, hx1⟩ := Kd.at_int hC1 ((n1 : Int) + (q : Int)) (by omega) (by omega)
                            subst e1
                            rw [show ((n1 : Int) + (q : Int)).toNat = n1 + q from by omega] at hx1
                            clear hC1
                            go_wp2_with fail
                            (with_reducible refine (withinM (rd l1 ((n1 : Int) + (q : Int))) 100 (by omega) (by omega) _).mono ?_)
                            rintro e wx ⟨y, hy, rfl, hbx⟩
                            have HBX := Aside0.mk hbx
                            clear hbx hx1
                            go_wp2_with fail
                            go_meet
                            case rel => exact ⟨y, rfl, by omega, HBX.out⟩
                          · have qd1 : decide ((n1 : Int) + (q : Int) < (l1.length : Int)) = false := decide_eq_false (by omega)
                            go_wp2
                            go_meet
                            case rel => exact ⟨p + q, by rw [Int.natCast_add], by omega, Below.refl _ _⟩
                        case rest =>
                          obtain ⟨y, rfl, hy, hbx⟩ := hcut
                          have HBX := Aside0.mk hbx
                          clear hbx
                          go_wp2_with fail
                          have hbx := HBX.out
                          obtain ⟨C, hfil, hgr, hbl⟩ := HF.out
                          clear HF
                          have hgrx := grids_below hgr hbx
                          have hblx := hbl.trans (hbx.mono hbl.size)
                          have hTx := Kd.R_drew (Kd.R_below HTr.out hblx)
                          clear hgr hbl hbx
                          unfold Grids at hgrx
                          obtain ⟨ok5, d5, b5, hS5⟩ := hgrx
                          have HFil := Aside0.mk hfil
                          have htqr := HPer.out.2.1 q hlq
                          obtain ⟨tq, htq⟩ : ∃ n : Nat, n = (T.getD q 0).toNat := ⟨_, rfl⟩
                          have htqk : tq < k := by omega
                          have htqI : T.getD q 0 = (tq : Int) := by omega
                          obtain ⟨hct, _⟩ := Kd.R_celln 0 hTx (q : Int) (by omega) (by omega)
                          rw [Int.toNat_natCast, show rdOf (0 : Int) T (q : Int) = T.getD q 0 from by simp [rdOf], htqI] at hct
                          obtain ⟨b, cc, hb, hh, hst⟩ := put3 (w := wc.drew) d5 (fun x hx => Kd.S_drew (hS5 x hx)) (rOf p q) (iOf T p q) (fun x hx => by unfold rOf; split <;> assumption) (fun x hx => (row_mem (hfil.1 x hx).1 (hfil.1 x hx).2 (show rOf p q x < k by unfold rOf; split <;> assumption)).1)
                            (fun x hx => by unfold iOf; split; exact hlq; split; (rw [← htq]; exact htqk); exact hlp')
                          have hnb : ∀ x y, x < 3 → y < 3 → gs y ≠ b x := fun x y hx hy' e => by
                            by_cases exy : x = y
                            · subst exy; exact (hb x hx).2.2.2.2 e.symm
                            · exact d5 x y (b x) hx hy' exy (hb x hx).2.1 (by rw [← e]; exact (hb y hy').2.2.2.1)
                          have hbb : ∀ x y, x < 3 → y < 3 → x ≠ y → b y ≠ b x := fun x y hx hy' exy e => d5 x y (b x) hx hy' exy (hb x hx).2.1 (by rw [← e]; exact (hb y hy').2.1)
                          have hgs := ((Kd.R_bound HTr.out).1 gt rfl).2.2.1
                          have hgtb : ∀ x, x < 3 → gt ≠ b x := fun x hx e => by have := (hb x hx).1; omega
                          have hsz0 : wc.drew.heap.size = wc.heap.size := rfl
                          have HBW := Aside0.mk (below_set3 (v := .int .i64 (y : Int)) (g := b 2) (j := p) (below_set3 (v := .int .i64 (y : Int)) (g := b 1) (j := tq) (below_set3 (v := .int .i64 (y : Int)) (g := b 0) (j := q) (Below.drew hblx) (hb 0 (by omega)).1) (hb 1 (by omega)).1) (hb 2 (by omega)).1)
                          have hi1 : iOf T p q 1 = tq := htq.symm
                          have hgn : Grids (((wc.drew.setCell ⟨b 0, q, none⟩ (.int .i64 (y : Int))).setCell ⟨b 1, tq, none⟩ (.int .i64 (y : Int))).setCell ⟨b 2, p, none⟩ (.int .i64 (y : Int))) ws.heap.size k gs cs (fun x => (C x).set (rOf p q x) (((C x).getD (rOf p q x) []).set (iOf T p q x) (y : Int))) := by
                            refine ⟨ok5, d5, fun x j hx hj => by have := b5 x j hx hj; simpa [World.setCell] using this, fun x hx => ?_⟩
                            have h := hst (y : Int) x hx
                            rw [hi1] at h
                            exact h
                          have HGN := Aside0.mk hgn
                          have c0 := (hh 0 (by omega)).2
                          have c1 := (hh 1 (by omega)).2
                          have c2 := (hh 2 (by omega)).2
                          rw [hi1] at c1
                          obtain ⟨⟨x0, hx0⟩, hf0⟩ := c0
                          obtain ⟨⟨x1, hx1⟩, hf1⟩ := c1
                          obtain ⟨⟨x2, hx2⟩, hf2⟩ := c2
                          rw [show iOf T p q 0 = q from rfl] at hx0 hf0
                          rw [show iOf T p q 2 = p from rfl] at hx2 hf2
                          have hx1 := cell_far (p := ⟨b 0, q, none⟩) (u := .int .i64 (y : Int)) hx1 (hbb 0 1 (by omega) (by omega) (by omega))
                          have hf1 := frozen_far (p := ⟨b 0, q, none⟩) (u := .int .i64 (y : Int)) hf1 (hbb 0 1 (by omega) (by omega) (by omega))
                          have hx2 := cell_far (p := ⟨b 1, tq, none⟩) (u := .int .i64 (y : Int)) (cell_far (p := ⟨b 0, q, none⟩) (u := .int .i64 (y : Int)) hx2 (hbb 0 2 (by omega) (by omega) (by omega))) (hbb 1 2 (by omega) (by omega) (by omega))
                          have hf2 := frozen_far (p := ⟨b 1, tq, none⟩) (u := .int .i64 (y : Int)) (frozen_far (p := ⟨b 0, q, none⟩) (u := .int .i64 (y : Int)) hf2 (hbb 0 2 (by omega) (by omega) (by omega))) (hbb 1 2 (by omega) (by omega) (by omega))
                          have g0 : wc.drew.cell? ⟨gs 0, p, none⟩ = some (.slice (some ⟨b 0, 0, none⟩) k (cc 0)) := (hh 0 (by omega)).1
                          have g1 : wc.drew.cell? ⟨gs 1, p, none⟩ = some (.slice (some ⟨b 1, 0, none⟩) k (cc 1)) := (hh 1 (by omega)).1
                          have g2 : wc.drew.cell? ⟨gs 2, q, none⟩ = some (.slice (some ⟨b 2, 0, none⟩) k (cc 2)) := (hh 2 (by omega)).1
                          have HS0 := Aside0.mk (And.intro g0 (And.intro g1 (And.intro hct g2)))
                          have far : ∀ (x : Nat) (j : Nat) (W : World), x < 3 → (W.cell? ⟨gs 0, p, none⟩ = some (.slice (some ⟨b 0, 0, none⟩) k (cc 0)) ∧ W.cell? ⟨gs 1, p, none⟩ = some (.slice (some ⟨b 1, 0, none⟩) k (cc 1)) ∧ W.cell? ⟨gt, q, none⟩ = some (.int .i64 (tq : Int)) ∧ W.cell? ⟨gs 2, q, none⟩ = some (.slice (some ⟨b 2, 0, none⟩) k (cc 2))) → ((W.setCell ⟨b x, j, none⟩ (.int .i64 (y : Int))).cell? ⟨gs 0, p, none⟩ = some (.slice (some ⟨b 0, 0, none⟩) k (cc 0)) ∧ (W.setCell ⟨b x, j, none⟩ (.int .i64 (y : Int))).cell? ⟨gs 1, p, none⟩ = some (.slice (some ⟨b 1, 0, none⟩) k (cc 1)) ∧ (W.setCell ⟨b x, j, none⟩ (.int .i64 (y : Int))).cell? ⟨gt, q, none⟩ = some (.int .i64 (tq : Int)) ∧ (W.setCell ⟨b x, j, none⟩ (.int .i64 (y : Int))).cell? ⟨gs 2, q, none⟩ = some (.slice (some ⟨b 2, 0, none⟩) k (cc 2))) := fun x j W hx h => ⟨cell_far h.1 (hnb x 0 hx (by omega)), cell_far h.2.1 (hnb x 1 hx (by omega)), cell_far h.2.2.1 (hgtb x hx), cell_far h.2.2.2 (hnb x 2 hx (by omega))⟩
                          have HS1 := Aside0.mk (far 0 q _ (by omega) HS0.out)
                          have HS2 := Aside0.mk (far 1 tq _ (by omega) HS1.out)
                          have HS3 := Aside0.mk (far 2 p _ (by omega) HS2.out)
                          have qq1 : ((q : Int) < (k : Int)) = True := eq_true (by omega)
                          have qq2 : (q < k) = True := eq_true hlq
                          have qp1 : ((p : Int) < (k : Int)) = True := eq_true (by omega)
                          have qp2 : (p < k) = True := eq_true hlp'
                          have qt1 : ((tq : Int) < (k : Int)) = True := eq_true (by omega)
                          have qt2 : (tq < k) = True := eq_true htqk
                          clear far hh hst hgn g0 g1 g2 hct hi1 hb hbb hnb hgtb hgs hS5 d5 b5 hTx hblx hfil htqI htq htqr hsz0
                          refine start_ (n := 27) (S := fun w' => w'.cell? ⟨gs 0, p, none⟩ = some (.slice (some ⟨b 0, 0, none⟩) k (cc 0)) ∧ w'.cell? ⟨gs 1, p, none⟩ = some (.slice (some ⟨b 1, 0, none⟩) k (cc 1)) ∧ w'.cell? ⟨gt, q, none⟩ = some (.int .i64 (tq : Int)) ∧ w'.cell? ⟨gs 2, q, none⟩ = some (.slice (some ⟨b 2, 0, none⟩) k (cc 2))) (ds := []) #[false, false, false, false, false, false, false, false, false, false, false, false, false, false, false, false, false, false, false, false, false, false, false, false, false, false, false] (by kernel_rfl) rfl rfl HS0.out (fun hHeld => ?_)
                          generalize wc.drew = wd at HBW HGN HS0 HS1 HS2 HS3 hx0 hx1 hx2 hf0 hf1 hf2 hHeld ⊢
                          refine pure_ (i := 0) (N := some 135) (v := ?_) (a' := ?_) #[true, false, false, false, false, false, false, false, false, false, false, false, false, false, false, false, false, false, false, false, false, false, false, false, false, false, false] rfl rfl (by kernel_rfl) (fun _ _ _ h => h) (Or.inl ⟨by rfl, ?_⟩) ?_ ?_
                          rotate_left
                          · intro w'
                            go_simp
                            with_reducible rfl
                          rotate_left
                          · simp only [Act.put, List.setIfInBounds_toArray, List.set_cons_zero, List.set_cons_succ, i64_w, i32_w]
                            rfl
                          refine pure_ (i := 1) (N := some 136) (v := ?_) (a' := ?_) #[true, true, false, false, false, false, false, false, false, false, false, false, false, false, false, false, false, false, false, false, false, false, false, false, false, false, false] rfl rfl (by kernel_rfl) (fun _ _ _ h => h) (Or.inl ⟨by rfl, ?_⟩) ?_ ?_
                          rotate_left
                          · intro w'
                            go_simp
                            with_reducible rfl
                          rotate_left
                          · simp only [Act.put, List.setIfInBounds_toArray, List.set_cons_zero, List.set_cons_succ, i64_w, i32_w]
                            rfl
                          refine pure_ (i := 2) (N := some 137) (v := ?_) (a' := ?_) #[true, true, true, false, false, false, false, false, false, false, false, false, false, false, false, false, false, false, false, false, false, false, false, false, false, false, false] rfl rfl (by kernel_rfl) (fun _ _ _ h => h) (Or.inl ⟨by rfl, ?_⟩) ?_ ?_
                          rotate_left
                          · intro w'
                            go_simp
                            with_reducible rfl
                          rotate_left
                          · simp only [Act.put, List.setIfInBounds_toArray, List.set_cons_zero, List.set_cons_succ, i64_w, i32_w]
                            rfl
                          refine take_ (i := 3) (N := some 138) (v := ?_) (a' := ?_) #[true, true, true, true, false, false, false, false, false, false, false, false, false, false, false, false, false, false, false, false, false, false, false, false, false, false, false] rfl rfl (by kernel_rfl) (fun _ _ _ h => h) (Or.inl ⟨by rfl, ?_⟩) hHeld ?_ ?_
                          rotate_left
                          · intro w' s0
                            (try obtain ⟨s0, s1⟩ := s0)
                            (try obtain ⟨s1, s2⟩ := s1)
                            (try obtain ⟨s2, s3⟩ := s2)
                            go_simp
                            with_reducible rfl
                          rotate_left
                          · simp only [Act.put, List.setIfInBounds_toArray, List.set_cons_zero, List.set_cons_succ, i64_w, i32_w]
                            rfl
                          refine pure_ (i := 4) (N := some 139) (v := ?_) (a' := ?_) #[true, true, true, true, true, false, false, false, false, false, false, false, false, false, false, false, false, false, false, false, false, false, false, false, false, false, false] rfl rfl (by kernel_rfl) (fun _ _ _ h => h) (Or.inl ⟨by rfl, ?_⟩) ?_ ?_
                          rotate_left
                          · intro w'
                            go_simp
                            with_reducible rfl
                          rotate_left
                          · simp only [Act.put, List.setIfInBounds_toArray, List.set_cons_zero, List.set_cons_succ, i64_w, i32_w]
                            rfl
                          refine pure_ (i := 5) (N := some 140) (v := ?_) (a' := ?_) #[true, true, true, true, true, true, false, false, false, false, false, false, false, false, false, false, false, false, false, false, false, false, false, false, false, false, false] rfl rfl (by kernel_rfl) (fun _ _ _ h => h) (Or.inl ⟨by rfl, ?_⟩) ?_ ?_
                          rotate_left
                          · intro w'
                            go_simp
                            with_reducible rfl
                          rotate_left
                          · simp only [Act.put, List.setIfInBounds_toArray, List.set_cons_zero, List.set_cons_succ, i64_w, i32_w]
                            rfl
                          refine pure_ (i := 6) (N := some 141) (v := ?_) (a' := ?_) #[true, true, true, true, true, true, true, false, false, false, false, false, false, false, false, false, false, false, false, false, false, false, false, false, false, false, false] rfl rfl (by kernel_rfl) (fun _ _ _ h => h) (Or.inl ⟨by rfl, ?_⟩) ?_ ?_
                          rotate_left
                          · intro w'
                            go_simp
                            with_reducible rfl
                          rotate_left
                          · simp only [Act.put, List.setIfInBounds_toArray, List.set_cons_zero, List.set_cons_succ, i64_w, i32_w]
                            rfl
                          refine pure_ (i := 7) (N := some 142) (v := ?_) (a' := ?_) #[true, true, true, true, true, true, true, true, false, false, false, false, false, false, false, false, false, false, false, false, false, false, false, false, false, false, false] rfl rfl (by kernel_rfl) (fun _ _ _ h => h) (Or.inl ⟨by rfl, ?_⟩) ?_ ?_
                          rotate_left
                          · intro w'
                            go_simp
                            with_reducible rfl
                          rotate_left
                          · simp only [Act.put, List.setIfInBounds_toArray, List.set_cons_zero, List.set_cons_succ, i64_w, i32_w]
                            rfl
                          refine take_ (i := 8) (N := some 143) (v := ?_) (a' := ?_) #[true, true, true, true, true, true, true, true, true, false, false, false, false, false, false, false, false, false, false, false, false, false, false, false, false, false, false] rfl rfl (by kernel_rfl) (fun _ _ _ h => h) (Or.inl ⟨by rfl, ?_⟩) hHeld ?_ ?_
                          rotate_left
                          · intro w' s0
                            (try obtain ⟨s0, s1⟩ := s0)
                            (try obtain ⟨s1, s2⟩ := s1)
                            (try obtain ⟨s2, s3⟩ := s2)
                            go_simp
                            with_reducible rfl
                          rotate_left
                          · simp only [Act.put, List.setIfInBounds_toArray, List.set_cons_zero, List.set_cons_succ, i64_w, i32_w]
                            rfl
                          refine pure_ (i := 9) (N := some 144) (v := ?_) (a' := ?_) #[true, true, true, true, true, true, true, true, true, true, false, false, false, false, false, false, false, false, false, false, false, false, false, false, false, false, false] rfl rfl (by kernel_rfl) (fun _ _ _ h => h) (Or.inl ⟨by rfl, ?_⟩) ?_ ?_
                          rotate_left
                          · intro w'
                            go_simp
                            with_reducible rfl
                          rotate_left
                          · simp only [Act.put, List.setIfInBounds_toArray, List.set_cons_zero, List.set_cons_succ, i64_w, i32_w]
                            rfl
                          refine pure_ (i := 10) (N := some 145) (v := ?_) (a' := ?_) #[true, true, true, true, true, true, true, true, true, true, true, false, false, false, false, false, false, false, false, false, false, false, false, false, false, false, false] rfl rfl (by kernel_rfl) (fun _ _ _ h => h) (Or.inl ⟨by rfl, ?_⟩) ?_ ?_
                          rotate_left
                          · intro w'
                            go_simp
                            with_reducible rfl
                          rotate_left
                          · simp only [Act.put, List.setIfInBounds_toArray, List.set_cons_zero, List.set_cons_succ, i64_w, i32_w]
                            rfl
                          refine pure_ (i := 11) (N := some 146) (v := ?_) (a' := ?_) #[true, true, true, true, true, true, true, true, true, true, true, true, false, false, false, false, false, false, false, false, false, false, false, false, false, false, false] rfl rfl (by kernel_rfl) (fun _ _ _ h => h) (Or.inl ⟨by rfl, ?_⟩) ?_ ?_
                          rotate_left
                          · intro w'
                            go_simp
                            with_reducible rfl
                          rotate_left
                          · simp only [Act.put, List.setIfInBounds_toArray, List.set_cons_zero, List.set_cons_succ, i64_w, i32_w]
                            rfl
                          refine take_ (i := 12) (N := some 147) (v := ?_) (a' := ?_) #[true, true, true, true, true, true, true, true, true, true, true, true, true, false, false, false, false, false, false, false, false, false, false, false, false, false, false] rfl rfl (by kernel_rfl) (fun _ _ _ h => h) (Or.inl ⟨by rfl, ?_⟩) hHeld ?_ ?_
                          rotate_left
                          · intro w' s0
                            (try obtain ⟨s0, s1⟩ := s0)
                            (try obtain ⟨s1, s2⟩ := s1)
                            (try obtain ⟨s2, s3⟩ := s2)
                            go_simp
                            with_reducible rfl
                          rotate_left
                          · simp only [Act.put, List.setIfInBounds_toArray, List.set_cons_zero, List.set_cons_succ, i64_w, i32_w]
                            rfl
                          refine pure_ (i := 13) (N := some 148) (v := ?_) (a' := ?_) #[true, true, true, true, true, true, true, true, true, true, true, true, true, true, false, false, false, false, false, false, false, false, false, false, false, false, false] rfl rfl (by kernel_rfl) (fun _ _ _ h => h) (Or.inl ⟨by rfl, ?_⟩) ?_ ?_
                          rotate_left
                          · intro w'
                            go_simp
                            with_reducible rfl
                          rotate_left
                          · simp only [Act.put, List.setIfInBounds_toArray, List.set_cons_zero, List.set_cons_succ, i64_w, i32_w]
                            rfl
                          refine pure_ (i := 14) (N := some 149) (v := ?_) (a' := ?_) #[true, true, true, true, true, true, true, true, true, true, true, true, true, true, true, false, false, false, false, false, false, false, false, false, false, false, false] rfl rfl (by kernel_rfl) (fun _ _ _ h => h) (Or.inl ⟨by rfl, ?_⟩) ?_ ?_
                          rotate_left
                          · intro w'
                            go_simp
                            with_reducible rfl
                          rotate_left
                          · simp only [Act.put, List.setIfInBounds_toArray, List.set_cons_zero, List.set_cons_succ, i64_w, i32_w]
                            rfl
                          refine pure_ (i := 15) (N := some 150) (v := ?_) (a' := ?_) #[true, true, true, true, true, true, true, true, true, true, true, true, true, true, true, true, false, false, false, false, false, false, false, false, false, false, false] rfl rfl (by kernel_rfl) (fun _ _ _ h => h) (Or.inl ⟨by rfl, ?_⟩) ?_ ?_
                          rotate_left
                          · intro w'
                            go_simp
                            with_reducible rfl
                          rotate_left
                          · simp only [Act.put, List.setIfInBounds_toArray, List.set_cons_zero, List.set_cons_succ, i64_w, i32_w]
                            rfl
                          refine take_ (i := 16) (N := some 151) (v := ?_) (a' := ?_) #[true, true, true, true, true, true, true, true, true, true, true, true, true, true, true, true, true, false, false, false, false, false, false, false, false, false, false] rfl rfl (by kernel_rfl) (fun _ _ _ h => h) (Or.inl ⟨by rfl, ?_⟩) hHeld ?_ ?_
                          rotate_left
                          · intro w' s0
                            (try obtain ⟨s0, s1⟩ := s0)
                            (try obtain ⟨s1, s2⟩ := s1)
                            (try obtain ⟨s2, s3⟩ := s2)
                            go_simp
                            with_reducible rfl
                          rotate_left
                          · simp only [Act.put, List.setIfInBounds_toArray, List.set_cons_zero, List.set_cons_succ, i64_w, i32_w]
                            rfl
                          refine pure_ (i := 17) (N := some 152) (v := ?_) (a' := ?_) #[true, true, true, true, true, true, true, true, true, true, true, true, true, true, true, true, true, true, false, false, false, false, false, false, false, false, false] rfl rfl (by kernel_rfl) (fun _ _ _ h => h) (Or.inl ⟨by rfl, ?_⟩) ?_ ?_
                          rotate_left
                          · intro w'
                            go_simp
                            with_reducible rfl
                          rotate_left
                          · simp only [Act.put, List.setIfInBounds_toArray, List.set_cons_zero, List.set_cons_succ, i64_w, i32_w]
                            rfl
                          refine pure_ (i := 18) (N := some 153) (v := ?_) (a' := ?_) #[true, true, true, true, true, true, true, true, true, true, true, true, true, true, true, true, true, true, true, false, false, false, false, false, false, false, false] rfl rfl (by kernel_rfl) (fun _ _ _ h => h) (Or.inl ⟨by rfl, ?_⟩) ?_ ?_
                          rotate_left
                          · intro w'
                            go_simp
                            with_reducible rfl
                          rotate_left
                          · simp only [Act.put, List.setIfInBounds_toArray, List.set_cons_zero, List.set_cons_succ, i64_w, i32_w]
                            rfl
                          refine pure_ (i := 19) (N := some 154) (v := ?_) (a' := ?_) #[true, true, true, true, true, true, true, true, true, true, true, true, true, true, true, true, true, true, true, true, false, false, false, false, false, false, false] rfl rfl (by kernel_rfl) (fun _ _ _ h => h) (Or.inl ⟨by rfl, ?_⟩) ?_ ?_
                          rotate_left
                          · intro w'
                            go_simp
                            with_reducible rfl
                          rotate_left
                          · simp only [Act.put, List.setIfInBounds_toArray, List.set_cons_zero, List.set_cons_succ, i64_w, i32_w]
                            rfl
                          refine pure_ (i := 20) (N := some 155) (v := ?_) (a' := ?_) #[true, true, true, true, true, true, true, true, true, true, true, true, true, true, true, true, true, true, true, true, true, false, false, false, false, false, false] rfl rfl (by kernel_rfl) (fun _ _ _ h => h) (Or.inl ⟨by rfl, ?_⟩) ?_ ?_
                          rotate_left
                          · intro w'
                            go_simp
                            with_reducible rfl
                          rotate_left
                          · simp only [Act.put, List.setIfInBounds_toArray, List.set_cons_zero, List.set_cons_succ, i64_w, i32_w]
                            rfl
                          refine pure_ (i := 21) (N := some 156) (v := ?_) (a' := ?_) #[true, true, true, true, true, true, true, true, true, true, true, true, true, true, true, true, true, true, true, true, true, true, false, false, false, false, false] rfl rfl (by kernel_rfl) (fun _ _ _ h => h) (Or.inl ⟨by rfl, ?_⟩) ?_ ?_
                          rotate_left
                          · intro w'
                            go_simp
                            with_reducible rfl
                          rotate_left
                          · simp only [Act.put, List.setIfInBounds_toArray, List.set_cons_zero, List.set_cons_succ, i64_w, i32_w]
                            rfl
                          refine one_ (i := 22) (N := none) #[true, true, true, true, true, true, true, true, true, true, true, true, true, true, true, true, true, true, true, true, true, true, true, false, false, false, false] rfl rfl (by kernel_rfl) (by decide) (fun K hK => ?_)
                          refine skip_ (w1 := ?_) (by rfl) rfl ?_ ?_
                          rotate_left
                          · go_simp
                            rfl
                          refine hK.out _ _ HS1.out (fun hHeld => ?_)
                          clear hK K
                          refine pure_ (i := 23) (N := some 157) (v := ?_) (a' := ?_) #[true, true, true, true, true, true, true, true, true, true, true, true, true, true, true, true, true, true, true, true, true, true, true, true, false, false, false] rfl rfl (by kernel_rfl) (fun _ _ _ h => h) (Or.inl ⟨by rfl, ?_⟩) ?_ ?_
                          rotate_left
                          · intro w'
                            go_simp
                            with_reducible rfl
                          rotate_left
                          · simp only [Act.put, List.setIfInBounds_toArray, List.set_cons_zero, List.set_cons_succ, i64_w, i32_w]
                            rfl
                          refine one_ (i := 24) (N := none) #[true, true, true, true, true, true, true, true, true, true, true, true, true, true, true, true, true, true, true, true, true, true, true, true, true, false, false] rfl rfl (by kernel_rfl) (by decide) (fun K hK => ?_)
                          refine skip_ (w1 := ?_) (by rfl) rfl ?_ ?_
                          rotate_left
                          · go_simp
                            rfl
                          refine hK.out _ _ HS2.out (fun hHeld => ?_)
                          clear hK K
                          refine pure_ (i := 25) (N := some 158) (v := ?_) (a' := ?_) #[true, true, true, true, true, true, true, true, true, true, true, true, true, true, true, true, true, true, true, true, true, true, true, true, true, true, false] rfl rfl (by kernel_rfl) (fun _ _ _ h => h) (Or.inl ⟨by rfl, ?_⟩) ?_ ?_
                          rotate_left
                          · intro w'
                            go_simp
                            with_reducible rfl
                          rotate_left
                          · simp only [Act.put, List.setIfInBounds_toArray, List.set_cons_zero, List.set_cons_succ, i64_w, i32_w]
                            rfl
                          refine one_ (i := 26) (N := none) #[true, true, true, true, true, true, true, true, true, true, true, true, true, true, true, true, true, true, true, true, true, true, true, true, true, true, true] rfl rfl (by kernel_rfl) (by decide) (fun K hK => ?_)
                          refine skip_ (w1 := ?_) (by rfl) rfl ?_ ?_
                          rotate_left
                          · go_simp
                            rfl
                          refine hK.out _ _ HS3.out (fun hHeld => ?_)
                          clear hK K
                          refine done_ (by kernel_rfl) ?_
                          go_wp2_with fail
                          go_roundw
                          case rel => exact ⟨q + 1, congrArg _ (Int.natCast_succ q).symm, hlq, ⟨_, filled_put HPer.out HFil.out hlp' hlq ⟨by omega, by omega⟩, HGN.out, HBW.out⟩⟩
                          case measure => exact Nat.sub_lt_sub_left hlq (Nat.lt_succ_self q)
                      · obtain rfl : k = q := Nat.le_antisymm (Nat.le_of_not_lt hlq) hq'
                        have hdq : decide ((k : Int) < (k : Int)) = false := decide_eq_false (Int.lt_irrefl _)
                        go_wp2_with fail
                        go_roundw
                        case rel => exact ⟨p + 1, congrArg _ (Int.natCast_succ p).symm, hlp', ⟨_, filled_next HF.out.choose_spec.1, HF.out.choose_spec.2⟩⟩
                        case measure => exact Nat.sub_lt_sub_left hlp' (Nat.lt_succ_self p)
                  · obtain rfl : k = p := by omega
                    have hdp' : decide ((k : Int) < (k : Int)) = false := decide_eq_false (by omega)
                    go_wp2_with fail
                    obtain ⟨C, hfil, hgr, hbl⟩ := HE.out
                    clear HE
                    have hbe := filled_best hk5 HPer.out hfil
                    unfold Grids at hgr
                    obtain ⟨ok6, d6, b6, hS6⟩ := hgr
                    have hle : ∀ x, x < 3 → (C x).length = k := fun x hx => (hfil.1 x hx).1
                    have hri : ∀ x, x < 3 → right (C x) = true := fun x hx => right_of (m := k) (by rw [hle x hx]; omega) (by omega) (by rw [hle x hx]; exact Nat.le_refl _) (hfil.1 x hx).2
                    have hbx : ∀ x, x < 3 → best (C x) 0 = best (C 0) 0 := fun x hx => match x, hx with | 0, _ => rfl | 1, _ => hbe.1 | 2, _ => hbe.2
                    have HC := Aside0.mk (show ∀ x, x < 3 → Kd.C Gd wr (some ⟨gs x, 0, none⟩) (C x).length (C x) from fun x hx => by have h := Kd.S_reads' (hS6 x hx); exact h.2.2)
                    have hcx : ∀ x, x < 3 → (C x).length ≤ cs x := fun x hx => by have h := (Kd.S_reads' (hS6 x hx)).2.1; rw [hle x hx]; exact h
                    have HW := Aside0.mk (show Below w.heap.size w wr from HTb.out.trans (hbl.mono HTb.out.size))
                    have HA := Aside0.mk (show ∀ x, x < 3 → ∀ W, Kd.C Gd W (some ⟨gs x, 0, none⟩) (C x).length (C x) → Calls Try.prog 15 #[.slice (some ⟨gs x, 0, none⟩) k (cs x)] W fun e w' => ∃ A c n, e = .returned (.tuple #[.slice A n c, .int .i64 (best (C 0) 0), .bool true]) ∧ Below W.heap.size W w' from fun x hx W hW => by
                      have h := asgM (some ⟨gs x, 0, none⟩) (cs x) (C x) W (hri x hx) hW (hcx x hx)
                      rw [hle x hx, hbx x hx] at h
                      exact h.mono (by rintro e w' ⟨A, c, rfl, _, _, hb⟩; exact ⟨A, c, _, rfl, hb⟩))
                    have HR := Aside0.mk (show ∀ W, Kd.C Gd W (some ⟨gs 0, 0, none⟩) (C 0).length (C 0) → Calls Try.prog 16 #[.slice (some ⟨gs 0, 0, none⟩) k (cs 0)] W fun e w' => ∃ v, e = .returned (.tuple #[v, .int .i64 (best (C 0) 0), .bool true]) ∧ Below W.heap.size W w' from fun W hW => by
                      have h := rassign_calls (some ⟨gs 0, 0, none⟩) (cs 0) (C 0) W hW (hcx 0 (by omega))
                      have ha : assign (C 0) = (pick (C 0) 0, best (C 0) 0, true) := by unfold assign; rw [if_pos (hri 0 (by omega))]
                      rw [hle 0 (by omega), ha] at h
                      exact h.mono (by rintro e w' ⟨v, rfl, _, hb⟩; exact ⟨v, rfl, hb⟩))
                    clear hbe hS6 b6 d6 hle hri hbx hcx hbl hfil
                    generalize best (C 0) 0 = bb at HA HR
                    have qeq : (bb == bb) = true := beq_self_eq_true _
                    (with_reducible refine (HA.out 0 (by omega) _ (HC.out 0 (by omega))).mono ?_)
                    rintro e w8 ⟨A8, c8, n8, rfl, hb8⟩
                    have HC8 := Aside0.mk (fun x (hx : x < 3) => Kd.C_below (HC.out x hx) hb8)
                    have HW8 := Aside0.mk (HW.out.trans (hb8.mono HW.out.size))
                    clear hb8
                    go_wp2_with fail
                    (with_reducible refine (HA.out 1 (by omega) _ (HC8.out 1 (by omega))).mono ?_)
                    rintro e w9 ⟨A9, c9, n9, rfl, hb9⟩
                    have HC9 := Aside0.mk (fun x (hx : x < 3) => Kd.C_below (HC8.out x hx) hb9)
                    have HW9 := Aside0.mk (HW8.out.trans (hb9.mono HW8.out.size))
                    clear hb9
                    go_wp2_with fail
                    (with_reducible refine (HA.out 2 (by omega) _ (HC9.out 2 (by omega))).mono ?_)
                    rintro e w10 ⟨A10, c10, n10, rfl, hb10⟩
                    have HC10 := Aside0.mk (fun x (hx : x < 3) => Kd.C_below (HC9.out x hx) hb10)
                    have HW10 := Aside0.mk (HW9.out.trans (hb10.mono HW9.out.size))
                    clear hb10
                    go_wp2_with fail
                    (with_reducible refine (HR.out _ (HC10.out 0 (by omega))).mono ?_)
                    rintro e w11 ⟨v11, rfl, hb11⟩
                    have HW11 := Aside0.mk (HW10.out.trans (hb11.mono HW10.out.size))
                    clear hb11
                    go_wp2_with fail
                    go_ret
                    exact ⟨rfl, HW11.out⟩
end Go.Proofs.Ytgnkpahnhhmceaa.Core
