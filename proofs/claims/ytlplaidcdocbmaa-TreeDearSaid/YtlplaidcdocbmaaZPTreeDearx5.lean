-- Cut by pack.py, a program of this session; not trusted: Lean checks it.
import Derived.Test.YtlplaidcdocbmaaZPTreeDearx0
import Derived.Test.YtlplaidcdocbmaaZPTreeDearx3
namespace Go.Proofs.Ytlplaidcdocbmaa.PTreeDear
open Go.RowKit Go.Proofs.YtlplaidcdocbmaaW.PrintWords Go.Proofs.YtlplaidcdocbmaaW.PrintLast Go.Proofs.YtlplaidcdocbmaaW.PrintMore
private abbrev fl_ (a b : Nat) : Array Bool := (List.replicate a true ++ List.replicate b false).toArray
private abbrev Y : Bool := true
private abbrev Z : Bool := false
open List renaming setIfInBounds_toArray → sl0, set_cons_zero → sl1, set_cons_succ → sl2
private theorem od_ {p : Prop} [Decidable p] (h : decide p = true := by first | (with_reducible assumption) | assumption) : p := of_decide_eq_true h
attribute [local go_sem] max2_int min2_int max_two min_two max_three min_three max_four min_four   -- for this text's walks alone
set_option linter.unusedVariables false
set_option linter.unusedSimpArgs false

/-! ### hypercuberef8_Size: function 42 -/
def hypercuberef8_Size.l0 : Nat → Int → Int → Int → Int → List Int → Int → Option (Int)
 | 0, _, _, _, _, _, _ => none
 | k + 1, x1, x2, x7, x8, x182000, x182001 => if x8 < (x182000.length : Int) then (if 0 ≤ (IntKind.u64.wrap (x8)) then (if (Go.bits .and .i64 (shr .i64 x2 (IntKind.u64.wrap (x8))) 1) = 1 then (if 0 ≤ x8 then (hypercuberef8_Size.l0 k x1 x2 (wrap64 (x7 * (rd x182000 x8))) (wrap64 (x8 + 1)) x182000 x182001) else (none)) else (hypercuberef8_Size.l0 k x1 x2 x7 (wrap64 (x8 + 1)) x182000 x182001)) else (none)) else (some (mn x7 x1))
def hypercuberef8_Size.f (k : Nat) (l0_0 : List Int) (a0_1 : Int) (a1 : Int) (a2 : Int) : Option (Int) := hypercuberef8_Size.l0 k a1 a2 1 0 l0_0 a0_1
theorem hypercuberef8_Size.mono_l : ∀ k, (∀ y0 y1 y2 y3 y4 y5, LeO (hypercuberef8_Size.l0 k y0 y1 y2 y3 y4 y5) (hypercuberef8_Size.l0 (k + 1) y0 y1 y2 y3 y4 y5))
 | 0 => fun _ _ _ _ _ _ r h => by simp [hypercuberef8_Size.l0] at h
 | k + 1 => by
  have ih0 := hypercuberef8_Size.mono_l k
  intro y0 y1 y2 y3 y4 y5
  unfold hypercuberef8_Size.l0
  repeat' first
  | (with_reducible exact ih0 _ _ _ _ _ _)
  | (with_reducible exact LeO.refl _)
  | (with_reducible exact LeO.none _)
  | (with_reducible refine LeO.ite ?_ ?_)
  | (with_reducible refine LeO.bind ?_ (fun _ => ?_))
  | exact ih0 _ _ _ _ _ _
  | exact LeO.none _
  | refine LeO.ite ?_ ?_
  | refine LeO.bind ?_ (fun _ => ?_)
theorem hypercuberef8_Size.mono : ∀ a0 a1 a2 a3 k, LeO (hypercuberef8_Size.f k a0 a1 a2 a3) (hypercuberef8_Size.f (k + 1) a0 a1 a2 a3) := by
 intro a0 a1 a2 a3 k
 have ih0 := hypercuberef8_Size.mono_l k
 unfold hypercuberef8_Size.f
 repeat' first
  | (with_reducible exact ih0 _ _ _ _ _ _)
  | (with_reducible exact LeO.refl _)
  | (with_reducible exact LeO.none _)
  | (with_reducible refine LeO.ite ?_ ?_)
  | (with_reducible refine LeO.bind ?_ (fun _ => ?_))
  | exact ih0 _ _ _ _ _ _
  | exact LeO.none _
  | refine LeO.ite ?_ ?_
  | refine LeO.bind ?_ (fun _ => ?_)
set_option maxHeartbeats 8000000 in
set_option maxRecDepth 100000 in
theorem hypercuberef8_Size.calls (k : Nat) (A0_0 : Option Addr) (c0_0 : Nat) (l0_0 : List Int) (a0_1 : Int) (a1 : Int) (a2 : Int) (r : Int) (w : World) (hr0_0 : Kd.C (Kd.int .i64) w A0_0 l0_0.length l0_0) (hc0_0 : l0_0.length ≤ c0_0) (h : hypercuberef8_Size.f k l0_0 a0_1 a1 a2 = some r) :
 Calls Try.prog 42 #[.agg #[.slice A0_0 l0_0.length c0_0, .int .i64 a0_1], .int .i64 a1, .int .i64 a2] w fun e w' => e = .returned (.int .i64 r) ∧ Below w.heap.size w w' := by
 have hu33 := Try.underlying33
 have HR0_0 := Aside0.mk hr0_0
 have HC0_0 := Aside0.mk hc0_0
 clear hr0_0 hc0_0
 have HB := Aside0.mk (Below.refl w.heap.size w)
 have H : (hypercuberef8_Size.l0 k a1 a2 1 0 l0_0 a0_1) = some r := h
 clear h
 have H' := Aside0.mk H
 clear H
 go_enter Try.func42, Try.ntmps42
 go_wp2_with (first | ((with_reducible refine gate_dst (N := 3) rfl ?_); refine box_event ?hg (N := 3) ?hd (cs := #[.slice A0_0 l0_0.length c0_0, .int .i64 a0_1]) (t := 33) ?hr ?_; (case hd => rfl); (case hg => rfl); (case hr => first | (go_simp; done) | (go_simp; rfl)); intro gb181 hg w4 hbox hb; have n0_ := Aside0.mk (below_step (by repeat (first | (with_reducible first | exact HB.out | apply below_alloc | apply pw_below_drewN | apply below_drew1) | exact HB.out)) hb); have n1_ := Aside0.mk (hbox); have n2_ := Aside0.mk ((by rw [hg]; exact (below_size (by repeat (first | (with_reducible first | exact HB.out | apply below_alloc | apply pw_below_drewN | apply below_drew1) | exact HB.out))) : w.heap.size ≤ gb181)); have n3_ := Aside0.mk ((by rw [hg]; exact (below_size (by repeat (first | (with_reducible first | exact HB.out | apply below_alloc | apply pw_below_drewN | apply below_drew1) | exact HB.out))) : w.heap.size ≤ gb181)); clear HB; have HB := n0_; have BK181 := n1_; have GW181 := n2_; have GE181 := n3_; clear n0_ n1_ n2_ n3_; clear hb hbox hg))
 go_loopg [7, 8] k (fun kq v7 v8 w' => ∃ (x7_1 : Int) (x8_1 : Int), v7 = .int .i64 x7_1 ∧ v8 = .int .i64 x8_1 ∧ Aside0 (hypercuberef8_Size.l0 kq a1 a2 x7_1 x8_1 l0_0 a0_1 = some r) ∧ Aside0 (kq ≤ k) ∧ Aside0 (w'.heap[gb181]? = some (.cells #[(.slice A0_0 l0_0.length c0_0), .int .i64 a0_1] 33 (0, 0))) ∧ Aside0 (Below w.heap.size w w'))
 case atStart => exact ⟨(1), (0), (by first | rfl | (simp; done) | (simp [*]; done)), (by first | rfl | (simp; done) | (simp [*]; done)), H', ⟨Nat.le_refl _⟩, ⟨by (with_reducible repeat (first | refine blk_drewN ?_ _ | refine blk_drew ?_ | refine blk_alloc ?_ _)); exact BK181.out⟩, ⟨by repeat (first | (with_reducible first | exact HB.out | apply below_alloc | apply pw_below_drewN | apply below_drew1 | refine below_set ?_ GE181.out) | exact HB.out)⟩⟩
 case round =>
  clear H'
  try clear p2
  try clear c4
  obtain ⟨x7_1, x8_1, rfl, rfl, HA, HK1, BK181, HB⟩ := hrel
  cases gk with
  | zero => exact absurd HA.out (by simp [hypercuberef8_Size.l0])
  | succ k1 =>
   have H := HA.out
   clear HA
   simp only [hypercuberef8_Size.l0] at H
   by_cases c5 : x8_1 < (l0_0.length : Int)
   rotate_left
   ·rw [if_neg c5] at H
    have c5b0 : decide (x8_1 < (l0_0.length : Int)) = false := decide_eq_false c5
    clear c5
    obtain ⟨ji13, hji13⟩ : ∃ j_ : Int, (mn x7_1 a1) = j_ := ⟨_, rfl⟩
    replace H : (some ji13) = some r := by first | (rw [hji13] at H; exact H) | (simp only [hji13] at H ⊢; exact H)
    have hji13_ : (if a1 < x7_1 then a1 else x7_1) = ji13 := hji13
    obtain rfl := Option.some.inj H
    have hcz14_0 : wr.cell? ⟨gb181, 0, none⟩ = some (.slice A0_0 l0_0.length c0_0) := (blk_cell BK181.out 0).trans rfl
    have hcz14_1 : wr.cell? ⟨gb181, 1, none⟩ = some (.int .i64 a0_1) := (blk_cell BK181.out 1).trans rfl
    have hfz14_0 := blk_frozen BK181.out 0
    have hfz14_1 := blk_frozen BK181.out 1
    go_wp2
    go_ret
    exact ⟨by first | rfl | (simp [errW_none, errW_some] <;> rfl) | (simp only [← hji13]; first | rfl | (simp [errW_none, errW_some] <;> rfl)) | (simp [*, errW_none, errW_some] <;> rfl), by repeat (first | (with_reducible first | exact HB.out | apply below_alloc | apply pw_below_drewN | apply below_drew1 | refine below_set ?_ GE181.out) | exact HB.out)⟩
   rw [if_pos c5] at H
   have c5b0 : decide (x8_1 < (l0_0.length : Int)) = true := decide_eq_true c5
   clear c5
   obtain ⟨ji6, hji6⟩ : ∃ j_ : Int, (IntKind.u64.wrap (x8_1)) = j_ := ⟨_, rfl⟩
   replace H : (if 0 ≤ (ji6) then (if (Go.bits .and .i64 (shr .i64 a2 (ji6)) 1) = 1 then (if 0 ≤ x8_1 then (hypercuberef8_Size.l0 k1 a1 a2 (wrap64 (x7_1 * (rd l0_0 x8_1))) (wrap64 (x8_1 + 1)) l0_0 a0_1) else (none)) else (hypercuberef8_Size.l0 k1 a1 a2 x7_1 (wrap64 (x8_1 + 1)) l0_0 a0_1)) else (none)) = some r := by first | (rw [hji6] at H; exact H) | (simp only [hji6] at H ⊢; exact H)
   by_cases c7 : 0 ≤ (ji6)
   rotate_left
   ·rw [if_neg c7] at H
    exact absurd H (by simp)
   rw [if_pos c7] at H
   have c7b0 := eq_true c7
   have c7b1 : decide (0 ≤ (ji6)) = true := decide_eq_true c7
   clear c7
   obtain ⟨ji8, hji8⟩ : ∃ j_ : Int, (shr .i64 a2 (ji6)) = j_ := ⟨_, rfl⟩
   replace H : (if (Go.bits .and .i64 (ji8) 1) = 1 then (if 0 ≤ x8_1 then (hypercuberef8_Size.l0 k1 a1 a2 (wrap64 (x7_1 * (rd l0_0 x8_1))) (wrap64 (x8_1 + 1)) l0_0 a0_1) else (none)) else (hypercuberef8_Size.l0 k1 a1 a2 x7_1 (wrap64 (x8_1 + 1)) l0_0 a0_1)) = some r := by first | (rw [hji8] at H; exact H) | (simp only [hji8] at H ⊢; exact H)
   have hji8_ : (a2 / 2 ^ min (ji6).toNat 64) = ji8 := hji8
   have hji8z : (ji6) ≤ 64 → (a2 / 2 ^ (ji6).toNat) = ji8 := shr_small hji8
   by_cases c9 : (Go.bits .and .i64 (ji8) 1) = 1
   rotate_left
   ·rw [if_neg c9] at H
    have c9b0 : ((Go.bits .and .i64 (ji8) 1) == 1) = false := beq_eq_false_iff_ne.mpr c9
    have c9b1 : ((Go.bits .and .i64 (ji8) 1) != 1) = true := bne_iff_ne.mpr c9
    have H' := Aside0.mk H
    clear H
    have hcz12_0 : wr.cell? ⟨gb181, 0, none⟩ = some (.slice A0_0 l0_0.length c0_0) := (blk_cell BK181.out 0).trans rfl
    have hcz12_1 : wr.cell? ⟨gb181, 1, none⟩ = some (.int .i64 a0_1) := (blk_cell BK181.out 1).trans rfl
    have hfz12_0 := blk_frozen BK181.out 0
    have hfz12_1 := blk_frozen BK181.out 1
    go_wp2
    go_roundg k1
    case measure => have := HK1.out; omega
    case rel => exact ⟨(x7_1), (wrap64 (x8_1 + 1)), (by first | rfl | (simp; done) | (simp [*]; done)), (by first | rfl | (simp; done) | (simp [*]; done)), H', ⟨by have := HK1.out; omega⟩, ⟨by (with_reducible repeat (first | refine blk_drewN ?_ _ | refine blk_drew ?_ | refine blk_alloc ?_ _)); exact BK181.out⟩, ⟨by repeat (first | (with_reducible first | exact HB.out | apply below_alloc | apply pw_below_drewN | apply below_drew1 | refine below_set ?_ GE181.out) | exact HB.out)⟩⟩
   rw [if_pos c9] at H
   have c9b0 : ((Go.bits .and .i64 (ji8) 1) == 1) = true := beq_iff_eq.mpr c9
   have c9b1 : ((Go.bits .and .i64 (ji8) 1) != 1) = false := bne_eq_false_iff_eq.mpr c9
   clear c9
   by_cases c10 : 0 ≤ x8_1
   rotate_left
   ·rw [if_neg c10] at H
    exact absurd H (by simp)
   rw [if_pos c10] at H
   have c10b0 : decide (0 ≤ x8_1) = true := decide_eq_true c10
   clear c10
   have H' := Aside0.mk H
   clear H
   have hcz11_0 : wr.cell? ⟨gb181, 0, none⟩ = some (.slice A0_0 l0_0.length c0_0) := (blk_cell BK181.out 0).trans rfl
   have hcz11_1 : wr.cell? ⟨gb181, 1, none⟩ = some (.int .i64 a0_1) := (blk_cell BK181.out 1).trans rfl
   have hfz11_0 := blk_frozen BK181.out 0
   have hfz11_1 := blk_frozen BK181.out 1
   have p182 : 0 ≤ (x8_1 : Int) := od_
   have q182 : x8_1 < (l0_0.length : Int) := od_
   obtain ⟨ad182, e182, hx182_0⟩ := Kd.at_int HR0_0.out x8_1 p182 q182
   cases e182
   replace hx182_0 := (HB.out.cell (World.block_lt_of_cell? w _ hx182_0)).trans hx182_0
   replace p182 := eq_true p182
   replace q182 := eq_true q182
   go_wp2
   go_roundg k1
   case measure => have := HK1.out; omega
   case rel => exact ⟨(wrap64 (x7_1 * (rd l0_0 x8_1))), (wrap64 (x8_1 + 1)), (by first | rfl | (simp; done) | (simp [*]; done)), (by first | rfl | (simp; done) | (simp [*]; done)), H', ⟨by have := HK1.out; omega⟩, ⟨by (with_reducible repeat (first | refine blk_drewN ?_ _ | refine blk_drew ?_ | refine blk_alloc ?_ _)); exact BK181.out⟩, ⟨by repeat (first | (with_reducible first | exact HB.out | apply below_alloc | apply pw_below_drewN | apply below_drew1 | refine below_set ?_ GE181.out) | exact HB.out)⟩⟩

/-! ### hypercuberef8_Scan: function 48 -/
def hypercuberef8_Scan.f (k : Nat) (l0_0 : List Int) (a0_1 : Int) (a1 : Int) (a2 : Int) : Option (Int) := (hypercuberef8_Size.f k l0_0 a0_1 a1 a2).bind fun t184 => (some t184)
set_option maxHeartbeats 8000000 in
set_option maxRecDepth 100000 in
theorem hypercuberef8_Scan.calls (k : Nat) (A0_0 : Option Addr) (c0_0 : Nat) (l0_0 : List Int) (a0_1 : Int) (a1 : Int) (a2 : Int) (r : Int) (w : World) (hr0_0 : Kd.C (Kd.int .i64) w A0_0 l0_0.length l0_0) (hc0_0 : l0_0.length ≤ c0_0) (h : hypercuberef8_Scan.f k l0_0 a0_1 a1 a2 = some r) :
 Calls Try.prog 48 #[.agg #[.slice A0_0 l0_0.length c0_0, .int .i64 a0_1], .int .i64 a1, .int .i64 a2] w fun e w' => e = .returned (.int .i64 r) ∧ Below w.heap.size w w' := by
 have hu33 := Try.underlying33
 have HR0_0 := Aside0.mk hr0_0
 have HC0_0 := Aside0.mk hc0_0
 clear hr0_0 hc0_0
 have HB := Aside0.mk (Below.refl w.heap.size w)
 have H : ((hypercuberef8_Size.f k l0_0 a0_1 a1 a2).bind fun t184 => (some t184)) = some r := h
 clear h
 replace H := Option.bind_eq_some_iff.mp H
 obtain ⟨t184, A40, H⟩ := H
 replace H : (some t184) = some r := H
 have A4 := Aside0.mk A40
 clear A40
 obtain rfl := Option.some.inj H
 go_enter Try.func48, Try.ntmps48
 go_wp2_with (first | ((with_reducible refine gate_dst (N := 3) rfl ?_); refine box_event ?hg (N := 3) ?hd (cs := #[.slice A0_0 l0_0.length c0_0, .int .i64 a0_1]) (t := 33) ?hr ?_; (case hd => rfl); (case hg => rfl); (case hr => first | (go_simp; done) | (go_simp; rfl)); intro gb183 hg w5 hbox hb; have n0_ := Aside0.mk (below_step (by repeat (first | (with_reducible first | exact HB.out | apply below_alloc | apply pw_below_drewN | apply below_drew1) | exact HB.out)) hb); have n1_ := Aside0.mk (hbox); have n2_ := Aside0.mk ((by rw [hg]; exact (below_size (by repeat (first | (with_reducible first | exact HB.out | apply below_alloc | apply pw_below_drewN | apply below_drew1) | exact HB.out))) : w.heap.size ≤ gb183)); have n3_ := Aside0.mk ((by rw [hg]; exact (below_size (by repeat (first | (with_reducible first | exact HB.out | apply below_alloc | apply pw_below_drewN | apply below_drew1) | exact HB.out))) : w.heap.size ≤ gb183)); clear HB; have HB := n0_; have BK183 := n1_; have GW183 := n2_; have GE183 := n3_; clear n0_ n1_ n2_ n3_; clear hb hbox hg; have hcz6_0 : w5.cell? ⟨gb183, 0, none⟩ = some (.slice A0_0 l0_0.length c0_0) := (blk_cell BK183.out 0).trans rfl; have hcz6_1 : w5.cell? ⟨gb183, 1, none⟩ = some (.int .i64 a0_1) := (blk_cell BK183.out 1).trans rfl; have hfz6_0 := blk_frozen BK183.out 0; have hfz6_1 := blk_frozen BK183.out 1) | ((with_reducible refine gate_callee (f := 42) rfl ?_); refine goesL_ (some 10) rfl rfl Try.func42 (by kernel_rfl) rfl #[.agg #[.slice A0_0 l0_0.length c0_0, .int .i64 a0_1], .int .i64 a1, .int .i64 a2] rfl (by (try simp only [List.map_toArray, List.map_cons, List.map_nil]); first | done | rfl | (simp only [List.length_drop, List.length_take]; rfl)) ?_; (with_reducible refine (hypercuberef8_Size.calls k _ _ l0_0 a0_1 a1 a2 t184 _ ?side1 ?side2 A4.out).mono ?_); (case side1 => repeat (first | exact (Kd.C_below HR0_0.out HB.out) | (with_reducible refine Kd.C_alloc ?_ _) | (with_reducible refine Kd.C_drewN ?_ _) | (with_reducible refine Kd.C_drew ?_))); (case side2 => exact HC0_0.out); rintro e w7 ⟨rfl, hb⟩; refine ⟨_, rfl, ?_⟩; have n0_ := Aside0.mk (blk_below (g := gb183) (o := .cells #[.slice A0_0 l0_0.length c0_0, .int .i64 a0_1] 33 (0, 0)) (by (with_reducible repeat (first | refine blk_drewN ?_ _ | refine blk_drew ?_ | refine blk_alloc ?_ _)); exact BK183.out) hb); have n1_ := Aside0.mk (below_step (by repeat (first | (with_reducible first | exact HB.out | apply below_alloc | apply pw_below_drewN | apply below_drew1 | refine below_set ?_ GE183.out) | exact HB.out)) hb); clear BK183; clear HB; have BK183 := n0_; have HB := n1_; clear n0_ n1_; (try clear hb); (try clear hb2); (try clear hk); (try clear hi)))
 go_ret
 exact ⟨by first | rfl | (simp [errW_none, errW_some] <;> rfl) | (simp [*, errW_none, errW_some] <;> rfl), by repeat (first | (with_reducible first | exact HB.out | apply below_alloc | apply pw_below_drewN | apply below_drew1 | refine below_set ?_ GE183.out) | exact HB.out)⟩

/-! ### hypercuberef8_Sort: function 50 -/
def hypercuberef8_Sort.l0 : Nat → Int → Int → Int → Option (Int)
 | 0, _, _, _ => none
 | k + 1, x7, x8, x9 => if x9 > 0 then (hypercuberef8_Sort.l0 k x7 (wrap64 (x8 + 1)) (wrap64 (Int.tdiv x9 2))) else (some (wrap64 (x7 + (wrap64 (x7 * x8)))))
def hypercuberef8_Sort.f (k : Nat) (l0_0 : List Int) (a0_1 : Int) (a1 : Int) (a2 : Int) : Option (Int) := (hypercuberef8_Size.f k l0_0 a0_1 a1 a2).bind fun t186 => (hypercuberef8_Sort.l0 k t186 0 t186)
theorem hypercuberef8_Sort.mono_l : ∀ k, (∀ y0 y1 y2, LeO (hypercuberef8_Sort.l0 k y0 y1 y2) (hypercuberef8_Sort.l0 (k + 1) y0 y1 y2))
 | 0 => fun _ _ _ r h => by simp [hypercuberef8_Sort.l0] at h
 | k + 1 => by
  have ih0 := hypercuberef8_Sort.mono_l k
  intro y0 y1 y2
  unfold hypercuberef8_Sort.l0
  repeat' first
  | (with_reducible exact ih0 _ _ _)
  | (with_reducible exact hypercuberef8_Size.mono _ _ _ _ _)
  | (with_reducible exact LeO.refl _)
  | (with_reducible exact LeO.none _)
  | (with_reducible refine LeO.ite ?_ ?_)
  | (with_reducible refine LeO.bind ?_ (fun _ => ?_))
  | exact ih0 _ _ _
  | exact hypercuberef8_Size.mono _ _ _ _ _
  | exact LeO.none _
  | refine LeO.ite ?_ ?_
  | refine LeO.bind ?_ (fun _ => ?_)
theorem hypercuberef8_Sort.mono : ∀ a0 a1 a2 a3 k, LeO (hypercuberef8_Sort.f k a0 a1 a2 a3) (hypercuberef8_Sort.f (k + 1) a0 a1 a2 a3) := by
 intro a0 a1 a2 a3 k
 have ih0 := hypercuberef8_Sort.mono_l k
 unfold hypercuberef8_Sort.f
 repeat' first
  | (with_reducible exact ih0 _ _ _)
  | (with_reducible exact hypercuberef8_Size.mono _ _ _ _ _)
  | (with_reducible exact LeO.refl _)
  | (with_reducible exact LeO.none _)
  | (with_reducible refine LeO.ite ?_ ?_)
  | (with_reducible refine LeO.bind ?_ (fun _ => ?_))
  | exact ih0 _ _ _
  | exact hypercuberef8_Size.mono _ _ _ _ _
  | exact LeO.none _
  | refine LeO.ite ?_ ?_
  | refine LeO.bind ?_ (fun _ => ?_)
set_option maxHeartbeats 8000000 in
set_option maxRecDepth 100000 in
theorem hypercuberef8_Sort.calls (k : Nat) (A0_0 : Option Addr) (c0_0 : Nat) (l0_0 : List Int) (a0_1 : Int) (a1 : Int) (a2 : Int) (r : Int) (w : World) (hr0_0 : Kd.C (Kd.int .i64) w A0_0 l0_0.length l0_0) (hc0_0 : l0_0.length ≤ c0_0) (h : hypercuberef8_Sort.f k l0_0 a0_1 a1 a2 = some r) :
 Calls Try.prog 50 #[.agg #[.slice A0_0 l0_0.length c0_0, .int .i64 a0_1], .int .i64 a1, .int .i64 a2] w fun e w' => e = .returned (.int .i64 r) ∧ Below w.heap.size w w' := by
 have hu33 := Try.underlying33
 have HR0_0 := Aside0.mk hr0_0
 have HC0_0 := Aside0.mk hc0_0
 clear hr0_0 hc0_0
 have HB := Aside0.mk (Below.refl w.heap.size w)
 have H : ((hypercuberef8_Size.f k l0_0 a0_1 a1 a2).bind fun t186 => (hypercuberef8_Sort.l0 k t186 0 t186)) = some r := h
 clear h
 replace H := Option.bind_eq_some_iff.mp H
 obtain ⟨t186, A40, H⟩ := H
 replace H : (hypercuberef8_Sort.l0 k t186 0 t186) = some r := H
 have A4 := Aside0.mk A40
 clear A40
 have H' := Aside0.mk H
 clear H
 go_enter Try.func50, Try.ntmps50
 go_wp2_with (first | ((with_reducible refine gate_dst (N := 3) rfl ?_); refine box_event ?hg (N := 3) ?hd (cs := #[.slice A0_0 l0_0.length c0_0, .int .i64 a0_1]) (t := 33) ?hr ?_; (case hd => rfl); (case hg => rfl); (case hr => first | (go_simp; done) | (go_simp; rfl)); intro gb185 hg w5 hbox hb; have n0_ := Aside0.mk (below_step (by repeat (first | (with_reducible first | exact HB.out | apply below_alloc | apply pw_below_drewN | apply below_drew1) | exact HB.out)) hb); have n1_ := Aside0.mk (hbox); have n2_ := Aside0.mk ((by rw [hg]; exact (below_size (by repeat (first | (with_reducible first | exact HB.out | apply below_alloc | apply pw_below_drewN | apply below_drew1) | exact HB.out))) : w.heap.size ≤ gb185)); have n3_ := Aside0.mk ((by rw [hg]; exact (below_size (by repeat (first | (with_reducible first | exact HB.out | apply below_alloc | apply pw_below_drewN | apply below_drew1) | exact HB.out))) : w.heap.size ≤ gb185)); clear HB; have HB := n0_; have BK185 := n1_; have GW185 := n2_; have GE185 := n3_; clear n0_ n1_ n2_ n3_; clear hb hbox hg; have hcz6_0 : w5.cell? ⟨gb185, 0, none⟩ = some (.slice A0_0 l0_0.length c0_0) := (blk_cell BK185.out 0).trans rfl; have hcz6_1 : w5.cell? ⟨gb185, 1, none⟩ = some (.int .i64 a0_1) := (blk_cell BK185.out 1).trans rfl; have hfz6_0 := blk_frozen BK185.out 0; have hfz6_1 := blk_frozen BK185.out 1) | ((with_reducible refine gate_callee (f := 42) rfl ?_); refine goesL_ (some 13) rfl rfl Try.func42 (by kernel_rfl) rfl #[.agg #[.slice A0_0 l0_0.length c0_0, .int .i64 a0_1], .int .i64 a1, .int .i64 a2] rfl (by (try simp only [List.map_toArray, List.map_cons, List.map_nil]); first | done | rfl | (simp only [List.length_drop, List.length_take]; rfl)) ?_; (with_reducible refine (hypercuberef8_Size.calls k _ _ l0_0 a0_1 a1 a2 t186 _ ?side1 ?side2 A4.out).mono ?_); (case side1 => repeat (first | exact (Kd.C_below HR0_0.out HB.out) | (with_reducible refine Kd.C_alloc ?_ _) | (with_reducible refine Kd.C_drewN ?_ _) | (with_reducible refine Kd.C_drew ?_))); (case side2 => exact HC0_0.out); rintro e w7 ⟨rfl, hb⟩; refine ⟨_, rfl, ?_⟩; have n0_ := Aside0.mk (blk_below (g := gb185) (o := .cells #[.slice A0_0 l0_0.length c0_0, .int .i64 a0_1] 33 (0, 0)) (by (with_reducible repeat (first | refine blk_drewN ?_ _ | refine blk_drew ?_ | refine blk_alloc ?_ _)); exact BK185.out) hb); have n1_ := Aside0.mk (below_step (by repeat (first | (with_reducible first | exact HB.out | apply below_alloc | apply pw_below_drewN | apply below_drew1 | refine below_set ?_ GE185.out) | exact HB.out)) hb); clear BK185; clear HB; have BK185 := n0_; have HB := n1_; clear n0_ n1_; (try clear hb); (try clear hb2); (try clear hk); (try clear hi)))
 go_loopg [8, 9] k (fun kq v8 v9 w' => ∃ (x8_1 : Int) (x9_1 : Int), v8 = .int .i64 x8_1 ∧ v9 = .int .i64 x9_1 ∧ Aside0 (hypercuberef8_Sort.l0 kq t186 x8_1 x9_1 = some r) ∧ Aside0 (kq ≤ k) ∧ Aside0 (w'.heap[gb185]? = some (.cells #[(.slice A0_0 l0_0.length c0_0), .int .i64 a0_1] 33 (0, 0))) ∧ Aside0 (Below w.heap.size w w'))
 case atStart => exact ⟨(0), (t186), (by first | rfl | (simp; done) | (simp [*]; done)), (by first | rfl | (simp; done) | (simp [*]; done)), H', ⟨Nat.le_refl _⟩, ⟨by (with_reducible repeat (first | refine blk_drewN ?_ _ | refine blk_drew ?_ | refine blk_alloc ?_ _)); exact BK185.out⟩, ⟨by repeat (first | (with_reducible first | exact HB.out | apply below_alloc | apply pw_below_drewN | apply below_drew1 | refine below_set ?_ GE185.out) | exact HB.out)⟩⟩
 case round =>
  clear H'
  try clear p2
  try clear c4
  try clear c5
  try clear hcz6_0
  try clear hcz6_1
  try clear hfz6_0
  try clear hfz6_1
  obtain ⟨x8_1, x9_1, rfl, rfl, HA, HK1, BK185, HB⟩ := hrel
  cases gk with
  | zero => exact absurd HA.out (by simp [hypercuberef8_Sort.l0])
  | succ k1 =>
   have H := HA.out
   clear HA
   simp only [hypercuberef8_Sort.l0] at H
   by_cases c8 : x9_1 > 0
   rotate_left
   ·rw [if_neg c8] at H
    have c8b0 : decide (0 < x9_1) = false := decide_eq_false c8
    clear c8
    obtain rfl := Option.some.inj H
    go_wp2
    go_ret
    exact ⟨by first | rfl | (simp [errW_none, errW_some] <;> rfl) | (simp [*, errW_none, errW_some] <;> rfl), by repeat (first | (with_reducible first | exact HB.out | apply below_alloc | apply pw_below_drewN | apply below_drew1 | refine below_set ?_ GE185.out) | exact HB.out)⟩
   rw [if_pos c8] at H
   have c8b0 : decide (0 < x9_1) = true := decide_eq_true c8
   clear c8
   have H' := Aside0.mk H
   clear H
   go_wp2
   go_roundg k1
   case measure => have := HK1.out; omega
   case rel => exact ⟨(wrap64 (x8_1 + 1)), (wrap64 (Int.tdiv x9_1 2)), (by first | rfl | (simp; done) | (simp [*]; done)), (by first | rfl | (simp; done) | (simp [*]; done)), H', ⟨by have := HK1.out; omega⟩, ⟨by (with_reducible repeat (first | refine blk_drewN ?_ _ | refine blk_drew ?_ | refine blk_alloc ?_ _)); exact BK185.out⟩, ⟨by repeat (first | (with_reducible first | exact HB.out | apply below_alloc | apply pw_below_drewN | apply below_drew1 | refine below_set ?_ GE185.out) | exact HB.out)⟩⟩

/-! ### hypercuberef10_Cost: function 43 -/
def hypercuberef10_Cost.l0 : Nat → Int → List (S49) → Int → Int → List Int → Int → Option (Int)
 | 0, _, _, _, _, _, _ => none
 | k + 1, x1, x2, x7, x8, x188000, x188001 => if x8 < (x2.length : Int) then (if 0 ≤ x8 then (if ((rd_T49 x2 x8).f1) < 0 then (hypercuberef10_Cost.l0 k x1 x2 x7 (wrap64 (x8 + 1)) x188000 x188001) else (if (rd_T49 x2 x8).f2 = true then ((hypercuberef8_Scan.f k x188000 x188001 x1 ((rd_T49 x2 x8).f1)).bind fun t191 => (hypercuberef10_Cost.l0 k x1 x2 (wrap64 (x7 + t191)) (wrap64 (x8 + 1)) x188000 x188001)) else ((hypercuberef8_Sort.f k x188000 x188001 x1 ((rd_T49 x2 x8).f1)).bind fun t193 => (hypercuberef10_Cost.l0 k x1 x2 (wrap64 (x7 + t193)) (wrap64 (x8 + 1)) x188000 x188001)))) else (none)) else (some x7)
def hypercuberef10_Cost.f (k : Nat) (l0_0 : List Int) (a0_1 : Int) (a1 : Int) (l2 : List (S49)) : Option (Int) := hypercuberef10_Cost.l0 k a1 l2 0 0 l0_0 a0_1
def hypercuberef10_Cost.T5 : Bool × List (List Nat × List Nat) := (true, [([], []), ([], []), ([], []), ([], []), ([], []), ([3, 4], [3, 4]), ([5], [5]), ([6], [6]), ([1, 2, 7], [1, 2, 7]), ([0, 8], [0, 8]), ([9, 8, 0, 1, 2, 3, 4, 5, 6, 7, 8, 9], [0, 9])])
def hypercuberef10_Cost.B5 : List Nat := [0, 0, 0, 0, 0, 24, 56, 120, 254, 511, 1023]
theorem hypercuberef10_Cost.tab5 : rtab .any (opsOf Try.f43 5) = hypercuberef10_Cost.T5 := by kernel_rfl
theorem hypercuberef10_Cost.bits5 : waitsOk hypercuberef10_Cost.T5.2 hypercuberef10_Cost.B5 = true := by kernel_rfl
def hypercuberef10_Cost.T8 : Bool × List (List Nat × List Nat) := (true, [([], []), ([], []), ([], []), ([], []), ([], []), ([3, 4], [3, 4]), ([5], [5]), ([6], [6]), ([1, 2, 7], [1, 2, 7]), ([0, 8], [0, 8]), ([9, 8, 0, 1, 2, 3, 4, 5, 6, 7, 8, 9], [0, 9])])
def hypercuberef10_Cost.B8 : List Nat := [0, 0, 0, 0, 0, 24, 56, 120, 254, 511, 1023]
theorem hypercuberef10_Cost.tab8 : rtab .any (opsOf Try.f43 8) = hypercuberef10_Cost.T8 := by kernel_rfl
theorem hypercuberef10_Cost.bits8 : waitsOk hypercuberef10_Cost.T8.2 hypercuberef10_Cost.B8 = true := by kernel_rfl
set_option maxHeartbeats 8000000 in
set_option maxRecDepth 100000 in
theorem hypercuberef10_Cost.calls (k : Nat) (A0_0 : Option Addr) (c0_0 : Nat) (l0_0 : List Int) (a0_1 : Int) (a1 : Int) (A2 : Option Addr) (c2 : Nat) (l2 : List (S49)) (r : Int) (w : World) (hr0_0 : Kd.C (Kd.int .i64) w A0_0 l0_0.length l0_0) (hc0_0 : l0_0.length ≤ c0_0) (hr2 : Kd.C k49 w A2 l2.length l2) (hc2 : l2.length ≤ c2) (h : hypercuberef10_Cost.f k l0_0 a0_1 a1 l2 = some r) :
 Calls Try.prog 43 #[.agg #[.slice A0_0 l0_0.length c0_0, .int .i64 a0_1], .int .i64 a1, .slice A2 l2.length c2] w fun e w' => e = .returned (.int .i64 r) ∧ Below w.heap.size w w' := by
 have hu33 := Try.underlying33
 have HR0_0 := Aside0.mk hr0_0
 have HC0_0 := Aside0.mk hc0_0
 clear hr0_0 hc0_0
 have HR2 := Aside0.mk hr2
 have HC2 := Aside0.mk hc2
 clear hr2 hc2
 have HB := Aside0.mk (Below.refl w.heap.size w)
 have H : (hypercuberef10_Cost.l0 k a1 l2 0 0 l0_0 a0_1) = some r := h
 clear h
 have H' := Aside0.mk H
 clear H
 go_enter Try.func43, Try.ntmps43
 go_wp2_with (first | ((with_reducible refine gate_dst (N := 3) rfl ?_); refine box_event ?hg (N := 3) ?hd (cs := #[.slice A0_0 l0_0.length c0_0, .int .i64 a0_1]) (t := 33) ?hr ?_; (case hd => rfl); (case hg => rfl); (case hr => first | (go_simp; done) | (go_simp; rfl)); intro gb187 hg w4 hbox hb; have n0_ := Aside0.mk (below_step (by repeat (first | (with_reducible first | exact HB.out | apply below_alloc | apply pw_below_drewN | apply below_drew1) | exact HB.out)) hb); have n1_ := Aside0.mk (hbox); have n2_ := Aside0.mk ((by rw [hg]; exact (below_size (by repeat (first | (with_reducible first | exact HB.out | apply below_alloc | apply pw_below_drewN | apply below_drew1) | exact HB.out))) : w.heap.size ≤ gb187)); have n3_ := Aside0.mk ((by rw [hg]; exact (below_size (by repeat (first | (with_reducible first | exact HB.out | apply below_alloc | apply pw_below_drewN | apply below_drew1) | exact HB.out))) : w.heap.size ≤ gb187)); clear HB; have HB := n0_; have BK187 := n1_; have GW187 := n2_; have GE187 := n3_; clear n0_ n1_ n2_ n3_; clear hb hbox hg))
 go_loopg [7, 8] k (fun kq v7 v8 w' => ∃ (x7_1 : Int) (x8_1 : Int), v7 = .int .i64 x7_1 ∧ v8 = .int .i64 x8_1 ∧ Aside0 (hypercuberef10_Cost.l0 kq a1 l2 x7_1 x8_1 l0_0 a0_1 = some r) ∧ Aside0 (kq ≤ k) ∧ Aside0 (w'.heap[gb187]? = some (.cells #[(.slice A0_0 l0_0.length c0_0), .int .i64 a0_1] 33 (0, 0))) ∧ Aside0 (Below w.heap.size w w'))
 case atStart => exact ⟨(0), (0), (by first | rfl | (simp; done) | (simp [*]; done)), (by first | rfl | (simp; done) | (simp [*]; done)), H', ⟨Nat.le_refl _⟩, ⟨by (with_reducible repeat (first | refine blk_drewN ?_ _ | refine blk_drew ?_ | refine blk_alloc ?_ _)); exact BK187.out⟩, ⟨by repeat (first | (with_reducible first | exact HB.out | apply below_alloc | apply pw_below_drewN | apply below_drew1 | refine below_set ?_ GE187.out) | exact HB.out)⟩⟩
 case round =>
  clear H'
  try clear c2
  try clear p2
  try clear c4
  obtain ⟨x7_1, x8_1, rfl, rfl, HA, HK1, BK187, HB⟩ := hrel
  cases gk with
  | zero => exact absurd HA.out (by simp [hypercuberef10_Cost.l0])
  | succ k1 =>
   have H := HA.out
   clear HA
   simp only [hypercuberef10_Cost.l0] at H
   by_cases c5 : x8_1 < (l2.length : Int)
   rotate_left
   ·rw [if_neg c5] at H
    have c5b0 : decide (x8_1 < (l2.length : Int)) = false := decide_eq_false c5
    clear c5
    obtain rfl := Option.some.inj H
    go_wp2
    go_ret
    exact ⟨by first | rfl | (simp [errW_none, errW_some] <;> rfl) | (simp [*, errW_none, errW_some] <;> rfl), by repeat (first | (with_reducible first | exact HB.out | apply below_alloc | apply pw_below_drewN | apply below_drew1 | refine below_set ?_ GE187.out) | exact HB.out)⟩
   rw [if_pos c5] at H
   have c5b0 : decide (x8_1 < (l2.length : Int)) = true := decide_eq_true c5
   clear c5
   by_cases c6 : 0 ≤ x8_1
   rotate_left
   ·rw [if_neg c6] at H
    exact absurd H (by simp)
   rw [if_pos c6] at H
   have c6b0 : decide (0 ≤ x8_1) = true := decide_eq_true c6
   clear c6
   by_cases c7 : ((rd_T49 l2 x8_1).f1) < 0
   ·rw [if_pos c7] at H
    have c7b0 : decide (((rd_T49 l2 x8_1).f1) < 0) = true := decide_eq_true c7
    clear c7
    have H' := Aside0.mk H
    clear H
    have p188 : 0 ≤ (x8_1 : Int) := od_
    have q188 : x8_1 < (l2.length : Int) := od_
    obtain ⟨ad188, e188, hx188_0, hx188_1, hx188_2⟩ := at_T49 HR2.out x8_1 p188 q188
    cases e188
    replace hx188_0 := (HB.out.cell (World.block_lt_of_cell? w _ hx188_0)).trans hx188_0
    replace hx188_1 := (HB.out.cell (World.block_lt_of_cell? w _ hx188_1)).trans hx188_1
    replace hx188_2 := (HB.out.cell (World.block_lt_of_cell? w _ hx188_2)).trans hx188_2
    replace p188 := eq_true p188
    replace q188 := eq_true q188
    go_wp2
    go_roundg k1
    case measure => have := HK1.out; omega
    case rel => exact ⟨(x7_1), (wrap64 (x8_1 + 1)), (by first | rfl | (simp; done) | (simp [*]; done)), (by first | rfl | (simp; done) | (simp [*]; done)), H', ⟨by have := HK1.out; omega⟩, ⟨by (with_reducible repeat (first | refine blk_drewN ?_ _ | refine blk_drew ?_ | refine blk_alloc ?_ _)); exact BK187.out⟩, ⟨by repeat (first | (with_reducible first | exact HB.out | apply below_alloc | apply pw_below_drewN | apply below_drew1 | refine below_set ?_ GE187.out) | exact HB.out)⟩⟩
   rw [if_neg c7] at H
   have c7b0 : decide (((rd_T49 l2 x8_1).f1) < 0) = false := decide_eq_false c7
   clear c7
   obtain ⟨bq8, hbq8⟩ : ∃ b_ : Bool, b_ = ((rd_T49 l2 x8_1).f2) := ⟨_, rfl⟩
   replace H : (if bq8 = true then ((hypercuberef8_Scan.f k1 l0_0 a0_1 a1 ((rd_T49 l2 x8_1).f1)).bind fun t191 => (hypercuberef10_Cost.l0 k1 a1 l2 (wrap64 (x7_1 + t191)) (wrap64 (x8_1 + 1)) l0_0 a0_1)) else ((hypercuberef8_Sort.f k1 l0_0 a0_1 a1 ((rd_T49 l2 x8_1).f1)).bind fun t193 => (hypercuberef10_Cost.l0 k1 a1 l2 (wrap64 (x7_1 + t193)) (wrap64 (x8_1 + 1)) l0_0 a0_1))) = some r := by rw [← hbq8] at H; exact H
   have Nbq8 := Aside0.mk hbq8
   clear hbq8
   by_cases c9 : bq8 = true
   ·subst c9
    have H1 : ((hypercuberef8_Scan.f k1 l0_0 a0_1 a1 ((rd_T49 l2 x8_1).f1)).bind fun t191 => (hypercuberef10_Cost.l0 k1 a1 l2 (wrap64 (x7_1 + t191)) (wrap64 (x8_1 + 1)) l0_0 a0_1)) = some r := by rw [if_pos rfl] at H; exact H
    clear H
    have H := H1
    clear H1
    replace H := Option.bind_eq_some_iff.mp H
    obtain ⟨t191, A100, H⟩ := H
    replace H : (hypercuberef10_Cost.l0 k1 a1 l2 (wrap64 (x7_1 + t191)) (wrap64 (x8_1 + 1)) l0_0 a0_1) = some r := H
    have A10 := Aside0.mk A100
    clear A100
    have H' := Aside0.mk H
    clear H
    have p188 : 0 ≤ (x8_1 : Int) := od_
    have q188 : x8_1 < (l2.length : Int) := od_
    obtain ⟨ad188, e188, hx188_0, hx188_1, hx188_2⟩ := at_T49 HR2.out x8_1 p188 q188
    (try rw [← Nbq8.out] at hx188_2)
    cases e188
    replace hx188_0 := (HB.out.cell (World.block_lt_of_cell? w _ hx188_0)).trans hx188_0
    replace hx188_1 := (HB.out.cell (World.block_lt_of_cell? w _ hx188_1)).trans hx188_1
    replace hx188_2 := (HB.out.cell (World.block_lt_of_cell? w _ hx188_2)).trans hx188_2
    replace p188 := eq_true p188
    replace q188 := eq_true q188
    have p189 : 0 ≤ (x8_1 : Int) := od_
    have q189 : x8_1 < (l2.length : Int) := od_
    obtain ⟨ad189, e189, hx189_0, hx189_1, hx189_2⟩ := at_T49 HR2.out x8_1 p189 q189
    (try rw [← Nbq8.out] at hx189_2)
    obtain rfl : ad188 = ad189 := (by injection e189)
    replace hx189_0 := (HB.out.cell (World.block_lt_of_cell? w _ hx189_0)).trans hx189_0
    replace hx189_1 := (HB.out.cell (World.block_lt_of_cell? w _ hx189_1)).trans hx189_1
    replace hx189_2 := (HB.out.cell (World.block_lt_of_cell? w _ hx189_2)).trans hx189_2
    replace p189 := eq_true p189
    replace q189 := eq_true q189
    try go_wp2
    have n0_ := Aside0.mk (blk_drew BK187.out)
    have n1_ := Aside0.mk (below_drew1 HB.out)
    clear BK187
    clear HB
    have BK187 := n0_
    have HB := n1_
    clear n0_ n1_
    have p190 : 0 ≤ (x8_1 : Int) := od_
    have q190 : x8_1 < (l2.length : Int) := od_
    obtain ⟨ad190, e190, hx190_0, hx190_1, hx190_2⟩ := at_T49 HR2.out x8_1 p190 q190
    have hw190_2 := hx190_2
    have hw190_1 := hx190_1
    have hw190_0 := hx190_0
    (try rw [← Nbq8.out] at hx190_2)
    (try rw [← Nbq8.out] at hw190_2)
    obtain rfl : ad188 = ad190 := (by injection e190)
    replace hx190_0 := (HB.out.cell (World.block_lt_of_cell? w _ hx190_0)).trans hx190_0
    replace hx190_1 := (HB.out.cell (World.block_lt_of_cell? w _ hx190_1)).trans hx190_1
    replace hx190_2 := (HB.out.cell (World.block_lt_of_cell? w _ hx190_2)).trans hx190_2
    replace p190 := eq_true p190
    replace q190 := eq_true q190
    refine start_ (n := 11) (S := fun w' => w'.cell? ⟨gb187, 0, none⟩ = some (.slice A0_0 l0_0.length c0_0) ∧ w'.cell? ⟨gb187, 1, none⟩ = some (.int .i64 a0_1) ∧ w'.cell? (ad188.add ((x8_1).toNat * 3)) = some (.int .i64 ((rd_T49 l2 x8_1).f0)) ∧ w'.cell? ⟨(ad188.add ((x8_1).toNat * 3)).block, (ad188.add ((x8_1).toNat * 3)).off + 1, none⟩ = some (.int .i64 ((rd_T49 l2 x8_1).f1)) ∧ w'.cell? ⟨(ad188.add ((x8_1).toNat * 3)).block, (ad188.add ((x8_1).toNat * 3)).off + 2, none⟩ = some (.bool (true))) (ds := []) (fl_ 0 11) (by kernel_rfl) rfl rfl ⟨(blk_cell BK187.out 0).trans rfl, (blk_cell BK187.out 1).trans rfl, ((HB.out.cell (World.block_lt_of_cell? w _ hw190_0)).trans hw190_0), ((HB.out.cell (World.block_lt_of_cell? w _ hw190_1)).trans hw190_1), ((HB.out.cell (World.block_lt_of_cell? w _ hw190_2)).trans hw190_2)⟩ (fun hHeld => ?_); refine with_tabW hypercuberef10_Cost.tab8 hypercuberef10_Cost.bits8 (fun HT_ HW_ => ?_)
    generalize wr.drew = w11 at BK187 HB hx190_0 hx190_1 hx190_2 hHeld ⊢
    refine pure_ (i := 0) (N := some 38) (v := ?_) (a' := ?_) (fl_ 1 10) rfl rfl (any_of HT_.out (by kernel_rfl)) (fun _ _ _ h => h) (Or.inl ⟨by rfl, ?_⟩) ?_ ?_
    rotate_left
    ·intro w'
     go_simp
     with_reducible rfl
    rotate_left
    ·simp only [Act.put, sl0, sl1, sl2, i64_w, i32_w]
     rfl
    refine pure_ (i := 2) (N := some 40) (v := ?_) (a' := ?_) #[Y,Z,Y,Z,Z,Z,Z,Z,Z,Z,Z] rfl rfl (any_of HT_.out (by kernel_rfl)) (fun _ _ _ h => h) (Or.inl ⟨by rfl, ?_⟩) ?_ ?_
    rotate_left
    ·intro w'
     go_simp
     with_reducible rfl
    rotate_left
    ·simp only [Act.put, sl0, sl1, sl2, i64_w, i32_w]
     rfl
    refine pure_ (i := 3) (N := some 41) (v := ?_) (a' := ?_) #[Y,Z,Y,Y,Z,Z,Z,Z,Z,Z,Z] rfl rfl (any_of HT_.out (by kernel_rfl)) (fun _ _ _ h => h) (Or.inl ⟨by rfl, ?_⟩) ?_ ?_
    rotate_left
    ·intro w'
     go_simp
     with_reducible rfl
    rotate_left
    ·simp only [Act.put, sl0, sl1, sl2, i64_w, i32_w]
     rfl
    refine pure_ (i := 4) (N := some 42) (v := ?_) (a' := ?_) #[Y,Z,Y,Y,Y,Z,Z,Z,Z,Z,Z] rfl rfl (any_of HT_.out (by kernel_rfl)) (fun _ _ _ h => h) (Or.inl ⟨by rfl, ?_⟩) ?_ ?_
    rotate_left
    ·intro w'
     go_simp
     with_reducible rfl
    rotate_left
    ·simp only [Act.put, sl0, sl1, sl2, i64_w, i32_w]
     rfl
    refine pure_ (i := 5) (N := some 43) (v := ?_) (a' := ?_) #[Y,Z,Y,Y,Y,Y,Z,Z,Z,Z,Z] rfl rfl (any_of HT_.out (by kernel_rfl)) (fun _ _ _ h => h) (Or.inl ⟨by rfl, ?_⟩) ?_ ?_
    rotate_left
    ·intro w'
     go_simp
     with_reducible rfl
    rotate_left
    ·simp only [Act.put, sl0, sl1, sl2, i64_w, i32_w]
     rfl
    refine pure_ (i := 6) (N := some 44) (v := ?_) (a' := ?_) #[Y,Z,Y,Y,Y,Y,Y,Z,Z,Z,Z] rfl rfl (any_of HT_.out (by kernel_rfl)) (fun _ _ _ h => h) (Or.inl ⟨by rfl, ?_⟩) ?_ ?_
    rotate_left
    ·intro w'
     go_simp
     with_reducible rfl
    rotate_left
    ·simp only [Act.put, sl0, sl1, sl2, i64_w, i32_w]
     rfl
    refine take_ (i := 1) (N := some 39) (v := ?_) (a' := ?_) (fl_ 7 4) rfl rfl (take_ofW HT_.out HW_.out (by kernel_rfl)) (fun _ _ _ h => h) (Or.inl ⟨by rfl, ?_⟩) hHeld ?_ ?_
    rotate_left
    ·rintro w' ⟨s0, s1, s2, s3, s4⟩
     go_simp
     with_reducible rfl
    rotate_left
    ·simp only [Act.put, sl0, sl1, sl2, i64_w, i32_w]
     rfl
    refine take_ (i := 7) (N := some 45) (v := ?_) (a' := ?_) (fl_ 8 3) rfl rfl (take_ofW HT_.out HW_.out (by kernel_rfl)) (fun _ _ _ h => h) (Or.inl ⟨by rfl, ?_⟩) hHeld ?_ ?_
    rotate_left
    ·rintro w' ⟨s0, s1, s2, s3, s4⟩
     go_simp
     with_reducible rfl
    rotate_left
    ·simp only [Act.put, sl0, sl1, sl2, i64_w, i32_w]
     rfl
    refine one_ (i := 8) (N := some 46) (fl_ 9 2) rfl rfl (one_of HT_.out (by kernel_rfl)) (by decide) (fun K hK => ?_)
    refine goes_ Try.func48 (by kernel_rfl) rfl #[.agg #[.slice A0_0 l0_0.length c0_0, .int .i64 a0_1], .int .i64 a1, .int .i64 ((rd_T49 l2 x8_1).f1)] (by rfl) rfl rfl (by (try simp only [List.map_toArray, List.map_cons, List.map_nil]); first | done | rfl | (simp only [List.length_drop, List.length_take]; rfl)) ?_
    with_reducible refine (hypercuberef8_Scan.calls k1 _ _ l0_0 a0_1 a1 ((rd_T49 l2 x8_1).f1) t191 _ ?side1 ?side2 A10.out).mono ?_
    (case side1 => repeat (first | exact (Kd.C_below HR0_0.out HB.out) | (with_reducible refine Kd.C_alloc ?_ _) | (with_reducible refine Kd.C_drewN ?_ _) | (with_reducible refine Kd.C_drew ?_)))
    (case side2 => exact HC0_0.out)
    rintro e w12 ⟨rfl, hb⟩
    refine ⟨_, rfl, ?_⟩
    have n0_ := Aside0.mk (blk_below (g := gb187) (o := .cells #[.slice A0_0 l0_0.length c0_0, .int .i64 a0_1] 33 (0, 0)) (by (with_reducible repeat (first | refine blk_drewN ?_ _ | refine blk_drew ?_ | refine blk_alloc ?_ _)); exact BK187.out) hb)
    have n1_ := Aside0.mk (below_step (by repeat (first | (with_reducible first | exact HB.out | apply below_alloc | apply pw_below_drewN | apply below_drew1 | refine below_set ?_ GE187.out) | exact HB.out)) hb)
    clear BK187
    clear HB
    have BK187 := n0_
    have HB := n1_
    clear n0_ n1_
    (try clear hb)
    (try clear hb2)
    (try clear hk)
    (try clear hi)
    refine hK.out _ _ ⟨(blk_cell BK187.out 0).trans rfl, (blk_cell BK187.out 1).trans rfl, ((HB.out.cell (World.block_lt_of_cell? w _ hw190_0)).trans hw190_0), ((HB.out.cell (World.block_lt_of_cell? w _ hw190_1)).trans hw190_1), ((HB.out.cell (World.block_lt_of_cell? w _ hw190_2)).trans hw190_2)⟩ (fun hHeld => ?_)
    clear hK K
    refine norm_ (a' := ?_) ?_ ?_
    rotate_left
    ·show Act.put _ (some 46) _ = _
     simp only [Act.put, sl0, sl1, sl2, i64_w, i32_w]
     rfl
    refine pure_ (i := 9) (N := some 47) (v := ?_) (a' := ?_) (fl_ 10 1) rfl rfl (any_of HT_.out (by kernel_rfl)) (fun _ _ _ h => h) (Or.inl ⟨by rfl, ?_⟩) ?_ ?_
    rotate_left
    ·intro w'
     go_simp
     with_reducible rfl
    rotate_left
    ·simp only [Act.put, sl0, sl1, sl2, i64_w, i32_w]
     rfl
    refine pure_ (i := 10) (N := some 7) (v := ?_) (a' := ?_) (fl_ 11 0) rfl rfl (any_of HT_.out (by kernel_rfl)) (fun _ _ _ h => h) (Or.inl ⟨by rfl, ?_⟩) ?_ ?_
    rotate_left
    ·intro w'
     go_simp
     with_reducible rfl
    rotate_left
    ·simp only [Act.put, sl0, sl1, sl2, i64_w, i32_w]
     rfl
    refine done_ (done_of HT_.out (by kernel_rfl)) ?_
    try go_wp2
    go_roundg k1
    case measure => have := HK1.out; omega
    case rel => exact ⟨(wrap64 (x7_1 + t191)), (wrap64 (x8_1 + 1)), (by first | rfl | (simp; done) | (simp [*]; done)), (by first | rfl | (simp; done) | (simp [*]; done)), H', ⟨by have := HK1.out; omega⟩, ⟨by (with_reducible repeat (first | refine blk_drewN ?_ _ | refine blk_drew ?_ | refine blk_alloc ?_ _)); exact BK187.out⟩, ⟨by repeat (first | (with_reducible first | exact HB.out | apply below_alloc | apply pw_below_drewN | apply below_drew1 | refine below_set ?_ GE187.out) | exact HB.out)⟩⟩
   replace c9 := Bool.eq_false_iff.mpr c9
   subst c9
   have H1 : ((hypercuberef8_Sort.f k1 l0_0 a0_1 a1 ((rd_T49 l2 x8_1).f1)).bind fun t193 => (hypercuberef10_Cost.l0 k1 a1 l2 (wrap64 (x7_1 + t193)) (wrap64 (x8_1 + 1)) l0_0 a0_1)) = some r := by rw [if_neg (show ¬ (false = true) by decide)] at H; exact H
   clear H
   have H := H1
   clear H1
   replace H := Option.bind_eq_some_iff.mp H
   obtain ⟨t193, A130, H⟩ := H
   replace H : (hypercuberef10_Cost.l0 k1 a1 l2 (wrap64 (x7_1 + t193)) (wrap64 (x8_1 + 1)) l0_0 a0_1) = some r := H
   have A13 := Aside0.mk A130
   clear A130
   have H' := Aside0.mk H
   clear H
   have p188 : 0 ≤ (x8_1 : Int) := od_
   have q188 : x8_1 < (l2.length : Int) := od_
   obtain ⟨ad188, e188, hx188_0, hx188_1, hx188_2⟩ := at_T49 HR2.out x8_1 p188 q188
   (try rw [← Nbq8.out] at hx188_2)
   cases e188
   replace hx188_0 := (HB.out.cell (World.block_lt_of_cell? w _ hx188_0)).trans hx188_0
   replace hx188_1 := (HB.out.cell (World.block_lt_of_cell? w _ hx188_1)).trans hx188_1
   replace hx188_2 := (HB.out.cell (World.block_lt_of_cell? w _ hx188_2)).trans hx188_2
   replace p188 := eq_true p188
   replace q188 := eq_true q188
   have p189 : 0 ≤ (x8_1 : Int) := od_
   have q189 : x8_1 < (l2.length : Int) := od_
   obtain ⟨ad189, e189, hx189_0, hx189_1, hx189_2⟩ := at_T49 HR2.out x8_1 p189 q189
   (try rw [← Nbq8.out] at hx189_2)
   obtain rfl : ad188 = ad189 := (by injection e189)
   replace hx189_0 := (HB.out.cell (World.block_lt_of_cell? w _ hx189_0)).trans hx189_0
   replace hx189_1 := (HB.out.cell (World.block_lt_of_cell? w _ hx189_1)).trans hx189_1
   replace hx189_2 := (HB.out.cell (World.block_lt_of_cell? w _ hx189_2)).trans hx189_2
   replace p189 := eq_true p189
   replace q189 := eq_true q189
   try go_wp2
   have n0_ := Aside0.mk (blk_drew BK187.out)
   have n1_ := Aside0.mk (below_drew1 HB.out)
   clear BK187
   clear HB
   have BK187 := n0_
   have HB := n1_
   clear n0_ n1_
   have p192 : 0 ≤ (x8_1 : Int) := od_
   have q192 : x8_1 < (l2.length : Int) := od_
   obtain ⟨ad192, e192, hx192_0, hx192_1, hx192_2⟩ := at_T49 HR2.out x8_1 p192 q192
   have hw192_2 := hx192_2
   have hw192_1 := hx192_1
   have hw192_0 := hx192_0
   (try rw [← Nbq8.out] at hx192_2)
   (try rw [← Nbq8.out] at hw192_2)
   obtain rfl : ad188 = ad192 := (by injection e192)
   replace hx192_0 := (HB.out.cell (World.block_lt_of_cell? w _ hx192_0)).trans hx192_0
   replace hx192_1 := (HB.out.cell (World.block_lt_of_cell? w _ hx192_1)).trans hx192_1
   replace hx192_2 := (HB.out.cell (World.block_lt_of_cell? w _ hx192_2)).trans hx192_2
   replace p192 := eq_true p192
   replace q192 := eq_true q192
   refine start_ (n := 11) (S := fun w' => w'.cell? ⟨gb187, 0, none⟩ = some (.slice A0_0 l0_0.length c0_0) ∧ w'.cell? ⟨gb187, 1, none⟩ = some (.int .i64 a0_1) ∧ w'.cell? (ad188.add ((x8_1).toNat * 3)) = some (.int .i64 ((rd_T49 l2 x8_1).f0)) ∧ w'.cell? ⟨(ad188.add ((x8_1).toNat * 3)).block, (ad188.add ((x8_1).toNat * 3)).off + 1, none⟩ = some (.int .i64 ((rd_T49 l2 x8_1).f1)) ∧ w'.cell? ⟨(ad188.add ((x8_1).toNat * 3)).block, (ad188.add ((x8_1).toNat * 3)).off + 2, none⟩ = some (.bool (false))) (ds := []) (fl_ 0 11) (by kernel_rfl) rfl rfl ⟨(blk_cell BK187.out 0).trans rfl, (blk_cell BK187.out 1).trans rfl, ((HB.out.cell (World.block_lt_of_cell? w _ hw192_0)).trans hw192_0), ((HB.out.cell (World.block_lt_of_cell? w _ hw192_1)).trans hw192_1), ((HB.out.cell (World.block_lt_of_cell? w _ hw192_2)).trans hw192_2)⟩ (fun hHeld => ?_); refine with_tabW hypercuberef10_Cost.tab5 hypercuberef10_Cost.bits5 (fun HT_ HW_ => ?_)
   generalize wr.drew = w14 at BK187 HB hx192_0 hx192_1 hx192_2 hHeld ⊢
   refine pure_ (i := 0) (N := some 15) (v := ?_) (a' := ?_) (fl_ 1 10) rfl rfl (any_of HT_.out (by kernel_rfl)) (fun _ _ _ h => h) (Or.inl ⟨by rfl, ?_⟩) ?_ ?_
   rotate_left
   ·intro w'
    go_simp
    with_reducible rfl
   rotate_left
   ·simp only [Act.put, sl0, sl1, sl2, i64_w, i32_w]
    rfl
   refine pure_ (i := 2) (N := some 17) (v := ?_) (a' := ?_) #[Y,Z,Y,Z,Z,Z,Z,Z,Z,Z,Z] rfl rfl (any_of HT_.out (by kernel_rfl)) (fun _ _ _ h => h) (Or.inl ⟨by rfl, ?_⟩) ?_ ?_
   rotate_left
   ·intro w'
    go_simp
    with_reducible rfl
   rotate_left
   ·simp only [Act.put, sl0, sl1, sl2, i64_w, i32_w]
    rfl
   refine pure_ (i := 3) (N := some 18) (v := ?_) (a' := ?_) #[Y,Z,Y,Y,Z,Z,Z,Z,Z,Z,Z] rfl rfl (any_of HT_.out (by kernel_rfl)) (fun _ _ _ h => h) (Or.inl ⟨by rfl, ?_⟩) ?_ ?_
   rotate_left
   ·intro w'
    go_simp
    with_reducible rfl
   rotate_left
   ·simp only [Act.put, sl0, sl1, sl2, i64_w, i32_w]
    rfl
   refine pure_ (i := 4) (N := some 19) (v := ?_) (a' := ?_) #[Y,Z,Y,Y,Y,Z,Z,Z,Z,Z,Z] rfl rfl (any_of HT_.out (by kernel_rfl)) (fun _ _ _ h => h) (Or.inl ⟨by rfl, ?_⟩) ?_ ?_
   rotate_left
   ·intro w'
    go_simp
    with_reducible rfl
   rotate_left
   ·simp only [Act.put, sl0, sl1, sl2, i64_w, i32_w]
    rfl
   refine pure_ (i := 5) (N := some 20) (v := ?_) (a' := ?_) #[Y,Z,Y,Y,Y,Y,Z,Z,Z,Z,Z] rfl rfl (any_of HT_.out (by kernel_rfl)) (fun _ _ _ h => h) (Or.inl ⟨by rfl, ?_⟩) ?_ ?_
   rotate_left
   ·intro w'
    go_simp
    with_reducible rfl
   rotate_left
   ·simp only [Act.put, sl0, sl1, sl2, i64_w, i32_w]
    rfl
   refine pure_ (i := 6) (N := some 21) (v := ?_) (a' := ?_) #[Y,Z,Y,Y,Y,Y,Y,Z,Z,Z,Z] rfl rfl (any_of HT_.out (by kernel_rfl)) (fun _ _ _ h => h) (Or.inl ⟨by rfl, ?_⟩) ?_ ?_
   rotate_left
   ·intro w'
    go_simp
    with_reducible rfl
   rotate_left
   ·simp only [Act.put, sl0, sl1, sl2, i64_w, i32_w]
    rfl
   refine take_ (i := 1) (N := some 16) (v := ?_) (a' := ?_) (fl_ 7 4) rfl rfl (take_ofW HT_.out HW_.out (by kernel_rfl)) (fun _ _ _ h => h) (Or.inl ⟨by rfl, ?_⟩) hHeld ?_ ?_
   rotate_left
   ·rintro w' ⟨s0, s1, s2, s3, s4⟩
    go_simp
    with_reducible rfl
   rotate_left
   ·simp only [Act.put, sl0, sl1, sl2, i64_w, i32_w]
    rfl
   refine take_ (i := 7) (N := some 22) (v := ?_) (a' := ?_) (fl_ 8 3) rfl rfl (take_ofW HT_.out HW_.out (by kernel_rfl)) (fun _ _ _ h => h) (Or.inl ⟨by rfl, ?_⟩) hHeld ?_ ?_
   rotate_left
   ·rintro w' ⟨s0, s1, s2, s3, s4⟩
    go_simp
    with_reducible rfl
   rotate_left
   ·simp only [Act.put, sl0, sl1, sl2, i64_w, i32_w]
    rfl
   refine one_ (i := 8) (N := some 23) (fl_ 9 2) rfl rfl (one_of HT_.out (by kernel_rfl)) (by decide) (fun K hK => ?_)
   refine goes_ Try.func50 (by kernel_rfl) rfl #[.agg #[.slice A0_0 l0_0.length c0_0, .int .i64 a0_1], .int .i64 a1, .int .i64 ((rd_T49 l2 x8_1).f1)] (by rfl) rfl rfl (by (try simp only [List.map_toArray, List.map_cons, List.map_nil]); first | done | rfl | (simp only [List.length_drop, List.length_take]; rfl)) ?_
   with_reducible refine (hypercuberef8_Sort.calls k1 _ _ l0_0 a0_1 a1 ((rd_T49 l2 x8_1).f1) t193 _ ?side1 ?side2 A13.out).mono ?_
   (case side1 => repeat (first | exact (Kd.C_below HR0_0.out HB.out) | (with_reducible refine Kd.C_alloc ?_ _) | (with_reducible refine Kd.C_drewN ?_ _) | (with_reducible refine Kd.C_drew ?_)))
   (case side2 => exact HC0_0.out)
   rintro e w15 ⟨rfl, hb⟩
   refine ⟨_, rfl, ?_⟩
   have n0_ := Aside0.mk (blk_below (g := gb187) (o := .cells #[.slice A0_0 l0_0.length c0_0, .int .i64 a0_1] 33 (0, 0)) (by (with_reducible repeat (first | refine blk_drewN ?_ _ | refine blk_drew ?_ | refine blk_alloc ?_ _)); exact BK187.out) hb)
   have n1_ := Aside0.mk (below_step (by repeat (first | (with_reducible first | exact HB.out | apply below_alloc | apply pw_below_drewN | apply below_drew1 | refine below_set ?_ GE187.out) | exact HB.out)) hb)
   clear BK187
   clear HB
   have BK187 := n0_
   have HB := n1_
   clear n0_ n1_
   (try clear hb)
   (try clear hb2)
   (try clear hk)
   (try clear hi)
   refine hK.out _ _ ⟨(blk_cell BK187.out 0).trans rfl, (blk_cell BK187.out 1).trans rfl, ((HB.out.cell (World.block_lt_of_cell? w _ hw192_0)).trans hw192_0), ((HB.out.cell (World.block_lt_of_cell? w _ hw192_1)).trans hw192_1), ((HB.out.cell (World.block_lt_of_cell? w _ hw192_2)).trans hw192_2)⟩ (fun hHeld => ?_)
   clear hK K
   refine norm_ (a' := ?_) ?_ ?_
   rotate_left
   ·show Act.put _ (some 23) _ = _
    simp only [Act.put, sl0, sl1, sl2, i64_w, i32_w]
    rfl
   refine pure_ (i := 9) (N := some 24) (v := ?_) (a' := ?_) (fl_ 10 1) rfl rfl (any_of HT_.out (by kernel_rfl)) (fun _ _ _ h => h) (Or.inl ⟨by rfl, ?_⟩) ?_ ?_
   rotate_left
   ·intro w'
    go_simp
    with_reducible rfl
   rotate_left
   ·simp only [Act.put, sl0, sl1, sl2, i64_w, i32_w]
    rfl
   refine pure_ (i := 10) (N := some 7) (v := ?_) (a' := ?_) (fl_ 11 0) rfl rfl (any_of HT_.out (by kernel_rfl)) (fun _ _ _ h => h) (Or.inl ⟨by rfl, ?_⟩) ?_ ?_
   rotate_left
   ·intro w'
    go_simp
    with_reducible rfl
   rotate_left
   ·simp only [Act.put, sl0, sl1, sl2, i64_w, i32_w]
    rfl
   refine done_ (done_of HT_.out (by kernel_rfl)) ?_
   try go_wp2
   go_roundg k1
   case measure => have := HK1.out; omega
   case rel => exact ⟨(wrap64 (x7_1 + t193)), (wrap64 (x8_1 + 1)), (by first | rfl | (simp; done) | (simp [*]; done)), (by first | rfl | (simp; done) | (simp [*]; done)), H', ⟨by have := HK1.out; omega⟩, ⟨by (with_reducible repeat (first | refine blk_drewN ?_ _ | refine blk_drew ?_ | refine blk_alloc ?_ _)); exact BK187.out⟩, ⟨by repeat (first | (with_reducible first | exact HB.out | apply below_alloc | apply pw_below_drewN | apply below_drew1 | refine below_set ?_ GE187.out) | exact HB.out)⟩⟩

/-! ### hypercuberef10_level: function 95 -/
def hypercuberef10_level.l0 : Nat → Int → List Int → List Int → Int → Option (List Int)
 | 0, _, _, _, _ => none
 | k + 1, x1, x5, x6, x7 => if x7 < (x6.length : Int) then (if 0 ≤ x7 then ((hypercuberef8_Level.f k (rd x6 x7)).bind fun t198 => (if t198 = x1 then (if x5.length < 17592186044416 then (hypercuberef10_level.l0 k x1 (x5 ++ [rd x6 x7]) x6 (wrap64 (x7 + 1))) else (none)) else (hypercuberef10_level.l0 k x1 x5 x6 (wrap64 (x7 + 1))))) else (none)) else (some x5)
def hypercuberef10_level.f (k : Nat) (a0 : Int) (a1 : Int) : Option (List Int) := (hypercuberef8_Sets.f k a0).bind fun t194 => (hypercuberef10_level.l0 k a1 ([] : List Int) t194 0)
theorem hypercuberef10_level.mono_l : ∀ k, (∀ y0 y1 y2 y3, LeO (hypercuberef10_level.l0 k y0 y1 y2 y3) (hypercuberef10_level.l0 (k + 1) y0 y1 y2 y3))
 | 0 => fun _ _ _ _ r h => by simp [hypercuberef10_level.l0] at h
 | k + 1 => by
  have ih0 := hypercuberef10_level.mono_l k
  intro y0 y1 y2 y3
  unfold hypercuberef10_level.l0
  repeat' first
  | (with_reducible exact ih0 _ _ _ _)
  | (with_reducible exact hypercuberef8_Level.mono _ _)
  | (with_reducible exact hypercuberef8_Sets.mono _ _)
  | (with_reducible exact LeO.refl _)
  | (with_reducible exact LeO.none _)
  | (with_reducible refine LeO.ite ?_ ?_)
  | (with_reducible refine LeO.bind ?_ (fun _ => ?_))
  | exact ih0 _ _ _ _
  | exact hypercuberef8_Level.mono _ _
  | exact hypercuberef8_Sets.mono _ _
  | exact LeO.none _
  | refine LeO.ite ?_ ?_
  | refine LeO.bind ?_ (fun _ => ?_)
theorem hypercuberef10_level.mono : ∀ a0 a1 k, LeO (hypercuberef10_level.f k a0 a1) (hypercuberef10_level.f (k + 1) a0 a1) := by
 intro a0 a1 k
 have ih0 := hypercuberef10_level.mono_l k
 unfold hypercuberef10_level.f
 repeat' first
  | (with_reducible exact ih0 _ _ _ _)
  | (with_reducible exact hypercuberef8_Level.mono _ _)
  | (with_reducible exact hypercuberef8_Sets.mono _ _)
  | (with_reducible exact LeO.refl _)
  | (with_reducible exact LeO.none _)
  | (with_reducible refine LeO.ite ?_ ?_)
  | (with_reducible refine LeO.bind ?_ (fun _ => ?_))
  | exact ih0 _ _ _ _
  | exact hypercuberef8_Level.mono _ _
  | exact hypercuberef8_Sets.mono _ _
  | exact LeO.none _
  | refine LeO.ite ?_ ?_
  | refine LeO.bind ?_ (fun _ => ?_)
set_option maxHeartbeats 8000000 in
set_option maxRecDepth 100000 in
theorem hypercuberef10_level.calls (k : Nat) (a0 : Int) (a1 : Int) (r : List Int) (w : World) (h : hypercuberef10_level.f k a0 a1 = some r) :
 Calls Try.prog 95 #[.int .i64 a0, .int .i64 a1] w fun e w' => ∃ v0_ : Value, e = .returned (v0_) ∧ Kd.R (Kd.int .i64) 3 w' w.heap.size (fun _ => True) v0_ r ∧ Below w.heap.size w w' := by
 have HB := Aside0.mk (Below.refl w.heap.size w)
 have H : ((hypercuberef8_Sets.f k a0).bind fun t194 => (hypercuberef10_level.l0 k a1 ([] : List Int) t194 0)) = some r := h
 clear h
 replace H := Option.bind_eq_some_iff.mp H
 obtain ⟨t194, A30, H⟩ := H
 replace H : (hypercuberef10_level.l0 k a1 ([] : List Int) t194 0) = some r := H
 have A3 := Aside0.mk A30
 clear A30
 have H' := Aside0.mk H
 clear H
 go_enter Try.func95, Try.ntmps95
 go_wp2_with (first | ((with_reducible refine gate_callee (f := 45) rfl ?_); refine goesL_ (some 9) rfl rfl Try.func45 (by kernel_rfl) rfl #[.int .i64 a0] rfl (by (try simp only [List.map_toArray, List.map_cons, List.map_nil]); first | done | rfl | (simp only [List.length_drop, List.length_take]; rfl)) ?_; (with_reducible refine (hypercuberef8_Sets.calls k a0 t194 _ A3.out).mono ?_); rintro e w4 ⟨v195, rfl, ho0, hb⟩; refine ⟨_, rfl, ?_⟩; have n0_ := Aside0.mk (Kd.R_lower ho0 (below_size (by repeat (first | (with_reducible first | exact HB.out | apply below_alloc | apply pw_below_drewN | apply below_drew1) | exact HB.out)))); have n1_ := Aside0.mk (below_step (by repeat (first | (with_reducible first | exact HB.out | apply below_alloc | apply pw_below_drewN | apply below_drew1) | exact HB.out)) hb); clear HB; have HO196 := n0_; have HB := n1_; clear n0_ n1_; (try clear hb); (try clear hb2); (try clear hk); (try clear hi); (try clear ho0)))
 go_loopg [5, 7] k (fun kq v5 v7 w' => ∃ (x5_1 : List Int) (x7_1 : Int), v7 = .int .i64 x7_1 ∧ Aside0 (hypercuberef10_level.l0 kq a1 x5_1 t194 x7_1 = some r) ∧ Aside0 (kq ≤ k) ∧ Aside0 (Kd.R (Kd.int .i64) 3 w' w.heap.size (fun k_ => some k_ ≠ (v195 : Value).ownBlock) v5 x5_1) ∧ Aside0 (Kd.R (Kd.int .i64) 3 w' w.heap.size (fun k_ => some k_ ≠ (v5 : Value).ownBlock) v195 t194) ∧ Aside0 (Below w.heap.size w w'))
 case atStart => exact ⟨(([] : List Int)), (0), (by first | rfl | (simp; done) | (simp [*]; done)), H', ⟨Nat.le_refl _⟩, ⟨by first | exact Kd.R_nil _ _ _ _ _ | exact Kd.N_nil _ _ _ _ _ | exact Kd.V_nil _ _ _ _ _ | exact Kd.Q_nil _ _ _ _ _ | exact Kd.S_nil _ _ _ _ _⟩, ⟨by (with_reducible repeat (first | apply Kd.R_alloc | apply Kd.R_drewN | apply Kd.R_drew)); exact Kd.R_mono HO196.out (fun _ hk => (by simp [Value.ownBlock]))⟩, ⟨by repeat (first | (with_reducible first | exact HB.out | apply below_alloc | apply pw_below_drewN | apply below_drew1) | exact HB.out)⟩⟩
 case round =>
  clear H'
  try clear p2
  try clear c4
  obtain ⟨x5_1, x7_1, rfl, HA, HK1, HO_5, HO_6, HB⟩ := hrel
  cases gk with
  | zero => exact absurd HA.out (by simp [hypercuberef10_level.l0])
  | succ k1 =>
   have H := HA.out
   clear HA
   simp only [hypercuberef10_level.l0] at H
   by_cases c5 : x7_1 < (t194.length : Int)
   rotate_left
   ·rw [if_neg c5] at H
    have c5b0 : decide (x7_1 < (t194.length : Int)) = false := decide_eq_false c5
    clear c5
    obtain rfl := Option.some.inj H
    obtain ⟨Ao13, co13, eo13⟩ := Kd.R_slice HO_6.out
    subst eo13
    go_wp2
    go_ret
    exact ⟨_, by first | rfl | (simp [errW_none, errW_some] <;> rfl) | (simp [*, errW_none, errW_some] <;> rfl), by (with_reducible repeat (first | apply Kd.R_alloc | apply Kd.R_drewN | apply Kd.R_drew)); exact Kd.R_mono HO_5.out (fun _ hk => trivial), by repeat (first | (with_reducible first | exact HB.out | apply below_alloc | apply pw_below_drewN | apply below_drew1) | exact HB.out)⟩
   rw [if_pos c5] at H
   have c5b0 : decide (x7_1 < (t194.length : Int)) = true := decide_eq_true c5
   clear c5
   by_cases c6 : 0 ≤ x7_1
   rotate_left
   ·rw [if_neg c6] at H
    exact absurd H (by simp)
   rw [if_pos c6] at H
   have c6b0 : decide (0 ≤ x7_1) = true := decide_eq_true c6
   clear c6
   replace H := Option.bind_eq_some_iff.mp H
   obtain ⟨t198, A70, H⟩ := H
   replace H : (if t198 = a1 then (if x5_1.length < 17592186044416 then (hypercuberef10_level.l0 k1 a1 (x5_1 ++ [rd t194 x7_1]) t194 (wrap64 (x7_1 + 1))) else (none)) else (hypercuberef10_level.l0 k1 a1 x5_1 t194 (wrap64 (x7_1 + 1)))) = some r := H
   have A7 := Aside0.mk A70
   clear A70
   by_cases c8 : t198 = a1
   rotate_left
   ·rw [if_neg c8] at H
    have c8b0 : (t198 == a1) = false := beq_eq_false_iff_ne.mpr c8
    have c8b1 : (t198 != a1) = true := bne_iff_ne.mpr c8
    have H' := Aside0.mk H
    clear H
    obtain ⟨Ao12, co12, eo12⟩ := Kd.R_slice HO_6.out
    subst eo12
    have p197 : 0 ≤ (x7_1 : Int) := od_
    have q197 : x7_1 < (t194.length : Int) := od_
    obtain ⟨ad197, e197, hx197_0⟩ := Kd.at_int (Kd.R_reads' HO_6.out).2.2 x7_1 p197 q197
    cases e197
    replace p197 := eq_true p197
    replace q197 := eq_true q197
    go_wp2_with (first | ((with_reducible refine gate_callee (f := 46) rfl ?_); refine goesL_ (some 20) rfl rfl Try.func46 (by kernel_rfl) rfl #[.int .i64 (rd t194 x7_1)] rfl (by (try simp only [List.map_toArray, List.map_cons, List.map_nil]); first | done | rfl | (simp only [List.length_drop, List.length_take]; rfl)) ?_; (with_reducible refine (hypercuberef8_Level.calls k1 (rd t194 x7_1) t198 _ A7.out).mono ?_); rintro e w' ⟨rfl, ⟨nd, rfl⟩⟩; refine ⟨_, rfl, ?_⟩))
    go_roundg k1
    case measure => have := HK1.out; omega
    case rel => exact ⟨(x5_1), (wrap64 (x7_1 + 1)), (by first | rfl | (simp; done) | (simp [*]; done)), H', ⟨by have := HK1.out; omega⟩, ⟨by (with_reducible repeat (first | apply Kd.R_alloc | apply Kd.R_drewN | apply Kd.R_drew)); exact HO_5.out⟩, ⟨by (with_reducible repeat (first | apply Kd.R_alloc | apply Kd.R_drewN | apply Kd.R_drew)); exact HO_6.out⟩, ⟨by repeat (first | (with_reducible first | exact HB.out | apply below_alloc | apply pw_below_drewN | apply below_drew1) | exact HB.out)⟩⟩
   rw [if_pos c8] at H
   have c8b0 : (t198 == a1) = true := beq_iff_eq.mpr c8
   have c8b1 : (t198 != a1) = false := bne_eq_false_iff_eq.mpr c8
   clear c8
   by_cases c9 : x5_1.length < 17592186044416
   rotate_left
   ·rw [if_neg c9] at H
    exact absurd H (by simp)
   rw [if_pos c9] at H
   have LMc9 := Aside0.mk c9
   clear c9
   obtain ⟨y200, hy200⟩ : ∃ y_ : List Int, y_ = (x5_1 ++ [rd t194 x7_1]) := ⟨_, rfl⟩
   replace H : (hypercuberef10_level.l0 k1 a1 y200 t194 (wrap64 (x7_1 + 1))) = some r := by first | (rw [hy200]; with_reducible exact H) | (have H2_ := (Option.bind_some _ _).symm.trans H; rw [hy200]; with_reducible exact H2_) | (have H2_ := (Option.bind_some _ _).symm.trans H; with_reducible exact H2_) | with_reducible exact H | (rw [hy200]; exact H) | exact H
   have Ny200 := Aside0.mk hy200
   clear hy200
   have H' := Aside0.mk H
   clear H
   obtain ⟨Ao10, co10, eo10⟩ := Kd.R_slice HO_6.out
   subst eo10
   have p197 : 0 ≤ (x7_1 : Int) := od_
   have q197 : x7_1 < (t194.length : Int) := od_
   obtain ⟨ad197, e197, hx197_0⟩ := Kd.at_int (Kd.R_reads' HO_6.out).2.2 x7_1 p197 q197
   cases e197
   replace p197 := eq_true p197
   replace q197 := eq_true q197
   go_wp2_with (first | ((with_reducible refine gate_callee (f := 46) rfl ?_); refine goesL_ (some 20) rfl rfl Try.func46 (by kernel_rfl) rfl #[.int .i64 (rd t194 x7_1)] rfl (by (try simp only [List.map_toArray, List.map_cons, List.map_nil]); first | done | rfl | (simp only [List.length_drop, List.length_take]; rfl)) ?_; (with_reducible refine (hypercuberef8_Level.calls k1 (rd t194 x7_1) t198 _ A7.out).mono ?_); rintro e w' ⟨rfl, ⟨nd, rfl⟩⟩; refine ⟨_, rfl, ?_⟩; have p199 : 0 ≤ (x7_1 : Int) := of_decide_eq_true (by first | (with_reducible assumption) | assumption); have q199 : x7_1 < (t194.length : Int) := of_decide_eq_true (by first | (with_reducible assumption) | assumption); obtain ⟨ad199, e199, hx199_0⟩ := Kd.at_int (Kd.R_reads' HO_6.out).2.2 x7_1 p199 q199; obtain rfl : ad197 = ad199 := (by injection e199); replace p199 := eq_true p199; replace q199 := eq_true q199) | ((with_reducible refine gate_builtin (b := .append) (xs := #[.tmp 23, .tmp 28]) rfl ?_); at_builtin; refine Kd.R_append (Kd.int .i64) (w0 := w) w.heap.size rfl (.tmp 23) (.tmp 28) 24 3 (.int .i64 0) 8 rfl Try.underlying24 info3 rfl (by decide) (by omega) u5 x5_1 (rd t194 x7_1) [.int .i64 (rd t194 x7_1)] (fun k_ => some k_ ≠ (.slice (some ad197) t194.length co10 : Value).ownBlock) (fun _ => False) rfl rfl ?aP (fun _ hk => hk.elim) ?aF ?aO ?aB ?aS ?aL ?_; (case aP => exact rfl); (case aB => exact (by repeat (first | (with_reducible first | exact HB.out | apply below_alloc | apply pw_below_drewN | apply below_drew1) | exact HB.out))); (case aF => exact (fun k_ hk => Kd.fresh' (Kd.R_lt (by (with_reducible repeat (first | apply Kd.R_alloc | apply Kd.R_drewN | apply Kd.R_drew)); exact HO_6.out)) k_ hk)); (case aO => exact (by (with_reducible repeat (first | apply Kd.R_alloc | apply Kd.R_drewN | apply Kd.R_drew)); exact HO_5.out)); (case aS => exact (below_size (by repeat (first | (with_reducible first | exact HB.out | apply below_alloc | apply pw_below_drewN | apply below_drew1) | exact HB.out)))); (case aL => have := LMc9.out; omega); intro v201 w11 ho hb hg hat; rw [← Ny200.out] at ho; have n0_ := Aside0.mk (Kd.R_after (ok := (fun _ => True)) (by (with_reducible repeat (first | apply Kd.R_alloc | apply Kd.R_drewN | apply Kd.R_drew)); exact Kd.R_mono HO_6.out (fun _ hk => ⟨trivial, hk⟩)) hg hat); have n1_ := Aside0.mk (hb); have n2_ := Aside0.mk (ho); clear HO_6; clear HB; clear HO_5; have HO_6 := n0_; have HB := n1_; have HO202 := n2_; clear n0_ n1_ n2_; clear ho hb hg hat))
   go_roundg k1
   case measure => have := HK1.out; omega
   case rel => exact ⟨(y200), (wrap64 (x7_1 + 1)), (by first | rfl | (simp; done) | (simp [*]; done)), H', ⟨by have := HK1.out; omega⟩, ⟨by (with_reducible repeat (first | apply Kd.R_alloc | apply Kd.R_drewN | apply Kd.R_drew)); exact HO202.out⟩, ⟨by (with_reducible repeat (first | apply Kd.R_alloc | apply Kd.R_drewN | apply Kd.R_drew)); exact Kd.R_mono HO_6.out (fun _ hk => hk.2)⟩, ⟨by repeat (first | (with_reducible first | exact HB.out | apply below_alloc | apply pw_below_drewN | apply below_drew1) | exact HB.out)⟩⟩

end Go.Proofs.Ytlplaidcdocbmaa.PTreeDear
