-- Cut by pack.py, a program of this session; not trusted: Lean checks it.
import Derived.Test.YtlplaidcdocbmaaZPSortsRightx0
import Derived.Test.YtlplaidcdocbmaaZPSortsRightx2
import Derived.Test.YtlplaidcdocbmaaZPSortsRightx3
import Derived.Test.YtlplaidcdocbmaaZPSortsRightx4
namespace Go.Proofs.Ytlplaidcdocbmaa.PSortsRight
open Go.RowKit Go.Proofs.YtlplaidcdocbmaaW.PrintWords Go.Proofs.YtlplaidcdocbmaaW.PrintLast Go.Proofs.YtlplaidcdocbmaaW.PrintMore
private theorem od_ {p : Prop} [Decidable p] (h : decide p = true := by first | (with_reducible assumption) | assumption) : p := of_decide_eq_true h
attribute [local go_sem] max2_int min2_int max_two min_two max_three min_three max_four min_four   -- for this text's walks alone
set_option linter.unusedVariables false
set_option linter.unusedSimpArgs false
theorem R_mv_ {α : Type} {d : Kd α} {t : TypeId} {W : World} {b : Nat} {ok : Nat → Prop} {x : Value} {y : List α} {a : Addr} {v : Value} (h : Kd.R d t (W.setCell a v) b ok x y) (m : Nat) : Kd.R d t ((W.drewN m).setCell a v) b ok x y := Kd.R_drewN (m := m) h

/-! ### hypercubelaw10_SortsRight: function 18 -/
mutual
def hypercubelaw10_SortsRight.j0 : Nat → List (S49) → Int → List (S49) → Option (Bool)
 | 0, _, _, _ => none
 | k + 1, x0, x13, x14 => hypercubelaw10_SortsRight.l0 k x0 x13 x14 1
def hypercubelaw10_SortsRight.l0 : Nat → List (S49) → Int → List (S49) → Int → Option (Bool)
 | 0, _, _, _, _ => none
 | k + 1, x0, x13, x14, x16 => if x16 ≤ 4 then ((sorts_Right.f x0 x16).bind fun t230 => ((hypercuberef10_Right.f k x0 x16).bind fun t231 => (if (t230 != t231) = true then (some false) else (hypercubelaw10_SortsRight.l0 k x0 x13 x14 (wrap64 (x16 + 1)))))) else ((sorts_Right.f x14 x13).bind fun t228 => ((hypercuberef10_Right.f k x14 x13).bind fun t229 => (some (t228 == t229))))
end
def hypercubelaw10_SortsRight.f (k : Nat) (l0 : List (S49)) (a1 : Int) (l2 : List Int) (a3 : Int) (a4 : Int) (a5 : Int) : Option (Bool) := (hypercubelaw10_known.f).bind fun t208 => (if t208 = true then (if (l0.length : Int) > 40 then (some true) else ((hypercubelaw10_within.f a1 4).bind fun t209 => ((hypercubelaw10_Other.f k (wrap64 (1 + t209)) l2).bind fun t210 => ((hypercubelaw10_within.f a3 (t210.length : Int)).bind fun t213 => ((hypercubelaw10_within.f a4 6).bind fun t214 => (if t214 = 0 then ((hypercubelaw10_within.f a5 17).bind fun t215 => (if 0 ≤ t213 then (if t213 < (t210.length : Int) then (hypercubelaw10_SortsRight.j0 k l0 (wrap64 (1 + t209)) (t210.set (t213 : Int).toNat (⟨wrap64 (t215 - 1), (rd_T49 t210 t213).f1, (rd_T49 t210 t213).f2⟩ : S49))) else (none)) else (none))) else (if t214 = 1 then ((hypercubelaw10_within.f a5 18).bind fun t217 => (if 0 ≤ t213 then (if t213 < (t210.length : Int) then (hypercubelaw10_SortsRight.j0 k l0 (wrap64 (1 + t209)) (t210.set (t213 : Int).toNat (⟨(rd_T49 t210 t213).f0, wrap64 (t217 - 2), (rd_T49 t210 t213).f2⟩ : S49))) else (none)) else (none))) else (if t214 = 2 then (if 0 ≤ t213 then (if t213 < (t210.length : Int) then (hypercubelaw10_SortsRight.j0 k l0 (wrap64 (1 + t209)) (t210.set (t213 : Int).toNat (⟨(rd_T49 t210 t213).f0, (rd_T49 t210 t213).f1, !((rd_T49 t210 t213).f2)⟩ : S49))) else (none)) else (none)) else (if t214 = 3 then (if 0 ≤ (wrap64 ((t210.length : Int) - 1)) then (if (wrap64 ((t210.length : Int) - 1)) ≤ (t210.length : Int) then (hypercubelaw10_SortsRight.j0 k l0 (wrap64 (1 + t209)) (t210.take ((wrap64 ((t210.length : Int) - 1)) : Int).toNat)) else (none)) else (none)) else (if t214 = 4 then (if 0 ≤ t213 then (if t213 < (t210.length : Int) then (if t210.length < 5864062014805 then (hypercubelaw10_SortsRight.j0 k l0 (wrap64 (1 + t209)) (t210 ++ [(⟨(rd_T49 t210 t213).f0, (rd_T49 t210 t213).f1, (rd_T49 t210 t213).f2⟩ : S49)])) else (none)) else (none)) else (none)) else (hypercubelaw10_SortsRight.j0 k l0 (wrap64 (1 + t209)) t210))))))))))) else (some false))
set_option maxHeartbeats 8000000 in
set_option maxRecDepth 100000 in
theorem hypercubelaw10_SortsRight.calls (k : Nat) (A0 : Option Addr) (c0 : Nat) (l0 : List (S49)) (a1 : Int) (A2 : Option Addr) (c2 : Nat) (l2 : List Int) (a3 : Int) (a4 : Int) (a5 : Int) (r : Bool) (w : World) (hr0 : Kd.C k49 w A0 l0.length l0) (hc0 : l0.length ≤ c0) (hr2 : Kd.C (Kd.int .i64) w A2 l2.length l2) (hc2 : l2.length ≤ c2) (h : hypercubelaw10_SortsRight.f k l0 a1 l2 a3 a4 a5 = some r) :
 Calls Try.prog 18 #[.slice A0 l0.length c0, .int .i64 a1, .slice A2 l2.length c2, .int .i64 a3, .int .i64 a4, .int .i64 a5] w fun e w' => e = .returned (.bool r) ∧ Below w.heap.size w w' := by
 have hu49 := Try.underlying49
 have HR0 := Aside0.mk hr0
 have HC0 := Aside0.mk hc0
 clear hr0 hc0
 have HR2 := Aside0.mk hr2
 have HC2 := Aside0.mk hc2
 clear hr2 hc2
 have HB := Aside0.mk (Below.refl w.heap.size w)
 have H : ((hypercubelaw10_known.f).bind fun t208 => (if t208 = true then (if (l0.length : Int) > 40 then (some true) else ((hypercubelaw10_within.f a1 4).bind fun t209 => ((hypercubelaw10_Other.f k (wrap64 (1 + t209)) l2).bind fun t210 => ((hypercubelaw10_within.f a3 (t210.length : Int)).bind fun t213 => ((hypercubelaw10_within.f a4 6).bind fun t214 => (if t214 = 0 then ((hypercubelaw10_within.f a5 17).bind fun t215 => (if 0 ≤ t213 then (if t213 < (t210.length : Int) then (hypercubelaw10_SortsRight.j0 k l0 (wrap64 (1 + t209)) (t210.set (t213 : Int).toNat (⟨wrap64 (t215 - 1), (rd_T49 t210 t213).f1, (rd_T49 t210 t213).f2⟩ : S49))) else (none)) else (none))) else (if t214 = 1 then ((hypercubelaw10_within.f a5 18).bind fun t217 => (if 0 ≤ t213 then (if t213 < (t210.length : Int) then (hypercubelaw10_SortsRight.j0 k l0 (wrap64 (1 + t209)) (t210.set (t213 : Int).toNat (⟨(rd_T49 t210 t213).f0, wrap64 (t217 - 2), (rd_T49 t210 t213).f2⟩ : S49))) else (none)) else (none))) else (if t214 = 2 then (if 0 ≤ t213 then (if t213 < (t210.length : Int) then (hypercubelaw10_SortsRight.j0 k l0 (wrap64 (1 + t209)) (t210.set (t213 : Int).toNat (⟨(rd_T49 t210 t213).f0, (rd_T49 t210 t213).f1, !((rd_T49 t210 t213).f2)⟩ : S49))) else (none)) else (none)) else (if t214 = 3 then (if 0 ≤ (wrap64 ((t210.length : Int) - 1)) then (if (wrap64 ((t210.length : Int) - 1)) ≤ (t210.length : Int) then (hypercubelaw10_SortsRight.j0 k l0 (wrap64 (1 + t209)) (t210.take ((wrap64 ((t210.length : Int) - 1)) : Int).toNat)) else (none)) else (none)) else (if t214 = 4 then (if 0 ≤ t213 then (if t213 < (t210.length : Int) then (if t210.length < 5864062014805 then (hypercubelaw10_SortsRight.j0 k l0 (wrap64 (1 + t209)) (t210 ++ [(⟨(rd_T49 t210 t213).f0, (rd_T49 t210 t213).f1, (rd_T49 t210 t213).f2⟩ : S49)])) else (none)) else (none)) else (none)) else (hypercubelaw10_SortsRight.j0 k l0 (wrap64 (1 + t209)) t210))))))))))) else (some false))) = some r := h
 clear h
 replace H := Option.bind_eq_some_iff.mp H
 obtain ⟨t208, A70, H⟩ := H
 replace H : (if t208 = true then (if (l0.length : Int) > 40 then (some true) else ((hypercubelaw10_within.f a1 4).bind fun t209 => ((hypercubelaw10_Other.f k (wrap64 (1 + t209)) l2).bind fun t210 => ((hypercubelaw10_within.f a3 (t210.length : Int)).bind fun t213 => ((hypercubelaw10_within.f a4 6).bind fun t214 => (if t214 = 0 then ((hypercubelaw10_within.f a5 17).bind fun t215 => (if 0 ≤ t213 then (if t213 < (t210.length : Int) then (hypercubelaw10_SortsRight.j0 k l0 (wrap64 (1 + t209)) (t210.set (t213 : Int).toNat (⟨wrap64 (t215 - 1), (rd_T49 t210 t213).f1, (rd_T49 t210 t213).f2⟩ : S49))) else (none)) else (none))) else (if t214 = 1 then ((hypercubelaw10_within.f a5 18).bind fun t217 => (if 0 ≤ t213 then (if t213 < (t210.length : Int) then (hypercubelaw10_SortsRight.j0 k l0 (wrap64 (1 + t209)) (t210.set (t213 : Int).toNat (⟨(rd_T49 t210 t213).f0, wrap64 (t217 - 2), (rd_T49 t210 t213).f2⟩ : S49))) else (none)) else (none))) else (if t214 = 2 then (if 0 ≤ t213 then (if t213 < (t210.length : Int) then (hypercubelaw10_SortsRight.j0 k l0 (wrap64 (1 + t209)) (t210.set (t213 : Int).toNat (⟨(rd_T49 t210 t213).f0, (rd_T49 t210 t213).f1, !((rd_T49 t210 t213).f2)⟩ : S49))) else (none)) else (none)) else (if t214 = 3 then (if 0 ≤ (wrap64 ((t210.length : Int) - 1)) then (if (wrap64 ((t210.length : Int) - 1)) ≤ (t210.length : Int) then (hypercubelaw10_SortsRight.j0 k l0 (wrap64 (1 + t209)) (t210.take ((wrap64 ((t210.length : Int) - 1)) : Int).toNat)) else (none)) else (none)) else (if t214 = 4 then (if 0 ≤ t213 then (if t213 < (t210.length : Int) then (if t210.length < 5864062014805 then (hypercubelaw10_SortsRight.j0 k l0 (wrap64 (1 + t209)) (t210 ++ [(⟨(rd_T49 t210 t213).f0, (rd_T49 t210 t213).f1, (rd_T49 t210 t213).f2⟩ : S49)])) else (none)) else (none)) else (none)) else (hypercubelaw10_SortsRight.j0 k l0 (wrap64 (1 + t209)) t210))))))))))) else (some false)) = some r := H
 have A7 := Aside0.mk A70
 clear A70
 by_cases c8 : t208 = true
 rotate_left
 ·replace c8 := Bool.eq_false_iff.mpr c8
  subst c8
  have H1 : (some false) = some r := by rw [if_neg (show ¬ (false = true) by decide)] at H; exact H
  clear H
  have H := H1
  clear H1
  obtain rfl := Option.some.inj H
  go_enter Try.func18, Try.ntmps18
  go_wp2_with (first | ((with_reducible refine gate_callee (f := 51) rfl ?_); refine goesL_ (some 17) rfl rfl Try.func51 (by kernel_rfl) rfl #[] rfl (by (try simp only [List.map_toArray, List.map_cons, List.map_nil]); first | done | rfl | (simp only [List.length_drop, List.length_take]; rfl)) ?_; (with_reducible refine (hypercubelaw10_known.calls  false _ A7.out).mono ?_); rintro e w62 ⟨rfl, hb⟩; refine ⟨_, rfl, ?_⟩; have n0_ := Aside0.mk (below_step (by repeat (first | (with_reducible first | exact HB.out | apply below_alloc | apply pw_below_drewN | apply below_drew1) | exact HB.out)) hb); clear HB; have HB := n0_; clear n0_; (try clear hb); (try clear hb2); (try clear hk); (try clear hi)))
  go_ret
  exact ⟨by first | rfl | (simp [errW_none, errW_some] <;> rfl) | (simp [*, errW_none, errW_some] <;> rfl), by repeat (first | (with_reducible first | exact HB.out | apply below_alloc | apply pw_below_drewN | apply below_drew1) | exact HB.out)⟩
 subst c8
 have H1 : (if (l0.length : Int) > 40 then (some true) else ((hypercubelaw10_within.f a1 4).bind fun t209 => ((hypercubelaw10_Other.f k (wrap64 (1 + t209)) l2).bind fun t210 => ((hypercubelaw10_within.f a3 (t210.length : Int)).bind fun t213 => ((hypercubelaw10_within.f a4 6).bind fun t214 => (if t214 = 0 then ((hypercubelaw10_within.f a5 17).bind fun t215 => (if 0 ≤ t213 then (if t213 < (t210.length : Int) then (hypercubelaw10_SortsRight.j0 k l0 (wrap64 (1 + t209)) (t210.set (t213 : Int).toNat (⟨wrap64 (t215 - 1), (rd_T49 t210 t213).f1, (rd_T49 t210 t213).f2⟩ : S49))) else (none)) else (none))) else (if t214 = 1 then ((hypercubelaw10_within.f a5 18).bind fun t217 => (if 0 ≤ t213 then (if t213 < (t210.length : Int) then (hypercubelaw10_SortsRight.j0 k l0 (wrap64 (1 + t209)) (t210.set (t213 : Int).toNat (⟨(rd_T49 t210 t213).f0, wrap64 (t217 - 2), (rd_T49 t210 t213).f2⟩ : S49))) else (none)) else (none))) else (if t214 = 2 then (if 0 ≤ t213 then (if t213 < (t210.length : Int) then (hypercubelaw10_SortsRight.j0 k l0 (wrap64 (1 + t209)) (t210.set (t213 : Int).toNat (⟨(rd_T49 t210 t213).f0, (rd_T49 t210 t213).f1, !((rd_T49 t210 t213).f2)⟩ : S49))) else (none)) else (none)) else (if t214 = 3 then (if 0 ≤ (wrap64 ((t210.length : Int) - 1)) then (if (wrap64 ((t210.length : Int) - 1)) ≤ (t210.length : Int) then (hypercubelaw10_SortsRight.j0 k l0 (wrap64 (1 + t209)) (t210.take ((wrap64 ((t210.length : Int) - 1)) : Int).toNat)) else (none)) else (none)) else (if t214 = 4 then (if 0 ≤ t213 then (if t213 < (t210.length : Int) then (if t210.length < 5864062014805 then (hypercubelaw10_SortsRight.j0 k l0 (wrap64 (1 + t209)) (t210 ++ [(⟨(rd_T49 t210 t213).f0, (rd_T49 t210 t213).f1, (rd_T49 t210 t213).f2⟩ : S49)])) else (none)) else (none)) else (none)) else (hypercubelaw10_SortsRight.j0 k l0 (wrap64 (1 + t209)) t210))))))))))) = some r := by rw [if_pos rfl] at H; exact H
 clear H
 have H := H1
 clear H1
 by_cases c9 : (l0.length : Int) > 40
 ·rw [if_pos c9] at H
  have c9b0 : decide (40 < (l0.length : Int)) = true := decide_eq_true c9
  have c9b1 : decide (40 < l0.length) = true := decide_eq_true (by omega)
  clear c9
  obtain rfl := Option.some.inj H
  go_enter Try.func18, Try.ntmps18
  go_wp2_with (first | ((with_reducible refine gate_callee (f := 51) rfl ?_); refine goesL_ (some 17) rfl rfl Try.func51 (by kernel_rfl) rfl #[] rfl (by (try simp only [List.map_toArray, List.map_cons, List.map_nil]); first | done | rfl | (simp only [List.length_drop, List.length_take]; rfl)) ?_; (with_reducible refine (hypercubelaw10_known.calls  true _ A7.out).mono ?_); rintro e w10 ⟨rfl, hb⟩; refine ⟨_, rfl, ?_⟩; have n0_ := Aside0.mk (below_step (by repeat (first | (with_reducible first | exact HB.out | apply below_alloc | apply pw_below_drewN | apply below_drew1) | exact HB.out)) hb); clear HB; have HB := n0_; clear n0_; (try clear hb); (try clear hb2); (try clear hk); (try clear hi)))
  go_ret
  exact ⟨by first | rfl | (simp [errW_none, errW_some] <;> rfl) | (simp [*, errW_none, errW_some] <;> rfl), by repeat (first | (with_reducible first | exact HB.out | apply below_alloc | apply pw_below_drewN | apply below_drew1) | exact HB.out)⟩
 rw [if_neg c9] at H
 have c9b0 : decide (40 < (l0.length : Int)) = false := decide_eq_false c9
 have c9b1 : decide (40 < l0.length) = false := decide_eq_false (by omega)
 clear c9
 replace H := Option.bind_eq_some_iff.mp H
 obtain ⟨t209, A110, H⟩ := H
 replace H : ((hypercubelaw10_Other.f k (wrap64 (1 + t209)) l2).bind fun t210 => ((hypercubelaw10_within.f a3 (t210.length : Int)).bind fun t213 => ((hypercubelaw10_within.f a4 6).bind fun t214 => (if t214 = 0 then ((hypercubelaw10_within.f a5 17).bind fun t215 => (if 0 ≤ t213 then (if t213 < (t210.length : Int) then (hypercubelaw10_SortsRight.j0 k l0 (wrap64 (1 + t209)) (t210.set (t213 : Int).toNat (⟨wrap64 (t215 - 1), (rd_T49 t210 t213).f1, (rd_T49 t210 t213).f2⟩ : S49))) else (none)) else (none))) else (if t214 = 1 then ((hypercubelaw10_within.f a5 18).bind fun t217 => (if 0 ≤ t213 then (if t213 < (t210.length : Int) then (hypercubelaw10_SortsRight.j0 k l0 (wrap64 (1 + t209)) (t210.set (t213 : Int).toNat (⟨(rd_T49 t210 t213).f0, wrap64 (t217 - 2), (rd_T49 t210 t213).f2⟩ : S49))) else (none)) else (none))) else (if t214 = 2 then (if 0 ≤ t213 then (if t213 < (t210.length : Int) then (hypercubelaw10_SortsRight.j0 k l0 (wrap64 (1 + t209)) (t210.set (t213 : Int).toNat (⟨(rd_T49 t210 t213).f0, (rd_T49 t210 t213).f1, !((rd_T49 t210 t213).f2)⟩ : S49))) else (none)) else (none)) else (if t214 = 3 then (if 0 ≤ (wrap64 ((t210.length : Int) - 1)) then (if (wrap64 ((t210.length : Int) - 1)) ≤ (t210.length : Int) then (hypercubelaw10_SortsRight.j0 k l0 (wrap64 (1 + t209)) (t210.take ((wrap64 ((t210.length : Int) - 1)) : Int).toNat)) else (none)) else (none)) else (if t214 = 4 then (if 0 ≤ t213 then (if t213 < (t210.length : Int) then (if t210.length < 5864062014805 then (hypercubelaw10_SortsRight.j0 k l0 (wrap64 (1 + t209)) (t210 ++ [(⟨(rd_T49 t210 t213).f0, (rd_T49 t210 t213).f1, (rd_T49 t210 t213).f2⟩ : S49)])) else (none)) else (none)) else (none)) else (hypercubelaw10_SortsRight.j0 k l0 (wrap64 (1 + t209)) t210))))))))) = some r := H
 have A11 := Aside0.mk A110
 clear A110
 replace H := Option.bind_eq_some_iff.mp H
 obtain ⟨t210, A120, H⟩ := H
 replace H : ((hypercubelaw10_within.f a3 (t210.length : Int)).bind fun t213 => ((hypercubelaw10_within.f a4 6).bind fun t214 => (if t214 = 0 then ((hypercubelaw10_within.f a5 17).bind fun t215 => (if 0 ≤ t213 then (if t213 < (t210.length : Int) then (hypercubelaw10_SortsRight.j0 k l0 (wrap64 (1 + t209)) (t210.set (t213 : Int).toNat (⟨wrap64 (t215 - 1), (rd_T49 t210 t213).f1, (rd_T49 t210 t213).f2⟩ : S49))) else (none)) else (none))) else (if t214 = 1 then ((hypercubelaw10_within.f a5 18).bind fun t217 => (if 0 ≤ t213 then (if t213 < (t210.length : Int) then (hypercubelaw10_SortsRight.j0 k l0 (wrap64 (1 + t209)) (t210.set (t213 : Int).toNat (⟨(rd_T49 t210 t213).f0, wrap64 (t217 - 2), (rd_T49 t210 t213).f2⟩ : S49))) else (none)) else (none))) else (if t214 = 2 then (if 0 ≤ t213 then (if t213 < (t210.length : Int) then (hypercubelaw10_SortsRight.j0 k l0 (wrap64 (1 + t209)) (t210.set (t213 : Int).toNat (⟨(rd_T49 t210 t213).f0, (rd_T49 t210 t213).f1, !((rd_T49 t210 t213).f2)⟩ : S49))) else (none)) else (none)) else (if t214 = 3 then (if 0 ≤ (wrap64 ((t210.length : Int) - 1)) then (if (wrap64 ((t210.length : Int) - 1)) ≤ (t210.length : Int) then (hypercubelaw10_SortsRight.j0 k l0 (wrap64 (1 + t209)) (t210.take ((wrap64 ((t210.length : Int) - 1)) : Int).toNat)) else (none)) else (none)) else (if t214 = 4 then (if 0 ≤ t213 then (if t213 < (t210.length : Int) then (if t210.length < 5864062014805 then (hypercubelaw10_SortsRight.j0 k l0 (wrap64 (1 + t209)) (t210 ++ [(⟨(rd_T49 t210 t213).f0, (rd_T49 t210 t213).f1, (rd_T49 t210 t213).f2⟩ : S49)])) else (none)) else (none)) else (none)) else (hypercubelaw10_SortsRight.j0 k l0 (wrap64 (1 + t209)) t210)))))))) = some r := H
 have A12 := Aside0.mk A120
 clear A120
 replace H := Option.bind_eq_some_iff.mp H
 obtain ⟨t213, A130, H⟩ := H
 replace H : ((hypercubelaw10_within.f a4 6).bind fun t214 => (if t214 = 0 then ((hypercubelaw10_within.f a5 17).bind fun t215 => (if 0 ≤ t213 then (if t213 < (t210.length : Int) then (hypercubelaw10_SortsRight.j0 k l0 (wrap64 (1 + t209)) (t210.set (t213 : Int).toNat (⟨wrap64 (t215 - 1), (rd_T49 t210 t213).f1, (rd_T49 t210 t213).f2⟩ : S49))) else (none)) else (none))) else (if t214 = 1 then ((hypercubelaw10_within.f a5 18).bind fun t217 => (if 0 ≤ t213 then (if t213 < (t210.length : Int) then (hypercubelaw10_SortsRight.j0 k l0 (wrap64 (1 + t209)) (t210.set (t213 : Int).toNat (⟨(rd_T49 t210 t213).f0, wrap64 (t217 - 2), (rd_T49 t210 t213).f2⟩ : S49))) else (none)) else (none))) else (if t214 = 2 then (if 0 ≤ t213 then (if t213 < (t210.length : Int) then (hypercubelaw10_SortsRight.j0 k l0 (wrap64 (1 + t209)) (t210.set (t213 : Int).toNat (⟨(rd_T49 t210 t213).f0, (rd_T49 t210 t213).f1, !((rd_T49 t210 t213).f2)⟩ : S49))) else (none)) else (none)) else (if t214 = 3 then (if 0 ≤ (wrap64 ((t210.length : Int) - 1)) then (if (wrap64 ((t210.length : Int) - 1)) ≤ (t210.length : Int) then (hypercubelaw10_SortsRight.j0 k l0 (wrap64 (1 + t209)) (t210.take ((wrap64 ((t210.length : Int) - 1)) : Int).toNat)) else (none)) else (none)) else (if t214 = 4 then (if 0 ≤ t213 then (if t213 < (t210.length : Int) then (if t210.length < 5864062014805 then (hypercubelaw10_SortsRight.j0 k l0 (wrap64 (1 + t209)) (t210 ++ [(⟨(rd_T49 t210 t213).f0, (rd_T49 t210 t213).f1, (rd_T49 t210 t213).f2⟩ : S49)])) else (none)) else (none)) else (none)) else (hypercubelaw10_SortsRight.j0 k l0 (wrap64 (1 + t209)) t210))))))) = some r := H
 have A13 := Aside0.mk A130
 clear A130
 replace H := Option.bind_eq_some_iff.mp H
 obtain ⟨t214, A140, H⟩ := H
 replace H : (if t214 = 0 then ((hypercubelaw10_within.f a5 17).bind fun t215 => (if 0 ≤ t213 then (if t213 < (t210.length : Int) then (hypercubelaw10_SortsRight.j0 k l0 (wrap64 (1 + t209)) (t210.set (t213 : Int).toNat (⟨wrap64 (t215 - 1), (rd_T49 t210 t213).f1, (rd_T49 t210 t213).f2⟩ : S49))) else (none)) else (none))) else (if t214 = 1 then ((hypercubelaw10_within.f a5 18).bind fun t217 => (if 0 ≤ t213 then (if t213 < (t210.length : Int) then (hypercubelaw10_SortsRight.j0 k l0 (wrap64 (1 + t209)) (t210.set (t213 : Int).toNat (⟨(rd_T49 t210 t213).f0, wrap64 (t217 - 2), (rd_T49 t210 t213).f2⟩ : S49))) else (none)) else (none))) else (if t214 = 2 then (if 0 ≤ t213 then (if t213 < (t210.length : Int) then (hypercubelaw10_SortsRight.j0 k l0 (wrap64 (1 + t209)) (t210.set (t213 : Int).toNat (⟨(rd_T49 t210 t213).f0, (rd_T49 t210 t213).f1, !((rd_T49 t210 t213).f2)⟩ : S49))) else (none)) else (none)) else (if t214 = 3 then (if 0 ≤ (wrap64 ((t210.length : Int) - 1)) then (if (wrap64 ((t210.length : Int) - 1)) ≤ (t210.length : Int) then (hypercubelaw10_SortsRight.j0 k l0 (wrap64 (1 + t209)) (t210.take ((wrap64 ((t210.length : Int) - 1)) : Int).toNat)) else (none)) else (none)) else (if t214 = 4 then (if 0 ≤ t213 then (if t213 < (t210.length : Int) then (if t210.length < 5864062014805 then (hypercubelaw10_SortsRight.j0 k l0 (wrap64 (1 + t209)) (t210 ++ [(⟨(rd_T49 t210 t213).f0, (rd_T49 t210 t213).f1, (rd_T49 t210 t213).f2⟩ : S49)])) else (none)) else (none)) else (none)) else (hypercubelaw10_SortsRight.j0 k l0 (wrap64 (1 + t209)) t210)))))) = some r := H
 have A14 := Aside0.mk A140
 clear A140
 have HC15 := Aside0.mk H
 clear H
 go_enter Try.func18, Try.ntmps18
 go_upto_block 0 with (first | ((with_reducible refine gate_callee (f := 51) rfl ?_); refine goesL_ (some 17) rfl rfl Try.func51 (by kernel_rfl) rfl #[] rfl (by (try simp only [List.map_toArray, List.map_cons, List.map_nil]); first | done | rfl | (simp only [List.length_drop, List.length_take]; rfl)) ?_; (with_reducible refine (hypercubelaw10_known.calls  true _ A7.out).mono ?_); rintro e w16 ⟨rfl, hb⟩; refine ⟨_, rfl, ?_⟩; have n0_ := Aside0.mk (below_step (by repeat (first | (with_reducible first | exact HB.out | apply below_alloc | apply pw_below_drewN | apply below_drew1) | exact HB.out)) hb); clear HB; have HB := n0_; clear n0_; (try clear hb); (try clear hb2); (try clear hk); (try clear hi)) | ((with_reducible refine gate_callee (f := 52) rfl ?_); refine goesL_ (some 23) rfl rfl Try.func52 (by kernel_rfl) rfl #[.int .i64 a1, .int .i64 4] rfl (by (try simp only [List.map_toArray, List.map_cons, List.map_nil]); first | done | rfl | (simp only [List.length_drop, List.length_take]; rfl)) ?_; (with_reducible refine (hypercubelaw10_within.calls a1 4 t209 _ A11.out).mono ?_); rintro e w' ⟨rfl, ⟨nd, rfl⟩⟩; refine ⟨_, rfl, ?_⟩) | ((with_reducible refine gate_callee (f := 53) rfl ?_); refine goesL_ (some 27) rfl rfl Try.func53 (by kernel_rfl) rfl #[.int .i64 (wrap64 (1 + t209)), .slice A2 l2.length c2] rfl (by (try simp only [List.map_toArray, List.map_cons, List.map_nil]); first | done | rfl | (simp only [List.length_drop, List.length_take]; rfl)) ?_; (with_reducible refine (hypercubelaw10_Other.calls k (wrap64 (1 + t209)) _ _ l2 t210 _ ?side1 ?side2 A12.out).mono ?_); (case side1 => repeat (first | exact (Kd.C_below HR2.out (by repeat (first | (with_reducible first | exact HB.out | apply below_alloc | apply pw_below_drewN | apply below_drew1) | exact HB.out))) | (with_reducible refine Kd.C_alloc ?_ _) | (with_reducible refine Kd.C_drewN ?_ _) | (with_reducible refine Kd.C_drew ?_))); (case side2 => exact HC2.out); rintro e w17 ⟨v211, rfl, ho0, hb⟩; refine ⟨_, rfl, ?_⟩; have n0_ := Aside0.mk (Kd.R_lower ho0 (below_size (by repeat (first | (with_reducible first | exact HB.out | apply below_alloc | apply pw_below_drewN | apply below_drew1) | exact HB.out)))); have n1_ := Aside0.mk (below_step (by repeat (first | (with_reducible first | exact HB.out | apply below_alloc | apply pw_below_drewN | apply below_drew1) | exact HB.out)) hb); clear HB; have HO212 := n0_; have HB := n1_; clear n0_ n1_; (try clear hb); (try clear hb2); (try clear hk); (try clear hi); (try clear ho0); obtain ⟨Ao18, co18, eo18⟩ := Kd.R_slice HO212.out; subst eo18) | ((with_reducible refine gate_callee (f := 52) rfl ?_); refine goesL_ (some 31) rfl rfl Try.func52 (by kernel_rfl) rfl #[.int .i64 a3, .int .i64 (t210.length : Int)] rfl (by (try simp only [List.map_toArray, List.map_cons, List.map_nil]); first | done | rfl | (simp only [List.length_drop, List.length_take]; rfl)) ?_; (with_reducible refine (hypercubelaw10_within.calls a3 (t210.length : Int) t213 _ A13.out).mono ?_); rintro e w' ⟨rfl, ⟨nd, rfl⟩⟩; refine ⟨_, rfl, ?_⟩) | ((with_reducible refine gate_callee (f := 52) rfl ?_); refine goesL_ (some 33) rfl rfl Try.func52 (by kernel_rfl) rfl #[.int .i64 a4, .int .i64 6] rfl (by (try simp only [List.map_toArray, List.map_cons, List.map_nil]); first | done | rfl | (simp only [List.length_drop, List.length_take]; rfl)) ?_; (with_reducible refine (hypercubelaw10_within.calls a4 6 t214 _ A14.out).mono ?_); rintro e w' ⟨rfl, ⟨nd, rfl⟩⟩; refine ⟨_, rfl, ?_⟩))
 (try simp only [Act.put, List.setIfInBounds_toArray, List.set_cons_zero, List.set_cons_succ])
 go_cut [14] (fun v14 wc => ∃ (kq : Nat) (x14_14 : List (S49)), Aside0 (hypercubelaw10_SortsRight.j0 kq l0 (wrap64 (1 + t209)) x14_14 = some r) ∧ Aside0 (kq ≤ k) ∧ Aside0 (Kd.R k49 49 wc w.heap.size (fun _ => True) v14 x14_14) ∧ Aside0 (Below w.heap.size w wc))
 case first =>
  have H := HC15.out
  clear HC15
  by_cases c19 : t214 = 0
  ·rw [if_pos c19] at H
   have c19b0 : (t214 == 0) = true := beq_iff_eq.mpr c19
   have c19b1 : (t214 != 0) = false := bne_eq_false_iff_eq.mpr c19
   clear c19
   (first | rw [c19b0] | (simp only [i64_w, i32_w]; rw [c19b0]) | skip)
   replace H := Option.bind_eq_some_iff.mp H
   obtain ⟨t215, A200, H⟩ := H
   replace H : (if 0 ≤ t213 then (if t213 < (t210.length : Int) then (hypercubelaw10_SortsRight.j0 k l0 (wrap64 (1 + t209)) (t210.set (t213 : Int).toNat (⟨wrap64 (t215 - 1), (rd_T49 t210 t213).f1, (rd_T49 t210 t213).f2⟩ : S49))) else (none)) else (none)) = some r := H
   have A20 := Aside0.mk A200
   clear A200
   by_cases c21 : 0 ≤ t213
   rotate_left
   ·rw [if_neg c21] at H
    exact absurd H (by simp)
   rw [if_pos c21] at H
   have c21b0 : decide (0 ≤ t213) = true := decide_eq_true c21
   clear c21
   by_cases c22 : t213 < (t210.length : Int)
   rotate_left
   ·rw [if_neg c22] at H
    exact absurd H (by simp)
   rw [if_pos c22] at H
   have c22b0 : decide (t213 < (t210.length : Int)) = true := decide_eq_true c22
   clear c22
   obtain ⟨y216, hy216⟩ : ∃ y_ : List (S49), y_ = (t210.set (t213 : Int).toNat (⟨wrap64 (t215 - 1), (rd_T49 t210 t213).f1, (rd_T49 t210 t213).f2⟩ : S49)) := ⟨_, rfl⟩
   replace H : (hypercubelaw10_SortsRight.j0 k l0 (wrap64 (1 + t209)) y216) = some r := by first | (rw [hy216]; with_reducible exact H) | (have H2_ := (Option.bind_some _ _).symm.trans H; rw [hy216]; with_reducible exact H2_) | (have H2_ := (Option.bind_some _ _).symm.trans H; with_reducible exact H2_) | with_reducible exact H | (rw [hy216]; exact H) | exact H
   have Ny216 := Aside0.mk hy216
   clear hy216
   have H' := Aside0.mk H
   clear H
   go_wp2_with (first | ((with_reducible refine gate_callee (f := 52) rfl ?_); refine goesL_ (some 39) rfl rfl Try.func52 (by kernel_rfl) rfl #[.int .i64 a5, .int .i64 17] rfl (by (try simp only [List.map_toArray, List.map_cons, List.map_nil]); first | done | rfl | (simp only [List.length_drop, List.length_take]; rfl)) ?_; (with_reducible refine (hypercubelaw10_within.calls a5 17 t215 _ A20.out).mono ?_); rintro e w' ⟨rfl, ⟨nd, rfl⟩⟩; refine ⟨_, rfl, ?_⟩; (try (rw [drewN_self w17]; generalize hq_ : World.drewN w17 _ = w17; have n0_ : Aside0 (Kd.R k49 49 w17 w.heap.size (fun _ => True) (.slice Ao18 t210.length co18) t210) := ⟨by rw [← hq_]; exact (by (with_reducible repeat (first | apply Kd.R_alloc | apply Kd.R_drewN | apply Kd.R_drew)); exact HO212.out)⟩; have n1_ : Aside0 (Below w.heap.size w w17) := ⟨by rw [← hq_]; exact (by repeat (first | (with_reducible first | exact HB.out | apply below_alloc | apply pw_below_drewN | apply below_drew1) | exact HB.out))⟩; clear HO212 HB hq_; have HO212 := n0_; have HB := n1_; clear n0_ n1_)); have p23 : 0 ≤ (t213 : Int) := of_decide_eq_true (by first | (with_reducible assumption) | assumption); have q23 : (t213 : Int) < ((t210.length : Int) : Int) := of_decide_eq_true (by first | (with_reducible assumption) | assumption); obtain ⟨go23, co23, eo23, gb23, gl23, cl23, HG23⟩ := Kd.R_form HO212.out (by omega); (first | cases eo23 | (injection eo23 with ea_ en_ ec_; (first | subst ea_ | (injection ea_ with ea_; subst ea_)); subst ec_; clear en_)); have GB23 := Aside0.mk gb23; have GG23 := Aside0.mk HG23; clear gb23 gl23 HG23; obtain ⟨ce23, hcl23, hM23, hcc23, hfr23⟩ := Kd.R_elem HO212.out z49 (t213 : Int) p23 q23; obtain rfl := k49_openM hM23; have hx23_0 : w17.cell? ⟨go23, (t213 : Int).toNat * 3, none⟩ = some (.int .i64 ((rd_T49 t210 t213).f0)) := hcc23 0 _ rfl; have hx23_1 : w17.cell? ⟨go23, (t213 : Int).toNat * 3 + 1, none⟩ = some (.int .i64 ((rd_T49 t210 t213).f1)) := hcc23 1 _ rfl; have hx23_2 : w17.cell? ⟨go23, (t213 : Int).toNat * 3 + 2, none⟩ = some (.bool ((rd_T49 t210 t213).f2)) := hcc23 2 _ rfl; have hf23_0 : w17.frozen? ⟨go23, (t213 : Int).toNat * 3, none⟩ = false := hfr23 0; have hf23_1 : w17.frozen? ⟨go23, (t213 : Int).toNat * 3 + 1, none⟩ = false := hfr23 1; have hf23_2 : w17.frozen? ⟨go23, (t213 : Int).toNat * 3 + 2, none⟩ = false := hfr23 2; clear hcl23 hcc23 hfr23 hM23; replace p23 := eq_true p23; replace q23 := eq_true q23; have HX24 := Aside0.mk (show Kd.R k49 49 w17 w.heap.size (fun _ => True) (.slice (some ⟨go23, 0, none⟩) t210.length co18) t210 from (by (with_reducible repeat (first | apply Kd.R_alloc | apply Kd.R_drewN | apply Kd.R_drew)); exact HO212.out)); obtain ⟨ce24, hcl24, hM24, hcc24, hfr24⟩ := Kd.R_elem HX24.out z49 (t213 : Int) (of_decide_eq_true (by first | (with_reducible assumption) | assumption)) (by have h_ : (t213 : Int) < ((t210.length : Int) : Int) := of_decide_eq_true (by first | (with_reducible assumption) | assumption); first | exact h_ | (have e_ := (Kd.R_reads' HO212.out).1; omega) | simpa using h_); obtain rfl := k49_openM hM24; have HP24 := Kd.R_seg HX24.out (t213 : Int) (of_decide_eq_true (by first | (with_reducible assumption) | assumption)) (by have h_ : (t213 : Int) < ((t210.length : Int) : Int) := of_decide_eq_true (by first | (with_reducible assumption) | assumption); first | exact h_ | (have e_ := (Kd.R_reads' HO212.out).1; omega) | simpa using h_) (seg := [.int .i64 (wrap64 (t215 - 1))]) (j := 0) hcl24 hcc24 (show 1 ≤ 3 from by decide) (x' := (⟨wrap64 (t215 - 1), (rd_T49 t210 t213).f1, (rd_T49 t210 t213).f2⟩ : S49)) (k49_mkM _ _ _ (⟨wrap64 (t215 - 1), (rd_T49 t210 t213).f1, (rd_T49 t210 t213).f2⟩ : S49) ) (fun _ hk => hk); have hx24_0 := hcc24 0 _ rfl; (try simp only [show (k49).sz = 3 from rfl, Nat.mul_one, Nat.add_zero] at hx24_0); have hf24_0 := hfr24 0; (try simp only [show (k49).sz = 3 from rfl, Nat.mul_one, Nat.add_zero] at hf24_0); clear hcl24 hcc24 hfr24 hM24) | ((with_reducible refine gate_store (t := 3) (p := 42) rfl ?_); refine store_event (t := 3) (p := 42) (v := ?vo_w25) (w1 := (w17.setCell ⟨go23, (t213 : Int).toNat * 3, none⟩ (.int .i64 (wrap64 (t215 - 1))))) ?hg ?ho ?hn ?hr ?_; (case ho => rfl); (case hg => rfl); (case hn => rfl); (case hr => first | (go_simp; done) | (go_simp; rfl)); intro w25 hw; have hg : w17.grownBy w25 (some go23) := (by rw [hw]; exact HP24.2); have hp_ : Kd.R k49 49 w25 w.heap.size (fun _ => True) (.slice (some ⟨go23, 0, none⟩) t210.length co18) y216 := (by rw [hw, Ny216.out]; exact HP24.1); clear HP24; have n0_ := Aside0.mk (hp_); have n1_ := Aside0.mk ((by rw [hw]; exact below_set (HB.out) GB23.out : Below w.heap.size w w25)); clear HO212; clear HB; have HO212 := n0_; have HB := n1_; clear n0_ n1_; clear hg hw hp_))
   go_meet
   case rel => exact ⟨_, (y216), H', ⟨by first | omega | exact Nat.le_refl _⟩, ⟨by rw [Ny216.out]; exact R_mv_ HP24.1 _⟩, ⟨below_set (pw_below_drewN HB.out _) GB23.out⟩⟩
  rw [if_neg c19] at H
  have c19b0 : (t214 == 0) = false := beq_eq_false_iff_ne.mpr c19
  have c19b1 : (t214 != 0) = true := bne_iff_ne.mpr c19
  (first | rw [c19b0] | (simp only [i64_w, i32_w]; rw [c19b0]) | skip)
  by_cases c26 : t214 = 1
  ·rw [if_pos c26] at H
   have c26b0 : (t214 == 1) = true := beq_iff_eq.mpr c26
   have c26b1 : (t214 != 1) = false := bne_eq_false_iff_eq.mpr c26
   clear c26
   replace H := Option.bind_eq_some_iff.mp H
   obtain ⟨t217, A270, H⟩ := H
   replace H : (if 0 ≤ t213 then (if t213 < (t210.length : Int) then (hypercubelaw10_SortsRight.j0 k l0 (wrap64 (1 + t209)) (t210.set (t213 : Int).toNat (⟨(rd_T49 t210 t213).f0, wrap64 (t217 - 2), (rd_T49 t210 t213).f2⟩ : S49))) else (none)) else (none)) = some r := H
   have A27 := Aside0.mk A270
   clear A270
   by_cases c28 : 0 ≤ t213
   rotate_left
   ·rw [if_neg c28] at H
    exact absurd H (by simp)
   rw [if_pos c28] at H
   have c28b0 : decide (0 ≤ t213) = true := decide_eq_true c28
   clear c28
   by_cases c29 : t213 < (t210.length : Int)
   rotate_left
   ·rw [if_neg c29] at H
    exact absurd H (by simp)
   rw [if_pos c29] at H
   have c29b0 : decide (t213 < (t210.length : Int)) = true := decide_eq_true c29
   clear c29
   obtain ⟨y218, hy218⟩ : ∃ y_ : List (S49), y_ = (t210.set (t213 : Int).toNat (⟨(rd_T49 t210 t213).f0, wrap64 (t217 - 2), (rd_T49 t210 t213).f2⟩ : S49)) := ⟨_, rfl⟩
   replace H : (hypercubelaw10_SortsRight.j0 k l0 (wrap64 (1 + t209)) y218) = some r := by first | (rw [hy218]; with_reducible exact H) | (have H2_ := (Option.bind_some _ _).symm.trans H; rw [hy218]; with_reducible exact H2_) | (have H2_ := (Option.bind_some _ _).symm.trans H; with_reducible exact H2_) | with_reducible exact H | (rw [hy218]; exact H) | exact H
   have Ny218 := Aside0.mk hy218
   clear hy218
   have H' := Aside0.mk H
   clear H
   go_wp2_with (first | ((with_reducible refine gate_callee (f := 52) rfl ?_); refine goesL_ (some 48) rfl rfl Try.func52 (by kernel_rfl) rfl #[.int .i64 a5, .int .i64 18] rfl (by (try simp only [List.map_toArray, List.map_cons, List.map_nil]); first | done | rfl | (simp only [List.length_drop, List.length_take]; rfl)) ?_; (with_reducible refine (hypercubelaw10_within.calls a5 18 t217 _ A27.out).mono ?_); rintro e w' ⟨rfl, ⟨nd, rfl⟩⟩; refine ⟨_, rfl, ?_⟩; (try (rw [drewN_self w17]; generalize hq_ : World.drewN w17 _ = w17; have n0_ : Aside0 (Kd.R k49 49 w17 w.heap.size (fun _ => True) (.slice Ao18 t210.length co18) t210) := ⟨by rw [← hq_]; exact (by (with_reducible repeat (first | apply Kd.R_alloc | apply Kd.R_drewN | apply Kd.R_drew)); exact HO212.out)⟩; have n1_ : Aside0 (Below w.heap.size w w17) := ⟨by rw [← hq_]; exact (by repeat (first | (with_reducible first | exact HB.out | apply below_alloc | apply pw_below_drewN | apply below_drew1) | exact HB.out))⟩; clear HO212 HB hq_; have HO212 := n0_; have HB := n1_; clear n0_ n1_)); have p30 : 0 ≤ (t213 : Int) := of_decide_eq_true (by first | (with_reducible assumption) | assumption); have q30 : (t213 : Int) < ((t210.length : Int) : Int) := of_decide_eq_true (by first | (with_reducible assumption) | assumption); obtain ⟨go30, co30, eo30, gb30, gl30, cl30, HG30⟩ := Kd.R_form HO212.out (by omega); (first | cases eo30 | (injection eo30 with ea_ en_ ec_; (first | subst ea_ | (injection ea_ with ea_; subst ea_)); subst ec_; clear en_)); have GB30 := Aside0.mk gb30; have GG30 := Aside0.mk HG30; clear gb30 gl30 HG30; obtain ⟨ce30, hcl30, hM30, hcc30, hfr30⟩ := Kd.R_elem HO212.out z49 (t213 : Int) p30 q30; obtain rfl := k49_openM hM30; have hx30_0 : w17.cell? ⟨go30, (t213 : Int).toNat * 3, none⟩ = some (.int .i64 ((rd_T49 t210 t213).f0)) := hcc30 0 _ rfl; have hx30_1 : w17.cell? ⟨go30, (t213 : Int).toNat * 3 + 1, none⟩ = some (.int .i64 ((rd_T49 t210 t213).f1)) := hcc30 1 _ rfl; have hx30_2 : w17.cell? ⟨go30, (t213 : Int).toNat * 3 + 2, none⟩ = some (.bool ((rd_T49 t210 t213).f2)) := hcc30 2 _ rfl; have hf30_0 : w17.frozen? ⟨go30, (t213 : Int).toNat * 3, none⟩ = false := hfr30 0; have hf30_1 : w17.frozen? ⟨go30, (t213 : Int).toNat * 3 + 1, none⟩ = false := hfr30 1; have hf30_2 : w17.frozen? ⟨go30, (t213 : Int).toNat * 3 + 2, none⟩ = false := hfr30 2; clear hcl30 hcc30 hfr30 hM30; replace p30 := eq_true p30; replace q30 := eq_true q30; have HX31 := Aside0.mk (show Kd.R k49 49 w17 w.heap.size (fun _ => True) (.slice (some ⟨go30, 0, none⟩) t210.length co18) t210 from (by (with_reducible repeat (first | apply Kd.R_alloc | apply Kd.R_drewN | apply Kd.R_drew)); exact HO212.out)); obtain ⟨ce31, hcl31, hM31, hcc31, hfr31⟩ := Kd.R_elem HX31.out z49 (t213 : Int) (of_decide_eq_true (by first | (with_reducible assumption) | assumption)) (by have h_ : (t213 : Int) < ((t210.length : Int) : Int) := of_decide_eq_true (by first | (with_reducible assumption) | assumption); first | exact h_ | (have e_ := (Kd.R_reads' HO212.out).1; omega) | simpa using h_); obtain rfl := k49_openM hM31; have HP31 := Kd.R_seg HX31.out (t213 : Int) (of_decide_eq_true (by first | (with_reducible assumption) | assumption)) (by have h_ : (t213 : Int) < ((t210.length : Int) : Int) := of_decide_eq_true (by first | (with_reducible assumption) | assumption); first | exact h_ | (have e_ := (Kd.R_reads' HO212.out).1; omega) | simpa using h_) (seg := [.int .i64 (wrap64 (t217 - 2))]) (j := 1) hcl31 hcc31 (show 2 ≤ 3 from by decide) (x' := (⟨(rd_T49 t210 t213).f0, wrap64 (t217 - 2), (rd_T49 t210 t213).f2⟩ : S49)) (k49_mkM _ _ _ (⟨(rd_T49 t210 t213).f0, wrap64 (t217 - 2), (rd_T49 t210 t213).f2⟩ : S49) ) (fun _ hk => hk); have hx31_1 := hcc31 1 _ rfl; (try simp only [show (k49).sz = 3 from rfl, Nat.mul_one, Nat.add_zero] at hx31_1); have hf31_1 := hfr31 1; (try simp only [show (k49).sz = 3 from rfl, Nat.mul_one, Nat.add_zero] at hf31_1); clear hcl31 hcc31 hfr31 hM31) | ((with_reducible refine gate_store (t := 3) (p := 51) rfl ?_); refine store_event (t := 3) (p := 51) (v := ?vo_w32) (w1 := (w17.setCell ⟨go30, (t213 : Int).toNat * 3 + 1, none⟩ (.int .i64 (wrap64 (t217 - 2))))) ?hg ?ho ?hn ?hr ?_; (case ho => rfl); (case hg => rfl); (case hn => rfl); (case hr => first | (go_simp; done) | (go_simp; rfl)); intro w32 hw; have hg : w17.grownBy w32 (some go30) := (by rw [hw]; exact HP31.2); have hp_ : Kd.R k49 49 w32 w.heap.size (fun _ => True) (.slice (some ⟨go30, 0, none⟩) t210.length co18) y218 := (by rw [hw, Ny218.out]; exact HP31.1); clear HP31; have n0_ := Aside0.mk (hp_); have n1_ := Aside0.mk ((by rw [hw]; exact below_set (HB.out) GB30.out : Below w.heap.size w w32)); clear HO212; clear HB; have HO212 := n0_; have HB := n1_; clear n0_ n1_; clear hg hw hp_))
   go_meet
   case rel => exact ⟨_, (y218), H', ⟨by first | omega | exact Nat.le_refl _⟩, ⟨by rw [Ny218.out]; exact R_mv_ HP31.1 _⟩, ⟨below_set (pw_below_drewN HB.out _) GB30.out⟩⟩
  rw [if_neg c26] at H
  have c26b0 : (t214 == 1) = false := beq_eq_false_iff_ne.mpr c26
  have c26b1 : (t214 != 1) = true := bne_iff_ne.mpr c26
  by_cases c33 : t214 = 2
  ·rw [if_pos c33] at H
   have c33b0 : (t214 == 2) = true := beq_iff_eq.mpr c33
   have c33b1 : (t214 != 2) = false := bne_eq_false_iff_eq.mpr c33
   clear c33
   by_cases c34 : 0 ≤ t213
   rotate_left
   ·rw [if_neg c34] at H
    exact absurd H (by simp)
   rw [if_pos c34] at H
   have c34b0 : decide (0 ≤ t213) = true := decide_eq_true c34
   clear c34
   by_cases c35 : t213 < (t210.length : Int)
   rotate_left
   ·rw [if_neg c35] at H
    exact absurd H (by simp)
   rw [if_pos c35] at H
   have c35b0 : decide (t213 < (t210.length : Int)) = true := decide_eq_true c35
   clear c35
   obtain ⟨y220, hy220⟩ : ∃ y_ : List (S49), y_ = (t210.set (t213 : Int).toNat (⟨(rd_T49 t210 t213).f0, (rd_T49 t210 t213).f1, !((rd_T49 t210 t213).f2)⟩ : S49)) := ⟨_, rfl⟩
   replace H : (hypercubelaw10_SortsRight.j0 k l0 (wrap64 (1 + t209)) y220) = some r := by first | (rw [hy220]; with_reducible exact H) | (have H2_ := (Option.bind_some _ _).symm.trans H; rw [hy220]; with_reducible exact H2_) | (have H2_ := (Option.bind_some _ _).symm.trans H; with_reducible exact H2_) | with_reducible exact H | (rw [hy220]; exact H) | exact H
   have Ny220 := Aside0.mk hy220
   clear hy220
   have H' := Aside0.mk H
   clear H
   have p219 : 0 ≤ (t213 : Int) := od_
   have q219 : t213 < (t210.length : Int) := od_
   obtain ⟨ad219, e219, hx219_0, hx219_1, hx219_2⟩ := at_T49 (Kd.R_reads' HO212.out).2.2 t213 p219 q219
   cases e219
   replace p219 := eq_true p219
   replace q219 := eq_true q219
   have p36 : 0 ≤ (t213 : Int) := od_
   have q36 : (t213 : Int) < ((t210.length : Int) : Int) := od_
   obtain ⟨go36, co36, eo36, gb36, gl36, cl36, HG36⟩ := Kd.R_form HO212.out (by omega)
   (first | cases eo36 | (injection eo36 with ea_ en_ ec_; (first | subst ea_ | (injection ea_ with ea_; subst ea_)); subst ec_; clear en_))
   have GB36 := Aside0.mk gb36
   have GG36 := Aside0.mk HG36
   clear gb36 gl36 HG36
   (first | simp only [add_plain] at hx219_0 | skip)
   (first | simp only [add_plain] at hx219_1 | skip)
   (first | simp only [add_plain] at hx219_2 | skip)
   obtain ⟨ce36, hcl36, hM36, hcc36, hfr36⟩ := Kd.R_elem HO212.out z49 (t213 : Int) p36 q36
   obtain rfl := k49_openM hM36
   have hx36_0 : w17.cell? ⟨go36, (t213 : Int).toNat * 3, none⟩ = some (.int .i64 ((rd_T49 t210 t213).f0)) := hcc36 0 _ rfl
   have hx36_1 : w17.cell? ⟨go36, (t213 : Int).toNat * 3 + 1, none⟩ = some (.int .i64 ((rd_T49 t210 t213).f1)) := hcc36 1 _ rfl
   have hx36_2 : w17.cell? ⟨go36, (t213 : Int).toNat * 3 + 2, none⟩ = some (.bool ((rd_T49 t210 t213).f2)) := hcc36 2 _ rfl
   have hf36_0 : w17.frozen? ⟨go36, (t213 : Int).toNat * 3, none⟩ = false := hfr36 0
   have hf36_1 : w17.frozen? ⟨go36, (t213 : Int).toNat * 3 + 1, none⟩ = false := hfr36 1
   have hf36_2 : w17.frozen? ⟨go36, (t213 : Int).toNat * 3 + 2, none⟩ = false := hfr36 2
   clear hcl36 hcc36 hfr36 hM36
   replace p36 := eq_true p36
   replace q36 := eq_true q36
   have HX37 := Aside0.mk (show Kd.R k49 49 w17 w.heap.size (fun _ => True) (.slice (some ⟨go36, 0, none⟩) t210.length co18) t210 from (by (with_reducible repeat (first | apply Kd.R_alloc | apply Kd.R_drewN | apply Kd.R_drew)); exact HO212.out))
   obtain ⟨ce37, hcl37, hM37, hcc37, hfr37⟩ := Kd.R_elem HX37.out z49 (t213 : Int) (of_decide_eq_true (by first | (with_reducible assumption) | assumption)) (by have h_ : (t213 : Int) < ((t210.length : Int) : Int) := of_decide_eq_true (by first | (with_reducible assumption) | assumption); first | exact h_ | (have e_ := (Kd.R_reads' HO212.out).1; omega) | simpa using h_)
   obtain rfl := k49_openM hM37
   have HP37 := Kd.R_seg HX37.out (t213 : Int) (of_decide_eq_true (by first | (with_reducible assumption) | assumption)) (by have h_ : (t213 : Int) < ((t210.length : Int) : Int) := of_decide_eq_true (by first | (with_reducible assumption) | assumption); first | exact h_ | (have e_ := (Kd.R_reads' HO212.out).1; omega) | simpa using h_) (seg := [.bool (!((rd_T49 t210 t213).f2))]) (j := 2) hcl37 hcc37 (show 3 ≤ 3 from by decide) (x' := (⟨(rd_T49 t210 t213).f0, (rd_T49 t210 t213).f1, !((rd_T49 t210 t213).f2)⟩ : S49)) (k49_mkM _ _ _ (⟨(rd_T49 t210 t213).f0, (rd_T49 t210 t213).f1, !((rd_T49 t210 t213).f2)⟩ : S49) ) (fun _ hk => hk)
   have hx37_2 := hcc37 2 _ rfl
   (try simp only [show (k49).sz = 3 from rfl, Nat.mul_one, Nat.add_zero] at hx37_2)
   have hf37_2 := hfr37 2
   (try simp only [show (k49).sz = 3 from rfl, Nat.mul_one, Nat.add_zero] at hf37_2)
   clear hcl37 hcc37 hfr37 hM37
   go_wp2_with (first | ((with_reducible refine gate_store (t := 4) (p := 63) rfl ?_); refine store_event (t := 4) (p := 63) (v := ?vo_w38) (w1 := (w17.setCell ⟨go36, (t213 : Int).toNat * 3 + 2, none⟩ (.bool (!((rd_T49 t210 t213).f2))))) ?hg ?ho ?hn ?hr ?_; (case ho => rfl); (case hg => rfl); (case hn => rfl); (case hr => first | (go_simp; done) | (go_simp; rfl)); intro w38 hw; have hg : w17.grownBy w38 (some go36) := (by rw [hw]; exact HP37.2); have hp_ : Kd.R k49 49 w38 w.heap.size (fun _ => True) (.slice (some ⟨go36, 0, none⟩) t210.length co18) y220 := (by rw [hw, Ny220.out]; exact HP37.1); clear HP37; have n0_ := Aside0.mk (hp_); have n1_ := Aside0.mk ((by rw [hw]; exact below_set (HB.out) GB36.out : Below w.heap.size w w38)); clear HO212; clear HB; have HO212 := n0_; have HB := n1_; clear n0_ n1_; clear hg hw hp_))
   go_meet
   case rel => exact ⟨_, (y220), H', ⟨by first | omega | exact Nat.le_refl _⟩, ⟨by rw [Ny220.out]; exact R_mv_ HP37.1 _⟩, ⟨below_set (pw_below_drewN HB.out _) GB36.out⟩⟩
  rw [if_neg c33] at H
  have c33b0 : (t214 == 2) = false := beq_eq_false_iff_ne.mpr c33
  have c33b1 : (t214 != 2) = true := bne_iff_ne.mpr c33
  by_cases c39 : t214 = 3
  ·rw [if_pos c39] at H
   have c39b0 : (t214 == 3) = true := beq_iff_eq.mpr c39
   have c39b1 : (t214 != 3) = false := bne_eq_false_iff_eq.mpr c39
   clear c39
   obtain ⟨ji40, hji40⟩ : ∃ j_ : Int, (wrap64 ((t210.length : Int) - 1)) = j_ := ⟨_, rfl⟩
   replace H : (if 0 ≤ (ji40) then (if (ji40) ≤ (t210.length : Int) then (hypercubelaw10_SortsRight.j0 k l0 (wrap64 (1 + t209)) (t210.take ((ji40) : Int).toNat)) else (none)) else (none)) = some r := by first | (rw [hji40] at H; exact H) | (simp only [hji40] at H ⊢; exact H)
   have hji40w : (IntKind.i64.wrap ((t210.length : Int) - 1)) = ji40 := (i64_w _).trans hji40
   by_cases c41 : 0 ≤ (ji40)
   rotate_left
   ·rw [if_neg c41] at H
    exact absurd H (by simp)
   rw [if_pos c41] at H
   have c41b0 := eq_true c41
   have c41b1 : decide (0 ≤ (ji40)) = true := decide_eq_true c41
   clear c41
   by_cases c42 : (ji40) ≤ (t210.length : Int)
   rotate_left
   ·rw [if_neg c42] at H
    exact absurd H (by simp)
   rw [if_pos c42] at H
   have c42b0 := eq_true c42
   have c42b1 : decide ((ji40) ≤ (t210.length : Int)) = true := decide_eq_true c42
   clear c42
   obtain ⟨y221, hy221⟩ : ∃ y_ : List (S49), y_ = (t210.take ((ji40) : Int).toNat) := ⟨_, rfl⟩
   replace H : (hypercubelaw10_SortsRight.j0 k l0 (wrap64 (1 + t209)) y221) = some r := by first | (rw [hy221]; with_reducible exact H) | (have H2_ := (Option.bind_some _ _).symm.trans H; rw [hy221]; with_reducible exact H2_) | (have H2_ := (Option.bind_some _ _).symm.trans H; with_reducible exact H2_) | with_reducible exact H | (rw [hy221]; exact H) | exact H
   have Ny221 := Aside0.mk hy221
   clear hy221
   have H' := Aside0.mk H
   clear H
   have q43 : ((ji40) : Int) ≤ ((t210.length : Int) : Int) := od_
   obtain ⟨i043, hi043, _, hsz43, _⟩ := info_parts info49
   have hcut43 := cut_to (P := Try.prog) 43 49 .i64 Try.underlying43 hi043 Ao18 t210.length co18 (ji40) (of_decide_eq_true (by first | (with_reducible assumption) | assumption)) q43 (Kd.R_reads' HO212.out).2.1
   have hr43 := Kd.R_take (m := ((ji40) : Int).toNat) HO212.out (by omega)
   have hy43 : y221.length = ((ji40) : Int).toNat := (by rw [Ny221.out, List.length_take]; omega)
   rw [← Ny221.out] at hr43
   rw [← hy43] at hr43 hcut43
   clear hy43 hi043 hsz43 HO212
   have HO223 := Aside0.mk hr43
   clear hr43
   replace q43 := eq_true q43
   go_wp2
   go_meet
   case rel => exact ⟨_, (y221), H', ⟨by first | omega | exact Nat.le_refl _⟩, ⟨by (with_reducible repeat (first | apply Kd.R_alloc | apply Kd.R_drewN | apply Kd.R_drew)); exact HO223.out⟩, ⟨by repeat (first | (with_reducible first | exact HB.out | apply below_alloc | apply pw_below_drewN | apply below_drew1) | exact HB.out)⟩⟩
  rw [if_neg c39] at H
  have c39b0 : (t214 == 3) = false := beq_eq_false_iff_ne.mpr c39
  have c39b1 : (t214 != 3) = true := bne_iff_ne.mpr c39
  by_cases c44 : t214 = 4
  rotate_left
  ·rw [if_neg c44] at H
   have c44b0 : (t214 == 4) = false := beq_eq_false_iff_ne.mpr c44
   have c44b1 : (t214 != 4) = true := bne_iff_ne.mpr c44
   have H' := Aside0.mk H
   clear H
   go_wp2
   go_meet
   case rel => exact ⟨_, (t210), H', ⟨by first | omega | exact Nat.le_refl _⟩, ⟨by (with_reducible repeat (first | apply Kd.R_alloc | apply Kd.R_drewN | apply Kd.R_drew)); exact HO212.out⟩, ⟨by repeat (first | (with_reducible first | exact HB.out | apply below_alloc | apply pw_below_drewN | apply below_drew1) | exact HB.out)⟩⟩
  rw [if_pos c44] at H
  have c44b0 : (t214 == 4) = true := beq_iff_eq.mpr c44
  have c44b1 : (t214 != 4) = false := bne_eq_false_iff_eq.mpr c44
  clear c44
  by_cases c45 : 0 ≤ t213
  rotate_left
  ·rw [if_neg c45] at H
   exact absurd H (by simp)
  rw [if_pos c45] at H
  have c45b0 : decide (0 ≤ t213) = true := decide_eq_true c45
  clear c45
  by_cases c46 : t213 < (t210.length : Int)
  rotate_left
  ·rw [if_neg c46] at H
   exact absurd H (by simp)
  rw [if_pos c46] at H
  have c46b0 : decide (t213 < (t210.length : Int)) = true := decide_eq_true c46
  clear c46
  by_cases c47 : t210.length < 5864062014805
  rotate_left
  ·rw [if_neg c47] at H
   exact absurd H (by simp)
  rw [if_pos c47] at H
  have LMc47 := Aside0.mk c47
  clear c47
  obtain ⟨y225, hy225⟩ : ∃ y_ : List (S49), y_ = (t210 ++ [(⟨(rd_T49 t210 t213).f0, (rd_T49 t210 t213).f1, (rd_T49 t210 t213).f2⟩ : S49)]) := ⟨_, rfl⟩
  replace H : (hypercubelaw10_SortsRight.j0 k l0 (wrap64 (1 + t209)) y225) = some r := by first | (rw [hy225]; with_reducible exact H) | (have H2_ := (Option.bind_some _ _).symm.trans H; rw [hy225]; with_reducible exact H2_) | (have H2_ := (Option.bind_some _ _).symm.trans H; with_reducible exact H2_) | with_reducible exact H | (rw [hy225]; exact H) | exact H
  have Ny225 := Aside0.mk hy225
  clear hy225
  have H' := Aside0.mk H
  clear H
  have p224 : 0 ≤ (t213 : Int) := od_
  have q224 : t213 < (t210.length : Int) := od_
  obtain ⟨ad224, e224, hx224_0, hx224_1, hx224_2⟩ := at_T49 (Kd.R_reads' HO212.out).2.2 t213 p224 q224
  cases e224
  replace p224 := eq_true p224
  replace q224 := eq_true q224
  go_wp2_with (first | ((with_reducible refine gate_builtin (b := .append) (xs := #[.tmp 73, .tmp 78]) rfl ?_); at_builtin; refine Kd.R_append k49 (w0 := w) w.heap.size rfl (.tmp 73) (.tmp 78) 43 49 (.agg #[(.int .i64 0), (.int .i64 0), (.bool false)]) 24 rfl Try.underlying43 info49 rfl (by decide) (by omega) (.slice (some ad224) t210.length co18) t210 (⟨(rd_T49 t210 t213).f0, (rd_T49 t210 t213).f1, (rd_T49 t210 t213).f2⟩ : S49) [.int .i64 ((rd_T49 t210 t213).f0), .int .i64 ((rd_T49 t210 t213).f1), .bool ((rd_T49 t210 t213).f2)] (fun _ => True) (fun _ => False) rfl rfl ?aP (fun _ hk => hk.elim) ?aF ?aO ?aB ?aS ?aL ?_; (case aP => exact k49_mkM _ _ _ (⟨(rd_T49 t210 t213).f0, (rd_T49 t210 t213).f1, (rd_T49 t210 t213).f2⟩ : S49)); (case aB => exact (by repeat (first | (with_reducible first | exact HB.out | apply below_alloc | apply pw_below_drewN | apply below_drew1) | exact HB.out))); (case aF => exact (fun _ _ => trivial)); (case aO => exact (by (with_reducible repeat (first | apply Kd.R_alloc | apply Kd.R_drewN | apply Kd.R_drew)); exact HO212.out)); (case aS => exact (below_size (by repeat (first | (with_reducible first | exact HB.out | apply below_alloc | apply pw_below_drewN | apply below_drew1) | exact HB.out)))); (case aL => have := LMc47.out; omega); intro v226 w48 ho hb hg hat; rw [← Ny225.out] at ho; have n0_ := Aside0.mk (hb); have n1_ := Aside0.mk (ho); clear HB; clear HO212; have HB := n0_; have HO227 := n1_; clear n0_ n1_; clear ho hb hg hat))
  go_meet
  case rel => exact ⟨_, (y225), H', ⟨by first | omega | exact Nat.le_refl _⟩, ⟨by (with_reducible repeat (first | apply Kd.R_alloc | apply Kd.R_drewN | apply Kd.R_drew)); exact HO227.out⟩, ⟨by repeat (first | (with_reducible first | exact HB.out | apply below_alloc | apply pw_below_drewN | apply below_drew1) | exact HB.out)⟩⟩
 case rest =>
  clear HC15
  try clear c1
  try clear c2
  try clear p2
  try clear q2
  try clear hx2
  try clear c3
  try clear p3
  try clear q3
  try clear hx3
  try clear c4
  try clear q4
  try clear c5
  try clear p6
  try clear c8
  try clear c9
  try clear c9b0
  try clear c9b1
  try clear c18
  try clear c19
  try clear c19b0
  try clear c19b1
  try clear c21
  try clear c21b0
  try clear p21
  try clear q21
  try clear hx21
  try clear c22
  try clear c22b0
  try clear p22
  try clear q22
  try clear hx22
  try clear c23
  try clear p23
  try clear q23
  try clear hx23
  try clear hf23
  try clear c24
  try clear hx24
  try clear hf24
  try clear c26
  try clear c26b0
  try clear c26b1
  try clear c28
  try clear c28b0
  try clear c29
  try clear c29b0
  try clear c30
  try clear p30
  try clear q30
  try clear hx30
  try clear hf30
  try clear c31
  try clear hx31
  try clear hf31
  try clear c33
  try clear c33b0
  try clear c33b1
  try clear c34
  try clear c34b0
  try clear c35
  try clear c35b0
  try clear c36
  try clear p36
  try clear q36
  try clear hx36
  try clear hf36
  try clear c37
  try clear hx37
  try clear hf37
  try clear c39
  try clear c39b0
  try clear c39b1
  try clear c41
  try clear c41b0
  try clear c41b1
  try clear c42
  try clear c42b0
  try clear c42b1
  try clear q43
  try clear c44
  try clear c44b0
  try clear c44b1
  try clear c45
  try clear c45b0
  try clear c46
  try clear c46b0
  try clear c47
  try clear hx219_0
  try clear hx219_1
  try clear hx219_2
  try clear hx224_0
  try clear hx224_1
  try clear hx224_2
  try clear hx23_0
  try clear hx23_1
  try clear hx23_2
  try clear hx24_0
  try clear hx30_0
  try clear hx30_1
  try clear hx30_2
  try clear hx31_1
  try clear hx36_0
  try clear hx36_1
  try clear hx36_2
  try clear hx37_2
  try clear p219
  try clear p224
  try clear p23
  try clear p30
  try clear p36
  try clear q219
  try clear q224
  try clear q23
  try clear q30
  try clear q36
  try clear q43
  obtain ⟨kq, x14_14, HA, HJ14, HO_14, HB⟩ := hcut
  cases kq with
  | zero => exact absurd HA.out (by simp [hypercubelaw10_SortsRight.j0])
  | succ kj14 =>
   have H := HA.out
   clear HA
   simp only [hypercubelaw10_SortsRight.j0] at H
   have H' := Aside0.mk H
   clear H
   go_wp2
   go_loopg [16] kj14 (fun kq v16 w' => ∃ (x16_2 : Int), v16 = .int .i64 x16_2 ∧ Aside0 (hypercubelaw10_SortsRight.l0 kq l0 (wrap64 (1 + t209)) x14_14 x16_2 = some r) ∧ Aside0 (kq ≤ kj14) ∧ Aside0 (Kd.R k49 49 w' w.heap.size (fun _ => True) u14 x14_14) ∧ Aside0 (Below w.heap.size w w'))
   case atStart => exact ⟨(1), (by first | rfl | (simp; done) | (simp [*]; done)), H', ⟨Nat.le_refl _⟩, ⟨by (with_reducible repeat (first | apply Kd.R_alloc | apply Kd.R_drewN | apply Kd.R_drew)); exact HO_14.out⟩, ⟨by repeat (first | (with_reducible first | exact HB.out | apply below_alloc | apply pw_below_drewN | apply below_drew1) | exact HB.out)⟩⟩
   case round =>
    clear H'
    try clear c1
    try clear c2
    try clear p2
    try clear q2
    try clear hx2
    try clear c3
    try clear p3
    try clear q3
    try clear hx3
    try clear c4
    try clear q4
    try clear c5
    try clear p6
    try clear c8
    try clear c9
    try clear c9b0
    try clear c9b1
    try clear c18
    try clear c19
    try clear c19b0
    try clear c19b1
    try clear c21
    try clear c21b0
    try clear p21
    try clear q21
    try clear hx21
    try clear c22
    try clear c22b0
    try clear p22
    try clear q22
    try clear hx22
    try clear c23
    try clear p23
    try clear q23
    try clear hx23
    try clear hf23
    try clear c24
    try clear hx24
    try clear hf24
    try clear c26
    try clear c26b0
    try clear c26b1
    try clear c28
    try clear c28b0
    try clear c29
    try clear c29b0
    try clear c30
    try clear p30
    try clear q30
    try clear hx30
    try clear hf30
    try clear c31
    try clear hx31
    try clear hf31
    try clear c33
    try clear c33b0
    try clear c33b1
    try clear c34
    try clear c34b0
    try clear c35
    try clear c35b0
    try clear c36
    try clear p36
    try clear q36
    try clear hx36
    try clear hf36
    try clear c37
    try clear hx37
    try clear hf37
    try clear c39
    try clear c39b0
    try clear c39b1
    try clear c41
    try clear c41b0
    try clear c41b1
    try clear c42
    try clear c42b0
    try clear c42b1
    try clear q43
    try clear c44
    try clear c44b0
    try clear c44b1
    try clear c45
    try clear c45b0
    try clear c46
    try clear c46b0
    try clear c47
    try clear hx219_0
    try clear hx219_1
    try clear hx219_2
    try clear hx224_0
    try clear hx224_1
    try clear hx224_2
    try clear hx23_0
    try clear hx23_1
    try clear hx23_2
    try clear hx24_0
    try clear hx30_0
    try clear hx30_1
    try clear hx30_2
    try clear hx31_1
    try clear hx36_0
    try clear hx36_1
    try clear hx36_2
    try clear hx37_2
    try clear p2
    try clear p21
    try clear p219
    try clear p22
    try clear p224
    try clear p23
    try clear p3
    try clear p30
    try clear p36
    try clear p6
    try clear q2
    try clear q21
    try clear q219
    try clear q22
    try clear q224
    try clear q23
    try clear q3
    try clear q30
    try clear q36
    try clear q4
    try clear q43
    obtain ⟨x16_2, rfl, HA, HK2, HO_14, HB⟩ := hrel
    cases gk with
    | zero => exact absurd HA.out (by simp [hypercubelaw10_SortsRight.l0])
    | succ k2 =>
     have H := HA.out
     clear HA
     simp only [hypercubelaw10_SortsRight.l0] at H
     by_cases c49 : x16_2 ≤ 4
     rotate_left
     ·rw [if_neg c49] at H
      have c49b0 : decide (x16_2 ≤ 4) = false := decide_eq_false c49
      clear c49
      replace H := Option.bind_eq_some_iff.mp H
      obtain ⟨t228, A570, H⟩ := H
      replace H : ((hypercuberef10_Right.f k2 x14_14 (wrap64 (1 + t209))).bind fun t229 => (some (t228 == t229))) = some r := H
      have A57 := Aside0.mk A570
      clear A570
      replace H := Option.bind_eq_some_iff.mp H
      obtain ⟨t229, A580, H⟩ := H
      replace H : (some (t228 == t229)) = some r := H
      have A58 := Aside0.mk A580
      clear A580
      obtain rfl := Option.some.inj H
      obtain ⟨Ao59, co59, eo59⟩ := Kd.R_slice HO_14.out
      subst eo59
      go_wp2_with (first | ((with_reducible refine gate_callee (f := 54) rfl ?_); refine goesL_ (some 93) rfl rfl Try.func54 (by kernel_rfl) rfl #[.slice Ao59 x14_14.length co59, .int .i64 (wrap64 (1 + t209))] rfl (by (try simp only [List.map_toArray, List.map_cons, List.map_nil]); first | done | rfl | (simp only [List.length_drop, List.length_take]; rfl)) ?_; (with_reducible refine (sorts_Right.calls _ _ x14_14 (wrap64 (1 + t209)) t228 _ ?side1 ?side2 A57.out).mono ?_); (case side1 => repeat (first | exact (Kd.R_reads' HO_14.out).2.2 | (with_reducible refine Kd.C_alloc ?_ _) | (with_reducible refine Kd.C_drewN ?_ _) | (with_reducible refine Kd.C_drew ?_))); (case side2 => exact (Kd.R_reads' HO_14.out).2.1); rintro e w60 ⟨rfl, hb⟩; refine ⟨_, rfl, ?_⟩; have n0_ := Aside0.mk (Kd.R_below (by (with_reducible repeat (first | apply Kd.R_alloc | apply Kd.R_drewN | apply Kd.R_drew)); exact HO_14.out) hb); have n1_ := Aside0.mk (below_step (by repeat (first | (with_reducible first | exact HB.out | apply below_alloc | apply pw_below_drewN | apply below_drew1) | exact HB.out)) hb); clear HO_14; clear HB; have HO_14 := n0_; have HB := n1_; clear n0_ n1_; (try clear hb); (try clear hb2); (try clear hk); (try clear hi)) | ((with_reducible refine gate_callee (f := 40) rfl ?_); refine goesL_ (some 96) rfl rfl Try.func40 (by kernel_rfl) rfl #[.slice Ao59 x14_14.length co59, .int .i64 (wrap64 (1 + t209))] rfl (by (try simp only [List.map_toArray, List.map_cons, List.map_nil]); first | done | rfl | (simp only [List.length_drop, List.length_take]; rfl)) ?_; (with_reducible refine (hypercuberef10_Right.calls k2 _ _ x14_14 (wrap64 (1 + t209)) t229 _ ?side1 ?side2 A58.out).mono ?_); (case side1 => repeat (first | exact (Kd.R_reads' HO_14.out).2.2 | (with_reducible refine Kd.C_alloc ?_ _) | (with_reducible refine Kd.C_drewN ?_ _) | (with_reducible refine Kd.C_drew ?_))); (case side2 => exact (Kd.R_reads' HO_14.out).2.1); rintro e w61 ⟨rfl, hb⟩; refine ⟨_, rfl, ?_⟩; have n0_ := Aside0.mk (Kd.R_below (by (with_reducible repeat (first | apply Kd.R_alloc | apply Kd.R_drewN | apply Kd.R_drew)); exact HO_14.out) hb); have n1_ := Aside0.mk (below_step (by repeat (first | (with_reducible first | exact HB.out | apply below_alloc | apply pw_below_drewN | apply below_drew1) | exact HB.out)) hb); clear HO_14; clear HB; have HO_14 := n0_; have HB := n1_; clear n0_ n1_; (try clear hb); (try clear hb2); (try clear hk); (try clear hi)))
      go_ret
      exact ⟨by first | rfl | (simp [errW_none, errW_some] <;> rfl) | (simp [*, errW_none, errW_some] <;> rfl), by repeat (first | (with_reducible first | exact HB.out | apply below_alloc | apply pw_below_drewN | apply below_drew1) | exact HB.out)⟩
     rw [if_pos c49] at H
     have c49b0 : decide (x16_2 ≤ 4) = true := decide_eq_true c49
     clear c49
     replace H := Option.bind_eq_some_iff.mp H
     obtain ⟨t230, A500, H⟩ := H
     replace H : ((hypercuberef10_Right.f k2 l0 x16_2).bind fun t231 => (if (t230 != t231) = true then (some false) else (hypercubelaw10_SortsRight.l0 k2 l0 (wrap64 (1 + t209)) x14_14 (wrap64 (x16_2 + 1))))) = some r := H
     have A50 := Aside0.mk A500
     clear A500
     replace H := Option.bind_eq_some_iff.mp H
     obtain ⟨t231, A510, H⟩ := H
     replace H : (if (t230 != t231) = true then (some false) else (hypercubelaw10_SortsRight.l0 k2 l0 (wrap64 (1 + t209)) x14_14 (wrap64 (x16_2 + 1)))) = some r := H
     have A51 := Aside0.mk A510
     clear A510
     by_cases c52 : (t230 != t231) = true
     ·rw [if_pos c52] at H
      have c52b0 : (t230 != t231) = true := c52
      (try (have c52b1 : decide (t230 = t231) = false := by simpa using c52))
      (try (have c52b2 : (t230 == t231) = false := by simpa using c52))
      (try (have c52b3 : ¬ (t230 = t231) := by simpa using c52))
      clear c52
      obtain rfl := Option.some.inj H
      go_wp2_with (first | ((with_reducible refine gate_callee (f := 54) rfl ?_); refine goesL_ (some 86) rfl rfl Try.func54 (by kernel_rfl) rfl #[.slice A0 l0.length c0, .int .i64 x16_2] rfl (by (try simp only [List.map_toArray, List.map_cons, List.map_nil]); first | done | rfl | (simp only [List.length_drop, List.length_take]; rfl)) ?_; (with_reducible refine (sorts_Right.calls _ _ l0 x16_2 t230 _ ?side1 ?side2 A50.out).mono ?_); (case side1 => repeat (first | exact (Kd.C_below HR0.out HB.out) | (with_reducible refine Kd.C_alloc ?_ _) | (with_reducible refine Kd.C_drewN ?_ _) | (with_reducible refine Kd.C_drew ?_))); (case side2 => exact HC0.out); rintro e w53 ⟨rfl, hb⟩; refine ⟨_, rfl, ?_⟩; have n0_ := Aside0.mk (Kd.R_below (by (with_reducible repeat (first | apply Kd.R_alloc | apply Kd.R_drewN | apply Kd.R_drew)); exact HO_14.out) hb); have n1_ := Aside0.mk (below_step (by repeat (first | (with_reducible first | exact HB.out | apply below_alloc | apply pw_below_drewN | apply below_drew1) | exact HB.out)) hb); clear HO_14; clear HB; have HO_14 := n0_; have HB := n1_; clear n0_ n1_; (try clear hb); (try clear hb2); (try clear hk); (try clear hi)) | ((with_reducible refine gate_callee (f := 40) rfl ?_); refine goesL_ (some 89) rfl rfl Try.func40 (by kernel_rfl) rfl #[.slice A0 l0.length c0, .int .i64 x16_2] rfl (by (try simp only [List.map_toArray, List.map_cons, List.map_nil]); first | done | rfl | (simp only [List.length_drop, List.length_take]; rfl)) ?_; (with_reducible refine (hypercuberef10_Right.calls k2 _ _ l0 x16_2 t231 _ ?side1 ?side2 A51.out).mono ?_); (case side1 => repeat (first | exact (Kd.C_below HR0.out HB.out) | (with_reducible refine Kd.C_alloc ?_ _) | (with_reducible refine Kd.C_drewN ?_ _) | (with_reducible refine Kd.C_drew ?_))); (case side2 => exact HC0.out); rintro e w54 ⟨rfl, hb⟩; refine ⟨_, rfl, ?_⟩; have n0_ := Aside0.mk (Kd.R_below (by (with_reducible repeat (first | apply Kd.R_alloc | apply Kd.R_drewN | apply Kd.R_drew)); exact HO_14.out) hb); have n1_ := Aside0.mk (below_step (by repeat (first | (with_reducible first | exact HB.out | apply below_alloc | apply pw_below_drewN | apply below_drew1) | exact HB.out)) hb); clear HO_14; clear HB; have HO_14 := n0_; have HB := n1_; clear n0_ n1_; (try clear hb); (try clear hb2); (try clear hk); (try clear hi)))
      go_ret
      exact ⟨by first | rfl | (simp [errW_none, errW_some] <;> rfl) | (simp [*, errW_none, errW_some] <;> rfl), by repeat (first | (with_reducible first | exact HB.out | apply below_alloc | apply pw_below_drewN | apply below_drew1) | exact HB.out)⟩
     rw [if_neg c52] at H
     have c52b0 : (t230 != t231) = false := by simpa using c52
     (try (have c52b1 : decide (t230 = t231) = true := by simpa using c52))
     (try (have c52b2 : (t230 == t231) = true := by simpa using c52))
     clear c52
     have H' := Aside0.mk H
     clear H
     go_wp2_with (first | ((with_reducible refine gate_callee (f := 54) rfl ?_); refine goesL_ (some 86) rfl rfl Try.func54 (by kernel_rfl) rfl #[.slice A0 l0.length c0, .int .i64 x16_2] rfl (by (try simp only [List.map_toArray, List.map_cons, List.map_nil]); first | done | rfl | (simp only [List.length_drop, List.length_take]; rfl)) ?_; (with_reducible refine (sorts_Right.calls _ _ l0 x16_2 t230 _ ?side1 ?side2 A50.out).mono ?_); (case side1 => repeat (first | exact (Kd.C_below HR0.out HB.out) | (with_reducible refine Kd.C_alloc ?_ _) | (with_reducible refine Kd.C_drewN ?_ _) | (with_reducible refine Kd.C_drew ?_))); (case side2 => exact HC0.out); rintro e w55 ⟨rfl, hb⟩; refine ⟨_, rfl, ?_⟩; have n0_ := Aside0.mk (Kd.R_below (by (with_reducible repeat (first | apply Kd.R_alloc | apply Kd.R_drewN | apply Kd.R_drew)); exact HO_14.out) hb); have n1_ := Aside0.mk (below_step (by repeat (first | (with_reducible first | exact HB.out | apply below_alloc | apply pw_below_drewN | apply below_drew1) | exact HB.out)) hb); clear HO_14; clear HB; have HO_14 := n0_; have HB := n1_; clear n0_ n1_; (try clear hb); (try clear hb2); (try clear hk); (try clear hi)) | ((with_reducible refine gate_callee (f := 40) rfl ?_); refine goesL_ (some 89) rfl rfl Try.func40 (by kernel_rfl) rfl #[.slice A0 l0.length c0, .int .i64 x16_2] rfl (by (try simp only [List.map_toArray, List.map_cons, List.map_nil]); first | done | rfl | (simp only [List.length_drop, List.length_take]; rfl)) ?_; (with_reducible refine (hypercuberef10_Right.calls k2 _ _ l0 x16_2 t231 _ ?side1 ?side2 A51.out).mono ?_); (case side1 => repeat (first | exact (Kd.C_below HR0.out HB.out) | (with_reducible refine Kd.C_alloc ?_ _) | (with_reducible refine Kd.C_drewN ?_ _) | (with_reducible refine Kd.C_drew ?_))); (case side2 => exact HC0.out); rintro e w56 ⟨rfl, hb⟩; refine ⟨_, rfl, ?_⟩; have n0_ := Aside0.mk (Kd.R_below (by (with_reducible repeat (first | apply Kd.R_alloc | apply Kd.R_drewN | apply Kd.R_drew)); exact HO_14.out) hb); have n1_ := Aside0.mk (below_step (by repeat (first | (with_reducible first | exact HB.out | apply below_alloc | apply pw_below_drewN | apply below_drew1) | exact HB.out)) hb); clear HO_14; clear HB; have HO_14 := n0_; have HB := n1_; clear n0_ n1_; (try clear hb); (try clear hb2); (try clear hk); (try clear hi)))
     go_roundg k2
     case measure => have := HJ14.out; have := HK2.out; omega
     case rel => exact ⟨(wrap64 (x16_2 + 1)), (by first | rfl | (simp; done) | (simp [*]; done)), H', ⟨by have := HJ14.out; have := HK2.out; omega⟩, ⟨by (with_reducible repeat (first | apply Kd.R_alloc | apply Kd.R_drewN | apply Kd.R_drew)); exact HO_14.out⟩, ⟨by repeat (first | (with_reducible first | exact HB.out | apply below_alloc | apply pw_below_drewN | apply below_drew1) | exact HB.out)⟩⟩

end Go.Proofs.Ytlplaidcdocbmaa.PSortsRight
