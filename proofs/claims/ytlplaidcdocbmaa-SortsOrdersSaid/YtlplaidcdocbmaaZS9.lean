-- Cut by pack.py, a program of this session; not trusted: Lean checks it.
import Derived.Deep.Draws
import Derived.Tactics
import Derived.Tactics2
import Derived.OwnWalk
import Derived.Outline
import Derived.Lib.Walk
import Derived.Lib.SliceRun
import Derived.Test.YtlplaidcdocbmaaZS8
/- sorts.Orders. -/
namespace Go.Proofs.Ytlplaidcdocbmaa.Srt
open Go.RowKit Go.Shelf Go.Proofs.Ytlplaidcdocbmaa.Core Go.Proofs.YtlplaidcdocbmaaW
open Go.Proofs.YtlplaidcdocbmaaW.PrintWords (Kd encs)
set_option linter.unusedVariables false
set_option linter.unusedSimpArgs false

set_option maxHeartbeats 2000000 in
theorem clone_R {α : Type} (d : Kd α) (hd : d.sz = 1) {B : Nat} {v : Value} {xs : List α} {w : World} (h : d.R 24 w B (fun _ => True) v xs) (hB : B ≤ w.heap.size) (hn : xs.length ≤ 1000) :
    Calls Try.prog 85 #[v] w fun e w' => ∃ v' : Value, e = .returned v' ∧ d.R 24 w' B (fun _ => True) v' xs ∧ Below w.heap.size w w' := by
  obtain ⟨i0, hi, hz0, hz1, hz2⟩ := info_parts info24
  have q37 : ∀ (w : World) (a : Option Addr) (n c n' c' : Nat), (binOp .eql 37 (.slice a n c) (.slice none n' c')).run Try.prog w = .ok (.bool a.isNone) w := fun w a n c n' c' => Lib.run_eql_slice_nil w _ _ a n c n' c' Try.underlying37
  have hb := Kd.R_bound h
  obtain ⟨h0, inner, ho, hr⟩ := hb
  rw [hd] at ho hr
  rcases ho.2 with ⟨rfl, hl0⟩ | ⟨g, cap, cur, rfl, hbg, hg, hnc, hcm, hcs, htake⟩
  · have hx : xs = [] := List.length_eq_zero_iff.1 hl0
    subst hx
    clear h hr ho h0
    go_enter Try.func85, Try.ntmps85
    go_wp2
    go_ret
    exact ⟨_, rfl, Kd.R_nil _ _ _ _ _, Below.refl _ _⟩
  · have hil : inner.length = xs.length * 1 := ho.1
    have h1 : ∀ u ∈ inner, u.oneCell' = true := Kd.reps_one hr (by decide) (fun p c hp => d.K_one (d.K_of_M hp))
    have HC := Apart0.mk ho
    have HR := Apart0.mk hr
    have HG := Apart0.mk hg
    clear hg h ho hr htake hcs hbg h0
    go_enter Try.func85, Try.ntmps85
    go_wp2_with (at_builtin; refine wpList_append_own_at _ rfl _ _ 37 rfl w.heap.size 24 i0 (.slice none 0 0) 1 24 Try.underlying37 hi hz0 hz1 hz2 rfl (by decide) _ _ _ rfl (World.ownsRow_made w #[] 0 (Nat.le_refl _) (Nat.zero_le _) rfl) ⟨g, 0, none⟩ xs.length cap inner rfl hil ?qc2 ?qc3 ?qc4 ?qc5 ?qc6 ?_)
    case qc2 =>
      intro j u hj
      have hjn : j < xs.length * 1 := by
        have := (List.getElem?_eq_some_iff.1 hj).1
        omega
      (try rw [Addr.add_lit, Nat.zero_add])
      exact Lib.cell?_alloc_some _ ((HC.out.cellAt j hjn).trans hj)
    case qc3 => exact h1
    case qc4 => unfold maxLen; omega
    case qc5 => omega
    intro v' w1 hown hgrow hnil hat
    go_wp2
    go_ret
    have hBel : Below w.heap.size w w1 := ((Below.refl _ w).alloc (Nat.le_refl _) _).grown hgrow (by simp) (by intro k hk; simp [Value.ownBlock] at hk; omega)
    have hne : ∀ k, k < w.heap.size → some k ≠ v'.ownBlock := by
      intro k hk e
      rcases hat with hat | hat
      · rw [hat] at e; simp [Value.ownBlock] at e; omega
      · rw [hat] at e; simp at e; omega
    have h3 : w1.ownsRow w.heap.size 24 1 v' xs.length inner := by simpa using hown
    refine ⟨v', rfl, ⟨fun _ _ => trivial, inner, by rw [hd]; exact ownsRow_base h3 hB, ?_⟩, hBel⟩
    rw [hd]
    refine HR.out.imp_ (fun p c hp => ?_)
    exact d.M_mono (fun k hk => ⟨trivial, hne k hk.1.2.2.1⟩) (d.M_move (fun k hk => hBel.block k hk.1.2.2.1) hp)
theorem clone_rows {B : Nat} {v : Value} {xs : List (List Int)} {w : World} (h : Kd.S (Kd.slice 3 (Kd.int .i64)) 24 w B (fun _ => True) v xs) (hB : B ≤ w.heap.size) (hn : xs.length ≤ 1000) :
    Calls Try.prog 85 #[v] w fun e w' => ∃ v' : Value, e = .returned v' ∧ Kd.S (Kd.slice 3 (Kd.int .i64)) 24 w' B (fun _ => True) v' xs ∧ Below w.heap.size w w' := by
  obtain ⟨f, hR⟩ := h
  refine (clone_R (Kd.tag f (Kd.slice 3 (Kd.int .i64))) rfl hR hB (by rw [List.length_zipIdx]; exact hn)).mono ?_
  rintro e w' ⟨v', he, h1, h2⟩
  exact ⟨v', he, ⟨f, h1⟩, h2⟩
def intsL (l : List Nat) : List Int := l.map fun (x : Nat) => (x : Int)
theorem encs_nats (l : List Nat) : encs (Value.int .i64) (intsL l) = l.map Core.encI := by unfold encs intsL; rw [List.map_map]; rfl
def ordL (es : List Ed) (d : Nat) (l : List Ed) : List (List Int) := l.map fun e => intsL (orderS es d 5 e.set.toNat)
theorem ordL_all (es : List Ed) (d : Nat) : (ordersS es d).map intsL = ordL es d es := by unfold ordersS ordL; rw [List.map_map]; rfl
set_option maxRecDepth 100000 in
set_option maxHeartbeats 4000000 in
theorem orders_at {Ae : Option Addr} {ce d : Nat} {es : List Ed} (hd : d ≤ 4) (hel : es.length ≤ 1000) (hst : Steps d es) (hsets : ∀ e ∈ es, ∃ s : Nat, e.set = (s : Int) ∧ s < 2 ^ d ∧ lev s < 5) (w : World) (hes : EdsAt w Ae es) :
    Calls Try.prog 57 #[.slice Ae es.length ce, .int .i64 (d : Int)] w fun e w' => ∃ v : Value, e = .returned v ∧ Kd.S (Kd.slice 3 (Kd.int .i64)) 24 w' w.heap.size (fun _ => True) v ((ordersS es d).map intsL) ∧ Below w.heap.size w w' := by
  have HES := Apart0.mk hes
  have HSE := Apart0.mk hsets
  have HOR := Apart0.mk (fun s (h1 : s < 2 ^ d) (h2 : lev s < 5) W (h3 : EdsAt W Ae es) => order_at (ce := ce) hd hel hst 5 s (by omega) h1 h2 W h3)
  have HOL := Apart0.mk (fun s => orderS_len es d hd 5 s)
  clear hes hsets hst
  go_enter Try.func57, Try.ntmps57
  go_wp2_with fail
  go_loopw [5, 10] (fun v5 v10 wr => ∃ i : Nat, v10 = .int .i64 (i : Int) ∧ i ≤ es.length ∧ Apart0 (Kd.S (Kd.slice 3 (Kd.int .i64)) 24 wr w.heap.size (fun _ => True) v5 (ordL es d (es.take i)) ∧ Below w.heap.size w wr))
    (fun _ p _ => es.length - (intOf p).toNat)
  case atStart => exact ⟨0, rfl, by omega, ⟨Kd.S_nil _ _ _ _ _, Below.refl _ _⟩⟩
  case round =>
    obtain ⟨i, rfl, hi, HI⟩ := hrel
    by_cases hlt : i < es.length
    · have hdk : decide ((i : Int) < (es.length : Int)) = true := dec_lt i es.length hlt
      obtain ⟨ad, rfl, c0, c1, c2⟩ := (HES.out.below HI.out.2) i hlt
      have htk := take_snoc' es ⟨0, 0, false⟩ i hlt
      have hem : es.getD i ⟨0, 0, false⟩ ∈ es := by rw [getD_of_lt es i _ hlt]; exact List.getElem_mem hlt
      obtain ⟨s, hs, hs2, hs5⟩ := HSE.out _ hem
      obtain ⟨e, he⟩ : ∃ e, e = es.getD i ⟨0, 0, false⟩ := ⟨_, rfl⟩
      rw [← he] at c0 c1 c2 htk hs
      obtain ⟨e1, e2, e3⟩ := e
      dsimp only at c0 c1 c2 hs
      subst hs
      have hB1 := HI.out.2.trans (((Below.refl _ wr).alloc (Nat.le_refl _) (.cells #[.int .i64 (s : Int), .int .i64 e2, .bool e3] 49)).mono HI.out.2.size)
      have HC := Apart0.mk (HOR.out s hs2 hs5 _ (HES.out.below hB1))
      have HB1 := Apart0.mk hB1
      have HRow := Apart0.mk HI.out.1
      have HSE2 := Apart0.mk (show ordL es d (es.take (i + 1)) = ordL es d (es.take i) ++ [intsL (orderS es d 5 s)] by
        rw [htk]
        unfold ordL
        rw [List.map_append, List.map_cons, List.map_nil]
        simp only [Int.toNat_natCast])
      have hxl : (ordL es d (es.take i)).length ≤ 1000 := by unfold ordL; rw [List.length_map, List.length_take]; omega
      have hol := HOL.out s
      generalize orderS es d 5 s = O at *
      generalize hX : ordL es d (es.take i) = X at *
      clear htk hem he hB1 HI hX
      go_wp2_with fail
      (with_reducible refine HC.out.mono ?_)
      rintro e w2 ⟨v1, rfl, hown, hb2⟩
      have hcl := clone_ints hown (by omega) (fun u hu => by obtain ⟨x, _, rfl⟩ := List.mem_map.1 hu; rfl)
      have HCL := Apart0.mk hcl
      have HB2 := Apart0.mk hb2
      clear hown hb2 hcl
      go_wp2_with fail
      (with_reducible refine HCL.out.mono ?_)
      rintro e w3 ⟨v2, rfl, hown3, hb3⟩
      obtain ⟨A12, c12, rfl⟩ := PrintWords.own_slice hown3
      have hbA := (((Below.refl _ wr).alloc (Nat.le_refl _) (.cells #[.int .i64 (s : Int), .int .i64 e2, .bool e3] 49)).trans (HB2.out.mono (by simp only [World.size_alloc]; omega))).trans (hb3.mono (Nat.le_trans (by simp only [World.size_alloc]; omega) HB2.out.size))
      have hbW := HB1.out.trans ((HB2.out.mono HB1.out.size).trans (hb3.mono (Nat.le_trans HB1.out.size HB2.out.size)))
      have hlt8 := Kd.S_lt HRow.out
      have hge12 := own_base_le hown3
      have hszA : wr.heap.size ≤ w2.heap.size := Nat.le_trans (by simp only [World.size_alloc]; omega) HB2.out.size
      have hRow2 := Kd.S_mono (ok' := fun k => True ∧ ¬ (some k = (Value.slice A12 O.length c12).ownBlock)) (Kd.S_below (Kd.S_bound HRow.out) hbA) (fun k hk => ⟨trivial, fun e => by
        have g1 := hk.2.2.1
        have g2 := hge12 k e.symm
        omega⟩)
      have hRi : Kd.R (Kd.int .i64) 3 w3 w.heap.size (fun k => some k = (Value.slice A12 O.length c12).ownBlock) (.slice A12 O.length c12) (intsL O) := by
        refine Kd.R_of_own (h1 := fun _ => rfl) ?_ (fun k hk => hk.symm)
        rw [encs_nats, show (intsL O).length = O.length by simp [intsL]]
        exact ownsRow_base hown3 (Nat.le_trans HB1.out.size HB2.out.size)
      have HNE8 := Apart0.mk (show ∀ k, some k = (Value.slice A12 O.length c12).ownBlock → True ∧ some k ≠ u5.ownBlock from fun k hk => ⟨trivial, fun e => by
        have g1 := hlt8 k e.symm
        have g2 := hge12 k hk.symm
        omega⟩)
      have HRi := Apart0.mk hRi
      have HRow2 := Apart0.mk hRow2
      have HBW := Apart0.mk hbW
      clear hRi hRow2 hbW hlt8 hge12 hbA hown3 hb3 hszA
      go_wp2_with (at_builtin; refine Kd.S_append (Kd.slice 3 (Kd.int .i64)) (w0 := w) w.heap.size rfl (.tmp 14) (.tmp 21) 37 24 (.slice none 0 0) 24 rfl Try.underlying37 info24 rfl (by decide) (by omega) u5 X (intsL O) [.slice A12 O.length c12] (fun _ => True) (fun k => some k = (Value.slice A12 O.length c12).ownBlock) rfl rfl ?aP HNE8.out (fun _ _ => trivial) ?aO ?aB ?aS ?aL ?_)
      case aP => exact Kd.M_row HRi.out
      case aO => exact HRow2.out
      case aB => exact HBW.out
      case aS => exact HBW.out.size
      case aL => omega
      intro v1' wq ho hb hg hat
      have HIn := Apart0.mk (And.intro ho hb)
      clear ho hb hg hat
      go_wp2_with fail
      go_roundw
      case rel => exact ⟨i + 1, congrArg _ (Int.natCast_succ i).symm, by omega, ⟨by rw [HSE2.out]; exact HIn.out.1, HIn.out.2⟩⟩
      case measure => simp only [intOf]; omega
    · have hdk : decide ((i : Int) < (es.length : Int)) = false := dec_nlt i es.length hlt
      obtain rfl : i = es.length := by omega
      have hR := HI.out.1
      rw [List.take_length] at hR
      have hcl := clone_rows hR HI.out.2.size (by simp [ordL]; omega)
      have HCL := Apart0.mk hcl
      have HB := Apart0.mk HI.out.2
      clear hcl hR HI
      go_wp2_with fail
      (with_reducible refine HCL.out.mono ?_)
      rintro e w2 ⟨v2, rfl, hR2, hb2⟩
      have HF := Apart0.mk (And.intro hR2 (HB.out.trans (hb2.mono HB.out.size)))
      clear hR2 hb2
      go_wp2_with fail
      go_ret
      exact ⟨v2, rfl, by rw [ordL_all]; exact HF.out.1, HF.out.2⟩
end Go.Proofs.Ytlplaidcdocbmaa.Srt
