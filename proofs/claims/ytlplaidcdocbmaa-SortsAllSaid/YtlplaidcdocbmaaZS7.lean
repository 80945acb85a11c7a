-- Cut by pack.py, a program of this session; not trusted: Lean checks it.
import Derived.Deep.Draws
import Derived.Tactics
import Derived.Tactics2
import Derived.OwnWalk
import Derived.Outline
import Derived.Lib.Walk
import Derived.Lib.SliceRun
import Derived.Maps.OwnOps
import Derived.Maps.Views
import Derived.Maps.Keyed
import Derived.Deep.QuietTactic
import Derived.BigQuiet
import Derived.Deep.RegionHeld3
import Derived.Shelf.RegionOpenPlain
import Derived.Test.YtlplaidcdocbmaaZG3

namespace Go.Proofs.Ytlplaidcdocbmaa.Srt
open Go.RowKit Go.Shelf Go.Proofs.Ytlplaidcdocbmaa.Core Go.Proofs.YtlplaidcdocbmaaW
open List renaming setIfInBounds_toArray → sl0, set_cons_zero → sl1, set_cons_succ → sl2, getElem_toArray → sl3, getElem_cons_succ → sl4, getElem_cons_zero → sl5
set_option linter.unusedVariables false
set_option linter.unusedSimpArgs false
section
variable {P : Program} {md : Region.Mode} {ops : Array Oper} {Q : Exit → Act → World → Prop} {S : World → Prop}
theorem tk_ (i : Nat) {oi : Oper} {v : Value} {fuel : Nat} {listed : Array Bool} {a : Act} {w : World} (h : wpAnyH P md ops Q S fuel (listed.setIfInBounds i true) (a.put oi.dst v) w) (hi : ops[i]? = some oi := by rfl)
 (hs : Region.noSelect ops = true := by kernel_rfl) (hf : Region.free md ops listed i = true := by kernel_rfl) (hr : (Region.ready md ops listed).contains i = true := by kernel_rfl)
 (hQ : ∀ c a w, Q (.panic c) (a.put oi.dst v) w → Q (.panic c) a w := by exact fun _ _ _ h => h) (hg : Region.wanted oi (yielded ops a.tmps) = true := by rfl)
 (hy : ∀ w, S w → (execOp a.eval oi).run P w = .ok (.value v) w := by (intro w hSw; (try dsimp only at hSw); go_simp; first | done | (with_reducible rfl))) (hS : S w := by assumption) : wpAnyH P md ops Q S (fuel + 1) listed a w :=
 wpAnyH_take hi hs hf hr hQ (Or.inl ⟨hg, hy⟩) hS h
theorem tu_ (i : Nat) {oi : Oper} {fuel : Nat} {listed : Array Bool} {a : Act} {w : World} (h : wpAnyH P md ops Q S fuel (listed.setIfInBounds i true) (a.put oi.dst undef) w) (hi : ops[i]? = some oi := by rfl)
 (hs : Region.noSelect ops = true := by kernel_rfl) (hf : Region.free md ops listed i = true := by kernel_rfl) (hr : (Region.ready md ops listed).contains i = true := by kernel_rfl)
 (hQ : ∀ c a w, Q (.panic c) (a.put oi.dst undef) w → Q (.panic c) a w := by exact fun _ _ _ h => h) (hg : Region.wanted oi (yielded ops a.tmps) = false := by rfl) (hS : S w := by assumption) : wpAnyH P md ops Q S (fuel + 1) listed a w :=
 wpAnyH_take hi hs hf hr hQ (Or.inr ⟨hg, rfl⟩) hS h
end
theorem keyed3 : Maps.Keyed Try.prog 3 := Maps.int_keyed Try.underlying3
theorem zero4 (w : World) : (zeroValue 4).run Try.prog w = .ok (.bool false) w := by kernel_rfl
def Seen (w : World) (b : Nat) (seen : List Int) : Prop := ∃ (n : Nat) (D : DataW Unit), w.ownsMap Try.prog 3 (plainElem Try.prog 4) b n D ∧ n ≤ seen.length ∧ Maps.IsMap D ∧
 ∀ x : Int, (Lit.int .i64 x).wf = true → D.atKey (.int .i64 x) (.lit (.bool false)) = .lit (.bool (seen.contains x))
theorem Seen.made (w : World) : Seen (w.alloc (.map #[] 0)) w.heap.size [] :=
 ⟨0, .map [], World.ownsMap_made w _ _ _, Nat.le_refl _, ⟨[], rfl⟩, fun x _ => rfl⟩
theorem Seen.lt {w : World} {b : Nat} {seen : List Int} (h : Seen w b seen) : b < w.heap.size := by
 obtain ⟨n, D, h1, _⟩ := h
 exact h1.lt
theorem Seen.below {w w' : World} {b : Nat} {seen : List Int} (h : Seen w b seen) (hb : Below w.heap.size w w') : Seen w' b seen := by
 obtain ⟨n, D, h1, h2⟩ := h
 exact ⟨n, D, h1.kept (PrintWords.grown_of_below hb none) (by simp), h2⟩
theorem plain_bool {v : Value} {q : Bool} {ps : List MemPlace} (hv : plainElem (H := Unit) Try.prog 4 v = some (.lit (.bool q), ps)) : v = .bool q := by
 unfold plainElem at hv
 rw [Try.underlying4] at hv
 cases v with
 | bool y =>
  have h5 := congrArg (fun o => o.map Prod.fst) hv
  simp only [Option.map_some, Option.some.injEq, DataW.lit.injEq, Lit.bool.injEq] at h5
  rw [h5]
 | _ => exact absurd hv (by intro h; cases h)
theorem Seen.look {w : World} {b : Nat} {seen : List Int} (h : Seen w b seen) {x : Int} (hx : (Lit.int .i64 x).wf = true) : (Instr.lookup 74 (.map (some b)) (.int .i64 x) false).run Try.prog w = .ok (.bool (seen.contains x)) w := by
 obtain ⟨n, D, h1, h2, h3, h4⟩ := h
 obtain ⟨v, ps, hrun, hv⟩ := h1.lookup keyed3 Try.underlying74 (zero4 w) (plainElem_bool Try.underlying4 false) (Maps.keyOf_int_mk Try.underlying3 hx)
 have h4' := h4 x hx
 generalize seen.contains x = q at *
 have hv' : plainElem (H := Unit) Try.prog 4 v = some (.lit (.bool q), ps) := by rw [← h4']; exact hv
 have e := plain_bool hv'
 subst e
 exact hrun
theorem lit_ne {x y : Int} (h : x ≠ y) : Lit.int .i64 x ≠ Lit.int .i64 y := fun e => by cases e; exact h rfl
theorem Seen.put {w : World} {b : Nat} {seen : List Int} (h : Seen w b seen) (hl : seen.length ≤ 1000) {x : Int} (hx : (Lit.int .i64 x).wf = true) :
 ∃ w', (Instr.mapUpdate 74 (.map (some b)) (.int .i64 x) (.bool true)).run Try.prog w = .ok () w' ∧ Seen w' b (seen ++ [x]) ∧ w.grownBy w' (some b) := by
 obtain ⟨n, D, h1, h2, h3, h4⟩ := h
 obtain ⟨w', hrun, hown, hg⟩ := h1.update keyed3 Try.underlying74 (by unfold maxLen; omega) (Maps.keyOf_int_mk Try.underlying3 hx) (plainElem_bool Try.underlying4 true)
 refine ⟨w', hrun, ⟨n + 1, _, hown, by simp; omega, ?_, fun y hy => ?_⟩, hg⟩
 ·obtain ⟨es, rfl⟩ := h3
  exact ⟨_, rfl⟩
 by_cases e : y = x
 rotate_left
 ·rw [Maps.atKey_put_other (lit_ne e), h4 y hy]
  congr 2
  rw [Bool.eq_iff_iff]
  simp [e]
 subst e
 rw [Maps.atKey_put_same h3 (by first | trivial | exact ⟨_, _, rfl⟩ | simp [WideAt.IsKeyLit])]
 simp
theorem sets_n {w : World} {d : Nat} (hd : d ≤ 4) : Calls Try.prog 29 #[.int .i64 (d : Int)] w fun e w' =>
 ∃ A' c', e = .returned (.slice A' (sets d).length c') ∧ NatsAt w' A' (sets d) ∧ Below w.heap.size w w' := by
 refine (sets_calls d hd w).mono ?_
 rintro e w' ⟨v, rfl, h, hb⟩
 obtain ⟨A', c', rfl, hn⟩ := nats_any h
 exact ⟨A', c', rfl, hn, hb⟩
theorem go_drop (d : Nat) (es : List Ed) (i : Nat) (seen : List Int) (h : i < es.length) :
 rightGo d i seen (es.drop i) = (okE d i (es.getD i ⟨0, 0, false⟩) && !((es.getD i ⟨0, 0, false⟩).scan && seen.contains (es.getD i ⟨0, 0, false⟩).par) && rightGo d (i + 1) (if (es.getD i ⟨0, 0, false⟩).scan then seen ++ [(es.getD i ⟨0, 0, false⟩).par] else seen) (es.drop (i + 1))) := by
 rw [List.drop_eq_getElem_cons h, ← getD_of_lt es i ⟨0, 0, false⟩ h]
 rfl
set_option maxRecDepth 100000 in
set_option maxHeartbeats 4000000 in
theorem right_at {w : World} {A : Option Addr} {c : Nat} {es : List Ed} {d : Nat} (hd : d ≤ 4) (hes : EdsAt w A es) (hwf : ∀ e ∈ es, (Lit.int .i64 e.par).wf = true) :
 Calls Try.prog 54 #[.slice A es.length c, .int .i64 (d : Int)] w fun e w' => e = .returned (.bool (rightS d es)) ∧ Below w.heap.size w w' := by
 have HES := Apart0.mk hes
 have HWF := Apart0.mk hwf
 have HS := Apart0.mk (fun W => sets_n (w := W) hd)
 have hsl : (sets d).length ≤ 16 := by rw [(sets_fin d (by omega)).1]; exact pow16 d hd
 obtain ⟨S, hS⟩ : ∃ S, S = sets d := ⟨_, rfl⟩
 rw [← hS] at hsl
 have HS := Apart0.mk (show ∀ W, Calls Try.prog 29 #[.int .i64 (d : Int)] W fun e w' => ∃ A' c', e = .returned (.slice A' S.length c') ∧ NatsAt w' A' S ∧ Below W.heap.size W w' by rw [hS]; exact HS.out)
 have HSE := Apart0.mk hS
 clear hes hwf hS
 by_cases hlen : es.length = S.length
 rotate_left
 ·have hr : rightS d es = false := by unfold rightS; rw [← HSE.out, beq_eq_false_iff_ne.2 hlen, Bool.false_and]
  rw [hr]
  have hb0 : ((es.length : Int) != (S.length : Int)) = true := by simp; omega
  have hb1 : (es.length != S.length) = true := by simp; omega
  clear hr hlen
  go_enter Try.func54, Try.ntmps54
  go_wp2_with fail
  refine (HS.out _).mono ?_
  rintro e W0 ⟨AS, cS, rfl, hns, hb⟩
  have HB0 := Apart0.mk hb
  clear hns hb
  go_wp2_with fail
  go_ret
  exact ⟨rfl, HB0.out⟩
 have hr : rightS d es = rightGo d 0 [] (es.drop 0) := by unfold rightS; rw [← HSE.out, beq_iff_eq.2 hlen, Bool.true_and, List.drop_zero]
 rw [hr]
 obtain ⟨R, hR⟩ : ∃ R, R = rightGo d 0 [] (es.drop 0) := ⟨_, rfl⟩
 rw [← hR]
 have HR := Apart0.mk hR
 have hb0 : ((es.length : Int) != (S.length : Int)) = false := by rw [hlen]; simp
 have hb1 : (es.length != S.length) = false := by rw [hlen]; simp
 have hel : es.length ≤ 16 := by omega
 have HLEN := Apart0.mk hlen
 clear hr hR hlen
 go_enter Try.func54, Try.ntmps54
 go_wp2_with fail
 refine (HS.out _).mono ?_
 rintro e W0 ⟨AS, cS, rfl, hns, hb⟩
 have HNS := Apart0.mk hns
 have HB0 := Apart0.mk hb
 clear hns hb
 have hmk : ∀ w : World, (Instr.makeMap 74 none).run Try.prog w = .ok (.map (some w.heap.size)) (w.alloc (.map #[] 0)) := fun w => rfl
 go_wp2_with fail
 obtain ⟨W1, hW1⟩ : ∃ W1, W1 = W0.alloc (.map #[] 0) := ⟨_, rfl⟩
 have HI0 := Apart0.mk (show rightGo d 0 [] (es.drop 0) = R ∧ Seen W1 W0.heap.size [] ∧ Below W0.heap.size W0 W1 ∧ ([] : List Int).length ≤ 0 by
  rw [hW1]
  exact ⟨HR.out.symm, Seen.made W0, (Below.refl _ W0).alloc (Nat.le_refl _) _, Nat.le_refl _⟩)
 rw [← hW1]
 clear hW1
 go_loopw [19] (fun v19 wr => ∃ (i : Nat) (seen : List Int), v19 = .int .i64 (i : Int) ∧ i ≤ es.length ∧ Apart0 (rightGo d i seen (es.drop i) = R ∧ Seen wr W0.heap.size seen ∧ Below W0.heap.size W0 wr ∧ seen.length ≤ i))
  (fun p _ => es.length - (intOf p).toNat)
 case atStart => exact ⟨0, [], rfl, by omega, HI0⟩
 case round =>
  obtain ⟨i, seen, rfl, hi, HI⟩ := hrel
  by_cases hlt : i < es.length
  rotate_left
  ·have hdk : decide ((i : Int) < (es.length : Int)) = false := dec_nlt i es.length hlt
   obtain rfl : i = es.length := by omega
   have HF := Apart0.mk (show R = true by
    rw [← HI.out.1, List.drop_eq_nil_of_le (Nat.le_refl _)]; rfl)
   have HBF := Apart0.mk (HB0.out.trans (HI.out.2.2.1.mono HB0.out.size))
   clear HI
   go_wp2_with fail
   go_ret
   exact ⟨by rw [HF.out]; rfl, HBF.out⟩
  have hdk : decide ((i : Int) < (es.length : Int)) = true := dec_lt i es.length hlt
  obtain ⟨ad, rfl, c0, c1, c2⟩ := (HES.out.below (HB0.out.trans (HI.out.2.2.1.mono HB0.out.size))) i hlt
  obtain ⟨adS, rfl, cS⟩ := (HNS.out.below HI.out.2.2.1) i (by have := HLEN.out; omega)
  have hiS : ((i : Int) < (S.length : Int)) := by have := HLEN.out; omega
  have hgo := go_drop d es i seen hlt
  rw [HI.out.1] at hgo
  have hem : es.getD i ⟨0, 0, false⟩ ∈ es := by rw [getD_of_lt es i _ hlt]; exact List.getElem_mem hlt
  have hpw := HWF.out _ hem
  obtain ⟨e, he⟩ : ∃ e, e = es.getD i ⟨0, 0, false⟩ := ⟨_, rfl⟩
  rw [← he] at c0 c1 c2 hgo hpw
  obtain ⟨s, p, sc⟩ := e
  dsimp only at c0 c1 c2 hgo hpw
  have hst : S.getD i 0 = (sets d).getD i 0 := by rw [HSE.out]
  obtain ⟨t, ht⟩ : ∃ t, t = (sets d).getD i 0 := ⟨_, rfl⟩
  rw [hst, ← ht] at cS
  have HGO := Apart0.mk hgo
  have HPW := Apart0.mk hpw
  have HT := Apart0.mk ht
  clear hgo hem hpw he hst ht
  by_cases hset : s = (t : Int)
  rotate_left
  ·have hb2 : (s != (t : Int)) = true := by simpa using hset
   have HF := Apart0.mk (show R = false by
    rw [HGO.out]
    have : okE d i ⟨s, p, sc⟩ = false := by
     unfold okE
     rw [← HT.out, beq_eq_false_iff_ne.2 hset, Bool.false_and]
    rw [this]; rfl)
   have HBF := Apart0.mk (HB0.out.trans (HI.out.2.2.1.mono HB0.out.size))
   have cS' := Lib.cell?_alloc_some (.cells #[.int .i64 s, .int .i64 p, .bool sc] 49) cS
   clear HGO hset
   go_wp2_with fail
   go_quiet ((fail))
   go_wp2_with fail
   go_ret
   exact ⟨by rw [HF.out]; rfl, PrintWords.pw_below_drewN (HBF.out.trans (((Below.refl _ wr).alloc (Nat.le_refl _) _).mono HBF.out.size)) _⟩
  subst hset
  have hb2 : (((t : Nat) : Int) != (t : Int)) = false := by simp
  have cS' := Lib.cell?_alloc_some (.cells #[.int .i64 (t : Int), .int .i64 p, .bool sc] 49) cS
  have hWB : Below w.heap.size w wr := HB0.out.trans (HI.out.2.2.1.mono HB0.out.size)
  have HBF := Apart0.mk hWB
  by_cases h0 : i = 0
  ·have e1 : ((i : Int) == 0) = true := by rw [h0]; rfl
   have e2 : (i == 0) = true := by rw [h0]; rfl
   have e3 : decide (0 < (i : Int)) = false := by rw [h0]; rfl
   have e4 : decide (0 < i) = false := by rw [h0]; rfl
   have HOK := Apart0.mk (show okE d i ⟨(t : Int), p, sc⟩ = (p == -1 && !sc) by
    unfold okE
    rw [← HT.out, if_pos h0, beq_iff_eq.2 rfl, Bool.true_and])
   clear h0
   by_cases hp : p = -1
   rotate_left
   ·have e5 : (p != -1) = true := by simpa using hp
    have HF := Apart0.mk (show R = false by rw [HGO.out, HOK.out, beq_eq_false_iff_ne.2 hp]; rfl)
    clear HGO hp
    go_wp2_with fail
    go_quiet ((fail))
    go_wp2_with fail
    go_ret
    exact ⟨by rw [HF.out]; rfl, PrintWords.pw_below_drewN (HBF.out.trans (((Below.refl _ wr).alloc (Nat.le_refl _) _).mono HBF.out.size)) _⟩
   have e5 : (p != -1) = false := by rw [hp]; rfl
   cases sc with
   | true =>
    have HF := Apart0.mk (show R = false by rw [HGO.out, HOK.out]; simp)
    clear HGO hp
    go_wp2_with fail
    go_quiet ((fail))
    go_wp2_with fail
    go_ret
    exact ⟨by rw [HF.out]; rfl, PrintWords.pw_below_drewN (HBF.out.trans (((Below.refl _ wr).alloc (Nat.le_refl _) _).mono HBF.out.size)) _⟩
   | false =>
    have HF := Apart0.mk (show R = rightGo d (i + 1) seen (es.drop (i + 1)) by rw [HGO.out, HOK.out, hp]; simp)
    have HN := Apart0.mk (show ∀ a, Seen ((wr.alloc (.cells #[.int .i64 (t : Int), .int .i64 p, .bool false] 49)).drewN a) W0.heap.size seen ∧ Below W0.heap.size W0 ((wr.alloc (.cells #[.int .i64 (t : Int), .int .i64 p, .bool false] 49)).drewN a) from fun a => by
     have hb := PrintWords.pw_below_drewN ((Below.refl _ wr).alloc (Nat.le_refl _) (.cells #[.int .i64 (t : Int), .int .i64 p, .bool false] 49)) a
     exact ⟨HI.out.2.1.below hb, HI.out.2.2.1.trans (hb.mono HI.out.2.2.1.size)⟩)
    clear HGO hp
    go_wp2_with fail
    go_quiet ((fail))
    go_wp2_with fail
    go_roundw
    case rel => exact ⟨i + 1, seen, congrArg _ (Int.natCast_succ i).symm, by omega, ⟨HF.out.symm, (HN.out _).1, (HN.out _).2, by have := HI.out.2.2.2; omega⟩⟩
    case measure => simp only [intOf]; omega
  have e1 : ((i : Int) == 0) = false := beq_eq_false_iff_ne.2 (by omega)
  have e2 : (i == 0) = false := beq_eq_false_iff_ne.2 h0
  have e3 : decide (0 < (i : Int)) = true := decide_eq_true (by omega)
  have e4 : decide (0 < i) = true := decide_eq_true (by omega)
  have hp16 := pow16 d hd
  have ht16 : t < 16 := by
   rw [HT.out]
   exact Nat.lt_of_lt_of_le ((sets_fin d (by omega)).2 i (by have := HLEN.out; rw [HSE.out, (sets_fin d (by omega)).1] at this; omega)).1 hp16
  have hpl := parents_len t d hd
  have hpc := fun W => parents_n (w := W) (s := t) (d := d) ht16 hd
  obtain ⟨P, hP⟩ : ∃ P, P = parents t d := ⟨_, rfl⟩
  rw [← hP] at hpl hpc
  have hcon := fun A7 c7 W (hN : NatsAt W A7 P) => contains_at A7 c7 P p (by omega) W hN
  have hok : okE d i ⟨(t : Int), p, sc⟩ = P.any (fun (x : Nat) => (x : Int) == p) := by
   unfold okE
   rw [← HT.out, if_neg h0, beq_iff_eq.2 rfl, Bool.true_and, hP]
  have HPC := Apart0.mk hpc
  generalize hq : (P.any fun (x : Nat) => (x : Int) == p) = q at *
  have HCON := Apart0.mk hcon
  have hgo := HGO.out
  rw [hok] at hgo
  have hW0 : Below wr.heap.size wr (wr.alloc (.cells #[.int .i64 (t : Int), .int .i64 p, .bool sc] 49)) := (Below.refl _ wr).alloc (Nat.le_refl _) _
  have hbx : (wr.alloc (.cells #[.int .i64 (t : Int), .int .i64 p, .bool sc] 49)).heap[wr.heap.size]? = some (.cells #[.int .i64 (t : Int), .int .i64 p, .bool sc] 49 (0, 0)) := World.alloc_heap_new wr _
  have HGO2 := Apart0.mk hgo
  have HI2 := Apart0.mk (And.intro (HI.out.2.1.below hW0) (And.intro (HI.out.2.2.1.trans (hW0.mono HI.out.2.2.1.size)) HI.out.2.2.2))
  have HBF2 := Apart0.mk (HBF.out.trans (hW0.mono HBF.out.size))
  have hszW : (wr.alloc (.cells #[.int .i64 (t : Int), .int .i64 p, .bool sc] 49)).heap.size = wr.heap.size + 1 := by simp
  clear hP hpc h0 HGO hq hok hcon hgo HI HBF hWB hp16
  go_wp2_with fail
  generalize (wr.alloc (.cells #[.int .i64 (t : Int), .int .i64 p, .bool sc] 49)) = W2 at *
  have x0 : W2.cell? ⟨wr.heap.size, 0, none⟩ = some (.int .i64 (t : Int)) := by simp [World.cell?, hbx]
  have x1 : W2.cell? ⟨wr.heap.size, 1, none⟩ = some (.int .i64 p) := by simp [World.cell?, hbx]
  have x2 : W2.cell? ⟨wr.heap.size, 2, none⟩ = some (.bool sc) := by simp [World.cell?, hbx]
  clear hbx cS c0 c1 c2
  have HW0 := Apart0.mk hW0
  clear hW0
  cases q with
  | false =>
   have HF := Apart0.mk (show R = false by rw [HGO2.out]; rfl)
   clear HGO2
   have mixed : Try.prog.follows .mixedOrders = true := by kernel_rfl
   refine wp_region_held_drew (S := fun w' => w'.cell? ⟨wr.heap.size, 0, none⟩ = some (.int .i64 (t : Int)) ∧ w'.cell? ⟨wr.heap.size, 1, none⟩ = some (.int .i64 p) ∧ w'.cell? ⟨wr.heap.size, 2, none⟩ = some (.bool sc) ∧ w'.cell? (adS.add i) = some (.int .i64 (t : Int))) mixed ?_ (fun hHeld2 => ?_)
   ·exact ⟨x0, x1, x2, cS'⟩
   refine tk_ 0 ?_; try simp only [Act.put, sl3, sl4, sl5, sl0, sl1, sl2]
   refine tk_ 1 ?_; try simp only [Act.put, sl3, sl4, sl5, sl0, sl1, sl2]
   refine tk_ 2 ?_; try simp only [Act.put, sl3, sl4, sl5, sl0, sl1, sl2]
   refine tk_ 3 ?_; try simp only [Act.put, sl3, sl4, sl5, sl0, sl1, sl2]
   refine tk_ 4 ?_; try simp only [Act.put, sl3, sl4, sl5, sl0, sl1, sl2]
   refine tk_ 5 ?_; try simp only [Act.put, sl3, sl4, sl5, sl0, sl1, sl2]
   refine tk_ 6 ?_; try simp only [Act.put, sl3, sl4, sl5, sl0, sl1, sl2]
   refine tk_ 7 ?_; try simp only [Act.put, sl3, sl4, sl5, sl0, sl1, sl2]
   refine tk_ 8 ?_; try simp only [Act.put, sl3, sl4, sl5, sl0, sl1, sl2]
   refine tk_ 9 ?_; try simp only [Act.put, sl3, sl4, sl5, sl0, sl1, sl2]
   refine tk_ 10 ?_; try simp only [Act.put, sl3, sl4, sl5, sl0, sl1, sl2]
   refine tu_ 11 ?_; try simp only [Act.put, sl3, sl4, sl5, sl0, sl1, sl2]
   refine tu_ 12 ?_; try simp only [Act.put, sl3, sl4, sl5, sl0, sl1, sl2]
   refine tu_ 13 ?_; try simp only [Act.put, sl3, sl4, sl5, sl0, sl1, sl2]
   refine tu_ 14 ?_; try simp only [Act.put, sl3, sl4, sl5, sl0, sl1, sl2]
   refine tu_ 15 ?_; try simp only [Act.put, sl3, sl4, sl5, sl0, sl1, sl2]
   refine tu_ 16 ?_; try simp only [Act.put, sl3, sl4, sl5, sl0, sl1, sl2]
   refine tu_ 17 ?_; try simp only [Act.put, sl3, sl4, sl5, sl0, sl1, sl2]
   refine tk_ 18 ?_; try simp only [Act.put, sl3, sl4, sl5, sl0, sl1, sl2]
   refine tk_ 19 ?_; try simp only [Act.put, sl3, sl4, sl5, sl0, sl1, sl2]
   refine tk_ 20 ?_; try simp only [Act.put, sl3, sl4, sl5, sl0, sl1, sl2]
   refine tk_ 21 ?_; try simp only [Act.put, sl3, sl4, sl5, sl0, sl1, sl2]
   refine tk_ 22 ?_; try simp only [Act.put, sl3, sl4, sl5, sl0, sl1, sl2]
   refine tk_ 23 ?_; try simp only [Act.put, sl3, sl4, sl5, sl0, sl1, sl2]
   refine tk_ 24 ?_; try simp only [Act.put, sl3, sl4, sl5, sl0, sl1, sl2]
   refine tk_ 25 ?_; try simp only [Act.put, sl3, sl4, sl5, sl0, sl1, sl2]
   refine tk_ 26 ?_; try simp only [Act.put, sl3, sl4, sl5, sl0, sl1, sl2]
   refine tk_ 28 ?_; try simp only [Act.put, sl3, sl4, sl5, sl0, sl1, sl2]
   refine tk_ 29 ?_; try simp only [Act.put, sl3, sl4, sl5, sl0, sl1, sl2]
   refine wpAnyH_ready (rs := [27]) (by kernel_rfl) (by simp) ?_
   refine AllReadyH.cons rfl (fun K hK => ?_) AllReadyH.nil
   go_simp
   (with_reducible refine (HPC.out _).mono ?_)
   rintro e wA ⟨A7, c7, rfl, hn', hb'⟩
   have hb2' : Below W2.heap.size W2 wA := ((Below.refl _ W2).drew).trans hb'
   have z0 := PrintWords.pw_cell_below hb2' x0
   have z1 := PrintWords.pw_cell_below hb2' x1
   have z2 := PrintWords.pw_cell_below hb2' x2
   have z3 := PrintWords.pw_cell_below hb2' cS'
   have HNa := Apart0.mk hn'
   have HBa := Apart0.mk hb2'
   clear hn' hb' hb2'
   go_wp2_with fail
   refine hK.out _ _ ?_ (fun hHeld => ?_)
   ·exact ⟨z0, z1, z2, z3⟩
   clear hK K
   try simp only [Act.put, sl3, sl4, sl5, sl0, sl1, sl2]
   refine wpAnyH_ready (rs := [30]) (by kernel_rfl) (by simp) ?_
   refine AllReadyH.cons rfl (fun K hK => ?_) AllReadyH.nil
   go_simp
   (with_reducible refine (HCON.out _ _ _ HNa.out).mono ?_)
   rintro e wB ⟨rfl, rfl⟩
   go_wp2_with fail
   refine hK.out _ _ ?_ (fun hHeld => ?_)
   ·exact ⟨z0, z1, z2, z3⟩
   clear hK K
   try simp only [Act.put, sl3, sl4, sl5, sl0, sl1, sl2]
   refine tk_ 31 ?_; try simp only [Act.put, sl3, sl4, sl5, sl0, sl1, sl2]
   refine tk_ 32 ?_; try simp only [Act.put, sl3, sl4, sl5, sl0, sl1, sl2]
   refine tk_ 33 ?_; try simp only [Act.put, sl3, sl4, sl5, sl0, sl1, sl2]
   refine tk_ 34 ?_; try simp only [Act.put, sl3, sl4, sl5, sl0, sl1, sl2]
   refine tu_ 35 ?_; try simp only [Act.put, sl3, sl4, sl5, sl0, sl1, sl2]
   refine tu_ 36 ?_; try simp only [Act.put, sl3, sl4, sl5, sl0, sl1, sl2]
   refine tu_ 37 ?_; try simp only [Act.put, sl3, sl4, sl5, sl0, sl1, sl2]
   refine tu_ 38 ?_; try simp only [Act.put, sl3, sl4, sl5, sl0, sl1, sl2]
   refine tu_ 39 ?_; try simp only [Act.put, sl3, sl4, sl5, sl0, sl1, sl2]
   refine tu_ 40 ?_; try simp only [Act.put, sl3, sl4, sl5, sl0, sl1, sl2]
   refine tu_ 41 ?_; try simp only [Act.put, sl3, sl4, sl5, sl0, sl1, sl2]
   refine tu_ 42 ?_; try simp only [Act.put, sl3, sl4, sl5, sl0, sl1, sl2]
   refine tk_ 43 ?_; try simp only [Act.put, sl3, sl4, sl5, sl0, sl1, sl2]
   refine wpAnyH_done (by kernel_rfl) ?_ _
   go_wp2_with fail
   go_ret
   exact ⟨by rw [HF.out]; rfl, HBF2.out.trans (HBa.out.mono HBF2.out.size)⟩
  | true =>
   cases sc with
   | false =>
    have HF := Apart0.mk (show R = rightGo d (i + 1) seen (es.drop (i + 1)) by rw [HGO2.out]; simp)
    clear HGO2
    have mixed : Try.prog.follows .mixedOrders = true := by kernel_rfl
    refine wp_region_held_drew (S := fun w' => w'.cell? ⟨wr.heap.size, 0, none⟩ = some (.int .i64 (t : Int)) ∧ w'.cell? ⟨wr.heap.size, 1, none⟩ = some (.int .i64 p) ∧ w'.cell? ⟨wr.heap.size, 2, none⟩ = some (.bool false) ∧ w'.cell? (adS.add i) = some (.int .i64 (t : Int))) mixed ?_ (fun hHeld2 => ?_)
    ·exact ⟨x0, x1, x2, cS'⟩
    refine tk_ 0 ?_; try simp only [Act.put, sl3, sl4, sl5, sl0, sl1, sl2]
    refine tk_ 1 ?_; try simp only [Act.put, sl3, sl4, sl5, sl0, sl1, sl2]
    refine tk_ 2 ?_; try simp only [Act.put, sl3, sl4, sl5, sl0, sl1, sl2]
    refine tk_ 3 ?_; try simp only [Act.put, sl3, sl4, sl5, sl0, sl1, sl2]
    refine tk_ 4 ?_; try simp only [Act.put, sl3, sl4, sl5, sl0, sl1, sl2]
    refine tk_ 5 ?_; try simp only [Act.put, sl3, sl4, sl5, sl0, sl1, sl2]
    refine tk_ 6 ?_; try simp only [Act.put, sl3, sl4, sl5, sl0, sl1, sl2]
    refine tk_ 7 ?_; try simp only [Act.put, sl3, sl4, sl5, sl0, sl1, sl2]
    refine tk_ 8 ?_; try simp only [Act.put, sl3, sl4, sl5, sl0, sl1, sl2]
    refine tk_ 9 ?_; try simp only [Act.put, sl3, sl4, sl5, sl0, sl1, sl2]
    refine tk_ 10 ?_; try simp only [Act.put, sl3, sl4, sl5, sl0, sl1, sl2]
    refine tu_ 11 ?_; try simp only [Act.put, sl3, sl4, sl5, sl0, sl1, sl2]
    refine tu_ 12 ?_; try simp only [Act.put, sl3, sl4, sl5, sl0, sl1, sl2]
    refine tu_ 13 ?_; try simp only [Act.put, sl3, sl4, sl5, sl0, sl1, sl2]
    refine tu_ 14 ?_; try simp only [Act.put, sl3, sl4, sl5, sl0, sl1, sl2]
    refine tu_ 15 ?_; try simp only [Act.put, sl3, sl4, sl5, sl0, sl1, sl2]
    refine tu_ 16 ?_; try simp only [Act.put, sl3, sl4, sl5, sl0, sl1, sl2]
    refine tu_ 17 ?_; try simp only [Act.put, sl3, sl4, sl5, sl0, sl1, sl2]
    refine tk_ 18 ?_; try simp only [Act.put, sl3, sl4, sl5, sl0, sl1, sl2]
    refine tk_ 19 ?_; try simp only [Act.put, sl3, sl4, sl5, sl0, sl1, sl2]
    refine tk_ 20 ?_; try simp only [Act.put, sl3, sl4, sl5, sl0, sl1, sl2]
    refine tk_ 21 ?_; try simp only [Act.put, sl3, sl4, sl5, sl0, sl1, sl2]
    refine tk_ 22 ?_; try simp only [Act.put, sl3, sl4, sl5, sl0, sl1, sl2]
    refine tk_ 23 ?_; try simp only [Act.put, sl3, sl4, sl5, sl0, sl1, sl2]
    refine tk_ 24 ?_; try simp only [Act.put, sl3, sl4, sl5, sl0, sl1, sl2]
    refine tk_ 25 ?_; try simp only [Act.put, sl3, sl4, sl5, sl0, sl1, sl2]
    refine tk_ 26 ?_; try simp only [Act.put, sl3, sl4, sl5, sl0, sl1, sl2]
    refine tk_ 28 ?_; try simp only [Act.put, sl3, sl4, sl5, sl0, sl1, sl2]
    refine tk_ 29 ?_; try simp only [Act.put, sl3, sl4, sl5, sl0, sl1, sl2]
    refine wpAnyH_ready (rs := [27]) (by kernel_rfl) (by simp) ?_
    refine AllReadyH.cons rfl (fun K hK => ?_) AllReadyH.nil
    go_simp
    (with_reducible refine (HPC.out _).mono ?_)
    rintro e wA ⟨A7, c7, rfl, hn', hb'⟩
    have hb2' : Below W2.heap.size W2 wA := ((Below.refl _ W2).drew).trans hb'
    have z0 := PrintWords.pw_cell_below hb2' x0
    have z1 := PrintWords.pw_cell_below hb2' x1
    have z2 := PrintWords.pw_cell_below hb2' x2
    have z3 := PrintWords.pw_cell_below hb2' cS'
    have HNa := Apart0.mk hn'
    have HBa := Apart0.mk hb2'
    clear hn' hb' hb2'
    go_wp2_with fail
    refine hK.out _ _ ?_ (fun hHeld => ?_)
    ·exact ⟨z0, z1, z2, z3⟩
    clear hK K
    try simp only [Act.put, sl3, sl4, sl5, sl0, sl1, sl2]
    refine wpAnyH_ready (rs := [30]) (by kernel_rfl) (by simp) ?_
    refine AllReadyH.cons rfl (fun K hK => ?_) AllReadyH.nil
    go_simp
    (with_reducible refine (HCON.out _ _ _ HNa.out).mono ?_)
    rintro e wB ⟨rfl, rfl⟩
    go_wp2_with fail
    refine hK.out _ _ ?_ (fun hHeld => ?_)
    ·exact ⟨z0, z1, z2, z3⟩
    clear hK K
    try simp only [Act.put, sl3, sl4, sl5, sl0, sl1, sl2]
    refine tk_ 31 ?_; try simp only [Act.put, sl3, sl4, sl5, sl0, sl1, sl2]
    refine tk_ 32 ?_; try simp only [Act.put, sl3, sl4, sl5, sl0, sl1, sl2]
    refine tk_ 33 ?_; try simp only [Act.put, sl3, sl4, sl5, sl0, sl1, sl2]
    refine tk_ 34 ?_; try simp only [Act.put, sl3, sl4, sl5, sl0, sl1, sl2]
    refine tk_ 35 ?_; try simp only [Act.put, sl3, sl4, sl5, sl0, sl1, sl2]
    refine tk_ 36 ?_; try simp only [Act.put, sl3, sl4, sl5, sl0, sl1, sl2]
    refine tk_ 37 ?_; try simp only [Act.put, sl3, sl4, sl5, sl0, sl1, sl2]
    refine tu_ 38 ?_; try simp only [Act.put, sl3, sl4, sl5, sl0, sl1, sl2]
    refine tu_ 39 ?_; try simp only [Act.put, sl3, sl4, sl5, sl0, sl1, sl2]
    refine tu_ 40 ?_; try simp only [Act.put, sl3, sl4, sl5, sl0, sl1, sl2]
    refine tu_ 41 ?_; try simp only [Act.put, sl3, sl4, sl5, sl0, sl1, sl2]
    refine tk_ 42 ?_; try simp only [Act.put, sl3, sl4, sl5, sl0, sl1, sl2]
    refine tk_ 43 ?_; try simp only [Act.put, sl3, sl4, sl5, sl0, sl1, sl2]
    refine wpAnyH_done (by kernel_rfl) ?_ _
    have HN := Apart0.mk (And.intro (HI2.out.1.below HBa.out) (And.intro (HI2.out.2.1.trans (HBa.out.mono HI2.out.2.1.size)) HI2.out.2.2))
    go_wp2_with fail
    go_roundw
    case rel => exact ⟨i + 1, seen, congrArg _ (Int.natCast_succ i).symm, by omega, ⟨HF.out.symm, HN.out.1, HN.out.2.1, by have := HN.out.2.2; omega⟩⟩
    case measure => simp only [intOf]; omega
   | true =>
    cases hm : seen.contains p with
    | true =>
     have HF := Apart0.mk (show R = false by rw [HGO2.out, hm]; simp)
     have xm := (HI2.out.1.below ((Below.refl _ W2).drew)).look HPW.out
     rw [hm] at xm
     clear HGO2
     have mixed : Try.prog.follows .mixedOrders = true := by kernel_rfl
     refine wp_region_held_drew (S := fun w' => w'.cell? ⟨wr.heap.size, 0, none⟩ = some (.int .i64 (t : Int)) ∧ w'.cell? ⟨wr.heap.size, 1, none⟩ = some (.int .i64 p) ∧ w'.cell? ⟨wr.heap.size, 2, none⟩ = some (.bool true) ∧ w'.cell? (adS.add i) = some (.int .i64 (t : Int)) ∧ (Instr.lookup 74 (.map (some W0.heap.size)) (.int .i64 p) false).run Try.prog w' = .ok (.bool true) w') mixed ?_ (fun hHeld2 => ?_)
     ·exact ⟨x0, x1, x2, cS', xm⟩
     refine tk_ 0 ?_; try simp only [Act.put, sl3, sl4, sl5, sl0, sl1, sl2]
     refine tk_ 1 ?_; try simp only [Act.put, sl3, sl4, sl5, sl0, sl1, sl2]
     refine tk_ 2 ?_; try simp only [Act.put, sl3, sl4, sl5, sl0, sl1, sl2]
     refine tk_ 3 ?_; try simp only [Act.put, sl3, sl4, sl5, sl0, sl1, sl2]
     refine tk_ 4 ?_; try simp only [Act.put, sl3, sl4, sl5, sl0, sl1, sl2]
     refine tk_ 5 ?_; try simp only [Act.put, sl3, sl4, sl5, sl0, sl1, sl2]
     refine tk_ 6 ?_; try simp only [Act.put, sl3, sl4, sl5, sl0, sl1, sl2]
     refine tk_ 7 ?_; try simp only [Act.put, sl3, sl4, sl5, sl0, sl1, sl2]
     refine tk_ 8 ?_; try simp only [Act.put, sl3, sl4, sl5, sl0, sl1, sl2]
     refine tk_ 9 ?_; try simp only [Act.put, sl3, sl4, sl5, sl0, sl1, sl2]
     refine tk_ 10 ?_; try simp only [Act.put, sl3, sl4, sl5, sl0, sl1, sl2]
     refine tu_ 11 ?_; try simp only [Act.put, sl3, sl4, sl5, sl0, sl1, sl2]
     refine tu_ 12 ?_; try simp only [Act.put, sl3, sl4, sl5, sl0, sl1, sl2]
     refine tu_ 13 ?_; try simp only [Act.put, sl3, sl4, sl5, sl0, sl1, sl2]
     refine tu_ 14 ?_; try simp only [Act.put, sl3, sl4, sl5, sl0, sl1, sl2]
     refine tu_ 15 ?_; try simp only [Act.put, sl3, sl4, sl5, sl0, sl1, sl2]
     refine tu_ 16 ?_; try simp only [Act.put, sl3, sl4, sl5, sl0, sl1, sl2]
     refine tu_ 17 ?_; try simp only [Act.put, sl3, sl4, sl5, sl0, sl1, sl2]
     refine tk_ 18 ?_; try simp only [Act.put, sl3, sl4, sl5, sl0, sl1, sl2]
     refine tk_ 19 ?_; try simp only [Act.put, sl3, sl4, sl5, sl0, sl1, sl2]
     refine tk_ 20 ?_; try simp only [Act.put, sl3, sl4, sl5, sl0, sl1, sl2]
     refine tk_ 21 ?_; try simp only [Act.put, sl3, sl4, sl5, sl0, sl1, sl2]
     refine tk_ 22 ?_; try simp only [Act.put, sl3, sl4, sl5, sl0, sl1, sl2]
     refine tk_ 23 ?_; try simp only [Act.put, sl3, sl4, sl5, sl0, sl1, sl2]
     refine tk_ 24 ?_; try simp only [Act.put, sl3, sl4, sl5, sl0, sl1, sl2]
     refine tk_ 25 ?_; try simp only [Act.put, sl3, sl4, sl5, sl0, sl1, sl2]
     refine tk_ 26 ?_; try simp only [Act.put, sl3, sl4, sl5, sl0, sl1, sl2]
     refine tk_ 28 ?_; try simp only [Act.put, sl3, sl4, sl5, sl0, sl1, sl2]
     refine tk_ 29 ?_; try simp only [Act.put, sl3, sl4, sl5, sl0, sl1, sl2]
     refine wpAnyH_ready (rs := [27]) (by kernel_rfl) (by simp) ?_
     refine AllReadyH.cons rfl (fun K hK => ?_) AllReadyH.nil
     go_simp
     (with_reducible refine (HPC.out _).mono ?_)
     rintro e wA ⟨A7, c7, rfl, hn', hb'⟩
     have hb2' : Below W2.heap.size W2 wA := ((Below.refl _ W2).drew).trans hb'
     have z0 := PrintWords.pw_cell_below hb2' x0
     have z1 := PrintWords.pw_cell_below hb2' x1
     have z2 := PrintWords.pw_cell_below hb2' x2
     have z3 := PrintWords.pw_cell_below hb2' cS'
     have z4 := (HI2.out.1.below hb2').look HPW.out
     rw [hm] at z4
     have HNa := Apart0.mk hn'
     have HBa := Apart0.mk hb2'
     clear hn' hb' hb2'
     go_wp2_with fail
     refine hK.out _ _ ?_ (fun hHeld => ?_)
     ·exact ⟨z0, z1, z2, z3, z4⟩
     clear hK K
     try simp only [Act.put, sl3, sl4, sl5, sl0, sl1, sl2]
     refine wpAnyH_ready (rs := [30]) (by kernel_rfl) (by simp) ?_
     refine AllReadyH.cons rfl (fun K hK => ?_) AllReadyH.nil
     go_simp
     (with_reducible refine (HCON.out _ _ _ HNa.out).mono ?_)
     rintro e wB ⟨rfl, rfl⟩
     go_wp2_with fail
     refine hK.out _ _ ?_ (fun hHeld => ?_)
     ·exact ⟨z0, z1, z2, z3, z4⟩
     clear hK K
     try simp only [Act.put, sl3, sl4, sl5, sl0, sl1, sl2]
     refine tk_ 31 ?_; try simp only [Act.put, sl3, sl4, sl5, sl0, sl1, sl2]
     refine tk_ 32 ?_; try simp only [Act.put, sl3, sl4, sl5, sl0, sl1, sl2]
     refine tk_ 33 ?_; try simp only [Act.put, sl3, sl4, sl5, sl0, sl1, sl2]
     refine tk_ 34 ?_; try simp only [Act.put, sl3, sl4, sl5, sl0, sl1, sl2]
     refine tk_ 35 ?_; try simp only [Act.put, sl3, sl4, sl5, sl0, sl1, sl2]
     refine tk_ 36 ?_; try simp only [Act.put, sl3, sl4, sl5, sl0, sl1, sl2]
     refine tk_ 37 ?_; try simp only [Act.put, sl3, sl4, sl5, sl0, sl1, sl2]
     refine tk_ 38 ?_; try simp only [Act.put, sl3, sl4, sl5, sl0, sl1, sl2]
     refine tk_ 39 ?_; try simp only [Act.put, sl3, sl4, sl5, sl0, sl1, sl2]
     refine tk_ 40 ?_; try simp only [Act.put, sl3, sl4, sl5, sl0, sl1, sl2]
     refine tk_ 41 ?_; try simp only [Act.put, sl3, sl4, sl5, sl0, sl1, sl2]
     refine tk_ 42 ?_; try simp only [Act.put, sl3, sl4, sl5, sl0, sl1, sl2]
     refine tk_ 43 ?_; try simp only [Act.put, sl3, sl4, sl5, sl0, sl1, sl2]
     refine wpAnyH_done (by kernel_rfl) ?_ _
     go_wp2_with fail
     go_ret
     exact ⟨by rw [HF.out]; rfl, HBF2.out.trans (HBa.out.mono HBF2.out.size)⟩
    | false =>
     have HF := Apart0.mk (show R = rightGo d (i + 1) (seen ++ [p]) (es.drop (i + 1)) by rw [HGO2.out, hm]; simp)
     have xm := (HI2.out.1.below ((Below.refl _ W2).drew)).look HPW.out
     rw [hm] at xm
     clear HGO2
     have mixed : Try.prog.follows .mixedOrders = true := by kernel_rfl
     refine wp_region_held_drew (S := fun w' => w'.cell? ⟨wr.heap.size, 0, none⟩ = some (.int .i64 (t : Int)) ∧ w'.cell? ⟨wr.heap.size, 1, none⟩ = some (.int .i64 p) ∧ w'.cell? ⟨wr.heap.size, 2, none⟩ = some (.bool true) ∧ w'.cell? (adS.add i) = some (.int .i64 (t : Int)) ∧ (Instr.lookup 74 (.map (some W0.heap.size)) (.int .i64 p) false).run Try.prog w' = .ok (.bool false) w') mixed ?_ (fun hHeld2 => ?_)
     ·exact ⟨x0, x1, x2, cS', xm⟩
     refine tk_ 0 ?_; try simp only [Act.put, sl3, sl4, sl5, sl0, sl1, sl2]
     refine tk_ 1 ?_; try simp only [Act.put, sl3, sl4, sl5, sl0, sl1, sl2]
     refine tk_ 2 ?_; try simp only [Act.put, sl3, sl4, sl5, sl0, sl1, sl2]
     refine tk_ 3 ?_; try simp only [Act.put, sl3, sl4, sl5, sl0, sl1, sl2]
     refine tk_ 4 ?_; try simp only [Act.put, sl3, sl4, sl5, sl0, sl1, sl2]
     refine tk_ 5 ?_; try simp only [Act.put, sl3, sl4, sl5, sl0, sl1, sl2]
     refine tk_ 6 ?_; try simp only [Act.put, sl3, sl4, sl5, sl0, sl1, sl2]
     refine tk_ 7 ?_; try simp only [Act.put, sl3, sl4, sl5, sl0, sl1, sl2]
     refine tk_ 8 ?_; try simp only [Act.put, sl3, sl4, sl5, sl0, sl1, sl2]
     refine tk_ 9 ?_; try simp only [Act.put, sl3, sl4, sl5, sl0, sl1, sl2]
     refine tk_ 10 ?_; try simp only [Act.put, sl3, sl4, sl5, sl0, sl1, sl2]
     refine tu_ 11 ?_; try simp only [Act.put, sl3, sl4, sl5, sl0, sl1, sl2]
     refine tu_ 12 ?_; try simp only [Act.put, sl3, sl4, sl5, sl0, sl1, sl2]
     refine tu_ 13 ?_; try simp only [Act.put, sl3, sl4, sl5, sl0, sl1, sl2]
     refine tu_ 14 ?_; try simp only [Act.put, sl3, sl4, sl5, sl0, sl1, sl2]
     refine tu_ 15 ?_; try simp only [Act.put, sl3, sl4, sl5, sl0, sl1, sl2]
     refine tu_ 16 ?_; try simp only [Act.put, sl3, sl4, sl5, sl0, sl1, sl2]
     refine tu_ 17 ?_; try simp only [Act.put, sl3, sl4, sl5, sl0, sl1, sl2]
     refine tk_ 18 ?_; try simp only [Act.put, sl3, sl4, sl5, sl0, sl1, sl2]
     refine tk_ 19 ?_; try simp only [Act.put, sl3, sl4, sl5, sl0, sl1, sl2]
     refine tk_ 20 ?_; try simp only [Act.put, sl3, sl4, sl5, sl0, sl1, sl2]
     refine tk_ 21 ?_; try simp only [Act.put, sl3, sl4, sl5, sl0, sl1, sl2]
     refine tk_ 22 ?_; try simp only [Act.put, sl3, sl4, sl5, sl0, sl1, sl2]
     refine tk_ 23 ?_; try simp only [Act.put, sl3, sl4, sl5, sl0, sl1, sl2]
     refine tk_ 24 ?_; try simp only [Act.put, sl3, sl4, sl5, sl0, sl1, sl2]
     refine tk_ 25 ?_; try simp only [Act.put, sl3, sl4, sl5, sl0, sl1, sl2]
     refine tk_ 26 ?_; try simp only [Act.put, sl3, sl4, sl5, sl0, sl1, sl2]
     refine tk_ 28 ?_; try simp only [Act.put, sl3, sl4, sl5, sl0, sl1, sl2]
     refine tk_ 29 ?_; try simp only [Act.put, sl3, sl4, sl5, sl0, sl1, sl2]
     refine wpAnyH_ready (rs := [27]) (by kernel_rfl) (by simp) ?_
     refine AllReadyH.cons rfl (fun K hK => ?_) AllReadyH.nil
     go_simp
     (with_reducible refine (HPC.out _).mono ?_)
     rintro e wA ⟨A7, c7, rfl, hn', hb'⟩
     have hb2' : Below W2.heap.size W2 wA := ((Below.refl _ W2).drew).trans hb'
     have z0 := PrintWords.pw_cell_below hb2' x0
     have z1 := PrintWords.pw_cell_below hb2' x1
     have z2 := PrintWords.pw_cell_below hb2' x2
     have z3 := PrintWords.pw_cell_below hb2' cS'
     have z4 := (HI2.out.1.below hb2').look HPW.out
     rw [hm] at z4
     have HNa := Apart0.mk hn'
     have HBa := Apart0.mk hb2'
     clear hn' hb' hb2'
     go_wp2_with fail
     refine hK.out _ _ ?_ (fun hHeld => ?_)
     ·exact ⟨z0, z1, z2, z3, z4⟩
     clear hK K
     try simp only [Act.put, sl3, sl4, sl5, sl0, sl1, sl2]
     refine wpAnyH_ready (rs := [30]) (by kernel_rfl) (by simp) ?_
     refine AllReadyH.cons rfl (fun K hK => ?_) AllReadyH.nil
     go_simp
     (with_reducible refine (HCON.out _ _ _ HNa.out).mono ?_)
     rintro e wB ⟨rfl, rfl⟩
     go_wp2_with fail
     refine hK.out _ _ ?_ (fun hHeld => ?_)
     ·exact ⟨z0, z1, z2, z3, z4⟩
     clear hK K
     try simp only [Act.put, sl3, sl4, sl5, sl0, sl1, sl2]
     refine tk_ 31 ?_; try simp only [Act.put, sl3, sl4, sl5, sl0, sl1, sl2]
     refine tk_ 32 ?_; try simp only [Act.put, sl3, sl4, sl5, sl0, sl1, sl2]
     refine tk_ 33 ?_; try simp only [Act.put, sl3, sl4, sl5, sl0, sl1, sl2]
     refine tk_ 34 ?_; try simp only [Act.put, sl3, sl4, sl5, sl0, sl1, sl2]
     refine tk_ 35 ?_; try simp only [Act.put, sl3, sl4, sl5, sl0, sl1, sl2]
     refine tk_ 36 ?_; try simp only [Act.put, sl3, sl4, sl5, sl0, sl1, sl2]
     refine tk_ 37 ?_; try simp only [Act.put, sl3, sl4, sl5, sl0, sl1, sl2]
     refine tk_ 38 ?_; try simp only [Act.put, sl3, sl4, sl5, sl0, sl1, sl2]
     refine tk_ 39 ?_; try simp only [Act.put, sl3, sl4, sl5, sl0, sl1, sl2]
     refine tk_ 40 ?_; try simp only [Act.put, sl3, sl4, sl5, sl0, sl1, sl2]
     refine tk_ 41 ?_; try simp only [Act.put, sl3, sl4, sl5, sl0, sl1, sl2]
     refine tk_ 42 ?_; try simp only [Act.put, sl3, sl4, sl5, sl0, sl1, sl2]
     refine tk_ 43 ?_; try simp only [Act.put, sl3, sl4, sl5, sl0, sl1, sl2]
     refine wpAnyH_done (by kernel_rfl) ?_ _
     obtain ⟨wq, hrun, hseen, hg⟩ := (HI2.out.1.below HBa.out).put (by have := HI2.out.2.2; omega) HPW.out
     have hbq : Below W0.heap.size W0 wq := (HI2.out.2.1.trans (HBa.out.mono HI2.out.2.1.size)).trans ((Below.refl _ wA).grown hg (Nat.le_trans HI2.out.2.1.size HBa.out.size) (fun k hk => by cases hk; exact Nat.le_refl _))
     have HN := Apart0.mk (And.intro hseen (And.intro hbq HI2.out.2.2))
     clear hseen hg hbq
     go_wp2_with fail
     go_roundw
     case rel => exact ⟨i + 1, seen ++ [p], congrArg _ (Int.natCast_succ i).symm, by omega, ⟨HF.out.symm, HN.out.1, HN.out.2.1, by have := HN.out.2.2; simp; omega⟩⟩
     case measure => simp only [intOf]; omega
end Go.Proofs.Ytlplaidcdocbmaa.Srt
