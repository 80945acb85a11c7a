-- Cut by pack.py, a program of this session; not trusted: Lean checks it.
import Derived.Deep.Draws
import Derived.Tactics
import Derived.OwnWalk
import Derived.Outline
import Derived.Lib.Walk
import Derived.Lib.SliceRun
import Derived.Test.YtlplaidcdocbmaaZCore18
import Derived.Test.YtlplaidcdocbmaaZS1
import Derived.Test.YtlplaidcdocbmaaZPlainS
/- sorts: the sets of one level. -/
namespace Go.Proofs.Ytlplaidcdocbmaa.Srt
open Go.RowKit Go.Shelf Go.Proofs.Ytlplaidcdocbmaa.Core
set_option linter.unusedVariables false
set_option linter.unusedSimpArgs false

theorem filter_take_succ (p : Nat → Bool) (xs : List Nat) (k : Nat) (h : k < xs.length) : (xs.take (k + 1)).filter p = (xs.take k).filter p ++ if p (xs.getD k 0) then [xs.getD k 0] else [] := by
  have hg : xs.getD k 0 = xs[k] := by simp [h]
  rw [hg, List.take_succ_eq_append_getElem h, List.filter_append]
  congr 1
  simp only [List.filter_cons, List.filter_nil]
theorem cell_new1 (W : World) (B : Nat) (hB : W.heap.size = B) (x : Value) (t : TypeId) (j : Nat) (u : Value) (h : [x][j]? = some u) : (W.alloc (.cells #[x] t)).cell? ((⟨B, 0, none⟩ : Addr).add j) = some u := by
  subst hB
  have hb : (W.alloc (.cells #[x] t)).heap[W.heap.size]? = some (.cells #[x] t (0, 0)) := World.alloc_heap_new W _
  rw [Addr.add_lit, Nat.zero_add]
  simp only [World.cell?, hb]
  simpa using h

/-- A row that a loop lays behind W0: what lay in W0 stays. -/
def Acc (W0 : World) (e : TypeId) (sz : Nat) (vo : Value) (n : Nat) (xs : List Value) (wr : World) : Prop := wr.ownsRow W0.heap.size e sz vo n xs ∧ Below W0.heap.size W0 wr
section
variable {W0 wr w' : World} {e : TypeId} {sz n m : Nat} {vo v' : Value} {xs ys : List Value}
theorem Acc.nil (W0 : World) (e : TypeId) (sz : Nat) : Acc W0 e sz (.slice none 0 0) 0 [] W0 := ⟨World.ownsRow_nil _ _ _ _, Below.refl _ _⟩
theorem Acc.below (h : Acc W0 e sz vo n xs wr) (hb : Below wr.heap.size wr w') : Acc W0 e sz vo n xs w' := ⟨ownsRow_below' h.1 hb, h.2.trans (hb.mono h.2.size)⟩
theorem Acc.append (h : Acc W0 e sz vo n xs wr) (hown : w'.ownsRow W0.heap.size e sz v' m ys) (hg : wr.grownBy w' vo.ownBlock) : Acc W0 e sz v' m ys w' :=
  ⟨hown, h.2.trans ((Below.refl _ wr).grown hg h.2.size (own_base_le h.1))⟩
end

set_option maxRecDepth 100000 in
set_option maxHeartbeats 2000000 in
theorem level_at {w : World} {A : Option Addr} {c : Nat} {cs : List Int} {ms n : Int} {l : Nat} (hd : cs.length ≤ 4) (hl : l ≤ 10) :
    Calls Try.prog 101 #[.agg #[.slice A cs.length c, .int .i64 ms, .int .i64 n], .int .i64 (l : Int)] w fun e w' =>
      ∃ v : Value, e = .returned v ∧ w'.ownsRow w.heap.size 3 1 v (lvl cs.length l).length ((lvl cs.length l).map Core.encI) ∧ Below w.heap.size w w' := by
  obtain ⟨i0, hi, hz0, hz1, hz2⟩ := info_parts info3
  have hsc := fun W => sets_calls cs.length hd W
  obtain ⟨sl, sg⟩ := sets_fin cs.length (by omega)
  have hp16 := pow16 cs.length hd
  have HSC := Apart0.mk hsc
  obtain ⟨S, hS⟩ : ∃ S, S = sets cs.length := ⟨_, rfl⟩
  have HLV := Apart0.mk (show lvl cs.length l = S.filter fun s => lev s == l by rw [hS]; rfl)
  have hSl : S.length ≤ 16 := by rw [hS, sl]; exact hp16
  have hSm : ∀ k, k < S.length → S.getD k 0 < 16 := fun k hk => by rw [hS] at hk ⊢; have := (sg k (by omega)).1; omega
  rw [← hS] at hsc
  have HSC := Apart0.mk hsc
  have HSM := Apart0.mk hSm
  clear hsc sg sl hSm hp16 hS
  go_enter Try.func101, Try.ntmps101
  go_wp2_with fail
  refine (HSC.out _).mono ?_
  rintro e w1 ⟨v, rfl, hrow, hb⟩
  have HB1 := Apart0.mk (below_one hb)
  have hsz1 := hb.size
  simp only [World.size_alloc] at hsz1
  obtain ⟨g, cap, rfl⟩ : ∃ A c, v = .slice A S.length c := by
    rcases hrow.2 with ⟨rfl, h0⟩ | ⟨g, cap, cur, rfl, _⟩
    · exact ⟨none, 0, by rw [h0]⟩
    · exact ⟨_, _, rfl⟩
  have hnat : NatsAt w1 g S := by
    intro i hi
    rcases hrow.2 with ⟨_, h0⟩ | ⟨g', cap', cur, q, _⟩
    · omega
    · simp only [Value.slice.injEq] at q
      obtain ⟨rfl, _, rfl⟩ := q
      exact nats_own hrow i hi
  have HN := Apart0.mk hnat
  clear hrow hb hnat
  go_wp2_with fail
  go_loopw [5, 14] (fun vo vi wr => ∃ k : Nat, vi = .int .i64 (k : Int) ∧ k ≤ S.length ∧ Apart0 (Acc w1 3 1 vo ((S.take k).filter fun s => lev s == l).length (((S.take k).filter fun s => lev s == l).map Core.encI) wr))
    (fun _ p _ => S.length - (intOf p).toNat)
  case atStart => exact ⟨0, rfl, by omega, ⟨Acc.nil _ _ _⟩⟩
  case round =>
    obtain ⟨k, rfl, hk, HA⟩ := hrel
    by_cases hlt : k < S.length
    · have hd : decide ((k : Int) < (S.length : Int)) = true := dec_lt k S.length hlt
      obtain ⟨ad, rfl, hc⟩ := (HN.out.below (HA.out.2.mono (Nat.le_refl _))) k hlt
      have hs16 := HSM.out k hlt
      have hft := filter_take_succ (fun s => lev s == l) S k hlt
      have hlen : ((S.take k).filter fun s => lev s == l).length ≤ 16 := Nat.le_trans (List.length_filter_le _ _) (by rw [List.length_take]; omega)
      obtain ⟨acc, hacc⟩ : ∃ acc, acc = (S.take k).filter fun s => lev s == l := ⟨_, rfl⟩
      obtain ⟨s, hs⟩ : ∃ s, s = S.getD k 0 := ⟨_, rfl⟩
      rw [← hs] at hc hs16 hft
      rw [← hacc] at hlen hft
      have HA2 := Apart0.mk (show Acc w1 3 1 u5 acc.length (acc.map Core.encI) wr by rw [hacc]; exact HA.out)
      have HFT := Apart0.mk hft
      clear hs hacc hft HA
      by_cases hp : lev s = l
      · have hb0 : (((lev s : Nat) : Int) == (l : Int)) = true := beq_iff_eq.2 (by omega)
        have HF := Apart0.mk (show (S.take (k + 1)).filter (fun s => lev s == l) = acc ++ [s] by rw [HFT.out, if_pos (beq_iff_eq.2 hp)])
        clear hp
        go_wp2_with fail
        refine (level_calls s hs16 _).mono ?_
        rintro e w' ⟨rfl, rfl⟩
        have HA3 := Apart0.mk (HA2.out.below (((Below.refl _ w').alloc (Nat.le_refl _) (.cells #[.int .i64 (s : Int)] 3))))
        go_wp2_with (at_builtin; refine wpList_append_own _ rfl _ _ 24 rfl w1.heap.size 3 i0 (.int .i64 0) 1 8 Try.underlying24 hi hz0 hz1 hz2 rfl (by decide) _ _ _ rfl HA3.out.1 ⟨w'.heap.size, 0, none⟩ 1 1 [.int .i64 (s : Int)] rfl ?qc1 ?qc2 ?qc3 ?qc4 ?qc5 ?qc6 ?_)
        case qc1 => rfl
        case qc2 => intro j u hj; exact cell_new1 _ _ rfl _ _ j u hj
        case qc3 => intro u hu; simp at hu; rw [hu]; rfl
        case qc4 => unfold maxLen; omega
        case qc5 => omega
        case qc6 => exact HA3.out.2.size
        intro v' wq hown hgrow hnil
        have HN2 := Apart0.mk (HA3.out.append hown hgrow)
        clear hown hgrow hnil
        go_wp2_with fail
        go_roundw
        case rel => exact ⟨k + 1, congrArg _ (Int.natCast_succ k).symm, by omega, ⟨by rw [HF.out, List.length_append, List.map_append]; exact HN2.out⟩⟩
        case measure => simp only [intOf]; omega
      · have hb0 : (((lev s : Nat) : Int) == (l : Int)) = false := beq_eq_false_iff_ne.2 (by omega)
        have HF := Apart0.mk (show (S.take (k + 1)).filter (fun s => lev s == l) = acc by rw [HFT.out, if_neg (by simpa using hp), List.append_nil])
        clear hp
        go_wp2_with (go_at_call 31; refine (level_calls s hs16 _).mono ?_; rintro e w' ⟨rfl, rfl⟩)
        go_roundw
        case rel => exact ⟨k + 1, congrArg _ (Int.natCast_succ k).symm, by omega, ⟨by rw [HF.out]; exact HA2.out⟩⟩
        case measure => simp only [intOf]; omega
    · have hd : decide ((k : Int) < (S.length : Int)) = false := dec_nlt k S.length hlt
      have hkL : k = S.length := by omega
      have HF := Apart0.mk (show (S.take k).filter (fun s => lev s == l) = lvl cs.length l by rw [hkL, List.take_length, HLV.out])
      clear hkL
      go_wp2_with fail
      go_ret
      refine ⟨u5, rfl, ?_, HB1.out.trans (HA.out.2.mono HB1.out.size)⟩
      rw [← HF.out]
      exact ownsRow_base HA.out.1 HB1.out.size
end Go.Proofs.Ytlplaidcdocbmaa.Srt
