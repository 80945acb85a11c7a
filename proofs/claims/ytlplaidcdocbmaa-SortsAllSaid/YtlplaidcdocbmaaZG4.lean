-- Cut and merged by pack.py, a program of this session; not trusted: Lean checks it.
import Derived.Deep.Draws
import Derived.Tactics
import Derived.Tactics2
import Derived.OwnWalk
import Derived.Outline
import Derived.Lib.Walk
import Derived.Lib.SliceRun
import Derived.Laws.BitsLemmas
import Derived.Test.YtlplaidcdocbmaaZG3
import Derived.Test.YtlplaidcdocbmaaZS7
import Derived.Test.YtlplaidcdocbmaaZG1
import Derived.Test.YtlplaidcdocbmaaZG2
section
namespace Go.Proofs.Ytlplaidcdocbmaa.Srt
open Go.RowKit Go.Shelf Go.Proofs.Ytlplaidcdocbmaa.Core Go.Proofs.YtlplaidcdocbmaaW
open Go.Proofs.YtlplaidcdocbmaaW.PrintWords (Kd encs)
set_option linter.unusedVariables false
set_option linter.unusedSimpArgs false
def Steps (d : Nat) (es : List Ed) : Prop := ∀ e ∈ es, e.scan = true → ∃ q p : Nat, e.set = (q : Int) ∧ e.par = (p : Int) ∧ p < 2 ^ d ∧ q < 2 ^ d ∧ p &&& q = q ∧ lev p = lev q + 1
def hits (s : Nat) (e : Ed) : Bool := e.scan && e.par == (s : Int)
def bitsV (d s k : Nat) : List Value := ((List.range k).filter fun i => s.testBit i).map Core.encI
theorem bitsV_succ (s k d : Nat) : bitsV d s (k + 1) = bitsV d s k ++ if s.testBit k then [.int .i64 (k : Int)] else [] := by
  unfold bitsV
  rw [List.range_succ, List.filter_append, List.map_append]
  congr 1
  cases h : s.testBit k <;> simp [h, Core.encI]
theorem bits_len (s k : Nat) : ((List.range k).filter fun i => s.testBit i).length ≤ k := by
  have := List.length_filter_le (fun i => s.testBit i) (List.range k)
  simpa using this
theorem orderS_len (es : List Ed) (d : Nat) (hd : d ≤ 4) : ∀ f s : Nat, (orderS es d f s).length ≤ 4 * (f + 1)
  | 0, s => by
    have := bits_len s d
    rw [orderS]; unfold bitsL; omega
  | f + 1, s => by
    rw [orderS]
    have hb := fun x => bits_len x d
    split
    · rename_i e _
      have ih := orderS_len es d hd f e.set.toNat
      have := hb (s - e.set.toNat)
      rw [List.length_append]; unfold bitsL; omega
    · have := hb s
      unfold bitsL; omega
theorem bit_less : ∀ s : Nat, s < 16 → ∀ q : Nat, q < 16 → s &&& q = q → ∀ k : Nat, k < 4 → (bits .and .i64 (bits .andNot .i64 (s : Int) (q : Int) / 2 ^ k) 1 == 1) = (s - q).testBit k := by decide +kernel
theorem filt_succ (s k : Nat) : ((List.range (k + 1)).filter fun i => s.testBit i).length = ((List.range k).filter fun i => s.testBit i).length + if s.testBit k then 1 else 0 := by
  rw [List.range_succ, List.filter_append, List.length_append]
  cases h : s.testBit k <;> simp [h]
set_option maxRecDepth 100000 in
set_option maxHeartbeats 4000000 in
theorem order_at {Ae : Option Addr} {ce d : Nat} {es : List Ed} (hd : d ≤ 4) (hel : es.length ≤ 1000) (hst : Steps d es) : ∀ (f s : Nat), f ≤ 100 → s < 2 ^ d → lev s < f → ∀ (w : World), EdsAt w Ae es →
    Calls Try.prog 84 #[.slice Ae es.length ce, .int .i64 (s : Int), .int .i64 (d : Int)] w fun e w' => ∃ v : Value, e = .returned v ∧ w'.ownsRow w.heap.size 3 1 v (orderS es d f s).length ((orderS es d f s).map Core.encI) ∧ Below w.heap.size w w'
  | 0, s, _, _, h, _, _ => absurd h (by omega)
  | f + 1, s, hf, hs, hlv, w, hes => by
    have ih := order_at (Ae := Ae) (ce := ce) hd hel hst f
    have HIH := Apart0.mk ih
    have HES := Apart0.mk hes
    have HST := Apart0.mk hst
    have hp16 := pow16 d hd
    obtain ⟨R, hR⟩ : ∃ R, R = orderS es d (f + 1) s := ⟨_, rfl⟩
    rw [← hR]
    have HR := Apart0.mk hR
    clear ih hes hst hR
    go_enter Try.func84, Try.ntmps84
    go_wp2_with fail
    go_loopw [15] (fun v15 wr => ∃ i : Nat, v15 = .int .i64 (i : Int) ∧ i ≤ es.length ∧ Apart0 ((es.take i).find? (hits s) = none ∧ Below w.heap.size w wr))
      (fun p _ => es.length - (intOf p).toNat)
    case atStart => exact ⟨0, rfl, by omega, ⟨rfl, Below.refl _ _⟩⟩
    case round =>
      obtain ⟨i, rfl, hi, HI⟩ := hrel
      by_cases hlt : i < es.length
      · have hdk : decide ((i : Int) < (es.length : Int)) = true := dec_lt i es.length hlt
        obtain ⟨ad, rfl, c0, c1, c2⟩ := (HES.out.below HI.out.2) i hlt
        have htk := take_snoc' es ⟨0, 0, false⟩ i hlt
        have hem : es.getD i ⟨0, 0, false⟩ ∈ es := by rw [getD_of_lt es i _ hlt]; exact List.getElem_mem hlt
        have hse := HST.out _ hem
        obtain ⟨e, he⟩ : ∃ e, e = es.getD i ⟨0, 0, false⟩ := ⟨_, rfl⟩
        rw [← he] at c0 c1 c2 htk hse
        have hB1 : ∀ o, Below w.heap.size w (wr.alloc o) := fun o => HI.out.2.trans (((Below.refl _ wr).alloc (Nat.le_refl _) o).mono HI.out.2.size)
        have HTK := Apart0.mk htk
        have HB1 := Apart0.mk hB1
        have HF := Apart0.mk HI.out.1
        clear hem he htk hB1 HI
        cases hh : hits s e with
        | false =>
          have HN := Apart0.mk (show (es.take (i + 1)).find? (hits s) = none by rw [HTK.out, List.find?_append, HF.out]; simp [hh])
          obtain ⟨e1, e2, e3⟩ := e
          dsimp only at c0 c1 c2
          cases e3 with
          | false =>
            clear hh hse
            go_wp2_with fail
            go_roundw
            case rel => exact ⟨i + 1, congrArg _ (Int.natCast_succ i).symm, by omega, ⟨HN.out, HB1.out _⟩⟩
            case measure => simp only [intOf]; omega
          | true =>
            have hb : (e2 == (s : Int)) = false := by simpa [hits] using hh
            clear hh hse
            go_wp2_with fail
            go_roundw
            case rel => exact ⟨i + 1, congrArg _ (Int.natCast_succ i).symm, by omega, ⟨HN.out, HB1.out _⟩⟩
            case measure => simp only [intOf]; omega
        | true =>
          obtain ⟨e1, e2, e3⟩ := e
          dsimp only at c0 c1 c2
          simp only [hits, Bool.and_eq_true, beq_iff_eq] at hh
          obtain ⟨rfl, rfl⟩ := hh
          obtain ⟨q, p, hq0, hp0, hp2, hq2, hpq, hlp⟩ := hse rfl
          dsimp only at hq0 hp0
          subst hq0
          obtain rfl : s = p := by omega
          have hfind : es.find? (hits s) = some ⟨(q : Int), (s : Int), true⟩ := by
            have e : es = es.take (i + 1) ++ es.drop (i + 1) := (List.take_append_drop _ _).symm
            rw [e, HTK.out, List.append_assoc, List.find?_append, HF.out]
            simp [hits]
          have hord : orderS es d (f + 1) s = orderS es d f q ++ bitsL d (s - q) := by
            have e2 : (es.find? fun e => e.scan && e.par == (s : Int)) = some ⟨(q : Int), (s : Int), true⟩ := hfind
            rw [orderS, e2]
            simp only [Int.toNat_natCast]
          have HORD := Apart0.mk (HR.out.trans hord)
          have HOL := Apart0.mk (show (orderS es d f q).length ≤ 900 by have := orderS_len es d hd f q; omega)
          have HES2 := Apart0.mk (HES.out.below (HB1.out (.cells #[.int .i64 (q : Int), .int .i64 (s : Int), .bool true] 49)))
          have HC := Apart0.mk (HIH.out q (by omega) hq2 (by omega) _ HES2.out)
          have HBb := Apart0.mk (HB1.out (.cells #[.int .i64 (q : Int), .int .i64 (s : Int), .bool true] 49))
          have hbx : (wr.alloc (.cells #[.int .i64 (q : Int), .int .i64 (s : Int), .bool true] 49)).heap[wr.heap.size]? = some (.cells #[.int .i64 (q : Int), .int .i64 (s : Int), .bool true] 49 (0, 0)) := World.alloc_heap_new wr _
          have HBX := Apart0.mk hbx
          clear hse hfind hord hbx HIH HST HTK HF
          go_wp2_with fail
          (with_reducible refine HC.out.mono ?_)
          rintro e w2 ⟨v9, rfl, hown, hb2⟩
          generalize orderS es d f q = O at *
          have hsW : (wr.alloc (.cells #[.int .i64 (q : Int), .int .i64 (s : Int), .bool true] 49)).heap.size = wr.heap.size + 1 := by simp
          generalize wr.alloc (.cells #[.int .i64 (q : Int), .int .i64 (s : Int), .bool true] 49) = W0 at *
          generalize wr.heap.size = bz at *
          have HA0 := Apart0.mk (show Acc W0 3 1 v9 O.length (O.map Core.encI) w2 from ⟨hown, hb2⟩)
          clear hown hb2
          go_wp2_with fail
          go_loopw [9, 33] (fun v9 v33 wr => ∃ k : Nat, v33 = .int .i64 (k : Int) ∧ k ≤ d ∧ Apart0 (Acc W0 3 1 v9 (O.length + ((List.range k).filter fun i => (s - q).testBit i).length) (O.map Core.encI ++ bitsV d (s - q) k) wr))
            (fun _ p _ => d - (intOf p).toNat)
          case atStart => exact ⟨0, rfl, by omega, ⟨by simpa [bitsV] using HA0.out⟩⟩
          case round =>
            obtain ⟨k, rfl, hk, HA⟩ := hrel
            by_cases hkd : k < d
            · have hdk2 : decide ((k : Int) < (d : Int)) = true := dec_lt k d hkd
              have hblk := (HA.out.2.block bz (by omega)).trans HBX.out
              have y0 : wr.cell? ⟨bz, 0, none⟩ = some (.int .i64 (q : Int)) := by simp [World.cell?, hblk]
              have hbl := bit_less s (Nat.lt_of_lt_of_le hs hp16) q (Nat.lt_of_lt_of_le hq2 hp16) hpq k (by omega)
              have HBS := Apart0.mk (bitsV_succ (s - q) k d)
              have HFS := Apart0.mk (filt_succ (s - q) k)
              have hbn := bits_len (s - q) k
              have hOl : O.length ≤ 900 := HOL.out
              cases hb : (s - q).testBit k with
              | true =>
                rw [hb] at hbl
                have HBS2 := Apart0.mk (show bitsV d (s - q) (k + 1) = bitsV d (s - q) k ++ [.int .i64 (k : Int)] by rw [HBS.out, hb, if_pos rfl])
                have HFS2 := Apart0.mk (show ((List.range (k + 1)).filter fun i => (s - q).testBit i).length = ((List.range k).filter fun i => (s - q).testBit i).length + 1 by rw [HFS.out, hb, if_pos rfl])
                clear hblk hb
                generalize hn : ((List.range k).filter fun i => (s - q).testBit i).length = nk at *
                clear hn
                go_wp2_with (at_builtin; refine wp_app_int rfl _ _ rfl rfl rfl (k : Int) (by omega) HA.out ?_; intro v' w' ha; have HA2 := Apart0.mk ha; clear ha)
                go_roundw
                case rel => exact ⟨k + 1, congrArg _ (Int.natCast_succ k).symm, by omega, ⟨by rw [HFS2.out, HBS2.out, ← Nat.add_assoc, ← List.append_assoc]; exact HA2.out⟩⟩
                case measure => simp only [intOf]; omega
              | false =>
                rw [hb] at hbl
                have HBS2 := Apart0.mk (show bitsV d (s - q) (k + 1) = bitsV d (s - q) k by rw [HBS.out, hb, if_neg (by simp), List.append_nil])
                have HFS2 := Apart0.mk (show ((List.range (k + 1)).filter fun i => (s - q).testBit i).length = ((List.range k).filter fun i => (s - q).testBit i).length by rw [HFS.out, hb, if_neg (by simp)]; rfl)
                clear hblk hb
                go_wp2_with fail
                go_roundw
                case rel => exact ⟨k + 1, congrArg _ (Int.natCast_succ k).symm, by omega, ⟨by rw [HFS2.out, HBS2.out]; exact HA.out⟩⟩
                case measure => simp only [intOf]; omega
            · have hdk2 : decide ((k : Int) < (d : Int)) = false := dec_nlt k d hkd
              obtain rfl : k = d := by omega
              go_wp2_with fail
              go_ret
              refine ⟨u9, rfl, ?_, HBb.out.trans (HA.out.2.mono HBb.out.size)⟩
              rw [HORD.out, List.map_append, List.length_append]
              have hA := HA.out.1
              exact ownsRow_base hA HBb.out.size
      · have hdk : decide ((i : Int) < (es.length : Int)) = false := dec_nlt i es.length hlt
        obtain rfl : i = es.length := by omega
        have hfind := HI.out.1
        rw [List.take_length] at hfind
        have HORD := Apart0.mk (show R = bitsL d s by
          rw [HR.out]
          have e2 : (es.find? fun e => e.scan && e.par == (s : Int)) = none := hfind
          rw [orderS, e2])
        have HBb := Apart0.mk HI.out.2
        clear hfind HI HIH HST
        go_wp2_with fail
        go_loopw [11, 52] (fun v9 v33 wr' => ∃ k : Nat, v33 = .int .i64 (k : Int) ∧ k ≤ d ∧ Apart0 (Acc wr 3 1 v9 (((List.range k).filter fun i => s.testBit i).length) (bitsV d s k) wr'))
          (fun _ p _ => d - (intOf p).toNat)
        case atStart => exact ⟨0, rfl, by omega, ⟨Acc.nil _ _ _⟩⟩
        case round =>
          obtain ⟨k, rfl, hk, HA⟩ := hrel
          by_cases hkd : k < d
          · have hdk2 : decide ((k : Int) < (d : Int)) = true := dec_lt k d hkd
            have hbl := bit_test s k (Nat.lt_of_lt_of_le hs hp16) (by omega)
            have HBS := Apart0.mk (bitsV_succ s k d)
            have HFS := Apart0.mk (filt_succ s k)
            have hbn := bits_len s k
            cases hb : s.testBit k with
            | true =>
              rw [hb] at hbl
              have HBS2 := Apart0.mk (show bitsV d s (k + 1) = bitsV d s k ++ [.int .i64 (k : Int)] by rw [HBS.out, hb, if_pos rfl])
              have HFS2 := Apart0.mk (show ((List.range (k + 1)).filter fun i => s.testBit i).length = ((List.range k).filter fun i => s.testBit i).length + 1 by rw [HFS.out, hb, if_pos rfl])
              clear hb
              generalize hn : ((List.range k).filter fun i => s.testBit i).length = nk at *
              clear hn
              go_wp2_with (at_builtin; refine wp_app_int rfl _ _ rfl rfl rfl (k : Int) (by omega) HA.out ?_; intro v' w' ha; have HA2 := Apart0.mk ha; clear ha)
              go_roundw
              case rel => exact ⟨k + 1, congrArg _ (Int.natCast_succ k).symm, by omega, ⟨by rw [HFS2.out, HBS2.out]; exact HA2.out⟩⟩
              case measure => simp only [intOf]; omega
            | false =>
              rw [hb] at hbl
              have HBS2 := Apart0.mk (show bitsV d s (k + 1) = bitsV d s k by rw [HBS.out, hb, if_neg (by simp), List.append_nil])
              have HFS2 := Apart0.mk (show ((List.range (k + 1)).filter fun i => s.testBit i).length = ((List.range k).filter fun i => s.testBit i).length by rw [HFS.out, hb, if_neg (by simp)]; rfl)
              clear hb
              go_wp2_with fail
              go_roundw
              case rel => exact ⟨k + 1, congrArg _ (Int.natCast_succ k).symm, by omega, ⟨by rw [HFS2.out, HBS2.out]; exact HA.out⟩⟩
              case measure => simp only [intOf]; omega
          · have hdk2 : decide ((k : Int) < (d : Int)) = false := dec_nlt k d hkd
            obtain rfl : k = d := by omega
            go_wp2_with fail
            go_ret
            refine ⟨u11, rfl, ?_, HBb.out.trans (HA.out.2.mono HBb.out.size)⟩
            rw [HORD.out]
            exact ownsRow_base HA.out.1 HBb.out.size
end Go.Proofs.Ytlplaidcdocbmaa.Srt
end
section
namespace Go.Proofs.Ytlplaidcdocbmaa.Srt
open Go.RowKit Go.Shelf Go.Proofs.Ytlplaidcdocbmaa.Core Go.Proofs.YtlplaidcdocbmaaW
open Go.Proofs.YtlplaidcdocbmaaW.PrintWords (Kd encs)
set_option linter.unusedVariables false
set_option linter.unusedSimpArgs false
set_option maxHeartbeats 2000000 in
theorem clone_R {α : Type} (d : Kd α) (hd : d.sz = 1) {B : Nat} {v : Value} {xs : List α} {w : World} (h : d.R 24 w B (fun _ => True) v xs) (hB : B ≤ w.heap.size) (hn : xs.length ≤ 1000) :
    Calls Try.prog 85 #[v] w fun e w' => ∃ v' : Value, e = .returned v' ∧ d.R 24 w' B (fun _ => True) v' xs ∧ Below w.heap.size w w' := by
  obtain ⟨i0, hi, hz0, hz1, hz2⟩ := info_parts info24
  have q37 : ∀ (w : World) (a : Option Addr) (n c n' c' : Nat), (binOp .eql 37 (.slice a n c) (.slice none n' c')).run Try.prog w = .ok (.bool a.isNone) w := fun w a n c n' c' => Lib.run_eql_slice_nil w _ _ a n c n' c' Try.underlying37
  have hb := Kd.R_bound h
  obtain ⟨h0, inner, ho, hr⟩ := hb
  rw [hd] at ho hr
  rcases ho.2 with ⟨rfl, hl0⟩ | ⟨g, cap, cur, rfl, hbg, hg, hnc, hcm, hcs, htake⟩
  · have hx : xs = [] := List.length_eq_zero_iff.1 hl0
    subst hx
    clear h hr ho h0
    go_enter Try.func85, Try.ntmps85
    go_wp2
    go_ret
    exact ⟨_, rfl, Kd.R_nil _ _ _ _ _, Below.refl _ _⟩
  · have hil : inner.length = xs.length * 1 := ho.1
    have h1 : ∀ u ∈ inner, u.oneCell' = true := Kd.reps_one hr (by decide) (fun p c hp => d.K_one (d.K_of_M hp))
    have HC := Apart0.mk ho
    have HR := Apart0.mk hr
    have HG := Apart0.mk hg
    clear hg h ho hr htake hcs hbg h0
    go_enter Try.func85, Try.ntmps85
    go_wp2_with (at_builtin; refine wpList_append_own_at _ rfl _ _ 37 rfl w.heap.size 24 i0 (.slice none 0 0) 1 24 Try.underlying37 hi hz0 hz1 hz2 rfl (by decide) _ _ _ rfl (World.ownsRow_made w #[] 0 (Nat.le_refl _) (Nat.zero_le _) rfl) ⟨g, 0, none⟩ xs.length cap inner rfl hil ?qc2 ?qc3 ?qc4 ?qc5 ?qc6 ?_)
    case qc2 =>
      intro j u hj
      have hjn : j < xs.length * 1 := by
        have := (List.getElem?_eq_some_iff.1 hj).1
        omega
      (try rw [Addr.add_lit, Nat.zero_add])
      exact Lib.cell?_alloc_some _ ((HC.out.cellAt j hjn).trans hj)
    case qc3 => exact h1
    case qc4 => unfold maxLen; omega
    case qc5 => omega
    intro v' w1 hown hgrow hnil hat
    go_wp2
    go_ret
    have hBel : Below w.heap.size w w1 := ((Below.refl _ w).alloc (Nat.le_refl _) _).grown hgrow (by simp) (by intro k hk; simp [Value.ownBlock] at hk; omega)
    have hne : ∀ k, k < w.heap.size → some k ≠ v'.ownBlock := by
      intro k hk e
      rcases hat with hat | hat
      · rw [hat] at e; simp [Value.ownBlock] at e; omega
      · rw [hat] at e; simp at e; omega
    have h3 : w1.ownsRow w.heap.size 24 1 v' xs.length inner := by simpa using hown
    refine ⟨v', rfl, ⟨fun _ _ => trivial, inner, by rw [hd]; exact ownsRow_base h3 hB, ?_⟩, hBel⟩
    rw [hd]
    refine HR.out.imp_ (fun p c hp => ?_)
    exact d.M_mono (fun k hk => ⟨trivial, hne k hk.1.2.2.1⟩) (d.M_move (fun k hk => hBel.block k hk.1.2.2.1) hp)
theorem clone_rows {B : Nat} {v : Value} {xs : List (List Int)} {w : World} (h : Kd.S (Kd.slice 3 (Kd.int .i64)) 24 w B (fun _ => True) v xs) (hB : B ≤ w.heap.size) (hn : xs.length ≤ 1000) :
    Calls Try.prog 85 #[v] w fun e w' => ∃ v' : Value, e = .returned v' ∧ Kd.S (Kd.slice 3 (Kd.int .i64)) 24 w' B (fun _ => True) v' xs ∧ Below w.heap.size w w' := by
  obtain ⟨f, hR⟩ := h
  refine (clone_R (Kd.tag f (Kd.slice 3 (Kd.int .i64))) rfl hR hB (by rw [List.length_zipIdx]; exact hn)).mono ?_
  rintro e w' ⟨v', he, h1, h2⟩
  exact ⟨v', he, ⟨f, h1⟩, h2⟩
def intsL (l : List Nat) : List Int := l.map fun (x : Nat) => (x : Int)
theorem encs_nats (l : List Nat) : encs (Value.int .i64) (intsL l) = l.map Core.encI := by unfold encs intsL; rw [List.map_map]; rfl
def ordL (es : List Ed) (d : Nat) (l : List Ed) : List (List Int) := l.map fun e => intsL (orderS es d 5 e.set.toNat)
theorem ordL_all (es : List Ed) (d : Nat) : (ordersS es d).map intsL = ordL es d es := by unfold ordersS ordL; rw [List.map_map]; rfl
set_option maxRecDepth 100000 in
set_option maxHeartbeats 4000000 in
theorem orders_at {Ae : Option Addr} {ce d : Nat} {es : List Ed} (hd : d ≤ 4) (hel : es.length ≤ 1000) (hst : Steps d es) (hsets : ∀ e ∈ es, ∃ s : Nat, e.set = (s : Int) ∧ s < 2 ^ d ∧ lev s < 5) (w : World) (hes : EdsAt w Ae es) :
    Calls Try.prog 57 #[.slice Ae es.length ce, .int .i64 (d : Int)] w fun e w' => ∃ v : Value, e = .returned v ∧ Kd.S (Kd.slice 3 (Kd.int .i64)) 24 w' w.heap.size (fun _ => True) v ((ordersS es d).map intsL) ∧ Below w.heap.size w w' := by
  have HES := Apart0.mk hes
  have HSE := Apart0.mk hsets
  have HOR := Apart0.mk (fun s (h1 : s < 2 ^ d) (h2 : lev s < 5) W (h3 : EdsAt W Ae es) => order_at (ce := ce) hd hel hst 5 s (by omega) h1 h2 W h3)
  have HOL := Apart0.mk (fun s => orderS_len es d hd 5 s)
  clear hes hsets hst
  go_enter Try.func57, Try.ntmps57
  go_wp2_with fail
  go_loopw [5, 10] (fun v5 v10 wr => ∃ i : Nat, v10 = .int .i64 (i : Int) ∧ i ≤ es.length ∧ Apart0 (Kd.S (Kd.slice 3 (Kd.int .i64)) 24 wr w.heap.size (fun _ => True) v5 (ordL es d (es.take i)) ∧ Below w.heap.size w wr))
    (fun _ p _ => es.length - (intOf p).toNat)
  case atStart => exact ⟨0, rfl, by omega, ⟨Kd.S_nil _ _ _ _ _, Below.refl _ _⟩⟩
  case round =>
    obtain ⟨i, rfl, hi, HI⟩ := hrel
    by_cases hlt : i < es.length
    · have hdk : decide ((i : Int) < (es.length : Int)) = true := dec_lt i es.length hlt
      obtain ⟨ad, rfl, c0, c1, c2⟩ := (HES.out.below HI.out.2) i hlt
      have htk := take_snoc' es ⟨0, 0, false⟩ i hlt
      have hem : es.getD i ⟨0, 0, false⟩ ∈ es := by rw [getD_of_lt es i _ hlt]; exact List.getElem_mem hlt
      obtain ⟨s, hs, hs2, hs5⟩ := HSE.out _ hem
      obtain ⟨e, he⟩ : ∃ e, e = es.getD i ⟨0, 0, false⟩ := ⟨_, rfl⟩
      rw [← he] at c0 c1 c2 htk hs
      obtain ⟨e1, e2, e3⟩ := e
      dsimp only at c0 c1 c2 hs
      subst hs
      have hB1 := HI.out.2.trans (((Below.refl _ wr).alloc (Nat.le_refl _) (.cells #[.int .i64 (s : Int), .int .i64 e2, .bool e3] 49)).mono HI.out.2.size)
      have HC := Apart0.mk (HOR.out s hs2 hs5 _ (HES.out.below hB1))
      have HB1 := Apart0.mk hB1
      have HRow := Apart0.mk HI.out.1
      have HSE2 := Apart0.mk (show ordL es d (es.take (i + 1)) = ordL es d (es.take i) ++ [intsL (orderS es d 5 s)] by
        rw [htk]
        unfold ordL
        rw [List.map_append, List.map_cons, List.map_nil]
        simp only [Int.toNat_natCast])
      have hxl : (ordL es d (es.take i)).length ≤ 1000 := by unfold ordL; rw [List.length_map, List.length_take]; omega
      have hol := HOL.out s
      generalize orderS es d 5 s = O at *
      generalize hX : ordL es d (es.take i) = X at *
      clear htk hem he hB1 HI hX
      go_wp2_with fail
      (with_reducible refine HC.out.mono ?_)
      rintro e w2 ⟨v1, rfl, hown, hb2⟩
      have hcl := clone_ints hown (by omega) (fun u hu => by obtain ⟨x, _, rfl⟩ := List.mem_map.1 hu; rfl)
      have HCL := Apart0.mk hcl
      have HB2 := Apart0.mk hb2
      clear hown hb2 hcl
      go_wp2_with fail
      (with_reducible refine HCL.out.mono ?_)
      rintro e w3 ⟨v2, rfl, hown3, hb3⟩
      obtain ⟨A12, c12, rfl⟩ := PrintWords.own_slice hown3
      have hbA := (((Below.refl _ wr).alloc (Nat.le_refl _) (.cells #[.int .i64 (s : Int), .int .i64 e2, .bool e3] 49)).trans (HB2.out.mono (by simp only [World.size_alloc]; omega))).trans (hb3.mono (Nat.le_trans (by simp only [World.size_alloc]; omega) HB2.out.size))
      have hbW := HB1.out.trans ((HB2.out.mono HB1.out.size).trans (hb3.mono (Nat.le_trans HB1.out.size HB2.out.size)))
      have hlt8 := Kd.S_lt HRow.out
      have hge12 := own_base_le hown3
      have hszA : wr.heap.size ≤ w2.heap.size := Nat.le_trans (by simp only [World.size_alloc]; omega) HB2.out.size
      have hRow2 := Kd.S_mono (ok' := fun k => True ∧ ¬ (some k = (Value.slice A12 O.length c12).ownBlock)) (Kd.S_below (Kd.S_bound HRow.out) hbA) (fun k hk => ⟨trivial, fun e => by
        have g1 := hk.2.2.1
        have g2 := hge12 k e.symm
        omega⟩)
      have hRi : Kd.R (Kd.int .i64) 3 w3 w.heap.size (fun k => some k = (Value.slice A12 O.length c12).ownBlock) (.slice A12 O.length c12) (intsL O) := by
        refine Kd.R_of_own (h1 := fun _ => rfl) ?_ (fun k hk => hk.symm)
        rw [encs_nats, show (intsL O).length = O.length by simp [intsL]]
        exact ownsRow_base hown3 (Nat.le_trans HB1.out.size HB2.out.size)
      have HNE8 := Apart0.mk (show ∀ k, some k = (Value.slice A12 O.length c12).ownBlock → True ∧ some k ≠ u5.ownBlock from fun k hk => ⟨trivial, fun e => by
        have g1 := hlt8 k e.symm
        have g2 := hge12 k hk.symm
        omega⟩)
      have HRi := Apart0.mk hRi
      have HRow2 := Apart0.mk hRow2
      have HBW := Apart0.mk hbW
      clear hRi hRow2 hbW hlt8 hge12 hbA hown3 hb3 hszA
      go_wp2_with (at_builtin; refine Kd.S_append (Kd.slice 3 (Kd.int .i64)) (w0 := w) w.heap.size rfl (.tmp 14) (.tmp 21) 37 24 (.slice none 0 0) 24 rfl Try.underlying37 info24 rfl (by decide) (by omega) u5 X (intsL O) [.slice A12 O.length c12] (fun _ => True) (fun k => some k = (Value.slice A12 O.length c12).ownBlock) rfl rfl ?aP HNE8.out (fun _ _ => trivial) ?aO ?aB ?aS ?aL ?_)
      case aP => exact Kd.M_row HRi.out
      case aO => exact HRow2.out
      case aB => exact HBW.out
      case aS => exact HBW.out.size
      case aL => omega
      intro v1' wq ho hb hg hat
      have HIn := Apart0.mk (And.intro ho hb)
      clear ho hb hg hat
      go_wp2_with fail
      go_roundw
      case rel => exact ⟨i + 1, congrArg _ (Int.natCast_succ i).symm, by omega, ⟨by rw [HSE2.out]; exact HIn.out.1, HIn.out.2⟩⟩
      case measure => simp only [intOf]; omega
    · have hdk : decide ((i : Int) < (es.length : Int)) = false := dec_nlt i es.length hlt
      obtain rfl : i = es.length := by omega
      have hR := HI.out.1
      rw [List.take_length] at hR
      have hcl := clone_rows hR HI.out.2.size (by simp [ordL]; omega)
      have HCL := Apart0.mk hcl
      have HB := Apart0.mk HI.out.2
      clear hcl hR HI
      go_wp2_with fail
      (with_reducible refine HCL.out.mono ?_)
      rintro e w2 ⟨v2, rfl, hR2, hb2⟩
      have HF := Apart0.mk (And.intro hR2 (HB.out.trans (hb2.mono HB.out.size)))
      clear hR2 hb2
      go_wp2_with fail
      go_ret
      exact ⟨v2, rfl, by rw [ordL_all]; exact HF.out.1, HF.out.2⟩
end Go.Proofs.Ytlplaidcdocbmaa.Srt
end
section
namespace Go.Proofs.Ytlplaidcdocbmaa.Srt
open Go.RowKit Go.Shelf Go.Proofs.Ytlplaidcdocbmaa.Core Go.Proofs.YtlplaidcdocbmaaW
open Go.Proofs.YtlplaidcdocbmaaW.PrintWords (Kd encs Reps)
set_option linter.unusedVariables false
set_option linter.unusedSimpArgs false
section
variable {S : Type} (f0 f1 : S → Int) (f2 : S → Bool)
def toEd (x : S) : Ed := ⟨f0 x, f1 x, f2 x⟩
def toEds (l : List S) : List Ed := l.map (toEd f0 f1 f2)
theorem toEds_len (l : List S) : (toEds f0 f1 f2 l).length = l.length := by simp [toEds]
theorem eds_of_C (K : Kd S) (hsz : K.sz = 3) (d : S) (hopen : ∀ w x cs, K.K w x cs → cs = [.int .i64 (f0 x), .int .i64 (f1 x), .bool (f2 x)]) {w : World} {A : Option Addr} {l : List S} (h : Kd.C K w A l.length l) :
    EdsAt w A (toEds f0 f1 f2 l) := by
  intro i hi
  rw [toEds_len] at hi
  obtain ⟨ad, c, e, _, hK, hc⟩ := Kd.C_get h d (i : Int) (by omega) (by omega)
  have hg : (toEds f0 f1 f2 l).getD i ⟨0, 0, false⟩ = toEd f0 f1 f2 (l.getD i d) := by
    have h1 : i < (toEds f0 f1 f2 l).length := by rw [toEds_len]; exact hi
    rw [getD_of_lt _ _ _ h1, getD_of_lt _ _ _ hi]
    simp [toEds]
  have hK' := hopen _ _ _ hK
  subst hK'
  rw [hg]
  simp only [Int.toNat_natCast, hsz] at hc
  refine ⟨ad, e, hc 0 _ rfl, ?_, ?_⟩
  · have := hc 1 _ rfl
    rw [PrintWords.add_field ad (i * 3) 1 (by omega)] at this
    exact this
  · have := hc 2 _ rfl
    rw [PrintWords.add_field ad (i * 3) 2 (by omega)] at this
    exact this
end
theorem reps_eds {S : Type} (R : S → List Value → Prop) (mk : Int → Int → Bool → S) (hk : ∀ a b c, R (mk a b c) [.int .i64 a, .int .i64 b, .bool c]) : ∀ es : List Ed, Reps R 3 (es.map fun e => mk e.set e.par e.scan) (edCells es) := by
  have key : ∀ (es acc : List Ed), Reps R 3 (acc.map fun e => mk e.set e.par e.scan) (edCells acc) → Reps R 3 ((acc ++ es).map fun e => mk e.set e.par e.scan) (edCells (acc ++ es)) := by
    intro es
    induction es with
    | nil => intro acc h; rwa [List.append_nil]
    | cons e es ih =>
      intro acc h
      have := ih (acc ++ [e]) (by
        rw [List.map_append, edCells_append]
        exact h.snoc (hk _ _ _) rfl)
      rwa [List.append_assoc] at this
  intro es
  exact key es [] (Reps.none _ _)
def okP (cs : List Int) (n : Int) : Bool := okCards cs && cs.all (fun x => decide (1 ≤ x)) && decide (0 ≤ n) && decide (n ≤ 300)
theorem okP_iff {cs : List Int} {n : Int} (h : okP cs n = true) : okCards cs = true ∧ (∀ x ∈ cs, 1 ≤ x) ∧ 0 ≤ n ∧ n ≤ 300 := by
  unfold okP at h
  rw [Bool.and_eq_true, Bool.and_eq_true, Bool.and_eq_true, List.all_eq_true, decide_eq_true_eq, decide_eq_true_eq] at h
  exact ⟨h.1.1.1, fun x hx => of_decide_eq_true (h.1.1.2 x hx), h.1.2, h.2⟩
theorem okP_of {cs : List Int} {n : Int} (h1 : okCards cs = true) (h2 : ∀ x ∈ cs, 1 ≤ x) (h3 : 0 ≤ n) (h4 : n ≤ 300) : okP cs n = true := by
  unfold okP
  rw [Bool.and_eq_true, Bool.and_eq_true, Bool.and_eq_true, List.all_eq_true, decide_eq_true_eq, decide_eq_true_eq]
  exact ⟨⟨⟨h1, fun x hx => decide_eq_true (h2 x hx)⟩, h3⟩, h4⟩
def okC (es : List Ed) : Bool := decide (es.length ≤ 1000) && es.all fun e => decide (e.par < 16)
def okW (es : List Ed) : Bool := es.all fun e => (Lit.int .i64 e.par).wf
def stepB (d : Nat) (e : Ed) : Bool := !e.scan || (decide (0 ≤ e.set) && decide (0 ≤ e.par) && decide (e.par.toNat < 2 ^ d) && decide (e.set.toNat < 2 ^ d) && (e.par.toNat &&& e.set.toNat == e.set.toNat) && (lev e.par.toNat == lev e.set.toNat + 1))
def okO (d : Nat) (es : List Ed) : Bool := decide (es.length ≤ 1000) && es.all (fun e => stepB d e && decide (0 ≤ e.set) && decide (e.set.toNat < 2 ^ d))
theorem lev_lt5 (s : Nat) : lev s < 5 := by
  have := List.length_filter_le (fun i => s.testBit i) (List.range 4)
  unfold lev
  simp at this
  omega
theorem okO_iff {d : Nat} {es : List Ed} (h : okO d es = true) : es.length ≤ 1000 ∧ Steps d es ∧ ∀ e ∈ es, ∃ s : Nat, e.set = (s : Int) ∧ s < 2 ^ d ∧ lev s < 5 := by
  unfold okO at h
  rw [Bool.and_eq_true, decide_eq_true_eq, List.all_eq_true] at h
  refine ⟨h.1, fun e he hsc => ?_, fun e he => ?_⟩
  · have h1 := h.2 e he
    rw [Bool.and_eq_true, Bool.and_eq_true] at h1
    have h2 := h1.1.1
    unfold stepB at h2
    simp only [hsc, Bool.not_true, Bool.false_or, Bool.and_eq_true, decide_eq_true_eq, beq_iff_eq] at h2
    obtain ⟨⟨⟨⟨⟨a1, a2⟩, a3⟩, a4⟩, a5⟩, a6⟩ := h2
    exact ⟨e.set.toNat, e.par.toNat, by omega, by omega, a3, a4, a5, a6⟩
  · have h1 := h.2 e he
    rw [Bool.and_eq_true, Bool.and_eq_true, decide_eq_true_eq, decide_eq_true_eq] at h1
    exact ⟨e.set.toNat, by omega, h1.2, lev_lt5 _⟩
section
variable {S : Type} (K : Kd S) (hsz : K.sz = 3) (z : S) (f0 f1 : S → Int) (f2 : S → Bool) (hopen : ∀ w x cs, K.K w x cs → cs = [.int .i64 (f0 x), .int .i64 (f1 x), .bool (f2 x)])
def planE (mk : Int → Int → Bool → S) (cs : List Int) (n : Int) : List S := (planS (scanC cs n) (sortC cs n) cs.length).map fun e => mk e.set e.par e.scan
include hsz in
theorem plan_K (mk : Int → Int → Bool → S) (hk : ∀ w base ok a b c, K.M w base ok (mk a b c) [.int .i64 a, .int .i64 b, .bool c]) (A : Option Addr) (c : Nat) (l : List Int) (m n : Int) (w : World)
    (hr : Kd.C (Kd.int .i64) w A l.length l) (hok : okP l n = true) :
    Calls Try.prog 55 #[.agg #[.slice A l.length c, .int .i64 m], .int .i64 n] w fun e w' => ∃ v0_ : Value, e = .returned (v0_) ∧ Kd.R K 49 w' w.heap.size (fun _ => True) v0_ (planE mk l n) ∧ Below w.heap.size w w' := by
  obtain ⟨o1, o2, o3, o4⟩ := okP_iff hok
  refine (plan_at (w := w) (A := A) (c := c) (cs := l) (ms := m) (n := n) o1 o2 ⟨o3, o4⟩ (fun i hi => cell_int hr i hi)).mono ?_
  rintro e w' ⟨v, he, hown, hb⟩
  refine ⟨v, he, ?_, hb⟩
  have hrep := reps_eds (fun x cs => K.M w' w.heap.size (fun k => True ∧ some k ≠ v.ownBlock) x cs) mk (fun a b c => hk _ _ _ a b c) (planS (scanC l n) (sortC l n) l.length)
  have hlen : (planE mk l n).length = (planS (scanC l n) (sortC l n) l.length).length := by simp [planE]
  refine ⟨fun _ _ => trivial, edCells (planS (scanC l n) (sortC l n) l.length), ?_, ?_⟩
  · rw [hlen, hsz]; exact hown
  · rw [hsz]; exact hrep
include hsz hopen z in
theorem right_K (A : Option Addr) (c : Nat) (l : List S) (d : Int) (w : World) (hr : Kd.C K w A l.length l) (hd : 0 ≤ d ∧ d ≤ 4) (hw : okW (toEds f0 f1 f2 l) = true) :
    Calls Try.prog 54 #[.slice A l.length c, .int .i64 d] w fun e w' => e = .returned (.bool (rightS d.toNat (toEds f0 f1 f2 l))) ∧ Below w.heap.size w w' := by
  obtain ⟨k, rfl⟩ := Int.eq_ofNat_of_zero_le hd.1
  have h := right_at (w := w) (A := A) (c := c) (es := toEds f0 f1 f2 l) (d := k) (by omega) (eds_of_C f0 f1 f2 K hsz z hopen hr) (fun e he => by
    unfold okW at hw; rw [List.all_eq_true] at hw; exact hw e he)
  rw [toEds_len] at h
  exact h
include hsz hopen z in
theorem cost_K (A : Option Addr) (c : Nat) (cs : List Int) (m n : Int) (A2 : Option Addr) (c2 : Nat) (l : List S) (w : World) (hr : Kd.C (Kd.int .i64) w A cs.length cs) (hr2 : Kd.C K w A2 l.length l) (hok : okP cs n = true) (hc : okC (toEds f0 f1 f2 l) = true) :
    Calls Try.prog 56 #[.agg #[.slice A cs.length c, .int .i64 m], .int .i64 n, .slice A2 l.length c2] w fun e w' => e = .returned (.int .i64 (costP (scanC cs n) (sortC cs n) (toEds f0 f1 f2 l))) ∧ Below w.heap.size w w' := by
  obtain ⟨o1, o2, o3, o4⟩ := okP_iff hok
  unfold okC at hc
  rw [Bool.and_eq_true, decide_eq_true_eq, List.all_eq_true] at hc
  have h := cost_at (w := w) (A := A) (c := c) (cs := cs) (ms := m) (n := n) (Ae := A2) (ce := c2) (es := toEds f0 f1 f2 l) o1 o2 ⟨o3, o4⟩ (fun i hi => cell_int hr i hi) (eds_of_C f0 f1 f2 K hsz z hopen hr2) hc.1 (fun e he => by
    have := of_decide_eq_true (hc.2 e he)
    by_cases h0 : e.par < 0
    · exact .inl h0
    · exact .inr ⟨e.par.toNat, by omega, by omega⟩)
  rw [toEds_len] at h
  exact h
include hsz hopen z in
theorem orders_K (A : Option Addr) (c : Nat) (l : List S) (d : Int) (w : World) (hr : Kd.C K w A l.length l) (hd : 0 ≤ d ∧ d ≤ 4) (hw : okO d.toNat (toEds f0 f1 f2 l) = true) :
    Calls Try.prog 57 #[.slice A l.length c, .int .i64 d] w fun e w' => ∃ v0_ : Value, e = .returned (v0_) ∧ Kd.S (Kd.slice 3 (Kd.int .i64)) 24 w' w.heap.size (fun _ => True) v0_ ((ordersS (toEds f0 f1 f2 l) d.toNat).map intsL) ∧ Below w.heap.size w w' := by
  obtain ⟨k, rfl⟩ := Int.eq_ofNat_of_zero_le hd.1
  obtain ⟨h1, h2, h3⟩ := okO_iff hw
  have h := orders_at (Ae := A) (ce := c) (d := k) (es := toEds f0 f1 f2 l) (by omega) h1 h2 h3 w (eds_of_C f0 f1 f2 K hsz z hopen hr)
  rw [toEds_len] at h
  exact h
end
end Go.Proofs.Ytlplaidcdocbmaa.Srt
end
