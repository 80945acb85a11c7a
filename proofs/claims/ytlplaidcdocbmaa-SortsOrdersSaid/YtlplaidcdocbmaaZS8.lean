-- Cut by pack.py, a program of this session; not trusted: Lean checks it.
import Derived.Deep.Draws
import Derived.Tactics
import Derived.Tactics2
import Derived.OwnWalk
import Derived.Outline
import Derived.Lib.Walk
import Derived.Lib.SliceRun
import Derived.Laws.BitsLemmas
import Derived.Test.YtlplaidcdocbmaaZS6
import Derived.Test.YtlplaidcdocbmaaZPlainT
/- sorts.order, sorts.Orders. -/
namespace Go.Proofs.Ytlplaidcdocbmaa.Srt
open Go.RowKit Go.Shelf Go.Proofs.Ytlplaidcdocbmaa.Core Go.Proofs.YtlplaidcdocbmaaW
open Go.Proofs.YtlplaidcdocbmaaW.PrintWords (Kd encs)
set_option linter.unusedVariables false
set_option linter.unusedSimpArgs false

/-- What is scanned lies a level lower. -/
def Steps (d : Nat) (es : List Ed) : Prop := ∀ e ∈ es, e.scan = true → ∃ q p : Nat, e.set = (q : Int) ∧ e.par = (p : Int) ∧ p < 2 ^ d ∧ q < 2 ^ d ∧ p &&& q = q ∧ lev p = lev q + 1
def hits (s : Nat) (e : Ed) : Bool := e.scan && e.par == (s : Int)
def bitsV (d s k : Nat) : List Value := ((List.range k).filter fun i => s.testBit i).map Core.encI
theorem bitsV_succ (s k d : Nat) : bitsV d s (k + 1) = bitsV d s k ++ if s.testBit k then [.int .i64 (k : Int)] else [] := by
  unfold bitsV
  rw [List.range_succ, List.filter_append, List.map_append]
  congr 1
  cases h : s.testBit k <;> simp [h, Core.encI]
theorem bits_len (s k : Nat) : ((List.range k).filter fun i => s.testBit i).length ≤ k := by
  have := List.length_filter_le (fun i => s.testBit i) (List.range k)
  simpa using this

theorem orderS_len (es : List Ed) (d : Nat) (hd : d ≤ 4) : ∀ f s : Nat, (orderS es d f s).length ≤ 4 * (f + 1)
  | 0, s => by
    have := bits_len s d
    rw [orderS]; unfold bitsL; omega
  | f + 1, s => by
    rw [orderS]
    have hb := fun x => bits_len x d
    split
    · rename_i e _
      have ih := orderS_len es d hd f e.set.toNat
      have := hb (s - e.set.toNat)
      rw [List.length_append]; unfold bitsL; omega
    · have := hb s
      unfold bitsL; omega
theorem bit_less : ∀ s : Nat, s < 16 → ∀ q : Nat, q < 16 → s &&& q = q → ∀ k : Nat, k < 4 → (bits .and .i64 (bits .andNot .i64 (s : Int) (q : Int) / 2 ^ k) 1 == 1) = (s - q).testBit k := by decide +kernel
theorem filt_succ (s k : Nat) : ((List.range (k + 1)).filter fun i => s.testBit i).length = ((List.range k).filter fun i => s.testBit i).length + if s.testBit k then 1 else 0 := by
  rw [List.range_succ, List.filter_append, List.length_append]
  cases h : s.testBit k <;> simp [h]
set_option maxRecDepth 100000 in
set_option maxHeartbeats 4000000 in
theorem order_at {Ae : Option Addr} {ce d : Nat} {es : List Ed} (hd : d ≤ 4) (hel : es.length ≤ 1000) (hst : Steps d es) : ∀ (f s : Nat), f ≤ 100 → s < 2 ^ d → lev s < f → ∀ (w : World), EdsAt w Ae es →
    Calls Try.prog 84 #[.slice Ae es.length ce, .int .i64 (s : Int), .int .i64 (d : Int)] w fun e w' => ∃ v : Value, e = .returned v ∧ w'.ownsRow w.heap.size 3 1 v (orderS es d f s).length ((orderS es d f s).map Core.encI) ∧ Below w.heap.size w w'
  | 0, s, _, _, h, _, _ => absurd h (by omega)
  | f + 1, s, hf, hs, hlv, w, hes => by
    have ih := order_at (Ae := Ae) (ce := ce) hd hel hst f
    have HIH := Apart0.mk ih
    have HES := Apart0.mk hes
    have HST := Apart0.mk hst
    have hp16 := pow16 d hd
    obtain ⟨R, hR⟩ : ∃ R, R = orderS es d (f + 1) s := ⟨_, rfl⟩
    rw [← hR]
    have HR := Apart0.mk hR
    clear ih hes hst hR
    go_enter Try.func84, Try.ntmps84
    go_wp2_with fail
    go_loopw [15] (fun v15 wr => ∃ i : Nat, v15 = .int .i64 (i : Int) ∧ i ≤ es.length ∧ Apart0 ((es.take i).find? (hits s) = none ∧ Below w.heap.size w wr))
      (fun p _ => es.length - (intOf p).toNat)
    case atStart => exact ⟨0, rfl, by omega, ⟨rfl, Below.refl _ _⟩⟩
    case round =>
      obtain ⟨i, rfl, hi, HI⟩ := hrel
      by_cases hlt : i < es.length
      · have hdk : decide ((i : Int) < (es.length : Int)) = true := dec_lt i es.length hlt
        obtain ⟨ad, rfl, c0, c1, c2⟩ := (HES.out.below HI.out.2) i hlt
        have htk := take_snoc' es ⟨0, 0, false⟩ i hlt
        have hem : es.getD i ⟨0, 0, false⟩ ∈ es := by rw [getD_of_lt es i _ hlt]; exact List.getElem_mem hlt
        have hse := HST.out _ hem
        obtain ⟨e, he⟩ : ∃ e, e = es.getD i ⟨0, 0, false⟩ := ⟨_, rfl⟩
        rw [← he] at c0 c1 c2 htk hse
        have hB1 : ∀ o, Below w.heap.size w (wr.alloc o) := fun o => HI.out.2.trans (((Below.refl _ wr).alloc (Nat.le_refl _) o).mono HI.out.2.size)
        have HTK := Apart0.mk htk
        have HB1 := Apart0.mk hB1
        have HF := Apart0.mk HI.out.1
        clear hem he htk hB1 HI
        cases hh : hits s e with
        | false =>
          have HN := Apart0.mk (show (es.take (i + 1)).find? (hits s) = none by rw [HTK.out, List.find?_append, HF.out]; simp [hh])
          obtain ⟨e1, e2, e3⟩ := e
          dsimp only at c0 c1 c2
          cases e3 with
          | false =>
            clear hh hse
            go_wp2_with fail
            go_roundw
            case rel => exact ⟨i + 1, congrArg _ (Int.natCast_succ i).symm, by omega, ⟨HN.out, HB1.out _⟩⟩
            case measure => simp only [intOf]; omega
          | true =>
            have hb : (e2 == (s : Int)) = false := by simpa [hits] using hh
            clear hh hse
            go_wp2_with fail
            go_roundw
            case rel => exact ⟨i + 1, congrArg _ (Int.natCast_succ i).symm, by omega, ⟨HN.out, HB1.out _⟩⟩
            case measure => simp only [intOf]; omega
        | true =>
          obtain ⟨e1, e2, e3⟩ := e
          dsimp only at c0 c1 c2
          simp only [hits, Bool.and_eq_true, beq_iff_eq] at hh
          obtain ⟨rfl, rfl⟩ := hh
          obtain ⟨q, p, hq0, hp0, hp2, hq2, hpq, hlp⟩ := hse rfl
          dsimp only at hq0 hp0
          subst hq0
          obtain rfl : s = p := by omega
          have hfind : es.find? (hits s) = some ⟨(q : Int), (s : Int), true⟩ := by
            have e : es = es.take (i + 1) ++ es.drop (i + 1) := (List.take_append_drop _ _).symm
            rw [e, HTK.out, List.append_assoc, List.find?_append, HF.out]
            simp [hits]
          have hord : orderS es d (f + 1) s = orderS es d f q ++ bitsL d (s - q) := by
            have e2 : (es.find? fun e => e.scan && e.par == (s : Int)) = some ⟨(q : Int), (s : Int), true⟩ := hfind
            rw [orderS, e2]
            simp only [Int.toNat_natCast]
          have HORD := Apart0.mk (HR.out.trans hord)
          have HOL := Apart0.mk (show (orderS es d f q).length ≤ 900 by have := orderS_len es d hd f q; omega)
          have HES2 := Apart0.mk (HES.out.below (HB1.out (.cells #[.int .i64 (q : Int), .int .i64 (s : Int), .bool true] 49)))
          have HC := Apart0.mk (HIH.out q (by omega) hq2 (by omega) _ HES2.out)
          have HBb := Apart0.mk (HB1.out (.cells #[.int .i64 (q : Int), .int .i64 (s : Int), .bool true] 49))
          have hbx : (wr.alloc (.cells #[.int .i64 (q : Int), .int .i64 (s : Int), .bool true] 49)).heap[wr.heap.size]? = some (.cells #[.int .i64 (q : Int), .int .i64 (s : Int), .bool true] 49 (0, 0)) := World.alloc_heap_new wr _
          have HBX := Apart0.mk hbx
          clear hse hfind hord hbx HIH HST HTK HF
          go_wp2_with fail
          (with_reducible refine HC.out.mono ?_)
          rintro e w2 ⟨v9, rfl, hown, hb2⟩
          generalize orderS es d f q = O at *
          have hsW : (wr.alloc (.cells #[.int .i64 (q : Int), .int .i64 (s : Int), .bool true] 49)).heap.size = wr.heap.size + 1 := by simp
          generalize wr.alloc (.cells #[.int .i64 (q : Int), .int .i64 (s : Int), .bool true] 49) = W0 at *
          generalize wr.heap.size = bz at *
          have HA0 := Apart0.mk (show Acc W0 3 1 v9 O.length (O.map Core.encI) w2 from ⟨hown, hb2⟩)
          clear hown hb2
          go_wp2_with fail
          go_loopw [9, 33] (fun v9 v33 wr => ∃ k : Nat, v33 = .int .i64 (k : Int) ∧ k ≤ d ∧ Apart0 (Acc W0 3 1 v9 (O.length + ((List.range k).filter fun i => (s - q).testBit i).length) (O.map Core.encI ++ bitsV d (s - q) k) wr))
            (fun _ p _ => d - (intOf p).toNat)
          case atStart => exact ⟨0, rfl, by omega, ⟨by simpa [bitsV] using HA0.out⟩⟩
          case round =>
            obtain ⟨k, rfl, hk, HA⟩ := hrel
            by_cases hkd : k < d
            · have hdk2 : decide ((k : Int) < (d : Int)) = true := dec_lt k d hkd
              have hblk := (HA.out.2.block bz (by omega)).trans HBX.out
              have y0 : wr.cell? ⟨bz, 0, none⟩ = some (.int .i64 (q : Int)) := by simp [World.cell?, hblk]
              have hbl := bit_less s (Nat.lt_of_lt_of_le hs hp16) q (Nat.lt_of_lt_of_le hq2 hp16) hpq k (by omega)
              have HBS := Apart0.mk (bitsV_succ (s - q) k d)
              have HFS := Apart0.mk (filt_succ (s - q) k)
              have hbn := bits_len (s - q) k
              have hOl : O.length ≤ 900 := HOL.out
              cases hb : (s - q).testBit k with
              | true =>
                rw [hb] at hbl
                have HBS2 := Apart0.mk (show bitsV d (s - q) (k + 1) = bitsV d (s - q) k ++ [.int .i64 (k : Int)] by rw [HBS.out, hb, if_pos rfl])
                have HFS2 := Apart0.mk (show ((List.range (k + 1)).filter fun i => (s - q).testBit i).length = ((List.range k).filter fun i => (s - q).testBit i).length + 1 by rw [HFS.out, hb, if_pos rfl])
                clear hblk hb
                generalize hn : ((List.range k).filter fun i => (s - q).testBit i).length = nk at *
                clear hn
                go_wp2_with (at_builtin; refine wp_app_int rfl _ _ rfl rfl rfl (k : Int) (by omega) HA.out ?_; intro v' w' ha; have HA2 := Apart0.mk ha; clear ha)
                go_roundw
                case rel => exact ⟨k + 1, congrArg _ (Int.natCast_succ k).symm, by omega, ⟨by rw [HFS2.out, HBS2.out, ← Nat.add_assoc, ← List.append_assoc]; exact HA2.out⟩⟩
                case measure => simp only [intOf]; omega
              | false =>
                rw [hb] at hbl
                have HBS2 := Apart0.mk (show bitsV d (s - q) (k + 1) = bitsV d (s - q) k by rw [HBS.out, hb, if_neg (by simp), List.append_nil])
                have HFS2 := Apart0.mk (show ((List.range (k + 1)).filter fun i => (s - q).testBit i).length = ((List.range k).filter fun i => (s - q).testBit i).length by rw [HFS.out, hb, if_neg (by simp)]; rfl)
                clear hblk hb
                go_wp2_with fail
                go_roundw
                case rel => exact ⟨k + 1, congrArg _ (Int.natCast_succ k).symm, by omega, ⟨by rw [HFS2.out, HBS2.out]; exact HA.out⟩⟩
                case measure => simp only [intOf]; omega
            · have hdk2 : decide ((k : Int) < (d : Int)) = false := dec_nlt k d hkd
              obtain rfl : k = d := by omega
              go_wp2_with fail
              go_ret
              refine ⟨u9, rfl, ?_, HBb.out.trans (HA.out.2.mono HBb.out.size)⟩
              rw [HORD.out, List.map_append, List.length_append]
              have hA := HA.out.1
              exact ownsRow_base hA HBb.out.size
      · have hdk : decide ((i : Int) < (es.length : Int)) = false := dec_nlt i es.length hlt
        obtain rfl : i = es.length := by omega
        have hfind := HI.out.1
        rw [List.take_length] at hfind
        have HORD := Apart0.mk (show R = bitsL d s by
          rw [HR.out]
          have e2 : (es.find? fun e => e.scan && e.par == (s : Int)) = none := hfind
          rw [orderS, e2])
        have HBb := Apart0.mk HI.out.2
        clear hfind HI HIH HST
        go_wp2_with fail
        go_loopw [11, 52] (fun v9 v33 wr' => ∃ k : Nat, v33 = .int .i64 (k : Int) ∧ k ≤ d ∧ Apart0 (Acc wr 3 1 v9 (((List.range k).filter fun i => s.testBit i).length) (bitsV d s k) wr'))
          (fun _ p _ => d - (intOf p).toNat)
        case atStart => exact ⟨0, rfl, by omega, ⟨Acc.nil _ _ _⟩⟩
        case round =>
          obtain ⟨k, rfl, hk, HA⟩ := hrel
          by_cases hkd : k < d
          · have hdk2 : decide ((k : Int) < (d : Int)) = true := dec_lt k d hkd
            have hbl := bit_test s k (Nat.lt_of_lt_of_le hs hp16) (by omega)
            have HBS := Apart0.mk (bitsV_succ s k d)
            have HFS := Apart0.mk (filt_succ s k)
            have hbn := bits_len s k
            cases hb : s.testBit k with
            | true =>
              rw [hb] at hbl
              have HBS2 := Apart0.mk (show bitsV d s (k + 1) = bitsV d s k ++ [.int .i64 (k : Int)] by rw [HBS.out, hb, if_pos rfl])
              have HFS2 := Apart0.mk (show ((List.range (k + 1)).filter fun i => s.testBit i).length = ((List.range k).filter fun i => s.testBit i).length + 1 by rw [HFS.out, hb, if_pos rfl])
              clear hb
              generalize hn : ((List.range k).filter fun i => s.testBit i).length = nk at *
              clear hn
              go_wp2_with (at_builtin; refine wp_app_int rfl _ _ rfl rfl rfl (k : Int) (by omega) HA.out ?_; intro v' w' ha; have HA2 := Apart0.mk ha; clear ha)
              go_roundw
              case rel => exact ⟨k + 1, congrArg _ (Int.natCast_succ k).symm, by omega, ⟨by rw [HFS2.out, HBS2.out]; exact HA2.out⟩⟩
              case measure => simp only [intOf]; omega
            | false =>
              rw [hb] at hbl
              have HBS2 := Apart0.mk (show bitsV d s (k + 1) = bitsV d s k by rw [HBS.out, hb, if_neg (by simp), List.append_nil])
              have HFS2 := Apart0.mk (show ((List.range (k + 1)).filter fun i => s.testBit i).length = ((List.range k).filter fun i => s.testBit i).length by rw [HFS.out, hb, if_neg (by simp)]; rfl)
              clear hb
              go_wp2_with fail
              go_roundw
              case rel => exact ⟨k + 1, congrArg _ (Int.natCast_succ k).symm, by omega, ⟨by rw [HFS2.out, HBS2.out]; exact HA.out⟩⟩
              case measure => simp only [intOf]; omega
          · have hdk2 : decide ((k : Int) < (d : Int)) = false := dec_nlt k d hkd
            obtain rfl : k = d := by omega
            go_wp2_with fail
            go_ret
            refine ⟨u11, rfl, ?_, HBb.out.trans (HA.out.2.mono HBb.out.size)⟩
            rw [HORD.out]
            exact ownsRow_base HA.out.1 HBb.out.size
end Go.Proofs.Ytlplaidcdocbmaa.Srt
