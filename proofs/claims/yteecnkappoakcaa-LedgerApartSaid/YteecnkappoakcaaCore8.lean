/- The law LedgerApart, walked. -/
import Derived.Test.YteecnkappoakcaaCore7
namespace Go.Proofs.Yteecnkappoakcaa.Core
open Go.RowKit Go.Proofs.YteecnkappoakcaaW.PrintWords Go.Proofs.YteecnkappoakcaaW.PrintLast Go.Proofs.YteecnkappoakcaaW.PrintMore
attribute [local go_sem] max2_int min2_int max_two min_two max_three min_three max_four min_four

theorem within_at (a n z : Int) (hz : within a n = z) (w : World) (hn : 0 < n) (hn2 : n ≤ 4611686018427387904) :
    Calls Try.prog 12 #[.int .i64 a, .int .i64 n] w fun e w' => e = .returned (.int .i64 z) ∧ w = w' := by
  subst hz
  exact within_calls a n w hn hn2
def Same2 (w w' : World) : Prop := w = w'

/-- Taking, whatever comes of it. -/
theorem take_any (g : Nat) (now high k n : Int) (w : World) (h : Led g now high k w) (h0 : 0 ≤ now) (h1 : now ≤ k) (h2 : k ≤ 4611686018427387904) (h3 : now ≤ high) :
    Calls Try.prog 15 #[.pointer (some ⟨g, 0, none⟩), .int .i64 n] w fun e w' => ∃ (b : Bool) (u t : Int), e = .returned (.bool b) ∧ Led g u t k w' ∧ 0 ≤ u ∧ u ≤ k ∧ u ≤ t ∧ Step g w w' := by
  by_cases hn : 0 ≤ n ∧ n ≤ k - now
  · obtain ⟨a, b⟩ := hn
    refine (take_yes g now high k n w h h0 h1 h2 a b).mono ?_
    rintro e w' ⟨rfl, hl, hs⟩
    exact ⟨true, _, _, rfl, hl, by omega, by omega, by unfold mx; split <;> omega, hs⟩
  · refine (take_no g now high k n w h h0 h1 h2 (by omega)).mono ?_
    rintro e w' ⟨rfl, hl, hs⟩
    exact ⟨false, _, _, rfl, hl, by omega, by omega, by omega, hs⟩
theorem give_any (g : Nat) (now high k n : Int) (w : World) (h : Led g now high k w) (h0 : 0 ≤ now) (h1 : now ≤ k) (h2 : k ≤ 4611686018427387904) (h3 : now ≤ high) :
    Calls Try.prog 17 #[.pointer (some ⟨g, 0, none⟩), .int .i64 n] w fun e w' => ∃ (b : Bool) (u t : Int), e = .returned (.bool b) ∧ Led g u t k w' ∧ 0 ≤ u ∧ u ≤ k ∧ u ≤ t ∧ Step g w w' := by
  by_cases hn : 0 ≤ n ∧ n ≤ now
  · obtain ⟨a, b⟩ := hn
    refine (give_yes g now high k n w h h0 h3 (by omega) a b).mono ?_
    rintro e w' ⟨rfl, hl, hs⟩
    exact ⟨true, _, _, rfl, hl, by omega, by omega, by omega, hs⟩
  · refine (give_no g now high k n w h h0 h3 (by omega) (by omega)).mono ?_
    rintro e w' ⟨rfl, hl, hs⟩
    exact ⟨false, _, _, rfl, hl, by omega, by omega, by omega, hs⟩

set_option maxHeartbeats 16000000 in
set_option maxRecDepth 100000 in
theorem ledgerApart_walk (a0 : Option Addr) (len0 cap0 : Nat) (z0 : List Int) (a1 : Option Addr) (len1 cap1 : Nat) (z1 : List Int) (w : World) (w0 : IsInts w a0 len0 cap0 z0) (y0 : len0 * 8 ≤ 140737488351232) (w1 : IsInts w a1 len1 cap1 z1) (y1 : len1 * 8 ≤ 140737488351232) :
    Calls Try.prog 6 #[.slice a0 len0 cap0, .slice a1 len1 cap1] w fun e w' => e = .returned (.bool true) ∧ Below w.heap.size w w' := by
  obtain ⟨l0, rfl, hr0, hm0, hw0, hc0⟩ := ReadsInt.ofRowC w0
  obtain ⟨l1, rfl, hr1, hm1, hw1, hc1⟩ := ReadsInt.ofRowC w1
  have hr0 : Kd.C (Kd.int .i64) w a0 l0.length l0 := Kd.C_of_reads (d := (0 : Int)) (h1 := fun _ => rfl) hr0
  have hr1 : Kd.C (Kd.int .i64) w a1 l1.length l1 := Kd.C_of_reads (d := (0 : Int)) (h1 := fun _ => rfl) hr1
  have HR := Aside0.mk hr0
  have HR1 := Aside0.mk hr1
  have hlen : l0.length ≤ 9223372036854775807 := by omega
  have hlen1 : l1.length ≤ 9223372036854775807 := by omega
  clear hr0 hw0 hc0 hm0 w0 hr1 hw1 hc1 hm1 w1
  go_enter Try.func6, Try.ntmps6
  go_wp2_with (first | (go_at_call 11; refine (known_calls _).mono ?_; rintro e w1 ⟨rfl, hb⟩; have HB := Aside0.mk hb; clear hb))
  go_wp2_with fail
  refine (new_calls 50 _ (by decide)).mono ?_
  rintro e wn ⟨g, hg, rfl, hl, hB⟩
  have HL0 := Aside0.mk hl
  have HB2 : Aside0 (Below w.heap.size w wn) := ⟨HB.out.trans (hB.mono HB.out.size)⟩
  have HG : Aside0 (w.heap.size ≤ g) := ⟨Nat.le_trans HB.out.size hg⟩
  clear hl hB hg HB
  go_wp2_with fail
  refine (rnew_calls 50 _).mono ?_
  rintro e wm ⟨g2, hg, rfl, hl, hB⟩
  have HRf0 := Aside0.mk hl
  have HL1 : Aside0 (Led g 0 0 50 wm) := ⟨blk_below HL0.out hB⟩
  have HNE : Aside0 (g ≠ g2) := ⟨by have := blk_lt HL0.out; omega⟩
  have HG2 : Aside0 (w.heap.size ≤ g2) := ⟨Nat.le_trans HB2.out.size hg⟩
  have HB3 : Aside0 (Below w.heap.size w wm) := ⟨HB2.out.trans (hB.mono HB2.out.size)⟩
  clear hl hB hg HB2 HL0
  go_wp2_with fail
  refine (new_calls 20 _ (by decide)).mono ?_
  rintro e wo ⟨g3, hg, rfl, hl, hB⟩
  have HO := Aside0.mk hl
  have HL : Aside0 (Led g 0 0 50 wo) := ⟨blk_below HL1.out hB⟩
  have HRf : Aside0 (Ref g2 50 0 0 wo) := ⟨blk_below HRf0.out hB⟩
  have HNE1 : Aside0 (g ≠ g3) := ⟨by have := blk_lt HL1.out; omega⟩
  have HNE2 : Aside0 (g2 ≠ g3) := ⟨by have := blk_lt HRf0.out; omega⟩
  have HG3 : Aside0 (w.heap.size ≤ g3) := ⟨Nat.le_trans HB3.out.size hg⟩
  have HB4 : Aside0 (Below w.heap.size w wo) := ⟨HB3.out.trans (hB.mono HB3.out.size)⟩
  clear hl hB hg HB3 HL1 HRf0
  go_wp2
  go_loopw [8] (fun i wr => ∃ (k : Nat) (u h u3 h3 : Int), k ≤ l0.length ∧ i = .int .i64 k ∧ 0 ≤ u ∧ u ≤ 50 ∧ u ≤ h ∧ 0 ≤ u3 ∧ u3 ≤ 20 ∧ u3 ≤ h3 ∧ Aside0 (Led g u h 50 wr) ∧ Aside0 (Ref g2 50 u h wr) ∧ Aside0 (Led g3 u3 h3 20 wr) ∧ Aside0 (Below w.heap.size w wr)) (fun i _ => l0.length - (intOf i).toNat)
  case atStart => exact ⟨0, 0, 0, 0, 0, Nat.zero_le _, rfl, by decide, by decide, by decide, by decide, by decide, by decide, HL, HRf, HO, HB4⟩
  case round =>
    clear HL HRf HO HB4
    obtain ⟨k, u, h, u3, h3, hk, rfl, hu0, hu1, huh, hv0, hv1, hvh, HL, HRf, HO, HB⟩ := hrel
    by_cases hlt : k < l0.length
    · have c1 : decide (k < l0.length) = true := decide_eq_true hlt
      by_cases h60 : k < 40
      · have c2 : decide ((k : Int) < 40) = true := decide_eq_true (by omega)
        by_cases hlm : k < l1.length
        · have c5 : decide (k < l1.length) = true := decide_eq_true hlm
          have HC1 := Aside0.mk (Kd.C_below HR1.out HB.out)
          obtain ⟨ad1, x1, rfl, hcx1, hxm⟩ := cell_int HC1.out k hlm
          clear hxm
          have hbl1 : ad1.block < w.heap.size := by
            obtain ⟨ad', x', e', hc', _⟩ := cell_int HR1.out k hlm
            cases e'
            have := World.block_lt_of_cell? w _ hc'
            rwa [show (ad1.add k).block = ad1.block from by unfold Addr.add; split <;> rfl] at this
          have hbk1 : (ad1.add k).block = ad1.block := by unfold Addr.add; split <;> rfl
          have HN1 : Aside0 ((ad1.add k).block ≠ g3) := ⟨by have := HG3.out; omega⟩
          clear hbk1 hbl1
          go_wp2_with fail
          refine (within_some _ 9 _ (by decide) (by decide)).mono ?_
          rintro e w' ⟨q1, rfl, hq0, hq1, rfl⟩
          go_wp2_with fail
          refine (take_any g3 u3 h3 20 q1 _ HO.out (by omega) (by omega) (by omega) (by omega)).mono ?_
          rintro e wp ⟨b1, v3, t3, rfl, hl, hp0, hp1, hp2, hs⟩
          have HOp := Aside0.mk hl
          have HSp := Aside0.mk hs
          have hcy := keep_cell hs.1 hcx1 HN1.out
          clear hl hs hcx1
          go_wp2_with fail
          refine (within_some _ 9 _ (by decide) (by decide)).mono ?_
          rintro e w' ⟨q2, rfl, hq2, hq3, rfl⟩
          go_wp2_with fail
          refine (give_any g3 v3 t3 20 q2 _ HOp.out (by omega) (by omega) (by omega) (by omega)).mono ?_
          rintro e wq ⟨b2, v4, t4, rfl, hl, hr0, hr1, hr2, hs⟩
          have HOq := Aside0.mk hl
          have HSq := Aside0.mk hs
          clear hl hs hcy
          have HLq : Aside0 (Led g u h 50 wq) := ⟨HSq.out.1.blk (HSp.out.1.blk HL.out HNE1.out (by simp)) HNE1.out (by simp)⟩
          have HRq : Aside0 (Ref g2 50 u h wq) := ⟨HSq.out.1.blk (HSp.out.1.blk HRf.out HNE2.out (by simp)) HNE2.out (by simp)⟩
          have HBq : Aside0 (Below w.heap.size w wq) := ⟨(HB.out.trans (HSp.out.2 _ HG3.out)).trans (HSq.out.2 _ HG3.out)⟩
          have HC := Aside0.mk (Kd.C_below HR.out HBq.out)
          obtain ⟨ad, x, rfl, hcx, hxm⟩ := cell_int HC.out k hlt
          clear hxm HC1
          have hbl : ad.block < w.heap.size := by
            obtain ⟨ad', x', e', hc', _⟩ := cell_int HR.out k hlt
            cases e'
            have := World.block_lt_of_cell? w _ hc'
            rwa [show (ad.add k).block = ad.block from by unfold Addr.add; split <;> rfl] at this
          have hbk : (ad.add k).block = ad.block := by unfold Addr.add; split <;> rfl
          have HNg : Aside0 ((ad.add k).block ≠ g) := ⟨by have := HG.out; omega⟩
          have HNg2 : Aside0 ((ad.add k).block ≠ g2) := ⟨by have := HG2.out; omega⟩
          clear hbk hbl
          obtain ⟨z, hz⟩ : ∃ z, within x 20 = z := ⟨_, rfl⟩
          obtain ⟨y, hy⟩ : ∃ y, within (IntKind.i64.wrap (x.tdiv 20)) 20 = y := ⟨_, rfl⟩
          have hz0 : 0 ≤ z := hz ▸ (within_range x 20 (by decide)).1
          have hy0 : 0 ≤ y := hy ▸ (within_range (IntKind.i64.wrap (x.tdiv 20)) 20 (by decide)).1
          have HLr : Aside0 (Led g u h 50 wq.drew) := ⟨HLq.out⟩
          have hmx : u + z ≤ mx h (u + z) := by unfold mx; split <;> omega
          have hmx2 : h ≤ mx h (u + z) := by unfold mx; split <;> omega
          go_wp2
          by_cases ht : z ≤ 50 - u
          · by_cases hgv : y ≤ u + z
            · go_region_held3 (fun w' => w'.cell? (ad.add k) = some (.int .i64 x)) (go_keep)
                (first
                  | (go_at_call 12; (with_reducible refine (within_at x 20 z hz _ (by decide) (by decide)).mono ?_); rintro e w' ⟨rfl, rfl⟩)
                  | (go_at_call 12; (with_reducible refine (within_at (IntKind.i64.wrap (x.tdiv 20)) 20 y hy _ (by decide) (by decide)).mono ?_); rintro e w' ⟨rfl, rfl⟩)
                  | (go_at_call 15; (with_reducible refine (take_yes g u h 50 z _ HLr.out (by omega) (by omega) (by omega) (by omega) (by omega)).mono ?_); rintro e wA ⟨rfl, hl, hs⟩; have hcxa := keep_cell hs.1 (by assumption : World.cell? _ (ad.add k) = some (.int .i64 x)) HNg.out; have HLa := Aside0.mk hl; have HRa : Aside0 (Ref g2 50 u h wA) := ⟨hs.1.blk (show Ref g2 50 u h _ from HRq.out) (Ne.symm HNE.out) (by simp)⟩; have HSa := Aside0.mk hs; clear hl hs)
                  | (go_at_call 16; (with_reducible refine (rtake_yes g2 u h 50 z _ HRa.out (by omega) (by omega) (by omega) (by omega) (by omega)).mono ?_); rintro e wB ⟨rfl, hl, hs⟩; have hcxb := keep_cell hs.1 (by assumption : World.cell? _ (ad.add k) = some (.int .i64 x)) HNg2.out; have HRb := Aside0.mk hl; have HLb : Aside0 (Led g (u + z) (mx h (u + z)) 50 wB) := ⟨hs.1.blk (show Led g (u + z) (mx h (u + z)) 50 _ from HLa.out) HNE.out (by simp)⟩; have HSb := Aside0.mk hs; clear hl hs)
                  | (go_at_call 17; (with_reducible refine (give_yes g (u + z) (mx h (u + z)) 50 y _ HLb.out (by omega) (by omega) (by omega) (by omega) (by omega)).mono ?_); rintro e wC ⟨rfl, hl, hs⟩; have hcxc := keep_cell hs.1 (by assumption : World.cell? _ (ad.add k) = some (.int .i64 x)) HNg.out; have HLc := Aside0.mk hl; have HRc : Aside0 (Ref g2 50 (u + z) (mx h (u + z)) wC) := ⟨hs.1.blk (show Ref g2 50 (u + z) (mx h (u + z)) _ from HRb.out) (Ne.symm HNE.out) (by simp)⟩; have HSc := Aside0.mk hs; clear hl hs)
                  | (go_at_call 18; (with_reducible refine (rgive_yes g2 (u + z) (mx h (u + z)) 50 y _ HRc.out (by omega) (by omega) (by omega) (by omega)).mono ?_); rintro e wD ⟨rfl, hl, hs⟩; have hcxd := keep_cell hs.1 (by assumption : World.cell? _ (ad.add k) = some (.int .i64 x)) HNg2.out; have HRd := Aside0.mk hl; have HLd : Aside0 (Led g ((u + z) - y) (mx h (u + z)) 50 wD) := ⟨hs.1.blk (show Led g ((u + z) - y) (mx h (u + z)) 50 _ from HLc.out) HNE.out (by simp)⟩; have HSd := Aside0.mk hs; clear hl hs)
                  | (go_at_call 19; (with_reducible refine (used_calls g ((u + z) - y) (mx h (u + z)) 50 _ HLd.out).mono ?_); rintro e w' ⟨rfl, rfl⟩)
                  | (go_at_call 20; (with_reducible refine (rused_calls g2 ((u + z) - y) (mx h (u + z)) 50 _ HRd.out).mono ?_); rintro e w' ⟨rfl, rfl⟩))
              go_wp2
              go_roundw
              case rel => exact ⟨k + 1, ((u + z) - y), (mx h (u + z)), v4, t4, by omega, by go_num, by omega, by omega, by omega, by omega, by omega, by omega, HLd, HRd, ⟨HSd.out.1.blk (HSc.out.1.blk (HSb.out.1.blk (HSa.out.1.blk (show Led g3 v4 t4 20 wq.drew from HOq.out) (Ne.symm HNE1.out) (by simp)) (Ne.symm HNE2.out) (by simp)) (Ne.symm HNE1.out) (by simp)) (Ne.symm HNE2.out) (by simp)⟩, ⟨((((below_drew1 HBq.out).trans (HSa.out.2 _ HG.out)).trans (HSb.out.2 _ HG2.out)).trans (HSc.out.2 _ HG.out)).trans (HSd.out.2 _ HG2.out)⟩⟩
              case measure => simp [intOf]; omega
            · go_region_held3 (fun w' => w'.cell? (ad.add k) = some (.int .i64 x)) (go_keep)
                (first
                  | (go_at_call 12; (with_reducible refine (within_at x 20 z hz _ (by decide) (by decide)).mono ?_); rintro e w' ⟨rfl, rfl⟩)
                  | (go_at_call 12; (with_reducible refine (within_at (IntKind.i64.wrap (x.tdiv 20)) 20 y hy _ (by decide) (by decide)).mono ?_); rintro e w' ⟨rfl, rfl⟩)
                  | (go_at_call 15; (with_reducible refine (take_yes g u h 50 z _ HLr.out (by omega) (by omega) (by omega) (by omega) (by omega)).mono ?_); rintro e wA ⟨rfl, hl, hs⟩; have hcxa := keep_cell hs.1 (by assumption : World.cell? _ (ad.add k) = some (.int .i64 x)) HNg.out; have HLa := Aside0.mk hl; have HRa : Aside0 (Ref g2 50 u h wA) := ⟨hs.1.blk (show Ref g2 50 u h _ from HRq.out) (Ne.symm HNE.out) (by simp)⟩; have HSa := Aside0.mk hs; clear hl hs)
                  | (go_at_call 16; (with_reducible refine (rtake_yes g2 u h 50 z _ HRa.out (by omega) (by omega) (by omega) (by omega) (by omega)).mono ?_); rintro e wB ⟨rfl, hl, hs⟩; have hcxb := keep_cell hs.1 (by assumption : World.cell? _ (ad.add k) = some (.int .i64 x)) HNg2.out; have HRb := Aside0.mk hl; have HLb : Aside0 (Led g (u + z) (mx h (u + z)) 50 wB) := ⟨hs.1.blk (show Led g (u + z) (mx h (u + z)) 50 _ from HLa.out) HNE.out (by simp)⟩; have HSb := Aside0.mk hs; clear hl hs)
                  | (go_at_call 17; (with_reducible refine (give_no g (u + z) (mx h (u + z)) 50 y _ HLb.out (by omega) (by omega) (by omega) (by omega)).mono ?_); rintro e wC ⟨rfl, hl, hs⟩; have hcxc := keep_cell hs.1 (by assumption : World.cell? _ (ad.add k) = some (.int .i64 x)) HNg.out; have HLc := Aside0.mk hl; have HRc : Aside0 (Ref g2 50 (u + z) (mx h (u + z)) wC) := ⟨hs.1.blk (show Ref g2 50 (u + z) (mx h (u + z)) _ from HRb.out) (Ne.symm HNE.out) (by simp)⟩; have HSc := Aside0.mk hs; clear hl hs)
                  | (go_at_call 18; (with_reducible refine (rgive_no g2 (u + z) (mx h (u + z)) 50 y _ HRc.out (by omega) (by omega) (by omega)).mono ?_); rintro e wD ⟨rfl, hl, hs⟩; have hcxd := keep_cell hs.1 (by assumption : World.cell? _ (ad.add k) = some (.int .i64 x)) HNg2.out; have HRd := Aside0.mk hl; have HLd : Aside0 (Led g (u + z) (mx h (u + z)) 50 wD) := ⟨hs.1.blk (show Led g (u + z) (mx h (u + z)) 50 _ from HLc.out) HNE.out (by simp)⟩; have HSd := Aside0.mk hs; clear hl hs)
                  | (go_at_call 19; (with_reducible refine (used_calls g (u + z) (mx h (u + z)) 50 _ HLd.out).mono ?_); rintro e w' ⟨rfl, rfl⟩)
                  | (go_at_call 20; (with_reducible refine (rused_calls g2 (u + z) (mx h (u + z)) 50 _ HRd.out).mono ?_); rintro e w' ⟨rfl, rfl⟩))
              go_wp2
              go_roundw
              case rel => exact ⟨k + 1, (u + z), (mx h (u + z)), v4, t4, by omega, by go_num, by omega, by omega, by omega, by omega, by omega, by omega, HLd, HRd, ⟨HSd.out.1.blk (HSc.out.1.blk (HSb.out.1.blk (HSa.out.1.blk (show Led g3 v4 t4 20 wq.drew from HOq.out) (Ne.symm HNE1.out) (by simp)) (Ne.symm HNE2.out) (by simp)) (Ne.symm HNE1.out) (by simp)) (Ne.symm HNE2.out) (by simp)⟩, ⟨((((below_drew1 HBq.out).trans (HSa.out.2 _ HG.out)).trans (HSb.out.2 _ HG2.out)).trans (HSc.out.2 _ HG.out)).trans (HSd.out.2 _ HG2.out)⟩⟩
              case measure => simp [intOf]; omega
          · by_cases hgv : y ≤ u
            · go_region_held3 (fun w' => w'.cell? (ad.add k) = some (.int .i64 x)) (go_keep)
                (first
                  | (go_at_call 12; (with_reducible refine (within_at x 20 z hz _ (by decide) (by decide)).mono ?_); rintro e w' ⟨rfl, rfl⟩)
                  | (go_at_call 12; (with_reducible refine (within_at (IntKind.i64.wrap (x.tdiv 20)) 20 y hy _ (by decide) (by decide)).mono ?_); rintro e w' ⟨rfl, rfl⟩)
                  | (go_at_call 15; (with_reducible refine (take_no g u h 50 z _ HLr.out (by omega) (by omega) (by omega) (by omega)).mono ?_); rintro e wA ⟨rfl, hl, hs⟩; have hcxa := keep_cell hs.1 (by assumption : World.cell? _ (ad.add k) = some (.int .i64 x)) HNg.out; have HLa := Aside0.mk hl; have HRa : Aside0 (Ref g2 50 u h wA) := ⟨hs.1.blk (show Ref g2 50 u h _ from HRq.out) (Ne.symm HNE.out) (by simp)⟩; have HSa := Aside0.mk hs; clear hl hs)
                  | (go_at_call 16; (with_reducible refine (rtake_no g2 u h 50 z _ HRa.out (by omega) (by omega) (by omega) (by omega)).mono ?_); rintro e wB ⟨rfl, hl, hs⟩; have hcxb := keep_cell hs.1 (by assumption : World.cell? _ (ad.add k) = some (.int .i64 x)) HNg2.out; have HRb := Aside0.mk hl; have HLb : Aside0 (Led g u h 50 wB) := ⟨hs.1.blk (show Led g u h 50 _ from HLa.out) HNE.out (by simp)⟩; have HSb := Aside0.mk hs; clear hl hs)
                  | (go_at_call 17; (with_reducible refine (give_yes g u h 50 y _ HLb.out (by omega) (by omega) (by omega) (by omega) (by omega)).mono ?_); rintro e wC ⟨rfl, hl, hs⟩; have hcxc := keep_cell hs.1 (by assumption : World.cell? _ (ad.add k) = some (.int .i64 x)) HNg.out; have HLc := Aside0.mk hl; have HRc : Aside0 (Ref g2 50 u h wC) := ⟨hs.1.blk (show Ref g2 50 u h _ from HRb.out) (Ne.symm HNE.out) (by simp)⟩; have HSc := Aside0.mk hs; clear hl hs)
                  | (go_at_call 18; (with_reducible refine (rgive_yes g2 u h 50 y _ HRc.out (by omega) (by omega) (by omega) (by omega)).mono ?_); rintro e wD ⟨rfl, hl, hs⟩; have hcxd := keep_cell hs.1 (by assumption : World.cell? _ (ad.add k) = some (.int .i64 x)) HNg2.out; have HRd := Aside0.mk hl; have HLd : Aside0 (Led g (u - y) h 50 wD) := ⟨hs.1.blk (show Led g (u - y) h 50 _ from HLc.out) HNE.out (by simp)⟩; have HSd := Aside0.mk hs; clear hl hs)
                  | (go_at_call 19; (with_reducible refine (used_calls g (u - y) h 50 _ HLd.out).mono ?_); rintro e w' ⟨rfl, rfl⟩)
                  | (go_at_call 20; (with_reducible refine (rused_calls g2 (u - y) h 50 _ HRd.out).mono ?_); rintro e w' ⟨rfl, rfl⟩))
              go_wp2
              go_roundw
              case rel => exact ⟨k + 1, (u - y), h, v4, t4, by omega, by go_num, by omega, by omega, by omega, by omega, by omega, by omega, HLd, HRd, ⟨HSd.out.1.blk (HSc.out.1.blk (HSb.out.1.blk (HSa.out.1.blk (show Led g3 v4 t4 20 wq.drew from HOq.out) (Ne.symm HNE1.out) (by simp)) (Ne.symm HNE2.out) (by simp)) (Ne.symm HNE1.out) (by simp)) (Ne.symm HNE2.out) (by simp)⟩, ⟨((((below_drew1 HBq.out).trans (HSa.out.2 _ HG.out)).trans (HSb.out.2 _ HG2.out)).trans (HSc.out.2 _ HG.out)).trans (HSd.out.2 _ HG2.out)⟩⟩
              case measure => simp [intOf]; omega
            · go_region_held3 (fun w' => w'.cell? (ad.add k) = some (.int .i64 x)) (go_keep)
                (first
                  | (go_at_call 12; (with_reducible refine (within_at x 20 z hz _ (by decide) (by decide)).mono ?_); rintro e w' ⟨rfl, rfl⟩)
                  | (go_at_call 12; (with_reducible refine (within_at (IntKind.i64.wrap (x.tdiv 20)) 20 y hy _ (by decide) (by decide)).mono ?_); rintro e w' ⟨rfl, rfl⟩)
                  | (go_at_call 15; (with_reducible refine (take_no g u h 50 z _ HLr.out (by omega) (by omega) (by omega) (by omega)).mono ?_); rintro e wA ⟨rfl, hl, hs⟩; have hcxa := keep_cell hs.1 (by assumption : World.cell? _ (ad.add k) = some (.int .i64 x)) HNg.out; have HLa := Aside0.mk hl; have HRa : Aside0 (Ref g2 50 u h wA) := ⟨hs.1.blk (show Ref g2 50 u h _ from HRq.out) (Ne.symm HNE.out) (by simp)⟩; have HSa := Aside0.mk hs; clear hl hs)
                  | (go_at_call 16; (with_reducible refine (rtake_no g2 u h 50 z _ HRa.out (by omega) (by omega) (by omega) (by omega)).mono ?_); rintro e wB ⟨rfl, hl, hs⟩; have hcxb := keep_cell hs.1 (by assumption : World.cell? _ (ad.add k) = some (.int .i64 x)) HNg2.out; have HRb := Aside0.mk hl; have HLb : Aside0 (Led g u h 50 wB) := ⟨hs.1.blk (show Led g u h 50 _ from HLa.out) HNE.out (by simp)⟩; have HSb := Aside0.mk hs; clear hl hs)
                  | (go_at_call 17; (with_reducible refine (give_no g u h 50 y _ HLb.out (by omega) (by omega) (by omega) (by omega)).mono ?_); rintro e wC ⟨rfl, hl, hs⟩; have hcxc := keep_cell hs.1 (by assumption : World.cell? _ (ad.add k) = some (.int .i64 x)) HNg.out; have HLc := Aside0.mk hl; have HRc : Aside0 (Ref g2 50 u h wC) := ⟨hs.1.blk (show Ref g2 50 u h _ from HRb.out) (Ne.symm HNE.out) (by simp)⟩; have HSc := Aside0.mk hs; clear hl hs)
                  | (go_at_call 18; (with_reducible refine (rgive_no g2 u h 50 y _ HRc.out (by omega) (by omega) (by omega)).mono ?_); rintro e wD ⟨rfl, hl, hs⟩; have hcxd := keep_cell hs.1 (by assumption : World.cell? _ (ad.add k) = some (.int .i64 x)) HNg2.out; have HRd := Aside0.mk hl; have HLd : Aside0 (Led g u h 50 wD) := ⟨hs.1.blk (show Led g u h 50 _ from HLc.out) HNE.out (by simp)⟩; have HSd := Aside0.mk hs; clear hl hs)
                  | (go_at_call 19; (with_reducible refine (used_calls g u h 50 _ HLd.out).mono ?_); rintro e w' ⟨rfl, rfl⟩)
                  | (go_at_call 20; (with_reducible refine (rused_calls g2 u h 50 _ HRd.out).mono ?_); rintro e w' ⟨rfl, rfl⟩))
              go_wp2
              go_roundw
              case rel => exact ⟨k + 1, u, h, v4, t4, by omega, by go_num, by omega, by omega, by omega, by omega, by omega, by omega, HLd, HRd, ⟨HSd.out.1.blk (HSc.out.1.blk (HSb.out.1.blk (HSa.out.1.blk (show Led g3 v4 t4 20 wq.drew from HOq.out) (Ne.symm HNE1.out) (by simp)) (Ne.symm HNE2.out) (by simp)) (Ne.symm HNE1.out) (by simp)) (Ne.symm HNE2.out) (by simp)⟩, ⟨((((below_drew1 HBq.out).trans (HSa.out.2 _ HG.out)).trans (HSb.out.2 _ HG2.out)).trans (HSc.out.2 _ HG.out)).trans (HSd.out.2 _ HG2.out)⟩⟩
              case measure => simp [intOf]; omega
        · have c5 : decide (k < l1.length) = false := decide_eq_false hlm
          have HC := Aside0.mk (Kd.C_below HR.out HB.out)
          obtain ⟨ad, x, rfl, hcx, hxm⟩ := cell_int HC.out k hlt
          clear hxm
          have hbl : ad.block < w.heap.size := by
            obtain ⟨ad', x', e', hc', _⟩ := cell_int HR.out k hlt
            cases e'
            have := World.block_lt_of_cell? w _ hc'
            rwa [show (ad.add k).block = ad.block from by unfold Addr.add; split <;> rfl] at this
          have hbk : (ad.add k).block = ad.block := by unfold Addr.add; split <;> rfl
          have HNg : Aside0 ((ad.add k).block ≠ g) := ⟨by have := HG.out; omega⟩
          have HNg2 : Aside0 ((ad.add k).block ≠ g2) := ⟨by have := HG2.out; omega⟩
          clear hbk hbl
          obtain ⟨z, hz⟩ : ∃ z, within x 20 = z := ⟨_, rfl⟩
          obtain ⟨y, hy⟩ : ∃ y, within (IntKind.i64.wrap (x.tdiv 20)) 20 = y := ⟨_, rfl⟩
          have hz0 : 0 ≤ z := hz ▸ (within_range x 20 (by decide)).1
          have hy0 : 0 ≤ y := hy ▸ (within_range (IntKind.i64.wrap (x.tdiv 20)) 20 (by decide)).1
          have HLr : Aside0 (Led g u h 50 wr.drew) := ⟨HL.out⟩
          have hmx : u + z ≤ mx h (u + z) := by unfold mx; split <;> omega
          have hmx2 : h ≤ mx h (u + z) := by unfold mx; split <;> omega
          go_wp2
          by_cases ht : z ≤ 50 - u
          · by_cases hgv : y ≤ u + z
            · go_region_held3 (fun w' => w'.cell? (ad.add k) = some (.int .i64 x)) (go_keep)
                (first
                  | (go_at_call 12; (with_reducible refine (within_at x 20 z hz _ (by decide) (by decide)).mono ?_); rintro e w' ⟨rfl, rfl⟩)
                  | (go_at_call 12; (with_reducible refine (within_at (IntKind.i64.wrap (x.tdiv 20)) 20 y hy _ (by decide) (by decide)).mono ?_); rintro e w' ⟨rfl, rfl⟩)
                  | (go_at_call 15; (with_reducible refine (take_yes g u h 50 z _ HLr.out (by omega) (by omega) (by omega) (by omega) (by omega)).mono ?_); rintro e wA ⟨rfl, hl, hs⟩; have hcxa := keep_cell hs.1 (by assumption : World.cell? _ (ad.add k) = some (.int .i64 x)) HNg.out; have HLa := Aside0.mk hl; have HRa : Aside0 (Ref g2 50 u h wA) := ⟨hs.1.blk (show Ref g2 50 u h _ from HRf.out) (Ne.symm HNE.out) (by simp)⟩; have HSa := Aside0.mk hs; clear hl hs)
                  | (go_at_call 16; (with_reducible refine (rtake_yes g2 u h 50 z _ HRa.out (by omega) (by omega) (by omega) (by omega) (by omega)).mono ?_); rintro e wB ⟨rfl, hl, hs⟩; have hcxb := keep_cell hs.1 (by assumption : World.cell? _ (ad.add k) = some (.int .i64 x)) HNg2.out; have HRb := Aside0.mk hl; have HLb : Aside0 (Led g (u + z) (mx h (u + z)) 50 wB) := ⟨hs.1.blk (show Led g (u + z) (mx h (u + z)) 50 _ from HLa.out) HNE.out (by simp)⟩; have HSb := Aside0.mk hs; clear hl hs)
                  | (go_at_call 17; (with_reducible refine (give_yes g (u + z) (mx h (u + z)) 50 y _ HLb.out (by omega) (by omega) (by omega) (by omega) (by omega)).mono ?_); rintro e wC ⟨rfl, hl, hs⟩; have hcxc := keep_cell hs.1 (by assumption : World.cell? _ (ad.add k) = some (.int .i64 x)) HNg.out; have HLc := Aside0.mk hl; have HRc : Aside0 (Ref g2 50 (u + z) (mx h (u + z)) wC) := ⟨hs.1.blk (show Ref g2 50 (u + z) (mx h (u + z)) _ from HRb.out) (Ne.symm HNE.out) (by simp)⟩; have HSc := Aside0.mk hs; clear hl hs)
                  | (go_at_call 18; (with_reducible refine (rgive_yes g2 (u + z) (mx h (u + z)) 50 y _ HRc.out (by omega) (by omega) (by omega) (by omega)).mono ?_); rintro e wD ⟨rfl, hl, hs⟩; have hcxd := keep_cell hs.1 (by assumption : World.cell? _ (ad.add k) = some (.int .i64 x)) HNg2.out; have HRd := Aside0.mk hl; have HLd : Aside0 (Led g ((u + z) - y) (mx h (u + z)) 50 wD) := ⟨hs.1.blk (show Led g ((u + z) - y) (mx h (u + z)) 50 _ from HLc.out) HNE.out (by simp)⟩; have HSd := Aside0.mk hs; clear hl hs)
                  | (go_at_call 19; (with_reducible refine (used_calls g ((u + z) - y) (mx h (u + z)) 50 _ HLd.out).mono ?_); rintro e w' ⟨rfl, rfl⟩)
                  | (go_at_call 20; (with_reducible refine (rused_calls g2 ((u + z) - y) (mx h (u + z)) 50 _ HRd.out).mono ?_); rintro e w' ⟨rfl, rfl⟩))
              go_wp2
              go_roundw
              case rel => exact ⟨k + 1, ((u + z) - y), (mx h (u + z)), u3, h3, by omega, by go_num, by omega, by omega, by omega, by omega, by omega, by omega, HLd, HRd, ⟨HSd.out.1.blk (HSc.out.1.blk (HSb.out.1.blk (HSa.out.1.blk (show Led g3 u3 h3 20 wr.drew from HO.out) (Ne.symm HNE1.out) (by simp)) (Ne.symm HNE2.out) (by simp)) (Ne.symm HNE1.out) (by simp)) (Ne.symm HNE2.out) (by simp)⟩, ⟨((((below_drew1 HB.out).trans (HSa.out.2 _ HG.out)).trans (HSb.out.2 _ HG2.out)).trans (HSc.out.2 _ HG.out)).trans (HSd.out.2 _ HG2.out)⟩⟩
              case measure => simp [intOf]; omega
            · go_region_held3 (fun w' => w'.cell? (ad.add k) = some (.int .i64 x)) (go_keep)
                (first
                  | (go_at_call 12; (with_reducible refine (within_at x 20 z hz _ (by decide) (by decide)).mono ?_); rintro e w' ⟨rfl, rfl⟩)
                  | (go_at_call 12; (with_reducible refine (within_at (IntKind.i64.wrap (x.tdiv 20)) 20 y hy _ (by decide) (by decide)).mono ?_); rintro e w' ⟨rfl, rfl⟩)
                  | (go_at_call 15; (with_reducible refine (take_yes g u h 50 z _ HLr.out (by omega) (by omega) (by omega) (by omega) (by omega)).mono ?_); rintro e wA ⟨rfl, hl, hs⟩; have hcxa := keep_cell hs.1 (by assumption : World.cell? _ (ad.add k) = some (.int .i64 x)) HNg.out; have HLa := Aside0.mk hl; have HRa : Aside0 (Ref g2 50 u h wA) := ⟨hs.1.blk (show Ref g2 50 u h _ from HRf.out) (Ne.symm HNE.out) (by simp)⟩; have HSa := Aside0.mk hs; clear hl hs)
                  | (go_at_call 16; (with_reducible refine (rtake_yes g2 u h 50 z _ HRa.out (by omega) (by omega) (by omega) (by omega) (by omega)).mono ?_); rintro e wB ⟨rfl, hl, hs⟩; have hcxb := keep_cell hs.1 (by assumption : World.cell? _ (ad.add k) = some (.int .i64 x)) HNg2.out; have HRb := Aside0.mk hl; have HLb : Aside0 (Led g (u + z) (mx h (u + z)) 50 wB) := ⟨hs.1.blk (show Led g (u + z) (mx h (u + z)) 50 _ from HLa.out) HNE.out (by simp)⟩; have HSb := Aside0.mk hs; clear hl hs)
                  | (go_at_call 17; (with_reducible refine (give_no g (u + z) (mx h (u + z)) 50 y _ HLb.out (by omega) (by omega) (by omega) (by omega)).mono ?_); rintro e wC ⟨rfl, hl, hs⟩; have hcxc := keep_cell hs.1 (by assumption : World.cell? _ (ad.add k) = some (.int .i64 x)) HNg.out; have HLc := Aside0.mk hl; have HRc : Aside0 (Ref g2 50 (u + z) (mx h (u + z)) wC) := ⟨hs.1.blk (show Ref g2 50 (u + z) (mx h (u + z)) _ from HRb.out) (Ne.symm HNE.out) (by simp)⟩; have HSc := Aside0.mk hs; clear hl hs)
                  | (go_at_call 18; (with_reducible refine (rgive_no g2 (u + z) (mx h (u + z)) 50 y _ HRc.out (by omega) (by omega) (by omega)).mono ?_); rintro e wD ⟨rfl, hl, hs⟩; have hcxd := keep_cell hs.1 (by assumption : World.cell? _ (ad.add k) = some (.int .i64 x)) HNg2.out; have HRd := Aside0.mk hl; have HLd : Aside0 (Led g (u + z) (mx h (u + z)) 50 wD) := ⟨hs.1.blk (show Led g (u + z) (mx h (u + z)) 50 _ from HLc.out) HNE.out (by simp)⟩; have HSd := Aside0.mk hs; clear hl hs)
                  | (go_at_call 19; (with_reducible refine (used_calls g (u + z) (mx h (u + z)) 50 _ HLd.out).mono ?_); rintro e w' ⟨rfl, rfl⟩)
                  | (go_at_call 20; (with_reducible refine (rused_calls g2 (u + z) (mx h (u + z)) 50 _ HRd.out).mono ?_); rintro e w' ⟨rfl, rfl⟩))
              go_wp2
              go_roundw
              case rel => exact ⟨k + 1, (u + z), (mx h (u + z)), u3, h3, by omega, by go_num, by omega, by omega, by omega, by omega, by omega, by omega, HLd, HRd, ⟨HSd.out.1.blk (HSc.out.1.blk (HSb.out.1.blk (HSa.out.1.blk (show Led g3 u3 h3 20 wr.drew from HO.out) (Ne.symm HNE1.out) (by simp)) (Ne.symm HNE2.out) (by simp)) (Ne.symm HNE1.out) (by simp)) (Ne.symm HNE2.out) (by simp)⟩, ⟨((((below_drew1 HB.out).trans (HSa.out.2 _ HG.out)).trans (HSb.out.2 _ HG2.out)).trans (HSc.out.2 _ HG.out)).trans (HSd.out.2 _ HG2.out)⟩⟩
              case measure => simp [intOf]; omega
          · by_cases hgv : y ≤ u
            · go_region_held3 (fun w' => w'.cell? (ad.add k) = some (.int .i64 x)) (go_keep)
                (first
                  | (go_at_call 12; (with_reducible refine (within_at x 20 z hz _ (by decide) (by decide)).mono ?_); rintro e w' ⟨rfl, rfl⟩)
                  | (go_at_call 12; (with_reducible refine (within_at (IntKind.i64.wrap (x.tdiv 20)) 20 y hy _ (by decide) (by decide)).mono ?_); rintro e w' ⟨rfl, rfl⟩)
                  | (go_at_call 15; (with_reducible refine (take_no g u h 50 z _ HLr.out (by omega) (by omega) (by omega) (by omega)).mono ?_); rintro e wA ⟨rfl, hl, hs⟩; have hcxa := keep_cell hs.1 (by assumption : World.cell? _ (ad.add k) = some (.int .i64 x)) HNg.out; have HLa := Aside0.mk hl; have HRa : Aside0 (Ref g2 50 u h wA) := ⟨hs.1.blk (show Ref g2 50 u h _ from HRf.out) (Ne.symm HNE.out) (by simp)⟩; have HSa := Aside0.mk hs; clear hl hs)
                  | (go_at_call 16; (with_reducible refine (rtake_no g2 u h 50 z _ HRa.out (by omega) (by omega) (by omega) (by omega)).mono ?_); rintro e wB ⟨rfl, hl, hs⟩; have hcxb := keep_cell hs.1 (by assumption : World.cell? _ (ad.add k) = some (.int .i64 x)) HNg2.out; have HRb := Aside0.mk hl; have HLb : Aside0 (Led g u h 50 wB) := ⟨hs.1.blk (show Led g u h 50 _ from HLa.out) HNE.out (by simp)⟩; have HSb := Aside0.mk hs; clear hl hs)
                  | (go_at_call 17; (with_reducible refine (give_yes g u h 50 y _ HLb.out (by omega) (by omega) (by omega) (by omega) (by omega)).mono ?_); rintro e wC ⟨rfl, hl, hs⟩; have hcxc := keep_cell hs.1 (by assumption : World.cell? _ (ad.add k) = some (.int .i64 x)) HNg.out; have HLc := Aside0.mk hl; have HRc : Aside0 (Ref g2 50 u h wC) := ⟨hs.1.blk (show Ref g2 50 u h _ from HRb.out) (Ne.symm HNE.out) (by simp)⟩; have HSc := Aside0.mk hs; clear hl hs)
                  | (go_at_call 18; (with_reducible refine (rgive_yes g2 u h 50 y _ HRc.out (by omega) (by omega) (by omega) (by omega)).mono ?_); rintro e wD ⟨rfl, hl, hs⟩; have hcxd := keep_cell hs.1 (by assumption : World.cell? _ (ad.add k) = some (.int .i64 x)) HNg2.out; have HRd := Aside0.mk hl; have HLd : Aside0 (Led g (u - y) h 50 wD) := ⟨hs.1.blk (show Led g (u - y) h 50 _ from HLc.out) HNE.out (by simp)⟩; have HSd := Aside0.mk hs; clear hl hs)
                  | (go_at_call 19; (with_reducible refine (used_calls g (u - y) h 50 _ HLd.out).mono ?_); rintro e w' ⟨rfl, rfl⟩)
                  | (go_at_call 20; (with_reducible refine (rused_calls g2 (u - y) h 50 _ HRd.out).mono ?_); rintro e w' ⟨rfl, rfl⟩))
              go_wp2
              go_roundw
              case rel => exact ⟨k + 1, (u - y), h, u3, h3, by omega, by go_num, by omega, by omega, by omega, by omega, by omega, by omega, HLd, HRd, ⟨HSd.out.1.blk (HSc.out.1.blk (HSb.out.1.blk (HSa.out.1.blk (show Led g3 u3 h3 20 wr.drew from HO.out) (Ne.symm HNE1.out) (by simp)) (Ne.symm HNE2.out) (by simp)) (Ne.symm HNE1.out) (by simp)) (Ne.symm HNE2.out) (by simp)⟩, ⟨((((below_drew1 HB.out).trans (HSa.out.2 _ HG.out)).trans (HSb.out.2 _ HG2.out)).trans (HSc.out.2 _ HG.out)).trans (HSd.out.2 _ HG2.out)⟩⟩
              case measure => simp [intOf]; omega
            · go_region_held3 (fun w' => w'.cell? (ad.add k) = some (.int .i64 x)) (go_keep)
                (first
                  | (go_at_call 12; (with_reducible refine (within_at x 20 z hz _ (by decide) (by decide)).mono ?_); rintro e w' ⟨rfl, rfl⟩)
                  | (go_at_call 12; (with_reducible refine (within_at (IntKind.i64.wrap (x.tdiv 20)) 20 y hy _ (by decide) (by decide)).mono ?_); rintro e w' ⟨rfl, rfl⟩)
                  | (go_at_call 15; (with_reducible refine (take_no g u h 50 z _ HLr.out (by omega) (by omega) (by omega) (by omega)).mono ?_); rintro e wA ⟨rfl, hl, hs⟩; have hcxa := keep_cell hs.1 (by assumption : World.cell? _ (ad.add k) = some (.int .i64 x)) HNg.out; have HLa := Aside0.mk hl; have HRa : Aside0 (Ref g2 50 u h wA) := ⟨hs.1.blk (show Ref g2 50 u h _ from HRf.out) (Ne.symm HNE.out) (by simp)⟩; have HSa := Aside0.mk hs; clear hl hs)
                  | (go_at_call 16; (with_reducible refine (rtake_no g2 u h 50 z _ HRa.out (by omega) (by omega) (by omega) (by omega)).mono ?_); rintro e wB ⟨rfl, hl, hs⟩; have hcxb := keep_cell hs.1 (by assumption : World.cell? _ (ad.add k) = some (.int .i64 x)) HNg2.out; have HRb := Aside0.mk hl; have HLb : Aside0 (Led g u h 50 wB) := ⟨hs.1.blk (show Led g u h 50 _ from HLa.out) HNE.out (by simp)⟩; have HSb := Aside0.mk hs; clear hl hs)
                  | (go_at_call 17; (with_reducible refine (give_no g u h 50 y _ HLb.out (by omega) (by omega) (by omega) (by omega)).mono ?_); rintro e wC ⟨rfl, hl, hs⟩; have hcxc := keep_cell hs.1 (by assumption : World.cell? _ (ad.add k) = some (.int .i64 x)) HNg.out; have HLc := Aside0.mk hl; have HRc : Aside0 (Ref g2 50 u h wC) := ⟨hs.1.blk (show Ref g2 50 u h _ from HRb.out) (Ne.symm HNE.out) (by simp)⟩; have HSc := Aside0.mk hs; clear hl hs)
                  | (go_at_call 18; (with_reducible refine (rgive_no g2 u h 50 y _ HRc.out (by omega) (by omega) (by omega)).mono ?_); rintro e wD ⟨rfl, hl, hs⟩; have hcxd := keep_cell hs.1 (by assumption : World.cell? _ (ad.add k) = some (.int .i64 x)) HNg2.out; have HRd := Aside0.mk hl; have HLd : Aside0 (Led g u h 50 wD) := ⟨hs.1.blk (show Led g u h 50 _ from HLc.out) HNE.out (by simp)⟩; have HSd := Aside0.mk hs; clear hl hs)
                  | (go_at_call 19; (with_reducible refine (used_calls g u h 50 _ HLd.out).mono ?_); rintro e w' ⟨rfl, rfl⟩)
                  | (go_at_call 20; (with_reducible refine (rused_calls g2 u h 50 _ HRd.out).mono ?_); rintro e w' ⟨rfl, rfl⟩))
              go_wp2
              go_roundw
              case rel => exact ⟨k + 1, u, h, u3, h3, by omega, by go_num, by omega, by omega, by omega, by omega, by omega, by omega, HLd, HRd, ⟨HSd.out.1.blk (HSc.out.1.blk (HSb.out.1.blk (HSa.out.1.blk (show Led g3 u3 h3 20 wr.drew from HO.out) (Ne.symm HNE1.out) (by simp)) (Ne.symm HNE2.out) (by simp)) (Ne.symm HNE1.out) (by simp)) (Ne.symm HNE2.out) (by simp)⟩, ⟨((((below_drew1 HB.out).trans (HSa.out.2 _ HG.out)).trans (HSb.out.2 _ HG2.out)).trans (HSc.out.2 _ HG.out)).trans (HSd.out.2 _ HG2.out)⟩⟩
              case measure => simp [intOf]; omega
      · have c2 : decide ((k : Int) < 40) = false := decide_eq_false (by omega)
        go_wp2_with fail
        refine (high_calls g u h 50 _ HL.out).mono ?_
        rintro e w' ⟨rfl, rfl⟩
        go_wp2_with fail
        refine (rhigh_calls g2 u h 50 _ HRf.out).mono ?_
        rintro e w' ⟨rfl, rfl⟩
        go_wp2
        go_ret
        exact ⟨by simp, HB.out⟩
    · have c1 : decide (k < l0.length) = false := decide_eq_false hlt
      go_wp2_with fail
      refine (high_calls g u h 50 _ HL.out).mono ?_
      rintro e w' ⟨rfl, rfl⟩
      go_wp2_with fail
      refine (rhigh_calls g2 u h 50 _ HRf.out).mono ?_
      rintro e w' ⟨rfl, rfl⟩
      go_wp2
      go_ret
      exact ⟨by simp, HB.out⟩
end Go.Proofs.Yteecnkappoakcaa.Core
