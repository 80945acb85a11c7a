-- Cut by pack.py, a program of this session; not trusted: Lean checks it.
import Derived.Deep.Draws
import Derived.Tactics
import Derived.Tactics2
import Derived.OwnWalk
import Derived.Outline
import Derived.Lib.Walk
import Derived.Lib.SliceRun
import Derived.Lib.QuietBelow
import Derived.Deep.RegionHeld3
import Derived.Deep.DeepCutAuto
import Derived.Test.YtlplaidcdocbmaaZS3
import Derived.Test.YtlplaidcdocbmaaZM4
/- sorts: the edges of one level. -/
namespace Go.Proofs.Ytlplaidcdocbmaa.Srt
open Go.RowKit Go.Shelf Go.Sort Go.Proofs.Ytlplaidcdocbmaa.Core
open Go.Proofs.YtlplaidcdocbmaaW.PrintWords (Kd encs)
open Go.Proofs.YtlplaidcdocbmaaW
set_option linter.unusedVariables false
set_option linter.unusedSimpArgs false

theorem nats_any {w : World} {base : Nat} {v : Value} {xs : List Nat} (h : w.ownsRow base 3 1 v xs.length (xs.map Core.encI)) : ∃ A c, v = .slice A xs.length c ∧ NatsAt w A xs := by
  rcases h.2 with ⟨rfl, h0⟩ | ⟨g, cap, cur, rfl, _⟩
  · exact ⟨none, 0, by rw [h0], fun i hi => by omega⟩
  · exact ⟨_, _, rfl, nats_own h⟩
theorem level_n {w : World} {A : Option Addr} {c : Nat} {cs : List Int} {ms n : Int} {l : Nat} (hd : cs.length ≤ 4) (hl : l ≤ 10) :
    Calls Try.prog 101 #[.agg #[.slice A cs.length c, .int .i64 ms, .int .i64 n], .int .i64 (l : Int)] w fun e w' =>
      ∃ A' c', e = .returned (.slice A' (lvl cs.length l).length c') ∧ NatsAt w' A' (lvl cs.length l) ∧ Below w.heap.size w w' := by
  refine (level_at hd hl).mono ?_
  rintro e w' ⟨v, rfl, h, hb⟩
  obtain ⟨A', c', rfl, hn⟩ := nats_any h
  exact ⟨A', c', rfl, hn, hb⟩
theorem parents_n {w : World} {s d : Nat} (hs : s < 16) (hd : d ≤ 4) : Calls Try.prog 30 #[.int .i64 (s : Int), .int .i64 (d : Int)] w fun e w' =>
    ∃ A' c', e = .returned (.slice A' (parents s d).length c') ∧ NatsAt w' A' (parents s d) ∧ Below w.heap.size w w' := by
  refine (parents_calls s d hs hd w).mono ?_
  rintro e w' ⟨v, rfl, h, hb⟩
  obtain ⟨A', c', rfl, hn⟩ := nats_any h
  exact ⟨A', c', rfl, hn, hb⟩
def edCells (es : List Ed) : List Value := es.flatMap fun e => [.int .i64 e.set, .int .i64 e.par, .bool e.scan]
theorem enters82 : ∀ args w, (callFunc 82 args).run Try.prog w = .ok (.enter 82 args) w := enters_of Try.func82 (by kernel_rfl) rfl

section
variable {ops : Array Oper} {rest : List Oper} {o : Oper} {a : Act} {Q : Exit → Act → World → Prop}
/-- append(v, z), z a number. -/
theorem wp_app_int (hgd : o.guard = none) (s x : Operand) (ho : o.op = .call { callee := .builtin .append, args := #[s, x], argTypes := #[24, 24] }) {W0 W : World} {v : Value} {n : Nat} {xs : List Value} (hs : a.eval s = v)
    (hx : a.eval x = .slice (some ⟨W.heap.size, 0, none⟩) 1 1) (z : Int) (hn : n ≤ 1000) (HA : Acc W0 3 1 v n xs W) (h : ∀ v' w', Acc W0 3 1 v' (n + 1) (xs ++ [.int .i64 z]) w' → wpList Try.prog ops Q rest (a.put o.dst v') w') :
    wpList Try.prog ops Q (o :: rest) a (W.alloc (.cells #[.int .i64 z] 3)) := by
  obtain ⟨i0, hi, hz0, hz1, hz2⟩ := info_parts info3
  have HA2 := HA.below ((Below.refl _ W).alloc (Nat.le_refl _) (.cells #[.int .i64 z] 3))
  refine wpList_append_own _ hgd s x 24 ho W0.heap.size 3 i0 (.int .i64 0) 1 8 Try.underlying24 hi hz0 hz1 hz2 rfl (by decide) v n xs hs HA2.1 ⟨W.heap.size, 0, none⟩ 1 1 [.int .i64 z] hx rfl (fun j u hj => cell_new1 _ _ rfl _ _ j u hj) (fun u hu => by simp at hu; rw [hu]; rfl) (by unfold maxLen; omega) (by omega) HA2.2.size ?_
  intro v' w' hown hgrow _
  exact h v' w' (HA2.append hown hgrow)
end
theorem cell_far {w : World} {p q : Addr} {u v : Value} (hne : q.block ≠ p.block) (h : w.cell? q = some v) : (w.setCell p u).cell? q = some v := by
  rw [World.cell?_of_block (w := w) (w' := w.setCell p u) (a := q) (Below.heap_setCell w p u q.block hne)]
  exact h
theorem cheap_of {cs : List Int} {n : Int} (h1 : ∀ x ∈ cs, 1 ≤ x) (hn : 0 ≤ n ∧ n ≤ 300) : Cheap (scanC cs n) (sortC cs n) := by
  intro p _
  obtain ⟨b1, b2, _⟩ := sizeI_bd cs h1 n p hn.1
  obtain ⟨_, _, s1, s2⟩ := sort_bd b1 (by omega)
  unfold scanC sortC
  omega
theorem nats_ints {w : World} {base : Nat} {v : Value} {xs : List Nat} {l : List Int} (hl : l = xs.map (fun (k : Nat) => (k : Int))) (h : Kd.R (Kd.int .i64) 3 w base (fun _ => True) v l) : ∃ A c, v = .slice A xs.length c ∧ NatsAt w A xs := by
  have ho := Kd.own_of_R h
  have e1 : encs (Value.int .i64) l = xs.map Core.encI := by rw [hl]; unfold encs; rw [List.map_map]; rfl
  rw [e1, hl, List.length_map] at ho
  exact nats_any ho
theorem cell_new3' (W : World) (x y z : Value) (t : TypeId) (j : Nat) (u : Value) (h : [x, y, z][j]? = some u) : (W.alloc (.cells #[x, y, z] t)).cell? ((⟨W.heap.size, 0, none⟩ : Addr).add j) = some u := cell_new3 W _ rfl x y z t j u h
section
variable {ops : Array Oper} {rest : List Oper} {o : Oper} {a : Act} {Q : Exit → Act → World → Prop}
/-- append(v, e), e an edge. -/
theorem wp_app_edge (hgd : o.guard = none) (s x : Operand) (ho : o.op = .call { callee := .builtin .append, args := #[s, x], argTypes := #[43, 43] }) {W0 W : World} {v : Value} {n : Nat} {xs : List Value} (hs : a.eval s = v)
    (B : Nat) (hB : W.heap.size = B) (hx : a.eval x = .slice (some ⟨B, 0, none⟩) 1 1) (e1 e2 : Int) (e3 : Bool) (hn : n ≤ 1000) (HA : Acc W0 49 3 v n xs W) (h : ∀ v' w', Acc W0 49 3 v' (n + 1) (xs ++ [.int .i64 e1, .int .i64 e2, .bool e3]) w' → wpList Try.prog ops Q rest (a.put o.dst v') w') :
    wpList Try.prog ops Q (o :: rest) a (W.alloc (.cells #[.int .i64 e1, .int .i64 e2, .bool e3] 49)) := by
  subst hB
  obtain ⟨i0, hi, hz0, hz1, hz2⟩ := info_parts info49
  have HA2 := HA.below ((Below.refl _ W).alloc (Nat.le_refl _) (.cells #[.int .i64 e1, .int .i64 e2, .bool e3] 49))
  refine wpList_append_own _ hgd s x 43 ho W0.heap.size 49 i0 (.agg #[.int .i64 0, .int .i64 0, .bool false]) 3 24 Try.underlying43 hi hz0 hz1 hz2 rfl (by decide) v n xs hs HA2.1 ⟨W.heap.size, 0, none⟩ 1 1 [.int .i64 e1, .int .i64 e2, .bool e3] hx rfl (fun j u hj => cell_new3' _ _ _ _ _ j u hj) (fun u hu => by simp at hu; rcases hu with rfl | rfl | rfl <;> rfl) (by unfold maxLen; omega) (by omega) HA2.2.size ?_
  intro v' w' hown hgrow _
  exact h v' w' (HA2.append hown hgrow)
end
theorem any_contains (P : List Nat) (x : Nat) : (P.any fun (y : Nat) => (y : Int) == (x : Int)) = P.contains x := by
  rw [Bool.eq_iff_iff, List.any_eq_true, List.contains_iff_mem]
  constructor
  · rintro ⟨y, hy, e⟩
    have : y = x := by have := beq_iff_eq.1 e; omega
    rw [← this]; exact hy
  · intro h
    exact ⟨x, h, beq_iff_eq.2 rfl⟩
/-- The first k columns of a row. -/
def rowV (sc so : Nat → Int) (d : Nat) (A S : List Nat) (i k : Nat) : List Value := (List.range k).map fun j => .int .i64 (entry sc so d A S i j)
theorem rowV_succ (sc so : Nat → Int) (d : Nat) (A S : List Nat) (i k : Nat) : rowV sc so d A S i (k + 1) = rowV sc so d A S i k ++ [.int .i64 (entry sc so d A S i k)] := by
  unfold rowV; rw [List.range_succ, List.map_append]; rfl
theorem entry_scan {sc so : Nat → Int} {d : Nat} {A S : List Nat} {i k : Nat} (hk : k < A.length) (h : (parents (S.getD i 0) d).contains (A.getD k 0) = true) : entry sc so d A S i k = sc (A.getD k 0) := by
  unfold entry; rw [if_pos hk, if_pos h]
theorem entry_dear {sc so : Nat → Int} {d : Nat} {A S : List Nat} {i k : Nat} (hk : k < A.length) (h : (parents (S.getD i 0) d).contains (A.getD k 0) = false) : entry sc so d A S i k = 1000000 := by
  unfold entry; rw [if_pos hk, if_neg (by rw [h]; simp)]
theorem entry_own {sc so : Nat → Int} {d : Nat} {A S : List Nat} {i k : Nat} (hk : k = i) : entry sc so d A S i (A.length + k) = so (ownP so d (S.getD i 0)) := by
  unfold entry; rw [if_neg (by omega), if_pos (by omega)]
theorem entry_not {sc so : Nat → Int} {d : Nat} {A S : List Nat} {i k : Nat} (hk : k ≠ i) : entry sc so d A S i (A.length + k) = 1000000 := by
  unfold entry; rw [if_neg (by omega), if_neg (by omega)]

theorem info24 : (Try.prog.info? 24).map (fun i => (i.zero, i.size, i.bytes)) = some (some (.slice none 0 0), 1, 24) := by kernel_rfl
theorem store_new (W : World) (x v : Value) (t : TypeId) (h1 : v.oneCell' = true) : (store ⟨W.heap.size, 0, none⟩ v).run Try.prog (W.alloc (.cells #[x] t)) = .ok () (W.alloc (.cells #[v] t)) := by
  have hb : (W.alloc (.cells #[x] t)).heap[W.heap.size]? = some (.cells #[x] t (0, 0)) := World.alloc_heap_new W _
  have hst := run_store Try.prog (W.alloc (.cells #[x] t)) ⟨W.heap.size, 0, none⟩ v .plain h1
  rw [show (W.alloc (.cells #[x] t)).cell? ⟨W.heap.size, 0, none⟩ = some x by simp only [World.cell?, hb]; rfl] at hst
  simp only [show (W.alloc (.cells #[x] t)).frozen? ⟨W.heap.size, 0, none⟩ = false by simp only [World.frozen?, hb]; rfl] at hst
  have hh : ((W.alloc (.cells #[x] t)).setCell ⟨W.heap.size, 0, none⟩ v).heap = (W.alloc (.cells #[v] t)).heap := by
    apply Array.ext_getElem?
    intro k
    by_cases hk : k = W.heap.size
    · subst hk
      rw [setCell_same' hb v]
      exact (World.alloc_heap_new W _).symm
    · rw [Below.heap_setCell _ _ _ _ hk, alloc_get, alloc_get, if_neg hk, if_neg hk]
  have e : (W.alloc (.cells #[x] t)).setCell ⟨W.heap.size, 0, none⟩ v = W.alloc (.cells #[v] t) := by
    have e1 : (W.alloc (.cells #[x] t)).setCell ⟨W.heap.size, 0, none⟩ v = { (W.alloc (.cells #[x] t)) with heap := ((W.alloc (.cells #[x] t)).setCell ⟨W.heap.size, 0, none⟩ v).heap } := rfl
    rw [e1, hh]
    rfl
  rw [e] at hst
  simpa using hst
set_option maxRecDepth 100000 in
set_option maxHeartbeats 4000000 in
theorem edges_at {w : World} {A : Option Addr} {c : Nat} {cs : List Int} {ms n : Int} {l : Nat} (hok : okCards cs = true) (h1 : ∀ x ∈ cs, 1 ≤ x) (hn : 0 ≤ n ∧ n ≤ 300) (hl : l < cs.length) (hca : CardsAt w A cs) :
    Calls Try.prog 81 #[.agg #[.slice A cs.length c, .int .i64 ms, .int .i64 n], .int .i64 (l : Int)] w fun e w' =>
      ∃ v : Value, e = .returned v ∧ w'.ownsRow w.heap.size 49 3 v (edgesS (scanC cs n) (sortC cs n) cs.length l).length (edCells (edgesS (scanC cs n) (sortC cs n) cs.length l)) ∧ Below w.heap.size w w' := by
  have hd4 := okCards_len hok
  have HOK := Apart0.mk hok
  have HCA := Apart0.mk hca
  have H1 := Apart0.mk h1
  have hw1 : wrap64 ((l : Int) + 1) = ((l + 1 : Nat) : Int) := by unfold wrap64; omega
  have HW1 := Apart0.mk hw1
  have HL1 := Apart0.mk (fun W => level_n (w := W) (A := A) (c := c) (ms := ms) (n := n) (l := l) hd4 (by omega))
  have HL2 := Apart0.mk (fun W => show Calls Try.prog 101 #[.agg #[.slice A cs.length c, .int .i64 ms, .int .i64 n], .int .i64 (IntKind.i64.wrap ((l : Int) + 1))] W fun e w' =>
      ∃ A' c', e = .returned (.slice A' (lvl cs.length (l + 1)).length c') ∧ NatsAt w' A' (lvl cs.length (l + 1)) ∧ Below W.heap.size W w' by
    rw [show IntKind.i64.wrap ((l : Int) + 1) = ((l + 1 : Nat) : Int) by rw [IntKind.wrap_i64]; omega]; exact level_n hd4 (by omega))
  clear hok hca h1 hw1
  go_enter Try.func81, Try.ntmps81
  go_upto_region 1 with (fail)
  go_cut [5, 6] (fun s5 s6 wx => ∃ A5 c5 A6 c6, s5 = .slice A5 (lvl cs.length l).length c5 ∧ s6 = .slice A6 (lvl cs.length (l + 1)).length c6 ∧ Apart0 (NatsAt wx A5 (lvl cs.length l) ∧ NatsAt wx A6 (lvl cs.length (l + 1)) ∧ Below w.heap.size w wx ∧ wx.heap[w.heap.size]? = some (.cells #[.slice A cs.length c, .int .i64 ms, .int .i64 n] 76 (0, 0))))
  case first =>
    have hB0 : Below w.heap.size w (w.alloc (.cells #[.slice A cs.length c, .int .i64 ms, .int .i64 n] 76)) := (Below.refl _ w).alloc (Nat.le_refl _) _
    have hbx : (w.alloc (.cells #[.slice A cs.length c, .int .i64 ms, .int .i64 n] 76)).heap[w.heap.size]? = some (.cells #[.slice A cs.length c, .int .i64 ms, .int .i64 n] 76 (0, 0)) := World.alloc_heap_new w _
    have hsz0 : (w.alloc (.cells #[.slice A cs.length c, .int .i64 ms, .int .i64 n] 76)).heap.size = w.heap.size + 1 := by simp
    generalize w.alloc (.cells #[.slice A cs.length c, .int .i64 ms, .int .i64 n] 76) = W0 at *
    have x0 : W0.cell? ⟨w.heap.size, 0, none⟩ = some (.slice A cs.length c) := by simp [World.cell?, hbx]
    have x1 : W0.cell? ⟨w.heap.size, 1, none⟩ = some (.int .i64 ms) := by simp [World.cell?, hbx]
    have x2 : W0.cell? ⟨w.heap.size, 2, none⟩ = some (.int .i64 n) := by simp [World.cell?, hbx]
    have HBX := Apart0.mk hbx
    have HB0 := Apart0.mk hB0
    clear hbx hB0
    go_region_held3 (fun w' => w'.cell? ⟨w.heap.size, 0, none⟩ = some (.slice A cs.length c) ∧ w'.cell? ⟨w.heap.size, 1, none⟩ = some (.int .i64 ms) ∧ w'.cell? ⟨w.heap.size, 2, none⟩ = some (.int .i64 n)) (go_keep)
      (first
        | ((with_reducible refine (HL1.out _).mono ?_); rintro e wA ⟨A5, c5, rfl, hn', hb'⟩; have y0 := PrintWords.pw_cell_below hb' (a := ⟨w.heap.size, 0, none⟩) (by assumption); have y1 := PrintWords.pw_cell_below hb' (a := ⟨w.heap.size, 1, none⟩) (by assumption); have y2 := PrintWords.pw_cell_below hb' (a := ⟨w.heap.size, 2, none⟩) (by assumption); have HNa := Apart0.mk hn'; have HBa := Apart0.mk hb'; clear hn' hb')
        | ((with_reducible refine (HL2.out _).mono ?_); rintro e wB ⟨A6, c6, rfl, hn', hb'⟩; have y0 := PrintWords.pw_cell_below hb' (a := ⟨w.heap.size, 0, none⟩) (by assumption); have y1 := PrintWords.pw_cell_below hb' (a := ⟨w.heap.size, 1, none⟩) (by assumption); have y2 := PrintWords.pw_cell_below hb' (a := ⟨w.heap.size, 2, none⟩) (by assumption); have HNb := Apart0.mk hn'; have HBb := Apart0.mk hb'; clear hn' hb'))
    have hBA : Below W0.heap.size W0 wA := ((Below.refl _ W0).drew).trans HBa.out
    have hBB := hBA.trans (HBb.out.mono hBA.size)
    have hNA := HNa.out.below HBb.out
    have hNB := HNb.out
    have hBW := HB0.out.trans (hBB.mono HB0.out.size)
    have hBX := (hBB.block w.heap.size (by omega)).trans HBX.out
    have HFIN := Apart0.mk (And.intro hNA (And.intro hNB (And.intro hBW hBX)))
    clear hBA hBB hNA hNB hBW hBX HBa HBb HNa HNb
    go_wp2_with fail
    go_meet
    exact ⟨A5, c5, A6, c6, rfl, rfl, HFIN⟩
  case rest =>
    obtain ⟨A5, c5, A6, c6, rfl, rfl, HC⟩ := hcut
    clear HL1 HL2 HW1
    have L := lev_of cs.length (by omega) l hl
    have hxs : ∀ W, Below wc.heap.size wc W → W.cell? ⟨w.heap.size, 0, none⟩ = some (.slice A cs.length c) ∧ W.cell? ⟨w.heap.size, 1, none⟩ = some (.int .i64 ms) ∧ W.cell? ⟨w.heap.size, 2, none⟩ = some (.int .i64 n) := fun W hW => by
      have hb := (hW.block w.heap.size (Array.getElem?_eq_some_iff.1 HC.out.2.2.2).1).trans HC.out.2.2.2
      exact ⟨by simp [World.cell?, hb], by simp [World.cell?, hb], by simp [World.cell?, hb]⟩
    obtain ⟨x0, x1, x2⟩ := hxs wc (Below.refl _ _)
    have HXS := Apart0.mk hxs
    obtain ⟨S, hS⟩ : ∃ S, S = lvl cs.length l := ⟨_, rfl⟩
    obtain ⟨T, hT⟩ : ∃ T, T = lvl cs.length (l + 1) := ⟨_, rfl⟩
    have HES := Apart0.mk (show edgesS (scanC cs n) (sortC cs n) cs.length l = edgesAS (scanC cs n) (sortC cs n) cs.length T S by rw [hS, hT]; rfl)
    rw [← hS, ← hT] at L
    have HN5 := Apart0.mk (show NatsAt wc A5 S by rw [hS]; exact HC.out.1)
    have HN6 := Apart0.mk (show NatsAt wc A6 T by rw [hT]; exact HC.out.2.1)
    have HBc := Apart0.mk HC.out.2.2.1
    have hw12 := L.wide
    have LL := Apart0.mk L
    rw [← hS, ← hT]
    clear hS hT HC L hxs
    have hmf : ∀ (fn : Fn) (first cap : Array Value) (w : World), (Instr.makeFunc fn first cap).run Try.prog w = .ok (.func fn first cap) w := fun _ _ _ _ => rfl
    have hsn := store_new wc .nilFunc (.func (.func 82) #[.agg #[.slice A cs.length c, .int .i64 ms, .int .i64 n]] #[]) 93 rfl
    go_wp2_with fail
    obtain ⟨W1, hW1⟩ : ∃ W1, W1 = wc.alloc (.cells #[.func (.func 82) #[.agg #[.slice A cs.length c, .int .i64 ms, .int .i64 n]] #[]] 93) := ⟨_, rfl⟩
    have hB1 : Below wc.heap.size wc W1 := by rw [hW1]; exact (Below.refl _ wc).alloc (Nat.le_refl _) _
    have hc1 : W1.heap[wc.heap.size]? = some (.cells #[.func (.func 82) #[.agg #[.slice A cs.length c, .int .i64 ms, .int .i64 n]] #[]] 93 (0, 0)) := by rw [hW1]; exact World.alloc_heap_new wc _
    rw [← hW1]
    have HB1 := Apart0.mk hB1
    have HC1 := Apart0.mk hc1
    clear hW1 hB1 hc1 hsn x0 x1 x2
    go_loopw [8, 37] (fun v8 vi wr => ∃ i : Nat, vi = .int .i64 (i : Int) ∧ i ≤ S.length ∧ Apart0 (Kd.R (Kd.slice 3 (Kd.int .i64)) 24 wr W1.heap.size (fun _ => True) v8 ((List.range i).map (costRow (scanC cs n) (sortC cs n) cs.length T S)) ∧ Below W1.heap.size W1 wr))
      (fun _ p _ => S.length - (intOf p).toNat)
    case atStart => exact ⟨0, rfl, by omega, ⟨Kd.R_nil _ _ _ _ _, Below.refl _ _⟩⟩
    case round =>
      obtain ⟨i, rfl, hi, HI⟩ := hrel
      by_cases hlt : i < S.length
      · have hd : decide ((i : Int) < (S.length : Int)) = true := dec_lt i S.length hlt
        have hbw : Below wc.heap.size wc wr := HB1.out.trans (HI.out.2.mono HB1.out.size)
        obtain ⟨x0, x1, x2⟩ := HXS.out wr hbw
        have hcb : ∀ W, Below wr.heap.size wr W → W.cell? ⟨wc.heap.size, 0, none⟩ = some (.func (.func 82) #[.agg #[.slice A cs.length c, .int .i64 ms, .int .i64 n]] #[]) := fun W hW => by
          have hs1 := HB1.out.size
          have hlt1 : wc.heap.size < W1.heap.size := (Array.getElem?_eq_some_iff.1 HC1.out).1
          have hb := ((HI.out.2.trans (hW.mono HI.out.2.size)).block wc.heap.size hlt1).trans HC1.out
          simp [World.cell?, hb]
        obtain ⟨ad, rfl, hc⟩ := (HN5.out.below hbw) i hlt
        obtain ⟨s, hs⟩ : ∃ s, s = S.getD i 0 := ⟨_, rfl⟩
        have hsm : s ∈ S := by rw [hs]; exact getD_mem hlt
        obtain ⟨hs16, hpne, hpm⟩ := LL.out.par s hsm
        have hpl := parents_len s cs.length hd4
        have hpc := fun W => parents_n (w := W) (s := s) (d := cs.length) hs16 hd4
        obtain ⟨P, hP⟩ : ∃ P, P = parents s cs.length := ⟨_, rfl⟩
        rw [← hs] at hc
        rw [← hP] at hpne hpm hpl hpc
        have HPC := Apart0.mk hpc
        have HCB := Apart0.mk hcb
        have HPM := Apart0.mk hpm
        have HPNE := Apart0.mk hpne
        have HPE := Apart0.mk (show parents (S.getD i 0) cs.length = P by rw [← hs, hP])
        have HBW := Apart0.mk hbw
        clear hpc hcb hpm hpne hsm hs hP hbw
        go_wp2_with fail
        refine (HPC.out _).mono ?_
        rintro e w2 ⟨A7, c7, rfl, hn7, hb7⟩
        have HN7 := Apart0.mk hn7
        have HB7 := Apart0.mk hb7
        have HBW2 := Apart0.mk (HBW.out.trans (hb7.mono HBW.out.size))
        clear hn7 hb7 HPC
        go_wp2_with fail
        go_loopw [12, 50] (fun v12 vk wr2 => ∃ k : Nat, vk = .int .i64 (k : Int) ∧ k ≤ T.length ∧ Apart0 (Acc w2 3 1 v12 k (rowV (scanC cs n) (sortC cs n) cs.length T S i k) wr2))
          (fun _ p _ => T.length - (intOf p).toNat)
        case atStart => exact ⟨0, rfl, by omega, ⟨Acc.nil _ _ _⟩⟩
        case round =>
          obtain ⟨k, rfl, hk, HA⟩ := hrel
          have hbw2 : Below wc.heap.size wc wr := HBW2.out.trans (HA.out.2.mono HBW2.out.size)
          by_cases hlk : k < T.length
          · have hdk : decide ((k : Int) < (T.length : Int)) = true := dec_lt k T.length hlk
            obtain ⟨ad6, rfl, hc6⟩ := (HN6.out.below hbw2) k hlk
            have hn7 := HN7.out.below HA.out.2
            obtain ⟨y0, y1, y2⟩ := HXS.out wr hbw2
            have hx16 := LL.out.low _ (getD_mem hlk)
            have hcon := fun W (hW : NatsAt W A7 P) => contains_at A7 c7 P ((T.getD k 0 : Nat) : Int) (by omega) W hW
            have hes := entry_scan (sc := scanC cs n) (so := sortC cs n) (d := cs.length) (A := T) (S := S) (i := i) (k := k) hlk
            have hed := entry_dear (sc := scanC cs n) (so := sortC cs n) (d := cs.length) (A := T) (S := S) (i := i) (k := k) hlk
            have HRS := Apart0.mk (rowV_succ (scanC cs n) (sortC cs n) cs.length T S i k)
            rw [HPE.out] at hes hed
            obtain ⟨x, hx⟩ : ∃ x, x = T.getD k 0 := ⟨_, rfl⟩
            rw [← hx] at hc6 hx16 hcon hes hed
            have hac := any_contains P x
            rw [hac] at hcon
            have HBW3 := Apart0.mk hbw2
            cases hb : P.contains x with
            | true =>
              rw [hb] at hcon
              have HE := Apart0.mk (hes hb)
              have HCON := Apart0.mk (hcon wr hn7)
              clear hcon hes hed hn7 hac hx hbw2 hb
              go_wp2_with (go_at_call 80; refine HCON.out.mono ?_; rintro e w' ⟨rfl, rfl⟩)
              have HSC := Apart0.mk (scan_at (w := wr) (c := c) (ms := ms) hx16 HOK.out (by omega : 0 ≤ n ∧ n ≤ 1000000) (HCA.out.below (HBc.out.trans (HBW3.out.mono HBc.out.size))))
              refine HSC.out.mono ?_
              rintro e w9 ⟨rfl, hb9⟩
              have HA9 := Apart0.mk (HA.out.below hb9)
              clear hb9
              rw [← HE.out]
              go_wp2_with (at_builtin; refine wp_app_int rfl _ _ rfl rfl rfl _ (by omega) HA9.out ?_; intro v' w' ha; have HA2 := Apart0.mk ha; clear ha)
              go_roundw
              case rel => exact ⟨k + 1, congrArg _ (Int.natCast_succ k).symm, by omega, ⟨by rw [HRS.out]; exact HA2.out⟩⟩
              case measure => simp only [intOf]; omega
            | false =>
              rw [hb] at hcon
              have HE := Apart0.mk (hed hb)
              have HCON := Apart0.mk (hcon wr hn7)
              clear hcon hes hed hn7 hac hx hbw2 hb
              go_wp2_with (first | (go_at_call 80; refine HCON.out.mono ?_; rintro e w' ⟨rfl, rfl⟩) | (at_builtin; refine wp_app_int rfl _ _ rfl rfl rfl 1000000 (by omega) HA.out ?_; intro v' w' ha; have HA2 := Apart0.mk ha; clear ha))
              go_roundw
              case rel => exact ⟨k + 1, congrArg _ (Int.natCast_succ k).symm, by omega, ⟨by rw [HRS.out, HE.out]; exact HA2.out⟩⟩
              case measure => simp only [intOf]; omega
          · have hdk : decide ((k : Int) < (T.length : Int)) = false := dec_nlt k T.length hlk
            obtain rfl : k = T.length := by omega
            have hcb := HCB.out wr (HB7.out.trans (HA.out.2.mono HB7.out.size))
            have HLE := Apart0.mk (least_at (sortC cs n) 82 (.agg #[.slice A cs.length c, .int .i64 ms, .int .i64 n]) enters82 (w := wr) (A := A7) (c := c7) HPNE.out hpl (HN7.out.below HA.out.2) (fun x hx W hW =>
              sort_at (HPM.out x hx).1 HOK.out H1.out hn (HCA.out.below ((HBc.out.trans (hbw2.mono HBc.out.size)).trans (hW.mono (Nat.le_trans HBc.out.size hbw2.size))))))
            have HO1 := Apart0.mk (show ∀ j, j = i → entry (scanC cs n) (sortC cs n) cs.length T S i (T.length + j) = sortC cs n (leastL (sortC cs n) P) from fun j hj => by
              rw [entry_own hj]; unfold ownP; rw [HPE.out])
            have HO2 := Apart0.mk (show ∀ j, j ≠ i → entry (scanC cs n) (sortC cs n) cs.length T S i (T.length + j) = 1000000 from fun j hj => entry_not hj)
            generalize leastL (sortC cs n) P = r at *
            generalize hO : sortC cs n r = O at *
            have HBW3 := Apart0.mk hbw2
            clear hbw2 hO
            go_wp2_with fail
            refine HLE.out.mono ?_
            rintro e w3 ⟨rfl, hb3⟩
            have HA3 := Apart0.mk (HA.out.below hb3)
            clear hb3 hcb
            go_wp2_with fail
            go_loopw [12, 75] (fun v12 vk wr4 => ∃ k : Nat, vk = .int .i64 (k : Int) ∧ k ≤ S.length ∧ Apart0 (Acc w2 3 1 v12 (T.length + k) (rowV (scanC cs n) (sortC cs n) cs.length T S i (T.length + k)) wr4))
              (fun _ p _ => S.length - (intOf p).toNat)
            case atStart => exact ⟨0, rfl, by omega, HA3⟩
            case round =>
              obtain ⟨k, rfl, hk, HA4⟩ := hrel
              have HRS := Apart0.mk (rowV_succ (scanC cs n) (sortC cs n) cs.length T S i (T.length + k))
              by_cases hlk : k < S.length
              · have hdk : decide ((k : Int) < (S.length : Int)) = true := dec_lt k S.length hlk
                by_cases hki : k = i
                · have hbk : ((k : Int) == (i : Int)) = true := beq_iff_eq.2 (by omega)
                  have hbk2 : (k == i) = true := beq_iff_eq.2 hki
                  have hbk3 : decide (k = i) = true := decide_eq_true hki
                  have HE := Apart0.mk (HO1.out k hki)
                  clear hki
                  go_wp2_with (at_builtin; refine wp_app_int rfl _ _ rfl rfl rfl O (by omega) HA4.out ?_; intro v' w' ha; have HA2 := Apart0.mk ha; clear ha)
                  go_roundw
                  case rel => exact ⟨k + 1, congrArg _ (Int.natCast_succ k).symm, by omega, ⟨by rw [← Nat.add_assoc, HRS.out, HE.out]; exact HA2.out⟩⟩
                  case measure => simp only [intOf]; omega
                · have hbk : ((k : Int) == (i : Int)) = false := beq_eq_false_iff_ne.2 (by omega)
                  have hbk2 : (k == i) = false := beq_eq_false_iff_ne.2 hki
                  have hbk3 : decide (k = i) = false := decide_eq_false hki
                  have HE := Apart0.mk (HO2.out k hki)
                  clear hki
                  go_wp2_with (at_builtin; refine wp_app_int rfl _ _ rfl rfl rfl 1000000 (by omega) HA4.out ?_; intro v' w' ha; have HA2 := Apart0.mk ha; clear ha)
                  go_roundw
                  case rel => exact ⟨k + 1, congrArg _ (Int.natCast_succ k).symm, by omega, ⟨by rw [← Nat.add_assoc, HRS.out, HE.out]; exact HA2.out⟩⟩
                  case measure => simp only [intOf]; omega
              · have hdk : decide ((k : Int) < (S.length : Int)) = false := dec_nlt k S.length hlk
                obtain rfl : k = S.length := by omega
                obtain ⟨A12, c12, rfl⟩ := PrintWords.own_slice HA4.out.1
                have hbA := HB7.out.trans (HA4.out.2.mono HB7.out.size)
                have hRow := HI.out.1
                have hRow2 := Kd.R_below hRow hbA
                have hbW1 := HI.out.2.trans (hbA.mono HI.out.2.size)
                have hlt8 := Kd.R_lt hRow
                have hge12 := own_base_le HA4.out.1
                have hsz7 := HB7.out.size
                have hRi : Kd.R (Kd.int .i64) 3 wr W1.heap.size (fun k => some k = (Value.slice A12 (T.length + S.length) c12).ownBlock) (.slice A12 (T.length + S.length) c12 : Value) (costRow (scanC cs n) (sortC cs n) cs.length T S i) := by
                  refine Kd.R_of_own (h1 := fun _ => rfl) ?_ (fun k hk => hk.symm)
                  have e1 : encs (Value.int .i64) (costRow (scanC cs n) (sortC cs n) cs.length T S i) = rowV (scanC cs n) (sortC cs n) cs.length T S i (T.length + S.length) := by
                    unfold encs costRow rowV; rw [List.map_map]; rfl
                  have e2 : (costRow (scanC cs n) (sortC cs n) cs.length T S i).length = T.length + S.length := by simp [costRow]
                  rw [e1, e2]
                  exact ownsRow_base HA4.out.1 (Nat.le_trans HI.out.2.size hsz7)
                have HRi := Apart0.mk hRi
                have HRow2 := Apart0.mk hRow2
                have HbW1 := Apart0.mk hbW1
                have HNE8 := Apart0.mk (show ∀ k, some k = (Value.slice A12 (T.length + S.length) c12).ownBlock → True ∧ some k ≠ u8.ownBlock from fun k hk => ⟨trivial, fun e => by
                  have g1 := hlt8 k e.symm
                  have g2 := hge12 k hk.symm
                  omega⟩)
                clear hRi hRow hRow2 hbW1 hlt8 hge12 hbA hsz7
                go_wp2_with (at_builtin; go_loud (refine Kd.R_append (Kd.slice 3 (Kd.int .i64)) (w0 := W1) W1.heap.size rfl (.tmp 89) (.tmp 91) 37 24 (.slice none 0 0) 24 rfl Try.underlying37 info24 rfl (by decide) (by omega) u8 ((List.range i).map (costRow (scanC cs n) (sortC cs n) cs.length T S)) (costRow (scanC cs n) (sortC cs n) cs.length T S i) [(.slice A12 (T.length + S.length) c12 : Value)] (fun _ => True) (fun k => some k = (Value.slice A12 (T.length + S.length) c12).ownBlock) rfl rfl ?aP HNE8.out (fun _ _ => trivial) ?aO ?aB ?aS ?aL ?_))
                case aP => exact Kd.M_row HRi.out
                case aO => exact HRow2.out
                case aB => exact HbW1.out
                case aS => exact HbW1.out.size
                case aL => rw [List.length_map, List.length_range]; omega
                intro v1 wq ho hb hg hat
                have HIn := Apart0.mk (And.intro ho hb)
                clear ho hb hg hat
                go_wp2_with fail
                go_roundw
                case rel => exact ⟨i + 1, congrArg _ (Int.natCast_succ i).symm, by omega, ⟨by rw [List.range_succ, List.map_append]; exact HIn.out.1, HIn.out.2⟩⟩
                case measure => simp only [intOf]; omega
      · have hd : decide ((i : Int) < (S.length : Int)) = false := dec_nlt i S.length hlt
        obtain rfl : i = S.length := by omega
        have hch := choice (cheap_of H1.out hn) LL.out
        obtain ⟨M, hM⟩ : ∃ M, M = costM (scanC cs n) (sortC cs n) cs.length T S := ⟨_, rfl⟩
        have hMR : Kd.R (Kd.slice 3 (Kd.int .i64)) 24 wr W1.heap.size (fun _ => True) u8 M := by rw [hM]; exact HI.out.1
        obtain ⟨A8, c8, rfl, hc8, hC8⟩ := Kd.R_reads hMR
        obtain ⟨ks, hk1, hk2, hk3, hk4, hk5⟩ := hch
        rw [← hM] at hk1
        have HAS := Apart0.mk (show edgesS (scanC cs n) (sortC cs n) cs.length l = (List.range S.length).map (fun i => edgeAt (sortC cs n) cs.length T S i (ks.getD i 0)) by
          rw [HES.out]
          unfold edgesAS
          rw [← hM, hk1]
          refine List.map_congr_left (fun i hi => ?_)
          have hi' := List.mem_range.1 hi
          congr 1
          simp [show i < ks.length by omega])
        have hca := Mat.assign_calls A8 c8 M wr hC8 hc8
        have HCA2 := Apart0.mk hca
        have HK1 := Apart0.mk hk1
        have HK4 := Apart0.mk hk4
        have HBr := Apart0.mk HI.out.2
        clear hMR hC8 hca hk1 hk5 hM HES hk3 hk4 HI
        go_wp2_with fail
        refine HCA2.out.mono ?_
        rintro e W9 ⟨v0, rfl, hR0, hb9⟩
        obtain ⟨A9, c9, rfl, hn9⟩ := nats_ints HK1.out hR0
        have HN9 := Apart0.mk hn9
        have HB9 := Apart0.mk ((HB1.out.trans (HBr.out.mono HB1.out.size)).trans (hb9.mono (Nat.le_trans HB1.out.size HBr.out.size)))
        have HCO := Apart0.mk (show ∀ W, Below W9.heap.size W9 W → W.cell? ⟨wc.heap.size, 0, none⟩ = some (.func (.func 82) #[.agg #[.slice A cs.length c, .int .i64 ms, .int .i64 n]] #[]) from fun W hW => by
          have hlt1 : wc.heap.size < W1.heap.size := (Array.getElem?_eq_some_iff.1 HC1.out).1
          have hb := (((HBr.out.trans (hb9.mono HBr.out.size)).trans (hW.mono (Nat.le_trans HBr.out.size hb9.size))).block wc.heap.size hlt1).trans HC1.out
          simp [World.cell?, hb])
        generalize (Mat.assign M).2.1 = q1 at *
        generalize (Mat.assign M).2.2 = q2 at *
        clear hR0 hb9 hn9 HCA2 HK1
        rw [hk2]
        go_wp2_with fail
        go_loopw [21, 102] (fun v21 vi wr => ∃ i : Nat, vi = .int .i64 (i : Int) ∧ i ≤ S.length ∧ Apart0 (Acc W9 49 3 v21 i (edCells ((List.range i).map fun i => edgeAt (sortC cs n) cs.length T S i (ks.getD i 0))) wr))
          (fun _ p _ => S.length - (intOf p).toNat)
        case atStart => exact ⟨0, rfl, by omega, ⟨Acc.nil _ _ _⟩⟩
        case round =>
          obtain ⟨i, rfl, hi, HA⟩ := hrel
          by_cases hlt : i < S.length
          · have hd : decide ((i : Int) < (S.length : Int)) = true := dec_lt i S.length hlt
            have hbw : Below wc.heap.size wc wr := HB9.out.trans (HA.out.2.mono HB9.out.size)
            obtain ⟨y0, y1, y2⟩ := HXS.out wr hbw
            have hcb := HCO.out wr HA.out.2
            obtain ⟨ad, rfl, hc⟩ := (HN5.out.below hbw) i hlt
            obtain ⟨ad9, rfl, hc9⟩ := (HN9.out.below HA.out.2) i (by omega)
            obtain ⟨s, hs⟩ : ∃ s, s = S.getD i 0 := ⟨_, rfl⟩
            have hsm : s ∈ S := by rw [hs]; exact getD_mem hlt
            obtain ⟨hs16, hpne, hpm⟩ := LL.out.par s hsm
            have hkm := HK4.out _ (getD_mem (l := ks) (by omega : i < ks.length))
            obtain ⟨k, hk⟩ : ∃ k, k = ks.getD i 0 := ⟨_, rfl⟩
            have HEA := Apart0.mk (show (List.range (i + 1)).map (fun i => edgeAt (sortC cs n) cs.length T S i (ks.getD i 0)) = (List.range i).map (fun i => edgeAt (sortC cs n) cs.length T S i (ks.getD i 0)) ++ [edgeAt (sortC cs n) cs.length T S i k] by
              rw [List.range_succ, List.map_append, hk]; rfl)
            rw [← hs] at hc
            rw [← hk] at hc9 hkm
            have HBW := Apart0.mk hbw
            by_cases hkT : k < T.length
            · have hdk : decide ((k : Int) < (T.length : Int)) = true := dec_lt k T.length hkT
              obtain ⟨ad6, rfl, hc6⟩ := (HN6.out.below hbw) k hkT
              obtain ⟨x, hx⟩ : ∃ x, x = T.getD k 0 := ⟨_, rfl⟩
              rw [← hx] at hc6
              have hc6' := Lib.cell?_alloc_some (.cells #[.int .i64 (s : Int), .int .i64 0, .bool true] 49) hc6
              have HED := Apart0.mk (show edgeAt (sortC cs n) cs.length T S i k = ⟨(s : Int), (x : Int), true⟩ by unfold edgeAt; rw [if_pos hkT, hs, hx])
              have HAw := Apart0.mk (HA.out.below ((Below.refl _ wr).alloc (Nat.le_refl _) (.cells #[.int .i64 (s : Int), .int .i64 (x : Int), .bool true] 49)))
              clear hs hk hx hbw hsm hpne hpm
              go_wp2_with (at_builtin; refine wp_app_edge rfl _ _ rfl rfl _ (World.size_alloc _ _) rfl (s : Int) (x : Int) true (by omega) HAw.out ?_; intro v' w' ha; have HA2 := Apart0.mk ha; clear ha)
              go_roundw
              case rel => exact ⟨i + 1, congrArg _ (Int.natCast_succ i).symm, by omega, ⟨by rw [HEA.out, HED.out]; unfold edCells; rw [List.flatMap_append]; exact HA2.out⟩⟩
              case measure => simp only [intOf]; omega
            · have hdk : decide ((k : Int) < (T.length : Int)) = false := dec_nlt k T.length hkT
              have HED := Apart0.mk (show edgeAt (sortC cs n) cs.length T S i k = ⟨(s : Int), (leastL (sortC cs n) (parents s cs.length) : Nat), false⟩ by unfold edgeAt ownP; rw [if_neg hkT, hs])
              have hpl := parents_len s cs.length hd4
              obtain ⟨P, hP⟩ : ∃ P, P = parents s cs.length := ⟨_, rfl⟩
              have hpc := fun W => parents_n (w := W) (s := s) (d := cs.length) hs16 hd4
              rw [← hP] at hpne hpm hpl hpc HED
              have HPC := Apart0.mk hpc
              have hle := fun A7 c7 W (hW : Below wr.heap.size wr W) (hN : NatsAt W A7 P) => least_at (sortC cs n) 82 (.agg #[.slice A cs.length c, .int .i64 ms, .int .i64 n]) enters82 (w := W) (A := A7) (c := c7) hpne hpl hN (fun x hx V hV =>
                sort_at (hpm x hx).1 HOK.out H1.out hn (HCA.out.below ((HBc.out.trans (hbw.mono HBc.out.size)).trans ((hW.trans (hV.mono hW.size)).mono (Nat.le_trans HBc.out.size hbw.size)))))
              generalize leastL (sortC cs n) P = r at *
              generalize sortC cs n r = O at *
              have HLE := Apart0.mk hle
              clear hs hk hbw hsm hpc hle hpne hpm hP
              go_wp2_with fail
              have hB0 : Below wr.heap.size wr (wr.alloc (.cells #[.int .i64 (s : Int), .int .i64 0, .bool false] 49)) := (Below.refl _ wr).alloc (Nat.le_refl _) _
              have hbx : (wr.alloc (.cells #[.int .i64 (s : Int), .int .i64 0, .bool false] 49)).heap[wr.heap.size]? = some (.cells #[.int .i64 (s : Int), .int .i64 0, .bool false] 49 (0, 0)) := World.alloc_heap_new wr _
              have hsz0 : (wr.alloc (.cells #[.int .i64 (s : Int), .int .i64 0, .bool false] 49)).heap.size = wr.heap.size + 1 := by simp
              generalize wr.alloc (.cells #[.int .i64 (s : Int), .int .i64 0, .bool false] 49) = W0 at *
              have x0 := PrintWords.pw_cell_below hB0 y0
              have xc := PrintWords.pw_cell_below hB0 hcb
              have xs' := PrintWords.pw_cell_below hB0 hc
              have HBX := Apart0.mk hbx
              have HB0 := Apart0.mk hB0
              have n0 : (⟨w.heap.size, 0, none⟩ : Addr).block ≠ (⟨wr.heap.size, 1, none⟩ : Addr).block := Nat.ne_of_lt (cell_lt y0)
              have n1 : (⟨wc.heap.size, 0, none⟩ : Addr).block ≠ (⟨wr.heap.size, 1, none⟩ : Addr).block := Nat.ne_of_lt (cell_lt hcb)
              have n2 : (ad.add i).block ≠ (⟨wr.heap.size, 1, none⟩ : Addr).block := Nat.ne_of_lt (cell_lt hc)
              have N0 := Apart0.mk n0
              have N1 := Apart0.mk n1
              have N2 := Apart0.mk n2
              clear hbx hB0 y0 y1 y2 hcb hc n0 n1 n2
              go_region_held3 (fun w' => w'.cell? ⟨w.heap.size, 0, none⟩ = some (.slice A cs.length c) ∧ w'.cell? ⟨wc.heap.size, 0, none⟩ = some (.func (.func 82) #[.agg #[.slice A cs.length c, .int .i64 ms, .int .i64 n]] #[]) ∧ w'.cell? (ad.add i) = some (.int .i64 (s : Int))) (first | go_keep | exact ⟨cell_far N0.out (by assumption), cell_far N1.out (by assumption), cell_far N2.out (by assumption)⟩)
                (first
                  | ((with_reducible refine (HPC.out _).mono ?_); rintro e wA ⟨A7, c7, rfl, hn', hb'⟩; have z0 := PrintWords.pw_cell_below hb' (a := ⟨w.heap.size, 0, none⟩) (by assumption); have z1 := PrintWords.pw_cell_below hb' (a := ⟨wc.heap.size, 0, none⟩) (by assumption); have z2 := PrintWords.pw_cell_below hb' (a := ad.add i) (by assumption); have HNa := Apart0.mk hn'; have HBa := Apart0.mk (show Below W0.heap.size W0 wA from ((Below.refl _ W0).drew).trans hb'); clear hn' hb')
                  | ((with_reducible refine (HLE.out _ _ _ (HB0.out.trans (HBa.out.mono HB0.out.size)) HNa.out).mono ?_); rintro e wB ⟨rfl, hb'⟩; have z0 := PrintWords.pw_cell_below hb' (a := ⟨w.heap.size, 0, none⟩) (by assumption); have z1 := PrintWords.pw_cell_below hb' (a := ⟨wc.heap.size, 0, none⟩) (by assumption); have z2 := PrintWords.pw_cell_below hb' (a := ad.add i) (by assumption); have hbb := HBa.out.trans (hb'.mono HBa.out.size); have hblk := (hbb.block wr.heap.size (by omega)).trans HBX.out; have z3 : wB.cell? ⟨wr.heap.size, 1, none⟩ = some (.int .i64 0) := (by simp [World.cell?, hblk]); have z4 : wB.frozen? ⟨wr.heap.size, 1, none⟩ = false := (by simp [World.frozen?, hblk]); have HBb := Apart0.mk hbb; have HBK := Apart0.mk hblk; clear hb' hbb hblk))
              have hE5 := setCell_same' (i := 1) HBK.out (.int .i64 (r : Int))
              have q0 : (wB.setCell ⟨wr.heap.size, 1, none⟩ (.int .i64 (r : Int))).cell? ⟨wr.heap.size, 0, none⟩ = some (.int .i64 (s : Int)) := by simp [World.cell?, hE5]
              have q1' : (wB.setCell ⟨wr.heap.size, 1, none⟩ (.int .i64 (r : Int))).cell? ⟨wr.heap.size, 1, none⟩ = some (.int .i64 (r : Int)) := by simp [World.cell?, hE5]
              have q2' : (wB.setCell ⟨wr.heap.size, 1, none⟩ (.int .i64 (r : Int))).cell? ⟨wr.heap.size, 2, none⟩ = some (.bool false) := by simp [World.cell?, hE5]
              have HA5 := Apart0.mk (HA.out.below ((HB0.out.trans (HBb.out.mono HB0.out.size)).setCell (p := ⟨wr.heap.size, 1, none⟩) (Nat.le_refl _) (.int .i64 (r : Int))))
              clear hE5
              go_wp2_with (at_builtin; refine wp_app_edge rfl _ _ rfl rfl wB.heap.size (by simp) rfl (s : Int) (r : Int) false (by omega) HA5.out ?_; intro v' w' ha; have HA2 := Apart0.mk ha; clear ha)
              go_roundw
              case rel => exact ⟨i + 1, congrArg _ (Int.natCast_succ i).symm, by omega, ⟨by rw [HEA.out, HED.out]; unfold edCells; rw [List.flatMap_append]; exact HA2.out⟩⟩
              case measure => simp only [intOf]; omega
          · have hd : decide ((i : Int) < (S.length : Int)) = false := dec_nlt i S.length hlt
            obtain rfl : i = S.length := by omega
            go_wp2_with fail
            go_ret
            refine ⟨u21, rfl, ?_, (HBc.out.trans (HB9.out.mono HBc.out.size)).trans (HA.out.2.mono (Nat.le_trans HBc.out.size HB9.out.size))⟩
            rw [HAS.out, List.length_map, List.length_range]
            exact ownsRow_base HA.out.1 (Nat.le_trans HBc.out.size HB9.out.size)
end Go.Proofs.Ytlplaidcdocbmaa.Srt
