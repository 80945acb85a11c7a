-- Cut by pack.py, a program of this session; not trusted: Lean checks it.
import Derived.Test.YtlplaidcdocbmaaZS7
import Derived.Test.YtlplaidcdocbmaaZS9
import Derived.Test.YtlplaidcdocbmaaZCore12
import Derived.Test.YtlplaidcdocbmaaZCore18
/- The contracts of sorts in the words of the printed laws. -/
namespace Go.Proofs.Ytlplaidcdocbmaa.Srt
open Go.RowKit Go.Shelf Go.Proofs.Ytlplaidcdocbmaa.Core Go.Proofs.YtlplaidcdocbmaaW
open Go.Proofs.YtlplaidcdocbmaaW.PrintWords (Kd encs Reps)
set_option linter.unusedVariables false
set_option linter.unusedSimpArgs false

section
variable {S : Type} (f0 f1 : S → Int) (f2 : S → Bool)
def toEd (x : S) : Ed := ⟨f0 x, f1 x, f2 x⟩
def toEds (l : List S) : List Ed := l.map (toEd f0 f1 f2)
theorem toEds_len (l : List S) : (toEds f0 f1 f2 l).length = l.length := by simp [toEds]
theorem eds_of_C (K : Kd S) (hsz : K.sz = 3) (d : S) (hopen : ∀ w x cs, K.K w x cs → cs = [.int .i64 (f0 x), .int .i64 (f1 x), .bool (f2 x)]) {w : World} {A : Option Addr} {l : List S} (h : Kd.C K w A l.length l) :
    EdsAt w A (toEds f0 f1 f2 l) := by
  intro i hi
  rw [toEds_len] at hi
  obtain ⟨ad, c, e, _, hK, hc⟩ := Kd.C_get h d (i : Int) (by omega) (by omega)
  have hg : (toEds f0 f1 f2 l).getD i ⟨0, 0, false⟩ = toEd f0 f1 f2 (l.getD i d) := by
    have h1 : i < (toEds f0 f1 f2 l).length := by rw [toEds_len]; exact hi
    rw [getD_of_lt _ _ _ h1, getD_of_lt _ _ _ hi]
    simp [toEds]
  have hK' := hopen _ _ _ hK
  subst hK'
  rw [hg]
  simp only [Int.toNat_natCast, hsz] at hc
  refine ⟨ad, e, hc 0 _ rfl, ?_, ?_⟩
  · have := hc 1 _ rfl
    rw [PrintWords.add_field ad (i * 3) 1 (by omega)] at this
    exact this
  · have := hc 2 _ rfl
    rw [PrintWords.add_field ad (i * 3) 2 (by omega)] at this
    exact this
end
theorem reps_eds {S : Type} (R : S → List Value → Prop) (mk : Int → Int → Bool → S) (hk : ∀ a b c, R (mk a b c) [.int .i64 a, .int .i64 b, .bool c]) : ∀ es : List Ed, Reps R 3 (es.map fun e => mk e.set e.par e.scan) (edCells es) := by
  have key : ∀ (es acc : List Ed), Reps R 3 (acc.map fun e => mk e.set e.par e.scan) (edCells acc) → Reps R 3 ((acc ++ es).map fun e => mk e.set e.par e.scan) (edCells (acc ++ es)) := by
    intro es
    induction es with
    | nil => intro acc h; rwa [List.append_nil]
    | cons e es ih =>
      intro acc h
      have := ih (acc ++ [e]) (by
        rw [List.map_append, edCells_append]
        exact h.snoc (hk _ _ _) rfl)
      rwa [List.append_assoc] at this
  intro es
  exact key es [] (Reps.none _ _)

def okP (cs : List Int) (n : Int) : Bool := okCards cs && cs.all (fun x => decide (1 ≤ x)) && decide (0 ≤ n) && decide (n ≤ 300)
theorem okP_iff {cs : List Int} {n : Int} (h : okP cs n = true) : okCards cs = true ∧ (∀ x ∈ cs, 1 ≤ x) ∧ 0 ≤ n ∧ n ≤ 300 := by
  unfold okP at h
  rw [Bool.and_eq_true, Bool.and_eq_true, Bool.and_eq_true, List.all_eq_true, decide_eq_true_eq, decide_eq_true_eq] at h
  exact ⟨h.1.1.1, fun x hx => of_decide_eq_true (h.1.1.2 x hx), h.1.2, h.2⟩
def okW (es : List Ed) : Bool := es.all fun e => (Lit.int .i64 e.par).wf
def stepB (d : Nat) (e : Ed) : Bool := !e.scan || (decide (0 ≤ e.set) && decide (0 ≤ e.par) && decide (e.par.toNat < 2 ^ d) && decide (e.set.toNat < 2 ^ d) && (e.par.toNat &&& e.set.toNat == e.set.toNat) && (lev e.par.toNat == lev e.set.toNat + 1))
def okO (d : Nat) (es : List Ed) : Bool := decide (es.length ≤ 1000) && es.all (fun e => stepB d e && decide (0 ≤ e.set) && decide (e.set.toNat < 2 ^ d))
theorem lev_lt5 (s : Nat) : lev s < 5 := by
  have := List.length_filter_le (fun i => s.testBit i) (List.range 4)
  unfold lev
  simp at this
  omega
theorem okO_iff {d : Nat} {es : List Ed} (h : okO d es = true) : es.length ≤ 1000 ∧ Steps d es ∧ ∀ e ∈ es, ∃ s : Nat, e.set = (s : Int) ∧ s < 2 ^ d ∧ lev s < 5 := by
  unfold okO at h
  rw [Bool.and_eq_true, decide_eq_true_eq, List.all_eq_true] at h
  refine ⟨h.1, fun e he hsc => ?_, fun e he => ?_⟩
  · have h1 := h.2 e he
    rw [Bool.and_eq_true, Bool.and_eq_true] at h1
    have h2 := h1.1.1
    unfold stepB at h2
    simp only [hsc, Bool.not_true, Bool.false_or, Bool.and_eq_true, decide_eq_true_eq, beq_iff_eq] at h2
    obtain ⟨⟨⟨⟨⟨a1, a2⟩, a3⟩, a4⟩, a5⟩, a6⟩ := h2
    exact ⟨e.set.toNat, e.par.toNat, by omega, by omega, a3, a4, a5, a6⟩
  · have h1 := h.2 e he
    rw [Bool.and_eq_true, Bool.and_eq_true, decide_eq_true_eq, decide_eq_true_eq] at h1
    exact ⟨e.set.toNat, by omega, h1.2, lev_lt5 _⟩

section
variable {S : Type} (K : Kd S) (hsz : K.sz = 3) (z : S) (f0 f1 : S → Int) (f2 : S → Bool) (hopen : ∀ w x cs, K.K w x cs → cs = [.int .i64 (f0 x), .int .i64 (f1 x), .bool (f2 x)])
def planE (mk : Int → Int → Bool → S) (cs : List Int) (n : Int) : List S := (planS (scanC cs n) (sortC cs n) cs.length).map fun e => mk e.set e.par e.scan
include hsz in
theorem plan_K (mk : Int → Int → Bool → S) (hk : ∀ w base ok a b c, K.M w base ok (mk a b c) [.int .i64 a, .int .i64 b, .bool c]) (A : Option Addr) (c : Nat) (l : List Int) (m n : Int) (w : World)
    (hr : Kd.C (Kd.int .i64) w A l.length l) (hok : okP l n = true) :
    Calls Try.prog 55 #[.agg #[.slice A l.length c, .int .i64 m], .int .i64 n] w fun e w' => ∃ v0_ : Value, e = .returned (v0_) ∧ Kd.R K 49 w' w.heap.size (fun _ => True) v0_ (planE mk l n) ∧ Below w.heap.size w w' := by
  obtain ⟨o1, o2, o3, o4⟩ := okP_iff hok
  refine (plan_at (w := w) (A := A) (c := c) (cs := l) (ms := m) (n := n) o1 o2 ⟨o3, o4⟩ (fun i hi => cell_int hr i hi)).mono ?_
  rintro e w' ⟨v, he, hown, hb⟩
  refine ⟨v, he, ?_, hb⟩
  have hrep := reps_eds (fun x cs => K.M w' w.heap.size (fun k => True ∧ some k ≠ v.ownBlock) x cs) mk (fun a b c => hk _ _ _ a b c) (planS (scanC l n) (sortC l n) l.length)
  have hlen : (planE mk l n).length = (planS (scanC l n) (sortC l n) l.length).length := by simp [planE]
  refine ⟨fun _ _ => trivial, edCells (planS (scanC l n) (sortC l n) l.length), ?_, ?_⟩
  · rw [hlen, hsz]; exact hown
  · rw [hsz]; exact hrep
include hsz hopen z in
theorem right_K (A : Option Addr) (c : Nat) (l : List S) (d : Int) (w : World) (hr : Kd.C K w A l.length l) (hd : 0 ≤ d ∧ d ≤ 4) (hw : okW (toEds f0 f1 f2 l) = true) :
    Calls Try.prog 54 #[.slice A l.length c, .int .i64 d] w fun e w' => e = .returned (.bool (rightS d.toNat (toEds f0 f1 f2 l))) ∧ Below w.heap.size w w' := by
  obtain ⟨k, rfl⟩ := Int.eq_ofNat_of_zero_le hd.1
  have h := right_at (w := w) (A := A) (c := c) (es := toEds f0 f1 f2 l) (d := k) (by omega) (eds_of_C f0 f1 f2 K hsz z hopen hr) (fun e he => by
    unfold okW at hw; rw [List.all_eq_true] at hw; exact hw e he)
  rw [toEds_len] at h
  exact h
include hsz hopen z in
theorem orders_K (A : Option Addr) (c : Nat) (l : List S) (d : Int) (w : World) (hr : Kd.C K w A l.length l) (hd : 0 ≤ d ∧ d ≤ 4) (hw : okO d.toNat (toEds f0 f1 f2 l) = true) :
    Calls Try.prog 57 #[.slice A l.length c, .int .i64 d] w fun e w' => ∃ v0_ : Value, e = .returned (v0_) ∧ Kd.S (Kd.slice 3 (Kd.int .i64)) 24 w' w.heap.size (fun _ => True) v0_ ((ordersS (toEds f0 f1 f2 l) d.toNat).map intsL) ∧ Below w.heap.size w w' := by
  obtain ⟨k, rfl⟩ := Int.eq_ofNat_of_zero_le hd.1
  obtain ⟨h1, h2, h3⟩ := okO_iff hw
  have h := orders_at (Ae := A) (ce := c) (d := k) (es := toEds f0 f1 f2 l) (by omega) h1 h2 h3 w (eds_of_C f0 f1 f2 K hsz z hopen hr)
  rw [toEds_len] at h
  exact h
end
end Go.Proofs.Ytlplaidcdocbmaa.Srt
