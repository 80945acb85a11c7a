-- Cut by pack.py, a program of this session; not trusted: Lean checks it.
import Derived.Test.YtgnkpahnhhmceaaZCore1
import Derived.Lib.RabinKarpLaws
/- Who goes with whom, as plain lists: the least total of rows, where some columns are taken, and the choice that is ahead of the others. -/
namespace Go.Proofs.Ytgnkpahnhhmceaa.Core
open Go.RowKit Go.Proofs.YtgnkpahnhhmceaaW.PrintWords Go.Proofs.YtgnkpahnhhmceaaW.PrintLast Go.Proofs.YtgnkpahnhhmceaaW.PrintMore
set_option linter.unusedVariables false
set_option linter.unusedSimpArgs false

def HOPE : Int := 1099511627776
def step (r : List Int) (B : Nat → Int) (s : Nat) (acc : Int) (k : Nat) : Int := if s.testBit k = true then acc else mn acc (r.getD k 0 + B (s ||| 2 ^ k))
def best : List (List Int) → Nat → Int
  | [], _ => 0
  | r :: rs, s => (List.range r.length).foldl (step r (best rs) s) HOPE
def hit (r : List Int) (B : Nat → Int) (b : Int) (s k : Nat) : Bool := !s.testBit k && decide (r.getD k 0 + B (s ||| 2 ^ k) = b)
def pick : List (List Int) → Nat → List Int
  | [], _ => []
  | r :: rs, s => match (List.range r.length).find? (hit r (best rs) (best (r :: rs) s) s) with
    | some k => (k : Int) :: pick rs (s ||| 2 ^ k)
    | none => pick rs s
def assign (c : List (List Int)) : List Int × Int × Bool := if right c = true then (pick c 0, best c 0, true) else ([], 0, false)

def GoodRow (m : Nat) (r : List Int) : Prop := r.length = m ∧ ∀ k, 0 ≤ r.getD k 0 ∧ r.getD k 0 ≤ 1000000
def Good (m : Nat) (rs : List (List Int)) : Prop := ∀ r ∈ rs, GoodRow m r

theorem foldl_inv {P : Int → Prop} (f : Int → Nat → Int) : ∀ (l : List Nat) (a : Int), P a → (∀ a, ∀ k ∈ l, P a → P (f a k)) → P (l.foldl f a)
  | [], a, h, _ => h
  | k :: l, a, h, hs => by
    rw [List.foldl_cons]
    exact foldl_inv f l _ (hs a k (by simp) h) (fun a k' hk => hs a k' (by simp [hk]))

theorem mn_def (a b : Int) : mn a b = if b < a then b else a := rfl

theorem best_bound (m : Nat) : ∀ (rs : List (List Int)) (s : Nat), rs.length ≤ 12 → Good m rs → best rs s = HOPE ∨ (0 ≤ best rs s ∧ best rs s ≤ 1000000 * (rs.length : Int))
  | [], s, _, _ => .inr ⟨by simp [best], by simp [best]⟩
  | r :: rs, s, hl, hg => by
    have hl' : rs.length ≤ 11 := by simpa using hl
    have ih := fun s => best_bound m rs s (by omega) (fun r hr => hg r (by simp [hr]))
    have hr := (hg r (by simp)).2
    have hL : (((r :: rs).length : Nat) : Int) = (rs.length : Int) + 1 := by simp
    rw [hL]
    show (List.range r.length).foldl (step r (best rs) s) HOPE = HOPE ∨ _
    unfold best
    refine foldl_inv (P := fun a => a = HOPE ∨ (0 ≤ a ∧ a ≤ 1000000 * ((rs.length : Int) + 1))) _ _ _ (.inl rfl) (fun a k _ ha => ?_)
    simp only [step, mn_def]
    have h1 := ih (s ||| 2 ^ k)
    have h2 := hr k
    unfold HOPE at *
    split
    · exact ha
    · split <;> omega

theorem best_range {m : Nat} {rs : List (List Int)} (hl : rs.length ≤ 12) (hg : Good m rs) (s : Nat) : 0 ≤ best rs s ∧ best rs s ≤ HOPE := by
  have := best_bound m rs s hl hg
  unfold HOPE at *
  omega

theorem drop_range (m k : Nat) (h : k < m) : (List.range m).drop k = k :: (List.range m).drop (k + 1) := by
  rw [List.drop_eq_getElem_cons (by simpa using h)]
  simp

theorem or_lt {s k m : Nat} (hs : s < 2 ^ m) (hk : k < m) : s ||| 2 ^ k < 2 ^ m := Nat.or_lt_two_pow hs (Nat.pow_lt_pow_right (by decide) hk)

theorem pow12 {m : Nat} (hm : m ≤ 12) : 2 ^ m ≤ 4096 := Nat.pow_le_pow_right (by decide) hm

theorem shl_one (k : Nat) (hk : k ≤ 12) : shl .i64 1 (k : Int) = ((2 ^ k : Nat) : Int) := by
  have h : ∀ k : Nat, k ≤ 12 → shl .i64 1 (k : Int) = ((2 ^ k : Nat) : Int) := by decide
  exact h k hk

theorem shr_nat (s k : Nat) (hk : k ≤ 12) : shr .i64 (s : Int) (k : Int) = ((s / 2 ^ k : Nat) : Int) := by
  unfold shr
  rw [Int.toNat_natCast, Nat.min_eq_left (by show k ≤ 64; omega)]
  norm_cast

theorem bit_and (s k : Nat) (hs : s < 4096) (hk : k ≤ 12) : Go.bits .and .i64 (shr .i64 (s : Int) (k : Int)) 1 = if s.testBit k = true then 1 else 0 := by
  rw [shr_nat s k hk, and_one _ (by have := Nat.div_le_self s (2 ^ k); omega)]
  rw [Nat.testBit_eq_decide_div_mod_eq]
  have := Nat.mod_two_eq_zero_or_one (s / 2 ^ k)
  rcases this with h | h <;> simp [h]

theorem bits_or_nat (a b : Nat) (ha : a < 4096) (hb : b < 8192) : Go.bits .or .i64 (a : Int) (b : Int) = ((a ||| b : Nat) : Int) := by
  have hx : a ||| b < 2 ^ 13 := Nat.or_lt_two_pow (by omega) (by omega)
  have h1 : (BitVec.ofInt 64 (a : Int)).toNat = a := by
    rw [BitVec.ofInt_natCast, BitVec.toNat_ofNat]; exact Nat.mod_eq_of_lt (by omega)
  have h2 : (BitVec.ofInt 64 (b : Int)).toNat = b := by
    rw [BitVec.ofInt_natCast, BitVec.toNat_ofNat]; exact Nat.mod_eq_of_lt (by omega)
  show IntKind.i64.wrap ((BitVec.ofInt 64 (a : Int) ||| BitVec.ofInt 64 (b : Int)).toNat : Int) = _
  rw [BitVec.toNat_or, h1, h2, IntKind.wrap_i64]
  omega

theorem bit_or (s k : Nat) (hs : s < 4096) (hk : k ≤ 12) : Go.bits .or .i64 (s : Int) (shl .i64 1 (k : Int)) = ((s ||| 2 ^ k : Nat) : Int) := by
  rw [shl_one k hk, bits_or_nat s (2 ^ k) hs]
  have : 2 ^ k ≤ 2 ^ 12 := Nat.pow_le_pow_right (by decide) hk
  omega

theorem wrap_small (n : Int) (h0 : -9223372036854775808 ≤ n) (h1 : n ≤ 9223372036854775807) : wrap64 n = n := by unfold wrap64; omega

theorem rd_nat (xs : List Int) (k : Nat) : rd xs (k : Int) = xs.getD k 0 := by simp [rd]
theorem rd_set (xs : List Int) (k : Nat) (v : Int) (h : k < xs.length) : rd (xs.set k v) (k : Int) = v := by simp [rd, h]

def tab (m : Nat) (rs : List (List Int)) : List Int := (List.range (2 ^ m)).map (best rs)
theorem tab_length (m : Nat) (rs : List (List Int)) : (tab m rs).length = 2 ^ m := by simp [tab]
theorem tab_get (m : Nat) (rs : List (List Int)) (s : Nat) (h : s < 2 ^ m) : rd (tab m rs) (s : Int) = best rs s := by
  rw [rd_nat]
  simp [tab, h]
theorem tab_ext (m : Nat) (rs : List (List Int)) (R : List Int) (hR : R.length = 2 ^ m) (h : ∀ t, t < 2 ^ m → R.getD t 0 = best rs t) : R = tab m rs := by
  apply List.ext_getElem (by rw [hR, tab_length])
  intro i h1 h2
  have := h i (by omega)
  rw [List.getD_eq_getElem?_getD, List.getElem?_eq_getElem h1] at this
  simp [tab]
  simpa using this

theorem Good.tail {m : Nat} {rs : List (List Int)} (hg : Good m rs) (i : Nat) : Good m (rs.drop i) := fun r hr => hg r (List.mem_of_mem_drop hr)

theorem good_of_right {c : List (List Int)} (h : right c = true) : c.length ≤ 12 ∧ ∃ m, m ≤ 12 ∧ c.length ≤ m ∧ Good m c ∧ (c ≠ [] → (rdL c 0).length = m) := by
  unfold right at h
  rw [Bool.and_eq_true, decide_eq_true_eq, List.all_eq_true] at h
  obtain ⟨h0, h1⟩ := h
  refine ⟨h0, ?_⟩
  cases c with
  | nil => exact ⟨0, by omega, by simp, fun r hr => by simp at hr, by simp⟩
  | cons r rs =>
    have hh := h1 r (by simp)
    simp only [rowOk, Bool.and_eq_true, decide_eq_true_eq] at hh
    refine ⟨(rdL (r :: rs) 0).length, by omega, by omega, fun r' hr' => ?_, fun _ => rfl⟩
    have h2 := h1 r' hr'
    simp only [rowOk, Bool.and_eq_true, decide_eq_true_eq] at h2
    refine ⟨h2.1.1.1, fun k => ?_⟩
    by_cases hk : k < r'.length
    · have := (List.all_eq_true.1 h2.2) (r'[k]) (List.getElem_mem hk)
      simp only [okc, Bool.and_eq_true, decide_eq_true_eq] at this
      simpa [hk] using this
    · rw [List.getD_eq_getElem?_getD, List.getElem?_eq_none (by omega)]
      simp
end Go.Proofs.Ytgnkpahnhhmceaa.Core
