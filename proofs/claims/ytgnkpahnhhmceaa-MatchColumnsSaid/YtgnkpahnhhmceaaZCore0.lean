-- Cut by pack.py, a program of this session; not trusted: Lean checks it.
import Derived.Test.YtgnkpahnhhmceaaProg
import Derived.Below
import Derived.Deep.Draws
import Derived.Deep.AppendLies
import Derived.Maps.AppendAt
import Derived.OwnWalk
import Derived.Laws.BytesArg
import Derived.Laws.MakeOwn
import Derived.Laws.OwnMore
import Derived.Deep.OwnRows
import Derived.Tactics
import Derived.Lib.ConvBytes
import Derived.Laws.Slices
import Derived.WalkKit
import Derived.KernelRfl
import Derived.RowKit3
import Derived.Deep.LoopGhost
import Derived.Deep.QuietTactic
import Derived.BigQuiet
import Derived.WideLaws
import Derived.Deep.DeepCutAuto
import Derived.Deep.CutBlock
import Derived.Deep.RegionHeld3
import Derived.Laws.Rows
import Derived.Lib.AppendStr
import Derived.ArgAppend
import Derived.Laws.IdiomCopy
import Derived.OrdersHeld
import Derived.Laws.BitsLemmas
import Derived.RowKit
import Derived.Test.YtgnkpahnhhmceaaZV0
/- Small contracts under match.right: the two 'each' instances and the two closures. -/
namespace Go.Proofs.Ytgnkpahnhhmceaa.Core
open Go.RowKit Go.Proofs.YtgnkpahnhhmceaaW.PrintWords Go.Proofs.YtgnkpahnhhmceaaW.PrintLast Go.Proofs.YtgnkpahnhhmceaaW.PrintMore
set_option linter.unusedVariables false
set_option linter.unusedSimpArgs false

theorem within_calls (c : Int) (w : World) :
    Calls Try.prog 26 #[.int .i64 c] w fun e w' => e = .returned (.bool (decide (0 ≤ c) && decide (c ≤ 1000000))) ∧ w = w' := by
  by_cases h0 : 0 ≤ c
  · by_cases h1 : c ≤ 1000000
    · have b0 : decide (0 ≤ c) = true := decide_eq_true h0
      have b1 : decide (c ≤ 1000000) = true := decide_eq_true h1
      go_enter Try.func26, Try.ntmps26
      go_wp2
      go_ret
      exact ⟨by simp [h0, h1], rfl⟩
    · have b0 : decide (0 ≤ c) = true := decide_eq_true h0
      have b1 : decide (c ≤ 1000000) = false := decide_eq_false h1
      go_enter Try.func26, Try.ntmps26
      go_wp2
      go_ret
      exact ⟨by simp [h0, h1], rfl⟩
  · have b0 : decide (0 ≤ c) = false := decide_eq_false h0
    go_enter Try.func26, Try.ntmps26
    go_wp2
    go_ret
    exact ⟨by simp [h0], rfl⟩

def okc (c : Int) : Bool := decide (0 ≤ c) && decide (c ≤ 1000000)
theorem okc_calls (c : Int) (w : World) : Calls Try.prog 26 #[.int .i64 c] w fun e w' => e = .returned (.bool (okc c)) ∧ w = w' := within_calls c w

theorem all_take_succ (l : List Int) (k : Nat) (hk : k < l.length) (h : (l.take k).all okc = true) (h2 : okc (rd l k) = true) : (l.take (k + 1)).all okc = true := by
  have hg : l.take (k + 1) = l.take k ++ [rd l k] := by
    rw [List.take_succ_eq_append_getElem hk]
    simp [rd, hk]
  rw [hg, List.all_append, h]
  simp [h2]
theorem all_false_at (l : List Int) (k : Nat) (hk : k < l.length) (h2 : okc (rd l k) = false) : l.all okc = false := by
  rw [List.all_eq_false]
  exact ⟨l[k], List.getElem_mem hk, by have : rd l k = l[k] := by simp [rd, hk]
                                       rw [← this, h2]; simp⟩

theorem cell_int {w : World} {A : Option Addr} {l : List Int} (hr : Kd.C (Kd.int .i64) w A l.length l) (k : Nat) (hk : k < l.length) :
    ∃ ad, A = some ad ∧ w.cell? (ad.add k) = some (.int .i64 (rd l k)) := by
  obtain ⟨ad, c, e, hc, hK, hcell⟩ := Kd.C_get hr (0 : Int) (k : Int) (by omega) (by omega)
  refine ⟨ad, e, ?_⟩
  have hc1 : c = [.int .i64 (rd l k)] := by
    have := hK
    simpa [Kd.int, Kd.scalar, rd] using this
  have h := hcell 0 _ (by rw [hc1]; rfl)
  simpa [Kd.int, Kd.scalar] using h

theorem each_int_calls (A : Option Addr) (c : Nat) (l : List Int) (w : World) (hr : Kd.C (Kd.int .i64) w A l.length l) (hl : l.length ≤ 9223372036854775807) :
    Calls Try.prog 25 #[.slice A l.length c, .func (.func 26) #[] #[]] w fun e w' => e = .returned (.bool (l.all okc)) ∧ w = w' := by
  have HR := Aside0.mk hr
  clear hr
  go_enter Try.func25, Try.ntmps25
  go_wp2
  go_loop [9] (fun i => ∃ k : Nat, k ≤ l.length ∧ i = .int .i64 k ∧ Aside0 ((l.take k).all okc = true)) (fun i => l.length - (intOf i).toNat)
  case atStart => exact ⟨0, Nat.zero_le _, rfl, ⟨rfl⟩⟩
  case round =>
    obtain ⟨k, hk, rfl, HA⟩ := hrel
    by_cases hlt : k < l.length
    · obtain ⟨ad, eA, hc0⟩ : ∃ ad, A = some ad ∧ w.cell? (ad.add k) = some (.int .i64 (rd l k)) := by
        exact cell_int HR.out k hlt
      subst eA
      cases hb : okc (rd l k)
      · have HF := Aside0.mk (all_false_at l k hlt hb)
        go_wp2_with (first | (go_at_call 26; refine (okc_calls _ _).mono ?_; rintro e w' ⟨rfl, rfl⟩))
        go_ret
        exact ⟨by first | rfl | (rw [HF.out]; rfl), rfl⟩
      · have HF := Aside0.mk (all_take_succ l k hlt HA.out hb)
        go_wp2_with (first | (go_at_call 26; refine (okc_calls _ _).mono ?_; rintro e w' ⟨rfl, rfl⟩))
        go_round
        case rel => exact ⟨k + 1, by omega, by go_num, HF⟩
        case measure => simp [intOf]; omega
    · have hk2 : k = l.length := by omega
      have HF := HA.out
      rw [hk2, List.take_length] at HF
      have HF := Aside0.mk HF
      go_wp2
      go_ret
      exact ⟨by first | rfl | (rw [HF.out]; rfl), rfl⟩
end Go.Proofs.Ytgnkpahnhhmceaa.Core
