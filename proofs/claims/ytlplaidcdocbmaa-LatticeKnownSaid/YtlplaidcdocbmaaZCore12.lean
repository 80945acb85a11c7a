-- Cut by pack.py, a program of this session; not trusted: Lean checks it.
import Derived.RangeFuncNested
import Derived.RangeFuncBound
import Derived.RangeFuncCalls
import Derived.RangeFuncLeaves
import Derived.Shelf.Abstract
import Derived.Shelf.RegionOpen
import Derived.WalkKit
import Derived.OwnWalkIn
import Derived.TacticsInMore
import Derived.LoopNIn
import Derived.LoopIn
import Derived.Maps.AppendAt
import Derived.Test.YtlplaidcdocbmaaProg
import Derived.Test.YtlplaidcdocbmaaZCore1
import Derived.Test.YtlplaidcdocbmaaZPlainA
import Derived.Lib.Strings
import Derived.Lib.Slices
import Derived.Lib.Small
import Derived.Lib.Walk
import Derived.Lib.BitFns
import Derived.Test.YtlplaidcdocbmaaZCore11
/- bits.Len of small numbers; the shelf's proof, turned to this program. -/
namespace Go.Proofs.Ytlplaidcdocbmaa.Core
open Go.RowKit Go.Proofs.YtlplaidcdocbmaaW.PrintWords
set_option linter.unusedVariables false
set_option linter.unusedSimpArgs false

theorem tab_len : ∀ k : Nat, k < 256 → (Lib.len8tab[k]?.map (·.toNat)) = some (Lib.bitLen k) := by decide +kernel
theorem tab_get (k : Nat) (h : k < 256) (hs : k < Lib.len8tab.size) : (Lib.len8tab[k]).toNat = Lib.bitLen k := by
  have e := tab_len k h
  rw [getElem?_pos _ k hs] at e
  exact Option.some.inj e
theorem bit8 : ∀ k : Nat, k < 256 → Lib.bitLen k ≤ 8 := by decide +kernel
theorem ret_i {a b : Int} (h : a = b) : Ending.returned (.int .i64 a) = .returned (.int .i64 b) := by rw [h]
theorem w2 (k : Nat) (h : k ≤ 300) : wrap64 (wrap64 (k : Int)) = (k : Int) := by unfold wrap64; omega
theorem tab_size : Lib.len8tab.size = 256 := by decide +kernel
theorem valA (x : Int) (h0 : 0 ≤ x) (h1 : x < 256) (hs : x.toNat < Lib.len8tab.size) : wrap64 (wrap64 ((Lib.len8tab[x.toNat]'hs).toNat : Int)) = (Lib.bitLen x.toNat : Int) := by
  have e := tab_get x.toNat (by omega) hs
  have b := bit8 x.toNat (by omega)
  generalize (Lib.len8tab[x.toNat]'hs).toNat = a at *
  rw [e]
  exact w2 _ (by omega)
theorem valB (y : Int) (h0 : 0 ≤ y) (h1 : y < 256) (hs : y.toNat < Lib.len8tab.size) : wrap64 (8 + wrap64 ((Lib.len8tab[y.toNat]'hs).toNat : Int)) = 8 + (Lib.bitLen y.toNat : Int) := by
  have e := tab_get y.toNat (by omega) hs
  have b := bit8 y.toNat (by omega)
  generalize (Lib.len8tab[y.toNat]'hs).toNat = a at *
  rw [e]
  unfold wrap64
  omega
theorem lenA (x : Int) (w : World) (h0 : 0 ≤ x) (h1 : x < 256) :
    Calls Try.prog 99 #[.int .u64 x] w fun e w' => e = .returned (.int .i64 (Lib.bitLen x.toNat)) ∧ w' = w := by
  have b1 : ¬ (4294967296 : Int) ≤ x := by omega
  have b2 : ¬ (65536 : Int) ≤ x := by omega
  have b3 : ¬ (256 : Int) ≤ x := by omega
  have hs : 0 ≤ x ∧ x < (Lib.len8tab.size : Int) := by rw [tab_size]; omega
  have HV := Apart0.mk (fun h => valA x h0 h1 h)
  go_enter Try.func99, Try.ntmps99
  go_wp2
  go_ret
  exact ⟨ret_i (HV.out _), rfl⟩
theorem lenB (x : Int) (w : World) (h0 : 256 ≤ x) (h1 : x < 65536) :
    Calls Try.prog 99 #[.int .u64 x] w fun e w' => e = .returned (.int .i64 (8 + Lib.bitLen (x / 256).toNat)) ∧ w' = w := by
  have b1 : ¬ (4294967296 : Int) ≤ x := by omega
  have b2 : ¬ (65536 : Int) ≤ x := by omega
  have b3 : (256 : Int) ≤ x := by omega
  have hs : 0 ≤ x / 256 ∧ x / 256 < (Lib.len8tab.size : Int) := by rw [tab_size]; omega
  have hv := fun h => valB (x / 256) (by omega) (by omega) h
  have HV := Apart0.mk hv
  clear hv
  go_enter Try.func99, Try.ntmps99
  go_wp2
  go_ret
  exact ⟨ret_i (HV.out _), rfl⟩
/-- How many binary digits. -/
def lenI (x : Int) : Int := if x < 256 then (Lib.bitLen x.toNat : Int) else 8 + (Lib.bitLen (x / 256).toNat : Int)
theorem len_K (x : Int) (h0 : 0 ≤ x) (h1 : x < 65536) (w : World) : Calls Try.prog 79 #[.int .u64 x] w fun e w' => e = .returned (.int .i64 (lenI x)) ∧ Drawn0 w w' := by
  have hc : Calls Try.prog 99 #[.int .u64 x] w fun e w' => e = .returned (.int .i64 (lenI x)) ∧ w' = w := by
    unfold lenI
    by_cases h : x < 256
    · rw [if_pos h]; exact lenA x w h0 h
    · rw [if_neg h]; exact lenB x w (by omega) h1
  generalize lenI x = y at *
  go_enter Try.func79, Try.ntmps79
  go_wp2_with (go_at_call 99; refine hc.mono ?_; rintro e w' ⟨rfl, rfl⟩)
  go_ret
  exact ⟨rfl, Drawn0.refl _⟩
end Go.Proofs.Ytlplaidcdocbmaa.Core
