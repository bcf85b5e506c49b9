/- Contracts: trim. -/
import Derived.WalkKit
import Derived.Outline
import Derived.Deep.QuietTactic
import Derived.BigQuiet
import Derived.Lib.Hide
import Derived.Deep.DeepCutAuto
import Derived.Deep.LoopGhost
import Derived.Test.YtonleohlplkglaaGreatDoorProg
import Derived.Test.YtonleohlplkglaaGreatDoorMem
namespace Go.Proofs.YtonleohlplkglaaGreatDoor
open Go Go.RowKit

def lenOf' : Value → Nat | .slice _ n _ => n | _ => 0

set_option maxHeartbeats 400000 in
theorem ref01_trim {A : Option Addr} {n c : Nat} {xs : List Nat} {w : World} (h : Words w (.slice A n c) xs) :
    Calls Tryz.prog 145 #[.slice A n c] w fun e w' => e = .returned (.slice A (trimL xs).length c) ∧ w = w' := by
  obtain ⟨A', c', hv, hl, hm, hL, hc⟩ := h
  obtain ⟨rfl, rfl, rfl⟩ : A = A' ∧ n = xs.length ∧ c = c' := by injection hv with h1 h2 h3; exact ⟨h1, h2, h3⟩
  clear hv
  go_enter Tryz.func145, Tryz.ntmps145
  go_wp2
  go_loop [0] (fun m => ∃ n : Nat, n ≤ xs.length ∧ m = .slice A n c ∧ Hid (trimL (xs.take n) = trimL xs)) (fun m => lenOf' m)
  case atStart => exact ⟨xs.length, Nat.le_refl _, rfl, by rw [List.take_length]; rfl⟩
  case round =>
    obtain ⟨n, hn, rfl, HT⟩ := hrel
    by_cases h0 : 0 < n
    · obtain ⟨b, off, rfl, hb, hcell⟩ := hc (by omega)
      obtain ⟨k, rfl⟩ : ∃ k, n = k + 1 := ⟨n - 1, by omega⟩
      have hk := hcell k (by omega)
      have hxk := hL.getD k
      clear hc hcell
      have H0 : Hid (xs.getD k 0 = 0 → trimL (xs.take k) = trimL xs) := fun h => (trim_step_zero (by omega) h).symm.trans HT
      have H1 : Hid (xs.getD k 0 ≠ 0 → (trimL xs).length = k + 1) := fun h => HT ▸ trim_step_pos (by omega) h
      generalize xs.getD k 0 = x at *
      by_cases hz : x = 0
      · subst hz
        go_wp2
        go_round
        case rel => exact ⟨k, by omega, by simp, H0.out rfl⟩
        case measure => simp [lenOf']
      · have hz' : ((x : Int) == 0) = false := by simp; omega
        go_wp2
        go_ret
        exact ⟨by rw [H1.out hz]; rfl, rfl⟩
    · obtain rfl : n = 0 := by omega
      go_wp2
      go_ret
      exact ⟨by rw [← HT.out]; rfl, rfl⟩
end Go.Proofs.YtonleohlplkglaaGreatDoor
