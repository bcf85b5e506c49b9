/- Contracts: signed, Norm, words, short. -/
import Derived.Test.YtonleohlplkglaaGreatDoorTa
import Derived.Test.YtonleohlplkglaaGreatDoorBits
namespace Go.Proofs.YtonleohlplkglaaGreatDoor
open Go Go.RowKit

theorem bcell {W w1 : World} (hb : Below W.heap.size W w1) : (∀ b o, b < W.heap.size → w1.cell? ⟨b, o, none⟩ = W.cell? ⟨b, o, none⟩) ∧ (∀ b o, b < W.heap.size → w1.frozen? ⟨b, o, none⟩ = W.frozen? ⟨b, o, none⟩) :=
  ⟨fun b o h => hb.cell (p := ⟨b, o, none⟩) h, fun b o h => hb.frozen (p := ⟨b, o, none⟩) h⟩
theorem quiet_left {P : Program} {f : FuncId} {args : Array Value} {w : World} {n : Nat} {v : Value}
    (h : Calls P f args (w.drewN n) fun e w' => e = .returned v ∧ w.drewN n = w') : Calls P f args (w.drewN n) fun e w'' => e = .returned v ∧ ∃ m, w'' = w.drewN m :=
  h.mono fun _ _ ⟨he, hm⟩ => ⟨he, n, hm.symm⟩
theorem Words.form {w : World} {v : Value} {xs : List Nat} (h : Words w v xs) : ∃ A c, v = .slice A xs.length c ∧ xs.length ≤ c ∧ xs.length ≤ 35184372088832 := by
  obtain ⟨A, c, hv, hl, hm, _, _⟩ := h; exact ⟨A, c, hv, hl, hm⟩
theorem Words.trim {w : World} {A : Option Addr} {n c : Nat} {xs : List Nat} (h : Words w (.slice A n c) xs) : Words w (.slice A (trimL xs).length c) (trimL xs) := by
  obtain ⟨A', c', hv, hl, hm, hL, hc⟩ := h
  obtain ⟨rfl, rfl, rfl⟩ : A = A' ∧ n = xs.length ∧ c = c' := by injection hv with h1 h2 h3; exact ⟨h1, h2, h3⟩
  have hle := trimL_length_le xs
  refine ⟨A, c, rfl, by omega, by omega, limb_trimL hL, fun h0 => ?_⟩
  obtain ⟨b, off, hA, hb, hcell⟩ := hc (by omega)
  refine ⟨b, off, hA, hb, fun k hk => ?_⟩
  rw [hcell k (by omega)]
  have : (trimL xs).getD k 0 = xs.getD k 0 := by
    rw [trimL_prefix xs, List.getD_eq_getElem?_getD, List.getD_eq_getElem?_getD, List.getElem?_take, if_pos hk]
  rw [this]

set_option maxHeartbeats 400000 in
theorem ref01_signed (neg : Bool) {A : Option Addr} {n c : Nat} {xs : List Nat} {w : World} (h : Words w (.slice A n c) xs) :
    Calls Tryz.prog 148 #[.bool neg, .slice A n c] w fun e w' => e = .returned (.agg #[.bool (neg && decide (0 < (trimL xs).length)), .slice A (trimL xs).length c]) ∧ Ext w w' := by
  have hlen : (trimL xs).length ≤ 35184372088832 := by
    obtain ⟨_, _, hv, h1, h2, _⟩ := h
    have := trimL_length_le xs; injection hv; omega
  have H := ref01_trim (h.ext (Ext.alloc w (.cells #[.bool false, .slice none 0 0] 36)))
  have H' := Lib.hid H
  clear H h
  generalize (trimL xs).length = k at *
  cases neg
  all_goals
    go_enter Tryz.func148, Tryz.ntmps148
    go_wp2_with (go_at_call 145; refine (H'.out).mono ?_; rintro e w' ⟨rfl, rfl⟩)
    refine bodyPost_ret ?_ rfl ⟨rfl, Ext.alloc _ _⟩
    simp [results, Tryz.results148, go_sem]

set_option maxHeartbeats 400000 in
theorem ref01_Norm (neg : Bool) {A : Option Addr} {n c : Nat} {xs : List Nat} {w : World} (h : Words w (.slice A n c) xs) :
    Calls Tryz.prog 146 #[.agg #[.bool neg, .slice A n c]] w fun e w' => e = .returned (.agg #[.bool (neg && decide (0 < (trimL xs).length)), .slice A (trimL xs).length c]) ∧ Ext w w' := by
  have H := fun w' (hw : Ext w w') => ref01_signed neg (h.ext hw)
  have H' := Lib.hid H
  clear H h
  generalize (trimL xs).length = k at *
  go_enter Tryz.func146, Tryz.ntmps146
  go_wp2_with fail
  refine (H'.out _ ((Ext.alloc _ _).trans (Ext.alloc _ _))).mono ?_
  rintro e w' ⟨rfl, hx⟩
  obtain ⟨hc, hf⟩ := bcell hx
  go_wp2_with fail
  refine bodyPost_ret ?_ rfl ⟨rfl, ?_⟩
  · simp [results, Tryz.results146, go_sem, hc]
  · exact ((((Ext.alloc _ _).trans (Ext.alloc _ _)).trans hx).setCell (by simp) _).setCell (by simp) _

set_option maxHeartbeats 400000 in
theorem ref01_Valid (neg : Bool) {A : Option Addr} {n c : Nat} {xs : List Nat} {w : World} (h : Words w (.slice A n c) xs) :
    Calls Tryz.prog 99 #[.agg #[.bool neg, .slice A n c]] w fun e w' => e = .returned (.bool (decide ((trimL xs).length = n) && (!neg || decide (0 < n)))) ∧ Ext w w' := by
  have H := fun w' (hw : Ext w w') => ref01_trim (h.ext hw)
  have H' := Lib.hid H
  clear H h
  generalize (trimL xs).length = k at *
  by_cases h1 : k = n
  · subst h1
    cases neg
    · go_enter Tryz.func99, Tryz.ntmps99
      go_wp2_with fail
      go_quiet ((go_at_call 145; exact quiet_left (H'.out _ ((Ext.alloc _ _).trans (Ext.drewN _ _)))))
      go_wp2_with fail
      go_ret
      exact ⟨by simp, (Ext.alloc _ _).trans (Ext.drewN _ _)⟩
    · go_enter Tryz.func99, Tryz.ntmps99
      go_wp2_with fail
      go_quiet ((go_at_call 145; exact quiet_left (H'.out _ ((Ext.alloc _ _).trans (Ext.drewN _ _)))))
      go_wp2_with fail
      go_ret
      exact ⟨by simp, (Ext.alloc _ _).trans (Ext.drewN _ _)⟩
  · have h2 : ((k : Int) == (n : Int)) = false := by simp; omega
    have hd : decide (k = n) = false := by simpa using h1
    go_enter Tryz.func99, Tryz.ntmps99
    go_wp2_with fail
    go_quiet ((go_at_call 145; exact quiet_left (H'.out _ ((Ext.alloc _ _).trans (Ext.drewN _ _)))))
    go_wp2_with fail
    go_ret
    exact ⟨by simp [h1], (Ext.alloc _ _).trans (Ext.drewN _ _)⟩

def sgnW (neg : Bool) (k : Nat) : Int := if k = 0 then 0 else if neg then -1 else 1

set_option maxHeartbeats 400000 in
theorem ref01_Sign (neg : Bool) {A : Option Addr} {n c : Nat} {xs : List Nat} {w : World} (h : Words w (.slice A n c) xs) :
    Calls Tryz.prog 100 #[.agg #[.bool neg, .slice A n c]] w fun e w' => e = .returned (.int .i64 (sgnW neg (trimL xs).length)) ∧ Ext w w' := by
  have H := fun w' (hw : Ext w w') => ref01_Norm neg (h.ext hw)
  have H' := Lib.hid H
  clear H h
  generalize (trimL xs).length = k at *
  go_enter Tryz.func100, Tryz.ntmps100
  go_wp2_with fail
  refine (H'.out _ (Ext.alloc _ _)).mono ?_
  rintro e w' ⟨rfl, hx⟩
  obtain ⟨hc, hf⟩ := bcell hx
  by_cases h0 : k = 0
  · subst h0
    go_wp2_with fail
    go_ret
    exact ⟨rfl, (((Ext.alloc _ _).trans hx).setCell (Nat.le_refl _) _).setCell (Nat.le_refl _) _⟩
  · have h1 : ((k : Int) == 0) = false := by simp; omega
    have h2 : 0 < k := by omega
    cases neg
    · go_wp2_with fail
      go_ret
      exact ⟨by simp [sgnW, h0], (((Ext.alloc _ _).trans hx).setCell (Nat.le_refl _) _).setCell (Nat.le_refl _) _⟩
    · go_wp2_with fail
      go_ret
      exact ⟨by simp [sgnW, h0], (((Ext.alloc _ _).trans hx).setCell (Nat.le_refl _) _).setCell (Nat.le_refl _) _⟩

set_option maxHeartbeats 400000 in
theorem ref01_short {A : Option Addr} {n c : Nat} {xs : List Nat} {w : World} (h : Words w (.slice A n c) xs) (hs : n ≤ 2) :
    Calls Tryz.prog 168 #[.slice A n c] w fun e w' => e = .returned (.int .u64 ((val xs : Nat) : Int)) ∧ w = w' := by
  obtain ⟨A', c', hv, hl, hm, hL, hc⟩ := h
  obtain ⟨rfl, rfl, rfl⟩ : A = A' ∧ n = xs.length ∧ c = c' := by injection hv with h1 h2 h3; exact ⟨h1, h2, h3⟩
  clear hv
  go_enter Tryz.func168, Tryz.ntmps168
  go_wp2
  go_loop [3, 4] (fun n i => ∃ k : Nat, k ≤ xs.length ∧ i = .int .i64 ((k : Int) - 1) ∧ n = .int .u64 ((val (xs.drop k) : Nat) : Int)) (fun _ i => (intOf i + 1).toNat)
  case atStart => exact ⟨xs.length, Nat.le_refl _, rfl, by simp [val]⟩
  case round =>
    obtain ⟨k, hk, rfl, rfl⟩ := hrel
    by_cases h0 : 0 < k
    · obtain ⟨b, off, rfl, hb, hcell⟩ := hc (by omega)
      obtain ⟨j, rfl⟩ : ∃ j, k = j + 1 := ⟨k - 1, by omega⟩
      have hj := hcell j (by omega)
      have hxj := hL.getD j
      clear hc hcell
      have hlt : val (xs.drop (j + 1)) < 4294967296 := val_drop_lt1 hL (by omega)
      have HV : Hid (val (xs.drop j) = xs.getD j 0 + 4294967296 * val (xs.drop (j + 1))) := val_drop xs (by omega)
      generalize val (xs.drop (j + 1)) = V1 at *
      generalize xs.getD j 0 = x at *
      go_wp2
      refine ⟨⟨j, by omega, rfl, by rw [HV.out, u64_or_hi _ _ hlt hxj]⟩, by simp [intOf]⟩
    · obtain rfl : k = 0 := by omega
      go_wp2
      go_ret
      exact ⟨by simp, rfl⟩
end Go.Proofs.YtonleohlplkglaaGreatDoor
