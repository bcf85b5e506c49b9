/- Slices of structs as data; lists of numbers; within, different of the reference's layer 25. -/
import Derived.Test.YtonleohlplkglaaGreatDoorTz
namespace Go.Proofs.YtonleohlplkglaaGreatDoor
open Go Go.RowKit

/-- A slice of elements of 'sz' cells each, with a bound on its capacity. -/
def ArrAt {α : Type} (sz : Nat) (R : World → List Value → α → Prop) (w : World) (v : Value) (xs : List α) : Prop :=
  ∃ (A : Option Addr) (c : Nat), v = .slice A xs.length c ∧ xs.length ≤ c ∧ xs.length ≤ 35184372088832 ∧
    (xs ≠ [] → ∃ b off : Nat, A = some ⟨b, off, none⟩ ∧ b < w.heap.size ∧
      ∀ k x, xs[k]? = some x → ∃ cs : List Value, cs.length = sz ∧ (∀ j u, cs[j]? = some u → w.cell? ⟨b, off + (k * sz + j), none⟩ = some u) ∧ R w cs x)
theorem ArrAt.ext {α : Type} {sz : Nat} {R : World → List Value → α → Prop} (hR : Stable R) {w w' : World} {v : Value} {xs : List α} (h : ArrAt sz R w v xs) (hx : Ext w w') : ArrAt sz R w' v xs := by
  obtain ⟨A, c, hv, hl, hm, hc⟩ := h
  refine ⟨A, c, hv, hl, hm, fun hne => ?_⟩
  obtain ⟨b, off, hA, hb, hk⟩ := hc hne
  refine ⟨b, off, hA, Nat.lt_of_lt_of_le hb hx.size, fun k x hkx => ?_⟩
  obtain ⟨cs, hcs, hcell, hr⟩ := hk k x hkx
  exact ⟨cs, hcs, fun j u hj => (hx.cell (p := ⟨b, off + (k * sz + j), none⟩) hb).trans (hcell j u hj), hR _ _ _ _ hx hr⟩
theorem ArrAt.form {α : Type} {sz : Nat} {R : World → List Value → α → Prop} {w : World} {v : Value} {xs : List α} (h : ArrAt sz R w v xs) : ∃ A c, v = .slice A xs.length c ∧ xs.length ≤ c ∧ xs.length ≤ 35184372088832 := by
  obtain ⟨A, c, hv, hl, hm, _⟩ := h; exact ⟨A, c, hv, hl, hm⟩
/-- The place of a slice that is not empty, and one of its elements. -/
theorem ArrAt.at_ {α : Type} {sz : Nat} {R : World → List Value → α → Prop} {w : World} {A : Option Addr} {n c : Nat} {xs : List α} (h : ArrAt sz R w (.slice A n c) xs) {k : Nat} (hk : k < xs.length) :
    ∃ b off, A = some ⟨b, off, none⟩ ∧ b < w.heap.size ∧ ∃ cs : List Value, cs.length = sz ∧ (∀ j u, cs[j]? = some u → w.cell? ⟨b, off + (k * sz + j), none⟩ = some u) ∧ R w cs xs[k] := by
  obtain ⟨A', c', hv, hl, hm, hc⟩ := h
  obtain ⟨rfl, rfl, rfl⟩ : A = A' ∧ n = xs.length ∧ c = c' := by injection hv with h1 h2 h3; exact ⟨h1, h2, h3⟩
  obtain ⟨b, off, rfl, hb, hel⟩ := hc (by intro e; rw [e] at hk; simp at hk)
  obtain ⟨cs, h1, h2, h3⟩ := hel k _ (List.getElem?_eq_getElem hk)
  exact ⟨b, off, rfl, hb, cs, h1, h2, h3⟩
theorem ArrAt.len {α : Type} {sz : Nat} {R : World → List Value → α → Prop} {w : World} {A : Option Addr} {n c : Nat} {xs : List α} (h : ArrAt sz R w (.slice A n c) xs) : n = xs.length ∧ n ≤ c ∧ n ≤ 35184372088832 := by
  obtain ⟨A', c', hv, hl, hm, hc⟩ := h
  obtain ⟨rfl, rfl, rfl⟩ : A = A' ∧ n = xs.length ∧ c = c' := by injection hv with h1 h2 h3; exact ⟨h1, h2, h3⟩
  exact ⟨rfl, hl, hm⟩

def IntR (_ : World) (cs : List Value) (x : Int) : Prop := cs = [.int .i64 x]
theorem IntR.stable : Stable IntR := fun _ _ _ _ _ h => h
/-- A slice of numbers. -/
abbrev Ints (w : World) (v : Value) (xs : List Int) : Prop := ArrAt 1 IntR w v xs
theorem ints_cells {w : World} {A : Option Addr} {n c : Nat} {xs : List Int} (h : Ints w (.slice A n c) xs) {k : Nat} (hk : k < xs.length) :
    ∃ b off, A = some ⟨b, off, none⟩ ∧ b < w.heap.size ∧ ∀ j (hj : j < xs.length), w.cell? ⟨b, off + j, none⟩ = some (.int .i64 xs[j]) := by
  obtain ⟨A', c', hv, hl, hm, hc⟩ := h
  obtain ⟨rfl, rfl, rfl⟩ : A = A' ∧ n = xs.length ∧ c = c' := by injection hv with h1 h2 h3; exact ⟨h1, h2, h3⟩
  obtain ⟨b, off, rfl, hb, hel⟩ := hc (by intro e; rw [e] at hk; simp at hk)
  refine ⟨b, off, rfl, hb, fun j hj => ?_⟩
  obtain ⟨cs, h1, h2, h3⟩ := hel j _ (List.getElem?_eq_getElem hj)
  rw [h3] at h2
  simpa using h2 0 _ rfl

def withinL (xs : List Int) (n : Int) : Bool := xs.all fun x => decide (0 ≤ x) && decide (x < n)

set_option maxHeartbeats 800000 in
theorem ref25_within {A : Option Addr} {m c : Nat} {xs : List Int} {n : Int} {w : World} (h : Ints w (.slice A m c) xs) :
    Calls Tryz.prog 104 #[.slice A m c, .int .i64 n] w fun e w' => e = .returned (.bool (withinL xs n)) ∧ w = w' := by
  obtain ⟨rfl, hl, hm⟩ := h.len
  have HC := Lib.hid (fun k (hk : k < xs.length) => ints_cells h hk)
  clear h
  go_enter Tryz.func104, Tryz.ntmps104
  go_wp2_with fail
  go_loopg [5] xs.length (fun gk x wr => ∃ i : Nat, x = .int .i64 (i : Int) ∧ i + gk = xs.length ∧ Hid (withinL (xs.drop i) n = withinL xs n) ∧ wr = w)
  case atStart => exact ⟨0, rfl, by omega, rfl, rfl⟩
  case round =>
    obtain ⟨i, rfl, hi, HA, rfl⟩ := hrel
    by_cases hlt : i < xs.length
    · obtain ⟨b, off, rfl, hb, hcell⟩ := HC.out _ hlt
      have q := hcell i hlt
      have HD : Hid (withinL (xs.drop i) n = (decide (0 ≤ xs[i]) && decide (xs[i] < n) && withinL (xs.drop (i + 1)) n)) := by show _ = _; unfold withinL; rw [List.drop_eq_getElem_cons hlt, List.all_cons]
      clear hcell HC
      generalize xs[i] = x at *
      by_cases h0 : x < 0
      · have HR : Hid (withinL xs n = false) := by show _ = _; rw [← HA.out, HD.out]; simp; omega
        go_wp2_with fail
        refine bodyPost_ret (v := .bool false) ?_ rfl ⟨by rw [HR.out], rfl⟩
        simp [results, Tryz.results104, go_sem]
      · have h0' : decide (x < 0) = false := by simpa using h0
        by_cases h1 : n ≤ x
        · have HR : Hid (withinL xs n = false) := by show _ = _; rw [← HA.out, HD.out]; simp; omega
          go_wp2_with fail
          refine bodyPost_ret (v := .bool false) ?_ rfl ⟨by rw [HR.out], rfl⟩
          simp [results, Tryz.results104, go_sem]
        · have h1' : decide (n ≤ x) = false := by simpa using h1
          have HR : Hid (withinL (xs.drop (i + 1)) n = withinL xs n) := by
            show _ = _
            have e1 : decide (0 ≤ x) = true := by simp; omega
            have e2 : decide (x < n) = true := by simp; omega
            rw [← HA.out, HD.out, e1, e2]; rfl
          clear h0 h1
          go_wp2_with fail
          go_roundg (gk - 1)
          case measure => omega
          case rel => exact ⟨i + 1, by simp, by omega, HR, rfl⟩
    · have HR : Hid (withinL xs n = true) := by show _ = _; rw [← HA.out, List.drop_eq_nil_of_le (by omega)]; rfl
      go_wp2_with fail
      refine bodyPost_ret (v := .bool true) ?_ rfl ⟨by rw [HR.out], rfl⟩
      simp [results, Tryz.results104, go_sem]

theorem nodup_take_succ {xs : List Int} {i : Nat} (h : i < xs.length) : (xs.take (i + 1)).Nodup ↔ (xs.take i).Nodup ∧ xs[i] ∉ xs.take i := by
  rw [List.take_succ_eq_append_getElem h]
  rw [List.nodup_append]
  constructor
  · rintro ⟨h1, _, h2⟩
    exact ⟨h1, fun h3 => h2 _ h3 _ (by simp) rfl⟩
  · rintro ⟨h1, h2⟩
    refine ⟨h1, by simp, fun a ha b hb e => h2 ?_⟩
    simp at hb
    rw [← hb, ← e]; exact ha

set_option maxHeartbeats 800000 in
theorem ref25_different {A : Option Addr} {m c : Nat} {xs : List Int} {w : World} (h : Ints w (.slice A m c) xs) :
    Calls Tryz.prog 106 #[.slice A m c] w fun e w' => e = .returned (.bool (decide xs.Nodup)) ∧ Ext w w' := by
  obtain ⟨rfl, hl, hm⟩ := h.len
  have HC := Lib.hid (fun k (hk : k < xs.length) => ints_cells h hk)
  clear h
  go_enter Tryz.func106, Tryz.ntmps106
  go_wp2_with fail
  go_loopg [3, 4] xs.length (fun gk x _ wr => ∃ i : Nat, x = .int .i64 (i : Int) ∧ i + gk = xs.length ∧ Hid ((xs.take i).Nodup) ∧ Hid (Ext w wr))
  case atStart => exact ⟨0, rfl, by omega, List.nodup_nil, Ext.refl _⟩
  case round =>
    obtain ⟨i, rfl, hi, HN, HE⟩ := hrel
    by_cases hlt : i < xs.length
    · obtain ⟨b, off, rfl, hb, hcell⟩ := HC.out _ hlt
      have HS := Lib.hid (nodup_take_succ hlt)
      go_wp2_with fail
      go_loopg [4] i (fun gk2 x wr2 => ∃ k : Nat, x = .int .i64 (k : Int) ∧ k + gk2 = i ∧ Hid (xs[i] ∉ xs.take k) ∧ Hid (Ext w wr2))
      case atStart => exact ⟨0, rfl, by omega, by simp [Hid], HE.out⟩
      case round =>
        obtain ⟨k, rfl, hk, HM, HE2⟩ := hrel
        by_cases hkl : k < i
        · have q1 := (HE2.out.cell (p := ⟨b, off + i, none⟩) hb).trans (hcell i hlt)
          have q2 := (HE2.out.cell (p := ⟨b, off + k, none⟩) hb).trans (hcell k (by omega))
          have HK : Hid (xs[i] ≠ xs[k] → xs[i] ∉ xs.take (k + 1)) := by
            intro hne hmem
            rw [List.take_succ_eq_append_getElem (by omega)] at hmem
            rcases List.mem_append.1 hmem with h1 | h1
            · exact HM.out h1
            · simp at h1; exact hne h1
          have HK2 : Hid (xs[i] = xs[k] → ¬ xs.Nodup) := by
            intro he hnd
            have := (List.getElem_inj (h₀ := hlt) (h₁ := by omega) hnd).1 he
            omega
          clear hcell HC
          generalize xs[i] = x at *
          generalize xs[k] = y at *
          by_cases he : x = y
          · have he' : (x == y) = true := by simpa using he
            have HR : Hid (decide xs.Nodup = false) := by show _ = _; simpa using HK2.out he
            clear he
            go_wp2_with fail
            go_quiet (fail)
            go_wp2_with fail
            refine bodyPost_ret (v := .bool false) ?_ rfl ⟨by rw [HR.out], HE2.out.trans (Ext.drewN _ _)⟩
            simp [results, Tryz.results106, go_sem]
          · have he' : (x == y) = false := by simpa using he
            have HR := Lib.hid (HK.out he)
            clear he
            go_wp2_with fail
            go_quiet (fail)
            go_wp2_with fail
            go_roundg (i - (k + 1))
            case measure => omega
            case rel => exact ⟨k + 1, by simp, by omega, HR.out, HE2.out.trans (Ext.drewN _ _)⟩
        · have HR : Hid ((xs.take (i + 1)).Nodup) := by
            refine HS.out.2 ⟨HN.out, ?_⟩
            have := HM.out
            rwa [show k = i by omega] at this
          go_wp2_with fail
          go_roundg (xs.length - (i + 1))
          case measure => omega
          case rel => exact ⟨i + 1, by simp, by omega, HR.out, HE2.out⟩
    · have HR : Hid (decide xs.Nodup = true) := by show _ = _; have := HN.out; rw [List.take_of_length_le (by omega)] at this; simpa using this
      go_wp2_with fail
      refine bodyPost_ret (v := .bool true) ?_ rfl ⟨by rw [HR.out], HE.out⟩
      simp [results, Tryz.results106, go_sem]
end Go.Proofs.YtonleohlplkglaaGreatDoor
