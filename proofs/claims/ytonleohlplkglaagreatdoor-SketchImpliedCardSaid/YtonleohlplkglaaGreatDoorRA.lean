/- slices.Index, slices.Contains of numbers; lists of numbers that a call builds; ints of the statements. -/
import Derived.Test.YtonleohlplkglaaGreatDoorQV
import Derived.Test.YtonleohlplkglaaGreatDoorQQ
namespace Go.Proofs.YtonleohlplkglaaGreatDoor
open Go Go.RowKit

theorem mem_drop_step {xs : List Int} {x : Int} {i : Nat} (h : i < xs.length) : decide (x ∈ xs.drop i) = (decide (x = xs[i]) || decide (x ∈ xs.drop (i + 1))) := by
  rw [List.drop_eq_getElem_cons h, decide_eq_decide.2 List.mem_cons, Bool.decide_or]

set_option maxHeartbeats 800000 in
theorem slices_Index_int {A : Option Addr} {n c : Nat} {xs : List Int} {x : Int} {w : World} (h : Ints w (.slice A n c) xs) :
    Calls Tryz.prog 111 #[.slice A n c, .int .i64 x] w (IdxRes (decide (x ∈ xs)) w) := by
  obtain ⟨rfl, hl, hm⟩ := h.len
  have HC := Lib.hid (fun k (hk : k < xs.length) => ints_cells h hk)
  clear h
  go_enter Tryz.func111, Tryz.ntmps111
  go_wp2_with fail
  go_loopg [8] xs.length (fun gk y wr => ∃ i : Nat, y = .int .i64 (i : Int) ∧ i + gk = xs.length ∧ Hid (decide (x ∈ xs.drop i) = decide (x ∈ xs)) ∧ wr = w)
  case atStart => exact ⟨0, rfl, by omega, rfl, rfl⟩
  case round =>
    obtain ⟨i, rfl, hi, HA, hwr⟩ := hrel
    have hwr' := hwr.symm
    clear hwr
    subst hwr'
    by_cases hlt : i < xs.length
    · obtain ⟨b, off, rfl, hb, hcell⟩ := HC.out _ hlt
      have q := hcell i hlt
      have HD := Lib.hid (mem_drop_step (x := x) hlt)
      clear hcell HC
      generalize xs[i] = y at *
      by_cases he : x = y
      · have he' : (x == y) = true := by simpa using he
        have HR : Hid (decide (x ∈ xs) = true) := by show _ = _; rw [← HA.out, HD.out, decide_eq_true he]; rfl
        clear he
        go_wp2_with fail
        go_ret
        exact ⟨(i : Int), rfl, by rw [HR.out]; simp, Ext.refl _⟩
      · have he' : (x == y) = false := by simpa using he
        have HR : Hid (decide (x ∈ xs.drop (i + 1)) = decide (x ∈ xs)) := by show _ = _; rw [← HA.out, HD.out, decide_eq_false he]; rfl
        clear he
        go_wp2_with fail
        go_roundg (xs.length - (i + 1))
        case measure => omega
        case rel => exact ⟨i + 1, by simp, by omega, HR, rfl⟩
    · have HR : Hid (decide (x ∈ xs) = false) := by show _ = _; rw [← HA.out, List.drop_eq_nil_of_le (by omega)]; simp
      go_wp2_with fail
      go_ret
      exact ⟨-1, rfl, by rw [HR.out]; rfl, Ext.refl _⟩

theorem slices_Contains_int {A : Option Addr} {n c : Nat} {xs : List Int} {x : Int} {w : World} (h : Ints w (.slice A n c) xs) :
    Calls Tryz.prog 64 #[.slice A n c, .int .i64 x] w fun e w' => e = .returned (.bool (decide (x ∈ xs))) ∧ Ext w w' := by
  have HI := Lib.hid (slices_Index_int (x := x) h)
  clear h
  generalize decide (x ∈ xs) = bb at *
  go_enter Tryz.func64, Tryz.ntmps64
  go_wp2_with fail
  refine HI.out.mono ?_
  rintro e w1 ⟨r, rfl, hr, hx1⟩
  have HR := Lib.hid hr
  clear hr
  go_wp2_with fail
  go_ret
  exact ⟨by rw [← HR.out]; rfl, hx1⟩

theorem infoInt : (Tryz.prog.info? 3).map (fun i => (i.zero, i.size, i.bytes)) = some (some (.int .i64 0), 1, 8) := by kernel_rfl
/-- The cells of a list of numbers. -/
def intVs (l : List Int) : List Value := l.map fun x => Value.int .i64 x
theorem ints_of_own {w : World} {base : Nat} {v : Value} {l : List Int} (h : w.ownsRow base 3 1 v l.length (intVs l)) (hl : l.length ≤ 1000000) : Ints w v l := by
  rcases h.2 with ⟨rfl, hn⟩ | ⟨g, cap, cur, rfl, hb, hg, hcap, hcm, hcs, htk⟩
  · obtain rfl := List.eq_nil_of_length_eq_zero hn
    exact ⟨none, 0, rfl, Nat.le_refl _, by simp, fun h => absurd rfl h⟩
  · refine ⟨some ⟨g, 0, none⟩, cap, rfl, hcap, by omega, fun _ => ⟨g, 0, rfl, (Array.getElem?_eq_some_iff.1 hg).1, fun k x hk => ⟨[.int .i64 x], rfl, fun j u hj => ?_, rfl⟩⟩⟩
    have hj0 : j = 0 := by
      have := (List.getElem?_eq_some_iff.1 hj).1
      simp at this; omega
    subst hj0
    simp at hj
    subst hj
    have h6 : (intVs l)[k]? = some (.int .i64 x) := by unfold intVs; rw [List.getElem?_map, hk]; rfl
    rw [← htk, List.getElem?_take] at h6
    split at h6
    · rw [cell_of_row w g _ cur _ _ hg, Nat.zero_add, Nat.mul_one, Nat.add_zero]
      simpa using h6
    · cases h6

set_option maxHeartbeats 800000 in
theorem law_ints {A B : Option Addr} {n c m d : Nat} {xs ys : List Int} {w : World} (h : Ints w (.slice A n c) xs) (h' : Ints w (.slice B m d) ys) :
    Calls Tryz.prog 18 #[.slice A n c, .slice B m d] w fun e w' => e = .returned (.bool (decide (xs = ys))) ∧ Ext w w' := by
  obtain ⟨rfl, hl, hm⟩ := h.len
  obtain ⟨rfl, hl', hm'⟩ := h'.len
  have HC := Lib.hid (fun k (hk : k < xs.length) => ints_cells h hk)
  have HC' := Lib.hid (fun k (hk : k < ys.length) => ints_cells h' hk)
  clear h h'
  by_cases hxy : xs.length = ys.length
  · have HXY := Lib.hid hxy
    have hne : ((xs.length : Int) != (ys.length : Int)) = false := by rw [hxy]; simp
    clear hxy
    go_enter Tryz.func18, Tryz.ntmps18
    go_wp2_with fail
    go_loopg [13] xs.length (fun gk x wr => ∃ i : Nat, x = .int .i64 (i : Int) ∧ i + gk = xs.length ∧ Hid (decide (xs.drop i = ys.drop i) = decide (xs = ys)) ∧ Hid (Ext w wr))
    case atStart => exact ⟨0, rfl, by omega, rfl, Ext.refl _⟩
    case round =>
      obtain ⟨i, rfl, hi, HA, HE⟩ := hrel
      by_cases hlt : i < xs.length
      · have hlt' : i < ys.length := by rw [← HXY.out]; exact hlt
        obtain ⟨b, off, rfl, hb, hcell⟩ := HC.out _ hlt
        obtain ⟨b', off', rfl, hb', hcell'⟩ := HC'.out _ hlt'
        have q1 := (HE.out.cell (p := ⟨b, off + i, none⟩) hb).trans (hcell i hlt)
        have q2 := (HE.out.cell (p := ⟨b', off' + i, none⟩) hb').trans (hcell' i hlt')
        have HD := Lib.hid (list_eq_step hlt hlt')
        have i1 : (i : Int) < (xs.length : Int) := by omega
        have i2 : (i : Int) < (ys.length : Int) := by omega
        have i0 : (0 : Int) ≤ (i : Int) := by omega
        clear hcell hcell' HC HC'
        generalize xs[i] = x at *
        generalize ys[i] = y at *
        by_cases he : x = y
        · have he' : (x != y) = false := by simp [he]
          have HR : Hid (decide (xs.drop (i + 1) = ys.drop (i + 1)) = decide (xs = ys)) := by show _ = _; rw [← HA.out, HD.out, decide_eq_true he]; rfl
          clear he
          go_wp2_with fail
          go_quiet (fail)
          go_wp2_with fail
          go_roundg (xs.length - (i + 1))
          case measure => omega
          case rel => exact ⟨i + 1, by simp, by omega, HR, HE.out.pdrewN _⟩
        · have he' : (x != y) = true := by simpa using he
          have HR : Hid (decide (xs = ys) = false) := by show _ = _; rw [← HA.out, HD.out, decide_eq_false he]; rfl
          clear he
          go_wp2_with fail
          go_quiet (fail)
          go_wp2_with fail
          go_ret
          exact ⟨by rw [HR.out]; rfl, HE.out.pdrewN _⟩
      · have HR : Hid (decide (xs = ys) = true) := by show _ = _; rw [← HA.out, List.drop_eq_nil_of_le (by omega), List.drop_eq_nil_of_le (by rw [← HXY.out]; omega)]; rfl
        go_wp2_with fail
        go_ret
        exact ⟨by rw [HR.out]; rfl, HE.out⟩
  · have hne : ((xs.length : Int) != (ys.length : Int)) = true := by rw [bne_iff_ne]; omega
    have HR : Hid (decide (xs = ys) = false) := decide_eq_false (fun e => hxy (by rw [e]))
    clear hxy
    go_enter Tryz.func18, Tryz.ntmps18
    go_wp2_with fail
    go_ret
    exact ⟨by rw [HR.out]; rfl, Ext.refl _⟩
end Go.Proofs.YtonleohlplkglaaGreatDoor
