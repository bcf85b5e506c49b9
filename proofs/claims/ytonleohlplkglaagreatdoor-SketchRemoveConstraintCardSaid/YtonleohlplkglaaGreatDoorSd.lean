/- Of of the reference's layer 25. -/
import Derived.Test.YtonleohlplkglaaGreatDoorSc
namespace Go.Proofs.YtonleohlplkglaaGreatDoor
open Go Go.RowKit

theorem flat_at : ∀ (l : List KR) (k : Nat) (r : KR), l[k]? = some r → ∀ j, j < 7 → (l.flatMap KR.cells)[k * 7 + j]? = r.cells[j]?
  | [], k, r, h, _, _ => by simp at h
  | a :: l, 0, r, h, j, hj => by
    simp at h; subst h
    rw [List.flatMap_cons, List.getElem?_append_left (by simp [KR.cells]; omega)]
    simp
  | a :: l, k + 1, r, h, j, hj => by
    rw [List.flatMap_cons, List.getElem?_append_right (by simp [KR.cells]; omega)]
    have : (k + 1) * 7 + j - a.cells.length = k * 7 + j := by simp [KR.cells]; omega
    rw [this]
    exact flat_at l k r (by simpa using h) j hj

/-- The row of a kind. -/
def kRow (kind : Int) : Option KR := if 1 ≤ kind then kTab[(kind - 1).toNat]? else none

theorem kRow_some {kind : Int} {r : KR} (h : kRow kind = some r) : ∃ k : Nat, k < 17 ∧ kind = (k : Int) + 1 ∧ kTab[k]? = some r := by
  unfold kRow at h
  split at h
  · have hlt : (kind - 1).toNat < 17 := by
      rcases Nat.lt_or_ge (kind - 1).toNat 17 with h1 | h1
      · exact h1
      · rw [List.getElem?_eq_none (by simpa [kTab] using h1)] at h; cases h
    exact ⟨(kind - 1).toNat, hlt, by omega, h⟩
  · cases h

theorem kRow_none {kind : Int} (h : kRow kind = none) : kind < 1 ∨ 17 < kind := by
  unfold kRow at h
  split at h
  · have : 17 ≤ (kind - 1).toNat := by
      have := List.getElem?_eq_none_iff.1 h
      simpa [kTab] using this
    omega
  · omega

theorem ref25_Rows' (w : World) : Calls Tryz.prog 149 #[] w fun e w' => ∃ g, e = .returned (.slice (some ⟨g, 0, none⟩) 17 17) ∧ Hid (CellsAt w' g kCells) ∧ w.heap.size ≤ g ∧ Ext w w' :=
  (ref25_Rows w).mono fun e w' h => by
    obtain ⟨h1, h2⟩ := h
    subst h2
    exact ⟨w.heap.size, h1, CellsAt.new w _ _, Nat.le_refl _, Ext.alloc _ _⟩

set_option maxRecDepth 100000 in
set_option maxHeartbeats 1600000 in
theorem ref25_Of_some {kind : Int} {r : KR} (w : World) (h : kRow kind = some r) : Calls Tryz.prog 103 #[.int .i64 kind] w fun e w' => e = .returned (.tuple #[.agg #[.string r.name, .int .i64 r.p, .int .i64 r.c, .int .i64 r.n, .int .i64 r.v, .int .i64 r.q, .bool r.side], .bool true]) ∧ Ext w w' := by
  obtain ⟨k, hk, rfl, hr⟩ := kRow_some h
  have HR := Lib.hid ref25_Rows'
  have HK := Lib.hid (fun j u (hj : r.cells[j]? = some u) (h7 : j < 7) => (flat_at kTab k r hr j h7).trans hj)
  clear h hr
  have k1 : ¬ ((k : Int) + 1 < 1) := by omega
  have k2 : ¬ (17 < (k : Int) + 1) := by omega
  go_enter Tryz.func103, Tryz.ntmps103
  go_wp2_with fail
  refine (HR.out _).mono ?_
  rintro e w1 ⟨g1, rfl, -, -, hx1⟩
  obtain ⟨hc1, hf1⟩ := bcell hx1
  have hz1 : w.heap.size < w1.heap.size := by have := hx1.size; simp at this; omega
  go_wp2_with fail
  refine (HR.out _).mono ?_
  rintro e w2 ⟨g, rfl, HC, hg, hx2⟩
  have hx12 := Ext.trans hx1 hx2
  have hE : Ext w w2 := Ext.trans (Ext.alloc _ _) hx12
  clear hc1 hf1 hz1 hx1
  obtain ⟨hc1, hf1⟩ := bcell hx12
  have q0 := HC.out.2 _ _ (HK.out 0 _ rfl (by omega))
  have q1 := HC.out.2 _ _ (HK.out 1 _ rfl (by omega))
  have q2 := HC.out.2 _ _ (HK.out 2 _ rfl (by omega))
  have q3 := HC.out.2 _ _ (HK.out 3 _ rfl (by omega))
  have q4 := HC.out.2 _ _ (HK.out 4 _ rfl (by omega))
  have q5 := HC.out.2 _ _ (HK.out 5 _ rfl (by omega))
  have q6 := HC.out.2 _ _ (HK.out 6 _ rfl (by omega))
  simp only [Nat.add_zero] at q0
  clear HC HK HR
  go_wp2_with fail
  refine bodyPost_ret (v := .tuple #[.agg #[.string r.name, .int .i64 r.p, .int .i64 r.c, .int .i64 r.n, .int .i64 r.v, .int .i64 r.q, .bool r.side], .bool true]) ?_ rfl ⟨rfl, ?_⟩
  · simp [results, Tryz.results103, go_sem, hc1]
  · repeat (first | with_reducible exact hE | refine Ext.pset ?_ (by simp) _)

set_option maxRecDepth 100000 in
set_option maxHeartbeats 1600000 in
theorem ref25_Of_none {kind : Int} (w : World) (h : kRow kind = none) : Calls Tryz.prog 103 #[.int .i64 kind] w fun e w' => e = .returned (.tuple #[.agg #[.string ⟨#[]⟩, .int .i64 0, .int .i64 0, .int .i64 0, .int .i64 0, .int .i64 0, .bool false], .bool false]) ∧ Ext w w' := by
  have HR := Lib.hid ref25_Rows'
  rcases kRow_none h with h1 | h1
  · clear h
    have k1 : decide (kind < 1) = true := by simpa using h1
    go_enter Tryz.func103, Tryz.ntmps103
    go_wp2_with fail
    refine bodyPost_ret (v := .tuple #[.agg #[.string ⟨#[]⟩, .int .i64 0, .int .i64 0, .int .i64 0, .int .i64 0, .int .i64 0, .bool false], .bool false]) ?_ rfl ⟨rfl, ?_⟩
    · simp [results, Tryz.results103, go_sem]
    · exact Ext.alloc _ _
  · clear h
    have k1 : ¬ (kind < 1) := by omega
    go_enter Tryz.func103, Tryz.ntmps103
    go_wp2_with fail
    refine (HR.out _).mono ?_
    rintro e w1 ⟨g1, rfl, -, -, hx1⟩
    have hE : Ext w w1 := Ext.trans (Ext.alloc _ _) hx1
    obtain ⟨hc1, hf1⟩ := bcell hx1
    go_wp2_with fail
    refine bodyPost_ret (v := .tuple #[.agg #[.string ⟨#[]⟩, .int .i64 0, .int .i64 0, .int .i64 0, .int .i64 0, .int .i64 0, .bool false], .bool false]) ?_ rfl ⟨rfl, ?_⟩
    · simp [results, Tryz.results103, go_sem, hc1]
    · repeat (first | with_reducible exact hE | refine Ext.pset ?_ (by simp) _)

end Go.Proofs.YtonleohlplkglaaGreatDoor
