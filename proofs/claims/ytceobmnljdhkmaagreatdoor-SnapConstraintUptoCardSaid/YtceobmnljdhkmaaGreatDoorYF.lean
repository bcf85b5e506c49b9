/- Rows, Of of the reference's layer 25. -/
import Derived.Test.YtceobmnljdhkmaaGreatDoorYE
import Derived.Deep.RegionWith
namespace Go.Proofs.YtceobmnljdhkmaaGreatDoor
open Go Go.RowKit
/-- A row of the table of kinds. -/
structure KR where
 name : ByteArray
 p : Int
 c : Int
 n : Int
 v : Int
 q : Int
 side : Bool
def KR.cells (r : KR) : List Value := [.string r.name, .int .i64 r.p, .int .i64 r.c, .int .i64 r.n, .int .i64 r.v, .int .i64 r.q, .bool r.side]
def kTab : List KR :=
 [⟨⟨#[102, 105, 120]⟩, 1, 0, 2, 1, 2, false⟩,
  ⟨⟨#[100, 105, 115, 116, 97, 110, 99, 101]⟩, 2, 0, 1, 2, 1, false⟩,
  ⟨⟨#[105, 110, 99, 105, 100, 101, 110, 116]⟩, 3, 0, 0, 0, 1, false⟩,
  ⟨⟨#[111, 102, 102, 115, 101, 116]⟩, 3, 0, 1, 2, 1, true⟩,
  ⟨⟨#[97, 110, 103, 108, 101]⟩, 4, 0, 1, 3, 1, false⟩,
  ⟨⟨#[112, 97, 114, 97, 108, 108, 101, 108]⟩, 4, 0, 0, 0, 1, false⟩,
  ⟨⟨#[112, 101, 114, 112, 101, 110, 100, 105, 99, 117, 108, 97, 114]⟩, 4, 0, 0, 0, 1, false⟩,
  ⟨⟨#[101, 113, 117, 97, 108]⟩, 4, 0, 0, 0, 1, false⟩,
  ⟨⟨#[109, 105, 100, 112, 111, 105, 110, 116]⟩, 3, 0, 0, 0, 2, false⟩,
  ⟨⟨#[115, 121, 109, 109, 101, 116, 114, 105, 99]⟩, 4, 0, 0, 0, 2, false⟩,
  ⟨⟨#[104, 111, 114, 105, 122, 111, 110, 116, 97, 108]⟩, 2, 0, 0, 0, 1, false⟩,
  ⟨⟨#[118, 101, 114, 116, 105, 99, 97, 108]⟩, 2, 0, 0, 0, 1, false⟩,
  ⟨⟨#[111, 110, 99, 105, 114, 99, 108, 101]⟩, 1, 1, 0, 0, 1, false⟩,
  ⟨⟨#[114, 97, 100, 105, 117, 115]⟩, 0, 1, 1, 2, 1, false⟩,
  ⟨⟨#[115, 97, 109, 101, 114, 97, 100, 105, 117, 115]⟩, 0, 2, 0, 0, 1, false⟩,
  ⟨⟨#[116, 97, 110, 103, 101, 110, 116, 108, 105, 110, 101]⟩, 2, 1, 0, 0, 1, true⟩,
  ⟨⟨#[116, 97, 110, 103, 101, 110, 116, 99, 105, 114, 99, 108, 101]⟩, 0, 2, 0, 0, 1, true⟩]
def kCells : List Value := kTab.flatMap KR.cells
set_option maxRecDepth 100000 in
set_option maxHeartbeats 1600000 in
theorem ref25_Rows (w : World) : Calls Tryz.prog 93 #[] w fun e w' => e = .returned (.slice (some ⟨w.heap.size, 0, none⟩) 17 17) ∧ w' = w.alloc (.cells kCells.toArray 119) := by
 go_enter Tryz.func93, Tryz.ntmps93
 go_wp2_with fail
 go_ret
 exact ⟨rfl, rfl⟩
end Go.Proofs.YtceobmnljdhkmaaGreatDoor
namespace Go.Proofs.YtceobmnljdhkmaaGreatDoor
open Go Go.RowKit
theorem flat_at : ∀ (l : List KR) (k : Nat) (r : KR), l[k]? = some r → ∀ j, j < 7 → (l.flatMap KR.cells)[k * 7 + j]? = r.cells[j]?
 | [], k, r, h, _, _ => by simp at h
 | a :: l, 0, r, h, j, hj => by
  simp at h; subst h
  rw [List.flatMap_cons, List.getElem?_append_left (by simp [KR.cells]; omega)]
  simp
 | a :: l, k + 1, r, h, j, hj => by
  rw [List.flatMap_cons, List.getElem?_append_right (by simp [KR.cells]; omega)]
  have : (k + 1) * 7 + j - a.cells.length = k * 7 + j := by simp [KR.cells]; omega
  rw [this]
  exact flat_at l k r (by simpa using h) j hj
/-- The row of a kind. -/
def kRow (kind : Int) : Option KR := if 1 ≤ kind then kTab[(kind - 1).toNat]? else none
theorem kRow_some {kind : Int} {r : KR} (h : kRow kind = some r) : ∃ k : Nat, k < 17 ∧ kind = (k : Int) + 1 ∧ kTab[k]? = some r := by
 unfold kRow at h
 split at h
 ·have hlt : (kind - 1).toNat < 17 := by
   rcases Nat.lt_or_ge (kind - 1).toNat 17 with h1 | h1
   ·exact h1
   ·rw [List.getElem?_eq_none (by simpa [kTab] using h1)] at h; cases h
  exact ⟨(kind - 1).toNat, hlt, by omega, h⟩
 ·cases h
theorem kRow_none {kind : Int} (h : kRow kind = none) : kind < 1 ∨ 17 < kind := by
 unfold kRow at h
 split at h
 ·have : 17 ≤ (kind - 1).toNat := by
   have := List.getElem?_eq_none_iff.1 h
   simpa [kTab] using this
  omega
 ·omega
theorem ref25_Rows' (w : World) : Calls Tryz.prog 93 #[] w fun e w' => ∃ g, e = .returned (.slice (some ⟨g, 0, none⟩) 17 17) ∧ Hid (CellsAt w' g kCells) ∧ w.heap.size ≤ g ∧ Ext w w' :=
 (ref25_Rows w).mono fun e w' h => by
  obtain ⟨h1, h2⟩ := h
  subst h2
  exact ⟨w.heap.size, h1, CellsAt.new w _ _, Nat.le_refl _, Ext.alloc _ _⟩
set_option maxRecDepth 100000 in
set_option maxHeartbeats 1600000 in
theorem ref25_Of_some {kind : Int} {r : KR} (w : World) (h : kRow kind = some r) : Calls Tryz.prog 51 #[.int .i64 kind] w fun e w' => e = .returned (.tuple #[.agg #[.string r.name, .int .i64 r.p, .int .i64 r.c, .int .i64 r.n, .int .i64 r.v, .int .i64 r.q, .bool r.side], .bool true]) ∧ Ext w w' := by
 obtain ⟨k, hk, rfl, hr⟩ := kRow_some h
 have HR := Lib.hid ref25_Rows'
 have HK := Lib.hid (fun j u (hj : r.cells[j]? = some u) (h7 : j < 7) => (flat_at kTab k r hr j h7).trans hj)
 clear h hr
 have k1 : ¬ ((k : Int) + 1 < 1) := by omega
 have k2 : ¬ (17 < (k : Int) + 1) := by omega
 go_enter Tryz.func51, Tryz.ntmps51
 go_wp2_with fail
 refine (HR.out _).mono ?_
 rintro e w1 ⟨g1, rfl, -, -, hx1⟩
 obtain ⟨hc1, hf1⟩ := bcell hx1
 have hz1 : w.heap.size < w1.heap.size := by have := hx1.size; simp at this; omega
 go_wp2_with fail
 refine (HR.out _).mono ?_
 rintro e w2 ⟨g, rfl, HC, hg, hx2⟩
 have hx12 := Ext.trans hx1 hx2
 have hE : Ext w w2 := Ext.trans (Ext.alloc _ _) hx12
 clear hc1 hf1 hz1 hx1
 obtain ⟨hc1, hf1⟩ := bcell hx12
 have q0 := HC.out.2 _ _ (HK.out 0 _ rfl (by omega))
 have q1 := HC.out.2 _ _ (HK.out 1 _ rfl (by omega))
 have q2 := HC.out.2 _ _ (HK.out 2 _ rfl (by omega))
 have q3 := HC.out.2 _ _ (HK.out 3 _ rfl (by omega))
 have q4 := HC.out.2 _ _ (HK.out 4 _ rfl (by omega))
 have q5 := HC.out.2 _ _ (HK.out 5 _ rfl (by omega))
 have q6 := HC.out.2 _ _ (HK.out 6 _ rfl (by omega))
 simp only [Nat.add_zero] at q0
 clear HC HK HR
 go_wp2_with fail
 refine bodyPost_ret (v := .tuple #[.agg #[.string r.name, .int .i64 r.p, .int .i64 r.c, .int .i64 r.n, .int .i64 r.v, .int .i64 r.q, .bool r.side], .bool true]) ?_ rfl ⟨rfl, ?_⟩
 ·simp [results, Tryz.results51, go_sem, hc1]
 ·repeat (first | with_reducible exact hE | refine Ext.pset ?_ (by simp) _)
set_option maxRecDepth 100000 in
set_option maxHeartbeats 1600000 in
theorem ref25_Of_none {kind : Int} (w : World) (h : kRow kind = none) : Calls Tryz.prog 51 #[.int .i64 kind] w fun e w' => e = .returned (.tuple #[.agg #[.string ⟨#[]⟩, .int .i64 0, .int .i64 0, .int .i64 0, .int .i64 0, .int .i64 0, .bool false], .bool false]) ∧ Ext w w' := by
 have HR := Lib.hid ref25_Rows'
 rcases kRow_none h with h1 | h1
 ·clear h
  have k1 : decide (kind < 1) = true := by simpa using h1
  go_enter Tryz.func51, Tryz.ntmps51
  go_wp2_with fail
  refine bodyPost_ret (v := .tuple #[.agg #[.string ⟨#[]⟩, .int .i64 0, .int .i64 0, .int .i64 0, .int .i64 0, .int .i64 0, .bool false], .bool false]) ?_ rfl ⟨rfl, ?_⟩
  ·simp [results, Tryz.results51, go_sem]
  ·exact Ext.alloc _ _
 ·clear h
  have k1 : ¬ (kind < 1) := by omega
  go_enter Tryz.func51, Tryz.ntmps51
  go_wp2_with fail
  refine (HR.out _).mono ?_
  rintro e w1 ⟨g1, rfl, -, -, hx1⟩
  have hE : Ext w w1 := Ext.trans (Ext.alloc _ _) hx1
  obtain ⟨hc1, hf1⟩ := bcell hx1
  go_wp2_with fail
  refine bodyPost_ret (v := .tuple #[.agg #[.string ⟨#[]⟩, .int .i64 0, .int .i64 0, .int .i64 0, .int .i64 0, .int .i64 0, .bool false], .bool false]) ?_ rfl ⟨rfl, ?_⟩
  ·simp [results, Tryz.results51, go_sem, hc1]
  ·repeat (first | with_reducible exact hE | refine Ext.pset ?_ (by simp) _)
end Go.Proofs.YtceobmnljdhkmaaGreatDoor
namespace Go.Proofs.YtceobmnljdhkmaaGreatDoor
open Go Go.RowKit
/-- A slice of elements of 'sz' cells each, with a bound on its capacity. -/
def ArrAt {α : Type} (sz : Nat) (R : World → List Value → α → Prop) (w : World) (v : Value) (xs : List α) : Prop :=
 ∃ (A : Option Addr) (c : Nat), v = .slice A xs.length c ∧ xs.length ≤ c ∧ xs.length ≤ 35184372088832 ∧
  (xs ≠ [] → ∃ b off : Nat, A = some ⟨b, off, none⟩ ∧ b < w.heap.size ∧
   ∀ k x, xs[k]? = some x → ∃ cs : List Value, cs.length = sz ∧ (∀ j u, cs[j]? = some u → w.cell? ⟨b, off + (k * sz + j), none⟩ = some u) ∧ R w cs x)
theorem ArrAt.ext {α : Type} {sz : Nat} {R : World → List Value → α → Prop} (hR : Stable R) {w w' : World} {v : Value} {xs : List α} (h : ArrAt sz R w v xs) (hx : Ext w w') : ArrAt sz R w' v xs := by
 obtain ⟨A, c, hv, hl, hm, hc⟩ := h
 refine ⟨A, c, hv, hl, hm, fun hne => ?_⟩
 obtain ⟨b, off, hA, hb, hk⟩ := hc hne
 refine ⟨b, off, hA, Nat.lt_of_lt_of_le hb hx.size, fun k x hkx => ?_⟩
 obtain ⟨cs, hcs, hcell, hr⟩ := hk k x hkx
 exact ⟨cs, hcs, fun j u hj => (hx.cell (p := ⟨b, off + (k * sz + j), none⟩) hb).trans (hcell j u hj), hR _ _ _ _ hx hr⟩
theorem ArrAt.form {α : Type} {sz : Nat} {R : World → List Value → α → Prop} {w : World} {v : Value} {xs : List α} (h : ArrAt sz R w v xs) : ∃ A c, v = .slice A xs.length c ∧ xs.length ≤ c ∧ xs.length ≤ 35184372088832 := by
 obtain ⟨A, c, hv, hl, hm, _⟩ := h; exact ⟨A, c, hv, hl, hm⟩
/-- The place of a slice that is not empty, and one of its elements. -/
theorem ArrAt.at_ {α : Type} {sz : Nat} {R : World → List Value → α → Prop} {w : World} {A : Option Addr} {n c : Nat} {xs : List α} (h : ArrAt sz R w (.slice A n c) xs) {k : Nat} (hk : k < xs.length) :
  ∃ b off, A = some ⟨b, off, none⟩ ∧ b < w.heap.size ∧ ∃ cs : List Value, cs.length = sz ∧ (∀ j u, cs[j]? = some u → w.cell? ⟨b, off + (k * sz + j), none⟩ = some u) ∧ R w cs xs[k] := by
 obtain ⟨A', c', hv, hl, hm, hc⟩ := h
 obtain ⟨rfl, rfl, rfl⟩ : A = A' ∧ n = xs.length ∧ c = c' := by injection hv with h1 h2 h3; exact ⟨h1, h2, h3⟩
 obtain ⟨b, off, rfl, hb, hel⟩ := hc (by intro e; rw [e] at hk; simp at hk)
 obtain ⟨cs, h1, h2, h3⟩ := hel k _ (List.getElem?_eq_getElem hk)
 exact ⟨b, off, rfl, hb, cs, h1, h2, h3⟩
theorem ArrAt.len {α : Type} {sz : Nat} {R : World → List Value → α → Prop} {w : World} {A : Option Addr} {n c : Nat} {xs : List α} (h : ArrAt sz R w (.slice A n c) xs) : n = xs.length ∧ n ≤ c ∧ n ≤ 35184372088832 := by
 obtain ⟨A', c', hv, hl, hm, hc⟩ := h
 obtain ⟨rfl, rfl, rfl⟩ : A = A' ∧ n = xs.length ∧ c = c' := by injection hv with h1 h2 h3; exact ⟨h1, h2, h3⟩
 exact ⟨rfl, hl, hm⟩
def IntR (_ : World) (cs : List Value) (x : Int) : Prop := cs = [.int .i64 x]
theorem IntR.stable : Stable IntR := fun _ _ _ _ _ h => h
/-- A slice of numbers. -/
abbrev Ints (w : World) (v : Value) (xs : List Int) : Prop := ArrAt 1 IntR w v xs
theorem ints_cells {w : World} {A : Option Addr} {n c : Nat} {xs : List Int} (h : Ints w (.slice A n c) xs) {k : Nat} (hk : k < xs.length) :
  ∃ b off, A = some ⟨b, off, none⟩ ∧ b < w.heap.size ∧ ∀ j (hj : j < xs.length), w.cell? ⟨b, off + j, none⟩ = some (.int .i64 xs[j]) := by
 obtain ⟨A', c', hv, hl, hm, hc⟩ := h
 obtain ⟨rfl, rfl, rfl⟩ : A = A' ∧ n = xs.length ∧ c = c' := by injection hv with h1 h2 h3; exact ⟨h1, h2, h3⟩
 obtain ⟨b, off, rfl, hb, hel⟩ := hc (by intro e; rw [e] at hk; simp at hk)
 refine ⟨b, off, rfl, hb, fun j hj => ?_⟩
 obtain ⟨cs, h1, h2, h3⟩ := hel j _ (List.getElem?_eq_getElem hj)
 rw [h3] at h2
 simpa using h2 0 _ rfl
def withinL (xs : List Int) (n : Int) : Bool := xs.all fun x => decide (0 ≤ x) && decide (x < n)
set_option maxHeartbeats 800000 in
theorem ref25_within {A : Option Addr} {m c : Nat} {xs : List Int} {n : Int} {w : World} (h : Ints w (.slice A m c) xs) :
  Calls Tryz.prog 52 #[.slice A m c, .int .i64 n] w fun e w' => e = .returned (.bool (withinL xs n)) ∧ w = w' := by
 obtain ⟨rfl, hl, hm⟩ := h.len
 have HC := Lib.hid (fun k (hk : k < xs.length) => ints_cells h hk)
 clear h
 go_enter Tryz.func52, Tryz.ntmps52
 go_wp2_with fail
 go_loopg [5] xs.length (fun gk x wr => ∃ i : Nat, x = .int .i64 (i : Int) ∧ i + gk = xs.length ∧ Hid (withinL (xs.drop i) n = withinL xs n) ∧ wr = w)
 case atStart => exact ⟨0, rfl, by omega, rfl, rfl⟩
 case round =>
  obtain ⟨i, rfl, hi, HA, rfl⟩ := hrel
  by_cases hlt : i < xs.length
  ·obtain ⟨b, off, rfl, hb, hcell⟩ := HC.out _ hlt
   have q := hcell i hlt
   have HD : Hid (withinL (xs.drop i) n = (decide (0 ≤ xs[i]) && decide (xs[i] < n) && withinL (xs.drop (i + 1)) n)) := by show _ = _; unfold withinL; rw [List.drop_eq_getElem_cons hlt, List.all_cons]
   clear hcell HC
   generalize xs[i] = x at *
   by_cases h0 : x < 0
   ·have HR : Hid (withinL xs n = false) := by show _ = _; rw [← HA.out, HD.out]; simp; omega
    go_wp2_with fail
    refine bodyPost_ret (v := .bool false) ?_ rfl ⟨by rw [HR.out], rfl⟩
    simp [results, Tryz.results52, go_sem]
   ·have h0' : decide (x < 0) = false := by simpa using h0
    by_cases h1 : n ≤ x
    ·have HR : Hid (withinL xs n = false) := by show _ = _; rw [← HA.out, HD.out]; simp; omega
     go_wp2_with fail
     refine bodyPost_ret (v := .bool false) ?_ rfl ⟨by rw [HR.out], rfl⟩
     simp [results, Tryz.results52, go_sem]
    ·have h1' : decide (n ≤ x) = false := by simpa using h1
     have HR : Hid (withinL (xs.drop (i + 1)) n = withinL xs n) := by
      show _ = _
      have e1 : decide (0 ≤ x) = true := by simp; omega
      have e2 : decide (x < n) = true := by simp; omega
      rw [← HA.out, HD.out, e1, e2]; rfl
     clear h0 h1
     go_wp2_with fail
     go_roundg (gk - 1)
     case measure => omega
     case rel => exact ⟨i + 1, by simp, by omega, HR, rfl⟩
  ·have HR : Hid (withinL xs n = true) := by show _ = _; rw [← HA.out, List.drop_eq_nil_of_le (by omega)]; rfl
   go_wp2_with fail
   refine bodyPost_ret (v := .bool true) ?_ rfl ⟨by rw [HR.out], rfl⟩
   simp [results, Tryz.results52, go_sem]
theorem nodup_take_succ {xs : List Int} {i : Nat} (h : i < xs.length) : (xs.take (i + 1)).Nodup ↔ (xs.take i).Nodup ∧ xs[i] ∉ xs.take i := by
 rw [List.take_succ_eq_append_getElem h]
 rw [List.nodup_append]
 constructor
 ·rintro ⟨h1, _, h2⟩
  exact ⟨h1, fun h3 => h2 _ h3 _ (by simp) rfl⟩
 ·rintro ⟨h1, h2⟩
  refine ⟨h1, by simp, fun a ha b hb e => h2 ?_⟩
  simp at hb
  rw [← hb, ← e]; exact ha
set_option maxHeartbeats 800000 in
theorem ref25_different {A : Option Addr} {m c : Nat} {xs : List Int} {w : World} (h : Ints w (.slice A m c) xs) :
  Calls Tryz.prog 54 #[.slice A m c] w fun e w' => e = .returned (.bool (decide xs.Nodup)) ∧ Ext w w' := by
 obtain ⟨rfl, hl, hm⟩ := h.len
 have HC := Lib.hid (fun k (hk : k < xs.length) => ints_cells h hk)
 clear h
 go_enter Tryz.func54, Tryz.ntmps54
 go_wp2_with fail
 go_loopg [3, 4] xs.length (fun gk x _ wr => ∃ i : Nat, x = .int .i64 (i : Int) ∧ i + gk = xs.length ∧ Hid ((xs.take i).Nodup) ∧ Hid (Ext w wr))
 case atStart => exact ⟨0, rfl, by omega, List.nodup_nil, Ext.refl _⟩
 case round =>
  obtain ⟨i, rfl, hi, HN, HE⟩ := hrel
  by_cases hlt : i < xs.length
  ·obtain ⟨b, off, rfl, hb, hcell⟩ := HC.out _ hlt
   have HS := Lib.hid (nodup_take_succ hlt)
   go_wp2_with fail
   go_loopg [4] i (fun gk2 x wr2 => ∃ k : Nat, x = .int .i64 (k : Int) ∧ k + gk2 = i ∧ Hid (xs[i] ∉ xs.take k) ∧ Hid (Ext w wr2))
   case atStart => exact ⟨0, rfl, by omega, by simp [Hid], HE.out⟩
   case round =>
    obtain ⟨k, rfl, hk, HM, HE2⟩ := hrel
    by_cases hkl : k < i
    ·have q1 := (HE2.out.cell (p := ⟨b, off + i, none⟩) hb).trans (hcell i hlt)
     have q2 := (HE2.out.cell (p := ⟨b, off + k, none⟩) hb).trans (hcell k (by omega))
     have HK : Hid (xs[i] ≠ xs[k] → xs[i] ∉ xs.take (k + 1)) := by
      intro hne hmem
      rw [List.take_succ_eq_append_getElem (by omega)] at hmem
      rcases List.mem_append.1 hmem with h1 | h1
      ·exact HM.out h1
      ·simp at h1; exact hne h1
     have HK2 : Hid (xs[i] = xs[k] → ¬ xs.Nodup) := by
      intro he hnd
      have := (List.getElem_inj (h₀ := hlt) (h₁ := by omega) hnd).1 he
      omega
     clear hcell HC
     generalize xs[i] = x at *
     generalize xs[k] = y at *
     by_cases he : x = y
     ·have he' : (x == y) = true := by simpa using he
      have HR : Hid (decide xs.Nodup = false) := by show _ = _; simpa using HK2.out he
      clear he
      go_wp2_with fail
      go_quiet (fail)
      go_wp2_with fail
      refine bodyPost_ret (v := .bool false) ?_ rfl ⟨by rw [HR.out], HE2.out.trans (Ext.drewN _ _)⟩
      simp [results, Tryz.results54, go_sem]
     ·have he' : (x == y) = false := by simpa using he
      have HR := Lib.hid (HK.out he)
      clear he
      go_wp2_with fail
      go_quiet (fail)
      go_wp2_with fail
      go_roundg (i - (k + 1))
      case measure => omega
      case rel => exact ⟨k + 1, by simp, by omega, HR.out, HE2.out.trans (Ext.drewN _ _)⟩
    ·have HR : Hid ((xs.take (i + 1)).Nodup) := by
      refine HS.out.2 ⟨HN.out, ?_⟩
      have := HM.out
      rwa [show k = i by omega] at this
     go_wp2_with fail
     go_roundg (xs.length - (i + 1))
     case measure => omega
     case rel => exact ⟨i + 1, by simp, by omega, HR.out, HE2.out⟩
  ·have HR : Hid (decide xs.Nodup = true) := by show _ = _; have := HN.out; rw [List.take_of_length_le (by omega)] at this; simpa using this
   go_wp2_with fail
   refine bodyPost_ret (v := .bool true) ?_ rfl ⟨by rw [HR.out], HE.out⟩
   simp [results, Tryz.results54, go_sem]
end Go.Proofs.YtceobmnljdhkmaaGreatDoor
namespace Go.Proofs.YtceobmnljdhkmaaGreatDoor
open Go Go.RowKit
/-- A constraint, whatever its fields are. -/
structure CI where
 kind : Int
 points : List Int
 circles : List Int
 values : List EI
 side : Int
def ConR (k : Nat) (w : World) (cs : List Value) (c : CI) : Prop :=
 ∃ pv cv vv, cs = [.int .i64 c.kind, pv, cv, vv, .int .i64 c.side] ∧ Ints w pv c.points ∧ Ints w cv c.circles ∧ ArrAt 7 (ExprR k) w vv c.values
theorem ConR.stable (k : Nat) : Stable (ConR k) := fun w w' cs c hx => by
 rintro ⟨pv, cv, vv, h1, h2, h3, h4⟩
 exact ⟨pv, cv, vv, h1, h2.ext IntR.stable hx, h3.ext IntR.stable hx, h4.ext (ExprR.stable k) hx⟩
def sideOK (s : Bool) (x : Int) : Bool := if s then decide (x = 1) || decide (x = -1) else decide (x = 0)
def samePair (p : List Int) : Bool := decide (p.getD 0 0 = p.getD 2 0) && decide (p.getD 1 0 = p.getD 3 0) || decide (p.getD 0 0 = p.getD 3 0) && decide (p.getD 1 0 = p.getD 2 0)
def pairsL (p : List Int) : Bool := !decide (p.getD 0 0 = p.getD 1 0) && !decide (p.getD 2 0 = p.getD 3 0) && !samePair p
def isPair (kind : Int) : Bool := decide (kind = 5 ∨ kind = 6 ∨ kind = 7 ∨ kind = 8)
def headC (r : KR) (c : CI) (np nc : Int) : Bool := decide ((c.points.length : Int) = r.p) && decide ((c.circles.length : Int) = r.c) && decide ((c.values.length : Int) = r.n) && withinL c.points np && withinL c.circles nc
def tailC (c : CI) : Bool := if isPair c.kind then pairsL c.points else decide c.points.Nodup && decide c.circles.Nodup
def validC (k : Nat) (c : CI) (np nc : Int) : Bool :=
 match kRow c.kind with
 | none => false
 | some r => headC r c np nc && c.values.all (fun e => decide (errE k e = 0)) && sideOK r.side c.side && tailC c
theorem kRow_pair {kind : Int} {r : KR} (h : kRow kind = some r) (hp : kind = 5 ∨ kind = 6 ∨ kind = 7 ∨ kind = 8) : r.p = 4 := by
 rcases hp with rfl | rfl | rfl | rfl
 all_goals
  simp [kRow, kTab] at h
  rw [← h]
theorem CellsAt.five {w : World} {g : Nat} {a b c d e : Value} (k : CellsAt w g [a, b, c, d, e]) :
  w.cell? ⟨g, 0, none⟩ = some a ∧ w.cell? ⟨g, 1, none⟩ = some b ∧ w.cell? ⟨g, 2, none⟩ = some c ∧ w.cell? ⟨g, 3, none⟩ = some d ∧ w.cell? ⟨g, 4, none⟩ = some e :=
 ⟨k.2 0 _ rfl, k.2 1 _ rfl, k.2 2 _ rfl, k.2 3 _ rfl, k.2 4 _ rfl⟩
set_option maxRecDepth 100000 in
set_option maxHeartbeats 3200000 in
theorem ref25_Valid_np (k : Nat) (hk : k ≤ 22000000) {c : CI} {pv cv vv : Value} {np nc : Int} {w : World} (hp : Ints w pv c.points) (hc : Ints w cv c.circles) (hv : ArrAt 7 (ExprR k) w vv c.values) (hs : ∀ e ∈ c.values, smallE k e) (hkd : isPair c.kind = false) :
  Calls Tryz.prog 23 #[.agg #[.int .i64 c.kind, pv, cv, vv, .int .i64 c.side], .int .i64 np, .int .i64 nc] w fun e w' => e = .returned (.bool (validC k c np nc)) ∧ Ext w w' := by
 have HKD := Lib.hid hkd
 clear hkd
 obtain ⟨A1, c1, rfl, hl1, hm1⟩ := hp.form
 obtain ⟨A2, c2, rfl, hl2, hm2⟩ := hc.form
 obtain ⟨A3, c3, rfl, hl3, hm3⟩ := hv.form
 have HBX := Lib.hid (CellsAt.new w [.int .i64 c.kind, .slice A1 c.points.length c1, .slice A2 c.circles.length c2, .slice A3 c.values.length c3, .int .i64 c.side] 45)
 cases hr : kRow c.kind with
 | none =>
  have HO := Lib.hid (fun w1 => ref25_Of_none w1 hr)
  have HV : Hid (validC k c np nc = false) := by show _ = _; unfold validC; rw [hr]
  clear hp hc hv hs hr
  generalize c.kind = kind at *
  go_enter Tryz.func23, Tryz.ntmps23
  go_wp2_with fail
  refine (HO.out _).mono ?_
  rintro e w1 ⟨rfl, hx1⟩
  have hE1 : Ext w w1 := (by repeat first|exact xA _|assumption|refine xB ?_ _|refine xC ?_|refine xD ?_ _|refine xE ?_ (by simp <;> omega) _|refine xF ?_ (by assumption))
  go_wp2_with fail
  refine bodyPost_ret (v := .bool false) ?_ rfl ⟨by rw [HV.out], hE1.palloc _⟩
  simp [results, Tryz.results23, go_sem]
 | some r =>
  have HO := Lib.hid (fun w1 => ref25_Of_some w1 hr)
  have HV : Hid (validC k c np nc = (headC r c np nc && c.values.all (fun e => decide (errE k e = 0)) && sideOK r.side c.side && tailC c)) := by show _ = _; unfold validC; rw [hr]
  have HH : Hid (headC r c np nc = (decide ((c.points.length : Int) = r.p) && decide ((c.circles.length : Int) = r.c) && decide ((c.values.length : Int) = r.n) && withinL c.points np && withinL c.circles nc)) := rfl
  have HP4 : Hid (isPair c.kind = true → c.points.length = 4 ∨ (c.points.length : Int) ≠ r.p) := by
   intro h
   have := kRow_pair hr (by simpa [isPair] using h)
   omega
  have HIP : Hid (isPair c.kind = decide (c.kind = 5 ∨ c.kind = 6 ∨ c.kind = 7 ∨ c.kind = 8)) := rfl
  have HW1 := Lib.hid (fun w1 (hx : Ext w w1) => ref25_within (n := np) (hp.ext IntR.stable hx))
  have HW2 := Lib.hid (fun w1 (hx : Ext w w1) => ref25_within (n := nc) (hc.ext IntR.stable hx))
  have HD1 := Lib.hid (fun w1 (hx : Ext w w1) => ref25_different (hp.ext IntR.stable hx))
  have HD2 := Lib.hid (fun w1 (hx : Ext w w1) => ref25_different (hc.ext IntR.stable hx))
  have HPT := Lib.hid hp
  have HVS := Lib.hid hv
  have HS := Lib.hid hs
  clear hp hc hv hs hr
  have HTL : Hid (tailC c = (if isPair c.kind then pairsL c.points else decide c.points.Nodup && decide c.circles.Nodup)) := rfl
  generalize c.kind = kind at *
  generalize headC r c np nc = hd at *
  generalize withinL c.points np = wi1 at *
  generalize withinL c.circles nc = wi2 at *
  have HBR := fun w1 : World => Lib.hid (CellsAt.new w1 [.string r.name, .int .i64 r.p, .int .i64 r.c, .int .i64 r.n, .int .i64 r.v, .int .i64 r.q, .bool r.side] 119)
  generalize r.name = rn at *
  generalize r.p = rp at *
  generalize r.c = rc at *
  generalize r.n = rk at *
  generalize r.v = rv at *
  generalize r.q = rq at *
  generalize r.side = rs at *
  have b1 : ((c.points.length : Int) != rp) = !decide ((c.points.length : Int) = rp) := by simp [bne, BEq.beq]
  have b2 : ((c.circles.length : Int) != rc) = !decide ((c.circles.length : Int) = rc) := by simp [bne, BEq.beq]
  have b3 : ((c.values.length : Int) != rk) = !decide ((c.values.length : Int) = rk) := by simp [bne, BEq.beq]
  have HPN : Hid (decide ((c.points.length : Int) = rp) = true → ¬ ((c.points.length : Int) ≠ rp)) := by intro h; simpa using h
  generalize decide ((c.points.length : Int) = rp) = d1 at *
  generalize decide ((c.circles.length : Int) = rc) = d2 at *
  generalize decide ((c.values.length : Int) = rk) = d3 at *
  generalize hn1 : c.points.length = n1 at *
  generalize hn2 : c.circles.length = n2 at *
  have HN1 := Lib.hid hn1
  have HN2 := Lib.hid hn2
  clear hn1 hn2
  go_enter Tryz.func23, Tryz.ntmps23
  go_wp2_with fail
  refine (HO.out _).mono ?_
  rintro e w1 ⟨rfl, hx1⟩
  have hE1 : Ext w w1 := (by repeat first|exact xA _|assumption|refine xB ?_ _|refine xC ?_|refine xD ?_ _|refine xE ?_ (by simp <;> omega) _|refine xF ?_ (by assumption))
  have HBX1 := Lib.hid (HBX.out.ext hx1)
  have HBR1 := HBR w1
  clear HBX HBR HO hx1
  obtain ⟨y0, y1, y2, y3, y4⟩ := (HBX1.out.ext (Ext.alloc w1 (.cells #[.string rn, .int .i64 rp, .int .i64 rc, .int .i64 rk, .int .i64 rv, .int .i64 rq, .bool rs] 119))).five
  have hE2 : Ext w (w1.alloc (.cells #[.string rn, .int .i64 rp, .int .i64 rc, .int .i64 rk, .int .i64 rv, .int .i64 rq, .bool rs] 119)) := hE1.palloc _
  obtain ⟨z0, z1, z2, z3, z4, z5, z6⟩ := HBR1.out.seven
  go_upto_region 2 with fail
  generalize hW : w1.alloc (.cells #[.string rn, .int .i64 rp, .int .i64 rc, .int .i64 rk, .int .i64 rv, .int .i64 rq, .bool rs] 119) = W at *
  have HHD : Hid (hd = true → d1 = true) := by intro h; rw [HH.out] at h; simp at h; exact h.1.1.1.1
  go_cut [57] (fun x wx => x = .bool (!hd) ∧ W = wx)
  case first =>
   cases d1
   ·go_wp2_with fail
    go_meet
    exact ⟨by rw [HH.out]; rfl, rfl⟩
   cases d2
   ·go_wp2_with fail
    go_meet
    exact ⟨by rw [HH.out]; rfl, rfl⟩
   cases d3
   ·go_wp2_with fail
    go_meet
    exact ⟨by rw [HH.out]; rfl, rfl⟩
   go_wp2_with fail
   refine (HW1.out _ hE2).mono ?_
   rintro e w2 ⟨rfl, rfl⟩
   cases wi1
   ·go_wp2_with fail
    go_meet
    exact ⟨by rw [HH.out]; rfl, rfl⟩
   go_wp2_with fail
   refine (HW2.out _ hE2).mono ?_
   rintro e w2 ⟨rfl, rfl⟩
   cases wi2
   all_goals
    go_wp2_with fail
    go_meet
    exact ⟨by rw [HH.out]; rfl, rfl⟩
  case rest =>
   obtain ⟨rfl, rfl⟩ := hcut
   clear HH HW1 HW2
   have HPL : Hid (isPair kind = true → hd = true → n1 = 4) := by
    intro h1 h2
    rcases HP4.out h1 with h | h
    ·exact h
    ·exact absurd h (HPN.out (HHD.out h2))
   clear HP4 HPN HHD b1 b2 b3 y0 y1 y2 y3 y4 z0 z1 z2 z3 z4 z5 z6
   clear d1 d2 d3 wi1 wi2
   cases hd with
   | false =>
    go_wp2_with fail
    refine bodyPost_ret (v := .bool false) ?_ rfl ⟨by rw [HV.out]; rfl, hE2⟩
    simp [results, Tryz.results23, go_sem]
   | true =>
    have HBXW := Lib.hid (HBX1.out.ext (hW ▸ Ext.alloc w1 _))
    have HE2 := Lib.hid hE2
    clear hW HBX1 hE2
    obtain ⟨y0, y1, y2, y3, y4⟩ := HBXW.out.five
    go_wp2_with fail
    clear y0 y1 y2 y3 y4
    go_loopg [9] c.values.length (fun gk x wr => ∃ i : Nat, x = .int .i64 (i : Int) ∧ i + gk = c.values.length ∧ Hid ((c.values.drop i).all (fun e => decide (errE k e = 0)) = c.values.all (fun e => decide (errE k e = 0))) ∧ Hid (Ext W wr))
    case atStart => exact ⟨0, rfl, by omega, rfl, Ext.refl _⟩
    case round =>
     obtain ⟨i, rfl, hi, HA, HE⟩ := hrel
     obtain ⟨y0, y1, y2, y3, y4⟩ := (HBXW.out.ext HE.out).five
     obtain ⟨z0, z1, z2, z3, z4, z5, z6⟩ := (HBR1.out.ext HE.out).seven
     have hEr : Ext w wr := Ext.trans HE2.out HE.out
     by_cases hlt : i < c.values.length
     ·obtain ⟨b, off, rfl, hb, ds, hds, hcell, hR⟩ := HVS.out.at_ hlt
      have hsm := HS.out c.values[i] (List.getElem_mem hlt)
      match ds, hds with
      | [d0, d1, d2, d3, d4, d5, d6], _ =>
       have q0 : wr.cell? ⟨b, off + i * 7, none⟩ = some d0 := (hEr.cell (p := ⟨b, off + (i * 7 + 0), none⟩) hb).trans (hcell 0 _ rfl)
       have q1 : wr.cell? ⟨b, off + i * 7 + 1, none⟩ = some d1 := (hEr.cell (p := ⟨b, off + (i * 7 + 1), none⟩) hb).trans (hcell 1 _ rfl)
       have q2 : wr.cell? ⟨b, off + i * 7 + 2, none⟩ = some d2 := (hEr.cell (p := ⟨b, off + (i * 7 + 2), none⟩) hb).trans (hcell 2 _ rfl)
       have q3 : wr.cell? ⟨b, off + i * 7 + 3, none⟩ = some d3 := (hEr.cell (p := ⟨b, off + (i * 7 + 3), none⟩) hb).trans (hcell 3 _ rfl)
       have q4 : wr.cell? ⟨b, off + i * 7 + 4, none⟩ = some d4 := (hEr.cell (p := ⟨b, off + (i * 7 + 4), none⟩) hb).trans (hcell 4 _ rfl)
       have q5 : wr.cell? ⟨b, off + i * 7 + 5, none⟩ = some d5 := (hEr.cell (p := ⟨b, off + (i * 7 + 5), none⟩) hb).trans (hcell 5 _ rfl)
       have q6 : wr.cell? ⟨b, off + i * 7 + 6, none⟩ = some d6 := (hEr.cell (p := ⟨b, off + (i * 7 + 6), none⟩) hb).trans (hcell 6 _ rfl)
       have HC := Lib.hid (ref22_Valid k (ExprR.stable k _ _ _ _ hEr hR) hsm hk)
       have HDR : Hid ((c.values.drop i).all (fun e => decide (errE k e = 0)) = (decide (errE k c.values[i] = 0) && (c.values.drop (i + 1)).all (fun e => decide (errE k e = 0)))) := by show _ = _; rw [List.drop_eq_getElem_cons hlt, List.all_cons]
       clear hcell hR
       generalize errE k c.values[i] = er at *
       go_wp2_with fail
       refine HC.out.mono ?_
       rintro x w2 ⟨rfl, hx2⟩
       by_cases h0 : er = 0
       ·subst h0
        go_wp2_with fail
        go_roundg (c.values.length - (i + 1))
        case measure => omega
        case rel => exact ⟨i + 1, by simp, by omega, (HDR.out.symm.trans HA.out), HE.out.trans hx2⟩
       ·have h0' : (er != 0) = true := by simpa using h0
        have HF : Hid (c.values.all (fun e => decide (errE k e = 0)) = false) := by show _ = _; rw [← HA.out, HDR.out]; simp [h0]
        clear h0
        go_wp2_with fail
        refine bodyPost_ret (v := .bool false) ?_ rfl ⟨?_, hEr.trans hx2⟩
        ·simp [results, Tryz.results23, go_sem]
        ·rw [HV.out, HF.out]; simp
     ·have HT : Hid (c.values.all (fun e => decide (errE k e = 0)) = true) := by show _ = _; rw [← HA.out, List.drop_eq_nil_of_le (by omega)]; rfl
      have HV2 : Hid (validC k c np nc = (sideOK rs c.side && tailC c)) := by show _ = _; rw [HV.out, HT.out]; simp
      clear HV HT HVS HS HA
      go_upto_region 9 with fail
      go_cut [93] (fun x wx => x = .bool (!sideOK rs c.side) ∧ wr = wx)
      case first =>
       cases rs with
       | true =>
        by_cases s1 : c.side = 1
        ·have s1' : (c.side != 1) = false := by simp [s1]
         have HSD : Hid (sideOK true c.side = true) := by show _ = _; simp [sideOK, s1]
         clear s1
         go_wp2_with fail
         go_meet
         exact ⟨by rw [HSD.out]; rfl, rfl⟩
        ·have s1' : (c.side != 1) = true := by simpa using s1
         by_cases s2 : c.side = -1
         ·have s2' : (c.side != -1) = false := by simp [s2]
          have HSD : Hid (sideOK true c.side = true) := by show _ = _; simp [sideOK, s2]
          clear s1 s2
          go_wp2_with fail
          go_meet
          exact ⟨by rw [HSD.out]; rfl, rfl⟩
         ·have s2' : (c.side != -1) = true := by simpa using s2
          have HSD : Hid (sideOK true c.side = false) := by show _ = _; simp [sideOK, s1, s2]
          clear s1 s2
          go_wp2_with fail
          go_meet
          exact ⟨by rw [HSD.out]; rfl, rfl⟩
       | false =>
        by_cases s1 : c.side = 0
        ·have s1' : (c.side != 0) = false := by simp [s1]
         have HSD : Hid (sideOK false c.side = true) := by show _ = _; simp [sideOK, s1]
         clear s1
         go_wp2_with fail
         go_meet
         exact ⟨by rw [HSD.out]; rfl, rfl⟩
        ·have s1' : (c.side != 0) = true := by simpa using s1
         have HSD : Hid (sideOK false c.side = false) := by show _ = _; simp [sideOK, s1]
         clear s1
         go_wp2_with fail
         go_meet
         exact ⟨by rw [HSD.out]; rfl, rfl⟩
      case rest =>
       obtain ⟨rfl, rfl⟩ := hcut
       generalize sideOK rs c.side = so at *
       cases so with
       | false =>
        go_wp2_with fail
        refine bodyPost_ret (v := .bool false) ?_ rfl ⟨by rw [HV2.out]; rfl, hEr⟩
        simp [results, Tryz.results23, go_sem]
       | true =>
        have HTC : Hid (validC k c np nc = (if isPair kind then pairsL c.points else decide c.points.Nodup && decide c.circles.Nodup)) := HV2.out.trans ((Bool.true_and _).trans HTL.out)
        clear HV2 HTL z0 z1 z2 z3 z4 z5 z6
        cases hip : isPair kind with
        | false =>
         have HV3 : Hid (validC k c np nc = (decide c.points.Nodup && decide c.circles.Nodup)) := by show _ = _; rw [HTC.out, hip]; rfl
         obtain ⟨k4, k5, k6, k7⟩ : (kind == 5) = false ∧ (kind == 6) = false ∧ (kind == 7) = false ∧ (kind == 8) = false := by
          rw [HIP.out] at hip
          simp only [decide_eq_false_iff_not] at hip
          simp only [beq_eq_false_iff_ne, ne_eq]; omega
         clear hip HTC HPL HIP
         generalize decide c.points.Nodup = nd1 at *
         generalize decide c.circles.Nodup = nd2 at *
         go_wp2_with fail
         refine (HD1.out _ hEr).mono ?_
         rintro x w3 ⟨rfl, hx3⟩
         have hE3 := hEr.trans hx3
         cases nd1 with
         | false =>
          go_wp2_with fail
          refine bodyPost_ret (v := .bool false) ?_ rfl ⟨by rw [HV3.out]; rfl, hE3⟩
          simp [results, Tryz.results23, go_sem]
         | true =>
          obtain ⟨y0, y1, y2, y3, y4⟩ := (HBXW.out.ext (Ext.trans HE.out hx3)).five
          go_wp2_with fail
          refine (HD2.out _ hE3).mono ?_
          rintro x w4 ⟨rfl, hx4⟩
          go_wp2_with fail
          refine bodyPost_ret (v := .bool nd2) ?_ rfl ⟨by rw [HV3.out]; rfl, hE3.trans hx4⟩
          simp [results, Tryz.results23, go_sem]
        | true => exact absurd (hip.symm.trans HKD.out) (by simp)
end Go.Proofs.YtceobmnljdhkmaaGreatDoor
namespace Go.Proofs.YtceobmnljdhkmaaGreatDoor
open Go Go.RowKit
structure PtI where
 x : QI
 y : QI
structure RdI where
 center : Int
 radius : QI
structure SgI where
 a : Int
 b : Int
structure ArI where
 circle : Int
 a : Int
 b : Int
 cw : Bool
structure PcI where
 arc : Bool
 index : Int
 back : Bool
/-- A sketch, whatever its fields are. -/
structure SkI where
 points : List PtI
 circles : List RdI
 segs : List SgI
 arcs : List ArI
 chains : List (List PcI)
 cons : List CI
def PtR (w : World) (cs : List Value) (p : PtI) : Prop := ∃ u v u' v', cs = [.bool p.x.num.neg, u, .bool p.x.den.neg, v, .bool p.y.num.neg, u', .bool p.y.den.neg, v'] ∧ Words w u p.x.num.mag ∧ Words w v p.x.den.mag ∧ Words w u' p.y.num.mag ∧ Words w v' p.y.den.mag
theorem PtR.stable : Stable PtR := fun w w' cs p hx => by
 rintro ⟨u, v, u', v', h, h1, h2, h3, h4⟩
 exact ⟨u, v, u', v', h, h1.ext hx, h2.ext hx, h3.ext hx, h4.ext hx⟩
def RdR (w : World) (cs : List Value) (p : RdI) : Prop := ∃ u v, cs = [.int .i64 p.center, .bool p.radius.num.neg, u, .bool p.radius.den.neg, v] ∧ Words w u p.radius.num.mag ∧ Words w v p.radius.den.mag
theorem RdR.stable : Stable RdR := fun w w' cs p hx => by
 rintro ⟨u, v, h, h1, h2⟩
 exact ⟨u, v, h, h1.ext hx, h2.ext hx⟩
def SgR (_ : World) (cs : List Value) (p : SgI) : Prop := cs = [.int .i64 p.a, .int .i64 p.b]
theorem SgR.stable : Stable SgR := fun _ _ _ _ _ h => h
def ArR (_ : World) (cs : List Value) (p : ArI) : Prop := cs = [.int .i64 p.circle, .int .i64 p.a, .int .i64 p.b, .bool p.cw]
theorem ArR.stable : Stable ArR := fun _ _ _ _ _ h => h
def PcR (_ : World) (cs : List Value) (p : PcI) : Prop := cs = [.bool p.arc, .int .i64 p.index, .bool p.back]
theorem PcR.stable : Stable PcR := fun _ _ _ _ _ h => h
def ChR (w : World) (cs : List Value) (c : List PcI) : Prop := ∃ v, cs = [v] ∧ ArrAt 3 PcR w v c
theorem ChR.stable : Stable ChR := fun w w' cs p hx => by
 rintro ⟨v, h, h1⟩
 exact ⟨v, h, h1.ext PcR.stable hx⟩
/-- A sketch's six slices. -/
structure SkAt (K : Nat) (w : World) (v0 v1 v2 v3 v4 v5 : Value) (s : SkI) : Prop where
 points : ArrAt 8 PtR w v0 s.points
 circles : ArrAt 5 RdR w v1 s.circles
 segs : ArrAt 2 SgR w v2 s.segs
 arcs : ArrAt 4 ArR w v3 s.arcs
 chains : ArrAt 1 ChR w v4 s.chains
 cons : ArrAt 5 (ConR K) w v5 s.cons
theorem SkAt.ext {K : Nat} {w w' : World} {v0 v1 v2 v3 v4 v5 : Value} {s : SkI} (h : SkAt K w v0 v1 v2 v3 v4 v5 s) (hx : Ext w w') : SkAt K w' v0 v1 v2 v3 v4 v5 s :=
 ⟨h.points.ext PtR.stable hx, h.circles.ext RdR.stable hx, h.segs.ext SgR.stable hx, h.arcs.ext ArR.stable hx, h.chains.ext ChR.stable hx, h.cons.ext (ConR.stable K) hx⟩
theorem CellsAt.six {w : World} {g : Nat} {a b c d e f : Value} (k : CellsAt w g [a, b, c, d, e, f]) :
  w.cell? ⟨g, 0, none⟩ = some a ∧ w.cell? ⟨g, 1, none⟩ = some b ∧ w.cell? ⟨g, 2, none⟩ = some c ∧ w.cell? ⟨g, 3, none⟩ = some d ∧ w.cell? ⟨g, 4, none⟩ = some e ∧ w.cell? ⟨g, 5, none⟩ = some f :=
 ⟨k.2 0 _ rfl, k.2 1 _ rfl, k.2 2 _ rfl, k.2 3 _ rfl, k.2 4 _ rfl, k.2 5 _ rfl⟩
def hasL (n i : Int) : Bool := decide (0 ≤ i) && decide (i < n)
/-- A piece whose segment or arc exists. -/
def okPc (s : SkI) (p : PcI) : Bool := if p.arc then hasL s.arcs.length p.index else hasL s.segs.length p.index
def endsOf (s : SkI) (p : PcI) : Int × Int :=
 let ab : Int × Int := if p.arc then (match s.arcs[p.index.toNat]? with | some x => (x.a, x.b) | none => (0, 0)) else (match s.segs[p.index.toNat]? with | some x => (x.a, x.b) | none => (0, 0))
 if p.back then (ab.2, ab.1) else ab
/-- The pieces of a chain from one on; the end of the piece ahead. -/
def chainFrom (s : SkI) : Option Int → List PcI → Bool
 | _, [] => true
 | prev, p :: l => okPc s p && (match prev with | none => true | some e => decide (e = (endsOf s p).1)) && chainFrom s (some (endsOf s p).2) l
def chainL (s : SkI) (c : List PcI) : Bool := chainFrom s none c && decide (0 < c.length)
def manyL (s : SkI) : Bool := s.chains.any (fun c => decide (200 < c.length)) || decide (200 < s.points.length) || decide (200 < s.circles.length) || decide (200 < s.segs.length) || decide (200 < s.arcs.length) || decide (200 < s.chains.length) || decide (200 < s.cons.length)
theorem ref26_has (n i : Int) (w : World) : Calls Tryz.prog 20 #[.int .i64 n, .int .i64 i] w fun e w' => e = .returned (.bool (hasL n i)) ∧ w = w' := by
 by_cases h1 : 0 ≤ i
 ·have H : Hid (hasL n i = decide (i < n)) := by show _ = _; simp [hasL, h1]
  go_enter Tryz.func20, Tryz.ntmps20
  go_wp2_with fail
  refine bodyPost_ret ?_ rfl ⟨by rw [H.out], rfl⟩
  simp [results, Tryz.results20, go_sem]
 ·have H : Hid (hasL n i = false) := by show _ = _; simp [hasL, h1]
  go_enter Tryz.func20, Tryz.ntmps20
  go_wp2_with fail
  refine bodyPost_ret ?_ rfl ⟨by rw [H.out], rfl⟩
  simp [results, Tryz.results20, go_sem]
theorem okPc_idx {s : SkI} {p : PcI} (h : okPc s p = true) : ∃ i : Nat, p.index = (i : Int) ∧ (p.arc = true → i < s.arcs.length) ∧ (p.arc = false → i < s.segs.length) := by
 unfold okPc hasL at h
 split at h
 ·next ha =>
  simp at h
  exact ⟨p.index.toNat, by omega, fun _ => by omega, fun h' => by rw [ha] at h'; cases h'⟩
 ·next ha =>
  simp at h
  exact ⟨p.index.toNat, by omega, fun h' => absurd h' ha, fun _ => by omega⟩
set_option maxHeartbeats 1600000 in
theorem ref26_Ends {K : Nat} {s : SkI} {p : PcI} {v0 v1 v2 v3 v4 v5 : Value} {w : World} (h : SkAt K w v0 v1 v2 v3 v4 v5 s) (hp : okPc s p = true) :
  Calls Tryz.prog 50 #[.agg #[v0, v1, v2, v3, v4, v5], .agg #[.bool p.arc, .int .i64 p.index, .bool p.back]] w fun e w' => e = .returned (.tuple #[.int .i64 (endsOf s p).1, .int .i64 (endsOf s p).2]) ∧ Ext w w' := by
 obtain ⟨i, hi, h1, h2⟩ := okPc_idx hp
 obtain ⟨arc, index, back⟩ := p
 dsimp only at hi h1 h2 ⊢
 subst hi
 have HSA := Lib.hid h.arcs
 have HSG := Lib.hid h.segs
 obtain ⟨A2, c2, rfl, hl2, hm2⟩ := h.segs.form
 obtain ⟨A3, c3, rfl, hl3, hm3⟩ := h.arcs.form
 clear h hp
 cases arc with
 | true =>
  have hlt := h1 rfl
  clear h1 h2
  obtain ⟨b, off, rfl, hb, ds, hds, hcell, hR⟩ := HSA.out.at_ hlt
  have HEQ : Hid (endsOf s ⟨true, (i : Int), back⟩ = if back then (s.arcs[i].b, s.arcs[i].a) else (s.arcs[i].a, s.arcs[i].b)) := by
   show _ = _
   simp [endsOf, List.getElem?_eq_getElem hlt]
  rw [hR] at hcell
  have q1 : w.cell? ⟨b, off + i * 4 + 1, none⟩ = some (.int .i64 s.arcs[i].a) := hcell 1 _ rfl
  have q2 : w.cell? ⟨b, off + i * 4 + 2, none⟩ = some (.int .i64 s.arcs[i].b) := hcell 2 _ rfl
  clear hcell hR HSA HSG hds
  generalize s.arcs[i].a = x at *
  generalize s.arcs[i].b = y at *
  generalize endsOf s ⟨true, (i : Int), back⟩ = ee at *
  cases back
  all_goals
   obtain rfl := HEQ.out
   clear HEQ
   go_enter Tryz.func50, Tryz.ntmps50
   go_wp2_with fail
   go_quiet (fail)
   go_wp2_with fail
   go_ret2
   exact ⟨rfl, (by repeat first|exact xA _|assumption|refine xB ?_ _|refine xC ?_|refine xD ?_ _|refine xE ?_ (by simp <;> omega) _|refine xF ?_ (by assumption))⟩
 | false =>
  have hlt := h2 rfl
  clear h1 h2
  obtain ⟨b, off, rfl, hb, ds, hds, hcell, hR⟩ := HSG.out.at_ hlt
  have HEQ : Hid (endsOf s ⟨false, (i : Int), back⟩ = if back then (s.segs[i].b, s.segs[i].a) else (s.segs[i].a, s.segs[i].b)) := by
   show _ = _
   simp [endsOf, List.getElem?_eq_getElem hlt]
  rw [hR] at hcell
  have q1 : w.cell? ⟨b, off + i * 2, none⟩ = some (.int .i64 s.segs[i].a) := hcell 0 _ rfl
  have q2 : w.cell? ⟨b, off + i * 2 + 1, none⟩ = some (.int .i64 s.segs[i].b) := hcell 1 _ rfl
  clear hcell hR HSA HSG hds
  generalize s.segs[i].a = x at *
  generalize s.segs[i].b = y at *
  generalize endsOf s ⟨false, (i : Int), back⟩ = ee at *
  cases back
  all_goals
   obtain rfl := HEQ.out
   clear HEQ
   go_enter Tryz.func50, Tryz.ntmps50
   go_wp2_with fail
   go_quiet (fail)
   go_wp2_with fail
   go_ret2
   exact ⟨rfl, (by repeat first|exact xA _|assumption|refine xB ?_ _|refine xC ?_|refine xD ?_ _|refine xE ?_ (by simp <;> omega) _|refine xF ?_ (by assumption))⟩
end Go.Proofs.YtceobmnljdhkmaaGreatDoor
