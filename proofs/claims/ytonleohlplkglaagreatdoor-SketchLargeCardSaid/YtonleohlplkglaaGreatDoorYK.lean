/- Rows, Of of the reference's layer 25. -/
import Derived.Test.YtonleohlplkglaaGreatDoorYJ
import Derived.Deep.RegionWith
import Derived.Deep.AppendLies
import Derived.Deep.RegionLaw
import Derived.Lib.SliceRun
import Derived.Test.YtonleohlplkglaaGreatDoorYG
import Derived.Deep.RegionHeld3
import Derived.Deep.Slices
import Derived.SizedLaws
import GoSem.ClaimJoined
namespace Go.Proofs.YtonleohlplkglaaGreatDoor
open Go Go.RowKit
/-- A row of the table of kinds. -/
structure KR where
 name : ByteArray
 p : Int
 c : Int
 n : Int
 v : Int
 q : Int
 side : Bool
def KR.cells (r : KR) : List Value := [.string r.name, .int .i64 r.p, .int .i64 r.c, .int .i64 r.n, .int .i64 r.v, .int .i64 r.q, .bool r.side]
def kTab : List KR :=
 [⟨⟨#[102, 105, 120]⟩, 1, 0, 2, 1, 2, false⟩,
  ⟨⟨#[100, 105, 115, 116, 97, 110, 99, 101]⟩, 2, 0, 1, 2, 1, false⟩,
  ⟨⟨#[105, 110, 99, 105, 100, 101, 110, 116]⟩, 3, 0, 0, 0, 1, false⟩,
  ⟨⟨#[111, 102, 102, 115, 101, 116]⟩, 3, 0, 1, 2, 1, true⟩,
  ⟨⟨#[97, 110, 103, 108, 101]⟩, 4, 0, 1, 3, 1, false⟩,
  ⟨⟨#[112, 97, 114, 97, 108, 108, 101, 108]⟩, 4, 0, 0, 0, 1, false⟩,
  ⟨⟨#[112, 101, 114, 112, 101, 110, 100, 105, 99, 117, 108, 97, 114]⟩, 4, 0, 0, 0, 1, false⟩,
  ⟨⟨#[101, 113, 117, 97, 108]⟩, 4, 0, 0, 0, 1, false⟩,
  ⟨⟨#[109, 105, 100, 112, 111, 105, 110, 116]⟩, 3, 0, 0, 0, 2, false⟩,
  ⟨⟨#[115, 121, 109, 109, 101, 116, 114, 105, 99]⟩, 4, 0, 0, 0, 2, false⟩,
  ⟨⟨#[104, 111, 114, 105, 122, 111, 110, 116, 97, 108]⟩, 2, 0, 0, 0, 1, false⟩,
  ⟨⟨#[118, 101, 114, 116, 105, 99, 97, 108]⟩, 2, 0, 0, 0, 1, false⟩,
  ⟨⟨#[111, 110, 99, 105, 114, 99, 108, 101]⟩, 1, 1, 0, 0, 1, false⟩,
  ⟨⟨#[114, 97, 100, 105, 117, 115]⟩, 0, 1, 1, 2, 1, false⟩,
  ⟨⟨#[115, 97, 109, 101, 114, 97, 100, 105, 117, 115]⟩, 0, 2, 0, 0, 1, false⟩,
  ⟨⟨#[116, 97, 110, 103, 101, 110, 116, 108, 105, 110, 101]⟩, 2, 1, 0, 0, 1, true⟩,
  ⟨⟨#[116, 97, 110, 103, 101, 110, 116, 99, 105, 114, 99, 108, 101]⟩, 0, 2, 0, 0, 1, true⟩]
def kCells : List Value := kTab.flatMap KR.cells
set_option maxRecDepth 100000 in
set_option maxHeartbeats 1600000 in
theorem ref25_Rows (w : World) : Calls Tryz.prog 149 #[] w fun e w' => e = .returned (.slice (some ⟨w.heap.size, 0, none⟩) 17 17) ∧ w' = w.alloc (.cells kCells.toArray 120) := by
 go_enter Tryz.func149, Tryz.ntmps149
 go_wp2_with fail
 go_ret
 exact ⟨rfl, rfl⟩
end Go.Proofs.YtonleohlplkglaaGreatDoor
namespace Go.Proofs.YtonleohlplkglaaGreatDoor
open Go Go.RowKit
theorem flat_at : ∀ (l : List KR) (k : Nat) (r : KR), l[k]? = some r → ∀ j, j < 7 → (l.flatMap KR.cells)[k * 7 + j]? = r.cells[j]?
 | [], k, r, h, _, _ => by simp at h
 | a :: l, 0, r, h, j, hj => by
  simp at h; subst h
  rw [List.flatMap_cons, List.getElem?_append_left (by simp [KR.cells]; omega)]
  simp
 | a :: l, k + 1, r, h, j, hj => by
  rw [List.flatMap_cons, List.getElem?_append_right (by simp [KR.cells]; omega)]
  have : (k + 1) * 7 + j - a.cells.length = k * 7 + j := by simp [KR.cells]; omega
  rw [this]
  exact flat_at l k r (by simpa using h) j hj
/-- The row of a kind. -/
def kRow (kind : Int) : Option KR := if 1 ≤ kind then kTab[(kind - 1).toNat]? else none
theorem kRow_some {kind : Int} {r : KR} (h : kRow kind = some r) : ∃ k : Nat, k < 17 ∧ kind = (k : Int) + 1 ∧ kTab[k]? = some r := by
 unfold kRow at h
 split at h
 ·have hlt : (kind - 1).toNat < 17 := by
   rcases Nat.lt_or_ge (kind - 1).toNat 17 with h1 | h1
   ·exact h1
   ·rw [List.getElem?_eq_none (by simpa [kTab] using h1)] at h; cases h
  exact ⟨(kind - 1).toNat, hlt, by omega, h⟩
 ·cases h
theorem kRow_none {kind : Int} (h : kRow kind = none) : kind < 1 ∨ 17 < kind := by
 unfold kRow at h
 split at h
 ·have : 17 ≤ (kind - 1).toNat := by
   have := List.getElem?_eq_none_iff.1 h
   simpa [kTab] using this
  omega
 ·omega
theorem ref25_Rows' (w : World) : Calls Tryz.prog 149 #[] w fun e w' => ∃ g, e = .returned (.slice (some ⟨g, 0, none⟩) 17 17) ∧ Hid (CellsAt w' g kCells) ∧ w.heap.size ≤ g ∧ Ext w w' :=
 (ref25_Rows w).mono fun e w' h => by
  obtain ⟨h1, h2⟩ := h
  subst h2
  exact ⟨w.heap.size, h1, CellsAt.new w _ _, Nat.le_refl _, Ext.alloc _ _⟩
set_option maxRecDepth 100000 in
set_option maxHeartbeats 1600000 in
theorem ref25_Of_some {kind : Int} {r : KR} (w : World) (h : kRow kind = some r) : Calls Tryz.prog 103 #[.int .i64 kind] w fun e w' => e = .returned (.tuple #[.agg #[.string r.name, .int .i64 r.p, .int .i64 r.c, .int .i64 r.n, .int .i64 r.v, .int .i64 r.q, .bool r.side], .bool true]) ∧ Ext w w' := by
 obtain ⟨k, hk, rfl, hr⟩ := kRow_some h
 have HR := Lib.hid ref25_Rows'
 have HK := Lib.hid (fun j u (hj : r.cells[j]? = some u) (h7 : j < 7) => (flat_at kTab k r hr j h7).trans hj)
 clear h hr
 have k1 : ¬ ((k : Int) + 1 < 1) := by omega
 have k2 : ¬ (17 < (k : Int) + 1) := by omega
 go_enter Tryz.func103, Tryz.ntmps103
 go_wp2_with fail
 refine (HR.out _).mono ?_
 rintro e w1 ⟨g1, rfl, -, -, hx1⟩
 obtain ⟨hc1, hf1⟩ := bcell hx1
 have hz1 : w.heap.size < w1.heap.size := by have := hx1.size; simp at this; omega
 go_wp2_with fail
 refine (HR.out _).mono ?_
 rintro e w2 ⟨g, rfl, HC, hg, hx2⟩
 have hx12 := Ext.trans hx1 hx2
 have hE : Ext w w2 := Ext.trans (Ext.alloc _ _) hx12
 clear hc1 hf1 hz1 hx1
 obtain ⟨hc1, hf1⟩ := bcell hx12
 have q0 := HC.out.2 _ _ (HK.out 0 _ rfl (by omega))
 have q1 := HC.out.2 _ _ (HK.out 1 _ rfl (by omega))
 have q2 := HC.out.2 _ _ (HK.out 2 _ rfl (by omega))
 have q3 := HC.out.2 _ _ (HK.out 3 _ rfl (by omega))
 have q4 := HC.out.2 _ _ (HK.out 4 _ rfl (by omega))
 have q5 := HC.out.2 _ _ (HK.out 5 _ rfl (by omega))
 have q6 := HC.out.2 _ _ (HK.out 6 _ rfl (by omega))
 simp only [Nat.add_zero] at q0
 clear HC HK HR
 go_wp2_with fail
 refine bodyPost_ret (v := .tuple #[.agg #[.string r.name, .int .i64 r.p, .int .i64 r.c, .int .i64 r.n, .int .i64 r.v, .int .i64 r.q, .bool r.side], .bool true]) ?_ rfl ⟨rfl, ?_⟩
 ·simp [results, Tryz.results103, go_sem, hc1]
 ·repeat (first | with_reducible exact hE | refine Ext.pset ?_ (by simp) _)
set_option maxRecDepth 100000 in
set_option maxHeartbeats 1600000 in
theorem ref25_Of_none {kind : Int} (w : World) (h : kRow kind = none) : Calls Tryz.prog 103 #[.int .i64 kind] w fun e w' => e = .returned (.tuple #[.agg #[.string ⟨#[]⟩, .int .i64 0, .int .i64 0, .int .i64 0, .int .i64 0, .int .i64 0, .bool false], .bool false]) ∧ Ext w w' := by
 have HR := Lib.hid ref25_Rows'
 rcases kRow_none h with h1 | h1
 ·clear h
  have k1 : decide (kind < 1) = true := by simpa using h1
  go_enter Tryz.func103, Tryz.ntmps103
  go_wp2_with fail
  refine bodyPost_ret (v := .tuple #[.agg #[.string ⟨#[]⟩, .int .i64 0, .int .i64 0, .int .i64 0, .int .i64 0, .int .i64 0, .bool false], .bool false]) ?_ rfl ⟨rfl, ?_⟩
  ·simp [results, Tryz.results103, go_sem]
  ·exact Ext.alloc _ _
 ·clear h
  have k1 : ¬ (kind < 1) := by omega
  go_enter Tryz.func103, Tryz.ntmps103
  go_wp2_with fail
  refine (HR.out _).mono ?_
  rintro e w1 ⟨g1, rfl, -, -, hx1⟩
  have hE : Ext w w1 := Ext.trans (Ext.alloc _ _) hx1
  obtain ⟨hc1, hf1⟩ := bcell hx1
  go_wp2_with fail
  refine bodyPost_ret (v := .tuple #[.agg #[.string ⟨#[]⟩, .int .i64 0, .int .i64 0, .int .i64 0, .int .i64 0, .int .i64 0, .bool false], .bool false]) ?_ rfl ⟨rfl, ?_⟩
  ·simp [results, Tryz.results103, go_sem, hc1]
  ·repeat (first | with_reducible exact hE | refine Ext.pset ?_ (by simp) _)
end Go.Proofs.YtonleohlplkglaaGreatDoor
namespace Go.Proofs.YtonleohlplkglaaGreatDoor
open Go Go.RowKit
/-- A slice of elements of 'sz' cells each, with a bound on its capacity. -/
def ArrAt {α : Type} (sz : Nat) (R : World → List Value → α → Prop) (w : World) (v : Value) (xs : List α) : Prop :=
 ∃ (A : Option Addr) (c : Nat), v = .slice A xs.length c ∧ xs.length ≤ c ∧ xs.length ≤ 35184372088832 ∧
  (xs ≠ [] → ∃ b off : Nat, A = some ⟨b, off, none⟩ ∧ b < w.heap.size ∧
   ∀ k x, xs[k]? = some x → ∃ cs : List Value, cs.length = sz ∧ (∀ j u, cs[j]? = some u → w.cell? ⟨b, off + (k * sz + j), none⟩ = some u) ∧ R w cs x)
theorem ArrAt.ext {α : Type} {sz : Nat} {R : World → List Value → α → Prop} (hR : Stable R) {w w' : World} {v : Value} {xs : List α} (h : ArrAt sz R w v xs) (hx : Ext w w') : ArrAt sz R w' v xs := by
 obtain ⟨A, c, hv, hl, hm, hc⟩ := h
 refine ⟨A, c, hv, hl, hm, fun hne => ?_⟩
 obtain ⟨b, off, hA, hb, hk⟩ := hc hne
 refine ⟨b, off, hA, Nat.lt_of_lt_of_le hb hx.size, fun k x hkx => ?_⟩
 obtain ⟨cs, hcs, hcell, hr⟩ := hk k x hkx
 exact ⟨cs, hcs, fun j u hj => (hx.cell (p := ⟨b, off + (k * sz + j), none⟩) hb).trans (hcell j u hj), hR _ _ _ _ hx hr⟩
theorem ArrAt.form {α : Type} {sz : Nat} {R : World → List Value → α → Prop} {w : World} {v : Value} {xs : List α} (h : ArrAt sz R w v xs) : ∃ A c, v = .slice A xs.length c ∧ xs.length ≤ c ∧ xs.length ≤ 35184372088832 := by
 obtain ⟨A, c, hv, hl, hm, _⟩ := h; exact ⟨A, c, hv, hl, hm⟩
/-- The place of a slice that is not empty, and one of its elements. -/
theorem ArrAt.at_ {α : Type} {sz : Nat} {R : World → List Value → α → Prop} {w : World} {A : Option Addr} {n c : Nat} {xs : List α} (h : ArrAt sz R w (.slice A n c) xs) {k : Nat} (hk : k < xs.length) :
  ∃ b off, A = some ⟨b, off, none⟩ ∧ b < w.heap.size ∧ ∃ cs : List Value, cs.length = sz ∧ (∀ j u, cs[j]? = some u → w.cell? ⟨b, off + (k * sz + j), none⟩ = some u) ∧ R w cs xs[k] := by
 obtain ⟨A', c', hv, hl, hm, hc⟩ := h
 obtain ⟨rfl, rfl, rfl⟩ : A = A' ∧ n = xs.length ∧ c = c' := by injection hv with h1 h2 h3; exact ⟨h1, h2, h3⟩
 obtain ⟨b, off, rfl, hb, hel⟩ := hc (by intro e; rw [e] at hk; simp at hk)
 obtain ⟨cs, h1, h2, h3⟩ := hel k _ (List.getElem?_eq_getElem hk)
 exact ⟨b, off, rfl, hb, cs, h1, h2, h3⟩
theorem ArrAt.len {α : Type} {sz : Nat} {R : World → List Value → α → Prop} {w : World} {A : Option Addr} {n c : Nat} {xs : List α} (h : ArrAt sz R w (.slice A n c) xs) : n = xs.length ∧ n ≤ c ∧ n ≤ 35184372088832 := by
 obtain ⟨A', c', hv, hl, hm, hc⟩ := h
 obtain ⟨rfl, rfl, rfl⟩ : A = A' ∧ n = xs.length ∧ c = c' := by injection hv with h1 h2 h3; exact ⟨h1, h2, h3⟩
 exact ⟨rfl, hl, hm⟩
def IntR (_ : World) (cs : List Value) (x : Int) : Prop := cs = [.int .i64 x]
theorem IntR.stable : Stable IntR := fun _ _ _ _ _ h => h
/-- A slice of numbers. -/
abbrev Ints (w : World) (v : Value) (xs : List Int) : Prop := ArrAt 1 IntR w v xs
theorem ints_cells {w : World} {A : Option Addr} {n c : Nat} {xs : List Int} (h : Ints w (.slice A n c) xs) {k : Nat} (hk : k < xs.length) :
  ∃ b off, A = some ⟨b, off, none⟩ ∧ b < w.heap.size ∧ ∀ j (hj : j < xs.length), w.cell? ⟨b, off + j, none⟩ = some (.int .i64 xs[j]) := by
 obtain ⟨A', c', hv, hl, hm, hc⟩ := h
 obtain ⟨rfl, rfl, rfl⟩ : A = A' ∧ n = xs.length ∧ c = c' := by injection hv with h1 h2 h3; exact ⟨h1, h2, h3⟩
 obtain ⟨b, off, rfl, hb, hel⟩ := hc (by intro e; rw [e] at hk; simp at hk)
 refine ⟨b, off, rfl, hb, fun j hj => ?_⟩
 obtain ⟨cs, h1, h2, h3⟩ := hel j _ (List.getElem?_eq_getElem hj)
 rw [h3] at h2
 simpa using h2 0 _ rfl
def withinL (xs : List Int) (n : Int) : Bool := xs.all fun x => decide (0 ≤ x) && decide (x < n)
set_option maxHeartbeats 800000 in
theorem ref25_within {A : Option Addr} {m c : Nat} {xs : List Int} {n : Int} {w : World} (h : Ints w (.slice A m c) xs) :
  Calls Tryz.prog 104 #[.slice A m c, .int .i64 n] w fun e w' => e = .returned (.bool (withinL xs n)) ∧ w = w' := by
 obtain ⟨rfl, hl, hm⟩ := h.len
 have HC := Lib.hid (fun k (hk : k < xs.length) => ints_cells h hk)
 clear h
 go_enter Tryz.func104, Tryz.ntmps104
 go_wp2_with fail
 go_loopg [5] xs.length (fun gk x wr => ∃ i : Nat, x = .int .i64 (i : Int) ∧ i + gk = xs.length ∧ Hid (withinL (xs.drop i) n = withinL xs n) ∧ wr = w)
 case atStart => exact ⟨0, rfl, by omega, rfl, rfl⟩
 case round =>
  obtain ⟨i, rfl, hi, HA, rfl⟩ := hrel
  by_cases hlt : i < xs.length
  ·obtain ⟨b, off, rfl, hb, hcell⟩ := HC.out _ hlt
   have q := hcell i hlt
   have HD : Hid (withinL (xs.drop i) n = (decide (0 ≤ xs[i]) && decide (xs[i] < n) && withinL (xs.drop (i + 1)) n)) := by show _ = _; unfold withinL; rw [List.drop_eq_getElem_cons hlt, List.all_cons]
   clear hcell HC
   generalize xs[i] = x at *
   by_cases h0 : x < 0
   ·have HR : Hid (withinL xs n = false) := by show _ = _; rw [← HA.out, HD.out]; simp; omega
    go_wp2_with fail
    refine bodyPost_ret (v := .bool false) ?_ rfl ⟨by rw [HR.out], rfl⟩
    simp [results, Tryz.results104, go_sem]
   ·have h0' : decide (x < 0) = false := by simpa using h0
    by_cases h1 : n ≤ x
    ·have HR : Hid (withinL xs n = false) := by show _ = _; rw [← HA.out, HD.out]; simp; omega
     go_wp2_with fail
     refine bodyPost_ret (v := .bool false) ?_ rfl ⟨by rw [HR.out], rfl⟩
     simp [results, Tryz.results104, go_sem]
    ·have h1' : decide (n ≤ x) = false := by simpa using h1
     have HR : Hid (withinL (xs.drop (i + 1)) n = withinL xs n) := by
      show _ = _
      have e1 : decide (0 ≤ x) = true := by simp; omega
      have e2 : decide (x < n) = true := by simp; omega
      rw [← HA.out, HD.out, e1, e2]; rfl
     clear h0 h1
     go_wp2_with fail
     go_roundg (gk - 1)
     case measure => omega
     case rel => exact ⟨i + 1, by simp, by omega, HR, rfl⟩
  ·have HR : Hid (withinL xs n = true) := by show _ = _; rw [← HA.out, List.drop_eq_nil_of_le (by omega)]; rfl
   go_wp2_with fail
   refine bodyPost_ret (v := .bool true) ?_ rfl ⟨by rw [HR.out], rfl⟩
   simp [results, Tryz.results104, go_sem]
theorem nodup_take_succ {xs : List Int} {i : Nat} (h : i < xs.length) : (xs.take (i + 1)).Nodup ↔ (xs.take i).Nodup ∧ xs[i] ∉ xs.take i := by
 rw [List.take_succ_eq_append_getElem h]
 rw [List.nodup_append]
 constructor
 ·rintro ⟨h1, _, h2⟩
  exact ⟨h1, fun h3 => h2 _ h3 _ (by simp) rfl⟩
 ·rintro ⟨h1, h2⟩
  refine ⟨h1, by simp, fun a ha b hb e => h2 ?_⟩
  simp at hb
  rw [← hb, ← e]; exact ha
set_option maxHeartbeats 800000 in
theorem ref25_different {A : Option Addr} {m c : Nat} {xs : List Int} {w : World} (h : Ints w (.slice A m c) xs) :
  Calls Tryz.prog 106 #[.slice A m c] w fun e w' => e = .returned (.bool (decide xs.Nodup)) ∧ Ext w w' := by
 obtain ⟨rfl, hl, hm⟩ := h.len
 have HC := Lib.hid (fun k (hk : k < xs.length) => ints_cells h hk)
 clear h
 go_enter Tryz.func106, Tryz.ntmps106
 go_wp2_with fail
 go_loopg [3, 4] xs.length (fun gk x _ wr => ∃ i : Nat, x = .int .i64 (i : Int) ∧ i + gk = xs.length ∧ Hid ((xs.take i).Nodup) ∧ Hid (Ext w wr))
 case atStart => exact ⟨0, rfl, by omega, List.nodup_nil, Ext.refl _⟩
 case round =>
  obtain ⟨i, rfl, hi, HN, HE⟩ := hrel
  by_cases hlt : i < xs.length
  ·obtain ⟨b, off, rfl, hb, hcell⟩ := HC.out _ hlt
   have HS := Lib.hid (nodup_take_succ hlt)
   go_wp2_with fail
   go_loopg [4] i (fun gk2 x wr2 => ∃ k : Nat, x = .int .i64 (k : Int) ∧ k + gk2 = i ∧ Hid (xs[i] ∉ xs.take k) ∧ Hid (Ext w wr2))
   case atStart => exact ⟨0, rfl, by omega, by simp [Hid], HE.out⟩
   case round =>
    obtain ⟨k, rfl, hk, HM, HE2⟩ := hrel
    by_cases hkl : k < i
    ·have q1 := (HE2.out.cell (p := ⟨b, off + i, none⟩) hb).trans (hcell i hlt)
     have q2 := (HE2.out.cell (p := ⟨b, off + k, none⟩) hb).trans (hcell k (by omega))
     have HK : Hid (xs[i] ≠ xs[k] → xs[i] ∉ xs.take (k + 1)) := by
      intro hne hmem
      rw [List.take_succ_eq_append_getElem (by omega)] at hmem
      rcases List.mem_append.1 hmem with h1 | h1
      ·exact HM.out h1
      ·simp at h1; exact hne h1
     have HK2 : Hid (xs[i] = xs[k] → ¬ xs.Nodup) := by
      intro he hnd
      have := (List.getElem_inj (h₀ := hlt) (h₁ := by omega) hnd).1 he
      omega
     clear hcell HC
     generalize xs[i] = x at *
     generalize xs[k] = y at *
     by_cases he : x = y
     ·have he' : (x == y) = true := by simpa using he
      have HR : Hid (decide xs.Nodup = false) := by show _ = _; simpa using HK2.out he
      clear he
      go_wp2_with fail
      go_quiet (fail)
      go_wp2_with fail
      refine bodyPost_ret (v := .bool false) ?_ rfl ⟨by rw [HR.out], HE2.out.trans (Ext.drewN _ _)⟩
      simp [results, Tryz.results106, go_sem]
     ·have he' : (x == y) = false := by simpa using he
      have HR := Lib.hid (HK.out he)
      clear he
      go_wp2_with fail
      go_quiet (fail)
      go_wp2_with fail
      go_roundg (i - (k + 1))
      case measure => omega
      case rel => exact ⟨k + 1, by simp, by omega, HR.out, HE2.out.trans (Ext.drewN _ _)⟩
    ·have HR : Hid ((xs.take (i + 1)).Nodup) := by
      refine HS.out.2 ⟨HN.out, ?_⟩
      have := HM.out
      rwa [show k = i by omega] at this
     go_wp2_with fail
     go_roundg (xs.length - (i + 1))
     case measure => omega
     case rel => exact ⟨i + 1, by simp, by omega, HR.out, HE2.out⟩
  ·have HR : Hid (decide xs.Nodup = true) := by show _ = _; have := HN.out; rw [List.take_of_length_le (by omega)] at this; simpa using this
   go_wp2_with fail
   refine bodyPost_ret (v := .bool true) ?_ rfl ⟨by rw [HR.out], HE.out⟩
   simp [results, Tryz.results106, go_sem]
end Go.Proofs.YtonleohlplkglaaGreatDoor
namespace Go.Proofs.YtonleohlplkglaaGreatDoor
open Go Go.RowKit
/-- A constraint, whatever its fields are. -/
structure CI where
 kind : Int
 points : List Int
 circles : List Int
 values : List EI
 side : Int
def ConR (k : Nat) (w : World) (cs : List Value) (c : CI) : Prop :=
 ∃ pv cv vv, cs = [.int .i64 c.kind, pv, cv, vv, .int .i64 c.side] ∧ Ints w pv c.points ∧ Ints w cv c.circles ∧ ArrAt 7 (ExprR k) w vv c.values
theorem ConR.stable (k : Nat) : Stable (ConR k) := fun w w' cs c hx => by
 rintro ⟨pv, cv, vv, h1, h2, h3, h4⟩
 exact ⟨pv, cv, vv, h1, h2.ext IntR.stable hx, h3.ext IntR.stable hx, h4.ext (ExprR.stable k) hx⟩
def sideOK (s : Bool) (x : Int) : Bool := if s then decide (x = 1) || decide (x = -1) else decide (x = 0)
def samePair (p : List Int) : Bool := decide (p.getD 0 0 = p.getD 2 0) && decide (p.getD 1 0 = p.getD 3 0) || decide (p.getD 0 0 = p.getD 3 0) && decide (p.getD 1 0 = p.getD 2 0)
def pairsL (p : List Int) : Bool := !decide (p.getD 0 0 = p.getD 1 0) && !decide (p.getD 2 0 = p.getD 3 0) && !samePair p
def isPair (kind : Int) : Bool := decide (kind = 5 ∨ kind = 6 ∨ kind = 7 ∨ kind = 8)
def headC (r : KR) (c : CI) (np nc : Int) : Bool := decide ((c.points.length : Int) = r.p) && decide ((c.circles.length : Int) = r.c) && decide ((c.values.length : Int) = r.n) && withinL c.points np && withinL c.circles nc
def tailC (c : CI) : Bool := if isPair c.kind then pairsL c.points else decide c.points.Nodup && decide c.circles.Nodup
def validC (k : Nat) (c : CI) (np nc : Int) : Bool :=
 match kRow c.kind with
 | none => false
 | some r => headC r c np nc && c.values.all (fun e => decide (errE k e = 0)) && sideOK r.side c.side && tailC c
theorem kRow_pair {kind : Int} {r : KR} (h : kRow kind = some r) (hp : kind = 5 ∨ kind = 6 ∨ kind = 7 ∨ kind = 8) : r.p = 4 := by
 rcases hp with rfl | rfl | rfl | rfl
 all_goals
  simp [kRow, kTab] at h
  rw [← h]
theorem CellsAt.five {w : World} {g : Nat} {a b c d e : Value} (k : CellsAt w g [a, b, c, d, e]) :
  w.cell? ⟨g, 0, none⟩ = some a ∧ w.cell? ⟨g, 1, none⟩ = some b ∧ w.cell? ⟨g, 2, none⟩ = some c ∧ w.cell? ⟨g, 3, none⟩ = some d ∧ w.cell? ⟨g, 4, none⟩ = some e :=
 ⟨k.2 0 _ rfl, k.2 1 _ rfl, k.2 2 _ rfl, k.2 3 _ rfl, k.2 4 _ rfl⟩
set_option maxRecDepth 100000 in
set_option maxHeartbeats 3200000 in
theorem ref25_Valid_np (k : Nat) (hk : k ≤ 100000) {c : CI} {pv cv vv : Value} {np nc : Int} {w : World} (hp : Ints w pv c.points) (hc : Ints w cv c.circles) (hv : ArrAt 7 (ExprR k) w vv c.values) (hs : ∀ e ∈ c.values, smallE k e) (hkd : isPair c.kind = false) :
  Calls Tryz.prog 57 #[.agg #[.int .i64 c.kind, pv, cv, vv, .int .i64 c.side], .int .i64 np, .int .i64 nc] w fun e w' => e = .returned (.bool (validC k c np nc)) ∧ Ext w w' := by
 have HKD := Lib.hid hkd
 clear hkd
 obtain ⟨A1, c1, rfl, hl1, hm1⟩ := hp.form
 obtain ⟨A2, c2, rfl, hl2, hm2⟩ := hc.form
 obtain ⟨A3, c3, rfl, hl3, hm3⟩ := hv.form
 have HBX := Lib.hid (CellsAt.new w [.int .i64 c.kind, .slice A1 c.points.length c1, .slice A2 c.circles.length c2, .slice A3 c.values.length c3, .int .i64 c.side] 52)
 cases hr : kRow c.kind with
 | none =>
  have HO := Lib.hid (fun w1 => ref25_Of_none w1 hr)
  have HV : Hid (validC k c np nc = false) := by show _ = _; unfold validC; rw [hr]
  clear hp hc hv hs hr
  generalize c.kind = kind at *
  go_enter Tryz.func57, Tryz.ntmps57
  go_wp2_with fail
  refine (HO.out _).mono ?_
  rintro e w1 ⟨rfl, hx1⟩
  have hE1 : Ext w w1 := (by repeat first|exact xA _|assumption|refine xB ?_ _|refine xC ?_|refine xD ?_ _|refine xE ?_ (by simp <;> omega) _|refine xF ?_ (by assumption))
  go_wp2_with fail
  refine bodyPost_ret (v := .bool false) ?_ rfl ⟨by rw [HV.out], hE1.palloc _⟩
  simp [results, Tryz.results57, go_sem]
 | some r =>
  have HO := Lib.hid (fun w1 => ref25_Of_some w1 hr)
  have HV : Hid (validC k c np nc = (headC r c np nc && c.values.all (fun e => decide (errE k e = 0)) && sideOK r.side c.side && tailC c)) := by show _ = _; unfold validC; rw [hr]
  have HH : Hid (headC r c np nc = (decide ((c.points.length : Int) = r.p) && decide ((c.circles.length : Int) = r.c) && decide ((c.values.length : Int) = r.n) && withinL c.points np && withinL c.circles nc)) := rfl
  have HP4 : Hid (isPair c.kind = true → c.points.length = 4 ∨ (c.points.length : Int) ≠ r.p) := by
   intro h
   have := kRow_pair hr (by simpa [isPair] using h)
   omega
  have HIP : Hid (isPair c.kind = decide (c.kind = 5 ∨ c.kind = 6 ∨ c.kind = 7 ∨ c.kind = 8)) := rfl
  have HW1 := Lib.hid (fun w1 (hx : Ext w w1) => ref25_within (n := np) (hp.ext IntR.stable hx))
  have HW2 := Lib.hid (fun w1 (hx : Ext w w1) => ref25_within (n := nc) (hc.ext IntR.stable hx))
  have HD1 := Lib.hid (fun w1 (hx : Ext w w1) => ref25_different (hp.ext IntR.stable hx))
  have HD2 := Lib.hid (fun w1 (hx : Ext w w1) => ref25_different (hc.ext IntR.stable hx))
  have HPT := Lib.hid hp
  have HVS := Lib.hid hv
  have HS := Lib.hid hs
  clear hp hc hv hs hr
  have HTL : Hid (tailC c = (if isPair c.kind then pairsL c.points else decide c.points.Nodup && decide c.circles.Nodup)) := rfl
  generalize c.kind = kind at *
  generalize headC r c np nc = hd at *
  generalize withinL c.points np = wi1 at *
  generalize withinL c.circles nc = wi2 at *
  have HBR := fun w1 : World => Lib.hid (CellsAt.new w1 [.string r.name, .int .i64 r.p, .int .i64 r.c, .int .i64 r.n, .int .i64 r.v, .int .i64 r.q, .bool r.side] 120)
  generalize r.name = rn at *
  generalize r.p = rp at *
  generalize r.c = rc at *
  generalize r.n = rk at *
  generalize r.v = rv at *
  generalize r.q = rq at *
  generalize r.side = rs at *
  have b1 : ((c.points.length : Int) != rp) = !decide ((c.points.length : Int) = rp) := by simp [bne, BEq.beq]
  have b2 : ((c.circles.length : Int) != rc) = !decide ((c.circles.length : Int) = rc) := by simp [bne, BEq.beq]
  have b3 : ((c.values.length : Int) != rk) = !decide ((c.values.length : Int) = rk) := by simp [bne, BEq.beq]
  have HPN : Hid (decide ((c.points.length : Int) = rp) = true → ¬ ((c.points.length : Int) ≠ rp)) := by intro h; simpa using h
  generalize decide ((c.points.length : Int) = rp) = d1 at *
  generalize decide ((c.circles.length : Int) = rc) = d2 at *
  generalize decide ((c.values.length : Int) = rk) = d3 at *
  generalize hn1 : c.points.length = n1 at *
  generalize hn2 : c.circles.length = n2 at *
  have HN1 := Lib.hid hn1
  have HN2 := Lib.hid hn2
  clear hn1 hn2
  go_enter Tryz.func57, Tryz.ntmps57
  go_wp2_with fail
  refine (HO.out _).mono ?_
  rintro e w1 ⟨rfl, hx1⟩
  have hE1 : Ext w w1 := (by repeat first|exact xA _|assumption|refine xB ?_ _|refine xC ?_|refine xD ?_ _|refine xE ?_ (by simp <;> omega) _|refine xF ?_ (by assumption))
  have HBX1 := Lib.hid (HBX.out.ext hx1)
  have HBR1 := HBR w1
  clear HBX HBR HO hx1
  obtain ⟨y0, y1, y2, y3, y4⟩ := (HBX1.out.ext (Ext.alloc w1 (.cells #[.string rn, .int .i64 rp, .int .i64 rc, .int .i64 rk, .int .i64 rv, .int .i64 rq, .bool rs] 120))).five
  have hE2 : Ext w (w1.alloc (.cells #[.string rn, .int .i64 rp, .int .i64 rc, .int .i64 rk, .int .i64 rv, .int .i64 rq, .bool rs] 120)) := hE1.palloc _
  obtain ⟨z0, z1, z2, z3, z4, z5, z6⟩ := HBR1.out.seven
  go_upto_region 2 with fail
  generalize hW : w1.alloc (.cells #[.string rn, .int .i64 rp, .int .i64 rc, .int .i64 rk, .int .i64 rv, .int .i64 rq, .bool rs] 120) = W at *
  have HHD : Hid (hd = true → d1 = true) := by intro h; rw [HH.out] at h; simp at h; exact h.1.1.1.1
  go_cut [57] (fun x wx => x = .bool (!hd) ∧ W = wx)
  case first =>
   cases d1
   ·go_wp2_with fail
    go_meet
    exact ⟨by rw [HH.out]; rfl, rfl⟩
   cases d2
   ·go_wp2_with fail
    go_meet
    exact ⟨by rw [HH.out]; rfl, rfl⟩
   cases d3
   ·go_wp2_with fail
    go_meet
    exact ⟨by rw [HH.out]; rfl, rfl⟩
   go_wp2_with fail
   refine (HW1.out _ hE2).mono ?_
   rintro e w2 ⟨rfl, rfl⟩
   cases wi1
   ·go_wp2_with fail
    go_meet
    exact ⟨by rw [HH.out]; rfl, rfl⟩
   go_wp2_with fail
   refine (HW2.out _ hE2).mono ?_
   rintro e w2 ⟨rfl, rfl⟩
   cases wi2
   all_goals
    go_wp2_with fail
    go_meet
    exact ⟨by rw [HH.out]; rfl, rfl⟩
  case rest =>
   obtain ⟨rfl, rfl⟩ := hcut
   clear HH HW1 HW2
   have HPL : Hid (isPair kind = true → hd = true → n1 = 4) := by
    intro h1 h2
    rcases HP4.out h1 with h | h
    ·exact h
    ·exact absurd h (HPN.out (HHD.out h2))
   clear HP4 HPN HHD b1 b2 b3 y0 y1 y2 y3 y4 z0 z1 z2 z3 z4 z5 z6
   clear d1 d2 d3 wi1 wi2
   cases hd with
   | false =>
    go_wp2_with fail
    refine bodyPost_ret (v := .bool false) ?_ rfl ⟨by rw [HV.out]; rfl, hE2⟩
    simp [results, Tryz.results57, go_sem]
   | true =>
    have HBXW := Lib.hid (HBX1.out.ext (hW ▸ Ext.alloc w1 _))
    have HE2 := Lib.hid hE2
    clear hW HBX1 hE2
    obtain ⟨y0, y1, y2, y3, y4⟩ := HBXW.out.five
    go_wp2_with fail
    clear y0 y1 y2 y3 y4
    go_loopg [9] c.values.length (fun gk x wr => ∃ i : Nat, x = .int .i64 (i : Int) ∧ i + gk = c.values.length ∧ Hid ((c.values.drop i).all (fun e => decide (errE k e = 0)) = c.values.all (fun e => decide (errE k e = 0))) ∧ Hid (Ext W wr))
    case atStart => exact ⟨0, rfl, by omega, rfl, Ext.refl _⟩
    case round =>
     obtain ⟨i, rfl, hi, HA, HE⟩ := hrel
     obtain ⟨y0, y1, y2, y3, y4⟩ := (HBXW.out.ext HE.out).five
     obtain ⟨z0, z1, z2, z3, z4, z5, z6⟩ := (HBR1.out.ext HE.out).seven
     have hEr : Ext w wr := Ext.trans HE2.out HE.out
     by_cases hlt : i < c.values.length
     ·obtain ⟨b, off, rfl, hb, ds, hds, hcell, hR⟩ := HVS.out.at_ hlt
      have hsm := HS.out c.values[i] (List.getElem_mem hlt)
      match ds, hds with
      | [d0, d1, d2, d3, d4, d5, d6], _ =>
       have q0 : wr.cell? ⟨b, off + i * 7, none⟩ = some d0 := (hEr.cell (p := ⟨b, off + (i * 7 + 0), none⟩) hb).trans (hcell 0 _ rfl)
       have q1 : wr.cell? ⟨b, off + i * 7 + 1, none⟩ = some d1 := (hEr.cell (p := ⟨b, off + (i * 7 + 1), none⟩) hb).trans (hcell 1 _ rfl)
       have q2 : wr.cell? ⟨b, off + i * 7 + 2, none⟩ = some d2 := (hEr.cell (p := ⟨b, off + (i * 7 + 2), none⟩) hb).trans (hcell 2 _ rfl)
       have q3 : wr.cell? ⟨b, off + i * 7 + 3, none⟩ = some d3 := (hEr.cell (p := ⟨b, off + (i * 7 + 3), none⟩) hb).trans (hcell 3 _ rfl)
       have q4 : wr.cell? ⟨b, off + i * 7 + 4, none⟩ = some d4 := (hEr.cell (p := ⟨b, off + (i * 7 + 4), none⟩) hb).trans (hcell 4 _ rfl)
       have q5 : wr.cell? ⟨b, off + i * 7 + 5, none⟩ = some d5 := (hEr.cell (p := ⟨b, off + (i * 7 + 5), none⟩) hb).trans (hcell 5 _ rfl)
       have q6 : wr.cell? ⟨b, off + i * 7 + 6, none⟩ = some d6 := (hEr.cell (p := ⟨b, off + (i * 7 + 6), none⟩) hb).trans (hcell 6 _ rfl)
       have HC := Lib.hid (ref22_Valid k (ExprR.stable k _ _ _ _ hEr hR) hsm hk)
       have HDR : Hid ((c.values.drop i).all (fun e => decide (errE k e = 0)) = (decide (errE k c.values[i] = 0) && (c.values.drop (i + 1)).all (fun e => decide (errE k e = 0)))) := by show _ = _; rw [List.drop_eq_getElem_cons hlt, List.all_cons]
       clear hcell hR
       generalize errE k c.values[i] = er at *
       go_wp2_with fail
       refine HC.out.mono ?_
       rintro x w2 ⟨rfl, hx2⟩
       by_cases h0 : er = 0
       ·subst h0
        go_wp2_with fail
        go_roundg (c.values.length - (i + 1))
        case measure => omega
        case rel => exact ⟨i + 1, by simp, by omega, (HDR.out.symm.trans HA.out), HE.out.trans hx2⟩
       ·have h0' : (er != 0) = true := by simpa using h0
        have HF : Hid (c.values.all (fun e => decide (errE k e = 0)) = false) := by show _ = _; rw [← HA.out, HDR.out]; simp [h0]
        clear h0
        go_wp2_with fail
        refine bodyPost_ret (v := .bool false) ?_ rfl ⟨?_, hEr.trans hx2⟩
        ·simp [results, Tryz.results57, go_sem]
        ·rw [HV.out, HF.out]; simp
     ·have HT : Hid (c.values.all (fun e => decide (errE k e = 0)) = true) := by show _ = _; rw [← HA.out, List.drop_eq_nil_of_le (by omega)]; rfl
      have HV2 : Hid (validC k c np nc = (sideOK rs c.side && tailC c)) := by show _ = _; rw [HV.out, HT.out]; simp
      clear HV HT HVS HS HA
      go_upto_region 9 with fail
      go_cut [93] (fun x wx => x = .bool (!sideOK rs c.side) ∧ wr = wx)
      case first =>
       cases rs with
       | true =>
        by_cases s1 : c.side = 1
        ·have s1' : (c.side != 1) = false := by simp [s1]
         have HSD : Hid (sideOK true c.side = true) := by show _ = _; simp [sideOK, s1]
         clear s1
         go_wp2_with fail
         go_meet
         exact ⟨by rw [HSD.out]; rfl, rfl⟩
        ·have s1' : (c.side != 1) = true := by simpa using s1
         by_cases s2 : c.side = -1
         ·have s2' : (c.side != -1) = false := by simp [s2]
          have HSD : Hid (sideOK true c.side = true) := by show _ = _; simp [sideOK, s2]
          clear s1 s2
          go_wp2_with fail
          go_meet
          exact ⟨by rw [HSD.out]; rfl, rfl⟩
         ·have s2' : (c.side != -1) = true := by simpa using s2
          have HSD : Hid (sideOK true c.side = false) := by show _ = _; simp [sideOK, s1, s2]
          clear s1 s2
          go_wp2_with fail
          go_meet
          exact ⟨by rw [HSD.out]; rfl, rfl⟩
       | false =>
        by_cases s1 : c.side = 0
        ·have s1' : (c.side != 0) = false := by simp [s1]
         have HSD : Hid (sideOK false c.side = true) := by show _ = _; simp [sideOK, s1]
         clear s1
         go_wp2_with fail
         go_meet
         exact ⟨by rw [HSD.out]; rfl, rfl⟩
        ·have s1' : (c.side != 0) = true := by simpa using s1
         have HSD : Hid (sideOK false c.side = false) := by show _ = _; simp [sideOK, s1]
         clear s1
         go_wp2_with fail
         go_meet
         exact ⟨by rw [HSD.out]; rfl, rfl⟩
      case rest =>
       obtain ⟨rfl, rfl⟩ := hcut
       generalize sideOK rs c.side = so at *
       cases so with
       | false =>
        go_wp2_with fail
        refine bodyPost_ret (v := .bool false) ?_ rfl ⟨by rw [HV2.out]; rfl, hEr⟩
        simp [results, Tryz.results57, go_sem]
       | true =>
        have HTC : Hid (validC k c np nc = (if isPair kind then pairsL c.points else decide c.points.Nodup && decide c.circles.Nodup)) := HV2.out.trans ((Bool.true_and _).trans HTL.out)
        clear HV2 HTL z0 z1 z2 z3 z4 z5 z6
        cases hip : isPair kind with
        | false =>
         have HV3 : Hid (validC k c np nc = (decide c.points.Nodup && decide c.circles.Nodup)) := by show _ = _; rw [HTC.out, hip]; rfl
         obtain ⟨k4, k5, k6, k7⟩ : (kind == 5) = false ∧ (kind == 6) = false ∧ (kind == 7) = false ∧ (kind == 8) = false := by
          rw [HIP.out] at hip
          simp only [decide_eq_false_iff_not] at hip
          simp only [beq_eq_false_iff_ne, ne_eq]; omega
         clear hip HTC HPL HIP
         generalize decide c.points.Nodup = nd1 at *
         generalize decide c.circles.Nodup = nd2 at *
         go_wp2_with fail
         refine (HD1.out _ hEr).mono ?_
         rintro x w3 ⟨rfl, hx3⟩
         have hE3 := hEr.trans hx3
         cases nd1 with
         | false =>
          go_wp2_with fail
          refine bodyPost_ret (v := .bool false) ?_ rfl ⟨by rw [HV3.out]; rfl, hE3⟩
          simp [results, Tryz.results57, go_sem]
         | true =>
          obtain ⟨y0, y1, y2, y3, y4⟩ := (HBXW.out.ext (Ext.trans HE.out hx3)).five
          go_wp2_with fail
          refine (HD2.out _ hE3).mono ?_
          rintro x w4 ⟨rfl, hx4⟩
          go_wp2_with fail
          refine bodyPost_ret (v := .bool nd2) ?_ rfl ⟨by rw [HV3.out]; rfl, hE3.trans hx4⟩
          simp [results, Tryz.results57, go_sem]
        | true => exact absurd (hip.symm.trans HKD.out) (by simp)
end Go.Proofs.YtonleohlplkglaaGreatDoor
namespace Go.Proofs.YtonleohlplkglaaGreatDoor
open Go Go.RowKit
structure PtI where
 x : QI
 y : QI
structure RdI where
 center : Int
 radius : QI
structure SgI where
 a : Int
 b : Int
structure ArI where
 circle : Int
 a : Int
 b : Int
 cw : Bool
structure PcI where
 arc : Bool
 index : Int
 back : Bool
/-- A sketch, whatever its fields are. -/
structure SkI where
 points : List PtI
 circles : List RdI
 segs : List SgI
 arcs : List ArI
 chains : List (List PcI)
 cons : List CI
def PtR (w : World) (cs : List Value) (p : PtI) : Prop := ∃ u v u' v', cs = [.bool p.x.num.neg, u, .bool p.x.den.neg, v, .bool p.y.num.neg, u', .bool p.y.den.neg, v'] ∧ Words w u p.x.num.mag ∧ Words w v p.x.den.mag ∧ Words w u' p.y.num.mag ∧ Words w v' p.y.den.mag
theorem PtR.stable : Stable PtR := fun w w' cs p hx => by
 rintro ⟨u, v, u', v', h, h1, h2, h3, h4⟩
 exact ⟨u, v, u', v', h, h1.ext hx, h2.ext hx, h3.ext hx, h4.ext hx⟩
def RdR (w : World) (cs : List Value) (p : RdI) : Prop := ∃ u v, cs = [.int .i64 p.center, .bool p.radius.num.neg, u, .bool p.radius.den.neg, v] ∧ Words w u p.radius.num.mag ∧ Words w v p.radius.den.mag
theorem RdR.stable : Stable RdR := fun w w' cs p hx => by
 rintro ⟨u, v, h, h1, h2⟩
 exact ⟨u, v, h, h1.ext hx, h2.ext hx⟩
def SgR (_ : World) (cs : List Value) (p : SgI) : Prop := cs = [.int .i64 p.a, .int .i64 p.b]
theorem SgR.stable : Stable SgR := fun _ _ _ _ _ h => h
def ArR (_ : World) (cs : List Value) (p : ArI) : Prop := cs = [.int .i64 p.circle, .int .i64 p.a, .int .i64 p.b, .bool p.cw]
theorem ArR.stable : Stable ArR := fun _ _ _ _ _ h => h
def PcR (_ : World) (cs : List Value) (p : PcI) : Prop := cs = [.bool p.arc, .int .i64 p.index, .bool p.back]
theorem PcR.stable : Stable PcR := fun _ _ _ _ _ h => h
def ChR (w : World) (cs : List Value) (c : List PcI) : Prop := ∃ v, cs = [v] ∧ ArrAt 3 PcR w v c
theorem ChR.stable : Stable ChR := fun w w' cs p hx => by
 rintro ⟨v, h, h1⟩
 exact ⟨v, h, h1.ext PcR.stable hx⟩
/-- A sketch's six slices. -/
structure SkAt (K : Nat) (w : World) (v0 v1 v2 v3 v4 v5 : Value) (s : SkI) : Prop where
 points : ArrAt 8 PtR w v0 s.points
 circles : ArrAt 5 RdR w v1 s.circles
 segs : ArrAt 2 SgR w v2 s.segs
 arcs : ArrAt 4 ArR w v3 s.arcs
 chains : ArrAt 1 ChR w v4 s.chains
 cons : ArrAt 5 (ConR K) w v5 s.cons
theorem SkAt.ext {K : Nat} {w w' : World} {v0 v1 v2 v3 v4 v5 : Value} {s : SkI} (h : SkAt K w v0 v1 v2 v3 v4 v5 s) (hx : Ext w w') : SkAt K w' v0 v1 v2 v3 v4 v5 s :=
 ⟨h.points.ext PtR.stable hx, h.circles.ext RdR.stable hx, h.segs.ext SgR.stable hx, h.arcs.ext ArR.stable hx, h.chains.ext ChR.stable hx, h.cons.ext (ConR.stable K) hx⟩
theorem CellsAt.six {w : World} {g : Nat} {a b c d e f : Value} (k : CellsAt w g [a, b, c, d, e, f]) :
  w.cell? ⟨g, 0, none⟩ = some a ∧ w.cell? ⟨g, 1, none⟩ = some b ∧ w.cell? ⟨g, 2, none⟩ = some c ∧ w.cell? ⟨g, 3, none⟩ = some d ∧ w.cell? ⟨g, 4, none⟩ = some e ∧ w.cell? ⟨g, 5, none⟩ = some f :=
 ⟨k.2 0 _ rfl, k.2 1 _ rfl, k.2 2 _ rfl, k.2 3 _ rfl, k.2 4 _ rfl, k.2 5 _ rfl⟩
def hasL (n i : Int) : Bool := decide (0 ≤ i) && decide (i < n)
/-- A piece whose segment or arc exists. -/
def okPc (s : SkI) (p : PcI) : Bool := if p.arc then hasL s.arcs.length p.index else hasL s.segs.length p.index
def endsOf (s : SkI) (p : PcI) : Int × Int :=
 let ab : Int × Int := if p.arc then (match s.arcs[p.index.toNat]? with | some x => (x.a, x.b) | none => (0, 0)) else (match s.segs[p.index.toNat]? with | some x => (x.a, x.b) | none => (0, 0))
 if p.back then (ab.2, ab.1) else ab
/-- The pieces of a chain from one on; the end of the piece ahead. -/
def chainFrom (s : SkI) : Option Int → List PcI → Bool
 | _, [] => true
 | prev, p :: l => okPc s p && (match prev with | none => true | some e => decide (e = (endsOf s p).1)) && chainFrom s (some (endsOf s p).2) l
def chainL (s : SkI) (c : List PcI) : Bool := chainFrom s none c && decide (0 < c.length)
def manyL (s : SkI) : Bool := s.chains.any (fun c => decide (200 < c.length)) || decide (200 < s.points.length) || decide (200 < s.circles.length) || decide (200 < s.segs.length) || decide (200 < s.arcs.length) || decide (200 < s.chains.length) || decide (200 < s.cons.length)
theorem ref26_has (n i : Int) (w : World) : Calls Tryz.prog 54 #[.int .i64 n, .int .i64 i] w fun e w' => e = .returned (.bool (hasL n i)) ∧ w = w' := by
 by_cases h1 : 0 ≤ i
 ·have H : Hid (hasL n i = decide (i < n)) := by show _ = _; simp [hasL, h1]
  go_enter Tryz.func54, Tryz.ntmps54
  go_wp2_with fail
  refine bodyPost_ret ?_ rfl ⟨by rw [H.out], rfl⟩
  simp [results, Tryz.results54, go_sem]
 ·have H : Hid (hasL n i = false) := by show _ = _; simp [hasL, h1]
  go_enter Tryz.func54, Tryz.ntmps54
  go_wp2_with fail
  refine bodyPost_ret ?_ rfl ⟨by rw [H.out], rfl⟩
  simp [results, Tryz.results54, go_sem]
theorem sketch_has (n i : Int) (w : World) : Calls Tryz.prog 39 #[.int .i64 n, .int .i64 i] w fun e w' => e = .returned (.bool (hasL n i)) ∧ w = w' := by
 by_cases h1 : 0 ≤ i
 ·have H : Hid (hasL n i = decide (i < n)) := by show _ = _; simp [hasL, h1]
  go_enter Tryz.func39, Tryz.ntmps39
  go_wp2_with fail
  refine bodyPost_ret ?_ rfl ⟨by rw [H.out], rfl⟩
  simp [results, Tryz.results39, go_sem]
 ·have H : Hid (hasL n i = false) := by show _ = _; simp [hasL, h1]
  go_enter Tryz.func39, Tryz.ntmps39
  go_wp2_with fail
  refine bodyPost_ret ?_ rfl ⟨by rw [H.out], rfl⟩
  simp [results, Tryz.results39, go_sem]
theorem okPc_idx {s : SkI} {p : PcI} (h : okPc s p = true) : ∃ i : Nat, p.index = (i : Int) ∧ (p.arc = true → i < s.arcs.length) ∧ (p.arc = false → i < s.segs.length) := by
 unfold okPc hasL at h
 split at h
 ·next ha =>
  simp at h
  exact ⟨p.index.toNat, by omega, fun _ => by omega, fun h' => by rw [ha] at h'; cases h'⟩
 ·next ha =>
  simp at h
  exact ⟨p.index.toNat, by omega, fun h' => absurd h' ha, fun _ => by omega⟩
set_option maxHeartbeats 1600000 in
theorem ref26_Ends {K : Nat} {s : SkI} {p : PcI} {v0 v1 v2 v3 v4 v5 : Value} {w : World} (h : SkAt K w v0 v1 v2 v3 v4 v5 s) (hp : okPc s p = true) :
  Calls Tryz.prog 66 #[.agg #[v0, v1, v2, v3, v4, v5], .agg #[.bool p.arc, .int .i64 p.index, .bool p.back]] w fun e w' => e = .returned (.tuple #[.int .i64 (endsOf s p).1, .int .i64 (endsOf s p).2]) ∧ Ext w w' := by
 obtain ⟨i, hi, h1, h2⟩ := okPc_idx hp
 obtain ⟨arc, index, back⟩ := p
 dsimp only at hi h1 h2 ⊢
 subst hi
 have HSA := Lib.hid h.arcs
 have HSG := Lib.hid h.segs
 obtain ⟨A2, c2, rfl, hl2, hm2⟩ := h.segs.form
 obtain ⟨A3, c3, rfl, hl3, hm3⟩ := h.arcs.form
 clear h hp
 cases arc with
 | true =>
  have hlt := h1 rfl
  clear h1 h2
  obtain ⟨b, off, rfl, hb, ds, hds, hcell, hR⟩ := HSA.out.at_ hlt
  have HEQ : Hid (endsOf s ⟨true, (i : Int), back⟩ = if back then (s.arcs[i].b, s.arcs[i].a) else (s.arcs[i].a, s.arcs[i].b)) := by
   show _ = _
   simp [endsOf, List.getElem?_eq_getElem hlt]
  rw [hR] at hcell
  have q1 : w.cell? ⟨b, off + i * 4 + 1, none⟩ = some (.int .i64 s.arcs[i].a) := hcell 1 _ rfl
  have q2 : w.cell? ⟨b, off + i * 4 + 2, none⟩ = some (.int .i64 s.arcs[i].b) := hcell 2 _ rfl
  clear hcell hR HSA HSG hds
  generalize s.arcs[i].a = x at *
  generalize s.arcs[i].b = y at *
  generalize endsOf s ⟨true, (i : Int), back⟩ = ee at *
  cases back
  all_goals
   obtain rfl := HEQ.out
   clear HEQ
   go_enter Tryz.func66, Tryz.ntmps66
   go_wp2_with fail
   go_quiet (fail)
   go_wp2_with fail
   go_ret2
   exact ⟨rfl, (by repeat first|exact xA _|assumption|refine xB ?_ _|refine xC ?_|refine xD ?_ _|refine xE ?_ (by simp <;> omega) _|refine xF ?_ (by assumption))⟩
 | false =>
  have hlt := h2 rfl
  clear h1 h2
  obtain ⟨b, off, rfl, hb, ds, hds, hcell, hR⟩ := HSG.out.at_ hlt
  have HEQ : Hid (endsOf s ⟨false, (i : Int), back⟩ = if back then (s.segs[i].b, s.segs[i].a) else (s.segs[i].a, s.segs[i].b)) := by
   show _ = _
   simp [endsOf, List.getElem?_eq_getElem hlt]
  rw [hR] at hcell
  have q1 : w.cell? ⟨b, off + i * 2, none⟩ = some (.int .i64 s.segs[i].a) := hcell 0 _ rfl
  have q2 : w.cell? ⟨b, off + i * 2 + 1, none⟩ = some (.int .i64 s.segs[i].b) := hcell 1 _ rfl
  clear hcell hR HSA HSG hds
  generalize s.segs[i].a = x at *
  generalize s.segs[i].b = y at *
  generalize endsOf s ⟨false, (i : Int), back⟩ = ee at *
  cases back
  all_goals
   obtain rfl := HEQ.out
   clear HEQ
   go_enter Tryz.func66, Tryz.ntmps66
   go_wp2_with fail
   go_quiet (fail)
   go_wp2_with fail
   go_ret2
   exact ⟨rfl, (by repeat first|exact xA _|assumption|refine xB ?_ _|refine xC ?_|refine xD ?_ _|refine xE ?_ (by simp <;> omega) _|refine xF ?_ (by assumption))⟩
set_option maxHeartbeats 1600000 in
theorem sketch_ends {K : Nat} {s : SkI} {p : PcI} {v0 v1 v2 v3 v4 v5 : Value} {w : World} (h : SkAt K w v0 v1 v2 v3 v4 v5 s) (hp : okPc s p = true) :
  Calls Tryz.prog 65 #[.agg #[v0, v1, v2, v3, v4, v5], .agg #[.bool p.arc, .int .i64 p.index, .bool p.back]] w fun e w' => e = .returned (.tuple #[.int .i64 (endsOf s p).1, .int .i64 (endsOf s p).2]) ∧ Ext w w' := by
 obtain ⟨i, hi, h1, h2⟩ := okPc_idx hp
 obtain ⟨arc, index, back⟩ := p
 dsimp only at hi h1 h2 ⊢
 subst hi
 have HSA := Lib.hid h.arcs
 have HSG := Lib.hid h.segs
 obtain ⟨A2, c2, rfl, hl2, hm2⟩ := h.segs.form
 obtain ⟨A3, c3, rfl, hl3, hm3⟩ := h.arcs.form
 clear h hp
 cases arc with
 | true =>
  have hlt := h1 rfl
  clear h1 h2
  obtain ⟨b, off, rfl, hb, ds, hds, hcell, hR⟩ := HSA.out.at_ hlt
  have HEQ : Hid (endsOf s ⟨true, (i : Int), back⟩ = if back then (s.arcs[i].b, s.arcs[i].a) else (s.arcs[i].a, s.arcs[i].b)) := by
   show _ = _
   simp [endsOf, List.getElem?_eq_getElem hlt]
  rw [hR] at hcell
  have q1 : w.cell? ⟨b, off + i * 4 + 1, none⟩ = some (.int .i64 s.arcs[i].a) := hcell 1 _ rfl
  have q2 : w.cell? ⟨b, off + i * 4 + 2, none⟩ = some (.int .i64 s.arcs[i].b) := hcell 2 _ rfl
  clear hcell hR HSA HSG hds
  generalize s.arcs[i].a = x at *
  generalize s.arcs[i].b = y at *
  generalize endsOf s ⟨true, (i : Int), back⟩ = ee at *
  cases back
  all_goals
   obtain rfl := HEQ.out
   clear HEQ
   go_enter Tryz.func65, Tryz.ntmps65
   go_wp2_with fail
   go_quiet (fail)
   go_wp2_with fail
   go_ret2
   exact ⟨rfl, (by repeat first|exact xA _|assumption|refine xB ?_ _|refine xC ?_|refine xD ?_ _|refine xE ?_ (by simp <;> omega) _|refine xF ?_ (by assumption))⟩
 | false =>
  have hlt := h2 rfl
  clear h1 h2
  obtain ⟨b, off, rfl, hb, ds, hds, hcell, hR⟩ := HSG.out.at_ hlt
  have HEQ : Hid (endsOf s ⟨false, (i : Int), back⟩ = if back then (s.segs[i].b, s.segs[i].a) else (s.segs[i].a, s.segs[i].b)) := by
   show _ = _
   simp [endsOf, List.getElem?_eq_getElem hlt]
  rw [hR] at hcell
  have q1 : w.cell? ⟨b, off + i * 2, none⟩ = some (.int .i64 s.segs[i].a) := hcell 0 _ rfl
  have q2 : w.cell? ⟨b, off + i * 2 + 1, none⟩ = some (.int .i64 s.segs[i].b) := hcell 1 _ rfl
  clear hcell hR HSA HSG hds
  generalize s.segs[i].a = x at *
  generalize s.segs[i].b = y at *
  generalize endsOf s ⟨false, (i : Int), back⟩ = ee at *
  cases back
  all_goals
   obtain rfl := HEQ.out
   clear HEQ
   go_enter Tryz.func65, Tryz.ntmps65
   go_wp2_with fail
   go_quiet (fail)
   go_wp2_with fail
   go_ret2
   exact ⟨rfl, (by repeat first|exact xA _|assumption|refine xB ?_ _|refine xC ?_|refine xD ?_ _|refine xE ?_ (by simp <;> omega) _|refine xF ?_ (by assumption))⟩
end Go.Proofs.YtonleohlplkglaaGreatDoor
namespace Go.Proofs.YtonleohlplkglaaGreatDoor
open Go Go.RowKit
def AnySl (r : Value) (_ : World) : Prop := ∃ A n c, r = .slice A n c
theorem ownsRow_slice {w : World} {base e size n : Nat} {v : Value} {xs : List Value} (h : w.ownsRow base e size v n xs) : ∃ A c, v = .slice A n c := by
 rcases h.2 with ⟨h1, h2⟩ | ⟨g, cap, cur, h1, -⟩
 ·exact ⟨none, 0, by rw [h1, h2]⟩
 ·exact ⟨_, _, h1⟩
set_option maxRecDepth 100000 in
set_option maxHeartbeats 800000 in
theorem clone_u32 {A : Option Addr} {n c : Nat} {xs : List Nat} {w : World} (h : Words w (.slice A n c) xs) :
  Calls Tryz.prog 134 #[.slice A n c] w (Ret w AnySl) := by
 obtain ⟨rfl, hl, hm⟩ := h.len
 have qn : ∀ (w : World) (a : Option Addr) (n c n' c' : Nat), (binOp .eql 34 (.slice a n c) (.slice none n' c')).run Tryz.prog w = .ok (.bool a.isNone) w := fun w a n c n' c' => Lib.run_eql_slice_nil w _ _ a n c n' c' Tryz.underlying34
 cases A with
 | none =>
  go_enter Tryz.func134, Tryz.ntmps134
  go_wp2_with fail
  go_ret
  exact ⟨_, rfl, ⟨_, _, _, rfl⟩, (by repeat first|exact xA _|assumption|refine xB ?_ _|refine xC ?_|refine xD ?_ _|refine xE ?_ (by simp <;> omega) _|refine xF ?_ (by assumption))⟩
 | some a =>
  have hnews : ∀ j u, (wordVs xs)[j]? = some u → w.cell? (a.add j) = some u := by
   intro j u hj
   obtain ⟨hjl, hju⟩ := List.getElem?_eq_some_iff.1 hj
   simp [wordVs] at hjl
   obtain ⟨b, off, e1, hb, -, hcell⟩ := h.at_ hjl
   injection e1 with e1
   subst e1
   have := hcell j hjl
   rw [Addr.add_lit, this, ← hju]
   simp [wordVs, List.getElem?_eq_getElem hjl]
  have HN := Lib.hid hnews
  have hown : (w.alloc (.cells #[] 142)).ownsRow w.heap.size 142 1 (.slice (some ⟨w.heap.size, 0, none⟩) 0 0) 0 [] :=
   ⟨rfl, .inr ⟨w.heap.size, 0, #[], rfl, Nat.le_refl _, by rw [heap_alloc_new], Nat.le_refl _, Nat.zero_le _, rfl, rfl⟩⟩
  have HO := Lib.hid hown
  have HL := Lib.hid hm
  have HW : Hid ((wordVs xs).length = xs.length * 1) := by show _ = _; simp [wordVs]
  have HU : Hid (∀ u ∈ wordVs xs, u.oneCell' = true) := (by intro u hu; simp [wordVs] at hu; obtain ⟨x, _, rfl⟩ := hu; rfl)
  clear h hnews hown hm
  generalize wordVs xs = ws at *
  generalize xs.length = n at *
  obtain ⟨i0, hi, hz0, hz1, hz2⟩ := info_parts infoU32
  go_enter Tryz.func134, Tryz.ntmps134
  go_wp2_with (at_builtin; refine wpList_append_own _ rfl _ _ 34 rfl w.heap.size 142 i0 (.int .u32 0) 1 4 Tryz.underlying34 hi hz0 hz1 hz2 rfl (by decide) _ 0 [] rfl HO.out a n c ws rfl HW.out ?c1 ?c2 (by have := HL.out; unfold maxLen; omega) (by have := HL.out; omega) (by simp) ?_)
  case c1 =>
   intro j u hj
   exact Lib.cell?_alloc_some _ (HN.out j u hj)
  case c2 => exact HU.out
  intro v' w' h1 h2 _
  obtain ⟨A', c', rfl⟩ := ownsRow_slice h1
  go_wp2_with fail
  go_ret
  exact ⟨_, rfl, ⟨_, _, _, rfl⟩, (Below.refl _ _).alloc (Nat.le_refl _) _ |>.grown h2 (by simp) (fun k e => by cases e; simp)⟩
end Go.Proofs.YtonleohlplkglaaGreatDoor
namespace Go.Proofs.YtonleohlplkglaaGreatDoor
open Go Go.RowKit
def RatSl (a b : Bool) (r : Value) (_ : World) : Prop := ∃ A1 n1 c1 A2 n2 c2, r = .agg #[.bool a, .slice A1 n1 c1, .bool b, .slice A2 n2 c2]
theorem CellsAt.four {w : World} {g : Nat} {a b c d : Value} (k : CellsAt w g [a, b, c, d]) :
  w.cell? ⟨g, 0, none⟩ = some a ∧ w.cell? ⟨g, 1, none⟩ = some b ∧ w.cell? ⟨g, 2, none⟩ = some c ∧ w.cell? ⟨g, 3, none⟩ = some d :=
 ⟨k.2 0 _ rfl, k.2 1 _ rfl, k.2 2 _ rfl, k.2 3 _ rfl⟩
theorem cell_set_off {w : World} {g i j : Nat} {u : Value} (h : i ≠ j) : (w.setCell ⟨g, i, none⟩ u).cell? ⟨g, j, none⟩ = w.cell? ⟨g, j, none⟩ := by
 rw [World.cell?_setCell_other]
 intro e; injection e with _ e2 _; exact h e2
theorem cell_set_blk {w : World} {g g' i j : Nat} {u : Value} (h : g ≠ g') : (w.setCell ⟨g, i, none⟩ u).cell? ⟨g', j, none⟩ = w.cell? ⟨g', j, none⟩ := by
 rw [World.cell?_setCell_other]
 intro e; injection e with e1 _ _; exact h e1
theorem put13 {w w3 : World} {g g' : Nat} {x0 x1 x2 x3 u v : Value} {cs : List Value} (h : CellsAt w3 g [x0, x1, x2, x3]) (h' : CellsAt w3 g' cs) (hg : g ≠ g') (hf : ∀ j, w3.frozen? ⟨g', j, none⟩ = false) (hE : Ext w w3) (hle : w.heap.size ≤ g) :
  CellsAt ((w3.setCell ⟨g, 1, none⟩ u).setCell ⟨g, 3, none⟩ v) g [x0, u, x2, v] ∧ CellsAt ((w3.setCell ⟨g, 1, none⟩ u).setCell ⟨g, 3, none⟩ v) g' cs ∧ (∀ j, ((w3.setCell ⟨g, 1, none⟩ u).setCell ⟨g, 3, none⟩ v).frozen? ⟨g', j, none⟩ = false) ∧ Ext w ((w3.setCell ⟨g, 1, none⟩ u).setCell ⟨g, 3, none⟩ v) := by
 refine ⟨⟨by simpa [World.setCell] using h.1, fun i y hi => ?_⟩, ⟨by simpa [World.setCell] using h'.1, fun i y hi => ?_⟩, fun j => ?_, (hE.pset hle _).pset hle _⟩
 ·match i, hi with
  | 0, hi => (cases hi; rw [cell_set_off (by decide), cell_set_off (by decide)]; exact h.2 0 _ rfl)
  | 1, hi => (cases hi; rw [cell_set_off (by decide)]; exact World.cell?_setCell_same _ _ _ (h.2 1 _ rfl))
  | 2, hi => (cases hi; rw [cell_set_off (by decide), cell_set_off (by decide)]; exact h.2 2 _ rfl)
  | 3, hi => (cases hi; exact World.cell?_setCell_same _ _ _ ((cell_set_off (by decide)).trans (h.2 3 _ rfl)))
  | i + 4, hi => simp at hi
 ·rw [cell_set_blk hg, cell_set_blk hg]; exact h'.2 i y hi
 ·rw [World.frozen?_setCell, World.frozen?_setCell]; exact hf j
set_option maxRecDepth 100000 in
set_option maxHeartbeats 1600000 in
theorem num_copyRat {a b : Bool} {xs ys : List Nat} {v v' : Value} {w : World} (h : Words w v xs) (h' : Words w v' ys) :
  Calls Tryz.prog 128 #[.agg #[.bool a, v, .bool b, v']] w (Ret w (RatSl a b)) := by
 obtain ⟨A, c, rfl, hl, hm⟩ := h.form
 obtain ⟨A', c', rfl, hl', hm'⟩ := h'.form
 have HC1 := Lib.hid (fun w1 (hx : Ext w w1) => clone_u32 (h.ext hx))
 have HC2 := Lib.hid (fun w1 (hx : Ext w w1) => clone_u32 (h'.ext hx))
 clear h h'
 generalize xs.length = n at *
 generalize ys.length = n' at *
 obtain ⟨W0, hW0⟩ : ∃ W0, ((w.alloc (.cells #[.bool a, .slice A n c, .bool b, .slice A' n' c'] 38)).alloc (.cells #[.bool false, .slice none 0 0, .bool false, .slice none 0 0] 38)) = W0 := ⟨_, rfl⟩
 have HB0 : Hid (CellsAt W0 w.heap.size [.bool a, .slice A n c, .bool b, .slice A' n' c']) := by rw [← hW0]; exact (CellsAt.new w _ _).ext (Ext.alloc _ _)
 have HR0 : Hid (CellsAt W0 (w.heap.size + 1) [.bool false, .slice none 0 0, .bool false, .slice none 0 0]) := by
  rw [← hW0]; have := CellsAt.new (w.alloc (.cells #[.bool a, .slice A n c, .bool b, .slice A' n' c'] 38)) [.bool false, .slice none 0 0, .bool false, .slice none 0 0] 38
  rwa [World.size_alloc] at this
 have hf0 : ∀ j, W0.frozen? ⟨w.heap.size, j, none⟩ = false ∧ W0.frozen? ⟨w.heap.size + 1, j, none⟩ = false := fun j => by rw [← hW0]; simp [go_sem]
 have HF0 : Hid (∀ W j, Ext W0 W → W.frozen? ⟨w.heap.size, j, none⟩ = false ∧ W.frozen? ⟨w.heap.size + 1, j, none⟩ = false) := fun W j hx => ⟨(Below.frozen hx HB0.out.1).trans (hf0 j).1, (Below.frozen hx HR0.out.1).trans (hf0 j).2⟩
 have HE0 : Hid (Ext w W0) := by rw [← hW0]; exact (by repeat first|exact xA _|assumption|refine xB ?_ _|refine xC ?_|refine xD ?_ _|refine xE ?_ (by simp <;> omega) _|refine xF ?_ (by assumption))
 have HW0 := Lib.hid hW0
 clear hW0 hf0
 go_enter Tryz.func128, Tryz.ntmps128
 go_upto_region 1 with fail
 rw [HW0.out]
 obtain ⟨y0, y1, y2, y3⟩ := HB0.out.four
 have hE0 := HE0.out
 go_cut [3] (fun _ wx => ∃ A1 n1 c1 A2 n2 c2, Hid (CellsAt wx w.heap.size [.bool a, .slice A1 n1 c1, .bool b, .slice A2 n2 c2] ∧ CellsAt wx (w.heap.size + 1) [.bool false, .slice none 0 0, .bool false, .slice none 0 0] ∧ (∀ j, wx.frozen? ⟨w.heap.size + 1, j, none⟩ = false) ∧ Ext w wx))
 case first =>
  go_region_with (first
   | (go_at_call_of 134 (Value.slice A n c); refine (HC1.out _ (by repeat first|exact xA _|assumption|refine xB ?_ _|refine xC ?_|refine xD ?_ _|refine xE ?_ (by simp <;> omega) _|refine xF ?_ (by assumption))).mono ?_; rintro e w2 ⟨r2, rfl, ⟨X1, m1, k1, rfl⟩, hx2⟩; obtain ⟨p0, p1, p2, p3⟩ := (HB0.out.ext (w' := w2) (by repeat first|exact xA _|assumption|refine xB ?_ _|refine xC ?_|refine xD ?_ _|refine xE ?_ (by simp <;> omega) _|refine xF ?_ (by assumption))).four; have g1 := (HF0.out w2 1 (by repeat first|exact xA _|assumption|refine xB ?_ _|refine xC ?_|refine xD ?_ _|refine xE ?_ (by simp <;> omega) _|refine xF ?_ (by assumption))).1; have g3 := (HF0.out w2 3 (by repeat first|exact xA _|assumption|refine xB ?_ _|refine xC ?_|refine xD ?_ _|refine xE ?_ (by simp <;> omega) _|refine xF ?_ (by assumption))).1)
   | (go_at_call_of 134 (Value.slice A' n' c'); refine (HC2.out _ (by repeat first|exact xA _|assumption|refine xB ?_ _|refine xC ?_|refine xD ?_ _|refine xE ?_ (by simp <;> omega) _|refine xF ?_ (by assumption))).mono ?_; rintro e w3 ⟨r3, rfl, ⟨X2, m2, k2, rfl⟩, hx3⟩; obtain ⟨p0', p1', p2', p3'⟩ := (HB0.out.ext (w' := w3) (by repeat first|exact xA _|assumption|refine xB ?_ _|refine xC ?_|refine xD ?_ _|refine xE ?_ (by simp <;> omega) _|refine xF ?_ (by assumption))).four; have g1' := (HF0.out w3 1 (by repeat first|exact xA _|assumption|refine xB ?_ _|refine xC ?_|refine xD ?_ _|refine xE ?_ (by simp <;> omega) _|refine xF ?_ (by assumption))).1; have g3' := (HF0.out w3 3 (by repeat first|exact xA _|assumption|refine xB ?_ _|refine xC ?_|refine xD ?_ _|refine xE ?_ (by simp <;> omega) _|refine xF ?_ (by assumption))).1))
  all_goals
   go_wp2_with fail
   go_meet
   exact ⟨X1, m1, k1, X2, m2, k2, put13 (HB0.out.ext (w' := w3) (by repeat first|exact xA _|assumption|refine xB ?_ _|refine xC ?_|refine xD ?_ _|refine xE ?_ (by simp <;> omega) _|refine xF ?_ (by assumption))) (HR0.out.ext (w' := w3) (by repeat first|exact xA _|assumption|refine xB ?_ _|refine xC ?_|refine xD ?_ _|refine xE ?_ (by simp <;> omega) _|refine xF ?_ (by assumption))) (by omega) (fun j => (HF0.out w3 j (by repeat first|exact xA _|assumption|refine xB ?_ _|refine xC ?_|refine xD ?_ _|refine xE ?_ (by simp <;> omega) _|refine xF ?_ (by assumption))).2) (by repeat first|exact xA _|assumption|refine xB ?_ _|refine xC ?_|refine xD ?_ _|refine xE ?_ (by simp <;> omega) _|refine xF ?_ (by assumption)) (Nat.le_refl _)⟩
 case rest =>
  obtain ⟨A1, n1, c1, A2, n2, c2, HX⟩ := hcut
  obtain ⟨y0, y1, y2, y3⟩ := HX.out.1.four
  obtain ⟨z0, z1, z2, z3⟩ := HX.out.2.1.four
  have f0 := HX.out.2.2.1 0
  have f1 := HX.out.2.2.1 1
  have f2 := HX.out.2.2.1 2
  have f3 := HX.out.2.2.1 3
  have hE := HX.out.2.2.2
  go_wp2_with fail
  refine bodyPost_ret (v := .agg #[.bool a, .slice A1 n1 c1, .bool b, .slice A2 n2 c2]) ?_ rfl ⟨_, rfl, ⟨_, _, _, _, _, _, rfl⟩, ?_⟩
  ·simp [results, Tryz.results128, go_sem, z0, z1, z2, z3]
  ·exact (((hE.pset (by simp) _).pset (by simp) _).pset (by simp) _).pset (by simp) _
end Go.Proofs.YtonleohlplkglaaGreatDoor
namespace Go.Proofs.YtonleohlplkglaaGreatDoor
open Go Go.RowKit
def NumSl (r : Value) (_ : World) : Prop := ∃ A n c, r = .agg #[.slice none 0 0, .slice A n c]
set_option maxRecDepth 100000 in
set_option maxHeartbeats 1600000 in
theorem num_FromRat {a b : Bool} {xs ys : List Nat} {v v' : Value} {w : World} (h : Words w v xs) (h' : Words w v' ys) :
  Calls Tryz.prog 75 #[.agg #[.bool a, v, .bool b, v']] w (Ret w NumSl) := by
 obtain ⟨A, c, rfl, hl, hm⟩ := h.form
 obtain ⟨A', c', rfl, hl', hm'⟩ := h'.form
 have HC := Lib.hid (fun w1 (hx : Ext w w1) => num_copyRat (a := a) (b := b) (h.ext hx) (h'.ext hx))
 clear h h'
 generalize xs.length = n at *
 generalize ys.length = n' at *
 go_enter Tryz.func75, Tryz.ntmps75
 go_wp2_with fail
 refine (HC.out _ (by repeat first|exact xA _|assumption|refine xB ?_ _|refine xC ?_|refine xD ?_ _|refine xE ?_ (by simp <;> omega) _|refine xF ?_ (by assumption))).mono ?_
 rintro e w1 ⟨r, rfl, ⟨A1, n1, c1, A2, n2, c2, rfl⟩, hx1⟩
 obtain ⟨hc, hf⟩ := bcell hx1
 have hz : w.heap.size + 1 < w1.heap.size := by have := hx1.size; simp at this; omega
 have hE : Ext w w1 := (by repeat first|exact xA _|assumption|refine xB ?_ _|refine xC ?_|refine xD ?_ _|refine xE ?_ (by simp <;> omega) _|refine xF ?_ (by assumption))
 go_wp2_with fail
 refine bodyPost_ret (v := .agg #[.slice none 0 0, .slice (some ⟨w1.heap.size, 0, none⟩) 1 1]) ?_ rfl ⟨_, rfl, ⟨_, _, _, rfl⟩, ?_⟩
 ·simp [results, Tryz.results75, go_sem, hc, hz]
 ·repeat (first | with_reducible exact hE | refine Ext.palloc ?_ _ | refine Ext.pset ?_ (by simp) _)
end Go.Proofs.YtonleohlplkglaaGreatDoor
namespace Go.Proofs.YtonleohlplkglaaGreatDoor
open Go Go.RowKit
theorem infoNum : (Tryz.prog.info? 105).map (fun i => (i.zero, i.size, i.bytes)) = some (some (.agg #[.slice none 0 0, .slice none 0 0]), 2, 48) := by kernel_rfl
theorem ownsRow_ext {w w' : World} {base e size n : Nat} {v : Value} {xs : List Value} (h : w.ownsRow base e size v n xs) (hx : Ext w w') : w'.ownsRow base e size v n xs := by
 refine ⟨h.1, ?_⟩
 rcases h.2 with h1 | ⟨g, cap, cur, h1, h2, h3, h4⟩
 ·exact .inl h1
 ·have hlt : g < w.heap.size := by
   rcases Nat.lt_or_ge g w.heap.size with hlt | hge
   ·exact hlt
   ·rw [Array.getElem?_eq_none hge] at h3; cases h3
  exact .inr ⟨g, cap, cur, h1, h2, (hx.block g hlt).trans h3, h4⟩
theorem ownsRow_block {w : World} {base e size n : Nat} {v : Value} {xs : List Value} (h : w.ownsRow base e size v n xs) : ∀ r, v.ownBlock = some r → base ≤ r := by
 intro r hr
 rcases h.2 with ⟨h1, _⟩ | ⟨g, cap, cur, h1, h2, _⟩
 ·rw [h1] at hr; cases hr
 ·rw [h1] at hr; cases hr; exact h2
theorem news_new (w : World) (cs : List Value) (T : TypeId) : ∀ j u, cs[j]? = some u → (w.alloc (.cells cs.toArray T)).cell? (Addr.add ⟨w.heap.size, 0, none⟩ j) = some u := by
 intro j u hj
 rw [Addr.add_lit, Nat.zero_add]
 exact (CellsAt.new w cs T).2 j u hj
theorem ext_grown {w1 X w4 : World} {row : Option Nat} (hg : X.grownBy w4 row) (h : Ext w1 X) (hr : ∀ r, row = some r → w1.heap.size ≤ r) : Ext w1 w4 := Below.grown h hg h.size hr
set_option maxRecDepth 100000 in
set_option maxHeartbeats 3200000 in
theorem sketch_Drawn {K : Nat} {s : SkI} {v0 v1 v2 v3 v4 v5 : Value} {w : World} (h : SkAt K w v0 v1 v2 v3 v4 v5 s) (hp : s.points.length ≤ 1000) (hc : s.circles.length ≤ 1000) :
  Calls Tryz.prog 30 #[.agg #[v0, v1, v2, v3, v4, v5]] w (Ret w fun r _ => ∃ A c, r = .slice A (2 * s.points.length + s.circles.length) c) := by
 obtain ⟨A0, c0, rfl, hl0, hm0⟩ := h.points.form
 obtain ⟨A1, c1, rfl, hl1, hm1⟩ := h.circles.form
 have HPT := Lib.hid h.points
 have HCI := Lib.hid h.circles
 have HBX := Lib.hid (CellsAt.new w [.slice A0 s.points.length c0, .slice A1 s.circles.length c1, v2, v3, v4, v5] 29)
 obtain ⟨w1, hw1⟩ : ∃ w1, w.alloc (.cells #[.slice A0 s.points.length c0, .slice A1 s.circles.length c1, v2, v3, v4, v5] 29) = w1 := ⟨_, rfl⟩
 have HE1 : Hid (Ext w w1) := by rw [← hw1]; exact Ext.alloc _ _
 have HB1 : Hid (CellsAt w1 w.heap.size [.slice A0 s.points.length c0, .slice A1 s.circles.length c1, v2, v3, v4, v5]) := by rw [← hw1]; exact HBX.out
 have HW1 := Lib.hid hw1
 clear hw1 HBX h
 obtain ⟨i0, hi, hz0, hz1, hz2⟩ := info_parts infoNum
 have hE1 := HE1.out
 obtain ⟨y0, y1, y2, y3, y4, y5⟩ := HB1.out.six
 go_enter Tryz.func30, Tryz.ntmps30
 go_upto_region 1 with fail
 rw [HW1.out]
 go_wp2_with fail
 clear y0 y1 y2 y3 y4 y5
 go_loopg [3, 11] s.points.length (fun gk v x wr => ∃ (k : Nat) (xs : List Value) (A : Option Addr) (c : Nat), v = .slice A (2 * k) c ∧ x = .int .i64 (k : Int) ∧ k + gk = s.points.length ∧ Hid (wr.ownsRow w1.heap.size 105 2 (.slice A (2 * k) c) (2 * k) xs) ∧ Hid (Ext w1 wr))
 case atStart => exact ⟨0, [], none, 0, rfl, rfl, by omega, World.ownsRow_nil _ _ _ _, Ext.refl _⟩
 case round =>
  obtain ⟨k, xs, A, c, rfl, rfl, hk, HO, HE⟩ := hrel
  have HB2 := Lib.hid (HB1.out.ext HE.out)
  obtain ⟨y0, y1, y2, y3, y4, y5⟩ := HB2.out.six
  have hE0 := HE.out
  have hEr : Ext w wr := Ext.trans hE1 HE.out
  by_cases hlt : k < s.points.length
  ·obtain ⟨b, off, rfl, hb, ds, hds, hcell, u, v, u', v', rfl, hu, hv, hu', hv'⟩ := HPT.out.at_ hlt
   have q0 : wr.cell? ⟨b, off + k * 8, none⟩ = _ := (hEr.cell (p := ⟨b, off + (k * 8 + 0), none⟩) hb).trans (hcell 0 _ rfl)
   have q1 : wr.cell? ⟨b, off + k * 8 + 1, none⟩ = _ := (hEr.cell (p := ⟨b, off + (k * 8 + 1), none⟩) hb).trans (hcell 1 _ rfl)
   have q2 : wr.cell? ⟨b, off + k * 8 + 2, none⟩ = _ := (hEr.cell (p := ⟨b, off + (k * 8 + 2), none⟩) hb).trans (hcell 2 _ rfl)
   have q3 : wr.cell? ⟨b, off + k * 8 + 3, none⟩ = _ := (hEr.cell (p := ⟨b, off + (k * 8 + 3), none⟩) hb).trans (hcell 3 _ rfl)
   have q4 : wr.cell? ⟨b, off + k * 8 + 4, none⟩ = _ := (hEr.cell (p := ⟨b, off + (k * 8 + 4), none⟩) hb).trans (hcell 4 _ rfl)
   have q5 : wr.cell? ⟨b, off + k * 8 + 5, none⟩ = _ := (hEr.cell (p := ⟨b, off + (k * 8 + 5), none⟩) hb).trans (hcell 5 _ rfl)
   have q6 : wr.cell? ⟨b, off + k * 8 + 6, none⟩ = _ := (hEr.cell (p := ⟨b, off + (k * 8 + 6), none⟩) hb).trans (hcell 6 _ rfl)
   have q7 : wr.cell? ⟨b, off + k * 8 + 7, none⟩ = _ := (hEr.cell (p := ⟨b, off + (k * 8 + 7), none⟩) hb).trans (hcell 7 _ rfl)
   obtain ⟨D1, d1, rfl, hd1, hd1'⟩ := hu.form
   obtain ⟨D2, d2, rfl, hd2, hd2'⟩ := hv.form
   obtain ⟨D3, d3, rfl, hd3, hd3'⟩ := hu'.form
   obtain ⟨D4, d4, rfl, hd4, hd4'⟩ := hv'.form
   have HV1 := Lib.hid (fun w2 (hx : Ext w w2) => num_FromRat (a := s.points[k].x.num.neg) (b := s.points[k].x.den.neg) (hu.ext hx) (hv.ext hx))
   have HV2 := Lib.hid (fun w2 (hx : Ext w w2) => num_FromRat (a := s.points[k].y.num.neg) (b := s.points[k].y.den.neg) (hu'.ext hx) (hv'.ext hx))
   clear hu hv hu' hv' hcell hds
   generalize s.points[k].x.num.neg = n1 at *
   generalize s.points[k].x.den.neg = n2 at *
   generalize s.points[k].y.num.neg = n3 at *
   generalize s.points[k].y.den.neg = n4 at *
   generalize s.points[k].x.num.mag.length = l1 at *
   generalize s.points[k].x.den.mag.length = l2 at *
   generalize s.points[k].y.num.mag.length = l3 at *
   generalize s.points[k].y.den.mag.length = l4 at *
   have hz3 : b < wr.heap.size := Nat.lt_of_lt_of_le hb hEr.size
   go_upto_region 5 with fail
   obtain ⟨W0, hW0⟩ : ∃ W0, wr.alloc (.cells #[.bool n1, .slice D1 l1 d1, .bool n2, .slice D2 l2 d2, .bool n3, .slice D3 l3 d3, .bool n4, .slice D4 l4 d4] 40) = W0 := ⟨_, rfl⟩
   have HP0 : Hid (CellsAt W0 wr.heap.size [.bool n1, .slice D1 l1 d1, .bool n2, .slice D2 l2 d2, .bool n3, .slice D3 l3 d3, .bool n4, .slice D4 l4 d4]) := by rw [← hW0]; exact CellsAt.new _ _ _
   have hEx : Ext wr W0 := by rw [← hW0]; exact Ext.alloc _ _
   have HO0 := Lib.hid (ownsRow_ext HO.out hEx)
   rw [hW0]
   have HX0 : Hid (Ext w1 W0) := hE0.trans hEx
   have HXw : Hid (Ext w W0) := hEr.trans hEx
   have hXw := HXw.out
   clear hW0 y0 y1 y2 y3 y4 y5 q0 q1 q2 q3 q4 q5 q6 q7 hE0 hEr hEx HO
   have p0 := HP0.out.2 0 _ rfl
   have p1 := HP0.out.2 1 _ rfl
   have p2 := HP0.out.2 2 _ rfl
   have p3 := HP0.out.2 3 _ rfl
   have p4 := HP0.out.2 4 _ rfl
   have p5 := HP0.out.2 5 _ rfl
   have p6 := HP0.out.2 6 _ rfl
   have p7 := HP0.out.2 7 _ rfl
   go_region_law (first
    | (refine step_append_lies _ (by rfl) _ _ 62 (by rfl) w1.heap.size 105 i0 (.agg #[.slice none 0 0, .slice none 0 0]) 2 48 Tryz.underlying62 hi hz0 hz1 hz2 (by rfl) (by decide) _ (2 * k) xs (by rfl) (ownsRow_ext HO0.out (by repeat first|exact xA _|assumption|refine xB ?_ _|refine xC ?_|refine xD ?_ _|refine xE ?_ (by simp <;> omega) _|refine xF ?_ (by assumption))) _ 2 2 _ (by rfl) (by rfl) (news_new _ _ _) (by simp [Value.oneCell']) (by omega) (by unfold maxLen; omega) (by omega) (by have h1 := HX0.out.size; have h2 := hx2.size; have h3 := hx3.size; simp at h1 h2 h3 ⊢; omega) _ (by rfl) ?_; intro g cap w4 hown4 hgrow hat hlt4)
    | (go_simp; go_at_call_of 75 (Value.slice D1 l1 d1); refine (HV1.out _ (by repeat first|exact xA _|assumption|refine xB ?_ _|refine xC ?_|refine xD ?_ _|refine xE ?_ (by simp <;> omega) _|refine xF ?_ (by assumption))).mono ?_; rintro e w2 ⟨r2, rfl, ⟨X1, m1, k1, rfl⟩, hx2⟩; have p4 := ((HP0.out.ext (w' := w2) (by repeat first|exact xA _|assumption|refine xB ?_ _|refine xC ?_|refine xD ?_ _|refine xE ?_ (by simp <;> omega) _|refine xF ?_ (by assumption)))).2 4 _ rfl; have p5 := ((HP0.out.ext (w' := w2) (by repeat first|exact xA _|assumption|refine xB ?_ _|refine xC ?_|refine xD ?_ _|refine xE ?_ (by simp <;> omega) _|refine xF ?_ (by assumption)))).2 5 _ rfl; have p6 := ((HP0.out.ext (w' := w2) (by repeat first|exact xA _|assumption|refine xB ?_ _|refine xC ?_|refine xD ?_ _|refine xE ?_ (by simp <;> omega) _|refine xF ?_ (by assumption)))).2 6 _ rfl; have p7 := ((HP0.out.ext (w' := w2) (by repeat first|exact xA _|assumption|refine xB ?_ _|refine xC ?_|refine xD ?_ _|refine xE ?_ (by simp <;> omega) _|refine xF ?_ (by assumption)))).2 7 _ rfl)
    | (go_simp; go_at_call_of 75 (Value.slice D3 l3 d3); refine (HV2.out _ (by repeat first|exact xA _|assumption|refine xB ?_ _|refine xC ?_|refine xD ?_ _|refine xE ?_ (by simp <;> omega) _|refine xF ?_ (by assumption))).mono ?_; rintro e w3 ⟨r3, rfl, ⟨X2, m2, k2, rfl⟩, hx3⟩))
   all_goals
    have hX0 := HX0.out
    go_wp2_with fail
    go_roundg (s.points.length - (k + 1))
    case measure => omega
    case rel => exact ⟨k + 1, _, _, _, rfl, by simp, by omega, hown4, ext_grown hgrow (by repeat first|exact xA _|assumption|refine xB ?_ _|refine xC ?_|refine xD ?_ _|refine xE ?_ (by simp <;> omega) _|refine xF ?_ (by assumption)) (ownsRow_block HO0.out)⟩
  ·obtain rfl : k = s.points.length := by omega
   clear HPT
   go_wp2_with fail
   clear y0 y1 y2 y3 y4 y5
   go_loopg [3, 28] s.circles.length (fun gk v x wr => ∃ (j : Nat) (xs : List Value) (A : Option Addr) (c : Nat), v = .slice A (2 * s.points.length + j) c ∧ x = .int .i64 (j : Int) ∧ j + gk = s.circles.length ∧ Hid (wr.ownsRow w1.heap.size 105 2 (.slice A (2 * s.points.length + j) c) (2 * s.points.length + j) xs) ∧ Hid (Ext w1 wr))
   case atStart => exact ⟨0, _, _, _, rfl, rfl, by omega, HO, HE⟩
   case round =>
    clear HE HO hE0 hEr
    obtain ⟨k, xs, A, c, rfl, rfl, hk, HO, HE⟩ := hrel
    have HB2 := Lib.hid (HB1.out.ext HE.out)
    obtain ⟨y0, y1, y2, y3, y4, y5⟩ := HB2.out.six
    have hE0 := HE.out
    have hEr : Ext w wr := Ext.trans hE1 HE.out
    by_cases hlt : k < s.circles.length
    ·obtain ⟨b, off, rfl, hb, ds, hds, hcell, u, v, rfl, hu, hv⟩ := HCI.out.at_ hlt
     have q0 : wr.cell? ⟨b, off + k * 5, none⟩ = _ := (hEr.cell (p := ⟨b, off + (k * 5 + 0), none⟩) hb).trans (hcell 0 _ rfl)
     have q1 : wr.cell? ⟨b, off + k * 5 + 1, none⟩ = _ := (hEr.cell (p := ⟨b, off + (k * 5 + 1), none⟩) hb).trans (hcell 1 _ rfl)
     have q2 : wr.cell? ⟨b, off + k * 5 + 2, none⟩ = _ := (hEr.cell (p := ⟨b, off + (k * 5 + 2), none⟩) hb).trans (hcell 2 _ rfl)
     have q3 : wr.cell? ⟨b, off + k * 5 + 3, none⟩ = _ := (hEr.cell (p := ⟨b, off + (k * 5 + 3), none⟩) hb).trans (hcell 3 _ rfl)
     have q4 : wr.cell? ⟨b, off + k * 5 + 4, none⟩ = _ := (hEr.cell (p := ⟨b, off + (k * 5 + 4), none⟩) hb).trans (hcell 4 _ rfl)
     obtain ⟨D1, d1, rfl, hd1, hd1'⟩ := hu.form
     obtain ⟨D2, d2, rfl, hd2, hd2'⟩ := hv.form
     have HV1 := Lib.hid (fun w2 (hx : Ext w w2) => num_FromRat (a := s.circles[k].radius.num.neg) (b := s.circles[k].radius.den.neg) (hu.ext hx) (hv.ext hx))
     clear hu hv hcell hds
     generalize s.circles[k].radius.num.neg = n1 at *
     generalize s.circles[k].radius.den.neg = n2 at *
     generalize s.circles[k].radius.num.mag.length = l1 at *
     generalize s.circles[k].radius.den.mag.length = l2 at *
     generalize s.circles[k].center = ct at *
     have hz3 : b < wr.heap.size := Nat.lt_of_lt_of_le hb hEr.size
     go_wp2_with fail
     refine (HV1.out _ (by repeat first|exact xA _|assumption|refine xB ?_ _|refine xC ?_|refine xD ?_ _|refine xE ?_ (by simp <;> omega) _|refine xF ?_ (by assumption))).mono ?_
     rintro e w2 ⟨r2, rfl, ⟨X1, m1, k1, rfl⟩, hx2⟩
     have hX2 : Ext wr w2 := Ext.trans (Ext.alloc _ _) hx2
     have HO2 := Lib.hid (ownsRow_ext HO.out hX2)
     have hX3 : Ext w1 w2 := hE0.trans hX2
     have hn : s.points.length ≤ 1000 := hp
     go_wp2_with (at_builtin; refine wpList_append_lies _ rfl _ _ 62 rfl w1.heap.size 105 i0 (.agg #[.slice none 0 0, .slice none 0 0]) 2 48 Tryz.underlying62 hi hz0 hz1 hz2 rfl (by decide) _ (2 * s.points.length + k) xs rfl (ownsRow_ext HO2.out (by repeat first|exact xA _|assumption|refine xB ?_ _|refine xC ?_|refine xD ?_ _|refine xE ?_ (by simp <;> omega) _|refine xF ?_ (by assumption))) _ 1 1 _ rfl rfl (news_new _ _ _) (by simp [Value.oneCell']) (by omega) (by unfold maxLen; omega) (by omega) (by have := hX3.size; simp; omega) _ rfl ?_; intro g cap w4 hown4 hgrow hat hlt4)
     go_roundg (s.circles.length - (k + 1))
     case measure => omega
     case rel => exact ⟨k + 1, _, _, _, rfl, by simp, by omega, hown4, ext_grown hgrow (by repeat first|exact xA _|assumption|refine xB ?_ _|refine xC ?_|refine xD ?_ _|refine xE ?_ (by simp <;> omega) _|refine xF ?_ (by assumption)) (ownsRow_block HO2.out)⟩
    ·obtain rfl : k = s.circles.length := by omega
     go_wp2_with fail
     go_ret
     exact ⟨_, rfl, ⟨_, _, rfl⟩, hEr⟩
end Go.Proofs.YtonleohlplkglaaGreatDoor
namespace Go.Proofs.YtonleohlplkglaaGreatDoor
open Go Go.RowKit
def qOf (n : Nat) : QI := ⟨⟨false, limbs n⟩, ⟨false, limbs 1⟩⟩
/-- The example. -/
def exS : SkI := { points := [⟨qOf 0, qOf 0⟩, ⟨qOf 2, qOf 0⟩, ⟨qOf 3, qOf 4⟩], circles := [⟨0, qOf 2⟩, ⟨2, qOf 1⟩], segs := [], arcs := [⟨0, 1, 1, false⟩], chains := [], cons := [] }
/-- Six cells of a block written. -/
def put6 (w : World) (g : Nat) (a b c d e f : Value) : World := (((((w.setCell ⟨g, 0, none⟩ a).setCell ⟨g, 1, none⟩ b).setCell ⟨g, 2, none⟩ c).setCell ⟨g, 3, none⟩ d).setCell ⟨g, 4, none⟩ e).setCell ⟨g, 5, none⟩ f
def isSl (v : Value) : Prop := ∀ n, v ≠ .int .u32 n
theorem Words.put6 {w : World} {v : Value} {xs : List Nat} (h : Words w v xs) {g : Nat} (hg : NoWord w g) {a b c d e f : Value} (ha : isSl a) (hb : isSl b) (hc : isSl c) (hd : isSl d) (he : isSl e) : Words (put6 w g a b c d e f) v xs := by
 have g1 := hg.set_ 0 ha
 have g2 := g1.set_ 1 hb
 have g3 := g2.set_ 2 hc
 have g4 := g3.set_ 3 hd
 have g5 := g4.set_ 4 he
 exact (((((h.box hg _ _).box g1 _ _).box g2 _ _).box g3 _ _).box g4 _ _).box g5 _ _
theorem cell_put6 {w : World} {g : Nat} {a b c d e f : Value} {p : Addr} (hp : p.block ≠ g) : (put6 w g a b c d e f).cell? p = w.cell? p := by
 unfold Proofs.YtonleohlplkglaaGreatDoor.put6
 rw [World.cell?_setCell_other, World.cell?_setCell_other, World.cell?_setCell_other, World.cell?_setCell_other, World.cell?_setCell_other, World.cell?_setCell_other]
 all_goals (intro e; rw [← e] at hp; exact hp rfl)
theorem size_put6 {w : World} {g : Nat} {a b c d e f : Value} : (put6 w g a b c d e f).heap.size = w.heap.size := by simp [put6, World.setCell]
theorem CellsAt.put6 {w : World} {p g : Nat} {cs : List Value} (h : CellsAt w p cs) (hp : p ≠ g) {a b c d e f : Value} : CellsAt (put6 w g a b c d e f) p cs :=
 ⟨by rw [size_put6]; exact h.1, fun i v hi => (cell_put6 hp).trans (h.2 i v hi)⟩
theorem cell_set_ne {w : World} {g i j : Nat} {u : Value} (h : i ≠ j) : (w.setCell ⟨g, i, none⟩ u).cell? ⟨g, j, none⟩ = w.cell? ⟨g, j, none⟩ := by
 rw [World.cell?_setCell_other]
 intro e; injection e with _ e2 _; exact h e2
theorem CellsAt.of_put6 {w : World} {g : Nat} {x0 x1 x2 x3 x4 x5 a b c d e f : Value} (h : CellsAt w g [x0, x1, x2, x3, x4, x5]) : CellsAt (Proofs.YtonleohlplkglaaGreatDoor.put6 w g a b c d e f) g [a, b, c, d, e, f] := by
 refine ⟨by rw [size_put6]; exact h.1, fun i v hi => ?_⟩
 unfold Proofs.YtonleohlplkglaaGreatDoor.put6
 match i, hi with
 | 0, hi => (cases hi; rw [cell_set_ne (by decide), cell_set_ne (by decide), cell_set_ne (by decide), cell_set_ne (by decide), cell_set_ne (by decide)]; exact World.cell?_setCell_same _ _ _ (h.2 0 _ rfl))
 | 1, hi => (cases hi; rw [cell_set_ne (by decide), cell_set_ne (by decide), cell_set_ne (by decide), cell_set_ne (by decide)]; exact World.cell?_setCell_same _ _ _ ((cell_set_ne (by decide)).trans (h.2 1 _ rfl)))
 | 2, hi => (cases hi; rw [cell_set_ne (by decide), cell_set_ne (by decide), cell_set_ne (by decide)]; exact World.cell?_setCell_same _ _ _ ((cell_set_ne (by decide)).trans ((cell_set_ne (by decide)).trans (h.2 2 _ rfl))))
 | 3, hi => (cases hi; rw [cell_set_ne (by decide), cell_set_ne (by decide)]; exact World.cell?_setCell_same _ _ _ ((cell_set_ne (by decide)).trans ((cell_set_ne (by decide)).trans ((cell_set_ne (by decide)).trans (h.2 3 _ rfl)))))
 | 4, hi => (cases hi; rw [cell_set_ne (by decide)]; exact World.cell?_setCell_same _ _ _ ((cell_set_ne (by decide)).trans ((cell_set_ne (by decide)).trans ((cell_set_ne (by decide)).trans ((cell_set_ne (by decide)).trans (h.2 4 _ rfl))))))
 | 5, hi => (cases hi; exact World.cell?_setCell_same _ _ _ ((cell_set_ne (by decide)).trans ((cell_set_ne (by decide)).trans ((cell_set_ne (by decide)).trans ((cell_set_ne (by decide)).trans ((cell_set_ne (by decide)).trans (h.2 5 _ rfl)))))))
 | i + 6, hi => simp at hi
theorem Ext.put6 {w W : World} (h : Ext w W) {g : Nat} (hg : w.heap.size ≤ g) {a b c d e f : Value} : Ext w (put6 W g a b c d e f) :=
 (((((h.pset hg _).pset hg _).pset hg _).pset hg _).pset hg _).pset hg _
/-- A slice over a block of which the cells are known. -/
theorem ArrAt.of_cells {α : Type} {sz : Nat} {R : World → List Value → α → Prop} {w : World} {g c : Nat} {cs : List Value} {xs : List α} (h : CellsAt w g cs) (hl : xs.length ≤ c) (hc : xs.length ≤ 35184372088832)
  (he : ∀ k x, xs[k]? = some x → ∃ ds : List Value, ds.length = sz ∧ (∀ j u, ds[j]? = some u → cs[k * sz + j]? = some u) ∧ R w ds x) : ArrAt sz R w (.slice (some ⟨g, 0, none⟩) xs.length c) xs :=
 ⟨_, _, rfl, hl, hc, fun _ => ⟨g, 0, rfl, h.1, fun k x hk => by
  obtain ⟨ds, h1, h2, h3⟩ := he k x hk
  exact ⟨ds, h1, fun j u hj => by rw [Nat.zero_add]; exact h.2 _ _ (h2 j u hj), h3⟩⟩⟩
theorem ArrAt.nil {α : Type} {sz : Nat} {R : World → List Value → α → Prop} {w : World} : ArrAt sz R w (.slice none 0 0) ([] : List α) :=
 ⟨none, 0, rfl, Nat.le_refl _, by simp, fun h => absurd rfl h⟩
theorem sub_cells (k sz : Nat) (cs ds : List Value) (h : (cs.drop (k * sz)).take sz = ds) : ∀ j u, ds[j]? = some u → cs[k * sz + j]? = some u := by
 intro j u hj
 rw [← h, List.getElem?_take] at hj
 split at hj
 ·rwa [List.getElem?_drop] at hj
 ·cases hj
theorem ex_SkAt {W : World} {b0 b1 b2 : Nat} {P1 Q1 P2 Q2 P3 Q3 P4 Q4 P5 Q5 P6 Q6 P7 Q7 P8 Q8 : Option Addr} {p1 q1 p2 q2 p3 q3 p4 q4 p5 q5 p6 q6 p7 q7 p8 q8 : Nat} (hPT : CellsAt W b0 [Value.bool false, Value.slice P1 (limbs 0).length p1, Value.bool false, Value.slice Q1 (limbs 1).length q1, Value.bool false, Value.slice P2 (limbs 0).length p2, Value.bool false, Value.slice Q2 (limbs 1).length q2, Value.bool false, Value.slice P3 (limbs 2).length p3, Value.bool false, Value.slice Q3 (limbs 1).length q3, Value.bool false, Value.slice P4 (limbs 0).length p4, Value.bool false, Value.slice Q4 (limbs 1).length q4, Value.bool false, Value.slice P5 (limbs 3).length p5, Value.bool false, Value.slice Q5 (limbs 1).length q5, Value.bool false, Value.slice P6 (limbs 4).length p6, Value.bool false, Value.slice Q6 (limbs 1).length q6]) (hCI : CellsAt W b1 [Value.int .i64 0, Value.bool false, Value.slice P7 (limbs 2).length p7, Value.bool false, Value.slice Q7 (limbs 1).length q7, Value.int .i64 2, Value.bool false, Value.slice P8 (limbs 1).length p8, Value.bool false, Value.slice Q8 (limbs 1).length q8]) (hAR : CellsAt W b2 [Value.int .i64 0, Value.int .i64 1, Value.int .i64 1, Value.bool false]) (h1 : Words W (.slice P1 (limbs 0).length p1) (limbs 0)) (k1 : Words W (.slice Q1 (limbs 1).length q1) (limbs 1)) (h2 : Words W (.slice P2 (limbs 0).length p2) (limbs 0)) (k2 : Words W (.slice Q2 (limbs 1).length q2) (limbs 1)) (h3 : Words W (.slice P3 (limbs 2).length p3) (limbs 2)) (k3 : Words W (.slice Q3 (limbs 1).length q3) (limbs 1)) (h4 : Words W (.slice P4 (limbs 0).length p4) (limbs 0)) (k4 : Words W (.slice Q4 (limbs 1).length q4) (limbs 1)) (h5 : Words W (.slice P5 (limbs 3).length p5) (limbs 3)) (k5 : Words W (.slice Q5 (limbs 1).length q5) (limbs 1)) (h6 : Words W (.slice P6 (limbs 4).length p6) (limbs 4)) (k6 : Words W (.slice Q6 (limbs 1).length q6) (limbs 1)) (h7 : Words W (.slice P7 (limbs 2).length p7) (limbs 2)) (k7 : Words W (.slice Q7 (limbs 1).length q7) (limbs 1)) (h8 : Words W (.slice P8 (limbs 1).length p8) (limbs 1)) (k8 : Words W (.slice Q8 (limbs 1).length q8) (limbs 1)) :
  SkAt 1 W (.slice (some ⟨b0, 0, none⟩) 3 3) (.slice (some ⟨b1, 0, none⟩) 2 2) (.slice none 0 0) (.slice (some ⟨b2, 0, none⟩) 1 1) (.slice none 0 0) (.slice none 0 0) exS where
 points := ArrAt.of_cells (xs := exS.points) hPT (by simp [exS]) (by simp [exS]) (fun k x hk => by
  match k, hk with
  | 0, hk => (simp [exS] at hk; subst hk; exact ⟨_, rfl, sub_cells 0 8 _ _ rfl, _, _, _, _, rfl, h1, k1, h2, k2⟩)
  | 1, hk => (simp [exS] at hk; subst hk; exact ⟨_, rfl, sub_cells 1 8 _ _ rfl, _, _, _, _, rfl, h3, k3, h4, k4⟩)
  | 2, hk => (simp [exS] at hk; subst hk; exact ⟨_, rfl, sub_cells 2 8 _ _ rfl, _, _, _, _, rfl, h5, k5, h6, k6⟩)
  | k + 3, hk => (simp [exS] at hk))
 circles := ArrAt.of_cells (xs := exS.circles) hCI (by simp [exS]) (by simp [exS]) (fun k x hk => by
  match k, hk with
  | 0, hk => (simp [exS] at hk; subst hk; exact ⟨_, rfl, sub_cells 0 5 _ _ rfl, _, _, rfl, h7, k7⟩)
  | 1, hk => (simp [exS] at hk; subst hk; exact ⟨_, rfl, sub_cells 1 5 _ _ rfl, _, _, rfl, h8, k8⟩)
  | k + 2, hk => (simp [exS] at hk))
 segs := ArrAt.nil
 arcs := ArrAt.of_cells (xs := exS.arcs) hAR (by simp [exS]) (by simp [exS]) (fun k x hk => by
  match k, hk with
  | 0, hk => (simp [exS] at hk; subst hk; exact ⟨_, rfl, sub_cells 0 4 _ _ rfl, rfl⟩)
  | k + 1, hk => (simp [exS] at hk))
 chains := ArrAt.nil
 cons := ArrAt.nil
set_option maxRecDepth 100000 in
set_option maxHeartbeats 3200000 in
theorem law_example (w : World) :
  Calls Tryz.prog 28 #[] w (Ret w fun r w' => ∃ v0 v1 v2 v3 v4 v5, r = .agg #[v0, v1, v2, v3, v4, v5] ∧ SkAt 1 w' v0 v1 v2 v3 v4 v5 exS) := by
 have F0 : ∀ W, Calls Tryz.prog 74 #[.int .i64 0] W (Ret W fun r w' => ∃ u1 u2, r = .agg #[.bool false, u1, .bool false, u2] ∧ Words w' u1 (limbs 0) ∧ Words w' u2 (limbs 1)) := fun W => ref02_FromInt 0 (by omega) W
 have F1 : ∀ W, Calls Tryz.prog 74 #[.int .i64 1] W (Ret W fun r w' => ∃ u1 u2, r = .agg #[.bool false, u1, .bool false, u2] ∧ Words w' u1 (limbs 1) ∧ Words w' u2 (limbs 1)) := fun W => ref02_FromInt 1 (by omega) W
 have F2 : ∀ W, Calls Tryz.prog 74 #[.int .i64 2] W (Ret W fun r w' => ∃ u1 u2, r = .agg #[.bool false, u1, .bool false, u2] ∧ Words w' u1 (limbs 2) ∧ Words w' u2 (limbs 1)) := fun W => ref02_FromInt 2 (by omega) W
 have F3 : ∀ W, Calls Tryz.prog 74 #[.int .i64 3] W (Ret W fun r w' => ∃ u1 u2, r = .agg #[.bool false, u1, .bool false, u2] ∧ Words w' u1 (limbs 3) ∧ Words w' u2 (limbs 1)) := fun W => ref02_FromInt 3 (by omega) W
 have F4 : ∀ W, Calls Tryz.prog 74 #[.int .i64 4] W (Ret W fun r w' => ∃ u1 u2, r = .agg #[.bool false, u1, .bool false, u2] ∧ Words w' u1 (limbs 4) ∧ Words w' u2 (limbs 1)) := fun W => ref02_FromInt 4 (by omega) W
 have G0 := Lib.hid F0
 have G1 := Lib.hid F1
 have G2 := Lib.hid F2
 have G3 := Lib.hid F3
 have G4 := Lib.hid F4
 clear F0 F1 F2 F3 F4
 have HNW := Lib.hid (NoWord.new w #[.slice none 0 0, .slice none 0 0, .slice none 0 0, .slice none 0 0, .slice none 0 0, .slice none 0 0] 29 (by simp))
 go_enter Tryz.func28, Tryz.ntmps28
 go_wp2_with fail
 refine (G0.out _).mono ?_
 rintro e w1 ⟨r, rfl, ⟨a1, b1, rfl, ha1, hb1⟩, hx1⟩
 obtain ⟨P1, p1, rfl, hp1, hp1'⟩ := ha1.form
 obtain ⟨Q1, q1, rfl, hq1, hq1'⟩ := hb1.form
 have HA1 := Lib.hid ha1
 have HB1 := Lib.hid hb1
 have HX := Lib.hid hx1
 have HX1 := Lib.hid hx1
 clear ha1 hb1 hx1
 go_wp2_with fail
 refine (G0.out _).mono ?_
 rintro e w2 ⟨r, rfl, ⟨a2, b2, rfl, ha2, hb2⟩, hx2⟩
 obtain ⟨P2, p2, rfl, hp2, hp2'⟩ := ha2.form
 obtain ⟨Q2, q2, rfl, hq2, hq2'⟩ := hb2.form
 have HA2 := Lib.hid ha2
 have HB2 := Lib.hid hb2
 have HY2 := Lib.hid hx2
 have HZ := Lib.hid (Ext.trans HX.out hx2)
 clear ha2 hb2 hx2 HX
 have HX := Lib.hid HZ.out
 clear HZ
 go_wp2_with fail
 refine (G2.out _).mono ?_
 rintro e w3 ⟨r, rfl, ⟨a3, b3, rfl, ha3, hb3⟩, hx3⟩
 obtain ⟨P3, p3, rfl, hp3, hp3'⟩ := ha3.form
 obtain ⟨Q3, q3, rfl, hq3, hq3'⟩ := hb3.form
 have HA3 := Lib.hid ha3
 have HB3 := Lib.hid hb3
 have HY3 := Lib.hid hx3
 have HZ := Lib.hid (Ext.trans HX.out hx3)
 clear ha3 hb3 hx3 HX
 have HX := Lib.hid HZ.out
 clear HZ
 go_wp2_with fail
 refine (G0.out _).mono ?_
 rintro e w4 ⟨r, rfl, ⟨a4, b4, rfl, ha4, hb4⟩, hx4⟩
 obtain ⟨P4, p4, rfl, hp4, hp4'⟩ := ha4.form
 obtain ⟨Q4, q4, rfl, hq4, hq4'⟩ := hb4.form
 have HA4 := Lib.hid ha4
 have HB4 := Lib.hid hb4
 have HY4 := Lib.hid hx4
 have HZ := Lib.hid (Ext.trans HX.out hx4)
 clear ha4 hb4 hx4 HX
 have HX := Lib.hid HZ.out
 clear HZ
 go_wp2_with fail
 refine (G3.out _).mono ?_
 rintro e w5 ⟨r, rfl, ⟨a5, b5, rfl, ha5, hb5⟩, hx5⟩
 obtain ⟨P5, p5, rfl, hp5, hp5'⟩ := ha5.form
 obtain ⟨Q5, q5, rfl, hq5, hq5'⟩ := hb5.form
 have HA5 := Lib.hid ha5
 have HB5 := Lib.hid hb5
 have HY5 := Lib.hid hx5
 have HZ := Lib.hid (Ext.trans HX.out hx5)
 clear ha5 hb5 hx5 HX
 have HX := Lib.hid HZ.out
 clear HZ
 go_wp2_with fail
 refine (G4.out _).mono ?_
 rintro e w6 ⟨r, rfl, ⟨a6, b6, rfl, ha6, hb6⟩, hx6⟩
 obtain ⟨P6, p6, rfl, hp6, hp6'⟩ := ha6.form
 obtain ⟨Q6, q6, rfl, hq6, hq6'⟩ := hb6.form
 have HA6 := Lib.hid ha6
 have HB6 := Lib.hid hb6
 have HY6 := Lib.hid hx6
 have HZ := Lib.hid (Ext.trans HX.out hx6)
 clear ha6 hb6 hx6 HX
 have HX := Lib.hid HZ.out
 clear HZ
 go_wp2_with fail
 refine (G2.out _).mono ?_
 rintro e w7 ⟨r, rfl, ⟨a7, b7, rfl, ha7, hb7⟩, hx7⟩
 obtain ⟨P7, p7, rfl, hp7, hp7'⟩ := ha7.form
 obtain ⟨Q7, q7, rfl, hq7, hq7'⟩ := hb7.form
 have HA7 := Lib.hid ha7
 have HB7 := Lib.hid hb7
 have HPT := Lib.hid ((CellsAt.new w6 [Value.bool false, Value.slice P1 (limbs 0).length p1, Value.bool false, Value.slice Q1 (limbs 1).length q1, Value.bool false, Value.slice P2 (limbs 0).length p2, Value.bool false, Value.slice Q2 (limbs 1).length q2, Value.bool false, Value.slice P3 (limbs 2).length p3, Value.bool false, Value.slice Q3 (limbs 1).length q3, Value.bool false, Value.slice P4 (limbs 0).length p4, Value.bool false, Value.slice Q4 (limbs 1).length q4, Value.bool false, Value.slice P5 (limbs 3).length p5, Value.bool false, Value.slice Q5 (limbs 1).length q5, Value.bool false, Value.slice P6 (limbs 4).length p6, Value.bool false, Value.slice Q6 (limbs 1).length q6] 40).ext hx7)
 have hz7 : Ext w6 w7 := Ext.trans (Ext.alloc _ _) hx7
 clear hx7
 have hx7 := hz7
 clear hz7
 have HY7 := Lib.hid hx7
 have HZ := Lib.hid (Ext.trans HX.out hx7)
 clear ha7 hb7 hx7 HX
 have HX := Lib.hid HZ.out
 clear HZ
 go_wp2_with fail
 refine (G1.out _).mono ?_
 rintro e w8 ⟨r, rfl, ⟨a8, b8, rfl, ha8, hb8⟩, hx8⟩
 obtain ⟨P8, p8, rfl, hp8, hp8'⟩ := ha8.form
 obtain ⟨Q8, q8, rfl, hq8, hq8'⟩ := hb8.form
 have HA8 := Lib.hid ha8
 have HB8 := Lib.hid hb8
 have HY8 := Lib.hid hx8
 have HZ := Lib.hid (Ext.trans HX.out hx8)
 clear ha8 hb8 hx8 HX
 have HX := Lib.hid HZ.out
 clear HZ
 have hx := HX.out
 obtain ⟨hc, hf⟩ := bcell hx
 have hz : w.heap.size < w8.heap.size := by have := hx.size; simp at this; omega
 have hz6 : w.heap.size < w6.heap.size := by
  have h1 := (HY2.out.size); have h2 := HY3.out.size; have h3 := HY4.out.size; have h4 := HY5.out.size; have h5 := HY6.out.size
  have h0 := HX1.out.size; simp at h0; omega
 have HE : Hid (Ext w w8) := Ext.trans (Ext.alloc _ _) hx
 go_wp2_with fail
 have hB6 := (CellsAt.new w [.slice none 0 0, .slice none 0 0, .slice none 0 0, .slice none 0 0, .slice none 0 0, .slice none 0 0] 29).ext hx
 have HNF : NoWord w8 w.heap.size := HNW.out.ext (by simp) hx
 obtain ⟨W0, hW0⟩ : ∃ W0, put6 w8 w.heap.size (.slice (some ⟨w6.heap.size, 0, none⟩) 3 3) (.slice (some ⟨w8.heap.size, 0, none⟩) 2 2) (.slice none 0 0) (.slice (some ⟨w8.heap.size + 1, 0, none⟩) 1 1) (.slice none 0 0) (.slice none 0 0) = W0 := ⟨_, rfl⟩
 have hs0 : W0.heap.size = w8.heap.size := by rw [← hW0]; exact size_put6
 have hW : ∀ v xs, Words w8 v xs → Words W0 v xs := fun v xs h => by rw [← hW0]; exact h.put6 HNF (by intro n; simp) (by intro n; simp) (by intro n; simp) (by intro n; simp) (by intro n; simp)
 have hPT0 : CellsAt W0 w6.heap.size [Value.bool false, Value.slice P1 (limbs 0).length p1, Value.bool false, Value.slice Q1 (limbs 1).length q1, Value.bool false, Value.slice P2 (limbs 0).length p2, Value.bool false, Value.slice Q2 (limbs 1).length q2, Value.bool false, Value.slice P3 (limbs 2).length p3, Value.bool false, Value.slice Q3 (limbs 1).length q3, Value.bool false, Value.slice P4 (limbs 0).length p4, Value.bool false, Value.slice Q4 (limbs 1).length q4, Value.bool false, Value.slice P5 (limbs 3).length p5, Value.bool false, Value.slice Q5 (limbs 1).length q5, Value.bool false, Value.slice P6 (limbs 4).length p6, Value.bool false, Value.slice Q6 (limbs 1).length q6] := by rw [← hW0]; exact (HPT.out.ext HY8.out).put6 (by omega)
 have hSK0 : CellsAt W0 w.heap.size [.slice (some ⟨w6.heap.size, 0, none⟩) 3 3, .slice (some ⟨w8.heap.size, 0, none⟩) 2 2, .slice none 0 0, .slice (some ⟨w8.heap.size + 1, 0, none⟩) 1 1, .slice none 0 0, .slice none 0 0] := by rw [← hW0]; exact hB6.of_put6
 have hE0 : Ext w W0 := by rw [← hW0]; exact HE.out.put6 (Nat.le_refl _)
 change bodyPost _ _ _ _ _ (((put6 w8 w.heap.size (.slice (some ⟨w6.heap.size, 0, none⟩) 3 3) (.slice (some ⟨w8.heap.size, 0, none⟩) 2 2) (.slice none 0 0) (.slice (some ⟨w8.heap.size + 1, 0, none⟩) 1 1) (.slice none 0 0) (.slice none 0 0)).alloc _).alloc _)
 rw [hW0]
 have hXa := Ext.alloc W0 (.cells #[Value.int .i64 0, Value.bool false, Value.slice P7 (limbs 2).length p7, Value.bool false, Value.slice Q7 (limbs 1).length q7, Value.int .i64 2, Value.bool false, Value.slice P8 (limbs 1).length p8, Value.bool false, Value.slice Q8 (limbs 1).length q8] 66)
 have hXb := Ext.trans hXa (Ext.alloc _ (.cells #[Value.int .i64 0, Value.int .i64 1, Value.int .i64 1, Value.bool false] 81))
 have hCI : CellsAt ((W0.alloc (.cells #[Value.int .i64 0, Value.bool false, Value.slice P7 (limbs 2).length p7, Value.bool false, Value.slice Q7 (limbs 1).length q7, Value.int .i64 2, Value.bool false, Value.slice P8 (limbs 1).length p8, Value.bool false, Value.slice Q8 (limbs 1).length q8] 66)).alloc (.cells #[Value.int .i64 0, Value.int .i64 1, Value.int .i64 1, Value.bool false] 81)) w8.heap.size [Value.int .i64 0, Value.bool false, Value.slice P7 (limbs 2).length p7, Value.bool false, Value.slice Q7 (limbs 1).length q7, Value.int .i64 2, Value.bool false, Value.slice P8 (limbs 1).length p8, Value.bool false, Value.slice Q8 (limbs 1).length q8] := by
  have := (CellsAt.new W0 [Value.int .i64 0, Value.bool false, Value.slice P7 (limbs 2).length p7, Value.bool false, Value.slice Q7 (limbs 1).length q7, Value.int .i64 2, Value.bool false, Value.slice P8 (limbs 1).length p8, Value.bool false, Value.slice Q8 (limbs 1).length q8] 66).ext (Ext.alloc _ (.cells #[Value.int .i64 0, Value.int .i64 1, Value.int .i64 1, Value.bool false] 81))
  rwa [hs0] at this
 have hAR : CellsAt ((W0.alloc (.cells #[Value.int .i64 0, Value.bool false, Value.slice P7 (limbs 2).length p7, Value.bool false, Value.slice Q7 (limbs 1).length q7, Value.int .i64 2, Value.bool false, Value.slice P8 (limbs 1).length p8, Value.bool false, Value.slice Q8 (limbs 1).length q8] 66)).alloc (.cells #[Value.int .i64 0, Value.int .i64 1, Value.int .i64 1, Value.bool false] 81)) (w8.heap.size + 1) [Value.int .i64 0, Value.int .i64 1, Value.int .i64 1, Value.bool false] := by
  have := CellsAt.new (W0.alloc (.cells #[Value.int .i64 0, Value.bool false, Value.slice P7 (limbs 2).length p7, Value.bool false, Value.slice Q7 (limbs 1).length q7, Value.int .i64 2, Value.bool false, Value.slice P8 (limbs 1).length p8, Value.bool false, Value.slice Q8 (limbs 1).length q8] 66)) [Value.int .i64 0, Value.int .i64 1, Value.int .i64 1, Value.bool false] 81
  rwa [World.size_alloc, hs0] at this
 have hWF : ∀ v xs, Words w8 v xs → Words ((W0.alloc (.cells #[Value.int .i64 0, Value.bool false, Value.slice P7 (limbs 2).length p7, Value.bool false, Value.slice Q7 (limbs 1).length q7, Value.int .i64 2, Value.bool false, Value.slice P8 (limbs 1).length p8, Value.bool false, Value.slice Q8 (limbs 1).length q8] 66)).alloc (.cells #[Value.int .i64 0, Value.int .i64 1, Value.int .i64 1, Value.bool false] 81)) v xs := fun v xs h => (hW v xs h).ext hXb
 have hPT := hPT0.ext hXb
 have hSKF := hSK0.ext hXb
 have hE := hE0.trans hXb
 have hSK := ex_SkAt hPT hCI hAR (hWF _ _ (((((((HA1.out.ext HY2.out).ext HY3.out).ext HY4.out).ext HY5.out).ext HY6.out).ext HY7.out).ext HY8.out)) (hWF _ _ (((((((HB1.out.ext HY2.out).ext HY3.out).ext HY4.out).ext HY5.out).ext HY6.out).ext HY7.out).ext HY8.out)) (hWF _ _ ((((((HA2.out.ext HY3.out).ext HY4.out).ext HY5.out).ext HY6.out).ext HY7.out).ext HY8.out)) (hWF _ _ ((((((HB2.out.ext HY3.out).ext HY4.out).ext HY5.out).ext HY6.out).ext HY7.out).ext HY8.out)) (hWF _ _ (((((HA3.out.ext HY4.out).ext HY5.out).ext HY6.out).ext HY7.out).ext HY8.out)) (hWF _ _ (((((HB3.out.ext HY4.out).ext HY5.out).ext HY6.out).ext HY7.out).ext HY8.out)) (hWF _ _ ((((HA4.out.ext HY5.out).ext HY6.out).ext HY7.out).ext HY8.out)) (hWF _ _ ((((HB4.out.ext HY5.out).ext HY6.out).ext HY7.out).ext HY8.out)) (hWF _ _ (((HA5.out.ext HY6.out).ext HY7.out).ext HY8.out)) (hWF _ _ (((HB5.out.ext HY6.out).ext HY7.out).ext HY8.out)) (hWF _ _ ((HA6.out.ext HY7.out).ext HY8.out)) (hWF _ _ ((HB6.out.ext HY7.out).ext HY8.out)) (hWF _ _ (HA7.out.ext HY8.out)) (hWF _ _ (HB7.out.ext HY8.out)) (hWF _ _ HA8.out) (hWF _ _ HB8.out)
 generalize (W0.alloc (.cells #[Value.int .i64 0, Value.bool false, Value.slice P7 (limbs 2).length p7, Value.bool false, Value.slice Q7 (limbs 1).length q7, Value.int .i64 2, Value.bool false, Value.slice P8 (limbs 1).length p8, Value.bool false, Value.slice Q8 (limbs 1).length q8] 66)).alloc (.cells #[Value.int .i64 0, Value.int .i64 1, Value.int .i64 1, Value.bool false] 81) = WF at *
 obtain ⟨z0, z1, z2, z3, z4, z5⟩ := hSKF.six
 refine bodyPost_ret (v := .agg #[.slice (some ⟨w6.heap.size, 0, none⟩) 3 3, .slice (some ⟨w8.heap.size, 0, none⟩) 2 2, .slice none 0 0, .slice (some ⟨w8.heap.size + 1, 0, none⟩) 1 1, .slice none 0 0, .slice none 0 0]) ?_ rfl ⟨_, rfl, ⟨_, _, _, _, _, _, rfl, hSK⟩, hE⟩
 simp [results, Tryz.results28, go_sem, z0, z1, z2, z3, z4, z5]
end Go.Proofs.YtonleohlplkglaaGreatDoor
namespace Go.Proofs.YtonleohlplkglaaGreatDoor
open Go Go.RowKit
theorem CellsAt.two {w : World} {g : Nat} {a b : Value} (k : CellsAt w g [a, b]) : w.cell? ⟨g, 0, none⟩ = some a ∧ w.cell? ⟨g, 1, none⟩ = some b := ⟨k.2 0 _ rfl, k.2 1 _ rfl⟩
/-- Two boxes, one behind the other. -/
theorem boxes {w : World} {cs ds : List Value} {T : TypeId} : ∃ W, (w.alloc (.cells cs.toArray T)).alloc (.cells ds.toArray T) = W ∧ CellsAt W w.heap.size cs ∧ CellsAt W (w.heap.size + 1) ds ∧ Ext w W := by
 refine ⟨_, rfl, (CellsAt.new _ _ _).ext (Ext.alloc _ _), ?_, (Ext.alloc _ _).palloc _⟩
 have := CellsAt.new (w.alloc (.cells cs.toArray T)) ds T
 rwa [World.size_alloc] at this
end Go.Proofs.YtonleohlplkglaaGreatDoor
namespace Go.Proofs.YtonleohlplkglaaGreatDoor
open Go Go.RowKit
end Go.Proofs.YtonleohlplkglaaGreatDoor
namespace Go.Proofs.YtonleohlplkglaaGreatDoor
open Go Go.RowKit Go.ChangeShapes Go.WideShapes Go.Deep
section
variable {H : Type} {enc : TypeId × Value → H} {w : World}
/-- The reading of the arguments. -/
noncomputable abbrev TR (enc : TypeId × Value → H) (w : World) (n : Nat) (t : TypeId) (cs : List Value) : Option (DataW H × List MemPlace) := DataW.trod enc Tryz.prog w 0 (fun _ => true) true n t cs
/-- All weights within the reach. -/
def Fits (l : List Nat) : Prop := l.all (· ≤ reachBytes) = true
theorem Fits.left {l m : List Nat} (h : Fits (l ++ m)) : Fits l := by unfold Fits at *; rw [List.all_append, Bool.and_eq_true] at h; exact h.1
theorem Fits.right {l m : List Nat} (h : Fits (l ++ m)) : Fits m := by unfold Fits at *; rw [List.all_append, Bool.and_eq_true] at h; exact h.2
theorem Fits.head {a : Nat} {l : List Nat} (h : Fits (a :: l)) : a ≤ reachBytes := by unfold Fits at h; simp at h; exact h.1
theorem Fits.tail {a : Nat} {l : List Nat} (h : Fits (a :: l)) : Fits l := by unfold Fits at *; simp at h ⊢; exact h.2
theorem fits_all {e : TypeId} {l : List (DataW H)} (h : Fits (DataW.weightsAll Tryz.prog e l)) : ∀ d ∈ l, Fits (d.weights Tryz.prog e) := by
 induction l with
 | nil => simp
 | cons a l ih =>
  intro d hd
  rw [DataW.weightsAll] at h
  rcases List.mem_cons.1 hd with rfl | hd
  ·exact h.left
  ·exact ih h.right d hd
theorem spot_none {a : Addr} {v : Value} (h : w.cell? a = some v) : a = ⟨a.block, a.off, none⟩ ∧ a.block < w.heap.size := by
 unfold World.cell? at h
 obtain ⟨b, o, s⟩ := a
 simp only at h ⊢
 have hlt : b < w.heap.size := by
  rcases Nat.lt_or_ge b w.heap.size with h1 | h1
  ·exact h1
  ·rw [Array.getElem?_eq_none h1] at h; cases h
 cases s with
 | none => exact ⟨rfl, hlt⟩
 | some s => (split at h <;> simp at h)
/-- A slice of structs. -/
theorem arr_read {α : Type} [Inhabited α] {t e : TypeId} {sz bytes : Nat} {R : World → List Value → α → Prop} {n : Nat} {cs : List Value} {x : DataW H × List MemPlace} (ht : Tryz.prog.underlying t = some (.slice e)) (hc : Tryz.prog.cellsOf e = sz) (hsz : 0 < sz) (hb : Tryz.prog.bytesOf e = bytes) (h4 : 4 ≤ bytes)
  (h : TR enc w n t cs = some x) (hw : Fits (x.1.weights Tryz.prog t)) (elem : ∀ m ds y, m < n → ds.length = sz → TR enc w m e ds = some y → Fits (y.1.weights Tryz.prog e) → ∃ a, R w ds a) :
  ∃ v xs, cs = [v] ∧ ArrAt sz R w v xs ∧ ∀ A l c, v = .slice A l c → c ≤ 35184372088832 := by
 rcases DataW.trod_slice ht h with ⟨rfl, -⟩ | ⟨a, len, cap, elems, rest, m, hn, rfl, rfl, -, hl, hm, hlen, hel, hsp, -⟩
 ·exact ⟨_, [], rfl, ⟨none, 0, rfl, Nat.le_refl _, by simp, fun h => absurd rfl h⟩, fun A l c e => by cases e; omega⟩
 ·have hrl := (hsp rfl).1
  simp only [DataW.weights, ht] at hw
  have hw0 := hw.head
  rw [List.length_map, List.length_map, hlen, hrl, hb] at hw0
  have hcap : len + (cap - len) = cap := by omega
  rw [hcap] at hw0
  have hreach : reachBytes ≤ 140737488355328 := by decide
  have hcl : cap * 4 ≤ cap * bytes := Nat.mul_le_mul_left _ h4
  have hcap2 : cap ≤ 35184372088832 := by omega
  have hall := fits_all (hw.tail.left)
  have key : ∀ i, i < len → ∃ p : α × List Value, p.2.length = sz ∧ (∀ j u, p.2[j]? = some u → w.cell? ((a.add (i * sz)).add j) = some u) ∧ R w p.2 p.1 := by
   intro i hi
   have h1 := hel i hi
   rw [hc, List.getElem?_eq_getElem (by omega)] at h1
   obtain ⟨ds, h2, h3⟩ := Option.bind_eq_some_iff.1 h1
   obtain ⟨-, h5, h6⟩ := World.cells?_some h2
   obtain ⟨y, hy⟩ := elem m ds _ (by omega) h5 h3 (hall _ (List.mem_map.2 ⟨_, List.getElem_mem (show i < elems.length by omega), rfl⟩))
   refine ⟨(y, ds), h5, fun j u hj => ?_, hy⟩
   have hj' : j < sz := by rw [← h5]; exact (List.getElem?_eq_some_iff.1 hj).1
   rw [h6 j hj']; exact hj
  obtain ⟨f, hf⟩ := choose_lt (α := α × List Value) key
  refine ⟨_, (List.range len).map fun i => (f i).1, rfl, ⟨some a, cap, by simp, by simpa using hl, by simp; omega, fun hne => ?_⟩, fun A l c e => by cases e; exact hcap2⟩
  have h0 : 0 < len := by
   rcases Nat.eq_zero_or_pos len with h0 | h0
   ·subst h0; simp at hne
   ·exact h0
  obtain ⟨g1, g2, g3⟩ := hf 0 h0
  obtain ⟨u0, hu0⟩ : ∃ u, (f 0).2[0]? = some u := ⟨_, List.getElem?_eq_getElem (by omega)⟩
  have hc0 := g2 0 u0 hu0
  rw [Nat.zero_mul] at hc0
  have hadd : (a.add 0).add 0 = a := by simp [Addr.add]
  rw [hadd] at hc0
  obtain ⟨hs, hlt⟩ := spot_none hc0
  refine ⟨a.block, a.off, by rw [← hs], hlt, fun k x hk => ?_⟩
  have hkl : k < len := by have := (List.getElem?_eq_some_iff.1 hk).1; simpa using this
  obtain ⟨g1, g2, g3⟩ := hf k hkl
  refine ⟨(f k).2, g1, fun j u hj => ?_, ?_⟩
  ·have := g2 j u hj
   rw [hs, add_add, Addr.add_lit] at this
   exact this
  ·have : x = (f k).1 := by
    rw [List.getElem?_map, List.getElem?_range hkl] at hk
    simpa using hk.symm
   rw [this]; exact g3
end
end Go.Proofs.YtonleohlplkglaaGreatDoor
namespace Go.Proofs.YtonleohlplkglaaGreatDoor
open Go Go.RowKit Go.ChangeShapes Go.WideShapes Go.Deep
theorem cBool : Tryz.prog.cellsOf 4 = 1 := by kernel_rfl
theorem cInt : Tryz.prog.cellsOf 3 = 1 := by kernel_rfl
theorem cStr : Tryz.prog.cellsOf 9 = 1 := by kernel_rfl
theorem cU32 : Tryz.prog.cellsOf 142 = 1 := by kernel_rfl
theorem cWords : Tryz.prog.cellsOf 34 = 1 := by kernel_rfl
theorem cInts : Tryz.prog.cellsOf 49 = 1 := by kernel_rfl
theorem cZ : Tryz.prog.cellsOf 36 = 2 := by kernel_rfl
theorem cQ : Tryz.prog.cellsOf 38 = 4 := by kernel_rfl
theorem cPt : Tryz.prog.cellsOf 40 = 8 := by kernel_rfl
theorem cRd : Tryz.prog.cellsOf 66 = 5 := by kernel_rfl
theorem cSg : Tryz.prog.cellsOf 42 = 2 := by kernel_rfl
theorem cAr : Tryz.prog.cellsOf 81 = 4 := by kernel_rfl
theorem cPc : Tryz.prog.cellsOf 45 = 3 := by kernel_rfl
theorem cCh : Tryz.prog.cellsOf 43 = 1 := by kernel_rfl
theorem cCn : Tryz.prog.cellsOf 52 = 5 := by kernel_rfl
theorem cEx : Tryz.prog.cellsOf 69 = 7 := by kernel_rfl
theorem cExs : Tryz.prog.cellsOf 50 = 1 := by kernel_rfl
theorem cSk : Tryz.prog.cellsOf 29 = 6 := by kernel_rfl
theorem cSks : Tryz.prog.cellsOf 22 = 1 ∧ Tryz.prog.cellsOf 23 = 1 ∧ Tryz.prog.cellsOf 24 = 1 ∧ Tryz.prog.cellsOf 25 = 1 ∧ Tryz.prog.cellsOf 26 = 1 ∧ Tryz.prog.cellsOf 27 = 1 := ⟨by kernel_rfl, by kernel_rfl, by kernel_rfl, by kernel_rfl, by kernel_rfl, by kernel_rfl⟩
section
variable {H : Type} {enc : TypeId × Value → H} {w : World}
theorem words_read {n : Nat} {cs : List Value} {x : DataW H × List MemPlace} (h : TR enc w n 34 cs = some x) (hw : Fits (x.1.weights Tryz.prog 34)) : ∃ v xs, cs = [v] ∧ Words w v xs := by
 obtain ⟨v, xs, rfl, ⟨A, c, hv, hl, hm, hel⟩, -⟩ := arr_read (α := Nat) (R := fun _ ds a => ds = [.int .u32 (a : Int)] ∧ a < 4294967296) (sz := 1) (bytes := 4) Tryz.underlying34 cU32 (by omega) (by kernel_rfl) (by omega) h hw (fun m ds y _ _ hy _ => by
  obtain ⟨k, rfl, -, hwf⟩ := DataW.trod_int Tryz.underlying142 hy
  have h1 : 0 ≤ k ∧ k ≤ 4294967295 := by
   simp only [Lit.wf, Bool.and_eq_true, decide_eq_true_eq] at hwf
   exact ⟨hwf.1, hwf.2⟩
  exact ⟨k.toNat, by rw [show ((k.toNat : Nat) : Int) = k by omega], by omega⟩)
 have hL : ∀ (k y : Nat), xs[k]? = some y → y < 4294967296 := fun k y hk => by
  obtain ⟨b, off, -, -, h3⟩ := hel (by intro e; rw [e] at hk; simp at hk)
  obtain ⟨ds, -, -, -, h5⟩ := h3 k y hk
  exact h5
 refine ⟨v, xs, rfl, A, c, hv, hl, hm, fun y hy => ?_, fun h0 => ?_⟩
 ·obtain ⟨k, hk⟩ := List.getElem?_of_mem hy
  exact hL k y hk
 ·obtain ⟨b, off, h1, h2, h3⟩ := hel (by intro e; rw [e] at h0; simp at h0)
  refine ⟨b, off, h1, h2, fun k hk => ?_⟩
  obtain ⟨ds, h4, h5, h6, -⟩ := h3 k _ (List.getElem?_eq_getElem hk)
  have := h5 0 _ (by rw [h6]; rfl)
  rw [Nat.mul_one, Nat.add_zero] at this
  rw [this, List.getD_eq_getElem?_getD, List.getElem?_eq_getElem hk]; rfl
theorem two_of {α : Type} {l : List α} (h : l.length = 2) : ∃ a b, l = [a, b] := by
 match l, h with
 | [a, b], _ => exact ⟨a, b, rfl⟩
theorem four_of {α : Type} {l : List α} (h : l.length = 4) : ∃ a b c d, l = [a, b, c, d] := by
 match l, h with
 | [a, b, c, d], _ => exact ⟨a, b, c, d, rfl⟩
theorem z_read {n : Nat} {cs : List Value} {x : DataW H × List MemPlace} (h : TR enc w n 36 cs = some x) (hw : Fits (x.1.weights Tryz.prog 36)) : ∃ (z : ZI) (u : Value), cs = [.bool z.neg, u] ∧ Words w u z.mag := by
 obtain ⟨xs, m, rfl, rfl, hl, hxl, hf⟩ := DataW.trod_struct Tryz.underlying36 h
 rw [cZ] at hl
 obtain ⟨a, b, rfl⟩ := two_of hl
 obtain ⟨x0, x1, rfl⟩ := two_of hxl
 have h0 : TR enc w m 4 ((([a, b] : List Value).drop 0).take (Tryz.prog.cellsOf 4)) = some x0 := by have h := hf 0 _ rfl; exact h
 rw [cBool] at h0
 change TR enc w m 4 [a] = some x0 at h0
 have h1 : TR enc w m 34 ((([a, b] : List Value).drop 1).take (Tryz.prog.cellsOf 34)) = some x1 := by have h := hf 1 _ rfl; exact h
 rw [cWords] at h1
 change TR enc w m 34 [b] = some x1 at h1
 simp only [DataW.weights, Tryz.underlying36, List.map_cons, List.map_nil, DataW.weightsEach] at hw
 obtain ⟨b0, e0, -⟩ := DataW.trod_bool Tryz.underlying4 h0
 obtain ⟨v, ys, e1, hv⟩ := words_read h1 hw.right.left
 simp only [List.cons.injEq, and_true] at e0 e1
 exact ⟨⟨b0, ys⟩, v, by rw [e0, e1], hv⟩
theorem q_read {n : Nat} {cs : List Value} {x : DataW H × List MemPlace} (h : TR enc w n 38 cs = some x) (hw : Fits (x.1.weights Tryz.prog 38)) : ∃ (q : QI) (u v : Value), cs = [.bool q.num.neg, u, .bool q.den.neg, v] ∧ Words w u q.num.mag ∧ Words w v q.den.mag := by
 obtain ⟨xs, m, rfl, rfl, hl, hxl, hf⟩ := DataW.trod_struct Tryz.underlying38 h
 rw [cQ] at hl
 obtain ⟨a, b, c, d, rfl⟩ := four_of hl
 obtain ⟨x0, x1, rfl⟩ := two_of hxl
 have h0 : TR enc w m 36 ((([a, b, c, d] : List Value).drop 0).take (Tryz.prog.cellsOf 36)) = some x0 := by have h := hf 0 _ rfl; exact h
 rw [cZ] at h0
 change TR enc w m 36 [a, b] = some x0 at h0
 have h1 : TR enc w m 36 ((([a, b, c, d] : List Value).drop 2).take (Tryz.prog.cellsOf 36)) = some x1 := by have h := hf 1 _ rfl; exact h
 rw [cZ] at h1
 change TR enc w m 36 [c, d] = some x1 at h1
 simp only [DataW.weights, Tryz.underlying38, List.map_cons, List.map_nil, DataW.weightsEach] at hw
 obtain ⟨z0, u0, e0, hu⟩ := z_read h0 hw.left
 obtain ⟨z1, u1, e1, hv⟩ := z_read h1 hw.right.left
 simp only [List.cons.injEq, and_true] at e0 e1
 exact ⟨⟨z0, z1⟩, u0, u1, by rw [e0.1, e0.2, e1.1, e1.2], hu, hv⟩
end
end Go.Proofs.YtonleohlplkglaaGreatDoor
namespace Go.Proofs.YtonleohlplkglaaGreatDoor
open Go Go.RowKit Go.ChangeShapes Go.WideShapes Go.Deep
theorem three_of {α : Type} {l : List α} (h : l.length = 3) : ∃ a b c, l = [a, b, c] := by
 match l, h with
 | [a, b, c], _ => exact ⟨a, b, c, rfl⟩
theorem five_of {α : Type} {l : List α} (h : l.length = 5) : ∃ a b c d e, l = [a, b, c, d, e] := by
 match l, h with
 | [a, b, c, d, e], _ => exact ⟨a, b, c, d, e, rfl⟩
theorem six_of {α : Type} {l : List α} (h : l.length = 6) : ∃ a b c d e f, l = [a, b, c, d, e, f] := by
 match l, h with
 | [a, b, c, d, e, f], _ => exact ⟨a, b, c, d, e, f, rfl⟩
theorem seven_ofX {α : Type} {l : List α} (h : l.length = 7) : ∃ a b c d e f g, l = [a, b, c, d, e, f, g] := by
 match l, h with
 | [a, b, c, d, e, f, g], _ => exact ⟨a, b, c, d, e, f, g, rfl⟩
theorem eight_of {α : Type} {l : List α} (h : l.length = 8) : ∃ a b c d e f g i, l = [a, b, c, d, e, f, g, i] := by
 match l, h with
 | [a, b, c, d, e, f, g, i], _ => exact ⟨a, b, c, d, e, f, g, i, rfl⟩
section
variable {H : Type} {enc : TypeId × Value → H} {w : World}
theorem int_read {n : Nat} {cs : List Value} {x : DataW H × List MemPlace} (h : TR enc w n 3 cs = some x) : ∃ k : Int, cs = [.int .i64 k] := by
 obtain ⟨k, h1, _⟩ := DataW.trod_int Tryz.underlying3 h
 exact ⟨k, h1⟩
theorem bool_read {n : Nat} {cs : List Value} {x : DataW H × List MemPlace} (h : TR enc w n 4 cs = some x) : ∃ k : Bool, cs = [.bool k] := by
 obtain ⟨k, h1, _⟩ := DataW.trod_bool Tryz.underlying4 h
 exact ⟨k, h1⟩
theorem str_read {n : Nat} {cs : List Value} {x : DataW H × List MemPlace} (h : TR enc w n 9 cs = some x) : ∃ k : ByteArray, cs = [.string k] := by
 obtain ⟨k, h1, _⟩ := DataW.trod_string Tryz.underlying9 h
 exact ⟨k, h1⟩
theorem pt_read {n : Nat} {cs : List Value} {x : DataW H × List MemPlace} (h : TR enc w n 40 cs = some x) (hw : Fits (x.1.weights Tryz.prog 40)) : ∃ p, PtR w cs p := by
 obtain ⟨xs, m, rfl, rfl, hl, hxl, hf⟩ := DataW.trod_struct Tryz.underlying40 h
 rw [cPt] at hl
 obtain ⟨a0, a1, a2, a3, a4, a5, a6, a7, rfl⟩ := eight_of hl
 obtain ⟨x0, x1, rfl⟩ := two_of hxl
 have h0 : TR enc w m 38 ((([a0, a1, a2, a3, a4, a5, a6, a7] : List Value).drop 0).take (Tryz.prog.cellsOf 38)) = some x0 := by have h := hf 0 _ rfl; exact h
 rw [cQ] at h0
 change TR enc w m 38 [a0, a1, a2, a3] = some x0 at h0
 have h1 : TR enc w m 38 ((([a0, a1, a2, a3, a4, a5, a6, a7] : List Value).drop 4).take (Tryz.prog.cellsOf 38)) = some x1 := by have h := hf 1 _ rfl; exact h
 rw [cQ] at h1
 change TR enc w m 38 [a4, a5, a6, a7] = some x1 at h1
 simp only [DataW.weights, Tryz.underlying40, List.map_cons, List.map_nil, DataW.weightsEach] at hw
 obtain ⟨q0, u0, v0, e0, hu0, hv0⟩ := q_read h0 hw.left
 obtain ⟨q1, u1, v1, e1, hu1, hv1⟩ := q_read h1 hw.right.left
 simp only [List.cons.injEq, and_true] at e0 e1
 obtain ⟨rfl, rfl, rfl, rfl⟩ := e0
 obtain ⟨rfl, rfl, rfl, rfl⟩ := e1
 exact ⟨⟨q0, q1⟩, _, _, _, _, rfl, hu0, hv0, hu1, hv1⟩
theorem rd_read {n : Nat} {cs : List Value} {x : DataW H × List MemPlace} (h : TR enc w n 66 cs = some x) (hw : Fits (x.1.weights Tryz.prog 66)) : ∃ p, RdR w cs p := by
 obtain ⟨xs, m, rfl, rfl, hl, hxl, hf⟩ := DataW.trod_struct Tryz.underlying66 h
 rw [cRd] at hl
 obtain ⟨a0, a1, a2, a3, a4, rfl⟩ := five_of hl
 obtain ⟨x0, x1, rfl⟩ := two_of hxl
 have h0 : TR enc w m 3 ((([a0, a1, a2, a3, a4] : List Value).drop 0).take (Tryz.prog.cellsOf 3)) = some x0 := by have h := hf 0 _ rfl; exact h
 rw [cInt] at h0
 change TR enc w m 3 [a0] = some x0 at h0
 have h1 : TR enc w m 38 ((([a0, a1, a2, a3, a4] : List Value).drop 1).take (Tryz.prog.cellsOf 38)) = some x1 := by have h := hf 1 _ rfl; exact h
 rw [cQ] at h1
 change TR enc w m 38 [a1, a2, a3, a4] = some x1 at h1
 simp only [DataW.weights, Tryz.underlying66, List.map_cons, List.map_nil, DataW.weightsEach] at hw
 obtain ⟨k, e0⟩ := int_read h0
 obtain ⟨q1, u1, v1, e1, hu1, hv1⟩ := q_read h1 hw.right.left
 simp only [List.cons.injEq, and_true] at e0 e1
 subst e0
 obtain ⟨rfl, rfl, rfl, rfl⟩ := e1
 exact ⟨⟨k, q1⟩, _, _, rfl, hu1, hv1⟩
theorem sg_read {n : Nat} {cs : List Value} {x : DataW H × List MemPlace} (h : TR enc w n 42 cs = some x) : ∃ p, SgR w cs p := by
 obtain ⟨xs, m, rfl, rfl, hl, hxl, hf⟩ := DataW.trod_struct Tryz.underlying42 h
 rw [cSg] at hl
 obtain ⟨a0, a1, rfl⟩ := two_of hl
 obtain ⟨x0, x1, rfl⟩ := two_of hxl
 have h0 : TR enc w m 3 ((([a0, a1] : List Value).drop 0).take (Tryz.prog.cellsOf 3)) = some x0 := by have h := hf 0 _ rfl; exact h
 rw [cInt] at h0
 change TR enc w m 3 [a0] = some x0 at h0
 have h1 : TR enc w m 3 ((([a0, a1] : List Value).drop 1).take (Tryz.prog.cellsOf 3)) = some x1 := by have h := hf 1 _ rfl; exact h
 rw [cInt] at h1
 change TR enc w m 3 [a1] = some x1 at h1
 obtain ⟨k0, e0⟩ := int_read h0
 obtain ⟨k1, e1⟩ := int_read h1
 simp only [List.cons.injEq, and_true] at e0 e1
 subst e0 e1
 exact ⟨⟨k0, k1⟩, rfl⟩
theorem ar_read {n : Nat} {cs : List Value} {x : DataW H × List MemPlace} (h : TR enc w n 81 cs = some x) : ∃ p, ArR w cs p := by
 obtain ⟨xs, m, rfl, rfl, hl, hxl, hf⟩ := DataW.trod_struct Tryz.underlying81 h
 rw [cAr] at hl
 obtain ⟨a0, a1, a2, a3, rfl⟩ := four_of hl
 obtain ⟨x0, x1, x2, x3, rfl⟩ := four_of hxl
 have h0 : TR enc w m 3 ((([a0, a1, a2, a3] : List Value).drop 0).take (Tryz.prog.cellsOf 3)) = some x0 := by have h := hf 0 _ rfl; exact h
 rw [cInt] at h0
 change TR enc w m 3 [a0] = some x0 at h0
 have h1 : TR enc w m 3 ((([a0, a1, a2, a3] : List Value).drop 1).take (Tryz.prog.cellsOf 3)) = some x1 := by have h := hf 1 _ rfl; exact h
 rw [cInt] at h1
 change TR enc w m 3 [a1] = some x1 at h1
 have h2 : TR enc w m 3 ((([a0, a1, a2, a3] : List Value).drop 2).take (Tryz.prog.cellsOf 3)) = some x2 := by have h := hf 2 _ rfl; exact h
 rw [cInt] at h2
 change TR enc w m 3 [a2] = some x2 at h2
 have h3 : TR enc w m 4 ((([a0, a1, a2, a3] : List Value).drop 3).take (Tryz.prog.cellsOf 4)) = some x3 := by have h := hf 3 _ rfl; exact h
 rw [cBool] at h3
 change TR enc w m 4 [a3] = some x3 at h3
 obtain ⟨k0, e0⟩ := int_read h0
 obtain ⟨k1, e1⟩ := int_read h1
 obtain ⟨k2, e2⟩ := int_read h2
 obtain ⟨k3, e3⟩ := bool_read h3
 simp only [List.cons.injEq, and_true] at e0 e1 e2 e3
 subst e0 e1 e2 e3
 exact ⟨⟨k0, k1, k2, k3⟩, rfl⟩
theorem pc_read {n : Nat} {cs : List Value} {x : DataW H × List MemPlace} (h : TR enc w n 45 cs = some x) : ∃ p, PcR w cs p := by
 obtain ⟨xs, m, rfl, rfl, hl, hxl, hf⟩ := DataW.trod_struct Tryz.underlying45 h
 rw [cPc] at hl
 obtain ⟨a0, a1, a2, rfl⟩ := three_of hl
 obtain ⟨x0, x1, x2, rfl⟩ := three_of hxl
 have h0 : TR enc w m 4 ((([a0, a1, a2] : List Value).drop 0).take (Tryz.prog.cellsOf 4)) = some x0 := by have h := hf 0 _ rfl; exact h
 rw [cBool] at h0
 change TR enc w m 4 [a0] = some x0 at h0
 have h1 : TR enc w m 3 ((([a0, a1, a2] : List Value).drop 1).take (Tryz.prog.cellsOf 3)) = some x1 := by have h := hf 1 _ rfl; exact h
 rw [cInt] at h1
 change TR enc w m 3 [a1] = some x1 at h1
 have h2 : TR enc w m 4 ((([a0, a1, a2] : List Value).drop 2).take (Tryz.prog.cellsOf 4)) = some x2 := by have h := hf 2 _ rfl; exact h
 rw [cBool] at h2
 change TR enc w m 4 [a2] = some x2 at h2
 obtain ⟨k0, e0⟩ := bool_read h0
 obtain ⟨k1, e1⟩ := int_read h1
 obtain ⟨k2, e2⟩ := bool_read h2
 simp only [List.cons.injEq, and_true] at e0 e1 e2
 subst e0 e1 e2
 exact ⟨⟨k0, k1, k2⟩, rfl⟩
instance : Inhabited ZI := ⟨⟨false, []⟩⟩
instance : Inhabited QI := ⟨⟨default, default⟩⟩
instance : Inhabited PtI := ⟨⟨default, default⟩⟩
instance : Inhabited RdI := ⟨⟨0, default⟩⟩
instance : Inhabited SgI := ⟨⟨0, 0⟩⟩
instance : Inhabited ArI := ⟨⟨0, 0, 0, false⟩⟩
instance : Inhabited PcI := ⟨⟨false, 0, false⟩⟩
instance : Inhabited EI := ⟨.mk 0 default ⟨#[]⟩ []⟩
instance : Inhabited CI := ⟨⟨0, [], [], [], 0⟩⟩
theorem ch_read {n : Nat} {cs : List Value} {x : DataW H × List MemPlace} (h : TR enc w n 43 cs = some x) (hw : Fits (x.1.weights Tryz.prog 43)) : ∃ p, ChR w cs p := by
 obtain ⟨v, xs, rfl, ha, -⟩ := arr_read (R := PcR) (sz := 3) (bytes := 24) Tryz.underlying43 cPc (by omega) (by kernel_rfl) (by omega) h hw (fun m ds y _ _ hy _ => pc_read hy)
 exact ⟨xs, v, rfl, ha⟩
theorem ints_read {n : Nat} {cs : List Value} {x : DataW H × List MemPlace} (h : TR enc w n 49 cs = some x) (hw : Fits (x.1.weights Tryz.prog 49)) : ∃ v xs, cs = [v] ∧ Ints w v xs := by
 obtain ⟨v, xs, rfl, ha, -⟩ := arr_read (R := IntR) (sz := 1) (bytes := 8) Tryz.underlying49 cInt (by omega) (by kernel_rfl) (by omega) h hw (fun m ds y _ _ hy _ => by
  obtain ⟨k, rfl⟩ := int_read hy
  exact ⟨k, rfl⟩)
 exact ⟨v, xs, rfl, ha⟩
theorem ex_read (K : Nat) : ∀ {n : Nat} {cs : List Value} {x : DataW H × List MemPlace}, n ≤ K → TR enc w n 69 cs = some x → Fits (x.1.weights Tryz.prog 69) → ∃ e, ExprR K w cs e := by
 induction K with
 | zero =>
  intro n cs x hn h hw
  obtain ⟨xs, m, rfl, -⟩ := DataW.trod_struct Tryz.underlying69 h
  omega
 | succ K ih =>
  intro n cs x hn h hw
  obtain ⟨xs, m, rfl, rfl, hl, hxl, hf⟩ := DataW.trod_struct Tryz.underlying69 h
  rw [cEx] at hl
  obtain ⟨a0, a1, a2, a3, a4, a5, a6, rfl⟩ := seven_ofX hl
  obtain ⟨x0, x1, x2, x3, rfl⟩ := four_of hxl
  have h0 : TR enc w m 3 ((([a0, a1, a2, a3, a4, a5, a6] : List Value).drop 0).take (Tryz.prog.cellsOf 3)) = some x0 := by have h := hf 0 _ rfl; exact h
  rw [cInt] at h0
  change TR enc w m 3 [a0] = some x0 at h0
  have h1 : TR enc w m 38 ((([a0, a1, a2, a3, a4, a5, a6] : List Value).drop 1).take (Tryz.prog.cellsOf 38)) = some x1 := by have h := hf 1 _ rfl; exact h
  rw [cQ] at h1
  change TR enc w m 38 [a1, a2, a3, a4] = some x1 at h1
  have h2 : TR enc w m 9 ((([a0, a1, a2, a3, a4, a5, a6] : List Value).drop 5).take (Tryz.prog.cellsOf 9)) = some x2 := by have h := hf 2 _ rfl; exact h
  rw [cStr] at h2
  change TR enc w m 9 [a5] = some x2 at h2
  have h3 : TR enc w m 50 ((([a0, a1, a2, a3, a4, a5, a6] : List Value).drop 6).take (Tryz.prog.cellsOf 50)) = some x3 := by have h := hf 3 _ rfl; exact h
  rw [cExs] at h3
  change TR enc w m 50 [a6] = some x3 at h3
  simp only [DataW.weights, Tryz.underlying69, List.map_cons, List.map_nil, DataW.weightsEach] at hw
  obtain ⟨k0, e0⟩ := int_read h0
  obtain ⟨q1, u1, v1, e1, hu1, hv1⟩ := q_read h1 hw.right.left
  obtain ⟨k2, e2⟩ := str_read h2
  obtain ⟨v, ys, e3, ha, hcap⟩ := arr_read (R := ExprR K) (sz := 7) (bytes := 112) Tryz.underlying50 cEx (by omega) (by kernel_rfl) (by omega) h3 hw.right.right.right.left (fun m' ds y hm' _ hy hwy => ih (by omega) hy hwy)
  simp only [List.cons.injEq, and_true] at e0 e1 e2 e3
  subst e0 e2 e3
  obtain ⟨rfl, rfl, rfl, rfl⟩ := e1
  obtain ⟨A, c, rfl, hl, hm, hel⟩ := ha
  refine ⟨.mk k0 q1 k2 ys, _, _, _, rfl, hu1, hv1, A, c, rfl, hl, ?_, hel⟩
  have := hcap A _ c rfl
  unfold maxLen
  omega
theorem cn_read (K : Nat) {n : Nat} {cs : List Value} {x : DataW H × List MemPlace} (hn : n ≤ K) (h : TR enc w n 52 cs = some x) (hw : Fits (x.1.weights Tryz.prog 52)) : ∃ c, ConR K w cs c := by
 obtain ⟨xs, m, rfl, rfl, hl, hxl, hf⟩ := DataW.trod_struct Tryz.underlying52 h
 rw [cCn] at hl
 obtain ⟨a0, a1, a2, a3, a4, rfl⟩ := five_of hl
 obtain ⟨x0, x1, x2, x3, x4, rfl⟩ := five_of hxl
 have h0 : TR enc w m 3 ((([a0, a1, a2, a3, a4] : List Value).drop 0).take (Tryz.prog.cellsOf 3)) = some x0 := by have h := hf 0 _ rfl; exact h
 rw [cInt] at h0
 change TR enc w m 3 [a0] = some x0 at h0
 have h1 : TR enc w m 49 ((([a0, a1, a2, a3, a4] : List Value).drop 1).take (Tryz.prog.cellsOf 49)) = some x1 := by have h := hf 1 _ rfl; exact h
 rw [cInts] at h1
 change TR enc w m 49 [a1] = some x1 at h1
 have h2 : TR enc w m 49 ((([a0, a1, a2, a3, a4] : List Value).drop 2).take (Tryz.prog.cellsOf 49)) = some x2 := by have h := hf 2 _ rfl; exact h
 rw [cInts] at h2
 change TR enc w m 49 [a2] = some x2 at h2
 have h3 : TR enc w m 50 ((([a0, a1, a2, a3, a4] : List Value).drop 3).take (Tryz.prog.cellsOf 50)) = some x3 := by have h := hf 3 _ rfl; exact h
 rw [cExs] at h3
 change TR enc w m 50 [a3] = some x3 at h3
 have h4 : TR enc w m 3 ((([a0, a1, a2, a3, a4] : List Value).drop 4).take (Tryz.prog.cellsOf 3)) = some x4 := by have h := hf 4 _ rfl; exact h
 rw [cInt] at h4
 change TR enc w m 3 [a4] = some x4 at h4
 simp only [DataW.weights, Tryz.underlying52, List.map_cons, List.map_nil, DataW.weightsEach] at hw
 obtain ⟨k0, e0⟩ := int_read h0
 obtain ⟨v1, l1, e1, i1⟩ := ints_read h1 hw.right.left
 obtain ⟨v2, l2, e2, i2⟩ := ints_read h2 hw.right.right.left
 obtain ⟨v3, l3, e3, i3, -⟩ := arr_read (R := ExprR K) (sz := 7) (bytes := 112) Tryz.underlying50 cEx (by omega) (by kernel_rfl) (by omega) h3 hw.right.right.right.left (fun m' ds y hm' _ hy hwy => ex_read K (by omega) hy hwy)
 obtain ⟨k4, e4⟩ := int_read h4
 simp only [List.cons.injEq, and_true] at e0 e1 e2 e3 e4
 subst e0 e1 e2 e3 e4
 exact ⟨⟨k0, l1, l2, l3, k4⟩, _, _, _, rfl, i1, i2, i3⟩
/-- The sketch. -/
theorem sk_read {n : Nat} {cs : List Value} {x : DataW H × List MemPlace} (h : TR enc w n 29 cs = some x) (hw : Fits (x.1.weights Tryz.prog 29)) : ∃ v0 v1 v2 v3 v4 v5 s, cs = [v0, v1, v2, v3, v4, v5] ∧ SkAt n w v0 v1 v2 v3 v4 v5 s := by
 obtain ⟨xs, m, rfl, rfl, hl, hxl, hf⟩ := DataW.trod_struct Tryz.underlying29 h
 rw [cSk] at hl
 obtain ⟨a0, a1, a2, a3, a4, a5, rfl⟩ := six_of hl
 obtain ⟨x0, x1, x2, x3, x4, x5, rfl⟩ := six_of hxl
 have h0 : TR enc w m 22 ((([a0, a1, a2, a3, a4, a5] : List Value).drop 0).take (Tryz.prog.cellsOf 22)) = some x0 := by have h := hf 0 _ rfl; exact h
 rw [cSks.1] at h0
 change TR enc w m 22 [a0] = some x0 at h0
 have h1 : TR enc w m 23 ((([a0, a1, a2, a3, a4, a5] : List Value).drop 1).take (Tryz.prog.cellsOf 23)) = some x1 := by have h := hf 1 _ rfl; exact h
 rw [cSks.2.1] at h1
 change TR enc w m 23 [a1] = some x1 at h1
 have h2 : TR enc w m 24 ((([a0, a1, a2, a3, a4, a5] : List Value).drop 2).take (Tryz.prog.cellsOf 24)) = some x2 := by have h := hf 2 _ rfl; exact h
 rw [cSks.2.2.1] at h2
 change TR enc w m 24 [a2] = some x2 at h2
 have h3 : TR enc w m 25 ((([a0, a1, a2, a3, a4, a5] : List Value).drop 3).take (Tryz.prog.cellsOf 25)) = some x3 := by have h := hf 3 _ rfl; exact h
 rw [cSks.2.2.2.1] at h3
 change TR enc w m 25 [a3] = some x3 at h3
 have h4 : TR enc w m 26 ((([a0, a1, a2, a3, a4, a5] : List Value).drop 4).take (Tryz.prog.cellsOf 26)) = some x4 := by have h := hf 4 _ rfl; exact h
 rw [cSks.2.2.2.2.1] at h4
 change TR enc w m 26 [a4] = some x4 at h4
 have h5 : TR enc w m 27 ((([a0, a1, a2, a3, a4, a5] : List Value).drop 5).take (Tryz.prog.cellsOf 27)) = some x5 := by have h := hf 5 _ rfl; exact h
 rw [cSks.2.2.2.2.2] at h5
 change TR enc w m 27 [a5] = some x5 at h5
 simp only [DataW.weights, Tryz.underlying29, List.map_cons, List.map_nil, DataW.weightsEach] at hw
 obtain ⟨v0, l0, e0, i0, -⟩ := arr_read (R := PtR) (sz := 8) (bytes := 128) Tryz.underlying22 cPt (by omega) (by kernel_rfl) (by omega) h0 hw.left (fun m' ds y hm' _ hy hwy => pt_read hy hwy)
 obtain ⟨v1, l1, e1, i1, -⟩ := arr_read (R := RdR) (sz := 5) (bytes := 72) Tryz.underlying23 cRd (by omega) (by kernel_rfl) (by omega) h1 hw.right.left (fun m' ds y hm' _ hy hwy => rd_read hy hwy)
 obtain ⟨v2, l2, e2, i2, -⟩ := arr_read (R := SgR) (sz := 2) (bytes := 16) Tryz.underlying24 cSg (by omega) (by kernel_rfl) (by omega) h2 hw.right.right.left (fun m' ds y hm' _ hy hwy => sg_read hy)
 obtain ⟨v3, l3, e3, i3, -⟩ := arr_read (R := ArR) (sz := 4) (bytes := 32) Tryz.underlying25 cAr (by omega) (by kernel_rfl) (by omega) h3 hw.right.right.right.left (fun m' ds y hm' _ hy hwy => ar_read hy)
 obtain ⟨v4, l4, e4, i4, -⟩ := arr_read (R := ChR) (sz := 1) (bytes := 24) Tryz.underlying26 cCh (by omega) (by kernel_rfl) (by omega) h4 hw.right.right.right.right.left (fun m' ds y hm' _ hy hwy => ch_read hy hwy)
 obtain ⟨v5, l5, e5, i5, -⟩ := arr_read (R := ConR (m + 1)) (sz := 5) (bytes := 88) Tryz.underlying27 cCn (by omega) (by kernel_rfl) (by omega) h5 hw.right.right.right.right.right.left (fun m' ds y hm' _ hy hwy => cn_read (m + 1) (by omega) hy hwy)
 simp only [List.cons.injEq, and_true] at e0 e1 e2 e3 e4 e5
 subst e0 e1 e2 e3 e4 e5
 exact ⟨_, _, _, _, _, _, ⟨l0, l1, l2, l3, l4, l5⟩, rfl, i0, i1, i2, i3, i4, i5⟩
end
end Go.Proofs.YtonleohlplkglaaGreatDoor
