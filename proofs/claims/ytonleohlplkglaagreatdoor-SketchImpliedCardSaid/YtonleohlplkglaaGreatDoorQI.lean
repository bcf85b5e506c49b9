/- Slices of structs as data; lists of numbers; within, different of the reference's layer 25. -/
import Derived.Test.YtonleohlplkglaaGreatDoorQH
namespace Go.Proofs.YtonleohlplkglaaGreatDoor
open Go Go.RowKit

/-- A slice of elements of 'sz' cells each, with a bound on its capacity. -/
def ArrAt {α : Type} (sz : Nat) (R : World → List Value → α → Prop) (w : World) (v : Value) (xs : List α) : Prop :=
  ∃ (A : Option Addr) (c : Nat), v = .slice A xs.length c ∧ xs.length ≤ c ∧ xs.length ≤ 35184372088832 ∧
    (xs ≠ [] → ∃ b off : Nat, A = some ⟨b, off, none⟩ ∧ b < w.heap.size ∧
      ∀ k x, xs[k]? = some x → ∃ cs : List Value, cs.length = sz ∧ (∀ j u, cs[j]? = some u → w.cell? ⟨b, off + (k * sz + j), none⟩ = some u) ∧ R w cs x)
theorem ArrAt.ext {α : Type} {sz : Nat} {R : World → List Value → α → Prop} (hR : Stable R) {w w' : World} {v : Value} {xs : List α} (h : ArrAt sz R w v xs) (hx : Ext w w') : ArrAt sz R w' v xs := by
  obtain ⟨A, c, hv, hl, hm, hc⟩ := h
  refine ⟨A, c, hv, hl, hm, fun hne => ?_⟩
  obtain ⟨b, off, hA, hb, hk⟩ := hc hne
  refine ⟨b, off, hA, Nat.lt_of_lt_of_le hb hx.size, fun k x hkx => ?_⟩
  obtain ⟨cs, hcs, hcell, hr⟩ := hk k x hkx
  exact ⟨cs, hcs, fun j u hj => (hx.cell (p := ⟨b, off + (k * sz + j), none⟩) hb).trans (hcell j u hj), hR _ _ _ _ hx hr⟩
theorem ArrAt.form {α : Type} {sz : Nat} {R : World → List Value → α → Prop} {w : World} {v : Value} {xs : List α} (h : ArrAt sz R w v xs) : ∃ A c, v = .slice A xs.length c ∧ xs.length ≤ c ∧ xs.length ≤ 35184372088832 := by
  obtain ⟨A, c, hv, hl, hm, _⟩ := h; exact ⟨A, c, hv, hl, hm⟩
/-- The place of a slice that is not empty, and one of its elements. -/
theorem ArrAt.at_ {α : Type} {sz : Nat} {R : World → List Value → α → Prop} {w : World} {A : Option Addr} {n c : Nat} {xs : List α} (h : ArrAt sz R w (.slice A n c) xs) {k : Nat} (hk : k < xs.length) :
    ∃ b off, A = some ⟨b, off, none⟩ ∧ b < w.heap.size ∧ ∃ cs : List Value, cs.length = sz ∧ (∀ j u, cs[j]? = some u → w.cell? ⟨b, off + (k * sz + j), none⟩ = some u) ∧ R w cs xs[k] := by
  obtain ⟨A', c', hv, hl, hm, hc⟩ := h
  obtain ⟨rfl, rfl, rfl⟩ : A = A' ∧ n = xs.length ∧ c = c' := by injection hv with h1 h2 h3; exact ⟨h1, h2, h3⟩
  obtain ⟨b, off, rfl, hb, hel⟩ := hc (by intro e; rw [e] at hk; simp at hk)
  obtain ⟨cs, h1, h2, h3⟩ := hel k _ (List.getElem?_eq_getElem hk)
  exact ⟨b, off, rfl, hb, cs, h1, h2, h3⟩
theorem ArrAt.len {α : Type} {sz : Nat} {R : World → List Value → α → Prop} {w : World} {A : Option Addr} {n c : Nat} {xs : List α} (h : ArrAt sz R w (.slice A n c) xs) : n = xs.length ∧ n ≤ c ∧ n ≤ 35184372088832 := by
  obtain ⟨A', c', hv, hl, hm, hc⟩ := h
  obtain ⟨rfl, rfl, rfl⟩ : A = A' ∧ n = xs.length ∧ c = c' := by injection hv with h1 h2 h3; exact ⟨h1, h2, h3⟩
  exact ⟨rfl, hl, hm⟩

def IntR (_ : World) (cs : List Value) (x : Int) : Prop := cs = [.int .i64 x]
theorem IntR.stable : Stable IntR := fun _ _ _ _ _ h => h
/-- A slice of numbers. -/
abbrev Ints (w : World) (v : Value) (xs : List Int) : Prop := ArrAt 1 IntR w v xs
theorem ints_cells {w : World} {A : Option Addr} {n c : Nat} {xs : List Int} (h : Ints w (.slice A n c) xs) {k : Nat} (hk : k < xs.length) :
    ∃ b off, A = some ⟨b, off, none⟩ ∧ b < w.heap.size ∧ ∀ j (hj : j < xs.length), w.cell? ⟨b, off + j, none⟩ = some (.int .i64 xs[j]) := by
  obtain ⟨A', c', hv, hl, hm, hc⟩ := h
  obtain ⟨rfl, rfl, rfl⟩ : A = A' ∧ n = xs.length ∧ c = c' := by injection hv with h1 h2 h3; exact ⟨h1, h2, h3⟩
  obtain ⟨b, off, rfl, hb, hel⟩ := hc (by intro e; rw [e] at hk; simp at hk)
  refine ⟨b, off, rfl, hb, fun j hj => ?_⟩
  obtain ⟨cs, h1, h2, h3⟩ := hel j _ (List.getElem?_eq_getElem hj)
  rw [h3] at h2
  simpa using h2 0 _ rfl

def withinL (xs : List Int) (n : Int) : Bool := xs.all fun x => decide (0 ≤ x) && decide (x < n)

set_option maxHeartbeats 800000 in
theorem ref25_within {A : Option Addr} {m c : Nat} {xs : List Int} {n : Int} {w : World} (h : Ints w (.slice A m c) xs) :
    Calls Tryz.prog 104 #[.slice A m c, .int .i64 n] w fun e w' => e = .returned (.bool (withinL xs n)) ∧ w = w' := by
  obtain ⟨rfl, hl, hm⟩ := h.len
  have HC := Lib.hid (fun k (hk : k < xs.length) => ints_cells h hk)
  clear h
  go_enter Tryz.func104, Tryz.ntmps104
  go_wp2_with fail
  go_loopg [5] xs.length (fun gk x wr => ∃ i : Nat, x = .int .i64 (i : Int) ∧ i + gk = xs.length ∧ Hid (withinL (xs.drop i) n = withinL xs n) ∧ wr = w)
  case atStart => exact ⟨0, rfl, by omega, rfl, rfl⟩
  case round =>
    obtain ⟨i, rfl, hi, HA, rfl⟩ := hrel
    by_cases hlt : i < xs.length
    · obtain ⟨b, off, rfl, hb, hcell⟩ := HC.out _ hlt
      have q := hcell i hlt
      have HD : Hid (withinL (xs.drop i) n = (decide (0 ≤ xs[i]) && decide (xs[i] < n) && withinL (xs.drop (i + 1)) n)) := by show _ = _; unfold withinL; rw [List.drop_eq_getElem_cons hlt, List.all_cons]
      clear hcell HC
      generalize xs[i] = x at *
      by_cases h0 : x < 0
      · have HR : Hid (withinL xs n = false) := by show _ = _; rw [← HA.out, HD.out]; simp; omega
        go_wp2_with fail
        refine bodyPost_ret (v := .bool false) ?_ rfl ⟨by rw [HR.out], rfl⟩
        simp [results, Tryz.results104, go_sem]
      · have h0' : decide (x < 0) = false := by simpa using h0
        by_cases h1 : n ≤ x
        · have HR : Hid (withinL xs n = false) := by show _ = _; rw [← HA.out, HD.out]; simp; omega
          go_wp2_with fail
          refine bodyPost_ret (v := .bool false) ?_ rfl ⟨by rw [HR.out], rfl⟩
          simp [results, Tryz.results104, go_sem]
        · have h1' : decide (n ≤ x) = false := by simpa using h1
          have HR : Hid (withinL (xs.drop (i + 1)) n = withinL xs n) := by
            show _ = _
            have e1 : decide (0 ≤ x) = true := by simp; omega
            have e2 : decide (x < n) = true := by simp; omega
            rw [← HA.out, HD.out, e1, e2]; rfl
          clear h0 h1
          go_wp2_with fail
          go_roundg (gk - 1)
          case measure => omega
          case rel => exact ⟨i + 1, by simp, by omega, HR, rfl⟩
    · have HR : Hid (withinL xs n = true) := by show _ = _; rw [← HA.out, List.drop_eq_nil_of_le (by omega)]; rfl
      go_wp2_with fail
      refine bodyPost_ret (v := .bool true) ?_ rfl ⟨by rw [HR.out], rfl⟩
      simp [results, Tryz.results104, go_sem]

theorem nodup_take_succ {xs : List Int} {i : Nat} (h : i < xs.length) : (xs.take (i + 1)).Nodup ↔ (xs.take i).Nodup ∧ xs[i] ∉ xs.take i := by
  rw [List.take_succ_eq_append_getElem h]
  rw [List.nodup_append]
  constructor
  · rintro ⟨h1, _, h2⟩
    exact ⟨h1, fun h3 => h2 _ h3 _ (by simp) rfl⟩
  · rintro ⟨h1, h2⟩
    refine ⟨h1, by simp, fun a ha b hb e => h2 ?_⟩
    simp at hb
    rw [← hb, ← e]; exact ha

set_option maxHeartbeats 800000 in
theorem ref25_different {A : Option Addr} {m c : Nat} {xs : List Int} {w : World} (h : Ints w (.slice A m c) xs) :
    Calls Tryz.prog 106 #[.slice A m c] w fun e w' => e = .returned (.bool (decide xs.Nodup)) ∧ Ext w w' := by
  obtain ⟨rfl, hl, hm⟩ := h.len
  have HC := Lib.hid (fun k (hk : k < xs.length) => ints_cells h hk)
  clear h
  go_enter Tryz.func106, Tryz.ntmps106
  go_wp2_with fail
  go_loopg [3, 4] xs.length (fun gk x _ wr => ∃ i : Nat, x = .int .i64 (i : Int) ∧ i + gk = xs.length ∧ Hid ((xs.take i).Nodup) ∧ Hid (Ext w wr))
  case atStart => exact ⟨0, rfl, by omega, List.nodup_nil, Ext.refl _⟩
  case round =>
    obtain ⟨i, rfl, hi, HN, HE⟩ := hrel
    by_cases hlt : i < xs.length
    · obtain ⟨b, off, rfl, hb, hcell⟩ := HC.out _ hlt
      have HS := Lib.hid (nodup_take_succ hlt)
      go_wp2_with fail
      go_loopg [4] i (fun gk2 x wr2 => ∃ k : Nat, x = .int .i64 (k : Int) ∧ k + gk2 = i ∧ Hid (xs[i] ∉ xs.take k) ∧ Hid (Ext w wr2))
      case atStart => exact ⟨0, rfl, by omega, by simp [Hid], HE.out⟩
      case round =>
        obtain ⟨k, rfl, hk, HM, HE2⟩ := hrel
        by_cases hkl : k < i
        · have q1 := (HE2.out.cell (p := ⟨b, off + i, none⟩) hb).trans (hcell i hlt)
          have q2 := (HE2.out.cell (p := ⟨b, off + k, none⟩) hb).trans (hcell k (by omega))
          have HK : Hid (xs[i] ≠ xs[k] → xs[i] ∉ xs.take (k + 1)) := by
            intro hne hmem
            rw [List.take_succ_eq_append_getElem (by omega)] at hmem
            rcases List.mem_append.1 hmem with h1 | h1
            · exact HM.out h1
            · simp at h1; exact hne h1
          have HK2 : Hid (xs[i] = xs[k] → ¬ xs.Nodup) := by
            intro he hnd
            have := (List.getElem_inj (h₀ := hlt) (h₁ := by omega) hnd).1 he
            omega
          clear hcell HC
          generalize xs[i] = x at *
          generalize xs[k] = y at *
          by_cases he : x = y
          · have he' : (x == y) = true := by simpa using he
            have HR : Hid (decide xs.Nodup = false) := by show _ = _; simpa using HK2.out he
            clear he
            go_wp2_with fail
            go_quiet (fail)
            go_wp2_with fail
            refine bodyPost_ret (v := .bool false) ?_ rfl ⟨by rw [HR.out], HE2.out.trans (Ext.drewN _ _)⟩
            simp [results, Tryz.results106, go_sem]
          · have he' : (x == y) = false := by simpa using he
            have HR := Lib.hid (HK.out he)
            clear he
            go_wp2_with fail
            go_quiet (fail)
            go_wp2_with fail
            go_roundg (i - (k + 1))
            case measure => omega
            case rel => exact ⟨k + 1, by simp, by omega, HR.out, HE2.out.trans (Ext.drewN _ _)⟩
        · have HR : Hid ((xs.take (i + 1)).Nodup) := by
            refine HS.out.2 ⟨HN.out, ?_⟩
            have := HM.out
            rwa [show k = i by omega] at this
          go_wp2_with fail
          go_roundg (xs.length - (i + 1))
          case measure => omega
          case rel => exact ⟨i + 1, by simp, by omega, HR.out, HE2.out⟩
    · have HR : Hid (decide xs.Nodup = true) := by show _ = _; have := HN.out; rw [List.take_of_length_le (by omega)] at this; simpa using this
      go_wp2_with fail
      refine bodyPost_ret (v := .bool true) ?_ rfl ⟨by rw [HR.out], HE.out⟩
      simp [results, Tryz.results106, go_sem]
end Go.Proofs.YtonleohlplkglaaGreatDoor

/- Rows, Of of the reference's layer 25. -/
namespace Go.Proofs.YtonleohlplkglaaGreatDoor
open Go Go.RowKit

/-- A row of the table of kinds. -/
structure KR where
  name : ByteArray
  p : Int
  c : Int
  n : Int
  v : Int
  q : Int
  side : Bool
def KR.cells (r : KR) : List Value := [.string r.name, .int .i64 r.p, .int .i64 r.c, .int .i64 r.n, .int .i64 r.v, .int .i64 r.q, .bool r.side]
def kTab : List KR :=
  [⟨⟨#[102, 105, 120]⟩, 1, 0, 2, 1, 2, false⟩,
   ⟨⟨#[100, 105, 115, 116, 97, 110, 99, 101]⟩, 2, 0, 1, 2, 1, false⟩,
   ⟨⟨#[105, 110, 99, 105, 100, 101, 110, 116]⟩, 3, 0, 0, 0, 1, false⟩,
   ⟨⟨#[111, 102, 102, 115, 101, 116]⟩, 3, 0, 1, 2, 1, true⟩,
   ⟨⟨#[97, 110, 103, 108, 101]⟩, 4, 0, 1, 3, 1, false⟩,
   ⟨⟨#[112, 97, 114, 97, 108, 108, 101, 108]⟩, 4, 0, 0, 0, 1, false⟩,
   ⟨⟨#[112, 101, 114, 112, 101, 110, 100, 105, 99, 117, 108, 97, 114]⟩, 4, 0, 0, 0, 1, false⟩,
   ⟨⟨#[101, 113, 117, 97, 108]⟩, 4, 0, 0, 0, 1, false⟩,
   ⟨⟨#[109, 105, 100, 112, 111, 105, 110, 116]⟩, 3, 0, 0, 0, 2, false⟩,
   ⟨⟨#[115, 121, 109, 109, 101, 116, 114, 105, 99]⟩, 4, 0, 0, 0, 2, false⟩,
   ⟨⟨#[104, 111, 114, 105, 122, 111, 110, 116, 97, 108]⟩, 2, 0, 0, 0, 1, false⟩,
   ⟨⟨#[118, 101, 114, 116, 105, 99, 97, 108]⟩, 2, 0, 0, 0, 1, false⟩,
   ⟨⟨#[111, 110, 99, 105, 114, 99, 108, 101]⟩, 1, 1, 0, 0, 1, false⟩,
   ⟨⟨#[114, 97, 100, 105, 117, 115]⟩, 0, 1, 1, 2, 1, false⟩,
   ⟨⟨#[115, 97, 109, 101, 114, 97, 100, 105, 117, 115]⟩, 0, 2, 0, 0, 1, false⟩,
   ⟨⟨#[116, 97, 110, 103, 101, 110, 116, 108, 105, 110, 101]⟩, 2, 1, 0, 0, 1, true⟩,
   ⟨⟨#[116, 97, 110, 103, 101, 110, 116, 99, 105, 114, 99, 108, 101]⟩, 0, 2, 0, 0, 1, true⟩]
def kCells : List Value := kTab.flatMap KR.cells

set_option maxRecDepth 100000 in
set_option maxHeartbeats 1600000 in
theorem ref25_Rows (w : World) : Calls Tryz.prog 149 #[] w fun e w' => e = .returned (.slice (some ⟨w.heap.size, 0, none⟩) 17 17) ∧ w' = w.alloc (.cells kCells.toArray 120) := by
  go_enter Tryz.func149, Tryz.ntmps149
  go_wp2_with fail
  go_ret
  exact ⟨rfl, rfl⟩

end Go.Proofs.YtonleohlplkglaaGreatDoor

/- Of of the reference's layer 25. -/
namespace Go.Proofs.YtonleohlplkglaaGreatDoor
open Go Go.RowKit

theorem flat_at : ∀ (l : List KR) (k : Nat) (r : KR), l[k]? = some r → ∀ j, j < 7 → (l.flatMap KR.cells)[k * 7 + j]? = r.cells[j]?
  | [], k, r, h, _, _ => by simp at h
  | a :: l, 0, r, h, j, hj => by
    simp at h; subst h
    rw [List.flatMap_cons, List.getElem?_append_left (by simp [KR.cells]; omega)]
    simp
  | a :: l, k + 1, r, h, j, hj => by
    rw [List.flatMap_cons, List.getElem?_append_right (by simp [KR.cells]; omega)]
    have : (k + 1) * 7 + j - a.cells.length = k * 7 + j := by simp [KR.cells]; omega
    rw [this]
    exact flat_at l k r (by simpa using h) j hj

/-- The row of a kind. -/
def kRow (kind : Int) : Option KR := if 1 ≤ kind then kTab[(kind - 1).toNat]? else none

theorem kRow_some {kind : Int} {r : KR} (h : kRow kind = some r) : ∃ k : Nat, k < 17 ∧ kind = (k : Int) + 1 ∧ kTab[k]? = some r := by
  unfold kRow at h
  split at h
  · have hlt : (kind - 1).toNat < 17 := by
      rcases Nat.lt_or_ge (kind - 1).toNat 17 with h1 | h1
      · exact h1
      · rw [List.getElem?_eq_none (by simpa [kTab] using h1)] at h; cases h
    exact ⟨(kind - 1).toNat, hlt, by omega, h⟩
  · cases h

theorem kRow_none {kind : Int} (h : kRow kind = none) : kind < 1 ∨ 17 < kind := by
  unfold kRow at h
  split at h
  · have : 17 ≤ (kind - 1).toNat := by
      have := List.getElem?_eq_none_iff.1 h
      simpa [kTab] using this
    omega
  · omega

theorem ref25_Rows' (w : World) : Calls Tryz.prog 149 #[] w fun e w' => ∃ g, e = .returned (.slice (some ⟨g, 0, none⟩) 17 17) ∧ Hid (CellsAt w' g kCells) ∧ w.heap.size ≤ g ∧ Ext w w' :=
  (ref25_Rows w).mono fun e w' h => by
    obtain ⟨h1, h2⟩ := h
    subst h2
    exact ⟨w.heap.size, h1, CellsAt.new w _ _, Nat.le_refl _, Ext.alloc _ _⟩

set_option maxRecDepth 100000 in
set_option maxHeartbeats 1600000 in
theorem ref25_Of_some {kind : Int} {r : KR} (w : World) (h : kRow kind = some r) : Calls Tryz.prog 103 #[.int .i64 kind] w fun e w' => e = .returned (.tuple #[.agg #[.string r.name, .int .i64 r.p, .int .i64 r.c, .int .i64 r.n, .int .i64 r.v, .int .i64 r.q, .bool r.side], .bool true]) ∧ Ext w w' := by
  obtain ⟨k, hk, rfl, hr⟩ := kRow_some h
  have HR := Lib.hid ref25_Rows'
  have HK := Lib.hid (fun j u (hj : r.cells[j]? = some u) (h7 : j < 7) => (flat_at kTab k r hr j h7).trans hj)
  clear h hr
  have k1 : ¬ ((k : Int) + 1 < 1) := by omega
  have k2 : ¬ (17 < (k : Int) + 1) := by omega
  go_enter Tryz.func103, Tryz.ntmps103
  go_wp2_with fail
  refine (HR.out _).mono ?_
  rintro e w1 ⟨g1, rfl, -, -, hx1⟩
  obtain ⟨hc1, hf1⟩ := bcell hx1
  have hz1 : w.heap.size < w1.heap.size := by have := hx1.size; simp at this; omega
  go_wp2_with fail
  refine (HR.out _).mono ?_
  rintro e w2 ⟨g, rfl, HC, hg, hx2⟩
  have hx12 := Ext.trans hx1 hx2
  have hE : Ext w w2 := Ext.trans (Ext.alloc _ _) hx12
  clear hc1 hf1 hz1 hx1
  obtain ⟨hc1, hf1⟩ := bcell hx12
  have q0 := HC.out.2 _ _ (HK.out 0 _ rfl (by omega))
  have q1 := HC.out.2 _ _ (HK.out 1 _ rfl (by omega))
  have q2 := HC.out.2 _ _ (HK.out 2 _ rfl (by omega))
  have q3 := HC.out.2 _ _ (HK.out 3 _ rfl (by omega))
  have q4 := HC.out.2 _ _ (HK.out 4 _ rfl (by omega))
  have q5 := HC.out.2 _ _ (HK.out 5 _ rfl (by omega))
  have q6 := HC.out.2 _ _ (HK.out 6 _ rfl (by omega))
  simp only [Nat.add_zero] at q0
  clear HC HK HR
  go_wp2_with fail
  refine bodyPost_ret (v := .tuple #[.agg #[.string r.name, .int .i64 r.p, .int .i64 r.c, .int .i64 r.n, .int .i64 r.v, .int .i64 r.q, .bool r.side], .bool true]) ?_ rfl ⟨rfl, ?_⟩
  · simp [results, Tryz.results103, go_sem, hc1]
  · repeat (first | with_reducible exact hE | refine Ext.pset ?_ (by simp) _)

set_option maxRecDepth 100000 in
set_option maxHeartbeats 1600000 in
theorem ref25_Of_none {kind : Int} (w : World) (h : kRow kind = none) : Calls Tryz.prog 103 #[.int .i64 kind] w fun e w' => e = .returned (.tuple #[.agg #[.string ⟨#[]⟩, .int .i64 0, .int .i64 0, .int .i64 0, .int .i64 0, .int .i64 0, .bool false], .bool false]) ∧ Ext w w' := by
  have HR := Lib.hid ref25_Rows'
  rcases kRow_none h with h1 | h1
  · clear h
    have k1 : decide (kind < 1) = true := by simpa using h1
    go_enter Tryz.func103, Tryz.ntmps103
    go_wp2_with fail
    refine bodyPost_ret (v := .tuple #[.agg #[.string ⟨#[]⟩, .int .i64 0, .int .i64 0, .int .i64 0, .int .i64 0, .int .i64 0, .bool false], .bool false]) ?_ rfl ⟨rfl, ?_⟩
    · simp [results, Tryz.results103, go_sem]
    · exact Ext.alloc _ _
  · clear h
    have k1 : ¬ (kind < 1) := by omega
    go_enter Tryz.func103, Tryz.ntmps103
    go_wp2_with fail
    refine (HR.out _).mono ?_
    rintro e w1 ⟨g1, rfl, -, -, hx1⟩
    have hE : Ext w w1 := Ext.trans (Ext.alloc _ _) hx1
    obtain ⟨hc1, hf1⟩ := bcell hx1
    go_wp2_with fail
    refine bodyPost_ret (v := .tuple #[.agg #[.string ⟨#[]⟩, .int .i64 0, .int .i64 0, .int .i64 0, .int .i64 0, .int .i64 0, .bool false], .bool false]) ?_ rfl ⟨rfl, ?_⟩
    · simp [results, Tryz.results103, go_sem, hc1]
    · repeat (first | with_reducible exact hE | refine Ext.pset ?_ (by simp) _)

end Go.Proofs.YtonleohlplkglaaGreatDoor
