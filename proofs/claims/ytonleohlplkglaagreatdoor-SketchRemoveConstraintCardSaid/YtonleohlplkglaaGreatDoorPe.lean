/- slices.IndexFunc, slices.ContainsFunc, sketch.all over slices of structs. -/
import Derived.Test.YtonleohlplkglaaGreatDoorSg
import Derived.Shelf.Abstract
namespace Go.Proofs.YtonleohlplkglaaGreatDoor
open Go Go.RowKit

/-- What is asked of a function that is handed to the library. -/
def PredX {α : Type} (sz g : Nat) (lb : Array Value) (mk : List Value → Value) (R : World → List Value → α → Prop) (p : α → Bool) (xs : List α) (w : World) : Prop :=
  ∀ (W : World) (cs : List Value) (x : α), x ∈ xs → Ext w W → cs.length = sz → R W cs x → Calls Tryz.prog g (#[mk cs] ++ lb) W fun e w' => e = .returned (.bool (p x)) ∧ Ext W w'
theorem PredX.ext {α : Type} {sz g : Nat} {lb : Array Value} {mk : List Value → Value} {R : World → List Value → α → Prop} {p : α → Bool} {xs : List α} {w w' : World} (h : PredX sz g lb mk R p xs w) (hx : Ext w w') : PredX sz g lb mk R p xs w' :=
  fun W cs x hm hW hl hR => h W cs x hm (Ext.trans hx hW) hl hR
def IdxRes (b : Bool) (w : World) (e : Ending) (w' : World) : Prop := ∃ r : Int, e = .returned (.int .i64 r) ∧ decide (0 ≤ r) = b ∧ Ext w w'
def aggV (cs : List Value) : Value := .agg cs.toArray
def oneV (cs : List Value) : Value := cs.getD 0 undef
theorem not_any_not {α : Type} (p : α → Bool) (xs : List α) : (!xs.any fun x => !p x) = xs.all p := by
  induction xs with
  | nil => rfl
  | cons a l ih => simp only [List.any_cons, List.all_cons, Bool.not_or, ih, Bool.not_not]


set_option maxHeartbeats 1600000 in
theorem idx_Point (g : Nat) (lb : Array Value) (eg : ∀ args w, (callFunc g args).run Tryz.prog w = .ok (.enter g args) w) {p : PtI → Bool} {A : Option Addr} {n c : Nat} {xs : List PtI} {w : World} (h : ArrAt 8 PtR w (.slice A n c) xs) (hp : PredX 8 g lb aggV PtR p xs w) :
    Calls Tryz.prog 130 #[.slice A n c, .func (.func g) #[] lb] w (IdxRes (xs.any p) w) := by
  obtain ⟨rfl, hl, hm⟩ := h.len
  have HA := Lib.hid h
  have HP := Lib.hid hp
  clear h hp
  go_enter Tryz.func130, Tryz.ntmps130
  go_wp2_with fail
  go_loopg [8] xs.length (fun gk x wr => ∃ i : Nat, x = .int .i64 (i : Int) ∧ i + gk = xs.length ∧ Hid ((xs.drop i).any p = xs.any p) ∧ Hid (Ext w wr))
  case atStart => exact ⟨0, rfl, by omega, rfl, Ext.refl _⟩
  case round =>
    obtain ⟨i, rfl, hi, HD, HE⟩ := hrel
    by_cases hlt : i < xs.length
    · obtain ⟨b, off, rfl, hb, ds, hds, hcell, hR⟩ := HA.out.at_ hlt
      have HC := Lib.hid (HP.out wr ds xs[i] (List.getElem_mem hlt) HE.out hds (PtR.stable _ _ _ _ HE.out hR))
      have HD2 : Hid ((xs.drop i).any p = (p xs[i] || (xs.drop (i + 1)).any p)) := by show _ = _; rw [List.drop_eq_getElem_cons hlt, List.any_cons]
      have HQ := Lib.hid (fun j u (hj : ds[j]? = some u) => (HE.out.cell (p := ⟨b, off + (i * 8 + j), none⟩) hb).trans (hcell j u hj))
      clear hcell hR
      match ds, hds with
      | [d0, d1, d2, d3, d4, d5, d6, d7], _ =>
        have q0 := HQ.out 0 _ rfl
        have q1 := HQ.out 1 _ rfl
        have q2 := HQ.out 2 _ rfl
        have q3 := HQ.out 3 _ rfl
        have q4 := HQ.out 4 _ rfl
        have q5 := HQ.out 5 _ rfl
        have q6 := HQ.out 6 _ rfl
        have q7 := HQ.out 7 _ rfl
        simp only [← Nat.add_assoc, Nat.add_zero] at q0 q1 q2 q3 q4 q5 q6 q7
        clear HQ
        generalize p xs[i] = px at *
        cases px with
        | true =>
          have HT : Hid (xs.any p = true) := by show _ = _; rw [← HD.out, HD2.out]; rfl
          go_wp2_with (go_at_fn g; refine HC.out.mono ?_; rintro e w2 ⟨rfl, hx2⟩)
          go_ret
          exact ⟨(i : Int), rfl, by rw [HT.out]; simp, HE.out.trans hx2⟩
        | false =>
          have HT : Hid ((xs.drop (i + 1)).any p = xs.any p) := by show _ = _; rw [← HD.out, HD2.out]; rfl
          go_wp2_with (go_at_fn g; refine HC.out.mono ?_; rintro e w2 ⟨rfl, hx2⟩)
          go_roundg (xs.length - (i + 1))
          case measure => omega
          case rel => exact ⟨i + 1, by simp, by omega, HT, HE.out.trans hx2⟩
    · have HT : Hid (xs.any p = false) := by show _ = _; rw [← HD.out, List.drop_eq_nil_of_le (by omega)]; rfl
      go_wp2_with fail
      go_ret
      exact ⟨-1, rfl, by rw [HT.out]; rfl, HE.out⟩

set_option maxHeartbeats 800000 in
theorem con_Point (g : Nat) (lb : Array Value) (eg : ∀ args w, (callFunc g args).run Tryz.prog w = .ok (.enter g args) w) {p : PtI → Bool} {A : Option Addr} {n c : Nat} {xs : List PtI} {w : World} (h : ArrAt 8 PtR w (.slice A n c) xs) (hp : PredX 8 g lb aggV PtR p xs w) :
    Calls Tryz.prog 78 #[.slice A n c, .func (.func g) #[] lb] w fun e w' => e = .returned (.bool (xs.any p)) ∧ Ext w w' := by
  have HI := Lib.hid (idx_Point g lb eg h hp)
  clear h hp
  generalize xs.any p = bb at *
  go_enter Tryz.func78, Tryz.ntmps78
  go_wp2_with fail
  refine HI.out.mono ?_
  rintro e w1 ⟨r, rfl, hr, hx1⟩
  have HR := Lib.hid hr
  clear hr
  go_wp2_with fail
  go_ret
  exact ⟨by rw [← HR.out]; rfl, hx1⟩

set_option maxHeartbeats 800000 in
theorem all1_Point (g : Nat) (lb : Array Value) (eg : ∀ args w, (callFunc g args).run Tryz.prog w = .ok (.enter g args) w) {p : PtI → Bool} {xs : List PtI} {w : World} (hp : PredX 8 g lb aggV PtR p xs w) {B : Nat} (hB : B < w.heap.size) (hc : w.cell? ⟨B, 0, none⟩ = some (.func (.func g) #[] lb)) :
    PredX 8 79 #[.pointer (some ⟨B, 0, none⟩)] aggV PtR (fun x => !p x) xs w := by
  intro W cs x hm hW hl hR
  have HC := Lib.hid (fun w1 (hx : Ext W w1) => hp w1 cs x hm (hW.trans hx) hl (PtR.stable _ _ _ _ hx hR))
  have q := (hW.cell (p := ⟨B, 0, none⟩) hB).trans hc
  have hBW : B < W.heap.size := Nat.lt_of_lt_of_le hB hW.size
  have hne : B ≠ W.heap.size := by omega
  clear hR hp hm hW hc
  match cs, hl with
  | [d0, d1, d2, d3, d4, d5, d6, d7], _ =>
    show Calls Tryz.prog 79 #[.agg #[d0, d1, d2, d3, d4, d5, d6, d7], .pointer (some ⟨B, 0, none⟩)] W fun e w' => e = .returned (.bool (!p x)) ∧ Ext W w'
    generalize p x = px at *
    go_enter Tryz.func79, Tryz.ntmps79
    go_wp2_with (go_at_fn g; refine (HC.out _ (Ext.alloc _ _)).mono ?_; rintro e w2 ⟨rfl, hx2⟩)
    go_ret
    exact ⟨rfl, (by repeat (first | exact Ext.refl _ | assumption | refine Ext.pdrewN ?_ _ | refine Ext.pdrew ?_ | refine Ext.palloc ?_ _ | refine Ext.pset ?_ (by simp <;> omega) _ | refine Ext.trans ?_ (by assumption)))⟩

set_option maxHeartbeats 800000 in
theorem all_Point (g : Nat) (lb : Array Value) (eg : ∀ args w, (callFunc g args).run Tryz.prog w = .ok (.enter g args) w) {p : PtI → Bool} {A : Option Addr} {n c : Nat} {xs : List PtI} {w : World} (h : ArrAt 8 PtR w (.slice A n c) xs) (hp : PredX 8 g lb aggV PtR p xs w) :
    Calls Tryz.prog 34 #[.slice A n c, .func (.func g) #[] lb] w fun e w' => e = .returned (.bool (xs.all p)) ∧ Ext w w' := by
  have hx0 : Ext w (w.alloc (.cells #[.func (.func g) #[] lb] 72)) := Ext.alloc _ _
  have HI := Lib.hid (con_Point 79 #[.pointer (some ⟨w.heap.size, 0, none⟩)] (enters_of Tryz.func79 (by kernel_rfl) rfl) (h.ext PtR.stable hx0)
    (all1_Point g lb eg (hp.ext hx0) (B := w.heap.size) (by simp) (by simp [go_sem])))
  have HN := Lib.hid (not_any_not p xs)
  clear h hp hx0
  generalize xs.any (fun x => !p x) = bb at *
  generalize xs.all p = ba at *
  go_enter Tryz.func34, Tryz.ntmps34
  go_wp2_with fail
  refine HI.out.mono ?_
  rintro e w1 ⟨rfl, hx1⟩
  go_wp2_with fail
  go_ret
  exact ⟨by rw [← HN.out]; rfl, (by repeat (first | exact Ext.refl _ | assumption | refine Ext.pdrewN ?_ _ | refine Ext.pdrew ?_ | refine Ext.palloc ?_ _ | refine Ext.pset ?_ (by simp <;> omega) _ | refine Ext.trans ?_ (by assumption)))⟩

set_option maxHeartbeats 1600000 in
theorem idx_Round (g : Nat) (lb : Array Value) (eg : ∀ args w, (callFunc g args).run Tryz.prog w = .ok (.enter g args) w) {p : RdI → Bool} {A : Option Addr} {n c : Nat} {xs : List RdI} {w : World} (h : ArrAt 5 RdR w (.slice A n c) xs) (hp : PredX 5 g lb aggV RdR p xs w) :
    Calls Tryz.prog 137 #[.slice A n c, .func (.func g) #[] lb] w (IdxRes (xs.any p) w) := by
  obtain ⟨rfl, hl, hm⟩ := h.len
  have HA := Lib.hid h
  have HP := Lib.hid hp
  clear h hp
  go_enter Tryz.func137, Tryz.ntmps137
  go_wp2_with fail
  go_loopg [8] xs.length (fun gk x wr => ∃ i : Nat, x = .int .i64 (i : Int) ∧ i + gk = xs.length ∧ Hid ((xs.drop i).any p = xs.any p) ∧ Hid (Ext w wr))
  case atStart => exact ⟨0, rfl, by omega, rfl, Ext.refl _⟩
  case round =>
    obtain ⟨i, rfl, hi, HD, HE⟩ := hrel
    by_cases hlt : i < xs.length
    · obtain ⟨b, off, rfl, hb, ds, hds, hcell, hR⟩ := HA.out.at_ hlt
      have HC := Lib.hid (HP.out wr ds xs[i] (List.getElem_mem hlt) HE.out hds (RdR.stable _ _ _ _ HE.out hR))
      have HD2 : Hid ((xs.drop i).any p = (p xs[i] || (xs.drop (i + 1)).any p)) := by show _ = _; rw [List.drop_eq_getElem_cons hlt, List.any_cons]
      have HQ := Lib.hid (fun j u (hj : ds[j]? = some u) => (HE.out.cell (p := ⟨b, off + (i * 5 + j), none⟩) hb).trans (hcell j u hj))
      clear hcell hR
      match ds, hds with
      | [d0, d1, d2, d3, d4], _ =>
        have q0 := HQ.out 0 _ rfl
        have q1 := HQ.out 1 _ rfl
        have q2 := HQ.out 2 _ rfl
        have q3 := HQ.out 3 _ rfl
        have q4 := HQ.out 4 _ rfl
        simp only [← Nat.add_assoc, Nat.add_zero] at q0 q1 q2 q3 q4
        clear HQ
        generalize p xs[i] = px at *
        cases px with
        | true =>
          have HT : Hid (xs.any p = true) := by show _ = _; rw [← HD.out, HD2.out]; rfl
          go_wp2_with (go_at_fn g; refine HC.out.mono ?_; rintro e w2 ⟨rfl, hx2⟩)
          go_ret
          exact ⟨(i : Int), rfl, by rw [HT.out]; simp, HE.out.trans hx2⟩
        | false =>
          have HT : Hid ((xs.drop (i + 1)).any p = xs.any p) := by show _ = _; rw [← HD.out, HD2.out]; rfl
          go_wp2_with (go_at_fn g; refine HC.out.mono ?_; rintro e w2 ⟨rfl, hx2⟩)
          go_roundg (xs.length - (i + 1))
          case measure => omega
          case rel => exact ⟨i + 1, by simp, by omega, HT, HE.out.trans hx2⟩
    · have HT : Hid (xs.any p = false) := by show _ = _; rw [← HD.out, List.drop_eq_nil_of_le (by omega)]; rfl
      go_wp2_with fail
      go_ret
      exact ⟨-1, rfl, by rw [HT.out]; rfl, HE.out⟩

set_option maxHeartbeats 800000 in
theorem con_Round (g : Nat) (lb : Array Value) (eg : ∀ args w, (callFunc g args).run Tryz.prog w = .ok (.enter g args) w) {p : RdI → Bool} {A : Option Addr} {n c : Nat} {xs : List RdI} {w : World} (h : ArrAt 5 RdR w (.slice A n c) xs) (hp : PredX 5 g lb aggV RdR p xs w) :
    Calls Tryz.prog 84 #[.slice A n c, .func (.func g) #[] lb] w fun e w' => e = .returned (.bool (xs.any p)) ∧ Ext w w' := by
  have HI := Lib.hid (idx_Round g lb eg h hp)
  clear h hp
  generalize xs.any p = bb at *
  go_enter Tryz.func84, Tryz.ntmps84
  go_wp2_with fail
  refine HI.out.mono ?_
  rintro e w1 ⟨r, rfl, hr, hx1⟩
  have HR := Lib.hid hr
  clear hr
  go_wp2_with fail
  go_ret
  exact ⟨by rw [← HR.out]; rfl, hx1⟩

set_option maxHeartbeats 800000 in
theorem all1_Round (g : Nat) (lb : Array Value) (eg : ∀ args w, (callFunc g args).run Tryz.prog w = .ok (.enter g args) w) {p : RdI → Bool} {xs : List RdI} {w : World} (hp : PredX 5 g lb aggV RdR p xs w) {B : Nat} (hB : B < w.heap.size) (hc : w.cell? ⟨B, 0, none⟩ = some (.func (.func g) #[] lb)) :
    PredX 5 85 #[.pointer (some ⟨B, 0, none⟩)] aggV RdR (fun x => !p x) xs w := by
  intro W cs x hm hW hl hR
  have HC := Lib.hid (fun w1 (hx : Ext W w1) => hp w1 cs x hm (hW.trans hx) hl (RdR.stable _ _ _ _ hx hR))
  have q := (hW.cell (p := ⟨B, 0, none⟩) hB).trans hc
  have hBW : B < W.heap.size := Nat.lt_of_lt_of_le hB hW.size
  have hne : B ≠ W.heap.size := by omega
  clear hR hp hm hW hc
  match cs, hl with
  | [d0, d1, d2, d3, d4], _ =>
    show Calls Tryz.prog 85 #[.agg #[d0, d1, d2, d3, d4], .pointer (some ⟨B, 0, none⟩)] W fun e w' => e = .returned (.bool (!p x)) ∧ Ext W w'
    generalize p x = px at *
    go_enter Tryz.func85, Tryz.ntmps85
    go_wp2_with (go_at_fn g; refine (HC.out _ (Ext.alloc _ _)).mono ?_; rintro e w2 ⟨rfl, hx2⟩)
    go_ret
    exact ⟨rfl, (by repeat (first | exact Ext.refl _ | assumption | refine Ext.pdrewN ?_ _ | refine Ext.pdrew ?_ | refine Ext.palloc ?_ _ | refine Ext.pset ?_ (by simp <;> omega) _ | refine Ext.trans ?_ (by assumption)))⟩

set_option maxHeartbeats 800000 in
theorem all_Round (g : Nat) (lb : Array Value) (eg : ∀ args w, (callFunc g args).run Tryz.prog w = .ok (.enter g args) w) {p : RdI → Bool} {A : Option Addr} {n c : Nat} {xs : List RdI} {w : World} (h : ArrAt 5 RdR w (.slice A n c) xs) (hp : PredX 5 g lb aggV RdR p xs w) :
    Calls Tryz.prog 37 #[.slice A n c, .func (.func g) #[] lb] w fun e w' => e = .returned (.bool (xs.all p)) ∧ Ext w w' := by
  have hx0 : Ext w (w.alloc (.cells #[.func (.func g) #[] lb] 76)) := Ext.alloc _ _
  have HI := Lib.hid (con_Round 85 #[.pointer (some ⟨w.heap.size, 0, none⟩)] (enters_of Tryz.func85 (by kernel_rfl) rfl) (h.ext RdR.stable hx0)
    (all1_Round g lb eg (hp.ext hx0) (B := w.heap.size) (by simp) (by simp [go_sem])))
  have HN := Lib.hid (not_any_not p xs)
  clear h hp hx0
  generalize xs.any (fun x => !p x) = bb at *
  generalize xs.all p = ba at *
  go_enter Tryz.func37, Tryz.ntmps37
  go_wp2_with fail
  refine HI.out.mono ?_
  rintro e w1 ⟨rfl, hx1⟩
  go_wp2_with fail
  go_ret
  exact ⟨by rw [← HN.out]; rfl, (by repeat (first | exact Ext.refl _ | assumption | refine Ext.pdrewN ?_ _ | refine Ext.pdrew ?_ | refine Ext.palloc ?_ _ | refine Ext.pset ?_ (by simp <;> omega) _ | refine Ext.trans ?_ (by assumption)))⟩

set_option maxHeartbeats 1600000 in
theorem idx_Segment (g : Nat) (lb : Array Value) (eg : ∀ args w, (callFunc g args).run Tryz.prog w = .ok (.enter g args) w) {p : SgI → Bool} {A : Option Addr} {n c : Nat} {xs : List SgI} {w : World} (h : ArrAt 2 SgR w (.slice A n c) xs) (hp : PredX 2 g lb aggV SgR p xs w) :
    Calls Tryz.prog 138 #[.slice A n c, .func (.func g) #[] lb] w (IdxRes (xs.any p) w) := by
  obtain ⟨rfl, hl, hm⟩ := h.len
  have HA := Lib.hid h
  have HP := Lib.hid hp
  clear h hp
  go_enter Tryz.func138, Tryz.ntmps138
  go_wp2_with fail
  go_loopg [8] xs.length (fun gk x wr => ∃ i : Nat, x = .int .i64 (i : Int) ∧ i + gk = xs.length ∧ Hid ((xs.drop i).any p = xs.any p) ∧ Hid (Ext w wr))
  case atStart => exact ⟨0, rfl, by omega, rfl, Ext.refl _⟩
  case round =>
    obtain ⟨i, rfl, hi, HD, HE⟩ := hrel
    by_cases hlt : i < xs.length
    · obtain ⟨b, off, rfl, hb, ds, hds, hcell, hR⟩ := HA.out.at_ hlt
      have HC := Lib.hid (HP.out wr ds xs[i] (List.getElem_mem hlt) HE.out hds (SgR.stable _ _ _ _ HE.out hR))
      have HD2 : Hid ((xs.drop i).any p = (p xs[i] || (xs.drop (i + 1)).any p)) := by show _ = _; rw [List.drop_eq_getElem_cons hlt, List.any_cons]
      have HQ := Lib.hid (fun j u (hj : ds[j]? = some u) => (HE.out.cell (p := ⟨b, off + (i * 2 + j), none⟩) hb).trans (hcell j u hj))
      clear hcell hR
      match ds, hds with
      | [d0, d1], _ =>
        have q0 := HQ.out 0 _ rfl
        have q1 := HQ.out 1 _ rfl
        simp only [← Nat.add_assoc, Nat.add_zero] at q0 q1
        clear HQ
        generalize p xs[i] = px at *
        cases px with
        | true =>
          have HT : Hid (xs.any p = true) := by show _ = _; rw [← HD.out, HD2.out]; rfl
          go_wp2_with (go_at_fn g; refine HC.out.mono ?_; rintro e w2 ⟨rfl, hx2⟩)
          go_ret
          exact ⟨(i : Int), rfl, by rw [HT.out]; simp, HE.out.trans hx2⟩
        | false =>
          have HT : Hid ((xs.drop (i + 1)).any p = xs.any p) := by show _ = _; rw [← HD.out, HD2.out]; rfl
          go_wp2_with (go_at_fn g; refine HC.out.mono ?_; rintro e w2 ⟨rfl, hx2⟩)
          go_roundg (xs.length - (i + 1))
          case measure => omega
          case rel => exact ⟨i + 1, by simp, by omega, HT, HE.out.trans hx2⟩
    · have HT : Hid (xs.any p = false) := by show _ = _; rw [← HD.out, List.drop_eq_nil_of_le (by omega)]; rfl
      go_wp2_with fail
      go_ret
      exact ⟨-1, rfl, by rw [HT.out]; rfl, HE.out⟩

set_option maxHeartbeats 800000 in
theorem con_Segment (g : Nat) (lb : Array Value) (eg : ∀ args w, (callFunc g args).run Tryz.prog w = .ok (.enter g args) w) {p : SgI → Bool} {A : Option Addr} {n c : Nat} {xs : List SgI} {w : World} (h : ArrAt 2 SgR w (.slice A n c) xs) (hp : PredX 2 g lb aggV SgR p xs w) :
    Calls Tryz.prog 86 #[.slice A n c, .func (.func g) #[] lb] w fun e w' => e = .returned (.bool (xs.any p)) ∧ Ext w w' := by
  have HI := Lib.hid (idx_Segment g lb eg h hp)
  clear h hp
  generalize xs.any p = bb at *
  go_enter Tryz.func86, Tryz.ntmps86
  go_wp2_with fail
  refine HI.out.mono ?_
  rintro e w1 ⟨r, rfl, hr, hx1⟩
  have HR := Lib.hid hr
  clear hr
  go_wp2_with fail
  go_ret
  exact ⟨by rw [← HR.out]; rfl, hx1⟩

set_option maxHeartbeats 800000 in
theorem all1_Segment (g : Nat) (lb : Array Value) (eg : ∀ args w, (callFunc g args).run Tryz.prog w = .ok (.enter g args) w) {p : SgI → Bool} {xs : List SgI} {w : World} (hp : PredX 2 g lb aggV SgR p xs w) {B : Nat} (hB : B < w.heap.size) (hc : w.cell? ⟨B, 0, none⟩ = some (.func (.func g) #[] lb)) :
    PredX 2 87 #[.pointer (some ⟨B, 0, none⟩)] aggV SgR (fun x => !p x) xs w := by
  intro W cs x hm hW hl hR
  have HC := Lib.hid (fun w1 (hx : Ext W w1) => hp w1 cs x hm (hW.trans hx) hl (SgR.stable _ _ _ _ hx hR))
  have q := (hW.cell (p := ⟨B, 0, none⟩) hB).trans hc
  have hBW : B < W.heap.size := Nat.lt_of_lt_of_le hB hW.size
  have hne : B ≠ W.heap.size := by omega
  clear hR hp hm hW hc
  match cs, hl with
  | [d0, d1], _ =>
    show Calls Tryz.prog 87 #[.agg #[d0, d1], .pointer (some ⟨B, 0, none⟩)] W fun e w' => e = .returned (.bool (!p x)) ∧ Ext W w'
    generalize p x = px at *
    go_enter Tryz.func87, Tryz.ntmps87
    go_wp2_with (go_at_fn g; refine (HC.out _ (Ext.alloc _ _)).mono ?_; rintro e w2 ⟨rfl, hx2⟩)
    go_ret
    exact ⟨rfl, (by repeat (first | exact Ext.refl _ | assumption | refine Ext.pdrewN ?_ _ | refine Ext.pdrew ?_ | refine Ext.palloc ?_ _ | refine Ext.pset ?_ (by simp <;> omega) _ | refine Ext.trans ?_ (by assumption)))⟩

set_option maxHeartbeats 800000 in
theorem all_Segment (g : Nat) (lb : Array Value) (eg : ∀ args w, (callFunc g args).run Tryz.prog w = .ok (.enter g args) w) {p : SgI → Bool} {A : Option Addr} {n c : Nat} {xs : List SgI} {w : World} (h : ArrAt 2 SgR w (.slice A n c) xs) (hp : PredX 2 g lb aggV SgR p xs w) :
    Calls Tryz.prog 41 #[.slice A n c, .func (.func g) #[] lb] w fun e w' => e = .returned (.bool (xs.all p)) ∧ Ext w w' := by
  have hx0 : Ext w (w.alloc (.cells #[.func (.func g) #[] lb] 78)) := Ext.alloc _ _
  have HI := Lib.hid (con_Segment 87 #[.pointer (some ⟨w.heap.size, 0, none⟩)] (enters_of Tryz.func87 (by kernel_rfl) rfl) (h.ext SgR.stable hx0)
    (all1_Segment g lb eg (hp.ext hx0) (B := w.heap.size) (by simp) (by simp [go_sem])))
  have HN := Lib.hid (not_any_not p xs)
  clear h hp hx0
  generalize xs.any (fun x => !p x) = bb at *
  generalize xs.all p = ba at *
  go_enter Tryz.func41, Tryz.ntmps41
  go_wp2_with fail
  refine HI.out.mono ?_
  rintro e w1 ⟨rfl, hx1⟩
  go_wp2_with fail
  go_ret
  exact ⟨by rw [← HN.out]; rfl, (by repeat (first | exact Ext.refl _ | assumption | refine Ext.pdrewN ?_ _ | refine Ext.pdrew ?_ | refine Ext.palloc ?_ _ | refine Ext.pset ?_ (by simp <;> omega) _ | refine Ext.trans ?_ (by assumption)))⟩

set_option maxHeartbeats 1600000 in
theorem idx_Arc (g : Nat) (lb : Array Value) (eg : ∀ args w, (callFunc g args).run Tryz.prog w = .ok (.enter g args) w) {p : ArI → Bool} {A : Option Addr} {n c : Nat} {xs : List ArI} {w : World} (h : ArrAt 4 ArR w (.slice A n c) xs) (hp : PredX 4 g lb aggV ArR p xs w) :
    Calls Tryz.prog 139 #[.slice A n c, .func (.func g) #[] lb] w (IdxRes (xs.any p) w) := by
  obtain ⟨rfl, hl, hm⟩ := h.len
  have HA := Lib.hid h
  have HP := Lib.hid hp
  clear h hp
  go_enter Tryz.func139, Tryz.ntmps139
  go_wp2_with fail
  go_loopg [8] xs.length (fun gk x wr => ∃ i : Nat, x = .int .i64 (i : Int) ∧ i + gk = xs.length ∧ Hid ((xs.drop i).any p = xs.any p) ∧ Hid (Ext w wr))
  case atStart => exact ⟨0, rfl, by omega, rfl, Ext.refl _⟩
  case round =>
    obtain ⟨i, rfl, hi, HD, HE⟩ := hrel
    by_cases hlt : i < xs.length
    · obtain ⟨b, off, rfl, hb, ds, hds, hcell, hR⟩ := HA.out.at_ hlt
      have HC := Lib.hid (HP.out wr ds xs[i] (List.getElem_mem hlt) HE.out hds (ArR.stable _ _ _ _ HE.out hR))
      have HD2 : Hid ((xs.drop i).any p = (p xs[i] || (xs.drop (i + 1)).any p)) := by show _ = _; rw [List.drop_eq_getElem_cons hlt, List.any_cons]
      have HQ := Lib.hid (fun j u (hj : ds[j]? = some u) => (HE.out.cell (p := ⟨b, off + (i * 4 + j), none⟩) hb).trans (hcell j u hj))
      clear hcell hR
      match ds, hds with
      | [d0, d1, d2, d3], _ =>
        have q0 := HQ.out 0 _ rfl
        have q1 := HQ.out 1 _ rfl
        have q2 := HQ.out 2 _ rfl
        have q3 := HQ.out 3 _ rfl
        simp only [← Nat.add_assoc, Nat.add_zero] at q0 q1 q2 q3
        clear HQ
        generalize p xs[i] = px at *
        cases px with
        | true =>
          have HT : Hid (xs.any p = true) := by show _ = _; rw [← HD.out, HD2.out]; rfl
          go_wp2_with (go_at_fn g; refine HC.out.mono ?_; rintro e w2 ⟨rfl, hx2⟩)
          go_ret
          exact ⟨(i : Int), rfl, by rw [HT.out]; simp, HE.out.trans hx2⟩
        | false =>
          have HT : Hid ((xs.drop (i + 1)).any p = xs.any p) := by show _ = _; rw [← HD.out, HD2.out]; rfl
          go_wp2_with (go_at_fn g; refine HC.out.mono ?_; rintro e w2 ⟨rfl, hx2⟩)
          go_roundg (xs.length - (i + 1))
          case measure => omega
          case rel => exact ⟨i + 1, by simp, by omega, HT, HE.out.trans hx2⟩
    · have HT : Hid (xs.any p = false) := by show _ = _; rw [← HD.out, List.drop_eq_nil_of_le (by omega)]; rfl
      go_wp2_with fail
      go_ret
      exact ⟨-1, rfl, by rw [HT.out]; rfl, HE.out⟩

set_option maxHeartbeats 800000 in
theorem con_Arc (g : Nat) (lb : Array Value) (eg : ∀ args w, (callFunc g args).run Tryz.prog w = .ok (.enter g args) w) {p : ArI → Bool} {A : Option Addr} {n c : Nat} {xs : List ArI} {w : World} (h : ArrAt 4 ArR w (.slice A n c) xs) (hp : PredX 4 g lb aggV ArR p xs w) :
    Calls Tryz.prog 88 #[.slice A n c, .func (.func g) #[] lb] w fun e w' => e = .returned (.bool (xs.any p)) ∧ Ext w w' := by
  have HI := Lib.hid (idx_Arc g lb eg h hp)
  clear h hp
  generalize xs.any p = bb at *
  go_enter Tryz.func88, Tryz.ntmps88
  go_wp2_with fail
  refine HI.out.mono ?_
  rintro e w1 ⟨r, rfl, hr, hx1⟩
  have HR := Lib.hid hr
  clear hr
  go_wp2_with fail
  go_ret
  exact ⟨by rw [← HR.out]; rfl, hx1⟩

set_option maxHeartbeats 800000 in
theorem all1_Arc (g : Nat) (lb : Array Value) (eg : ∀ args w, (callFunc g args).run Tryz.prog w = .ok (.enter g args) w) {p : ArI → Bool} {xs : List ArI} {w : World} (hp : PredX 4 g lb aggV ArR p xs w) {B : Nat} (hB : B < w.heap.size) (hc : w.cell? ⟨B, 0, none⟩ = some (.func (.func g) #[] lb)) :
    PredX 4 89 #[.pointer (some ⟨B, 0, none⟩)] aggV ArR (fun x => !p x) xs w := by
  intro W cs x hm hW hl hR
  have HC := Lib.hid (fun w1 (hx : Ext W w1) => hp w1 cs x hm (hW.trans hx) hl (ArR.stable _ _ _ _ hx hR))
  have q := (hW.cell (p := ⟨B, 0, none⟩) hB).trans hc
  have hBW : B < W.heap.size := Nat.lt_of_lt_of_le hB hW.size
  have hne : B ≠ W.heap.size := by omega
  clear hR hp hm hW hc
  match cs, hl with
  | [d0, d1, d2, d3], _ =>
    show Calls Tryz.prog 89 #[.agg #[d0, d1, d2, d3], .pointer (some ⟨B, 0, none⟩)] W fun e w' => e = .returned (.bool (!p x)) ∧ Ext W w'
    generalize p x = px at *
    go_enter Tryz.func89, Tryz.ntmps89
    go_wp2_with (go_at_fn g; refine (HC.out _ (Ext.alloc _ _)).mono ?_; rintro e w2 ⟨rfl, hx2⟩)
    go_ret
    exact ⟨rfl, (by repeat (first | exact Ext.refl _ | assumption | refine Ext.pdrewN ?_ _ | refine Ext.pdrew ?_ | refine Ext.palloc ?_ _ | refine Ext.pset ?_ (by simp <;> omega) _ | refine Ext.trans ?_ (by assumption)))⟩

set_option maxHeartbeats 800000 in
theorem all_Arc (g : Nat) (lb : Array Value) (eg : ∀ args w, (callFunc g args).run Tryz.prog w = .ok (.enter g args) w) {p : ArI → Bool} {A : Option Addr} {n c : Nat} {xs : List ArI} {w : World} (h : ArrAt 4 ArR w (.slice A n c) xs) (hp : PredX 4 g lb aggV ArR p xs w) :
    Calls Tryz.prog 43 #[.slice A n c, .func (.func g) #[] lb] w fun e w' => e = .returned (.bool (xs.all p)) ∧ Ext w w' := by
  have hx0 : Ext w (w.alloc (.cells #[.func (.func g) #[] lb] 83)) := Ext.alloc _ _
  have HI := Lib.hid (con_Arc 89 #[.pointer (some ⟨w.heap.size, 0, none⟩)] (enters_of Tryz.func89 (by kernel_rfl) rfl) (h.ext ArR.stable hx0)
    (all1_Arc g lb eg (hp.ext hx0) (B := w.heap.size) (by simp) (by simp [go_sem])))
  have HN := Lib.hid (not_any_not p xs)
  clear h hp hx0
  generalize xs.any (fun x => !p x) = bb at *
  generalize xs.all p = ba at *
  go_enter Tryz.func43, Tryz.ntmps43
  go_wp2_with fail
  refine HI.out.mono ?_
  rintro e w1 ⟨rfl, hx1⟩
  go_wp2_with fail
  go_ret
  exact ⟨by rw [← HN.out]; rfl, (by repeat (first | exact Ext.refl _ | assumption | refine Ext.pdrewN ?_ _ | refine Ext.pdrew ?_ | refine Ext.palloc ?_ _ | refine Ext.pset ?_ (by simp <;> omega) _ | refine Ext.trans ?_ (by assumption)))⟩

set_option maxHeartbeats 1600000 in
theorem idx_Chain (g : Nat) (lb : Array Value) (eg : ∀ args w, (callFunc g args).run Tryz.prog w = .ok (.enter g args) w) {p : (List PcI) → Bool} {A : Option Addr} {n c : Nat} {xs : List (List PcI)} {w : World} (h : ArrAt 1 ChR w (.slice A n c) xs) (hp : PredX 1 g lb oneV ChR p xs w) :
    Calls Tryz.prog 129 #[.slice A n c, .func (.func g) #[] lb] w (IdxRes (xs.any p) w) := by
  obtain ⟨rfl, hl, hm⟩ := h.len
  have HA := Lib.hid h
  have HP := Lib.hid hp
  clear h hp
  go_enter Tryz.func129, Tryz.ntmps129
  go_wp2_with fail
  go_loopg [8] xs.length (fun gk x wr => ∃ i : Nat, x = .int .i64 (i : Int) ∧ i + gk = xs.length ∧ Hid ((xs.drop i).any p = xs.any p) ∧ Hid (Ext w wr))
  case atStart => exact ⟨0, rfl, by omega, rfl, Ext.refl _⟩
  case round =>
    obtain ⟨i, rfl, hi, HD, HE⟩ := hrel
    by_cases hlt : i < xs.length
    · obtain ⟨b, off, rfl, hb, ds, hds, hcell, hR⟩ := HA.out.at_ hlt
      have HC := Lib.hid (HP.out wr ds xs[i] (List.getElem_mem hlt) HE.out hds (ChR.stable _ _ _ _ HE.out hR))
      have HD2 : Hid ((xs.drop i).any p = (p xs[i] || (xs.drop (i + 1)).any p)) := by show _ = _; rw [List.drop_eq_getElem_cons hlt, List.any_cons]
      have HQ := Lib.hid (fun j u (hj : ds[j]? = some u) => (HE.out.cell (p := ⟨b, off + (i * 1 + j), none⟩) hb).trans (hcell j u hj))
      clear hcell hR
      match ds, hds with
      | [d0], _ =>
        have q0 := HQ.out 0 _ rfl
        simp only [Nat.add_zero, Nat.mul_one] at q0
        clear HQ
        generalize p xs[i] = px at *
        cases px with
        | true =>
          have HT : Hid (xs.any p = true) := by show _ = _; rw [← HD.out, HD2.out]; rfl
          go_wp2_with (go_at_fn g; refine HC.out.mono ?_; rintro e w2 ⟨rfl, hx2⟩)
          go_ret
          exact ⟨(i : Int), rfl, by rw [HT.out]; simp, HE.out.trans hx2⟩
        | false =>
          have HT : Hid ((xs.drop (i + 1)).any p = xs.any p) := by show _ = _; rw [← HD.out, HD2.out]; rfl
          go_wp2_with (go_at_fn g; refine HC.out.mono ?_; rintro e w2 ⟨rfl, hx2⟩)
          go_roundg (xs.length - (i + 1))
          case measure => omega
          case rel => exact ⟨i + 1, by simp, by omega, HT, HE.out.trans hx2⟩
    · have HT : Hid (xs.any p = false) := by show _ = _; rw [← HD.out, List.drop_eq_nil_of_le (by omega)]; rfl
      go_wp2_with fail
      go_ret
      exact ⟨-1, rfl, by rw [HT.out]; rfl, HE.out⟩

set_option maxHeartbeats 800000 in
theorem con_Chain (g : Nat) (lb : Array Value) (eg : ∀ args w, (callFunc g args).run Tryz.prog w = .ok (.enter g args) w) {p : (List PcI) → Bool} {A : Option Addr} {n c : Nat} {xs : List (List PcI)} {w : World} (h : ArrAt 1 ChR w (.slice A n c) xs) (hp : PredX 1 g lb oneV ChR p xs w) :
    Calls Tryz.prog 76 #[.slice A n c, .func (.func g) #[] lb] w fun e w' => e = .returned (.bool (xs.any p)) ∧ Ext w w' := by
  have HI := Lib.hid (idx_Chain g lb eg h hp)
  clear h hp
  generalize xs.any p = bb at *
  go_enter Tryz.func76, Tryz.ntmps76
  go_wp2_with fail
  refine HI.out.mono ?_
  rintro e w1 ⟨r, rfl, hr, hx1⟩
  have HR := Lib.hid hr
  clear hr
  go_wp2_with fail
  go_ret
  exact ⟨by rw [← HR.out]; rfl, hx1⟩

set_option maxHeartbeats 800000 in
theorem all1_Chain (g : Nat) (lb : Array Value) (eg : ∀ args w, (callFunc g args).run Tryz.prog w = .ok (.enter g args) w) {p : (List PcI) → Bool} {xs : List (List PcI)} {w : World} (hp : PredX 1 g lb oneV ChR p xs w) {B : Nat} (hB : B < w.heap.size) (hc : w.cell? ⟨B, 0, none⟩ = some (.func (.func g) #[] lb)) :
    PredX 1 90 #[.pointer (some ⟨B, 0, none⟩)] oneV ChR (fun x => !p x) xs w := by
  intro W cs x hm hW hl hR
  have HC := Lib.hid (fun w1 (hx : Ext W w1) => hp w1 cs x hm (hW.trans hx) hl (ChR.stable _ _ _ _ hx hR))
  have q := (hW.cell (p := ⟨B, 0, none⟩) hB).trans hc
  have hBW : B < W.heap.size := Nat.lt_of_lt_of_le hB hW.size
  have hne : B ≠ W.heap.size := by omega
  clear hR hp hm hW hc
  match cs, hl with
  | [d0], _ =>
    show Calls Tryz.prog 90 #[d0, .pointer (some ⟨B, 0, none⟩)] W fun e w' => e = .returned (.bool (!p x)) ∧ Ext W w'
    generalize p x = px at *
    go_enter Tryz.func90, Tryz.ntmps90
    go_wp2_with (go_at_fn g; refine (HC.out _ (Ext.refl _)).mono ?_; rintro e w2 ⟨rfl, hx2⟩)
    go_ret
    exact ⟨rfl, (by repeat (first | exact Ext.refl _ | assumption | refine Ext.pdrewN ?_ _ | refine Ext.pdrew ?_ | refine Ext.palloc ?_ _ | refine Ext.pset ?_ (by simp <;> omega) _ | refine Ext.trans ?_ (by assumption)))⟩

set_option maxHeartbeats 800000 in
theorem all_Chain (g : Nat) (lb : Array Value) (eg : ∀ args w, (callFunc g args).run Tryz.prog w = .ok (.enter g args) w) {p : (List PcI) → Bool} {A : Option Addr} {n c : Nat} {xs : List (List PcI)} {w : World} (h : ArrAt 1 ChR w (.slice A n c) xs) (hp : PredX 1 g lb oneV ChR p xs w) :
    Calls Tryz.prog 46 #[.slice A n c, .func (.func g) #[] lb] w fun e w' => e = .returned (.bool (xs.all p)) ∧ Ext w w' := by
  have hx0 : Ext w (w.alloc (.cells #[.func (.func g) #[] lb] 86)) := Ext.alloc _ _
  have HI := Lib.hid (con_Chain 90 #[.pointer (some ⟨w.heap.size, 0, none⟩)] (enters_of Tryz.func90 (by kernel_rfl) rfl) (h.ext ChR.stable hx0)
    (all1_Chain g lb eg (hp.ext hx0) (B := w.heap.size) (by simp) (by simp [go_sem])))
  have HN := Lib.hid (not_any_not p xs)
  clear h hp hx0
  generalize xs.any (fun x => !p x) = bb at *
  generalize xs.all p = ba at *
  go_enter Tryz.func46, Tryz.ntmps46
  go_wp2_with fail
  refine HI.out.mono ?_
  rintro e w1 ⟨rfl, hx1⟩
  go_wp2_with fail
  go_ret
  exact ⟨by rw [← HN.out]; rfl, (by repeat (first | exact Ext.refl _ | assumption | refine Ext.pdrewN ?_ _ | refine Ext.pdrew ?_ | refine Ext.palloc ?_ _ | refine Ext.pset ?_ (by simp <;> omega) _ | refine Ext.trans ?_ (by assumption)))⟩

set_option maxHeartbeats 1600000 in
theorem idx_Con (K : Nat) (g : Nat) (lb : Array Value) (eg : ∀ args w, (callFunc g args).run Tryz.prog w = .ok (.enter g args) w) {p : CI → Bool} {A : Option Addr} {n c : Nat} {xs : List CI} {w : World} (h : ArrAt 5 (ConR K) w (.slice A n c) xs) (hp : PredX 5 g lb aggV (ConR K) p xs w) :
    Calls Tryz.prog 110 #[.slice A n c, .func (.func g) #[] lb] w (IdxRes (xs.any p) w) := by
  obtain ⟨rfl, hl, hm⟩ := h.len
  have HA := Lib.hid h
  have HP := Lib.hid hp
  clear h hp
  go_enter Tryz.func110, Tryz.ntmps110
  go_wp2_with fail
  go_loopg [8] xs.length (fun gk x wr => ∃ i : Nat, x = .int .i64 (i : Int) ∧ i + gk = xs.length ∧ Hid ((xs.drop i).any p = xs.any p) ∧ Hid (Ext w wr))
  case atStart => exact ⟨0, rfl, by omega, rfl, Ext.refl _⟩
  case round =>
    obtain ⟨i, rfl, hi, HD, HE⟩ := hrel
    by_cases hlt : i < xs.length
    · obtain ⟨b, off, rfl, hb, ds, hds, hcell, hR⟩ := HA.out.at_ hlt
      have HC := Lib.hid (HP.out wr ds xs[i] (List.getElem_mem hlt) HE.out hds ((ConR.stable K) _ _ _ _ HE.out hR))
      have HD2 : Hid ((xs.drop i).any p = (p xs[i] || (xs.drop (i + 1)).any p)) := by show _ = _; rw [List.drop_eq_getElem_cons hlt, List.any_cons]
      have HQ := Lib.hid (fun j u (hj : ds[j]? = some u) => (HE.out.cell (p := ⟨b, off + (i * 5 + j), none⟩) hb).trans (hcell j u hj))
      clear hcell hR
      match ds, hds with
      | [d0, d1, d2, d3, d4], _ =>
        have q0 := HQ.out 0 _ rfl
        have q1 := HQ.out 1 _ rfl
        have q2 := HQ.out 2 _ rfl
        have q3 := HQ.out 3 _ rfl
        have q4 := HQ.out 4 _ rfl
        simp only [← Nat.add_assoc, Nat.add_zero] at q0 q1 q2 q3 q4
        clear HQ
        generalize p xs[i] = px at *
        cases px with
        | true =>
          have HT : Hid (xs.any p = true) := by show _ = _; rw [← HD.out, HD2.out]; rfl
          go_wp2_with (go_at_fn g; refine HC.out.mono ?_; rintro e w2 ⟨rfl, hx2⟩)
          go_ret
          exact ⟨(i : Int), rfl, by rw [HT.out]; simp, HE.out.trans hx2⟩
        | false =>
          have HT : Hid ((xs.drop (i + 1)).any p = xs.any p) := by show _ = _; rw [← HD.out, HD2.out]; rfl
          go_wp2_with (go_at_fn g; refine HC.out.mono ?_; rintro e w2 ⟨rfl, hx2⟩)
          go_roundg (xs.length - (i + 1))
          case measure => omega
          case rel => exact ⟨i + 1, by simp, by omega, HT, HE.out.trans hx2⟩
    · have HT : Hid (xs.any p = false) := by show _ = _; rw [← HD.out, List.drop_eq_nil_of_le (by omega)]; rfl
      go_wp2_with fail
      go_ret
      exact ⟨-1, rfl, by rw [HT.out]; rfl, HE.out⟩

set_option maxHeartbeats 800000 in
theorem con_Con (K : Nat) (g : Nat) (lb : Array Value) (eg : ∀ args w, (callFunc g args).run Tryz.prog w = .ok (.enter g args) w) {p : CI → Bool} {A : Option Addr} {n c : Nat} {xs : List CI} {w : World} (h : ArrAt 5 (ConR K) w (.slice A n c) xs) (hp : PredX 5 g lb aggV (ConR K) p xs w) :
    Calls Tryz.prog 60 #[.slice A n c, .func (.func g) #[] lb] w fun e w' => e = .returned (.bool (xs.any p)) ∧ Ext w w' := by
  have HI := Lib.hid (idx_Con K g lb eg h hp)
  clear h hp
  generalize xs.any p = bb at *
  go_enter Tryz.func60, Tryz.ntmps60
  go_wp2_with fail
  refine HI.out.mono ?_
  rintro e w1 ⟨r, rfl, hr, hx1⟩
  have HR := Lib.hid hr
  clear hr
  go_wp2_with fail
  go_ret
  exact ⟨by rw [← HR.out]; rfl, hx1⟩

set_option maxHeartbeats 800000 in
theorem all1_Con (K : Nat) (g : Nat) (lb : Array Value) (eg : ∀ args w, (callFunc g args).run Tryz.prog w = .ok (.enter g args) w) {p : CI → Bool} {xs : List CI} {w : World} (hp : PredX 5 g lb aggV (ConR K) p xs w) {B : Nat} (hB : B < w.heap.size) (hc : w.cell? ⟨B, 0, none⟩ = some (.func (.func g) #[] lb)) :
    PredX 5 91 #[.pointer (some ⟨B, 0, none⟩)] aggV (ConR K) (fun x => !p x) xs w := by
  intro W cs x hm hW hl hR
  have HC := Lib.hid (fun w1 (hx : Ext W w1) => hp w1 cs x hm (hW.trans hx) hl ((ConR.stable K) _ _ _ _ hx hR))
  have q := (hW.cell (p := ⟨B, 0, none⟩) hB).trans hc
  have hBW : B < W.heap.size := Nat.lt_of_lt_of_le hB hW.size
  have hne : B ≠ W.heap.size := by omega
  clear hR hp hm hW hc
  match cs, hl with
  | [d0, d1, d2, d3, d4], _ =>
    show Calls Tryz.prog 91 #[.agg #[d0, d1, d2, d3, d4], .pointer (some ⟨B, 0, none⟩)] W fun e w' => e = .returned (.bool (!p x)) ∧ Ext W w'
    generalize p x = px at *
    go_enter Tryz.func91, Tryz.ntmps91
    go_wp2_with (go_at_fn g; refine (HC.out _ (Ext.alloc _ _)).mono ?_; rintro e w2 ⟨rfl, hx2⟩)
    go_ret
    exact ⟨rfl, (by repeat (first | exact Ext.refl _ | assumption | refine Ext.pdrewN ?_ _ | refine Ext.pdrew ?_ | refine Ext.palloc ?_ _ | refine Ext.pset ?_ (by simp <;> omega) _ | refine Ext.trans ?_ (by assumption)))⟩

set_option maxHeartbeats 800000 in
theorem all_Con (K : Nat) (g : Nat) (lb : Array Value) (eg : ∀ args w, (callFunc g args).run Tryz.prog w = .ok (.enter g args) w) {p : CI → Bool} {A : Option Addr} {n c : Nat} {xs : List CI} {w : World} (h : ArrAt 5 (ConR K) w (.slice A n c) xs) (hp : PredX 5 g lb aggV (ConR K) p xs w) :
    Calls Tryz.prog 49 #[.slice A n c, .func (.func g) #[] lb] w fun e w' => e = .returned (.bool (xs.all p)) ∧ Ext w w' := by
  have hx0 : Ext w (w.alloc (.cells #[.func (.func g) #[] lb] 89)) := Ext.alloc _ _
  have HI := Lib.hid (con_Con K 91 #[.pointer (some ⟨w.heap.size, 0, none⟩)] (enters_of Tryz.func91 (by kernel_rfl) rfl) (h.ext (ConR.stable K) hx0)
    (all1_Con K g lb eg (hp.ext hx0) (B := w.heap.size) (by simp) (by simp [go_sem])))
  have HN := Lib.hid (not_any_not p xs)
  clear h hp hx0
  generalize xs.any (fun x => !p x) = bb at *
  generalize xs.all p = ba at *
  go_enter Tryz.func49, Tryz.ntmps49
  go_wp2_with fail
  refine HI.out.mono ?_
  rintro e w1 ⟨rfl, hx1⟩
  go_wp2_with fail
  go_ret
  exact ⟨by rw [← HN.out]; rfl, (by repeat (first | exact Ext.refl _ | assumption | refine Ext.pdrewN ?_ _ | refine Ext.pdrew ?_ | refine Ext.palloc ?_ _ | refine Ext.pset ?_ (by simp <;> omega) _ | refine Ext.trans ?_ (by assumption)))⟩
end Go.Proofs.YtonleohlplkglaaGreatDoor
