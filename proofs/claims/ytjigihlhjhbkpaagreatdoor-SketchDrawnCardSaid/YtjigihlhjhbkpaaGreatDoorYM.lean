/- slices.IndexFunc, slices.ContainsFunc, sketch.all over slices of structs. -/
import Derived.Test.YtjigihlhjhbkpaaGreatDoorYJ
import Derived.Shelf.Abstract
import Derived.Test.YtjigihlhjhbkpaaGreatDoorYA
import Derived.LoopN
import Derived.BigRegion
namespace Go.Proofs.YtjigihlhjhbkpaaGreatDoor
open Go Go.RowKit
/-- What is asked of a function that is handed to the library. -/
def PredX {α : Type} (sz g : Nat) (lb : Array Value) (mk : List Value → Value) (R : World → List Value → α → Prop) (p : α → Bool) (xs : List α) (w : World) : Prop :=
 ∀ (W : World) (cs : List Value) (x : α), x ∈ xs → Ext w W → cs.length = sz → R W cs x → Calls Tryz.prog g (#[mk cs] ++ lb) W fun e w' => e = .returned (.bool (p x)) ∧ Ext W w'
theorem PredX.ext {α : Type} {sz g : Nat} {lb : Array Value} {mk : List Value → Value} {R : World → List Value → α → Prop} {p : α → Bool} {xs : List α} {w w' : World} (h : PredX sz g lb mk R p xs w) (hx : Ext w w') : PredX sz g lb mk R p xs w' :=
 fun W cs x hm hW hl hR => h W cs x hm (Ext.trans hx hW) hl hR
def IdxRes (b : Bool) (w : World) (e : Ending) (w' : World) : Prop := ∃ r : Int, e = .returned (.int .i64 r) ∧ decide (0 ≤ r) = b ∧ Ext w w'
def aggV (cs : List Value) : Value := .agg cs.toArray
def oneV (cs : List Value) : Value := cs.getD 0 undef
theorem not_any_not {α : Type} (p : α → Bool) (xs : List α) : (!xs.any fun x => !p x) = xs.all p := by
 induction xs with
 | nil => rfl
 | cons a l ih => simp only [List.any_cons, List.all_cons, Bool.not_or, ih, Bool.not_not]
set_option maxHeartbeats 1600000 in
theorem idx_Point (g : Nat) (lb : Array Value) (eg : ∀ args w, (callFunc g args).run Tryz.prog w = .ok (.enter g args) w) {p : PtI → Bool} {A : Option Addr} {n c : Nat} {xs : List PtI} {w : World} (h : ArrAt 8 PtR w (.slice A n c) xs) (hp : PredX 8 g lb aggV PtR p xs w) :
  Calls Tryz.prog 117 #[.slice A n c, .func (.func g) #[] lb] w (IdxRes (xs.any p) w) := by
 obtain ⟨rfl, hl, hm⟩ := h.len
 have HA := Lib.hid h
 have HP := Lib.hid hp
 clear h hp
 go_enter Tryz.func117, Tryz.ntmps117
 go_wp2_with fail
 go_loopg [8] xs.length (fun gk x wr => ∃ i : Nat, x = .int .i64 (i : Int) ∧ i + gk = xs.length ∧ Hid ((xs.drop i).any p = xs.any p) ∧ Hid (Ext w wr))
 case atStart => exact ⟨0, rfl, by omega, rfl, Ext.refl _⟩
 case round =>
  obtain ⟨i, rfl, hi, HD, HE⟩ := hrel
  by_cases hlt : i < xs.length
  ·obtain ⟨b, off, rfl, hb, ds, hds, hcell, hR⟩ := HA.out.at_ hlt
   have HC := Lib.hid (HP.out wr ds xs[i] (List.getElem_mem hlt) HE.out hds (PtR.stable _ _ _ _ HE.out hR))
   have HD2 : Hid ((xs.drop i).any p = (p xs[i] || (xs.drop (i + 1)).any p)) := by show _ = _; rw [List.drop_eq_getElem_cons hlt, List.any_cons]
   have HQ := Lib.hid (fun j u (hj : ds[j]? = some u) => (HE.out.cell (p := ⟨b, off + (i * 8 + j), none⟩) hb).trans (hcell j u hj))
   clear hcell hR
   match ds, hds with
   | [d0, d1, d2, d3, d4, d5, d6, d7], _ =>
    have q0 := HQ.out 0 _ rfl
    have q1 := HQ.out 1 _ rfl
    have q2 := HQ.out 2 _ rfl
    have q3 := HQ.out 3 _ rfl
    have q4 := HQ.out 4 _ rfl
    have q5 := HQ.out 5 _ rfl
    have q6 := HQ.out 6 _ rfl
    have q7 := HQ.out 7 _ rfl
    simp only [← Nat.add_assoc, Nat.add_zero] at q0 q1 q2 q3 q4 q5 q6 q7
    clear HQ
    generalize p xs[i] = px at *
    cases px with
    | true =>
     have HT : Hid (xs.any p = true) := by show _ = _; rw [← HD.out, HD2.out]; rfl
     go_wp2_with (go_at_fn g; refine HC.out.mono ?_; rintro e w2 ⟨rfl, hx2⟩)
     go_ret
     exact ⟨(i : Int), rfl, by rw [HT.out]; simp, HE.out.trans hx2⟩
    | false =>
     have HT : Hid ((xs.drop (i + 1)).any p = xs.any p) := by show _ = _; rw [← HD.out, HD2.out]; rfl
     go_wp2_with (go_at_fn g; refine HC.out.mono ?_; rintro e w2 ⟨rfl, hx2⟩)
     go_roundg (xs.length - (i + 1))
     case measure => omega
     case rel => exact ⟨i + 1, by simp, by omega, HT, HE.out.trans hx2⟩
  ·have HT : Hid (xs.any p = false) := by show _ = _; rw [← HD.out, List.drop_eq_nil_of_le (by omega)]; rfl
   go_wp2_with fail
   go_ret
   exact ⟨-1, rfl, by rw [HT.out]; rfl, HE.out⟩
set_option maxHeartbeats 800000 in
theorem con_Point (g : Nat) (lb : Array Value) (eg : ∀ args w, (callFunc g args).run Tryz.prog w = .ok (.enter g args) w) {p : PtI → Bool} {A : Option Addr} {n c : Nat} {xs : List PtI} {w : World} (h : ArrAt 8 PtR w (.slice A n c) xs) (hp : PredX 8 g lb aggV PtR p xs w) :
  Calls Tryz.prog 63 #[.slice A n c, .func (.func g) #[] lb] w fun e w' => e = .returned (.bool (xs.any p)) ∧ Ext w w' := by
 have HI := Lib.hid (idx_Point g lb eg h hp)
 clear h hp
 generalize xs.any p = bb at *
 go_enter Tryz.func63, Tryz.ntmps63
 go_wp2_with fail
 refine HI.out.mono ?_
 rintro e w1 ⟨r, rfl, hr, hx1⟩
 have HR := Lib.hid hr
 clear hr
 go_wp2_with fail
 go_ret
 exact ⟨by rw [← HR.out]; rfl, hx1⟩
set_option maxHeartbeats 800000 in
theorem all1_Point (g : Nat) (lb : Array Value) (eg : ∀ args w, (callFunc g args).run Tryz.prog w = .ok (.enter g args) w) {p : PtI → Bool} {xs : List PtI} {w : World} (hp : PredX 8 g lb aggV PtR p xs w) {B : Nat} (hB : B < w.heap.size) (hc : w.cell? ⟨B, 0, none⟩ = some (.func (.func g) #[] lb)) :
  PredX 8 64 #[.pointer (some ⟨B, 0, none⟩)] aggV PtR (fun x => !p x) xs w := by
 intro W cs x hm hW hl hR
 have HC := Lib.hid (fun w1 (hx : Ext W w1) => hp w1 cs x hm (hW.trans hx) hl (PtR.stable _ _ _ _ hx hR))
 have q := (hW.cell (p := ⟨B, 0, none⟩) hB).trans hc
 have hBW : B < W.heap.size := Nat.lt_of_lt_of_le hB hW.size
 have hne : B ≠ W.heap.size := by omega
 clear hR hp hm hW hc
 match cs, hl with
 | [d0, d1, d2, d3, d4, d5, d6, d7], _ =>
  show Calls Tryz.prog 64 #[.agg #[d0, d1, d2, d3, d4, d5, d6, d7], .pointer (some ⟨B, 0, none⟩)] W fun e w' => e = .returned (.bool (!p x)) ∧ Ext W w'
  generalize p x = px at *
  go_enter Tryz.func64, Tryz.ntmps64
  go_wp2_with (go_at_fn g; refine (HC.out _ (Ext.alloc _ _)).mono ?_; rintro e w2 ⟨rfl, hx2⟩)
  go_ret
  exact ⟨rfl, (by repeat first|exact xA _|assumption|refine xB ?_ _|refine xC ?_|refine xD ?_ _|refine xE ?_ (by simp <;> omega) _|refine xF ?_ (by assumption))⟩
set_option maxHeartbeats 800000 in
theorem all_Point (g : Nat) (lb : Array Value) (eg : ∀ args w, (callFunc g args).run Tryz.prog w = .ok (.enter g args) w) {p : PtI → Bool} {A : Option Addr} {n c : Nat} {xs : List PtI} {w : World} (h : ArrAt 8 PtR w (.slice A n c) xs) (hp : PredX 8 g lb aggV PtR p xs w) :
  Calls Tryz.prog 24 #[.slice A n c, .func (.func g) #[] lb] w fun e w' => e = .returned (.bool (xs.all p)) ∧ Ext w w' := by
 have hx0 : Ext w (w.alloc (.cells #[.func (.func g) #[] lb] 64)) := Ext.alloc _ _
 have HI := Lib.hid (con_Point 64 #[.pointer (some ⟨w.heap.size, 0, none⟩)] (enters_of Tryz.func64 (by kernel_rfl) rfl) (h.ext PtR.stable hx0)
  (all1_Point g lb eg (hp.ext hx0) (B := w.heap.size) (by simp) (by simp [go_sem])))
 have HN := Lib.hid (not_any_not p xs)
 clear h hp hx0
 generalize xs.any (fun x => !p x) = bb at *
 generalize xs.all p = ba at *
 go_enter Tryz.func24, Tryz.ntmps24
 go_wp2_with fail
 refine HI.out.mono ?_
 rintro e w1 ⟨rfl, hx1⟩
 go_wp2_with fail
 go_ret
 exact ⟨by rw [← HN.out]; rfl, (by repeat first|exact xA _|assumption|refine xB ?_ _|refine xC ?_|refine xD ?_ _|refine xE ?_ (by simp <;> omega) _|refine xF ?_ (by assumption))⟩
set_option maxHeartbeats 1600000 in
theorem idx_Round (g : Nat) (lb : Array Value) (eg : ∀ args w, (callFunc g args).run Tryz.prog w = .ok (.enter g args) w) {p : RdI → Bool} {A : Option Addr} {n c : Nat} {xs : List RdI} {w : World} (h : ArrAt 5 RdR w (.slice A n c) xs) (hp : PredX 5 g lb aggV RdR p xs w) :
  Calls Tryz.prog 123 #[.slice A n c, .func (.func g) #[] lb] w (IdxRes (xs.any p) w) := by
 obtain ⟨rfl, hl, hm⟩ := h.len
 have HA := Lib.hid h
 have HP := Lib.hid hp
 clear h hp
 go_enter Tryz.func123, Tryz.ntmps123
 go_wp2_with fail
 go_loopg [8] xs.length (fun gk x wr => ∃ i : Nat, x = .int .i64 (i : Int) ∧ i + gk = xs.length ∧ Hid ((xs.drop i).any p = xs.any p) ∧ Hid (Ext w wr))
 case atStart => exact ⟨0, rfl, by omega, rfl, Ext.refl _⟩
 case round =>
  obtain ⟨i, rfl, hi, HD, HE⟩ := hrel
  by_cases hlt : i < xs.length
  ·obtain ⟨b, off, rfl, hb, ds, hds, hcell, hR⟩ := HA.out.at_ hlt
   have HC := Lib.hid (HP.out wr ds xs[i] (List.getElem_mem hlt) HE.out hds (RdR.stable _ _ _ _ HE.out hR))
   have HD2 : Hid ((xs.drop i).any p = (p xs[i] || (xs.drop (i + 1)).any p)) := by show _ = _; rw [List.drop_eq_getElem_cons hlt, List.any_cons]
   have HQ := Lib.hid (fun j u (hj : ds[j]? = some u) => (HE.out.cell (p := ⟨b, off + (i * 5 + j), none⟩) hb).trans (hcell j u hj))
   clear hcell hR
   match ds, hds with
   | [d0, d1, d2, d3, d4], _ =>
    have q0 := HQ.out 0 _ rfl
    have q1 := HQ.out 1 _ rfl
    have q2 := HQ.out 2 _ rfl
    have q3 := HQ.out 3 _ rfl
    have q4 := HQ.out 4 _ rfl
    simp only [← Nat.add_assoc, Nat.add_zero] at q0 q1 q2 q3 q4
    clear HQ
    generalize p xs[i] = px at *
    cases px with
    | true =>
     have HT : Hid (xs.any p = true) := by show _ = _; rw [← HD.out, HD2.out]; rfl
     go_wp2_with (go_at_fn g; refine HC.out.mono ?_; rintro e w2 ⟨rfl, hx2⟩)
     go_ret
     exact ⟨(i : Int), rfl, by rw [HT.out]; simp, HE.out.trans hx2⟩
    | false =>
     have HT : Hid ((xs.drop (i + 1)).any p = xs.any p) := by show _ = _; rw [← HD.out, HD2.out]; rfl
     go_wp2_with (go_at_fn g; refine HC.out.mono ?_; rintro e w2 ⟨rfl, hx2⟩)
     go_roundg (xs.length - (i + 1))
     case measure => omega
     case rel => exact ⟨i + 1, by simp, by omega, HT, HE.out.trans hx2⟩
  ·have HT : Hid (xs.any p = false) := by show _ = _; rw [← HD.out, List.drop_eq_nil_of_le (by omega)]; rfl
   go_wp2_with fail
   go_ret
   exact ⟨-1, rfl, by rw [HT.out]; rfl, HE.out⟩
set_option maxHeartbeats 800000 in
theorem con_Round (g : Nat) (lb : Array Value) (eg : ∀ args w, (callFunc g args).run Tryz.prog w = .ok (.enter g args) w) {p : RdI → Bool} {A : Option Addr} {n c : Nat} {xs : List RdI} {w : World} (h : ArrAt 5 RdR w (.slice A n c) xs) (hp : PredX 5 g lb aggV RdR p xs w) :
  Calls Tryz.prog 69 #[.slice A n c, .func (.func g) #[] lb] w fun e w' => e = .returned (.bool (xs.any p)) ∧ Ext w w' := by
 have HI := Lib.hid (idx_Round g lb eg h hp)
 clear h hp
 generalize xs.any p = bb at *
 go_enter Tryz.func69, Tryz.ntmps69
 go_wp2_with fail
 refine HI.out.mono ?_
 rintro e w1 ⟨r, rfl, hr, hx1⟩
 have HR := Lib.hid hr
 clear hr
 go_wp2_with fail
 go_ret
 exact ⟨by rw [← HR.out]; rfl, hx1⟩
set_option maxHeartbeats 800000 in
theorem all1_Round (g : Nat) (lb : Array Value) (eg : ∀ args w, (callFunc g args).run Tryz.prog w = .ok (.enter g args) w) {p : RdI → Bool} {xs : List RdI} {w : World} (hp : PredX 5 g lb aggV RdR p xs w) {B : Nat} (hB : B < w.heap.size) (hc : w.cell? ⟨B, 0, none⟩ = some (.func (.func g) #[] lb)) :
  PredX 5 70 #[.pointer (some ⟨B, 0, none⟩)] aggV RdR (fun x => !p x) xs w := by
 intro W cs x hm hW hl hR
 have HC := Lib.hid (fun w1 (hx : Ext W w1) => hp w1 cs x hm (hW.trans hx) hl (RdR.stable _ _ _ _ hx hR))
 have q := (hW.cell (p := ⟨B, 0, none⟩) hB).trans hc
 have hBW : B < W.heap.size := Nat.lt_of_lt_of_le hB hW.size
 have hne : B ≠ W.heap.size := by omega
 clear hR hp hm hW hc
 match cs, hl with
 | [d0, d1, d2, d3, d4], _ =>
  show Calls Tryz.prog 70 #[.agg #[d0, d1, d2, d3, d4], .pointer (some ⟨B, 0, none⟩)] W fun e w' => e = .returned (.bool (!p x)) ∧ Ext W w'
  generalize p x = px at *
  go_enter Tryz.func70, Tryz.ntmps70
  go_wp2_with (go_at_fn g; refine (HC.out _ (Ext.alloc _ _)).mono ?_; rintro e w2 ⟨rfl, hx2⟩)
  go_ret
  exact ⟨rfl, (by repeat first|exact xA _|assumption|refine xB ?_ _|refine xC ?_|refine xD ?_ _|refine xE ?_ (by simp <;> omega) _|refine xF ?_ (by assumption))⟩
set_option maxHeartbeats 800000 in
theorem all_Round (g : Nat) (lb : Array Value) (eg : ∀ args w, (callFunc g args).run Tryz.prog w = .ok (.enter g args) w) {p : RdI → Bool} {A : Option Addr} {n c : Nat} {xs : List RdI} {w : World} (h : ArrAt 5 RdR w (.slice A n c) xs) (hp : PredX 5 g lb aggV RdR p xs w) :
  Calls Tryz.prog 27 #[.slice A n c, .func (.func g) #[] lb] w fun e w' => e = .returned (.bool (xs.all p)) ∧ Ext w w' := by
 have hx0 : Ext w (w.alloc (.cells #[.func (.func g) #[] lb] 68)) := Ext.alloc _ _
 have HI := Lib.hid (con_Round 70 #[.pointer (some ⟨w.heap.size, 0, none⟩)] (enters_of Tryz.func70 (by kernel_rfl) rfl) (h.ext RdR.stable hx0)
  (all1_Round g lb eg (hp.ext hx0) (B := w.heap.size) (by simp) (by simp [go_sem])))
 have HN := Lib.hid (not_any_not p xs)
 clear h hp hx0
 generalize xs.any (fun x => !p x) = bb at *
 generalize xs.all p = ba at *
 go_enter Tryz.func27, Tryz.ntmps27
 go_wp2_with fail
 refine HI.out.mono ?_
 rintro e w1 ⟨rfl, hx1⟩
 go_wp2_with fail
 go_ret
 exact ⟨by rw [← HN.out]; rfl, (by repeat first|exact xA _|assumption|refine xB ?_ _|refine xC ?_|refine xD ?_ _|refine xE ?_ (by simp <;> omega) _|refine xF ?_ (by assumption))⟩
set_option maxHeartbeats 1600000 in
theorem idx_Segment (g : Nat) (lb : Array Value) (eg : ∀ args w, (callFunc g args).run Tryz.prog w = .ok (.enter g args) w) {p : SgI → Bool} {A : Option Addr} {n c : Nat} {xs : List SgI} {w : World} (h : ArrAt 2 SgR w (.slice A n c) xs) (hp : PredX 2 g lb aggV SgR p xs w) :
  Calls Tryz.prog 124 #[.slice A n c, .func (.func g) #[] lb] w (IdxRes (xs.any p) w) := by
 obtain ⟨rfl, hl, hm⟩ := h.len
 have HA := Lib.hid h
 have HP := Lib.hid hp
 clear h hp
 go_enter Tryz.func124, Tryz.ntmps124
 go_wp2_with fail
 go_loopg [8] xs.length (fun gk x wr => ∃ i : Nat, x = .int .i64 (i : Int) ∧ i + gk = xs.length ∧ Hid ((xs.drop i).any p = xs.any p) ∧ Hid (Ext w wr))
 case atStart => exact ⟨0, rfl, by omega, rfl, Ext.refl _⟩
 case round =>
  obtain ⟨i, rfl, hi, HD, HE⟩ := hrel
  by_cases hlt : i < xs.length
  ·obtain ⟨b, off, rfl, hb, ds, hds, hcell, hR⟩ := HA.out.at_ hlt
   have HC := Lib.hid (HP.out wr ds xs[i] (List.getElem_mem hlt) HE.out hds (SgR.stable _ _ _ _ HE.out hR))
   have HD2 : Hid ((xs.drop i).any p = (p xs[i] || (xs.drop (i + 1)).any p)) := by show _ = _; rw [List.drop_eq_getElem_cons hlt, List.any_cons]
   have HQ := Lib.hid (fun j u (hj : ds[j]? = some u) => (HE.out.cell (p := ⟨b, off + (i * 2 + j), none⟩) hb).trans (hcell j u hj))
   clear hcell hR
   match ds, hds with
   | [d0, d1], _ =>
    have q0 := HQ.out 0 _ rfl
    have q1 := HQ.out 1 _ rfl
    simp only [← Nat.add_assoc, Nat.add_zero] at q0 q1
    clear HQ
    generalize p xs[i] = px at *
    cases px with
    | true =>
     have HT : Hid (xs.any p = true) := by show _ = _; rw [← HD.out, HD2.out]; rfl
     go_wp2_with (go_at_fn g; refine HC.out.mono ?_; rintro e w2 ⟨rfl, hx2⟩)
     go_ret
     exact ⟨(i : Int), rfl, by rw [HT.out]; simp, HE.out.trans hx2⟩
    | false =>
     have HT : Hid ((xs.drop (i + 1)).any p = xs.any p) := by show _ = _; rw [← HD.out, HD2.out]; rfl
     go_wp2_with (go_at_fn g; refine HC.out.mono ?_; rintro e w2 ⟨rfl, hx2⟩)
     go_roundg (xs.length - (i + 1))
     case measure => omega
     case rel => exact ⟨i + 1, by simp, by omega, HT, HE.out.trans hx2⟩
  ·have HT : Hid (xs.any p = false) := by show _ = _; rw [← HD.out, List.drop_eq_nil_of_le (by omega)]; rfl
   go_wp2_with fail
   go_ret
   exact ⟨-1, rfl, by rw [HT.out]; rfl, HE.out⟩
set_option maxHeartbeats 800000 in
theorem con_Segment (g : Nat) (lb : Array Value) (eg : ∀ args w, (callFunc g args).run Tryz.prog w = .ok (.enter g args) w) {p : SgI → Bool} {A : Option Addr} {n c : Nat} {xs : List SgI} {w : World} (h : ArrAt 2 SgR w (.slice A n c) xs) (hp : PredX 2 g lb aggV SgR p xs w) :
  Calls Tryz.prog 71 #[.slice A n c, .func (.func g) #[] lb] w fun e w' => e = .returned (.bool (xs.any p)) ∧ Ext w w' := by
 have HI := Lib.hid (idx_Segment g lb eg h hp)
 clear h hp
 generalize xs.any p = bb at *
 go_enter Tryz.func71, Tryz.ntmps71
 go_wp2_with fail
 refine HI.out.mono ?_
 rintro e w1 ⟨r, rfl, hr, hx1⟩
 have HR := Lib.hid hr
 clear hr
 go_wp2_with fail
 go_ret
 exact ⟨by rw [← HR.out]; rfl, hx1⟩
set_option maxHeartbeats 800000 in
theorem all1_Segment (g : Nat) (lb : Array Value) (eg : ∀ args w, (callFunc g args).run Tryz.prog w = .ok (.enter g args) w) {p : SgI → Bool} {xs : List SgI} {w : World} (hp : PredX 2 g lb aggV SgR p xs w) {B : Nat} (hB : B < w.heap.size) (hc : w.cell? ⟨B, 0, none⟩ = some (.func (.func g) #[] lb)) :
  PredX 2 72 #[.pointer (some ⟨B, 0, none⟩)] aggV SgR (fun x => !p x) xs w := by
 intro W cs x hm hW hl hR
 have HC := Lib.hid (fun w1 (hx : Ext W w1) => hp w1 cs x hm (hW.trans hx) hl (SgR.stable _ _ _ _ hx hR))
 have q := (hW.cell (p := ⟨B, 0, none⟩) hB).trans hc
 have hBW : B < W.heap.size := Nat.lt_of_lt_of_le hB hW.size
 have hne : B ≠ W.heap.size := by omega
 clear hR hp hm hW hc
 match cs, hl with
 | [d0, d1], _ =>
  show Calls Tryz.prog 72 #[.agg #[d0, d1], .pointer (some ⟨B, 0, none⟩)] W fun e w' => e = .returned (.bool (!p x)) ∧ Ext W w'
  generalize p x = px at *
  go_enter Tryz.func72, Tryz.ntmps72
  go_wp2_with (go_at_fn g; refine (HC.out _ (Ext.alloc _ _)).mono ?_; rintro e w2 ⟨rfl, hx2⟩)
  go_ret
  exact ⟨rfl, (by repeat first|exact xA _|assumption|refine xB ?_ _|refine xC ?_|refine xD ?_ _|refine xE ?_ (by simp <;> omega) _|refine xF ?_ (by assumption))⟩
set_option maxHeartbeats 800000 in
theorem all_Segment (g : Nat) (lb : Array Value) (eg : ∀ args w, (callFunc g args).run Tryz.prog w = .ok (.enter g args) w) {p : SgI → Bool} {A : Option Addr} {n c : Nat} {xs : List SgI} {w : World} (h : ArrAt 2 SgR w (.slice A n c) xs) (hp : PredX 2 g lb aggV SgR p xs w) :
  Calls Tryz.prog 31 #[.slice A n c, .func (.func g) #[] lb] w fun e w' => e = .returned (.bool (xs.all p)) ∧ Ext w w' := by
 have hx0 : Ext w (w.alloc (.cells #[.func (.func g) #[] lb] 72)) := Ext.alloc _ _
 have HI := Lib.hid (con_Segment 72 #[.pointer (some ⟨w.heap.size, 0, none⟩)] (enters_of Tryz.func72 (by kernel_rfl) rfl) (h.ext SgR.stable hx0)
  (all1_Segment g lb eg (hp.ext hx0) (B := w.heap.size) (by simp) (by simp [go_sem])))
 have HN := Lib.hid (not_any_not p xs)
 clear h hp hx0
 generalize xs.any (fun x => !p x) = bb at *
 generalize xs.all p = ba at *
 go_enter Tryz.func31, Tryz.ntmps31
 go_wp2_with fail
 refine HI.out.mono ?_
 rintro e w1 ⟨rfl, hx1⟩
 go_wp2_with fail
 go_ret
 exact ⟨by rw [← HN.out]; rfl, (by repeat first|exact xA _|assumption|refine xB ?_ _|refine xC ?_|refine xD ?_ _|refine xE ?_ (by simp <;> omega) _|refine xF ?_ (by assumption))⟩
set_option maxHeartbeats 1600000 in
theorem idx_Arc (g : Nat) (lb : Array Value) (eg : ∀ args w, (callFunc g args).run Tryz.prog w = .ok (.enter g args) w) {p : ArI → Bool} {A : Option Addr} {n c : Nat} {xs : List ArI} {w : World} (h : ArrAt 4 ArR w (.slice A n c) xs) (hp : PredX 4 g lb aggV ArR p xs w) :
  Calls Tryz.prog 125 #[.slice A n c, .func (.func g) #[] lb] w (IdxRes (xs.any p) w) := by
 obtain ⟨rfl, hl, hm⟩ := h.len
 have HA := Lib.hid h
 have HP := Lib.hid hp
 clear h hp
 go_enter Tryz.func125, Tryz.ntmps125
 go_wp2_with fail
 go_loopg [8] xs.length (fun gk x wr => ∃ i : Nat, x = .int .i64 (i : Int) ∧ i + gk = xs.length ∧ Hid ((xs.drop i).any p = xs.any p) ∧ Hid (Ext w wr))
 case atStart => exact ⟨0, rfl, by omega, rfl, Ext.refl _⟩
 case round =>
  obtain ⟨i, rfl, hi, HD, HE⟩ := hrel
  by_cases hlt : i < xs.length
  ·obtain ⟨b, off, rfl, hb, ds, hds, hcell, hR⟩ := HA.out.at_ hlt
   have HC := Lib.hid (HP.out wr ds xs[i] (List.getElem_mem hlt) HE.out hds (ArR.stable _ _ _ _ HE.out hR))
   have HD2 : Hid ((xs.drop i).any p = (p xs[i] || (xs.drop (i + 1)).any p)) := by show _ = _; rw [List.drop_eq_getElem_cons hlt, List.any_cons]
   have HQ := Lib.hid (fun j u (hj : ds[j]? = some u) => (HE.out.cell (p := ⟨b, off + (i * 4 + j), none⟩) hb).trans (hcell j u hj))
   clear hcell hR
   match ds, hds with
   | [d0, d1, d2, d3], _ =>
    have q0 := HQ.out 0 _ rfl
    have q1 := HQ.out 1 _ rfl
    have q2 := HQ.out 2 _ rfl
    have q3 := HQ.out 3 _ rfl
    simp only [← Nat.add_assoc, Nat.add_zero] at q0 q1 q2 q3
    clear HQ
    generalize p xs[i] = px at *
    cases px with
    | true =>
     have HT : Hid (xs.any p = true) := by show _ = _; rw [← HD.out, HD2.out]; rfl
     go_wp2_with (go_at_fn g; refine HC.out.mono ?_; rintro e w2 ⟨rfl, hx2⟩)
     go_ret
     exact ⟨(i : Int), rfl, by rw [HT.out]; simp, HE.out.trans hx2⟩
    | false =>
     have HT : Hid ((xs.drop (i + 1)).any p = xs.any p) := by show _ = _; rw [← HD.out, HD2.out]; rfl
     go_wp2_with (go_at_fn g; refine HC.out.mono ?_; rintro e w2 ⟨rfl, hx2⟩)
     go_roundg (xs.length - (i + 1))
     case measure => omega
     case rel => exact ⟨i + 1, by simp, by omega, HT, HE.out.trans hx2⟩
  ·have HT : Hid (xs.any p = false) := by show _ = _; rw [← HD.out, List.drop_eq_nil_of_le (by omega)]; rfl
   go_wp2_with fail
   go_ret
   exact ⟨-1, rfl, by rw [HT.out]; rfl, HE.out⟩
set_option maxHeartbeats 800000 in
theorem con_Arc (g : Nat) (lb : Array Value) (eg : ∀ args w, (callFunc g args).run Tryz.prog w = .ok (.enter g args) w) {p : ArI → Bool} {A : Option Addr} {n c : Nat} {xs : List ArI} {w : World} (h : ArrAt 4 ArR w (.slice A n c) xs) (hp : PredX 4 g lb aggV ArR p xs w) :
  Calls Tryz.prog 73 #[.slice A n c, .func (.func g) #[] lb] w fun e w' => e = .returned (.bool (xs.any p)) ∧ Ext w w' := by
 have HI := Lib.hid (idx_Arc g lb eg h hp)
 clear h hp
 generalize xs.any p = bb at *
 go_enter Tryz.func73, Tryz.ntmps73
 go_wp2_with fail
 refine HI.out.mono ?_
 rintro e w1 ⟨r, rfl, hr, hx1⟩
 have HR := Lib.hid hr
 clear hr
 go_wp2_with fail
 go_ret
 exact ⟨by rw [← HR.out]; rfl, hx1⟩
set_option maxHeartbeats 800000 in
theorem all1_Arc (g : Nat) (lb : Array Value) (eg : ∀ args w, (callFunc g args).run Tryz.prog w = .ok (.enter g args) w) {p : ArI → Bool} {xs : List ArI} {w : World} (hp : PredX 4 g lb aggV ArR p xs w) {B : Nat} (hB : B < w.heap.size) (hc : w.cell? ⟨B, 0, none⟩ = some (.func (.func g) #[] lb)) :
  PredX 4 74 #[.pointer (some ⟨B, 0, none⟩)] aggV ArR (fun x => !p x) xs w := by
 intro W cs x hm hW hl hR
 have HC := Lib.hid (fun w1 (hx : Ext W w1) => hp w1 cs x hm (hW.trans hx) hl (ArR.stable _ _ _ _ hx hR))
 have q := (hW.cell (p := ⟨B, 0, none⟩) hB).trans hc
 have hBW : B < W.heap.size := Nat.lt_of_lt_of_le hB hW.size
 have hne : B ≠ W.heap.size := by omega
 clear hR hp hm hW hc
 match cs, hl with
 | [d0, d1, d2, d3], _ =>
  show Calls Tryz.prog 74 #[.agg #[d0, d1, d2, d3], .pointer (some ⟨B, 0, none⟩)] W fun e w' => e = .returned (.bool (!p x)) ∧ Ext W w'
  generalize p x = px at *
  go_enter Tryz.func74, Tryz.ntmps74
  go_wp2_with (go_at_fn g; refine (HC.out _ (Ext.alloc _ _)).mono ?_; rintro e w2 ⟨rfl, hx2⟩)
  go_ret
  exact ⟨rfl, (by repeat first|exact xA _|assumption|refine xB ?_ _|refine xC ?_|refine xD ?_ _|refine xE ?_ (by simp <;> omega) _|refine xF ?_ (by assumption))⟩
set_option maxHeartbeats 800000 in
theorem all_Arc (g : Nat) (lb : Array Value) (eg : ∀ args w, (callFunc g args).run Tryz.prog w = .ok (.enter g args) w) {p : ArI → Bool} {A : Option Addr} {n c : Nat} {xs : List ArI} {w : World} (h : ArrAt 4 ArR w (.slice A n c) xs) (hp : PredX 4 g lb aggV ArR p xs w) :
  Calls Tryz.prog 33 #[.slice A n c, .func (.func g) #[] lb] w fun e w' => e = .returned (.bool (xs.all p)) ∧ Ext w w' := by
 have hx0 : Ext w (w.alloc (.cells #[.func (.func g) #[] lb] 75)) := Ext.alloc _ _
 have HI := Lib.hid (con_Arc 74 #[.pointer (some ⟨w.heap.size, 0, none⟩)] (enters_of Tryz.func74 (by kernel_rfl) rfl) (h.ext ArR.stable hx0)
  (all1_Arc g lb eg (hp.ext hx0) (B := w.heap.size) (by simp) (by simp [go_sem])))
 have HN := Lib.hid (not_any_not p xs)
 clear h hp hx0
 generalize xs.any (fun x => !p x) = bb at *
 generalize xs.all p = ba at *
 go_enter Tryz.func33, Tryz.ntmps33
 go_wp2_with fail
 refine HI.out.mono ?_
 rintro e w1 ⟨rfl, hx1⟩
 go_wp2_with fail
 go_ret
 exact ⟨by rw [← HN.out]; rfl, (by repeat first|exact xA _|assumption|refine xB ?_ _|refine xC ?_|refine xD ?_ _|refine xE ?_ (by simp <;> omega) _|refine xF ?_ (by assumption))⟩
set_option maxHeartbeats 1600000 in
theorem idx_Chain (g : Nat) (lb : Array Value) (eg : ∀ args w, (callFunc g args).run Tryz.prog w = .ok (.enter g args) w) {p : (List PcI) → Bool} {A : Option Addr} {n c : Nat} {xs : List (List PcI)} {w : World} (h : ArrAt 1 ChR w (.slice A n c) xs) (hp : PredX 1 g lb oneV ChR p xs w) :
  Calls Tryz.prog 116 #[.slice A n c, .func (.func g) #[] lb] w (IdxRes (xs.any p) w) := by
 obtain ⟨rfl, hl, hm⟩ := h.len
 have HA := Lib.hid h
 have HP := Lib.hid hp
 clear h hp
 go_enter Tryz.func116, Tryz.ntmps116
 go_wp2_with fail
 go_loopg [8] xs.length (fun gk x wr => ∃ i : Nat, x = .int .i64 (i : Int) ∧ i + gk = xs.length ∧ Hid ((xs.drop i).any p = xs.any p) ∧ Hid (Ext w wr))
 case atStart => exact ⟨0, rfl, by omega, rfl, Ext.refl _⟩
 case round =>
  obtain ⟨i, rfl, hi, HD, HE⟩ := hrel
  by_cases hlt : i < xs.length
  ·obtain ⟨b, off, rfl, hb, ds, hds, hcell, hR⟩ := HA.out.at_ hlt
   have HC := Lib.hid (HP.out wr ds xs[i] (List.getElem_mem hlt) HE.out hds (ChR.stable _ _ _ _ HE.out hR))
   have HD2 : Hid ((xs.drop i).any p = (p xs[i] || (xs.drop (i + 1)).any p)) := by show _ = _; rw [List.drop_eq_getElem_cons hlt, List.any_cons]
   have HQ := Lib.hid (fun j u (hj : ds[j]? = some u) => (HE.out.cell (p := ⟨b, off + (i * 1 + j), none⟩) hb).trans (hcell j u hj))
   clear hcell hR
   match ds, hds with
   | [d0], _ =>
    have q0 := HQ.out 0 _ rfl
    simp only [Nat.add_zero, Nat.mul_one] at q0
    clear HQ
    generalize p xs[i] = px at *
    cases px with
    | true =>
     have HT : Hid (xs.any p = true) := by show _ = _; rw [← HD.out, HD2.out]; rfl
     go_wp2_with (go_at_fn g; refine HC.out.mono ?_; rintro e w2 ⟨rfl, hx2⟩)
     go_ret
     exact ⟨(i : Int), rfl, by rw [HT.out]; simp, HE.out.trans hx2⟩
    | false =>
     have HT : Hid ((xs.drop (i + 1)).any p = xs.any p) := by show _ = _; rw [← HD.out, HD2.out]; rfl
     go_wp2_with (go_at_fn g; refine HC.out.mono ?_; rintro e w2 ⟨rfl, hx2⟩)
     go_roundg (xs.length - (i + 1))
     case measure => omega
     case rel => exact ⟨i + 1, by simp, by omega, HT, HE.out.trans hx2⟩
  ·have HT : Hid (xs.any p = false) := by show _ = _; rw [← HD.out, List.drop_eq_nil_of_le (by omega)]; rfl
   go_wp2_with fail
   go_ret
   exact ⟨-1, rfl, by rw [HT.out]; rfl, HE.out⟩
set_option maxHeartbeats 800000 in
theorem con_Chain (g : Nat) (lb : Array Value) (eg : ∀ args w, (callFunc g args).run Tryz.prog w = .ok (.enter g args) w) {p : (List PcI) → Bool} {A : Option Addr} {n c : Nat} {xs : List (List PcI)} {w : World} (h : ArrAt 1 ChR w (.slice A n c) xs) (hp : PredX 1 g lb oneV ChR p xs w) :
  Calls Tryz.prog 61 #[.slice A n c, .func (.func g) #[] lb] w fun e w' => e = .returned (.bool (xs.any p)) ∧ Ext w w' := by
 have HI := Lib.hid (idx_Chain g lb eg h hp)
 clear h hp
 generalize xs.any p = bb at *
 go_enter Tryz.func61, Tryz.ntmps61
 go_wp2_with fail
 refine HI.out.mono ?_
 rintro e w1 ⟨r, rfl, hr, hx1⟩
 have HR := Lib.hid hr
 clear hr
 go_wp2_with fail
 go_ret
 exact ⟨by rw [← HR.out]; rfl, hx1⟩
set_option maxHeartbeats 800000 in
theorem all1_Chain (g : Nat) (lb : Array Value) (eg : ∀ args w, (callFunc g args).run Tryz.prog w = .ok (.enter g args) w) {p : (List PcI) → Bool} {xs : List (List PcI)} {w : World} (hp : PredX 1 g lb oneV ChR p xs w) {B : Nat} (hB : B < w.heap.size) (hc : w.cell? ⟨B, 0, none⟩ = some (.func (.func g) #[] lb)) :
  PredX 1 75 #[.pointer (some ⟨B, 0, none⟩)] oneV ChR (fun x => !p x) xs w := by
 intro W cs x hm hW hl hR
 have HC := Lib.hid (fun w1 (hx : Ext W w1) => hp w1 cs x hm (hW.trans hx) hl (ChR.stable _ _ _ _ hx hR))
 have q := (hW.cell (p := ⟨B, 0, none⟩) hB).trans hc
 have hBW : B < W.heap.size := Nat.lt_of_lt_of_le hB hW.size
 have hne : B ≠ W.heap.size := by omega
 clear hR hp hm hW hc
 match cs, hl with
 | [d0], _ =>
  show Calls Tryz.prog 75 #[d0, .pointer (some ⟨B, 0, none⟩)] W fun e w' => e = .returned (.bool (!p x)) ∧ Ext W w'
  generalize p x = px at *
  go_enter Tryz.func75, Tryz.ntmps75
  go_wp2_with (go_at_fn g; refine (HC.out _ (Ext.refl _)).mono ?_; rintro e w2 ⟨rfl, hx2⟩)
  go_ret
  exact ⟨rfl, (by repeat first|exact xA _|assumption|refine xB ?_ _|refine xC ?_|refine xD ?_ _|refine xE ?_ (by simp <;> omega) _|refine xF ?_ (by assumption))⟩
set_option maxHeartbeats 800000 in
theorem all_Chain (g : Nat) (lb : Array Value) (eg : ∀ args w, (callFunc g args).run Tryz.prog w = .ok (.enter g args) w) {p : (List PcI) → Bool} {A : Option Addr} {n c : Nat} {xs : List (List PcI)} {w : World} (h : ArrAt 1 ChR w (.slice A n c) xs) (hp : PredX 1 g lb oneV ChR p xs w) :
  Calls Tryz.prog 36 #[.slice A n c, .func (.func g) #[] lb] w fun e w' => e = .returned (.bool (xs.all p)) ∧ Ext w w' := by
 have hx0 : Ext w (w.alloc (.cells #[.func (.func g) #[] lb] 79)) := Ext.alloc _ _
 have HI := Lib.hid (con_Chain 75 #[.pointer (some ⟨w.heap.size, 0, none⟩)] (enters_of Tryz.func75 (by kernel_rfl) rfl) (h.ext ChR.stable hx0)
  (all1_Chain g lb eg (hp.ext hx0) (B := w.heap.size) (by simp) (by simp [go_sem])))
 have HN := Lib.hid (not_any_not p xs)
 clear h hp hx0
 generalize xs.any (fun x => !p x) = bb at *
 generalize xs.all p = ba at *
 go_enter Tryz.func36, Tryz.ntmps36
 go_wp2_with fail
 refine HI.out.mono ?_
 rintro e w1 ⟨rfl, hx1⟩
 go_wp2_with fail
 go_ret
 exact ⟨by rw [← HN.out]; rfl, (by repeat first|exact xA _|assumption|refine xB ?_ _|refine xC ?_|refine xD ?_ _|refine xE ?_ (by simp <;> omega) _|refine xF ?_ (by assumption))⟩
set_option maxHeartbeats 1600000 in
theorem idx_Con (K : Nat) (g : Nat) (lb : Array Value) (eg : ∀ args w, (callFunc g args).run Tryz.prog w = .ok (.enter g args) w) {p : CI → Bool} {A : Option Addr} {n c : Nat} {xs : List CI} {w : World} (h : ArrAt 5 (ConR K) w (.slice A n c) xs) (hp : PredX 5 g lb aggV (ConR K) p xs w) :
  Calls Tryz.prog 88 #[.slice A n c, .func (.func g) #[] lb] w (IdxRes (xs.any p) w) := by
 obtain ⟨rfl, hl, hm⟩ := h.len
 have HA := Lib.hid h
 have HP := Lib.hid hp
 clear h hp
 go_enter Tryz.func88, Tryz.ntmps88
 go_wp2_with fail
 go_loopg [8] xs.length (fun gk x wr => ∃ i : Nat, x = .int .i64 (i : Int) ∧ i + gk = xs.length ∧ Hid ((xs.drop i).any p = xs.any p) ∧ Hid (Ext w wr))
 case atStart => exact ⟨0, rfl, by omega, rfl, Ext.refl _⟩
 case round =>
  obtain ⟨i, rfl, hi, HD, HE⟩ := hrel
  by_cases hlt : i < xs.length
  ·obtain ⟨b, off, rfl, hb, ds, hds, hcell, hR⟩ := HA.out.at_ hlt
   have HC := Lib.hid (HP.out wr ds xs[i] (List.getElem_mem hlt) HE.out hds ((ConR.stable K) _ _ _ _ HE.out hR))
   have HD2 : Hid ((xs.drop i).any p = (p xs[i] || (xs.drop (i + 1)).any p)) := by show _ = _; rw [List.drop_eq_getElem_cons hlt, List.any_cons]
   have HQ := Lib.hid (fun j u (hj : ds[j]? = some u) => (HE.out.cell (p := ⟨b, off + (i * 5 + j), none⟩) hb).trans (hcell j u hj))
   clear hcell hR
   match ds, hds with
   | [d0, d1, d2, d3, d4], _ =>
    have q0 := HQ.out 0 _ rfl
    have q1 := HQ.out 1 _ rfl
    have q2 := HQ.out 2 _ rfl
    have q3 := HQ.out 3 _ rfl
    have q4 := HQ.out 4 _ rfl
    simp only [← Nat.add_assoc, Nat.add_zero] at q0 q1 q2 q3 q4
    clear HQ
    generalize p xs[i] = px at *
    cases px with
    | true =>
     have HT : Hid (xs.any p = true) := by show _ = _; rw [← HD.out, HD2.out]; rfl
     go_wp2_with (go_at_fn g; refine HC.out.mono ?_; rintro e w2 ⟨rfl, hx2⟩)
     go_ret
     exact ⟨(i : Int), rfl, by rw [HT.out]; simp, HE.out.trans hx2⟩
    | false =>
     have HT : Hid ((xs.drop (i + 1)).any p = xs.any p) := by show _ = _; rw [← HD.out, HD2.out]; rfl
     go_wp2_with (go_at_fn g; refine HC.out.mono ?_; rintro e w2 ⟨rfl, hx2⟩)
     go_roundg (xs.length - (i + 1))
     case measure => omega
     case rel => exact ⟨i + 1, by simp, by omega, HT, HE.out.trans hx2⟩
  ·have HT : Hid (xs.any p = false) := by show _ = _; rw [← HD.out, List.drop_eq_nil_of_le (by omega)]; rfl
   go_wp2_with fail
   go_ret
   exact ⟨-1, rfl, by rw [HT.out]; rfl, HE.out⟩
set_option maxHeartbeats 800000 in
theorem con_Con (K : Nat) (g : Nat) (lb : Array Value) (eg : ∀ args w, (callFunc g args).run Tryz.prog w = .ok (.enter g args) w) {p : CI → Bool} {A : Option Addr} {n c : Nat} {xs : List CI} {w : World} (h : ArrAt 5 (ConR K) w (.slice A n c) xs) (hp : PredX 5 g lb aggV (ConR K) p xs w) :
  Calls Tryz.prog 44 #[.slice A n c, .func (.func g) #[] lb] w fun e w' => e = .returned (.bool (xs.any p)) ∧ Ext w w' := by
 have HI := Lib.hid (idx_Con K g lb eg h hp)
 clear h hp
 generalize xs.any p = bb at *
 go_enter Tryz.func44, Tryz.ntmps44
 go_wp2_with fail
 refine HI.out.mono ?_
 rintro e w1 ⟨r, rfl, hr, hx1⟩
 have HR := Lib.hid hr
 clear hr
 go_wp2_with fail
 go_ret
 exact ⟨by rw [← HR.out]; rfl, hx1⟩
set_option maxHeartbeats 800000 in
theorem all1_Con (K : Nat) (g : Nat) (lb : Array Value) (eg : ∀ args w, (callFunc g args).run Tryz.prog w = .ok (.enter g args) w) {p : CI → Bool} {xs : List CI} {w : World} (hp : PredX 5 g lb aggV (ConR K) p xs w) {B : Nat} (hB : B < w.heap.size) (hc : w.cell? ⟨B, 0, none⟩ = some (.func (.func g) #[] lb)) :
  PredX 5 77 #[.pointer (some ⟨B, 0, none⟩)] aggV (ConR K) (fun x => !p x) xs w := by
 intro W cs x hm hW hl hR
 have HC := Lib.hid (fun w1 (hx : Ext W w1) => hp w1 cs x hm (hW.trans hx) hl ((ConR.stable K) _ _ _ _ hx hR))
 have q := (hW.cell (p := ⟨B, 0, none⟩) hB).trans hc
 have hBW : B < W.heap.size := Nat.lt_of_lt_of_le hB hW.size
 have hne : B ≠ W.heap.size := by omega
 clear hR hp hm hW hc
 match cs, hl with
 | [d0, d1, d2, d3, d4], _ =>
  show Calls Tryz.prog 77 #[.agg #[d0, d1, d2, d3, d4], .pointer (some ⟨B, 0, none⟩)] W fun e w' => e = .returned (.bool (!p x)) ∧ Ext W w'
  generalize p x = px at *
  go_enter Tryz.func77, Tryz.ntmps77
  go_wp2_with (go_at_fn g; refine (HC.out _ (Ext.alloc _ _)).mono ?_; rintro e w2 ⟨rfl, hx2⟩)
  go_ret
  exact ⟨rfl, (by repeat first|exact xA _|assumption|refine xB ?_ _|refine xC ?_|refine xD ?_ _|refine xE ?_ (by simp <;> omega) _|refine xF ?_ (by assumption))⟩
set_option maxHeartbeats 800000 in
theorem all_Con (K : Nat) (g : Nat) (lb : Array Value) (eg : ∀ args w, (callFunc g args).run Tryz.prog w = .ok (.enter g args) w) {p : CI → Bool} {A : Option Addr} {n c : Nat} {xs : List CI} {w : World} (h : ArrAt 5 (ConR K) w (.slice A n c) xs) (hp : PredX 5 g lb aggV (ConR K) p xs w) :
  Calls Tryz.prog 39 #[.slice A n c, .func (.func g) #[] lb] w fun e w' => e = .returned (.bool (xs.all p)) ∧ Ext w w' := by
 have hx0 : Ext w (w.alloc (.cells #[.func (.func g) #[] lb] 86)) := Ext.alloc _ _
 have HI := Lib.hid (con_Con K 77 #[.pointer (some ⟨w.heap.size, 0, none⟩)] (enters_of Tryz.func77 (by kernel_rfl) rfl) (h.ext (ConR.stable K) hx0)
  (all1_Con K g lb eg (hp.ext hx0) (B := w.heap.size) (by simp) (by simp [go_sem])))
 have HN := Lib.hid (not_any_not p xs)
 clear h hp hx0
 generalize xs.any (fun x => !p x) = bb at *
 generalize xs.all p = ba at *
 go_enter Tryz.func39, Tryz.ntmps39
 go_wp2_with fail
 refine HI.out.mono ?_
 rintro e w1 ⟨rfl, hx1⟩
 go_wp2_with fail
 go_ret
 exact ⟨by rw [← HN.out]; rfl, (by repeat first|exact xA _|assumption|refine xB ?_ _|refine xC ?_|refine xD ?_ _|refine xE ?_ (by simp <;> omega) _|refine xF ?_ (by assumption))⟩
end Go.Proofs.YtjigihlhjhbkpaaGreatDoor
namespace Go.Proofs.YtjigihlhjhbkpaaGreatDoor
open Go Go.RowKit
theorem nd_bne (x y : Int) : (!decide (x = y)) = (x != y) := by by_cases h : x = y <;> simp [h]
def okPt (p : PtI) : Bool := p.x.ok && p.y.ok
def okRd (n : Int) (c : RdI) : Bool := hasL n c.center && c.radius.ok && decide (0 < c.radius.num.sgn)
def okSg (n : Int) (g : SgI) : Bool := hasL n g.a && hasL n g.b && !decide (g.a = g.b)
def centerOf (s : SkI) (i : Int) : Int := match s.circles[i.toNat]? with | some c => c.center | none => 0
def okAr (s : SkI) (a : ArI) : Bool := hasL s.circles.length a.circle && hasL s.points.length a.a && hasL s.points.length a.b && !decide (a.a = centerOf s a.circle) && !decide (a.b = centerOf s a.circle)
def okS (K : Nat) (s : SkI) : Bool := s.points.all okPt && s.circles.all (okRd s.points.length) && s.segs.all (okSg s.points.length) && s.arcs.all (okAr s) && s.chains.all (chainL s) && s.cons.all (fun c => validC K c s.points.length s.circles.length)
/-- The error of a sketch. -/
def errS (K : Nat) (s : SkI) : Int := if manyL s then 3 else if okS K s then 0 else 1
/-- What is asked of the program's Valid of a rational number. -/
def RatV (w : World) (q : QI) : Prop := ∀ W v v', Ext w W → Words W v q.num.mag → Words W v' q.den.mag →
 Calls Tryz.prog 26 #[.agg #[.bool q.num.neg, v, .bool q.den.neg, v']] W fun e w' => e = .returned (.bool q.ok) ∧ Ext W w'
theorem RatV.ext {w w' : World} {q : QI} (h : RatV w q) (hx : Ext w w') : RatV w' q := fun W v v' hW => h W v v' (Ext.trans hx hW)
set_option maxHeartbeats 800000 in
theorem val1 {xs : List PtI} {w : World} (hR : ∀ p ∈ xs, RatV w p.x ∧ RatV w p.y) : PredX 8 25 #[] aggV PtR okPt xs w := by
 intro W cs p hm hW hl hRR
 obtain ⟨u, v, u', v', rfl, hu, hv, hu', hv'⟩ := hRR
 have H1 := Lib.hid (fun w1 (hx : Ext W w1) => (hR p hm).1 w1 u v (hW.trans hx) (hu.ext hx) (hv.ext hx))
 have H2 := Lib.hid (fun w1 (hx : Ext W w1) => (hR p hm).2 w1 u' v' (hW.trans hx) (hu'.ext hx) (hv'.ext hx))
 obtain ⟨A1, c1, rfl, hc1, hc1'⟩ := hu.form
 obtain ⟨A2, c2, rfl, hc2, hc2'⟩ := hv.form
 obtain ⟨A3, c3, rfl, hc3, hc3'⟩ := hu'.form
 obtain ⟨A4, c4, rfl, hc4, hc4'⟩ := hv'.form
 clear hR hm hW hl hu hv hu' hv'
 show Calls Tryz.prog 25 #[.agg #[.bool p.x.num.neg, .slice A1 p.x.num.mag.length c1, .bool p.x.den.neg, .slice A2 p.x.den.mag.length c2, .bool p.y.num.neg, .slice A3 p.y.num.mag.length c3, .bool p.y.den.neg, .slice A4 p.y.den.mag.length c4]] W fun e w' => e = .returned (.bool (p.x.ok && p.y.ok)) ∧ Ext W w'
 generalize p.x.ok = b1 at *
 generalize p.y.ok = b2 at *
 generalize p.x.num.mag.length = n1 at *
 generalize p.x.den.mag.length = n2 at *
 generalize p.y.num.mag.length = n3 at *
 generalize p.y.den.mag.length = n4 at *
 generalize p.x.num.neg = s1 at *
 generalize p.x.den.neg = s2 at *
 generalize p.y.num.neg = s3 at *
 generalize p.y.den.neg = s4 at *
 go_enter Tryz.func25, Tryz.ntmps25
 go_wp2_with fail
 refine (H1.out _ (Ext.alloc _ _)).mono ?_
 rintro e w1 ⟨rfl, hx1⟩
 cases b1
 ·go_wp2_with fail
  go_ret
  exact ⟨rfl, (by repeat first|exact xA _|assumption|refine xB ?_ _|refine xC ?_|refine xD ?_ _|refine xE ?_ (by simp <;> omega) _|refine xF ?_ (by assumption))⟩
 obtain ⟨hc, hf⟩ := bcell hx1
 go_wp2_with fail
 refine (H2.out _ (by repeat first|exact xA _|assumption|refine xB ?_ _|refine xC ?_|refine xD ?_ _|refine xE ?_ (by simp <;> omega) _|refine xF ?_ (by assumption))).mono ?_
 rintro e w2 ⟨rfl, hx2⟩
 clear hc hf
 go_wp2_with fail
 go_ret
 exact ⟨rfl, (by repeat first|exact xA _|assumption|refine xB ?_ _|refine xC ?_|refine xD ?_ _|refine xE ?_ (by simp <;> omega) _|refine xF ?_ (by assumption))⟩
set_option maxHeartbeats 800000 in
theorem val2 {xs : List RdI} {n : Int} {w : World} {B : Nat} (hB : B < w.heap.size) (hn : w.cell? ⟨B, 0, none⟩ = some (.int .i64 n)) (hR : ∀ c ∈ xs, RatV w c.radius) (hS : ∀ W (c : RdI) v v', Words W v c.radius.num.mag → Calls Tryz.prog 30 #[.agg #[.bool c.radius.num.neg, v, .bool c.radius.den.neg, v']] W fun e w' => e = .returned (.int .i64 c.radius.num.sgn) ∧ Ext W w') :
  PredX 5 28 #[.pointer (some ⟨B, 0, none⟩)] aggV RdR (okRd n) xs w := by
 intro W cs c hm hW hl hRR
 obtain ⟨u, v, rfl, hu, hv⟩ := hRR
 have H1 := Lib.hid (fun w1 (hx : Ext W w1) => hR c hm w1 u v (hW.trans hx) (hu.ext hx) (hv.ext hx))
 have H2 := Lib.hid (fun w1 (hx : Ext W w1) => hS w1 c u v (hu.ext hx))
 have HH := Lib.hid (fun w1 => sketch_has n c.center w1)
 have q := (hW.cell (p := ⟨B, 0, none⟩) hB).trans hn
 have hBW : B < W.heap.size := Nat.lt_of_lt_of_le hB hW.size
 have hne : B ≠ W.heap.size := by omega
 obtain ⟨A1, c1, rfl, hc1, hc1'⟩ := hu.form
 obtain ⟨A2, c2, rfl, hc2, hc2'⟩ := hv.form
 clear hR hS hm hW hl hu hv hn
 show Calls Tryz.prog 28 #[.agg #[.int .i64 c.center, .bool c.radius.num.neg, .slice A1 c.radius.num.mag.length c1, .bool c.radius.den.neg, .slice A2 c.radius.den.mag.length c2], .pointer (some ⟨B, 0, none⟩)] W fun e w' => e = .returned (.bool (hasL n c.center && c.radius.ok && decide (0 < c.radius.num.sgn))) ∧ Ext W w'
 generalize hasL n c.center = b1 at *
 generalize c.radius.ok = b2 at *
 generalize c.radius.num.sgn = sg at *
 generalize c.radius.num.mag.length = n1 at *
 generalize c.radius.den.mag.length = n2 at *
 generalize c.radius.num.neg = s1 at *
 generalize c.radius.den.neg = s2 at *
 generalize c.center = ct at *
 go_enter Tryz.func28, Tryz.ntmps28
 go_wp2_with fail
 refine (HH.out _).mono ?_
 rintro e w1 ⟨rfl, rfl⟩
 cases b1
 ·go_wp2_with fail
  go_ret
  exact ⟨rfl, (by repeat first|exact xA _|assumption|refine xB ?_ _|refine xC ?_|refine xD ?_ _|refine xE ?_ (by simp <;> omega) _|refine xF ?_ (by assumption))⟩
 go_wp2_with fail
 refine (H1.out _ (Ext.alloc _ _)).mono ?_
 rintro e w2 ⟨rfl, hx2⟩
 cases b2
 ·go_wp2_with fail
  go_ret
  exact ⟨rfl, (by repeat first|exact xA _|assumption|refine xB ?_ _|refine xC ?_|refine xD ?_ _|refine xE ?_ (by simp <;> omega) _|refine xF ?_ (by assumption))⟩
 obtain ⟨hc, hf⟩ := bcell hx2
 go_wp2_with fail
 refine (H2.out _ (by repeat first|exact xA _|assumption|refine xB ?_ _|refine xC ?_|refine xD ?_ _|refine xE ?_ (by simp <;> omega) _|refine xF ?_ (by assumption))).mono ?_
 rintro e w3 ⟨rfl, hx3⟩
 clear hc hf
 go_wp2_with fail
 go_ret
 exact ⟨by simp, (by repeat first|exact xA _|assumption|refine xB ?_ _|refine xC ?_|refine xD ?_ _|refine xE ?_ (by simp <;> omega) _|refine xF ?_ (by assumption))⟩
set_option maxHeartbeats 800000 in
theorem val3 {xs : List SgI} {n : Int} {w : World} {B : Nat} (hB : B < w.heap.size) (hn : w.cell? ⟨B, 0, none⟩ = some (.int .i64 n)) :
  PredX 2 32 #[.pointer (some ⟨B, 0, none⟩)] aggV SgR (okSg n) xs w := by
 intro W cs c hm hW hl hRR
 obtain rfl := hRR
 have HH1 := Lib.hid (fun w1 => sketch_has n c.a w1)
 have HH2 := Lib.hid (fun w1 => sketch_has n c.b w1)
 have q := (hW.cell (p := ⟨B, 0, none⟩) hB).trans hn
 have hBW : B < W.heap.size := Nat.lt_of_lt_of_le hB hW.size
 have hne : B ≠ W.heap.size := by omega
 clear hm hW hl hn
 show Calls Tryz.prog 32 #[.agg #[.int .i64 c.a, .int .i64 c.b], .pointer (some ⟨B, 0, none⟩)] W fun e w' => e = .returned (.bool (hasL n c.a && hasL n c.b && !decide (c.a = c.b))) ∧ Ext W w'
 have HE : Hid ((!decide (c.a = c.b)) = (c.a != c.b)) := nd_bne _ _
 rw [HE.out]
 generalize hasL n c.a = b1 at *
 generalize hasL n c.b = b2 at *
 generalize c.a = x at *
 generalize c.b = y at *
 clear HE
 go_enter Tryz.func32, Tryz.ntmps32
 go_wp2_with fail
 refine (HH1.out _).mono ?_
 rintro e w1 ⟨rfl, rfl⟩
 cases b1
 ·go_wp2_with fail
  go_ret
  exact ⟨rfl, (by repeat first|exact xA _|assumption|refine xB ?_ _|refine xC ?_|refine xD ?_ _|refine xE ?_ (by simp <;> omega) _|refine xF ?_ (by assumption))⟩
 go_wp2_with fail
 refine (HH2.out _).mono ?_
 rintro e w1 ⟨rfl, rfl⟩
 cases b2
 ·go_wp2_with fail
  go_ret
  exact ⟨rfl, (by repeat first|exact xA _|assumption|refine xB ?_ _|refine xC ?_|refine xD ?_ _|refine xE ?_ (by simp <;> omega) _|refine xF ?_ (by assumption))⟩
 go_wp2_with fail
 go_ret
 exact ⟨by simp, (by repeat first|exact xA _|assumption|refine xB ?_ _|refine xC ?_|refine xD ?_ _|refine xE ?_ (by simp <;> omega) _|refine xF ?_ (by assumption))⟩
set_option maxHeartbeats 1600000 in
theorem sketch_validArc {K : Nat} {s : SkI} {v0 v1 v2 v3 v4 v5 : Value} {w : World} (h : SkAt K w v0 v1 v2 v3 v4 v5 s) (a : ArI) :
  Calls Tryz.prog 35 #[.agg #[v0, v1, v2, v3, v4, v5], .agg #[.int .i64 a.circle, .int .i64 a.a, .int .i64 a.b, .bool a.cw]] w fun e w' => e = .returned (.bool (okAr s a)) ∧ Ext w w' := by
 obtain ⟨A0, c0, rfl, hl0, hm0⟩ := h.points.form
 obtain ⟨A1, c1, rfl, hl1, hm1⟩ := h.circles.form
 have HCI := Lib.hid h.circles
 have HOK : Hid (okAr s a = (hasL s.circles.length a.circle && hasL s.points.length a.a && hasL s.points.length a.b && !decide (a.a = centerOf s a.circle) && !decide (a.b = centerOf s a.circle))) := rfl
 have HH1 := Lib.hid (fun w1 => sketch_has s.circles.length a.circle w1)
 have HH2 := Lib.hid (fun w1 => sketch_has s.points.length a.a w1)
 have HH3 := Lib.hid (fun w1 => sketch_has s.points.length a.b w1)
 clear h
 by_cases h1 : hasL s.circles.length a.circle = true
 ·obtain ⟨i, hi, hlt⟩ : ∃ i : Nat, a.circle = (i : Int) ∧ i < s.circles.length := by
   simp [hasL] at h1; exact ⟨a.circle.toNat, by omega, by omega⟩
  obtain ⟨b, off, rfl, hb, ds, hds, hcell, u, v, rfl, -⟩ := HCI.out.at_ hlt
  have q0 : w.cell? ⟨b, off + i * 5, none⟩ = some (.int .i64 s.circles[i].center) := hcell 0 _ rfl
  have HCT : Hid (centerOf s a.circle = s.circles[i].center) := by show _ = _; rw [hi]; simp [centerOf, List.getElem?_eq_getElem hlt]
  rw [h1, HCT.out] at HOK
  rw [h1] at HH1
  rw [hi] at HH1
  clear h1 hcell HCI HCT hds
  generalize okAr s a = ok at *
  generalize hasL s.points.length a.a = b2 at *
  generalize hasL s.points.length a.b = b3 at *
  generalize s.circles[i].center = ct at *
  rw [hi]
  clear hi
  generalize a.a = x at *
  generalize a.b = y at *
  generalize a.cw = cw at *
  generalize s.points.length = np at *
  generalize s.circles.length = nc at *
  have hltI : (i : Int) < (nc : Int) := by omega
  have hne1 : b ≠ w.heap.size := by omega
  have hne2 : b ≠ w.heap.size + 1 := by omega
  go_enter Tryz.func35, Tryz.ntmps35
  go_wp2_with fail
  refine (HH1.out _).mono ?_
  rintro e w1 ⟨rfl, rfl⟩
  go_wp2_with fail
  refine (HH2.out _).mono ?_
  rintro e w1 ⟨rfl, rfl⟩
  cases b2
  ·go_wp2_with fail
   go_ret
   exact ⟨by rw [HOK.out]; rfl, (by repeat first|exact xA _|assumption|refine xB ?_ _|refine xC ?_|refine xD ?_ _|refine xE ?_ (by simp <;> omega) _|refine xF ?_ (by assumption))⟩
  go_wp2_with fail
  refine (HH3.out _).mono ?_
  rintro e w1 ⟨rfl, rfl⟩
  cases b3
  ·go_wp2_with fail
   go_ret
   exact ⟨by rw [HOK.out]; rfl, (by repeat first|exact xA _|assumption|refine xB ?_ _|refine xC ?_|refine xD ?_ _|refine xE ?_ (by simp <;> omega) _|refine xF ?_ (by assumption))⟩
  by_cases e1 : x = ct
  ·have f1 : (x != ct) = false := by simp [e1]
   have HR : Hid (ok = false) := by show _ = _; rw [HOK.out, decide_eq_true e1]; rfl
   clear e1
   go_wp2_with fail
   go_ret
   exact ⟨by rw [HR.out]; rfl, (by repeat first|exact xA _|assumption|refine xB ?_ _|refine xC ?_|refine xD ?_ _|refine xE ?_ (by simp <;> omega) _|refine xF ?_ (by assumption))⟩
  ·have f1 : (x != ct) = true := by simp [e1]
   have HR : Hid (ok = (y != ct)) := by show _ = _; rw [HOK.out, decide_eq_false e1, nd_bne]; rfl
   clear e1
   go_wp2_with fail
   go_ret
   exact ⟨by rw [HR.out]; simp, (by repeat first|exact xA _|assumption|refine xB ?_ _|refine xC ?_|refine xD ?_ _|refine xE ?_ (by simp <;> omega) _|refine xF ?_ (by assumption))⟩
 ·have h1' : hasL s.circles.length a.circle = false := by simpa using h1
  rw [h1'] at HOK HH1
  clear h1 h1' HCI HH2 HH3
  generalize okAr s a = ok at *
  generalize a.circle = ci at *
  generalize a.a = x at *
  generalize a.b = y at *
  generalize a.cw = cw at *
  generalize s.points.length = np at *
  generalize s.circles.length = nc at *
  go_enter Tryz.func35, Tryz.ntmps35
  go_wp2_with fail
  refine (HH1.out _).mono ?_
  rintro e w1 ⟨rfl, rfl⟩
  go_wp2_with fail
  go_ret
  exact ⟨by rw [HOK.out]; rfl, (by repeat first|exact xA _|assumption|refine xB ?_ _|refine xC ?_|refine xD ?_ _|refine xE ?_ (by simp <;> omega) _|refine xF ?_ (by assumption))⟩
set_option maxHeartbeats 800000 in
theorem val4 {K : Nat} {s : SkI} {v0 v1 v2 v3 v4 v5 : Value} {xs : List ArI} {w : World} {B : Nat} (h : SkAt K w v0 v1 v2 v3 v4 v5 s) (hB : CellsAt w B [v0, v1, v2, v3, v4, v5]) :
  PredX 4 34 #[.pointer (some ⟨B, 0, none⟩)] aggV ArR (okAr s) xs w := by
 intro W cs c hm hW hl hRR
 obtain rfl := hRR
 obtain ⟨A0, c0, rfl, hl0, hm0⟩ := h.points.form
 obtain ⟨A1, c1, rfl, hl1, hm1⟩ := h.circles.form
 obtain ⟨A2, c2, rfl, hl2, hm2⟩ := h.segs.form
 obtain ⟨A3, c3, rfl, hl3, hm3⟩ := h.arcs.form
 obtain ⟨A4, c4, rfl, hl4, hm4⟩ := h.chains.form
 obtain ⟨A5, c5, rfl, hl5, hm5⟩ := h.cons.form
 have HV := Lib.hid (fun w1 (hx : Ext W w1) => sketch_validArc (h.ext (hW.trans hx)) c)
 obtain ⟨y0, y1, y2, y3, y4, y5⟩ := (hB.ext hW).six
 have hBW : B < W.heap.size := Nat.lt_of_lt_of_le hB.1 hW.size
 have hne : B ≠ W.heap.size := by omega
 clear h hm hW hl hB
 show Calls Tryz.prog 34 #[.agg #[.int .i64 c.circle, .int .i64 c.a, .int .i64 c.b, .bool c.cw], .pointer (some ⟨B, 0, none⟩)] W fun e w' => e = .returned (.bool (okAr s c)) ∧ Ext W w'
 generalize okAr s c = ok at *
 generalize c.circle = ci at *
 generalize c.a = x at *
 generalize c.b = y at *
 generalize c.cw = cw at *
 go_enter Tryz.func34, Tryz.ntmps34
 go_wp2_with fail
 refine (HV.out _ (Ext.alloc _ _)).mono ?_
 rintro e w1 ⟨rfl, hx1⟩
 go_wp2_with fail
 go_ret
 exact ⟨rfl, (by repeat first|exact xA _|assumption|refine xB ?_ _|refine xC ?_|refine xD ?_ _|refine xE ?_ (by simp <;> omega) _|refine xF ?_ (by assumption))⟩
end Go.Proofs.YtjigihlhjhbkpaaGreatDoor
namespace Go.Proofs.YtjigihlhjhbkpaaGreatDoor
open Go Go.RowKit
set_option maxHeartbeats 800000 in
theorem crowd1 {xs : List (List PcI)} {w : World} : PredX 1 62 #[] oneV ChR (fun c => decide (200 < c.length)) xs w := by
 intro W cs c hm hW hl hRR
 obtain ⟨v, rfl, hv⟩ := hRR
 obtain ⟨A, cp, rfl, hl1, hm1⟩ := hv.form
 clear hm hW hl hv
 show Calls Tryz.prog 62 #[.slice A c.length cp] W fun e w' => e = .returned (.bool (decide (200 < c.length))) ∧ Ext W w'
 generalize c.length = n at *
 go_enter Tryz.func62, Tryz.ntmps62
 go_wp2_with fail
 go_ret
 exact ⟨by simp; omega, Ext.refl _⟩
set_option maxRecDepth 100000 in
set_option maxHeartbeats 1600000 in
theorem sketch_crowded {K : Nat} {s : SkI} {v0 v1 v2 v3 v4 v5 : Value} {w : World} (h : SkAt K w v0 v1 v2 v3 v4 v5 s) :
  Calls Tryz.prog 23 #[.agg #[v0, v1, v2, v3, v4, v5]] w fun e w' => e = .returned (.bool (manyL s)) ∧ Ext w w' := by
 obtain ⟨A0, c0, rfl, hl0, hm0⟩ := h.points.form
 obtain ⟨A1, c1, rfl, hl1, hm1⟩ := h.circles.form
 obtain ⟨A2, c2, rfl, hl2, hm2⟩ := h.segs.form
 obtain ⟨A3, c3, rfl, hl3, hm3⟩ := h.arcs.form
 obtain ⟨A4, c4, rfl, hl4, hm4⟩ := h.chains.form
 obtain ⟨A5, c5, rfl, hl5, hm5⟩ := h.cons.form
 have HCH := Lib.hid (fun w1 (hx : Ext w w1) => con_Chain 62 #[] (enters_of Tryz.func62 (by kernel_rfl) rfl) (h.chains.ext ChR.stable hx) (crowd1 (xs := s.chains) (w := w1)))
 have HML : Hid (manyL s = (s.chains.any (fun c => decide (200 < c.length)) || decide (200 < s.points.length) || decide (200 < s.circles.length) || decide (200 < s.segs.length) || decide (200 < s.arcs.length) || decide (200 < s.chains.length) || decide (200 < s.cons.length))) := rfl
 clear h
 generalize s.chains.any (fun c => decide (200 < c.length)) = ca at *
 generalize manyL s = my at *
 generalize s.points.length = n0 at *
 generalize s.circles.length = n1 at *
 generalize s.segs.length = n2 at *
 generalize s.arcs.length = n3 at *
 generalize s.chains.length = n4 at *
 generalize s.cons.length = n5 at *
 by_cases t0 : 200 < n0
 ·have HR : Hid (my = true) := by show _ = _; rw [HML.out]; simp [t0]
  go_enter Tryz.func23, Tryz.ntmps23
  go_wp2_with fail
  refine wp_loop_rounds 1 ?_
  rw [rounds_succ]; go_wp2_with fail
  go_ret
  exact ⟨by rw [HR.out]; rfl, (by repeat first|exact xA _|assumption|refine xB ?_ _|refine xC ?_|refine xD ?_ _|refine xE ?_ (by simp <;> omega) _|refine xF ?_ (by assumption))⟩
 by_cases t1 : 200 < n1
 ·have HR : Hid (my = true) := by show _ = _; rw [HML.out]; simp [t1]
  go_enter Tryz.func23, Tryz.ntmps23
  go_wp2_with fail
  refine wp_loop_rounds 2 ?_
  rw [rounds_succ]; go_wp2_with fail
  rw [rounds_succ]; go_wp2_with fail
  go_ret
  exact ⟨by rw [HR.out]; rfl, (by repeat first|exact xA _|assumption|refine xB ?_ _|refine xC ?_|refine xD ?_ _|refine xE ?_ (by simp <;> omega) _|refine xF ?_ (by assumption))⟩
 by_cases t2 : 200 < n2
 ·have HR : Hid (my = true) := by show _ = _; rw [HML.out]; simp [t2]
  go_enter Tryz.func23, Tryz.ntmps23
  go_wp2_with fail
  refine wp_loop_rounds 3 ?_
  rw [rounds_succ]; go_wp2_with fail
  rw [rounds_succ]; go_wp2_with fail
  rw [rounds_succ]; go_wp2_with fail
  go_ret
  exact ⟨by rw [HR.out]; rfl, (by repeat first|exact xA _|assumption|refine xB ?_ _|refine xC ?_|refine xD ?_ _|refine xE ?_ (by simp <;> omega) _|refine xF ?_ (by assumption))⟩
 by_cases t3 : 200 < n3
 ·have HR : Hid (my = true) := by show _ = _; rw [HML.out]; simp [t3]
  go_enter Tryz.func23, Tryz.ntmps23
  go_wp2_with fail
  refine wp_loop_rounds 4 ?_
  rw [rounds_succ]; go_wp2_with fail
  rw [rounds_succ]; go_wp2_with fail
  rw [rounds_succ]; go_wp2_with fail
  rw [rounds_succ]; go_wp2_with fail
  go_ret
  exact ⟨by rw [HR.out]; rfl, (by repeat first|exact xA _|assumption|refine xB ?_ _|refine xC ?_|refine xD ?_ _|refine xE ?_ (by simp <;> omega) _|refine xF ?_ (by assumption))⟩
 by_cases t4 : 200 < n4
 ·have HR : Hid (my = true) := by show _ = _; rw [HML.out]; simp [t4]
  go_enter Tryz.func23, Tryz.ntmps23
  go_wp2_with fail
  refine wp_loop_rounds 5 ?_
  rw [rounds_succ]; go_wp2_with fail
  rw [rounds_succ]; go_wp2_with fail
  rw [rounds_succ]; go_wp2_with fail
  rw [rounds_succ]; go_wp2_with fail
  rw [rounds_succ]; go_wp2_with fail
  go_ret
  exact ⟨by rw [HR.out]; rfl, (by repeat first|exact xA _|assumption|refine xB ?_ _|refine xC ?_|refine xD ?_ _|refine xE ?_ (by simp <;> omega) _|refine xF ?_ (by assumption))⟩
 by_cases t5 : 200 < n5
 ·have HR : Hid (my = true) := by show _ = _; rw [HML.out]; simp [t5]
  go_enter Tryz.func23, Tryz.ntmps23
  go_wp2_with fail
  refine wp_loop_rounds 6 ?_
  rw [rounds_succ]; go_wp2_with fail
  rw [rounds_succ]; go_wp2_with fail
  rw [rounds_succ]; go_wp2_with fail
  rw [rounds_succ]; go_wp2_with fail
  rw [rounds_succ]; go_wp2_with fail
  rw [rounds_succ]; go_wp2_with fail
  go_ret
  exact ⟨by rw [HR.out]; rfl, (by repeat first|exact xA _|assumption|refine xB ?_ _|refine xC ?_|refine xD ?_ _|refine xE ?_ (by simp <;> omega) _|refine xF ?_ (by assumption))⟩
 have HR : Hid (my = ca) := by show _ = _; rw [HML.out]; simp [t0, t1, t2, t3, t4, t5]
 go_enter Tryz.func23, Tryz.ntmps23
 go_wp2_with fail
 refine wp_loop_rounds 7 ?_
 rw [rounds_succ]; go_wp2_with fail
 rw [rounds_succ]; go_wp2_with fail
 rw [rounds_succ]; go_wp2_with fail
 rw [rounds_succ]; go_wp2_with fail
 rw [rounds_succ]; go_wp2_with fail
 rw [rounds_succ]; go_wp2_with fail
 rw [rounds_succ]; go_wp2_with fail
 refine (HCH.out _ (by repeat first|exact xA _|assumption|refine xB ?_ _|refine xC ?_|refine xD ?_ _|refine xE ?_ (by simp <;> omega) _|refine xF ?_ (by assumption))).mono ?_
 rintro e w1 ⟨rfl, hx1⟩
 go_wp2_with fail
 go_ret
 exact ⟨by rw [HR.out]; rfl, (by repeat first|exact xA _|assumption|refine xB ?_ _|refine xC ?_|refine xD ?_ _|refine xE ?_ (by simp <;> omega) _|refine xF ?_ (by assumption))⟩
end Go.Proofs.YtjigihlhjhbkpaaGreatDoor
namespace Go.Proofs.YtjigihlhjhbkpaaGreatDoor
open Go Go.RowKit
set_option maxHeartbeats 800000 in
theorem val5 {K : Nat} {s : SkI} {v0 v1 v2 v3 v4 v5 : Value} {w : World} {B : Nat} (h : SkAt K w v0 v1 v2 v3 v4 v5 s) (hB : CellsAt w B [v0, v1, v2, v3, v4, v5])
  (hV : ∀ W v c, c ∈ s.chains → Ext w W → ArrAt 3 PcR W v c → Calls Tryz.prog 38 #[.agg #[v0, v1, v2, v3, v4, v5], v] W fun e w' => e = .returned (.bool (chainL s c)) ∧ Ext W w') :
  PredX 1 37 #[.pointer (some ⟨B, 0, none⟩)] oneV ChR (chainL s) s.chains w := by
 intro W cs c hm hW hl hRR
 obtain ⟨v, rfl, hv⟩ := hRR
 obtain ⟨A0, c0, rfl, hl0, hm0⟩ := h.points.form
 obtain ⟨A1, c1, rfl, hl1, hm1⟩ := h.circles.form
 obtain ⟨A2, c2, rfl, hl2, hm2⟩ := h.segs.form
 obtain ⟨A3, c3, rfl, hl3, hm3⟩ := h.arcs.form
 obtain ⟨A4, c4, rfl, hl4, hm4⟩ := h.chains.form
 obtain ⟨A5, c5, rfl, hl5, hm5⟩ := h.cons.form
 obtain ⟨A6, c6, rfl, hl6, hm6⟩ := hv.form
 have HV := Lib.hid (hV W _ c hm hW hv)
 obtain ⟨y0, y1, y2, y3, y4, y5⟩ := (hB.ext hW).six
 have hBW : B < W.heap.size := Nat.lt_of_lt_of_le hB.1 hW.size
 clear h hm hW hl hB hv hV
 show Calls Tryz.prog 37 #[.slice A6 c.length c6, .pointer (some ⟨B, 0, none⟩)] W fun e w' => e = .returned (.bool (chainL s c)) ∧ Ext W w'
 generalize chainL s c = ok at *
 generalize c.length = n6 at *
 go_enter Tryz.func37, Tryz.ntmps37
 go_wp2_with fail
 refine HV.out.mono ?_
 rintro e w1 ⟨rfl, hx1⟩
 go_wp2_with fail
 go_ret
 exact ⟨rfl, (by repeat first|exact xA _|assumption|refine xB ?_ _|refine xC ?_|refine xD ?_ _|refine xE ?_ (by simp <;> omega) _|refine xF ?_ (by assumption))⟩
set_option maxHeartbeats 800000 in
theorem val6 {K : Nat} {xs : List CI} {n m : Int} {w : World} {B C : Nat} (hB : B < w.heap.size) (hC : C < w.heap.size) (hn : w.cell? ⟨B, 0, none⟩ = some (.int .i64 n)) (hm' : w.cell? ⟨C, 0, none⟩ = some (.int .i64 m))
  (hV : ∀ W pv cv vv c, c ∈ xs → Ext w W → Ints W pv c.points → Ints W cv c.circles → ArrAt 7 (ExprR K) W vv c.values → Calls Tryz.prog 41 #[.agg #[.int .i64 c.kind, pv, cv, vv, .int .i64 c.side], .int .i64 n, .int .i64 m] W fun e w' => e = .returned (.bool (validC K c n m)) ∧ Ext W w') :
  PredX 5 40 #[.pointer (some ⟨B, 0, none⟩), .pointer (some ⟨C, 0, none⟩)] aggV (ConR K) (fun c => validC K c n m) xs w := by
 intro W cs c hm hW hl hRR
 obtain ⟨pv, cv, vv, rfl, hp, hc, hv⟩ := hRR
 have HV := Lib.hid (fun w1 (hx : Ext W w1) => hV w1 pv cv vv c hm (hW.trans hx) (hp.ext IntR.stable hx) (hc.ext IntR.stable hx) (hv.ext (ExprR.stable K) hx))
 obtain ⟨A1, c1, rfl, hl1, hm1⟩ := hp.form
 obtain ⟨A2, c2, rfl, hl2, hm2⟩ := hc.form
 obtain ⟨A3, c3, rfl, hl3, hm3⟩ := hv.form
 have q := (hW.cell (p := ⟨B, 0, none⟩) hB).trans hn
 have q' := (hW.cell (p := ⟨C, 0, none⟩) hC).trans hm'
 have hBW : B < W.heap.size := Nat.lt_of_lt_of_le hB hW.size
 have hCW : C < W.heap.size := Nat.lt_of_lt_of_le hC hW.size
 have hne : B ≠ W.heap.size := by omega
 have hne' : C ≠ W.heap.size := by omega
 clear hm hW hl hp hc hv hV hn hm'
 show Calls Tryz.prog 40 #[.agg #[.int .i64 c.kind, .slice A1 c.points.length c1, .slice A2 c.circles.length c2, .slice A3 c.values.length c3, .int .i64 c.side], .pointer (some ⟨B, 0, none⟩), .pointer (some ⟨C, 0, none⟩)] W fun e w' => e = .returned (.bool (validC K c n m)) ∧ Ext W w'
 generalize validC K c n m = ok at *
 go_enter Tryz.func40, Tryz.ntmps40
 go_wp2_with fail
 refine (HV.out _ (Ext.alloc _ _)).mono ?_
 rintro e w1 ⟨rfl, hx1⟩
 go_wp2_with fail
 go_ret
 exact ⟨rfl, (by repeat first|exact xA _|assumption|refine xB ?_ _|refine xC ?_|refine xD ?_ _|refine xE ?_ (by simp <;> omega) _|refine xF ?_ (by assumption))⟩
/-- What the program's Valid of a sketch needs of what it calls. -/
structure SkV (K : Nat) (w : World) (v0 v1 v2 v3 v4 v5 : Value) (s : SkI) : Prop where
 pts : ∀ p ∈ s.points, RatV w p.x ∧ RatV w p.y
 rds : ∀ c ∈ s.circles, RatV w c.radius
 sgn : ∀ W (c : RdI) v v', Words W v c.radius.num.mag → Calls Tryz.prog 30 #[.agg #[.bool c.radius.num.neg, v, .bool c.radius.den.neg, v']] W fun e w' => e = .returned (.int .i64 c.radius.num.sgn) ∧ Ext W w'
 chs : ∀ W v c, c ∈ s.chains → Ext w W → ArrAt 3 PcR W v c → Calls Tryz.prog 38 #[.agg #[v0, v1, v2, v3, v4, v5], v] W fun e w' => e = .returned (.bool (chainL s c)) ∧ Ext W w'
 cns : ∀ W pv cv vv c, c ∈ s.cons → Ext w W → Ints W pv c.points → Ints W cv c.circles → ArrAt 7 (ExprR K) W vv c.values → Calls Tryz.prog 41 #[.agg #[.int .i64 c.kind, pv, cv, vv, .int .i64 c.side], .int .i64 s.points.length, .int .i64 s.circles.length] W fun e w' => e = .returned (.bool (validC K c s.points.length s.circles.length)) ∧ Ext W w'
theorem SkV.ext {K : Nat} {w w' : World} {v0 v1 v2 v3 v4 v5 : Value} {s : SkI} (h : SkV K w v0 v1 v2 v3 v4 v5 s) (hx : Ext w w') : SkV K w' v0 v1 v2 v3 v4 v5 s :=
 ⟨fun p hp => ⟨(h.pts p hp).1.ext hx, (h.pts p hp).2.ext hx⟩, fun c hc => (h.rds c hc).ext hx, h.sgn, fun W v c hc hW => h.chs W v c hc (Ext.trans hx hW), fun W pv cv vv c hc hW => h.cns W pv cv vv c hc (Ext.trans hx hW)⟩
set_option maxRecDepth 100000 in
set_option maxHeartbeats 3200000 in
theorem sketch_Valid {K : Nat} {s : SkI} {v0 v1 v2 v3 v4 v5 : Value} {w : World} (h : SkAt K w v0 v1 v2 v3 v4 v5 s) (hv : SkV K w v0 v1 v2 v3 v4 v5 s) :
  Calls Tryz.prog 13 #[.agg #[v0, v1, v2, v3, v4, v5]] w fun e w' => e = .returned (.int .i64 (errS K s)) ∧ Ext w w' := by
 obtain ⟨A0, c0, rfl, hl0, hm0⟩ := h.points.form
 obtain ⟨A1, c1, rfl, hl1, hm1⟩ := h.circles.form
 obtain ⟨A2, c2, rfl, hl2, hm2⟩ := h.segs.form
 obtain ⟨A3, c3, rfl, hl3, hm3⟩ := h.arcs.form
 obtain ⟨A4, c4, rfl, hl4, hm4⟩ := h.chains.form
 obtain ⟨A5, c5, rfl, hl5, hm5⟩ := h.cons.form
 have HBX := Lib.hid (CellsAt.new w [.slice A0 s.points.length c0, .slice A1 s.circles.length c1, .slice A2 s.segs.length c2, .slice A3 s.arcs.length c3, .slice A4 s.chains.length c4, .slice A5 s.cons.length c5] 29)
 have HMY := Lib.hid (fun w1 (hx : Ext w w1) => sketch_crowded (h.ext hx))
 have H1 := Lib.hid (fun w1 (hx : Ext w w1) => all_Point 25 #[] (enters_of Tryz.func25 (by kernel_rfl) rfl) (h.points.ext PtR.stable hx) (val1 (hv.ext hx).pts))
 have H2 := Lib.hid (fun w1 (hx : Ext w w1) B (hB : B < w1.heap.size) (hn : w1.cell? ⟨B, 0, none⟩ = some (.int .i64 (s.points.length : Int))) => all_Round 28 #[.pointer (some ⟨B, 0, none⟩)] (enters_of Tryz.func28 (by kernel_rfl) rfl) (h.circles.ext RdR.stable hx) (val2 hB hn (hv.ext hx).rds hv.sgn))
 have H3 := Lib.hid (fun w1 (hx : Ext w w1) B (hB : B < w1.heap.size) (hn : w1.cell? ⟨B, 0, none⟩ = some (.int .i64 (s.points.length : Int))) => all_Segment 32 #[.pointer (some ⟨B, 0, none⟩)] (enters_of Tryz.func32 (by kernel_rfl) rfl) (h.segs.ext SgR.stable hx) (val3 hB hn))
 have H4 := Lib.hid (fun w1 (hx : Ext w w1) B (hB : CellsAt w1 B [.slice A0 s.points.length c0, .slice A1 s.circles.length c1, .slice A2 s.segs.length c2, .slice A3 s.arcs.length c3, .slice A4 s.chains.length c4, .slice A5 s.cons.length c5]) => all_Arc 34 #[.pointer (some ⟨B, 0, none⟩)] (enters_of Tryz.func34 (by kernel_rfl) rfl) (h.arcs.ext ArR.stable hx) (val4 (h.ext hx) hB))
 have H5 := Lib.hid (fun w1 (hx : Ext w w1) B (hB : CellsAt w1 B [.slice A0 s.points.length c0, .slice A1 s.circles.length c1, .slice A2 s.segs.length c2, .slice A3 s.arcs.length c3, .slice A4 s.chains.length c4, .slice A5 s.cons.length c5]) => all_Chain 37 #[.pointer (some ⟨B, 0, none⟩)] (enters_of Tryz.func37 (by kernel_rfl) rfl) (h.chains.ext ChR.stable hx) (val5 (h.ext hx) hB (hv.ext hx).chs))
 have H6 := Lib.hid (fun w1 (hx : Ext w w1) B C (hB : B < w1.heap.size) (hC : C < w1.heap.size) (hn : w1.cell? ⟨B, 0, none⟩ = some (.int .i64 (s.points.length : Int))) (hm : w1.cell? ⟨C, 0, none⟩ = some (.int .i64 (s.circles.length : Int))) => all_Con K 40 #[.pointer (some ⟨B, 0, none⟩), .pointer (some ⟨C, 0, none⟩)] (enters_of Tryz.func40 (by kernel_rfl) rfl) (h.cons.ext (ConR.stable K) hx) (val6 hB hC hn hm (hv.ext hx).cns))
 have HER : Hid (errS K s = if manyL s then 3 else if (s.points.all okPt && s.circles.all (okRd s.points.length) && s.segs.all (okSg s.points.length) && s.arcs.all (okAr s) && s.chains.all (chainL s) && s.cons.all (fun c => validC K c s.points.length s.circles.length)) then 0 else 1) := rfl
 clear h hv
 generalize manyL s = my at *
 generalize s.points.all okPt = a1 at *
 generalize s.circles.all (okRd s.points.length) = a2 at *
 generalize s.segs.all (okSg s.points.length) = a3 at *
 generalize s.arcs.all (okAr s) = a4 at *
 generalize s.chains.all (chainL s) = a5 at *
 generalize s.cons.all (fun c => validC K c s.points.length s.circles.length) = a6 at *
 generalize errS K s = er at *
 generalize s.points.length = n0 at *
 generalize s.circles.length = n1 at *
 generalize s.segs.length = n2 at *
 generalize s.arcs.length = n3 at *
 generalize s.chains.length = n4 at *
 generalize s.cons.length = n5 at *
 go_enter Tryz.func13, Tryz.ntmps13
 go_wp2_with fail
 refine (HMY.out _ (Ext.alloc _ _)).mono ?_
 rintro e w1 ⟨rfl, hx1⟩
 have hE1 : Ext w w1 := Ext.trans (Ext.alloc _ _) hx1
 cases my
 rotate_left
 ·go_wp2_with fail
  go_ret
  exact ⟨by rw [HER.out]; rfl, hE1⟩
 have HB1 := Lib.hid (HBX.out.ext hx1)
 clear HBX HMY hx1
 obtain ⟨y0, y1, y2, y3, y4, y5⟩ := HB1.out.six
 have hlt1 := HB1.out.1
 go_upto_region 3 with fail
 go_cut [3, 4] (fun x y wx => ∃ B C, x = .pointer (some ⟨B, 0, none⟩) ∧ y = .pointer (some ⟨C, 0, none⟩) ∧ Hid (B < wx.heap.size ∧ C < wx.heap.size ∧ wx.cell? ⟨B, 0, none⟩ = some (.int .i64 (n0 : Int)) ∧ wx.cell? ⟨C, 0, none⟩ = some (.int .i64 (n1 : Int)) ∧ Ext w1 wx))
 case first =>
  go_region
  all_goals
   go_wp2_with fail
   go_meet
   exact ⟨_, _, rfl, rfl, (by first | (simp; done) | (simp; omega)), (by first | (simp; done) | (simp; omega)), (by first | (simp; done) | (simp [go_sem]; done)), (by first | (simp; done) | (simp [go_sem]; done)), (by repeat first|exact xA _|assumption|refine xB ?_ _|refine xC ?_|refine xD ?_ _|refine xE ?_ (by simp <;> omega) _|refine xF ?_ (by assumption))⟩
 case rest =>
  obtain ⟨B, C, rfl, rfl, HX⟩ := hcut
  clear y0 y1 y2 y3 y4 y5
  have HBc := Lib.hid (HB1.out.ext HX.out.2.2.2.2)
  have hEc := hE1.trans HX.out.2.2.2.2
  obtain ⟨y0, y1, y2, y3, y4, y5⟩ := HBc.out.six
  go_wp2_with fail
  refine (H1.out _ hEc).mono ?_
  rintro e w2 ⟨rfl, hx2⟩
  cases a1
  ·go_wp2_with fail
   go_ret
   exact ⟨by rw [HER.out]; rfl, (by repeat first|exact xA _|assumption|refine xB ?_ _|refine xC ?_|refine xD ?_ _|refine xE ?_ (by simp <;> omega) _|refine xF ?_ (by assumption))⟩
  have hE2 := Ext.trans hEc hx2
  clear y0 y1 y2 y3 y4 y5
  obtain ⟨y0, y1, y2, y3, y4, y5⟩ := (HBc.out.ext hx2).six
  go_wp2_with fail
  refine (H2.out _ hE2 B (Nat.lt_of_lt_of_le HX.out.1 hx2.size) ((hx2.cell (p := ⟨B, 0, none⟩) HX.out.1).trans HX.out.2.2.1)).mono ?_
  rintro e w3 ⟨rfl, hx3⟩
  have hx3 := Ext.trans hx2 hx3
  clear hx2 hE2
  cases a2
  ·go_wp2_with fail
   go_ret
   exact ⟨by rw [HER.out]; rfl, (by repeat first|exact xA _|assumption|refine xB ?_ _|refine xC ?_|refine xD ?_ _|refine xE ?_ (by simp <;> omega) _|refine xF ?_ (by assumption))⟩
  have hE2 := Ext.trans hEc hx3
  clear y0 y1 y2 y3 y4 y5
  obtain ⟨y0, y1, y2, y3, y4, y5⟩ := (HBc.out.ext hx3).six
  go_wp2_with fail
  refine (H3.out _ hE2 B (Nat.lt_of_lt_of_le HX.out.1 hx3.size) ((hx3.cell (p := ⟨B, 0, none⟩) HX.out.1).trans HX.out.2.2.1)).mono ?_
  rintro e w4 ⟨rfl, hx4⟩
  have hx4 := Ext.trans hx3 hx4
  clear hx3 hE2
  cases a3
  ·go_wp2_with fail
   go_ret
   exact ⟨by rw [HER.out]; rfl, (by repeat first|exact xA _|assumption|refine xB ?_ _|refine xC ?_|refine xD ?_ _|refine xE ?_ (by simp <;> omega) _|refine xF ?_ (by assumption))⟩
  have hE2 := Ext.trans hEc hx4
  clear y0 y1 y2 y3 y4 y5
  obtain ⟨y0, y1, y2, y3, y4, y5⟩ := (HBc.out.ext hx4).six
  go_wp2_with fail
  refine (H4.out _ hE2 _ (HBc.out.ext hx4)).mono ?_
  rintro e w5 ⟨rfl, hx5⟩
  have hx5 := Ext.trans hx4 hx5
  clear hx4 hE2
  cases a4
  ·go_wp2_with fail
   go_ret
   exact ⟨by rw [HER.out]; rfl, (by repeat first|exact xA _|assumption|refine xB ?_ _|refine xC ?_|refine xD ?_ _|refine xE ?_ (by simp <;> omega) _|refine xF ?_ (by assumption))⟩
  have hE2 := Ext.trans hEc hx5
  clear y0 y1 y2 y3 y4 y5
  obtain ⟨y0, y1, y2, y3, y4, y5⟩ := (HBc.out.ext hx5).six
  go_wp2_with fail
  refine (H5.out _ hE2 _ (HBc.out.ext hx5)).mono ?_
  rintro e w6 ⟨rfl, hx6⟩
  have hx6 := Ext.trans hx5 hx6
  clear hx5 hE2
  cases a5
  ·go_wp2_with fail
   go_ret
   exact ⟨by rw [HER.out]; rfl, (by repeat first|exact xA _|assumption|refine xB ?_ _|refine xC ?_|refine xD ?_ _|refine xE ?_ (by simp <;> omega) _|refine xF ?_ (by assumption))⟩
  have hE2 := Ext.trans hEc hx6
  clear y0 y1 y2 y3 y4 y5
  obtain ⟨y0, y1, y2, y3, y4, y5⟩ := (HBc.out.ext hx6).six
  go_wp2_with fail
  refine (H6.out _ hE2 B C (Nat.lt_of_lt_of_le HX.out.1 hx6.size) (Nat.lt_of_lt_of_le HX.out.2.1 hx6.size) ((hx6.cell (p := ⟨B, 0, none⟩) HX.out.1).trans HX.out.2.2.1) ((hx6.cell (p := ⟨C, 0, none⟩) HX.out.2.1).trans HX.out.2.2.2.1)).mono ?_
  rintro e w7 ⟨rfl, hx7⟩
  have hx7 := Ext.trans hx6 hx7
  clear hx6 hE2
  cases a6
  ·go_wp2_with fail
   go_ret
   exact ⟨by rw [HER.out]; rfl, (by repeat first|exact xA _|assumption|refine xB ?_ _|refine xC ?_|refine xD ?_ _|refine xE ?_ (by simp <;> omega) _|refine xF ?_ (by assumption))⟩
  ·go_wp2_with fail
   go_ret
   exact ⟨by rw [HER.out]; rfl, (by repeat first|exact xA _|assumption|refine xB ?_ _|refine xC ?_|refine xD ?_ _|refine xE ?_ (by simp <;> omega) _|refine xF ?_ (by assumption))⟩
end Go.Proofs.YtjigihlhjhbkpaaGreatDoor
namespace Go.Proofs.YtjigihlhjhbkpaaGreatDoor
open Go Go.RowKit
theorem list_eq_step {xs ys : List Int} {i : Nat} (h : i < xs.length) (h' : i < ys.length) : decide (xs.drop i = ys.drop i) = (decide (xs[i] = ys[i]) && decide (xs.drop (i + 1) = ys.drop (i + 1))) := by
 rw [List.drop_eq_getElem_cons h, List.drop_eq_getElem_cons h']
 rw [decide_eq_decide.2 List.cons_eq_cons, Bool.decide_and]
set_option maxHeartbeats 800000 in
theorem slices_Equal_int {A B : Option Addr} {n c m d : Nat} {xs ys : List Int} {w : World} (h : Ints w (.slice A n c) xs) (h' : Ints w (.slice B m d) ys) :
  Calls Tryz.prog 85 #[.slice A n c, .slice B m d] w fun e w' => e = .returned (.bool (decide (xs = ys))) ∧ Ext w w' := by
 obtain ⟨rfl, hl, hm⟩ := h.len
 obtain ⟨rfl, hl', hm'⟩ := h'.len
 have HC := Lib.hid (fun k (hk : k < xs.length) => ints_cells h hk)
 have HC' := Lib.hid (fun k (hk : k < ys.length) => ints_cells h' hk)
 clear h h'
 by_cases hxy : xs.length = ys.length
 ·have HXY := Lib.hid hxy
  have hne : ((xs.length : Int) != (ys.length : Int)) = false := by rw [hxy]; simp
  clear hxy
  go_enter Tryz.func85, Tryz.ntmps85
  go_wp2_with fail
  go_loopg [13] xs.length (fun gk x wr => ∃ i : Nat, x = .int .i64 (i : Int) ∧ i + gk = xs.length ∧ Hid (decide (xs.drop i = ys.drop i) = decide (xs = ys)) ∧ Hid (Ext w wr))
  case atStart => exact ⟨0, rfl, by omega, rfl, Ext.refl _⟩
  case round =>
   obtain ⟨i, rfl, hi, HA, HE⟩ := hrel
   by_cases hlt : i < xs.length
   ·have hlt' : i < ys.length := by rw [← HXY.out]; exact hlt
    obtain ⟨b, off, rfl, hb, hcell⟩ := HC.out _ hlt
    obtain ⟨b', off', rfl, hb', hcell'⟩ := HC'.out _ hlt'
    have q1 := (HE.out.cell (p := ⟨b, off + i, none⟩) hb).trans (hcell i hlt)
    have q2 := (HE.out.cell (p := ⟨b', off' + i, none⟩) hb').trans (hcell' i hlt')
    have HD := Lib.hid (list_eq_step hlt hlt')
    have i1 : (i : Int) < (xs.length : Int) := by omega
    have i2 : (i : Int) < (ys.length : Int) := by omega
    have i0 : (0 : Int) ≤ (i : Int) := by omega
    clear hcell hcell' HC HC'
    generalize xs[i] = x at *
    generalize ys[i] = y at *
    by_cases he : x = y
    ·have he' : (x != y) = false := by simp [he]
     have HR : Hid (decide (xs.drop (i + 1) = ys.drop (i + 1)) = decide (xs = ys)) := by show _ = _; rw [← HA.out, HD.out, decide_eq_true he]; rfl
     clear he
     go_wp2_with fail
     go_quiet (fail)
     go_wp2_with fail
     go_roundg (xs.length - (i + 1))
     case measure => omega
     case rel => exact ⟨i + 1, by simp, by omega, HR, HE.out.pdrewN _⟩
    ·have he' : (x != y) = true := by simpa using he
     have HR : Hid (decide (xs = ys) = false) := by show _ = _; rw [← HA.out, HD.out, decide_eq_false he]; rfl
     clear he
     go_wp2_with fail
     go_quiet (fail)
     go_wp2_with fail
     go_ret
     exact ⟨by rw [HR.out]; rfl, HE.out.pdrewN _⟩
   ·have HR : Hid (decide (xs = ys) = true) := by show _ = _; rw [← HA.out, List.drop_eq_nil_of_le (by omega), List.drop_eq_nil_of_le (by rw [← HXY.out]; omega)]; rfl
    go_wp2_with fail
    go_ret
    exact ⟨by rw [HR.out]; rfl, HE.out⟩
 ·have hne : ((xs.length : Int) != (ys.length : Int)) = true := by rw [bne_iff_ne]; omega
  have HR : Hid (decide (xs = ys) = false) := decide_eq_false (fun e => hxy (by rw [e]))
  clear hxy
  go_enter Tryz.func85, Tryz.ntmps85
  go_wp2_with fail
  go_ret
  exact ⟨by rw [HR.out]; rfl, Ext.refl _⟩
set_option maxHeartbeats 800000 in
theorem equalFunc_nil {A B : Option Addr} {c m d : Nat} {f : Value} {w : World} (hm : m ≤ 35184372088832) :
  Calls Tryz.prog 86 #[.slice A 0 c, .slice B m d, f] w fun e w' => e = .returned (.bool (decide (m = 0))) ∧ w = w' := by
 by_cases h : m = 0
 ·subst h
  go_enter Tryz.func86, Tryz.ntmps86
  go_wp2_with fail
  go_loopg [17] 0 (fun _ x wr => x = .int .i64 0 ∧ wr = w)
  case atStart => exact ⟨rfl, rfl⟩
  case round =>
   obtain ⟨rfl, hw⟩ := hrel
   have hw' := hw.symm
   clear hw
   subst hw'
   go_wp2_with fail
   go_ret
   exact ⟨rfl, rfl⟩
 ·have h1 : ((0 : Int) != (m : Int)) = true := by rw [bne_iff_ne]; omega
  have HR : Hid (decide (m = 0) = false) := decide_eq_false h
  clear h
  go_enter Tryz.func86, Tryz.ntmps86
  go_wp2_with fail
  go_ret
  exact ⟨by rw [HR.out]; rfl, rfl⟩
/-- The first constraint, which has no values, equals the second one. -/
def eqC (a b : CI) : Bool := decide (a.kind = b.kind) && decide (a.side = b.side) && decide (a.points = b.points) && decide (a.circles = b.circles) && decide (b.values.length = 0)
set_option maxRecDepth 100000 in
set_option maxHeartbeats 1600000 in
theorem constraint_Equal {K : Nat} {a b : CI} {pv cv pv' cv' vv' : Value} {A0 : Option Addr} {c0 : Nat} {w : World} (hp : Ints w pv a.points) (hc : Ints w cv a.circles) (hp' : Ints w pv' b.points) (hc' : Ints w cv' b.circles) (hv' : ArrAt 7 (ExprR K) w vv' b.values) :
  Calls Tryz.prog 43 #[.agg #[.int .i64 a.kind, pv, cv, .slice A0 0 c0, .int .i64 a.side], .agg #[.int .i64 b.kind, pv', cv', vv', .int .i64 b.side]] w fun e w' => e = .returned (.bool (eqC a b)) ∧ Ext w w' := by
 obtain ⟨A1, c1, rfl, hl1, hm1⟩ := hp.form
 obtain ⟨A2, c2, rfl, hl2, hm2⟩ := hc.form
 obtain ⟨A3, c3, rfl, hl3, hm3⟩ := hp'.form
 obtain ⟨A4, c4, rfl, hl4, hm4⟩ := hc'.form
 obtain ⟨A5, c5, rfl, hl5, hm5⟩ := hv'.form
 have HP := Lib.hid (fun w1 (hx : Ext w w1) => slices_Equal_int (hp.ext IntR.stable hx) (hp'.ext IntR.stable hx))
 have HC := Lib.hid (fun w1 (hx : Ext w w1) => slices_Equal_int (hc.ext IntR.stable hx) (hc'.ext IntR.stable hx))
 have HV := Lib.hid (fun w1 => equalFunc_nil (A := A0) (B := A5) (c := c0) (d := c5) (f := .func (.func 87) #[] #[]) (w := w1) hm5)
 have HE : Hid (eqC a b = (decide (a.kind = b.kind) && decide (a.side = b.side) && decide (a.points = b.points) && decide (a.circles = b.circles) && decide (b.values.length = 0))) := rfl
 clear hp hc hp' hc' hv'
 generalize decide (a.points = b.points) = b3 at *
 generalize decide (a.circles = b.circles) = b4 at *
 generalize decide (b.values.length = 0) = b5 at *
 generalize eqC a b = eq at *
 generalize a.points.length = n1 at *
 generalize a.circles.length = n2 at *
 generalize b.points.length = n3 at *
 generalize b.circles.length = n4 at *
 generalize b.values.length = n5 at *
 generalize a.kind = k1 at *
 generalize b.kind = k2 at *
 generalize a.side = s1 at *
 generalize b.side = s2 at *
 by_cases hk : k1 = k2
 ·have hk' : (k1 == k2) = true := by simpa using hk
  rw [decide_eq_true hk] at HE
  clear hk
  by_cases hs : s1 = s2
  ·have hs' : (s1 == s2) = true := by simpa using hs
   rw [decide_eq_true hs] at HE
   clear hs
   go_enter Tryz.func43, Tryz.ntmps43
   go_wp2_with fail
   refine (HP.out _ (by repeat first|exact xA _|assumption|refine xB ?_ _|refine xC ?_|refine xD ?_ _|refine xE ?_ (by simp <;> omega) _|refine xF ?_ (by assumption))).mono ?_
   rintro e w1 ⟨rfl, hx1⟩
   cases b3 with
   | false =>
    go_wp2_with fail
    go_ret
    exact ⟨by rw [HE.out]; rfl, (by repeat first|exact xA _|assumption|refine xB ?_ _|refine xC ?_|refine xD ?_ _|refine xE ?_ (by simp <;> omega) _|refine xF ?_ (by assumption))⟩
   | true =>
    obtain ⟨hc1, hf1⟩ := bcell hx1
    have hz : w.heap.size + 1 < w1.heap.size := by have := hx1.size; simp at this; omega
    go_wp2_with fail
    refine (HC.out _ (by repeat first|exact xA _|assumption|refine xB ?_ _|refine xC ?_|refine xD ?_ _|refine xE ?_ (by simp <;> omega) _|refine xF ?_ (by assumption))).mono ?_
    rintro e w2 ⟨rfl, hx2⟩
    cases b4 with
    | false =>
     go_wp2_with fail
     go_ret
     exact ⟨by rw [HE.out]; rfl, (by repeat first|exact xA _|assumption|refine xB ?_ _|refine xC ?_|refine xD ?_ _|refine xE ?_ (by simp <;> omega) _|refine xF ?_ (by assumption))⟩
    | true =>
     have hx12 := Ext.trans hx1 hx2
     clear hc1 hf1
     obtain ⟨hc1, hf1⟩ := bcell hx12
     go_wp2_with fail
     refine (HV.out _).mono ?_
     rintro e w3 ⟨rfl, rfl⟩
     clear hc1 hf1
     go_wp2_with fail
     go_ret
     exact ⟨by rw [HE.out]; simp, (by repeat first|exact xA _|assumption|refine xB ?_ _|refine xC ?_|refine xD ?_ _|refine xE ?_ (by simp <;> omega) _|refine xF ?_ (by assumption))⟩
  ·have hs' : (s1 == s2) = false := by simpa using hs
   rw [decide_eq_false hs] at HE
   clear hs
   go_enter Tryz.func43, Tryz.ntmps43
   go_wp2_with fail
   go_ret
   exact ⟨by rw [HE.out]; rfl, (by repeat first|exact xA _|assumption|refine xB ?_ _|refine xC ?_|refine xD ?_ _|refine xE ?_ (by simp <;> omega) _|refine xF ?_ (by assumption))⟩
 ·have hk' : (k1 == k2) = false := by simpa using hk
  rw [decide_eq_false hk] at HE
  clear hk
  go_enter Tryz.func43, Tryz.ntmps43
  go_wp2_with fail
  go_ret
  exact ⟨by rw [HE.out]; rfl, (by repeat first|exact xA _|assumption|refine xB ?_ _|refine xC ?_|refine xD ?_ _|refine xE ?_ (by simp <;> omega) _|refine xF ?_ (by assumption))⟩
set_option maxHeartbeats 800000 in
theorem impl1 {K : Nat} {c : CI} {pv cv : Value} {xs : List CI} {w : World} {B : Nat} (hp : Ints w pv c.points) (hc : Ints w cv c.circles) (hB : CellsAt w B [.int .i64 c.kind, pv, cv, .slice none 0 0, .int .i64 c.side]) :
  PredX 5 42 #[.pointer (some ⟨B, 0, none⟩)] aggV (ConR K) (eqC c) xs w := by
 intro W cs d hm hW hl hRR
 obtain ⟨pv', cv', vv', rfl, hp', hc', hv'⟩ := hRR
 have HV := Lib.hid (fun w1 (hx : Ext W w1) => constraint_Equal (A0 := none) (c0 := 0) (hp.ext IntR.stable (hW.trans hx)) (hc.ext IntR.stable (hW.trans hx)) (hp'.ext IntR.stable hx) (hc'.ext IntR.stable hx) (hv'.ext (ExprR.stable K) hx))
 obtain ⟨A1, c1, rfl, hl1, hm1⟩ := hp.form
 obtain ⟨A2, c2, rfl, hl2, hm2⟩ := hc.form
 obtain ⟨A3, c3, rfl, hl3, hm3⟩ := hp'.form
 obtain ⟨A4, c4, rfl, hl4, hm4⟩ := hc'.form
 obtain ⟨A5, c5, rfl, hl5, hm5⟩ := hv'.form
 obtain ⟨y0, y1, y2, y3, y4⟩ := (hB.ext hW).five
 have hBW : B < W.heap.size := Nat.lt_of_lt_of_le hB.1 hW.size
 have hne : B ≠ W.heap.size := by omega
 clear hm hW hl hB hp hc hp' hc' hv'
 show Calls Tryz.prog 42 #[.agg #[.int .i64 d.kind, .slice A3 d.points.length c3, .slice A4 d.circles.length c4, .slice A5 d.values.length c5, .int .i64 d.side], .pointer (some ⟨B, 0, none⟩)] W fun e w' => e = .returned (.bool (eqC c d)) ∧ Ext W w'
 generalize eqC c d = ok at *
 go_enter Tryz.func42, Tryz.ntmps42
 go_wp2_with fail
 refine (HV.out _ (Ext.alloc _ _)).mono ?_
 rintro e w1 ⟨rfl, hx1⟩
 go_wp2_with fail
 go_ret
 exact ⟨rfl, (by repeat first|exact xA _|assumption|refine xB ?_ _|refine xC ?_|refine xD ?_ _|refine xE ?_ (by simp <;> omega) _|refine xF ?_ (by assumption))⟩
end Go.Proofs.YtjigihlhjhbkpaaGreatDoor
