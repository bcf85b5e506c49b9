/- slices.IndexFunc, slices.ContainsFunc, sketch.all over slices of structs. -/
import Derived.Test.YtceobmnljdhkmaaGreatDoorYF
import Derived.Shelf.Abstract
import Derived.Deep.AppendLies
import Derived.Deep.RegionLaw
import Derived.Lib.SliceRun
import Derived.Deep.RegionHeld3
import Derived.Test.YtceobmnljdhkmaaGreatDoorYE
namespace Go.Proofs.YtceobmnljdhkmaaGreatDoor
open Go Go.RowKit
/-- What is asked of a function that is handed to the library. -/
def PredX {α : Type} (sz g : Nat) (lb : Array Value) (mk : List Value → Value) (R : World → List Value → α → Prop) (p : α → Bool) (xs : List α) (w : World) : Prop :=
 ∀ (W : World) (cs : List Value) (x : α), x ∈ xs → Ext w W → cs.length = sz → R W cs x → Calls Tryz.prog g (#[mk cs] ++ lb) W fun e w' => e = .returned (.bool (p x)) ∧ Ext W w'
theorem PredX.ext {α : Type} {sz g : Nat} {lb : Array Value} {mk : List Value → Value} {R : World → List Value → α → Prop} {p : α → Bool} {xs : List α} {w w' : World} (h : PredX sz g lb mk R p xs w) (hx : Ext w w') : PredX sz g lb mk R p xs w' :=
 fun W cs x hm hW hl hR => h W cs x hm (Ext.trans hx hW) hl hR
def IdxRes (b : Bool) (w : World) (e : Ending) (w' : World) : Prop := ∃ r : Int, e = .returned (.int .i64 r) ∧ decide (0 ≤ r) = b ∧ Ext w w'
def aggV (cs : List Value) : Value := .agg cs.toArray
def oneV (cs : List Value) : Value := cs.getD 0 undef
theorem not_any_not {α : Type} (p : α → Bool) (xs : List α) : (!xs.any fun x => !p x) = xs.all p := by
 induction xs with
 | nil => rfl
 | cons a l ih => simp only [List.any_cons, List.all_cons, Bool.not_or, ih, Bool.not_not]
end Go.Proofs.YtceobmnljdhkmaaGreatDoor
namespace Go.Proofs.YtceobmnljdhkmaaGreatDoor
open Go Go.RowKit
set_option maxHeartbeats 1600000 in
theorem idx_Int (g : Nat) (lb : Array Value) (eg : ∀ args w, (callFunc g args).run Tryz.prog w = .ok (.enter g args) w) {p : Int → Bool} {A : Option Addr} {n c : Nat} {xs : List Int} {w : World} (h : ArrAt 1 IntR w (.slice A n c) xs) (hp : PredX 1 g lb oneV IntR p xs w) :
  Calls Tryz.prog 155 #[.slice A n c, .func (.func g) #[] lb] w (IdxRes (xs.any p) w) := by
 obtain ⟨rfl, hl, hm⟩ := h.len
 have HA := Lib.hid h
 have HP := Lib.hid hp
 clear h hp
 go_enter Tryz.func155, Tryz.ntmps155
 go_wp2_with fail
 go_loopg [8] xs.length (fun gk x wr => ∃ i : Nat, x = .int .i64 (i : Int) ∧ i + gk = xs.length ∧ Hid ((xs.drop i).any p = xs.any p) ∧ Hid (Ext w wr))
 case atStart => exact ⟨0, rfl, by omega, rfl, Ext.refl _⟩
 case round =>
  obtain ⟨i, rfl, hi, HD, HE⟩ := hrel
  by_cases hlt : i < xs.length
  ·obtain ⟨b, off, rfl, hb, ds, hds, hcell, hR⟩ := HA.out.at_ hlt
   have HC := Lib.hid (HP.out wr ds xs[i] (List.getElem_mem hlt) HE.out hds (IntR.stable _ _ _ _ HE.out hR))
   have HD2 : Hid ((xs.drop i).any p = (p xs[i] || (xs.drop (i + 1)).any p)) := by show _ = _; rw [List.drop_eq_getElem_cons hlt, List.any_cons]
   have HQ := Lib.hid (fun j u (hj : ds[j]? = some u) => (HE.out.cell (p := ⟨b, off + (i * 1 + j), none⟩) hb).trans (hcell j u hj))
   clear hcell hR
   match ds, hds with
   | [d0], _ =>
    have q0 := HQ.out 0 _ rfl
    simp only [Nat.add_zero, Nat.mul_one] at q0
    clear HQ
    generalize p xs[i] = px at *
    cases px with
    | true =>
     have HT : Hid (xs.any p = true) := by show _ = _; rw [← HD.out, HD2.out]; rfl
     go_wp2_with (go_at_fn g; refine HC.out.mono ?_; rintro e w2 ⟨rfl, hx2⟩)
     go_ret
     exact ⟨(i : Int), rfl, by rw [HT.out]; simp, HE.out.trans hx2⟩
    | false =>
     have HT : Hid ((xs.drop (i + 1)).any p = xs.any p) := by show _ = _; rw [← HD.out, HD2.out]; rfl
     go_wp2_with (go_at_fn g; refine HC.out.mono ?_; rintro e w2 ⟨rfl, hx2⟩)
     go_roundg (xs.length - (i + 1))
     case measure => omega
     case rel => exact ⟨i + 1, by simp, by omega, HT, HE.out.trans hx2⟩
  ·have HT : Hid (xs.any p = false) := by show _ = _; rw [← HD.out, List.drop_eq_nil_of_le (by omega)]; rfl
   go_wp2_with fail
   go_ret
   exact ⟨-1, rfl, by rw [HT.out]; rfl, HE.out⟩
set_option maxHeartbeats 800000 in
theorem con_Int (g : Nat) (lb : Array Value) (eg : ∀ args w, (callFunc g args).run Tryz.prog w = .ok (.enter g args) w) {p : Int → Bool} {A : Option Addr} {n c : Nat} {xs : List Int} {w : World} (h : ArrAt 1 IntR w (.slice A n c) xs) (hp : PredX 1 g lb oneV IntR p xs w) :
  Calls Tryz.prog 96 #[.slice A n c, .func (.func g) #[] lb] w fun e w' => e = .returned (.bool (xs.any p)) ∧ Ext w w' := by
 have HI := Lib.hid (idx_Int g lb eg h hp)
 clear h hp
 generalize xs.any p = bb at *
 go_enter Tryz.func96, Tryz.ntmps96
 go_wp2_with fail
 refine HI.out.mono ?_
 rintro e w1 ⟨r, rfl, hr, hx1⟩
 have HR := Lib.hid hr
 clear hr
 go_wp2_with fail
 go_ret
 exact ⟨by rw [← HR.out]; rfl, hx1⟩
set_option maxHeartbeats 1600000 in
theorem idx_Expr (K : Nat) (g : Nat) (lb : Array Value) (eg : ∀ args w, (callFunc g args).run Tryz.prog w = .ok (.enter g args) w) {p : EI → Bool} {A : Option Addr} {n c : Nat} {xs : List EI} {w : World} (h : ArrAt 7 (ExprR K) w (.slice A n c) xs) (hp : PredX 7 g lb aggV (ExprR K) p xs w) :
  Calls Tryz.prog 98 #[.slice A n c, .func (.func g) #[] lb] w (IdxRes (xs.any p) w) := by
 obtain ⟨rfl, hl, hm⟩ := h.len
 have HA := Lib.hid h
 have HP := Lib.hid hp
 clear h hp
 go_enter Tryz.func98, Tryz.ntmps98
 go_wp2_with fail
 go_loopg [8] xs.length (fun gk x wr => ∃ i : Nat, x = .int .i64 (i : Int) ∧ i + gk = xs.length ∧ Hid ((xs.drop i).any p = xs.any p) ∧ Hid (Ext w wr))
 case atStart => exact ⟨0, rfl, by omega, rfl, Ext.refl _⟩
 case round =>
  obtain ⟨i, rfl, hi, HD, HE⟩ := hrel
  by_cases hlt : i < xs.length
  ·obtain ⟨b, off, rfl, hb, ds, hds, hcell, hR⟩ := HA.out.at_ hlt
   have HC := Lib.hid (HP.out wr ds xs[i] (List.getElem_mem hlt) HE.out hds ((ExprR.stable K) _ _ _ _ HE.out hR))
   have HD2 : Hid ((xs.drop i).any p = (p xs[i] || (xs.drop (i + 1)).any p)) := by show _ = _; rw [List.drop_eq_getElem_cons hlt, List.any_cons]
   have HQ := Lib.hid (fun j u (hj : ds[j]? = some u) => (HE.out.cell (p := ⟨b, off + (i * 7 + j), none⟩) hb).trans (hcell j u hj))
   clear hcell hR
   match ds, hds with
   | [d0, d1, d2, d3, d4, d5, d6], _ =>
    have q0 := HQ.out 0 _ rfl
    have q1 := HQ.out 1 _ rfl
    have q2 := HQ.out 2 _ rfl
    have q3 := HQ.out 3 _ rfl
    have q4 := HQ.out 4 _ rfl
    have q5 := HQ.out 5 _ rfl
    have q6 := HQ.out 6 _ rfl
    simp only [← Nat.add_assoc, Nat.add_zero] at q0 q1 q2 q3 q4 q5 q6
    clear HQ
    generalize p xs[i] = px at *
    cases px with
    | true =>
     have HT : Hid (xs.any p = true) := by show _ = _; rw [← HD.out, HD2.out]; rfl
     go_wp2_with (go_at_fn g; refine HC.out.mono ?_; rintro e w2 ⟨rfl, hx2⟩)
     go_ret
     exact ⟨(i : Int), rfl, by rw [HT.out]; simp, HE.out.trans hx2⟩
    | false =>
     have HT : Hid ((xs.drop (i + 1)).any p = xs.any p) := by show _ = _; rw [← HD.out, HD2.out]; rfl
     go_wp2_with (go_at_fn g; refine HC.out.mono ?_; rintro e w2 ⟨rfl, hx2⟩)
     go_roundg (xs.length - (i + 1))
     case measure => omega
     case rel => exact ⟨i + 1, by simp, by omega, HT, HE.out.trans hx2⟩
  ·have HT : Hid (xs.any p = false) := by show _ = _; rw [← HD.out, List.drop_eq_nil_of_le (by omega)]; rfl
   go_wp2_with fail
   go_ret
   exact ⟨-1, rfl, by rw [HT.out]; rfl, HE.out⟩
set_option maxHeartbeats 800000 in
theorem con_Expr (K : Nat) (g : Nat) (lb : Array Value) (eg : ∀ args w, (callFunc g args).run Tryz.prog w = .ok (.enter g args) w) {p : EI → Bool} {A : Option Addr} {n c : Nat} {xs : List EI} {w : World} (h : ArrAt 7 (ExprR K) w (.slice A n c) xs) (hp : PredX 7 g lb aggV (ExprR K) p xs w) :
  Calls Tryz.prog 57 #[.slice A n c, .func (.func g) #[] lb] w fun e w' => e = .returned (.bool (xs.any p)) ∧ Ext w w' := by
 have HI := Lib.hid (idx_Expr K g lb eg h hp)
 clear h hp
 generalize xs.any p = bb at *
 go_enter Tryz.func57, Tryz.ntmps57
 go_wp2_with fail
 refine HI.out.mono ?_
 rintro e w1 ⟨r, rfl, hr, hx1⟩
 have HR := Lib.hid hr
 clear hr
 go_wp2_with fail
 go_ret
 exact ⟨by rw [← HR.out]; rfl, hx1⟩
theorem inside1 {q : Nat} {n : Int} {xs : List Int} {w : World} (hq : q < w.heap.size) (hp : w.cell? ⟨q, 0, none⟩ = some (.int .i64 n)) :
  PredX 1 97 #[.pointer (some ⟨q, 0, none⟩)] oneV IntR (fun x => decide (x < 0) || decide (n ≤ x)) xs w := by
 intro W cs x hm hW hl hR
 have hR' : cs = [.int .i64 x] := hR
 subst hR'
 have q1 := (hW.cell (p := ⟨q, 0, none⟩) hq).trans hp
 have hz : q < W.heap.size := Nat.lt_of_lt_of_le hq hW.size
 clear hm hW hl hR hp hq
 show Calls Tryz.prog 97 #[.int .i64 x, .pointer (some ⟨q, 0, none⟩)] W fun e w' => e = .returned (.bool (decide (x < 0) || decide (n ≤ x))) ∧ Ext W w'
 go_enter Tryz.func97, Tryz.ntmps97
 by_cases h0 : x < 0
 ·have e0 : decide (x < 0) = true := by simpa using h0
  clear h0
  go_wp2_with fail
  go_ret
  exact ⟨by rw [e0]; rfl, Ext.refl _⟩
 ·have e0 : decide (x < 0) = false := by simpa using h0
  clear h0
  go_wp2_with fail
  go_ret
  exact ⟨by rw [e0]; rfl, Ext.refl _⟩
theorem within_any (xs : List Int) (n : Int) : (!xs.any fun x => decide (x < 0) || decide (n ≤ x)) = withinL xs n := by
 unfold withinL
 induction xs with
 | nil => rfl
 | cons a l ih =>
  simp only [List.any_cons, List.all_cons, Bool.not_or, ih]
  congr 1
  rw [Bool.eq_iff_iff]
  simp
set_option maxHeartbeats 800000 in
theorem constraint_inside {A : Option Addr} {m c : Nat} {xs : List Int} {k n : Int} {w : World} (h : Ints w (.slice A m c) xs) :
  Calls Tryz.prog 56 #[.slice A m c, .int .i64 k, .int .i64 n] w fun e w' => e = .returned (.bool (decide ((xs.length : Int) = k) && withinL xs n)) ∧ Ext w w' := by
 have hx0 : Ext w (w.alloc (.cells #[.int .i64 n] 3)) := Ext.alloc _ _
 have HI := Lib.hid (con_Int 97 #[.pointer (some ⟨w.heap.size, 0, none⟩)] (enters_of Tryz.func97 (by kernel_rfl) rfl) (h.ext IntR.stable hx0)
  (inside1 (q := w.heap.size) (n := n) (by simp) (by simp [go_sem])))
 have HN := Lib.hid (within_any xs n)
 obtain ⟨hm0, hl, hm⟩ := h.len
 subst hm0
 clear h hx0
 generalize (xs.any fun x => decide (x < 0) || decide (n ≤ x)) = bb at *
 generalize withinL xs n = ba at *
 go_enter Tryz.func56, Tryz.ntmps56
 by_cases hk : (xs.length : Int) = k
 ·subst hk
  go_wp2_with fail
  refine HI.out.mono ?_
  rintro e w1 ⟨rfl, hx1⟩
  go_wp2_with fail
  go_ret
  exact ⟨by rw [← HN.out]; simp, (by repeat first|exact xA _|assumption|refine xB ?_ _|refine xC ?_|refine xD ?_ _|refine xE ?_ (by simp <;> omega) _|refine xF ?_ (by assumption))⟩
 ·have e0 : ((xs.length : Int) == k) = false := by simpa using hk
  have e1 : decide ((xs.length : Int) = k) = false := by simpa using hk
  clear hk
  go_wp2_with fail
  go_ret
  exact ⟨by rw [e1]; rfl, (by repeat first|exact xA _|assumption|refine xB ?_ _|refine xC ?_|refine xD ?_ _|refine xE ?_ (by simp <;> omega) _|refine xF ?_ (by assumption))⟩
end Go.Proofs.YtceobmnljdhkmaaGreatDoor
namespace Go.Proofs.YtceobmnljdhkmaaGreatDoor
open Go Go.RowKit
end Go.Proofs.YtceobmnljdhkmaaGreatDoor
namespace Go.Proofs.YtceobmnljdhkmaaGreatDoor
open Go Go.RowKit
theorem cell_set_off {w : World} {g i j : Nat} {u : Value} (h : i ≠ j) : (w.setCell ⟨g, i, none⟩ u).cell? ⟨g, j, none⟩ = w.cell? ⟨g, j, none⟩ := by
 rw [World.cell?_setCell_other]
 intro e; injection e with _ e2 _; exact h e2
end Go.Proofs.YtceobmnljdhkmaaGreatDoor
namespace Go.Proofs.YtceobmnljdhkmaaGreatDoor
open Go Go.RowKit
end Go.Proofs.YtceobmnljdhkmaaGreatDoor
namespace Go.Proofs.YtceobmnljdhkmaaGreatDoor
open Go Go.RowKit
theorem ownsRow_ext {w w' : World} {base e size n : Nat} {v : Value} {xs : List Value} (h : w.ownsRow base e size v n xs) (hx : Ext w w') : w'.ownsRow base e size v n xs := by
 refine ⟨h.1, ?_⟩
 rcases h.2 with h1 | ⟨g, cap, cur, h1, h2, h3, h4⟩
 ·exact .inl h1
 ·have hlt : g < w.heap.size := by
   rcases Nat.lt_or_ge g w.heap.size with hlt | hge
   ·exact hlt
   ·rw [Array.getElem?_eq_none hge] at h3; cases h3
  exact .inr ⟨g, cap, cur, h1, h2, (hx.block g hlt).trans h3, h4⟩
theorem ext_grown {w1 X w4 : World} {row : Option Nat} (hg : X.grownBy w4 row) (h : Ext w1 X) (hr : ∀ r, row = some r → w1.heap.size ≤ r) : Ext w1 w4 := Below.grown h hg h.size hr
end Go.Proofs.YtceobmnljdhkmaaGreatDoor
namespace Go.Proofs.YtceobmnljdhkmaaGreatDoor
open Go Go.RowKit
theorem list_eq_step {xs ys : List Int} {i : Nat} (h : i < xs.length) (h' : i < ys.length) : decide (xs.drop i = ys.drop i) = (decide (xs[i] = ys[i]) && decide (xs.drop (i + 1) = ys.drop (i + 1))) := by
 rw [List.drop_eq_getElem_cons h, List.drop_eq_getElem_cons h']
 rw [decide_eq_decide.2 List.cons_eq_cons, Bool.decide_and]
end Go.Proofs.YtceobmnljdhkmaaGreatDoor
namespace Go.Proofs.YtceobmnljdhkmaaGreatDoor
open Go Go.RowKit
theorem mem_drop_step {xs : List Int} {x : Int} {i : Nat} (h : i < xs.length) : decide (x ∈ xs.drop i) = (decide (x = xs[i]) || decide (x ∈ xs.drop (i + 1))) := by
 rw [List.drop_eq_getElem_cons h, decide_eq_decide.2 List.mem_cons, Bool.decide_or]
set_option maxHeartbeats 800000 in
theorem slices_Index_int {A : Option Addr} {n c : Nat} {xs : List Int} {x : Int} {w : World} (h : Ints w (.slice A n c) xs) :
  Calls Tryz.prog 160 #[.slice A n c, .int .i64 x] w (IdxRes (decide (x ∈ xs)) w) := by
 obtain ⟨rfl, hl, hm⟩ := h.len
 have HC := Lib.hid (fun k (hk : k < xs.length) => ints_cells h hk)
 clear h
 go_enter Tryz.func160, Tryz.ntmps160
 go_wp2_with fail
 go_loopg [8] xs.length (fun gk y wr => ∃ i : Nat, y = .int .i64 (i : Int) ∧ i + gk = xs.length ∧ Hid (decide (x ∈ xs.drop i) = decide (x ∈ xs)) ∧ wr = w)
 case atStart => exact ⟨0, rfl, by omega, rfl, rfl⟩
 case round =>
  obtain ⟨i, rfl, hi, HA, hwr⟩ := hrel
  have hwr' := hwr.symm
  clear hwr
  subst hwr'
  by_cases hlt : i < xs.length
  ·obtain ⟨b, off, rfl, hb, hcell⟩ := HC.out _ hlt
   have q := hcell i hlt
   have HD := Lib.hid (mem_drop_step (x := x) hlt)
   clear hcell HC
   generalize xs[i] = y at *
   by_cases he : x = y
   ·have he' : (x == y) = true := by simpa using he
    have HR : Hid (decide (x ∈ xs) = true) := by show _ = _; rw [← HA.out, HD.out, decide_eq_true he]; rfl
    clear he
    go_wp2_with fail
    go_ret
    exact ⟨(i : Int), rfl, by rw [HR.out]; simp, Ext.refl _⟩
   ·have he' : (x == y) = false := by simpa using he
    have HR : Hid (decide (x ∈ xs.drop (i + 1)) = decide (x ∈ xs)) := by show _ = _; rw [← HA.out, HD.out, decide_eq_false he]; rfl
    clear he
    go_wp2_with fail
    go_roundg (xs.length - (i + 1))
    case measure => omega
    case rel => exact ⟨i + 1, by simp, by omega, HR, rfl⟩
  ·have HR : Hid (decide (x ∈ xs) = false) := by show _ = _; rw [← HA.out, List.drop_eq_nil_of_le (by omega)]; simp
   go_wp2_with fail
   go_ret
   exact ⟨-1, rfl, by rw [HR.out]; rfl, Ext.refl _⟩
theorem slices_Contains_int {A : Option Addr} {n c : Nat} {xs : List Int} {x : Int} {w : World} (h : Ints w (.slice A n c) xs) :
  Calls Tryz.prog 101 #[.slice A n c, .int .i64 x] w fun e w' => e = .returned (.bool (decide (x ∈ xs))) ∧ Ext w w' := by
 have HI := Lib.hid (slices_Index_int (x := x) h)
 clear h
 generalize decide (x ∈ xs) = bb at *
 go_enter Tryz.func101, Tryz.ntmps101
 go_wp2_with fail
 refine HI.out.mono ?_
 rintro e w1 ⟨r, rfl, hr, hx1⟩
 have HR := Lib.hid hr
 clear hr
 go_wp2_with fail
 go_ret
 exact ⟨by rw [← HR.out]; rfl, hx1⟩
end Go.Proofs.YtceobmnljdhkmaaGreatDoor
namespace Go.Proofs.YtceobmnljdhkmaaGreatDoor
open Go Go.RowKit
theorem arr_take {α : Type} {sz : Nat} {R : World → List Value → α → Prop} {w : World} {A : Option Addr} {n c i : Nat} {xs : List α} (h : ArrAt sz R w (.slice A n c) xs) (hi : i ≤ n) : ArrAt sz R w (.slice A i c) (xs.take i) := by
 obtain ⟨hn, hl, hm⟩ := h.len
 obtain ⟨A', c', hv, -, -, hc⟩ := h
 injection hv with e1 e2 e3
 subst e1 e3
 have hlen : (xs.take i).length = i := by rw [List.length_take]; omega
 refine ⟨A, c, by rw [hlen], by omega, by omega, fun hne => ?_⟩
 obtain ⟨b, off, h1, h2, h3⟩ := hc (by intro e; rw [e] at hne; simp at hne)
 refine ⟨b, off, h1, h2, fun k x hk => ?_⟩
 rw [List.getElem?_take] at hk
 split at hk
 ·exact h3 k x hk
 ·cases hk
set_option maxHeartbeats 1600000 in
theorem constraint_different {A : Option Addr} {m c : Nat} {xs : List Int} {w : World} (h : Ints w (.slice A m c) xs) :
  Calls Tryz.prog 61 #[.slice A m c] w fun e w' => e = .returned (.bool (decide xs.Nodup)) ∧ Ext w w' := by
 obtain ⟨hm0, hl, hm⟩ := h.len
 have HC := Lib.hid (fun k (hk : k < xs.length) => ints_cells h hk)
 have HT := Lib.hid (fun i (hi : i ≤ m) w1 (hx : Ext w w1) x => slices_Contains_int (x := x) ((arr_take h hi).ext IntR.stable hx))
 subst hm0
 clear h
 go_enter Tryz.func61, Tryz.ntmps61
 go_wp2_with fail
 go_loopg [3, 4, 7] xs.length (fun gk _ _ x wr => ∃ i : Nat, x = .int .i64 (i : Int) ∧ i + gk = xs.length ∧ Hid ((xs.take i).Nodup) ∧ Hid (Ext w wr))
 case atStart => exact ⟨0, rfl, by omega, List.nodup_nil, Ext.refl _⟩
 case round =>
  obtain ⟨i, rfl, hi, HN, HE⟩ := hrel
  by_cases hlt : i < xs.length
  ·have HTi := Lib.hid (HT.out i (by omega) wr HE.out xs[i])
   obtain ⟨b, off, rfl, hb, hcell⟩ := HC.out _ hlt
   have HS := Lib.hid (nodup_take_succ hlt)
   have q := (HE.out.cell (p := ⟨b, off + i, none⟩) hb).trans (hcell i hlt)
   have hz : b < wr.heap.size := Nat.lt_of_lt_of_le hb HE.out.size
   have HD : Hid (xs[i] ∈ xs.take i → ¬ xs.Nodup) := by
    intro hmem hnd
    have h2 : (xs.take (i + 1)).Nodup := hnd.sublist (List.take_sublist _ _)
    exact ((nodup_take_succ hlt).1 h2).2 hmem
   have hi1 : (i : Int) < (xs.length : Int) := by omega
   have hi0 : (0 : Int) ≤ (i : Int) := by omega
   have hi2 : (i : Int) ≤ (c : Int) := by omega
   clear hcell HC HT
   generalize xs[i] = x at *
   by_cases hmem : x ∈ xs.take i
   ·have HR : Hid (decide xs.Nodup = false) := by show _ = _; simpa using HD.out hmem
    have e1 : decide (x ∈ xs.take i) = true := by simpa using hmem
    rw [e1] at HTi
    clear hmem e1
    go_wp2_with fail
    refine HTi.out.mono ?_
    rintro e w1 ⟨rfl, hx1⟩
    have hX := Ext.trans HE.out hx1
    go_wp2_with fail
    go_ret
    exact ⟨by rw [HR.out]; rfl, hX⟩
   ·have e1 : decide (x ∈ xs.take i) = false := by simpa using hmem
    have HR : Hid ((xs.take (i + 1)).Nodup) := HS.out.2 ⟨HN.out, hmem⟩
    rw [e1] at HTi
    clear hmem e1
    go_wp2_with fail
    refine HTi.out.mono ?_
    rintro e w1 ⟨rfl, hx1⟩
    have hX := Ext.trans HE.out hx1
    go_wp2_with fail
    go_roundg (xs.length - (i + 1))
    case measure => omega
    case rel => exact ⟨i + 1, by simp, by omega, HR.out, hX⟩
  ·have HR : Hid (decide xs.Nodup = true) := by show _ = _; have := HN.out; rw [List.take_of_length_le (by omega)] at this; simpa using this
   have hX := HE.out
   go_wp2_with fail
   go_ret
   exact ⟨by rw [HR.out]; rfl, hX⟩
set_option maxRecDepth 100000 in
set_option maxHeartbeats 1600000 in
theorem constraint_pairs {A : Option Addr} {m c : Nat} {xs : List Int} {w : World} (h : Ints w (.slice A m c) xs) (h4 : xs.length = 4) :
  Calls Tryz.prog 60 #[.slice A m c] w fun e w' => e = .returned (.bool (pairsL xs)) ∧ Ext w w' := by
 obtain ⟨hm0, hl, hm⟩ := h.len
 obtain ⟨b, off, rfl, hb, hcell⟩ := ints_cells h (k := 0) (by omega)
 rw [h4] at hm0
 subst hm0
 clear h
 match xs, h4 with
 | [x0, x1, x2, x3], _ =>
 have q0 := hcell 0 (by simp)
 have q1 := hcell 1 (by simp)
 have q2 := hcell 2 (by simp)
 have q3 := hcell 3 (by simp)
 simp only [List.getElem_cons_zero, List.getElem_cons_succ, Nat.add_zero] at q0 q1 q2 q3
 have HP : Hid (pairsL [x0, x1, x2, x3] = ((!decide (x0 = x1) && !decide (x2 = x3)) && !(decide (x0 = x2) && decide (x1 = x3)) && !(decide (x0 = x3) && decide (x1 = x2)))) := by
  show _ = _
  simp only [pairsL, samePair, List.getD_cons_zero, List.getD_cons_succ, Bool.not_or, Bool.and_assoc]
 clear hcell
 rw [HP.out]
 clear HP
 go_enter Tryz.func60, Tryz.ntmps60
 go_wp2_with fail
 go_quiet (fail)
 go_wp2_with fail
 all_goals
  go_ret
  refine ⟨congrArg (fun t => Ending.returned (Value.bool t)) ?_, Ext.drewN _ _⟩
  first | (simp_all; done) | (rw [Bool.eq_iff_iff]; simp; omega)
end Go.Proofs.YtceobmnljdhkmaaGreatDoor
namespace Go.Proofs.YtceobmnljdhkmaaGreatDoor
open Go Go.RowKit
/-- The cells of a shape: the last two are the kinds of its values, which no one asks for here. -/
def KR.shape (r : KR) (b1 b2 : Bool) : List Value := [.int .i64 r.p, .int .i64 r.c, .int .i64 r.n, .int .i64 r.q, .bool r.side, .bool b1, .bool b2]
/-- The table of the shapes, as it lies in block 0. -/
def GLk (w : World) : Prop := 2 < w.heap.size ∧ ∀ k r, kTab[k]? = some r → ∃ b1 b2 : Bool, ∀ j u, (r.shape b1 b2)[j]? = some u → w.cell? ⟨0, (k + 1) * 8 + 1 + j, none⟩ = some u
theorem GLk.ext {w w' : World} (h : GLk w) (hx : Ext w w') : GLk w' := by
 refine ⟨Nat.lt_of_lt_of_le h.1 hx.size, fun k r hr => ?_⟩
 obtain ⟨b1, b2, hc⟩ := h.2 k r hr
 exact ⟨b1, b2, fun j u hj => (hx.cell (p := ⟨0, (k + 1) * 8 + 1 + j, none⟩) (by have := h.1; show 0 < w.heap.size; omega)).trans (hc j u hj)⟩
def ShRes (r : KR) (w : World) (e : Ending) (w' : World) : Prop := ∃ b1 b2 : Bool, e = .returned (.tuple #[.agg #[.int .i64 r.p, .int .i64 r.c, .int .i64 r.n, .int .i64 r.q, .bool r.side, .bool b1, .bool b2], .bool true]) ∧ Ext w w'
set_option maxRecDepth 100000 in
set_option maxHeartbeats 1600000 in
theorem constraint_ShapeOf_some {kind : Int} {r : KR} {w : World} (hg : GLk w) (h : kRow kind = some r) :
  Calls Tryz.prog 55 #[.int .i64 kind] w (ShRes r w) := by
 obtain ⟨k, hk, rfl, hr⟩ := kRow_some h
 obtain ⟨b1, b2, hc⟩ := hg.2 k r hr
 have hz : 0 < w.heap.size := by have := hg.1; omega
 have q0 := hc 0 _ rfl
 have q1 := hc 1 _ rfl
 have q2 := hc 2 _ rfl
 have q3 := hc 3 _ rfl
 have q4 := hc 4 _ rfl
 have q5 := hc 5 _ rfl
 have q6 := hc 6 _ rfl
 simp only [Nat.add_zero] at q0
 have k1 : ¬ ((k : Int) + 1 < 1) := by omega
 have k2 : ¬ (17 < (k : Int) + 1) := by omega
 clear h hr hg hc
 obtain ⟨nm, rp, rc, rn, rv, rq, rs⟩ := r
 simp only at q0 q1 q2 q3 q4 q5 q6 ⊢
 go_enter Tryz.func55, Tryz.ntmps55
 go_wp2_with fail
 refine bodyPost_ret (v := .tuple #[.agg #[.int .i64 rp, .int .i64 rc, .int .i64 rn, .int .i64 rq, .bool rs, .bool b1, .bool b2], .bool true]) ?_ rfl ⟨b1, b2, rfl, ?_⟩
 ·simp [results, Tryz.results55, go_sem]
 ·exact (by repeat first|exact xA _|assumption|refine xB ?_ _|refine xC ?_|refine xD ?_ _|refine xE ?_ (by simp <;> omega) _|refine xF ?_ (by assumption))
set_option maxHeartbeats 1600000 in
theorem constraint_ShapeOf_none {kind : Int} (w : World) (h : kRow kind = none) :
  Calls Tryz.prog 55 #[.int .i64 kind] w fun e w' => e = .returned (.tuple #[.agg #[.int .i64 0, .int .i64 0, .int .i64 0, .int .i64 0, .bool false, .bool false, .bool false], .bool false]) ∧ Ext w w' := by
 rcases kRow_none h with h1 | h1
 ·have k1 : decide (kind < 1) = true := by simpa using h1
  clear h
  go_enter Tryz.func55, Tryz.ntmps55
  go_wp2_with fail
  refine bodyPost_ret (v := .tuple #[.agg #[.int .i64 0, .int .i64 0, .int .i64 0, .int .i64 0, .bool false, .bool false, .bool false], .bool false]) ?_ rfl ⟨rfl, ?_⟩
  ·simp [results, Tryz.results55, go_sem]
  ·exact (by repeat first|exact xA _|assumption|refine xB ?_ _|refine xC ?_|refine xD ?_ _|refine xE ?_ (by simp <;> omega) _|refine xF ?_ (by assumption))
 ·have k1 : ¬ (kind < 1) := by omega
  clear h
  go_enter Tryz.func55, Tryz.ntmps55
  go_wp2_with fail
  refine bodyPost_ret (v := .tuple #[.agg #[.int .i64 0, .int .i64 0, .int .i64 0, .int .i64 0, .bool false, .bool false, .bool false], .bool false]) ?_ rfl ⟨rfl, ?_⟩
  ·simp [results, Tryz.results55, go_sem]
  ·exact (by repeat first|exact xA _|assumption|refine xB ?_ _|refine xC ?_|refine xD ?_ _|refine xE ?_ (by simp <;> omega) _|refine xF ?_ (by assumption))
end Go.Proofs.YtceobmnljdhkmaaGreatDoor
namespace Go.Proofs.YtceobmnljdhkmaaGreatDoor
open Go Go.RowKit
theorem ArrAt.nil {α : Type} {sz : Nat} {R : World → List Value → α → Prop} {w : World} : ArrAt sz R w (.slice none 0 0) ([] : List α) :=
 ⟨none, 0, rfl, Nat.le_refl _, by simp, fun h => absurd rfl h⟩
end Go.Proofs.YtceobmnljdhkmaaGreatDoor
namespace Go.Proofs.YtceobmnljdhkmaaGreatDoor
open Go Go.RowKit
/-- A point on a circle. -/
def onC (pc : Int × Int) : CI := ⟨13, [pc.1], [pc.2], [], 0⟩
def onV (bp bc : Nat) : List Value := [.int .i64 13, .slice (some ⟨bp, 0, none⟩) 1 1, .slice (some ⟨bc, 0, none⟩) 1 1, .slice none 0 0, .int .i64 0]
/-- The list of constraints, whose numbers lie in blocks of their own. -/
def OutAt (base : Nat) (w : World) (v : Value) (l : List (Int × Int)) : Prop :=
 ∃ xs, w.ownsRow base 45 5 v l.length xs ∧ ∀ k pc, l[k]? = some pc → ∃ bp bc, (∀ j u, (onV bp bc)[j]? = some u → xs[k * 5 + j]? = some u) ∧ CellsAt w bp [.int .i64 pc.1] ∧ CellsAt w bc [.int .i64 pc.2] ∧ some bp ≠ v.ownBlock ∧ some bc ≠ v.ownBlock
theorem OutAt.nil (base : Nat) (w : World) : OutAt base w (.slice none 0 0) [] := ⟨[], World.ownsRow_nil _ _ _ _, fun k pc h => by simp at h⟩
theorem OutAt.ext {base : Nat} {w w' : World} {v : Value} {l : List (Int × Int)} (h : OutAt base w v l) (hx : Ext w w') : OutAt base w' v l := by
 obtain ⟨xs, ho, hel⟩ := h
 refine ⟨xs, ownsRow_ext ho hx, fun k pc hk => ?_⟩
 obtain ⟨bp, bc, h1, h2, h3, h4, h5⟩ := hel k pc hk
 exact ⟨bp, bc, h1, h2.ext hx, h3.ext hx, h4, h5⟩
theorem ints_one {w : World} {g c : Nat} {x : Int} (h : CellsAt w g [.int .i64 x]) (hc : 1 ≤ c) : Ints w (.slice (some ⟨g, 0, none⟩) 1 c) [x] := by
 refine ⟨some ⟨g, 0, none⟩, c, rfl, hc, by simp, fun _ => ⟨g, 0, rfl, h.1, fun k y hk => ?_⟩⟩
 rcases k with _ | k
 ·simp at hk
  subst hk
  refine ⟨[.int .i64 x], rfl, fun j u hj => ?_, rfl⟩
  have := h.2 j u hj
  simpa using this
 ·simp at hk
theorem OutAt.form {base : Nat} {w : World} {v : Value} {l : List (Int × Int)} (h : OutAt base w v l) : ∃ A c, v = .slice A l.length c := by
 obtain ⟨xs, ho, -⟩ := h
 rcases ho.2 with ⟨rfl, hn⟩ | ⟨g, cap, cur, rfl, -⟩
 ·exact ⟨none, 0, by rw [hn]⟩
 ·exact ⟨_, _, rfl⟩
theorem OutAt.arr {base : Nat} {w : World} {v : Value} {l : List (Int × Int)} (K : Nat) (h : OutAt base w v l) (hl : l.length ≤ 230000000) : ArrAt 5 (ConR K) w v (l.map onC) := by
 obtain ⟨xs, ho, hel⟩ := h
 rcases ho.2 with ⟨rfl, hn⟩ | ⟨g, cap, cur, rfl, hb, hg, hcap, hcm, hcs, htk⟩
 ·obtain rfl := List.eq_nil_of_length_eq_zero hn
  exact ArrAt.nil
 ·refine ⟨some ⟨g, 0, none⟩, cap, by simp, by simpa using hcap, by simp; omega, fun _ => ⟨g, 0, rfl, (Array.getElem?_eq_some_iff.1 hg).1, fun k x hk => ?_⟩⟩
  rw [List.getElem?_map] at hk
  obtain ⟨pc, hpc, rfl⟩ := Option.map_eq_some_iff.1 hk
  obtain ⟨bp, bc, h1, h2, h3, -, -⟩ := hel k pc hpc
  refine ⟨onV bp bc, rfl, fun j u hj => ?_, _, _, _, rfl, ints_one h2 (Nat.le_refl _), ints_one h3 (Nat.le_refl _), ArrAt.nil⟩
  have h6 := h1 j u hj
  rw [← htk, List.getElem?_take] at h6
  split at h6
  ·rw [cell_of_row w g _ cur _ _ hg, Nat.zero_add]
   simpa using h6
  ·cases h6
end Go.Proofs.YtceobmnljdhkmaaGreatDoor
namespace Go.Proofs.YtceobmnljdhkmaaGreatDoor
open Go Go.RowKit
theorem CellsAt.far {X w' : World} {row : Option Nat} {b : Nat} {cs : List Value} (h : CellsAt X b cs) (hg : X.grownBy w' row) (hne : some b ≠ row) : CellsAt w' b cs :=
 ⟨Nat.lt_of_lt_of_le h.1 hg.size, fun i u hi => (hg.cell_far ⟨b, i, none⟩ h.1 hne).trans (h.2 i u hi)⟩
end Go.Proofs.YtceobmnljdhkmaaGreatDoor
