/- driver, in, insert, Drivers of the reference's layer 45. -/
import Derived.Test.YtmddjbmelajadaaGreatDoorYG
import Derived.Test.YtmddjbmelajadaaGreatDoorYH
namespace Go.Proofs.YtmddjbmelajadaaGreatDoor
open Go Go.RowKit Go.Sort
theorem Ints.off {w : World} {v : Value} {ys : List Int} (h : Ints w v ys) (row : Option Nat) : ArrAt 1 (Off row IntR) w v ys := by
 obtain ⟨A, c, hv, hl, hm, hc⟩ := h
 refine ⟨A, c, hv, hl, hm, fun hne => ?_⟩
 obtain ⟨b, off, hA, hb, hk⟩ := hc hne
 refine ⟨b, off, hA, hb, fun k x hkx => ?_⟩
 obtain ⟨cs, h1, h2, h3⟩ := hk k x hkx
 exact ⟨cs, h1, h2, fun _ _ => h3⟩
theorem IntR.one : ∀ (w : World) (ds : List Value) (x : Int), IntR w ds x → ∀ u ∈ ds, u.oneCell' = true := by
 rintro w ds x rfl u hu
 simp only [List.mem_cons, List.not_mem_nil, or_false] at hu
 rw [hu]; rfl
theorem ints_new (w : World) (x : Int) (T : TypeId) : Ints (w.alloc (.cells #[.int .i64 x] T)) (.slice (some ⟨w.heap.size, 0, none⟩) 1 1) [x] :=
 ⟨_, 1, rfl, by simp, by simp, fun _ => ⟨w.heap.size, 0, rfl, (CellsAt.new w [.int .i64 x] T).1, fun k y hk => by
  match k, hk with
  | 0, hk =>
   obtain rfl : x = y := by simpa using hk
   exact ⟨[.int .i64 x], rfl, fun j u hj => by
    match j, hj with
    | 0, hj => exact (CellsAt.new w [.int .i64 x] T).2 0 u hj, rfl⟩⟩⟩
theorem ints_drop {w : World} {b off n c : Nat} {xs : List Int} (h : Ints w (.slice (some ⟨b, off, none⟩) n c) xs) {k : Nat} (hk : k ≤ n) : Ints w (.slice (some ⟨b, off + k, none⟩) (n - k) (c - k)) (xs.drop k) := by
 obtain ⟨A', c', hv, hl, hm, hc⟩ := h
 injection hv with h1 h2 h3
 subst h1 h2 h3
 refine ⟨_, c - k, by rw [List.length_drop], by rw [List.length_drop]; omega, by rw [List.length_drop]; omega, fun hne => ?_⟩
 obtain ⟨b', off', hA, hb, hel⟩ := hc (by rintro rfl; simp at hne)
 injection hA with hA
 injection hA with e1 e2
 subst e1 e2
 refine ⟨b, off + k, rfl, hb, fun j x hj => ?_⟩
 rw [List.getElem?_drop] at hj
 obtain ⟨cs, g1, g2, g3⟩ := hel _ _ hj
 refine ⟨cs, g1, fun i u hi => ?_, g3⟩
 rw [← g2 i u hi]
 congr 2
 omega
theorem ints_dropC {w : World} {b off n c : Nat} {xs : List Int} (h : Ints w (.slice (some ⟨b, off, none⟩) n c) xs) {k : Nat} (hk : k ≤ n) : Ints w (.slice (if c = k then some ⟨b, off, none⟩ else some ⟨b, off + k, none⟩) (n - k) (c - k)) (xs.drop k) := by
 split
 ·obtain ⟨hn, hc, -⟩ := h.len
  refine ⟨_, c - k, by rw [List.length_drop, ← hn], by rw [List.length_drop]; omega, by rw [List.length_drop]; omega, fun hne => absurd (List.drop_eq_nil_of_le (by omega)) hne⟩
 ·exact ints_drop h hk
theorem rowOf_own {base : Nat} {w : World} {v : Value} {l : List Int} (h : w.ownsRow base 3 1 v l.length (intVs l)) : RowOf 3 1 IntR base w v l :=
 ⟨_, h, fun k x hk => ⟨[.int .i64 x], rfl, fun j u hj => by
  match j, hj with
  | 0, hj =>
   obtain rfl : Value.int .i64 x = u := by simpa using hj
   unfold intVs
   rw [Nat.mul_one, Nat.add_zero, List.getElem?_map, hk]; rfl, fun _ _ => rfl⟩⟩
theorem rowOf_own' {base n : Nat} {w : World} {v : Value} {l : List Int} (h : w.ownsRow base 3 1 v n (intVs l)) (hn : l.length = n) : RowOf 3 1 IntR base w v l := by
 subst hn; exact rowOf_own h
theorem ints_newD (w : World) (x : Int) (T : TypeId) : Ints (w.alloc (.cells #[.int .i64 x] T)).drew (.slice (some ⟨w.heap.size, 0, none⟩) 1 1) [x] := (ints_new w x T).ext IntR.stable (Ext.drew _)
set_option maxHeartbeats 800000 in
theorem ref45_in {A : Option Addr} {n c : Nat} {xs : List Int} {x : Int} {w : World} (h : Ints w (.slice A n c) xs) :
  Calls Tryz.prog 16 #[.slice A n c, .int .i64 x] w fun e w' => e = .returned (.bool (decide (x ∈ xs))) ∧ w' = w := by
 obtain ⟨rfl, hl, hm⟩ := h.len
 have HC := Lib.hid (fun k (hk : k < xs.length) => ints_cells h hk)
 clear h
 go_enter Tryz.func16, Tryz.ntmps16
 go_wp2_with fail
 go_loopg [5] xs.length (fun gk y wr => ∃ i : Nat, y = .int .i64 (i : Int) ∧ i + gk = xs.length ∧ Hid (decide (x ∈ xs.drop i) = decide (x ∈ xs)) ∧ wr = w)
 case atStart => exact ⟨0, rfl, by omega, rfl, rfl⟩
 case round =>
  obtain ⟨i, rfl, hi, HA, hwr⟩ := hrel
  have hwr' := hwr.symm
  clear hwr
  subst hwr'
  by_cases hlt : i < xs.length
  ·obtain ⟨b, off, rfl, hb, hcell⟩ := HC.out _ hlt
   have q := hcell i hlt
   have HD := Lib.hid (mem_drop_step (x := x) hlt)
   have i1 : (i : Int) < (xs.length : Int) := by omega
   have i0 : (0 : Int) ≤ (i : Int) := by omega
   clear hcell HC
   generalize xs[i] = y at *
   by_cases he : x = y
   ·have he' : (y == x) = true := by simp [he]
    have HR : Hid (decide (x ∈ xs) = true) := by show _ = _; rw [← HA.out, HD.out, decide_eq_true he]; rfl
    clear he
    go_wp2_with fail
    go_ret
    exact ⟨by rw [HR.out]; rfl, rfl⟩
   ·have he' : (y == x) = false := by simpa using fun e => he e.symm
    have HR : Hid (decide (x ∈ xs.drop (i + 1)) = decide (x ∈ xs)) := by show _ = _; rw [← HA.out, HD.out, decide_eq_false he]; rfl
    clear he
    go_wp2_with fail
    go_roundg (xs.length - (i + 1))
    case measure => omega
    case rel => exact ⟨i + 1, by simp, by omega, HR, rfl⟩
  ·have HR : Hid (decide (x ∈ xs) = false) := by show _ = _; rw [← HA.out, List.drop_eq_nil_of_le (by omega)]; simp
   go_wp2_with fail
   go_ret
   exact ⟨by rw [HR.out]; rfl, rfl⟩
theorem dlOf_drop_step (l : List StI) {i : Nat} (h : i < l.length) (p : Int) : decide (p ∈ dlOf (l.drop i)) = ((decide (l[i].target = p) && l[i].drives) || decide (p ∈ dlOf (l.drop (i + 1)))) := by
 rw [List.drop_eq_getElem_cons h]
 unfold dlOf
 rw [List.filter_cons]
 cases hd : l[i].drives with
 | true =>
  rw [if_pos rfl, List.map_cons, decide_eq_decide.2 List.mem_cons, Bool.decide_or, Bool.and_true]
  congr 1
  exact decide_eq_decide.2 ⟨Eq.symm, Eq.symm⟩
 | false => rw [if_neg (by simp), Bool.and_false, Bool.false_or]
theorem CellsAt.twoJ {w : World} {g : Nat} {a b : Value} (k : CellsAt w g [a, b]) : w.cell? ⟨g, 0, none⟩ = some a ∧ w.cell? ⟨g, 1, none⟩ = some b := ⟨k.2 0 _ rfl, k.2 1 _ rfl⟩
set_option maxRecDepth 100000 in
set_option maxHeartbeats 3200000 in
theorem ref45_driver {l : List StI} {v0 v1 : Value} {p : Int} {w : World} (h : ArrAt 4 StR w v0 l) :
  Calls Tryz.prog 15 #[.agg #[v0, v1], .int .i64 p] w fun e w' => e = .returned (.bool (decide (p ∈ dlOf l))) ∧ Ext w w' := by
 obtain ⟨A0, c0, rfl, hl0, hm0⟩ := h.form
 have HST := Lib.hid h
 have HBX := Lib.hid (CellsAt.new w [.slice A0 l.length c0, v1] 25)
 obtain ⟨w1, hw1⟩ : ∃ w1, w.alloc (.cells #[.slice A0 l.length c0, v1] 25) = w1 := ⟨_, rfl⟩
 have HE1 : Hid (Ext w w1) := by rw [← hw1]; exact Ext.alloc _ _
 have HB1 : Hid (CellsAt w1 w.heap.size [.slice A0 l.length c0, v1]) := by rw [← hw1]; exact HBX.out
 have HW1 := Lib.hid hw1
 clear hw1 HBX h
 have hE1 := HE1.out
 go_enter Tryz.func15, Tryz.ntmps15
 go_upto_region 1 with fail
 rw [HW1.out]
 go_wp2_with fail
 go_loopg [5] l.length (fun gk x wr => ∃ (i : Nat), x = .int .i64 (i : Int) ∧ i + gk = l.length ∧ Hid (decide (p ∈ dlOf (l.drop i)) = decide (p ∈ dlOf l)) ∧ Hid (Ext w1 wr))
 case atStart => exact ⟨0, rfl, by omega, rfl, Ext.refl _⟩
 case round =>
  obtain ⟨i, rfl, hk, HF, HE⟩ := hrel
  have hE0 := HE.out
  have hEr : Ext w wr := Ext.trans hE1 HE.out
  obtain ⟨y0, y1⟩ := (HB1.out.ext HE.out).twoJ
  by_cases hlt : i < l.length
  ·obtain ⟨b, off, rfl, hb, ds, hds, hcell, B, m, d, br, rfl⟩ := HST.out.at_ hlt
   have q0 : wr.cell? ⟨b, off + i * 4, none⟩ = _ := (hEr.cell (p := ⟨b, off + (i * 4 + 0), none⟩) hb).trans (hcell 0 _ rfl)
   have q1 : wr.cell? ⟨b, off + i * 4 + 1, none⟩ = _ := (hEr.cell (p := ⟨b, off + (i * 4 + 1), none⟩) hb).trans (hcell 1 _ rfl)
   have q2 : wr.cell? ⟨b, off + i * 4 + 2, none⟩ = _ := (hEr.cell (p := ⟨b, off + (i * 4 + 2), none⟩) hb).trans (hcell 2 _ rfl)
   have q3 : wr.cell? ⟨b, off + i * 4 + 3, none⟩ = _ := (hEr.cell (p := ⟨b, off + (i * 4 + 3), none⟩) hb).trans (hcell 3 _ rfl)
   have hz3 : b < wr.heap.size := Nat.lt_of_lt_of_le hb hEr.size
   have HS := Lib.hid (dlOf_drop_step l hlt p)
   have HDR : Hid (l[i].drives = (decide (l[i].kind = 1) || decide (l[i].kind = 2))) := by show _ = _; unfold StI.drives; rw [Bool.decide_or]
   have i1 : (i : Int) < (l.length : Int) := by omega
   have i0 : (0 : Int) ≤ (i : Int) := by omega
   clear hcell hds
   generalize l[i].drives = dv at *
   generalize l[i].kind = kd at *
   generalize l[i].target = tg at *
   by_cases ht : tg = p
   ·have et : (tg == p) = true := by simp [ht]
    by_cases h1 : kd = 1
    ·have e1 : (kd == 1) = true := by simp [h1]
     have HR : Hid (decide (p ∈ dlOf l) = true) := by show _ = _; rw [← HF.out, HS.out, HDR.out, decide_eq_true ht, decide_eq_true h1]; rfl
     clear ht h1
     go_wp2_with fail
     go_ret
     exact ⟨by rw [HR.out]; rfl, Ext.trans hEr (by repeat first|exact xA _|assumption|refine xB ?_ _|refine xC ?_|refine xD ?_ _|refine xE ?_ (by simp <;> omega) _|refine xF ?_ (by assumption))⟩
    ·have e1 : (kd == 1) = false := by simpa using h1
     by_cases h2 : kd = 2
     ·have e2 : (kd == 2) = true := by simp [h2]
      have HR : Hid (decide (p ∈ dlOf l) = true) := by show _ = _; rw [← HF.out, HS.out, HDR.out, decide_eq_true ht, decide_eq_false h1, decide_eq_true h2]; rfl
      clear ht h1 h2
      go_wp2_with fail
      go_ret
      exact ⟨by rw [HR.out]; rfl, Ext.trans hEr (by repeat first|exact xA _|assumption|refine xB ?_ _|refine xC ?_|refine xD ?_ _|refine xE ?_ (by simp <;> omega) _|refine xF ?_ (by assumption))⟩
     ·have e2 : (kd == 2) = false := by simpa using h2
      have HR : Hid (decide (p ∈ dlOf (l.drop (i + 1))) = decide (p ∈ dlOf l)) := by show _ = _; rw [← HF.out, HS.out, HDR.out, decide_eq_false h1, decide_eq_false h2]; simp
      clear ht h1 h2
      go_wp2_with fail
      go_roundg (l.length - (i + 1))
      case measure => omega
      case rel => exact ⟨i + 1, by simp, by omega, HR, hE0.trans (by repeat first|exact xA _|assumption|refine xB ?_ _|refine xC ?_|refine xD ?_ _|refine xE ?_ (by simp <;> omega) _|refine xF ?_ (by assumption))⟩
   ·have et : (tg == p) = false := by simpa using ht
    have HR : Hid (decide (p ∈ dlOf (l.drop (i + 1))) = decide (p ∈ dlOf l)) := by show _ = _; rw [← HF.out, HS.out, decide_eq_false ht]; simp
    clear ht
    go_wp2_with fail
    go_roundg (l.length - (i + 1))
    case measure => omega
    case rel => exact ⟨i + 1, by simp, by omega, HR, hE0.trans (by repeat first|exact xA _|assumption|refine xB ?_ _|refine xC ?_|refine xD ?_ _|refine xE ?_ (by simp <;> omega) _|refine xF ?_ (by assumption))⟩
  ·have HR : Hid (decide (p ∈ dlOf l) = false) := by show _ = _; rw [← HF.out, List.drop_eq_nil_of_le (by omega)]; rfl
   go_wp2_with fail
   go_ret
   exact ⟨by rw [HR.out]; rfl, hEr⟩
theorem insL_take {n : Int} {l : List Int} {i : Nat} (hi : i ≤ l.length) (h1 : ∀ x ∈ l.take i, x < n) (h2 : ∀ h : i < l.length, ¬ l[i] < n) : l.take i ++ [n] ++ l.drop i = insL n l := by
 have hw : l.takeWhile (fun x => decide (x < n)) = l.take i := by
  conv => lhs; rw [← List.take_append_drop i l]
  rw [List.takeWhile_append_of_pos (by intro x hx; simpa using h1 x hx)]
  rcases Nat.lt_or_ge i l.length with hlt | hge
  ·rw [List.drop_eq_getElem_cons hlt, List.takeWhile_cons, if_neg (by simpa using h2 hlt), List.append_nil]
  ·rw [List.drop_eq_nil_of_le hge]; simp
 unfold insL
 rw [hw, List.length_take, Nat.min_eq_left hi]
 simp
set_option maxRecDepth 100000 in
set_option maxHeartbeats 3200000 in
theorem ref45_insert {b off m c : Nat} {xs : List Int} {n : Int} {w : World} (h : Ints w (.slice (some ⟨b, off, none⟩) m c) xs) (hx : xs.length ≤ 1000) :
  Calls Tryz.prog 17 #[.slice (some ⟨b, off, none⟩) m c, .int .i64 n] w (Ret w fun r w' => ∃ A c, r = .slice A (insL n xs).length c ∧ Ints w' (.slice A (insL n xs).length c) (insL n xs)) := by
 obtain ⟨rfl, hl, hm⟩ := h.len
 have HH := Lib.hid h
 have HC := Lib.hid (fun k (hk : k < xs.length) => ints_cells h hk)
 clear h
 obtain ⟨i0, hi, hz0, hz1, hz2⟩ := info_parts infoInt
 go_enter Tryz.func17, Tryz.ntmps17
 go_wp2_with fail
 go_loopg [5, 6] xs.length (fun gk v x wr => ∃ (i : Nat) (A : Option Addr) (c : Nat), v = .slice A i c ∧ x = .int .i64 (i : Int) ∧ i + gk = xs.length ∧ Hid (wr.ownsRow w.heap.size 3 1 (.slice A (xs.take i).length c) (xs.take i).length (intVs (xs.take i))) ∧ Hid (∀ x ∈ xs.take i, x < n) ∧ Hid (Ext w wr))
 case atStart => exact ⟨0, none, 0, rfl, rfl, by omega, World.ownsRow_nil _ _ _ _, fun x hx => by simp at hx, Ext.refl _⟩
 case round =>
  obtain ⟨i, A', c', rfl, rfl, hk, HO, HL, HE⟩ := hrel
  have hE0 := HE.out
  have HTL : Hid ((xs.take i).length = i) := by show _ = _; rw [List.length_take]; omega
  by_cases hlt : i < xs.length
  ·have HC1 := Lib.hid (HC.out _ hlt)
   obtain ⟨b', off', hA', hb, hcell⟩ := HC1.out
   injection hA' with hA'
   injection hA' with e1 e2
   subst e1 e2
   have q := (hE0.cell (p := ⟨b, off + i, none⟩) hb).trans (hcell i hlt)
   have HTS : Hid (xs.take (i + 1) = xs.take i ++ [xs[i]]) := List.take_succ_eq_append_getElem hlt
   have HG : Hid (¬ xs[i] < n → xs.take i ++ [n] ++ xs.drop i = insL n xs) := fun h => insL_take (by omega) HL.out (fun _ => h)
   have i1 : (i : Int) < (xs.length : Int) := by omega
   have i2 : (0 : Int) ≤ (i : Int) := by omega
   clear hcell HC1
   generalize xs[i] = y at *
   by_cases hy : y < n
   ·have hy' : decide (y < n) = true := by simp [hy]
    have HL2 : Hid (∀ x ∈ xs.take (i + 1), x < n) := by
     show ∀ x ∈ xs.take (i + 1), x < n
     intro x hx
     rw [HTS.out] at hx
     rcases List.mem_append.1 hx with hx | hx
     ·exact HL.out x hx
     ·obtain rfl : x = y := by simpa using hx
      exact hy
    clear hy
    have HO2 : Hid (wr.ownsRow w.heap.size 3 1 (.slice A' i c') i (intVs (xs.take i))) := by have := HO.out; rw [HTL.out] at this; exact this
    go_wp2_with (at_builtin; refine wpList_append_lies _ rfl _ _ 23 rfl w.heap.size 3 i0 (.int .i64 0) 1 8 Tryz.underlying23 hi hz0 hz1 hz2 rfl (by decide) _ i (intVs (xs.take i)) rfl (ownsRow_ext HO2.out (by repeat first|exact xA _|assumption|refine xB ?_ _|refine xC ?_|refine xD ?_ _|refine xE ?_ (by simp <;> omega) _|refine xF ?_ (by assumption))) _ 1 1 [.int .i64 y] rfl rfl (news_new _ [.int .i64 y] _) (by simp [Value.oneCell']) (by omega) (by unfold maxLen; omega) (by omega) (by have := hE0.size; simp; omega) _ rfl ?_; intro g cap w4 hown4 hgrow hat hlt4)
    go_roundg (xs.length - (i + 1))
    case measure => omega
    case rel => exact ⟨i + 1, some ⟨g, 0, none⟩, cap, by simp, by simp, by omega, by
     have e3 : (xs.take i ++ [y]).length = i + 1 := by rw [List.length_append, HTL.out]; rfl
     show World.ownsRow _ _ _ _ _ _ _
     rw [HTS.out, e3]
     simpa [intVs] using hown4, HL2, ext_grown hgrow (by repeat first|exact xA _|assumption|refine xB ?_ _|refine xC ?_|refine xD ?_ _|refine xE ?_ (by simp <;> omega) _|refine xF ?_ (by assumption)) (ownsRow_block HO2.out)⟩
   ·have hy' : decide (y < n) = false := by simpa using hy
    have HI := Lib.hid (HG.out hy)
    clear hy
    have HR0 : Hid (RowOf 3 1 IntR w.heap.size wr (.slice A' i c') (xs.take i)) := rowOf_own' (by have := HO.out; rw [HTL.out] at this; exact this) HTL.out
    have hix : i ≤ xs.length := by omega
    have HSD : Hid (Ints w (.slice (if c = i then some ⟨b, off, none⟩ else some ⟨b, off + i, none⟩) (xs.length - i) (c - i)) (xs.drop i)) := ints_dropC HH.out hix
    have hT : (xs.take i).length ≤ 1000 := by rw [HTL.out]; omega
    have hD : (xs.drop i).length ≤ 1000 := by rw [List.length_drop]; omega
    clear HO HC HTL HL
    generalize xs.take i = T at *
    generalize xs.drop i = D at *
    go_upto_region 7 with fail
    go_region_law (first
     | (refine step_append_row _ (by rfl) _ _ 23 (by rfl) 3 i0 (.int .i64 0) 1 8 Tryz.underlying23 hi hz0 hz1 hz2 (by rfl) (by decide) _ (by rfl) (hrow4.ext (by repeat first|exact xA _|assumption|refine xB ?_ _|refine xC ?_|refine xD ?_ _|refine xE ?_ (by simp <;> omega) _|refine xF ?_ (by assumption))) _ (by rfl) (Ints.off (HSD.out.ext IntR.stable (by repeat first|exact xA _|assumption|refine xB ?_ _|refine xC ?_|refine xD ?_ _|refine xE ?_ (by simp <;> omega) _|refine xF ?_ (by assumption))) _) IntR.one (by unfold maxLen; omega) (by omega) (by have := hsz4; first | omega | (simp; omega) | simp) ?_; intro A5 c5 w5 hrow5 hgr5 hat5; have hX5 := ext_grown hgr5 (hX4.trans (by repeat first|exact xA _|assumption|refine xB ?_ _|refine xC ?_|refine xD ?_ _|refine xE ?_ (by simp <;> omega) _|refine xF ?_ (by assumption))) (fun r hr => (hrow4.lt r hr).1); have HI5 := Lib.hid (hrow5.arr (by simp; omega)); clear hrow5 hgr5 hat5; generalize L4 ++ D = L5 at *)
     | (refine step_append_row _ (by rfl) _ _ 23 (by rfl) 3 i0 (.int .i64 0) 1 8 Tryz.underlying23 hi hz0 hz1 hz2 (by rfl) (by decide) _ (by rfl) (HR0.out.ext (by repeat first|exact xA _|assumption|refine xB ?_ _|refine xC ?_|refine xD ?_ _|refine xE ?_ (by simp <;> omega) _|refine xF ?_ (by assumption))) _ (by rfl) (by first | exact Ints.off (ints_new _ n _) _ | exact Ints.off (ints_newD _ n _) _) IntR.one (by unfold maxLen; first | omega | (simp; omega) | simp) (by first | omega | (simp; omega) | simp) (by have := hE0.size; first | omega | (simp; omega) | simp) ?_; intro A4 c4 w4 hrow4 hgr4 hat4; have hX4 := ext_grown hgr4 (hE0.trans (by repeat first|exact xA _|assumption|refine xB ?_ _|refine xC ?_|refine xD ?_ _|refine xE ?_ (by simp <;> omega) _|refine xF ?_ (by assumption))) (fun r hr => (HR0.out.lt r hr).1); have hsz4 := hX4.size; have hl4 : (T ++ [n]).length ≤ 1001 := (by first | omega | (simp; omega) | simp); clear hgr4 hat4; generalize T ++ [n] = L4 at *))
    all_goals
     go_wp2_with fail
     all_goals
      go_ret
      have e0 : Value.slice A5 L5.length c5 = .slice A5 (insL n xs).length c5 := by rw [HI.out]
      exact ⟨_, rfl, ⟨A5, c5, e0, by rw [← HI.out]; exact HI5.out.ext IntR.stable (by repeat first|exact xA _|assumption|refine xB ?_ _|refine xC ?_|refine xD ?_ _|refine xE ?_ (by simp <;> omega) _|refine xF ?_ (by assumption))⟩, hX5.trans (by repeat first|exact xA _|assumption|refine xB ?_ _|refine xC ?_|refine xD ?_ _|refine xE ?_ (by simp <;> omega) _|refine xF ?_ (by assumption))⟩
  ·have HI : Hid (xs.take i ++ [n] ++ xs.drop i = insL n xs) := insL_take (by omega) HL.out (fun h => absurd h hlt)
   have hltd : decide ((i : Int) < (xs.length : Int)) = false := decide_eq_false (by omega)
   have HR0 : Hid (RowOf 3 1 IntR w.heap.size wr (.slice A' i c') (xs.take i)) := rowOf_own' (by have := HO.out; rw [HTL.out] at this; exact this) HTL.out
   have hix : i ≤ xs.length := by omega
   have HSD : Hid (Ints w (.slice (if c = i then some ⟨b, off, none⟩ else some ⟨b, off + i, none⟩) (xs.length - i) (c - i)) (xs.drop i)) := ints_dropC HH.out hix
   have hT : (xs.take i).length ≤ 1000 := by rw [HTL.out]; omega
   have hD : (xs.drop i).length ≤ 1000 := by rw [List.length_drop]; omega
   clear HO HC HTL HL
   generalize xs.take i = T at *
   generalize xs.drop i = D at *
   go_upto_region 7 with fail
   go_region_law (first
    | (refine step_append_row _ (by rfl) _ _ 23 (by rfl) 3 i0 (.int .i64 0) 1 8 Tryz.underlying23 hi hz0 hz1 hz2 (by rfl) (by decide) _ (by rfl) (hrow4.ext (by repeat first|exact xA _|assumption|refine xB ?_ _|refine xC ?_|refine xD ?_ _|refine xE ?_ (by simp <;> omega) _|refine xF ?_ (by assumption))) _ (by rfl) (Ints.off (HSD.out.ext IntR.stable (by repeat first|exact xA _|assumption|refine xB ?_ _|refine xC ?_|refine xD ?_ _|refine xE ?_ (by simp <;> omega) _|refine xF ?_ (by assumption))) _) IntR.one (by unfold maxLen; omega) (by omega) (by have := hsz4; first | omega | (simp; omega) | simp) ?_; intro A5 c5 w5 hrow5 hgr5 hat5; have hX5 := ext_grown hgr5 (hX4.trans (by repeat first|exact xA _|assumption|refine xB ?_ _|refine xC ?_|refine xD ?_ _|refine xE ?_ (by simp <;> omega) _|refine xF ?_ (by assumption))) (fun r hr => (hrow4.lt r hr).1); have HI5 := Lib.hid (hrow5.arr (by simp; omega)); clear hrow5 hgr5 hat5; generalize L4 ++ D = L5 at *)
    | (refine step_append_row _ (by rfl) _ _ 23 (by rfl) 3 i0 (.int .i64 0) 1 8 Tryz.underlying23 hi hz0 hz1 hz2 (by rfl) (by decide) _ (by rfl) (HR0.out.ext (by repeat first|exact xA _|assumption|refine xB ?_ _|refine xC ?_|refine xD ?_ _|refine xE ?_ (by simp <;> omega) _|refine xF ?_ (by assumption))) _ (by rfl) (by first | exact Ints.off (ints_new _ n _) _ | exact Ints.off (ints_newD _ n _) _) IntR.one (by unfold maxLen; first | omega | (simp; omega) | simp) (by first | omega | (simp; omega) | simp) (by have := hE0.size; first | omega | (simp; omega) | simp) ?_; intro A4 c4 w4 hrow4 hgr4 hat4; have hX4 := ext_grown hgr4 (hE0.trans (by repeat first|exact xA _|assumption|refine xB ?_ _|refine xC ?_|refine xD ?_ _|refine xE ?_ (by simp <;> omega) _|refine xF ?_ (by assumption))) (fun r hr => (HR0.out.lt r hr).1); have hsz4 := hX4.size; have hl4 : (T ++ [n]).length ≤ 1001 := (by first | omega | (simp; omega) | simp); clear hgr4 hat4; generalize T ++ [n] = L4 at *))
   all_goals
    go_wp2_with fail
    all_goals
     go_ret
     have e0 : Value.slice A5 L5.length c5 = .slice A5 (insL n xs).length c5 := by rw [HI.out]
     exact ⟨_, rfl, ⟨A5, c5, e0, by rw [← HI.out]; exact HI5.out.ext IntR.stable (by repeat first|exact xA _|assumption|refine xB ?_ _|refine xC ?_|refine xD ?_ _|refine xE ?_ (by simp <;> omega) _|refine xF ?_ (by assumption))⟩, hX5.trans (by repeat first|exact xA _|assumption|refine xB ?_ _|refine xC ?_|refine xD ?_ _|refine xE ?_ (by simp <;> omega) _|refine xF ?_ (by assumption))⟩
set_option maxRecDepth 100000 in
set_option maxHeartbeats 3200000 in
theorem ref45_insert_nil {n : Int} {w : World} :
  Calls Tryz.prog 17 #[.slice none 0 0, .int .i64 n] w (Ret w fun r w' => ∃ A c, r = .slice A (insL n []).length c ∧ Ints w' (.slice A (insL n []).length c) (insL n [])) := by
 obtain ⟨i0, hi, hz0, hz1, hz2⟩ := info_parts infoInt
 go_enter Tryz.func17, Tryz.ntmps17
 go_wp2_with fail
 go_loopg [5, 6] 0 (fun _ v x wr => v = .slice none 0 0 ∧ x = .int .i64 0 ∧ wr = w)
 case atStart => exact ⟨rfl, rfl, rfl⟩
 case round =>
  obtain ⟨rfl, rfl, hwr⟩ := hrel
  have hwr' := hwr.symm
  clear hwr
  subst hwr'
  have HR0 : Hid (RowOf 3 1 IntR w.heap.size w (.slice none 0 0) []) := RowOf.nil
  have HI : Hid ([] ++ [n] ++ [] = insL n []) := rfl
  have HSD : Hid (∀ W, Ints W (.slice none 0 0) []) := fun _ => ⟨none, 0, rfl, Nat.le_refl _, by simp, fun h => absurd rfl h⟩
  go_upto_region 7 with fail
  go_region_law (first
   | (refine step_append_row _ (by rfl) _ _ 23 (by rfl) 3 i0 (.int .i64 0) 1 8 Tryz.underlying23 hi hz0 hz1 hz2 (by rfl) (by decide) _ (by rfl) (hrow4.ext (by repeat first|exact xA _|assumption|refine xB ?_ _|refine xC ?_|refine xD ?_ _|refine xE ?_ (by simp <;> omega) _|refine xF ?_ (by assumption))) _ (by rfl) (Ints.off (HSD.out _) _) IntR.one (by unfold maxLen; first | omega | (simp; omega) | simp) (by first | omega | (simp; omega) | simp) (by have := hsz4; first | omega | (simp; omega) | simp) ?_; intro A5 c5 w5 hrow5 hgr5 hat5; have hX5 := ext_grown hgr5 (hX4.trans (by repeat first|exact xA _|assumption|refine xB ?_ _|refine xC ?_|refine xD ?_ _|refine xE ?_ (by simp <;> omega) _|refine xF ?_ (by assumption))) (fun r hr => (hrow4.lt r hr).1); have HI5 := Lib.hid (hrow5.arr (by simp; omega)); clear hrow5 hgr5 hat5; generalize L4 ++ [] = L5 at *)
   | (refine step_append_row _ (by rfl) _ _ 23 (by rfl) 3 i0 (.int .i64 0) 1 8 Tryz.underlying23 hi hz0 hz1 hz2 (by rfl) (by decide) _ (by rfl) (HR0.out.ext (by repeat first|exact xA _|assumption|refine xB ?_ _|refine xC ?_|refine xD ?_ _|refine xE ?_ (by simp <;> omega) _|refine xF ?_ (by assumption))) _ (by rfl) (by first | exact Ints.off (ints_new _ n _) _ | exact Ints.off (ints_newD _ n _) _) IntR.one (by unfold maxLen; simp) (by simp) (by simp) ?_; intro A4 c4 w4 hrow4 hgr4 hat4; have hX4 := ext_grown hgr4 (Ext.trans (Ext.refl w) (by repeat first|exact xA _|assumption|refine xB ?_ _|refine xC ?_|refine xD ?_ _|refine xE ?_ (by simp <;> omega) _|refine xF ?_ (by assumption))) (fun r hr => (HR0.out.lt r hr).1); have hsz4 := hX4.size; have hl4 : (([] : List Int) ++ [n]).length ≤ 1001 := (by simp); clear hgr4 hat4; generalize ([] : List Int) ++ [n] = L4 at *))
  all_goals
   go_wp2_with fail
   go_ret
   have e0 : Value.slice A5 L5.length c5 = .slice A5 (insL n []).length c5 := by rw [HI.out]
   exact ⟨_, rfl, ⟨A5, c5, e0, by rw [← HI.out]; exact HI5.out.ext IntR.stable (by repeat first|exact xA _|assumption|refine xB ?_ _|refine xC ?_|refine xD ?_ _|refine xE ?_ (by simp <;> omega) _|refine xF ?_ (by assumption))⟩, hX5.trans (by repeat first|exact xA _|assumption|refine xB ?_ _|refine xC ?_|refine xD ?_ _|refine xE ?_ (by simp <;> omega) _|refine xF ?_ (by assumption))⟩
end Go.Proofs.YtmddjbmelajadaaGreatDoor
