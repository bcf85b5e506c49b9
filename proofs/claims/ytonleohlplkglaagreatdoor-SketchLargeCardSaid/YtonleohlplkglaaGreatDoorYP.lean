/- Contracts of the program's layer 21: letters, digits, span, IsName. -/
import Derived.Test.YtonleohlplkglaaGreatDoorYJ
import Derived.Test.YtonleohlplkglaaGreatDoorYL
import Derived.Test.YtonleohlplkglaaGreatDoorYN
import Derived.Deep.RegionHeld3
import Derived.Test.YtonleohlplkglaaGreatDoorYK
import Derived.Test.YtonleohlplkglaaGreatDoorYC
import Derived.Test.YtonleohlplkglaaGreatDoorYO
namespace Go.Proofs.YtonleohlplkglaaGreatDoor
open Go Go.RowKit
theorem lexer_isDigit (z : Int) (w : World) : Calls Tryz.prog 206 #[.int .u8 z] w fun e w' => e = .returned (.bool (isDigit z)) ∧ w = w' := by
 by_cases h1 : 48 ≤ z
 ·have H : Hid (isDigit z = decide (z ≤ 57)) := by show _ = _; simp [isDigit, h1]
  go_enter Tryz.func206, Tryz.ntmps206
  go_wp2_with fail
  go_ret
  exact ⟨by rw [H.out]; rfl, rfl⟩
 ·have H : Hid (isDigit z = false) := by show _ = _; simp [isDigit, h1]
  have h1' : decide (48 ≤ z) = false := by simpa using h1
  go_enter Tryz.func206, Tryz.ntmps206
  go_wp2_with fail
  go_ret
  exact ⟨by rw [H.out]; rfl, rfl⟩
theorem lexer_isLetter (z : Int) (w : World) : Calls Tryz.prog 187 #[.int .u8 z] w fun e w' => e = .returned (.bool (isLetter z)) ∧ w = w' := by
 by_cases h1 : 97 ≤ z <;> by_cases h2 : z ≤ 122 <;> by_cases h3 : 65 ≤ z <;> by_cases h4 : z ≤ 90 <;> try (exfalso; omega)
 all_goals
  have H : Hid (isLetter z = (decide (97 ≤ z) && decide (z ≤ 122) || decide (65 ≤ z) && decide (z ≤ 90))) := rfl
  simp only [h1, h2, h3, h4, decide_true, decide_false, Bool.and_self, Bool.and_true, Bool.and_false, Bool.or_true, Bool.or_false, Bool.or_self] at H
  go_enter Tryz.func187, Tryz.ntmps187
  go_wp2_with fail
  go_ret
  exact ⟨by rw [H.out]; rfl, rfl⟩
theorem lexer_isWord (z : Int) (w : World) : Calls Tryz.prog 189 #[.int .u8 z] w fun e w' => e = .returned (.bool (isWord z)) ∧ w = w' := by
 have HL := Lib.hid (fun w => lexer_isLetter z w)
 have HD := Lib.hid (fun w => lexer_isDigit z w)
 have HW : Hid (isWord z = (isLetter z || isDigit z || decide (z = 95))) := rfl
 generalize isLetter z = bl at *
 generalize isDigit z = bd at *
 generalize isWord z = bw at *
 go_enter Tryz.func189, Tryz.ntmps189
 go_wp2_with fail
 refine (HL.out _).mono ?_
 rintro e w1 ⟨rfl, rfl⟩
 cases bl with
 | true =>
  go_wp2_with fail
  go_ret
  exact ⟨by rw [HW.out]; simp, rfl⟩
 | false =>
  go_wp2_with fail
  refine (HD.out _).mono ?_
  rintro e w1 ⟨rfl, rfl⟩
  cases bd with
  | true =>
   go_wp2_with fail
   go_ret
   exact ⟨by rw [HW.out]; simp, rfl⟩
  | false =>
   go_wp2_with fail
   go_ret
   exact ⟨by rw [HW.out]; simp [BEq.beq], rfl⟩
set_option maxHeartbeats 1600000 in
theorem lexer_span {s : ByteArray} {w : World} (hsz : s.size ≤ 1000000) : Calls Tryz.prog 188 #[.string s, .func (.func 189) #[] #[]] w fun e w' => e = .returned (.int .i64 (wordEnd s 0 : Nat)) ∧ w = w' := by
 go_enter Tryz.func188, Tryz.ntmps188
 go_wp2_with fail
 go_loopg [5] s.size (fun gk x wr => ∃ p : Nat, x = .int .i64 (p : Int) ∧ p + gk = s.size ∧ Hid (wordEnd s p = wordEnd s 0) ∧ wr = w)
 case atStart => exact ⟨0, rfl, by omega, rfl, rfl⟩
 case round =>
  obtain ⟨p, rfl, hp, HE, rfl⟩ := hrel
  by_cases hps : p < s.size
  ·have H1 := Lib.hid (fun w => lexer_isWord (s[p].toNat : Int) w)
   have hW : wordEnd s p = if isWord (byteAt s p) then wordEnd s (p + 1) else p := by rw [wordEnd, dif_pos hps]
   rw [← byteAt_eq hps] at hW
   have HW := Lib.hid hW
   clear hW
   cases hb : isWord (s[p].toNat : Int) with
   | true =>
    have HE' : Hid (wordEnd s (p + 1) = wordEnd s 0) := by have := HW.out; rw [hb] at this; simp at this; exact this.symm.trans HE.out
    rw [hb] at H1
    clear hb HW
    go_wp2_with fail
    refine (H1.out _).mono ?_
    rintro e w1 ⟨rfl, rfl⟩
    go_wp2_with fail
    go_roundg (gk - 1)
    case measure => omega
    case rel => exact ⟨p + 1, by simp, by omega, HE', rfl⟩
   | false =>
    have HE' : Hid (p = wordEnd s 0) := by have := HW.out; rw [hb] at this; simp at this; exact this.symm.trans HE.out
    rw [hb] at H1
    clear hb HW
    go_wp2_with fail
    refine (H1.out _).mono ?_
    rintro e w1 ⟨rfl, rfl⟩
    go_wp2_with fail
    go_ret
    exact ⟨by rw [← HE'.out]; rfl, rfl⟩
  ·have HE' : Hid (p = wordEnd s 0) := by have := HE.out; rw [wordEnd, dif_neg hps] at this; exact this
   go_wp2_with fail
   go_ret
   exact ⟨by rw [← HE'.out]; rfl, rfl⟩
set_option maxHeartbeats 800000 in
theorem lexer_IsName (s : ByteArray) (w : World) (hsz : s.size ≤ 1000000) : Calls Tryz.prog 164 #[.string s] w fun e w' => e = .returned (.bool (isName s)) ∧ w = w' := by
 by_cases h0 : s.size = 0
 ·have HE : Hid (isName s = false) := by show _ = _; simp [isName, h0]
  have hse : s.toList.isEmpty = true := by rw [bytes_empty]; simpa using h0
  go_enter Tryz.func164, Tryz.ntmps164
  go_wp2_with fail
  go_ret
  exact ⟨by rw [HE.out]; rfl, rfl⟩
 ·have hse : s.toList.isEmpty = false := by rw [bytes_empty]; simpa using h0
  by_cases h1 : s.size ≤ 24
  ·have h0' : 0 < s.size := by omega
   have HL := Lib.hid (fun w => lexer_isLetter (s[0].toNat : Int) w)
   have HS := Lib.hid (lexer_span (w := w) hsz)
   have HN : Hid (isName s = (isLetter (s[0].toNat : Int) && decide ((wordEnd s 0 : Int) = (s.size : Int)))) := by
    show _ = _
    rw [byteAt_eq h0']
    simp only [isName, ne_eq, h0, not_false_eq_true, decide_true, Bool.true_and, h1]
    congr 1
    apply Bool.eq_iff_iff.2
    simp
    omega
   generalize isLetter (s[0].toNat : Int) = bl at *
   generalize wordEnd s 0 = z at *
   have h1' : (s.size : Int) ≤ 24 := by omega
   cases bl with
   | false =>
    go_enter Tryz.func164, Tryz.ntmps164
    go_wp2_with fail
    refine (HL.out _).mono ?_
    rintro e w1 ⟨rfl, rfl⟩
    go_wp2_with fail
    go_ret
    exact ⟨by rw [HN.out]; rfl, rfl⟩
   | true =>
    go_enter Tryz.func164, Tryz.ntmps164
    go_wp2_with fail
    refine (HL.out _).mono ?_
    rintro e w1 ⟨rfl, rfl⟩
    go_wp2_with fail
    refine HS.out.mono ?_
    rintro e w1 ⟨rfl, rfl⟩
    go_wp2_with fail
    go_ret
    exact ⟨by rw [HN.out]; simp [BEq.beq], rfl⟩
  ·have HE : Hid (isName s = false) := by show _ = _; simp [isName, h1]
   have h1' : ¬ ((s.size : Int) ≤ 24) := by omega
   go_enter Tryz.func164, Tryz.ntmps164
   go_wp2_with fail
   go_ret
   exact ⟨by rw [HE.out]; rfl, rfl⟩
end Go.Proofs.YtonleohlplkglaaGreatDoor
namespace Go.Proofs.YtonleohlplkglaaGreatDoor
open Go Go.RowKit
set_option maxRecDepth 100000 in
set_option maxHeartbeats 1600000 in
theorem formula_Depth : ∀ (k : Nat) {e : EI} {cs : List Value} {w : World} (_ : ExprR k w cs e) (_ : smallE k e) (_ : k ≤ 100000),
  Calls Tryz.prog 144 #[.agg cs.toArray] w fun x w' => x = .returned (.int .i64 (depthE k e : Nat)) ∧ Ext w w'
 | 0, _, _, _, h, _, _ => h.elim
 | k + 1, e, cs, w, h, hs, hk => by
  obtain ⟨u, v, sl, rfl, hu, hv, hsl⟩ := h
  obtain ⟨s1, s2, s3, hm, s4⟩ := hs
  obtain ⟨A, c, rfl, hl, hm0, hel⟩ := hsl
  clear hm0
  have HF : Hid (depthE (k + 1) e = e.args.foldl (fun n a => max n (depthE k a)) 0 + 1) := rfl
  have HEL := Lib.hid hel
  have HS4 := Lib.hid s4
  obtain ⟨A1, c1, rfl, hc1, hc1'⟩ := hu.form
  obtain ⟨A2, c2, rfl, hc2, hc2'⟩ := hv.form
  clear hu hv hel s1 s2 s3 s4
  have HBX := Lib.hid (CellsAt.new w [.int .i64 e.op, .bool e.value.num.neg, .slice A1 e.value.num.mag.length c1, .bool e.value.den.neg, .slice A2 e.value.den.mag.length c2, .string e.name, .slice A e.args.length c] 69)
  generalize e.value.num.mag.length = l1 at *
  generalize e.value.den.mag.length = l2 at *
  generalize e.value.num.neg = b1 at *
  generalize e.value.den.neg = b2 at *
  generalize e.op = op at *
  generalize e.name = nm at *
  go_enter Tryz.func144, Tryz.ntmps144
  go_wp2_with fail
  go_loopg [3, 5, 9] e.args.length (fun gk y _ x wr => ∃ i n : Nat, x = .int .i64 (i : Int) ∧ y = .int .i64 (n : Int) ∧ n ≤ k ∧ i + gk = e.args.length ∧ Hid ((e.args.drop i).foldl (fun n a => max n (depthE k a)) n = e.args.foldl (fun n a => max n (depthE k a)) 0) ∧ Hid (Ext (w.alloc (.cells #[.int .i64 op, .bool b1, .slice A1 l1 c1, .bool b2, .slice A2 l2 c2, .string nm, .slice A e.args.length c] 69)) wr))
  case atStart => exact ⟨0, 0, rfl, rfl, Nat.zero_le _, by omega, rfl, Ext.refl _⟩
  case round =>
   obtain ⟨i, n, rfl, rfl, hn, hi, HA, HE⟩ := hrel
   obtain ⟨y0, y1, y2, y3, y4, y5, y6⟩ := (HBX.out.ext HE.out).seven
   have hEr : Ext w wr := Ext.trans (Ext.alloc _ _) HE.out
   by_cases hlt : i < e.args.length
   ·obtain ⟨b, off, rfl, hb, hel⟩ := HEL.out (by intro e0; rw [e0] at hlt; simp at hlt)
    have hx0 : e.args[i]? = some e.args[i] := List.getElem?_eq_getElem hlt
    obtain ⟨ds, hds, hcell, hR⟩ := hel i _ hx0
    have hsm := HS4.out e.args[i] (List.getElem_mem hlt)
    obtain ⟨xop, xb1, XA, xn1, xc1, xb2, XB, xn2, xc2, xnm, XC, xn, xc, rfl⟩ := ExprR.shape hR
    clear hds
    have q0 : wr.cell? ⟨b, off + i * 7, none⟩ = some (.int .i64 xop) := (hEr.cell (p := ⟨b, off + (i * 7 + 0), none⟩) hb).trans (hcell 0 _ rfl)
    have q1 : wr.cell? ⟨b, off + i * 7 + 1, none⟩ = some (.bool xb1) := (hEr.cell (p := ⟨b, off + (i * 7 + 1), none⟩) hb).trans (hcell 1 _ rfl)
    have q2 : wr.cell? ⟨b, off + i * 7 + 2, none⟩ = some (.slice XA xn1 xc1) := (hEr.cell (p := ⟨b, off + (i * 7 + 2), none⟩) hb).trans (hcell 2 _ rfl)
    have q3 : wr.cell? ⟨b, off + i * 7 + 3, none⟩ = some (.bool xb2) := (hEr.cell (p := ⟨b, off + (i * 7 + 3), none⟩) hb).trans (hcell 3 _ rfl)
    have q4 : wr.cell? ⟨b, off + i * 7 + 4, none⟩ = some (.slice XB xn2 xc2) := (hEr.cell (p := ⟨b, off + (i * 7 + 4), none⟩) hb).trans (hcell 4 _ rfl)
    have q5 : wr.cell? ⟨b, off + i * 7 + 5, none⟩ = some (.string xnm) := (hEr.cell (p := ⟨b, off + (i * 7 + 5), none⟩) hb).trans (hcell 5 _ rfl)
    have q6 : wr.cell? ⟨b, off + i * 7 + 6, none⟩ = some (.slice XC xn xc) := (hEr.cell (p := ⟨b, off + (i * 7 + 6), none⟩) hb).trans (hcell 6 _ rfl)
    have HC := Lib.hid (fun w1 (hx : Ext w w1) => formula_Depth k (ExprR.stable k _ _ _ _ hx hR) hsm (by omega))
    have hdl := depthE_le k e.args[i]
    have HDR : Hid ((e.args.drop i).foldl (fun n a => max n (depthE k a)) n = (e.args.drop (i + 1)).foldl (fun n a => max n (depthE k a)) (max n (depthE k e.args[i]))) := by show _ = _; rw [List.drop_eq_getElem_cons hlt, List.foldl_cons]
    clear hel hcell hR
    generalize depthE k e.args[i] = fk at *
    go_wp2_with fail
    have hz3 : b < wr.heap.size := Nat.lt_of_lt_of_le hb hEr.size
    refine (HC.out _ (by repeat first|exact xA _|assumption|refine xB ?_ _|refine xC ?_|refine xD ?_ _|refine xE ?_ (by simp <;> omega) _|refine xF ?_ (by assumption))).mono ?_
    rintro x w2 ⟨rfl, hx2⟩
    by_cases hle : n < fk
    rotate_left
    ·rw [Nat.max_eq_left (by omega)] at HDR
     go_wp2_with fail
     go_roundg (gk - 1)
     case measure => omega
     case rel => exact ⟨i + 1, n, by simp, by simp; try omega, hn, by omega, (HDR.out.symm.trans HA.out), (by repeat first|exact xA _|assumption|refine xB ?_ _|refine xC ?_|refine xD ?_ _|refine xE ?_ (by simp <;> omega) _|refine xF ?_ (by assumption))⟩
    ·rw [Nat.max_eq_right (by omega)] at HDR
     go_wp2_with fail
     go_roundg (gk - 1)
     case measure => omega
     case rel => exact ⟨i + 1, fk, by simp, by simp; try omega, hdl, by omega, (HDR.out.symm.trans HA.out), (by repeat first|exact xA _|assumption|refine xB ?_ _|refine xC ?_|refine xD ?_ _|refine xE ?_ (by simp <;> omega) _|refine xF ?_ (by assumption))⟩
   ·have HT : Hid (n + 1 = depthE (k + 1) e) := by show _ = _; rw [HF.out, ← HA.out, List.drop_eq_nil_of_le (by omega)]; rfl
    go_wp2_with fail
    refine bodyPost_ret (v := .int .i64 ((n + 1 : Nat) : Int)) ?_ rfl ⟨?_, hEr⟩
    ·simp [results, Tryz.results144, go_sem]
    ·rw [HT.out]
end Go.Proofs.YtonleohlplkglaaGreatDoor
namespace Go.Proofs.YtonleohlplkglaaGreatDoor
open Go Go.RowKit
set_option maxHeartbeats 1600000 in
theorem idx_Int (g : Nat) (lb : Array Value) (eg : ∀ args w, (callFunc g args).run Tryz.prog w = .ok (.enter g args) w) {p : Int → Bool} {A : Option Addr} {n c : Nat} {xs : List Int} {w : World} (h : ArrAt 1 IntR w (.slice A n c) xs) (hp : PredX 1 g lb oneV IntR p xs w) :
  Calls Tryz.prog 162 #[.slice A n c, .func (.func g) #[] lb] w (IdxRes (xs.any p) w) := by
 obtain ⟨rfl, hl, hm⟩ := h.len
 have HA := Lib.hid h
 have HP := Lib.hid hp
 clear h hp
 go_enter Tryz.func162, Tryz.ntmps162
 go_wp2_with fail
 go_loopg [8] xs.length (fun gk x wr => ∃ i : Nat, x = .int .i64 (i : Int) ∧ i + gk = xs.length ∧ Hid ((xs.drop i).any p = xs.any p) ∧ Hid (Ext w wr))
 case atStart => exact ⟨0, rfl, by omega, rfl, Ext.refl _⟩
 case round =>
  obtain ⟨i, rfl, hi, HD, HE⟩ := hrel
  by_cases hlt : i < xs.length
  ·obtain ⟨b, off, rfl, hb, ds, hds, hcell, hR⟩ := HA.out.at_ hlt
   have HC := Lib.hid (HP.out wr ds xs[i] (List.getElem_mem hlt) HE.out hds (IntR.stable _ _ _ _ HE.out hR))
   have HD2 : Hid ((xs.drop i).any p = (p xs[i] || (xs.drop (i + 1)).any p)) := by show _ = _; rw [List.drop_eq_getElem_cons hlt, List.any_cons]
   have HQ := Lib.hid (fun j u (hj : ds[j]? = some u) => (HE.out.cell (p := ⟨b, off + (i * 1 + j), none⟩) hb).trans (hcell j u hj))
   clear hcell hR
   match ds, hds with
   | [d0], _ =>
    have q0 := HQ.out 0 _ rfl
    simp only [Nat.add_zero, Nat.mul_one] at q0
    clear HQ
    generalize p xs[i] = px at *
    cases px with
    | true =>
     have HT : Hid (xs.any p = true) := by show _ = _; rw [← HD.out, HD2.out]; rfl
     go_wp2_with (go_at_fn g; refine HC.out.mono ?_; rintro e w2 ⟨rfl, hx2⟩)
     go_ret
     exact ⟨(i : Int), rfl, by rw [HT.out]; simp, HE.out.trans hx2⟩
    | false =>
     have HT : Hid ((xs.drop (i + 1)).any p = xs.any p) := by show _ = _; rw [← HD.out, HD2.out]; rfl
     go_wp2_with (go_at_fn g; refine HC.out.mono ?_; rintro e w2 ⟨rfl, hx2⟩)
     go_roundg (xs.length - (i + 1))
     case measure => omega
     case rel => exact ⟨i + 1, by simp, by omega, HT, HE.out.trans hx2⟩
  ·have HT : Hid (xs.any p = false) := by show _ = _; rw [← HD.out, List.drop_eq_nil_of_le (by omega)]; rfl
   go_wp2_with fail
   go_ret
   exact ⟨-1, rfl, by rw [HT.out]; rfl, HE.out⟩
set_option maxHeartbeats 800000 in
theorem con_Int (g : Nat) (lb : Array Value) (eg : ∀ args w, (callFunc g args).run Tryz.prog w = .ok (.enter g args) w) {p : Int → Bool} {A : Option Addr} {n c : Nat} {xs : List Int} {w : World} (h : ArrAt 1 IntR w (.slice A n c) xs) (hp : PredX 1 g lb oneV IntR p xs w) :
  Calls Tryz.prog 140 #[.slice A n c, .func (.func g) #[] lb] w fun e w' => e = .returned (.bool (xs.any p)) ∧ Ext w w' := by
 have HI := Lib.hid (idx_Int g lb eg h hp)
 clear h hp
 generalize xs.any p = bb at *
 go_enter Tryz.func140, Tryz.ntmps140
 go_wp2_with fail
 refine HI.out.mono ?_
 rintro e w1 ⟨r, rfl, hr, hx1⟩
 have HR := Lib.hid hr
 clear hr
 go_wp2_with fail
 go_ret
 exact ⟨by rw [← HR.out]; rfl, hx1⟩
set_option maxHeartbeats 1600000 in
theorem idx_Expr (K : Nat) (g : Nat) (lb : Array Value) (eg : ∀ args w, (callFunc g args).run Tryz.prog w = .ok (.enter g args) w) {p : EI → Bool} {A : Option Addr} {n c : Nat} {xs : List EI} {w : World} (h : ArrAt 7 (ExprR K) w (.slice A n c) xs) (hp : PredX 7 g lb aggV (ExprR K) p xs w) :
  Calls Tryz.prog 142 #[.slice A n c, .func (.func g) #[] lb] w (IdxRes (xs.any p) w) := by
 obtain ⟨rfl, hl, hm⟩ := h.len
 have HA := Lib.hid h
 have HP := Lib.hid hp
 clear h hp
 go_enter Tryz.func142, Tryz.ntmps142
 go_wp2_with fail
 go_loopg [8] xs.length (fun gk x wr => ∃ i : Nat, x = .int .i64 (i : Int) ∧ i + gk = xs.length ∧ Hid ((xs.drop i).any p = xs.any p) ∧ Hid (Ext w wr))
 case atStart => exact ⟨0, rfl, by omega, rfl, Ext.refl _⟩
 case round =>
  obtain ⟨i, rfl, hi, HD, HE⟩ := hrel
  by_cases hlt : i < xs.length
  ·obtain ⟨b, off, rfl, hb, ds, hds, hcell, hR⟩ := HA.out.at_ hlt
   have HC := Lib.hid (HP.out wr ds xs[i] (List.getElem_mem hlt) HE.out hds ((ExprR.stable K) _ _ _ _ HE.out hR))
   have HD2 : Hid ((xs.drop i).any p = (p xs[i] || (xs.drop (i + 1)).any p)) := by show _ = _; rw [List.drop_eq_getElem_cons hlt, List.any_cons]
   have HQ := Lib.hid (fun j u (hj : ds[j]? = some u) => (HE.out.cell (p := ⟨b, off + (i * 7 + j), none⟩) hb).trans (hcell j u hj))
   clear hcell hR
   match ds, hds with
   | [d0, d1, d2, d3, d4, d5, d6], _ =>
    have q0 := HQ.out 0 _ rfl
    have q1 := HQ.out 1 _ rfl
    have q2 := HQ.out 2 _ rfl
    have q3 := HQ.out 3 _ rfl
    have q4 := HQ.out 4 _ rfl
    have q5 := HQ.out 5 _ rfl
    have q6 := HQ.out 6 _ rfl
    simp only [← Nat.add_assoc, Nat.add_zero] at q0 q1 q2 q3 q4 q5 q6
    clear HQ
    generalize p xs[i] = px at *
    cases px with
    | true =>
     have HT : Hid (xs.any p = true) := by show _ = _; rw [← HD.out, HD2.out]; rfl
     go_wp2_with (go_at_fn g; refine HC.out.mono ?_; rintro e w2 ⟨rfl, hx2⟩)
     go_ret
     exact ⟨(i : Int), rfl, by rw [HT.out]; simp, HE.out.trans hx2⟩
    | false =>
     have HT : Hid ((xs.drop (i + 1)).any p = xs.any p) := by show _ = _; rw [← HD.out, HD2.out]; rfl
     go_wp2_with (go_at_fn g; refine HC.out.mono ?_; rintro e w2 ⟨rfl, hx2⟩)
     go_roundg (xs.length - (i + 1))
     case measure => omega
     case rel => exact ⟨i + 1, by simp, by omega, HT, HE.out.trans hx2⟩
  ·have HT : Hid (xs.any p = false) := by show _ = _; rw [← HD.out, List.drop_eq_nil_of_le (by omega)]; rfl
   go_wp2_with fail
   go_ret
   exact ⟨-1, rfl, by rw [HT.out]; rfl, HE.out⟩
set_option maxHeartbeats 800000 in
theorem con_Expr (K : Nat) (g : Nat) (lb : Array Value) (eg : ∀ args w, (callFunc g args).run Tryz.prog w = .ok (.enter g args) w) {p : EI → Bool} {A : Option Addr} {n c : Nat} {xs : List EI} {w : World} (h : ArrAt 7 (ExprR K) w (.slice A n c) xs) (hp : PredX 7 g lb aggV (ExprR K) p xs w) :
  Calls Tryz.prog 94 #[.slice A n c, .func (.func g) #[] lb] w fun e w' => e = .returned (.bool (xs.any p)) ∧ Ext w w' := by
 have HI := Lib.hid (idx_Expr K g lb eg h hp)
 clear h hp
 generalize xs.any p = bb at *
 go_enter Tryz.func94, Tryz.ntmps94
 go_wp2_with fail
 refine HI.out.mono ?_
 rintro e w1 ⟨r, rfl, hr, hx1⟩
 have HR := Lib.hid hr
 clear hr
 go_wp2_with fail
 go_ret
 exact ⟨by rw [← HR.out]; rfl, hx1⟩
theorem inside1 {q : Nat} {n : Int} {xs : List Int} {w : World} (hq : q < w.heap.size) (hp : w.cell? ⟨q, 0, none⟩ = some (.int .i64 n)) :
  PredX 1 141 #[.pointer (some ⟨q, 0, none⟩)] oneV IntR (fun x => decide (x < 0) || decide (n ≤ x)) xs w := by
 intro W cs x hm hW hl hR
 have hR' : cs = [.int .i64 x] := hR
 subst hR'
 have q1 := (hW.cell (p := ⟨q, 0, none⟩) hq).trans hp
 have hz : q < W.heap.size := Nat.lt_of_lt_of_le hq hW.size
 clear hm hW hl hR hp hq
 show Calls Tryz.prog 141 #[.int .i64 x, .pointer (some ⟨q, 0, none⟩)] W fun e w' => e = .returned (.bool (decide (x < 0) || decide (n ≤ x))) ∧ Ext W w'
 go_enter Tryz.func141, Tryz.ntmps141
 by_cases h0 : x < 0
 ·have e0 : decide (x < 0) = true := by simpa using h0
  clear h0
  go_wp2_with fail
  go_ret
  exact ⟨by rw [e0]; rfl, Ext.refl _⟩
 ·have e0 : decide (x < 0) = false := by simpa using h0
  clear h0
  go_wp2_with fail
  go_ret
  exact ⟨by rw [e0]; rfl, Ext.refl _⟩
theorem within_any (xs : List Int) (n : Int) : (!xs.any fun x => decide (x < 0) || decide (n ≤ x)) = withinL xs n := by
 unfold withinL
 induction xs with
 | nil => rfl
 | cons a l ih =>
  simp only [List.any_cons, List.all_cons, Bool.not_or, ih]
  congr 1
  rw [Bool.eq_iff_iff]
  simp
set_option maxHeartbeats 800000 in
theorem constraint_inside {A : Option Addr} {m c : Nat} {xs : List Int} {k n : Int} {w : World} (h : Ints w (.slice A m c) xs) :
  Calls Tryz.prog 93 #[.slice A m c, .int .i64 k, .int .i64 n] w fun e w' => e = .returned (.bool (decide ((xs.length : Int) = k) && withinL xs n)) ∧ Ext w w' := by
 have hx0 : Ext w (w.alloc (.cells #[.int .i64 n] 3)) := Ext.alloc _ _
 have HI := Lib.hid (con_Int 141 #[.pointer (some ⟨w.heap.size, 0, none⟩)] (enters_of Tryz.func141 (by kernel_rfl) rfl) (h.ext IntR.stable hx0)
  (inside1 (q := w.heap.size) (n := n) (by simp) (by simp [go_sem])))
 have HN := Lib.hid (within_any xs n)
 obtain ⟨hm0, hl, hm⟩ := h.len
 subst hm0
 clear h hx0
 generalize (xs.any fun x => decide (x < 0) || decide (n ≤ x)) = bb at *
 generalize withinL xs n = ba at *
 go_enter Tryz.func93, Tryz.ntmps93
 by_cases hk : (xs.length : Int) = k
 ·subst hk
  go_wp2_with fail
  refine HI.out.mono ?_
  rintro e w1 ⟨rfl, hx1⟩
  go_wp2_with fail
  go_ret
  exact ⟨by rw [← HN.out]; simp, (by repeat first|exact xA _|assumption|refine xB ?_ _|refine xC ?_|refine xD ?_ _|refine xE ?_ (by simp <;> omega) _|refine xF ?_ (by assumption))⟩
 ·have e0 : ((xs.length : Int) == k) = false := by simpa using hk
  have e1 : decide ((xs.length : Int) = k) = false := by simpa using hk
  clear hk
  go_wp2_with fail
  go_ret
  exact ⟨by rw [e1]; rfl, (by repeat first|exact xA _|assumption|refine xB ?_ _|refine xC ?_|refine xD ?_ _|refine xE ?_ (by simp <;> omega) _|refine xF ?_ (by assumption))⟩
end Go.Proofs.YtonleohlplkglaaGreatDoor
namespace Go.Proofs.YtonleohlplkglaaGreatDoor
open Go Go.RowKit
theorem arr_take {α : Type} {sz : Nat} {R : World → List Value → α → Prop} {w : World} {A : Option Addr} {n c i : Nat} {xs : List α} (h : ArrAt sz R w (.slice A n c) xs) (hi : i ≤ n) : ArrAt sz R w (.slice A i c) (xs.take i) := by
 obtain ⟨hn, hl, hm⟩ := h.len
 obtain ⟨A', c', hv, -, -, hc⟩ := h
 injection hv with e1 e2 e3
 subst e1 e3
 have hlen : (xs.take i).length = i := by rw [List.length_take]; omega
 refine ⟨A, c, by rw [hlen], by omega, by omega, fun hne => ?_⟩
 obtain ⟨b, off, h1, h2, h3⟩ := hc (by intro e; rw [e] at hne; simp at hne)
 refine ⟨b, off, h1, h2, fun k x hk => ?_⟩
 rw [List.getElem?_take] at hk
 split at hk
 ·exact h3 k x hk
 ·cases hk
set_option maxHeartbeats 1600000 in
theorem constraint_different {A : Option Addr} {m c : Nat} {xs : List Int} {w : World} (h : Ints w (.slice A m c) xs) :
  Calls Tryz.prog 98 #[.slice A m c] w fun e w' => e = .returned (.bool (decide xs.Nodup)) ∧ Ext w w' := by
 obtain ⟨hm0, hl, hm⟩ := h.len
 have HC := Lib.hid (fun k (hk : k < xs.length) => ints_cells h hk)
 have HT := Lib.hid (fun i (hi : i ≤ m) w1 (hx : Ext w w1) x => slices_Contains_int (x := x) ((arr_take h hi).ext IntR.stable hx))
 subst hm0
 clear h
 go_enter Tryz.func98, Tryz.ntmps98
 go_wp2_with fail
 go_loopg [3, 4, 7] xs.length (fun gk _ _ x wr => ∃ i : Nat, x = .int .i64 (i : Int) ∧ i + gk = xs.length ∧ Hid ((xs.take i).Nodup) ∧ Hid (Ext w wr))
 case atStart => exact ⟨0, rfl, by omega, List.nodup_nil, Ext.refl _⟩
 case round =>
  obtain ⟨i, rfl, hi, HN, HE⟩ := hrel
  by_cases hlt : i < xs.length
  ·have HTi := Lib.hid (HT.out i (by omega) wr HE.out xs[i])
   obtain ⟨b, off, rfl, hb, hcell⟩ := HC.out _ hlt
   have HS := Lib.hid (nodup_take_succ hlt)
   have q := (HE.out.cell (p := ⟨b, off + i, none⟩) hb).trans (hcell i hlt)
   have hz : b < wr.heap.size := Nat.lt_of_lt_of_le hb HE.out.size
   have HD : Hid (xs[i] ∈ xs.take i → ¬ xs.Nodup) := by
    intro hmem hnd
    have h2 : (xs.take (i + 1)).Nodup := hnd.sublist (List.take_sublist _ _)
    exact ((nodup_take_succ hlt).1 h2).2 hmem
   have hi1 : (i : Int) < (xs.length : Int) := by omega
   have hi0 : (0 : Int) ≤ (i : Int) := by omega
   have hi2 : (i : Int) ≤ (c : Int) := by omega
   clear hcell HC HT
   generalize xs[i] = x at *
   by_cases hmem : x ∈ xs.take i
   ·have HR : Hid (decide xs.Nodup = false) := by show _ = _; simpa using HD.out hmem
    have e1 : decide (x ∈ xs.take i) = true := by simpa using hmem
    rw [e1] at HTi
    clear hmem e1
    go_wp2_with fail
    refine HTi.out.mono ?_
    rintro e w1 ⟨rfl, hx1⟩
    have hX := Ext.trans HE.out hx1
    go_wp2_with fail
    go_ret
    exact ⟨by rw [HR.out]; rfl, hX⟩
   ·have e1 : decide (x ∈ xs.take i) = false := by simpa using hmem
    have HR : Hid ((xs.take (i + 1)).Nodup) := HS.out.2 ⟨HN.out, hmem⟩
    rw [e1] at HTi
    clear hmem e1
    go_wp2_with fail
    refine HTi.out.mono ?_
    rintro e w1 ⟨rfl, hx1⟩
    have hX := Ext.trans HE.out hx1
    go_wp2_with fail
    go_roundg (xs.length - (i + 1))
    case measure => omega
    case rel => exact ⟨i + 1, by simp, by omega, HR.out, hX⟩
  ·have HR : Hid (decide xs.Nodup = true) := by show _ = _; have := HN.out; rw [List.take_of_length_le (by omega)] at this; simpa using this
   have hX := HE.out
   go_wp2_with fail
   go_ret
   exact ⟨by rw [HR.out]; rfl, hX⟩
set_option maxRecDepth 100000 in
set_option maxHeartbeats 1600000 in
theorem constraint_pairs {A : Option Addr} {m c : Nat} {xs : List Int} {w : World} (h : Ints w (.slice A m c) xs) (h4 : xs.length = 4) :
  Calls Tryz.prog 97 #[.slice A m c] w fun e w' => e = .returned (.bool (pairsL xs)) ∧ Ext w w' := by
 obtain ⟨hm0, hl, hm⟩ := h.len
 obtain ⟨b, off, rfl, hb, hcell⟩ := ints_cells h (k := 0) (by omega)
 rw [h4] at hm0
 subst hm0
 clear h
 match xs, h4 with
 | [x0, x1, x2, x3], _ =>
 have q0 := hcell 0 (by simp)
 have q1 := hcell 1 (by simp)
 have q2 := hcell 2 (by simp)
 have q3 := hcell 3 (by simp)
 simp only [List.getElem_cons_zero, List.getElem_cons_succ, Nat.add_zero] at q0 q1 q2 q3
 have HP : Hid (pairsL [x0, x1, x2, x3] = ((!decide (x0 = x1) && !decide (x2 = x3)) && !(decide (x0 = x2) && decide (x1 = x3)) && !(decide (x0 = x3) && decide (x1 = x2)))) := by
  show _ = _
  simp only [pairsL, samePair, List.getD_cons_zero, List.getD_cons_succ, Bool.not_or, Bool.and_assoc]
 clear hcell
 rw [HP.out]
 clear HP
 go_enter Tryz.func97, Tryz.ntmps97
 go_wp2_with fail
 go_quiet (fail)
 go_wp2_with fail
 all_goals
  go_ret
  refine ⟨congrArg (fun t => Ending.returned (Value.bool t)) ?_, Ext.drewN _ _⟩
  first | (simp_all; done) | (rw [Bool.eq_iff_iff]; simp; omega)
end Go.Proofs.YtonleohlplkglaaGreatDoor
namespace Go.Proofs.YtonleohlplkglaaGreatDoor
open Go Go.RowKit
/-- The cells of a shape: the last two are the kinds of its values, which no one asks for here. -/
def KR.shape (r : KR) (b1 b2 : Bool) : List Value := [.int .i64 r.p, .int .i64 r.c, .int .i64 r.n, .int .i64 r.q, .bool r.side, .bool b1, .bool b2]
/-- The table of the shapes, as it lies in block 0. -/
def GLk (w : World) : Prop := 2 < w.heap.size ∧ ∀ k r, kTab[k]? = some r → ∃ b1 b2 : Bool, ∀ j u, (r.shape b1 b2)[j]? = some u → w.cell? ⟨0, (k + 1) * 8 + 1 + j, none⟩ = some u
theorem GLk.ext {w w' : World} (h : GLk w) (hx : Ext w w') : GLk w' := by
 refine ⟨Nat.lt_of_lt_of_le h.1 hx.size, fun k r hr => ?_⟩
 obtain ⟨b1, b2, hc⟩ := h.2 k r hr
 exact ⟨b1, b2, fun j u hj => (hx.cell (p := ⟨0, (k + 1) * 8 + 1 + j, none⟩) (by have := h.1; show 0 < w.heap.size; omega)).trans (hc j u hj)⟩
def ShRes (r : KR) (w : World) (e : Ending) (w' : World) : Prop := ∃ b1 b2 : Bool, e = .returned (.tuple #[.agg #[.int .i64 r.p, .int .i64 r.c, .int .i64 r.n, .int .i64 r.q, .bool r.side, .bool b1, .bool b2], .bool true]) ∧ Ext w w'
set_option maxRecDepth 100000 in
set_option maxHeartbeats 1600000 in
theorem constraint_ShapeOf_some {kind : Int} {r : KR} {w : World} (hg : GLk w) (h : kRow kind = some r) :
  Calls Tryz.prog 92 #[.int .i64 kind] w (ShRes r w) := by
 obtain ⟨k, hk, rfl, hr⟩ := kRow_some h
 obtain ⟨b1, b2, hc⟩ := hg.2 k r hr
 have hz : 0 < w.heap.size := by have := hg.1; omega
 have q0 := hc 0 _ rfl
 have q1 := hc 1 _ rfl
 have q2 := hc 2 _ rfl
 have q3 := hc 3 _ rfl
 have q4 := hc 4 _ rfl
 have q5 := hc 5 _ rfl
 have q6 := hc 6 _ rfl
 simp only [Nat.add_zero] at q0
 have k1 : ¬ ((k : Int) + 1 < 1) := by omega
 have k2 : ¬ (17 < (k : Int) + 1) := by omega
 clear h hr hg hc
 obtain ⟨nm, rp, rc, rn, rv, rq, rs⟩ := r
 simp only at q0 q1 q2 q3 q4 q5 q6 ⊢
 go_enter Tryz.func92, Tryz.ntmps92
 go_wp2_with fail
 refine bodyPost_ret (v := .tuple #[.agg #[.int .i64 rp, .int .i64 rc, .int .i64 rn, .int .i64 rq, .bool rs, .bool b1, .bool b2], .bool true]) ?_ rfl ⟨b1, b2, rfl, ?_⟩
 ·simp [results, Tryz.results92, go_sem]
 ·exact (by repeat first|exact xA _|assumption|refine xB ?_ _|refine xC ?_|refine xD ?_ _|refine xE ?_ (by simp <;> omega) _|refine xF ?_ (by assumption))
set_option maxHeartbeats 1600000 in
theorem constraint_ShapeOf_none {kind : Int} (w : World) (h : kRow kind = none) :
  Calls Tryz.prog 92 #[.int .i64 kind] w fun e w' => e = .returned (.tuple #[.agg #[.int .i64 0, .int .i64 0, .int .i64 0, .int .i64 0, .bool false, .bool false, .bool false], .bool false]) ∧ Ext w w' := by
 rcases kRow_none h with h1 | h1
 ·have k1 : decide (kind < 1) = true := by simpa using h1
  clear h
  go_enter Tryz.func92, Tryz.ntmps92
  go_wp2_with fail
  refine bodyPost_ret (v := .tuple #[.agg #[.int .i64 0, .int .i64 0, .int .i64 0, .int .i64 0, .bool false, .bool false, .bool false], .bool false]) ?_ rfl ⟨rfl, ?_⟩
  ·simp [results, Tryz.results92, go_sem]
  ·exact (by repeat first|exact xA _|assumption|refine xB ?_ _|refine xC ?_|refine xD ?_ _|refine xE ?_ (by simp <;> omega) _|refine xF ?_ (by assumption))
 ·have k1 : ¬ (kind < 1) := by omega
  clear h
  go_enter Tryz.func92, Tryz.ntmps92
  go_wp2_with fail
  refine bodyPost_ret (v := .tuple #[.agg #[.int .i64 0, .int .i64 0, .int .i64 0, .int .i64 0, .bool false, .bool false, .bool false], .bool false]) ?_ rfl ⟨rfl, ?_⟩
  ·simp [results, Tryz.results92, go_sem]
  ·exact (by repeat first|exact xA _|assumption|refine xB ?_ _|refine xC ?_|refine xD ?_ _|refine xE ?_ (by simp <;> omega) _|refine xF ?_ (by assumption))
end Go.Proofs.YtonleohlplkglaaGreatDoor
namespace Go.Proofs.YtonleohlplkglaaGreatDoor
open Go Go.RowKit
set_option maxHeartbeats 1600000 in
theorem formula_none {b1 b2 : Bool} {l1 l2 c1 c2 : Nat} {A1 A2 : Option Addr} (w : World) :
  Calls Tryz.prog 165 #[.agg #[.bool b1, .slice A1 l1 c1, .bool b2, .slice A2 l2 c2]] w fun e w' => e = .returned (.bool (!b1 && !b2 && decide (l1 = 0) && decide (l2 = 0))) ∧ Ext w w' := by
 have k1 : ((l1 : Int) == 0) = decide (l1 = 0) := by apply Bool.eq_iff_iff.2; simp
 have k2 : ((l2 : Int) == 0) = decide (l2 = 0) := by apply Bool.eq_iff_iff.2; simp
 generalize decide (l1 = 0) = z1 at *
 generalize decide (l2 = 0) = z2 at *
 cases b1
 all_goals cases b2
 all_goals cases z1
 all_goals cases z2
 all_goals go_enter Tryz.func165, Tryz.ntmps165
 all_goals go_wp2_with fail
 all_goals go_ret
 all_goals exact ⟨rfl, (by repeat first|exact xA _|assumption|refine xB ?_ _|refine xC ?_|refine xD ?_ _|refine xE ?_ (by simp <;> omega) _|refine xF ?_ (by assumption))⟩
end Go.Proofs.YtonleohlplkglaaGreatDoor
namespace Go.Proofs.YtonleohlplkglaaGreatDoor
open Go Go.RowKit
/-- How many operands an operation has. -/
def nArgs (j : Nat) : Int := if j = 3 then 1 else if 4 ≤ j then 2 else 0
/-- The table of the operands, as it lies in block 1; and the powers of ten. -/
def GLo (w : World) : Prop := (1 < w.heap.size ∧ ∀ j, j ≤ 7 → w.cell? ⟨1, j, none⟩ = some (.int .i64 (nArgs j))) ∧ GLp w
theorem GLo.ext {w w' : World} (h : GLo w) (hx : Ext w w') : GLo w' :=
 ⟨⟨Nat.lt_of_lt_of_le h.1.1 hx.size, fun j hj => (hx.cell (p := ⟨1, j, none⟩) h.1.1).trans (h.1.2 j hj)⟩, h.2.ext hx⟩
def DecRes (b : Bool) (w : World) (e : Ending) (w' : World) : Prop := ∃ s : ByteArray, e = .returned (.tuple #[.string s, .bool b]) ∧ Ext w w'
/-- What is asked of decimal. -/
def DecC : Prop := ∀ (q : QI) (u v : Value) (w : World), GLp w → Words w u q.num.mag → Words w v q.den.mag → q.num.mag.length ≤ 1000 → q.den.mag.length ≤ 1000 →
 Calls Tryz.prog 163 #[.agg #[.bool q.num.neg, u, .bool q.den.neg, v]] w (DecRes q.dec w)
theorem formed1 {k : Nat} {xs : List EI} {w : World} (ih : ∀ (e : EI) (cs : List Value) (w1 : World), e ∈ xs → Ext w w1 → ExprR k w1 cs e → Calls Tryz.prog 143 #[.agg cs.toArray] w1 fun x w' => x = .returned (.bool (formed k e)) ∧ Ext w1 w') :
  PredX 7 166 #[] aggV (ExprR k) (fun e => !formed k e) xs w := by
 intro W cs x hm hW hl hR
 have HC := Lib.hid (fun w1 (hx : Ext W w1) => ih x cs w1 hm (Ext.trans hW hx) (ExprR.stable k _ _ _ _ hx hR))
 obtain ⟨xop, xb1, XA, xn1, xc1, xb2, XB, xn2, xc2, xnm, XC, xn, xc, rfl⟩ := ExprR.shape hR
 clear hR hl hm hW ih
 show Calls Tryz.prog 166 #[.agg #[.int .i64 xop, .bool xb1, .slice XA xn1 xc1, .bool xb2, .slice XB xn2 xc2, .string xnm, .slice XC xn xc]] W fun e w' => e = .returned (.bool (!formed k x)) ∧ Ext W w'
 generalize formed k x = fk at *
 go_enter Tryz.func166, Tryz.ntmps166
 go_wp2_with fail
 refine (HC.out _ (by repeat first|exact xA _|assumption|refine xB ?_ _|refine xC ?_|refine xD ?_ _|refine xE ?_ (by simp <;> omega) _|refine xF ?_ (by assumption))).mono ?_
 rintro e w1 ⟨rfl, hx1⟩
 go_wp2_with fail
 go_ret
 exact ⟨rfl, (by repeat first|exact xA _|assumption|refine xB ?_ _|refine xC ?_|refine xD ?_ _|refine xE ?_ (by simp <;> omega) _|refine xF ?_ (by assumption))⟩
/-- One call of formed, out of what it calls. -/
def FmC (dec fa : Bool) (op : Int) (nm : ByteArray) (b1 b2 : Bool) (l1 l2 n : Nat) : Bool :=
 if op = 1 then dec && (decide (nm.size = 0) || isName nm) && decide (n = 0)
 else if op = 2 then (!b1 && !b2 && decide (l1 = 0) && decide (l2 = 0)) && isName nm && decide (n = 0)
 else if op = 3 then (!b1 && !b2 && decide (l1 = 0) && decide (l2 = 0)) && decide (nm.size = 0) && decide (n = 1) && fa
 else if op = 4 ∨ op = 5 ∨ op = 6 ∨ op = 7 then (!b1 && !b2 && decide (l1 = 0) && decide (l2 = 0)) && decide (nm.size = 0) && decide (n = 2) && fa
 else false
set_option maxRecDepth 100000 in
set_option maxHeartbeats 3200000 in
theorem formed_step {dec fa : Bool} {op : Int} {nm : ByteArray} {b1 b2 : Bool} {A1 A2 A : Option Addr} {l1 l2 c1 c2 n c : Nat} {w : World} (hg : GLo w) (hs : nm.size ≤ 1000000) (hn : n ≤ 1000)
  (hD : ∀ w1, Ext w w1 → Calls Tryz.prog 163 #[.agg #[.bool b1, .slice A1 l1 c1, .bool b2, .slice A2 l2 c2]] w1 (DecRes dec w1))
  (hC : ∀ w1, Ext w w1 → Calls Tryz.prog 94 #[.slice A n c, .func (.func 166) #[] #[]] w1 fun e w' => e = .returned (.bool (!fa)) ∧ Ext w1 w') :
  Calls Tryz.prog 143 #[.agg #[.int .i64 op, .bool b1, .slice A1 l1 c1, .bool b2, .slice A2 l2 c2, .string nm, .slice A n c]] w fun x w' => x = .returned (.bool (FmC dec fa op nm b1 b2 l1 l2 n)) ∧ Ext w w' := by
 have HD := Lib.hid hD
 have HC := Lib.hid hC
 have HN := Lib.hid (fun w => lexer_IsName nm w hs)
 have HZ := Lib.hid (fun w => @formula_none b1 b2 l1 l2 c1 c2 A1 A2 w)
 have HF : Hid (FmC dec fa op nm b1 b2 l1 l2 n = if op = 1 then dec && (decide (nm.size = 0) || isName nm) && decide (n = 0)
  else if op = 2 then (!b1 && !b2 && decide (l1 = 0) && decide (l2 = 0)) && isName nm && decide (n = 0)
  else if op = 3 then (!b1 && !b2 && decide (l1 = 0) && decide (l2 = 0)) && decide (nm.size = 0) && decide (n = 1) && fa
  else if op = 4 ∨ op = 5 ∨ op = 6 ∨ op = 7 then (!b1 && !b2 && decide (l1 = 0) && decide (l2 = 0)) && decide (nm.size = 0) && decide (n = 2) && fa
  else false) := rfl
 have hze := bytes_empty nm
 generalize isName nm = inm at *
 generalize (!b1 && !b2 && decide (l1 = 0) && decide (l2 = 0)) = zq at *
 have hbn : nm.toList.isEmpty = decide (nm.size = 0) := by rw [hze]; try rfl
 clear hze
 generalize decide (nm.size = 0) = ze at *
 generalize FmC dec fa op nm b1 b2 l1 l2 n = res at *
 have hbox := CellsAt.new w [.int .i64 op, .bool b1, .slice A1 l1 c1, .bool b2, .slice A2 l2 c2, .string nm, .slice A n c] 69
 obtain ⟨w1, hw1⟩ : ∃ w1, w.alloc (.cells #[.int .i64 op, .bool b1, .slice A1 l1 c1, .bool b2, .slice A2 l2 c2, .string nm, .slice A n c] 69) = w1 := ⟨_, rfl⟩
 have HB1 : Hid (CellsAt w1 w.heap.size [.int .i64 op, .bool b1, .slice A1 l1 c1, .bool b2, .slice A2 l2 c2, .string nm, .slice A n c]) := by rw [← hw1]; exact hbox
 have hE1 : Ext w w1 := by rw [← hw1]; exact Ext.alloc _ _
 have HW1 := Lib.hid hw1
 have HG := Lib.hid (hg.ext hE1)
 have HGs : 1 < w1.heap.size := HG.out.1.1
 clear hw1 hbox hD hC hg hs
 obtain ⟨y0, y1, y2, y3, y4, y5, y6⟩ := HB1.out.seven
 have hbs := HB1.out.1
 go_enter Tryz.func143, Tryz.ntmps143
 go_upto_region 1 with fail
 rw [HW1.out]
 by_cases hlo : op < 1
 ·have HT : Hid (res = false) := by show _ = _; rw [HF.out, if_neg (by omega), if_neg (by omega), if_neg (by omega), if_neg (by omega)]
  have hlo' : decide (op < 1) = true := by simpa using hlo
  clear hlo HF
  go_quiet (fail)
  go_wp2_with fail
  go_ret
  exact ⟨by rw [HT.out]; rfl, Ext.pdrewN hE1 _⟩
 by_cases hhi : 7 < op
 ·have HT : Hid (res = false) := by show _ = _; rw [HF.out, if_neg (by omega), if_neg (by omega), if_neg (by omega), if_neg (by omega)]
  have hlo' : decide (op < 1) = false := by simpa using hlo
  have hhi' : decide (7 < op) = true := by simpa using hhi
  clear hlo hhi HF
  go_quiet (fail)
  go_wp2_with fail
  go_ret
  exact ⟨by rw [HT.out]; rfl, Ext.pdrewN hE1 _⟩
 have hop : op = 1 ∨ op = 2 ∨ op = 3 ∨ op = 4 ∨ op = 5 ∨ op = 6 ∨ op = 7 := by omega
 clear hlo hhi
 rcases hop with rfl | rfl | rfl | rfl | rfl | rfl | rfl
 ·have qn : w1.cell? ⟨1, 1, none⟩ = some (.int .i64 0) := HG.out.1.2 1 (by omega)
  by_cases hnn : n = 0
  rotate_left
  ·have hnb : ((n : Int) != 0) = true := by rw [bne_iff_ne]; omega
   have HT : Hid (res = false) := by show _ = _; rw [HF.out]; simp [hnn]
   clear HF hnn
   go_quiet (fail)
   go_wp2_with fail
   go_ret
   exact ⟨by rw [HT.out]; rfl, Ext.pdrewN hE1 _⟩
  subst hnn
  go_quiet (fail)
  obtain ⟨w2, hw2⟩ : ∃ w2, w1.drewN nq = w2 := ⟨_, rfl⟩
  rw [hw2]
  have hx2 : Ext w1 w2 := by rw [← hw2]; exact Ext.drewN _ _
  have hE2 : Ext w w2 := Ext.trans hE1 hx2
  have HB2 := Lib.hid (HB1.out.ext hx2)
  clear hw2 y0 y1 y2 y3 y4 y5 y6 hbs qn HGs
  obtain ⟨y0, y1, y2, y3, y4, y5, y6⟩ := HB2.out.seven
  have hbs := HB2.out.1
  have HT : Hid (res = (dec && (ze || inm))) := by show _ = _; rw [HF.out]; simp
  clear HF
  go_wp2_with fail
  refine (HD.out _ hE2).mono ?_
  rintro e w3 ⟨sd, rfl, hx3⟩
  have hE3 := Ext.trans hE2 hx3
  cases dec with
  | false =>
   go_wp2_with fail
   go_ret
   exact ⟨by rw [HT.out]; rfl, hE3⟩
  | true =>
   have HB3 := Lib.hid (HB2.out.ext hx3)
   clear y0 y1 y2 y3 y4 y5 y6 hbs
   obtain ⟨y0, y1, y2, y3, y4, y5, y6⟩ := HB3.out.seven
   have hbs := HB3.out.1
   cases ze with
   | true =>
    go_wp2_with fail
    go_ret
    exact ⟨by rw [HT.out]; rfl, hE3⟩
   | false =>
    go_wp2_with fail
    refine (HN.out _).mono ?_
    rintro e w4 ⟨rfl, rfl⟩
    go_wp2_with fail
    go_ret
    exact ⟨by rw [HT.out]; simp, hE3⟩
 ·have qn : w1.cell? ⟨1, 2, none⟩ = some (.int .i64 0) := HG.out.1.2 2 (by omega)
  by_cases hnn : n = 0
  rotate_left
  ·have hnb : ((n : Int) != 0) = true := by rw [bne_iff_ne]; omega
   have HT : Hid (res = false) := by show _ = _; rw [HF.out]; simp [hnn]
   clear HF hnn
   go_quiet (fail)
   go_wp2_with fail
   go_ret
   exact ⟨by rw [HT.out]; rfl, Ext.pdrewN hE1 _⟩
  subst hnn
  go_quiet (fail)
  obtain ⟨w2, hw2⟩ : ∃ w2, w1.drewN nq = w2 := ⟨_, rfl⟩
  rw [hw2]
  have hx2 : Ext w1 w2 := by rw [← hw2]; exact Ext.drewN _ _
  have hE2 : Ext w w2 := Ext.trans hE1 hx2
  have HB2 := Lib.hid (HB1.out.ext hx2)
  clear hw2 y0 y1 y2 y3 y4 y5 y6 hbs qn HGs
  obtain ⟨y0, y1, y2, y3, y4, y5, y6⟩ := HB2.out.seven
  have hbs := HB2.out.1
  have HT : Hid (res = (zq && inm)) := by show _ = _; rw [HF.out]; simp
  clear HF
  go_wp2_with fail
  refine (HZ.out _).mono ?_
  rintro e w3 ⟨rfl, hx3⟩
  have hE3 := Ext.trans hE2 hx3
  cases zq with
  | false =>
   go_wp2_with fail
   go_ret
   exact ⟨by rw [HT.out]; rfl, hE3⟩
  | true =>
   have HB3 := Lib.hid (HB2.out.ext hx3)
   clear y0 y1 y2 y3 y4 y5 y6 hbs
   obtain ⟨y0, y1, y2, y3, y4, y5, y6⟩ := HB3.out.seven
   have hbs := HB3.out.1
   go_wp2_with fail
   refine (HN.out _).mono ?_
   rintro e w4 ⟨rfl, rfl⟩
   go_wp2_with fail
   go_ret
   exact ⟨by rw [HT.out]; simp, hE3⟩
 ·have qn : w1.cell? ⟨1, 3, none⟩ = some (.int .i64 1) := HG.out.1.2 3 (by omega)
  by_cases hnn : n = 1
  rotate_left
  ·have hnb : ((n : Int) != 1) = true := by rw [bne_iff_ne]; omega
   have HT : Hid (res = false) := by show _ = _; rw [HF.out]; simp [hnn]
   clear HF hnn
   go_quiet (fail)
   go_wp2_with fail
   go_ret
   exact ⟨by rw [HT.out]; rfl, Ext.pdrewN hE1 _⟩
  subst hnn
  go_quiet (fail)
  obtain ⟨w2, hw2⟩ : ∃ w2, w1.drewN nq = w2 := ⟨_, rfl⟩
  rw [hw2]
  have hx2 : Ext w1 w2 := by rw [← hw2]; exact Ext.drewN _ _
  have hE2 : Ext w w2 := Ext.trans hE1 hx2
  have HB2 := Lib.hid (HB1.out.ext hx2)
  clear hw2 y0 y1 y2 y3 y4 y5 y6 hbs qn HGs
  obtain ⟨y0, y1, y2, y3, y4, y5, y6⟩ := HB2.out.seven
  have hbs := HB2.out.1
  have HT : Hid (res = (zq && ze && fa)) := by show _ = _; rw [HF.out]; simp
  clear HF
  go_wp2_with fail
  refine (HZ.out _).mono ?_
  rintro e w3 ⟨rfl, hx3⟩
  have hE3 := Ext.trans hE2 hx3
  cases zq with
  | false =>
   go_wp2_with fail
   go_ret
   exact ⟨by rw [HT.out]; rfl, hE3⟩
  | true =>
   have HB3 := Lib.hid (HB2.out.ext hx3)
   clear y0 y1 y2 y3 y4 y5 y6 hbs
   obtain ⟨y0, y1, y2, y3, y4, y5, y6⟩ := HB3.out.seven
   have hbs := HB3.out.1
   cases ze with
   | false =>
    go_wp2_with fail
    go_ret
    exact ⟨by rw [HT.out]; rfl, hE3⟩
   | true =>
    go_wp2_with fail
    refine (HC.out _ hE3).mono ?_
    rintro e w4 ⟨rfl, hx4⟩
    have hE4 := Ext.trans hE3 hx4
    go_wp2_with fail
    go_ret
    exact ⟨by rw [HT.out]; simp, hE4⟩
 ·have qn : w1.cell? ⟨1, 4, none⟩ = some (.int .i64 2) := HG.out.1.2 4 (by omega)
  by_cases hnn : n = 2
  rotate_left
  ·have hnb : ((n : Int) != 2) = true := by rw [bne_iff_ne]; omega
   have HT : Hid (res = false) := by show _ = _; rw [HF.out]; simp [hnn]
   clear HF hnn
   go_quiet (fail)
   go_wp2_with fail
   go_ret
   exact ⟨by rw [HT.out]; rfl, Ext.pdrewN hE1 _⟩
  subst hnn
  go_quiet (fail)
  obtain ⟨w2, hw2⟩ : ∃ w2, w1.drewN nq = w2 := ⟨_, rfl⟩
  rw [hw2]
  have hx2 : Ext w1 w2 := by rw [← hw2]; exact Ext.drewN _ _
  have hE2 : Ext w w2 := Ext.trans hE1 hx2
  have HB2 := Lib.hid (HB1.out.ext hx2)
  clear hw2 y0 y1 y2 y3 y4 y5 y6 hbs qn HGs
  obtain ⟨y0, y1, y2, y3, y4, y5, y6⟩ := HB2.out.seven
  have hbs := HB2.out.1
  have HT : Hid (res = (zq && ze && fa)) := by show _ = _; rw [HF.out]; simp
  clear HF
  go_wp2_with fail
  refine (HZ.out _).mono ?_
  rintro e w3 ⟨rfl, hx3⟩
  have hE3 := Ext.trans hE2 hx3
  cases zq with
  | false =>
   go_wp2_with fail
   go_ret
   exact ⟨by rw [HT.out]; rfl, hE3⟩
  | true =>
   have HB3 := Lib.hid (HB2.out.ext hx3)
   clear y0 y1 y2 y3 y4 y5 y6 hbs
   obtain ⟨y0, y1, y2, y3, y4, y5, y6⟩ := HB3.out.seven
   have hbs := HB3.out.1
   cases ze with
   | false =>
    go_wp2_with fail
    go_ret
    exact ⟨by rw [HT.out]; rfl, hE3⟩
   | true =>
    go_wp2_with fail
    refine (HC.out _ hE3).mono ?_
    rintro e w4 ⟨rfl, hx4⟩
    have hE4 := Ext.trans hE3 hx4
    go_wp2_with fail
    go_ret
    exact ⟨by rw [HT.out]; simp, hE4⟩
 ·have qn : w1.cell? ⟨1, 5, none⟩ = some (.int .i64 2) := HG.out.1.2 5 (by omega)
  by_cases hnn : n = 2
  rotate_left
  ·have hnb : ((n : Int) != 2) = true := by rw [bne_iff_ne]; omega
   have HT : Hid (res = false) := by show _ = _; rw [HF.out]; simp [hnn]
   clear HF hnn
   go_quiet (fail)
   go_wp2_with fail
   go_ret
   exact ⟨by rw [HT.out]; rfl, Ext.pdrewN hE1 _⟩
  subst hnn
  go_quiet (fail)
  obtain ⟨w2, hw2⟩ : ∃ w2, w1.drewN nq = w2 := ⟨_, rfl⟩
  rw [hw2]
  have hx2 : Ext w1 w2 := by rw [← hw2]; exact Ext.drewN _ _
  have hE2 : Ext w w2 := Ext.trans hE1 hx2
  have HB2 := Lib.hid (HB1.out.ext hx2)
  clear hw2 y0 y1 y2 y3 y4 y5 y6 hbs qn HGs
  obtain ⟨y0, y1, y2, y3, y4, y5, y6⟩ := HB2.out.seven
  have hbs := HB2.out.1
  have HT : Hid (res = (zq && ze && fa)) := by show _ = _; rw [HF.out]; simp
  clear HF
  go_wp2_with fail
  refine (HZ.out _).mono ?_
  rintro e w3 ⟨rfl, hx3⟩
  have hE3 := Ext.trans hE2 hx3
  cases zq with
  | false =>
   go_wp2_with fail
   go_ret
   exact ⟨by rw [HT.out]; rfl, hE3⟩
  | true =>
   have HB3 := Lib.hid (HB2.out.ext hx3)
   clear y0 y1 y2 y3 y4 y5 y6 hbs
   obtain ⟨y0, y1, y2, y3, y4, y5, y6⟩ := HB3.out.seven
   have hbs := HB3.out.1
   cases ze with
   | false =>
    go_wp2_with fail
    go_ret
    exact ⟨by rw [HT.out]; rfl, hE3⟩
   | true =>
    go_wp2_with fail
    refine (HC.out _ hE3).mono ?_
    rintro e w4 ⟨rfl, hx4⟩
    have hE4 := Ext.trans hE3 hx4
    go_wp2_with fail
    go_ret
    exact ⟨by rw [HT.out]; simp, hE4⟩
 ·have qn : w1.cell? ⟨1, 6, none⟩ = some (.int .i64 2) := HG.out.1.2 6 (by omega)
  by_cases hnn : n = 2
  rotate_left
  ·have hnb : ((n : Int) != 2) = true := by rw [bne_iff_ne]; omega
   have HT : Hid (res = false) := by show _ = _; rw [HF.out]; simp [hnn]
   clear HF hnn
   go_quiet (fail)
   go_wp2_with fail
   go_ret
   exact ⟨by rw [HT.out]; rfl, Ext.pdrewN hE1 _⟩
  subst hnn
  go_quiet (fail)
  obtain ⟨w2, hw2⟩ : ∃ w2, w1.drewN nq = w2 := ⟨_, rfl⟩
  rw [hw2]
  have hx2 : Ext w1 w2 := by rw [← hw2]; exact Ext.drewN _ _
  have hE2 : Ext w w2 := Ext.trans hE1 hx2
  have HB2 := Lib.hid (HB1.out.ext hx2)
  clear hw2 y0 y1 y2 y3 y4 y5 y6 hbs qn HGs
  obtain ⟨y0, y1, y2, y3, y4, y5, y6⟩ := HB2.out.seven
  have hbs := HB2.out.1
  have HT : Hid (res = (zq && ze && fa)) := by show _ = _; rw [HF.out]; simp
  clear HF
  go_wp2_with fail
  refine (HZ.out _).mono ?_
  rintro e w3 ⟨rfl, hx3⟩
  have hE3 := Ext.trans hE2 hx3
  cases zq with
  | false =>
   go_wp2_with fail
   go_ret
   exact ⟨by rw [HT.out]; rfl, hE3⟩
  | true =>
   have HB3 := Lib.hid (HB2.out.ext hx3)
   clear y0 y1 y2 y3 y4 y5 y6 hbs
   obtain ⟨y0, y1, y2, y3, y4, y5, y6⟩ := HB3.out.seven
   have hbs := HB3.out.1
   cases ze with
   | false =>
    go_wp2_with fail
    go_ret
    exact ⟨by rw [HT.out]; rfl, hE3⟩
   | true =>
    go_wp2_with fail
    refine (HC.out _ hE3).mono ?_
    rintro e w4 ⟨rfl, hx4⟩
    have hE4 := Ext.trans hE3 hx4
    go_wp2_with fail
    go_ret
    exact ⟨by rw [HT.out]; simp, hE4⟩
 ·have qn : w1.cell? ⟨1, 7, none⟩ = some (.int .i64 2) := HG.out.1.2 7 (by omega)
  by_cases hnn : n = 2
  rotate_left
  ·have hnb : ((n : Int) != 2) = true := by rw [bne_iff_ne]; omega
   have HT : Hid (res = false) := by show _ = _; rw [HF.out]; simp [hnn]
   clear HF hnn
   go_quiet (fail)
   go_wp2_with fail
   go_ret
   exact ⟨by rw [HT.out]; rfl, Ext.pdrewN hE1 _⟩
  subst hnn
  go_quiet (fail)
  obtain ⟨w2, hw2⟩ : ∃ w2, w1.drewN nq = w2 := ⟨_, rfl⟩
  rw [hw2]
  have hx2 : Ext w1 w2 := by rw [← hw2]; exact Ext.drewN _ _
  have hE2 : Ext w w2 := Ext.trans hE1 hx2
  have HB2 := Lib.hid (HB1.out.ext hx2)
  clear hw2 y0 y1 y2 y3 y4 y5 y6 hbs qn HGs
  obtain ⟨y0, y1, y2, y3, y4, y5, y6⟩ := HB2.out.seven
  have hbs := HB2.out.1
  have HT : Hid (res = (zq && ze && fa)) := by show _ = _; rw [HF.out]; simp
  clear HF
  go_wp2_with fail
  refine (HZ.out _).mono ?_
  rintro e w3 ⟨rfl, hx3⟩
  have hE3 := Ext.trans hE2 hx3
  cases zq with
  | false =>
   go_wp2_with fail
   go_ret
   exact ⟨by rw [HT.out]; rfl, hE3⟩
  | true =>
   have HB3 := Lib.hid (HB2.out.ext hx3)
   clear y0 y1 y2 y3 y4 y5 y6 hbs
   obtain ⟨y0, y1, y2, y3, y4, y5, y6⟩ := HB3.out.seven
   have hbs := HB3.out.1
   cases ze with
   | false =>
    go_wp2_with fail
    go_ret
    exact ⟨by rw [HT.out]; rfl, hE3⟩
   | true =>
    go_wp2_with fail
    refine (HC.out _ hE3).mono ?_
    rintro e w4 ⟨rfl, hx4⟩
    have hE4 := Ext.trans hE3 hx4
    go_wp2_with fail
    go_ret
    exact ⟨by rw [HT.out]; simp, hE4⟩
theorem formula_formed (hD : DecC) : ∀ (k : Nat) {e : EI} {cs : List Value} {w : World} (_ : ExprR k w cs e) (_ : smallE k e) (_ : GLo w),
  Calls Tryz.prog 143 #[.agg cs.toArray] w fun x w' => x = .returned (.bool (formed k e)) ∧ Ext w w'
 | 0, _, _, _, h, _, _ => h.elim
 | k + 1, e, cs, w, h, hs, hg => by
  obtain ⟨u, v, sl, rfl, hu, hv, hsl⟩ := h
  obtain ⟨s1, s2, s3, hm, s4⟩ := hs
  obtain ⟨A, c, rfl, hl, hm0, hel⟩ := hsl
  obtain ⟨A1, c1, hu', hc1, hc1'⟩ := hu.form
  obtain ⟨A2, c2, hv', hc2, hc2'⟩ := hv.form
  have harr : ArrAt 7 (ExprR k) w (.slice A e.args.length c) e.args := ⟨A, c, rfl, hl, by omega, hel⟩
  have hP : PredX 7 166 #[] aggV (ExprR k) (fun e => !formed k e) e.args w :=
   formed1 (fun a cs w1 hm1 hx hR => formula_formed hD k hR (s4 a hm1) (hg.ext hx))
  have hF : formed (k + 1) e = FmC e.value.dec (e.args.all (formed k)) e.op e.name e.value.num.neg e.value.den.neg e.value.num.mag.length e.value.den.mag.length e.args.length := by
   show (shapeOf e.op e.value e.name e.args.length && e.args.all (formed k)) = _
   unfold FmC shapeOf zeroQ
   by_cases h1 : e.op = 1
   ·rw [if_pos h1, if_pos h1]
    by_cases h0 : e.args.length = 0
    ·rw [List.eq_nil_of_length_eq_zero h0]; simp
    ·simp [h0]
   ·rw [if_neg h1, if_neg h1]
    by_cases h2 : e.op = 2
    ·rw [if_pos h2, if_pos h2]
     by_cases h0 : e.args.length = 0
     ·rw [List.eq_nil_of_length_eq_zero h0]; simp
     ·simp [h0]
    ·rw [if_neg h2, if_neg h2]
     by_cases h3 : e.op = 3
     ·rw [if_pos h3, if_pos h3]
     ·rw [if_neg h3, if_neg h3]
      by_cases h4 : e.op = 4 ∨ e.op = 5 ∨ e.op = 6 ∨ e.op = 7
      ·rw [if_pos h4, if_pos h4]
      ·rw [if_neg h4, if_neg h4]; rfl
  rw [hF]
  subst hu' hv'
  refine formed_step hg s3 hm (fun w1 hx => hD e.value _ _ w1 (hg.2.ext hx) (hu.ext hx) (hv.ext hx) s1 s2) (fun w1 hx => ?_)
  refine (con_Expr k 166 #[] (enters_of Tryz.func166 (by kernel_rfl) rfl) (harr.ext (ExprR.stable k) hx) (hP.ext hx)).mono ?_
  rintro x w2 ⟨rfl, hx2⟩
  exact ⟨by rw [← not_any_not, Bool.not_not], hx2⟩
end Go.Proofs.YtonleohlplkglaaGreatDoor
namespace Go.Proofs.YtonleohlplkglaaGreatDoor
open Go Go.RowKit
set_option maxRecDepth 100000 in
set_option maxHeartbeats 1600000 in
theorem formula_Valid (hDC : DecC) (k : Nat) {e : EI} {cs : List Value} {w : World} (h : ExprR k w cs e) (hs : smallE k e) (hk : k ≤ 100000) (hg : GLo w) :
  Calls Tryz.prog 96 #[.agg cs.toArray] w fun x w' => x = .returned (.int .i64 (errE k e)) ∧ Ext w w' := by
 have H1 := Lib.hid (fun w1 (hx : Ext w w1) => formula_formed hDC k (ExprR.stable k _ _ _ _ hx h) hs (hg.ext hx))
 have H2 := Lib.hid (fun w1 (hx : Ext w w1) => formula_Depth k (ExprR.stable k _ _ _ _ hx h) hs hk)
 have hd := depthE_le k e
 have HE : Hid (errE k e = if formed k e then if depthE k e ≤ 40 then 0 else 3 else 1) := rfl
 obtain ⟨j, rfl⟩ : ∃ j, k = j + 1 := by cases k with | zero => exact h.elim | succ j => exact ⟨j, rfl⟩
 obtain ⟨u, v, sl, rfl, hu, hv, hsl⟩ := h
 clear hu hv hsl hs
 generalize formed (j + 1) e = fk at *
 generalize depthE (j + 1) e = dk at *
 generalize e.op = op at *
 generalize e.name = nm at *
 generalize e.value.num.neg = b1 at *
 generalize e.value.den.neg = b2 at *
 have HBX := Lib.hid (CellsAt.new w [.int .i64 op, .bool b1, u, .bool b2, v, .string nm, sl] 69)
 go_enter Tryz.func96, Tryz.ntmps96
 go_wp2_with fail
 refine (H1.out _ (by repeat first|exact xA _|assumption|refine xB ?_ _|refine xC ?_|refine xD ?_ _|refine xE ?_ (by simp <;> omega) _|refine xF ?_ (by assumption))).mono ?_
 rintro x w1 ⟨rfl, hx1⟩
 obtain ⟨y0, y1, y2, y3, y4, y5, y6⟩ := (HBX.out.ext hx1).seven
 have hE1 : Ext w w1 := (by repeat first|exact xA _|assumption|refine xB ?_ _|refine xC ?_|refine xD ?_ _|refine xE ?_ (by simp <;> omega) _|refine xF ?_ (by assumption))
 cases fk with
 | false =>
  go_wp2_with fail
  go_ret
  exact ⟨by rw [HE.out]; rfl, hE1⟩
 | true =>
  go_wp2_with fail
  refine (H2.out _ hE1).mono ?_
  rintro x w2 ⟨rfl, hx2⟩
  have hE2 : Ext w w2 := hE1.trans hx2
  by_cases h40 : dk ≤ 40
  ·have h40' : ¬ (40 < dk) := by omega
   have HE' : Hid (errE (j + 1) e = 0) := by show _ = _; rw [HE.out]; simp [h40]
   go_wp2_with fail
   go_ret
   exact ⟨by rw [HE'.out]; try rfl, hE2⟩
  ·have h40' : 40 < dk := by omega
   have HE' : Hid (errE (j + 1) e = 3) := by show _ = _; rw [HE.out]; simp [h40]
   go_wp2_with fail
   go_ret
   exact ⟨by rw [HE'.out]; try rfl, hE2⟩
end Go.Proofs.YtonleohlplkglaaGreatDoor
namespace Go.Proofs.YtonleohlplkglaaGreatDoor
open Go Go.RowKit
theorem five_a (a b c d e : Bool) (h : (a && d) = false) : (a && b && c && d && e) = false := by revert h; cases a <;> cases b <;> cases c <;> cases d <;> cases e <;> decide
theorem five_b (a b c d e : Bool) (h : (b && e) = false) : (a && b && c && d && e) = false := by revert h; cases a <;> cases b <;> cases c <;> cases d <;> cases e <;> decide
theorem value1 {K : Nat} {xs : List EI} {w : World} (ih : ∀ (e : EI) (cs : List Value) (w1 : World), e ∈ xs → Ext w w1 → ExprR K w1 cs e → Calls Tryz.prog 96 #[.agg cs.toArray] w1 fun x w' => x = .returned (.int .i64 (errE K e)) ∧ Ext w1 w') :
  PredX 7 95 #[] aggV (ExprR K) (fun e => !decide (errE K e = 0)) xs w := by
 intro W cs x hm hW hl hR
 have HC := Lib.hid (fun w1 (hx : Ext W w1) => ih x cs w1 hm (Ext.trans hW hx) (ExprR.stable K _ _ _ _ hx hR))
 obtain ⟨xop, xb1, XA, xn1, xc1, xb2, XB, xn2, xc2, xnm, XC, xn, xc, rfl⟩ := ExprR.shape hR
 clear hR hl hm hW ih
 show Calls Tryz.prog 95 #[.agg #[.int .i64 xop, .bool xb1, .slice XA xn1 xc1, .bool xb2, .slice XB xn2 xc2, .string xnm, .slice XC xn xc]] W fun e w' => e = .returned (.bool (!decide (errE K x = 0))) ∧ Ext W w'
 generalize errE K x = er at *
 go_enter Tryz.func95, Tryz.ntmps95
 go_wp2_with fail
 refine (HC.out _ (by repeat first|exact xA _|assumption|refine xB ?_ _|refine xC ?_|refine xD ?_ _|refine xE ?_ (by simp <;> omega) _|refine xF ?_ (by assumption))).mono ?_
 rintro e w1 ⟨rfl, hx1⟩
 go_wp2_with fail
 go_ret
 exact ⟨by simp [bne, BEq.beq], (by repeat first|exact xA _|assumption|refine xB ?_ _|refine xC ?_|refine xD ?_ _|refine xE ?_ (by simp <;> omega) _|refine xF ?_ (by assumption))⟩
set_option maxRecDepth 100000 in
set_option maxHeartbeats 3200000 in
theorem constraint_Valid (hDC : DecC) (k : Nat) (hk : k ≤ 100000) {c : CI} {pv cv vv : Value} {np nc : Int} {w : World} (hp : Ints w pv c.points) (hc : Ints w cv c.circles) (hv : ArrAt 7 (ExprR k) w vv c.values) (hs : ∀ e ∈ c.values, smallE k e) (hgk : GLk w) (hgo : GLo w) :
  Calls Tryz.prog 51 #[.agg #[.int .i64 c.kind, pv, cv, vv, .int .i64 c.side], .int .i64 np, .int .i64 nc] w fun e w' => e = .returned (.bool (validC k c np nc)) ∧ Ext w w' := by
 obtain ⟨A1, c1, rfl, hl1, hm1⟩ := hp.form
 obtain ⟨A2, c2, rfl, hl2, hm2⟩ := hc.form
 obtain ⟨A3, c3, rfl, hl3, hm3⟩ := hv.form
 have hbox := CellsAt.new w [.int .i64 c.kind, .slice A1 c.points.length c1, .slice A2 c.circles.length c2, .slice A3 c.values.length c3, .int .i64 c.side] 52
 obtain ⟨w0, hw0⟩ : ∃ w0, w.alloc (.cells #[.int .i64 c.kind, .slice A1 c.points.length c1, .slice A2 c.circles.length c2, .slice A3 c.values.length c3, .int .i64 c.side] 52) = w0 := ⟨_, rfl⟩
 have HBX : Hid (CellsAt w0 w.heap.size [.int .i64 c.kind, .slice A1 c.points.length c1, .slice A2 c.circles.length c2, .slice A3 c.values.length c3, .int .i64 c.side]) := by rw [← hw0]; exact hbox
 have hE0 : Ext w w0 := by rw [← hw0]; exact Ext.alloc _ _
 have HW0 := Lib.hid hw0
 clear hw0 hbox
 cases hr : kRow c.kind with
 | none =>
  have HO := Lib.hid (fun w1 => constraint_ShapeOf_none w1 hr)
  have HV : Hid (validC k c np nc = false) := by show _ = _; unfold validC; rw [hr]
  clear hp hc hv hs hr hgk hgo
  obtain ⟨y0, y1, y2, y3, y4⟩ := HBX.out.five
  have hb0 := HBX.out.1
  generalize c.kind = kind at *
  go_enter Tryz.func51, Tryz.ntmps51
  go_upto_region 1 with fail
  rw [HW0.out]
  go_wp2_with fail
  refine (HO.out _).mono ?_
  rintro e w1 ⟨rfl, hx1⟩
  have hE1 : Ext w w1 := (by repeat first|exact xA _|assumption|refine xB ?_ _|refine xC ?_|refine xD ?_ _|refine xE ?_ (by simp <;> omega) _|refine xF ?_ (by assumption))
  go_wp2_with fail
  go_ret
  exact ⟨by rw [HV.out]; rfl, hE1.palloc _⟩
 | some r =>
  have HO := Lib.hid (constraint_ShapeOf_some (hgk.ext hE0) hr)
  have HV : Hid (validC k c np nc = (headC r c np nc && c.values.all (fun e => decide (errE k e = 0)) && sideOK r.side c.side && tailC c)) := by show _ = _; unfold validC; rw [hr]
  have HH : Hid (headC r c np nc = (decide ((c.points.length : Int) = r.p) && decide ((c.circles.length : Int) = r.c) && decide ((c.values.length : Int) = r.n) && withinL c.points np && withinL c.circles nc)) := rfl
  have HP4 : Hid (isPair c.kind = true → c.points.length = 4 ∨ (c.points.length : Int) ≠ r.p) := by
   intro h
   have := kRow_pair hr (by simpa [isPair] using h)
   omega
  have HIP : Hid (isPair c.kind = decide (c.kind = 5 ∨ c.kind = 6 ∨ c.kind = 7 ∨ c.kind = 8)) := rfl
  have HW1 := Lib.hid (fun w1 (hx : Ext w w1) => constraint_inside (k := r.p) (n := np) (hp.ext IntR.stable hx))
  have HW2 := Lib.hid (fun w1 (hx : Ext w w1) => constraint_inside (k := r.c) (n := nc) (hc.ext IntR.stable hx))
  have HD1 := Lib.hid (fun w1 (hx : Ext w w1) => constraint_different (hp.ext IntR.stable hx))
  have HD2 := Lib.hid (fun w1 (hx : Ext w w1) => constraint_different (hc.ext IntR.stable hx))
  have HPR := Lib.hid (fun w1 (hx : Ext w w1) h4 => constraint_pairs (hp.ext IntR.stable hx) h4)
  have hP : PredX 7 95 #[] aggV (ExprR k) (fun e => !decide (errE k e = 0)) c.values w :=
   value1 (fun e cs w1 hm hx hR => formula_Valid hDC k hR (hs e hm) hk (hgo.ext hx))
  have HCO := Lib.hid (fun w1 (hx : Ext w w1) => con_Expr k 95 #[] (enters_of Tryz.func95 (by kernel_rfl) rfl) (hv.ext (ExprR.stable k) hx) (hP.ext hx))
  have HAL : Hid ((c.values.any fun e => !decide (errE k e = 0)) = !(c.values.all fun e => decide (errE k e = 0))) := by show _ = _; rw [← not_any_not, Bool.not_not]
  clear hp hc hv hs hr hgk hgo hP
  have HTL : Hid (tailC c = (if isPair c.kind then pairsL c.points else decide c.points.Nodup && decide c.circles.Nodup)) := rfl
  generalize (c.values.any fun e => !decide (errE k e = 0)) = van at *
  generalize (c.values.all fun e => decide (errE k e = 0)) = val at *
  generalize c.kind = kind at *
  generalize headC r c np nc = hd at *
  generalize withinL c.points np = wi1 at *
  generalize withinL c.circles nc = wi2 at *
  generalize pairsL c.points = pl at *
  generalize tailC c = tl at *
  generalize validC k c np nc = vc at *
  generalize decide c.points.Nodup = nd1 at *
  generalize decide c.circles.Nodup = nd2 at *
  have b3 : ((c.values.length : Int) != r.n) = !decide ((c.values.length : Int) = r.n) := by simp [bne, BEq.beq]
  have HPN : Hid (decide ((c.points.length : Int) = r.p) = true → ¬ ((c.points.length : Int) ≠ r.p)) := by intro h; simpa using h
  generalize decide ((c.points.length : Int) = r.p) = d1 at *
  generalize decide ((c.circles.length : Int) = r.c) = d2 at *
  generalize decide ((c.values.length : Int) = r.n) = d3 at *
  obtain ⟨rnm, rp, rc, rk, rv, rq, rs⟩ := r
  simp only at HO HV HH HP4 HW1 HW2 HPN b3
  obtain ⟨y0, y1, y2, y3, y4⟩ := HBX.out.five
  have hb0 := HBX.out.1
  go_enter Tryz.func51, Tryz.ntmps51
  go_upto_region 1 with fail
  rw [HW0.out]
  go_wp2_with fail
  refine HO.out.mono ?_
  rintro e w1 ⟨sb1, sb2, rfl, hx1⟩
  have hE1 : Ext w w1 := Ext.trans hE0 hx1
  have HBX1 := Lib.hid (HBX.out.ext hx1)
  have hsh := CellsAt.new w1 [.int .i64 rp, .int .i64 rc, .int .i64 rk, .int .i64 rq, .bool rs, .bool sb1, .bool sb2] 111
  clear y0 y1 y2 y3 y4 hb0 HBX
  go_upto_region 2 with fail
  obtain ⟨W, hW⟩ : ∃ W, w1.alloc (.cells #[.int .i64 rp, .int .i64 rc, .int .i64 rk, .int .i64 rq, .bool rs, .bool sb1, .bool sb2] 111) = W := ⟨_, rfl⟩
  rw [hW]
  have HSH : Hid (CellsAt W w1.heap.size [.int .i64 rp, .int .i64 rc, .int .i64 rk, .int .i64 rq, .bool rs, .bool sb1, .bool sb2]) := by rw [← hW]; exact hsh
  have hxW : Ext w1 W := by rw [← hW]; exact Ext.alloc _ _
  have hEW : Ext w W := Ext.trans hE1 hxW
  have HBW := Lib.hid (HBX1.out.ext hxW)
  have HHD : Hid (hd = true → d1 = true) := by intro h; rw [HH.out] at h; simp at h; exact h.1.1.1.1
  clear hW hxW HBX1 hsh hx1 hE1 HO HW0
  go_cut [42] (fun x wx => x = .bool (!hd) ∧ Hid (Ext W wx))
  case first =>
   obtain ⟨y0, y1, y2, y3, y4⟩ := HBW.out.five
   obtain ⟨z0, z1, z2, z3, z4, z5, z6⟩ := HSH.out.seven
   have hb0 := HBW.out.1
   have hb1 := HSH.out.1
   have HQ1 := Lib.hid (HW1.out W hEW)
   clear HW1
   cases hq1 : (d1 && wi1) with
   | false =>
    rw [hq1] at HQ1
    have HF : Hid (hd = false) := by show _ = _; rw [HH.out]; exact five_a _ _ _ _ _ hq1
    clear HH hq1
    go_wp2_with fail
    refine HQ1.out.mono ?_
    rintro e w2 ⟨rfl, hx2⟩
    go_wp2_with fail
    go_meet
    exact ⟨by rw [HF.out]; rfl, hx2⟩
   | true =>
    rw [hq1] at HQ1
    go_wp2_with fail
    refine HQ1.out.mono ?_
    rintro e w2 ⟨rfl, hx2⟩
    have HB2 := Lib.hid (HBW.out.ext hx2)
    have HS2 := Lib.hid (HSH.out.ext hx2)
    have HQ2 := Lib.hid (HW2.out w2 (Ext.trans hEW hx2))
    clear y0 y1 y2 y3 y4 z0 z1 z2 z3 z4 z5 z6 hb0 hb1 HQ1 HW2
    obtain ⟨y0, y1, y2, y3, y4⟩ := HB2.out.five
    obtain ⟨z0, z1, z2, z3, z4, z5, z6⟩ := HS2.out.seven
    have hb0 := HB2.out.1
    have hb1 := HS2.out.1
    have e1 : d1 = true ∧ wi1 = true := by simpa using hq1
    obtain ⟨rfl, rfl⟩ := e1
    cases hq2 : (d2 && wi2) with
    | false =>
     rw [hq2] at HQ2
     have HF : Hid (hd = false) := by show _ = _; rw [HH.out]; exact five_b _ _ _ _ _ hq2
     clear HH hq1 hq2
     go_wp2_with fail
     refine HQ2.out.mono ?_
     rintro e w3 ⟨rfl, hx3⟩
     have hx23 := Ext.trans hx2 hx3
     go_wp2_with fail
     go_meet
     exact ⟨by rw [HF.out]; rfl, hx23⟩
    | true =>
     rw [hq2] at HQ2
     have e2 : d2 = true ∧ wi2 = true := by simpa using hq2
     obtain ⟨rfl, rfl⟩ := e2
     have HF : Hid (hd = d3) := by show _ = _; rw [HH.out]; simp
     clear HH hq1 hq2
     go_wp2_with fail
     refine HQ2.out.mono ?_
     rintro e w3 ⟨rfl, hx3⟩
     have hx23 := Ext.trans hx2 hx3
     have HB3 := Lib.hid (HBW.out.ext hx23)
     have HS3 := Lib.hid (HSH.out.ext hx23)
     clear y0 y1 y2 y3 y4 z0 z1 z2 z3 z4 z5 z6 hb0 hb1 HQ2
     obtain ⟨y0, y1, y2, y3, y4⟩ := HB3.out.five
     obtain ⟨z0, z1, z2, z3, z4, z5, z6⟩ := HS3.out.seven
     have hb0 := HB3.out.1
     have hb1 := HS3.out.1
     go_wp2_with fail
     go_meet
     exact ⟨by rw [HF.out], hx23⟩
  case rest =>
   obtain ⟨rfl, HXR⟩ := hcut
   clear HH HW1 HW2 b3
   have HPL : Hid (isPair kind = true → hd = true → c.points.length = 4) := by
    intro h1 h2
    rcases HP4.out h1 with h | h
    ·exact h
    ·exact absurd h (HPN.out (HHD.out h2))
   clear HP4 HPN HHD d1 d2 d3 wi1 wi2
   have hER := Ext.trans hEW HXR.out
   have HBR := Lib.hid (HBW.out.ext HXR.out)
   have HSR := Lib.hid (HSH.out.ext HXR.out)
   clear HBW HSH HXR hEW
   obtain ⟨y0, y1, y2, y3, y4⟩ := HBR.out.five
   obtain ⟨z0, z1, z2, z3, z4, z5, z6⟩ := HSR.out.seven
   have hb0 := HBR.out.1
   have hb1 := HSR.out.1
   cases hd with
   | false =>
    go_wp2_with fail
    go_ret
    exact ⟨by rw [HV.out]; rfl, hER⟩
   | true =>
    go_wp2_with fail
    refine (HCO.out _ hER).mono ?_
    rintro e w4 ⟨rfl, hx4⟩
    have hE4 := Ext.trans hER hx4
    have HB4 := Lib.hid (HBR.out.ext hx4)
    have HS4 := Lib.hid (HSR.out.ext hx4)
    clear HBR HSR HCO hER hx4 y0 y1 y2 y3 y4 z0 z1 z2 z3 z4 z5 z6 hb0 hb1
    obtain ⟨y0, y1, y2, y3, y4⟩ := HB4.out.five
    obtain ⟨z0, z1, z2, z3, z4, z5, z6⟩ := HS4.out.seven
    have hb0 := HB4.out.1
    have hb1 := HS4.out.1
    have hal := HAL.out
    subst hal
    clear HAL
    cases val with
    | false =>
     go_wp2_with fail
     go_ret
     exact ⟨by rw [HV.out]; rfl, hE4⟩
    | true =>
     have HV2 : Hid (vc = (sideOK rs c.side && tl)) := by show _ = _; rw [HV.out]; simp
     clear HV
     go_upto_region 6 with fail
     go_cut [67] (fun x wx => x = .bool (!sideOK rs c.side) ∧ w4 = wx)
     case first =>
      cases rs with
      | true =>
       by_cases s1 : c.side = 1
       ·have s1' : (c.side != 1) = false := by simp [s1]
        have HSD : Hid (sideOK true c.side = true) := by show _ = _; simp [sideOK, s1]
        clear s1
        go_wp2_with fail
        go_meet
        exact ⟨by rw [HSD.out]; rfl, rfl⟩
       ·have s1' : (c.side != 1) = true := by simpa using s1
        by_cases s2 : c.side = -1
        ·have s2' : (c.side != -1) = false := by simp [s2]
         have HSD : Hid (sideOK true c.side = true) := by show _ = _; simp [sideOK, s2]
         clear s1 s2
         go_wp2_with fail
         go_meet
         exact ⟨by rw [HSD.out]; rfl, rfl⟩
        ·have s2' : (c.side != -1) = true := by simpa using s2
         have HSD : Hid (sideOK true c.side = false) := by show _ = _; simp [sideOK, s1, s2]
         clear s1 s2
         go_wp2_with fail
         go_meet
         exact ⟨by rw [HSD.out]; rfl, rfl⟩
      | false =>
       by_cases s1 : c.side = 0
       ·have s1' : (c.side != 0) = false := by simp [s1]
        have HSD : Hid (sideOK false c.side = true) := by show _ = _; simp [sideOK, s1]
        clear s1
        go_wp2_with fail
        go_meet
        exact ⟨by rw [HSD.out]; rfl, rfl⟩
       ·have s1' : (c.side != 0) = true := by simpa using s1
        have HSD : Hid (sideOK false c.side = false) := by show _ = _; simp [sideOK, s1]
        clear s1
        go_wp2_with fail
        go_meet
        exact ⟨by rw [HSD.out]; rfl, rfl⟩
     case rest =>
      obtain ⟨rfl, rfl⟩ := hcut
      generalize sideOK rs c.side = so at *
      cases so with
      | false =>
       go_wp2_with fail
       go_ret
       exact ⟨by rw [HV2.out]; rfl, hE4⟩
      | true =>
       have HTC : Hid (vc = (if isPair kind then pl else nd1 && nd2)) := HV2.out.trans ((Bool.true_and _).trans HTL.out)
       clear HV2 HTL z0 z1 z2 z3 z4 z5 z6
       by_cases hkd : kind = 5 ∨ kind = 6 ∨ kind = 7 ∨ kind = 8
       rotate_left
       ·have HV3 : Hid (vc = (nd1 && nd2)) := by show _ = _; rw [HTC.out, HIP.out, decide_eq_false hkd]; rfl
        obtain ⟨k4, k5, k6, k7⟩ : (kind == 5) = false ∧ (kind == 6) = false ∧ (kind == 7) = false ∧ (kind == 8) = false := by
         simp only [beq_eq_false_iff_ne, ne_eq]; omega
        clear hkd HTC HPL HIP HPR
        go_wp2_with fail
        refine (HD1.out _ hE4).mono ?_
        rintro x w5 ⟨rfl, hx5⟩
        have hE5 := Ext.trans hE4 hx5
        cases nd1 with
        | false =>
         go_wp2_with fail
         go_ret
         exact ⟨by rw [HV3.out]; rfl, hE5⟩
        | true =>
         have HB5 := Lib.hid (HB4.out.ext hx5)
         clear y0 y1 y2 y3 y4 hb0 hb1
         obtain ⟨y0, y1, y2, y3, y4⟩ := HB5.out.five
         have hb0 := HB5.out.1
         go_wp2_with fail
         refine (HD2.out _ hE5).mono ?_
         rintro x w6 ⟨rfl, hx6⟩
         have hE6 := Ext.trans hE5 hx6
         go_wp2_with fail
         go_ret
         exact ⟨by rw [HV3.out]; rfl, hE6⟩
       rcases hkd with rfl | rfl | rfl | rfl
       ·have HV3 : Hid (vc = pl) := by show _ = _; rw [HTC.out, HIP.out]; rfl
        have h4 := HPL.out (by rw [HIP.out]; rfl) (by trivial)
        have HQ := Lib.hid (HPR.out _ hE4 h4)
        clear HPR HPL h4 HIP HTC
        go_wp2_with fail
        refine HQ.out.mono ?_
        rintro e w5 ⟨rfl, hx5⟩
        have hE5 := Ext.trans hE4 hx5
        go_wp2_with fail
        go_ret
        exact ⟨by rw [HV3.out]; rfl, hE5⟩
       ·have HV3 : Hid (vc = pl) := by show _ = _; rw [HTC.out, HIP.out]; rfl
        have h4 := HPL.out (by rw [HIP.out]; rfl) (by trivial)
        have HQ := Lib.hid (HPR.out _ hE4 h4)
        clear HPR HPL h4 HIP HTC
        go_wp2_with fail
        refine HQ.out.mono ?_
        rintro e w5 ⟨rfl, hx5⟩
        have hE5 := Ext.trans hE4 hx5
        go_wp2_with fail
        go_ret
        exact ⟨by rw [HV3.out]; rfl, hE5⟩
       ·have HV3 : Hid (vc = pl) := by show _ = _; rw [HTC.out, HIP.out]; rfl
        have h4 := HPL.out (by rw [HIP.out]; rfl) (by trivial)
        have HQ := Lib.hid (HPR.out _ hE4 h4)
        clear HPR HPL h4 HIP HTC
        go_wp2_with fail
        refine HQ.out.mono ?_
        rintro e w5 ⟨rfl, hx5⟩
        have hE5 := Ext.trans hE4 hx5
        go_wp2_with fail
        go_ret
        exact ⟨by rw [HV3.out]; rfl, hE5⟩
       ·have HV3 : Hid (vc = pl) := by show _ = _; rw [HTC.out, HIP.out]; rfl
        have h4 := HPL.out (by rw [HIP.out]; rfl) (by trivial)
        have HQ := Lib.hid (HPR.out _ hE4 h4)
        clear HPR HPL h4 HIP HTC
        go_wp2_with fail
        refine HQ.out.mono ?_
        rintro e w5 ⟨rfl, hx5⟩
        have hE5 := Ext.trans hE4 hx5
        go_wp2_with fail
        go_ret
        exact ⟨by rw [HV3.out]; rfl, hE5⟩
end Go.Proofs.YtonleohlplkglaaGreatDoor
namespace Go.Proofs.YtonleohlplkglaaGreatDoor
open Go Go.RowKit
set_option maxRecDepth 100000 in
set_option maxHeartbeats 3200000 in
theorem sketch_validChain {K : Nat} {s : SkI} {v0 v1 v2 v3 v4 v5 : Value} {A : Option Addr} {n cp : Nat} {c : List PcI} {w : World} (h : SkAt K w v0 v1 v2 v3 v4 v5 s) (hc : ArrAt 3 PcR w (.slice A n cp) c) :
  Calls Tryz.prog 48 #[.agg #[v0, v1, v2, v3, v4, v5], .slice A n cp] w fun e w' => e = .returned (.bool (chainL s c)) ∧ Ext w w' := by
 obtain ⟨A2, c2, rfl, hl2, hm2⟩ := h.segs.form
 obtain ⟨A3, c3, rfl, hl3, hm3⟩ := h.arcs.form
 obtain ⟨A0, c0, rfl, hl0, hm0⟩ := h.points.form
 obtain ⟨A1, c1, rfl, hl1, hm1⟩ := h.circles.form
 obtain ⟨A4, c4, rfl, hl4, hm4⟩ := h.chains.form
 obtain ⟨A5, c5, rfl, hl5, hm5⟩ := h.cons.form
 obtain ⟨rfl, hcl, hcm⟩ := hc.len
 have HBX := Lib.hid (CellsAt.new w [.slice A0 s.points.length c0, .slice A1 s.circles.length c1, .slice A2 s.segs.length c2, .slice A3 s.arcs.length c3, .slice A4 s.chains.length c4, .slice A5 s.cons.length c5] 29)
 have HCL : Hid (chainL s c = (chainFrom s none c && decide (0 < c.length))) := rfl
 have HC := Lib.hid hc
 have HEN := Lib.hid (fun w1 (hx : Ext w w1) (p : PcI) (hp : okPc s p = true) => sketch_ends (p := p) (h.ext hx) hp)
 clear h hc
 generalize s.points.length = n0 at *
 generalize s.circles.length = n1 at *
 generalize s.chains.length = n4 at *
 generalize s.cons.length = n5 at *
 obtain ⟨w1, hw1⟩ : ∃ w1, w.alloc (.cells #[.slice A0 n0 c0, .slice A1 n1 c1, .slice A2 s.segs.length c2, .slice A3 s.arcs.length c3, .slice A4 n4 c4, .slice A5 n5 c5] 29) = w1 := ⟨_, rfl⟩
 have HB1 : Hid (CellsAt w1 w.heap.size [.slice A0 n0 c0, .slice A1 n1 c1, .slice A2 s.segs.length c2, .slice A3 s.arcs.length c3, .slice A4 n4 c4, .slice A5 n5 c5]) := by rw [← hw1]; exact HBX.out
 have hE1 : Ext w w1 := by rw [← hw1]; exact Ext.alloc _ _
 have HW1 := Lib.hid hw1
 clear hw1 HBX
 go_enter Tryz.func48, Tryz.ntmps48
 go_upto_region 1 with fail
 rw [HW1.out]
 go_wp2_with fail
 go_loopg [5, 13] c.length (fun gk x y wr => ∃ (i : Nat) (last : Int), x = .int .i64 last ∧ y = .int .i64 (i : Int) ∧ i + gk = c.length ∧ Hid (chainFrom s (if i = 0 then none else some last) (c.drop i) = chainFrom s none c) ∧ Hid (Ext w1 wr))
 case atStart => exact ⟨0, -1, rfl, rfl, by omega, rfl, Ext.refl _⟩
 case round =>
  obtain ⟨i, last, rfl, rfl, hi, HA, HE⟩ := hrel
  obtain ⟨y0, y1, y2, y3, y4, y5⟩ := (HB1.out.ext HE.out).six
  have hEr : Ext w wr := Ext.trans hE1 HE.out
  have hBW : w.heap.size < wr.heap.size := Nat.lt_of_lt_of_le HB1.out.1 HE.out.size
  by_cases hlt : i < c.length
  ·obtain ⟨b, off, rfl, hb, ds, hds, hcell, hR⟩ := HC.out.at_ hlt
   rw [hR] at hcell
   have q0 : wr.cell? ⟨b, off + i * 3, none⟩ = some (.bool c[i].arc) := (hEr.cell (p := ⟨b, off + (i * 3 + 0), none⟩) hb).trans (hcell 0 _ rfl)
   have q1 : wr.cell? ⟨b, off + i * 3 + 1, none⟩ = some (.int .i64 c[i].index) := (hEr.cell (p := ⟨b, off + (i * 3 + 1), none⟩) hb).trans (hcell 1 _ rfl)
   have q2 : wr.cell? ⟨b, off + i * 3 + 2, none⟩ = some (.bool c[i].back) := (hEr.cell (p := ⟨b, off + (i * 3 + 2), none⟩) hb).trans (hcell 2 _ rfl)
   have HDR : Hid (chainFrom s (if i = 0 then none else some last) (c.drop i) = (okPc s c[i] && (match (if i = 0 then none else some last : Option Int) with | none => true | some e => decide (e = (endsOf s c[i]).1)) && chainFrom s (some (endsOf s c[i]).2) (c.drop (i + 1)))) := by
    show _ = _; rw [List.drop_eq_getElem_cons hlt]; rfl
   have HEi := Lib.hid (fun w2 (hx : Ext w w2) (hp : okPc s c[i] = true) => HEN.out w2 hx (c[i]'hlt) hp)
   have HOK : Hid (okPc s c[i] = if c[i].arc then hasL s.arcs.length c[i].index else hasL s.segs.length c[i].index) := rfl
   have HH1 := Lib.hid (fun w => sketch_has (s.arcs.length : Int) c[i].index w)
   have HH2 := Lib.hid (fun w => sketch_has (s.segs.length : Int) c[i].index w)
   have hi1 : (i : Int) < (c.length : Int) := by omega
   have hi0 : (0 : Int) ≤ (i : Int) := by omega
   have hz3 : b < wr.heap.size := Nat.lt_of_lt_of_le hb hEr.size
   clear hcell hR hds
   generalize hasL s.arcs.length c[i].index = ok1 at *
   generalize hasL s.segs.length c[i].index = ok2 at *
   generalize okPc s c[i] = okc at *
   generalize endsOf s c[i] = ep at *
   obtain ⟨eb, ee⟩ := ep
   generalize c[i].arc = arc at *
   generalize c[i].index = ix at *
   generalize c[i].back = bk at *
   cases arc with
   | false =>
    have HOK2 : Hid (okc = ok2) := by show _ = _; rw [HOK.out]; rfl
    clear HOK
    go_wp2_with fail
    refine (HH2.out _).mono ?_
    rintro e w2 ⟨rfl, rfl⟩
    clear HH1 HH2
    cases ok2 with
    | false =>
     have HT : Hid (chainL s c = false) := by show _ = _; rw [HCL.out, ← HA.out, HDR.out, HOK2.out]; rfl
     clear HDR HA HCL HEi
     go_wp2_with fail
     go_ret
     exact ⟨by rw [HT.out]; rfl, (by repeat first|exact xA _|assumption|refine xB ?_ _|refine xC ?_|refine xD ?_ _|refine xE ?_ (by simp <;> omega) _|refine xF ?_ (by assumption))⟩
    | true =>
     go_wp2_with fail
     refine (HEi.out _ (by repeat first|exact xA _|assumption|refine xB ?_ _|refine xC ?_|refine xD ?_ _|refine xE ?_ (by simp <;> omega) _|refine xF ?_ (by assumption)) HOK2.out).mono ?_
     rintro e w2 ⟨rfl, hx2⟩
     have HX2 := Lib.hid (Ext.trans HE.out (Ext.trans (Ext.alloc wr _) hx2))
     clear HEi hx2 q0 q1 q2 y0 y1 y2 y3 y4 y5
     by_cases hi00 : i = 0
     ·subst hi00
      have HN : Hid (chainFrom s (some ee) (c.drop 1) = chainFrom s none c) := by show _ = _; rw [← HA.out, HDR.out, HOK2.out]; simp
      clear HDR HA
      go_wp2_with fail
      go_roundg (c.length - 1)
      case measure => omega
      case rel => exact ⟨1, ee, rfl, by simp, by omega, HN, HX2.out⟩
     ·have HD2 : Hid ((decide (last = eb) && chainFrom s (some ee) (c.drop (i + 1))) = chainFrom s none c) := by
       show _ = _
       rw [← HA.out, HDR.out, HOK2.out, if_neg hi00]; simp
      have hip : (0 : Int) < (i : Int) := by omega
      clear HDR HA
      by_cases hle : last = eb
      ·subst hle
       have HN : Hid (chainFrom s (if i + 1 = 0 then none else some ee) (c.drop (i + 1)) = chainFrom s none c) := by show _ = _; rw [← HD2.out]; simp
       clear HD2
       go_wp2_with fail
       go_roundg (c.length - (i + 1))
       case measure => omega
       case rel => exact ⟨i + 1, ee, rfl, by simp, by omega, HN, HX2.out⟩
      ·have hne : (eb != last) = true := by rw [bne_iff_ne]; exact fun e => hle e.symm
       have HT : Hid (chainL s c = false) := by show _ = _; rw [HCL.out, ← HD2.out, decide_eq_false hle]; rfl
       have hX : Ext w w2 := Ext.trans hE1 HX2.out
       clear HD2 hle
       go_wp2_with fail
       go_ret
       exact ⟨by rw [HT.out]; rfl, hX⟩
   | true =>
    have HOK2 : Hid (okc = ok1) := by show _ = _; rw [HOK.out]; rfl
    clear HOK
    go_wp2_with fail
    refine (HH1.out _).mono ?_
    rintro e w2 ⟨rfl, rfl⟩
    clear HH1 HH2
    cases ok1 with
    | false =>
     have HT : Hid (chainL s c = false) := by show _ = _; rw [HCL.out, ← HA.out, HDR.out, HOK2.out]; rfl
     clear HDR HA HCL HEi
     go_wp2_with fail
     go_ret
     exact ⟨by rw [HT.out]; rfl, (by repeat first|exact xA _|assumption|refine xB ?_ _|refine xC ?_|refine xD ?_ _|refine xE ?_ (by simp <;> omega) _|refine xF ?_ (by assumption))⟩
    | true =>
     go_wp2_with fail
     refine (HEi.out _ (by repeat first|exact xA _|assumption|refine xB ?_ _|refine xC ?_|refine xD ?_ _|refine xE ?_ (by simp <;> omega) _|refine xF ?_ (by assumption)) HOK2.out).mono ?_
     rintro e w2 ⟨rfl, hx2⟩
     have HX2 := Lib.hid (Ext.trans HE.out (Ext.trans (Ext.alloc wr _) hx2))
     clear HEi hx2 q0 q1 q2 y0 y1 y2 y3 y4 y5
     by_cases hi00 : i = 0
     ·subst hi00
      have HN : Hid (chainFrom s (some ee) (c.drop 1) = chainFrom s none c) := by show _ = _; rw [← HA.out, HDR.out, HOK2.out]; simp
      clear HDR HA
      go_wp2_with fail
      go_roundg (c.length - 1)
      case measure => omega
      case rel => exact ⟨1, ee, rfl, by simp, by omega, HN, HX2.out⟩
     ·have HD2 : Hid ((decide (last = eb) && chainFrom s (some ee) (c.drop (i + 1))) = chainFrom s none c) := by
       show _ = _
       rw [← HA.out, HDR.out, HOK2.out, if_neg hi00]; simp
      have hip : (0 : Int) < (i : Int) := by omega
      clear HDR HA
      by_cases hle : last = eb
      ·subst hle
       have HN : Hid (chainFrom s (if i + 1 = 0 then none else some ee) (c.drop (i + 1)) = chainFrom s none c) := by show _ = _; rw [← HD2.out]; simp
       clear HD2
       go_wp2_with fail
       go_roundg (c.length - (i + 1))
       case measure => omega
       case rel => exact ⟨i + 1, ee, rfl, by simp, by omega, HN, HX2.out⟩
      ·have hne : (eb != last) = true := by rw [bne_iff_ne]; exact fun e => hle e.symm
       have HT : Hid (chainL s c = false) := by show _ = _; rw [HCL.out, ← HD2.out, decide_eq_false hle]; rfl
       have hX : Ext w w2 := Ext.trans hE1 HX2.out
       clear HD2 hle
       go_wp2_with fail
       go_ret
       exact ⟨by rw [HT.out]; rfl, hX⟩
  ·have hie : i = c.length := by omega
   have HT : Hid (chainL s c = decide (0 < c.length)) := by
    show _ = _
    rw [HCL.out, ← HA.out, hie, List.drop_length]
    simp [chainFrom]
   have HX := Lib.hid hEr
   have hlt' : ¬ ((i : Int) < (c.length : Int)) := by omega
   clear HA HCL HC hie hi
   generalize c.length = cl at *
   go_wp2_with fail
   go_ret
   exact ⟨by rw [HT.out]; rfl, HX.out⟩
end Go.Proofs.YtonleohlplkglaaGreatDoor
