/- Contracts of the program's layer 21: letters, digits, span, IsName. -/
import Derived.Test.YtmddjbmelajadaaGreatDoorYE
import Derived.Test.YtmddjbmelajadaaGreatDoorYF
import Derived.Test.YtmddjbmelajadaaGreatDoorYU
import Derived.Deep.RegionHeld3
import Derived.Lib.AppendIntMem
import Derived.Test.YtmddjbmelajadaaGreatDoorYQ
namespace Go.Proofs.YtmddjbmelajadaaGreatDoor
open Go Go.RowKit
theorem lexer_isDigit (z : Int) (w : World) : Calls Tryz.prog 337 #[.int .u8 z] w fun e w' => e = .returned (.bool (isDigit z)) ∧ w = w' := by
 by_cases h1 : 48 ≤ z
 ·have H : Hid (isDigit z = decide (z ≤ 57)) := by show _ = _; simp [isDigit, h1]
  go_enter Tryz.func337, Tryz.ntmps337
  go_wp2_with fail
  go_ret
  exact ⟨by rw [H.out]; rfl, rfl⟩
 ·have H : Hid (isDigit z = false) := by show _ = _; simp [isDigit, h1]
  have h1' : decide (48 ≤ z) = false := by simpa using h1
  go_enter Tryz.func337, Tryz.ntmps337
  go_wp2_with fail
  go_ret
  exact ⟨by rw [H.out]; rfl, rfl⟩
theorem lexer_isLetter (z : Int) (w : World) : Calls Tryz.prog 279 #[.int .u8 z] w fun e w' => e = .returned (.bool (isLetter z)) ∧ w = w' := by
 by_cases h1 : 97 ≤ z <;> by_cases h2 : z ≤ 122 <;> by_cases h3 : 65 ≤ z <;> by_cases h4 : z ≤ 90 <;> try (exfalso; omega)
 all_goals
  have H : Hid (isLetter z = (decide (97 ≤ z) && decide (z ≤ 122) || decide (65 ≤ z) && decide (z ≤ 90))) := rfl
  simp only [h1, h2, h3, h4, decide_true, decide_false, Bool.and_self, Bool.and_true, Bool.and_false, Bool.or_true, Bool.or_false, Bool.or_self] at H
  go_enter Tryz.func279, Tryz.ntmps279
  go_wp2_with fail
  go_ret
  exact ⟨by rw [H.out]; rfl, rfl⟩
theorem lexer_isWord (z : Int) (w : World) : Calls Tryz.prog 281 #[.int .u8 z] w fun e w' => e = .returned (.bool (isWord z)) ∧ w = w' := by
 have HL := Lib.hid (fun w => lexer_isLetter z w)
 have HD := Lib.hid (fun w => lexer_isDigit z w)
 have HW : Hid (isWord z = (isLetter z || isDigit z || decide (z = 95))) := rfl
 generalize isLetter z = bl at *
 generalize isDigit z = bd at *
 generalize isWord z = bw at *
 go_enter Tryz.func281, Tryz.ntmps281
 go_wp2_with fail
 refine (HL.out _).mono ?_
 rintro e w1 ⟨rfl, rfl⟩
 cases bl with
 | true =>
  go_wp2_with fail
  go_ret
  exact ⟨by rw [HW.out]; simp, rfl⟩
 | false =>
  go_wp2_with fail
  refine (HD.out _).mono ?_
  rintro e w1 ⟨rfl, rfl⟩
  cases bd with
  | true =>
   go_wp2_with fail
   go_ret
   exact ⟨by rw [HW.out]; simp, rfl⟩
  | false =>
   go_wp2_with fail
   go_ret
   exact ⟨by rw [HW.out]; simp [BEq.beq], rfl⟩
set_option maxHeartbeats 1600000 in
theorem lexer_span {s : ByteArray} {w : World} (hsz : s.size ≤ 1000000) : Calls Tryz.prog 280 #[.string s, .func (.func 281) #[] #[]] w fun e w' => e = .returned (.int .i64 (wordEnd s 0 : Nat)) ∧ w = w' := by
 go_enter Tryz.func280, Tryz.ntmps280
 go_wp2_with fail
 go_loopg [5] s.size (fun gk x wr => ∃ p : Nat, x = .int .i64 (p : Int) ∧ p + gk = s.size ∧ Hid (wordEnd s p = wordEnd s 0) ∧ wr = w)
 case atStart => exact ⟨0, rfl, by omega, rfl, rfl⟩
 case round =>
  obtain ⟨p, rfl, hp, HE, rfl⟩ := hrel
  by_cases hps : p < s.size
  ·have H1 := Lib.hid (fun w => lexer_isWord (s[p].toNat : Int) w)
   have hW : wordEnd s p = if isWord (byteAt s p) then wordEnd s (p + 1) else p := by rw [wordEnd, dif_pos hps]
   rw [← byteAt_eq hps] at hW
   have HW := Lib.hid hW
   clear hW
   cases hb : isWord (s[p].toNat : Int) with
   | true =>
    have HE' : Hid (wordEnd s (p + 1) = wordEnd s 0) := by have := HW.out; rw [hb] at this; simp at this; exact this.symm.trans HE.out
    rw [hb] at H1
    clear hb HW
    go_wp2_with fail
    refine (H1.out _).mono ?_
    rintro e w1 ⟨rfl, rfl⟩
    go_wp2_with fail
    go_roundg (gk - 1)
    case measure => omega
    case rel => exact ⟨p + 1, by simp, by omega, HE', rfl⟩
   | false =>
    have HE' : Hid (p = wordEnd s 0) := by have := HW.out; rw [hb] at this; simp at this; exact this.symm.trans HE.out
    rw [hb] at H1
    clear hb HW
    go_wp2_with fail
    refine (H1.out _).mono ?_
    rintro e w1 ⟨rfl, rfl⟩
    go_wp2_with fail
    go_ret
    exact ⟨by rw [← HE'.out]; rfl, rfl⟩
  ·have HE' : Hid (p = wordEnd s 0) := by have := HE.out; rw [wordEnd, dif_neg hps] at this; exact this
   go_wp2_with fail
   go_ret
   exact ⟨by rw [← HE'.out]; rfl, rfl⟩
set_option maxHeartbeats 800000 in
theorem lexer_IsName (s : ByteArray) (w : World) (hsz : s.size ≤ 1000000) : Calls Tryz.prog 234 #[.string s] w fun e w' => e = .returned (.bool (isName s)) ∧ w = w' := by
 by_cases h0 : s.size = 0
 ·have HE : Hid (isName s = false) := by show _ = _; simp [isName, h0]
  have hse : s.toList.isEmpty = true := by rw [bytes_empty]; simpa using h0
  go_enter Tryz.func234, Tryz.ntmps234
  go_wp2_with fail
  go_ret
  exact ⟨by rw [HE.out]; rfl, rfl⟩
 ·have hse : s.toList.isEmpty = false := by rw [bytes_empty]; simpa using h0
  by_cases h1 : s.size ≤ 24
  ·have h0' : 0 < s.size := by omega
   have HL := Lib.hid (fun w => lexer_isLetter (s[0].toNat : Int) w)
   have HS := Lib.hid (lexer_span (w := w) hsz)
   have HN : Hid (isName s = (isLetter (s[0].toNat : Int) && decide ((wordEnd s 0 : Int) = (s.size : Int)))) := by
    show _ = _
    rw [byteAt_eq h0']
    simp only [isName, ne_eq, h0, not_false_eq_true, decide_true, Bool.true_and, h1]
    congr 1
    apply Bool.eq_iff_iff.2
    simp
    omega
   generalize isLetter (s[0].toNat : Int) = bl at *
   generalize wordEnd s 0 = z at *
   have h1' : (s.size : Int) ≤ 24 := by omega
   cases bl with
   | false =>
    go_enter Tryz.func234, Tryz.ntmps234
    go_wp2_with fail
    refine (HL.out _).mono ?_
    rintro e w1 ⟨rfl, rfl⟩
    go_wp2_with fail
    go_ret
    exact ⟨by rw [HN.out]; rfl, rfl⟩
   | true =>
    go_enter Tryz.func234, Tryz.ntmps234
    go_wp2_with fail
    refine (HL.out _).mono ?_
    rintro e w1 ⟨rfl, rfl⟩
    go_wp2_with fail
    refine HS.out.mono ?_
    rintro e w1 ⟨rfl, rfl⟩
    go_wp2_with fail
    go_ret
    exact ⟨by rw [HN.out]; simp [BEq.beq], rfl⟩
  ·have HE : Hid (isName s = false) := by show _ = _; simp [isName, h1]
   have h1' : ¬ ((s.size : Int) ≤ 24) := by omega
   go_enter Tryz.func234, Tryz.ntmps234
   go_wp2_with fail
   go_ret
   exact ⟨by rw [HE.out]; rfl, rfl⟩
end Go.Proofs.YtmddjbmelajadaaGreatDoor
namespace Go.Proofs.YtmddjbmelajadaaGreatDoor
open Go Go.RowKit
set_option maxRecDepth 100000 in
set_option maxHeartbeats 1600000 in
theorem formula_Depth : ∀ (k : Nat) {e : EI} {cs : List Value} {w : World} (_ : ExprR k w cs e) (_ : smallE k e) (_ : k ≤ 100000),
  Calls Tryz.prog 188 #[.agg cs.toArray] w fun x w' => x = .returned (.int .i64 (depthE k e : Nat)) ∧ Ext w w'
 | 0, _, _, _, h, _, _ => h.elim
 | k + 1, e, cs, w, h, hs, hk => by
  obtain ⟨u, v, sl, rfl, hu, hv, hsl⟩ := h
  obtain ⟨s1, s2, s3, hm, s4⟩ := hs
  obtain ⟨A, c, rfl, hl, hm0, hel⟩ := hsl
  clear hm0
  have HF : Hid (depthE (k + 1) e = e.args.foldl (fun n a => max n (depthE k a)) 0 + 1) := rfl
  have HEL := Lib.hid hel
  have HS4 := Lib.hid s4
  obtain ⟨A1, c1, rfl, hc1, hc1'⟩ := hu.form
  obtain ⟨A2, c2, rfl, hc2, hc2'⟩ := hv.form
  clear hu hv hel s1 s2 s3 s4
  have HBX := Lib.hid (CellsAt.new w [.int .i64 e.op, .bool e.value.num.neg, .slice A1 e.value.num.mag.length c1, .bool e.value.den.neg, .slice A2 e.value.den.mag.length c2, .string e.name, .slice A e.args.length c] 67)
  generalize e.value.num.mag.length = l1 at *
  generalize e.value.den.mag.length = l2 at *
  generalize e.value.num.neg = b1 at *
  generalize e.value.den.neg = b2 at *
  generalize e.op = op at *
  generalize e.name = nm at *
  go_enter Tryz.func188, Tryz.ntmps188
  go_wp2_with fail
  go_loopg [3, 5, 9] e.args.length (fun gk y _ x wr => ∃ i n : Nat, x = .int .i64 (i : Int) ∧ y = .int .i64 (n : Int) ∧ n ≤ k ∧ i + gk = e.args.length ∧ Hid ((e.args.drop i).foldl (fun n a => max n (depthE k a)) n = e.args.foldl (fun n a => max n (depthE k a)) 0) ∧ Hid (Ext (w.alloc (.cells #[.int .i64 op, .bool b1, .slice A1 l1 c1, .bool b2, .slice A2 l2 c2, .string nm, .slice A e.args.length c] 67)) wr))
  case atStart => exact ⟨0, 0, rfl, rfl, Nat.zero_le _, by omega, rfl, Ext.refl _⟩
  case round =>
   obtain ⟨i, n, rfl, rfl, hn, hi, HA, HE⟩ := hrel
   obtain ⟨y0, y1, y2, y3, y4, y5, y6⟩ := (HBX.out.ext HE.out).seven
   have hEr : Ext w wr := Ext.trans (Ext.alloc _ _) HE.out
   by_cases hlt : i < e.args.length
   ·obtain ⟨b, off, rfl, hb, hel⟩ := HEL.out (by intro e0; rw [e0] at hlt; simp at hlt)
    have hx0 : e.args[i]? = some e.args[i] := List.getElem?_eq_getElem hlt
    obtain ⟨ds, hds, hcell, hR⟩ := hel i _ hx0
    have hsm := HS4.out e.args[i] (List.getElem_mem hlt)
    obtain ⟨xop, xb1, XA, xn1, xc1, xb2, XB, xn2, xc2, xnm, XC, xn, xc, rfl⟩ := ExprR.shape hR
    clear hds
    have q0 : wr.cell? ⟨b, off + i * 7, none⟩ = some (.int .i64 xop) := (hEr.cell (p := ⟨b, off + (i * 7 + 0), none⟩) hb).trans (hcell 0 _ rfl)
    have q1 : wr.cell? ⟨b, off + i * 7 + 1, none⟩ = some (.bool xb1) := (hEr.cell (p := ⟨b, off + (i * 7 + 1), none⟩) hb).trans (hcell 1 _ rfl)
    have q2 : wr.cell? ⟨b, off + i * 7 + 2, none⟩ = some (.slice XA xn1 xc1) := (hEr.cell (p := ⟨b, off + (i * 7 + 2), none⟩) hb).trans (hcell 2 _ rfl)
    have q3 : wr.cell? ⟨b, off + i * 7 + 3, none⟩ = some (.bool xb2) := (hEr.cell (p := ⟨b, off + (i * 7 + 3), none⟩) hb).trans (hcell 3 _ rfl)
    have q4 : wr.cell? ⟨b, off + i * 7 + 4, none⟩ = some (.slice XB xn2 xc2) := (hEr.cell (p := ⟨b, off + (i * 7 + 4), none⟩) hb).trans (hcell 4 _ rfl)
    have q5 : wr.cell? ⟨b, off + i * 7 + 5, none⟩ = some (.string xnm) := (hEr.cell (p := ⟨b, off + (i * 7 + 5), none⟩) hb).trans (hcell 5 _ rfl)
    have q6 : wr.cell? ⟨b, off + i * 7 + 6, none⟩ = some (.slice XC xn xc) := (hEr.cell (p := ⟨b, off + (i * 7 + 6), none⟩) hb).trans (hcell 6 _ rfl)
    have HC := Lib.hid (fun w1 (hx : Ext w w1) => formula_Depth k (ExprR.stable k _ _ _ _ hx hR) hsm (by omega))
    have hdl := depthE_le k e.args[i]
    have HDR : Hid ((e.args.drop i).foldl (fun n a => max n (depthE k a)) n = (e.args.drop (i + 1)).foldl (fun n a => max n (depthE k a)) (max n (depthE k e.args[i]))) := by show _ = _; rw [List.drop_eq_getElem_cons hlt, List.foldl_cons]
    clear hel hcell hR
    generalize depthE k e.args[i] = fk at *
    go_wp2_with fail
    have hz3 : b < wr.heap.size := Nat.lt_of_lt_of_le hb hEr.size
    refine (HC.out _ (by repeat first|exact xA _|assumption|refine xB ?_ _|refine xC ?_|refine xD ?_ _|refine xE ?_ (by simp <;> omega) _|refine xF ?_ (by assumption))).mono ?_
    rintro x w2 ⟨rfl, hx2⟩
    by_cases hle : n < fk
    rotate_left
    ·rw [Nat.max_eq_left (by omega)] at HDR
     go_wp2_with fail
     go_roundg (gk - 1)
     case measure => omega
     case rel => exact ⟨i + 1, n, by simp, by simp; try omega, hn, by omega, (HDR.out.symm.trans HA.out), (by repeat first|exact xA _|assumption|refine xB ?_ _|refine xC ?_|refine xD ?_ _|refine xE ?_ (by simp <;> omega) _|refine xF ?_ (by assumption))⟩
    ·rw [Nat.max_eq_right (by omega)] at HDR
     go_wp2_with fail
     go_roundg (gk - 1)
     case measure => omega
     case rel => exact ⟨i + 1, fk, by simp, by simp; try omega, hdl, by omega, (HDR.out.symm.trans HA.out), (by repeat first|exact xA _|assumption|refine xB ?_ _|refine xC ?_|refine xD ?_ _|refine xE ?_ (by simp <;> omega) _|refine xF ?_ (by assumption))⟩
   ·have HT : Hid (n + 1 = depthE (k + 1) e) := by show _ = _; rw [HF.out, ← HA.out, List.drop_eq_nil_of_le (by omega)]; rfl
    go_wp2_with fail
    refine bodyPost_ret (v := .int .i64 ((n + 1 : Nat) : Int)) ?_ rfl ⟨?_, hEr⟩
    ·simp [results, Tryz.results188, go_sem]
    ·rw [HT.out]
end Go.Proofs.YtmddjbmelajadaaGreatDoor
namespace Go.Proofs.YtmddjbmelajadaaGreatDoor
open Go Go.RowKit
set_option maxHeartbeats 1600000 in
theorem idx_Expr (K : Nat) (g : Nat) (lb : Array Value) (eg : ∀ args w, (callFunc g args).run Tryz.prog w = .ok (.enter g args) w) {p : EI → Bool} {A : Option Addr} {n c : Nat} {xs : List EI} {w : World} (h : ArrAt 7 (ExprR K) w (.slice A n c) xs) (hp : PredX 7 g lb aggV (ExprR K) p xs w) :
  Calls Tryz.prog 186 #[.slice A n c, .func (.func g) #[] lb] w (IdxRes (xs.any p) w) := by
 obtain ⟨rfl, hl, hm⟩ := h.len
 have HA := Lib.hid h
 have HP := Lib.hid hp
 clear h hp
 go_enter Tryz.func186, Tryz.ntmps186
 go_wp2_with fail
 go_loopg [8] xs.length (fun gk x wr => ∃ i : Nat, x = .int .i64 (i : Int) ∧ i + gk = xs.length ∧ Hid ((xs.drop i).any p = xs.any p) ∧ Hid (Ext w wr))
 case atStart => exact ⟨0, rfl, by omega, rfl, Ext.refl _⟩
 case round =>
  obtain ⟨i, rfl, hi, HD, HE⟩ := hrel
  by_cases hlt : i < xs.length
  ·obtain ⟨b, off, rfl, hb, ds, hds, hcell, hR⟩ := HA.out.at_ hlt
   have HC := Lib.hid (HP.out wr ds xs[i] (List.getElem_mem hlt) HE.out hds ((ExprR.stable K) _ _ _ _ HE.out hR))
   have HD2 : Hid ((xs.drop i).any p = (p xs[i] || (xs.drop (i + 1)).any p)) := by show _ = _; rw [List.drop_eq_getElem_cons hlt, List.any_cons]
   have HQ := Lib.hid (fun j u (hj : ds[j]? = some u) => (HE.out.cell (p := ⟨b, off + (i * 7 + j), none⟩) hb).trans (hcell j u hj))
   clear hcell hR
   match ds, hds with
   | [d0, d1, d2, d3, d4, d5, d6], _ =>
    have q0 := HQ.out 0 _ rfl
    have q1 := HQ.out 1 _ rfl
    have q2 := HQ.out 2 _ rfl
    have q3 := HQ.out 3 _ rfl
    have q4 := HQ.out 4 _ rfl
    have q5 := HQ.out 5 _ rfl
    have q6 := HQ.out 6 _ rfl
    simp only [← Nat.add_assoc, Nat.add_zero] at q0 q1 q2 q3 q4 q5 q6
    clear HQ
    generalize p xs[i] = px at *
    cases px with
    | true =>
     have HT : Hid (xs.any p = true) := by show _ = _; rw [← HD.out, HD2.out]; rfl
     go_wp2_with (go_at_fn g; refine HC.out.mono ?_; rintro e w2 ⟨rfl, hx2⟩)
     go_ret
     exact ⟨(i : Int), rfl, by rw [HT.out]; simp, HE.out.trans hx2⟩
    | false =>
     have HT : Hid ((xs.drop (i + 1)).any p = xs.any p) := by show _ = _; rw [← HD.out, HD2.out]; rfl
     go_wp2_with (go_at_fn g; refine HC.out.mono ?_; rintro e w2 ⟨rfl, hx2⟩)
     go_roundg (xs.length - (i + 1))
     case measure => omega
     case rel => exact ⟨i + 1, by simp, by omega, HT, HE.out.trans hx2⟩
  ·have HT : Hid (xs.any p = false) := by show _ = _; rw [← HD.out, List.drop_eq_nil_of_le (by omega)]; rfl
   go_wp2_with fail
   go_ret
   exact ⟨-1, rfl, by rw [HT.out]; rfl, HE.out⟩
set_option maxHeartbeats 800000 in
theorem con_Expr (K : Nat) (g : Nat) (lb : Array Value) (eg : ∀ args w, (callFunc g args).run Tryz.prog w = .ok (.enter g args) w) {p : EI → Bool} {A : Option Addr} {n c : Nat} {xs : List EI} {w : World} (h : ArrAt 7 (ExprR K) w (.slice A n c) xs) (hp : PredX 7 g lb aggV (ExprR K) p xs w) :
  Calls Tryz.prog 138 #[.slice A n c, .func (.func g) #[] lb] w fun e w' => e = .returned (.bool (xs.any p)) ∧ Ext w w' := by
 have HI := Lib.hid (idx_Expr K g lb eg h hp)
 clear h hp
 generalize xs.any p = bb at *
 go_enter Tryz.func138, Tryz.ntmps138
 go_wp2_with fail
 refine HI.out.mono ?_
 rintro e w1 ⟨r, rfl, hr, hx1⟩
 have HR := Lib.hid hr
 clear hr
 go_wp2_with fail
 go_ret
 exact ⟨by rw [← HR.out]; rfl, hx1⟩
end Go.Proofs.YtmddjbmelajadaaGreatDoor
namespace Go.Proofs.YtmddjbmelajadaaGreatDoor
open Go Go.RowKit
end Go.Proofs.YtmddjbmelajadaaGreatDoor
namespace Go.Proofs.YtmddjbmelajadaaGreatDoor
open Go Go.RowKit
/-- The cells of a shape: the last two are the kinds of its values, which no one asks for here. -/
def KR.shape (r : KR) (b1 b2 : Bool) : List Value := [.int .i64 r.p, .int .i64 r.c, .int .i64 r.n, .int .i64 r.q, .bool r.side, .bool b1, .bool b2]
/-- The table of the shapes, as it lies in block 0. -/
def GLk (w : World) : Prop := 2 < w.heap.size ∧ ∀ k r, kTab[k]? = some r → ∃ b1 b2 : Bool, ∀ j u, (r.shape b1 b2)[j]? = some u → w.cell? ⟨0, (k + 1) * 8 + 1 + j, none⟩ = some u
theorem GLk.ext {w w' : World} (h : GLk w) (hx : Ext w w') : GLk w' := by
 refine ⟨Nat.lt_of_lt_of_le h.1 hx.size, fun k r hr => ?_⟩
 obtain ⟨b1, b2, hc⟩ := h.2 k r hr
 exact ⟨b1, b2, fun j u hj => (hx.cell (p := ⟨0, (k + 1) * 8 + 1 + j, none⟩) (by have := h.1; show 0 < w.heap.size; omega)).trans (hc j u hj)⟩
end Go.Proofs.YtmddjbmelajadaaGreatDoor
namespace Go.Proofs.YtmddjbmelajadaaGreatDoor
open Go Go.RowKit
set_option maxHeartbeats 1600000 in
theorem formula_none {b1 b2 : Bool} {l1 l2 c1 c2 : Nat} {A1 A2 : Option Addr} (w : World) :
  Calls Tryz.prog 235 #[.agg #[.bool b1, .slice A1 l1 c1, .bool b2, .slice A2 l2 c2]] w fun e w' => e = .returned (.bool (!b1 && !b2 && decide (l1 = 0) && decide (l2 = 0))) ∧ Ext w w' := by
 have k1 : ((l1 : Int) == 0) = decide (l1 = 0) := by apply Bool.eq_iff_iff.2; simp
 have k2 : ((l2 : Int) == 0) = decide (l2 = 0) := by apply Bool.eq_iff_iff.2; simp
 generalize decide (l1 = 0) = z1 at *
 generalize decide (l2 = 0) = z2 at *
 cases b1
 all_goals cases b2
 all_goals cases z1
 all_goals cases z2
 all_goals go_enter Tryz.func235, Tryz.ntmps235
 all_goals go_wp2_with fail
 all_goals go_ret
 all_goals exact ⟨rfl, (by repeat first|exact xA _|assumption|refine xB ?_ _|refine xC ?_|refine xD ?_ _|refine xE ?_ (by simp <;> omega) _|refine xF ?_ (by assumption))⟩
end Go.Proofs.YtmddjbmelajadaaGreatDoor
namespace Go.Proofs.YtmddjbmelajadaaGreatDoor
open Go Go.RowKit Go.Shelf Go.Sort
/-- The table of the powers of ten, as the library's digits read it. -/
def GLp (w : World) : Prop := Lib.TabIs Tryz.prog w "internal/strconv.uint64pow10" .u64 Lib.pow10Tab
theorem GLp.ext {w w' : World} (h : GLp w) (hx : Ext w w') : GLp w' := Lib.tabBelow_of_tabIs h w' hx
set_option maxHeartbeats 6400000 in
set_option maxRecDepth 100000 in
theorem istr_FormatUint (u : Nat) (hu : u < 4294967296) (w : World) (hg : GLp w) :
  Calls Tryz.prog 365 #[.int .u64 (u : Int), .int .i64 10] w fun e w' => (∃ s, e = .returned (.string s) ∧ s.size = Lib.nDigits u) ∧ Ext w w' := by
 by_cases hs : u < 100
 ·have HSM := Lib.hid (fun w1 => Any.internal_strconv_small Tryz.lays283 u hs w1)
  go_enter Tryz.func365, Tryz.ntmps365
  go_wp2_with fail
  refine (HSM.out _).mono ?_
  rintro e w1 ⟨rfl, rfl⟩
  go_wp2_with fail
  go_ret
  refine ⟨⟨_, rfl, ?_⟩, Ext.refl _⟩
  show (Lib.decDigits u).toArray.size = _
  rw [List.size_toArray, Lib.decDigits_length]
 ·have hu1 : 1 ≤ u := by omega
  have hu64 : u < 18446744073709551616 := by omega
  have hnd20 : Lib.nDigits u ≤ 20 := by have := Lib.numDigits_eq u hu1 hu64; split at this <;> omega
  have hal : (Tryz.prog).arrayLen 382 = 24 := by kernel_rfl
  have hel : (Tryz.prog).elem 382 = 5 := by kernel_rfl
  have hsl1 : ∀ W, (Instr.sliceAt 382 (.pointer (some ⟨w.heap.size, 0, none⟩)) none (some (.int .i64 (Lib.nDigits u : Int))) none).run Tryz.prog W = .ok (.slice (some ⟨w.heap.size, 0, none⟩) (Lib.nDigits u) 24) W := fun W => by
   rw [run_sliceAt_array_h W 382 ⟨w.heap.size, 0, none⟩ (by rw [hal, hel]; exact Tryz.underlying382) .i64 (Lib.nDigits u : Int) (by omega) (by rw [hal]; omega), hel, hal]
   go_simp
  have hH0 := Lib.holds_zero0 w 382 (Lib.nDigits u) (by omega)
  have hfmt := Any.internal_strconv_formatBase10 Tryz.lays285 w.heap.size 0 24 u (Array.replicate (Lib.nDigits u) 0) (w.alloc (.cells Lib.zeros24 382)) hH0 (by rw [Array.size_replicate]; exact Lib.lt_pow_nDigits u) hu64 (by rw [Array.size_replicate]; omega)
  rw [Array.size_replicate] at hfmt
  have hnum := fun w1 (hx : Ext w w1) => Any.internal_strconv_numDigits Tryz.laysM284 u hu1 hu64 w1 (hg.ext hx)
  have HNUM := Lib.hid hnum
  have HFMT := Lib.hid hfmt
  have HH0 := Lib.hid hH0
  have HND := Lib.hid (Lib.decDigits_length u)
  clear hH0 hal hel hfmt hnum
  go_enter Tryz.func365, Tryz.ntmps365
  go_wp2_with fail
  refine (HNUM.out _ (Ext.alloc _ _)).mono ?_
  rintro e w1 ⟨rfl, rfl⟩
  go_wp2_with fail
  refine HFMT.out.mono ?_
  rintro e w1 ⟨rfl, k, v', dk, rfl, hF⟩
  have hcv : (convert 340 9 (.slice (some ⟨w.heap.size, 0, none⟩) (Lib.nDigits u) 24)).run Tryz.prog ((putRow (fun (b : UInt8) => Value.int .u8 (b.toNat : Int)) (w.alloc (.cells Lib.zeros24 382)) w.heap.size 0 dk).drewN k) = .ok (.string ⟨(Lib.decDigits u).toArray⟩) ((putRow (fun (b : UInt8) => Value.int .u8 (b.toNat : Int)) (w.alloc (.cells Lib.zeros24 382)) w.heap.size 0 dk).drewN k) := by
   have h := run_convert_bytes_back (P := Tryz.prog) ((putRow (fun (b : UInt8) => Value.int .u8 (b.toNat : Int)) (w.alloc (.cells Lib.zeros24 382)) w.heap.size 0 dk).drewN k) 340 9 5 ⟨w.heap.size, 0, none⟩ 24 (Lib.decDigits u) Tryz.underlying340 Tryz.underlying5 Tryz.underlying9 (fun j hj => by
    rw [Lib.row_is_numeral hF j hj, Lib.add_plain, World.cell?_drewN]
    exact cell?_putRow (fun (b : UInt8) => Value.int .u8 (b.toNat : Int)) _ w.heap.size 0 _ dk HH0.out (by rw [hF.size, Array.size_replicate]) j (by rw [hF.size]; rw [Lib.decDigits_length] at hj; exact hj))
   rw [Lib.decDigits_length] at h
   exact h
  have HFIN : Hid (Ext w ((putRow (fun (b : UInt8) => Value.int .u8 (b.toNat : Int)) (w.alloc (.cells Lib.zeros24 382)) w.heap.size 0 dk).drewN k)) := by
   obtain ⟨os, eo⟩ := Lib.fin_at w (.cells Lib.zeros24 382) dk k 0
   rw [eo]
   exact Lib.below_grow _ _ (Nat.le_refl _) _ _
  generalize (putRow (fun (b : UInt8) => Value.int .u8 (b.toNat : Int)) (w.alloc (.cells Lib.zeros24 382)) w.heap.size 0 dk).drewN k = W1 at *
  go_wp2_with fail
  go_ret
  exact ⟨⟨_, rfl, HND.out⟩, HFIN.out⟩
set_option maxRecDepth 100000 in
theorem str_FormatUint (u : Nat) (hu : u < 4294967296) (w : World) (hg : GLp w) :
  Calls Tryz.prog 331 #[.int .u64 (u : Int), .int .i64 10] w fun e w' => (∃ s, e = .returned (.string s) ∧ s.size = Lib.nDigits u) ∧ Ext w w' := by
 have H := Lib.hid (istr_FormatUint u hu w hg)
 go_enter Tryz.func331, Tryz.ntmps331
 go_wp2_with fail
 refine H.out.mono ?_
 rintro e w1 ⟨⟨s, rfl, hs⟩, hx⟩
 go_wp2_with fail
 go_ret
 exact ⟨⟨s, rfl, hs⟩, hx⟩
theorem zeros_Repeat (k : Nat) (hk : k ≤ 1000) (w : World) :
  Calls Tryz.prog 278 #[.string ⟨#[48]⟩, .int .i64 (k : Int)] w fun e w' => (∃ s, e = .returned (.string s) ∧ s.size = k) ∧ Ext w w' := by
 match k, hk with
 | 0, _ =>
  refine (Any.strings_Repeat_zero Tryz.lays105 _ w).mono ?_
  rintro e w1 ⟨rfl, rfl⟩
  exact ⟨⟨_, rfl, rfl⟩, Ext.refl _⟩
 | 1, _ =>
  refine (Any.strings_Repeat_one Tryz.lays105 _ w).mono ?_
  rintro e w1 ⟨rfl, rfl⟩
  exact ⟨⟨_, rfl, rfl⟩, Ext.refl _⟩
 | k + 2, hk =>
  refine (Any.strings_Repeat_main Tryz.lays105 Tryz.Builder_Extra_105 ⟨#[48]⟩ (k + 2) w (by omega) (by omega) (by show 1 * (k + 2) ≤ _; omega) (by decide)).mono ?_
  rintro e w1 ⟨rfl, hx⟩
  refine ⟨⟨_, rfl, ?_⟩, hx⟩
  show (Lib.repeatL [48] (k + 2)).toArray.size = _
  rw [List.size_toArray, Lib.repeatL_length]
  simp
end Go.Proofs.YtmddjbmelajadaaGreatDoor
namespace Go.Proofs.YtmddjbmelajadaaGreatDoor
open Go Go.RowKit
/-- How many operands an operation has. -/
def nArgs (j : Nat) : Int := if j = 3 then 1 else if 4 ≤ j then 2 else 0
/-- The table of the operands, as it lies in block 1; and the powers of ten. -/
def GLo (w : World) : Prop := (1 < w.heap.size ∧ ∀ j, j ≤ 7 → w.cell? ⟨1, j, none⟩ = some (.int .i64 (nArgs j))) ∧ GLp w
theorem GLo.ext {w w' : World} (h : GLo w) (hx : Ext w w') : GLo w' :=
 ⟨⟨Nat.lt_of_lt_of_le h.1.1 hx.size, fun j hj => (hx.cell (p := ⟨1, j, none⟩) h.1.1).trans (h.1.2 j hj)⟩, h.2.ext hx⟩
def DecRes (b : Bool) (w : World) (e : Ending) (w' : World) : Prop := ∃ s : ByteArray, e = .returned (.tuple #[.string s, .bool b]) ∧ Ext w w'
/-- What is asked of decimal. -/
def DecC : Prop := ∀ (q : QI) (u v : Value) (w : World), GLp w → Words w u q.num.mag → Words w v q.den.mag → q.num.mag.length ≤ 1000 → q.den.mag.length ≤ 1000 →
 Calls Tryz.prog 233 #[.agg #[.bool q.num.neg, u, .bool q.den.neg, v]] w (DecRes q.dec w)
theorem formed1 {k : Nat} {xs : List EI} {w : World} (ih : ∀ (e : EI) (cs : List Value) (w1 : World), e ∈ xs → Ext w w1 → ExprR k w1 cs e → Calls Tryz.prog 187 #[.agg cs.toArray] w1 fun x w' => x = .returned (.bool (formed k e)) ∧ Ext w1 w') :
  PredX 7 236 #[] aggV (ExprR k) (fun e => !formed k e) xs w := by
 intro W cs x hm hW hl hR
 have HC := Lib.hid (fun w1 (hx : Ext W w1) => ih x cs w1 hm (Ext.trans hW hx) (ExprR.stable k _ _ _ _ hx hR))
 obtain ⟨xop, xb1, XA, xn1, xc1, xb2, XB, xn2, xc2, xnm, XC, xn, xc, rfl⟩ := ExprR.shape hR
 clear hR hl hm hW ih
 show Calls Tryz.prog 236 #[.agg #[.int .i64 xop, .bool xb1, .slice XA xn1 xc1, .bool xb2, .slice XB xn2 xc2, .string xnm, .slice XC xn xc]] W fun e w' => e = .returned (.bool (!formed k x)) ∧ Ext W w'
 generalize formed k x = fk at *
 go_enter Tryz.func236, Tryz.ntmps236
 go_wp2_with fail
 refine (HC.out _ (by repeat first|exact xA _|assumption|refine xB ?_ _|refine xC ?_|refine xD ?_ _|refine xE ?_ (by simp <;> omega) _|refine xF ?_ (by assumption))).mono ?_
 rintro e w1 ⟨rfl, hx1⟩
 go_wp2_with fail
 go_ret
 exact ⟨rfl, (by repeat first|exact xA _|assumption|refine xB ?_ _|refine xC ?_|refine xD ?_ _|refine xE ?_ (by simp <;> omega) _|refine xF ?_ (by assumption))⟩
/-- One call of formed, out of what it calls. -/
def FmC (dec fa : Bool) (op : Int) (nm : ByteArray) (b1 b2 : Bool) (l1 l2 n : Nat) : Bool :=
 if op = 1 then dec && (decide (nm.size = 0) || isName nm) && decide (n = 0)
 else if op = 2 then (!b1 && !b2 && decide (l1 = 0) && decide (l2 = 0)) && isName nm && decide (n = 0)
 else if op = 3 then (!b1 && !b2 && decide (l1 = 0) && decide (l2 = 0)) && decide (nm.size = 0) && decide (n = 1) && fa
 else if op = 4 ∨ op = 5 ∨ op = 6 ∨ op = 7 then (!b1 && !b2 && decide (l1 = 0) && decide (l2 = 0)) && decide (nm.size = 0) && decide (n = 2) && fa
 else false
set_option maxRecDepth 100000 in
set_option maxHeartbeats 3200000 in
theorem formed_step {dec fa : Bool} {op : Int} {nm : ByteArray} {b1 b2 : Bool} {A1 A2 A : Option Addr} {l1 l2 c1 c2 n c : Nat} {w : World} (hg : GLo w) (hs : nm.size ≤ 1000000) (hn : n ≤ 1000)
  (hD : ∀ w1, Ext w w1 → Calls Tryz.prog 233 #[.agg #[.bool b1, .slice A1 l1 c1, .bool b2, .slice A2 l2 c2]] w1 (DecRes dec w1))
  (hC : ∀ w1, Ext w w1 → Calls Tryz.prog 138 #[.slice A n c, .func (.func 236) #[] #[]] w1 fun e w' => e = .returned (.bool (!fa)) ∧ Ext w1 w') :
  Calls Tryz.prog 187 #[.agg #[.int .i64 op, .bool b1, .slice A1 l1 c1, .bool b2, .slice A2 l2 c2, .string nm, .slice A n c]] w fun x w' => x = .returned (.bool (FmC dec fa op nm b1 b2 l1 l2 n)) ∧ Ext w w' := by
 have HD := Lib.hid hD
 have HC := Lib.hid hC
 have HN := Lib.hid (fun w => lexer_IsName nm w hs)
 have HZ := Lib.hid (fun w => @formula_none b1 b2 l1 l2 c1 c2 A1 A2 w)
 have HF : Hid (FmC dec fa op nm b1 b2 l1 l2 n = if op = 1 then dec && (decide (nm.size = 0) || isName nm) && decide (n = 0)
  else if op = 2 then (!b1 && !b2 && decide (l1 = 0) && decide (l2 = 0)) && isName nm && decide (n = 0)
  else if op = 3 then (!b1 && !b2 && decide (l1 = 0) && decide (l2 = 0)) && decide (nm.size = 0) && decide (n = 1) && fa
  else if op = 4 ∨ op = 5 ∨ op = 6 ∨ op = 7 then (!b1 && !b2 && decide (l1 = 0) && decide (l2 = 0)) && decide (nm.size = 0) && decide (n = 2) && fa
  else false) := rfl
 have hze := bytes_empty nm
 generalize isName nm = inm at *
 generalize (!b1 && !b2 && decide (l1 = 0) && decide (l2 = 0)) = zq at *
 have hbn : nm.toList.isEmpty = decide (nm.size = 0) := by rw [hze]; try rfl
 clear hze
 generalize decide (nm.size = 0) = ze at *
 generalize FmC dec fa op nm b1 b2 l1 l2 n = res at *
 have hbox := CellsAt.new w [.int .i64 op, .bool b1, .slice A1 l1 c1, .bool b2, .slice A2 l2 c2, .string nm, .slice A n c] 67
 obtain ⟨w1, hw1⟩ : ∃ w1, w.alloc (.cells #[.int .i64 op, .bool b1, .slice A1 l1 c1, .bool b2, .slice A2 l2 c2, .string nm, .slice A n c] 67) = w1 := ⟨_, rfl⟩
 have HB1 : Hid (CellsAt w1 w.heap.size [.int .i64 op, .bool b1, .slice A1 l1 c1, .bool b2, .slice A2 l2 c2, .string nm, .slice A n c]) := by rw [← hw1]; exact hbox
 have hE1 : Ext w w1 := by rw [← hw1]; exact Ext.alloc _ _
 have HW1 := Lib.hid hw1
 have HG := Lib.hid (hg.ext hE1)
 have HGs : 1 < w1.heap.size := HG.out.1.1
 clear hw1 hbox hD hC hg hs
 obtain ⟨y0, y1, y2, y3, y4, y5, y6⟩ := HB1.out.seven
 have hbs := HB1.out.1
 go_enter Tryz.func187, Tryz.ntmps187
 go_upto_region 1 with fail
 rw [HW1.out]
 by_cases hlo : op < 1
 ·have HT : Hid (res = false) := by show _ = _; rw [HF.out, if_neg (by omega), if_neg (by omega), if_neg (by omega), if_neg (by omega)]
  have hlo' : decide (op < 1) = true := by simpa using hlo
  clear hlo HF
  go_quiet (fail)
  go_wp2_with fail
  go_ret
  exact ⟨by rw [HT.out]; rfl, Ext.pdrewN hE1 _⟩
 by_cases hhi : 7 < op
 ·have HT : Hid (res = false) := by show _ = _; rw [HF.out, if_neg (by omega), if_neg (by omega), if_neg (by omega), if_neg (by omega)]
  have hlo' : decide (op < 1) = false := by simpa using hlo
  have hhi' : decide (7 < op) = true := by simpa using hhi
  clear hlo hhi HF
  go_quiet (fail)
  go_wp2_with fail
  go_ret
  exact ⟨by rw [HT.out]; rfl, Ext.pdrewN hE1 _⟩
 have hop : op = 1 ∨ op = 2 ∨ op = 3 ∨ op = 4 ∨ op = 5 ∨ op = 6 ∨ op = 7 := by omega
 clear hlo hhi
 rcases hop with rfl | rfl | rfl | rfl | rfl | rfl | rfl
 ·have qn : w1.cell? ⟨1, 1, none⟩ = some (.int .i64 0) := HG.out.1.2 1 (by omega)
  by_cases hnn : n = 0
  rotate_left
  ·have hnb : ((n : Int) != 0) = true := by rw [bne_iff_ne]; omega
   have HT : Hid (res = false) := by show _ = _; rw [HF.out]; simp [hnn]
   clear HF hnn
   go_quiet (fail)
   go_wp2_with fail
   go_ret
   exact ⟨by rw [HT.out]; rfl, Ext.pdrewN hE1 _⟩
  subst hnn
  go_quiet (fail)
  obtain ⟨w2, hw2⟩ : ∃ w2, w1.drewN nq = w2 := ⟨_, rfl⟩
  rw [hw2]
  have hx2 : Ext w1 w2 := by rw [← hw2]; exact Ext.drewN _ _
  have hE2 : Ext w w2 := Ext.trans hE1 hx2
  have HB2 := Lib.hid (HB1.out.ext hx2)
  clear hw2 y0 y1 y2 y3 y4 y5 y6 hbs qn HGs
  obtain ⟨y0, y1, y2, y3, y4, y5, y6⟩ := HB2.out.seven
  have hbs := HB2.out.1
  have HT : Hid (res = (dec && (ze || inm))) := by show _ = _; rw [HF.out]; simp
  clear HF
  go_wp2_with fail
  refine (HD.out _ hE2).mono ?_
  rintro e w3 ⟨sd, rfl, hx3⟩
  have hE3 := Ext.trans hE2 hx3
  cases dec with
  | false =>
   go_wp2_with fail
   go_ret
   exact ⟨by rw [HT.out]; rfl, hE3⟩
  | true =>
   have HB3 := Lib.hid (HB2.out.ext hx3)
   clear y0 y1 y2 y3 y4 y5 y6 hbs
   obtain ⟨y0, y1, y2, y3, y4, y5, y6⟩ := HB3.out.seven
   have hbs := HB3.out.1
   cases ze with
   | true =>
    go_wp2_with fail
    go_ret
    exact ⟨by rw [HT.out]; rfl, hE3⟩
   | false =>
    go_wp2_with fail
    refine (HN.out _).mono ?_
    rintro e w4 ⟨rfl, rfl⟩
    go_wp2_with fail
    go_ret
    exact ⟨by rw [HT.out]; simp, hE3⟩
 ·have qn : w1.cell? ⟨1, 2, none⟩ = some (.int .i64 0) := HG.out.1.2 2 (by omega)
  by_cases hnn : n = 0
  rotate_left
  ·have hnb : ((n : Int) != 0) = true := by rw [bne_iff_ne]; omega
   have HT : Hid (res = false) := by show _ = _; rw [HF.out]; simp [hnn]
   clear HF hnn
   go_quiet (fail)
   go_wp2_with fail
   go_ret
   exact ⟨by rw [HT.out]; rfl, Ext.pdrewN hE1 _⟩
  subst hnn
  go_quiet (fail)
  obtain ⟨w2, hw2⟩ : ∃ w2, w1.drewN nq = w2 := ⟨_, rfl⟩
  rw [hw2]
  have hx2 : Ext w1 w2 := by rw [← hw2]; exact Ext.drewN _ _
  have hE2 : Ext w w2 := Ext.trans hE1 hx2
  have HB2 := Lib.hid (HB1.out.ext hx2)
  clear hw2 y0 y1 y2 y3 y4 y5 y6 hbs qn HGs
  obtain ⟨y0, y1, y2, y3, y4, y5, y6⟩ := HB2.out.seven
  have hbs := HB2.out.1
  have HT : Hid (res = (zq && inm)) := by show _ = _; rw [HF.out]; simp
  clear HF
  go_wp2_with fail
  refine (HZ.out _).mono ?_
  rintro e w3 ⟨rfl, hx3⟩
  have hE3 := Ext.trans hE2 hx3
  cases zq with
  | false =>
   go_wp2_with fail
   go_ret
   exact ⟨by rw [HT.out]; rfl, hE3⟩
  | true =>
   have HB3 := Lib.hid (HB2.out.ext hx3)
   clear y0 y1 y2 y3 y4 y5 y6 hbs
   obtain ⟨y0, y1, y2, y3, y4, y5, y6⟩ := HB3.out.seven
   have hbs := HB3.out.1
   go_wp2_with fail
   refine (HN.out _).mono ?_
   rintro e w4 ⟨rfl, rfl⟩
   go_wp2_with fail
   go_ret
   exact ⟨by rw [HT.out]; simp, hE3⟩
 ·have qn : w1.cell? ⟨1, 3, none⟩ = some (.int .i64 1) := HG.out.1.2 3 (by omega)
  by_cases hnn : n = 1
  rotate_left
  ·have hnb : ((n : Int) != 1) = true := by rw [bne_iff_ne]; omega
   have HT : Hid (res = false) := by show _ = _; rw [HF.out]; simp [hnn]
   clear HF hnn
   go_quiet (fail)
   go_wp2_with fail
   go_ret
   exact ⟨by rw [HT.out]; rfl, Ext.pdrewN hE1 _⟩
  subst hnn
  go_quiet (fail)
  obtain ⟨w2, hw2⟩ : ∃ w2, w1.drewN nq = w2 := ⟨_, rfl⟩
  rw [hw2]
  have hx2 : Ext w1 w2 := by rw [← hw2]; exact Ext.drewN _ _
  have hE2 : Ext w w2 := Ext.trans hE1 hx2
  have HB2 := Lib.hid (HB1.out.ext hx2)
  clear hw2 y0 y1 y2 y3 y4 y5 y6 hbs qn HGs
  obtain ⟨y0, y1, y2, y3, y4, y5, y6⟩ := HB2.out.seven
  have hbs := HB2.out.1
  have HT : Hid (res = (zq && ze && fa)) := by show _ = _; rw [HF.out]; simp
  clear HF
  go_wp2_with fail
  refine (HZ.out _).mono ?_
  rintro e w3 ⟨rfl, hx3⟩
  have hE3 := Ext.trans hE2 hx3
  cases zq with
  | false =>
   go_wp2_with fail
   go_ret
   exact ⟨by rw [HT.out]; rfl, hE3⟩
  | true =>
   have HB3 := Lib.hid (HB2.out.ext hx3)
   clear y0 y1 y2 y3 y4 y5 y6 hbs
   obtain ⟨y0, y1, y2, y3, y4, y5, y6⟩ := HB3.out.seven
   have hbs := HB3.out.1
   cases ze with
   | false =>
    go_wp2_with fail
    go_ret
    exact ⟨by rw [HT.out]; rfl, hE3⟩
   | true =>
    go_wp2_with fail
    refine (HC.out _ hE3).mono ?_
    rintro e w4 ⟨rfl, hx4⟩
    have hE4 := Ext.trans hE3 hx4
    go_wp2_with fail
    go_ret
    exact ⟨by rw [HT.out]; simp, hE4⟩
 ·have qn : w1.cell? ⟨1, 4, none⟩ = some (.int .i64 2) := HG.out.1.2 4 (by omega)
  by_cases hnn : n = 2
  rotate_left
  ·have hnb : ((n : Int) != 2) = true := by rw [bne_iff_ne]; omega
   have HT : Hid (res = false) := by show _ = _; rw [HF.out]; simp [hnn]
   clear HF hnn
   go_quiet (fail)
   go_wp2_with fail
   go_ret
   exact ⟨by rw [HT.out]; rfl, Ext.pdrewN hE1 _⟩
  subst hnn
  go_quiet (fail)
  obtain ⟨w2, hw2⟩ : ∃ w2, w1.drewN nq = w2 := ⟨_, rfl⟩
  rw [hw2]
  have hx2 : Ext w1 w2 := by rw [← hw2]; exact Ext.drewN _ _
  have hE2 : Ext w w2 := Ext.trans hE1 hx2
  have HB2 := Lib.hid (HB1.out.ext hx2)
  clear hw2 y0 y1 y2 y3 y4 y5 y6 hbs qn HGs
  obtain ⟨y0, y1, y2, y3, y4, y5, y6⟩ := HB2.out.seven
  have hbs := HB2.out.1
  have HT : Hid (res = (zq && ze && fa)) := by show _ = _; rw [HF.out]; simp
  clear HF
  go_wp2_with fail
  refine (HZ.out _).mono ?_
  rintro e w3 ⟨rfl, hx3⟩
  have hE3 := Ext.trans hE2 hx3
  cases zq with
  | false =>
   go_wp2_with fail
   go_ret
   exact ⟨by rw [HT.out]; rfl, hE3⟩
  | true =>
   have HB3 := Lib.hid (HB2.out.ext hx3)
   clear y0 y1 y2 y3 y4 y5 y6 hbs
   obtain ⟨y0, y1, y2, y3, y4, y5, y6⟩ := HB3.out.seven
   have hbs := HB3.out.1
   cases ze with
   | false =>
    go_wp2_with fail
    go_ret
    exact ⟨by rw [HT.out]; rfl, hE3⟩
   | true =>
    go_wp2_with fail
    refine (HC.out _ hE3).mono ?_
    rintro e w4 ⟨rfl, hx4⟩
    have hE4 := Ext.trans hE3 hx4
    go_wp2_with fail
    go_ret
    exact ⟨by rw [HT.out]; simp, hE4⟩
 ·have qn : w1.cell? ⟨1, 5, none⟩ = some (.int .i64 2) := HG.out.1.2 5 (by omega)
  by_cases hnn : n = 2
  rotate_left
  ·have hnb : ((n : Int) != 2) = true := by rw [bne_iff_ne]; omega
   have HT : Hid (res = false) := by show _ = _; rw [HF.out]; simp [hnn]
   clear HF hnn
   go_quiet (fail)
   go_wp2_with fail
   go_ret
   exact ⟨by rw [HT.out]; rfl, Ext.pdrewN hE1 _⟩
  subst hnn
  go_quiet (fail)
  obtain ⟨w2, hw2⟩ : ∃ w2, w1.drewN nq = w2 := ⟨_, rfl⟩
  rw [hw2]
  have hx2 : Ext w1 w2 := by rw [← hw2]; exact Ext.drewN _ _
  have hE2 : Ext w w2 := Ext.trans hE1 hx2
  have HB2 := Lib.hid (HB1.out.ext hx2)
  clear hw2 y0 y1 y2 y3 y4 y5 y6 hbs qn HGs
  obtain ⟨y0, y1, y2, y3, y4, y5, y6⟩ := HB2.out.seven
  have hbs := HB2.out.1
  have HT : Hid (res = (zq && ze && fa)) := by show _ = _; rw [HF.out]; simp
  clear HF
  go_wp2_with fail
  refine (HZ.out _).mono ?_
  rintro e w3 ⟨rfl, hx3⟩
  have hE3 := Ext.trans hE2 hx3
  cases zq with
  | false =>
   go_wp2_with fail
   go_ret
   exact ⟨by rw [HT.out]; rfl, hE3⟩
  | true =>
   have HB3 := Lib.hid (HB2.out.ext hx3)
   clear y0 y1 y2 y3 y4 y5 y6 hbs
   obtain ⟨y0, y1, y2, y3, y4, y5, y6⟩ := HB3.out.seven
   have hbs := HB3.out.1
   cases ze with
   | false =>
    go_wp2_with fail
    go_ret
    exact ⟨by rw [HT.out]; rfl, hE3⟩
   | true =>
    go_wp2_with fail
    refine (HC.out _ hE3).mono ?_
    rintro e w4 ⟨rfl, hx4⟩
    have hE4 := Ext.trans hE3 hx4
    go_wp2_with fail
    go_ret
    exact ⟨by rw [HT.out]; simp, hE4⟩
 ·have qn : w1.cell? ⟨1, 6, none⟩ = some (.int .i64 2) := HG.out.1.2 6 (by omega)
  by_cases hnn : n = 2
  rotate_left
  ·have hnb : ((n : Int) != 2) = true := by rw [bne_iff_ne]; omega
   have HT : Hid (res = false) := by show _ = _; rw [HF.out]; simp [hnn]
   clear HF hnn
   go_quiet (fail)
   go_wp2_with fail
   go_ret
   exact ⟨by rw [HT.out]; rfl, Ext.pdrewN hE1 _⟩
  subst hnn
  go_quiet (fail)
  obtain ⟨w2, hw2⟩ : ∃ w2, w1.drewN nq = w2 := ⟨_, rfl⟩
  rw [hw2]
  have hx2 : Ext w1 w2 := by rw [← hw2]; exact Ext.drewN _ _
  have hE2 : Ext w w2 := Ext.trans hE1 hx2
  have HB2 := Lib.hid (HB1.out.ext hx2)
  clear hw2 y0 y1 y2 y3 y4 y5 y6 hbs qn HGs
  obtain ⟨y0, y1, y2, y3, y4, y5, y6⟩ := HB2.out.seven
  have hbs := HB2.out.1
  have HT : Hid (res = (zq && ze && fa)) := by show _ = _; rw [HF.out]; simp
  clear HF
  go_wp2_with fail
  refine (HZ.out _).mono ?_
  rintro e w3 ⟨rfl, hx3⟩
  have hE3 := Ext.trans hE2 hx3
  cases zq with
  | false =>
   go_wp2_with fail
   go_ret
   exact ⟨by rw [HT.out]; rfl, hE3⟩
  | true =>
   have HB3 := Lib.hid (HB2.out.ext hx3)
   clear y0 y1 y2 y3 y4 y5 y6 hbs
   obtain ⟨y0, y1, y2, y3, y4, y5, y6⟩ := HB3.out.seven
   have hbs := HB3.out.1
   cases ze with
   | false =>
    go_wp2_with fail
    go_ret
    exact ⟨by rw [HT.out]; rfl, hE3⟩
   | true =>
    go_wp2_with fail
    refine (HC.out _ hE3).mono ?_
    rintro e w4 ⟨rfl, hx4⟩
    have hE4 := Ext.trans hE3 hx4
    go_wp2_with fail
    go_ret
    exact ⟨by rw [HT.out]; simp, hE4⟩
 ·have qn : w1.cell? ⟨1, 7, none⟩ = some (.int .i64 2) := HG.out.1.2 7 (by omega)
  by_cases hnn : n = 2
  rotate_left
  ·have hnb : ((n : Int) != 2) = true := by rw [bne_iff_ne]; omega
   have HT : Hid (res = false) := by show _ = _; rw [HF.out]; simp [hnn]
   clear HF hnn
   go_quiet (fail)
   go_wp2_with fail
   go_ret
   exact ⟨by rw [HT.out]; rfl, Ext.pdrewN hE1 _⟩
  subst hnn
  go_quiet (fail)
  obtain ⟨w2, hw2⟩ : ∃ w2, w1.drewN nq = w2 := ⟨_, rfl⟩
  rw [hw2]
  have hx2 : Ext w1 w2 := by rw [← hw2]; exact Ext.drewN _ _
  have hE2 : Ext w w2 := Ext.trans hE1 hx2
  have HB2 := Lib.hid (HB1.out.ext hx2)
  clear hw2 y0 y1 y2 y3 y4 y5 y6 hbs qn HGs
  obtain ⟨y0, y1, y2, y3, y4, y5, y6⟩ := HB2.out.seven
  have hbs := HB2.out.1
  have HT : Hid (res = (zq && ze && fa)) := by show _ = _; rw [HF.out]; simp
  clear HF
  go_wp2_with fail
  refine (HZ.out _).mono ?_
  rintro e w3 ⟨rfl, hx3⟩
  have hE3 := Ext.trans hE2 hx3
  cases zq with
  | false =>
   go_wp2_with fail
   go_ret
   exact ⟨by rw [HT.out]; rfl, hE3⟩
  | true =>
   have HB3 := Lib.hid (HB2.out.ext hx3)
   clear y0 y1 y2 y3 y4 y5 y6 hbs
   obtain ⟨y0, y1, y2, y3, y4, y5, y6⟩ := HB3.out.seven
   have hbs := HB3.out.1
   cases ze with
   | false =>
    go_wp2_with fail
    go_ret
    exact ⟨by rw [HT.out]; rfl, hE3⟩
   | true =>
    go_wp2_with fail
    refine (HC.out _ hE3).mono ?_
    rintro e w4 ⟨rfl, hx4⟩
    have hE4 := Ext.trans hE3 hx4
    go_wp2_with fail
    go_ret
    exact ⟨by rw [HT.out]; simp, hE4⟩
theorem formula_formed (hD : DecC) : ∀ (k : Nat) {e : EI} {cs : List Value} {w : World} (_ : ExprR k w cs e) (_ : smallE k e) (_ : GLo w),
  Calls Tryz.prog 187 #[.agg cs.toArray] w fun x w' => x = .returned (.bool (formed k e)) ∧ Ext w w'
 | 0, _, _, _, h, _, _ => h.elim
 | k + 1, e, cs, w, h, hs, hg => by
  obtain ⟨u, v, sl, rfl, hu, hv, hsl⟩ := h
  obtain ⟨s1, s2, s3, hm, s4⟩ := hs
  obtain ⟨A, c, rfl, hl, hm0, hel⟩ := hsl
  obtain ⟨A1, c1, hu', hc1, hc1'⟩ := hu.form
  obtain ⟨A2, c2, hv', hc2, hc2'⟩ := hv.form
  have harr : ArrAt 7 (ExprR k) w (.slice A e.args.length c) e.args := ⟨A, c, rfl, hl, by omega, hel⟩
  have hP : PredX 7 236 #[] aggV (ExprR k) (fun e => !formed k e) e.args w :=
   formed1 (fun a cs w1 hm1 hx hR => formula_formed hD k hR (s4 a hm1) (hg.ext hx))
  have hF : formed (k + 1) e = FmC e.value.dec (e.args.all (formed k)) e.op e.name e.value.num.neg e.value.den.neg e.value.num.mag.length e.value.den.mag.length e.args.length := by
   show (shapeOf e.op e.value e.name e.args.length && e.args.all (formed k)) = _
   unfold FmC shapeOf zeroQ
   by_cases h1 : e.op = 1
   ·rw [if_pos h1, if_pos h1]
    by_cases h0 : e.args.length = 0
    ·rw [List.eq_nil_of_length_eq_zero h0]; simp
    ·simp [h0]
   ·rw [if_neg h1, if_neg h1]
    by_cases h2 : e.op = 2
    ·rw [if_pos h2, if_pos h2]
     by_cases h0 : e.args.length = 0
     ·rw [List.eq_nil_of_length_eq_zero h0]; simp
     ·simp [h0]
    ·rw [if_neg h2, if_neg h2]
     by_cases h3 : e.op = 3
     ·rw [if_pos h3, if_pos h3]
     ·rw [if_neg h3, if_neg h3]
      by_cases h4 : e.op = 4 ∨ e.op = 5 ∨ e.op = 6 ∨ e.op = 7
      ·rw [if_pos h4, if_pos h4]
      ·rw [if_neg h4, if_neg h4]; rfl
  rw [hF]
  subst hu' hv'
  refine formed_step hg s3 hm (fun w1 hx => hD e.value _ _ w1 (hg.2.ext hx) (hu.ext hx) (hv.ext hx) s1 s2) (fun w1 hx => ?_)
  refine (con_Expr k 236 #[] (enters_of Tryz.func236 (by kernel_rfl) rfl) (harr.ext (ExprR.stable k) hx) (hP.ext hx)).mono ?_
  rintro x w2 ⟨rfl, hx2⟩
  exact ⟨by rw [← not_any_not, Bool.not_not], hx2⟩
end Go.Proofs.YtmddjbmelajadaaGreatDoor
namespace Go.Proofs.YtmddjbmelajadaaGreatDoor
open Go Go.RowKit
set_option maxRecDepth 100000 in
set_option maxHeartbeats 1600000 in
theorem formula_Valid (hDC : DecC) (k : Nat) {e : EI} {cs : List Value} {w : World} (h : ExprR k w cs e) (hs : smallE k e) (hk : k ≤ 100000) (hg : GLo w) :
  Calls Tryz.prog 140 #[.agg cs.toArray] w fun x w' => x = .returned (.int .i64 (errE k e)) ∧ Ext w w' := by
 have H1 := Lib.hid (fun w1 (hx : Ext w w1) => formula_formed hDC k (ExprR.stable k _ _ _ _ hx h) hs (hg.ext hx))
 have H2 := Lib.hid (fun w1 (hx : Ext w w1) => formula_Depth k (ExprR.stable k _ _ _ _ hx h) hs hk)
 have hd := depthE_le k e
 have HE : Hid (errE k e = if formed k e then if depthE k e ≤ 40 then 0 else 3 else 1) := rfl
 obtain ⟨j, rfl⟩ : ∃ j, k = j + 1 := by cases k with | zero => exact h.elim | succ j => exact ⟨j, rfl⟩
 obtain ⟨u, v, sl, rfl, hu, hv, hsl⟩ := h
 clear hu hv hsl hs
 generalize formed (j + 1) e = fk at *
 generalize depthE (j + 1) e = dk at *
 generalize e.op = op at *
 generalize e.name = nm at *
 generalize e.value.num.neg = b1 at *
 generalize e.value.den.neg = b2 at *
 have HBX := Lib.hid (CellsAt.new w [.int .i64 op, .bool b1, u, .bool b2, v, .string nm, sl] 67)
 go_enter Tryz.func140, Tryz.ntmps140
 go_wp2_with fail
 refine (H1.out _ (by repeat first|exact xA _|assumption|refine xB ?_ _|refine xC ?_|refine xD ?_ _|refine xE ?_ (by simp <;> omega) _|refine xF ?_ (by assumption))).mono ?_
 rintro x w1 ⟨rfl, hx1⟩
 obtain ⟨y0, y1, y2, y3, y4, y5, y6⟩ := (HBX.out.ext hx1).seven
 have hE1 : Ext w w1 := (by repeat first|exact xA _|assumption|refine xB ?_ _|refine xC ?_|refine xD ?_ _|refine xE ?_ (by simp <;> omega) _|refine xF ?_ (by assumption))
 cases fk with
 | false =>
  go_wp2_with fail
  go_ret
  exact ⟨by rw [HE.out]; rfl, hE1⟩
 | true =>
  go_wp2_with fail
  refine (H2.out _ hE1).mono ?_
  rintro x w2 ⟨rfl, hx2⟩
  have hE2 : Ext w w2 := hE1.trans hx2
  by_cases h40 : dk ≤ 40
  ·have h40' : ¬ (40 < dk) := by omega
   have HE' : Hid (errE (j + 1) e = 0) := by show _ = _; rw [HE.out]; simp [h40]
   go_wp2_with fail
   go_ret
   exact ⟨by rw [HE'.out]; try rfl, hE2⟩
  ·have h40' : 40 < dk := by omega
   have HE' : Hid (errE (j + 1) e = 3) := by show _ = _; rw [HE.out]; simp [h40]
   go_wp2_with fail
   go_ret
   exact ⟨by rw [HE'.out]; try rfl, hE2⟩
end Go.Proofs.YtmddjbmelajadaaGreatDoor
