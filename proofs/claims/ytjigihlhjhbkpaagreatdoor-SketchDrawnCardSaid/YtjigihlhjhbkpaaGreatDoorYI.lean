/- Contracts: letter, digit, word, IsName of the reference's layer 21. -/
import Derived.Test.YtjigihlhjhbkpaaGreatDoorYG
import Derived.Deep.DeepCutAuto
namespace Go.Proofs.YtjigihlhjhbkpaaGreatDoor
open Go Go.RowKit
def isLetter (z : Int) : Bool := decide (97 ≤ z) && decide (z ≤ 122) || decide (65 ≤ z) && decide (z ≤ 90)
def isDigit (z : Int) : Bool := decide (48 ≤ z) && decide (z ≤ 57)
def isWord (z : Int) : Bool := isLetter z || isDigit z || decide (z = 95)
def byteAt (s : ByteArray) (i : Nat) : Int := if h : i < s.size then (s[i].toNat : Int) else 0
theorem byteAt_eq {s : ByteArray} {i : Nat} (h : i < s.size) : (s[i].toNat : Int) = byteAt s i := by simp [byteAt, h]
/-- Where the letters, digits and underscores from a place on end. -/
def wordEnd (s : ByteArray) (i : Nat) : Nat := if h : i < s.size then if isWord (byteAt s i) then wordEnd s (i + 1) else i else i
termination_by s.size - i
def isName (s : ByteArray) : Bool := decide (s.size ≠ 0) && decide (s.size ≤ 24) && isLetter (byteAt s 0) && decide (wordEnd s 0 = s.size)
theorem ref21_digit (z : Int) (w : World) : Calls Tryz.prog 230 #[.int .u8 z] w fun e w' => e = .returned (.bool (isDigit z)) ∧ w = w' := by
 by_cases h1 : 48 ≤ z
 ·have H : Hid (isDigit z = decide (z ≤ 57)) := by show _ = _; simp [isDigit, h1]
  go_enter Tryz.func230, Tryz.ntmps230
  go_wp2_with fail
  refine bodyPost_ret ?_ rfl ⟨by rw [H.out], rfl⟩
  simp [results, Tryz.results230, go_sem]
 ·have H : Hid (isDigit z = false) := by show _ = _; simp [isDigit, h1]
  go_enter Tryz.func230, Tryz.ntmps230
  go_wp2_with fail
  refine bodyPost_ret ?_ rfl ⟨by rw [H.out], rfl⟩
  simp [results, Tryz.results230, go_sem]
theorem ref21_letter (z : Int) (w : World) : Calls Tryz.prog 229 #[.int .u8 z] w fun e w' => e = .returned (.bool (isLetter z)) ∧ w = w' := by
 by_cases h1 : 97 ≤ z <;> by_cases h2 : z ≤ 122 <;> by_cases h3 : 65 ≤ z <;> by_cases h4 : z ≤ 90 <;> try (exfalso; omega)
 all_goals
  have H : Hid (isLetter z = (decide (97 ≤ z) && decide (z ≤ 122) || decide (65 ≤ z) && decide (z ≤ 90))) := rfl
  simp only [h1, h2, h3, h4, decide_true, decide_false, Bool.and_self, Bool.and_true, Bool.and_false, Bool.or_true, Bool.or_false, Bool.or_self] at H
  go_enter Tryz.func229, Tryz.ntmps229
  go_wp2_with fail
  refine bodyPost_ret ?_ rfl ⟨by rw [H.out], rfl⟩
  simp [results, Tryz.results229, go_sem]
set_option maxHeartbeats 800000 in
theorem ref21_word {s : ByteArray} {w : World} (h0 : 0 < s.size) (h1 : s.size ≤ 24) : Calls Tryz.prog 216 #[.string s, .int .i64 0] w fun e w' => e = .returned (.int .i64 ((if isLetter (byteAt s 0) then wordEnd s 0 else 0 : Nat) : Int)) ∧ w = w' := by
 have hne : ((0 : Int) == (s.size : Int)) = false := by simp; omega
 have hb := byteAt_eq h0
 generalize (s[0].toNat : Int) = z at hb
 cases hL : isLetter (byteAt s 0) with
 | false =>
  have H := fun w => ref21_letter (s[0].toNat : Int) w
  rw [byteAt_eq h0, hL] at H
  have HL := Lib.hid H
  clear hL H hb
  rw [← byteAt_eq h0] at HL
  go_enter Tryz.func216, Tryz.ntmps216
  go_wp2_with fail
  refine (HL.out _).mono ?_
  rintro e w1 ⟨rfl, rfl⟩
  go_wp2_with fail
  refine bodyPost_ret ?_ rfl ⟨rfl, rfl⟩
  simp [results, Tryz.results216, go_sem]
 | true =>
  have H := fun w => ref21_letter (s[0].toNat : Int) w
  rw [byteAt_eq h0, hL] at H
  have HL := Lib.hid H
  clear hL H hb
  rw [← byteAt_eq h0] at HL
  go_enter Tryz.func216, Tryz.ntmps216
  go_wp2_with fail
  refine (HL.out _).mono ?_
  rintro e w1 ⟨rfl, rfl⟩
  go_wp2_with fail
  go_loopg [1] s.size (fun gk x wr => ∃ p : Nat, x = .int .i64 (p : Int) ∧ p + gk = s.size ∧ Hid (wordEnd s p = wordEnd s 0) ∧ wr = w)
  case atStart => exact ⟨0, rfl, by omega, rfl, rfl⟩
  case round =>
   obtain ⟨p, rfl, hp, HE, rfl⟩ := hrel
   by_cases hps : p < s.size
   ·have H1 := Lib.hid (fun w => ref21_letter (s[p].toNat : Int) w)
    have H2 := Lib.hid (fun w => ref21_digit (s[p].toNat : Int) w)
    have hW : wordEnd s p = if isWord (byteAt s p) then wordEnd s (p + 1) else p := by rw [wordEnd, dif_pos hps]
    have hI : isWord (byteAt s p) = (isLetter (s[p].toNat : Int) || isDigit (s[p].toNat : Int) || decide ((s[p].toNat : Int) = 95)) := by rw [isWord, byteAt_eq hps]
    rw [hI] at hW
    have HW := Lib.hid hW
    clear hW hI
    go_wp2_with fail
    refine (H1.out _).mono ?_
    rintro e w1 ⟨rfl, rfl⟩
    cases hl : isLetter (s[p].toNat : Int) with
    | true =>
     have HE' : Hid (wordEnd s (p + 1) = wordEnd s 0) := by have := HW.out; rw [hl] at this; simp at this; exact this.symm.trans HE.out
     clear hl HW
     go_wp2_with fail
     go_roundg (gk - 1)
     case measure => omega
     case rel => exact ⟨p + 1, by simp, by omega, HE', rfl⟩
    | false =>
     rw [hl] at HW
     clear hl
     go_wp2_with fail
     refine (H2.out _).mono ?_
     rintro e w1 ⟨rfl, rfl⟩
     cases hl : isDigit (s[p].toNat : Int) with
     | true =>
      have HE' : Hid (wordEnd s (p + 1) = wordEnd s 0) := by have := HW.out; rw [hl] at this; simp at this; exact this.symm.trans HE.out
      clear hl HW
      go_wp2_with fail
      go_roundg (gk - 1)
      case measure => omega
      case rel => exact ⟨p + 1, by simp, by omega, HE', rfl⟩
     | false =>
      rw [hl] at HW
      clear hl
      by_cases h95 : (s[p].toNat : Int) = 95
      ·have HE' : Hid (wordEnd s (p + 1) = wordEnd s 0) := by have := HW.out; rw [decide_eq_true h95] at this; simp at this; exact this.symm.trans HE.out
       clear HW
       have h95' : ((s[p].toNat : Int) == 95) = true := by simpa using h95
       clear h95
       go_wp2_with fail
       go_roundg (gk - 1)
       case measure => omega
       case rel => exact ⟨p + 1, by simp, by omega, HE', rfl⟩
      ·have HE' : Hid (p = wordEnd s 0) := by have := HW.out; rw [decide_eq_false h95] at this; simp at this; exact this.symm.trans HE.out
       clear HW
       have h95' : ((s[p].toNat : Int) == 95) = false := by simpa using h95
       clear h95
       go_wp2_with fail
       refine bodyPost_ret (v := .int .i64 (p : Int)) ?_ rfl ⟨by rw [← HE'.out], rfl⟩
       simp [results, Tryz.results216, go_sem]
   ·have HE' : Hid (p = wordEnd s 0) := by have := HE.out; rw [wordEnd, dif_neg hps] at this; exact this
    go_wp2_with fail
    refine bodyPost_ret (v := .int .i64 (p : Int)) ?_ rfl ⟨by rw [← HE'.out], rfl⟩
    simp [results, Tryz.results216, go_sem]
theorem ref21_IsName (s : ByteArray) (w : World) (hsz : s.size ≤ 1000000) : Calls Tryz.prog 193 #[.string s] w fun e w' => e = .returned (.bool (isName s)) ∧ w = w' := by
 by_cases h0 : s.size = 0
 ·have HE : Hid (isName s = false) := by show _ = _; simp [isName, h0]
  have hse : s.toList.isEmpty = true := by rw [bytes_empty]; simpa using h0
  go_enter Tryz.func193, Tryz.ntmps193
  go_wp2_with fail
  refine bodyPost_ret ?_ rfl ⟨by rw [HE.out], rfl⟩
  simp [results, Tryz.results193, go_sem]
 ·have hse : s.toList.isEmpty = false := by rw [bytes_empty]; simpa using h0
  by_cases h1 : s.size ≤ 24
  ·have HW := Lib.hid (fun w => ref21_word (w := w) (by omega : 0 < s.size) h1)
   have hN : isName s = (((if isLetter (byteAt s 0) = true then wordEnd s 0 else 0 : Nat) : Int) == (s.size : Int)) := by
    cases hl : isLetter (byteAt s 0) with
    | true =>
     simp only [isName, hl, if_true, ne_eq, h0, not_false_eq_true, decide_true, Bool.true_and, h1]
     apply Bool.eq_iff_iff.2
     simp
     omega
    | false =>
     simp only [isName, hl, Bool.and_false, Bool.false_and, Bool.false_eq_true, if_false]
     symm
     simp
     omega
   have HN := Lib.hid hN
   clear hN
   generalize (if isLetter (byteAt s 0) = true then wordEnd s 0 else 0 : Nat) = z at *
   go_enter Tryz.func193, Tryz.ntmps193
   go_wp2_with fail
   refine (HW.out _).mono ?_
   rintro e w1 ⟨rfl, rfl⟩
   go_wp2_with fail
   refine bodyPost_ret (v := .bool ((z : Int) == (s.size : Int))) ?_ rfl ⟨by rw [HN.out], rfl⟩
   simp [results, Tryz.results193, go_sem]
  ·have HE : Hid (isName s = false) := by show _ = _; simp [isName, h1]
   go_enter Tryz.func193, Tryz.ntmps193
   go_wp2_with fail
   refine bodyPost_ret ?_ rfl ⟨by rw [HE.out], rfl⟩
   simp [results, Tryz.results193, go_sem]
end Go.Proofs.YtjigihlhjhbkpaaGreatDoor
namespace Go.Proofs.YtjigihlhjhbkpaaGreatDoor
open Go Go.RowKit
/-- An expression, whatever its fields are. -/
inductive EI where
 | mk (op : Int) (val : QI) (name : ByteArray) (args : List EI)
def EI.op : EI → Int | .mk o _ _ _ => o
def EI.value : EI → QI | .mk _ q _ _ => q
def EI.name : EI → ByteArray | .mk _ _ s _ => s
def EI.args : EI → List EI | .mk _ _ _ l => l
/-- How an expression of at most some depth lies in memory. -/
def ExprR : Nat → World → List Value → EI → Prop
 | 0, _, _, _ => False
 | k + 1, w, cs, e => ∃ u v sl, cs = [.int .i64 e.op, .bool e.value.num.neg, u, .bool e.value.den.neg, v, .string e.name, sl] ∧ Words w u e.value.num.mag ∧ Words w v e.value.den.mag ∧ SliceAt 7 (ExprR k) w sl e.args
theorem ExprR.stable : ∀ k, Stable (ExprR k)
 | 0 => fun _ _ _ _ _ h => h
 | k + 1 => fun w w' cs e hx => by
  rintro ⟨u, v, sl, h1, h2, h3, h4⟩
  exact ⟨u, v, sl, h1, h2.ext hx, h3.ext hx, h4.ext (ExprR.stable k) hx⟩
/-- A block's first cells. -/
def CellsAt (w : World) (g : Nat) (cs : List Value) : Prop := g < w.heap.size ∧ ∀ i v, cs[i]? = some v → w.cell? ⟨g, i, none⟩ = some v
theorem CellsAt.ext {w w' : World} {g : Nat} {cs : List Value} (h : CellsAt w g cs) (hx : Ext w w') : CellsAt w' g cs :=
 ⟨Nat.lt_of_lt_of_le h.1 hx.size, fun i v hi => (hx.cell (p := ⟨g, i, none⟩) h.1).trans (h.2 i v hi)⟩
theorem CellsAt.new (w : World) (cs : List Value) (T : TypeId) : CellsAt (w.alloc (.cells cs.toArray T)) w.heap.size cs :=
 ⟨by simp, fun i v hi => by simp [go_sem, hi]⟩
theorem CellsAt.seven {w : World} {g : Nat} {a b c d e f h : Value} (k : CellsAt w g [a, b, c, d, e, f, h]) :
  w.cell? ⟨g, 0, none⟩ = some a ∧ w.cell? ⟨g, 1, none⟩ = some b ∧ w.cell? ⟨g, 2, none⟩ = some c ∧ w.cell? ⟨g, 3, none⟩ = some d ∧ w.cell? ⟨g, 4, none⟩ = some e ∧ w.cell? ⟨g, 5, none⟩ = some f ∧ w.cell? ⟨g, 6, none⟩ = some h :=
 ⟨k.2 0 _ rfl, k.2 1 _ rfl, k.2 2 _ rfl, k.2 3 _ rfl, k.2 4 _ rfl, k.2 5 _ rfl, k.2 6 _ rfl⟩
def zeroQ (q : QI) : Bool := !q.num.neg && !q.den.neg && decide (q.num.mag.length = 0) && decide (q.den.mag.length = 0)
def shapeOf (op : Int) (q : QI) (s : ByteArray) (n : Nat) : Bool :=
 if op = 1 then q.dec && (decide (s.size = 0) || isName s) && decide (n = 0)
 else if op = 2 then zeroQ q && isName s && decide (n = 0)
 else if op = 3 then zeroQ q && decide (s.size = 0) && decide (n = 1)
 else if op = 4 ∨ op = 5 ∨ op = 6 ∨ op = 7 then zeroQ q && decide (s.size = 0) && decide (n = 2)
 else false
set_option maxRecDepth 100000 in
set_option maxHeartbeats 3200000 in
theorem ref22_shape {op : Int} {q : QI} {s : ByteArray} {A : Option Addr} {n c : Nat} {u v : Value} {w : World} (h : Words w u q.num.mag) (h' : Words w v q.den.mag) (hx : q.num.mag.length ≤ 1000) (hy : q.den.mag.length ≤ 1000) (hs : s.size ≤ 1000000) :
  Calls Tryz.prog 172 #[.agg #[.int .i64 op, .bool q.num.neg, u, .bool q.den.neg, v, .string s, .slice A n c]] w fun e w' => e = .returned (.bool (shapeOf op q s n)) ∧ Ext w w' := by
 obtain ⟨A1, c1, rfl, hc1, hc1'⟩ := h.form
 obtain ⟨A2, c2, rfl, hc2, hc2'⟩ := h'.form
 have HD := Lib.hid (fun w1 (hx' : Ext w w1) => ref22_Decimal (q := q) (h.ext hx') (h'.ext hx') hx hy)
 clear h h'
 have HZ : Hid (zeroQ q = (!q.num.neg && !q.den.neg && decide (q.num.mag.length = 0) && decide (q.den.mag.length = 0))) := rfl
 have HS : Hid (shapeOf op q s n = (if op = 1 then q.dec && (decide (s.size = 0) || isName s) && decide (n = 0)
 else if op = 2 then zeroQ q && isName s && decide (n = 0)
 else if op = 3 then zeroQ q && decide (s.size = 0) && decide (n = 1)
 else if op = 4 ∨ op = 5 ∨ op = 6 ∨ op = 7 then zeroQ q && decide (s.size = 0) && decide (n = 2)
 else false)) := rfl
 generalize q.num.mag.length = l1 at *
 generalize q.den.mag.length = l2 at *
 generalize q.num.neg = b1 at *
 generalize q.den.neg = b2 at *
 generalize zeroQ q = zq at *
 go_enter Tryz.func172, Tryz.ntmps172
 go_upto_region 1 with fail
 go_cut [3] (fun x wx => x = .bool zq ∧ wx = w.alloc (.cells #[.int .i64 op, .bool b1, .slice A1 l1 c1, .bool b2, .slice A2 l2 c2, .string s, .slice A n c] 91))
 case first =>
  have k1 : ((l1 : Int) == 0) = decide (l1 = 0) := by apply Bool.eq_iff_iff.2; simp
  have k2 : ((l2 : Int) == 0) = decide (l2 = 0) := by apply Bool.eq_iff_iff.2; simp
  generalize decide (l1 = 0) = z1 at *
  generalize decide (l2 = 0) = z2 at *
  cases b1
  all_goals cases b2
  all_goals cases z1
  all_goals cases z2
  all_goals go_wp2_with fail
  all_goals go_meet
  all_goals (refine ⟨?_, rfl⟩; rw [HZ.out]; rfl)
 case rest =>
  obtain ⟨rfl, rfl⟩ := hcut
  have hse : s.toList.isEmpty = decide (s.size = 0) := bytes_empty s
  have k0 : ((n : Int) == 0) = decide (n = 0) := by apply Bool.eq_iff_iff.2; simp
  have k1 : ((n : Int) == 1) = decide (n = 1) := by apply Bool.eq_iff_iff.2; simp; omega
  have k2 : ((n : Int) == 2) = decide (n = 2) := by apply Bool.eq_iff_iff.2; simp; omega
  have HNM := Lib.hid (fun w => ref21_IsName s w hs)
  have HBX := Lib.hid (CellsAt.new w [.int .i64 op, .bool b1, .slice A1 l1 c1, .bool b2, .slice A2 l2 c2, .string s, .slice A n c] 91)
  clear HZ
  generalize decide (s.size = 0) = es at *
  generalize isName s = nm at *
  generalize decide (n = 0) = n0 at *
  generalize decide (n = 1) = n1 at *
  generalize decide (n = 2) = n2 at *
  generalize q.dec = dq at *
  by_cases o1 : op = 1
  ·have o1' : (op == 1) = true := by simp [o1]
   have HS' : Hid (shapeOf op q s n = (dq && (es || nm) && n0)) := by show _ = _; rw [HS.out, if_pos o1]
   clear o1 HS
   go_wp2_with fail
   refine (HD.out _ (by repeat first|exact xA _|assumption|refine xB ?_ _|refine xC ?_|refine xD ?_ _|refine xE ?_ (by simp <;> omega) _|refine xF ?_ (by assumption))).mono ?_
   rintro e w1 ⟨⟨t, rfl⟩, hx1⟩
   have hE1 : Ext w w1 := (by repeat first|exact xA _|assumption|refine xB ?_ _|refine xC ?_|refine xD ?_ _|refine xE ?_ (by simp <;> omega) _|refine xF ?_ (by assumption))
   obtain ⟨y0, y1, y2, y3, y4, y5, y6⟩ := (HBX.out.ext hx1).seven
   clear HD HBX
   cases dq
   ·go_wp2_with fail
    refine bodyPost_ret ?_ rfl ⟨by rw [HS'.out]; try rfl, hE1⟩
    simp [results, Tryz.results172, go_sem]
   ·cases es
    ·go_wp2_with fail
     refine (HNM.out _).mono ?_
     rintro e w2 ⟨rfl, rfl⟩
     cases nm
     ·go_wp2_with fail
      refine bodyPost_ret ?_ rfl ⟨by rw [HS'.out]; try rfl, hE1⟩
      simp [results, Tryz.results172, go_sem]
     ·cases n0
      all_goals go_wp2_with fail
      all_goals (refine bodyPost_ret ?_ rfl ⟨by rw [HS'.out]; try rfl, hE1⟩; simp [results, Tryz.results172, go_sem])
    ·cases n0
     all_goals go_wp2_with fail
     all_goals (refine bodyPost_ret ?_ rfl ⟨by rw [HS'.out]; try rfl, hE1⟩; simp [results, Tryz.results172, go_sem])
  have o1' : (op == 1) = false := by simp [o1]
  clear HD HBX
  by_cases o2 : op = 2
  ·have o2' : (op == 2) = true := by simp [o2]
   have HS' : Hid (shapeOf op q s n = (zq && nm && n0)) := by show _ = _; rw [HS.out, if_neg o1, if_pos o2]
   clear o1 o2 HS
   cases zq
   ·go_wp2_with fail
    refine bodyPost_ret ?_ rfl ⟨by rw [HS'.out]; try rfl, (Ext.alloc _ _)⟩
    simp [results, Tryz.results172, go_sem]
   ·go_wp2_with fail
    refine (HNM.out _).mono ?_
    rintro e w2 ⟨rfl, rfl⟩
    cases nm
    ·go_wp2_with fail
     refine bodyPost_ret ?_ rfl ⟨by rw [HS'.out]; try rfl, (Ext.alloc _ _)⟩
     simp [results, Tryz.results172, go_sem]
    ·cases n0
     all_goals go_wp2_with fail
     all_goals (refine bodyPost_ret ?_ rfl ⟨by rw [HS'.out]; try rfl, (Ext.alloc _ _)⟩; simp [results, Tryz.results172, go_sem])
  have o2' : (op == 2) = false := by simp [o2]
  by_cases o3 : op = 3
  ·have o3' : (op == 3) = true := by simp [o3]
   have HS' : Hid (shapeOf op q s n = (zq && es && n1)) := by show _ = _; rw [HS.out, if_neg o1, if_neg o2, if_pos o3]
   clear o1 o2 o3 HS
   cases zq
   ·go_wp2_with fail
    refine bodyPost_ret ?_ rfl ⟨by rw [HS'.out]; try rfl, (Ext.alloc _ _)⟩
    simp [results, Tryz.results172, go_sem]
   ·cases es
    ·go_wp2_with fail
     refine bodyPost_ret ?_ rfl ⟨by rw [HS'.out]; try rfl, (Ext.alloc _ _)⟩
     simp [results, Tryz.results172, go_sem]
    ·cases n1
     all_goals go_wp2_with fail
     all_goals (refine bodyPost_ret ?_ rfl ⟨by rw [HS'.out]; try rfl, (Ext.alloc _ _)⟩; simp [results, Tryz.results172, go_sem])
  have o3' : (op == 3) = false := by simp [o3]
  by_cases o4 : op = 4 ∨ op = 5 ∨ op = 6 ∨ op = 7
  ·have HS' : Hid (shapeOf op q s n = (zq && es && n2)) := by show _ = _; rw [HS.out, if_neg o1, if_neg o2, if_neg o3, if_pos o4]
   have o4' : (op == 4) = true ∨ (op == 4) = false ∧ (op == 5) = true ∨ (op == 4) = false ∧ (op == 5) = false ∧ (op == 6) = true ∨ (op == 4) = false ∧ (op == 5) = false ∧ (op == 6) = false ∧ (op == 7) = true := by
    simp only [beq_iff_eq, beq_eq_false_iff_ne, ne_eq]; omega
   clear o1 o2 o3 o4 HS
   cases zq
   ·rcases o4' with k4 | ⟨k4, k5⟩ | ⟨k4, k5, k6⟩ | ⟨k4, k5, k6, k7⟩
    all_goals go_wp2_with fail
    all_goals (refine bodyPost_ret ?_ rfl ⟨by rw [HS'.out]; try rfl, (Ext.alloc _ _)⟩; simp [results, Tryz.results172, go_sem])
   ·cases es
    ·rcases o4' with k4 | ⟨k4, k5⟩ | ⟨k4, k5, k6⟩ | ⟨k4, k5, k6, k7⟩
     all_goals go_wp2_with fail
     all_goals (refine bodyPost_ret ?_ rfl ⟨by rw [HS'.out]; try rfl, (Ext.alloc _ _)⟩; simp [results, Tryz.results172, go_sem])
    ·rcases o4' with k4 | ⟨k4, k5⟩ | ⟨k4, k5, k6⟩ | ⟨k4, k5, k6, k7⟩
     all_goals cases n2
     all_goals go_wp2_with fail
     all_goals (refine bodyPost_ret ?_ rfl ⟨by rw [HS'.out]; try rfl, (Ext.alloc _ _)⟩; simp [results, Tryz.results172, go_sem])
  ·have HS' : Hid (shapeOf op q s n = false) := by show _ = _; rw [HS.out, if_neg o1, if_neg o2, if_neg o3, if_neg o4]
   obtain ⟨k4, k5, k6, k7⟩ : (op == 4) = false ∧ (op == 5) = false ∧ (op == 6) = false ∧ (op == 7) = false := by
    simp only [beq_eq_false_iff_ne, ne_eq]; omega
   clear o1 o2 o3 o4 HS
   go_wp2_with fail
   refine bodyPost_ret ?_ rfl ⟨by rw [HS'.out]; try rfl, (Ext.alloc _ _)⟩
   simp [results, Tryz.results172, go_sem]
end Go.Proofs.YtjigihlhjhbkpaaGreatDoor
namespace Go.Proofs.YtjigihlhjhbkpaaGreatDoor
open Go Go.RowKit
/-- Short numbers and names, to some depth. -/
def smallE : Nat → EI → Prop
 | 0, _ => False
 | k + 1, e => e.value.num.mag.length ≤ 1000 ∧ e.value.den.mag.length ≤ 1000 ∧ e.name.size ≤ 1000000 ∧ e.args.length ≤ 1000 ∧ ∀ a ∈ e.args, smallE k a
def formed : Nat → EI → Bool
 | 0, _ => false
 | k + 1, e => shapeOf e.op e.value e.name e.args.length && e.args.all (formed k)
set_option maxRecDepth 100000 in
set_option maxHeartbeats 1600000 in
theorem ref22_Formed : ∀ (k : Nat) {e : EI} {cs : List Value} {w : World} (_ : ExprR k w cs e) (_ : smallE k e),
  Calls Tryz.prog 137 #[.agg cs.toArray] w fun x w' => x = .returned (.bool (formed k e)) ∧ Ext w w'
 | 0, _, _, _, h, _ => h.elim
 | k + 1, e, cs, w, h, hs => by
  obtain ⟨u, v, sl, rfl, hu, hv, hsl⟩ := h
  obtain ⟨s1, s2, s3, hm, s4⟩ := hs
  obtain ⟨A, c, rfl, hl, hm0, hel⟩ := hsl
  clear hm0
  have HSH := Lib.hid (fun w1 (hx : Ext w w1) => ref22_shape (op := e.op) (q := e.value) (s := e.name) (A := A) (n := e.args.length) (c := c) (hu.ext hx) (hv.ext hx) s1 s2 s3)
  have HF : Hid (formed (k + 1) e = (shapeOf e.op e.value e.name e.args.length && e.args.all (formed k))) := rfl
  have HEL := Lib.hid hel
  have HS4 := Lib.hid s4
  obtain ⟨A1, c1, rfl, hc1, hc1'⟩ := hu.form
  obtain ⟨A2, c2, rfl, hc2, hc2'⟩ := hv.form
  clear hu hv hel s1 s2 s3 s4
  have HBX := Lib.hid (CellsAt.new w [.int .i64 e.op, .bool e.value.num.neg, .slice A1 e.value.num.mag.length c1, .bool e.value.den.neg, .slice A2 e.value.den.mag.length c2, .string e.name, .slice A e.args.length c] 91)
  generalize shapeOf e.op e.value e.name e.args.length = sh at *
  generalize e.value.num.mag.length = l1 at *
  generalize e.value.den.mag.length = l2 at *
  generalize e.value.num.neg = b1 at *
  generalize e.value.den.neg = b2 at *
  generalize e.op = op at *
  generalize e.name = nm at *
  go_enter Tryz.func137, Tryz.ntmps137
  go_wp2_with fail
  refine (HSH.out _ (by repeat first|exact xA _|assumption|refine xB ?_ _|refine xC ?_|refine xD ?_ _|refine xE ?_ (by simp <;> omega) _|refine xF ?_ (by assumption))).mono ?_
  rintro x w1 ⟨rfl, hx1⟩
  have HBX1 := Lib.hid (HBX.out.ext hx1)
  have hE1 : Ext w w1 := (by repeat first|exact xA _|assumption|refine xB ?_ _|refine xC ?_|refine xD ?_ _|refine xE ?_ (by simp <;> omega) _|refine xF ?_ (by assumption))
  clear HSH HBX hx1
  cases sh with
  | false =>
   go_wp2_with fail
   refine bodyPost_ret ?_ rfl ⟨by rw [HF.out]; try rfl, hE1⟩
   simp [results, Tryz.results137, go_sem]
  | true =>
   go_wp2_with fail
   go_loopg [3] e.args.length (fun gk x wr => ∃ i : Nat, x = .int .i64 (i : Int) ∧ i + gk = e.args.length ∧ Hid ((e.args.drop i).all (formed k) = e.args.all (formed k)) ∧ Hid (Ext w1 wr))
   case atStart => exact ⟨0, rfl, by omega, rfl, Ext.refl _⟩
   case round =>
    obtain ⟨i, rfl, hi, HA, HE⟩ := hrel
    obtain ⟨y0, y1, y2, y3, y4, y5, y6⟩ := (HBX1.out.ext HE.out).seven
    by_cases hlt : i < e.args.length
    ·obtain ⟨b, off, rfl, hb, hel⟩ := HEL.out (by intro e0; rw [e0] at hlt; simp at hlt)
     have hx0 : e.args[i]? = some e.args[i] := List.getElem?_eq_getElem hlt
     obtain ⟨ds, hds, hcell, hR⟩ := hel i _ hx0
     have hsm := HS4.out e.args[i] (List.getElem_mem hlt)
     match ds, hds with
     | [d0, d1, d2, d3, d4, d5, d6], _ =>
      have hEr := hE1.trans HE.out
      have q0 : wr.cell? ⟨b, off + i * 7, none⟩ = some d0 := (hEr.cell (p := ⟨b, off + (i * 7 + 0), none⟩) hb).trans (hcell 0 _ rfl)
      have q1 : wr.cell? ⟨b, off + i * 7 + 1, none⟩ = some d1 := (hEr.cell (p := ⟨b, off + (i * 7 + 1), none⟩) hb).trans (hcell 1 _ rfl)
      have q2 : wr.cell? ⟨b, off + i * 7 + 2, none⟩ = some d2 := (hEr.cell (p := ⟨b, off + (i * 7 + 2), none⟩) hb).trans (hcell 2 _ rfl)
      have q3 : wr.cell? ⟨b, off + i * 7 + 3, none⟩ = some d3 := (hEr.cell (p := ⟨b, off + (i * 7 + 3), none⟩) hb).trans (hcell 3 _ rfl)
      have q4 : wr.cell? ⟨b, off + i * 7 + 4, none⟩ = some d4 := (hEr.cell (p := ⟨b, off + (i * 7 + 4), none⟩) hb).trans (hcell 4 _ rfl)
      have q5 : wr.cell? ⟨b, off + i * 7 + 5, none⟩ = some d5 := (hEr.cell (p := ⟨b, off + (i * 7 + 5), none⟩) hb).trans (hcell 5 _ rfl)
      have q6 : wr.cell? ⟨b, off + i * 7 + 6, none⟩ = some d6 := (hEr.cell (p := ⟨b, off + (i * 7 + 6), none⟩) hb).trans (hcell 6 _ rfl)
      have HC := Lib.hid (ref22_Formed k (ExprR.stable k _ _ _ _ hEr hR) hsm)
      have HDR : Hid ((e.args.drop i).all (formed k) = (formed k e.args[i] && (e.args.drop (i + 1)).all (formed k))) := by show _ = _; rw [List.drop_eq_getElem_cons hlt, List.all_cons]
      clear hel hcell hR
      generalize formed k e.args[i] = fk at *
      go_wp2_with fail
      refine HC.out.mono ?_
      rintro x w2 ⟨rfl, hx2⟩
      cases fk with
      | true =>
       go_wp2_with fail
       go_roundg (gk - 1)
       case measure => omega
       case rel => exact ⟨i + 1, by simp, by omega, (HDR.out.symm.trans HA.out), HE.out.trans hx2⟩
      | false =>
       go_wp2_with fail
       refine bodyPost_ret (v := .bool false) ?_ rfl ⟨?_, hEr.trans hx2⟩
       ·simp [results, Tryz.results137, go_sem]
       ·rw [HF.out, ← HA.out, HDR.out]; rfl
    ·have HT : Hid ((e.args.drop i).all (formed k) = true) := by show _ = _; rw [List.drop_eq_nil_of_le (by omega)]; rfl
     have hEr := hE1.trans HE.out
     go_wp2_with fail
     refine bodyPost_ret (v := .bool true) ?_ rfl ⟨?_, hEr⟩
     ·simp [results, Tryz.results137, go_sem]
     ·rw [HF.out, ← HA.out, HT.out]; rfl
end Go.Proofs.YtjigihlhjhbkpaaGreatDoor
namespace Go.Proofs.YtjigihlhjhbkpaaGreatDoor
open Go Go.RowKit
def depthE : Nat → EI → Nat
 | 0, _ => 0
 | k + 1, e => e.args.foldl (fun n a => max n (depthE k a)) 0 + 1
theorem foldl_max_le {α : Type} (f : α → Nat) (k : Nat) : ∀ (l : List α) (n : Nat), n ≤ k → (∀ a, f a ≤ k) → l.foldl (fun n a => max n (f a)) n ≤ k
 | [], _, hn, _ => hn
 | a :: l, _, hn, h => foldl_max_le f k l _ (Nat.max_le.2 ⟨hn, h a⟩) h
theorem depthE_le : ∀ k e, depthE k e ≤ k
 | 0, _ => Nat.le_refl _
 | k + 1, e => Nat.succ_le_succ (foldl_max_le (depthE k) k e.args 0 (Nat.zero_le _) (depthE_le k))
set_option maxRecDepth 100000 in
set_option maxHeartbeats 1600000 in
theorem ref22_Depth : ∀ (k : Nat) {e : EI} {cs : List Value} {w : World} (_ : ExprR k w cs e) (_ : smallE k e) (_ : k ≤ 100000),
  Calls Tryz.prog 138 #[.agg cs.toArray] w fun x w' => x = .returned (.int .i64 (depthE k e : Nat)) ∧ Ext w w'
 | 0, _, _, _, h, _, _ => h.elim
 | k + 1, e, cs, w, h, hs, hk => by
  obtain ⟨u, v, sl, rfl, hu, hv, hsl⟩ := h
  obtain ⟨s1, s2, s3, hm, s4⟩ := hs
  obtain ⟨A, c, rfl, hl, hm0, hel⟩ := hsl
  clear hm0
  have HF : Hid (depthE (k + 1) e = e.args.foldl (fun n a => max n (depthE k a)) 0 + 1) := rfl
  have HEL := Lib.hid hel
  have HS4 := Lib.hid s4
  obtain ⟨A1, c1, rfl, hc1, hc1'⟩ := hu.form
  obtain ⟨A2, c2, rfl, hc2, hc2'⟩ := hv.form
  clear hu hv hel s1 s2 s3 s4
  have HBX := Lib.hid (CellsAt.new w [.int .i64 e.op, .bool e.value.num.neg, .slice A1 e.value.num.mag.length c1, .bool e.value.den.neg, .slice A2 e.value.den.mag.length c2, .string e.name, .slice A e.args.length c] 91)
  generalize e.value.num.mag.length = l1 at *
  generalize e.value.den.mag.length = l2 at *
  generalize e.value.num.neg = b1 at *
  generalize e.value.den.neg = b2 at *
  generalize e.op = op at *
  generalize e.name = nm at *
  go_enter Tryz.func138, Tryz.ntmps138
  go_wp2_with fail
  go_loopg [3, 4] e.args.length (fun gk y x wr => ∃ i n : Nat, x = .int .i64 (i : Int) ∧ y = .int .i64 (n : Int) ∧ n ≤ k ∧ i + gk = e.args.length ∧ Hid ((e.args.drop i).foldl (fun n a => max n (depthE k a)) n = e.args.foldl (fun n a => max n (depthE k a)) 0) ∧ Hid (Ext (w.alloc (.cells #[.int .i64 op, .bool b1, .slice A1 l1 c1, .bool b2, .slice A2 l2 c2, .string nm, .slice A e.args.length c] 91)) wr))
  case atStart => exact ⟨0, 0, rfl, rfl, Nat.zero_le _, by omega, rfl, Ext.refl _⟩
  case round =>
   obtain ⟨i, n, rfl, rfl, hn, hi, HA, HE⟩ := hrel
   obtain ⟨y0, y1, y2, y3, y4, y5, y6⟩ := (HBX.out.ext HE.out).seven
   have hEr : Ext w wr := Ext.trans (Ext.alloc _ _) HE.out
   by_cases hlt : i < e.args.length
   ·obtain ⟨b, off, rfl, hb, hel⟩ := HEL.out (by intro e0; rw [e0] at hlt; simp at hlt)
    have hx0 : e.args[i]? = some e.args[i] := List.getElem?_eq_getElem hlt
    obtain ⟨ds, hds, hcell, hR⟩ := hel i _ hx0
    have hsm := HS4.out e.args[i] (List.getElem_mem hlt)
    match ds, hds with
    | [d0, d1, d2, d3, d4, d5, d6], _ =>
     have q0 : wr.cell? ⟨b, off + i * 7, none⟩ = some d0 := (hEr.cell (p := ⟨b, off + (i * 7 + 0), none⟩) hb).trans (hcell 0 _ rfl)
     have q1 : wr.cell? ⟨b, off + i * 7 + 1, none⟩ = some d1 := (hEr.cell (p := ⟨b, off + (i * 7 + 1), none⟩) hb).trans (hcell 1 _ rfl)
     have q2 : wr.cell? ⟨b, off + i * 7 + 2, none⟩ = some d2 := (hEr.cell (p := ⟨b, off + (i * 7 + 2), none⟩) hb).trans (hcell 2 _ rfl)
     have q3 : wr.cell? ⟨b, off + i * 7 + 3, none⟩ = some d3 := (hEr.cell (p := ⟨b, off + (i * 7 + 3), none⟩) hb).trans (hcell 3 _ rfl)
     have q4 : wr.cell? ⟨b, off + i * 7 + 4, none⟩ = some d4 := (hEr.cell (p := ⟨b, off + (i * 7 + 4), none⟩) hb).trans (hcell 4 _ rfl)
     have q5 : wr.cell? ⟨b, off + i * 7 + 5, none⟩ = some d5 := (hEr.cell (p := ⟨b, off + (i * 7 + 5), none⟩) hb).trans (hcell 5 _ rfl)
     have q6 : wr.cell? ⟨b, off + i * 7 + 6, none⟩ = some d6 := (hEr.cell (p := ⟨b, off + (i * 7 + 6), none⟩) hb).trans (hcell 6 _ rfl)
     have HC := Lib.hid (ref22_Depth k (ExprR.stable k _ _ _ _ hEr hR) hsm (by omega))
     have hdl := depthE_le k e.args[i]
     have HDR : Hid ((e.args.drop i).foldl (fun n a => max n (depthE k a)) n = (e.args.drop (i + 1)).foldl (fun n a => max n (depthE k a)) (max n (depthE k e.args[i]))) := by show _ = _; rw [List.drop_eq_getElem_cons hlt, List.foldl_cons]
     clear hel hcell hR
     generalize depthE k e.args[i] = fk at *
     go_wp2_with fail
     refine HC.out.mono ?_
     rintro x w2 ⟨rfl, hx2⟩
     by_cases hle : n < fk
     rotate_left
     ·rw [Nat.max_eq_left (by omega)] at HDR
      go_wp2_with fail
      go_roundg (gk - 1)
      case measure => omega
      case rel => exact ⟨i + 1, n, by simp, by simp; try omega, hn, by omega, (HDR.out.symm.trans HA.out), HE.out.trans hx2⟩
     ·rw [Nat.max_eq_right (by omega)] at HDR
      go_wp2_with fail
      go_roundg (gk - 1)
      case measure => omega
      case rel => exact ⟨i + 1, fk, by simp, by simp; try omega, hdl, by omega, (HDR.out.symm.trans HA.out), HE.out.trans hx2⟩
   ·have HT : Hid (n + 1 = depthE (k + 1) e) := by show _ = _; rw [HF.out, ← HA.out, List.drop_eq_nil_of_le (by omega)]; rfl
    go_wp2_with fail
    refine bodyPost_ret (v := .int .i64 ((n + 1 : Nat) : Int)) ?_ rfl ⟨?_, hEr⟩
    ·simp [results, Tryz.results138, go_sem]
    ·rw [HT.out]
/-- The error of an expression. -/
def errE (k : Nat) (e : EI) : Int := if formed k e then if depthE k e ≤ 40 then 0 else 3 else 1
set_option maxRecDepth 100000 in
set_option maxHeartbeats 1600000 in
theorem ref22_Valid (k : Nat) {e : EI} {cs : List Value} {w : World} (h : ExprR k w cs e) (hs : smallE k e) (hk : k ≤ 100000) :
  Calls Tryz.prog 96 #[.agg cs.toArray] w fun x w' => x = .returned (.int .i64 (errE k e)) ∧ Ext w w' := by
 have H1 := Lib.hid (fun w1 (hx : Ext w w1) => ref22_Formed k (ExprR.stable k _ _ _ _ hx h) hs)
 have H2 := Lib.hid (fun w1 (hx : Ext w w1) => ref22_Depth k (ExprR.stable k _ _ _ _ hx h) hs hk)
 have hd := depthE_le k e
 have HE : Hid (errE k e = if formed k e then if depthE k e ≤ 40 then 0 else 3 else 1) := rfl
 obtain ⟨j, rfl⟩ : ∃ j, k = j + 1 := by cases k with | zero => exact h.elim | succ j => exact ⟨j, rfl⟩
 obtain ⟨u, v, sl, rfl, hu, hv, hsl⟩ := h
 clear hu hv hsl hs
 generalize formed (j + 1) e = fk at *
 generalize depthE (j + 1) e = dk at *
 generalize e.op = op at *
 generalize e.name = nm at *
 generalize e.value.num.neg = b1 at *
 generalize e.value.den.neg = b2 at *
 have HBX := Lib.hid (CellsAt.new w [.int .i64 op, .bool b1, u, .bool b2, v, .string nm, sl] 91)
 go_enter Tryz.func96, Tryz.ntmps96
 go_wp2_with fail
 refine (H1.out _ (by repeat first|exact xA _|assumption|refine xB ?_ _|refine xC ?_|refine xD ?_ _|refine xE ?_ (by simp <;> omega) _|refine xF ?_ (by assumption))).mono ?_
 rintro x w1 ⟨rfl, hx1⟩
 obtain ⟨y0, y1, y2, y3, y4, y5, y6⟩ := (HBX.out.ext hx1).seven
 have hE1 : Ext w w1 := (by repeat first|exact xA _|assumption|refine xB ?_ _|refine xC ?_|refine xD ?_ _|refine xE ?_ (by simp <;> omega) _|refine xF ?_ (by assumption))
 cases fk with
 | false =>
  go_wp2_with fail
  go_ret
  exact ⟨by rw [HE.out]; rfl, hE1⟩
 | true =>
  go_wp2_with fail
  refine (H2.out _ hE1).mono ?_
  rintro x w2 ⟨rfl, hx2⟩
  have hE2 : Ext w w2 := hE1.trans hx2
  by_cases h40 : dk ≤ 40
  ·have h40' : ¬ (40 < dk) := by omega
   have HE' : Hid (errE (j + 1) e = 0) := by show _ = _; rw [HE.out]; simp [h40]
   go_wp2_with fail
   go_ret
   exact ⟨by rw [HE'.out]; try rfl, hE2⟩
  ·have h40' : 40 < dk := by omega
   have HE' : Hid (errE (j + 1) e = 3) := by show _ = _; rw [HE.out]; simp [h40]
   go_wp2_with fail
   go_ret
   exact ⟨by rw [HE'.out]; try rfl, hE2⟩
end Go.Proofs.YtjigihlhjhbkpaaGreatDoor
