/- The program's copyRat, FromRat: what they return, as data. -/
import Derived.Test.YtjigihlhjhbkpaaGreatDoorYK
import Derived.Test.YtjigihlhjhbkpaaGreatDoorYC
import Derived.Test.YtjigihlhjhbkpaaGreatDoorYN
namespace Go.Proofs.YtjigihlhjhbkpaaGreatDoor
open Go Go.RowKit
set_option maxRecDepth 100000 in
set_option maxHeartbeats 800000 in
theorem clone_own_ {A : Option Addr} {n c : Nat} {xs : List Nat} {w : World} (h : Words w (.slice A n c) xs) :
  Calls Tryz.prog 98 #[.slice A n c] w (Ret w fun v w' => w'.ownsRow w.heap.size 127 1 v xs.length (wordVs xs)) := by
 obtain ⟨rfl, hl, hm⟩ := h.len
 have hL := h.limb
 have qn : ∀ (w : World) (a : Option Addr) (n c n' c' : Nat), (binOp .eql 45 (.slice a n c) (.slice none n' c')).run Tryz.prog w = .ok (.bool a.isNone) w := fun w a n c n' c' => Lib.run_eql_slice_nil w _ _ a n c n' c' Tryz.underlying45
 cases A with
 | none =>
  have hn : xs = [] := by
   by_cases h0 : 0 < xs.length
   ·obtain ⟨b, off, e, _⟩ := h.at_ h0; cases e
   ·exact List.eq_nil_of_length_eq_zero (by omega)
  subst hn
  go_enter Tryz.func98, Tryz.ntmps98
  go_wp2_with fail
  go_ret
  exact ⟨_, rfl, World.ownsRow_nil _ _ _ _, (by repeat first|exact xA _|assumption|refine xB ?_ _|refine xC ?_|refine xD ?_ _|refine xE ?_ (by simp <;> omega) _|refine xF ?_ (by assumption))⟩
 | some a =>
  have hnews : ∀ j u, (wordVs xs)[j]? = some u → w.cell? (a.add j) = some u := by
   intro j u hj
   obtain ⟨hjl, hju⟩ := List.getElem?_eq_some_iff.1 hj
   simp [wordVs] at hjl
   obtain ⟨b, off, e1, hb, -, hcell⟩ := h.at_ hjl
   injection e1 with e1
   subst e1
   have := hcell j hjl
   rw [Addr.add_lit, this, ← hju]
   simp [wordVs, List.getElem?_eq_getElem hjl]
  have HN := Lib.hid hnews
  have hown : (w.alloc (.cells #[] 127)).ownsRow w.heap.size 127 1 (.slice (some ⟨w.heap.size, 0, none⟩) 0 0) 0 [] :=
   ⟨rfl, .inr ⟨w.heap.size, 0, #[], rfl, Nat.le_refl _, by rw [heap_alloc_new], Nat.le_refl _, Nat.zero_le _, rfl, rfl⟩⟩
  have HO := Lib.hid hown
  have HL := Lib.hid (And.intro hm hL)
  have HW : Hid ((wordVs xs).length = xs.length * 1) := by show _ = _; simp [wordVs]
  have HU : Hid (∀ u ∈ wordVs xs, u.oneCell' = true) := (by intro u hu; simp [wordVs] at hu; obtain ⟨x, _, rfl⟩ := hu; rfl)
  clear h hnews hown hm hL
  generalize wordVs xs = ws at *
  generalize xs.length = n at *
  obtain ⟨i0, hi, hz0, hz1, hz2⟩ := info_parts infoU32
  go_enter Tryz.func98, Tryz.ntmps98
  go_wp2_with (at_builtin; refine wpList_append_own _ rfl _ _ 45 rfl w.heap.size 127 i0 (.int .u32 0) 1 4 Tryz.underlying45 hi hz0 hz1 hz2 rfl (by decide) _ 0 [] rfl HO.out a n c ws rfl HW.out ?c1 ?c2 (by have := HL.out.1; unfold maxLen; omega) (by have := HL.out.1; omega) (by simp) ?_)
  case c1 =>
   intro j u hj
   exact Lib.cell?_alloc_some _ (HN.out j u hj)
  case c2 => exact HU.out
  intro v' w' h1 h2 _
  have HF := Lib.hid h1
  obtain ⟨A', c', rfl⟩ : ∃ A c, v' = .slice A n c := by
   rcases h1.2 with ⟨h1, h2⟩ | ⟨g, cap, cur, h1, -⟩
   ·exact ⟨none, 0, by rw [h1, h2]⟩
   ·exact ⟨_, _, h1⟩
  go_wp2_with fail
  go_ret
  exact ⟨_, rfl, by simpa using HF.out, (Below.refl _ _).alloc (Nat.le_refl _) _ |>.grown h2 (by simp) (fun k e => by cases e; simp)⟩
theorem clone_fresh {A : Option Addr} {n c : Nat} {xs : List Nat} {w : World} (h : Words w (.slice A n c) xs) :
  Calls Tryz.prog 98 #[.slice A n c] w (Ret w fun v w' => Words w' v xs ∧ FreshV w.heap.size v) := by
 refine (clone_own_ h).mono ?_
 rintro e w1 ⟨v, rfl, ho, hx⟩
 refine ⟨v, rfl, ⟨words_of_own ho h.limb (by have := h.len; omega), fun a n c e => ?_⟩, hx⟩
 subst e
 exact (ho.lt a.block rfl).1
set_option maxRecDepth 100000 in
set_option maxHeartbeats 1600000 in
theorem num_copyRatD {a b : Bool} {xs ys : List Nat} {v v' : Value} {w : World} (h : Words w v xs) (h' : Words w v' ys) :
  Calls Tryz.prog 53 #[.agg #[.bool a, v, .bool b, v']] w (Ret w fun r w' => ∃ A1 n1 c1 A2 n2 c2, r = .agg #[.bool a, .slice A1 n1 c1, .bool b, .slice A2 n2 c2] ∧ Words w' (.slice A1 n1 c1) xs ∧ Words w' (.slice A2 n2 c2) ys ∧ FreshV w.heap.size (.slice A1 n1 c1) ∧ FreshV w.heap.size (.slice A2 n2 c2)) := by
 obtain ⟨A, c, rfl, hl, hm⟩ := h.form
 obtain ⟨A', c', rfl, hl', hm'⟩ := h'.form
 have HC1 := Lib.hid (fun w1 (hx : Ext w w1) => clone_fresh (h.ext hx))
 have HC2 := Lib.hid (fun w1 (hx : Ext w w1) => clone_fresh (h'.ext hx))
 clear h h'
 generalize xs.length = n at *
 generalize ys.length = n' at *
 obtain ⟨W0, hW0⟩ : ∃ W0, ((w.alloc (.cells #[.bool a, .slice A n c, .bool b, .slice A' n' c'] 49)).alloc (.cells #[.bool false, .slice none 0 0, .bool false, .slice none 0 0] 49)) = W0 := ⟨_, rfl⟩
 have HB0 : Hid (CellsAt W0 w.heap.size [.bool a, .slice A n c, .bool b, .slice A' n' c']) := by rw [← hW0]; exact (CellsAt.new w _ _).ext (Ext.alloc _ _)
 have HR0 : Hid (CellsAt W0 (w.heap.size + 1) [.bool false, .slice none 0 0, .bool false, .slice none 0 0]) := by
  rw [← hW0]; have := CellsAt.new (w.alloc (.cells #[.bool a, .slice A n c, .bool b, .slice A' n' c'] 49)) [.bool false, .slice none 0 0, .bool false, .slice none 0 0] 49
  rwa [World.size_alloc] at this
 have hf0 : ∀ j, W0.frozen? ⟨w.heap.size, j, none⟩ = false ∧ W0.frozen? ⟨w.heap.size + 1, j, none⟩ = false := fun j => by rw [← hW0]; simp [go_sem]
 have HF0 : Hid (∀ W j, Ext W0 W → W.frozen? ⟨w.heap.size, j, none⟩ = false ∧ W.frozen? ⟨w.heap.size + 1, j, none⟩ = false) := fun W j hx => ⟨(Below.frozen hx HB0.out.1).trans (hf0 j).1, (Below.frozen hx HR0.out.1).trans (hf0 j).2⟩
 have HN0 : Hid (∀ W, Ext W0 W → NoWord W w.heap.size ∧ NoWord W (w.heap.size + 1)) := fun W hx => by
  have n1 : NoWord W0 w.heap.size := by rw [← hW0]; exact (NoWord.new w _ _ (by simp)).ext (by simp) (Ext.alloc _ _)
  have n2 : NoWord W0 (w.heap.size + 1) := by
   rw [← hW0]; have := NoWord.new (w.alloc (.cells #[.bool a, .slice A n c, .bool b, .slice A' n' c'] 49)) #[.bool false, .slice none 0 0, .bool false, .slice none 0 0] 49 (by simp)
   rwa [World.size_alloc] at this
  exact ⟨n1.ext HB0.out.1 hx, n2.ext HR0.out.1 hx⟩
 have HE0 : Hid (Ext w W0) := by rw [← hW0]; exact (by repeat first|exact xA _|assumption|refine xB ?_ _|refine xC ?_|refine xD ?_ _|refine xE ?_ (by simp <;> omega) _|refine xF ?_ (by assumption))
 have HW0 := Lib.hid hW0
 clear hW0 hf0
 go_enter Tryz.func53, Tryz.ntmps53
 go_upto_region 1 with fail
 rw [HW0.out]
 obtain ⟨y0, y1, y2, y3⟩ := HB0.out.four
 have hE0 := HE0.out
 go_cut [3] (fun _ wx => ∃ A1 n1 c1 A2 n2 c2, Hid (CellsAt wx w.heap.size [.bool a, .slice A1 n1 c1, .bool b, .slice A2 n2 c2] ∧ CellsAt wx (w.heap.size + 1) [.bool false, .slice none 0 0, .bool false, .slice none 0 0] ∧ (∀ j, wx.frozen? ⟨w.heap.size + 1, j, none⟩ = false) ∧ Ext w wx) ∧ Hid (Words wx (.slice A1 n1 c1) xs ∧ Words wx (.slice A2 n2 c2) ys ∧ NoWord wx (w.heap.size + 1) ∧ FreshV w.heap.size (.slice A1 n1 c1) ∧ FreshV w.heap.size (.slice A2 n2 c2)))
 case first =>
  go_region_with (first
   | (go_at_call_of 98 (Value.slice A n c); refine (HC1.out _ (by repeat first|exact xA _|assumption|refine xB ?_ _|refine xC ?_|refine xD ?_ _|refine xE ?_ (by simp <;> omega) _|refine xF ?_ (by assumption))).mono ?_; rintro e w2 ⟨r2, rfl, ⟨hr2, hq2⟩, hx2⟩; have HR2 := Lib.hid hr2; have HQ2 := Lib.hid (hq2.mono (B' := w.heap.size) (by have := HE0.out.size; simp; omega)); clear hq2; obtain ⟨X1, k1, rfl, -, -⟩ := hr2.form; clear hr2; generalize xs.length = m1 at *; obtain ⟨p0, p1, p2, p3⟩ := (HB0.out.ext (w' := w2) (by repeat first|exact xA _|assumption|refine xB ?_ _|refine xC ?_|refine xD ?_ _|refine xE ?_ (by simp <;> omega) _|refine xF ?_ (by assumption))).four; have g1 := (HF0.out w2 1 (by repeat first|exact xA _|assumption|refine xB ?_ _|refine xC ?_|refine xD ?_ _|refine xE ?_ (by simp <;> omega) _|refine xF ?_ (by assumption))).1; have g3 := (HF0.out w2 3 (by repeat first|exact xA _|assumption|refine xB ?_ _|refine xC ?_|refine xD ?_ _|refine xE ?_ (by simp <;> omega) _|refine xF ?_ (by assumption))).1)
   | (go_at_call_of 98 (Value.slice A' n' c'); refine (HC2.out _ (by repeat first|exact xA _|assumption|refine xB ?_ _|refine xC ?_|refine xD ?_ _|refine xE ?_ (by simp <;> omega) _|refine xF ?_ (by assumption))).mono ?_; rintro e w3 ⟨r3, rfl, ⟨hr3, hq3⟩, hx3⟩; have HR3 := Lib.hid hr3; have HQ3 := Lib.hid (hq3.mono (B' := w.heap.size) (by have := HE0.out.size; have := hx2.size; simp at *; omega)); clear hq3; obtain ⟨X2, k2, rfl, -, -⟩ := hr3.form; clear hr3; generalize ys.length = m2 at *; obtain ⟨p0', p1', p2', p3'⟩ := (HB0.out.ext (w' := w3) (by repeat first|exact xA _|assumption|refine xB ?_ _|refine xC ?_|refine xD ?_ _|refine xE ?_ (by simp <;> omega) _|refine xF ?_ (by assumption))).four; have g1' := (HF0.out w3 1 (by repeat first|exact xA _|assumption|refine xB ?_ _|refine xC ?_|refine xD ?_ _|refine xE ?_ (by simp <;> omega) _|refine xF ?_ (by assumption))).1; have g3' := (HF0.out w3 3 (by repeat first|exact xA _|assumption|refine xB ?_ _|refine xC ?_|refine xD ?_ _|refine xE ?_ (by simp <;> omega) _|refine xF ?_ (by assumption))).1))
  all_goals
   go_wp2_with fail
   go_meet
   have hnw := HN0.out w3 (by repeat first|exact xA _|assumption|refine xB ?_ _|refine xC ?_|refine xD ?_ _|refine xE ?_ (by simp <;> omega) _|refine xF ?_ (by assumption))
   exact ⟨X1, m1, k1, X2, m2, k2, put13 (HB0.out.ext (w' := w3) (by repeat first|exact xA _|assumption|refine xB ?_ _|refine xC ?_|refine xD ?_ _|refine xE ?_ (by simp <;> omega) _|refine xF ?_ (by assumption))) (HR0.out.ext (w' := w3) (by repeat first|exact xA _|assumption|refine xB ?_ _|refine xC ?_|refine xD ?_ _|refine xE ?_ (by simp <;> omega) _|refine xF ?_ (by assumption))) (by omega) (fun j => (HF0.out w3 j (by repeat first|exact xA _|assumption|refine xB ?_ _|refine xC ?_|refine xD ?_ _|refine xE ?_ (by simp <;> omega) _|refine xF ?_ (by assumption))).2) (by repeat first|exact xA _|assumption|refine xB ?_ _|refine xC ?_|refine xD ?_ _|refine xE ?_ (by simp <;> omega) _|refine xF ?_ (by assumption)) (Nat.le_refl _),
    ((HR2.out.ext hx3).box hnw.1 _ _).box (hnw.1.set_ _ (by simp)) _ _, (HR3.out.box hnw.1 _ _).box (hnw.1.set_ _ (by simp)) _ _, (fun j n => by rw [cell_set_blk (by omega), cell_set_blk (by omega)]; exact hnw.2 j n), HQ2.out, HQ3.out⟩
 case rest =>
  obtain ⟨A1, n1, c1, A2, n2, c2, HX, HY⟩ := hcut
  obtain ⟨y0, y1, y2, y3⟩ := HX.out.1.four
  obtain ⟨z0, z1, z2, z3⟩ := HX.out.2.1.four
  have f0 := HX.out.2.2.1 0
  have f1 := HX.out.2.2.1 1
  have f2 := HX.out.2.2.1 2
  have f3 := HX.out.2.2.1 3
  have hE := HX.out.2.2.2
  go_wp2_with fail
  obtain ⟨hy1, hy2, hy3, hy4, hy5⟩ := HY.out
  refine bodyPost_ret (v := .agg #[.bool a, .slice A1 n1 c1, .bool b, .slice A2 n2 c2]) ?_ rfl ⟨_, rfl, ⟨_, _, _, _, _, _, rfl, ?_, ?_, hy4, hy5⟩, ?_⟩
  ·simp [results, Tryz.results53, go_sem, z0, z1, z2, z3]
  ·exact (((hy1.box hy3 _ _).box (hy3.set_ _ (by simp)) _ _).box ((hy3.set_ _ (by simp)).set_ _ (by simp)) _ _).box (((hy3.set_ _ (by simp)).set_ _ (by simp)).set_ _ (by simp)) _ _
  ·exact (((hy2.box hy3 _ _).box (hy3.set_ _ (by simp)) _ _).box ((hy3.set_ _ (by simp)).set_ _ (by simp)) _ _).box (((hy3.set_ _ (by simp)).set_ _ (by simp)).set_ _ (by simp)) _ _
  ·exact (((hE.pset (by simp) _).pset (by simp) _).pset (by simp) _).pset (by simp) _
/-- A rational number in memory; a number of one rational coefficient. -/
def QR (w : World) (cs : List Value) (q : QI) : Prop := ∃ u v, cs = [.bool q.num.neg, u, .bool q.den.neg, v] ∧ Words w u q.num.mag ∧ Words w v q.den.mag
theorem QR.stable : Stable QR := fun _ _ _ _ hx => by
 rintro ⟨u, v, h, h1, h2⟩
 exact ⟨u, v, h, h1.ext hx, h2.ext hx⟩
def NumR (w : World) (cs : List Value) (q : QI) : Prop := ∃ A c, cs = [.slice none 0 0, .slice A 1 c] ∧ ArrAt 4 QR w (.slice A 1 c) [q]
theorem NumR.stable : Stable NumR := fun _ _ _ _ hx => by
 rintro ⟨A, c, h, h1⟩
 exact ⟨A, c, h, h1.ext QR.stable hx⟩
theorem NumR.one : ∀ (w : World) (ds : List Value) (x : QI), NumR w ds x → ∀ u ∈ ds, u.oneCell' = true := by
 rintro w ds x ⟨A, c, rfl, -⟩ y hy
 simp only [List.mem_cons, List.not_mem_nil, or_false] at hy
 rcases hy with rfl | rfl <;> rfl
theorem arr_one' {α : Type} {sz : Nat} {R : World → List Value → α → Prop} {w : World} {g c : Nat} {x : α} {cs : List Value} (hg : g < w.heap.size) (hl : cs.length = sz) (hc : ∀ j u, cs[j]? = some u → w.cell? ⟨g, j, none⟩ = some u) (hR : R w cs x) (h1 : 1 ≤ c) : ArrAt sz R w (.slice (some ⟨g, 0, none⟩) 1 c) [x] :=
 ⟨some ⟨g, 0, none⟩, c, rfl, h1, by simp, fun _ => ⟨g, 0, rfl, hg, fun k y hk => by
  match k, hk with
  | 0, hk =>
   simp only [List.getElem?_cons_zero, Option.some.injEq] at hk
   subst hk
   exact ⟨cs, hl, fun j u hj => by rw [Nat.zero_mul, Nat.zero_add, Nat.zero_add]; exact hc j u hj, hR⟩
  | k + 1, hk => simp at hk⟩⟩
theorem Words.grown {w w' : World} {v : Value} {xs : List Nat} {row : Option Nat} (h : Words w v xs) (hg : w.grownBy w' row) (hne : ∀ a n c, v = .slice (some a) n c → 0 < n → some a.block ≠ row) : Words w' v xs := by
 obtain ⟨A, c, rfl, hl, hm, hL, hc⟩ := h
 refine ⟨A, c, rfl, hl, hm, hL, fun h0 => ?_⟩
 obtain ⟨b, off, rfl, hb, hk⟩ := hc h0
 have e := hg.block b hb (hne _ _ _ rfl h0)
 exact ⟨b, off, rfl, Nat.lt_of_lt_of_le hb hg.size, fun k hkx => (World.cell?_of_block (a := ⟨b, off + k, none⟩) e).trans (hk k hkx)⟩
/-- A number whose words and whose array lie in no block of some rows. -/
theorem num_off {w : World} {g : Nat} {u v : Value} {q : QI} {row : Option Nat} (hc : CellsAt w g [.bool q.num.neg, u, .bool q.den.neg, v]) (hu : Words w u q.num.mag) (hv : Words w v q.den.mag) (hg : some g ≠ row)
  (hu' : ∀ a n c, u = .slice (some a) n c → 0 < n → some a.block ≠ row) (hv' : ∀ a n c, v = .slice (some a) n c → 0 < n → some a.block ≠ row) : Off row NumR w [.slice none 0 0, .slice (some ⟨g, 0, none⟩) 1 1] q := fun w' hgr => by
 have hc' := hc.far hgr hg
 exact ⟨_, _, rfl, arr_one' hc'.1 rfl (fun j x hj => hc'.2 j x hj) ⟨_, _, rfl, hu.grown hgr hu', hv.grown hgr hv'⟩ (Nat.le_refl _)⟩
set_option maxRecDepth 100000 in
set_option maxHeartbeats 1600000 in
theorem num_FromRatD {q : QI} {v v' : Value} {w : World} (h : Words w v q.num.mag) (h' : Words w v' q.den.mag) :
  Calls Tryz.prog 17 #[.agg #[.bool q.num.neg, v, .bool q.den.neg, v']] w (Ret w fun r w' => ∃ A, r = .agg #[.slice none 0 0, .slice A 1 1] ∧ ∀ row, (∀ r, row = some r → r < w.heap.size) → Off row NumR w' [.slice none 0 0, .slice A 1 1] q) := by
 obtain ⟨A, c, rfl, hl, hm⟩ := h.form
 obtain ⟨A', c', rfl, hl', hm'⟩ := h'.form
 have HC := Lib.hid (fun w1 (hx : Ext w w1) => num_copyRatD (a := q.num.neg) (b := q.den.neg) (h.ext hx) (h'.ext hx))
 clear h h'
 generalize q.num.mag.length = n at *
 generalize q.den.mag.length = n' at *
 go_enter Tryz.func17, Tryz.ntmps17
 go_wp2_with fail
 refine (HC.out _ (by repeat first|exact xA _|assumption|refine xB ?_ _|refine xC ?_|refine xD ?_ _|refine xE ?_ (by simp <;> omega) _|refine xF ?_ (by assumption))).mono ?_
 rintro e w1 ⟨r, rfl, ⟨A1, n1, c1, A2, n2, c2, rfl, hu, hv, hfu, hfv⟩, hx1⟩
 have HU := Lib.hid (And.intro hu hv)
 have HFV : Hid (FreshV w.heap.size (.slice A1 n1 c1) ∧ FreshV w.heap.size (.slice A2 n2 c2)) := ⟨hfu.mono (by simp; omega), hfv.mono (by simp; omega)⟩
 clear hu hv hfu hfv
 obtain ⟨hc, hf⟩ := bcell hx1
 have hz : w.heap.size + 1 < w1.heap.size := by have := hx1.size; simp at this; omega
 have hE : Ext w w1 := (by repeat first|exact xA _|assumption|refine xB ?_ _|refine xC ?_|refine xD ?_ _|refine xE ?_ (by simp <;> omega) _|refine xF ?_ (by assumption))
 go_wp2_with fail
 refine bodyPost_ret (v := .agg #[.slice none 0 0, .slice (some ⟨w1.heap.size, 0, none⟩) 1 1]) ?_ rfl ⟨_, rfl, ⟨_, rfl, fun row hrow => ?_⟩, ?_⟩
 ·simp [results, Tryz.results17, go_sem, hc, hz]
 ·have hnw : NoWord w1 (w.heap.size + 1) := by
   have := NoWord.new (w.alloc (.cells #[.bool q.num.neg, .slice A n c, .bool q.den.neg, .slice A' n' c'] 49)) #[.slice none 0 0, .slice none 0 0] 38 (by simp)
   rw [World.size_alloc] at this
   exact this.ext (by simp) hx1
  have hs : ((w1.setCell ⟨w.heap.size + 1, 0, none⟩ (.slice none 0 0)).setCell ⟨w.heap.size + 1, 1, none⟩ (.slice (some ⟨w1.heap.size, 0, none⟩) 1 1)).heap.size = w1.heap.size := by simp [World.setCell]
  have hcs := CellsAt.new ((w1.setCell ⟨w.heap.size + 1, 0, none⟩ (.slice none 0 0)).setCell ⟨w.heap.size + 1, 1, none⟩ (.slice (some ⟨w1.heap.size, 0, none⟩) 1 1)) [.bool q.num.neg, .slice A1 n1 c1, .bool q.den.neg, .slice A2 n2 c2] 49
  rw [hs] at hcs
  refine num_off hcs (((HU.out.1.box hnw _ _).box (hnw.set_ _ (by simp)) _ _).ext (Ext.alloc _ _)) (((HU.out.2.box hnw _ _).box (hnw.set_ _ (by simp)) _ _).ext (Ext.alloc _ _)) ?_ ?_ ?_
  ·intro e; have := hrow _ e.symm; omega
  ·intro a n c e _ e2
   have h1 := HFV.out.1 a n c e
   have h2 := hrow _ e2.symm
   omega
  ·intro a n c e _ e2
   have h1 := HFV.out.2 a n c e
   have h2 := hrow _ e2.symm
   omega
 ·repeat (first | with_reducible exact hE | refine Ext.palloc ?_ _ | refine Ext.pset ?_ (by simp) _)
end Go.Proofs.YtjigihlhjhbkpaaGreatDoor
namespace Go.Proofs.YtjigihlhjhbkpaaGreatDoor
open Go Go.RowKit
def coordsL (l : List PtI) : List QI := l.flatMap fun p => [p.x, p.y]
def drawnL (s : SkI) : List QI := coordsL s.points ++ s.circles.map (·.radius)
theorem coordsL_take {l : List PtI} {k : Nat} (hk : k < l.length) : coordsL (l.take (k + 1)) = coordsL (l.take k) ++ [l[k].x, l[k].y] := by
 rw [List.take_succ_eq_append_getElem hk]; unfold coordsL; rw [List.flatMap_append]; rfl
theorem coordsL_length (l : List PtI) : (coordsL l).length = 2 * l.length := by
 induction l with
 | nil => rfl
 | cons p l ih => simp only [coordsL, List.flatMap_cons, List.length_append, List.length_cons, List.length_nil] at ih ⊢; omega
theorem drawnL_length (s : SkI) : (drawnL s).length = 2 * s.points.length + s.circles.length := by rw [drawnL, List.length_append, coordsL_length, List.length_map]
theorem num_two {W : World} {row : Option Nat} {C1 C2 : Value} {q1 q2 : QI} (h1 : Off row NumR W [.slice none 0 0, C1] q1) (h2 : Off row NumR W [.slice none 0 0, C2] q2) :
  ArrAt 2 (Off row NumR) (W.alloc (.cells #[.slice none 0 0, C1, .slice none 0 0, C2] 38)) (.slice (some ⟨W.heap.size, 0, none⟩) 2 2) [q1, q2] := by
 have hc := CellsAt.new W [.slice none 0 0, C1, .slice none 0 0, C2] 38
 refine ⟨_, 2, rfl, Nat.le_refl _, by simp, fun _ => ⟨W.heap.size, 0, rfl, by simp, fun k x hk => ?_⟩⟩
 match k, hk with
 | 0, hk =>
  simp only [List.getElem?_cons_zero, Option.some.injEq] at hk
  subst hk
  refine ⟨[.slice none 0 0, C1], rfl, fun j u hj => ?_, h1.ext (Ext.alloc _ _)⟩
  match j, hj with
  | 0, hj => exact hc.2 0 u hj
  | 1, hj => exact hc.2 1 u hj
  | j + 2, hj => simp at hj
 | 1, hk =>
  simp only [List.getElem?_cons_succ, List.getElem?_cons_zero, Option.some.injEq] at hk
  subst hk
  refine ⟨[.slice none 0 0, C2], rfl, fun j u hj => ?_, h2.ext (Ext.alloc _ _)⟩
  match j, hj with
  | 0, hj => exact hc.2 2 u hj
  | 1, hj => exact hc.2 3 u hj
  | j + 2, hj => simp at hj
 | k + 2, hk => simp at hk
theorem num_single {W : World} {row : Option Nat} {C1 : Value} {q1 : QI} (h1 : Off row NumR W [.slice none 0 0, C1] q1) :
  ArrAt 2 (Off row NumR) (W.alloc (.cells #[.slice none 0 0, C1] 38)) (.slice (some ⟨W.heap.size, 0, none⟩) 1 1) [q1] := by
 have hc := CellsAt.new W [.slice none 0 0, C1] 38
 exact arr_one' hc.1 rfl (fun j u hj => hc.2 j u hj) (h1.ext (Ext.alloc _ _)) (Nat.le_refl _)
set_option maxRecDepth 100000 in
set_option maxHeartbeats 3200000 in
theorem sketch_DrawnD {K : Nat} {s : SkI} {v0 v1 v2 v3 v4 v5 : Value} {w : World} (h : SkAt K w v0 v1 v2 v3 v4 v5 s) (hp : s.points.length ≤ 1000) (hc : s.circles.length ≤ 1000) :
  Calls Tryz.prog 6 #[.agg #[v0, v1, v2, v3, v4, v5]] w (Ret w fun r w' => ∃ A n c, r = .slice A n c ∧ ArrAt 2 NumR w' (.slice A n c) (drawnL s)) := by
 obtain ⟨A0, c0, rfl, hl0, hm0⟩ := h.points.form
 obtain ⟨A1, c1, rfl, hl1, hm1⟩ := h.circles.form
 have HPT := Lib.hid h.points
 have HCI := Lib.hid h.circles
 have HBX := Lib.hid (CellsAt.new w [.slice A0 s.points.length c0, .slice A1 s.circles.length c1, v2, v3, v4, v5] 29)
 obtain ⟨w1, hw1⟩ : ∃ w1, w.alloc (.cells #[.slice A0 s.points.length c0, .slice A1 s.circles.length c1, v2, v3, v4, v5] 29) = w1 := ⟨_, rfl⟩
 have HE1 : Hid (Ext w w1) := by rw [← hw1]; exact Ext.alloc _ _
 have HB1 : Hid (CellsAt w1 w.heap.size [.slice A0 s.points.length c0, .slice A1 s.circles.length c1, v2, v3, v4, v5]) := by rw [← hw1]; exact HBX.out
 have HW1 := Lib.hid hw1
 clear hw1 HBX h
 obtain ⟨i0, hi, hz0, hz1, hz2⟩ := info_parts infoNum
 have hE1 := HE1.out
 obtain ⟨y0, y1, y2, y3, y4, y5⟩ := HB1.out.six
 go_enter Tryz.func6, Tryz.ntmps6
 go_upto_region 1 with fail
 rw [HW1.out]
 go_wp2_with fail
 clear y0 y1 y2 y3 y4 y5
 go_loopg [3, 11] s.points.length (fun gk v x wr => ∃ (k n : Nat) (l : List QI) (A : Option Addr) (c : Nat), v = .slice A n c ∧ x = .int .i64 (k : Int) ∧ k + gk = s.points.length ∧ Hid (l = coordsL (s.points.take k)) ∧ Hid (RowOf 38 2 NumR w1.heap.size wr (.slice A n c) l) ∧ Hid (Ext w1 wr))
 case atStart => exact ⟨0, 0, [], none, 0, rfl, rfl, by omega, rfl, RowOf.nil, Ext.refl _⟩
 case round =>
  obtain ⟨k, n, l, A, c, rfl, rfl, hk, HL, HO, HE⟩ := hrel
  have HB2 := Lib.hid (HB1.out.ext HE.out)
  obtain ⟨y0, y1, y2, y3, y4, y5⟩ := HB2.out.six
  have hE0 := HE.out
  have hEr : Ext w wr := Ext.trans hE1 HE.out
  by_cases hlt : k < s.points.length
  ·obtain ⟨b, off, rfl, hb, ds, hds, hcell, u, v, u', v', rfl, hu, hv, hu', hv'⟩ := HPT.out.at_ hlt
   have q0 : wr.cell? ⟨b, off + k * 8, none⟩ = _ := (hEr.cell (p := ⟨b, off + (k * 8 + 0), none⟩) hb).trans (hcell 0 _ rfl)
   have q1 : wr.cell? ⟨b, off + k * 8 + 1, none⟩ = _ := (hEr.cell (p := ⟨b, off + (k * 8 + 1), none⟩) hb).trans (hcell 1 _ rfl)
   have q2 : wr.cell? ⟨b, off + k * 8 + 2, none⟩ = _ := (hEr.cell (p := ⟨b, off + (k * 8 + 2), none⟩) hb).trans (hcell 2 _ rfl)
   have q3 : wr.cell? ⟨b, off + k * 8 + 3, none⟩ = _ := (hEr.cell (p := ⟨b, off + (k * 8 + 3), none⟩) hb).trans (hcell 3 _ rfl)
   have q4 : wr.cell? ⟨b, off + k * 8 + 4, none⟩ = _ := (hEr.cell (p := ⟨b, off + (k * 8 + 4), none⟩) hb).trans (hcell 4 _ rfl)
   have q5 : wr.cell? ⟨b, off + k * 8 + 5, none⟩ = _ := (hEr.cell (p := ⟨b, off + (k * 8 + 5), none⟩) hb).trans (hcell 5 _ rfl)
   have q6 : wr.cell? ⟨b, off + k * 8 + 6, none⟩ = _ := (hEr.cell (p := ⟨b, off + (k * 8 + 6), none⟩) hb).trans (hcell 6 _ rfl)
   have q7 : wr.cell? ⟨b, off + k * 8 + 7, none⟩ = _ := (hEr.cell (p := ⟨b, off + (k * 8 + 7), none⟩) hb).trans (hcell 7 _ rfl)
   obtain ⟨D1, d1, rfl, hd1, hd1'⟩ := hu.form
   obtain ⟨D2, d2, rfl, hd2, hd2'⟩ := hv.form
   obtain ⟨D3, d3, rfl, hd3, hd3'⟩ := hu'.form
   obtain ⟨D4, d4, rfl, hd4, hd4'⟩ := hv'.form
   have HV1 := Lib.hid (fun w2 (hx : Ext w w2) => num_FromRatD (q := s.points[k].x) (hu.ext hx) (hv.ext hx))
   have HV2 := Lib.hid (fun w2 (hx : Ext w w2) => num_FromRatD (q := s.points[k].y) (hu'.ext hx) (hv'.ext hx))
   have HTK := Lib.hid (coordsL_take hlt)
   have HLN : Hid (l.length = 2 * k) := by show _ = _; rw [HL.out, coordsL_length, List.length_take]; omega
   clear hu hv hu' hv' hcell hds
   generalize s.points[k].x = qx at *
   generalize s.points[k].y = qy at *
   generalize qx.num.neg = n1 at *
   generalize qx.den.neg = n2 at *
   generalize qy.num.neg = n3 at *
   generalize qy.den.neg = n4 at *
   generalize qx.num.mag.length = l1 at *
   generalize qx.den.mag.length = l2 at *
   generalize qy.num.mag.length = l3 at *
   generalize qy.den.mag.length = l4 at *
   have hz3 : b < wr.heap.size := Nat.lt_of_lt_of_le hb hEr.size
   go_upto_region 5 with fail
   obtain ⟨W0, hW0⟩ : ∃ W0, wr.alloc (.cells #[.bool n1, .slice D1 l1 d1, .bool n2, .slice D2 l2 d2, .bool n3, .slice D3 l3 d3, .bool n4, .slice D4 l4 d4] 51) = W0 := ⟨_, rfl⟩
   have HP0 : Hid (CellsAt W0 wr.heap.size [.bool n1, .slice D1 l1 d1, .bool n2, .slice D2 l2 d2, .bool n3, .slice D3 l3 d3, .bool n4, .slice D4 l4 d4]) := by rw [← hW0]; exact CellsAt.new _ _ _
   have hEx : Ext wr W0 := by rw [← hW0]; exact Ext.alloc _ _
   have HO0 := Lib.hid (HO.out.ext hEx)
   have HLR : Hid (∀ r, (Value.slice A n c).ownBlock = some r → r < W0.heap.size) := fun r hr => (HO0.out.lt r hr).2
   rw [hW0]
   have HX0 : Hid (Ext w1 W0) := hE0.trans hEx
   have HXw : Hid (Ext w W0) := hEr.trans hEx
   have hXw := HXw.out
   clear hW0 y0 y1 y2 y3 y4 y5 q0 q1 q2 q3 q4 q5 q6 q7 hE0 hEr hEx HO
   have p0 := HP0.out.2 0 _ rfl
   have p1 := HP0.out.2 1 _ rfl
   have p2 := HP0.out.2 2 _ rfl
   have p3 := HP0.out.2 3 _ rfl
   have p4 := HP0.out.2 4 _ rfl
   have p5 := HP0.out.2 5 _ rfl
   have p6 := HP0.out.2 6 _ rfl
   have p7 := HP0.out.2 7 _ rfl
   go_region_law (first
    | (refine step_append_row _ (by rfl) _ _ 32 (by rfl) 38 i0 (.agg #[.slice none 0 0, .slice none 0 0]) 2 48 Tryz.underlying32 hi hz0 hz1 hz2 (by rfl) (by decide) _ (by rfl) (HO0.out.ext (by repeat first|exact xA _|assumption|refine xB ?_ _|refine xC ?_|refine xD ?_ _|refine xE ?_ (by simp <;> omega) _|refine xF ?_ (by assumption))) _ (by rfl) (num_two (HQ1.out.ext hx3) HQ2.out) NumR.one (by have := HLN.out; unfold maxLen; simp; omega) (by have := HLN.out; simp; omega) (by have h1 := HX0.out.size; have h2 := hx2.size; have h3 := hx3.size; simp at h1 h2 h3 ⊢; omega) ?_; intro A4 c4 w4 hrow4 hgr4 hat4)
    | (go_simp; go_at_call_of 17 (Value.slice D1 l1 d1); refine (HV1.out _ (by repeat first|exact xA _|assumption|refine xB ?_ _|refine xC ?_|refine xD ?_ _|refine xE ?_ (by simp <;> omega) _|refine xF ?_ (by assumption))).mono ?_; rintro e w2 ⟨r2, rfl, ⟨X1, rfl, hof1⟩, hx2⟩; have HQ1 := Lib.hid (hof1 (Value.slice A n c).ownBlock (fun r hr => HLR.out r hr)); clear hof1; have p4 := ((HP0.out.ext (w' := w2) (by repeat first|exact xA _|assumption|refine xB ?_ _|refine xC ?_|refine xD ?_ _|refine xE ?_ (by simp <;> omega) _|refine xF ?_ (by assumption)))).2 4 _ rfl; have p5 := ((HP0.out.ext (w' := w2) (by repeat first|exact xA _|assumption|refine xB ?_ _|refine xC ?_|refine xD ?_ _|refine xE ?_ (by simp <;> omega) _|refine xF ?_ (by assumption)))).2 5 _ rfl; have p6 := ((HP0.out.ext (w' := w2) (by repeat first|exact xA _|assumption|refine xB ?_ _|refine xC ?_|refine xD ?_ _|refine xE ?_ (by simp <;> omega) _|refine xF ?_ (by assumption)))).2 6 _ rfl; have p7 := ((HP0.out.ext (w' := w2) (by repeat first|exact xA _|assumption|refine xB ?_ _|refine xC ?_|refine xD ?_ _|refine xE ?_ (by simp <;> omega) _|refine xF ?_ (by assumption)))).2 7 _ rfl)
    | (go_simp; go_at_call_of 17 (Value.slice D3 l3 d3); refine (HV2.out _ (by repeat first|exact xA _|assumption|refine xB ?_ _|refine xC ?_|refine xD ?_ _|refine xE ?_ (by simp <;> omega) _|refine xF ?_ (by assumption))).mono ?_; rintro e w3 ⟨r3, rfl, ⟨X2, rfl, hof2⟩, hx3⟩; have HQ2 := Lib.hid (hof2 (Value.slice A n c).ownBlock (fun r hr => Nat.lt_of_lt_of_le (HLR.out r hr) hx2.size)); clear hof2))
   all_goals
    have hX0 := HX0.out
    go_wp2_with fail
    go_roundg (s.points.length - (k + 1))
    case measure => omega
    case rel => exact ⟨k + 1, _, l ++ [qx, qy], A4, c4, rfl, by simp, by omega, (by show _ = _; rw [HL.out, HTK.out]), (by have h := hrow4; rw [List.length_append] at h; exact h), ext_grown hgr4 (by repeat first|exact xA _|assumption|refine xB ?_ _|refine xC ?_|refine xD ?_ _|refine xE ?_ (by simp <;> omega) _|refine xF ?_ (by assumption)) (fun r hr => (HO0.out.lt r hr).1)⟩
  ·obtain rfl : k = s.points.length := by omega
   clear HPT
   go_wp2_with fail
   clear y0 y1 y2 y3 y4 y5
   go_loopg [3, 28] s.circles.length (fun gk v x wr => ∃ (j n : Nat) (l : List QI) (A : Option Addr) (c : Nat), v = .slice A n c ∧ x = .int .i64 (j : Int) ∧ j + gk = s.circles.length ∧ Hid (l = coordsL s.points ++ (s.circles.take j).map (·.radius)) ∧ Hid (RowOf 38 2 NumR w1.heap.size wr (.slice A n c) l) ∧ Hid (Ext w1 wr))
   case atStart => exact ⟨0, _, l, _, _, rfl, rfl, by omega, (by show _ = _; rw [HL.out]; simp), HO, HE⟩
   case round =>
    clear HE HO hE0 hEr HL
    obtain ⟨k, n, l, A, c, rfl, rfl, hk, HL, HO, HE⟩ := hrel
    have HB2 := Lib.hid (HB1.out.ext HE.out)
    obtain ⟨y0, y1, y2, y3, y4, y5⟩ := HB2.out.six
    have hE0 := HE.out
    have hEr : Ext w wr := Ext.trans hE1 HE.out
    by_cases hlt : k < s.circles.length
    ·obtain ⟨b, off, rfl, hb, ds, hds, hcell, u, v, rfl, hu, hv⟩ := HCI.out.at_ hlt
     have q0 : wr.cell? ⟨b, off + k * 5, none⟩ = _ := (hEr.cell (p := ⟨b, off + (k * 5 + 0), none⟩) hb).trans (hcell 0 _ rfl)
     have q1 : wr.cell? ⟨b, off + k * 5 + 1, none⟩ = _ := (hEr.cell (p := ⟨b, off + (k * 5 + 1), none⟩) hb).trans (hcell 1 _ rfl)
     have q2 : wr.cell? ⟨b, off + k * 5 + 2, none⟩ = _ := (hEr.cell (p := ⟨b, off + (k * 5 + 2), none⟩) hb).trans (hcell 2 _ rfl)
     have q3 : wr.cell? ⟨b, off + k * 5 + 3, none⟩ = _ := (hEr.cell (p := ⟨b, off + (k * 5 + 3), none⟩) hb).trans (hcell 3 _ rfl)
     have q4 : wr.cell? ⟨b, off + k * 5 + 4, none⟩ = _ := (hEr.cell (p := ⟨b, off + (k * 5 + 4), none⟩) hb).trans (hcell 4 _ rfl)
     obtain ⟨D1, d1, rfl, hd1, hd1'⟩ := hu.form
     obtain ⟨D2, d2, rfl, hd2, hd2'⟩ := hv.form
     have HV1 := Lib.hid (fun w2 (hx : Ext w w2) => num_FromRatD (q := s.circles[k].radius) (hu.ext hx) (hv.ext hx))
     have HTK : Hid ((s.circles.take (k + 1)).map (·.radius) = (s.circles.take k).map (·.radius) ++ [s.circles[k].radius]) := by show _ = _; rw [List.take_succ_eq_append_getElem hlt, List.map_append]; rfl
     have HLN : Hid (l.length = 2 * s.points.length + k) := by show _ = _; rw [HL.out, List.length_append, coordsL_length, List.length_map, List.length_take]; omega
     clear hu hv hcell hds
     generalize s.circles[k].radius = qr at *
     generalize qr.num.neg = n1 at *
     generalize qr.den.neg = n2 at *
     generalize qr.num.mag.length = l1 at *
     generalize qr.den.mag.length = l2 at *
     generalize s.circles[k].center = ct at *
     have hz3 : b < wr.heap.size := Nat.lt_of_lt_of_le hb hEr.size
     go_wp2_with fail
     refine (HV1.out _ (by repeat first|exact xA _|assumption|refine xB ?_ _|refine xC ?_|refine xD ?_ _|refine xE ?_ (by simp <;> omega) _|refine xF ?_ (by assumption))).mono ?_
     rintro e w2 ⟨r2, rfl, ⟨X1, rfl, hof1⟩, hx2⟩
     have HQ1 := Lib.hid (hof1 (Value.slice A n c).ownBlock (fun r hr => by have := (HO.out.lt r hr).2; simp; omega))
     clear hof1
     have hX2 : Ext wr w2 := Ext.trans (Ext.alloc _ _) hx2
     have HO2 := Lib.hid (HO.out.ext hX2)
     have hX3 : Ext w1 w2 := hE0.trans hX2
     have hn : s.points.length ≤ 1000 := hp
     go_wp2_with (at_builtin; refine wpList_append_row _ rfl _ _ 32 rfl 38 i0 (.agg #[.slice none 0 0, .slice none 0 0]) 2 48 Tryz.underlying32 hi hz0 hz1 hz2 rfl (by decide) _ rfl (HO2.out.ext (by repeat first|exact xA _|assumption|refine xB ?_ _|refine xC ?_|refine xD ?_ _|refine xE ?_ (by simp <;> omega) _|refine xF ?_ (by assumption))) _ rfl (num_single HQ1.out) NumR.one (by have := HLN.out; unfold maxLen; simp; omega) (by have := HLN.out; simp; omega) (by have := hX3.size; simp; omega) ?_; intro A4 c4 w4 hrow4 hgr4 hat4)
     go_roundg (s.circles.length - (k + 1))
     case measure => omega
     case rel => exact ⟨k + 1, _, l ++ [qr], A4, c4, rfl, by simp, by omega, (by show _ = _; rw [HL.out, HTK.out, List.append_assoc]), (by have h := hrow4; rw [List.length_append] at h; exact h), ext_grown hgr4 (by repeat first|exact xA _|assumption|refine xB ?_ _|refine xC ?_|refine xD ?_ _|refine xE ?_ (by simp <;> omega) _|refine xF ?_ (by assumption)) (fun r hr => (HO2.out.lt r hr).1)⟩
    ·obtain rfl : k = s.circles.length := by omega
     go_wp2_with fail
     go_ret
     have hL : l = drawnL s := by rw [HL.out, List.take_of_length_le (by omega)]; rfl
     exact ⟨_, rfl, ⟨_, _, _, rfl, by rw [← hL]; exact HO.out.arr (by rw [hL, drawnL_length]; omega)⟩, hEr⟩
end Go.Proofs.YtjigihlhjhbkpaaGreatDoor
namespace Go.Proofs.YtjigihlhjhbkpaaGreatDoor
open Go Go.RowKit
theorem Words.old {w : World} {v : Value} {xs : List Nat} (h : Words w v xs) {a : Addr} {n c : Nat} (e : v = .slice (some a) n c) (h0 : 0 < n) : a.block < w.heap.size := by
 obtain ⟨A, c', hv, hl, hm, hL, hc⟩ := h
 rw [hv] at e
 injection e with e1 e2 e3
 obtain ⟨b, off, e4, hb, -⟩ := hc (by omega)
 rw [e1] at e4
 injection e4 with e4
 rw [e4]
 exact hb
set_option maxRecDepth 100000 in
set_option maxHeartbeats 1600000 in
theorem ref09_FromRatD {q : QI} {v v' : Value} {w0 w : World} (h : Words w0 v q.num.mag) (h' : Words w0 v' q.den.mag) (h0 : Ext w0 w) :
  Calls Tryz.prog 18 #[.agg #[.bool q.num.neg, v, .bool q.den.neg, v']] w (Ret w fun r w' => ∃ A, r = .agg #[.slice none 0 0, .slice A 1 1] ∧ ∀ row, (∀ r, row = some r → w0.heap.size ≤ r ∧ r < w.heap.size) → Off row NumR w' [.slice none 0 0, .slice A 1 1] q) := by
 obtain ⟨A, c, rfl, hl, hm⟩ := h.form
 obtain ⟨A', c', rfl, hl', hm'⟩ := h'.form
 have HV := Lib.hid (And.intro h h')
 have H0 := Lib.hid h0
 clear h h' h0
 generalize q.num.mag.length = n at *
 generalize q.den.mag.length = n' at *
 go_enter Tryz.func18, Tryz.ntmps18
 go_wp2_with fail
 refine bodyPost_ret (v := .agg #[.slice none 0 0, .slice (some ⟨w.heap.size + 1 + 1, 0, none⟩) 1 1]) ?_ rfl ⟨_, rfl, ⟨_, rfl, fun row hrow => ?_⟩, ?_⟩
 ·simp [results, Tryz.results18, go_sem]
 ·have hc := CellsAt.new ((w.alloc (.cells #[.bool q.num.neg, .slice A n c, .bool q.den.neg, .slice A' n' c'] 49)).alloc (.cells #[.slice none 0 0, .slice (some ⟨w.heap.size + 1 + 1, 0, none⟩) 1 1] 38)) [.bool q.num.neg, .slice A n c, .bool q.den.neg, .slice A' n' c'] 49
  rw [World.size_alloc, World.size_alloc] at hc
  have hE : Ext w0 (((w.alloc (.cells #[.bool q.num.neg, .slice A n c, .bool q.den.neg, .slice A' n' c'] 49)).alloc (.cells #[.slice none 0 0, .slice (some ⟨w.heap.size + 1 + 1, 0, none⟩) 1 1] 38)).alloc (.cells #[.bool q.num.neg, .slice A n c, .bool q.den.neg, .slice A' n' c'] 49)) :=
   Ext.trans H0.out (((Ext.alloc _ _).trans (Ext.alloc _ _)).trans (Ext.alloc _ _))
  refine num_off hc (HV.out.1.ext hE) (HV.out.2.ext hE) ?_ ?_ ?_
  ·intro e; have := hrow _ e.symm; omega
  ·intro a m d e h0 e2
   have h1 := HV.out.1.old e h0
   have h2 := hrow _ e2.symm
   omega
  ·intro a m d e h0 e2
   have h1 := HV.out.2.old e h0
   have h2 := hrow _ e2.symm
   omega
 ·exact (by repeat first|exact xA _|assumption|refine xB ?_ _|refine xC ?_|refine xD ?_ _|refine xE ?_ (by simp <;> omega) _|refine xF ?_ (by assumption))
set_option maxRecDepth 100000 in
set_option maxHeartbeats 3200000 in
theorem ref26_Drawn {K : Nat} {s : SkI} {v0 v1 v2 v3 v4 v5 : Value} {w : World} (h : SkAt K w v0 v1 v2 v3 v4 v5 s) (hp : s.points.length ≤ 1000) (hc : s.circles.length ≤ 1000) :
  Calls Tryz.prog 7 #[.agg #[v0, v1, v2, v3, v4, v5]] w (Ret w fun r w' => ∃ A n c, r = .slice A n c ∧ ArrAt 2 NumR w' (.slice A n c) (drawnL s)) := by
 obtain ⟨A0, c0, rfl, hl0, hm0⟩ := h.points.form
 obtain ⟨A1, c1, rfl, hl1, hm1⟩ := h.circles.form
 have HPT := Lib.hid h.points
 have HCI := Lib.hid h.circles
 have HBX := Lib.hid (CellsAt.new w [.slice A0 s.points.length c0, .slice A1 s.circles.length c1, v2, v3, v4, v5] 29)
 obtain ⟨w1, hw1⟩ : ∃ w1, w.alloc (.cells #[.slice A0 s.points.length c0, .slice A1 s.circles.length c1, v2, v3, v4, v5] 29) = w1 := ⟨_, rfl⟩
 have HE1 : Hid (Ext w w1) := by rw [← hw1]; exact Ext.alloc _ _
 have HB1 : Hid (CellsAt w1 w.heap.size [.slice A0 s.points.length c0, .slice A1 s.circles.length c1, v2, v3, v4, v5]) := by rw [← hw1]; exact HBX.out
 have HW1 := Lib.hid hw1
 clear hw1 HBX h
 obtain ⟨i0, hi, hz0, hz1, hz2⟩ := info_parts infoNum
 have hE1 := HE1.out
 obtain ⟨y0, y1, y2, y3, y4, y5⟩ := HB1.out.six
 go_enter Tryz.func7, Tryz.ntmps7
 go_upto_region 1 with fail
 rw [HW1.out]
 go_wp2_with fail
 clear y0 y1 y2 y3 y4 y5
 go_loopg [3, 4] s.points.length (fun gk v x wr => ∃ (k n : Nat) (l : List QI) (A : Option Addr) (c : Nat), v = .slice A n c ∧ x = .int .i64 (k : Int) ∧ k + gk = s.points.length ∧ Hid (l = coordsL (s.points.take k)) ∧ Hid (RowOf 38 2 NumR w1.heap.size wr (.slice A n c) l) ∧ Hid (Ext w1 wr))
 case atStart => exact ⟨0, 0, [], none, 0, rfl, rfl, by omega, rfl, RowOf.nil, Ext.refl _⟩
 case round =>
  obtain ⟨k, n, l, A, c, rfl, rfl, hk, HL, HO, HE⟩ := hrel
  have HB2 := Lib.hid (HB1.out.ext HE.out)
  obtain ⟨y0, y1, y2, y3, y4, y5⟩ := HB2.out.six
  have hE0 := HE.out
  have hEr : Ext w wr := Ext.trans hE1 HE.out
  by_cases hlt : k < s.points.length
  ·obtain ⟨b, off, rfl, hb, ds, hds, hcell, u, v, u', v', rfl, hu, hv, hu', hv'⟩ := HPT.out.at_ hlt
   have q0 : wr.cell? ⟨b, off + k * 8, none⟩ = _ := (hEr.cell (p := ⟨b, off + (k * 8 + 0), none⟩) hb).trans (hcell 0 _ rfl)
   have q1 : wr.cell? ⟨b, off + k * 8 + 1, none⟩ = _ := (hEr.cell (p := ⟨b, off + (k * 8 + 1), none⟩) hb).trans (hcell 1 _ rfl)
   have q2 : wr.cell? ⟨b, off + k * 8 + 2, none⟩ = _ := (hEr.cell (p := ⟨b, off + (k * 8 + 2), none⟩) hb).trans (hcell 2 _ rfl)
   have q3 : wr.cell? ⟨b, off + k * 8 + 3, none⟩ = _ := (hEr.cell (p := ⟨b, off + (k * 8 + 3), none⟩) hb).trans (hcell 3 _ rfl)
   have q4 : wr.cell? ⟨b, off + k * 8 + 4, none⟩ = _ := (hEr.cell (p := ⟨b, off + (k * 8 + 4), none⟩) hb).trans (hcell 4 _ rfl)
   have q5 : wr.cell? ⟨b, off + k * 8 + 5, none⟩ = _ := (hEr.cell (p := ⟨b, off + (k * 8 + 5), none⟩) hb).trans (hcell 5 _ rfl)
   have q6 : wr.cell? ⟨b, off + k * 8 + 6, none⟩ = _ := (hEr.cell (p := ⟨b, off + (k * 8 + 6), none⟩) hb).trans (hcell 6 _ rfl)
   have q7 : wr.cell? ⟨b, off + k * 8 + 7, none⟩ = _ := (hEr.cell (p := ⟨b, off + (k * 8 + 7), none⟩) hb).trans (hcell 7 _ rfl)
   obtain ⟨D1, d1, rfl, hd1, hd1'⟩ := hu.form
   obtain ⟨D2, d2, rfl, hd2, hd2'⟩ := hv.form
   obtain ⟨D3, d3, rfl, hd3, hd3'⟩ := hu'.form
   obtain ⟨D4, d4, rfl, hd4, hd4'⟩ := hv'.form
   have HV1 := Lib.hid (fun w2 (hx : Ext w w2) => ref09_FromRatD (q := s.points[k].x) hu hv hx)
   have HV2 := Lib.hid (fun w2 (hx : Ext w w2) => ref09_FromRatD (q := s.points[k].y) hu' hv' hx)
   have HTK := Lib.hid (coordsL_take hlt)
   have HLN : Hid (l.length = 2 * k) := by show _ = _; rw [HL.out, coordsL_length, List.length_take]; omega
   clear hu hv hu' hv' hcell hds
   generalize s.points[k].x = qx at *
   generalize s.points[k].y = qy at *
   generalize qx.num.neg = n1 at *
   generalize qx.den.neg = n2 at *
   generalize qy.num.neg = n3 at *
   generalize qy.den.neg = n4 at *
   generalize qx.num.mag.length = l1 at *
   generalize qx.den.mag.length = l2 at *
   generalize qy.num.mag.length = l3 at *
   generalize qy.den.mag.length = l4 at *
   have hz3 : b < wr.heap.size := Nat.lt_of_lt_of_le hb hEr.size
   have HQX : Hid (∀ W, Ext wr W → b < W.heap.size ∧ W.cell? ⟨w.heap.size, 0, none⟩ = some (.slice (some ⟨b, off, none⟩) s.points.length c0) ∧ W.cell? ⟨b, off + k * 8 + 4, none⟩ = some (.bool n3) ∧ W.cell? ⟨b, off + k * 8 + 5, none⟩ = some (.slice D3 l3 d3) ∧ W.cell? ⟨b, off + k * 8 + 6, none⟩ = some (.bool n4) ∧ W.cell? ⟨b, off + k * 8 + 7, none⟩ = some (.slice D4 l4 d4)) := fun W hx =>
    ⟨Nat.lt_of_lt_of_le hz3 hx.size, (hx.cell (p := ⟨w.heap.size, 0, none⟩) HB2.out.1).trans y0, (hx.cell (p := ⟨b, off + k * 8 + 4, none⟩) hz3).trans q4, (hx.cell (p := ⟨b, off + k * 8 + 5, none⟩) hz3).trans q5, (hx.cell (p := ⟨b, off + k * 8 + 6, none⟩) hz3).trans q6, (hx.cell (p := ⟨b, off + k * 8 + 7, none⟩) hz3).trans q7⟩
   go_upto_region 5 with fail
   have HO0 := Lib.hid HO.out
   have HLR : Hid (∀ r, (Value.slice A n c).ownBlock = some r → w.heap.size ≤ r ∧ r < wr.heap.size) := fun r hr => ⟨Nat.le_trans hE1.size (HO0.out.lt r hr).1, (HO0.out.lt r hr).2⟩
   have HX0 : Hid (Ext w1 wr) := hE0
   have hXw := hEr
   have hzk : (k : Int) < (s.points.length : Int) := by omega
   clear hE0 HO
   go_region_law (first
    | (refine step_append_row _ (by rfl) _ _ 32 (by rfl) 38 i0 (.agg #[.slice none 0 0, .slice none 0 0]) 2 48 Tryz.underlying32 hi hz0 hz1 hz2 (by rfl) (by decide) _ (by rfl) (HO0.out.ext (by repeat first|exact xA _|assumption|refine xB ?_ _|refine xC ?_|refine xD ?_ _|refine xE ?_ (by simp <;> omega) _|refine xF ?_ (by assumption))) _ (by rfl) (num_two (HQ1.out.ext hx3) HQ2.out) NumR.one (by have := HLN.out; unfold maxLen; simp; omega) (by have := HLN.out; simp; omega) (by have h1 := HX0.out.size; have h2 := hx2.size; have h3 := hx3.size; simp at h1 h2 h3 ⊢; omega) ?_; intro A4 c4 w4 hrow4 hgr4 hat4)
    | (go_simp; go_at_call_of 18 (Value.slice D1 l1 d1); refine (HV1.out _ (by repeat first|exact xA _|assumption|refine xB ?_ _|refine xC ?_|refine xD ?_ _|refine xE ?_ (by simp <;> omega) _|refine xF ?_ (by assumption))).mono ?_; rintro e w2 ⟨r2, rfl, ⟨X1, rfl, hof1⟩, hx2⟩; have HQ1 := Lib.hid (hof1 (Value.slice A n c).ownBlock (fun r hr => HLR.out r hr)); clear hof1; obtain ⟨hz4, x0, x4, x5, x6, x7⟩ := HQX.out w2 (by repeat first|exact xA _|assumption|refine xB ?_ _|refine xC ?_|refine xD ?_ _|refine xE ?_ (by simp <;> omega) _|refine xF ?_ (by assumption)))
    | (go_simp; go_at_call_of 18 (Value.slice D3 l3 d3); refine (HV2.out _ (by repeat first|exact xA _|assumption|refine xB ?_ _|refine xC ?_|refine xD ?_ _|refine xE ?_ (by simp <;> omega) _|refine xF ?_ (by assumption))).mono ?_; rintro e w3 ⟨r3, rfl, ⟨X2, rfl, hof2⟩, hx3⟩; have HQ2 := Lib.hid (hof2 (Value.slice A n c).ownBlock (fun r hr => ⟨(HLR.out r hr).1, Nat.lt_of_lt_of_le (HLR.out r hr).2 hx2.size⟩)); clear hof2))
   all_goals
    have hX0 := HX0.out
    go_wp2_with fail
    go_roundg (s.points.length - (k + 1))
    case measure => omega
    case rel => exact ⟨k + 1, _, l ++ [qx, qy], A4, c4, rfl, by simp, by omega, (by show _ = _; rw [HL.out, HTK.out]), (by have h := hrow4; rw [List.length_append] at h; exact h), ext_grown hgr4 (by repeat first|exact xA _|assumption|refine xB ?_ _|refine xC ?_|refine xD ?_ _|refine xE ?_ (by simp <;> omega) _|refine xF ?_ (by assumption)) (fun r hr => (HO0.out.lt r hr).1)⟩
  ·obtain rfl : k = s.points.length := by omega
   clear HPT
   go_wp2_with fail
   clear y0 y1 y2 y3 y4 y5
   go_loopg [3, 5] s.circles.length (fun gk v x wr => ∃ (j n : Nat) (l : List QI) (A : Option Addr) (c : Nat), v = .slice A n c ∧ x = .int .i64 (j : Int) ∧ j + gk = s.circles.length ∧ Hid (l = coordsL s.points ++ (s.circles.take j).map (·.radius)) ∧ Hid (RowOf 38 2 NumR w1.heap.size wr (.slice A n c) l) ∧ Hid (Ext w1 wr))
   case atStart => exact ⟨0, _, l, _, _, rfl, rfl, by omega, (by show _ = _; rw [HL.out]; simp), HO, HE⟩
   case round =>
    clear HE HO hE0 hEr HL
    obtain ⟨k, n, l, A, c, rfl, rfl, hk, HL, HO, HE⟩ := hrel
    have HB2 := Lib.hid (HB1.out.ext HE.out)
    obtain ⟨y0, y1, y2, y3, y4, y5⟩ := HB2.out.six
    have hE0 := HE.out
    have hEr : Ext w wr := Ext.trans hE1 HE.out
    by_cases hlt : k < s.circles.length
    ·obtain ⟨b, off, rfl, hb, ds, hds, hcell, u, v, rfl, hu, hv⟩ := HCI.out.at_ hlt
     have q0 : wr.cell? ⟨b, off + k * 5, none⟩ = _ := (hEr.cell (p := ⟨b, off + (k * 5 + 0), none⟩) hb).trans (hcell 0 _ rfl)
     have q1 : wr.cell? ⟨b, off + k * 5 + 1, none⟩ = _ := (hEr.cell (p := ⟨b, off + (k * 5 + 1), none⟩) hb).trans (hcell 1 _ rfl)
     have q2 : wr.cell? ⟨b, off + k * 5 + 2, none⟩ = _ := (hEr.cell (p := ⟨b, off + (k * 5 + 2), none⟩) hb).trans (hcell 2 _ rfl)
     have q3 : wr.cell? ⟨b, off + k * 5 + 3, none⟩ = _ := (hEr.cell (p := ⟨b, off + (k * 5 + 3), none⟩) hb).trans (hcell 3 _ rfl)
     have q4 : wr.cell? ⟨b, off + k * 5 + 4, none⟩ = _ := (hEr.cell (p := ⟨b, off + (k * 5 + 4), none⟩) hb).trans (hcell 4 _ rfl)
     obtain ⟨D1, d1, rfl, hd1, hd1'⟩ := hu.form
     obtain ⟨D2, d2, rfl, hd2, hd2'⟩ := hv.form
     have HV1 := Lib.hid (fun w2 (hx : Ext w w2) => ref09_FromRatD (q := s.circles[k].radius) hu hv hx)
     have HTK : Hid ((s.circles.take (k + 1)).map (·.radius) = (s.circles.take k).map (·.radius) ++ [s.circles[k].radius]) := by show _ = _; rw [List.take_succ_eq_append_getElem hlt, List.map_append]; rfl
     have HLN : Hid (l.length = 2 * s.points.length + k) := by show _ = _; rw [HL.out, List.length_append, coordsL_length, List.length_map, List.length_take]; omega
     clear hu hv hcell hds
     generalize s.circles[k].radius = qr at *
     generalize qr.num.neg = n1 at *
     generalize qr.den.neg = n2 at *
     generalize qr.num.mag.length = l1 at *
     generalize qr.den.mag.length = l2 at *
     generalize s.circles[k].center = ct at *
     have hz3 : b < wr.heap.size := Nat.lt_of_lt_of_le hb hEr.size
     go_wp2_with fail
     refine (HV1.out _ (by repeat first|exact xA _|assumption|refine xB ?_ _|refine xC ?_|refine xD ?_ _|refine xE ?_ (by simp <;> omega) _|refine xF ?_ (by assumption))).mono ?_
     rintro e w2 ⟨r2, rfl, ⟨X1, rfl, hof1⟩, hx2⟩
     have HQ1 := Lib.hid (hof1 (Value.slice A n c).ownBlock (fun r hr => ⟨Nat.le_trans hE1.size (HO.out.lt r hr).1, (HO.out.lt r hr).2⟩))
     clear hof1
     have hX2 : Ext wr w2 := hx2
     have HO2 := Lib.hid (HO.out.ext hX2)
     have hX3 : Ext w1 w2 := hE0.trans hX2
     have hn : s.points.length ≤ 1000 := hp
     go_wp2_with (at_builtin; refine wpList_append_row _ rfl _ _ 32 rfl 38 i0 (.agg #[.slice none 0 0, .slice none 0 0]) 2 48 Tryz.underlying32 hi hz0 hz1 hz2 rfl (by decide) _ rfl (HO2.out.ext (by repeat first|exact xA _|assumption|refine xB ?_ _|refine xC ?_|refine xD ?_ _|refine xE ?_ (by simp <;> omega) _|refine xF ?_ (by assumption))) _ rfl (num_single HQ1.out) NumR.one (by have := HLN.out; unfold maxLen; simp; omega) (by have := HLN.out; simp; omega) (by have := hX3.size; simp; omega) ?_; intro A4 c4 w4 hrow4 hgr4 hat4)
     go_roundg (s.circles.length - (k + 1))
     case measure => omega
     case rel => exact ⟨k + 1, _, l ++ [qr], A4, c4, rfl, by simp, by omega, (by show _ = _; rw [HL.out, HTK.out, List.append_assoc]), (by have h := hrow4; rw [List.length_append] at h; exact h), ext_grown hgr4 (by repeat first|exact xA _|assumption|refine xB ?_ _|refine xC ?_|refine xD ?_ _|refine xE ?_ (by simp <;> omega) _|refine xF ?_ (by assumption)) (fun r hr => (HO2.out.lt r hr).1)⟩
    ·obtain rfl : k = s.circles.length := by omega
     go_wp2_with fail
     go_ret
     have hL : l = drawnL s := by rw [HL.out, List.take_of_length_le (by omega)]; rfl
     exact ⟨_, rfl, ⟨_, _, _, rfl, by rw [← hL]; exact HO.out.arr (by rw [hL, drawnL_length]; omega)⟩, hEr⟩
end Go.Proofs.YtjigihlhjhbkpaaGreatDoor
