/- Contracts: Mul of the reference's layer 1. -/
import Derived.Deep.RegionHeld3
import Derived.Test.YtceobmnljdhkmaaGreatDoorYA
namespace Go.Proofs.YtceobmnljdhkmaaGreatDoor
open Go Go.RowKit
/-- A box of two cells: a sign and words. -/
def BoxI (w : World) (g : Nat) (s : Bool) (u : Value) : Prop := w.cell? ⟨g, 0, none⟩ = some (.bool s) ∧ w.cell? ⟨g, 1, none⟩ = some u ∧ w.frozen? ⟨g, 0, none⟩ = false ∧ w.frozen? ⟨g, 1, none⟩ = false ∧ g < w.heap.size ∧ NoWord w g
theorem BoxI.ext {w w' : World} {g : Nat} {s : Bool} {u : Value} (h : BoxI w g s u) (hx : Ext w w') : BoxI w' g s u := by
 obtain ⟨h0, h1, h2, h3, h4, h5⟩ := h
 exact ⟨(hx.cell (p := ⟨g, 0, none⟩) h4).trans h0, (hx.cell (p := ⟨g, 1, none⟩) h4).trans h1, (Below.frozen hx (p := ⟨g, 0, none⟩) h4).trans h2, (Below.frozen hx (p := ⟨g, 1, none⟩) h4).trans h3, Nat.lt_of_lt_of_le h4 hx.size, h5.ext h4 hx⟩
theorem setCell_id {w : World} {p : Addr} {v : Value} (h : w.cell? p = some v) : w.setCell p v = w := by
 have e : (w.setCell p v).heap = w.heap := by
  apply Array.ext_getElem?
  intro i
  simp only [World.setCell, Array.getElem?_modify]
  by_cases hi : p.block = i
  ·subst hi
   rw [if_pos rfl]
   unfold World.cell? at h
   cases hh : w.heap[p.block]? with
   | none => rw [hh] at h; cases h
   | some o =>
    rw [hh] at h
    cases o with
    | cells c elem fz =>
     have h' : (if p.spot.isSome = true then none else c[p.off]?) = some v := h
     clear h
     simp only [Option.map_some]
     congr 2
     by_cases hs : p.spot.isSome = true
     ·rw [if_pos hs] at h'; cases h'
     ·rw [if_neg hs] at h' ⊢
      apply Array.ext_getElem?
      intro j
      rw [Array.getElem?_setIfInBounds]
      split
      ·rename_i hj; subst hj
       split
       ·exact h'.symm
       ·rename_i hlt; rw [Array.getElem?_eq_none (by omega)]
      ·rfl
    | _ => simp at h
  ·rw [if_neg hi]
 have e2 : w.setCell p v = { w with heap := (w.setCell p v).heap } := rfl
 rw [e2, e]
theorem cell_far {w : World} {p q : Addr} {u v : Value} (h : w.cell? q = some v) (hne : p.block ≠ q.block) : (w.setCell p u).cell? q = some v :=
 (World.cell?_setCell_other w p q u (fun e => hne (by rw [e]))).trans h
/-- The boxes of two arguments and of the result, one behind the other. -/
def Boxes3 (w : World) (g : Nat) (s t : Bool) (u v : Value) : Prop := BoxI w g s u ∧ BoxI w (g + 1) t v ∧ BoxI w (g + 1 + 1) false (.slice none 0 0)
theorem Boxes3.ext {w w' : World} {g : Nat} {s t : Bool} {u v : Value} (h : Boxes3 w g s t u v) (hx : Ext w w') : Boxes3 w' g s t u v := ⟨h.1.ext hx, h.2.1.ext hx, h.2.2.ext hx⟩
theorem Boxes3.drew {w : World} {g : Nat} {s t : Bool} {u v : Value} (h : Boxes3 w g s t u v) : Boxes3 w.drew g s t u v := h.ext (Ext.drew w)
theorem BoxI.new (w : World) (s : Bool) (u : Value) (T : TypeId) (hu : ∀ n, u ≠ .int .u32 n) : BoxI (w.alloc (.cells #[.bool s, u] T)) w.heap.size s u := by
 refine ⟨by simp [go_sem], by simp [go_sem], by simp [go_sem], by simp [go_sem], by simp, NoWord.new _ _ _ ?_⟩
 intro x hx n
 simp only [List.mem_toArray, List.mem_cons, List.not_mem_nil, or_false] at hx
 rcases hx with rfl | rfl
 ·simp
 ·exact hu n
theorem boxes3 (w : World) (s t : Bool) (A A' : Option Addr) (n m c c' : Nat) :
  Boxes3 (((w.alloc (.cells #[.bool s, .slice A n c] 55)).alloc (.cells #[.bool t, .slice A' m c'] 55)).alloc (.cells #[.bool false, .slice none 0 0] 55)) w.heap.size s t (.slice A n c) (.slice A' m c') := by
 refine ⟨?_, ?_, ?_⟩
 ·exact (BoxI.new w s _ _ (by simp)).ext ((Ext.alloc _ _).trans (Ext.alloc _ _))
 ·have := (BoxI.new (w.alloc (.cells #[.bool s, .slice A n c] 55)) t (.slice A' m c') 55 (by simp)).ext (Ext.alloc _ (.cells #[.bool false, .slice none 0 0] 55))
  simpa using this
 ·have := BoxI.new ((w.alloc (.cells #[.bool s, .slice A n c] 55)).alloc (.cells #[.bool t, .slice A' m c'] 55)) false (.slice none 0 0) 55 (by simp)
  simpa using this
set_option maxHeartbeats 1600000 in
theorem ref01_Mul {s t : Bool} {A A' : Option Addr} {n m c c' a b : Nat} {w : World} (h : Words w (.slice A n c) (limbs a)) (h' : Words w (.slice A' m c') (limbs b)) (hs : s = true → a ≠ 0) (ht : t = true → b ≠ 0) (hsz : n + m ≤ 35184372088832) :
  Calls Tryz.prog 294 #[.agg #[.bool s, .slice A n c], .agg #[.bool t, .slice A' m c']] w (Ret w fun r w' => ∃ u, r = .agg #[.bool ((s != t) && decide (0 < a * b)), u] ∧ Words w' u (limbs (a * b))) := by
 have hn := h.len
 have hm := h'.len
 have hN1 := fun w1 (hx : Ext w w1) => ref01_Norm s (h.ext hx)
 have hN2 := fun w1 (hx : Ext w w1) => ref01_Norm t (h'.ext hx)
 have e1 : (s && decide (0 < (limbs a).length)) = s := by
  cases s
  ·rfl
  ·have : 0 < (limbs a).length := by rw [limbs_pos (hs rfl)]; simp
   simpa using this
 have e2 : (t && decide (0 < (limbs b).length)) = t := by
  cases t
  ·rfl
  ·have : 0 < (limbs b).length := by rw [limbs_pos (ht rfl)]; simp
   simpa using this
 rw [trimL_limbs, e1, ← hn.1] at hN1
 rw [trimL_limbs, e2, ← hm.1] at hN2
 have HN1 := Lib.hid hN1
 have HN2 := Lib.hid hN2
 have H := Lib.hid h
 have H' := Lib.hid h'
 have hn2 : n ≤ c := hn.2.1
 have hm2 : m ≤ c' := hm.2.1
 have hc2 : n ≤ 35184372088832 := hn.2.2
 have hc2' : m ≤ 35184372088832 := hm.2.2
 clear hN1 hN2 h h' e1 e2 hn hm hs ht
 have hB0 := boxes3 w s t A A' n m c c'
 have HB0 := Lib.hid hB0
 clear hB0
 go_enter Tryz.func294, Tryz.ntmps294
 go_upto_region 1 with fail
 go_cut [] (fun wx => Hid (Boxes3 wx w.heap.size s t (.slice A n c) (.slice A' m c')) ∧ Ext w wx)
 case first =>
  go_region_with (first
   | (go_at_call_of 91 (Value.slice A n c); refine (HN1.out _ ?_).mono ?_; (exact (by repeat first|exact xA _|assumption|refine xB ?_ _|refine xC ?_|refine xD ?_ _|refine xE ?_ (by simp <;> omega) _|refine xF ?_ (by assumption))); rintro e w1 ⟨rfl, hx1⟩; have hB1 := (Boxes3.ext (Boxes3.drew HB0.out) hx1); have HB1 := Lib.hid hB1; obtain ⟨⟨p0, p1, p2, p3, -, -⟩, ⟨q0, q1, q2, q3, -, -⟩, -⟩ := hB1)
   | (go_at_call_of 91 (Value.slice A' m c'); refine (HN2.out _ ?_).mono ?_; (exact (by repeat first|exact xA _|assumption|refine xB ?_ _|refine xC ?_|refine xD ?_ _|refine xE ?_ (by simp <;> omega) _|refine xF ?_ (by assumption))); rintro e w2 ⟨rfl, hx2⟩; have hB2 := (Boxes3.ext HB1.out hx2); have HB2 := Lib.hid hB2; clear p0 p1 p2 p3 q0 q1 q2 q3; obtain ⟨⟨p0, p1, p2, p3, -, -⟩, ⟨q0, q1, q2, q3, -, -⟩, -⟩ := hB2))
  all_goals
   go_wp2_with fail
   go_meet
   exact ⟨by rw [setCell_id p0, setCell_id p1, setCell_id q0, setCell_id q1]; exact HB2, by rw [setCell_id p0, setCell_id p1, setCell_id q0, setCell_id q1]; exact (by repeat first|exact xA _|assumption|refine xB ?_ _|refine xC ?_|refine xD ?_ _|refine xE ?_ (by simp <;> omega) _|refine xF ?_ (by assumption))⟩
 case rest =>
  obtain ⟨HB, hE⟩ := hcut
  clear HB0 HN1 HN2
  have hT := fun w1 (hx : Ext wc w1) => ref01_times ((H.out.ext hE).ext hx) ((H'.out.ext hE).ext hx) hsz
  rw [val_limbs, val_limbs] at hT
  have HT := Lib.hid hT
  clear hT
  obtain ⟨⟨p0, p1, -, -, -, -⟩, ⟨q0, q1, -, -, -, -⟩, -⟩ := HB.out
  go_wp2_with fail
  go_region_held3 (fun w' => w'.cell? ⟨w.heap.size, 0, none⟩ = some (.bool s) ∧ w'.cell? ⟨w.heap.size, 1, none⟩ = some (.slice A n c) ∧ w'.cell? ⟨w.heap.size + 1, 0, none⟩ = some (.bool t) ∧ w'.cell? ⟨w.heap.size + 1, 1, none⟩ = some (.slice A' m c')) (first | (exact ⟨cell_far (cell_far y0 (by dsimp only; omega)) (by dsimp only; omega), cell_far (cell_far y1 (by dsimp only; omega)) (by dsimp only; omega), cell_far (cell_far y2 (by dsimp only; omega)) (by dsimp only; omega), cell_far (cell_far y3 (by dsimp only; omega)) (by dsimp only; omega)⟩) | (go_keep))
   (first
    | (go_at_call 195; refine (HT.out _ ?_).mono ?_; (exact (by repeat first|exact xA _|assumption|refine xB ?_ _|refine xC ?_|refine xD ?_ _|refine xE ?_ (by simp <;> omega) _|refine xF ?_ (by assumption))); rintro e w1 ⟨v1, rfl, ⟨hfr1, hv1⟩, hx1⟩; obtain ⟨A1, c1, rfl, hl1, hm1⟩ := hv1.form; have HV1 := Lib.hid hv1; clear hv1 hfr1; have hB1 := HB.out.drew.ext hx1; have HB1 := Lib.hid hB1; obtain ⟨⟨r0, r1, -, -, -, -⟩, ⟨r2, r3, -, -, -, -⟩, -⟩ := hB1)
    | (go_at_call 63; refine (ref01_signed _ HV1.out).mono ?_; rintro e w2 ⟨rfl, hx2⟩; have hB2 := HB1.out.ext hx2; have HB2 := Lib.hid hB2; obtain ⟨⟨y0, y1, -, -, -, -⟩, ⟨y2, y3, -, -, -, -⟩, ⟨y4, y5, y6, y7, -, -⟩⟩ := hB2))
  have HX := Lib.hid (Ext.trans (Ext.trans hE (Ext.drew wc)) (Ext.trans hx1 hx2))
  have HVV := Lib.hid (HV1.out.ext hx2)
  have HR : Hid ((trimL (limbs (a * b))) = limbs (a * b)) := trimL_limbs _
  have hlp : decide (0 < (limbs (a * b)).length) = decide (0 < a * b) := by
   apply decide_eq_decide.2
   rcases Nat.eq_zero_or_pos (a * b) with h0 | h0
   ·rw [h0, limbs_zero]; simp
   ·rw [limbs_pos (by omega)]; simp; omega
  have HLP := Lib.hid hlp
  clear hlp
  go_wp2_with fail
  refine bodyPost_ret ?_ rfl ⟨_, rfl, ⟨.slice A1 (trimL (limbs (a * b))).length c1, rfl, ?_⟩, ?_⟩
  ·rw [← HLP.out]
   simp [results, Tryz.results294, go_sem, y4, y5, HR.out]
   cases s <;> cases t <;> rfl
  ·rw [HR.out]
   have hb := HB2.out.2.2.2.2.2.2.2
   exact (HVV.out.box hb _ _).box (hb.set_ _ (by simp)) _ _
  ·exact (HX.out.pset (by simp <;> omega) _).pset (by simp <;> omega) _
end Go.Proofs.YtceobmnljdhkmaaGreatDoor
namespace Go.Proofs.YtceobmnljdhkmaaGreatDoor
open Go Go.RowKit
theorem plus_step {Z X Y B c x y o : Nat} (ho : o = (c + x + y) % 4294967296) (h : Z + B * c = X + Y) :
  Z + B * o + B * 4294967296 * ((c + x + y) / 4294967296) = X + B * x + (Y + B * y) := by
 have e : o + 4294967296 * ((c + x + y) / 4294967296) = c + x + y := by omega
 have e2 := congrArg (B * ·) e
 simp only [Nat.mul_add] at e2
 rw [Nat.mul_assoc]
 omega
theorem plus_round {xs ys zs : List Nat} {k c : Nat} (hk : k < zs.length) (h : val (zs.take k) + 4294967296 ^ k * c = val (xs.take k) + val (ys.take k)) :
  val ((zs.set k ((c + xs.getD k 0 + ys.getD k 0) % 4294967296)).take (k + 1)) + 4294967296 ^ (k + 1) * ((c + xs.getD k 0 + ys.getD k 0) / 4294967296) = val (xs.take (k + 1)) + val (ys.take (k + 1)) := by
 rw [limb_take_set hk, val_take_next, val_take_next, Nat.pow_succ]
 exact plus_step rfl h
set_option maxHeartbeats 1600000 in
theorem ref01_plus_ge {A A' : Option Addr} {n m c c' : Nat} {xs ys : List Nat} {w : World} (h : Words w (.slice A n c) xs) (h' : Words w (.slice A' m c') ys) (hmn : m ≤ n) (hn : n < 35184372088832) :
  Calls Tryz.prog 343 #[.slice A n c, .slice A' m c'] w (Ret w fun v w' => FreshV w.heap.size v ∧ Words w' v (limbs (val xs + val ys))) := by
 obtain ⟨rfl, hl, hm⟩ := h.len
 obtain ⟨rfl, hl', hm'⟩ := h'.len
 have hL := h.limb
 have hL' := h'.limb
 have H := Lib.hid h
 have H' := Lib.hid h'
 clear h h'
 have hmk := mk_words (xs.length + 1) (by omega)
 simp only [Int.natCast_add, Int.cast_ofNat_Int] at hmk
 have hnlt : ¬ (xs.length < ys.length) := by omega
 go_enter Tryz.func343, Tryz.ntmps343
 go_wp2_with fail
 go_loopw [6, 7] (fun r i wr => ∃ (k b : Nat) (zs : List Nat), k ≤ xs.length ∧ i = .int .i64 (k : Int) ∧ r = .int .u64 (b : Int) ∧ b ≤ 1 ∧ Hid (zs.length = xs.length + 1 ∧ Limb zs ∧ Row wr w.heap.size zs ∧ zs.getD xs.length 0 = 0 ∧ val (zs.take k) + 4294967296 ^ k * b = val (xs.take k) + val (ys.take k)) ∧ Ext w wr) (fun _ i _ => xs.length - (intOf i).toNat)
 case atStart =>
  exact ⟨0, 0, List.replicate (xs.length + 1) 0, by omega, rfl, rfl, by omega, ⟨by simp, limb_replicate _, Row.made _ _, getD_replicate _ _, by simp [val]⟩, (by repeat first|exact xA _|assumption|refine xB ?_ _|refine xC ?_|refine xD ?_ _|refine xE ?_ (by simp <;> omega) _|refine xF ?_ (by assumption))⟩
 case round =>
  obtain ⟨k, b, zs, hk, rfl, rfl, hb1, HZ, hE⟩ := hrel
  by_cases hk0 : k < xs.length
  ·obtain ⟨bb, off, rfl, hb, -, hcell⟩ := (H.out.ext hE).at_ (k := k) (by omega)
   have g1 := hcell k (by omega)
   have g2 := HZ.out.2.2.1.cell (k := k) (by have := HZ.out.1; omega)
   have g3 := HZ.out.2.2.1.frozen k
   have hx := hL.getD k
   have hy := hL'.getD k
   clear hcell
   obtain ⟨z1, z2, z3, z4, z5⟩ := HZ.out
   have HR := Lib.hid (plus_round (by omega) z5)
   have HS := Lib.hid (z3.set_ k ((b + xs.getD k 0 + ys.getD k 0) % 4294967296))
   have HQ : Hid (Limb (zs.set k ((b + xs.getD k 0 + ys.getD k 0) % 4294967296))) := limb_set z2 (Nat.mod_lt _ (by omega))
   have HN := Lib.hid z1
   have HT : Hid ((zs.set k ((b + xs.getD k 0 + ys.getD k 0) % 4294967296)).getD xs.length 0 = 0) := by show _ = _; rw [getD_set_ne (by omega)]; exact z4
   clear z1 z2 z3 z4 z5
   by_cases hk1 : k < ys.length
   ·obtain ⟨bb', off', rfl, hb', -, hcell'⟩ := (H'.out.ext hE).at_ (k := k) (by omega)
    have g4 := hcell' k (by omega)
    clear hcell'
    generalize xs.getD k 0 = x at *
    generalize ys.getD k 0 = y at *
    go_wp2_with fail
    rw [show ((b : Int) + x + y) % 4294967296 = (((b + x + y) % 4294967296 : Nat) : Int) by omega,
     show ((b : Int) + x + y) / 4294967296 = (((b + x + y) / 4294967296 : Nat) : Int) by omega]
    exact ⟨⟨k + 1, _, _, by omega, by go_num, rfl, by omega, ⟨by simp [HN.out], HQ.out, HS.out, HT.out, HR.out⟩, (by repeat first|exact xA _|assumption|refine xB ?_ _|refine xC ?_|refine xD ?_ _|refine xE ?_ (by simp <;> omega) _|refine xF ?_ (by assumption))⟩, by simp [intOf]; omega⟩
   ·have hy0 : ys.getD k 0 = 0 := getD_of_le (by omega)
    rw [hy0, Nat.add_zero] at HR HS HQ HT
    clear hy hy0
    generalize xs.getD k 0 = x at *
    go_wp2_with fail
    rw [show ((b : Int) + x) % 4294967296 = (((b + x) % 4294967296 : Nat) : Int) by omega,
     show ((b : Int) + x) / 4294967296 = (((b + x) / 4294967296 : Nat) : Int) by omega]
    exact ⟨⟨k + 1, _, _, by omega, by go_num, rfl, by omega, ⟨by simp [HN.out], HQ.out, HS.out, HT.out, HR.out⟩, (by repeat first|exact xA _|assumption|refine xB ?_ _|refine xC ?_|refine xD ?_ _|refine xE ?_ (by simp <;> omega) _|refine xF ?_ (by assumption))⟩, by simp [intOf]; omega⟩
  ·obtain rfl : k = xs.length := by omega
   obtain ⟨z1, z2, z3, z4, z5⟩ := HZ.out
   have g2 := z3.cell (k := xs.length) (by omega)
   have g3 := z3.frozen xs.length
   rw [z4] at g2
   have hv : val (zs.set xs.length b) = val xs + val ys := by
    have h1 := val_set (xs := zs) (j := xs.length) (by omega) b
    have h2 := val_split zs xs.length (by omega)
    rw [val_drop zs (by omega), List.drop_of_length_le (by omega), z4] at h2
    rw [List.take_length, List.take_of_length_le hmn] at z5
    rw [z4] at h1
    simp [val] at h2
    omega
   have z2' : Limb (zs.set xs.length b) := limb_set z2 (by omega)
   have hW := (z3.set_ xs.length b).words z2' (c := xs.length + 1) (by simp; omega) (by omega)
   have hl' : (zs.set xs.length b).length = xs.length + 1 := by simp [z1]
   rw [hl'] at hW
   have hT := ref01_trim hW
   have TW := hW.trim
   rw [trimL_eq_limbs z2', hv] at TW hT
   have HT := Lib.hid hT
   have TW' := Lib.hid TW
   clear hW z1 z2 z3 z4 z5 TW hv z2' hT
   go_wp2_with fail
   refine HT.out.mono ?_
   rintro e w' ⟨rfl, rfl⟩
   go_wp2_with fail
   go_ret
   exact ⟨_, rfl, ⟨FreshV.mk _ (Nat.le_refl _), TW'.out⟩, (by repeat first|exact xA _|assumption|refine xB ?_ _|refine xC ?_|refine xD ?_ _|refine xE ?_ (by simp <;> omega) _|refine xF ?_ (by assumption))⟩
set_option maxHeartbeats 1600000 in
theorem ref01_plus_lt {A A' : Option Addr} {n m c c' : Nat} {xs ys : List Nat} {w : World} (h : Words w (.slice A n c) xs) (h' : Words w (.slice A' m c') ys) (hmn : m < n) (hn : n < 35184372088832) :
  Calls Tryz.prog 343 #[.slice A' m c', .slice A n c] w (Ret w fun v w' => FreshV w.heap.size v ∧ Words w' v (limbs (val xs + val ys))) := by
 obtain ⟨rfl, hl, hm⟩ := h.len
 obtain ⟨rfl, hl', hm'⟩ := h'.len
 have hL := h.limb
 have hL' := h'.limb
 have H := Lib.hid h
 have H' := Lib.hid h'
 clear h h'
 have hmk := mk_words (xs.length + 1) (by omega)
 simp only [Int.natCast_add, Int.cast_ofNat_Int] at hmk
 have hmn : ys.length ≤ xs.length := by omega
 go_enter Tryz.func343, Tryz.ntmps343
 go_wp2_with fail
 go_loopw [6, 7] (fun r i wr => ∃ (k b : Nat) (zs : List Nat), k ≤ xs.length ∧ i = .int .i64 (k : Int) ∧ r = .int .u64 (b : Int) ∧ b ≤ 1 ∧ Hid (zs.length = xs.length + 1 ∧ Limb zs ∧ Row wr w.heap.size zs ∧ zs.getD xs.length 0 = 0 ∧ val (zs.take k) + 4294967296 ^ k * b = val (xs.take k) + val (ys.take k)) ∧ Ext w wr) (fun _ i _ => xs.length - (intOf i).toNat)
 case atStart =>
  exact ⟨0, 0, List.replicate (xs.length + 1) 0, by omega, rfl, rfl, by omega, ⟨by simp, limb_replicate _, Row.made _ _, getD_replicate _ _, by simp [val]⟩, (by repeat first|exact xA _|assumption|refine xB ?_ _|refine xC ?_|refine xD ?_ _|refine xE ?_ (by simp <;> omega) _|refine xF ?_ (by assumption))⟩
 case round =>
  obtain ⟨k, b, zs, hk, rfl, rfl, hb1, HZ, hE⟩ := hrel
  by_cases hk0 : k < xs.length
  ·obtain ⟨bb, off, rfl, hb, -, hcell⟩ := (H.out.ext hE).at_ (k := k) (by omega)
   have g1 := hcell k (by omega)
   have g2 := HZ.out.2.2.1.cell (k := k) (by have := HZ.out.1; omega)
   have g3 := HZ.out.2.2.1.frozen k
   have hx := hL.getD k
   have hy := hL'.getD k
   clear hcell
   obtain ⟨z1, z2, z3, z4, z5⟩ := HZ.out
   have HR := Lib.hid (plus_round (by omega) z5)
   have HS := Lib.hid (z3.set_ k ((b + xs.getD k 0 + ys.getD k 0) % 4294967296))
   have HQ : Hid (Limb (zs.set k ((b + xs.getD k 0 + ys.getD k 0) % 4294967296))) := limb_set z2 (Nat.mod_lt _ (by omega))
   have HN := Lib.hid z1
   have HT : Hid ((zs.set k ((b + xs.getD k 0 + ys.getD k 0) % 4294967296)).getD xs.length 0 = 0) := by show _ = _; rw [getD_set_ne (by omega)]; exact z4
   clear z1 z2 z3 z4 z5
   by_cases hk1 : k < ys.length
   ·obtain ⟨bb', off', rfl, hb', -, hcell'⟩ := (H'.out.ext hE).at_ (k := k) (by omega)
    have g4 := hcell' k (by omega)
    clear hcell'
    generalize xs.getD k 0 = x at *
    generalize ys.getD k 0 = y at *
    go_wp2_with fail
    rw [show ((b : Int) + x + y) % 4294967296 = (((b + x + y) % 4294967296 : Nat) : Int) by omega,
     show ((b : Int) + x + y) / 4294967296 = (((b + x + y) / 4294967296 : Nat) : Int) by omega]
    exact ⟨⟨k + 1, _, _, by omega, by go_num, rfl, by omega, ⟨by simp [HN.out], HQ.out, HS.out, HT.out, HR.out⟩, (by repeat first|exact xA _|assumption|refine xB ?_ _|refine xC ?_|refine xD ?_ _|refine xE ?_ (by simp <;> omega) _|refine xF ?_ (by assumption))⟩, by simp [intOf]; omega⟩
   ·have hy0 : ys.getD k 0 = 0 := getD_of_le (by omega)
    rw [hy0, Nat.add_zero] at HR HS HQ HT
    clear hy hy0
    generalize xs.getD k 0 = x at *
    go_wp2_with fail
    rw [show ((b : Int) + x) % 4294967296 = (((b + x) % 4294967296 : Nat) : Int) by omega,
     show ((b : Int) + x) / 4294967296 = (((b + x) / 4294967296 : Nat) : Int) by omega]
    exact ⟨⟨k + 1, _, _, by omega, by go_num, rfl, by omega, ⟨by simp [HN.out], HQ.out, HS.out, HT.out, HR.out⟩, (by repeat first|exact xA _|assumption|refine xB ?_ _|refine xC ?_|refine xD ?_ _|refine xE ?_ (by simp <;> omega) _|refine xF ?_ (by assumption))⟩, by simp [intOf]; omega⟩
  ·obtain rfl : k = xs.length := by omega
   obtain ⟨z1, z2, z3, z4, z5⟩ := HZ.out
   have g2 := z3.cell (k := xs.length) (by omega)
   have g3 := z3.frozen xs.length
   rw [z4] at g2
   have hv : val (zs.set xs.length b) = val xs + val ys := by
    have h1 := val_set (xs := zs) (j := xs.length) (by omega) b
    have h2 := val_split zs xs.length (by omega)
    rw [val_drop zs (by omega), List.drop_of_length_le (by omega), z4] at h2
    rw [List.take_length, List.take_of_length_le hmn] at z5
    rw [z4] at h1
    simp [val] at h2
    omega
   have z2' : Limb (zs.set xs.length b) := limb_set z2 (by omega)
   have hW := (z3.set_ xs.length b).words z2' (c := xs.length + 1) (by simp; omega) (by omega)
   have hl' : (zs.set xs.length b).length = xs.length + 1 := by simp [z1]
   rw [hl'] at hW
   have hT := ref01_trim hW
   have TW := hW.trim
   rw [trimL_eq_limbs z2', hv] at TW hT
   have HT := Lib.hid hT
   have TW' := Lib.hid TW
   clear hW z1 z2 z3 z4 z5 TW hv z2' hT
   go_wp2_with fail
   refine HT.out.mono ?_
   rintro e w' ⟨rfl, rfl⟩
   go_wp2_with fail
   go_ret
   exact ⟨_, rfl, ⟨FreshV.mk _ (Nat.le_refl _), TW'.out⟩, (by repeat first|exact xA _|assumption|refine xB ?_ _|refine xC ?_|refine xD ?_ _|refine xE ?_ (by simp <;> omega) _|refine xF ?_ (by assumption))⟩
theorem ref01_plus {A A' : Option Addr} {n m c c' : Nat} {xs ys : List Nat} {w : World} (h : Words w (.slice A n c) xs) (h' : Words w (.slice A' m c') ys) (hn : n < 35184372088832) (hm : m < 35184372088832) :
  Calls Tryz.prog 343 #[.slice A n c, .slice A' m c'] w (Ret w fun v w' => FreshV w.heap.size v ∧ Words w' v (limbs (val xs + val ys))) := by
 rcases Nat.lt_or_ge n m with h1 | h1
 ·rw [Nat.add_comm]; exact ref01_plus_lt h' h h1 hm
 ·exact ref01_plus_ge h h' h1 hn
end Go.Proofs.YtceobmnljdhkmaaGreatDoor
namespace Go.Proofs.YtceobmnljdhkmaaGreatDoor
open Go Go.RowKit
theorem canon_sign {s : Bool} {a : Nat} (hs : s = true → a ≠ 0) : (s && decide (0 < (limbs a).length)) = s := by
 cases s
 ·rfl
 ·have : 0 < (limbs a).length := by rw [limbs_pos (hs rfl)]; simp
  simpa using this
theorem limbs_len_pos (a : Nat) : decide (0 < (limbs a).length) = decide (0 < a) := by
 apply decide_eq_decide.2
 rcases Nat.eq_zero_or_pos a with h0 | h0
 ·rw [h0, limbs_zero]; simp
 ·rw [limbs_pos (by omega)]; simp; omega
/-- The sign and the absolute value of a sum. -/
def addS (s t : Bool) (a b : Nat) : Bool := if s = t then s else if b ≤ a then s else t
def addM (s t : Bool) (a b : Nat) : Nat := if s = t then a + b else if b ≤ a then a - b else b - a
set_option maxHeartbeats 3200000 in
theorem ref01_Add {s t : Bool} {A A' : Option Addr} {n m c c' a b : Nat} {w : World} (h : Words w (.slice A n c) (limbs a)) (h' : Words w (.slice A' m c') (limbs b)) (hs : s = true → a ≠ 0) (ht : t = true → b ≠ 0) (hsz : n < 35184372088832) (hsz' : m < 35184372088832) :
  Calls Tryz.prog 325 #[.agg #[.bool s, .slice A n c], .agg #[.bool t, .slice A' m c']] w (Ret w fun r w' => ∃ u, r = .agg #[.bool (addS s t a b && decide (0 < addM s t a b)), u] ∧ Words w' u (limbs (addM s t a b))) := by
 have hn := h.len
 have hm := h'.len
 have hN1 := fun w1 (hx : Ext w w1) => ref01_Norm s (h.ext hx)
 have hN2 := fun w1 (hx : Ext w w1) => ref01_Norm t (h'.ext hx)
 rw [trimL_limbs, canon_sign hs, ← hn.1] at hN1
 rw [trimL_limbs, canon_sign ht, ← hm.1] at hN2
 have HN1 := Lib.hid hN1
 have HN2 := Lib.hid hN2
 have H := Lib.hid h
 have H' := Lib.hid h'
 have HLN := Lib.hid hn.1
 have HLM := Lib.hid hm.1
 have hn2 : n ≤ c := hn.2.1
 have hm2 : m ≤ c' := hm.2.1
 have hc2 : n ≤ 35184372088832 := hn.2.2
 have hc2' : m ≤ 35184372088832 := hm.2.2
 clear hN1 hN2 h h' hn hm hs ht
 have HB0 := Lib.hid (boxes3 w s t A A' n m c c')
 go_enter Tryz.func325, Tryz.ntmps325
 go_upto_region 1 with fail
 go_cut [] (fun wx => Hid (Boxes3 wx w.heap.size s t (.slice A n c) (.slice A' m c')) ∧ Ext w wx)
 case first =>
  go_region_with (first
   | (go_at_call_of 91 (Value.slice A n c); refine (HN1.out _ ?_).mono ?_; (exact (by repeat first|exact xA _|assumption|refine xB ?_ _|refine xC ?_|refine xD ?_ _|refine xE ?_ (by simp <;> omega) _|refine xF ?_ (by assumption))); rintro e w1 ⟨rfl, hx1⟩; have hB1 := (Boxes3.ext (Boxes3.drew HB0.out) hx1); have HB1 := Lib.hid hB1; obtain ⟨⟨p0, p1, p2, p3, -, -⟩, ⟨q0, q1, q2, q3, -, -⟩, -⟩ := hB1)
   | (go_at_call_of 91 (Value.slice A' m c'); refine (HN2.out _ ?_).mono ?_; (exact (by repeat first|exact xA _|assumption|refine xB ?_ _|refine xC ?_|refine xD ?_ _|refine xE ?_ (by simp <;> omega) _|refine xF ?_ (by assumption))); rintro e w2 ⟨rfl, hx2⟩; have hB2 := (Boxes3.ext HB1.out hx2); have HB2 := Lib.hid hB2; clear p0 p1 p2 p3 q0 q1 q2 q3; obtain ⟨⟨p0, p1, p2, p3, -, -⟩, ⟨q0, q1, q2, q3, -, -⟩, -⟩ := hB2))
  all_goals
   go_wp2_with fail
   go_meet
   exact ⟨by rw [setCell_id p0, setCell_id p1, setCell_id q0, setCell_id q1]; exact HB2, by rw [setCell_id p0, setCell_id p1, setCell_id q0, setCell_id q1]; exact (by repeat first|exact xA _|assumption|refine xB ?_ _|refine xC ?_|refine xD ?_ _|refine xE ?_ (by simp <;> omega) _|refine xF ?_ (by assumption))⟩
 case rest =>
  obtain ⟨HB, hE⟩ := hcut
  clear HB0 HN1 HN2
  by_cases hst : s = t
  ·subst hst
   have hP := fun w1 (hx : Ext wc w1) => ref01_plus ((H.out.ext hE).ext hx) ((H'.out.ext hE).ext hx) hsz hsz'
   rw [val_limbs, val_limbs] at hP
   have HP := Lib.hid hP
   have HAS : Hid (addS s s a b = s ∧ addM s s a b = a + b) := by exact ⟨by simp [addS], by simp [addM]⟩
   clear hP
   have hss : (s == s) = true := by simp
   obtain ⟨⟨p0, p1, -, -, -, -⟩, ⟨q0, q1, -, -, -, -⟩, -⟩ := HB.out
   go_wp2_with fail
   go_region_held3 (fun w' => w'.cell? ⟨w.heap.size, 0, none⟩ = some (.bool s) ∧ w'.cell? ⟨w.heap.size, 1, none⟩ = some (.slice A n c) ∧ w'.cell? ⟨w.heap.size + 1, 1, none⟩ = some (.slice A' m c')) (first | (exact ⟨cell_far (cell_far y0 (by dsimp only; omega)) (by dsimp only; omega), cell_far (cell_far y1 (by dsimp only; omega)) (by dsimp only; omega), cell_far (cell_far y3 (by dsimp only; omega)) (by dsimp only; omega)⟩) | (exact ⟨y0, y1, y3⟩) | (exact ⟨r0, r1, r3⟩) | (go_keep))
    (first
     | (go_at_call 343; refine (HP.out _ ?_).mono ?_; (exact (by repeat first|exact xA _|assumption|refine xB ?_ _|refine xC ?_|refine xD ?_ _|refine xE ?_ (by simp <;> omega) _|refine xF ?_ (by assumption))); rintro e w1 ⟨v1, rfl, ⟨hfr1, hv1⟩, hx1⟩; obtain ⟨A1, c1, rfl, hl1, hm1⟩ := hv1.form; have HV1 := Lib.hid hv1; clear hv1 hfr1; have hB1 := HB.out.drew.ext hx1; have HB1 := Lib.hid hB1; obtain ⟨⟨r0, r1, -, -, -, -⟩, ⟨r2, r3, -, -, -, -⟩, -⟩ := hB1)
     | (go_at_call 63; refine (ref01_signed _ HV1.out).mono ?_; rintro e w2 ⟨rfl, hx2⟩; have hB2 := HB1.out.ext hx2; have HB2 := Lib.hid hB2; obtain ⟨⟨y0, y1, -, -, -, -⟩, ⟨y2, y3, -, -, -, -⟩, ⟨y4, y5, y6, y7, -, -⟩⟩ := hB2))
   have HX := Lib.hid (Ext.trans (Ext.trans hE (Ext.drew wc)) (Ext.trans hx1 hx2))
   have HVV := Lib.hid (HV1.out.ext hx2)
   have HR : Hid ((trimL (limbs (a + b))) = limbs (a + b)) := trimL_limbs _
   have HLP := Lib.hid (limbs_len_pos (a + b))
   go_wp2_with fail
   refine bodyPost_ret ?_ rfl ⟨_, rfl, ⟨.slice A1 (trimL (limbs (a + b))).length c1, rfl, ?_⟩, ?_⟩
   ·rw [HAS.out.1, HAS.out.2, ← HLP.out]
    simp [results, Tryz.results325, go_sem, y4, y5, HR.out]
   ·rw [HAS.out.2, HR.out]
    have hb := HB2.out.2.2.2.2.2.2.2
    exact (HVV.out.box hb _ _).box (hb.set_ _ (by simp)) _ _
   ·exact (HX.out.pset (by simp <;> omega) _).pset (by simp <;> omega) _
  ·have hst' : (s == t) = false := by simpa using hst
   have hC := ref01_compare (H.out.ext hE) (H'.out.ext hE)
   rw [cmpW_limbs] at hC
   obtain ⟨⟨p0, p1, -, -, -, -⟩, ⟨q0, q1, -, -, -, -⟩, -⟩ := HB.out
   by_cases hab : b ≤ a
   ·obtain ⟨r, hr, hr0⟩ : ∃ r : Int, (if a < b then -1 else if b < a then (1 : Int) else 0) = r ∧ 0 ≤ r := ⟨_, rfl, by rw [if_neg (by omega)]; split <;> omega⟩
    rw [hr] at hC
    have HC := Lib.hid hC
    have HAS : Hid (addS s t a b = s ∧ addM s t a b = a - b) := by exact ⟨by simp [addS, hst, hab], by simp [addM, hst, hab]⟩
    clear hC hr
    go_wp2_with fail
    refine HC.out.mono ?_
    rintro e w0 ⟨rfl, hx0⟩
    have hB0 := HB.out.ext hx0
    have hE0 := hE.trans hx0
    clear HB hE hx0 p0 p1 q0 q1 HC
    have HB := Lib.hid hB0
    obtain ⟨⟨p0, p1, -, -, -, -⟩, ⟨q0, q1, -, -, -, -⟩, -⟩ := hB0
    have hM := fun w1 (hx : Ext w0 w1) => ref01_minus ((H.out.ext hE0).ext hx) ((H'.out.ext hE0).ext hx) (by rw [val_limbs, val_limbs]; exact hab) (by rw [HLN.out, HLM.out]; exact limbs_length_mono hab)
    rw [val_limbs, val_limbs] at hM
    have HM := Lib.hid hM
    clear hM
    go_wp2_with fail
    go_region_held3 (fun w' => w'.cell? ⟨w.heap.size, 0, none⟩ = some (.bool s) ∧ w'.cell? ⟨w.heap.size, 1, none⟩ = some (.slice A n c) ∧ w'.cell? ⟨w.heap.size + 1, 1, none⟩ = some (.slice A' m c')) (first | (exact ⟨cell_far (cell_far y0 (by dsimp only; omega)) (by dsimp only; omega), cell_far (cell_far y1 (by dsimp only; omega)) (by dsimp only; omega), cell_far (cell_far y3 (by dsimp only; omega)) (by dsimp only; omega)⟩) | (exact ⟨y0, y1, y3⟩) | (exact ⟨r0, r1, r3⟩) | (go_keep))
     (first
      | (go_at_call 152; refine (HM.out _ ?_).mono ?_; (exact (by repeat first|exact xA _|assumption|refine xB ?_ _|refine xC ?_|refine xD ?_ _|refine xE ?_ (by simp <;> omega) _|refine xF ?_ (by assumption))); rintro e w1 ⟨v1, rfl, ⟨hfr1, hv1⟩, hx1⟩; obtain ⟨A1, c1, rfl, hl1, hm1⟩ := hv1.form; have HV1 := Lib.hid hv1; clear hv1 hfr1; have hB1 := HB.out.drew.ext hx1; have HB1 := Lib.hid hB1; obtain ⟨⟨r0, r1, -, -, -, -⟩, ⟨r2, r3, -, -, -, -⟩, -⟩ := hB1)
      | (go_at_call 63; refine (ref01_signed _ HV1.out).mono ?_; rintro e w2 ⟨rfl, hx2⟩; have hB2 := HB1.out.ext hx2; have HB2 := Lib.hid hB2; obtain ⟨⟨y0, y1, -, -, -, -⟩, ⟨y2, y3, -, -, -, -⟩, ⟨y4, y5, y6, y7, -, -⟩⟩ := hB2))
    have HX := Lib.hid (Ext.trans (Ext.trans hE0 (Ext.drew w0)) (Ext.trans hx1 hx2))
    have HVV := Lib.hid (HV1.out.ext hx2)
    have HR : Hid ((trimL (limbs (a - b))) = limbs (a - b)) := trimL_limbs _
    have HLP := Lib.hid (limbs_len_pos (a - b))
    go_wp2_with fail
    refine bodyPost_ret ?_ rfl ⟨_, rfl, ⟨.slice A1 (trimL (limbs (a - b))).length c1, rfl, ?_⟩, ?_⟩
    ·rw [HAS.out.1, HAS.out.2, ← HLP.out]
     simp [results, Tryz.results325, go_sem, y4, y5, HR.out]
    ·rw [HAS.out.2, HR.out]
     have hb := HB2.out.2.2.2.2.2.2.2
     exact (HVV.out.box hb _ _).box (hb.set_ _ (by simp)) _ _
    ·exact (HX.out.pset (by simp <;> omega) _).pset (by simp <;> omega) _
   ·rw [if_pos (by omega)] at hC
    have HC := Lib.hid hC
    have HAS : Hid (addS s t a b = t ∧ addM s t a b = b - a) := by exact ⟨by simp [addS, hst, hab], by simp [addM, hst, hab]⟩
    clear hC
    go_wp2_with fail
    refine HC.out.mono ?_
    rintro e w0 ⟨rfl, hx0⟩
    have hB0 := HB.out.ext hx0
    have hE0 := hE.trans hx0
    clear HB hE hx0 p0 p1 q0 q1 HC
    have HB := Lib.hid hB0
    obtain ⟨⟨p0, p1, -, -, -, -⟩, ⟨q0, q1, -, -, -, -⟩, -⟩ := hB0
    have hM := fun w1 (hx : Ext w0 w1) => ref01_minus ((H'.out.ext hE0).ext hx) ((H.out.ext hE0).ext hx) (by rw [val_limbs, val_limbs]; omega) (by rw [HLN.out, HLM.out]; exact limbs_length_mono (by omega))
    rw [val_limbs, val_limbs] at hM
    have HM := Lib.hid hM
    clear hM
    go_wp2_with fail
    go_region_held3 (fun w' => w'.cell? ⟨w.heap.size, 1, none⟩ = some (.slice A n c) ∧ w'.cell? ⟨w.heap.size + 1, 0, none⟩ = some (.bool t) ∧ w'.cell? ⟨w.heap.size + 1, 1, none⟩ = some (.slice A' m c')) (first | (exact ⟨cell_far (cell_far y1 (by dsimp only; omega)) (by dsimp only; omega), cell_far (cell_far y2 (by dsimp only; omega)) (by dsimp only; omega), cell_far (cell_far y3 (by dsimp only; omega)) (by dsimp only; omega)⟩) | (exact ⟨y1, y2, y3⟩) | (exact ⟨r1, r2, r3⟩) | (go_keep))
     (first
      | (go_at_call 152; refine (HM.out _ ?_).mono ?_; (exact (by repeat first|exact xA _|assumption|refine xB ?_ _|refine xC ?_|refine xD ?_ _|refine xE ?_ (by simp <;> omega) _|refine xF ?_ (by assumption))); rintro e w1 ⟨v1, rfl, ⟨hfr1, hv1⟩, hx1⟩; obtain ⟨A1, c1, rfl, hl1, hm1⟩ := hv1.form; have HV1 := Lib.hid hv1; clear hv1 hfr1; have hB1 := HB.out.drew.ext hx1; have HB1 := Lib.hid hB1; obtain ⟨⟨r0, r1, -, -, -, -⟩, ⟨r2, r3, -, -, -, -⟩, -⟩ := hB1)
      | (go_at_call 63; refine (ref01_signed _ HV1.out).mono ?_; rintro e w2 ⟨rfl, hx2⟩; have hB2 := HB1.out.ext hx2; have HB2 := Lib.hid hB2; obtain ⟨⟨y0, y1, -, -, -, -⟩, ⟨y2, y3, -, -, -, -⟩, ⟨y4, y5, y6, y7, -, -⟩⟩ := hB2))
    have HX := Lib.hid (Ext.trans (Ext.trans hE0 (Ext.drew w0)) (Ext.trans hx1 hx2))
    have HVV := Lib.hid (HV1.out.ext hx2)
    have HR : Hid ((trimL (limbs (b - a))) = limbs (b - a)) := trimL_limbs _
    have HLP := Lib.hid (limbs_len_pos (b - a))
    go_wp2_with fail
    refine bodyPost_ret ?_ rfl ⟨_, rfl, ⟨.slice A1 (trimL (limbs (b - a))).length c1, rfl, ?_⟩, ?_⟩
    ·rw [HAS.out.1, HAS.out.2, ← HLP.out]
     simp [results, Tryz.results325, go_sem, y4, y5, HR.out]
    ·rw [HAS.out.2, HR.out]
     have hb := HB2.out.2.2.2.2.2.2.2
     exact (HVV.out.box hb _ _).box (hb.set_ _ (by simp)) _ _
    ·exact (HX.out.pset (by simp <;> omega) _).pset (by simp <;> omega) _
end Go.Proofs.YtceobmnljdhkmaaGreatDoor
namespace Go.Proofs.YtceobmnljdhkmaaGreatDoor
open Go Go.RowKit
set_option maxHeartbeats 800000 in
theorem ref01_Neg {s : Bool} {v : Value} {a : Nat} {w : World} (h : Words w v (limbs a)) :
  Calls Tryz.prog 324 #[.agg #[.bool s, v]] w fun e w' => e = .returned (.agg #[.bool (!s && decide (0 < a)), v]) ∧ Ext w w' := by
 obtain ⟨A, c, rfl, hl, hm⟩ := h.form
 have hS := fun w' (hw : Ext w w') => ref01_signed (!s) (h.ext hw)
 rw [trimL_limbs, limbs_len_pos] at hS
 have HS := Lib.hid hS
 clear hS h
 generalize (limbs a).length = n at *
 go_enter Tryz.func324, Tryz.ntmps324
 go_wp2_with fail
 refine (HS.out _ (by repeat first|exact xA _|assumption|refine xB ?_ _|refine xC ?_|refine xD ?_ _|refine xE ?_ (by simp <;> omega) _|refine xF ?_ (by assumption))).mono ?_
 rintro e w' ⟨rfl, hx⟩
 obtain ⟨hc, hf⟩ := bcell hx
 go_wp2_with fail
 refine bodyPost_ret ?_ rfl ⟨rfl, ?_⟩
 ·simp [results, Tryz.results324, go_sem, hc]
 ·exact ((((Ext.alloc _ _).trans (Ext.alloc _ _)).trans hx).setCell (by simp) _).setCell (by simp) _
set_option maxHeartbeats 1600000 in
theorem ref01_Sub {s t : Bool} {A A' : Option Addr} {n m c c' a b : Nat} {w : World} (h : Words w (.slice A n c) (limbs a)) (h' : Words w (.slice A' m c') (limbs b)) (hs : s = true → a ≠ 0) (hsz : n < 35184372088832) (hsz' : m < 35184372088832) :
  Calls Tryz.prog 345 #[.agg #[.bool s, .slice A n c], .agg #[.bool t, .slice A' m c']] w (Ret w fun r w' => ∃ u, r = .agg #[.bool (addS s (!t && decide (0 < b)) a b && decide (0 < addM s (!t && decide (0 < b)) a b)), u] ∧ Words w' u (limbs (addM s (!t && decide (0 < b)) a b))) := by
 have HN := Lib.hid (fun w1 (hx : Ext w w1) => ref01_Neg (s := t) (h'.ext hx))
 have HA := Lib.hid (fun w1 (hx : Ext w w1) => ref01_Add (s := s) (t := (!t && decide (0 < b))) (h.ext hx) (h'.ext hx) hs (by intro e; simp at e; omega) hsz hsz')
 have HB0 := Lib.hid (boxes3 w s t A A' n m c c')
 clear h h' hs
 generalize (!t && decide (0 < b)) = t' at *
 generalize (addS s t' a b && decide (0 < addM s t' a b)) = rs at *
 generalize limbs (addM s t' a b) = rl at *
 go_enter Tryz.func345, Tryz.ntmps345
 go_wp2_with fail
 obtain ⟨⟨p0, p1, -, -, -, -⟩, ⟨q0, q1, -, -, -, -⟩, -⟩ := HB0.out
 generalize hwb : ((w.alloc (Obj.cells #[Value.bool s, Value.slice A n c] 55)).alloc (Obj.cells #[Value.bool t, Value.slice A' m c'] 55)).alloc (Obj.cells #[Value.bool false, Value.slice none 0 0] 55) = wb at *
 have hE : Ext w wb := by rw [← hwb]; exact (by repeat first|exact xA _|assumption|refine xB ?_ _|refine xC ?_|refine xD ?_ _|refine xE ?_ (by simp <;> omega) _|refine xF ?_ (by assumption))
 clear hwb
 go_region_held3 (fun w' => w'.cell? ⟨w.heap.size, 0, none⟩ = some (.bool s) ∧ w'.cell? ⟨w.heap.size, 1, none⟩ = some (.slice A n c) ∧ w'.cell? ⟨w.heap.size + 1, 0, none⟩ = some (.bool t) ∧ w'.cell? ⟨w.heap.size + 1, 1, none⟩ = some (.slice A' m c')) (first | (exact ⟨cell_far (cell_far y0 (by dsimp only; omega)) (by dsimp only; omega), cell_far (cell_far y1 (by dsimp only; omega)) (by dsimp only; omega), cell_far (cell_far y2 (by dsimp only; omega)) (by dsimp only; omega), cell_far (cell_far y3 (by dsimp only; omega)) (by dsimp only; omega)⟩) | (exact ⟨y0, y1, y2, y3⟩) | (exact ⟨r0, r1, r2, r3⟩) | (go_keep))
  (first
   | (go_at_call 324; refine (HN.out _ ?_).mono ?_; (exact (by repeat first|exact xA _|assumption|refine xB ?_ _|refine xC ?_|refine xD ?_ _|refine xE ?_ (by simp <;> omega) _|refine xF ?_ (by assumption))); rintro e w1 ⟨rfl, hx1⟩; have hB1 := HB0.out.drew.ext hx1; have HB1 := Lib.hid hB1; obtain ⟨⟨r0, r1, -, -, -, -⟩, ⟨r2, r3, -, -, -, -⟩, -⟩ := hB1)
   | (go_at_call 325; refine (HA.out _ ?_).mono ?_; (exact (by repeat first|exact xA _|assumption|refine xB ?_ _|refine xC ?_|refine xD ?_ _|refine xE ?_ (by simp <;> omega) _|refine xF ?_ (by assumption))); rintro e w2 ⟨v2, rfl, ⟨u2, rfl, hu2⟩, hx2⟩; obtain ⟨A2, c2, rfl, hl2, hm2⟩ := hu2.form; have HU2 := Lib.hid hu2; clear hu2; have hB2 := HB1.out.ext hx2; have HB2 := Lib.hid hB2; obtain ⟨⟨y0, y1, -, -, -, -⟩, ⟨y2, y3, -, -, -, -⟩, ⟨y4, y5, y6, y7, -, -⟩⟩ := hB2))
 have HX := Lib.hid (Ext.trans (Ext.trans hE (Ext.drew wb)) (Ext.trans hx1 hx2))
 go_wp2_with fail
 refine bodyPost_ret ?_ rfl ⟨_, rfl, ⟨.slice A2 rl.length c2, rfl, ?_⟩, ?_⟩
 ·simp [results, Tryz.results345, go_sem, y4, y5]
 ·have hb := HB2.out.2.2.2.2.2.2.2
  exact (HU2.out.box hb _ _).box (hb.set_ _ (by simp)) _ _
 ·exact (HX.out.pset (by simp <;> omega) _).pset (by simp <;> omega) _
set_option maxHeartbeats 800000 in
theorem ref01_FromInt (n : Nat) (hn : n < 4294967296) (w : World) :
  Calls Tryz.prog 30 #[.int .i64 (n : Int)] w (Ret w fun r w' => ∃ u, r = .agg #[.bool false, u] ∧ Words w' u (limbs n)) := by
 have hnn : ¬ ((n : Int) < 0) := by omega
 have HW := Lib.hid (fun W => ref01_words n (by omega) W)
 go_enter Tryz.func30, Tryz.ntmps30
 go_wp2_with fail
 refine (HW.out _).mono ?_
 rintro e w1 ⟨v, rfl, hv, hx1⟩
 obtain ⟨A, c, rfl, hl, hm⟩ := hv.form
 have hS := ref01_signed false hv
 rw [trimL_limbs] at hS
 have HS := Lib.hid hS
 have HV := Lib.hid hv
 have hb := BoxI.new w false (.slice none 0 0) 55 (by simp)
 have HB1 := Lib.hid (hb.ext hx1)
 clear hS hv hb
 go_wp2_with fail
 refine HS.out.mono ?_
 rintro e w2 ⟨rfl, hx2⟩
 have hB2 := HB1.out.ext hx2
 have HB2 := Lib.hid hB2
 have HVV := Lib.hid (HV.out.ext hx2)
 obtain ⟨y4, y5, y6, y7, -, -⟩ := hB2
 have HX := Lib.hid (Ext.trans (Ext.trans (Ext.alloc w _) hx1) hx2)
 go_wp2_with fail
 refine bodyPost_ret ?_ rfl ⟨_, rfl, ⟨.slice A (limbs n).length c, rfl, ?_⟩, ?_⟩
 ·simp [results, Tryz.results30, go_sem, y4, y5]
 ·have hb := HB2.out.2.2.2.2.2
  exact (HVV.out.box hb _ _).box (hb.set_ _ (by simp)) _ _
 ·exact (HX.out.pset (by simp <;> omega) _).pset (by simp <;> omega) _
end Go.Proofs.YtceobmnljdhkmaaGreatDoor
