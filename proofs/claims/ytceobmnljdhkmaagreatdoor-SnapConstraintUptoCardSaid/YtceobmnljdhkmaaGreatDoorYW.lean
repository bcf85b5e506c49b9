/- Contract of the program's layer 1: divide, the long case. -/
import Derived.Test.YtceobmnljdhkmaaGreatDoorYV
import Derived.Shelf.Small.Bits
import Derived.Shelf.Strings.BuilderK
import Derived.Shelf.Strings.Repeat
import Derived.Shelf.Strconv.Itoa1
import Derived.Shelf.LaysM
import Derived.Shelf.Strconv.Itoa2
namespace Go.Proofs.YtceobmnljdhkmaaGreatDoor
open Go Go.RowKit
/-- What the division's loop keeps. -/
structure DivAt (g1 g2 g3 : Nat) (ys : List Nat) (X V n l k : Nat) (w : World) (xs qs : List Nat) : Prop where
 rx : Row w g1 xs
 lx : Limb xs
 nx : xs.length = n + 1
 rq : Row w g3 qs
 lq : Limb qs
 nq : qs.length = l
 ry : Row w g2 ys
 inv : DivInv X V k xs qs
theorem Only.trans {g : Nat} {a b c : World} (h : Only g a b) (k : Only g b c) : Only g a c :=
 ⟨k.os.trans h.os, k.tape.trans h.tape, k.output.trans h.output, Nat.le_trans h.size k.size, fun i hi hne => (k.block i (Nat.lt_of_lt_of_le hi h.size) hne).trans (h.block i hi hne)⟩
theorem sub_zero {P d V U qd : Nat} (h : P + d * V = U) (hq : U / V = qd) (hd : d = qd ∨ d = qd + 1) (hV : 0 < V) : d = qd ∧ P = U % V := by
 have h1 := Nat.div_add_mod U V
 have h2 := Nat.mod_lt U hV
 rw [hq] at h1
 rcases hd with rfl | rfl
 ·refine ⟨rfl, ?_⟩
  rw [Nat.mul_comm] at h1; omega
 ·exfalso
  rw [Nat.add_mul, Nat.one_mul, Nat.mul_comm qd] at h; omega
theorem sub_one {P P2 c d V U B3 qd : Nat} (h : P + d * V = U + B3) (hP : P < B3) (h2 : P2 + B3 * c = P + V) (hP2 : P2 < B3) (hVB : V ≤ B3) (hq : U / V = qd) (hd : d = qd ∨ d = qd + 1) (hV : 0 < V) : d = qd + 1 ∧ P2 = U % V := by
 have h1 := Nat.div_add_mod U V
 have h3 := Nat.mod_lt U hV
 rw [hq] at h1
 rcases hd with rfl | rfl
 ·exfalso
  rw [Nat.mul_comm] at h1; omega
 ·refine ⟨rfl, ?_⟩
  rw [Nat.add_mul, Nat.one_mul, Nat.mul_comm qd] at h
  have h4 : P2 + B3 * c = B3 + U % V := by omega
  match c with
  | 0 => omega
  | 1 => omega
  | c + 2 => rw [Nat.mul_add] at h4; have : 0 ≤ B3 * c := Nat.zero_le _; omega
theorem DivAt.next {g1 g2 g3 X V n l j p qd : Nat} {ys xs qs zs : List Nat} {w w' : World} (h : DivAt g1 g2 g3 ys X V n l (j + 1) w xs qs) (hj : j < l) (hp : j + p + 2 < n + 1) (ho : Only g1 w w') (hr : Row w' g1 zs) (hL : Limb zs) (hl : zs.length = xs.length)
  (hs : ∀ t, (t < j ∨ j + (p + 2 + 1) ≤ t) → zs.getD t 0 = xs.getD t 0) (hv : val (part zs j (p + 2 + 1)) = val (xs.drop j) % V) (hU : val (xs.drop j) < 4294967296 ^ (p + 2 + 1)) (n13 : g1 ≠ g3) (n21 : g2 ≠ g1) (n23 : g2 ≠ g3) (hq : val (xs.drop j) / V = qd) (hqs : qd < 4294967296) (hV : 0 < V) :
  DivAt g1 g2 g3 ys X V n l j (w'.setCell ⟨g3, j, none⟩ (.int .u32 (qd : Int))) zs (qs.set j qd) := by
 refine ⟨hr.far (p := ⟨g3, j, none⟩) n13 _, hL, by rw [hl, h.nx], (ho.row h.rq (Ne.symm n13)).set_ j qd, limb_set h.lq hqs, by simp [h.nq], (ho.row h.ry n21).far (p := ⟨g3, j, none⟩) n23 _, ?_⟩
 have hd : val (zs.drop j) = val (xs.drop j) % V := by rw [drop_of_part hU (fun t ht => hs t (Or.inr ht)), hv]
 have := div_round h.inv (by rw [h.nq]; exact hj) (by rw [h.nx]; omega) hl (take_of_same hl fun t ht => hs t (Or.inl ht)) hd hV
 rwa [hq] at this
set_option maxRecDepth 100000 in
set_option maxHeartbeats 4000000 in
theorem int_divide_long (hLZ : LZ32) {A A' : Option Addr} {n p c c' a b : Nat} {w : World} (h : Words w (.slice A n c) (limbs a)) (h' : Words w (.slice A' (p + 2) c') (limbs b)) (hab : b ≤ a) (hn : 2 < n) (hn2 : n < 35184372088832) :
  Calls Tryz.prog 231 #[.slice A n c, .slice A' (p + 2) c'] w (Ret w (DivRes a b)) := by
 have hl := h.len
 have hl' := h'.len
 obtain ⟨s, hs, hse, hbl, hV1, hV2⟩ := norm_shift (m := p + 1) hl'.1.symm
 have hmn : p + 2 ≤ n := by have := limbs_length_mono hab; omega
 have hst := norm_start (m := p + 1) hl.1.symm hmn hs hV1
 have hLV : (limbs (b * 2 ^ s)).length = p + 2 := limbs_length_eq (Nat.le_trans (by omega) hV1) hV2
 have hC := int_compare h h'
 rw [cmpW_limbs, if_neg (by omega)] at hC
 obtain ⟨r, hr, hr0⟩ : ∃ r : Int, (if b < a then (1 : Int) else 0) = r ∧ 0 ≤ r := ⟨_, rfl, by split <;> omega⟩
 rw [hr] at hC
 have HC := Lib.hid hC
 have HW' := Lib.hid h'
 have htop : 0 < (limbs b).getD (p + 1) 0 := by
  rcases Nat.eq_zero_or_pos ((limbs b).getD (p + 1) 0) with h0 | h0
  ·have h1 := trim_step_zero (xs := limbs b) (k := p + 1) (by omega) h0
   rw [List.take_of_length_le (by omega), trimL_limbs] at h1
   have h2 := trimL_length_le ((limbs b).take (p + 1))
   rw [← h1, List.length_take] at h2
   omega
  ·exact h0
 have htlt := (limb_limbs b).getD (p + 1)
 have HZ := Lib.hid (fun w1 => hLZ _ w1 htop htlt)
 have hsa := fun w' (hx : Ext w w') => int_shiftLeft (h.ext hx) hs hn2
 have hsb := fun w' (hx : Ext w w') => int_shiftLeft (h'.ext hx) hs (by omega)
 rw [val_limbs] at hsa hsb
 have HSA := Lib.hid hsa
 have HSB := Lib.hid hsb
 obtain ⟨l, hl0⟩ : ∃ l, n = p + 1 + l := ⟨n - (p + 1), by omega⟩
 have hmk := mk_words l (by omega)
 have hl1 : p + 1 + l ≤ n := by omega
 have hl2 : n ≤ p + 1 + l := by omega
 clear hl0
 have HV := Lib.hid (And.intro hV1 (And.intro hV2 (And.intro hst hLV)))
 have hl1 : n ≤ c ∧ n ≤ 35184372088832 ∧ p + 2 ≤ c' ∧ p + 2 ≤ 35184372088832 := ⟨hl.2.1, hl.2.2, hl'.2.1, hl'.2.2⟩
 obtain ⟨l1, l2, l3, l4⟩ := hl1
 obtain ⟨bb, off, rfl, hbb, -, hcell⟩ := h'.at_ (k := p + 1) (by omega)
 have g1 := hcell (p + 1) (by omega)
 clear hcell h h' hC hr hl hl' hsa hsb hV1 hV2 hst hLV
 generalize (limbs b).getD (p + 1) 0 = tp at *
 have hbs : 32 - blen tp = s := by omega
 rw [hbs] at HZ
 clear hse hbl hbs htop htlt hLZ
 go_enter Tryz.func231, Tryz.ntmps231
 go_wp2_with fail
 refine HC.out.mono ?_
 rintro e w1 ⟨rfl, hx1⟩
 have g2 : w1.cell? ⟨bb, off + (p + 1), none⟩ = some (.int .u32 (tp : Int)) := (hx1.cell (p := ⟨bb, off + (p + 1), none⟩) hbb).trans g1
 clear HC g1
 go_wp2_with fail
 refine (HZ.out _).mono ?_
 rintro e w2 ⟨rfl, rfl⟩
 clear HZ g2
 go_wp2_with fail
 refine (HSA.out _ hx1).mono ?_
 rintro e w2 ⟨v, rfl, ⟨xs0, rfl, hr1, hL1, hn1, hv1⟩, hx2⟩
 have hg1 : w.heap.size ≤ w1.heap.size := hx1.size
 have hx12 : Ext w w2 := Ext.trans hx1 hx2
 generalize hgg1 : w1.heap.size = g1 at *
 clear HSA hgg1
 have HX0 := Lib.hid (And.intro hr1 (And.intro hL1 (And.intro hn1 hv1)))
 have hlt1 := hr1.lt
 clear hr1 hL1 hn1 hv1 hx1 hx2
 go_wp2_with fail
 refine (HSB.out _ hx12).mono ?_
 rintro e w3 ⟨v, rfl, ⟨ys0, rfl, hr2, hL2, hn2', hv2⟩, hx3⟩
 have hx13 : Ext w w3 := Ext.trans hx12 hx3
 have HX1 := Lib.hid (And.intro (Row.ext HX0.out.1 hx3) HX0.out.2)
 generalize hgg2 : w2.heap.size = g2 at *
 clear HSB hgg2
 have hlt2 := hr2.lt
 have hW2 := hr2.words hL2 (c := p + 2 + 1) (by omega) (by omega)
 rw [hn2'] at hW2
 have HT := int_trim hW2
 have eT : (trimL ys0).length = p + 2 := by rw [trimL_eq_limbs hL2, hv2]; exact HV.out.2.2.2
 rw [eT] at HT
 have HT' := Lib.hid HT
 have HY0 := Lib.hid (And.intro hr2 (And.intro hL2 (And.intro hn2' hv2)))
 clear hr2 hL2 hn2' hv2 hW2 HT eT HX0 hx12 hx3
 go_wp2_with fail
 refine HT'.out.mono ?_
 rintro e w4 ⟨rfl, rfl⟩
 clear HT'
 have hml : (n : Int) + 1 - ((p : Int) + 2) = (l : Int) := by omega
 go_wp2_with fail
 have hE3 : Ext w w3 := hx13
 obtain ⟨W4, hW4⟩ : ∃ W4, w3.alloc (Obj.cells (madeCells #[Value.int IntKind.u32 0] l) 164) = W4 := ⟨_, rfl⟩
 obtain ⟨g3, hg3⟩ : ∃ g3, w3.heap.size = g3 := ⟨_, rfl⟩
 have HQ0 : Hid (Row W4 g3 (List.replicate l 0)) := by rw [← hW4, ← hg3]; exact Row.made w3 l
 have HX4 : Hid (Row W4 g1 xs0) := by rw [← hW4]; exact HX1.out.1.alloc _
 have HY4 : Hid (Row W4 g2 ys0) := by rw [← hW4]; exact HY0.out.1.alloc _
 have hE4 : Ext w W4 := by rw [← hW4]; exact hx13.palloc _
 have hgs : g1 < g3 ∧ g2 < g3 ∧ g1 ≠ g2 ∧ w.heap.size ≤ g1 ∧ w.heap.size ≤ g2 ∧ w.heap.size ≤ g3 := by
  have := hE3.size
  refine ⟨?_, ?_, ?_, ?_, ?_, ?_⟩ <;> omega
 rw [hW4, hg3]
 clear hW4 hg3 hx13 hE3
 have y1 := HY4.out.cell (k := p + 1) (by have := HY0.out.2.2.1; omega)
 have y0 := HY4.out.cell (k := p) (by have := HY0.out.2.2.1; omega)
 have HHN := Lib.hid (And.intro (rfl : ys0.getD (p + 1) 0 = ys0.getD (p + 1) 0) (rfl : ys0.getD p 0 = ys0.getD p 0))
 obtain ⟨hh, hhe⟩ : ∃ h, ys0.getD (p + 1) 0 = h := ⟨_, rfl⟩
 obtain ⟨nn, hne⟩ : ∃ h, ys0.getD p 0 = h := ⟨_, rfl⟩
 have bh := HY0.out.2.1.getD (p + 1)
 have bn := HY0.out.2.1.getD p
 rw [hhe] at y1 bh
 rw [hne] at y0 bn
 have HHE := Lib.hid (And.intro hhe hne)
 clear hhe hne HHN
 go_quiet (fail)
 have hE5 : Ext w (W4.drewN nq) := hE4.pdrewN nq
 have HQ5 : Hid (Row (W4.drewN nq) g3 (List.replicate l 0)) := HQ0.out
 have HX5 : Hid (Row (W4.drewN nq) g1 xs0) := HX4.out
 have HY5 : Hid (Row (W4.drewN nq) g2 ys0) := HY4.out
 clear hE4 HQ0 HX4 HY4 y0 y1
 generalize W4.drewN nq = W5 at *
 go_wp2_with fail
 go_loopg [15] l (fun gk i wr => ∃ (xs qs : List Nat), gk ≤ l ∧ i = .int .i64 ((gk : Int) - 1) ∧ Hid (DivAt g1 g2 g3 ys0 (a * 2 ^ s) (b * 2 ^ s) n l gk wr xs qs) ∧ Ext w wr)
 case atStart =>
  refine ⟨xs0, List.replicate l 0, Nat.le_refl _, rfl, ⟨HX5.out, HX1.out.2.1, HX1.out.2.2.1, HQ5.out, limb_replicate l, by simp, HY5.out, div_init HX1.out.2.2.2 (by have := HX1.out.2.2.1; omega) ?_⟩, hE5⟩
  have := HV.out.2.2.1
  rwa [show n - (p + 1) = l by omega] at this
 case round =>
  obtain ⟨xs, qs, hk, rfl, HZ, hE⟩ := hrel
  by_cases hk0 : 0 < gk
  ·obtain ⟨j, rfl⟩ : ∃ j, gk = j + 1 := ⟨gk - 1, by omega⟩
   have hU := div_part_lt HZ.out.lx (by have := HZ.out.nx; omega) HZ.out.inv
   have hG := guess_at (p := p) HZ.out.lx HY0.out.2.1 (by have := HY0.out.2.2.1; omega) HY0.out.2.2.2 HV.out.1 HV.out.2.1 hU
   have x2 := HZ.out.rx.cell (k := j + p + 2) (by have := HZ.out.nx; omega)
   have x1 := HZ.out.rx.cell (k := j + p + 1) (by have := HZ.out.nx; omega)
   have x0 := HZ.out.rx.cell (k := j + p) (by have := HZ.out.nx; omega)
   have b2 := HZ.out.lx.getD (j + p + 2)
   have b1 := HZ.out.lx.getD (j + p + 1)
   rw [HHE.out.1, HHE.out.2] at hG
   have HU := Lib.hid hU
   clear hU
   generalize hqd : val (xs.drop j) / (b * 2 ^ s) = qd at *
   have HQD := Lib.hid hqd
   clear hqd
   obtain ⟨i2, hi2⟩ : ∃ i, i = j + p + 2 := ⟨_, rfl⟩
   obtain ⟨i1, hi1⟩ : ∃ i, i = j + p + 1 := ⟨_, rfl⟩
   obtain ⟨i0, hi0⟩ : ∃ i, i = j + p := ⟨_, rfl⟩
   rw [← hi2] at x2 b2 hG
   rw [← hi1] at x1 b1 hG
   rw [← hi0] at x0 hG
   have e2 : (j : Int) + ((p : Int) + 2) = (i2 : Int) := by omega
   have e1 : (i2 : Int) - 1 = (i1 : Int) := by omega
   have e0 : (i2 : Int) - 2 = (i0 : Int) := by omega
   have f2 : i2 < n + 1 := by omega
   have f1 : i1 < n + 1 := by omega
   have f0 : i0 < n + 1 := by omega
   have HI := Lib.hid (And.intro hi2 (And.intro hi1 hi0))
   clear hi2 hi1 hi0
   obtain ⟨u2, hu2⟩ : ∃ u, xs.getD i2 0 = u := ⟨_, rfl⟩
   obtain ⟨u1, hu1⟩ : ∃ u, xs.getD i1 0 = u := ⟨_, rfl⟩
   obtain ⟨u0, hu0⟩ : ∃ u, xs.getD i0 0 = u := ⟨_, rfl⟩
   rw [hu2] at x2 b2 hG
   rw [hu1] at x1 b1 hG
   rw [hu0] at x0 hG
   clear hu0 hu1 hu2
   have hor : bits .or .u64 ((u2 : Int) * 4294967296) (u1 : Int) = ((u1 + 4294967296 * u2 : Nat) : Int) := u64_or_hi u2 u1 b2 b1
   have htb : u1 + 4294967296 * u2 < 18446744073709551616 := by omega
   generalize u1 + 4294967296 * u2 = t at *
   have hx0 := hG.hx
   have hh0 := hG.hh
   have hh1 := hG.hh'
   have hn0 := hG.hn
   have HG := Lib.hid hG
   clear hG
   have hd1 : ¬ ((hh : Int) = 0) := by omega
   have hd2 : ((hh : Int) == 0) = false := by rw [beq_eq_false_iff_ne]; omega
   go_wp2_with fail
   go_quiet (fail)
   have z0 : (wr.drewN nq).cell? ⟨g1, i0, none⟩ = some (.int .u32 (u0 : Int)) := x0
   have hE6 : Ext w (wr.drewN nq) := hE.pdrewN nq
   have HZ6 : Hid (DivAt g1 g2 g3 ys0 (a * 2 ^ s) (b * 2 ^ s) n l (j + 1) (wr.drewN nq) xs qs) := ⟨HZ.out.rx, HZ.out.lx, HZ.out.nx, HZ.out.rq, HZ.out.lq, HZ.out.nq, HZ.out.ry, HZ.out.inv⟩
   clear x0 x1 x2 HZ hE
   generalize wr.drewN nq = w6 at *
   go_wp2_with fail
   go_quiet (fail)
   have z0' : (w6.drewN nq).cell? ⟨g1, i0, none⟩ = some (.int .u32 (u0 : Int)) := z0
   have hE7 : Ext w (w6.drewN nq) := hE6.pdrewN nq
   have HZ7 : Hid (DivAt g1 g2 g3 ys0 (a * 2 ^ s) (b * 2 ^ s) n l (j + 1) (w6.drewN nq) xs qs) := ⟨HZ6.out.rx, HZ6.out.lx, HZ6.out.nx, HZ6.out.rq, HZ6.out.lq, HZ6.out.nq, HZ6.out.ry, HZ6.out.inv⟩
   clear z0 HZ6 hE6
   generalize w6.drewN nq = w7 at *
   have q1 : IntKind.u64.wrap ((t : Int) / (hh : Int)) = ((t / hh : Nat) : Int) := by
    rw [← Int.natCast_ediv, IntKind.wrap_u64]
    have h1 : t / hh ≤ t := Nat.div_le_self _ _
    generalize t / hh = q at *
    omega
   rw [q1, ← Int.natCast_emod]
   obtain ⟨g1', g2', g3', g4'⟩ := HG.out.first
   generalize t / hh = d0 at *
   generalize t % hh = r0 at *
   clear hor q1 htb
   go_upto_block 3 with fail
   go_cut [17, 18] from 89 to 167 (fun x y wx => ∃ d r : Nat, x = .int .u64 (d : Int) ∧ y = .int .u64 (r : Int) ∧ d < 4294967296 ∧ Hid (d = qd ∨ d = qd + 1) ∧ wx = w7)
   case first =>
    go_wp2_with fail
    go_loopg [17, 18] d0 (fun gk x y wr => ∃ r : Nat, x = .int .u64 (gk : Int) ∧ y = .int .u64 (r : Int) ∧ Hid (hh * gk + r = t) ∧ Hid (qd ≤ gk) ∧ gk ≤ 4294967297 ∧ r < 4294967296 ∧ wr = w7)
    case atStart => exact ⟨r0, rfl, rfl, g3', g1', g2', g4', rfl⟩
    case round =>
     obtain ⟨r, rfl, rfl, HE, HQ, hgk, hr, hwr⟩ := hrel
     have hwr' := hwr.symm
     clear hwr
     subst hwr'
     have hqs := HG.out.hqs
     have HR := Lib.hid hr
     have HGK := Lib.hid hgk
     have hb2 : ∀ b : Bool, decide (4294967296 ≤ r + hh) = b → decide ((4294967296 : Int) ≤ (r : Int) + (hh : Int)) = b := fun b h => by rw [← h]; apply decide_eq_decide.2; omega
     have hb1 : ∀ b : Bool, decide (4294967296 ≤ gk) = b → decide ((4294967296 : Int) ≤ (gk : Int)) = b := fun b h => by rw [← h]; apply decide_eq_decide.2; omega
     have HB2 := Lib.hid hb2
     have HB1 := Lib.hid hb1
     clear hb1 hb2
     have HX0 := Lib.hid hx0
     by_cases hbig : 4294967296 ≤ gk
     ·obtain ⟨d, hdg⟩ : ∃ d, gk = d + 1 := ⟨gk - 1, by omega⟩
      have hgd : (gk : Int) - 1 = (d : Int) := by omega
      have HE2 : Hid (hh * d + (r + hh) = t) := by have := HE.out; rw [hdg, Nat.mul_add, Nat.mul_one] at this; show _ = _; omega
      have HQ2 : Hid (qd ≤ d) := by show _ ≤ _; omega
      have hd3 : d < 8589934592 := by omega
      have hb := HB1.out true (decide_eq_true hbig)
      by_cases hbrk : 4294967296 ≤ r + hh
      ·have hL : d = qd := HG.out.low HE2.out (by omega) HQ2.out hbrk
       have HL := Lib.hid hL
       have HF : Hid (d < 4294967296) := by show _ < _; omega
       have hb2 := HB2.out true (decide_eq_true hbrk)
       clear hL hbig hbrk hgk hqs hdg hx0
       go_wp2_with fail
       go_meet
       exact ⟨d, r + hh, by go_num, by go_num, HF.out, Or.inl HL.out, rfl⟩
      ·have hb2 := HB2.out false (decide_eq_false hbrk)
       have HF : Hid (d < gk ∧ d ≤ 4294967297 ∧ r + hh < 4294967296) := by refine ⟨?_, ?_, ?_⟩ <;> omega
       clear hbig hbrk hgk hqs hdg hx0
       go_wp2_with fail
       go_roundg d
       case measure => exact HF.out.1
       case rel => exact ⟨r + hh, by go_num, by go_num, HE2, HQ2, HF.out.2.1, HF.out.2.2, rfl⟩
     ·have hp : gk * nn ≤ 18446744065119617025 := Nat.le_trans (Nat.mul_le_mul (show gk ≤ 4294967295 by omega) (show nn ≤ 4294967295 by omega)) (by decide)
      have hp0 : (0 : Int) ≤ (gk : Int) * (nn : Int) := Int.mul_nonneg (Int.natCast_nonneg _) (Int.natCast_nonneg _)
      have hor2 : bits .or .u64 ((r : Int) * 4294967296) (u0 : Int) = ((u0 + 4294967296 * r : Nat) : Int) := u64_or_hi r u0 hr hx0
      obtain ⟨y2, hy2⟩ : ∃ y, u0 + 4294967296 * r = y := ⟨_, rfl⟩
      rw [hy2] at hor2
      have HY2 := Lib.hid hy2
      clear hy2
      have hb := HB1.out false (decide_eq_false hbig)
      by_cases hc : y2 < gk * nn
      ·have hlt : qd < gk := HG.out.great HE.out (by rw [HY2.out]; exact hc)
       obtain ⟨d, hdg⟩ : ∃ d, gk = d + 1 := ⟨gk - 1, by omega⟩
       have hgd : (gk : Int) - 1 = (d : Int) := by omega
       have hdec : (y2 : Int) < (gk : Int) * (nn : Int) := by rw [← Int.natCast_mul]; omega
       have HE2 : Hid (hh * d + (r + hh) = t) := by have := HE.out; rw [hdg, Nat.mul_add, Nat.mul_one] at this; show _ = _; omega
       have HQ2 : Hid (qd ≤ d) := by show _ ≤ _; omega
       have hd3 : d < 4294967296 := by omega
       by_cases hbrk : 4294967296 ≤ r + hh
       ·have hL : d = qd := HG.out.low HE2.out (by omega) HQ2.out hbrk
        have HL := Lib.hid hL
        have hb2 := HB2.out true (decide_eq_true hbrk)
        have HF := Lib.hid hd3
        clear hL hbig hbrk hgk hqs hdg hc hlt
        go_wp2_with fail
        go_meet
        exact ⟨d, r + hh, by go_num, by go_num, HF.out, Or.inl HL.out, rfl⟩
       ·have hb2 := HB2.out false (decide_eq_false hbrk)
        have HF : Hid (d < gk ∧ d ≤ 4294967297 ∧ r + hh < 4294967296) := by refine ⟨?_, ?_, ?_⟩ <;> omega
        clear hbig hbrk hgk hqs hdg hc hlt
        go_wp2_with fail
        go_roundg d
        case measure => exact HF.out.1
        case rel => exact ⟨r + hh, by go_num, by go_num, HE2, HQ2, HF.out.2.1, HF.out.2.2, rfl⟩
      ·have HN : Hid (gk = qd ∨ gk = qd + 1) := HG.out.near HE.out (by omega) HQ.out (by rw [HY2.out]; omega)
       have hdec : (gk : Int) * (nn : Int) ≤ (y2 : Int) := by rw [← Int.natCast_mul]; omega
       have HF : Hid (gk < 4294967296) := by show _ < _; omega
       clear hbig hgk hqs hc
       go_wp2_with fail
       go_meet
       exact ⟨gk, r, rfl, rfl, HF.out, HN, rfl⟩
   case rest =>
    obtain ⟨d, r, rfl, rfl, hd, HD, hwr⟩ := hcut
    subst hwr
    have hY := (HZ7.out.ry.words HY0.out.2.1 (c := p + 2 + 1) (by rw [HY0.out.2.2.1]; omega) (by omega)).trim
    rw [trimL_eq_limbs HY0.out.2.1, HY0.out.2.2.2, HV.out.2.2.2] at hY
    have hS := int_subtract (i := j) (m := p + 2) (c := n + 1 - j) HZ7.out.rx HZ7.out.lx (by rw [HZ7.out.nx]; have := HI.out; omega) (by rw [HZ7.out.nx]; omega) hY (fun a ha => by injection ha with ha; rw [← ha]; show g2 ≠ g1; omega) hd
    rw [val_limbs] at hS
    have HS := Lib.hid hS
    have HYW := Lib.hid hY
    have HN : Hid (i2 + 1 - j = p + 2 + 1) := by have := HI.out; show _ = _; omega
    have HDD := Lib.hid hd
    have f3 : j ≤ i2 + 1 := by have := HI.out; omega
    clear hS hY e0 e1 f0 f1 z0' hx0 hh0 hh1 hn0 g1' g2' g3' g4' b1 b2 bh bn
    go_wp2_with fail
    rw [HN.out]
    refine HS.out.mono ?_
    rintro e w8 ⟨zs, q, rfl, hq1, r1, L1, l1, s1, v1, o1⟩
    have hV0 : 0 < b * 2 ^ s := Nat.lt_of_lt_of_le (Nat.mul_pos (pow_pos' (p + 1)) (by omega)) HV.out.1
    have hVB : b * 2 ^ s ≤ 4294967296 ^ (p + 2 + 1) := by
     rw [Nat.pow_succ]
     refine Nat.le_trans (Nat.le_of_lt HV.out.2.1) ?_
     rw [Nat.pow_succ]
     exact Nat.le_mul_of_pos_right _ (by omega)
    have hUB : val (xs.drop j) < 4294967296 ^ (p + 2 + 1) := by
     refine Nat.lt_of_lt_of_le HU.out ?_
     rw [Nat.pow_succ]
     exact Nat.mul_le_mul_right _ (Nat.le_of_lt HV.out.2.1)
    have hPU : val (part xs j (p + 2 + 1)) = val (xs.drop j) := val_take_of_lt hUB
    have hPL : ∀ l : List Nat, Limb l → val (part l j (p + 2 + 1)) < 4294967296 ^ (p + 2 + 1) := fun l hl => by
     refine Nat.lt_of_lt_of_le (val_lt ((hl.drop j).take _)) (Nat.pow_le_pow_right (by omega) ?_)
     unfold part; rw [List.length_take]; omega
    have hE8 : Ext w w8 := o1.ext hE7 (by omega)
    have hqd := HG.out.hqs
    rw [hPU] at v1
    by_cases hqq : q = 1
    ·subst hqq
     rw [Nat.mul_one] at v1
     have hR := int_restore (i := j) (m := p + 2) (c := n + 1 - j) r1 L1 (by rw [l1, HZ7.out.nx]; have := HI.out; omega) (by rw [l1, HZ7.out.nx]; omega) (o1.words HYW.out (fun a ha => by injection ha with ha; rw [← ha]; show g2 ≠ g1; omega)) (fun a ha => by injection ha with ha; rw [← ha]; show g2 ≠ g1; omega)
     rw [val_limbs] at hR
     have HR := Lib.hid hR
     have HPP := Lib.hid (And.intro (hPL _ L1) (And.intro hVB hV0))
     have HO1 := Lib.hid (And.intro o1 (And.intro l1 (And.intro s1 v1)))
     have HUB := Lib.hid hUB
     have HPL := Lib.hid hPL
     have HQD2 := Lib.hid hqd
     have hd1 : 1 ≤ d := by
      rcases Nat.eq_zero_or_pos d with h0 | h0
      ·exfalso; rw [h0, Nat.zero_mul] at v1; have := hPL _ L1; omega
      ·exact h0
     clear hR hPU hPL hqd v1 s1 l1 L1 r1 o1 hq1 HS hV0 hVB hUB
     go_wp2_with fail
     rw [HN.out]
     refine HR.out.mono ?_
     rintro e w9 ⟨zs2, cc, rfl, r2, L2, l2, s2, v2, o2⟩
     obtain ⟨o1, l1, s1, v1⟩ := HO1.out
     have hE9 : Ext w w9 := o2.ext hE8 (by omega)
     obtain ⟨hdq, hv⟩ := sub_one v1 HPP.out.1 v2 (HPL.out _ L2) HPP.out.2.1 HQD.out HD.out HPP.out.2.2
     have HNX := Lib.hid (HZ7.out.next (p := p) (by omega) (by have := HI.out; omega) (o1.trans o2) r2 L2 (by rw [l2, l1]) (fun t ht => by rw [s2 t ht, s1 t ht]) hv HUB.out (by omega) (by omega) (by omega) HQD.out HQD2.out HPP.out.2.2)
     have y1 := ((o1.trans o2).row HZ7.out.rq (by omega)).cell (k := j) (by rw [HZ7.out.nq]; omega)
     have y2 := ((o1.trans o2).row HZ7.out.rq (by omega)).frozen j
     have hdd : (d : Int) - 1 = (qd : Int) := by omega
     have hqb : qd < 4294967296 := HQD2.out
     clear hdq hv v1 s1 l1 o1 v2 s2 l2 L2 r2 o2 HR
     go_wp2_with fail
     go_roundg j
     case measure => omega
     case rel => exact ⟨zs2, qs.set j qd, by omega, by go_num, HNX, hE9.pset (p := ⟨g3, j, none⟩) hgs.2.2.2.2.2 _⟩
    ·obtain rfl : q = 0 := by omega
     rw [Nat.mul_zero, Nat.add_zero] at v1
     obtain ⟨hdq, hv⟩ := sub_zero v1 HQD.out HD.out hV0
     have HNX := Lib.hid (HZ7.out.next (p := p) (by omega) (by have := HI.out; omega) o1 r1 L1 l1 s1 hv hUB (by omega) (by omega) (by omega) HQD.out hqd hV0)
     have y1 := (o1.row HZ7.out.rq (by omega)).cell (k := j) (by rw [HZ7.out.nq]; omega)
     have y2 := (o1.row HZ7.out.rq (by omega)).frozen j
     have HDV := Lib.hid hv
     subst hdq
     clear hV0 hVB hUB hPU hPL hqd HDV hv v1 s1 l1 L1 r1 o1 hq1 HS
     go_wp2_with fail
     go_roundg j
     case measure => omega
     case rel => exact ⟨zs, qs.set j d, by omega, by go_num, HNX, hE8.pset (p := ⟨g3, j, none⟩) hgs.2.2.2.2.2 _⟩
  ·obtain rfl : gk = 0 := by omega
   obtain ⟨e1, e2⟩ := div_end HZ.out.inv
   have hp : 0 < 2 ^ s := Nat.pow_pos (by omega)
   rw [Nat.mul_div_mul_right _ _ hp] at e1
   rw [Nat.mul_mod_mul_right] at e2
   have hQ := HZ.out.rq.words HZ.out.lq (c := l) (by rw [HZ.out.nq]; omega) (by omega)
   rw [HZ.out.nq] at hQ
   have hX := HZ.out.rx.part HZ.out.lx (i := 0) (n := p + 2) (c := n + 1) (by rw [HZ.out.nx]; omega) (by omega) (by omega)
   have hQt := hQ.trim
   have hXt := hX.trim
   have hTQ := fun W (hx : Ext wr W) => int_trim (hQ.ext hx)
   have hTX := fun W (hx : Ext wr W) => int_trim (hX.ext hx)
   have eX : val ((xs.drop 0).take (p + 2)) = a % b * 2 ^ s := by
    rw [List.drop_zero, val_take_of_lt, e2]
    rw [e2]
    have hb0 : 0 < b := by
     rcases Nat.eq_zero_or_pos b with h0 | h0
     ·have := HV.out.1; rw [h0, Nat.zero_mul] at this; have := pow_pos' (p + 1); omega
     ·exact h0
    exact Nat.lt_trans (Nat.mul_lt_mul_of_pos_right (Nat.mod_lt _ hb0) hp) HV.out.2.1
   have lX : Limb ((xs.drop 0).take (p + 2)) := (HZ.out.lx.drop 0).take _
   rw [trimL_eq_limbs HZ.out.lq, e1] at hQt
   rw [trimL_eq_limbs lX, eX] at hXt
   simp only [trimL_eq_limbs HZ.out.lq, e1] at hTQ
   simp only [trimL_eq_limbs lX, eX] at hTX
   have hSR := fun W (hx : Ext wr W) => int_shiftRight (hXt.ext hx) hs
   simp only [val_limbs, Nat.mul_div_cancel _ hp] at hSR
   have HTQ := Lib.hid hTQ
   have HTX := Lib.hid hTX
   have HSR : Hid (∀ W, Ext wr W → Calls Tryz.prog 289 #[.slice (some ⟨g1, 0, none⟩) (limbs (a % b * 2 ^ s)).length (n + 1), .int .i64 (s : Int)] W (Ret W fun v w' => ∃ g zs, v = .slice (some ⟨g, 0, none⟩) (limbs (a % b * 2 ^ s)).length (limbs (a % b * 2 ^ s)).length ∧ Row w' g zs ∧ Limb zs ∧ zs.length = (limbs (a % b * 2 ^ s)).length ∧ val zs = a % b)) := fun W hx => (hSR W hx).mono fun e w' h => by
    obtain ⟨v, he, ⟨zs, h1, h2⟩, h3⟩ := h
    exact ⟨v, he, ⟨_, zs, h1, h2⟩, h3⟩
   have HQT := Lib.hid hQt
   have hLX : (limbs (a % b * 2 ^ s)).length ≤ 35184372088832 := hXt.len.2.2
   generalize (limbs (a % b * 2 ^ s)).length = lx at *
   obtain ⟨lq, hlq⟩ : ∃ lq, (limbs (a / b)).length = lq := ⟨_, rfl⟩
   rw [hlq] at HTQ HQT
   clear hTQ hTX hSR hQt hXt hQ hX eX lX e1 e2 hp hlq HZ
   have HT8 : Hid (∀ (W8 : World) (g : Nat) (zs : List Nat), Row W8 g zs → Limb zs → zs.length = lx → val zs = a % b → Words W8 (.slice (some ⟨g, 0, none⟩) (limbs (a % b)).length lx) (limbs (a % b)) ∧ ∀ W9, Ext W8 W9 → Calls Tryz.prog 105 #[.slice (some ⟨g, 0, none⟩) lx lx] W9 fun e w' => e = .returned (.slice (some ⟨g, 0, none⟩) (limbs (a % b)).length lx) ∧ W9 = w') := by
    intro W8 g zs r8 L8 n8 v8
    have h8 := r8.words L8 (c := lx) (by omega) (by omega)
    rw [n8] at h8
    have t8 := h8.trim
    have c8 := fun W9 (hx : Ext W8 W9) => int_trim (h8.ext hx)
    rw [trimL_eq_limbs L8, v8] at t8
    simp only [trimL_eq_limbs L8, v8] at c8
    exact ⟨t8, c8⟩
   go_wp2_with fail
   go_region_with (first
    | (go_at_call_of 105 (Value.slice (some ⟨g3, 0, none⟩) l l); refine (HTQ.out _ (by repeat first|exact xA _|assumption|refine xB ?_ _|refine xC ?_|refine xD ?_ _|refine xE ?_ (by simp <;> omega) _|refine xF ?_ (by assumption))).mono ?_; rintro e w7 ⟨rfl, rfl⟩)
    | (go_at_call_of 105 (Value.slice (some ⟨g8, 0, none⟩) lx lx); refine (H8.out.2 _ (by repeat first|exact xA _|assumption|refine xB ?_ _|refine xC ?_|refine xD ?_ _|refine xE ?_ (by simp <;> omega) _|refine xF ?_ (by assumption))).mono ?_; rintro e w9 ⟨rfl, rfl⟩)
    | (go_at_call 289; refine (HSR.out _ (by repeat first|exact xA _|assumption|refine xB ?_ _|refine xC ?_|refine xD ?_ _|refine xE ?_ (by simp <;> omega) _|refine xF ?_ (by assumption))).mono ?_; rintro e w8 ⟨v8, rfl, ⟨g8, zs8, rfl, hr8, hL8, hn8, hv8⟩, hx8⟩; have H8 := Lib.hid (HT8.out _ _ _ hr8 hL8 hn8 hv8); clear hr8 hL8 hn8 hv8)
    | (go_at_call 105; refine (HTX.out _ (by repeat first|exact xA _|assumption|refine xB ?_ _|refine xC ?_|refine xD ?_ _|refine xE ?_ (by simp <;> omega) _|refine xF ?_ (by assumption))).mono ?_; rintro e w7 ⟨rfl, rfl⟩))
   all_goals
    go_wp2_with fail
    go_ret2
    exact ⟨_, rfl, ⟨_, _, rfl, HQT.out.ext (by repeat first|exact xA _|assumption|refine xB ?_ _|refine xC ?_|refine xD ?_ _|refine xE ?_ (by simp <;> omega) _|refine xF ?_ (by assumption)), H8.out.1⟩, (by repeat first|exact xA _|assumption|refine xB ?_ _|refine xC ?_|refine xD ?_ _|refine xE ?_ (by simp <;> omega) _|refine xF ?_ (by assumption))⟩
/-- The program's division: for all numbers. -/
theorem int_divide (hLZ : LZ32) {A A' : Option Addr} {n m c c' a b : Nat} {w : World} (h : Words w (.slice A n c) (limbs a)) (h' : Words w (.slice A' m c') (limbs b)) (hb : 0 < b) (hn2 : n < 35184372088832) :
  Calls Tryz.prog 231 #[.slice A n c, .slice A' m c'] w (Ret w (DivRes a b)) := by
 rcases Nat.lt_or_ge a b with hab | hab
 ·exact int_divide_less h h' hab
 ·rcases Nat.lt_or_ge 2 n with hn | hn
  ·have hm : m ≠ 0 := by
    intro e
    have h1 := h'.len.1
    rw [e] at h1
    have h2 := limbs_eq_nil.1 (List.eq_nil_of_length_eq_zero h1.symm)
    omega
   rcases Nat.lt_or_ge 1 m with hm1 | hm1
   ·obtain ⟨k, rfl⟩ : ∃ k, m = k + 2 := ⟨m - 2, by omega⟩
    exact int_divide_long hLZ h h' hab hn hn2
   ·obtain rfl : m = 1 := by omega
    exact int_divide_word h h' hn
  ·exact int_divide_small h h' hab hb hn
end Go.Proofs.YtceobmnljdhkmaaGreatDoor
namespace Go.Proofs
open Go.Shelf
def Tryz.lays133_ren : Go.Shelf.Ren := ⟨fun | 133 => 285 | 128 => 322 | n => n, fun | 51 => 164 | 3 => 3 | 4 => 4 | 46 => 177 | 5 => 5 | 9 => 9 | n => n, fun | n => n⟩
theorem Tryz.lays133 : Go.Proofs.Lays.n133 Tryz.prog Tryz.lays133_ren := {
 mixed := by kernel_rfl
 f128 := Tryz.func322.trans (congrArg some (by kernel_rfl))
 f133 := Tryz.func285.trans (congrArg some (by kernel_rfl))
 t3 := Tryz.underlying3
 a3 := Tryz.isAgg3
 z3 := Tryz.sizeOf3
 v3 := Tryz.zeroValue3
 t4 := Tryz.underlying4
 a4 := Tryz.isAgg4
 z4 := Tryz.sizeOf4
 v4 := Tryz.zeroValue4
 t5 := Tryz.underlying5
 a5 := Tryz.isAgg5
 z5 := Tryz.sizeOf5
 v5 := Tryz.zeroValue5
 t9 := Tryz.underlying9
 a9 := Tryz.isAgg9
 z9 := Tryz.sizeOf9
 v9 := Tryz.zeroValue9
 t46 := Tryz.underlying177
 a46 := Tryz.isAgg177
 z46 := Tryz.sizeOf177
 v46 := Tryz.zeroValue177
 t51 := Tryz.underlying164
 a51 := Tryz.isAgg164
 z51 := Tryz.sizeOf164
 v51 := Tryz.zeroValue164 }
end Go.Proofs
namespace Go.Proofs.YtceobmnljdhkmaaGreatDoor
open Go Go.RowKit Go.Shelf
theorem bitLen_blen (x : Nat) (hx : x < 2 ^ 64) : Lib.bitLen x = blen x := by
 induction x using Nat.strongRecOn with
 | _ x ih =>
  by_cases h : x = 0
  ·subst h; rw [blen_zero]; rfl
  ·rw [blen_pos h, ← ih (x / 2) (by omega) (by omega), Lib.bitLen_half x h hx]
   omega
theorem lz32 : LZ32 := fun x w h0 h1 => by
 have h := Any.bits_LeadingZeros32 Tryz.lays133 (x : Int) w (by omega) (by omega)
 refine h.mono fun e w' hh => ⟨?_, hh.2.symm⟩
 rw [hh.1, Int.toNat_natCast, bitLen_blen _ (by omega)]
 have := blen_le (k := 32) (x := x) (by omega)
 congr 2
 omega
end Go.Proofs.YtceobmnljdhkmaaGreatDoor
