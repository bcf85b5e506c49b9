/- Contracts: divide (the reference's), the long case. -/
import Derived.Test.YtonleohlplkglaaGreatDoorTh
namespace Go.Proofs.YtonleohlplkglaaGreatDoor
open Go Go.RowKit

theorem setCell_same (w : World) (p : Addr) (u v : Value) : (w.setCell p u).setCell p v = w.setCell p v := by
  have e : ∀ (h : Array Obj) (b : Nat) (f g k : Obj → Obj), (∀ o, g (f o) = k o) → (h.modify b f).modify b g = h.modify b k := fun h b f g k hfg => by
    apply Array.ext
    · simp
    · intro i h1 h2
      simp only [Array.getElem_modify]
      split <;> simp_all
  simp only [World.setCell]
  congr 1
  apply e
  intro o
  cases o <;> simp
  split <;> simp
theorem inner_next {us xs ds : List Nat} {j p n y : Nat} (hl : us.length = n + 1) (hjp : j + p < n + 1) (h4 : ∀ t, t < p → us.getD (j + t) 0 = ds.getD t 0) (h5 : ∀ t, (t < j ∨ j + p ≤ t) → us.getD t 0 = xs.getD t 0) (hy : ds.getD p 0 = y) :
    (us.set (j + p) y).length = n + 1 ∧ (∀ t, t < p + 1 → (us.set (j + p) y).getD (j + t) 0 = ds.getD t 0) ∧ (∀ t, (t < j ∨ j + (p + 1) ≤ t) → (us.set (j + p) y).getD t 0 = xs.getD t 0) := by
  refine ⟨by simp [hl], fun t ht => ?_, fun t ht => ?_⟩
  · by_cases e : t = p
    · subst e; rw [getD_set_self (by omega), hy]
    · rw [getD_set_ne (by omega)]; exact h4 t (by omega)
  · rw [getD_set_ne (by omega)]; exact h5 t (by omega)

set_option maxRecDepth 100000 in
set_option maxHeartbeats 4000000 in
theorem ref01_divide_long {A A' : Option Addr} {n m c c' a b : Nat} {w : World} (h : Words w (.slice A n c) (limbs a)) (h' : Words w (.slice A' (m + 1) c') (limbs b)) (hab : b ≤ a) (hn : 2 < n) (hm1 : 0 < m) (hn2 : n < 35184372088832) :
    Calls Tryz.prog 147 #[.slice A n c, .slice A' (m + 1) c'] w (Ret w (DivRes a b)) := by
  have hl := h.len
  have hl' := h'.len
  obtain ⟨s, hs, hse, hbl, hV1, hV2⟩ := norm_shift hl'.1.symm
  have hmn : m + 1 ≤ n := by have := limbs_length_mono hab; omega
  have hst := norm_start hl.1.symm hmn hs hV1
  have hLV : (limbs (b * 2 ^ s)).length = m + 1 := limbs_length_eq (Nat.le_trans (by omega) hV1) hV2
  have hC := ref01_compare h h'
  rw [cmpW_limbs, if_neg (by omega)] at hC
  obtain ⟨r, hr, hr0⟩ : ∃ r : Int, (if b < a then (1 : Int) else 0) = r ∧ 0 ≤ r := ⟨_, rfl, by split <;> omega⟩
  rw [hr] at hC
  have HC := Lib.hid hC
  have hlen := fun w' (hx : Ext w w') => ref01_length (h'.ext hx)
  have hlb : lenBits (limbs b) = 32 * m + blen ((limbs b).getD m 0) := by
    unfold lenBits; rw [if_neg (by omega), ← hl'.1]; simp
  rw [hlb] at hlen
  generalize blen ((limbs b).getD m 0) = t at *
  have HLN := Lib.hid hlen
  have hsa := fun w' (hx : Ext w w') => ref01_shifted (h.ext hx) hs hn2
  have hsb := fun w' (hx : Ext w w') => ref01_shifted (h'.ext hx) hs (by omega)
  rw [val_limbs] at hsa hsb
  have HSA := Lib.hid hsa
  have HSB := Lib.hid hsb
  have hts : 32 * (m + 1) = s + (32 * m + t) := by omega
  have hmk := mk_words n (by omega)
  have HV := Lib.hid (And.intro hV1 (And.intro hV2 (And.intro hst hLV)))
  have hl1 : n ≤ c ∧ n ≤ 35184372088832 ∧ m + 1 ≤ c' ∧ m + 1 ≤ 35184372088832 := ⟨hl.2.1, hl.2.2, hl'.2.1, hl'.2.2⟩
  obtain ⟨l1, l2, l3, l4⟩ := hl1
  have hs0 : t = 32 - s := by omega
  subst hs0
  clear hC hr h h' hlen hlb hsa hsb hl hl' hV1 hV2 hst hLV hse hbl
  go_enter Tryz.func147, Tryz.ntmps147
  go_wp2_with fail
  refine HC.out.mono ?_
  rintro e w1 ⟨rfl, hx1⟩
  clear HC
  go_wp2_with fail
  refine (HLN.out _ hx1).mono ?_
  rintro e w2 ⟨rfl, rfl⟩
  clear HLN
  go_wp2_with fail
  rw [show (32 * ((m : Int) + 1) - (32 * (m : Int) + ((32 - s : Nat) : Int))) = (s : Int) by omega]
  refine (HSA.out _ hx1).mono ?_
  rintro e w2 ⟨v, rfl, ⟨xs0, rfl, hr1, hL1, hn1, hv1⟩, hx2⟩
  have hg1 : w.heap.size ≤ w1.heap.size := hx1.size
  have hx12 : Ext w w2 := Ext.trans hx1 hx2
  generalize hgg1 : w1.heap.size = g1 at *
  clear HSA hgg1
  have HX0 := Lib.hid (And.intro hr1 (And.intro hL1 (And.intro hn1 hv1)))
  have hlt1 := hr1.lt
  clear hr1 hL1 hn1 hv1 hx1 hx2
  go_wp2_with fail
  refine (HSB.out _ hx12).mono ?_
  rintro e w3 ⟨v, rfl, ⟨ys0, rfl, hr2, hL2, hn2', hv2⟩, hx3⟩
  have hx13 : Ext w w3 := Ext.trans hx12 hx3
  have HX1 := Lib.hid (And.intro (Row.ext HX0.out.1 hx3) HX0.out.2)
  generalize hgg2 : w2.heap.size = g2 at *
  clear HSB hgg2
  have hlt2 := hr2.lt
  have hW2 := hr2.words hL2 (c := m + 1 + 1) (by omega) (by omega)
  rw [hn2'] at hW2
  have HT := ref01_trim hW2
  have eT : (trimL ys0).length = m + 1 := by rw [trimL_eq_limbs hL2, hv2]; exact HV.out.2.2.2
  rw [eT] at HT
  have HT' := Lib.hid HT
  have HY0 := Lib.hid (And.intro hr2 (And.intro hL2 (And.intro hn2' hv2)))
  clear hr2 hL2 hn2' hv2 hW2 HT eT HX0 hx12 hx3
  go_wp2_with fail
  refine HT'.out.mono ?_
  rintro e w4 ⟨rfl, rfl⟩
  clear HT'
  go_wp2_with fail
  generalize hgg3 : w3.heap.size = g3 at *
  have hg3 : w.heap.size ≤ g3 := by omega
  have HXA := Lib.hid (HX1.out.1.alloc (.cells (madeCells #[.int .u32 0] n) 142))
  have HYA := Lib.hid (HY0.out.1.alloc (.cells (madeCells #[.int .u32 0] n) 142))
  have HQA := Row.made w3 n
  rw [hgg3] at HQA
  have HQA' := Lib.hid HQA
  clear HQA hgg3
  go_loopw [14] (fun i wr => ∃ (k : Nat) (xs qs : List Nat), k ≤ n - m ∧ i = .int .i64 ((k : Int) - 1) ∧ Hid (Row wr g1 xs ∧ Limb xs ∧ xs.length = n + 1 ∧ Row wr g3 qs ∧ Limb qs ∧ qs.length = n ∧ Row wr g2 ys0 ∧ DivInv (a * 2 ^ s) (b * 2 ^ s) k xs qs) ∧ Ext w wr) (fun i _ => (intOf i + 1).toNat)
  case atStart =>
    obtain ⟨q1, q2, q3, q4⟩ := HX1.out
    exact ⟨n - m, xs0, List.replicate n 0, Nat.le_refl _, by congr 1; omega, ⟨HXA.out, q2, q3, HQA'.out, limb_replicate n, by simp, HYA.out, div_init q4 (by omega) HV.out.2.2.1⟩, (by repeat (first | exact Ext.refl _ | assumption | refine Ext.pdrewN ?_ _ | refine Ext.pdrew ?_ | refine Ext.palloc ?_ _ | refine Ext.pset ?_ (by simp <;> omega) _ | refine Ext.trans ?_ (by assumption)))⟩
  case round =>
    obtain ⟨k, xs, qs, hk, rfl, HZ, hE⟩ := hrel
    by_cases hk0 : 0 < k
    · obtain ⟨j, rfl⟩ : ∃ j, k = j + 1 := ⟨k - 1, by omega⟩
      obtain ⟨z1, z2, z3, z4, z5, z6, z7, z8⟩ := HZ.out
      have hU := div_part_lt z2 (by omega) z8
      have hVb : b * 2 ^ s * 4294967296 ≤ 4294967296 ^ (m + 2) := by
        rw [Nat.pow_succ]; exact Nat.mul_le_mul_right _ (Nat.le_of_lt HV.out.2.1)
      have hV0 : 0 < b * 2 ^ s := Nat.lt_of_lt_of_le (Nat.mul_pos (pow_pos' m) (by omega)) HV.out.1
      have eU : val ((xs.drop j).take (m + 2)) = val (xs.drop j) := val_take_of_lt (Nat.lt_of_lt_of_le hU hVb)
      have hPL : Limb ((xs.drop j).take (m + 2)) := (z2.drop j).take (m + 2)
      have hP : Words wr (.slice (some ⟨g1, j, none⟩) (m + 2) (n + 1 - j)) ((xs.drop j).take (m + 2)) := z1.part z2 (by omega) (by omega) (by omega)
      have hY := (z7.words HY0.out.2.1 (c := m + 1 + 1) (by rw [HY0.out.2.2.1]; omega) (by omega)).trim
      rw [trimL_eq_limbs HY0.out.2.1, HY0.out.2.2.2, HV.out.2.2.2] at hY
      have HD := ref01_digit hP hY (by rw [eU]; exact hU) (by omega)
      rw [eU] at HD
      have HD' := Lib.hid HD
      have HP := Lib.hid hP
      have HF := Lib.hid (And.intro eU (And.intro hU (And.intro hPL hV0)))
      clear HD hP hY eU hU hPL hV0 hVb z1 z2 z3 z4 z5 z6 z7 z8
      go_wp2_with fail
      rw [show j + (m + 1) + 1 - j = m + 2 by omega]
      refine HD'.out.mono ?_
      rintro e w5 ⟨v, rfl, ⟨v', rfl, hfr5, hv5⟩, hx5⟩
      generalize hqd : val (xs.drop j) / (b * 2 ^ s) = qd at *
      obtain ⟨A5, c5, rfl, hl5, hm5⟩ := hv5.form
      have hqle : qd * (b * 2 ^ s) ≤ val (xs.drop j) := by rw [← hqd]; exact Nat.div_mul_le_self _ _
      have q1 := ((HZ.out.2.2.2.1).ext hx5).cell (k := j) (by have := HZ.out.2.2.2.2.2.1; omega)
      have q2 := ((HZ.out.2.2.2.1).ext hx5).frozen j
      have hE5 : Ext w w5 := Ext.trans hE hx5
      have hg3w : g3 < wr.heap.size := HZ.out.2.2.2.1.lt
      have hg1w : g1 < wr.heap.size := HZ.out.1.lt
      have hx5s := hx5.size
      -- the words behind the store of the digit
      have hP6 : Words (w5.setCell ⟨g3, j, none⟩ (.int .u32 (qd : Int))) (.slice (some ⟨g1, j, none⟩) (m + 2) (n + 1 - j)) ((xs.drop j).take (m + 2)) :=
        (HP.out.ext hx5).set_ (p := ⟨g3, j, none⟩) (fun a ha => by injection ha with ha; rw [← ha]; show g1 ≠ g3; omega) _
      have hT6 := ref01_trim hP6
      have hPt := hP6.trim
      have hv6 := hv5.set_ (p := ⟨g3, j, none⟩) (fun a ha => by have := hfr5 a _ _ (by rw [ha]); show a.block ≠ g3; omega) (.int .u32 (qd : Int))
      rw [trimL_eq_limbs HF.out.2.2.1, HF.out.1] at hT6 hPt
      have hM6 := ref01_minus hPt hv6 (by rw [val_limbs, val_limbs]; exact hqle) (limbs_length_mono hqle)
      have eD : val (limbs (val (xs.drop j))) - val (limbs (qd * (b * 2 ^ s))) = val (xs.drop j) % (b * 2 ^ s) := by
        rw [val_limbs, val_limbs]
        have := Nat.div_add_mod (val (xs.drop j)) (b * 2 ^ s)
        rw [hqd, Nat.mul_comm] at this
        omega
      rw [eD] at hM6
      have HT6 := Lib.hid hT6
      have HM6 := Lib.hid hM6
      have HQ6 := Lib.hid (((HZ.out.2.2.2.1).ext hx5).set_ j qd)
      have HX6 := Lib.hid (((HZ.out.1).ext hx5).far (p := ⟨g3, j, none⟩) (by show g1 ≠ g3; omega) (.int .u32 (qd : Int)))
      have HY6 := Lib.hid (((HZ.out.2.2.2.2.2.2.1).ext hx5).far (p := ⟨g3, j, none⟩) (by show g2 ≠ g3; omega) (.int .u32 (qd : Int)))
      have HE6 : Ext w (w5.setCell ⟨g3, j, none⟩ (.int .u32 (qd : Int))) := hE5.pset hg3 _
      have HS6 : (w5.setCell ⟨g3, j, none⟩ (.int .u32 (qd : Int))).heap.size = w5.heap.size := by simp [World.setCell]
      have HS6' := Lib.hid HS6
      have HQD := Lib.hid hqd
      clear hP6 hT6 hPt hv6 hM6 eD HS6 HD' hfr5 hv5 hqd hqle
      go_wp2_with fail
      generalize w5.setCell ⟨g3, j, none⟩ (.int .u32 (qd : Int)) = w6 at *
      refine HT6.out.mono ?_
      rintro e w7 ⟨rfl, rfl⟩
      clear HT6
      go_wp2_with fail
      refine HM6.out.mono ?_
      rintro e w7 ⟨v7, rfl, ⟨hfr7, hv7⟩, hx7⟩
      obtain ⟨A7, c7, rfl, hl7, hm7⟩ := hv7.form
      have HW7 := Lib.hid hv7
      have HFR7 := Lib.hid hfr7
      clear hv7 hfr7 HM6
      go_wp2_with fail
      obtain ⟨wo, rfl⟩ : ∃ wo : World, wo = w7 := ⟨_, rfl⟩
      go_loopw [19] (fun i' wr' => ∃ (p : Nat) (us : List Nat), p ≤ m + 2 ∧ i' = .int .i64 (p : Int) ∧ Hid (us.length = n + 1 ∧ Limb us ∧ Row wr' g1 us ∧ (∀ t, t < p → us.getD (j + t) 0 = (limbs (val (xs.drop j) % (b * 2 ^ s))).getD t 0) ∧ (∀ t, (t < j ∨ j + p ≤ t) → us.getD t 0 = xs.getD t 0) ∧ Row wr' g3 (qs.set j qd) ∧ Row wr' g2 ys0 ∧ Words wr' (.slice A7 (limbs (val (xs.drop j) % (b * 2 ^ s))).length c7) (limbs (val (xs.drop j) % (b * 2 ^ s)))) ∧ Ext w wr') (fun i' _ => m + 2 - (intOf i').toNat)
      case atStart =>
        exact ⟨0, xs, by omega, rfl, ⟨HZ.out.2.2.1, HZ.out.2.1, HX6.out.ext hx7, fun t ht => absurd ht (by omega), fun t _ => rfl, HQ6.out.ext hx7, HY6.out.ext hx7, HW7.out⟩, (by repeat (first | exact Ext.refl _ | assumption | refine Ext.pdrewN ?_ _ | refine Ext.pdrew ?_ | refine Ext.palloc ?_ _ | refine Ext.pset ?_ (by simp <;> omega) _ | refine Ext.trans ?_ (by assumption)))⟩
      case round =>
        obtain ⟨p, us, hp, rfl, HU, hE'⟩ := hrel
        by_cases hp0 : p < m + 2
        · obtain ⟨u1, u2, u3, u4, u5, u6, u7, u8⟩ := HU.out
          have c1 := u3.cell (k := j + p) (by omega)
          have c2 := u3.frozen (j + p)
          by_cases hp1 : p < (limbs (val (xs.drop j) % (b * 2 ^ s))).length
          · obtain ⟨b7, o7, rfl, hb7, -, hcell7⟩ := u8.at_ (k := p) hp1
            have c3 := hcell7 p hp1
            have hne : b7 ≠ g1 := by
              have h1 := HFR7.out ⟨b7, o7, none⟩ _ _ rfl
              have h2 := HS6'.out
              have h3 : w6.heap.size ≤ b7 := h1
              omega
            have hne' : g1 ≠ b7 := fun e => hne e.symm
            have HN := Lib.hid (inner_next (y := (limbs (val (xs.drop j) % (b * 2 ^ s))).getD p 0) u1 (by omega) u4 u5 rfl)
            have HL : Hid (Limb (us.set (j + p) ((limbs (val (xs.drop j) % (b * 2 ^ s))).getD p 0))) := limb_set u2 ((limb_limbs _).getD p)
            have HR := Lib.hid (u3.set_ (j + p) ((limbs (val (xs.drop j) % (b * 2 ^ s))).getD p 0))
            have HR6 := Lib.hid (u6.far (p := ⟨g1, j + p, none⟩) (by show g3 ≠ g1; omega) (.int .u32 (((limbs (val (xs.drop j) % (b * 2 ^ s))).getD p 0 : Nat) : Int)))
            have HR7 := Lib.hid (u7.far (p := ⟨g1, j + p, none⟩) (by show g2 ≠ g1; omega) (.int .u32 (((limbs (val (xs.drop j) % (b * 2 ^ s))).getD p 0 : Nat) : Int)))
            have HR8 := Lib.hid (u8.set_ (p := ⟨g1, j + p, none⟩) (fun a ha => by injection ha with ha; rw [← ha]; exact hne) (.int .u32 (((limbs (val (xs.drop j) % (b * 2 ^ s))).getD p 0 : Nat) : Int)))
            clear hcell7 u1 u2 u3 u4 u5 u6 u7 u8
            generalize (limbs (val (xs.drop j) % (b * 2 ^ s))).getD p 0 = y at *
            generalize hdl : (limbs (val (xs.drop j) % (b * 2 ^ s))).length = dl at *
            clear hdl
            go_wp2_with fail
            rw [setCell_same]
            obtain ⟨n1, n2, n3⟩ := HN.out
            exact ⟨⟨p + 1, _, by omega, by go_num, ⟨n1, HL.out, HR.out, n2, n3, HR6.out, HR7.out, HR8.out⟩, (by repeat (first | exact Ext.refl _ | assumption | refine Ext.pdrewN ?_ _ | refine Ext.pdrew ?_ | refine Ext.palloc ?_ _ | refine Ext.pset ?_ (by simp <;> omega) _ | refine Ext.trans ?_ (by assumption)))⟩, by simp [intOf]; omega⟩
          · have HZ0 : (limbs (val (xs.drop j) % (b * 2 ^ s))).getD p 0 = 0 := getD_of_le (by omega)
            have hA7 : ∀ a, A7 = some a → a.block ≠ g1 := fun a ha => by
              have h1 := HFR7.out a _ _ (by rw [ha])
              have h2 := HS6'.out
              omega
            have HN := Lib.hid (inner_next (y := 0) u1 (by omega) u4 u5 HZ0)
            have HL : Hid (Limb (us.set (j + p) 0)) := limb_set u2 (by omega)
            have HR := Lib.hid (u3.set_ (j + p) 0)
            have HR6 := Lib.hid (u6.far (p := ⟨g1, j + p, none⟩) (by show g3 ≠ g1; omega) (.int .u32 ((0 : Nat) : Int)))
            have HR7 := Lib.hid (u7.far (p := ⟨g1, j + p, none⟩) (by show g2 ≠ g1; omega) (.int .u32 ((0 : Nat) : Int)))
            have HR8 := Lib.hid (u8.set_ (p := ⟨g1, j + p, none⟩) hA7 (.int .u32 ((0 : Nat) : Int)))
            clear u1 u2 u3 u4 u5 u6 u7 u8 HZ0 hA7
            generalize hdl : (limbs (val (xs.drop j) % (b * 2 ^ s))).length = dl at *
            clear hdl
            go_wp2_with fail
            obtain ⟨n1, n2, n3⟩ := HN.out
            exact ⟨⟨p + 1, _, by omega, by go_num, ⟨n1, HL.out, HR.out, n2, n3, HR6.out, HR7.out, HR8.out⟩, (by repeat (first | exact Ext.refl _ | assumption | refine Ext.pdrewN ?_ _ | refine Ext.pdrew ?_ | refine Ext.palloc ?_ _ | refine Ext.pset ?_ (by simp <;> omega) _ | refine Ext.trans ?_ (by assumption)))⟩, by simp [intOf]; omega⟩
        · obtain rfl : p = m + 2 := by omega
          obtain ⟨u1, u2, u3, u4, u5, u6, u7, u8⟩ := HU.out
          obtain ⟨z1, z2, z3, z4, z5, z6, z7, z8⟩ := HZ.out
          have hV0 := HF.out.2.2.2
          have hd : val (us.drop j) = val (xs.drop j) % (b * 2 ^ s) := by
            have hDlt : val (xs.drop j) % (b * 2 ^ s) < 4294967296 ^ (m + 2) := Nat.lt_trans (Nat.mod_lt _ hV0) (Nat.lt_of_lt_of_le HV.out.2.1 (Nat.pow_le_pow_right (by omega) (by omega)))
            have hUlt : val (xs.drop j) < 4294967296 ^ (m + 2) := by
              have h1 := HF.out.2.1
              have h2 : b * 2 ^ s * 4294967296 ≤ 4294967296 ^ (m + 2) := by
                rw [Nat.pow_succ]; exact Nat.mul_le_mul_right _ (Nat.le_of_lt HV.out.2.1)
              omega
            rw [← val_limbs (val (xs.drop j) % (b * 2 ^ s))]
            apply val_congr
            intro t
            rw [getD_drop]
            by_cases ht : t < m + 2
            · exact u4 t ht
            · rw [u5 (j + t) (by omega), ← getD_drop, zero_of_val_lt hUlt (by omega)]
              exact (getD_of_le (by have := limbs_length_le hDlt; omega)).symm
          have ht : us.take j = xs.take j := by
            apply ext_getD (by rw [List.length_take, List.length_take, u1, z3])
            intro t htl
            rw [List.length_take] at htl
            rw [getD_take (by omega), getD_take (by omega)]
            exact u5 t (by omega)
          have hq : qd < 4294967296 := by
            rw [← HQD.out]; exact Nat.div_lt_of_lt_mul HF.out.2.1
          have HI := div_round z8 (by omega) (by omega) (by omega) ht hd hV0
          rw [HQD.out] at HI
          have HI' := Lib.hid HI
          have HRR := Lib.hid (And.intro u3 (And.intro u2 (And.intro u1 (And.intro u6 (And.intro (limb_set (j := j) z5 hq) u7)))))
          have hql : (qs.set j qd).length = n := by simp [z6]
          have HQL := Lib.hid hql
          clear u1 u2 u3 u4 u5 u6 u7 u8 z1 z2 z3 z4 z5 z6 z7 z8 hV0 hd ht hq HI hql
          go_wp2_with fail
          obtain ⟨r1, r2, r3, r4, r5, r6⟩ := HRR.out
          exact ⟨⟨j, us, _, by omega, rfl, ⟨r1, r2, r3, r4, r5, HQL.out, r6, HI'.out⟩, (by repeat (first | exact Ext.refl _ | assumption | refine Ext.pdrewN ?_ _ | refine Ext.pdrew ?_ | refine Ext.palloc ?_ _ | refine Ext.pset ?_ (by simp <;> omega) _ | refine Ext.trans ?_ (by assumption)))⟩, by simp [intOf]⟩
    · obtain rfl : k = 0 := by omega
      obtain ⟨z1, z2, z3, z4, z5, z6, z7, z8⟩ := HZ.out
      obtain ⟨e1, e2⟩ := div_end z8
      have hp : 0 < 2 ^ s := Nat.pow_pos (by omega)
      rw [Nat.mul_div_mul_right _ _ hp] at e1
      rw [Nat.mul_mod_mul_right] at e2
      have hQ := z4.words z5 (c := n) (by omega) (by omega)
      rw [z6] at hQ
      have hX := z1.words z2 (c := n + 1) (by omega) (by omega)
      rw [z3] at hX
      have hTQ := ref01_trim hQ
      have hQt := hQ.trim
      rw [trimL_eq_limbs z5, e1] at hTQ hQt
      have hTX := ref01_trim hX
      have hXt := hX.trim
      rw [trimL_eq_limbs z2, e2] at hTX hXt
      have hB := ref01_back hXt hs
      rw [val_limbs, Nat.mul_div_cancel _ hp] at hB
      have HTQ := Lib.hid hTQ
      have HTX := Lib.hid hTX
      have HB := Lib.hid hB
      have HQT := Lib.hid hQt
      clear hTQ hTX hB hQt hXt hQ hX e1 e2 hp z1 z2 z3 z4 z5 z6 z7 z8
      go_wp2_with fail
      refine HTQ.out.mono ?_
      rintro e w8 ⟨rfl, rfl⟩
      go_wp2_with fail
      refine HTX.out.mono ?_
      rintro e w8 ⟨rfl, rfl⟩
      go_wp2_with fail
      refine HB.out.mono ?_
      rintro e w8 ⟨v8, rfl, hv8, hx8⟩
      have HV8 := Lib.hid hv8
      clear hv8
      go_wp2_with fail
      go_ret2
      exact ⟨_, rfl, ⟨_, _, rfl, HQT.out.ext hx8, HV8.out⟩, (by repeat (first | exact Ext.refl _ | assumption | refine Ext.pdrewN ?_ _ | refine Ext.pdrew ?_ | refine Ext.palloc ?_ _ | refine Ext.pset ?_ (by simp <;> omega) _ | refine Ext.trans ?_ (by assumption)))⟩

/-- The reference's division: for all numbers. -/
theorem ref01_divide {A A' : Option Addr} {n m c c' a b : Nat} {w : World} (h : Words w (.slice A n c) (limbs a)) (h' : Words w (.slice A' m c') (limbs b)) (hb : 0 < b) (hn2 : n < 35184372088832) :
    Calls Tryz.prog 147 #[.slice A n c, .slice A' m c'] w (Ret w (DivRes a b)) := by
  rcases Nat.lt_or_ge a b with hab | hab
  · exact ref01_divide_less h h' hab
  · rcases Nat.lt_or_ge 2 n with hn | hn
    · have hm : m ≠ 0 := by
        intro e
        have h1 := h'.len.1
        rw [e] at h1
        have h2 := limbs_eq_nil.1 (List.eq_nil_of_length_eq_zero h1.symm)
        omega
      rcases Nat.lt_or_ge 1 m with hm1 | hm1
      · obtain ⟨k, rfl⟩ : ∃ k, m = k + 1 := ⟨m - 1, by omega⟩
        exact ref01_divide_long h h' hab hn (by omega) hn2
      · obtain rfl : m = 1 := by omega
        exact ref01_divide_word h h' hn
    · exact ref01_divide_small h h' hab hb hn

end Go.Proofs.YtonleohlplkglaaGreatDoor
