/- Contracts: words, compare, by, length. -/
import Derived.Laws.MakeOwn
import Derived.Test.YtonleohlplkglaaGreatDoorTb
namespace Go.Proofs.YtonleohlplkglaaGreatDoor
open Go Go.RowKit

theorem infoU32 : (Tryz.prog.info? 142).map (fun i => (i.zero, i.size, i.bytes)) = some (some (.int .u32 0), 1, 4) := by kernel_rfl
theorem mk_words (n : Nat) (hn : n ≤ 35184372088832) (W : World) :
    (Instr.makeSlice 34 (.int .i64 (n : Int)) (.int .i64 (n : Int))).run Tryz.prog W = .ok (.slice (some ⟨W.heap.size, 0, none⟩) n n) (W.alloc (.cells (madeCells #[.int .u32 0] n) 142)) := by
  obtain ⟨i, hi, hz0, hz1, hz2⟩ := info_parts infoU32
  have hb : (i.bytes : Int) * (n : Int) ≤ 281474976710656 := by rw [hz2]; omega
  have hr := run_make (P := Tryz.prog) W 34 142 i (.int .u32 0) Tryz.underlying34 hi hz0 .i64 .i64 n n (by omega) (by omega) hb (by omega)
  simp only [Int.toNat_natCast, hz1, Nat.mul_one] at hr
  exact hr

theorem limbs_two {n : Nat} (hn : n < 18446744073709551616) : trimL [n % 4294967296, n / 4294967296] = limbs n := by
  rw [trimL_eq_limbs (Limb.cons (by omega) (Limb.cons (by omega) Limb.nil))]
  congr 1
  simp only [val]; omega

set_option maxHeartbeats 400000 in
theorem ref01_words (n : Nat) (hn : n < 18446744073709551616) (w : World) :
    Calls Tryz.prog 153 #[.int .u64 (n : Int)] w (Ret w fun v w' => Words w' v (limbs n)) := by
  have hrow : Row (w.alloc (.cells #[.int .u32 ((n : Int) % 4294967296), .int .u32 ((n : Int) / 4294967296)] 142)) w.heap.size [n % 4294967296, n / 4294967296] := by
    unfold Row
    rw [heap_alloc_new]
    simp [wordVs]
  have hW := hrow.words (Limb.cons (by omega) (Limb.cons (by omega) Limb.nil)) (c := 2) (by simp) (by omega)
  have H := Lib.hid (ref01_trim hW)
  have T := Lib.hid hW.trim
  rw [limbs_two hn] at H T
  clear hrow hW
  go_enter Tryz.func153, Tryz.ntmps153
  go_wp2_with fail
  refine H.out.mono ?_
  rintro e w' ⟨rfl, rfl⟩
  go_wp2_with fail
  go_ret
  exact ⟨_, rfl, T.out, (by repeat (first | exact Ext.refl _ | assumption | refine Ext.pdrewN ?_ _ | refine Ext.pdrew ?_ | refine Ext.palloc ?_ _ | refine Ext.pset ?_ (by simp <;> omega) _ | refine Ext.trans ?_ (by assumption)))⟩

set_option maxHeartbeats 400000 in
theorem ref01_compare {A B : Option Addr} {n m c d : Nat} {xs ys : List Nat} {w : World} (h : Words w (.slice A n c) xs) (k : Words w (.slice B m d) ys) :
    Calls Tryz.prog 167 #[.slice A n c, .slice B m d] w fun e w' => e = .returned (.int .i64 (cmpW xs ys)) ∧ Ext w w' := by
  obtain ⟨rfl, hl, hm⟩ := h.len
  obtain ⟨rfl, kl, km⟩ := k.len
  rcases Nat.lt_trichotomy xs.length ys.length with h0 | h0 | h0
  · have h1 : ((xs.length : Int) != (ys.length : Int)) = true := by simp; omega
    have HC : Hid (cmpW xs ys = -1) := cmpW_short h0
    go_enter Tryz.func167, Tryz.ntmps167
    go_wp2
    go_ret
    exact ⟨by rw [HC.out]; rfl, Ext.refl _⟩
  · have hL := h.limb
    have kL := k.limb
    have H := Lib.hid h
    have K := Lib.hid k
    clear h k
    have h1 : ((xs.length : Int) != (xs.length : Int)) = false := by simp
    have H0 := Lib.hid h0
    rw [← h0] at K ⊢
    clear h0
    go_enter Tryz.func167, Tryz.ntmps167
    go_wp2
    go_loopw [5] (fun i wr => ∃ k : Nat, k ≤ xs.length ∧ i = .int .i64 ((k : Int) - 1) ∧ Hid (xs.drop k = ys.drop k) ∧ Ext w wr) (fun i _ => (intOf i + 1).toNat)
    case atStart => exact ⟨xs.length, Nat.le_refl _, rfl, by show _ = _; rw [List.drop_length, H0.out, List.drop_length], Ext.refl _⟩
    case round =>
      obtain ⟨k, hk, rfl, HD, hE⟩ := hrel
      by_cases hk0 : 0 < k
      · obtain ⟨j, rfl⟩ : ∃ j, k = j + 1 := ⟨k - 1, by omega⟩
        obtain ⟨b, off, rfl, hb, -, hcell⟩ := (H.out.ext hE).at_ (k := j) (by omega)
        obtain ⟨b', off', rfl, hb', -, hcell'⟩ := (K.out.ext hE).at_ (k := j) (by omega)
        have g1 := hcell j (by omega)
        have g2 := hcell' j (by omega)
        clear hcell hcell'
        have HL : Hid (xs.getD j 0 < ys.getD j 0 → cmpW xs ys = -1) := fun hlt => cmpW_less hL H0.out (by omega) HD.out hlt
        have HM : Hid (ys.getD j 0 < xs.getD j 0 → cmpW xs ys = 1) := fun hlt => cmpW_more kL H0.out (by omega) HD.out hlt
        have HD' : Hid (xs.getD j 0 = ys.getD j 0 → xs.drop j = ys.drop j) := fun he => by rw [drop_getD xs (by omega), drop_getD ys (by have := H0.out; omega), he, HD.out]
        generalize xs.getD j 0 = x at *
        generalize ys.getD j 0 = y at *
        rcases Nat.lt_trichotomy x y with hxy | hxy | hxy
        · have hd : decide (x < y) = true := by simpa using hxy
          go_wp2
          go_quiet (fail)
          go_wp2
          go_ret
          exact ⟨by rw [HL.out hxy]; rfl, (by repeat (first | exact Ext.refl _ | assumption | refine Ext.pdrewN ?_ _ | refine Ext.pdrew ?_ | refine Ext.palloc ?_ _ | refine Ext.pset ?_ (by simp <;> omega) _ | refine Ext.trans ?_ (by assumption)))⟩
        · subst hxy
          go_wp2
          go_quiet (fail)
          go_wp2
          go_quiet (fail)
          go_wp2
          exact ⟨⟨j, by omega, rfl, HD'.out trivial, (by repeat (first | exact Ext.refl _ | assumption | refine Ext.pdrewN ?_ _ | refine Ext.pdrew ?_ | refine Ext.palloc ?_ _ | refine Ext.pset ?_ (by simp <;> omega) _ | refine Ext.trans ?_ (by assumption)))⟩, by simp [intOf]⟩
        · have hd : decide (x < y) = false := by simp; omega
          have hd2 : decide (y < x) = true := by simpa using hxy
          go_wp2
          go_quiet (fail)
          go_wp2
          go_quiet (fail)
          go_wp2
          go_ret
          exact ⟨by rw [HM.out hxy]; rfl, (by repeat (first | exact Ext.refl _ | assumption | refine Ext.pdrewN ?_ _ | refine Ext.pdrew ?_ | refine Ext.palloc ?_ _ | refine Ext.pset ?_ (by simp <;> omega) _ | refine Ext.trans ?_ (by assumption)))⟩
      · obtain rfl : k = 0 := by omega
        have HC : Hid (cmpW xs ys = 0) := by
          have := HD.out; simp only [List.drop_zero] at this; rw [this]; exact cmpW_same _
        go_wp2
        go_ret
        exact ⟨by rw [HC.out]; rfl, hE⟩
  · have h1 : ((xs.length : Int) != (ys.length : Int)) = true := by simp; omega
    have HC : Hid (cmpW xs ys = 1) := cmpW_long h0
    go_enter Tryz.func167, Tryz.ntmps167
    go_wp2
    go_ret
    exact ⟨by rw [HC.out]; rfl, Ext.refl _⟩
theorem by_step {xs zs : List Nat} {n r j : Nat} (hj : j < xs.length) (hl : zs.length = xs.length) (h : val (xs.drop (j + 1)) = n * val (zs.drop (j + 1)) + r) :
    val (xs.drop j) = n * val ((zs.set j ((xs.getD j 0 + 4294967296 * r) / n)).drop j) + (xs.getD j 0 + 4294967296 * r) % n := by
  have e1 : (zs.set j ((xs.getD j 0 + 4294967296 * r) / n)).drop j = ((xs.getD j 0 + 4294967296 * r) / n) :: zs.drop (j + 1) := by
    rw [drop_getD _ (by simp; omega), List.drop_set, if_pos (by omega)]
    congr 1
    rw [List.getD_eq_getElem?_getD, List.getElem?_set_self (by omega)]; rfl
  rw [val_drop xs hj, e1, val, h]
  have := Nat.div_add_mod (xs.getD j 0 + 4294967296 * r) n
  rw [Nat.mul_add, Nat.mul_add, ← Nat.mul_assoc, Nat.mul_comm 4294967296 n, Nat.mul_assoc]
  omega
theorem by_lt {ρ x n : Nat} (hρ : ρ < n) (hx : x < 4294967296) : (x + 4294967296 * ρ) / n < 4294967296 := by
  apply Nat.div_lt_of_lt_mul
  have : 4294967296 * (ρ + 1) ≤ 4294967296 * n := Nat.mul_le_mul_left _ hρ
  rw [Nat.mul_comm n]; omega
theorem by_q {ρ x n : Nat} (hρ : ρ < n) (hn : n < 4294967296) (hx : x < 4294967296) :
    IntKind.u64.wrap ((bits .or .u64 ((ρ : Int) * 4294967296) (x : Int)).tdiv (n : Int)) % 4294967296 = (((x + 4294967296 * ρ) / n : Nat) : Int) := by
  have h := by_lt hρ hx
  rw [u64_or_hi _ _ (by omega) hx, ← Int.ofNat_tdiv, IntKind.wrap_u64]
  generalize (x + 4294967296 * ρ) / n = q at *
  omega
theorem by_r {ρ x n : Nat} (hρ : ρ < n) (hn : n < 4294967296) (hx : x < 4294967296) :
    (bits .or .u64 ((ρ : Int) * 4294967296) (x : Int)).tmod (n : Int) = (((x + 4294967296 * ρ) % n : Nat) : Int) := by
  rw [u64_or_hi _ _ (by omega) hx, ← Int.ofNat_tmod]
theorem limb_set {zs : List Nat} (h : Limb zs) {j y : Nat} (hy : y < 4294967296) : Limb (zs.set j y) := by
  intro x hx
  rcases List.mem_or_eq_of_mem_set hx with hx | rfl
  · exact h x hx
  · exact hy
theorem limb_replicate (n : Nat) : Limb (List.replicate n 0) := by
  intro x hx
  rw [List.eq_of_mem_replicate hx]; omega

set_option maxHeartbeats 800000 in
theorem ref01_by {A : Option Addr} {m c : Nat} {xs : List Nat} {n : Nat} {w : World} (h : Words w (.slice A m c) xs) (hn : 0 < n) (hn2 : n < 4294967296) :
    Calls Tryz.prog 169 #[.slice A m c, .int .u32 (n : Int)] w (Ret w fun v w' => ∃ v', v = .tuple #[v', .int .u32 ((val xs % n : Nat) : Int)] ∧ Words w' v' (limbs (val xs / n))) := by
  obtain ⟨rfl, hl, hm⟩ := h.len
  have hL := h.limb
  have H := Lib.hid h
  clear h
  have hmk := mk_words xs.length (by omega)
  go_enter Tryz.func169, Tryz.ntmps169
  go_wp2_with fail
  go_loopw [7, 8] (fun r i wr => ∃ (k ρ : Nat) (zs : List Nat), k ≤ xs.length ∧ i = .int .i64 ((k : Int) - 1) ∧ r = .int .u64 (ρ : Int) ∧ ρ < n ∧ Hid (zs.length = xs.length ∧ Limb zs ∧ Row wr w.heap.size zs ∧ val (xs.drop k) = n * val (zs.drop k) + ρ) ∧ Ext w wr) (fun _ i _ => (intOf i + 1).toNat)
  case atStart =>
    exact ⟨xs.length, 0, List.replicate xs.length 0, Nat.le_refl _, rfl, rfl, hn, ⟨by simp, limb_replicate _, Row.made _ _, by simp [val]⟩, (by repeat (first | exact Ext.refl _ | assumption | refine Ext.pdrewN ?_ _ | refine Ext.pdrew ?_ | refine Ext.palloc ?_ _ | refine Ext.pset ?_ (by simp <;> omega) _ | refine Ext.trans ?_ (by assumption)))⟩
  case round =>
    obtain ⟨k, ρ, zs, hk, rfl, rfl, hρ, HZ, hE⟩ := hrel
    by_cases hk0 : 0 < k
    · obtain ⟨j, rfl⟩ : ∃ j, k = j + 1 := ⟨k - 1, by omega⟩
      obtain ⟨b, off, rfl, hb, -, hcell⟩ := (H.out.ext hE).at_ (k := j) (by omega)
      have g1 := hcell j (by omega)
      clear hcell
      have g2 := HZ.out.2.2.1.cell (k := j) (by have := HZ.out.1; omega)
      have g3 := HZ.out.2.2.1.frozen j
      have hx := hL.getD j
      have HS : Hid (val (xs.drop j) = n * val ((zs.set j ((xs.getD j 0 + 4294967296 * ρ) / n)).drop j) + (xs.getD j 0 + 4294967296 * ρ) % n) := by_step (by omega) HZ.out.1 HZ.out.2.2.2
      generalize xs.getD j 0 = x at *
      go_wp2
      rw [by_r hρ hn2 hx, by_q hρ hn2 hx]
      obtain ⟨z1, z2, z3, z4⟩ := HZ.out
      exact ⟨⟨j, _, zs.set j ((x + 4294967296 * ρ) / n), by omega, rfl, rfl, Nat.mod_lt _ hn, ⟨by simp [z1], limb_set z2 (by_lt hρ hx), z3.set_ _ _, HS.out⟩, (by repeat (first | exact Ext.refl _ | assumption | refine Ext.pdrewN ?_ _ | refine Ext.pdrew ?_ | refine Ext.palloc ?_ _ | refine Ext.pset ?_ (by simp <;> omega) _ | refine Ext.trans ?_ (by assumption)))⟩, by simp [intOf]⟩
    · obtain rfl : k = 0 := by omega
      obtain ⟨z1, z2, z3, z4⟩ := HZ.out
      simp only [List.drop_zero] at z4
      have hW := z3.words z2 (c := xs.length) (by omega) (by omega)
      rw [z1] at hW
      have HT := Lib.hid (ref01_trim hW)
      have TW := Lib.hid hW.trim
      have hq : limbs (val xs / n) = trimL zs := by
        rw [trimL_eq_limbs z2, z4, Nat.mul_add_div hn, Nat.div_eq_of_lt hρ, Nat.add_zero]
      have hr : ρ = val xs % n := by rw [z4, Nat.mul_add_mod, Nat.mod_eq_of_lt hρ]
      have HQ := Lib.hid hq
      have HR := Lib.hid hr
      clear hW hq hr z1 z2 z3 z4
      go_wp2_with fail
      refine HT.out.mono ?_
      rintro e w' ⟨rfl, rfl⟩
      go_wp2_with fail
      go_ret2
      exact ⟨_, rfl, ⟨_, by rw [← HR.out]; rfl, by rw [HQ.out]; exact TW.out⟩, (by repeat (first | exact Ext.refl _ | assumption | refine Ext.pdrewN ?_ _ | refine Ext.pdrew ?_ | refine Ext.palloc ?_ _ | refine Ext.pset ?_ (by simp <;> omega) _ | refine Ext.trans ?_ (by assumption)))⟩

end Go.Proofs.YtonleohlplkglaaGreatDoor
