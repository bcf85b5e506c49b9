/- Contracts: digit. -/
import Derived.Test.YtonleohlplkglaaGreatDoorTf
import Derived.Test.YtonleohlplkglaaGreatDoorDiv
namespace Go.Proofs.YtonleohlplkglaaGreatDoor
open Go Go.RowKit

theorem limbs_length_mono {m n : Nat} (h : m ≤ n) : (limbs m).length ≤ (limbs n).length := by
  rcases Nat.lt_or_ge (limbs n).length (limbs m).length with h1 | h1
  · have := lt_of_limbs_length_lt h1; omega
  · exact h1

/-- The highest two words of a list, and what is below them. -/
theorem val_top2 {xs : List Nat} {k : Nat} (hl : xs.length = k + 2) (hL : Limb xs) : val xs / 4294967296 ^ k = xs.getD k 0 + 4294967296 * xs.getD (k + 1) 0 := by
  have h0 : 0 < 4294967296 ^ k := Nat.pow_pos (by omega)
  have h1 : val (xs.take k) < 4294967296 ^ k := by
    have := val_lt (hL.take k)
    rwa [List.length_take, Nat.min_eq_left (by omega)] at this
  rw [val_split xs k (by omega), Nat.add_mul_div_left _ _ h0, Nat.div_eq_of_lt h1, Nat.zero_add, val_drop xs (by omega), val_drop xs (by omega), List.drop_of_length_le (by omega)]
  simp [val]
theorem val_top1 {ys : List Nat} {k : Nat} (hl : ys.length = k + 1) : ys.getD k 0 * 4294967296 ^ k ≤ val ys := by
  rw [val_split ys k (by omega), val_drop ys (by omega), List.drop_of_length_le (by omega), Nat.mul_comm]
  simp [val]
theorem val_top1_lt {ys : List Nat} {k : Nat} (hl : ys.length = k + 1) (hL : Limb ys) : val ys < (ys.getD k 0 + 1) * 4294967296 ^ k := by
  have h1 : val (ys.take k) < 4294967296 ^ k := by
    have := val_lt (hL.take k)
    rwa [List.length_take, Nat.min_eq_left (by omega)] at this
  rw [val_split ys k (by omega), val_drop ys (by omega), List.drop_of_length_le (by omega), Nat.add_mul, Nat.one_mul, Nat.mul_comm (ys.getD k 0)]
  simp [val]; omega
theorem top_pos {V k : Nat} (hl : (limbs V).length = k + 1) : 0 < (limbs V).getD k 0 := by
  rcases Nat.lt_or_ge 0 ((limbs V).getD k 0) with h | h
  · exact h
  · exfalso
    have h1 := val_top1_lt hl (limb_limbs V)
    have h2 : (limbs V).getD k 0 = 0 := by omega
    rw [h2, val_limbs] at h1
    have := limbs_length_le (n := V) (k := k) (by simpa using h1)
    omega

/-- The first guess of a digit is not too small. -/
theorem guess_upper {xs : List Nat} {V k : Nat} (hl : xs.length = k + 2) (hL : Limb xs) (hk : (limbs V).length = k + 1) :
    val xs / V ≤ (xs.getD k 0 + 4294967296 * xs.getD (k + 1) 0) / (limbs V).getD k 0 := by
  have h1 := val_top1 hk
  rw [val_limbs] at h1
  exact digit_upper (val_top2 hl hL) h1 (Nat.pow_pos (by omega)) (top_pos hk) (Nat.div_mul_le_self _ _)

set_option maxHeartbeats 1600000 in
theorem ref01_digit {A A' : Option Addr} {c c' V k : Nat} {xs : List Nat} {w : World} (h : Words w (.slice A (k + 2) c) xs) (h' : Words w (.slice A' (k + 1) c') (limbs V)) (hlt : val xs < V * 4294967296) (hk : k + 2 ≤ 35184372088832) :
    Calls Tryz.prog 172 #[.slice A (k + 2) c, .slice A' (k + 1) c'] w (Ret w fun v w' => ∃ v', v = .tuple #[.int .u32 ((val xs / V : Nat) : Int), v'] ∧ FreshV w.heap.size v' ∧ Words w' v' (limbs (val xs / V * V))) := by
  obtain ⟨hxl, hl, hm⟩ := h.len
  obtain ⟨hyl, hl', hm'⟩ := h'.len
  have hL := h.limb
  have HG := Lib.hid (guess_upper hxl.symm hL hyl.symm)
  have HLT := Lib.hid hlt
  have ht := top_pos hyl.symm
  have HX := Lib.hid hxl
  have HY := Lib.hid hyl
  obtain ⟨b, off, rfl, hb, -, hcell⟩ := h.at_ (k := 0) (by omega)
  obtain ⟨b', off', rfl, hb', -, hcell'⟩ := h'.at_ (k := 0) (by omega)
  have g1 := hcell (k + 1) (by omega)
  have g2 := hcell k (by omega)
  have g3 := hcell' k (by omega)
  have hx1 := hL.getD (k + 1)
  have hx0 := hL.getD k
  have hy0 := (limb_limbs V).getD k
  have H := Lib.hid h
  have H' := Lib.hid h'
  clear h h' hlt hcell hcell' hxl hyl
  generalize xs.getD (k + 1) 0 = x1 at *
  generalize xs.getD k 0 = x0 at *
  generalize (limbs V).getD k 0 = y at *
  go_enter Tryz.func172, Tryz.ntmps172
  go_wp2_with fail
  go_quiet (fail)
  go_upto_if 32 with fail
  go_cut [7] (fun s7 wx => ∃ Q : Nat, s7 = .int .u64 (Q : Int) ∧ Q < 4294967296 ∧ Hid (val xs / V ≤ Q) ∧ Ext w wx)
  case first =>
    have hq : IntKind.u64.wrap ((bits BinOp.or IntKind.u64 ((x1 : Int) * 4294967296) (x0 : Int)).tdiv (y : Int)) = (((x0 + 4294967296 * x1) / y : Nat) : Int) := by
      rw [u64_or_hi _ _ hx1 hx0, ← Int.ofNat_tdiv, IntKind.wrap_u64]
      have := Nat.div_le_self (x0 + 4294967296 * x1) y
      generalize (x0 + 4294967296 * x1) / y = q at *
      omega
    rw [hq]
    generalize (x0 + 4294967296 * x1) / y = G at *
    by_cases hG : 4294967295 < G
    · clear hq
      go_wp2_with fail
      go_meet
      exact ⟨4294967295, rfl, by omega, by
        have h1 : val xs / V < 4294967296 := Nat.div_lt_of_lt_mul HLT.out
        show _ ≤ _; omega, (by repeat (first | exact Ext.refl _ | assumption | refine Ext.pdrewN ?_ _ | refine Ext.pdrew ?_ | refine Ext.palloc ?_ _ | refine Ext.pset ?_ (by simp <;> omega) _ | refine Ext.trans ?_ (by assumption)))⟩
    · clear hq
      go_wp2_with fail
      go_meet
      exact ⟨G, rfl, by omega, HG.out, (by repeat (first | exact Ext.refl _ | assumption | refine Ext.pdrewN ?_ _ | refine Ext.pdrew ?_ | refine Ext.palloc ?_ _ | refine Ext.pset ?_ (by simp <;> omega) _ | refine Ext.trans ?_ (by assumption)))⟩
  case rest =>
    obtain ⟨Q, rfl, hQ, HQ, hE⟩ := hcut
    have hrow : Row (wc.alloc (.cells #[.int .u32 (Q : Int)] 142)) wc.heap.size [Q] := by
      unfold Row
      rw [heap_alloc_new]
      simp [wordVs]
    have hW := hrow.words (Limb.cons hQ Limb.nil) (c := 1) (by simp) (by omega)
    have HT := ref01_times ((H'.out.ext hE).ext (Ext.alloc wc _)) hW (by simp; omega)
    rw [show val [Q] = Q by simp [val], val_limbs, Nat.mul_comm] at HT
    have HT' := Lib.hid HT
    clear hrow hW HT
    go_wp2_with fail
    refine HT'.out.mono ?_
    rintro e w1 ⟨v, rfl, ⟨hfr, hv⟩, hx⟩
    have HV := Lib.hid (And.intro (hfr.mono (B' := w.heap.size) (by have := hE.size; simp; omega)) hv)
    have HE1 : Ext w w1 := hE.trans ((Ext.alloc wc _).trans hx)
    clear hv hfr HT' hx g1 g2 g3 HG
    go_wp2_with fail
    go_loopw [7, 8] (fun q p wr => ∃ Q : Nat, q = .int .u64 (Q : Int) ∧ Q < 4294967296 ∧ Hid (val xs / V ≤ Q) ∧ Hid (FreshV w.heap.size p ∧ Words wr p (limbs (Q * V))) ∧ Ext w wr) (fun q _ _ => (intOf q).toNat)
    case atStart => exact ⟨Q, rfl, hQ, HQ, HV, HE1⟩
    case round =>
      obtain ⟨Q1, rfl, hQ1, HQ1, HP, hE1⟩ := hrel
      obtain ⟨A2, c2, rfl, hl2, hm2⟩ := HP.out.2.form
      have hx1' := H.out.ext hE1
      have HT1 := Lib.hid (ref01_trim hx1')
      have hT := hx1'.trim
      have hC := ref01_compare hT HP.out.2
      rw [trimL_eq_limbs hL, cmpW_limbs] at hC
      rw [trimL_eq_limbs hL] at HT1
      have HC := Lib.hid hC
      clear hx1' hT hC
      by_cases hless : val xs < Q1 * V
      · rw [if_pos hless] at HC
        go_wp2_with fail
        refine HT1.out.mono ?_
        rintro e w2 ⟨rfl, rfl⟩
        go_wp2_with fail
        refine HC.out.mono ?_
        rintro e w2 ⟨rfl, hx2⟩
        have hV0 : 0 < V := by
          rcases Nat.eq_zero_or_pos V with h0 | h0
          · rw [h0] at hless; simp at hless
          · exact h0
        have hQ0 : 0 < Q1 := by
          rcases Nat.eq_zero_or_pos Q1 with h0 | h0
          · rw [h0] at hless; simp at hless
          · exact h0
        have hQV : V ≤ Q1 * V := Nat.le_mul_of_pos_left V hQ0
        have e1 : Q1 * V - V = (Q1 - 1) * V := by rw [Nat.sub_mul, Nat.one_mul]
        have HQ2 : Hid (val xs / V ≤ Q1 - 1) := by
          have : val xs / V < Q1 := (Nat.div_lt_iff_lt_mul hV0).2 hless
          show _ ≤ _; omega
        have HM := ref01_minus (HP.out.2.ext hx2) ((H'.out.ext hE1).ext hx2) (by rw [val_limbs, val_limbs]; exact hQV) (by rw [HY.out]; exact limbs_length_mono hQV)
        rw [val_limbs, val_limbs, e1] at HM
        have HM' := Lib.hid HM
        clear HM e1 hQV hless HC HT1 HP
        go_wp2_with fail
        refine HM'.out.mono ?_
        rintro e w3 ⟨v3, rfl, ⟨hfr3, hv3⟩, hx3⟩
        have HV3 := Lib.hid (And.intro (hfr3.mono (B' := w.heap.size) (Nat.le_trans hE1.size hx2.size)) hv3)
        clear hv3 hfr3
        go_wp2_with fail
        refine ⟨⟨Q1 - 1, ?_, by omega, HQ2, HV3, (by repeat (first | exact Ext.refl _ | assumption | refine Ext.pdrewN ?_ _ | refine Ext.pdrew ?_ | refine Ext.palloc ?_ _ | refine Ext.pset ?_ (by simp <;> omega) _ | refine Ext.trans ?_ (by assumption)))⟩, ?_⟩
        · rw [Int.natCast_sub (by omega)]; rfl
        · simp [intOf]; omega
      · have hV0 : 0 < V := by
          rcases Nat.eq_zero_or_pos V with h0 | h0
          · have := HY.out; rw [h0, limbs_zero] at this; simp at this
          · exact h0
        have HF : Hid (val xs / V = Q1) := by
          have h1 := HQ1.out
          have h2 : Q1 ≤ val xs / V := (Nat.le_div_iff_mul_le hV0).2 (by omega)
          show _ = _; omega
        rw [if_neg hless] at HC
        by_cases hc2 : Q1 * V < val xs
        all_goals
          simp only [hc2, if_true, if_false] at HC
          clear hless hc2
          go_wp2_with fail
          refine HT1.out.mono ?_
          rintro e w2 ⟨rfl, rfl⟩
          go_wp2_with fail
          refine HC.out.mono ?_
          rintro e w2 ⟨rfl, hx2⟩
          have HW := Lib.hid (And.intro HP.out.1 (HP.out.2.ext hx2))
          clear HP
          go_wp2_with fail
          go_ret2
          exact ⟨_, rfl, ⟨_, by rw [HF.out]; rfl, by rw [HF.out]; exact HW.out⟩, (by repeat (first | exact Ext.refl _ | assumption | refine Ext.pdrewN ?_ _ | refine Ext.pdrew ?_ | refine Ext.palloc ?_ _ | refine Ext.pset ?_ (by simp <;> omega) _ | refine Ext.trans ?_ (by assumption)))⟩

end Go.Proofs.YtonleohlplkglaaGreatDoor
