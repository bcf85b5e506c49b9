/- Plain arithmetic of long division, digit by digit (no program in sight). -/
import Derived.Test.YtonleohlplkglaaGreatDoorQA
import Derived.Deep.RegionWith
namespace Go.Proofs.YtonleohlplkglaaGreatDoor

/-- The quotient of the highest parts is at least the quotient's digit. -/
theorem digit_upper {U V t h B q : Nat} (hU : U / B = t) (hV : h * B ≤ V) (hB : 0 < B) (hh : 0 < h) (hq : q * V ≤ U) : q ≤ t / h := by
  rw [Nat.le_div_iff_mul_le hh, ← hU, Nat.le_div_iff_mul_le hB]
  calc q * h * B = q * (h * B) := Nat.mul_assoc ..
    _ ≤ q * V := Nat.mul_le_mul_left _ hV
    _ ≤ U := hq

/-- A digit whose product with the divisor's highest part exceeds that of the dividend is too great. -/
theorem digit_too_great {U V U2 V2 B q d : Nat} (hU : U / B = U2) (hV : V2 * B ≤ V) (hB : 0 < B) (hq : q * V ≤ U) (h : U2 < d * V2) : q < d := by
  rcases Nat.lt_or_ge q d with h1 | h1
  · exact h1
  · exfalso
    have h2 : d * V2 ≤ U2 := by
      rw [← hU, Nat.le_div_iff_mul_le hB]
      calc d * V2 * B = d * (V2 * B) := Nat.mul_assoc ..
        _ ≤ d * V := Nat.mul_le_mul_left _ hV
        _ ≤ q * V := Nat.mul_le_mul_right _ h1
        _ ≤ U := hq
    omega

/-- A digit whose product with the divisor's highest part fits is at most one too great. -/
theorem digit_near {U V U2 V2 B q d C : Nat} (hU : U2 * B ≤ U) (hV : V < (V2 + 1) * B) (hd : d * B ≤ C) (hC : C ≤ V) (hq : U < (q + 1) * V) (h : d * V2 ≤ U2) : d ≤ q + 1 := by
  rcases Nat.lt_or_ge (q + 1) d with h1 | h1
  · exfalso
    have e1 : (q + 2) * V ≤ d * V := Nat.mul_le_mul_right _ h1
    have e2 : d * V ≤ d * ((V2 + 1) * B) := Nat.mul_le_mul_left _ (Nat.le_of_lt hV)
    have e3 : d * ((V2 + 1) * B) = d * V2 * B + d * B := by rw [Nat.add_mul, Nat.mul_add, Nat.one_mul, Nat.mul_assoc]
    have e4 : d * V2 * B ≤ U2 * B := Nat.mul_le_mul_right _ h
    have e5 : (q + 2) * V = (q + 1) * V + V := by rw [Nat.add_mul, Nat.add_mul]; omega
    omega
  · exact h1

/-- A digit that leaves at least the base as the rest of the highest parts is not too great. -/
theorem digit_low {U V t h B q d b : Nat} (hU : t * B ≤ U) (hV : V ≤ (h + 1) * B) (hd : d ≤ b) (hr : d * h + b ≤ t) (hq : U < (q + 1) * V) : d ≤ q := by
  rcases Nat.lt_or_ge q d with h1 | h1
  · exfalso
    have e1 : (q + 1) * V ≤ d * V := Nat.mul_le_mul_right _ h1
    have e2 : d * V ≤ d * ((h + 1) * B) := Nat.mul_le_mul_left _ hV
    have e3 : d * ((h + 1) * B) = (d * h + d) * B := by rw [← Nat.mul_assoc, Nat.mul_add, Nat.mul_one]
    have e4 : (d * h + d) * B ≤ t * B := Nat.mul_le_mul_right _ (by omega)
    omega
  · exact h1

end Go.Proofs.YtonleohlplkglaaGreatDoor

/- Contracts: digit. -/
namespace Go.Proofs.YtonleohlplkglaaGreatDoor
open Go Go.RowKit

theorem limbs_length_mono {m n : Nat} (h : m ≤ n) : (limbs m).length ≤ (limbs n).length := by
  rcases Nat.lt_or_ge (limbs n).length (limbs m).length with h1 | h1
  · have := lt_of_limbs_length_lt h1; omega
  · exact h1

/-- The highest two words of a list, and what is below them. -/
theorem val_top2 {xs : List Nat} {k : Nat} (hl : xs.length = k + 2) (hL : Limb xs) : val xs / 4294967296 ^ k = xs.getD k 0 + 4294967296 * xs.getD (k + 1) 0 := by
  have h0 : 0 < 4294967296 ^ k := Nat.pow_pos (by omega)
  have h1 : val (xs.take k) < 4294967296 ^ k := by
    have := val_lt (hL.take k)
    rwa [List.length_take, Nat.min_eq_left (by omega)] at this
  rw [val_split xs k (by omega), Nat.add_mul_div_left _ _ h0, Nat.div_eq_of_lt h1, Nat.zero_add, val_drop xs (by omega), val_drop xs (by omega), List.drop_of_length_le (by omega)]
  simp [val]
theorem val_top1 {ys : List Nat} {k : Nat} (hl : ys.length = k + 1) : ys.getD k 0 * 4294967296 ^ k ≤ val ys := by
  rw [val_split ys k (by omega), val_drop ys (by omega), List.drop_of_length_le (by omega), Nat.mul_comm]
  simp [val]
theorem val_top1_lt {ys : List Nat} {k : Nat} (hl : ys.length = k + 1) (hL : Limb ys) : val ys < (ys.getD k 0 + 1) * 4294967296 ^ k := by
  have h1 : val (ys.take k) < 4294967296 ^ k := by
    have := val_lt (hL.take k)
    rwa [List.length_take, Nat.min_eq_left (by omega)] at this
  rw [val_split ys k (by omega), val_drop ys (by omega), List.drop_of_length_le (by omega), Nat.add_mul, Nat.one_mul, Nat.mul_comm (ys.getD k 0)]
  simp [val]; omega
theorem top_pos {V k : Nat} (hl : (limbs V).length = k + 1) : 0 < (limbs V).getD k 0 := by
  rcases Nat.lt_or_ge 0 ((limbs V).getD k 0) with h | h
  · exact h
  · exfalso
    have h1 := val_top1_lt hl (limb_limbs V)
    have h2 : (limbs V).getD k 0 = 0 := by omega
    rw [h2, val_limbs] at h1
    have := limbs_length_le (n := V) (k := k) (by simpa using h1)
    omega

/-- The first guess of a digit is not too small. -/
theorem guess_upper {xs : List Nat} {V k : Nat} (hl : xs.length = k + 2) (hL : Limb xs) (hk : (limbs V).length = k + 1) :
    val xs / V ≤ (xs.getD k 0 + 4294967296 * xs.getD (k + 1) 0) / (limbs V).getD k 0 := by
  have h1 := val_top1 hk
  rw [val_limbs] at h1
  exact digit_upper (val_top2 hl hL) h1 (Nat.pow_pos (by omega)) (top_pos hk) (Nat.div_mul_le_self _ _)

set_option maxHeartbeats 1600000 in
theorem ref01_digit {A A' : Option Addr} {c c' V k : Nat} {xs : List Nat} {w : World} (h : Words w (.slice A (k + 2) c) xs) (h' : Words w (.slice A' (k + 1) c') (limbs V)) (hlt : val xs < V * 4294967296) (hk : k + 2 ≤ 35184372088832) :
    Calls Tryz.prog 172 #[.slice A (k + 2) c, .slice A' (k + 1) c'] w (Ret w fun v w' => ∃ v', v = .tuple #[.int .u32 ((val xs / V : Nat) : Int), v'] ∧ FreshV w.heap.size v' ∧ Words w' v' (limbs (val xs / V * V))) := by
  obtain ⟨hxl, hl, hm⟩ := h.len
  obtain ⟨hyl, hl', hm'⟩ := h'.len
  have hL := h.limb
  have HG := Lib.hid (guess_upper hxl.symm hL hyl.symm)
  have HLT := Lib.hid hlt
  have ht := top_pos hyl.symm
  have HX := Lib.hid hxl
  have HY := Lib.hid hyl
  obtain ⟨b, off, rfl, hb, -, hcell⟩ := h.at_ (k := 0) (by omega)
  obtain ⟨b', off', rfl, hb', -, hcell'⟩ := h'.at_ (k := 0) (by omega)
  have g1 := hcell (k + 1) (by omega)
  have g2 := hcell k (by omega)
  have g3 := hcell' k (by omega)
  have hx1 := hL.getD (k + 1)
  have hx0 := hL.getD k
  have hy0 := (limb_limbs V).getD k
  have H := Lib.hid h
  have H' := Lib.hid h'
  clear h h' hlt hcell hcell' hxl hyl
  generalize xs.getD (k + 1) 0 = x1 at *
  generalize xs.getD k 0 = x0 at *
  generalize (limbs V).getD k 0 = y at *
  go_enter Tryz.func172, Tryz.ntmps172
  go_wp2_with fail
  go_quiet (fail)
  go_upto_if 32 with fail
  go_cut [7] (fun s7 wx => ∃ Q : Nat, s7 = .int .u64 (Q : Int) ∧ Q < 4294967296 ∧ Hid (val xs / V ≤ Q) ∧ Ext w wx)
  case first =>
    have hq : IntKind.u64.wrap ((bits BinOp.or IntKind.u64 ((x1 : Int) * 4294967296) (x0 : Int)).tdiv (y : Int)) = (((x0 + 4294967296 * x1) / y : Nat) : Int) := by
      rw [u64_or_hi _ _ hx1 hx0, ← Int.ofNat_tdiv, IntKind.wrap_u64]
      have := Nat.div_le_self (x0 + 4294967296 * x1) y
      generalize (x0 + 4294967296 * x1) / y = q at *
      omega
    rw [hq]
    generalize (x0 + 4294967296 * x1) / y = G at *
    by_cases hG : 4294967295 < G
    · clear hq
      go_wp2_with fail
      go_meet
      exact ⟨4294967295, rfl, by omega, by
        have h1 : val xs / V < 4294967296 := Nat.div_lt_of_lt_mul HLT.out
        show _ ≤ _; omega, (by repeat (first | exact Ext.refl _ | assumption | refine Ext.pdrewN ?_ _ | refine Ext.pdrew ?_ | refine Ext.palloc ?_ _ | refine Ext.pset ?_ (by simp <;> omega) _ | refine Ext.trans ?_ (by assumption)))⟩
    · clear hq
      go_wp2_with fail
      go_meet
      exact ⟨G, rfl, by omega, HG.out, (by repeat (first | exact Ext.refl _ | assumption | refine Ext.pdrewN ?_ _ | refine Ext.pdrew ?_ | refine Ext.palloc ?_ _ | refine Ext.pset ?_ (by simp <;> omega) _ | refine Ext.trans ?_ (by assumption)))⟩
  case rest =>
    obtain ⟨Q, rfl, hQ, HQ, hE⟩ := hcut
    have hrow : Row (wc.alloc (.cells #[.int .u32 (Q : Int)] 142)) wc.heap.size [Q] := by
      unfold Row
      rw [heap_alloc_new]
      simp [wordVs]
    have hW := hrow.words (Limb.cons hQ Limb.nil) (c := 1) (by simp) (by omega)
    have HT := ref01_times ((H'.out.ext hE).ext (Ext.alloc wc _)) hW (by simp; omega)
    rw [show val [Q] = Q by simp [val], val_limbs, Nat.mul_comm] at HT
    have HT' := Lib.hid HT
    clear hrow hW HT
    go_wp2_with fail
    refine HT'.out.mono ?_
    rintro e w1 ⟨v, rfl, ⟨hfr, hv⟩, hx⟩
    have HV := Lib.hid (And.intro (hfr.mono (B' := w.heap.size) (by have := hE.size; simp; omega)) hv)
    have HE1 : Ext w w1 := hE.trans ((Ext.alloc wc _).trans hx)
    clear hv hfr HT' hx g1 g2 g3 HG
    go_wp2_with fail
    go_loopw [7, 8] (fun q p wr => ∃ Q : Nat, q = .int .u64 (Q : Int) ∧ Q < 4294967296 ∧ Hid (val xs / V ≤ Q) ∧ Hid (FreshV w.heap.size p ∧ Words wr p (limbs (Q * V))) ∧ Ext w wr) (fun q _ _ => (intOf q).toNat)
    case atStart => exact ⟨Q, rfl, hQ, HQ, HV, HE1⟩
    case round =>
      obtain ⟨Q1, rfl, hQ1, HQ1, HP, hE1⟩ := hrel
      obtain ⟨A2, c2, rfl, hl2, hm2⟩ := HP.out.2.form
      have hx1' := H.out.ext hE1
      have HT1 := Lib.hid (ref01_trim hx1')
      have hT := hx1'.trim
      have hC := ref01_compare hT HP.out.2
      rw [trimL_eq_limbs hL, cmpW_limbs] at hC
      rw [trimL_eq_limbs hL] at HT1
      have HC := Lib.hid hC
      clear hx1' hT hC
      by_cases hless : val xs < Q1 * V
      · rw [if_pos hless] at HC
        go_wp2_with fail
        refine HT1.out.mono ?_
        rintro e w2 ⟨rfl, rfl⟩
        go_wp2_with fail
        refine HC.out.mono ?_
        rintro e w2 ⟨rfl, hx2⟩
        have hV0 : 0 < V := by
          rcases Nat.eq_zero_or_pos V with h0 | h0
          · rw [h0] at hless; simp at hless
          · exact h0
        have hQ0 : 0 < Q1 := by
          rcases Nat.eq_zero_or_pos Q1 with h0 | h0
          · rw [h0] at hless; simp at hless
          · exact h0
        have hQV : V ≤ Q1 * V := Nat.le_mul_of_pos_left V hQ0
        have e1 : Q1 * V - V = (Q1 - 1) * V := by rw [Nat.sub_mul, Nat.one_mul]
        have HQ2 : Hid (val xs / V ≤ Q1 - 1) := by
          have : val xs / V < Q1 := (Nat.div_lt_iff_lt_mul hV0).2 hless
          show _ ≤ _; omega
        have HM := ref01_minus (HP.out.2.ext hx2) ((H'.out.ext hE1).ext hx2) (by rw [val_limbs, val_limbs]; exact hQV) (by rw [HY.out]; exact limbs_length_mono hQV)
        rw [val_limbs, val_limbs, e1] at HM
        have HM' := Lib.hid HM
        clear HM e1 hQV hless HC HT1 HP
        go_wp2_with fail
        refine HM'.out.mono ?_
        rintro e w3 ⟨v3, rfl, ⟨hfr3, hv3⟩, hx3⟩
        have HV3 := Lib.hid (And.intro (hfr3.mono (B' := w.heap.size) (Nat.le_trans hE1.size hx2.size)) hv3)
        clear hv3 hfr3
        go_wp2_with fail
        refine ⟨⟨Q1 - 1, ?_, by omega, HQ2, HV3, (by repeat (first | exact Ext.refl _ | assumption | refine Ext.pdrewN ?_ _ | refine Ext.pdrew ?_ | refine Ext.palloc ?_ _ | refine Ext.pset ?_ (by simp <;> omega) _ | refine Ext.trans ?_ (by assumption)))⟩, ?_⟩
        · rw [Int.natCast_sub (by omega)]; rfl
        · simp [intOf]; omega
      · have hV0 : 0 < V := by
          rcases Nat.eq_zero_or_pos V with h0 | h0
          · have := HY.out; rw [h0, limbs_zero] at this; simp at this
          · exact h0
        have HF : Hid (val xs / V = Q1) := by
          have h1 := HQ1.out
          have h2 : Q1 ≤ val xs / V := (Nat.le_div_iff_mul_le hV0).2 (by omega)
          show _ = _; omega
        rw [if_neg hless] at HC
        by_cases hc2 : Q1 * V < val xs
        all_goals
          simp only [hc2, if_true, if_false] at HC
          clear hless hc2
          go_wp2_with fail
          refine HT1.out.mono ?_
          rintro e w2 ⟨rfl, rfl⟩
          go_wp2_with fail
          refine HC.out.mono ?_
          rintro e w2 ⟨rfl, hx2⟩
          have HW := Lib.hid (And.intro HP.out.1 (HP.out.2.ext hx2))
          clear HP
          go_wp2_with fail
          go_ret2
          exact ⟨_, rfl, ⟨_, by rw [HF.out]; rfl, by rw [HF.out]; exact HW.out⟩, (by repeat (first | exact Ext.refl _ | assumption | refine Ext.pdrewN ?_ _ | refine Ext.pdrew ?_ | refine Ext.palloc ?_ _ | refine Ext.pset ?_ (by simp <;> omega) _ | refine Ext.trans ?_ (by assumption)))⟩

end Go.Proofs.YtonleohlplkglaaGreatDoor

/- Plain arithmetic of long division on lists of words (no program in sight). -/
namespace Go.Proofs.YtonleohlplkglaaGreatDoor

theorem pow_pos' (k : Nat) : 0 < 4294967296 ^ k := Nat.pow_pos (by omega)

theorem val_ge_word (l : List Nat) (j : Nat) : 4294967296 ^ j * l.getD j 0 ≤ val l := by
  by_cases h : j < l.length
  · rw [val_split l j (by omega), val_drop l h, Nat.mul_add]; omega
  · rw [getD_of_le (by omega)]; omega
theorem zero_of_val_lt {l : List Nat} {m j : Nat} (h : val l < 4294967296 ^ m) (hj : m ≤ j) : l.getD j 0 = 0 := by
  rcases Nat.eq_zero_or_pos (l.getD j 0) with h0 | h0
  · exact h0
  · exfalso
    have h1 := val_ge_word l j
    have h2 : 4294967296 ^ m ≤ 4294967296 ^ j := Nat.pow_le_pow_right (by omega) hj
    have h3 : 4294967296 ^ j * 1 ≤ 4294967296 ^ j * l.getD j 0 := Nat.mul_le_mul_left _ h0
    omega
theorem val_zero {l : List Nat} (h : ∀ j, l.getD j 0 = 0) : val l = 0 := by
  induction l with
  | nil => rfl
  | cons x l ih =>
    have h0 := h 0
    simp only [List.getD_cons_zero] at h0
    rw [val, h0, ih fun j => by simpa using h (j + 1)]
theorem val_congr {l l' : List Nat} (h : ∀ j, l.getD j 0 = l'.getD j 0) : val l = val l' := by
  induction l generalizing l' with
  | nil => rw [val_zero (l := l') fun j => by rw [← h j]; rfl]; rfl
  | cons x l ih =>
    cases l' with
    | nil => rw [val_zero (l := x :: l) fun j => by rw [h j]; rfl]; rfl
    | cons y l' =>
      have h0 := h 0
      simp only [List.getD_cons_zero] at h0
      rw [val, val, h0, ih fun j => by simpa using h (j + 1)]
theorem getD_drop (l : List Nat) (i j : Nat) : (l.drop i).getD j 0 = l.getD (i + j) 0 := by
  rw [List.getD_eq_getElem?_getD, List.getElem?_drop, List.getD_eq_getElem?_getD]
theorem val_take_of_lt {l : List Nat} {m : Nat} (h : val l < 4294967296 ^ m) : val (l.take m) = val l := by
  apply val_congr
  intro j
  by_cases hj : j < m
  · exact getD_take hj
  · rw [zero_of_val_lt h (by omega), getD_of_le (by rw [List.length_take]; omega)]

/-- What the loop of a long division keeps, the digits from k on being done. -/
def DivInv (X V k : Nat) (xs qs : List Nat) : Prop := X = V * (4294967296 ^ k * val (qs.drop k)) + val xs ∧ val (xs.drop k) < V

theorem div_init {X V k n : Nat} {xs : List Nat} (hX : val xs = X) (hk : k ≤ xs.length) (h : X < 4294967296 ^ k * V) : DivInv X V k xs (List.replicate n 0) := by
  refine ⟨?_, ?_⟩
  · rw [List.drop_replicate, val_replicate, hX]; simp
  · rw [← hX, val_split xs k hk] at h
    apply Nat.lt_of_mul_lt_mul_left (a := 4294967296 ^ k)
    omega

theorem div_part_lt {X V i : Nat} {xs qs : List Nat} (hL : Limb xs) (hi : i < xs.length) (h : DivInv X V (i + 1) xs qs) : val (xs.drop i) < V * 4294967296 := by
  have h1 := h.2
  have h2 := hL.getD i
  rw [val_drop xs hi]
  have h3 : 4294967296 * (val (xs.drop (i + 1)) + 1) ≤ 4294967296 * V := Nat.mul_le_mul_left _ h1
  rw [Nat.mul_comm V]
  omega

theorem div_round {X V i : Nat} {xs qs us : List Nat} (h : DivInv X V (i + 1) xs qs) (hq : i < qs.length) (hi : i < xs.length) (hl : us.length = xs.length) (ht : us.take i = xs.take i)
    (hd : val (us.drop i) = val (xs.drop i) % V) (hV : 0 < V) : DivInv X V i us (qs.set i (val (xs.drop i) / V)) := by
  refine ⟨?_, by rw [hd]; exact Nat.mod_lt _ hV⟩
  have e1 : (qs.set i (val (xs.drop i) / V)).drop i = (val (xs.drop i) / V) :: qs.drop (i + 1) := by
    rw [drop_getD _ (by simp; omega), List.drop_set, if_pos (by omega), getD_set_self hq]
  rw [h.1, e1, val, val_split us i (by omega), ht, hd, val_split xs i (by omega), Nat.pow_succ]
  have h2 := Nat.div_add_mod (val (xs.drop i)) V
  generalize val (xs.drop i) / V = Q at *
  generalize val (xs.drop i) % V = R at *
  rw [← h2]
  generalize 4294967296 ^ i = B at *
  generalize val (qs.drop (i + 1)) = D at *
  simp only [Nat.mul_add]
  have e2 : V * (B * 4294967296 * D) = V * (B * (4294967296 * D)) := by rw [Nat.mul_assoc]
  have e3 : B * (V * Q) = V * (B * Q) := by rw [Nat.mul_left_comm]
  rw [e2, e3]
  omega

theorem div_end {X V : Nat} {xs qs : List Nat} (h : DivInv X V 0 xs qs) : val qs = X / V ∧ val xs = X % V := by
  obtain ⟨h1, h2⟩ := h
  simp only [List.drop_zero, Nat.pow_zero, Nat.one_mul] at h1 h2
  have hV : 0 < V := by omega
  rw [h1, Nat.mul_add_div hV, Nat.div_eq_of_lt h2, Nat.mul_add_mod, Nat.mod_eq_of_lt h2]
  exact ⟨by omega, rfl⟩

/-- The shift by which the divisor's highest bit is set. -/
theorem norm_shift {b m : Nat} (hm : (limbs b).length = m + 1) : ∃ s, s < 32 ∧ 32 * (m + 1) - (32 * m + blen ((limbs b).getD m 0)) = s ∧ blen ((limbs b).getD m 0) ≤ 32 ∧ 4294967296 ^ m * 2147483648 ≤ b * 2 ^ s ∧ b * 2 ^ s < 4294967296 ^ (m + 1) := by
  have hL := limb_limbs b
  have htop : (limbs b).getD m 0 ≠ 0 := by
    intro h0
    have h1 : val (limbs b) < 4294967296 ^ m := by
      rw [val_split (limbs b) m (by omega), val_drop (limbs b) (by omega), List.drop_of_length_le (by omega), h0]
      have := val_lt (hL.take m)
      rw [List.length_take, Nat.min_eq_left (by omega)] at this
      simpa [val] using this
    rw [val_limbs] at h1
    have := limbs_length_le h1
    omega
  have hlt := hL.getD m
  have e : b = val ((limbs b).take m) + 4294967296 ^ m * (limbs b).getD m 0 := by
    have := val_split (limbs b) m (by omega)
    rw [val_limbs, val_drop (limbs b) (by omega), List.drop_of_length_le (by omega)] at this
    simpa [val] using this
  have hlow : val ((limbs b).take m) < 4294967296 ^ m := by
    have := val_lt (hL.take m)
    rwa [List.length_take, Nat.min_eq_left (by omega)] at this
  generalize (limbs b).getD m 0 = t at *
  have h1 := lt_two_pow_blen t
  have h2 := two_pow_blen_le htop
  have h3 := blen_le (k := 32) (x := t) (by omega)
  have h4 : 1 ≤ blen t := by rw [blen_pos htop]; omega
  refine ⟨32 - blen t, by omega, by omega, h3, ?_, ?_⟩
  · have e2 : 2 ^ (blen t - 1) * 2 ^ (32 - blen t) = 2147483648 := by rw [← Nat.pow_add, show blen t - 1 + (32 - blen t) = 31 by omega]
    rw [e]
    calc 4294967296 ^ m * 2147483648 = 4294967296 ^ m * (2 ^ (blen t - 1) * 2 ^ (32 - blen t)) := by rw [e2]
      _ = (4294967296 ^ m * 2 ^ (blen t - 1)) * 2 ^ (32 - blen t) := by rw [Nat.mul_assoc]
      _ ≤ (4294967296 ^ m * t) * 2 ^ (32 - blen t) := Nat.mul_le_mul_right _ (Nat.mul_le_mul_left _ h2)
      _ ≤ _ := Nat.mul_le_mul_right _ (by omega)
  · have e2 : 2 ^ blen t * 2 ^ (32 - blen t) = 4294967296 := by rw [← Nat.pow_add, show blen t + (32 - blen t) = 32 by omega]
    have h5 : b < 4294967296 ^ m * 2 ^ blen t := by
      have : 4294967296 ^ m * (t + 1) ≤ 4294967296 ^ m * 2 ^ blen t := Nat.mul_le_mul_left _ h1
      rw [Nat.mul_add] at this
      omega
    calc b * 2 ^ (32 - blen t) < (4294967296 ^ m * 2 ^ blen t) * 2 ^ (32 - blen t) := Nat.mul_lt_mul_of_pos_right h5 (Nat.pow_pos (by omega))
      _ = 4294967296 ^ m * (2 ^ blen t * 2 ^ (32 - blen t)) := by rw [Nat.mul_assoc]
      _ = 4294967296 ^ (m + 1) := by rw [e2, Nat.pow_succ]

/-- At the start the dividend's part above the first digit is below the divisor. -/
theorem norm_start {a b m n s : Nat} (hn : (limbs a).length = n) (hmn : m + 1 ≤ n) (hs : s < 32) (hV : 4294967296 ^ m * 2147483648 ≤ b * 2 ^ s) : a * 2 ^ s < 4294967296 ^ (n - m) * (b * 2 ^ s) := by
  have h1 : a < 4294967296 ^ n := by
    have := val_lt (limb_limbs a)
    rwa [val_limbs, hn] at this
  have h2 : 2 ^ s ≤ 2 ^ 31 := Nat.pow_le_pow_right (by omega) (by omega)
  calc a * 2 ^ s < 4294967296 ^ n * 2 ^ s := Nat.mul_lt_mul_of_pos_right h1 (Nat.pow_pos (by omega))
    _ ≤ 4294967296 ^ n * 2147483648 := Nat.mul_le_mul_left _ (by omega)
    _ = 4294967296 ^ (n - m) * (4294967296 ^ m * 2147483648) := by rw [← Nat.mul_assoc, ← Nat.pow_add, show n - m + m = n by omega]
    _ ≤ _ := Nat.mul_le_mul_left _ hV

theorem limbs_length_eq {V m : Nat} (h1 : 4294967296 ^ m ≤ V) (h2 : V < 4294967296 ^ (m + 1)) : (limbs V).length = m + 1 := by
  have := limbs_length_le h2
  have := limbs_length_gt h1
  omega

end Go.Proofs.YtonleohlplkglaaGreatDoor

/- Contracts: divide (the reference's), the simple cases. -/
namespace Go.Proofs.YtonleohlplkglaaGreatDoor
open Go Go.RowKit

/-- What a division leaves: the quotient's and the remainder's words. -/
def DivRes (a b : Nat) (v : Value) (w' : World) : Prop := ∃ v1 v2, v = .tuple #[v1, v2] ∧ Words w' v1 (limbs (a / b)) ∧ Words w' v2 (limbs (a % b))

set_option maxHeartbeats 800000 in
theorem ref01_divide_less {A A' : Option Addr} {n m c c' a b : Nat} {w : World} (h : Words w (.slice A n c) (limbs a)) (h' : Words w (.slice A' m c') (limbs b)) (hab : a < b) :
    Calls Tryz.prog 147 #[.slice A n c, .slice A' m c'] w (Ret w (DivRes a b)) := by
  have hC := ref01_compare h h'
  rw [cmpW_limbs, if_pos hab] at hC
  have HC := Lib.hid hC
  have H := Lib.hid h
  clear hC h h'
  go_enter Tryz.func147, Tryz.ntmps147
  go_wp2_with fail
  refine HC.out.mono ?_
  rintro e w1 ⟨rfl, hx⟩
  have HW := Lib.hid (H.out.ext hx)
  go_wp2_with fail
  go_ret2
  exact ⟨_, rfl, ⟨_, _, rfl, by rw [Nat.div_eq_of_lt hab, limbs_zero]; exact Words.nil _, by rw [Nat.mod_eq_of_lt hab]; exact HW.out⟩, (by repeat (first | exact Ext.refl _ | assumption | refine Ext.pdrewN ?_ _ | refine Ext.pdrew ?_ | refine Ext.palloc ?_ _ | refine Ext.pset ?_ (by simp <;> omega) _ | refine Ext.trans ?_ (by assumption)))⟩

set_option maxRecDepth 100000 in
set_option maxHeartbeats 1600000 in
theorem ref01_divide_small {A A' : Option Addr} {n m c c' a b : Nat} {w : World} (h : Words w (.slice A n c) (limbs a)) (h' : Words w (.slice A' m c') (limbs b)) (hab : b ≤ a) (hb : 0 < b) (hn : n ≤ 2) :
    Calls Tryz.prog 147 #[.slice A n c, .slice A' m c'] w (Ret w (DivRes a b)) := by
  have hC := ref01_compare h h'
  rw [cmpW_limbs, if_neg (by omega)] at hC
  obtain ⟨r, hr, hr0⟩ : ∃ r : Int, (if b < a then (1 : Int) else 0) = r ∧ 0 ≤ r := ⟨_, rfl, by split <;> omega⟩
  rw [hr] at hC
  have HC := Lib.hid hC
  have hl := h.len
  have hl' := h'.len
  have hm : m ≤ 2 := by have := limbs_length_mono hab; omega
  have hs := fun w' (hx : Ext w w') => ref01_short (h.ext hx) hn
  have hs' := fun w' (hx : Ext w w') => ref01_short (h'.ext hx) hm
  rw [val_limbs] at hs hs'
  have HS := Lib.hid hs
  have HS' := Lib.hid hs'
  have ha2 : a < 18446744073709551616 := by
    have h1 := val_lt (limb_limbs a)
    rw [val_limbs] at h1
    have h2 : 4294967296 ^ (limbs a).length ≤ 4294967296 ^ 2 := Nat.pow_le_pow_right (by omega) (by omega)
    omega
  clear hC hr h h' hs hs' hl hl' hm
  go_enter Tryz.func147, Tryz.ntmps147
  go_wp2_with fail
  refine HC.out.mono ?_
  rintro e w1 ⟨rfl, hx⟩
  go_wp2_with fail
  refine (HS.out _ hx).mono ?_
  rintro e w2 ⟨rfl, rfl⟩
  go_wp2_with fail
  refine (HS'.out _ hx).mono ?_
  rintro e w2 ⟨rfl, rfl⟩
  go_wp2_with fail
  have hb0 : ¬ ((b : Int) = 0) := by omega
  have hb1 : ((b : Int) == 0) = false := by simp; omega
  have hq : ∀ W, Calls Tryz.prog 153 #[.int .u64 (IntKind.u64.wrap ((a : Int) / (b : Int)))] W (Ret W fun v w' => Words w' v (limbs (a / b))) := fun W => by
    have h1 : a / b ≤ a := Nat.div_le_self _ _
    have e : IntKind.u64.wrap ((a : Int) / (b : Int)) = ((a / b : Nat) : Int) := by
      rw [← Int.natCast_ediv, IntKind.wrap_u64]
      generalize a / b = q at *
      omega
    rw [e]
    exact ref01_words (a / b) (by omega) W
  have hr : ∀ (x : Int) W, x = ((a % b : Nat) : Int) → Calls Tryz.prog 153 #[.int .u64 x] W (Ret W fun v w' => Words w' v (limbs (a % b))) := fun x W hx => by
    have h1 : a % b ≤ a := Nat.mod_le _ _
    rw [hx]
    exact ref01_words (a % b) (by omega) W
  have HQ := Lib.hid hq
  have HR := Lib.hid hr
  clear ha2 hq hr HC HS HS'
  go_region_with (first
    | (go_at_call_of 153 (IntKind.u64.wrap ((a : Int) / (b : Int))); refine (HQ.out _).mono ?_; rintro e w2 ⟨v, rfl, hv, hx2⟩)
    | (go_at_call_of 153 ((a : Int) % (b : Int)); refine (HR.out _ _ (Int.natCast_emod a b).symm).mono ?_; rintro e w3 ⟨v', rfl, hv', hx3⟩)
    | (go_at_call_of 153 ((a : Int).tmod (b : Int)); refine (HR.out _ _ (Int.ofNat_tmod a b).symm).mono ?_; rintro e w3 ⟨v', rfl, hv', hx3⟩))
  all_goals
    go_wp2_with fail
    go_ret2
    exact ⟨_, rfl, ⟨_, _, rfl, hv.ext hx3, hv'⟩, (by repeat (first | exact Ext.refl _ | assumption | refine Ext.pdrewN ?_ _ | refine Ext.pdrew ?_ | refine Ext.palloc ?_ _ | refine Ext.pset ?_ (by simp <;> omega) _ | refine Ext.trans ?_ (by assumption)))⟩

set_option maxRecDepth 100000 in
set_option maxHeartbeats 1600000 in
theorem ref01_divide_word {A A' : Option Addr} {n c c' a b : Nat} {w : World} (h : Words w (.slice A n c) (limbs a)) (h' : Words w (.slice A' 1 c') (limbs b)) (hn : 2 < n) :
    Calls Tryz.prog 147 #[.slice A n c, .slice A' 1 c'] w (Ret w (DivRes a b)) := by
  have hl := h.len
  have hl' := h'.len
  have hba : b < a := lt_of_limbs_length_lt (by omega)
  have hC := ref01_compare h h'
  rw [cmpW_limbs, if_neg (by omega), if_pos hba] at hC
  have HC := Lib.hid hC
  have hb2 : b < 4294967296 := by
    have h1 := val_lt (limb_limbs b)
    rw [val_limbs, ← hl'.1] at h1
    simpa using h1
  have hb0 : 0 < b := by
    rcases Nat.eq_zero_or_pos b with h0 | h0
    · have := hl'.1; rw [h0, limbs_zero] at this; simp at this
    · exact h0
  have hbl : (limbs b).getD 0 0 = b := by
    have := val_limbs b
    match hm : limbs b, hl'.1 with
    | [x], _ => rw [hm] at this; simpa [val] using this
  obtain ⟨bb, off, rfl, hbb, -, hcell⟩ := h'.at_ (k := 0) (by omega)
  have g1 := hcell 0 (by omega)
  rw [hbl, Nat.add_zero] at g1
  have hby := fun w' (hx : Ext w w') => ref01_by (h.ext hx) hb0 hb2
  rw [val_limbs] at hby
  have HB := Lib.hid hby
  have hwd := fun W => ref01_words (a % b) (Nat.lt_trans (Nat.mod_lt a hb0) (by omega)) W
  have HWD := Lib.hid hwd
  have hlc : n ≤ 35184372088832 := by omega
  have hmod := Nat.mod_lt a hb0
  have hl1 := hl'.2.1
  clear hC h h' hl hl' hby hwd hba hcell hbl
  go_enter Tryz.func147, Tryz.ntmps147
  go_wp2_with fail
  refine HC.out.mono ?_
  rintro e w1 ⟨rfl, hx⟩
  have g2 : w1.cell? ⟨bb, off, none⟩ = some (.int .u32 (b : Int)) := (hx.cell (p := ⟨bb, off, none⟩) hbb).trans g1
  clear g1
  go_wp2_with fail
  refine (HB.out _ hx).mono ?_
  rintro e w2 ⟨v, rfl, ⟨v1, rfl, hv1⟩, hx2⟩
  have HV1 := Lib.hid hv1
  clear hv1 HC HB g2
  generalize hr : a % b = r at *
  have HR := Lib.hid hr
  clear hr
  go_wp2_with fail
  refine (HWD.out _).mono ?_
  rintro e w3 ⟨v2, rfl, hv2, hx3⟩
  have HV2 := Lib.hid hv2
  clear hv2
  go_wp2_with fail
  go_ret2
  exact ⟨_, rfl, ⟨_, _, rfl, HV1.out.ext hx3, by rw [HR.out]; exact HV2.out⟩, (by repeat (first | exact Ext.refl _ | assumption | refine Ext.pdrewN ?_ _ | refine Ext.pdrew ?_ | refine Ext.palloc ?_ _ | refine Ext.pset ?_ (by simp <;> omega) _ | refine Ext.trans ?_ (by assumption)))⟩

end Go.Proofs.YtonleohlplkglaaGreatDoor

/- Contracts: divide (the reference's), the long case. -/
namespace Go.Proofs.YtonleohlplkglaaGreatDoor
open Go Go.RowKit

theorem setCell_same (w : World) (p : Addr) (u v : Value) : (w.setCell p u).setCell p v = w.setCell p v := by
  have e : ∀ (h : Array Obj) (b : Nat) (f g k : Obj → Obj), (∀ o, g (f o) = k o) → (h.modify b f).modify b g = h.modify b k := fun h b f g k hfg => by
    apply Array.ext
    · simp
    · intro i h1 h2
      simp only [Array.getElem_modify]
      split <;> simp_all
  simp only [World.setCell]
  congr 1
  apply e
  intro o
  cases o <;> simp
  split <;> simp
theorem inner_next {us xs ds : List Nat} {j p n y : Nat} (hl : us.length = n + 1) (hjp : j + p < n + 1) (h4 : ∀ t, t < p → us.getD (j + t) 0 = ds.getD t 0) (h5 : ∀ t, (t < j ∨ j + p ≤ t) → us.getD t 0 = xs.getD t 0) (hy : ds.getD p 0 = y) :
    (us.set (j + p) y).length = n + 1 ∧ (∀ t, t < p + 1 → (us.set (j + p) y).getD (j + t) 0 = ds.getD t 0) ∧ (∀ t, (t < j ∨ j + (p + 1) ≤ t) → (us.set (j + p) y).getD t 0 = xs.getD t 0) := by
  refine ⟨by simp [hl], fun t ht => ?_, fun t ht => ?_⟩
  · by_cases e : t = p
    · subst e; rw [getD_set_self (by omega), hy]
    · rw [getD_set_ne (by omega)]; exact h4 t (by omega)
  · rw [getD_set_ne (by omega)]; exact h5 t (by omega)

set_option maxRecDepth 100000 in
set_option maxHeartbeats 4000000 in
theorem ref01_divide_long {A A' : Option Addr} {n m c c' a b : Nat} {w : World} (h : Words w (.slice A n c) (limbs a)) (h' : Words w (.slice A' (m + 1) c') (limbs b)) (hab : b ≤ a) (hn : 2 < n) (hm1 : 0 < m) (hn2 : n < 35184372088832) :
    Calls Tryz.prog 147 #[.slice A n c, .slice A' (m + 1) c'] w (Ret w (DivRes a b)) := by
  have hl := h.len
  have hl' := h'.len
  obtain ⟨s, hs, hse, hbl, hV1, hV2⟩ := norm_shift hl'.1.symm
  have hmn : m + 1 ≤ n := by have := limbs_length_mono hab; omega
  have hst := norm_start hl.1.symm hmn hs hV1
  have hLV : (limbs (b * 2 ^ s)).length = m + 1 := limbs_length_eq (Nat.le_trans (by omega) hV1) hV2
  have hC := ref01_compare h h'
  rw [cmpW_limbs, if_neg (by omega)] at hC
  obtain ⟨r, hr, hr0⟩ : ∃ r : Int, (if b < a then (1 : Int) else 0) = r ∧ 0 ≤ r := ⟨_, rfl, by split <;> omega⟩
  rw [hr] at hC
  have HC := Lib.hid hC
  have hlen := fun w' (hx : Ext w w') => ref01_length (h'.ext hx)
  have hlb : lenBits (limbs b) = 32 * m + blen ((limbs b).getD m 0) := by
    unfold lenBits; rw [if_neg (by omega), ← hl'.1]; simp
  rw [hlb] at hlen
  generalize blen ((limbs b).getD m 0) = t at *
  have HLN := Lib.hid hlen
  have hsa := fun w' (hx : Ext w w') => ref01_shifted (h.ext hx) hs hn2
  have hsb := fun w' (hx : Ext w w') => ref01_shifted (h'.ext hx) hs (by omega)
  rw [val_limbs] at hsa hsb
  have HSA := Lib.hid hsa
  have HSB := Lib.hid hsb
  have hts : 32 * (m + 1) = s + (32 * m + t) := by omega
  have hmk := mk_words n (by omega)
  have HV := Lib.hid (And.intro hV1 (And.intro hV2 (And.intro hst hLV)))
  have hl1 : n ≤ c ∧ c ≤ 35184372088832 ∧ m + 1 ≤ c' ∧ c' ≤ 35184372088832 := ⟨hl.2.1, hl.2.2, hl'.2.1, hl'.2.2⟩
  obtain ⟨l1, l2, l3, l4⟩ := hl1
  have hs0 : t = 32 - s := by omega
  subst hs0
  clear hC hr h h' hlen hlb hsa hsb hl hl' hV1 hV2 hst hLV hse hbl
  go_enter Tryz.func147, Tryz.ntmps147
  go_wp2_with fail
  refine HC.out.mono ?_
  rintro e w1 ⟨rfl, hx1⟩
  clear HC
  go_wp2_with fail
  refine (HLN.out _ hx1).mono ?_
  rintro e w2 ⟨rfl, rfl⟩
  clear HLN
  go_wp2_with fail
  rw [show (32 * ((m : Int) + 1) - (32 * (m : Int) + ((32 - s : Nat) : Int))) = (s : Int) by omega]
  refine (HSA.out _ hx1).mono ?_
  rintro e w2 ⟨v, rfl, ⟨xs0, rfl, hr1, hL1, hn1, hv1⟩, hx2⟩
  have hg1 : w.heap.size ≤ w1.heap.size := hx1.size
  have hx12 : Ext w w2 := Ext.trans hx1 hx2
  generalize hgg1 : w1.heap.size = g1 at *
  clear HSA hgg1
  have HX0 := Lib.hid (And.intro hr1 (And.intro hL1 (And.intro hn1 hv1)))
  have hlt1 := hr1.lt
  clear hr1 hL1 hn1 hv1 hx1 hx2
  go_wp2_with fail
  refine (HSB.out _ hx12).mono ?_
  rintro e w3 ⟨v, rfl, ⟨ys0, rfl, hr2, hL2, hn2', hv2⟩, hx3⟩
  have hx13 : Ext w w3 := Ext.trans hx12 hx3
  have HX1 := Lib.hid (And.intro (Row.ext HX0.out.1 hx3) HX0.out.2)
  generalize hgg2 : w2.heap.size = g2 at *
  clear HSB hgg2
  have hlt2 := hr2.lt
  have hW2 := hr2.words hL2 (c := m + 1 + 1) (by omega) (by omega)
  rw [hn2'] at hW2
  have HT := ref01_trim hW2
  have eT : (trimL ys0).length = m + 1 := by rw [trimL_eq_limbs hL2, hv2]; exact HV.out.2.2.2
  rw [eT] at HT
  have HT' := Lib.hid HT
  have HY0 := Lib.hid (And.intro hr2 (And.intro hL2 (And.intro hn2' hv2)))
  clear hr2 hL2 hn2' hv2 hW2 HT eT HX0 hx12 hx3
  go_wp2_with fail
  refine HT'.out.mono ?_
  rintro e w4 ⟨rfl, rfl⟩
  clear HT'
  go_wp2_with fail
  generalize hgg3 : w3.heap.size = g3 at *
  have hg3 : w.heap.size ≤ g3 := by omega
  have HXA := Lib.hid (HX1.out.1.alloc (.cells (madeCells #[.int .u32 0] n) 142))
  have HYA := Lib.hid (HY0.out.1.alloc (.cells (madeCells #[.int .u32 0] n) 142))
  have HQA := Row.made w3 n
  rw [hgg3] at HQA
  have HQA' := Lib.hid HQA
  clear HQA hgg3
  go_loopw [14] (fun i wr => ∃ (k : Nat) (xs qs : List Nat), k ≤ n - m ∧ i = .int .i64 ((k : Int) - 1) ∧ Hid (Row wr g1 xs ∧ Limb xs ∧ xs.length = n + 1 ∧ Row wr g3 qs ∧ Limb qs ∧ qs.length = n ∧ Row wr g2 ys0 ∧ DivInv (a * 2 ^ s) (b * 2 ^ s) k xs qs) ∧ Ext w wr) (fun i _ => (intOf i + 1).toNat)
  case atStart =>
    obtain ⟨q1, q2, q3, q4⟩ := HX1.out
    exact ⟨n - m, xs0, List.replicate n 0, Nat.le_refl _, by congr 1; omega, ⟨HXA.out, q2, q3, HQA'.out, limb_replicate n, by simp, HYA.out, div_init q4 (by omega) HV.out.2.2.1⟩, (by repeat (first | exact Ext.refl _ | assumption | refine Ext.pdrewN ?_ _ | refine Ext.pdrew ?_ | refine Ext.palloc ?_ _ | refine Ext.pset ?_ (by simp <;> omega) _ | refine Ext.trans ?_ (by assumption)))⟩
  case round =>
    obtain ⟨k, xs, qs, hk, rfl, HZ, hE⟩ := hrel
    by_cases hk0 : 0 < k
    · obtain ⟨j, rfl⟩ : ∃ j, k = j + 1 := ⟨k - 1, by omega⟩
      obtain ⟨z1, z2, z3, z4, z5, z6, z7, z8⟩ := HZ.out
      have hU := div_part_lt z2 (by omega) z8
      have hVb : b * 2 ^ s * 4294967296 ≤ 4294967296 ^ (m + 2) := by
        rw [Nat.pow_succ]; exact Nat.mul_le_mul_right _ (Nat.le_of_lt HV.out.2.1)
      have hV0 : 0 < b * 2 ^ s := Nat.lt_of_lt_of_le (Nat.mul_pos (pow_pos' m) (by omega)) HV.out.1
      have eU : val ((xs.drop j).take (m + 2)) = val (xs.drop j) := val_take_of_lt (Nat.lt_of_lt_of_le hU hVb)
      have hPL : Limb ((xs.drop j).take (m + 2)) := (z2.drop j).take (m + 2)
      have hP : Words wr (.slice (some ⟨g1, j, none⟩) (m + 2) (n + 1 - j)) ((xs.drop j).take (m + 2)) := z1.part z2 (by omega) (by omega) (by omega)
      have hY := (z7.words HY0.out.2.1 (c := m + 1 + 1) (by rw [HY0.out.2.2.1]; omega) (by omega)).trim
      rw [trimL_eq_limbs HY0.out.2.1, HY0.out.2.2.2, HV.out.2.2.2] at hY
      have HD := ref01_digit hP hY (by rw [eU]; exact hU) (by omega)
      rw [eU] at HD
      have HD' := Lib.hid HD
      have HP := Lib.hid hP
      have HF := Lib.hid (And.intro eU (And.intro hU (And.intro hPL hV0)))
      clear HD hP hY eU hU hPL hV0 hVb z1 z2 z3 z4 z5 z6 z7 z8
      go_wp2_with fail
      rw [show j + (m + 1) + 1 - j = m + 2 by omega]
      refine HD'.out.mono ?_
      rintro e w5 ⟨v, rfl, ⟨v', rfl, hfr5, hv5⟩, hx5⟩
      generalize hqd : val (xs.drop j) / (b * 2 ^ s) = qd at *
      obtain ⟨A5, c5, rfl, hl5, hm5⟩ := hv5.form
      have hqle : qd * (b * 2 ^ s) ≤ val (xs.drop j) := by rw [← hqd]; exact Nat.div_mul_le_self _ _
      have q1 := ((HZ.out.2.2.2.1).ext hx5).cell (k := j) (by have := HZ.out.2.2.2.2.2.1; omega)
      have q2 := ((HZ.out.2.2.2.1).ext hx5).frozen j
      have hE5 : Ext w w5 := Ext.trans hE hx5
      have hg3w : g3 < wr.heap.size := HZ.out.2.2.2.1.lt
      have hg1w : g1 < wr.heap.size := HZ.out.1.lt
      have hx5s := hx5.size
      -- the words behind the store of the digit
      have hP6 : Words (w5.setCell ⟨g3, j, none⟩ (.int .u32 (qd : Int))) (.slice (some ⟨g1, j, none⟩) (m + 2) (n + 1 - j)) ((xs.drop j).take (m + 2)) :=
        (HP.out.ext hx5).set_ (p := ⟨g3, j, none⟩) (fun a ha => by injection ha with ha; rw [← ha]; show g1 ≠ g3; omega) _
      have hT6 := ref01_trim hP6
      have hPt := hP6.trim
      have hv6 := hv5.set_ (p := ⟨g3, j, none⟩) (fun a ha => by have := hfr5 a _ _ (by rw [ha]); show a.block ≠ g3; omega) (.int .u32 (qd : Int))
      rw [trimL_eq_limbs HF.out.2.2.1, HF.out.1] at hT6 hPt
      have hM6 := ref01_minus hPt hv6 (by rw [val_limbs, val_limbs]; exact hqle) (limbs_length_mono hqle)
      have eD : val (limbs (val (xs.drop j))) - val (limbs (qd * (b * 2 ^ s))) = val (xs.drop j) % (b * 2 ^ s) := by
        rw [val_limbs, val_limbs]
        have := Nat.div_add_mod (val (xs.drop j)) (b * 2 ^ s)
        rw [hqd, Nat.mul_comm] at this
        omega
      rw [eD] at hM6
      have HT6 := Lib.hid hT6
      have HM6 := Lib.hid hM6
      have HQ6 := Lib.hid (((HZ.out.2.2.2.1).ext hx5).set_ j qd)
      have HX6 := Lib.hid (((HZ.out.1).ext hx5).far (p := ⟨g3, j, none⟩) (by show g1 ≠ g3; omega) (.int .u32 (qd : Int)))
      have HY6 := Lib.hid (((HZ.out.2.2.2.2.2.2.1).ext hx5).far (p := ⟨g3, j, none⟩) (by show g2 ≠ g3; omega) (.int .u32 (qd : Int)))
      have HE6 : Ext w (w5.setCell ⟨g3, j, none⟩ (.int .u32 (qd : Int))) := hE5.pset hg3 _
      have HS6 : (w5.setCell ⟨g3, j, none⟩ (.int .u32 (qd : Int))).heap.size = w5.heap.size := by simp [World.setCell]
      have HS6' := Lib.hid HS6
      have HQD := Lib.hid hqd
      clear hP6 hT6 hPt hv6 hM6 eD HS6 HD' hfr5 hv5 hqd hqle
      go_wp2_with fail
      generalize w5.setCell ⟨g3, j, none⟩ (.int .u32 (qd : Int)) = w6 at *
      refine HT6.out.mono ?_
      rintro e w7 ⟨rfl, rfl⟩
      clear HT6
      go_wp2_with fail
      refine HM6.out.mono ?_
      rintro e w7 ⟨v7, rfl, ⟨hfr7, hv7⟩, hx7⟩
      obtain ⟨A7, c7, rfl, hl7, hm7⟩ := hv7.form
      have HW7 := Lib.hid hv7
      have HFR7 := Lib.hid hfr7
      clear hv7 hfr7 HM6
      go_wp2_with fail
      obtain ⟨wo, rfl⟩ : ∃ wo : World, wo = w7 := ⟨_, rfl⟩
      go_loopw [19] (fun i' wr' => ∃ (p : Nat) (us : List Nat), p ≤ m + 2 ∧ i' = .int .i64 (p : Int) ∧ Hid (us.length = n + 1 ∧ Limb us ∧ Row wr' g1 us ∧ (∀ t, t < p → us.getD (j + t) 0 = (limbs (val (xs.drop j) % (b * 2 ^ s))).getD t 0) ∧ (∀ t, (t < j ∨ j + p ≤ t) → us.getD t 0 = xs.getD t 0) ∧ Row wr' g3 (qs.set j qd) ∧ Row wr' g2 ys0 ∧ Words wr' (.slice A7 (limbs (val (xs.drop j) % (b * 2 ^ s))).length c7) (limbs (val (xs.drop j) % (b * 2 ^ s)))) ∧ Ext w wr') (fun i' _ => m + 2 - (intOf i').toNat)
      case atStart =>
        exact ⟨0, xs, by omega, rfl, ⟨HZ.out.2.2.1, HZ.out.2.1, HX6.out.ext hx7, fun t ht => absurd ht (by omega), fun t _ => rfl, HQ6.out.ext hx7, HY6.out.ext hx7, HW7.out⟩, (by repeat (first | exact Ext.refl _ | assumption | refine Ext.pdrewN ?_ _ | refine Ext.pdrew ?_ | refine Ext.palloc ?_ _ | refine Ext.pset ?_ (by simp <;> omega) _ | refine Ext.trans ?_ (by assumption)))⟩
      case round =>
        obtain ⟨p, us, hp, rfl, HU, hE'⟩ := hrel
        by_cases hp0 : p < m + 2
        · obtain ⟨u1, u2, u3, u4, u5, u6, u7, u8⟩ := HU.out
          have c1 := u3.cell (k := j + p) (by omega)
          have c2 := u3.frozen (j + p)
          by_cases hp1 : p < (limbs (val (xs.drop j) % (b * 2 ^ s))).length
          · obtain ⟨b7, o7, rfl, hb7, -, hcell7⟩ := u8.at_ (k := p) hp1
            have c3 := hcell7 p hp1
            have hne : b7 ≠ g1 := by
              have h1 := HFR7.out ⟨b7, o7, none⟩ _ _ rfl
              have h2 := HS6'.out
              have h3 : w6.heap.size ≤ b7 := h1
              omega
            have hne' : g1 ≠ b7 := fun e => hne e.symm
            have HN := Lib.hid (inner_next (y := (limbs (val (xs.drop j) % (b * 2 ^ s))).getD p 0) u1 (by omega) u4 u5 rfl)
            have HL : Hid (Limb (us.set (j + p) ((limbs (val (xs.drop j) % (b * 2 ^ s))).getD p 0))) := limb_set u2 ((limb_limbs _).getD p)
            have HR := Lib.hid (u3.set_ (j + p) ((limbs (val (xs.drop j) % (b * 2 ^ s))).getD p 0))
            have HR6 := Lib.hid (u6.far (p := ⟨g1, j + p, none⟩) (by show g3 ≠ g1; omega) (.int .u32 (((limbs (val (xs.drop j) % (b * 2 ^ s))).getD p 0 : Nat) : Int)))
            have HR7 := Lib.hid (u7.far (p := ⟨g1, j + p, none⟩) (by show g2 ≠ g1; omega) (.int .u32 (((limbs (val (xs.drop j) % (b * 2 ^ s))).getD p 0 : Nat) : Int)))
            have HR8 := Lib.hid (u8.set_ (p := ⟨g1, j + p, none⟩) (fun a ha => by injection ha with ha; rw [← ha]; exact hne) (.int .u32 (((limbs (val (xs.drop j) % (b * 2 ^ s))).getD p 0 : Nat) : Int)))
            clear hcell7 u1 u2 u3 u4 u5 u6 u7 u8
            generalize (limbs (val (xs.drop j) % (b * 2 ^ s))).getD p 0 = y at *
            generalize hdl : (limbs (val (xs.drop j) % (b * 2 ^ s))).length = dl at *
            clear hdl
            go_wp2_with fail
            rw [setCell_same]
            obtain ⟨n1, n2, n3⟩ := HN.out
            exact ⟨⟨p + 1, _, by omega, by go_num, ⟨n1, HL.out, HR.out, n2, n3, HR6.out, HR7.out, HR8.out⟩, (by repeat (first | exact Ext.refl _ | assumption | refine Ext.pdrewN ?_ _ | refine Ext.pdrew ?_ | refine Ext.palloc ?_ _ | refine Ext.pset ?_ (by simp <;> omega) _ | refine Ext.trans ?_ (by assumption)))⟩, by simp [intOf]; omega⟩
          · have HZ0 : (limbs (val (xs.drop j) % (b * 2 ^ s))).getD p 0 = 0 := getD_of_le (by omega)
            have hA7 : ∀ a, A7 = some a → a.block ≠ g1 := fun a ha => by
              have h1 := HFR7.out a _ _ (by rw [ha])
              have h2 := HS6'.out
              omega
            have HN := Lib.hid (inner_next (y := 0) u1 (by omega) u4 u5 HZ0)
            have HL : Hid (Limb (us.set (j + p) 0)) := limb_set u2 (by omega)
            have HR := Lib.hid (u3.set_ (j + p) 0)
            have HR6 := Lib.hid (u6.far (p := ⟨g1, j + p, none⟩) (by show g3 ≠ g1; omega) (.int .u32 ((0 : Nat) : Int)))
            have HR7 := Lib.hid (u7.far (p := ⟨g1, j + p, none⟩) (by show g2 ≠ g1; omega) (.int .u32 ((0 : Nat) : Int)))
            have HR8 := Lib.hid (u8.set_ (p := ⟨g1, j + p, none⟩) hA7 (.int .u32 ((0 : Nat) : Int)))
            clear u1 u2 u3 u4 u5 u6 u7 u8 HZ0 hA7
            generalize hdl : (limbs (val (xs.drop j) % (b * 2 ^ s))).length = dl at *
            clear hdl
            go_wp2_with fail
            obtain ⟨n1, n2, n3⟩ := HN.out
            exact ⟨⟨p + 1, _, by omega, by go_num, ⟨n1, HL.out, HR.out, n2, n3, HR6.out, HR7.out, HR8.out⟩, (by repeat (first | exact Ext.refl _ | assumption | refine Ext.pdrewN ?_ _ | refine Ext.pdrew ?_ | refine Ext.palloc ?_ _ | refine Ext.pset ?_ (by simp <;> omega) _ | refine Ext.trans ?_ (by assumption)))⟩, by simp [intOf]; omega⟩
        · obtain rfl : p = m + 2 := by omega
          obtain ⟨u1, u2, u3, u4, u5, u6, u7, u8⟩ := HU.out
          obtain ⟨z1, z2, z3, z4, z5, z6, z7, z8⟩ := HZ.out
          have hV0 := HF.out.2.2.2
          have hd : val (us.drop j) = val (xs.drop j) % (b * 2 ^ s) := by
            have hDlt : val (xs.drop j) % (b * 2 ^ s) < 4294967296 ^ (m + 2) := Nat.lt_trans (Nat.mod_lt _ hV0) (Nat.lt_of_lt_of_le HV.out.2.1 (Nat.pow_le_pow_right (by omega) (by omega)))
            have hUlt : val (xs.drop j) < 4294967296 ^ (m + 2) := by
              have h1 := HF.out.2.1
              have h2 : b * 2 ^ s * 4294967296 ≤ 4294967296 ^ (m + 2) := by
                rw [Nat.pow_succ]; exact Nat.mul_le_mul_right _ (Nat.le_of_lt HV.out.2.1)
              omega
            rw [← val_limbs (val (xs.drop j) % (b * 2 ^ s))]
            apply val_congr
            intro t
            rw [getD_drop]
            by_cases ht : t < m + 2
            · exact u4 t ht
            · rw [u5 (j + t) (by omega), ← getD_drop, zero_of_val_lt hUlt (by omega)]
              exact (getD_of_le (by have := limbs_length_le hDlt; omega)).symm
          have ht : us.take j = xs.take j := by
            apply ext_getD (by rw [List.length_take, List.length_take, u1, z3])
            intro t htl
            rw [List.length_take] at htl
            rw [getD_take (by omega), getD_take (by omega)]
            exact u5 t (by omega)
          have hq : qd < 4294967296 := by
            rw [← HQD.out]; exact Nat.div_lt_of_lt_mul HF.out.2.1
          have HI := div_round z8 (by omega) (by omega) (by omega) ht hd hV0
          rw [HQD.out] at HI
          have HI' := Lib.hid HI
          have HRR := Lib.hid (And.intro u3 (And.intro u2 (And.intro u1 (And.intro u6 (And.intro (limb_set (j := j) z5 hq) u7)))))
          have hql : (qs.set j qd).length = n := by simp [z6]
          have HQL := Lib.hid hql
          clear u1 u2 u3 u4 u5 u6 u7 u8 z1 z2 z3 z4 z5 z6 z7 z8 hV0 hd ht hq HI hql
          go_wp2_with fail
          obtain ⟨r1, r2, r3, r4, r5, r6⟩ := HRR.out
          exact ⟨⟨j, us, _, by omega, rfl, ⟨r1, r2, r3, r4, r5, HQL.out, r6, HI'.out⟩, (by repeat (first | exact Ext.refl _ | assumption | refine Ext.pdrewN ?_ _ | refine Ext.pdrew ?_ | refine Ext.palloc ?_ _ | refine Ext.pset ?_ (by simp <;> omega) _ | refine Ext.trans ?_ (by assumption)))⟩, by simp [intOf]⟩
    · obtain rfl : k = 0 := by omega
      obtain ⟨z1, z2, z3, z4, z5, z6, z7, z8⟩ := HZ.out
      obtain ⟨e1, e2⟩ := div_end z8
      have hp : 0 < 2 ^ s := Nat.pow_pos (by omega)
      rw [Nat.mul_div_mul_right _ _ hp] at e1
      rw [Nat.mul_mod_mul_right] at e2
      have hQ := z4.words z5 (c := n) (by omega) (by omega)
      rw [z6] at hQ
      have hX := z1.words z2 (c := n + 1) (by omega) (by omega)
      rw [z3] at hX
      have hTQ := ref01_trim hQ
      have hQt := hQ.trim
      rw [trimL_eq_limbs z5, e1] at hTQ hQt
      have hTX := ref01_trim hX
      have hXt := hX.trim
      rw [trimL_eq_limbs z2, e2] at hTX hXt
      have hB := ref01_back hXt hs
      rw [val_limbs, Nat.mul_div_cancel _ hp] at hB
      have HTQ := Lib.hid hTQ
      have HTX := Lib.hid hTX
      have HB := Lib.hid hB
      have HQT := Lib.hid hQt
      clear hTQ hTX hB hQt hXt hQ hX e1 e2 hp z1 z2 z3 z4 z5 z6 z7 z8
      go_wp2_with fail
      refine HTQ.out.mono ?_
      rintro e w8 ⟨rfl, rfl⟩
      go_wp2_with fail
      refine HTX.out.mono ?_
      rintro e w8 ⟨rfl, rfl⟩
      go_wp2_with fail
      refine HB.out.mono ?_
      rintro e w8 ⟨v8, rfl, hv8, hx8⟩
      have HV8 := Lib.hid hv8
      clear hv8
      go_wp2_with fail
      go_ret2
      exact ⟨_, rfl, ⟨_, _, rfl, HQT.out.ext hx8, HV8.out⟩, (by repeat (first | exact Ext.refl _ | assumption | refine Ext.pdrewN ?_ _ | refine Ext.pdrew ?_ | refine Ext.palloc ?_ _ | refine Ext.pset ?_ (by simp <;> omega) _ | refine Ext.trans ?_ (by assumption)))⟩

/-- The reference's division: for all numbers. -/
theorem ref01_divide {A A' : Option Addr} {n m c c' a b : Nat} {w : World} (h : Words w (.slice A n c) (limbs a)) (h' : Words w (.slice A' m c') (limbs b)) (hb : 0 < b) (hn2 : n < 35184372088832) :
    Calls Tryz.prog 147 #[.slice A n c, .slice A' m c'] w (Ret w (DivRes a b)) := by
  rcases Nat.lt_or_ge a b with hab | hab
  · exact ref01_divide_less h h' hab
  · rcases Nat.lt_or_ge 2 n with hn | hn
    · have hm : m ≠ 0 := by
        intro e
        have h1 := h'.len.1
        rw [e] at h1
        have h2 := limbs_eq_nil.1 (List.eq_nil_of_length_eq_zero h1.symm)
        omega
      rcases Nat.lt_or_ge 1 m with hm1 | hm1
      · obtain ⟨k, rfl⟩ : ∃ k, m = k + 1 := ⟨m - 1, by omega⟩
        exact ref01_divide_long h h' hab hn (by omega) hn2
      · obtain rfl : m = 1 := by omega
        exact ref01_divide_word h h' hn
    · exact ref01_divide_small h h' hab hb hn

end Go.Proofs.YtonleohlplkglaaGreatDoor

/- Contracts: GCD (the reference's); one, Valid, Sign, Few of layer 2. -/
namespace Go.Proofs.YtonleohlplkglaaGreatDoor
open Go Go.RowKit

theorem gcd_step (p q : Nat) : Nat.gcd q (p % q) = Nat.gcd p q := by
  rw [Nat.gcd_comm p q, Nat.gcd_rec q p, Nat.gcd_comm]

set_option maxHeartbeats 1600000 in
theorem ref01_GCD {s t : Bool} {v v' : Value} {xs ys : List Nat} {w : World} (h : Words w v xs) (h' : Words w v' ys) (hx : xs.length < 35184372088832) (hy : ys.length < 35184372088832) :
    Calls Tryz.prog 102 #[.agg #[.bool s, v], .agg #[.bool t, v']] w (Ret w fun r w' => ∃ u, r = .agg #[.bool false, u] ∧ Words w' u (limbs (Nat.gcd (val xs) (val ys)))) := by
  obtain ⟨A, c, rfl, hl, hm⟩ := h.form
  obtain ⟨A', c', rfl, hl', hm'⟩ := h'.form
  have hL := h.limb
  have hL' := h'.limb
  obtain ⟨M, hM1, hM2, hM3⟩ : ∃ M, val xs ≤ M ∧ val ys ≤ M ∧ (limbs M).length < 35184372088832 := by
    rcases Nat.le_total (val xs) (val ys) with h1 | h1
    · refine ⟨val ys, h1, Nat.le_refl _, ?_⟩
      rw [← trimL_eq_limbs hL']; have := trimL_length_le ys; omega
    · refine ⟨val xs, Nat.le_refl _, h1, ?_⟩
      rw [← trimL_eq_limbs hL]; have := trimL_length_le xs; omega
  have hT := fun w1 (hx : Ext w w1) => ref01_trim (h.ext hx)
  have hT' := fun w1 (hx : Ext w w1) => ref01_trim (h'.ext hx)
  have hW := h.trim
  have hW' := h'.trim
  rw [trimL_eq_limbs hL] at hT hW
  rw [trimL_eq_limbs hL'] at hT' hW'
  have HT := Lib.hid hT
  have HT' := Lib.hid hT'
  have HW := Lib.hid hW
  have HW' := Lib.hid hW'
  have HM := Lib.hid (And.intro hM1 (And.intro hM2 hM3))
  clear h h' hT hT' hW hW' hM1 hM2 hM3
  generalize xs.length = n at *
  generalize ys.length = m at *
  go_enter Tryz.func102, Tryz.ntmps102
  go_wp2_with fail
  go_quiet ((first | (go_at_call_of 145 (Value.slice A n c); exact quiet_left (HT.out _ (by repeat (first | exact Ext.refl _ | assumption | refine Ext.pdrewN ?_ _ | refine Ext.pdrew ?_ | refine Ext.palloc ?_ _ | refine Ext.pset ?_ (by simp <;> omega) _ | refine Ext.trans ?_ (by assumption))))) | (go_at_call_of 145 (Value.slice A' m c'); exact quiet_left (HT'.out _ (by repeat (first | exact Ext.refl _ | assumption | refine Ext.pdrewN ?_ _ | refine Ext.pdrew ?_ | refine Ext.palloc ?_ _ | refine Ext.pset ?_ (by simp <;> omega) _ | refine Ext.trans ?_ (by assumption)))))))
  clear HT HT'
  go_wp2_with fail
  generalize hwn : (((w.alloc (Obj.cells #[Value.bool s, Value.slice A n c] 36)).alloc (Obj.cells #[Value.bool t, Value.slice A' m c'] 36)).alloc (Obj.cells #[Value.bool false, Value.slice none 0 0] 36)).drewN nq = wn at *
  have hEn : Ext w wn := by rw [← hwn]; exact (by repeat (first | exact Ext.refl _ | assumption | refine Ext.pdrewN ?_ _ | refine Ext.pdrew ?_ | refine Ext.palloc ?_ _ | refine Ext.pset ?_ (by simp <;> omega) _ | refine Ext.trans ?_ (by assumption)))
  have hc0 : wn.cell? ⟨w.heap.size + 1 + 1, 0, none⟩ = some (.bool false) := by rw [← hwn]; simp [go_sem]
  have hc1 : wn.cell? ⟨w.heap.size + 1 + 1, 1, none⟩ = some (.slice none 0 0) := by rw [← hwn]; simp [go_sem]
  have hf0 : wn.frozen? ⟨w.heap.size + 1 + 1, 0, none⟩ = false := by rw [← hwn]; simp [go_sem]
  have hf1 : wn.frozen? ⟨w.heap.size + 1 + 1, 1, none⟩ = false := by rw [← hwn]; simp [go_sem]
  have hsz : wn.heap.size = w.heap.size + 1 + 1 + 1 := by rw [← hwn]; simp
  have HSZ := Lib.hid hsz
  have HNW : Hid (NoWord wn (w.heap.size + 1 + 1)) := by
    rw [← hwn]
    have h1 := NoWord.new ((w.alloc (Obj.cells #[Value.bool s, Value.slice A n c] 36)).alloc (Obj.cells #[Value.bool t, Value.slice A' m c'] 36)) #[Value.bool false, Value.slice none 0 0] 36 (by simp)
    simp only [World.size_alloc] at h1
    exact h1
  have HC := Lib.hid (And.intro hc0 (And.intro hc1 (And.intro hf0 hf1)))
  clear hwn hc0 hc1 hf0 hf1 hsz
  go_loopg [5, 6] (val ys) (fun q x y wr => ∃ p : Nat, Hid (Words wr x (limbs p)) ∧ Hid (Words wr y (limbs q)) ∧ Hid (Nat.gcd p q = Nat.gcd (val xs) (val ys)) ∧ p ≤ M ∧ q ≤ M ∧ Ext wn wr)
  case atStart => exact ⟨val xs, HW.out.ext hEn, HW'.out.ext hEn, rfl, HM.out.1, HM.out.2.1, Ext.refl _⟩
  case round =>
    obtain ⟨p, HP, HQ, HG, hp, hq, hE⟩ := hrel
    obtain ⟨A1, c1, rfl, hl1, hm1⟩ := HP.out.form
    obtain ⟨A2, c2, rfl, hl2, hm2⟩ := HQ.out.form
    by_cases h0 : 0 < gk
    · have hlen : 0 < (limbs gk).length := by rw [limbs_pos (by omega)]; simp
      have hD := ref01_divide HP.out HQ.out h0 (by have := limbs_length_mono hp; have := HM.out.2.2; omega)
      have HD := Lib.hid hD
      have HG2 : Hid (Nat.gcd gk (p % gk) = Nat.gcd (val xs) (val ys)) := (gcd_step p gk).trans HG.out
      have hlt := Nat.mod_lt p h0
      clear hD
      generalize (limbs gk).length = lk at *
      generalize (limbs p).length = lp at *
      go_wp2_with fail
      refine HD.out.mono ?_
      rintro e w1 ⟨v, rfl, ⟨v1, v2, rfl, hv1, hv2⟩, hx1⟩
      have HV2 := Lib.hid hv2
      have HV1 := Lib.hid (HQ.out.ext hx1)
      clear hv1 hv2 HD
      go_wp2_with fail
      go_roundg (p % gk)
      case measure => exact hlt
      case rel => exact ⟨gk, HV1, HV2, HG2, hq, by omega, hE.trans hx1⟩
    · obtain rfl : gk = 0 := by omega
      have hlen : (limbs 0).length = 0 := by rw [limbs_zero]; rfl
      rw [hlen] at *
      have hg : p = Nat.gcd (val xs) (val ys) := by have := HG.out; rwa [Nat.gcd_zero_right] at this
      have hS := ref01_signed false HP.out
      rw [trimL_limbs] at hS
      have HS := Lib.hid hS
      have HGG := Lib.hid hg
      clear hS hg hlen
      go_wp2_with fail
      refine HS.out.mono ?_
      rintro e w1 ⟨rfl, hx1⟩
      have hx := hE.trans hx1
      obtain ⟨r0, r1, r2, r3⟩ := HC.out
      have hlt2 : w.heap.size + 1 + 1 < wn.heap.size := by rw [HSZ.out]; omega
      have s0 := (hx.cell (p := ⟨w.heap.size + 1 + 1, 0, none⟩) hlt2).trans r0
      have s1 := (hx.cell (p := ⟨w.heap.size + 1 + 1, 1, none⟩) hlt2).trans r1
      have s2 := (Below.frozen hx (p := ⟨w.heap.size + 1 + 1, 0, none⟩) hlt2).trans r2
      have s3 := (Below.frozen hx (p := ⟨w.heap.size + 1 + 1, 1, none⟩) hlt2).trans r3
      have HX := Lib.hid (hEn.trans hx)
      have HXX := Lib.hid hx
      have HPP := Lib.hid (HP.out.ext hx1)
      clear r0 r1 r2 r3 hx hx1 hE hEn HP HC
      go_wp2_with fail
      refine bodyPost_ret ?_ rfl ⟨_, rfl, ⟨.slice A1 (limbs p).length c1, rfl, ?_⟩, ?_⟩
      · simp [results, Tryz.results102, go_sem, s0, s1]
      · rw [← HGG.out]
        have hb := HNW.out.ext hlt2 HXX.out
        exact (HPP.out.box hb _ _).box (hb.set_ _ (by simp)) _ _
      · exact (HX.out.pset (by simp <;> omega) _).pset (by simp <;> omega) _

end Go.Proofs.YtonleohlplkglaaGreatDoor

/- Contracts: one, Valid, Sign, Few of the reference's layer 2. -/
namespace Go.Proofs.YtonleohlplkglaaGreatDoor
open Go Go.RowKit

/-- An integer as it lies in memory: its sign and its words, whatever they are. -/
structure ZI where
  neg : Bool
  mag : List Nat
/-- A quotient as it lies in memory. -/
structure QI where
  num : ZI
  den : ZI
/-- In normal form. -/
def ZI.ok (z : ZI) : Bool := decide ((trimL z.mag).length = z.mag.length) && (!z.neg || decide (0 < z.mag.length))
def ZI.sgn (z : ZI) : Int := sgnW z.neg (trimL z.mag).length
def QI.ok (q : QI) : Bool := q.num.ok && q.den.ok && decide (0 < q.den.sgn) && decide (Nat.gcd (val q.num.mag) (val q.den.mag) = 1)

set_option maxHeartbeats 800000 in
theorem ref02_one {s : Bool} {v : Value} {xs : List Nat} {w : World} (h : Words w v xs) :
    Calls Tryz.prog 101 #[.agg #[.bool s, v]] w fun e w' => e = .returned (.bool (decide (xs = [1]) && !s)) ∧ Ext w w' := by
  obtain ⟨A, c, rfl, hl, hm⟩ := h.form
  match xs, h with
  | [], h =>
    clear h
    go_enter Tryz.func101, Tryz.ntmps101
    go_wp2
    go_ret
    exact ⟨by simp, (by repeat (first | exact Ext.refl _ | assumption | refine Ext.pdrewN ?_ _ | refine Ext.pdrew ?_ | refine Ext.palloc ?_ _ | refine Ext.pset ?_ (by simp <;> omega) _ | refine Ext.trans ?_ (by assumption)))⟩
  | [x], h =>
    obtain ⟨b, off, rfl, hb, -, hcell⟩ := h.at_ (k := 0) (by simp)
    have g1 := hcell 0 (by simp)
    simp only [List.getD_cons_zero, Nat.add_zero] at g1
    have hne : b ≠ w.heap.size := by omega
    clear hcell h
    simp only [List.length_cons, List.length_nil, Nat.zero_add] at *
    by_cases hx : x = 1
    · subst hx
      cases s
      all_goals
        go_enter Tryz.func101, Tryz.ntmps101
        go_wp2
        go_ret
        exact ⟨by simp, (by repeat (first | exact Ext.refl _ | assumption | refine Ext.pdrewN ?_ _ | refine Ext.pdrew ?_ | refine Ext.palloc ?_ _ | refine Ext.pset ?_ (by simp <;> omega) _ | refine Ext.trans ?_ (by assumption)))⟩
    · have hx1 : ((x : Int) == 1) = false := by simp; omega
      go_enter Tryz.func101, Tryz.ntmps101
      go_wp2
      go_ret
      exact ⟨by simp [hx], (by repeat (first | exact Ext.refl _ | assumption | refine Ext.pdrewN ?_ _ | refine Ext.pdrew ?_ | refine Ext.palloc ?_ _ | refine Ext.pset ?_ (by simp <;> omega) _ | refine Ext.trans ?_ (by assumption)))⟩
  | x :: y :: xs, h =>
    clear h
    generalize hn : (x :: y :: xs).length = n at *
    have h1 : ((n : Int) == 1) = false := by rw [← hn]; simp; omega
    have HD : Hid (decide (x :: y :: xs = [1]) = false) := by show _ = _; simp
    clear hn
    go_enter Tryz.func101, Tryz.ntmps101
    go_wp2
    go_ret
    exact ⟨by rw [HD.out]; rfl, (by repeat (first | exact Ext.refl _ | assumption | refine Ext.pdrewN ?_ _ | refine Ext.pdrew ?_ | refine Ext.palloc ?_ _ | refine Ext.pset ?_ (by simp <;> omega) _ | refine Ext.trans ?_ (by assumption)))⟩

theorem limbs_eq_one {g : Nat} : (limbs g = [1]) ↔ g = 1 := by
  constructor
  · intro h
    have := val_limbs g
    rw [h] at this
    simpa [val] using this.symm
  · intro h; rw [h, limbs_pos (by omega)]; simp [limbs_zero]

set_option maxHeartbeats 1600000 in
theorem ref02_Valid {q : QI} {v v' : Value} {w : World} (h : Words w v q.num.mag) (h' : Words w v' q.den.mag) (hx : q.num.mag.length < 35184372088832) (hy : q.den.mag.length < 35184372088832) :
    Calls Tryz.prog 53 #[.agg #[.bool q.num.neg, v, .bool q.den.neg, v']] w fun e w' => e = .returned (.bool q.ok) ∧ Ext w w' := by
  obtain ⟨⟨s, xs⟩, ⟨t, ys⟩⟩ := q
  simp only at h h' hx hy ⊢
  obtain ⟨A, c, rfl, hl, hm⟩ := h.form
  obtain ⟨A', c', rfl, hl', hm'⟩ := h'.form
  have HV1 := Lib.hid (fun w1 (hx : Ext w w1) => ref01_Valid s (h.ext hx))
  have HV2 := Lib.hid (fun w1 (hx : Ext w w1) => ref01_Valid t (h'.ext hx))
  have HS2 := Lib.hid (fun w1 (hx : Ext w w1) => ref01_Sign t (h'.ext hx))
  have HG := Lib.hid (fun w1 (hx1 : Ext w w1) => ref01_GCD (s := s) (t := t) (h.ext hx1) (h'.ext hx1) hx hy)
  have HOK : Hid (QI.ok ⟨⟨s, xs⟩, ⟨t, ys⟩⟩ = ((decide ((trimL xs).length = xs.length) && (!s || decide (0 < xs.length))) && (decide ((trimL ys).length = ys.length) && (!t || decide (0 < ys.length))) && decide (0 < sgnW t (trimL ys).length) && decide (limbs (Nat.gcd (val xs) (val ys)) = [1]))) := by
    show _ = _
    rw [decide_eq_decide.2 (limbs_eq_one (g := Nat.gcd (val xs) (val ys)))]
    rfl
  clear h h' hx hy
  generalize (decide ((trimL xs).length = xs.length) && (!s || decide (0 < xs.length))) = b1 at *
  generalize (decide ((trimL ys).length = ys.length) && (!t || decide (0 < ys.length))) = b2 at *
  generalize sgnW t (trimL ys).length = sg at *
  generalize limbs (Nat.gcd (val xs) (val ys)) = gl at *
  generalize xs.length = n at *
  generalize ys.length = m at *
  go_enter Tryz.func53, Tryz.ntmps53
  go_wp2_with fail
  refine (HV1.out _ (Ext.alloc _ _)).mono ?_
  rintro e w1 ⟨rfl, hx1⟩
  cases b1
  · go_wp2_with fail
    go_ret
    exact ⟨by rw [HOK.out]; rfl, (by repeat (first | exact Ext.refl _ | assumption | refine Ext.pdrewN ?_ _ | refine Ext.pdrew ?_ | refine Ext.palloc ?_ _ | refine Ext.pset ?_ (by simp <;> omega) _ | refine Ext.trans ?_ (by assumption)))⟩
  obtain ⟨hc, hf⟩ := bcell hx1
  go_wp2_with fail
  refine (HV2.out _ (by repeat (first | exact Ext.refl _ | assumption | refine Ext.pdrewN ?_ _ | refine Ext.pdrew ?_ | refine Ext.palloc ?_ _ | refine Ext.pset ?_ (by simp <;> omega) _ | refine Ext.trans ?_ (by assumption)))).mono ?_
  rintro e w2 ⟨rfl, hx2⟩
  have hx2 := Ext.trans hx1 hx2
  clear hx1 hc hf
  cases b2
  · go_wp2_with fail
    go_ret
    exact ⟨by rw [HOK.out]; rfl, (by repeat (first | exact Ext.refl _ | assumption | refine Ext.pdrewN ?_ _ | refine Ext.pdrew ?_ | refine Ext.palloc ?_ _ | refine Ext.pset ?_ (by simp <;> omega) _ | refine Ext.trans ?_ (by assumption)))⟩
  obtain ⟨hc, hf⟩ := bcell hx2
  go_wp2_with fail
  refine (HS2.out _ (by repeat (first | exact Ext.refl _ | assumption | refine Ext.pdrewN ?_ _ | refine Ext.pdrew ?_ | refine Ext.palloc ?_ _ | refine Ext.pset ?_ (by simp <;> omega) _ | refine Ext.trans ?_ (by assumption)))).mono ?_
  rintro e w3 ⟨rfl, hx3⟩
  have hx3 := Ext.trans hx2 hx3
  clear hx2 hc hf
  by_cases hsg : 0 < sg
  · have HOK2 : Hid (QI.ok ⟨⟨s, xs⟩, ⟨t, ys⟩⟩ = decide (gl = [1])) := by show _ = _; rw [HOK.out]; simp [hsg]
    clear HOK
    obtain ⟨hc, hf⟩ := bcell hx3
    go_wp2_with fail
    refine (HG.out _ (by repeat (first | exact Ext.refl _ | assumption | refine Ext.pdrewN ?_ _ | refine Ext.pdrew ?_ | refine Ext.palloc ?_ _ | refine Ext.pset ?_ (by simp <;> omega) _ | refine Ext.trans ?_ (by assumption)))).mono ?_
    rintro e w4 ⟨r, rfl, ⟨u, rfl, hu⟩, hx4⟩
    have HU := Lib.hid hu
    clear hu hc hf
    go_wp2_with fail
    refine (ref02_one HU.out).mono ?_
    rintro e w5 ⟨rfl, hx5⟩
    go_wp2_with fail
    go_ret
    exact ⟨by rw [HOK2.out]; simp, (by repeat (first | exact Ext.refl _ | assumption | refine Ext.pdrewN ?_ _ | refine Ext.pdrew ?_ | refine Ext.palloc ?_ _ | refine Ext.pset ?_ (by simp <;> omega) _ | refine Ext.trans ?_ (by assumption)))⟩
  · have hsd : decide (0 < sg) = false := by simpa using hsg
    have HOK2 : Hid (QI.ok ⟨⟨s, xs⟩, ⟨t, ys⟩⟩ = false) := by show _ = _; rw [HOK.out, hsd]; simp
    go_wp2_with fail
    go_ret
    exact ⟨by rw [HOK2.out]; rfl, (by repeat (first | exact Ext.refl _ | assumption | refine Ext.pdrewN ?_ _ | refine Ext.pdrew ?_ | refine Ext.palloc ?_ _ | refine Ext.pset ?_ (by simp <;> omega) _ | refine Ext.trans ?_ (by assumption)))⟩

set_option maxHeartbeats 800000 in
theorem ref02_Sign {q : QI} {v v' : Value} {w : World} (h : Words w v q.num.mag) :
    Calls Tryz.prog 55 #[.agg #[.bool q.num.neg, v, .bool q.den.neg, v']] w fun e w' => e = .returned (.int .i64 q.num.sgn) ∧ Ext w w' := by
  obtain ⟨⟨s, xs⟩, ⟨t, ys⟩⟩ := q
  simp only [ZI.sgn] at h ⊢
  obtain ⟨A, c, rfl, hl, hm⟩ := h.form
  have HS := Lib.hid (fun w1 (hx : Ext w w1) => ref01_Sign s (h.ext hx))
  clear h
  generalize sgnW s (trimL xs).length = sg at *
  generalize xs.length = n at *
  go_enter Tryz.func55, Tryz.ntmps55
  go_wp2_with fail
  refine (HS.out _ (Ext.alloc _ _)).mono ?_
  rintro e w1 ⟨rfl, hx1⟩
  go_wp2_with fail
  go_ret
  exact ⟨rfl, (by repeat (first | exact Ext.refl _ | assumption | refine Ext.pdrewN ?_ _ | refine Ext.pdrew ?_ | refine Ext.palloc ?_ _ | refine Ext.pset ?_ (by simp <;> omega) _ | refine Ext.trans ?_ (by assumption)))⟩

/-- In normal form, with few words. -/
def QI.few (q : QI) (k : Nat) : Bool := decide (q.num.mag.length ≤ k) && decide (q.den.mag.length ≤ k) && q.ok

set_option maxHeartbeats 800000 in
theorem ref02_Few {q : QI} {k : Nat} (hk : k < 1000) {v v' : Value} {w : World} (h : Words w v q.num.mag) (h' : Words w v' q.den.mag) :
    Calls Tryz.prog 31 #[.agg #[.bool q.num.neg, v, .bool q.den.neg, v'], .int .i64 (k : Int)] w fun e w' => e = .returned (.bool (q.few k)) ∧ Ext w w' := by
  by_cases h1 : q.num.mag.length ≤ k
  · by_cases h2 : q.den.mag.length ≤ k
    · have HV := Lib.hid (fun w1 (hx : Ext w w1) => ref02_Valid (h.ext hx) (h'.ext hx) (by omega) (by omega))
      have HF : Hid (q.few k = q.ok) := by show _ = _; simp [QI.few, h1, h2]
      obtain ⟨A, c, rfl, hl, hm⟩ := h.form
      obtain ⟨A', c', rfl, hl', hm'⟩ := h'.form
      clear h h'
      generalize q.num.mag.length = n at *
      generalize q.den.mag.length = m at *
      go_enter Tryz.func31, Tryz.ntmps31
      go_wp2_with fail
      refine (HV.out _ (Ext.alloc _ _)).mono ?_
      rintro e w1 ⟨rfl, hx1⟩
      go_wp2_with fail
      go_ret
      exact ⟨by rw [HF.out]; rfl, (by repeat (first | exact Ext.refl _ | assumption | refine Ext.pdrewN ?_ _ | refine Ext.pdrew ?_ | refine Ext.palloc ?_ _ | refine Ext.pset ?_ (by simp <;> omega) _ | refine Ext.trans ?_ (by assumption)))⟩
    · have HF : Hid (q.few k = false) := by show _ = _; simp [QI.few, h2]
      obtain ⟨A, c, rfl, hl, hm⟩ := h.form
      obtain ⟨A', c', rfl, hl', hm'⟩ := h'.form
      clear h h'
      generalize q.num.mag.length = n at *
      generalize q.den.mag.length = m at *
      go_enter Tryz.func31, Tryz.ntmps31
      go_wp2_with fail
      go_ret
      exact ⟨by rw [HF.out]; rfl, (by repeat (first | exact Ext.refl _ | assumption | refine Ext.pdrewN ?_ _ | refine Ext.pdrew ?_ | refine Ext.palloc ?_ _ | refine Ext.pset ?_ (by simp <;> omega) _ | refine Ext.trans ?_ (by assumption)))⟩
  · have HF : Hid (q.few k = false) := by show _ = _; simp [QI.few, h1]
    obtain ⟨A, c, rfl, hl, hm⟩ := h.form
    obtain ⟨A', c', rfl, hl', hm'⟩ := h'.form
    clear h h'
    generalize q.num.mag.length = n at *
    generalize q.den.mag.length = m at *
    go_enter Tryz.func31, Tryz.ntmps31
    go_wp2_with fail
    go_ret
    exact ⟨by rw [HF.out]; rfl, (by repeat (first | exact Ext.refl _ | assumption | refine Ext.pdrewN ?_ _ | refine Ext.pdrew ?_ | refine Ext.palloc ?_ _ | refine Ext.pset ?_ (by simp <;> omega) _ | refine Ext.trans ?_ (by assumption)))⟩

end Go.Proofs.YtonleohlplkglaaGreatDoor
