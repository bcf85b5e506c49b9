/- The plain law of SketchImplied: both lists are the same; with them the sketch is valid, and nothing more is implied. -/
import Derived.Test.YtonleohlplkglaaGreatDoorRD
import Derived.Test.YtonleohlplkglaaGreatDoorQY
import Derived.Deep.RegionHeld3
import Derived.Test.YtonleohlplkglaaGreatDoorQX
import Derived.Test.YtonleohlplkglaaGreatDoorKe
namespace Go.Proofs.YtonleohlplkglaaGreatDoor
open Go Go.RowKit

def kr13 : KR := ⟨⟨#[111, 110, 99, 105, 114, 99, 108, 101]⟩, 1, 1, 0, 0, 1, false⟩
theorem kRow13 : kRow 13 = some kr13 := rfl
theorem len_one {l : List Int} (h : (l.length : Int) = 1) : ∃ a, l = [a] := by
  match l, h with
  | [a], _ => exact ⟨a, rfl⟩
  | [], h => simp at h
  | _ :: _ :: _, h => simp at h; omega
/-- What a valid constraint of a point on a circle looks like. -/
theorem valid13 {K : Nat} {c : CI} {np nc : Int} (h : validC K c np nc = true) (hk : c.kind = 13) : ∃ p q, c = onC (p, q) := by
  unfold validC at h
  rw [hk, kRow13] at h
  simp only [Bool.and_eq_true, headC, kr13, sideOK, decide_eq_true_eq] at h
  obtain ⟨⟨⟨⟨⟨⟨⟨h1, h2⟩, h3⟩, -⟩, -⟩, -⟩, h4⟩, -⟩ := h
  have h1 := of_decide_eq_true h1
  have h2 := of_decide_eq_true h2
  have h3 := of_decide_eq_true h3
  obtain ⟨p, hp⟩ := len_one h1
  obtain ⟨q, hq⟩ := len_one h2
  have hv : c.values = [] := List.eq_nil_of_length_eq_zero (by omega)
  have hs : c.side = 0 := by simpa using h4
  refine ⟨p, q, ?_⟩
  obtain ⟨k, ps, cs, vs, sd⟩ := c
  simp only at hk hp hq hv hs
  subst hk hp hq hv hs
  rfl
theorem eq_on_onC (pc qc : Int × Int) : eqC (onC pc) (onC qc) = onB (onC qc) pc.1 pc.2 := by
  unfold eqC onB onC
  simp only [List.cons.injEq, and_true, List.getD_cons_zero, List.length_nil, decide_true, Bool.true_and, Bool.and_true]
  rw [decide_eq_decide.2 (eq_comm (a := pc.1)), decide_eq_decide.2 (eq_comm (a := pc.2))]
theorem eq_on {K : Nat} {c : CI} {np nc : Int} (h : validC K c np nc = true) (pc : Int × Int) : eqC (onC pc) c = onB c pc.1 pc.2 := by
  by_cases hk : c.kind = 13
  · obtain ⟨p, q, rfl⟩ := valid13 h hk
    exact eq_on_onC pc (p, q)
  · have h1 : decide ((13 : Int) = c.kind) = false := decide_eq_false (fun e => hk e.symm)
    have h2 : decide (c.kind = 13) = false := decide_eq_false hk
    show (decide ((13 : Int) = c.kind) && _ && _ && _ && _) = (decide (c.kind = 13) && _ && _)
    rw [h1, h2]
    simp

theorem GoodS.cons_ok {s : SkI} (h : GoodS s) : ∀ c ∈ s.cons, validC 61 c s.points.length s.circles.length = true := by
  have := h.ok
  unfold okS at this
  simp only [Bool.and_eq_true] at this
  exact List.all_eq_true.1 this.2
theorem GoodS.arcs_ok {s : SkI} (h : GoodS s) : ∀ a ∈ s.arcs, okAr s a = true := by
  have := h.ok
  unfold okS at this
  simp only [Bool.and_eq_true] at this
  exact List.all_eq_true.1 this.1.1.2
theorem GoodS.onOK {s : SkI} (h : GoodS s) : OnOK s.cons := by
  intro c hc hk
  obtain ⟨p, q, rfl⟩ := valid13 (h.cons_ok c hc) hk
  exact ⟨by simp [onC], by simp [onC]⟩

theorem any_congr {α : Type} {p q : α → Bool} : ∀ {l : List α}, (∀ x ∈ l, p x = q x) → l.any p = l.any q
  | [], _ => rfl
  | a :: l, h => by rw [List.any_cons, List.any_cons, h a (by simp), any_congr (fun x hx => h x (by simp [hx]))]
theorem step_same {s : SkI} (h : GoodS s) (out : List (Int × Int)) (pc : Int × Int) : refStep (s.cons ++ out.map onC) pc = s.cons ++ (impStep s out pc).map onC := by
  have e : (s.cons ++ out.map onC).any (fun c => onB c pc.1 pc.2) = knownB s out pc := by
    unfold knownB
    rw [List.any_append]
    congr 1
    · exact any_congr fun c hc => (eq_on (h.cons_ok c hc) pc).symm
    · refine any_congr fun c hc => ?_
      obtain ⟨qc, -, rfl⟩ := List.mem_map.1 hc
      exact (eq_on_onC pc qc).symm
  unfold refStep impStep
  rw [e]
  split
  · rfl
  · rw [List.map_append, ← List.append_assoc]; rfl
theorem fold_same {s : SkI} (h : GoodS s) : ∀ (l : List (Int × Int)) (out : List (Int × Int)), l.foldl refStep (s.cons ++ out.map onC) = s.cons ++ (l.foldl (impStep s) out).map onC
  | [], _ => rfl
  | pc :: l, out => by rw [List.foldl_cons, List.foldl_cons, step_same h, fold_same h l]
/-- Both lists are the same. -/
theorem impR_eq {s : SkI} (h : GoodS s) : (impR s).drop s.cons.length = (impP s).map onC := by
  have := fold_same h (arcEnds s.arcs) []
  rw [List.map_nil, List.append_nil] at this
  show (List.foldl refStep s.cons (arcEnds s.arcs)).drop _ = _
  rw [this, List.drop_append_of_le_length (Nat.le_refl _), List.drop_length, List.nil_append]
  rfl

theorem impStep_mono (s : SkI) (out : List (Int × Int)) (pc : Int × Int) : ∀ x ∈ out, x ∈ impStep s out pc := by
  intro x hx
  unfold impStep
  split
  · exact hx
  · simp [hx]
theorem fold_mono (s : SkI) : ∀ (l out : List (Int × Int)), ∀ x ∈ out, x ∈ l.foldl (impStep s) out
  | [], _, _, hx => hx
  | pc :: l, out, x, hx => fold_mono s l _ x (impStep_mono s out pc x hx)
theorem fold_from (s : SkI) : ∀ (l out : List (Int × Int)), ∀ x ∈ l.foldl (impStep s) out, x ∈ out ∨ x ∈ l
  | [], _, _, hx => .inl hx
  | pc :: l, out, x, hx => by
    rcases fold_from s l _ x hx with h | h
    · unfold impStep at h
      split at h
      · exact .inl h
      · rcases List.mem_append.1 h with h | h
        · exact .inl h
        · simp at h; subst h; exact .inr (by simp)
    · exact .inr (by simp [h])
theorem eqC_refl (pc : Int × Int) : eqC (onC pc) (onC pc) = true := by
  rw [eq_on_onC]
  simp [onB, onC]
/-- Whatever the arcs ask for is there in the end. -/
theorem fold_known (s : SkI) : ∀ (l out : List (Int × Int)), ∀ x ∈ l, s.cons.any (eqC (onC x)) = true ∨ ((l.foldl (impStep s) out).map onC).any (eqC (onC x)) = true
  | [], _, _, hx => by cases hx
  | pc :: l, out, x, hx => by
    rcases List.mem_cons.1 hx with rfl | hx
    · by_cases hk : knownB s out x = true
      · unfold knownB at hk
        rw [Bool.or_eq_true] at hk
        rcases hk with hk | hk
        · exact .inl hk
        · right
          rw [List.any_eq_true] at hk ⊢
          obtain ⟨c, hc, he⟩ := hk
          obtain ⟨qc, hq, rfl⟩ := List.mem_map.1 hc
          exact ⟨_, List.mem_map.2 ⟨qc, fold_mono s l _ qc (impStep_mono s out x qc hq), rfl⟩, he⟩
      · right
        rw [List.any_eq_true]
        refine ⟨onC x, List.mem_map.2 ⟨x, fold_mono s l _ x ?_, rfl⟩, eqC_refl x⟩
        unfold impStep
        rw [if_neg hk]
        simp
    · exact fold_known s l _ x hx

/-- The sketch with what is implied. -/
def withImp (s : SkI) : SkI := { s with cons := s.cons ++ (impP s).map onC }
theorem fold_all_known {t : SkI} : ∀ (l : List (Int × Int)), (∀ x ∈ l, t.cons.any (eqC (onC x)) = true) → l.foldl (impStep t) [] = []
  | [], _ => rfl
  | x :: l, h => by
    have h1 : impStep t [] x = [] := by
      unfold impStep knownB
      rw [h x (by simp)]
      rfl
    rw [List.foldl_cons, h1]
    exact fold_all_known l fun y hy => h y (by simp [hy])
theorem impP_with (s : SkI) : impP (withImp s) = [] := by
  refine fold_all_known (t := withImp s) (arcEnds s.arcs) fun x hx => ?_
  show (s.cons ++ (impP s).map onC).any (eqC (onC x)) = true
  rw [List.any_append, Bool.or_eq_true]
  exact fold_known s (arcEnds s.arcs) [] x hx

theorem arcEnds_len : ∀ l : List ArI, (arcEnds l).length = 2 * l.length
  | [] => rfl
  | a :: l => by
    have := arcEnds_len l
    show ([(a.a, a.circle), (a.b, a.circle)] ++ arcEnds l).length = _
    rw [List.length_append, this, List.length_cons]
    simp; omega
theorem fold_len (s : SkI) : ∀ (l out : List (Int × Int)), (l.foldl (impStep s) out).length ≤ out.length + l.length
  | [], _ => Nat.le_refl _
  | pc :: l, out => by
    have h1 := fold_len s l (impStep s out pc)
    have h2 := impStep_len s out pc
    rw [List.foldl_cons, List.length_cons]
    omega
theorem impP_len (s : SkI) : (impP s).length ≤ 2 * s.arcs.length := by
  have := fold_len s (arcEnds s.arcs) []
  rw [arcEnds_len, List.length_nil, Nat.zero_add] at this
  exact this

theorem mem_arcEnds {l : List ArI} {x : Int × Int} (h : x ∈ arcEnds l) : ∃ a ∈ l, x = (a.a, a.circle) ∨ x = (a.b, a.circle) := by
  obtain ⟨a, ha, hx⟩ := List.mem_flatMap.1 h
  simp at hx
  exact ⟨a, ha, hx⟩
theorem hasL_iff {n i : Int} : hasL n i = true ↔ 0 ≤ i ∧ i < n := by unfold hasL; simp
theorem valid_onC {K : Nat} {p q np nc : Int} (hp : hasL np p = true) (hq : hasL nc q = true) : validC K (onC (p, q)) np nc = true := by
  rw [hasL_iff] at hp hq
  show (match kRow 13 with | none => false | some r => headC r (onC (p, q)) np nc && (onC (p, q)).values.all (fun e => decide (errE K e = 0)) && sideOK r.side (onC (p, q)).side && tailC (onC (p, q))) = true
  rw [kRow13]
  simp [headC, kr13, onC, withinL, sideOK, tailC, isPair, hp.1, hp.2, hq.1, hq.2]
theorem imp_valid {s : SkI} (h : GoodS s) : ∀ x ∈ impP s, validC 61 (onC x) s.points.length s.circles.length = true := by
  intro x hx
  rcases fold_from s (arcEnds s.arcs) [] x hx with h1 | h1
  · cases h1
  · obtain ⟨a, ha, hxa⟩ := mem_arcEnds h1
    have h2 := h.arcs_ok a ha
    unfold okAr at h2
    simp only [Bool.and_eq_true] at h2
    obtain ⟨⟨⟨⟨h3, h4⟩, h5⟩, -⟩, -⟩ := h2
    rcases hxa with rfl | rfl
    · exact valid_onC h4 h3
    · exact valid_onC h5 h3

theorem withImp_small {s : SkI} (h : GoodS s) : SmallS 61 (withImp s) := by
  refine ⟨h.small.points, h.small.circles, fun c hc e he => ?_⟩
  rcases List.mem_append.1 hc with hc | hc
  · exact h.small.cons c hc e he
  · obtain ⟨x, -, rfl⟩ := List.mem_map.1 hc
    cases he
theorem chainFrom_with (s : SkI) : ∀ (l : List PcI) (o : Option Int), chainFrom (withImp s) o l = chainFrom s o l
  | [], _ => rfl
  | p :: l, o => by
    unfold chainFrom
    rw [chainFrom_with s l]
    rfl
theorem chainL_with (s : SkI) (c : List PcI) : chainL (withImp s) c = chainL s c := by
  unfold chainL
  rw [chainFrom_with]
theorem withImp_err {s : SkI} (h : GoodS s) (hm : manyL s = false) (hl : s.cons.length ≤ 20) (ha : s.arcs.length ≤ 10) : errS 61 (withImp s) = 0 := by
  have hlen : (withImp s).cons.length ≤ 40 := by
    show (s.cons ++ (impP s).map onC).length ≤ 40
    have := impP_len s
    rw [List.length_append, List.length_map]
    omega
  have hmany : manyL (withImp s) = false := by
    unfold manyL at hm ⊢
    simp only [Bool.or_eq_false_iff] at hm ⊢
    obtain ⟨h1, -⟩ := hm
    exact ⟨h1, by simp; omega⟩
  have hok : okS 61 (withImp s) = true := by
    have := h.ok
    unfold okS at this ⊢
    rw [Bool.and_eq_true] at this ⊢
    refine ⟨?_, ?_⟩
    · rw [Bool.and_eq_true] at this ⊢
      refine ⟨this.1.1, ?_⟩
      show s.chains.all (chainL (withImp s)) = true
      rw [show chainL (withImp s) = chainL s from funext (chainL_with s)]
      exact this.1.2
    show (s.cons ++ (impP s).map onC).all _ = true
    rw [List.all_append, Bool.and_eq_true]
    refine ⟨this.2, List.all_eq_true.2 fun c hc => ?_⟩
    obtain ⟨x, hx, rfl⟩ := List.mem_map.1 hc
    exact imp_valid h x hx
  unfold errS
  rw [hmany, hok]
  rfl
end Go.Proofs.YtonleohlplkglaaGreatDoor

/- The statement SketchImplied: its walk. -/
namespace Go.Proofs.YtonleohlplkglaaGreatDoor
open Go Go.RowKit

theorem headS_few {s : SkI} (h : headS s = true) : s.points.length ≤ 10 ∧ s.circles.length ≤ 10 ∧ s.segs.length ≤ 10 ∧ s.arcs.length ≤ 10 ∧ s.chains.length ≤ 10 ∧ s.cons.length ≤ 20 := by
  unfold headS at h
  simp only [Bool.and_eq_true, decide_eq_true_eq] at h
  obtain ⟨⟨⟨⟨⟨h1, h2⟩, h3⟩, h4⟩, h5⟩, h6⟩ := h
  exact ⟨h1, h2, h3, h4, h5, h6⟩
theorem nil_form {K : Nat} {w : World} {v : Value} (h : ArrAt 7 (ExprR K) w v []) : ∃ A c, v = .slice A 0 c := by
  obtain ⟨A, c, rfl, -⟩ := h.form
  exact ⟨A, c, rfl⟩
theorem vld_many {K : Nat} {s : SkI} (h : vld K s = true) : manyL s = false := by
  unfold vld at h
  rw [Bool.and_eq_true] at h
  have h2 := of_decide_eq_true h.2
  unfold errS at h2
  cases hm : manyL s with
  | false => rfl
  | true => rw [hm] at h2; cases h2
theorem ArrAt.const {α : Type} {sz : Nat} {R : World → List Value → α → Prop} {w0 w : World} {v : Value} {xs : List α} (h : ArrAt sz R w0 v xs) (hx : Ext w0 w) (row : Option Nat) : ArrAt sz (Off row (fun _ ds x => R w0 ds x)) w v xs := by
  obtain ⟨A, c, hv, hl, hm, hc⟩ := h
  refine ⟨A, c, hv, hl, hm, fun hne => ?_⟩
  obtain ⟨b, off, hA, hb, hk⟩ := hc hne
  refine ⟨b, off, hA, Nat.lt_of_lt_of_le hb hx.size, fun k x hkx => ?_⟩
  obtain ⟨cs, hcs, hcell, hr'⟩ := hk k x hkx
  exact ⟨cs, hcs, fun j u hj => (hx.cell (p := ⟨b, off + (k * sz + j), none⟩) hb).trans (hcell j u hj), fun _ _ => hr'⟩
theorem RowOf.far {α : Type} {T sz : Nat} {S : List Value → α → Prop} {base : Nat} {w w' : World} {v : Value} {l : List α} {row : Option Nat} (h : RowOf T sz (fun _ => S) base w v l) (hg : w.grownBy w' row) (hne : v.ownBlock = none ∨ v.ownBlock ≠ row) : RowOf T sz (fun _ => S) base w' v l := by
  obtain ⟨xs, ho, hel⟩ := h
  refine ⟨xs, ho.kept hg hne, fun k x hk => ?_⟩
  obtain ⟨ds, h1, h2, h3⟩ := hel k x hk
  exact ⟨ds, h1, h2, fun _ _ => h3.out⟩
theorem grownBy_setCell (w : World) (p : Addr) (u : Value) : w.grownBy (w.setCell p u) (some p.block) :=
  ⟨rfl, rfl, rfl, by simp [World.setCell], fun k _ hne => Below.heap_setCell _ _ _ _ (by intro e; exact hne (by rw [e]))⟩
theorem CellsAt.set5 {w : World} {g : Nat} {a b c d e f f' : Value} (h : CellsAt w g [a, b, c, d, e, f]) : CellsAt (w.setCell ⟨g, 5, none⟩ f') g [a, b, c, d, e, f'] := by
  obtain ⟨h0, h1, h2, h3, h4, h5⟩ := h.six
  refine ⟨by simpa [World.setCell] using h.1, fun i v hi => ?_⟩
  match i, hi with
  | 0, hi => simp at hi; subst hi; rw [cell_set_ne (by omega)]; exact h0
  | 1, hi => simp at hi; subst hi; rw [cell_set_ne (by omega)]; exact h1
  | 2, hi => simp at hi; subst hi; rw [cell_set_ne (by omega)]; exact h2
  | 3, hi => simp at hi; subst hi; rw [cell_set_ne (by omega)]; exact h3
  | 4, hi => simp at hi; subst hi; rw [cell_set_ne (by omega)]; exact h4
  | 5, hi => simp at hi; subst hi; exact World.cell?_setCell_same _ _ _ h5
  | i + 6, hi => simp at hi

set_option maxRecDepth 100000 in
set_option maxHeartbeats 3200000 in
theorem law_Implied {K : Nat} {s : SkI} {v0 v1 v2 v3 v4 v5 : Value} {w : World} (h : SkAt K w v0 v1 v2 v3 v4 v5 s) :
    Calls Tryz.prog 5 #[.agg #[v0, v1, v2, v3, v4, v5]] w fun e w' => e = .returned (.bool true) ∧ Ext w w' := by
  obtain ⟨A0, c0, rfl, -, -⟩ := h.points.form
  obtain ⟨A1, c1, rfl, -, -⟩ := h.circles.form
  obtain ⟨A2, c2, rfl, -, -⟩ := h.segs.form
  obtain ⟨A3, c3, rfl, -, -⟩ := h.arcs.form
  obtain ⟨A4, c4, rfl, -, -⟩ := h.chains.form
  obtain ⟨A5, c5, rfl, hl5, hm5⟩ := h.cons.form
  have HBX := Lib.hid (CellsAt.new w [.slice A0 s.points.length c0, .slice A1 s.circles.length c1, .slice A2 s.segs.length c2, .slice A3 s.arcs.length c3, .slice A4 s.chains.length c4, .slice A5 s.cons.length c5] 29)
  have HA := Lib.hid law_awake
  have HV := Lib.hid (fun w1 (hx : Ext w w1) => law_valid (h.ext hx))
  have HG := Lib.hid (fun hv : vld K s = true => (⟨vld_good hv, vld_many hv⟩ : GoodS s ∧ manyL s = false))
  have HSK := Lib.hid (fun (hg : GoodS s) => h.lower hg.small)
  clear h
  generalize vld K s = vd at *
  obtain ⟨y0, y1, y2, y3, y4, y5⟩ := HBX.out.six
  go_enter Tryz.func5, Tryz.ntmps5
  go_wp2_with fail
  refine (HA.out _).mono ?_
  rintro e w1 ⟨rfl, hx1⟩
  have hE1 : Ext w w1 := Ext.trans (Ext.alloc _ _) hx1
  clear y0 y1 y2 y3 y4 y5
  obtain ⟨y0, y1, y2, y3, y4, y5⟩ := (HBX.out.ext hx1).six
  have hlt := (HBX.out.ext hx1).1
  go_wp2_with fail
  refine (HV.out _ hE1).mono ?_
  rintro e w2 ⟨rfl, hx2⟩
  have hB2 := Ext.trans hx1 hx2
  have hE2 := Ext.trans hE1 hx2
  clear y0 y1 y2 y3 y4 y5 hlt
  cases vd with
  | false =>
    go_wp2_with fail
    refine (HA.out _).mono ?_
    rintro e w3 ⟨rfl, hx3⟩
    go_wp2_with fail
    go_ret
    exact ⟨rfl, Ext.trans hE2 hx3⟩
  | true =>
    obtain ⟨hgood, hmany⟩ := HG.out rfl
    obtain ⟨hq1, hq2, hq3, hq4, hq5, hq6⟩ := headS_few hgood.few
    have HSS := Lib.hid (HSK.out hgood)
    have H1 := Lib.hid (fun w1 (hx : Ext w w1) => sketch_Implied (HSS.out.ext hx) (by omega))
    have H2 : Hid (∀ w1, Ext w w1 → Calls Tryz.prog 16 #[.agg #[.slice A0 s.points.length c0, .slice A1 s.circles.length c1, .slice A2 s.segs.length c2, .slice A3 s.arcs.length c3, .slice A4 s.chains.length c4, .slice A5 s.cons.length c5]] w1 (Ret w1 fun r w' => ∃ A c, r = .slice A (impP s).length c ∧ ArrAt 5 (ConR 61) w' (.slice A (impP s).length c) ((impP s).map onC))) := by
      intro w1 hx
      have := ref26_Implied (HSS.out.ext hx) (by omega) (by omega) hgood.onOK
      rw [impR_eq hgood, List.length_map] at this
      exact this
    have HWE := Lib.hid (withImp_err hgood hmany (by omega) (by omega))
    have HWS := Lib.hid (withImp_small hgood)
    have HPL := Lib.hid (impP_len s)
    have hpl : (impP s).length ≤ 20 := by have := HPL.out; omega
    have HCN := Lib.hid HSS.out.cons
    clear hgood hmany HG HSK HV hq1 hq2 hq3 hq5
    obtain ⟨y0, y1, y2, y3, y4, y5⟩ := (HBX.out.ext hB2).six
    have hlt := (HBX.out.ext hB2).1
    go_upto_region 3 with fail
    go_cut [3, 4] (fun x y wx => ∃ A c A' c', x = .slice A (impP s).length c ∧ y = .slice A' (impP s).length c' ∧ Hid (ArrAt 5 (ConR 61) wx (.slice A (impP s).length c) ((impP s).map onC)) ∧ Hid (ArrAt 5 (ConR 61) wx (.slice A' (impP s).length c') ((impP s).map onC)) ∧ Hid (Ext w2 wx))
    case first =>
      go_region_with (first
        | (go_at_call 15; refine (H1.out _ (by repeat (first | exact Ext.refl _ | assumption | refine Ext.pdrewN ?_ _ | refine Ext.pdrew ?_ | refine Ext.palloc ?_ _ | refine Ext.pset ?_ (by simp <;> omega) _ | refine Ext.trans ?_ (by assumption)))).mono ?_; rintro e w3 ⟨r3, rfl, ⟨ho3, -⟩, hx3⟩; obtain ⟨B3, d3, rfl⟩ := ho3.form; have ha3 := ho3.arr 61 (by omega); clear ho3; obtain ⟨x0, x1, x2, x3, x4, x5⟩ := (HBX.out.ext (w' := w3) (by repeat (first | exact Ext.refl _ | assumption | refine Ext.pdrewN ?_ _ | refine Ext.pdrew ?_ | refine Ext.palloc ?_ _ | refine Ext.pset ?_ (by simp <;> omega) _ | refine Ext.trans ?_ (by assumption)))).six)
        | (go_at_call 16; refine (H2.out _ (by repeat (first | exact Ext.refl _ | assumption | refine Ext.pdrewN ?_ _ | refine Ext.pdrew ?_ | refine Ext.palloc ?_ _ | refine Ext.pset ?_ (by simp <;> omega) _ | refine Ext.trans ?_ (by assumption)))).mono ?_; rintro e w4 ⟨r4, rfl, ⟨B4, d4, rfl, hi4⟩, hx4⟩; obtain ⟨x0, x1, x2, x3, x4, x5⟩ := (HBX.out.ext (w' := w4) (by repeat (first | exact Ext.refl _ | assumption | refine Ext.pdrewN ?_ _ | refine Ext.pdrew ?_ | refine Ext.palloc ?_ _ | refine Ext.pset ?_ (by simp <;> omega) _ | refine Ext.trans ?_ (by assumption)))).six))
      all_goals
        go_wp2_with fail
        go_meet
        exact ⟨_, _, _, _, rfl, rfl, ha3.ext (ConR.stable 61) (by repeat (first | exact Ext.refl _ | assumption | refine Ext.pdrewN ?_ _ | refine Ext.pdrew ?_ | refine Ext.palloc ?_ _ | refine Ext.pset ?_ (by simp <;> omega) _ | refine Ext.trans ?_ (by assumption))), hi4.ext (ConR.stable 61) (by repeat (first | exact Ext.refl _ | assumption | refine Ext.pdrewN ?_ _ | refine Ext.pdrew ?_ | refine Ext.palloc ?_ _ | refine Ext.pset ?_ (by simp <;> omega) _ | refine Ext.trans ?_ (by assumption))), (by repeat (first | exact Ext.refl _ | assumption | refine Ext.pdrewN ?_ _ | refine Ext.pdrew ?_ | refine Ext.palloc ?_ _ | refine Ext.pset ?_ (by simp <;> omega) _ | refine Ext.trans ?_ (by assumption)))⟩
    case rest =>
      obtain ⟨B3, d3, B4, d4, rfl, rfl, HL, HM, HX⟩ := hcut
      clear y0 y1 y2 y3 y4 y5
      have hE3 := Ext.trans hE2 HX.out
      have hB3 := Ext.trans hB2 HX.out
      have hne : (((impP s).length : Int) != ((impP s).length : Int)) = false := by simp
      go_wp2_with fail
      go_loopg [26] (impP s).length (fun gk x wr => ∃ i : Nat, x = .int .i64 (i : Int) ∧ i + gk = (impP s).length ∧ Hid (Ext wc wr))
      case atStart => exact ⟨0, rfl, by omega, Ext.refl _⟩
      case round =>
        obtain ⟨i, rfl, hi, HEW⟩ := hrel
        have hEW := HEW.out
        by_cases hlt3 : i < (impP s).length
        · have hml : i < ((impP s).map onC).length := by rw [List.length_map]; exact hlt3
          obtain ⟨b1, o1, rfl, hb1, ds1, hds1, hc1, hR1⟩ := HL.out.at_ hml
          obtain ⟨b2, o2, rfl, hb2, ds2, hds2, hc2, hR2⟩ := HM.out.at_ hml
          rw [List.getElem_map] at hR1 hR2
          obtain ⟨pv, cv, vv, rfl, hp1, hcc1, hv1⟩ := hR1
          obtain ⟨pv2, cv2, vv2, rfl, hp2, hcc2, hv2⟩ := hR2
          obtain ⟨P3, e3, rfl⟩ := nil_form hv1
          obtain ⟨R3, f3, rfl⟩ := nil_form hv2
          obtain ⟨P1, e1, rfl, -, -⟩ := hp1.form
          obtain ⟨P2, e2, rfl, -, -⟩ := hcc1.form
          obtain ⟨R1, f1, rfl, -, -⟩ := hp2.form
          obtain ⟨R2, f2, rfl, -, -⟩ := hcc2.form
          have HSC := Lib.hid (fun w3 (hx : Ext wc w3) => ref26_SameConstraint0 (k := 13) (sd := 0) (A := P3) (A' := R3) (d := e3) (d' := f3) (hp1.ext IntR.stable hx) (hcc1.ext IntR.stable hx) (hp2.ext IntR.stable hx) (hcc2.ext IntR.stable hx))
          have u0 : wr.cell? ⟨b1, o1 + i * 5, none⟩ = some (.int .i64 13) := (hEW.cell (p := ⟨b1, o1 + (i * 5 + 0), none⟩) hb1).trans (hc1 0 _ rfl)
          have u1 : wr.cell? ⟨b1, o1 + i * 5 + 1, none⟩ = some (.slice P1 1 e1) := (hEW.cell (p := ⟨b1, o1 + (i * 5 + 1), none⟩) hb1).trans (hc1 1 _ rfl)
          have u2 : wr.cell? ⟨b1, o1 + i * 5 + 2, none⟩ = some (.slice P2 1 e2) := (hEW.cell (p := ⟨b1, o1 + (i * 5 + 2), none⟩) hb1).trans (hc1 2 _ rfl)
          have u3 : wr.cell? ⟨b1, o1 + i * 5 + 3, none⟩ = some (.slice P3 0 e3) := (hEW.cell (p := ⟨b1, o1 + (i * 5 + 3), none⟩) hb1).trans (hc1 3 _ rfl)
          have u4 : wr.cell? ⟨b1, o1 + i * 5 + 4, none⟩ = some (.int .i64 0) := (hEW.cell (p := ⟨b1, o1 + (i * 5 + 4), none⟩) hb1).trans (hc1 4 _ rfl)
          have v0 : wr.cell? ⟨b2, o2 + i * 5, none⟩ = some (.int .i64 13) := (hEW.cell (p := ⟨b2, o2 + (i * 5 + 0), none⟩) hb2).trans (hc2 0 _ rfl)
          have v1 : wr.cell? ⟨b2, o2 + i * 5 + 1, none⟩ = some (.slice R1 1 f1) := (hEW.cell (p := ⟨b2, o2 + (i * 5 + 1), none⟩) hb2).trans (hc2 1 _ rfl)
          have v2 : wr.cell? ⟨b2, o2 + i * 5 + 2, none⟩ = some (.slice R2 1 f2) := (hEW.cell (p := ⟨b2, o2 + (i * 5 + 2), none⟩) hb2).trans (hc2 2 _ rfl)
          have v3 : wr.cell? ⟨b2, o2 + i * 5 + 3, none⟩ = some (.slice R3 0 f3) := (hEW.cell (p := ⟨b2, o2 + (i * 5 + 3), none⟩) hb2).trans (hc2 3 _ rfl)
          have v4 : wr.cell? ⟨b2, o2 + i * 5 + 4, none⟩ = some (.int .i64 0) := (hEW.cell (p := ⟨b2, o2 + (i * 5 + 4), none⟩) hb2).trans (hc2 4 _ rfl)
          have hr1 : b1 < wr.heap.size := Nat.lt_of_lt_of_le hb1 hEW.size
          have hr2 : b2 < wr.heap.size := Nat.lt_of_lt_of_le hb2 hEW.size
          have i1 : (i : Int) < ((impP s).length : Int) := by omega
          have i00 : (0 : Int) ≤ (i : Int) := by omega
          clear hc1 hc2 hp1 hp2 hcc1 hcc2 hv1 hv2 hds1 hds2
          go_wp2_with fail
          go_region_held3 (fun w' => w'.cell? ⟨b1, o1 + i * 5, none⟩ = some (.int .i64 13) ∧ w'.cell? ⟨b1, o1 + i * 5 + 1, none⟩ = some (.slice P1 1 e1) ∧ w'.cell? ⟨b1, o1 + i * 5 + 2, none⟩ = some (.slice P2 1 e2) ∧ w'.cell? ⟨b1, o1 + i * 5 + 3, none⟩ = some (.slice P3 0 e3) ∧ w'.cell? ⟨b1, o1 + i * 5 + 4, none⟩ = some (.int .i64 0) ∧ w'.cell? ⟨b2, o2 + i * 5, none⟩ = some (.int .i64 13) ∧ w'.cell? ⟨b2, o2 + i * 5 + 1, none⟩ = some (.slice R1 1 f1) ∧ w'.cell? ⟨b2, o2 + i * 5 + 2, none⟩ = some (.slice R2 1 f2) ∧ w'.cell? ⟨b2, o2 + i * 5 + 3, none⟩ = some (.slice R3 0 f3) ∧ w'.cell? ⟨b2, o2 + i * 5 + 4, none⟩ = some (.int .i64 0)) (first | (exact ⟨gu0, gu1, gu2, gu3, gu4, gv0, gv1, gv2, gv3, gv4⟩) | (exact ⟨u0, u1, u2, u3, u4, v0, v1, v2, v3, v4⟩) | (go_keep))
            (first
              | (go_at_call 17; refine (HSC.out _ ?_).mono ?_; (exact (by repeat (first | exact Ext.refl _ | assumption | refine Ext.pdrewN ?_ _ | refine Ext.pdrew ?_ | refine Ext.palloc ?_ _ | refine Ext.pset ?_ (by simp <;> omega) _ | refine Ext.trans ?_ (by assumption)))); rintro e w3 ⟨rfl, hx3⟩; have hxx : Ext wr w3 := (by repeat (first | exact Ext.refl _ | assumption | refine Ext.pdrewN ?_ _ | refine Ext.pdrew ?_ | refine Ext.palloc ?_ _ | refine Ext.pset ?_ (by simp <;> omega) _ | refine Ext.trans ?_ (by assumption))); have gu0 := (hxx.cell (p := ⟨b1, o1 + i * 5, none⟩) hr1).trans u0; have gu1 := (hxx.cell (p := ⟨b1, o1 + i * 5 + 1, none⟩) hr1).trans u1; have gu2 := (hxx.cell (p := ⟨b1, o1 + i * 5 + 2, none⟩) hr1).trans u2; have gu3 := (hxx.cell (p := ⟨b1, o1 + i * 5 + 3, none⟩) hr1).trans u3; have gu4 := (hxx.cell (p := ⟨b1, o1 + i * 5 + 4, none⟩) hr1).trans u4; have gv0 := (hxx.cell (p := ⟨b2, o2 + i * 5, none⟩) hr2).trans v0; have gv1 := (hxx.cell (p := ⟨b2, o2 + i * 5 + 1, none⟩) hr2).trans v1; have gv2 := (hxx.cell (p := ⟨b2, o2 + i * 5 + 2, none⟩) hr2).trans v2; have gv3 := (hxx.cell (p := ⟨b2, o2 + i * 5 + 3, none⟩) hr2).trans v3; have gv4 := (hxx.cell (p := ⟨b2, o2 + i * 5 + 4, none⟩) hr2).trans v4))
          go_wp2_with fail
          go_roundg ((impP s).length - (i + 1))
          case measure => omega
          case rel => exact ⟨i + 1, by simp, by omega, (by repeat (first | exact Ext.refl _ | assumption | refine Ext.pdrewN ?_ _ | refine Ext.pdrew ?_ | refine Ext.palloc ?_ _ | refine Ext.pset ?_ (by simp <;> omega) _ | refine Ext.trans ?_ (by assumption)))⟩
        · have hB4 := Ext.trans hB3 hEW
          obtain ⟨y0, y1, y2, y3, y4, y5⟩ := (HBX.out.ext hB4).six
          have hlt4 := (HBX.out.ext hB4).1
          go_upto_region 13 with fail
          obtain ⟨W5, hW5⟩ : ∃ W5, wr.alloc (.cells #[.slice A0 s.points.length c0, .slice A1 s.circles.length c1, .slice A2 s.segs.length c2, .slice A3 s.arcs.length c3, .slice A4 s.chains.length c4, .slice A5 s.cons.length c5] 29) = W5 := ⟨_, rfl⟩
          have HT5 : Hid (CellsAt W5 wr.heap.size [.slice A0 s.points.length c0, .slice A1 s.circles.length c1, .slice A2 s.segs.length c2, .slice A3 s.arcs.length c3, .slice A4 s.chains.length c4, .slice A5 s.cons.length c5]) := by rw [← hW5]; exact CellsAt.new _ _ _
          have HF5 : Hid (W5.frozen? ⟨wr.heap.size, 5, none⟩ = false) := by rw [← hW5]; exact World.frozen?_alloc_at _ _ _ _ rfl
          have HX5 : Hid (Ext wr W5) := by rw [← hW5]; exact Ext.alloc _ _
          have hs5 : W5.heap.size = wr.heap.size + 1 := by rw [← hW5]; simp
          rw [hW5]
          clear hW5 y0 y1 y2 y3 y4 y5
          have hX5 := HX5.out
          have hEwr : Ext w wr := Ext.trans hE3 hEW
          have HCW := Lib.hid (HCN.out.ext (ConR.stable 61) hEwr)
          have HLW := Lib.hid (HL.out.ext (ConR.stable 61) hEW)
          obtain ⟨i0, hi', hz0, hz1, hz2⟩ := info_parts infoCon
          have HR0 : Hid (RowOf 52 5 (fun _ ds x => ConR 61 wr ds x) (wr.heap.size + 1) (W5.alloc (.cells #[] 52)) (.slice (some ⟨wr.heap.size + 1, 0, none⟩) 0 0) ([] : List CI)) := by
            rw [← hs5]
            exact ⟨[], World.ownsRow_made W5 #[] 0 (Nat.le_refl _) (by unfold maxLen; omega) (by simp), fun k x hk => by simp at hk⟩
          have HS0 := Lib.hid (HCW.out.const (hX5.palloc (.cells #[] 52)) (some (wr.heap.size + 1)))
          have HS1 := Lib.hid (fun w6 (hx : Ext wr w6) row => HLW.out.const hx row)
          obtain ⟨y0, y1, y2, y3, y4, y5⟩ := (HBX.out.ext (Ext.trans hB4 hX5)).six
          have hlt5 := (HBX.out.ext (Ext.trans hB4 hX5)).1
          have hone : ∀ (w : World) (ds : List Value) (x : CI), ConR 61 wr ds x → ∀ u ∈ ds, u.oneCell' = true := fun _ ds x h => ConR.one wr ds x h
          have HONE := Lib.hid hone
          clear hone
          go_upto_region 14 with (at_builtin; first
            | (refine wpList_append_row _ rfl _ _ 27 rfl 52 i0 (.agg #[.int .i64 0, .slice none 0 0, .slice none 0 0, .slice none 0 0, .int .i64 0]) 5 88 Tryz.underlying27 hi' hz0 hz1 hz2 rfl (by decide) _ rfl HR0.out _ rfl HS0.out HONE.out (by unfold maxLen; simp; omega) (by simp; omega) (by simp; omega) ?_; intro A6 c6 w6 hrow6 hg6 hat6; have hX6 : Ext W5 w6 := ext_grown hg6 (Ext.alloc _ _) (fun r hr => by have h1 : some (wr.heap.size + 1) = some r := hr; injection h1 with h1; omega))
            | (refine wpList_append_row _ rfl _ _ 27 rfl 52 i0 (.agg #[.int .i64 0, .slice none 0 0, .slice none 0 0, .slice none 0 0, .int .i64 0]) 5 88 Tryz.underlying27 hi' hz0 hz1 hz2 rfl (by decide) _ rfl hrow6 _ rfl (HS1.out _ (Ext.trans hX5 hX6) _) HONE.out (by unfold maxLen; simp; omega) (by simp; omega) (by have := hX6.size; omega) ?_; intro A7 c7 w7 hrow7 hg7 hat7; have hX7 : Ext W5 w7 := ext_grown hg7 hX6 (fun r hr => by have := (hrow6.lt r hr).1; omega); have t5 := (HT5.out.ext hX7).2 5 _ rfl; have tf := (hX7.frozen (p := ⟨wr.heap.size, 5, none⟩) HT5.out.1).trans HF5.out))
          obtain ⟨w8, hw8⟩ : ∃ w8, w7.setCell ⟨wr.heap.size, 5, none⟩ (.slice A7 (s.cons.length + (impP s).length) c7) = w8 := ⟨_, rfl⟩
          have HB8 : Hid (CellsAt w8 wr.heap.size [.slice A0 s.points.length c0, .slice A1 s.circles.length c1, .slice A2 s.segs.length c2, .slice A3 s.arcs.length c3, .slice A4 s.chains.length c4, .slice A7 (s.cons.length + (impP s).length) c7]) := by rw [← hw8]; exact (HT5.out.ext hX7).set5
          have hX8 : Ext wr w8 := by rw [← hw8]; exact (Ext.trans hX5 hX7).pset (Nat.le_refl _) _
          have hrow8 : RowOf 52 5 (fun _ ds x => ConR 61 wr ds x) (wr.heap.size + 1) w7 (.slice A7 (s.cons.length + (impP s).length) c7) (s.cons ++ (impP s).map onC) := by
            have := hrow7
            simp only [List.nil_append, List.length_append, List.length_map] at this
            exact this
          have hrow9 : RowOf 52 5 (fun _ ds x => ConR 61 wr ds x) (wr.heap.size + 1) w8 (.slice A7 (s.cons.length + (impP s).length) c7) (s.cons ++ (impP s).map onC) := by
            rw [← hw8]
            refine hrow8.far (grownBy_setCell _ _ _) (.inr ?_)
            intro e
            have := (hrow8.lt _ e).1
            simp at this
            omega
          have hE8 : Ext w w8 := Ext.trans hEwr hX8
          have hsk8 : SkAt 61 w8 (.slice A0 s.points.length c0) (.slice A1 s.circles.length c1) (.slice A2 s.segs.length c2) (.slice A3 s.arcs.length c3) (.slice A4 s.chains.length c4) (.slice A7 (s.cons.length + (impP s).length) c7) (withImp s) := by
            have h8 := HSS.out.ext hE8
            exact ⟨h8.points, h8.circles, h8.segs, h8.arcs, h8.chains, (hrow9.arr (by rw [List.length_append, List.length_map]; omega)).mono (fun cs x _ hr => ConR.stable 61 _ _ _ _ hX8 hr)⟩
          have HV8 := Lib.hid (ref26_Valid (K := 61) (by omega) hsk8 HWS.out)
          rw [HWE.out] at HV8
          have HI8 := Lib.hid (fun w9 (hx : Ext w8 w9) => sketch_Implied (hsk8.ext hx) (show s.arcs.length ≤ 1000 by omega))
          rw [impP_with s] at HI8
          rw [hw8]
          clear hw8 hrow7 hrow8 hrow9 hsk8 hg6 hg7 hat6 hat7 hrow6 t5 tf y0 y1 y2 y3 y4 y5
          obtain ⟨y0, y1, y2, y3, y4, y5⟩ := HB8.out.six
          have hlt8 := HB8.out.1
          go_wp2_with fail
          refine HV8.out.mono ?_
          rintro e w9 ⟨rfl, hx9⟩
          clear y0 y1 y2 y3 y4 y5
          obtain ⟨y0, y1, y2, y3, y4, y5⟩ := (HB8.out.ext hx9).six
          have hlt9 := (HB8.out.ext hx9).1
          go_wp2_with fail
          refine (HI8.out _ hx9).mono ?_
          rintro e w10 ⟨r, rfl, ⟨ho, -⟩, hx10⟩
          obtain ⟨A, c, rfl⟩ := ho.form
          clear ho
          go_wp2_with fail
          go_ret
          exact ⟨rfl, Ext.trans hE8 (Ext.trans hx9 hx10)⟩
end Go.Proofs.YtonleohlplkglaaGreatDoor

/- Implied returns the specified constraints, and together with them no further ones are implied: for every sketch the statement SketchImplied returns true, and its argument reads as before. Conditions: the five listed package-level variables hold what the program's text lays (the card's tie). -/
namespace Go.Proofs.YtonleohlplkglaaGreatDoor
open Go Go.RowKit

theorem sk_args {H : Type} {enc : TypeId × Value → H} {W : World} {fuel : Nat} {cs : Array Value} {d : DataW H} {p : List MemPlace} (h : DataW.trod enc Tryz.prog W 0 (fun _ => true) true fuel 29 cs.toList = some (d, p)) (hw : (d.weights Tryz.prog 29).all (· ≤ reachBytes) = true) :
    ∃ v0 v1 v2 v3 v4 v5 s, cs = #[v0, v1, v2, v3, v4, v5] ∧ SkAt fuel W v0 v1 v2 v3 v4 v5 s := by
  obtain ⟨u0, u1, u2, u3, u4, u5, s, hcells, hSk⟩ := sk_read (enc := enc) (x := (d, p)) h hw
  exact ⟨u0, u1, u2, u3, u4, u5, s, Array.ext' hcells, hSk⟩

theorem implied_law : LawS 5 := by
  intro H enc W fuel cs d p h hw
  obtain ⟨v0, v1, v2, v3, v4, v5, s, rfl, hs⟩ := sk_args h hw
  exact law_Implied hs

theorem sketchImplied_proved : Rows.SketchImpliedCardSaid := sketchImplied_card implied_law
#print axioms sketchImplied_proved
end Go.Proofs.YtonleohlplkglaaGreatDoor
