/- The list that the program's Implied builds, as data. -/
import Derived.Test.YtjigihlhjhbkpaaGreatDoorYM
import Derived.Test.YtjigihlhjhbkpaaGreatDoorYK
import Derived.Deep.Upon
namespace Go.Proofs.YtjigihlhjhbkpaaGreatDoor
open Go Go.RowKit
/-- A point on a circle. -/
def onC (pc : Int × Int) : CI := ⟨13, [pc.1], [pc.2], [], 0⟩
def onV (bp bc : Nat) : List Value := [.int .i64 13, .slice (some ⟨bp, 0, none⟩) 1 1, .slice (some ⟨bc, 0, none⟩) 1 1, .slice none 0 0, .int .i64 0]
/-- The list of constraints, whose numbers lie in blocks of their own. -/
def OutAt (base : Nat) (w : World) (v : Value) (l : List (Int × Int)) : Prop :=
 ∃ xs, w.ownsRow base 84 5 v l.length xs ∧ ∀ k pc, l[k]? = some pc → ∃ bp bc, (∀ j u, (onV bp bc)[j]? = some u → xs[k * 5 + j]? = some u) ∧ CellsAt w bp [.int .i64 pc.1] ∧ CellsAt w bc [.int .i64 pc.2] ∧ some bp ≠ v.ownBlock ∧ some bc ≠ v.ownBlock
theorem OutAt.nil (base : Nat) (w : World) : OutAt base w (.slice none 0 0) [] := ⟨[], World.ownsRow_nil _ _ _ _, fun k pc h => by simp at h⟩
theorem OutAt.ext {base : Nat} {w w' : World} {v : Value} {l : List (Int × Int)} (h : OutAt base w v l) (hx : Ext w w') : OutAt base w' v l := by
 obtain ⟨xs, ho, hel⟩ := h
 refine ⟨xs, ownsRow_ext ho hx, fun k pc hk => ?_⟩
 obtain ⟨bp, bc, h1, h2, h3, h4, h5⟩ := hel k pc hk
 exact ⟨bp, bc, h1, h2.ext hx, h3.ext hx, h4, h5⟩
theorem ints_one {w : World} {g c : Nat} {x : Int} (h : CellsAt w g [.int .i64 x]) (hc : 1 ≤ c) : Ints w (.slice (some ⟨g, 0, none⟩) 1 c) [x] := by
 refine ⟨some ⟨g, 0, none⟩, c, rfl, hc, by simp, fun _ => ⟨g, 0, rfl, h.1, fun k y hk => ?_⟩⟩
 rcases k with _ | k
 ·simp at hk
  subst hk
  refine ⟨[.int .i64 x], rfl, fun j u hj => ?_, rfl⟩
  have := h.2 j u hj
  simpa using this
 ·simp at hk
theorem OutAt.form {base : Nat} {w : World} {v : Value} {l : List (Int × Int)} (h : OutAt base w v l) : ∃ A c, v = .slice A l.length c := by
 obtain ⟨xs, ho, -⟩ := h
 rcases ho.2 with ⟨rfl, hn⟩ | ⟨g, cap, cur, rfl, -⟩
 ·exact ⟨none, 0, by rw [hn]⟩
 ·exact ⟨_, _, rfl⟩
theorem OutAt.arr {base : Nat} {w : World} {v : Value} {l : List (Int × Int)} (K : Nat) (h : OutAt base w v l) (hl : l.length ≤ 1000000) : ArrAt 5 (ConR K) w v (l.map onC) := by
 obtain ⟨xs, ho, hel⟩ := h
 rcases ho.2 with ⟨rfl, hn⟩ | ⟨g, cap, cur, rfl, hb, hg, hcap, hcm, hcs, htk⟩
 ·obtain rfl := List.eq_nil_of_length_eq_zero hn
  exact ArrAt.nil
 ·refine ⟨some ⟨g, 0, none⟩, cap, by simp, by simpa using hcap, by simp; omega, fun _ => ⟨g, 0, rfl, (Array.getElem?_eq_some_iff.1 hg).1, fun k x hk => ?_⟩⟩
  rw [List.getElem?_map] at hk
  obtain ⟨pc, hpc, rfl⟩ := Option.map_eq_some_iff.1 hk
  obtain ⟨bp, bc, h1, h2, h3, -, -⟩ := hel k pc hpc
  refine ⟨onV bp bc, rfl, fun j u hj => ?_, _, _, _, rfl, ints_one h2 (Nat.le_refl _), ints_one h3 (Nat.le_refl _), ArrAt.nil⟩
  have h6 := h1 j u hj
  rw [← htk, List.getElem?_take] at h6
  split at h6
  ·rw [cell_of_row w g _ cur _ _ hg, Nat.zero_add]
   simpa using h6
  ·cases h6
theorem OutAt.grow {base : Nat} {X w' : World} {v : Value} {l : List (Int × Int)} {xs : List Value} (hel : ∀ k pc, l[k]? = some pc → ∃ bp bc, (∀ j u, (onV bp bc)[j]? = some u → xs[k * 5 + j]? = some u) ∧ CellsAt X bp [.int .i64 pc.1] ∧ CellsAt X bc [.int .i64 pc.2] ∧ some bp ≠ v.ownBlock ∧ some bc ≠ v.ownBlock)
  (hxs : xs.length = l.length * 5) {pc : Int × Int} {bp bc g cap : Nat} (hp : CellsAt X bp [.int .i64 pc.1]) (hc : CellsAt X bc [.int .i64 pc.2]) (np : some bp ≠ v.ownBlock) (nc : some bc ≠ v.ownBlock)
  (hown : w'.ownsRow base 84 5 (.slice (some ⟨g, 0, none⟩) (l.length + 1) cap) (l.length + 1) (xs ++ onV bp bc)) (hg : X.grownBy w' v.ownBlock) (hat : v.ownBlock = some g ∨ g = X.heap.size) :
  OutAt base w' (.slice (some ⟨g, 0, none⟩) (l.length + 1) cap) (l ++ [pc]) := by
 have keep : ∀ b c, CellsAt X b c → some b ≠ v.ownBlock → CellsAt w' b c ∧ some b ≠ (Value.slice (some ⟨g, 0, none⟩) (l.length + 1) cap).ownBlock := by
  intro b c hb hne
  refine ⟨⟨Nat.lt_of_lt_of_le hb.1 hg.size, fun i u hi => (hg.cell_far ⟨b, i, none⟩ hb.1 hne).trans (hb.2 i u hi)⟩, ?_⟩
  intro e
  simp [Value.ownBlock] at e
  subst e
  rcases hat with h1 | h1
  ·exact hne h1.symm
  ·exact absurd hb.1 (by omega)
 refine ⟨xs ++ onV bp bc, by simpa using hown, fun k qc hk => ?_⟩
 rcases Nat.lt_or_ge k l.length with hlt | hge
 ·rw [List.getElem?_append_left hlt] at hk
  obtain ⟨b1, b2, h1, h2, h3, h4, h5⟩ := hel k qc hk
  refine ⟨b1, b2, fun j u hj => ?_, (keep _ _ h2 h4).1, (keep _ _ h3 h5).1, (keep _ _ h2 h4).2, (keep _ _ h3 h5).2⟩
  have := h1 j u hj
  rw [List.getElem?_append_left ((List.getElem?_eq_some_iff.1 this).1)]
  exact this
 ·rw [List.getElem?_append_right hge] at hk
  have hk0 : k = l.length := by
   have := (List.getElem?_eq_some_iff.1 hk).1
   simp at this; omega
  subst hk0
  simp at hk
  subst hk
  refine ⟨bp, bc, fun j u hj => ?_, (keep _ _ hp np).1, (keep _ _ hc nc).1, (keep _ _ hp np).2, (keep _ _ hc nc).2⟩
  rw [List.getElem?_append_right (by omega), show l.length * 5 + j - xs.length = j by omega]
  exact hj
def knownB (s : SkI) (out : List (Int × Int)) (pc : Int × Int) : Bool := s.cons.any (eqC (onC pc)) || (out.map onC).any (eqC (onC pc))
def impStep (s : SkI) (out : List (Int × Int)) (pc : Int × Int) : List (Int × Int) := if knownB s out pc then out else out ++ [pc]
def arcEnds (l : List ArI) : List (Int × Int) := l.flatMap fun a => [(a.a, a.circle), (a.b, a.circle)]
/-- The points and circles of the constraints that the program's Implied returns. -/
def impP (s : SkI) : List (Int × Int) := (arcEnds s.arcs).foldl (impStep s) []
end Go.Proofs.YtjigihlhjhbkpaaGreatDoor
namespace Go.Proofs.YtjigihlhjhbkpaaGreatDoor
open Go Go.RowKit
theorem infoCon : (Tryz.prog.info? 84).map (fun i => (i.zero, i.size, i.bytes)) = some (some (.agg #[.int .i64 0, .slice none 0 0, .slice none 0 0, .slice none 0 0, .int .i64 0]), 5, 88) := by kernel_rfl
theorem enters_impl1 : ∀ args w, (callFunc 42 args).run Tryz.prog w = .ok (.enter 42 args) w := enters_of Tryz.func42 (by kernel_rfl) rfl
theorem CellsAt.far {X w' : World} {row : Option Nat} {b : Nat} {cs : List Value} (h : CellsAt X b cs) (hg : X.grownBy w' row) (hne : some b ≠ row) : CellsAt w' b cs :=
 ⟨Nat.lt_of_lt_of_le h.1 hg.size, fun i u hi => (hg.cell_far ⟨b, i, none⟩ h.1 hne).trans (h.2 i u hi)⟩
theorem CellsAt.ne_own {X : World} {v : Value} {g b : Nat} {cs : List Value} (h : CellsAt X b cs) (hne : some b ≠ v.ownBlock) (hat : v.ownBlock = some g ∨ g = X.heap.size) (n cap : Nat) : some b ≠ (Value.slice (some ⟨g, 0, none⟩) n cap).ownBlock := by
 intro e
 simp [Value.ownBlock] at e
 subst e
 rcases hat with h1 | h1
 ·exact hne h1.symm
 ·exact absurd h.1 (by omega)
theorem OutAt.grow' {base : Nat} {X X' w' : World} {v : Value} {l : List (Int × Int)} {xs : List Value} (hel : ∀ k pc, l[k]? = some pc → ∃ bp bc, (∀ j u, (onV bp bc)[j]? = some u → xs[k * 5 + j]? = some u) ∧ CellsAt X bp [.int .i64 pc.1] ∧ CellsAt X bc [.int .i64 pc.2] ∧ some bp ≠ v.ownBlock ∧ some bc ≠ v.ownBlock) (hx : Ext X X')
  (hxs : xs.length = l.length * 5) {pc : Int × Int} {bp bc g cap : Nat} (hp : CellsAt X bp [.int .i64 pc.1]) (hc : CellsAt X bc [.int .i64 pc.2]) (np : some bp ≠ v.ownBlock) (nc : some bc ≠ v.ownBlock)
  (hown : w'.ownsRow base 84 5 (.slice (some ⟨g, 0, none⟩) (l.length + 1) cap) (l.length + 1) (xs ++ onV bp bc)) (hg : X'.grownBy w' v.ownBlock) (hat : v.ownBlock = some g ∨ g = X'.heap.size) :
  OutAt base w' (.slice (some ⟨g, 0, none⟩) (l ++ [pc]).length cap) (l ++ [pc]) := by
 rw [List.length_append]
 refine OutAt.grow (X := X') (v := v) (fun k qc h => ?_) hxs (hp.ext hx) (hc.ext hx) np nc hown hg hat
 obtain ⟨b1, b2, h1, h2, h3, h4, h5⟩ := hel k qc h
 exact ⟨b1, b2, h1, h2.ext hx, h3.ext hx, h4, h5⟩
set_option maxHeartbeats 800000 in
theorem sketch_Vars {K : Nat} {s : SkI} {v0 v1 v2 v3 v4 v5 : Value} {w : World} (h : SkAt K w v0 v1 v2 v3 v4 v5 s) (hp : s.points.length ≤ 1000) (hc : s.circles.length ≤ 1000) :
  Calls Tryz.prog 8 #[.agg #[v0, v1, v2, v3, v4, v5]] w fun e w' => e = .returned (.int .i64 ((2 * s.points.length + s.circles.length : Nat) : Int)) ∧ Ext w w' := by
 obtain ⟨A0, c0, rfl, hl0, hm0⟩ := h.points.form
 obtain ⟨A1, c1, rfl, hl1, hm1⟩ := h.circles.form
 clear h
 generalize s.points.length = n at *
 generalize s.circles.length = m at *
 go_enter Tryz.func8, Tryz.ntmps8
 go_wp2_with fail
 go_ret
 exact ⟨by simp, (by repeat first|exact xA _|assumption|refine xB ?_ _|refine xC ?_|refine xD ?_ _|refine xE ?_ (by simp <;> omega) _|refine xF ?_ (by assumption))⟩
set_option maxRecDepth 100000 in
set_option maxHeartbeats 3200000 in
theorem sketch_Implied {K : Nat} {s : SkI} {v0 v1 v2 v3 v4 v5 : Value} {w : World} (h : SkAt K w v0 v1 v2 v3 v4 v5 s) (ha : s.arcs.length ≤ 1000) :
  Calls Tryz.prog 14 #[.agg #[v0, v1, v2, v3, v4, v5]] w (Ret w fun r w' => OutAt (w.heap.size + 1) w' r (impP s) ∧ (impP s).length ≤ 2000) := by
 obtain ⟨A3, c3, rfl, hl3, hm3⟩ := h.arcs.form
 obtain ⟨A5, c5, rfl, hl5, hm5⟩ := h.cons.form
 have HAR := Lib.hid h.arcs
 have HC1 := Lib.hid (fun (W : World) (hx : Ext w W) (B bp bc : Nat) (p c : Int) (hp : CellsAt W bp [.int .i64 p]) (hc : CellsAt W bc [.int .i64 c]) (hB : CellsAt W B (onV bp bc)) => con_Con K 42 #[.pointer (some ⟨B, 0, none⟩)] enters_impl1 (h.cons.ext (ConR.stable K) hx) (impl1 (K := K) (c := onC (p, c)) (xs := s.cons) (ints_one hp (Nat.le_refl _)) (ints_one hc (Nat.le_refl _)) hB))
 have HC2 := Lib.hid (fun (W : World) (B bp bc : Nat) (p c : Int) (hp : CellsAt W bp [.int .i64 p]) (hc : CellsAt W bc [.int .i64 c]) (hB : CellsAt W B (onV bp bc)) (base : Nat) (A : Option Addr) (cp : Nat) (out : List (Int × Int)) (ho : OutAt base W (.slice A out.length cp) out) (hl : out.length ≤ 1000000) => con_Con K 42 #[.pointer (some ⟨B, 0, none⟩)] enters_impl1 (ho.arr K hl) (impl1 (K := K) (c := onC (p, c)) (xs := out.map onC) (ints_one hp (Nat.le_refl _)) (ints_one hc (Nat.le_refl _)) hB))
 have HBX := Lib.hid (CellsAt.new w [v0, v1, v2, .slice A3 s.arcs.length c3, v4, .slice A5 s.cons.length c5] 29)
 obtain ⟨w1, hw1⟩ : ∃ w1, w.alloc (.cells #[v0, v1, v2, .slice A3 s.arcs.length c3, v4, .slice A5 s.cons.length c5] 29) = w1 := ⟨_, rfl⟩
 have HE1 : Hid (Ext w w1) := by rw [← hw1]; exact Ext.alloc _ _
 have HB1 : Hid (CellsAt w1 w.heap.size [v0, v1, v2, .slice A3 s.arcs.length c3, v4, .slice A5 s.cons.length c5]) := by rw [← hw1]; exact HBX.out
 have hs1 : w1.heap.size = w.heap.size + 1 := by rw [← hw1]; simp
 have HS1 := Lib.hid hs1
 have HW1 := Lib.hid hw1
 clear hw1 HBX h hs1
 obtain ⟨i0, hi, hz0, hz1, hz2⟩ := info_parts infoCon
 have hE1 := HE1.out
 obtain ⟨y0, y1, y2, y3, y4, y5⟩ := HB1.out.six
 go_enter Tryz.func14, Tryz.ntmps14
 go_upto_region 1 with fail
 rw [HW1.out]
 go_wp2_with fail
 clear y0 y1 y2 y3 y4 y5
 go_loopg [3, 13] s.arcs.length (fun gk v x wr => ∃ (i : Nat) (out : List (Int × Int)) (A : Option Addr) (c : Nat), v = .slice A out.length c ∧ x = .int .i64 (i : Int) ∧ i + gk = s.arcs.length ∧ out.length ≤ 2 * i ∧ Hid (OutAt w1.heap.size wr (.slice A out.length c) out) ∧ Hid ((arcEnds (s.arcs.drop i)).foldl (impStep s) out = impP s) ∧ Hid (Ext w1 wr))
 case atStart => exact ⟨0, [], none, 0, rfl, rfl, by omega, by simp, OutAt.nil _ _, rfl, Ext.refl _⟩
 case round =>
  obtain ⟨i, out, A, c, rfl, rfl, hk, hol, HO, HF, HE⟩ := hrel
  have HB2 := Lib.hid (HB1.out.ext HE.out)
  obtain ⟨y0, y1, y2, y3, y4, y5⟩ := HB2.out.six
  have hE0 := HE.out
  have hEr : Ext w wr := Ext.trans hE1 HE.out
  by_cases hlt : i < s.arcs.length
  ·obtain ⟨b, off, rfl, hb, ds, hds, hcell, hR⟩ := HAR.out.at_ hlt
   rw [hR] at hcell
   have q0 : wr.cell? ⟨b, off + i * 4, none⟩ = _ := (hEr.cell (p := ⟨b, off + (i * 4 + 0), none⟩) hb).trans (hcell 0 _ rfl)
   have q1 : wr.cell? ⟨b, off + i * 4 + 1, none⟩ = _ := (hEr.cell (p := ⟨b, off + (i * 4 + 1), none⟩) hb).trans (hcell 1 _ rfl)
   have q2 : wr.cell? ⟨b, off + i * 4 + 2, none⟩ = _ := (hEr.cell (p := ⟨b, off + (i * 4 + 2), none⟩) hb).trans (hcell 2 _ rfl)
   have q3 : wr.cell? ⟨b, off + i * 4 + 3, none⟩ = _ := (hEr.cell (p := ⟨b, off + (i * 4 + 3), none⟩) hb).trans (hcell 3 _ rfl)
   have hz3 : b < wr.heap.size := Nat.lt_of_lt_of_le hb hEr.size
   have HF1 : Hid ((([(s.arcs[i].a, s.arcs[i].circle), (s.arcs[i].b, s.arcs[i].circle)] : List (Int × Int)) ++ arcEnds (s.arcs.drop (i + 1))).foldl (impStep s) out = impP s) := by
    show _ = _
    rw [← HF.out, List.drop_eq_getElem_cons hlt]
    rfl
   clear hcell hds hR HF
   generalize s.arcs[i].a = pa at *
   generalize s.arcs[i].b = pb at *
   generalize s.arcs[i].circle = pc at *
   generalize s.arcs[i].cw = pw at *
   go_upto_region 6 with fail
   obtain ⟨W2, hW2⟩ : ∃ W2, (wr.alloc (.cells #[.int .i64 pc, .int .i64 pa, .int .i64 pb, .bool pw] 61)).alloc (.cells #[.int .i64 pa, .int .i64 pb] 3) = W2 := ⟨_, rfl⟩
   have HGA : Hid (CellsAt W2 wr.heap.size [.int .i64 pc, .int .i64 pa, .int .i64 pb, .bool pw]) := by rw [← hW2]; exact (CellsAt.new _ _ _).ext (Ext.alloc _ _)
   have HGI : Hid (CellsAt W2 (wr.heap.size + 1) [.int .i64 pa, .int .i64 pb]) := by
    rw [← hW2]
    have := CellsAt.new (wr.alloc (.cells #[.int .i64 pc, .int .i64 pa, .int .i64 pb, .bool pw] 61)) [.int .i64 pa, .int .i64 pb] 3
    rwa [World.size_alloc] at this
   have HX2 : Hid (Ext wr W2) := by rw [← hW2]; exact (Ext.alloc _ _).palloc _
   have HNA : Hid (∀ r, (Value.slice A out.length c).ownBlock = some r → r < wr.heap.size) := by
    intro r hr
    obtain ⟨xs, ho, -⟩ := HO.out
    exact (ho.lt r hr).2
   rw [hW2]
   clear hW2 y0 y1 y2 y3 y4 y5 q0 q1 q2 q3
   generalize wr.heap.size = ga at *
   go_loopg [3, 23] 2 (fun gk2 v x wr2 => ∃ (k : Nat) (out2 : List (Int × Int)) (A2 : Option Addr) (c2 : Nat), v = .slice A2 out2.length c2 ∧ x = .int .i64 (k : Int) ∧ k + gk2 = 2 ∧ out2.length ≤ 2 * i + k ∧ Hid (OutAt w1.heap.size wr2 (.slice A2 out2.length c2) out2) ∧ Hid ((([(pa, pc), (pb, pc)] : List (Int × Int)).drop k ++ arcEnds (s.arcs.drop (i + 1))).foldl (impStep s) out2 = impP s) ∧ Hid (Ext w1 wr2) ∧ Hid (CellsAt wr2 ga [.int .i64 pc, .int .i64 pa, .int .i64 pb, .bool pw]) ∧ Hid (CellsAt wr2 (ga + 1) [.int .i64 pa, .int .i64 pb]) ∧ Hid (some ga ≠ (Value.slice A2 out2.length c2).ownBlock ∧ some (ga + 1) ≠ (Value.slice A2 out2.length c2).ownBlock))
   case atStart =>
    refine ⟨0, out, A, c, rfl, rfl, by omega, by omega, HO.out.ext HX2.out, HF1.out, Ext.trans hE0 HX2.out, HGA.out, HGI.out, ?_, ?_⟩
    ·intro e; have := HNA.out _ e.symm; omega
    ·intro e; have := HNA.out _ e.symm; omega
   case round =>
    clear HO HGA HGI HX2 HNA HF1 HE hE0 hEr HB2 hol
    obtain ⟨k, out, A, c, rfl, rfl, hk2, hol, HO, HF, HE, HGA, HGI, HNE⟩ := hrel
    have HB2 := Lib.hid (HB1.out.ext HE.out)
    obtain ⟨y0, y1, y2, y3, y4, y5⟩ := HB2.out.six
    have hE0 := HE.out
    have hEr : Ext w wr := Ext.trans hE1 HE.out
    by_cases hlt2 : k < 2
    ·obtain ⟨p, hp⟩ : ∃ p, Hid (([(pa, pc), (pb, pc)] : List (Int × Int)).drop k = (p, pc) :: ([(pa, pc), (pb, pc)] : List (Int × Int)).drop (k + 1)) ∧ wr.cell? ⟨ga + 1, k, none⟩ = some (.int .i64 p) := by
      match k, hlt2 with
      | 0, _ => exact ⟨pa, rfl, HGI.out.2 0 _ rfl⟩
      | 1, _ => exact ⟨pb, rfl, HGI.out.2 1 _ rfl⟩
     obtain ⟨HD, qk⟩ := hp
     have qc := HGA.out.2 0 _ rfl
     have hz4 : ga < wr.heap.size := HGA.out.1
     have hz5 : ga + 1 < wr.heap.size := HGI.out.1
     have HF2 : Hid ((([(pa, pc), (pb, pc)] : List (Int × Int)).drop (k + 1) ++ arcEnds (s.arcs.drop (i + 1))).foldl (impStep s) (impStep s out (p, pc)) = impP s) := by
      show _ = _
      rw [← HF.out, HD.out]
      rfl
     have HLT : Hid (∀ r, (Value.slice A out.length c).ownBlock = some r → r < wr.heap.size) := by
      intro r hr
      obtain ⟨xs, ho, -⟩ := HO.out
      exact (ho.lt r hr).2
     clear HF HD
     go_upto_region 9 with fail
     obtain ⟨X, hX⟩ : ∃ X, ((wr.alloc (.cells #[.int .i64 p] 3)).alloc (.cells #[.int .i64 pc] 3)).alloc (.cells #[.int .i64 13, .slice (some ⟨wr.heap.size, 0, none⟩) 1 1, .slice (some ⟨wr.heap.size + 1, 0, none⟩) 1 1, .slice none 0 0, .int .i64 0] 84) = X := ⟨_, rfl⟩
     have HXX : Hid (Ext wr X) := by rw [← hX]; exact ((Ext.alloc _ _).palloc _).palloc _
     have HXP : Hid (CellsAt X wr.heap.size [.int .i64 p]) := by rw [← hX]; exact (CellsAt.new wr [.int .i64 p] 3).ext ((Ext.alloc _ _).palloc _)
     have HXC : Hid (CellsAt X (wr.heap.size + 1) [.int .i64 pc]) := by
      rw [← hX]
      have := (CellsAt.new (wr.alloc (.cells #[.int .i64 p] 3)) [.int .i64 pc] 3).ext (Ext.alloc _ (.cells (onV wr.heap.size (wr.heap.size + 1)).toArray 84))
      rwa [World.size_alloc] at this
     have HXB : Hid (CellsAt X (wr.heap.size + 1 + 1) (onV wr.heap.size (wr.heap.size + 1))) := by
      rw [← hX]
      have := CellsAt.new ((wr.alloc (.cells #[.int .i64 p] 3)).alloc (.cells #[.int .i64 pc] 3)) (onV wr.heap.size (wr.heap.size + 1)) 84
      rwa [World.size_alloc, World.size_alloc] at this
     rw [hX]
     have hsX : X.heap.size = wr.heap.size + 1 + 1 + 1 := by rw [← hX]; simp
     have HEX : Hid (Ext w1 X) := hE0.trans HXX.out
     have hEX : Ext w X := hEr.trans HXX.out
     have HLX : Hid ((some wr.heap.size ≠ (Value.slice A out.length c).ownBlock) ∧ (some (wr.heap.size + 1) ≠ (Value.slice A out.length c).ownBlock)) := by
      constructor
      ·intro e; have := HLT.out _ e.symm; omega
      ·intro e; have := HLT.out _ e.symm; omega
     have HOX := Lib.hid (HO.out.ext HXX.out)
     have HGAX := Lib.hid (HGA.out.ext HXX.out)
     have HGIX := Lib.hid (HGI.out.ext HXX.out)
     have HKN : Hid (impStep s out (p, pc) = if (s.cons.any (eqC (onC (p, pc))) || (out.map onC).any (eqC (onC (p, pc)))) = true then out else out ++ [(p, pc)]) := rfl
     have HWS : Hid (w1.heap.size ≤ wr.heap.size) := hE0.size
     clear hX y0 y1 y2 y3 y4 y5 qk qc HO HGA HGI hz4 hz5 HLT
     generalize hbp : wr.heap.size = bp at *
     have HCX1 := Lib.hid (HC1.out X hEX (bp + 1 + 1) bp (bp + 1) p pc HXP.out HXC.out HXB.out)
     generalize s.cons.any (eqC (onC (p, pc))) = b1 at *
     obtain ⟨y0, y1, y2, y3, y4, y5⟩ := (HB1.out.ext HEX.out).six
     have hlt1 := (HB1.out.ext HEX.out).1
     go_wp2_with fail
     refine HCX1.out.mono ?_
     rintro e X1 ⟨rfl, hx1⟩
     clear HCX1 y0 y1 y2 y3 y4 y5
     cases b1 with
     | true =>
      have HS2 : Hid (impStep s out (p, pc) = out) := by show _ = _; rw [HKN.out]; rfl
      rw [HS2.out] at HF2
      go_wp2_with fail
      go_roundg (2 - (k + 1))
      case measure => omega
      case rel => exact ⟨k + 1, out, A, c, rfl, by simp, by omega, by omega, HOX.out.ext hx1, HF2.out, Ext.trans HEX.out hx1, HGAX.out.ext hx1, HGIX.out.ext hx1, HNE.out⟩
     | false =>
      have HCX2 := Lib.hid (HC2.out X1 (bp + 1 + 1) bp (bp + 1) p pc (HXP.out.ext hx1) (HXC.out.ext hx1) (HXB.out.ext hx1) w1.heap.size A c out (HOX.out.ext hx1) (by omega))
      generalize (out.map onC).any (eqC (onC (p, pc))) = b2 at *
      go_wp2_with fail
      refine HCX2.out.mono ?_
      rintro e X2 ⟨rfl, hx2⟩
      clear HCX2
      have hx12 := Ext.trans hx1 hx2
      cases b2 with
      | true =>
       have HS2 : Hid (impStep s out (p, pc) = out) := by show _ = _; rw [HKN.out]; rfl
       rw [HS2.out] at HF2
       go_wp2_with fail
       go_roundg (2 - (k + 1))
       case measure => omega
       case rel => exact ⟨k + 1, out, A, c, rfl, by simp, by omega, by omega, HOX.out.ext hx12, HF2.out, Ext.trans HEX.out hx12, HGAX.out.ext hx12, HGIX.out.ext hx12, HNE.out⟩
      | false =>
       have HS2 : Hid (impStep s out (p, pc) = out ++ [(p, pc)]) := by show _ = _; rw [HKN.out]; rfl
       rw [HS2.out] at HF2
       obtain ⟨xs, ho, hel⟩ := HOX.out.ext hx12
       have HOW := Lib.hid ho
       have HEL := Lib.hid hel
       have HB3 := Lib.hid (HXB.out.ext hx12)
       obtain ⟨t0, t1, t2, t3, t4⟩ := HB3.out.five
       have hlt3 := HB3.out.1
       have hX2 : Ext w1 X2 := Ext.trans HEX.out hx12
       clear ho hel
       go_wp2_with (at_builtin; refine wpList_append_lies _ rfl _ _ 27 rfl w1.heap.size 84 i0 (.agg #[.int .i64 0, .slice none 0 0, .slice none 0 0, .slice none 0 0, .int .i64 0]) 5 88 Tryz.underlying27 hi hz0 hz1 hz2 rfl (by decide) _ out.length xs rfl (ownsRow_ext HOW.out (by repeat first|exact xA _|assumption|refine xB ?_ _|refine xC ?_|refine xD ?_ _|refine xE ?_ (by simp <;> omega) _|refine xF ?_ (by assumption))) _ 1 1 (onV bp (bp + 1)) rfl rfl (news_new _ (onV bp (bp + 1)) _) (by simp [onV, Value.oneCell']) (by omega) (by unfold maxLen; omega) (by omega) (by have := hX2.size; simp; omega) _ rfl ?_; intro g cap w4 hown4 hgrow hat hlt4)
       go_roundg (2 - (k + 1))
       case measure => omega
       case rel =>
        have hGA := (HGAX.out.ext hx12).ext (Ext.alloc X2 (.cells (onV bp (bp + 1)).toArray 84))
        have hGI := (HGIX.out.ext hx12).ext (Ext.alloc X2 (.cells (onV bp (bp + 1)).toArray 84))
        exact ⟨k + 1, out ++ [(p, pc)], some ⟨g, 0, none⟩, cap, by simp, by simp, by omega, by simp; omega, OutAt.grow' HEL.out (Ext.alloc X2 (.cells (onV bp (bp + 1)).toArray 84)) HOW.out.1 (HXP.out.ext hx12) (HXC.out.ext hx12) HLX.out.1 HLX.out.2 hown4 hgrow hat, HF2.out, ext_grown hgrow (hX2.palloc _) (ownsRow_block HOW.out), hGA.far hgrow HNE.out.1, hGI.far hgrow HNE.out.2, hGA.ne_own HNE.out.1 hat _ _, hGI.ne_own HNE.out.2 hat _ _⟩
    ·obtain rfl : k = 2 := by omega
     go_wp2_with fail
     go_roundg (s.arcs.length - (i + 1))
     case measure => omega
     case rel => exact ⟨i + 1, out, A, c, rfl, by simp, by omega, by omega, HO.out, HF.out, HE.out⟩
  ·have HU : Hid (out = impP s) := by show _ = _; rw [← HF.out, List.drop_eq_nil_of_le (by omega)]; rfl
   go_wp2_with fail
   go_ret
   refine ⟨_, rfl, ⟨?_, ?_⟩, hEr⟩
   ·have := HO.out
    rw [HS1.out] at this
    rw [← HU.out]
    exact this
   ·rw [← HU.out]; omega
end Go.Proofs.YtjigihlhjhbkpaaGreatDoor
namespace Go.Proofs.YtjigihlhjhbkpaaGreatDoor
open Go Go.RowKit
/-- What R says holds whatever becomes of one row. -/
def Off {α : Type} (row : Option Nat) (R : World → List Value → α → Prop) (w : World) (ds : List Value) (x : α) : Prop := ∀ w', w.grownBy w' row → R w' ds x
theorem grownBy_refl (w : World) (row : Option Nat) : w.grownBy w row := ⟨rfl, rfl, rfl, Nat.le_refl _, fun _ _ _ => rfl⟩
theorem grownBy_ext {w a b : World} {row : Option Nat} (h : Ext w a) (hg : a.grownBy b row) : w.grownBy b row :=
 ⟨hg.os.trans h.os, hg.tape.trans h.tape, hg.output.trans h.output, Nat.le_trans h.size hg.size, fun k hk hne => (hg.block k (Nat.lt_of_lt_of_le hk h.size) hne).trans (h.block k hk)⟩
theorem Off.out {α : Type} {row : Option Nat} {R : World → List Value → α → Prop} {w : World} {ds : List Value} {x : α} (h : Off row R w ds x) : R w ds x := h w (grownBy_refl w row)
theorem Off.ext {α : Type} {row : Option Nat} {R : World → List Value → α → Prop} {w w' : World} {ds : List Value} {x : α} (h : Off row R w ds x) (hx : Ext w w') : Off row R w' ds x := fun w'' hg => h w'' (grownBy_ext hx hg)
/-- Another row, which lies in no block that was there, or in the same one. -/
theorem Off.grown {α : Type} {row : Option Nat} {g : Nat} {R : World → List Value → α → Prop} {w w' : World} {ds : List Value} {x : α} (h : Off row R w ds x) (hg : w.grownBy w' row) (hat : row = some g ∨ g = w.heap.size) : Off (some g) R w' ds x := fun w'' hg' =>
 h w'' ⟨hg'.os.trans hg.os, hg'.tape.trans hg.tape, hg'.output.trans hg.output, Nat.le_trans hg.size hg'.size, fun k hk hne => (hg'.block k (Nat.lt_of_lt_of_le hk hg.size) (by
  intro e
  injection e with e
  subst e
  rcases hat with h1 | h1
  ·exact hne h1.symm
  ·omega)).trans (hg.block k hk hne)⟩
/-- Whatever lay there ahead of the row. -/
theorem Off.of_stable {α : Type} {row : Option Nat} {R : World → List Value → α → Prop} {w0 w : World} {ds : List Value} {x : α} (hR : Stable R) (h : R w0 ds x) (hx : Ext w0 w) (hr : ∀ r, row = some r → w0.heap.size ≤ r) : Off row R w ds x := fun _ hg => hR _ _ _ _ (ext_grown hg hx hr) h
/-- A slice that the call owns, and what its elements read as. -/
def RowOf {α : Type} (T sz : Nat) (R : World → List Value → α → Prop) (base : Nat) (w : World) (v : Value) (l : List α) : Prop :=
 ∃ xs, w.ownsRow base T sz v l.length xs ∧ ∀ k x, l[k]? = some x → ∃ ds, ds.length = sz ∧ (∀ j u, ds[j]? = some u → xs[k * sz + j]? = some u) ∧ Off v.ownBlock R w ds x
section
variable {α : Type} {T sz : Nat} {R : World → List Value → α → Prop} {base : Nat} {w w' : World} {v : Value} {l : List α}
theorem RowOf.nil : RowOf T sz R base w (.slice none 0 0) ([] : List α) := ⟨[], World.ownsRow_nil _ _ _ _, fun k x h => by simp at h⟩
theorem RowOf.ext (h : RowOf T sz R base w v l) (hx : Ext w w') : RowOf T sz R base w' v l := by
 obtain ⟨xs, ho, hel⟩ := h
 refine ⟨xs, ownsRow_ext ho hx, fun k x hk => ?_⟩
 obtain ⟨ds, h1, h2, h3⟩ := hel k x hk
 exact ⟨ds, h1, h2, h3.ext hx⟩
theorem RowOf.form (h : RowOf T sz R base w v l) : ∃ A c, v = .slice A l.length c := by
 obtain ⟨xs, ho, -⟩ := h
 rcases ho.2 with ⟨rfl, hn⟩ | ⟨g, cap, cur, rfl, -⟩
 ·exact ⟨none, 0, by rw [hn]⟩
 ·exact ⟨_, _, rfl⟩
theorem RowOf.lt (h : RowOf T sz R base w v l) : ∀ r, v.ownBlock = some r → base ≤ r ∧ r < w.heap.size := by
 obtain ⟨xs, ho, -⟩ := h
 exact ho.lt
theorem RowOf.arr (h : RowOf T sz R base w v l) (hl : l.length ≤ 1000000) : ArrAt sz R w v l := by
 obtain ⟨xs, ho, hel⟩ := h
 rcases ho.2 with ⟨rfl, hn⟩ | ⟨g, cap, cur, rfl, hb, hg, hcap, hcm, hcs, htk⟩
 ·obtain rfl := List.eq_nil_of_length_eq_zero hn
  exact ArrAt.nil
 ·refine ⟨some ⟨g, 0, none⟩, cap, rfl, hcap, by omega, fun _ => ⟨g, 0, rfl, (Array.getElem?_eq_some_iff.1 hg).1, fun k x hk => ?_⟩⟩
  obtain ⟨ds, h1, h2, h3⟩ := hel k x hk
  refine ⟨ds, h1, fun j u hj => ?_, h3.out⟩
  have h6 := h2 j u hj
  rw [← htk, List.getElem?_take] at h6
  split at h6
  ·rw [cell_of_row w g _ cur _ _ hg, Nat.zero_add]
   simpa using h6
  ·cases h6
/-- Behind an append. -/
theorem RowOf.append {X : World} {xs news : List Value} {m g cap : Nat} {l' : List α} (hxs : xs.length = l.length * sz) (hel : ∀ k x, l[k]? = some x → ∃ ds, ds.length = sz ∧ (∀ j u, ds[j]? = some u → xs[k * sz + j]? = some u) ∧ Off v.ownBlock R X ds x)
  (hel' : ∀ k x, l'[k]? = some x → ∃ ds, ds.length = sz ∧ (∀ j u, ds[j]? = some u → news[k * sz + j]? = some u) ∧ Off v.ownBlock R X ds x) (hm : l'.length = m)
  (hown : w'.ownsRow base T sz (.slice (some ⟨g, 0, none⟩) (l.length + m) cap) (l.length + m) (xs ++ news)) (hg : X.grownBy w' v.ownBlock) (hat : v.ownBlock = some g ∨ g = X.heap.size) :
  RowOf T sz R base w' (.slice (some ⟨g, 0, none⟩) (l ++ l').length cap) (l ++ l') := by
 subst hm
 refine ⟨xs ++ news, by rw [List.length_append]; exact hown, fun k x hk => ?_⟩
 rcases Nat.lt_or_ge k l.length with hlt | hge
 ·rw [List.getElem?_append_left hlt] at hk
  obtain ⟨ds, h1, h2, h3⟩ := hel k x hk
  refine ⟨ds, h1, fun j u hj => ?_, h3.grown hg hat⟩
  have := h2 j u hj
  rw [List.getElem?_append_left ((List.getElem?_eq_some_iff.1 this).1)]
  exact this
 ·rw [List.getElem?_append_right hge] at hk
  obtain ⟨ds, h1, h2, h3⟩ := hel' _ x hk
  refine ⟨ds, h1, fun j u hj => ?_, h3.grown hg hat⟩
  have := h2 j u hj
  rw [List.getElem?_append_right (by rw [hxs]; have := Nat.mul_le_mul_right sz hge; omega)]
  rw [show k * sz + j - xs.length = (k - l.length) * sz + j by rw [hxs, Nat.sub_mul]; have := Nat.mul_le_mul_right sz hge; omega]
  exact this
end
/-- The cells of a slice of structs, one behind the other. -/
theorem ArrAt.flat {α : Type} {sz : Nat} {R : World → List Value → α → Prop} {w : World} : ∀ {xs : List α} {b off : Nat}, (∀ k x, xs[k]? = some x → ∃ cs : List Value, cs.length = sz ∧ (∀ j u, cs[j]? = some u → w.cell? ⟨b, off + (k * sz + j), none⟩ = some u) ∧ R w cs x) →
  ∃ news : List Value, news.length = xs.length * sz ∧ (∀ j u, news[j]? = some u → w.cell? (Addr.add ⟨b, off, none⟩ j) = some u) ∧ (∀ u ∈ news, ∃ (k : Nat) (x : α) (cs : List Value), xs[k]? = some x ∧ R w cs x ∧ u ∈ cs) ∧ ∀ k x, xs[k]? = some x → ∃ ds, ds.length = sz ∧ (∀ j u, ds[j]? = some u → news[k * sz + j]? = some u) ∧ R w ds x := by
 intro xs
 induction xs with
 | nil => intro b off _; exact ⟨[], by simp, fun j u h => by simp at h, fun u h => by simp at h, fun k x h => by simp at h⟩
 | cons a l ih =>
  intro b off h
  obtain ⟨cs, h1, h2, h3⟩ := h 0 a rfl
  obtain ⟨news, n1, n2, n3, n4⟩ := ih (b := b) (off := off + sz) (fun k x hk => by
   obtain ⟨ds, d1, d2, d3⟩ := h (k + 1) x (by simpa using hk)
   refine ⟨ds, d1, fun j u hj => ?_, d3⟩
   have := d2 j u hj
   rw [show off + ((k + 1) * sz + j) = off + sz + (k * sz + j) by rw [Nat.add_mul]; omega] at this
   exact this)
  refine ⟨cs ++ news, by rw [List.length_append, h1, n1, List.length_cons, Nat.add_mul]; omega, fun j u hj => ?_, fun u hu => ?_, fun k x hk => ?_⟩
  ·rw [Addr.add_lit]
   rcases Nat.lt_or_ge j cs.length with hlt | hge
   ·rw [List.getElem?_append_left hlt] at hj
    have := h2 j u hj
    rw [Nat.zero_mul, Nat.zero_add] at this
    exact this
   ·rw [List.getElem?_append_right hge] at hj
    have := n2 _ u hj
    rw [Addr.add_lit, show off + sz + (j - cs.length) = off + j by omega] at this
    exact this
  ·rcases List.mem_append.1 hu with hu | hu
   ·exact ⟨0, a, cs, rfl, h3, hu⟩
   ·obtain ⟨k, x, ds, e1, e2, e3⟩ := n3 u hu
    exact ⟨k + 1, x, ds, by simpa using e1, e2, e3⟩
  ·rcases k with _ | k
   ·simp at hk
    subst hk
    refine ⟨cs, h1, fun j u hj => ?_, h3⟩
    rw [Nat.zero_mul, Nat.zero_add, List.getElem?_append_left ((List.getElem?_eq_some_iff.1 hj).1)]
    exact hj
   ·obtain ⟨ds, d1, d2, d3⟩ := n4 k x (by simpa using hk)
    refine ⟨ds, d1, fun j u hj => ?_, d3⟩
    rw [List.getElem?_append_right (by rw [h1, Nat.add_mul]; omega), show (k + 1) * sz + j - cs.length = k * sz + j by rw [h1, Nat.add_mul]; omega]
    exact d2 j u hj
end Go.Proofs.YtjigihlhjhbkpaaGreatDoor
namespace Go.Proofs.YtjigihlhjhbkpaaGreatDoor
open Go Go.RowKit
theorem ArrAt.off {α : Type} {sz : Nat} {R : World → List Value → α → Prop} (hR : Stable R) {w0 w : World} {v : Value} {xs : List α} (h : ArrAt sz R w0 v xs) (hx : Ext w0 w) {row : Option Nat} (hr : ∀ r, row = some r → w0.heap.size ≤ r) : ArrAt sz (Off row R) w v xs := by
 obtain ⟨A, c, hv, hl, hm, hc⟩ := h
 refine ⟨A, c, hv, hl, hm, fun hne => ?_⟩
 obtain ⟨b, off, hA, hb, hk⟩ := hc hne
 refine ⟨b, off, hA, Nat.lt_of_lt_of_le hb hx.size, fun k x hkx => ?_⟩
 obtain ⟨cs, hcs, hcell, hr'⟩ := hk k x hkx
 exact ⟨cs, hcs, fun j u hj => (hx.cell (p := ⟨b, off + (k * sz + j), none⟩) hb).trans (hcell j u hj), Off.of_stable hR hr' hx hr⟩
theorem RowOf.far {α : Type} {T sz : Nat} {S : List Value → α → Prop} {base : Nat} {w w' : World} {v : Value} {l : List α} {row : Option Nat} (h : RowOf T sz (fun _ => S) base w v l) (hg : w.grownBy w' row) (hne : v.ownBlock = none ∨ v.ownBlock ≠ row) : RowOf T sz (fun _ => S) base w' v l := by
 obtain ⟨xs, ho, hel⟩ := h
 refine ⟨xs, ho.kept hg hne, fun k x hk => ?_⟩
 obtain ⟨ds, h1, h2, h3⟩ := hel k x hk
 exact ⟨ds, h1, h2, fun _ _ => h3.out⟩
section
variable {P : Program}
theorem run_append_row (w : World) (t ty e : TypeId) (i : TypeInfo) (z : Value) (size bytes : Nat) (ht : P.underlying t = some (.slice e)) (hi : P.info? e = some i) (hz : i.zero = some z) (hsize : i.size = size) (hby : i.bytes = bytes) (hzs : z.cells.size = size) (hsz : 0 < size)
  {α : Type} {R : World → List Value → α → Prop} {base : Nat} {v : Value} {l : List α} (hrow : RowOf e size R base w v l) {xv : Value} {ys : List α} (hsrc : ArrAt size (Off v.ownBlock R) w xv ys) (hone : ∀ w ds x, R w ds x → ∀ u ∈ ds, u.oneCell' = true)
  (h63 : l.length + ys.length ≤ maxLen) (hbytes : (l.length + ys.length) * bytes ≤ 140737488355328) (hbase : base ≤ w.heap.size) :
  ∃ v' w', (Builtin.append_ #[t, t] ty #[v, xv]).run P w = .ok v' w' ∧ RowOf e size R base w' v' (l ++ ys) ∧ w.grownBy w' v.ownBlock ∧ (v'.ownBlock = v.ownBlock ∨ v'.ownBlock = some w.heap.size) := by
 obtain ⟨A, c, rfl, hl, hm, hc⟩ := hsrc
 by_cases hne : ys = []
 ·subst hne
  have hS : Src P i.size t (.slice A ([] : List α).length c) 0 [] w := by
   cases A with
   | none => exact Src.ofNil (P := P) w ht c
   | some a => exact Src.ofSlice (P := P) w ht a 0 c [] (by simp) (fun j u h => by simp at h) (fun u h => by simp at h)
  have hle : ∃ B n cp, v = .slice B n cp ∧ n ≤ cp := by
   obtain ⟨xs, ho, -⟩ := hrow
   rcases ho.2 with ⟨rfl, -⟩ | ⟨g, cap, cur, rfl, -, -, h1, -⟩
   ·exact ⟨none, 0, 0, rfl, Nat.le_refl _⟩
   ·exact ⟨_, _, _, rfl, h1⟩
  obtain ⟨B, n, cp, rfl, hn⟩ := hle
  exact ⟨_, w, run_append_nothing (P := P) w t t ty e i ht hi B n cp hn _ hS, by simpa using hrow, grownBy_refl _ _, .inl rfl⟩
 ·obtain ⟨b, off, rfl, hb, hel⟩ := hc hne
  obtain ⟨news, n1, n2, n3, n4⟩ := ArrAt.flat (R := Off v.ownBlock R) hel
  obtain ⟨xs, ho, hx⟩ := hrow
  have hpos : 0 < ys.length := List.length_pos_iff.2 hne
  obtain ⟨g, cap, w', h1, h2, h3, h4, h5⟩ := run_append_lies (P := P) w t ty base e i z size bytes ht hi hz hsize hby hzs hsz v l.length xs ho ⟨b, off, none⟩ ys.length c news n1 n2 (fun u hu => by
   obtain ⟨k, x, cs, -, h6, h7⟩ := n3 u hu
   exact hone _ _ _ h6.out u h7) hpos h63 hbytes hbase w.heap.size rfl
  refine ⟨_, w', h1, ?_, h3, ?_⟩
  ·have := RowOf.append (l' := ys) ho.1 hx n4 rfl h2 h3 h4
   rw [List.length_append] at this
   exact this
  ·rcases h4 with h4 | h4
   ·left; rw [h4]; rfl
   ·right; rw [h4]; rfl
theorem wp_append_row (w : World) {o : Oper} {a : Act} {K : Act → World → Prop} {Q : Exit → Act → World → Prop} (s x : Operand) (t : TypeId)
  (ho : o.op = .call { callee := .builtin .append, args := #[s, x], argTypes := #[t, t] })
  (e : TypeId) (i : TypeInfo) (z : Value) (size bytes : Nat) (ht : P.underlying t = some (.slice e)) (hi : P.info? e = some i) (hz : i.zero = some z) (hsize : i.size = size) (hby : i.bytes = bytes) (hzs : z.cells.size = size) (hsz : 0 < size)
  {α : Type} {R : World → List Value → α → Prop} {base : Nat} (v : Value) {l : List α} (hs : a.eval s = v) (hrow : RowOf e size R base w v l) (xv : Value) {ys : List α} (hx : a.eval x = xv) (hsrc : ArrAt size (Off v.ownBlock R) w xv ys) (hone : ∀ w ds x, R w ds x → ∀ u ∈ ds, u.oneCell' = true)
  (h63 : l.length + ys.length ≤ maxLen) (hbytes : (l.length + ys.length) * bytes ≤ 140737488355328) (hbase : base ≤ w.heap.size)
  (h : ∀ A c w', RowOf e size R base w' (.slice A (l ++ ys).length c) (l ++ ys) → w.grownBy w' v.ownBlock → ((Value.slice A (l ++ ys).length c).ownBlock = v.ownBlock ∨ (Value.slice A (l ++ ys).length c).ownBlock = some w.heap.size) → K (a.put o.dst (.slice A (l ++ ys).length c)) w') : o.wp P a w K Q := by
 obtain ⟨v', w', hr, h2, h3, h4⟩ := run_append_row (P := P) w t o.type e i z size bytes ht hi hz hsize hby hzs hsz hrow hsrc hone h63 hbytes hbase
 obtain ⟨A, c, rfl⟩ := h2.form
 unfold Oper.wp execOp
 simp only [ho, resolve, invoke, builtin, Sem.run_bind, Sem.run_pure, Result.andThen_ok, List.map_toArray, List.map_cons, List.map_nil, hs, hx, hr]
 exact h A c w' h2 h3 h4
theorem wpList_append_row (w : World) {ops : Array Oper} {rest : List Oper} {o : Oper} {a : Act} {Q : Exit → Act → World → Prop} (hgd : o.guard = none) (s x : Operand) (t : TypeId)
  (ho : o.op = .call { callee := .builtin .append, args := #[s, x], argTypes := #[t, t] })
  (e : TypeId) (i : TypeInfo) (z : Value) (size bytes : Nat) (ht : P.underlying t = some (.slice e)) (hi : P.info? e = some i) (hz : i.zero = some z) (hsize : i.size = size) (hby : i.bytes = bytes) (hzs : z.cells.size = size) (hsz : 0 < size)
  {α : Type} {R : World → List Value → α → Prop} {base : Nat} (v : Value) {l : List α} (hs : a.eval s = v) (hrow : RowOf e size R base w v l) (xv : Value) {ys : List α} (hx : a.eval x = xv) (hsrc : ArrAt size (Off v.ownBlock R) w xv ys) (hone : ∀ w ds x, R w ds x → ∀ u ∈ ds, u.oneCell' = true)
  (h63 : l.length + ys.length ≤ maxLen) (hbytes : (l.length + ys.length) * bytes ≤ 140737488355328) (hbase : base ≤ w.heap.size)
  (h : ∀ A c w', RowOf e size R base w' (.slice A (l ++ ys).length c) (l ++ ys) → w.grownBy w' v.ownBlock → ((Value.slice A (l ++ ys).length c).ownBlock = v.ownBlock ∨ (Value.slice A (l ++ ys).length c).ownBlock = some w.heap.size) → wpList P ops Q rest (a.put o.dst (.slice A (l ++ ys).length c)) w') : wpList P ops Q (o :: rest) a w :=
 wpList_plain hgd fun _ hK => wp_append_row w s x t ho e i z size bytes ht hi hz hsize hby hzs hsz v hs hrow xv hx hsrc hone h63 hbytes hbase fun A c w' h2 h3 h4 => hK _ _ (h A c w' h2 h3 h4)
theorem step_append_row (w : World) {ops : Array Oper} {o : Oper} {a : Act} {K : Act → World → Prop} {Q : Exit → Act → World → Prop} {E : Prop} (hgd : o.guard = none) (s x : Operand) (t : TypeId)
  (ho : o.op = .call { callee := .builtin .append, args := #[s, x], argTypes := #[t, t] })
  (e : TypeId) (i : TypeInfo) (z : Value) (size bytes : Nat) (ht : P.underlying t = some (.slice e)) (hi : P.info? e = some i) (hz : i.zero = some z) (hsize : i.size = size) (hby : i.bytes = bytes) (hzs : z.cells.size = size) (hsz : 0 < size)
  {α : Type} {R : World → List Value → α → Prop} {base : Nat} (v : Value) {l : List α} (hs : a.eval s = v) (hrow : RowOf e size R base w v l) (xv : Value) {ys : List α} (hx : a.eval x = xv) (hsrc : ArrAt size (Off v.ownBlock R) w xv ys) (hone : ∀ w ds x, R w ds x → ∀ u ∈ ds, u.oneCell' = true)
  (h63 : l.length + ys.length ≤ maxLen) (hbytes : (l.length + ys.length) * bytes ≤ 140737488355328) (hbase : base ≤ w.heap.size)
  (h : ∀ A c w', RowOf e size R base w' (.slice A (l ++ ys).length c) (l ++ ys) → w.grownBy w' v.ownBlock → ((Value.slice A (l ++ ys).length c).ownBlock = v.ownBlock ∨ (Value.slice A (l ++ ys).length c).ownBlock = some w.heap.size) → K (a.put o.dst (.slice A (l ++ ys).length c)) w') :
  if Region.wanted o (yielded ops a.tmps) = true then Oper.wp P o a w K Q else E := by
 have hw : Region.wanted o (yielded ops a.tmps) = true := by simp [Region.wanted, hgd]
 rw [if_pos hw]
 exact wp_append_row w s x t ho e i z size bytes ht hi hz hsize hby hzs hsz v hs hrow xv hx hsrc hone h63 hbytes hbase h
end
theorem ConR.one {K : Nat} : ∀ (w : World) (ds : List Value) (x : CI), ConR K w ds x → ∀ u ∈ ds, u.oneCell' = true := by
 rintro w ds x ⟨pv, cv, vv, rfl, hp, hc, hv⟩ u hu
 obtain ⟨_, _, rfl, _⟩ := hp.form
 obtain ⟨_, _, rfl, _⟩ := hc.form
 obtain ⟨_, _, rfl, _⟩ := hv.form
 simp only [List.mem_cons, List.not_mem_nil, or_false] at hu
 rcases hu with rfl | rfl | rfl | rfl | rfl <;> rfl
end Go.Proofs.YtjigihlhjhbkpaaGreatDoor
