/- Contracts: quo, FromInt, Mul of the reference's layer 2. -/
import Derived.Test.YtonleohlplkglaaGreatDoorTp
import Derived.Test.YtonleohlplkglaaGreatDoorReg
namespace Go.Proofs.YtonleohlplkglaaGreatDoor
open Go Go.RowKit

theorem mixed : Tryz.prog.follows .mixedOrders = true := by kernel_rfl

set_option maxHeartbeats 1600000 in
theorem ref02_quo {A A' : Option Addr} {n m c c' a b : Nat} {w : World} (h : Words w (.slice A n c) (limbs a)) (h' : Words w (.slice A' m c') (limbs b)) (hb : 0 < b) (hsz : n ≤ 1000000) (hsz' : m ≤ 1000000) :
    Calls Tryz.prog 221 #[.agg #[.bool false, .slice A n c], .agg #[.bool false, .slice A' m c']] w (Ret w fun r w' => ∃ u, r = .agg #[.bool false, u] ∧ Words w' u (limbs (a / b))) := by
  have HD := Lib.hid (fun w1 (hx : Ext w w1) => ref01_DivMod (h.ext hx) (h'.ext hx) hb hsz hsz')
  have HB0 := Lib.hid (boxes3 w false false A A' n m c c')
  clear h h'
  go_enter Tryz.func221, Tryz.ntmps221
  go_wp2_with fail
  refine (HD.out _ (by repeat (first | exact Ext.refl _ | assumption | refine Ext.pdrewN ?_ _ | refine Ext.pdrew ?_ | refine Ext.palloc ?_ _ | refine Ext.pset ?_ (by simp <;> omega) _ | refine Ext.trans ?_ (by assumption)))).mono ?_
  rintro e w1 ⟨v, rfl, ⟨u1, u2, rfl, hu1, hu2⟩, hx1⟩
  obtain ⟨A1, c1, rfl, hl1, hm1⟩ := hu1.form
  obtain ⟨A2, c2, rfl, hl2, hm2⟩ := hu2.form
  have HB1 := Lib.hid (HB0.out.ext hx1)
  have HU1 := Lib.hid hu1
  have hE1 : Ext w w1 := (by repeat (first | exact Ext.refl _ | assumption | refine Ext.pdrewN ?_ _ | refine Ext.pdrew ?_ | refine Ext.palloc ?_ _ | refine Ext.pset ?_ (by simp <;> omega) _ | refine Ext.trans ?_ (by assumption)))
  clear hu1 hu2 HD
  generalize (limbs (a / b)).length = l1 at *
  generalize (limbs (a % b)).length = l2 at *
  have HB2 := Lib.hid ((HB1.out.ext (Ext.alloc w1 (.cells #[.bool false, .slice A1 l1 c1] 36))).ext (Ext.alloc _ (.cells #[.bool false, .slice A2 l2 c2] 36)))
  have HU2 := Lib.hid ((HU1.out.ext (Ext.alloc w1 (.cells #[.bool false, .slice A1 l1 c1] 36))).ext (Ext.alloc _ (.cells #[.bool false, .slice A2 l2 c2] 36)))
  obtain ⟨-, -, ⟨y0, y1, y2, y3, y4, -⟩⟩ := HB2.out
  go_wp2_with fail
  refine bodyPost_ret ?_ rfl ⟨_, rfl, ⟨.slice A1 l1 c1, rfl, ?_⟩, ?_⟩
  · simp [results, Tryz.results221, go_sem, y0, y1]
  · exact HU2.out.put HB2.out.2.2 false _
  · exact ((hE1.palloc _).palloc _ |>.pset (by simp <;> omega) _).pset (by simp <;> omega) _

set_option maxHeartbeats 1600000 in
theorem ref02_FromInt (n : Nat) (hn : n < 4294967296) (w : World) :
    Calls Tryz.prog 74 #[.int .i64 (n : Int)] w (Ret w fun r w' => ∃ u1 u2, r = .agg #[.bool false, u1, .bool false, u2] ∧ Words w' u1 (limbs n) ∧ Words w' u2 (limbs 1)) := by
  go_enter Tryz.func74, Tryz.ntmps74
  go_wp2_with fail
  refine (ref01_FromInt n hn _).mono ?_
  rintro e w1 ⟨v, rfl, ⟨u1, rfl, hu1⟩, hx1⟩
  obtain ⟨A1, c1, rfl, hl1, hm1⟩ := hu1.form
  have HU1 := Lib.hid hu1
  clear hu1
  go_wp2_with fail
  refine (ref01_FromInt 1 (by omega) _).mono ?_
  rintro e w2 ⟨v, rfl, ⟨u2, rfl, hu2⟩, hx2⟩
  obtain ⟨A2, c2, rfl, hl2, hm2⟩ := hu2.form
  have HU2 := Lib.hid hu2
  clear hu2
  have hx := Ext.trans hx1 hx2
  have HNW : Hid (NoWord w2 w.heap.size) := (NoWord.new w #[.bool false, .slice none 0 0, .bool false, .slice none 0 0] 38 (by simp)).ext (by simp) hx
  have HU1' := Lib.hid (HU1.out.ext hx2)
  have HX : Ext w w2 := (by repeat (first | exact Ext.refl _ | assumption | refine Ext.pdrewN ?_ _ | refine Ext.pdrew ?_ | refine Ext.palloc ?_ _ | refine Ext.pset ?_ (by simp <;> omega) _ | refine Ext.trans ?_ (by assumption)))
  obtain ⟨hc, hf⟩ := bcell hx
  go_wp2_with fail
  refine bodyPost_ret ?_ rfl ⟨_, rfl, ⟨.slice A1 (limbs n).length c1, .slice A2 (limbs 1).length c2, rfl, ?_, ?_⟩, ?_⟩
  · simp [results, Tryz.results74, go_sem, hc]
  · exact (((HU1'.out.box HNW.out _ _).box (HNW.out.set_ _ (by simp)) _ _).box ((HNW.out.set_ _ (by simp)).set_ _ (by simp)) _ _).box (((HNW.out.set_ _ (by simp)).set_ _ (by simp)).set_ _ (by simp)) _ _
  · exact (((HU2.out.box HNW.out _ _).box (HNW.out.set_ _ (by simp)) _ _).box ((HNW.out.set_ _ (by simp)).set_ _ (by simp)) _ _).box (((HNW.out.set_ _ (by simp)).set_ _ (by simp)).set_ _ (by simp)) _ _
  · exact (((HX.pset (by simp <;> omega) _).pset (by simp <;> omega) _).pset (by simp <;> omega) _).pset (by simp <;> omega) _

end Go.Proofs.YtonleohlplkglaaGreatDoor
