/- The rule of XReg, made easy to use in a walk. -/
import Derived.Test.YtonleohlplkglaaGreatDoorReg
namespace Go.Proofs.YtonleohlplkglaaGreatDoor
open Go Go.RowKit

section
variable {P : Program} {ops : Array Oper} {Q : Exit → Act → World → Prop}

def One (ds : List Deferred) (d : Nat) (w : World) (φ : Value → World → Prop) (δ : Value → Prop) : Exit → Act → World → Prop
  | .normal, a, w' => a.defers = ds ∧ Ext w w' ∧ φ (a.tmps.getD d undef) w' ∧ δ (a.tmps.getD d undef)
  | _, _, _ => False

theorem oper_mono2 {o : Oper} {a : Act} {w : World} {K K' : Act → World → Prop} {Q Q' : Exit → Act → World → Prop} (h : ∀ a w, K a w → K' a w) (hq : ∀ c a w, Q (.panic c) a w → Q' (.panic c) a w) (ho : LetsOut Q → LetsOut Q')
    (hh : o.wp P a w K Q) : o.wp P a w K' Q' := by
  unfold Oper.wp at *
  generalize (execOp a.eval o).run P w = r at *
  cases r with
  | ok n w' =>
    cases n <;> simp only [Oper.upon] at hh ⊢ <;>
      first
        | exact h _ _ hh
        | exact Calls.mono hh (fun e w'' he => by cases e <;> first | exact h _ _ he | exact hq _ _ _ he | exact ho he)
        | exact Rows.mono hh (fun _ _ he => h _ _ he)
  | halt x w' => cases x <;> simp only [Oper.upon] at hh ⊢ <;> first | exact hq _ _ _ hh | exact hh

theorem PreOp.of {k : Nat} {a : Act} {w0 : World} {Φ : Nat → Value → World → Prop} {Δ : Nat → Value → Nat → Value → Prop} {i : Nat} (o : Oper) (d : Nat) (ho : ops[i]? = some o) (hd : o.dst = some d) (hg : o.guard = none)
    (h : ∀ (vs : Nat → Value) (w' : World), Ext w0 w' → (∀ j, (needs ops i).contains j = true → j < k → Φ j (vs j) w') → wpList P ops (One a.defers d w' (Φ i) (fun v => ∀ j u, j ≠ i → Φ j u w' → Δ j u i v)) [o] (fill ops a vs i) w') : PreOp P ops k a w0 Φ Δ i := by
  intro vs w' hx hn o' d' ho' hd'
  rw [ho] at ho'; cases ho'
  rw [hd] at hd'; cases hd'
  have := h vs w' hx (fun j hj => hn j (by simpa using hj))
  unfold wpList at this
  rw [if_pos (by simp [Region.wanted, hg])] at this
  rcases this with h1 | ⟨_, _, _, h1⟩
  · refine oper_mono2 ?_ ?_ ?_ h1
    · exact fun a w h => h
    · exact fun c a w h => h.elim
    · rintro ⟨a, w, h⟩; exact h.elim
  · exact h1.elim

def AllLt (p : Nat → Prop) : Nat → Prop | 0 => True | n + 1 => AllLt p n ∧ p n
theorem AllLt.all {p : Nat → Prop} {k : Nat} (h : AllLt p k) : ∀ i, i < k → p i := by
  induction k with
  | zero => intro i hi; omega
  | succ k ih =>
    intro i hi
    rcases Nat.lt_or_ge i k with h1 | h1
    · exact ih h.1 i h1
    · have : i = k := by omega
      subst this; exact h.2
end

end Go.Proofs.YtonleohlplkglaaGreatDoor
