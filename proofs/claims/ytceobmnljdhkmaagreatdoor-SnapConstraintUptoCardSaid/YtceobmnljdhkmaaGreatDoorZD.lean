/- Constraint returns the specified constraint for every candidate and point: where what is read is of bulk at most 1048576 the statement SnapConstraint returns true, and its arguments read as before. Conditions: the listed package-level variables hold what the program's text lays (the card's tie). -/
import Derived.Test.YtceobmnljdhkmaaGreatDoorYO
import Derived.Test.YtceobmnljdhkmaaGreatDoorYZ
import Derived.Test.YtceobmnljdhkmaaGreatDoorZA
import Derived.Test.YtceobmnljdhkmaaGreatDoorZC
namespace Go.Proofs.YtceobmnljdhkmaaGreatDoor
open Go Go.RowKit
theorem SkAt.lowerB (K' : Nat) {K : Nat} {s : SkI} {v0 v1 v2 v3 v4 v5 : Value} {w : World} (h : SkAt K w v0 v1 v2 v3 v4 v5 s) (hs : SmallS K' s) : SkAt K' w v0 v1 v2 v3 v4 v5 s :=
 ⟨h.points, h.circles, h.segs, h.arcs, h.chains, h.cons.mono fun cs c hc hR => by
  obtain ⟨pv, cv, vv, h1, h2, h3, h4⟩ := hR
  exact ⟨pv, cv, vv, h1, h2, h3, h4.mono fun ds e he hR => ExprR.lower K' K w ds e hR (hs.cons c hc e he)⟩⟩
theorem snap_law : LawU 3 := by
 intro H enc W fuel fuel' cs cs' k d d' p p' h hw h' hw' hB hL
 obtain ⟨v0, v1, v2, v3, v4, v5, s, hcells, hS⟩ := sk_read (enc := enc) (x := (d, p)) h hw
 obtain ⟨rule, a1, a2, a3, a4, A, c, refs, hcells', hr⟩ := cd_read (enc := enc) (x := (d', p')) h' hw'
 obtain rfl : cs = #[v0, v1, v2, v3, v4, v5] := Array.ext' hcells
 obtain rfl : cs' = #[.int .i64 rule, a1, a2, a3, a4, .slice A refs.length c] := Array.ext' hcells'
 have hsm := sk_bulk (x := (d, p)) h hS hB
 have haw := laid_aw hL
 exact law_Snap (K := 1048576) (by omega) (hS.lowerB 1048576 hsm) hsm hr (laid_glk hL) fun w1 hx => law_awake46 (haw.ext hx)
theorem snapConstraintUpto_proved : Rows.SnapConstraintUptoCardSaid := snapUpto_card snap_law
#print axioms snapConstraintUpto_proved
end Go.Proofs.YtceobmnljdhkmaaGreatDoor
