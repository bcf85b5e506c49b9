/- Bits: two words of 32 bits put together, and what wraps. -/
import Derived.Laws.BitsAllLaws
import Derived.Laws.BitsLemmas
import Derived.WalkKit
namespace Go.Proofs.YtonleohlplkglaaGreatDoor
open Go

theorem ofInt_u64 (a : Nat) (ha : a < 18446744073709551616) : (BitVec.ofInt 64 (a : Int)).toNat = a := by
  rw [BitVec.ofInt_natCast, BitVec.toNat_ofNat]; exact Nat.mod_eq_of_lt (by omega)
theorem u64_or_nat (a b : Nat) (ha : a < 18446744073709551616) (hb : b < 18446744073709551616) : bits .or .u64 (a : Int) (b : Int) = ((a ||| b : Nat) : Int) := by
  have hx : a ||| b < 2 ^ 64 := Nat.or_lt_two_pow (by omega) (by omega)
  show IntKind.u64.wrap ((BitVec.ofInt 64 (a : Int) ||| BitVec.ofInt 64 (b : Int)).toNat : Int) = _
  rw [BitVec.toNat_or, ofInt_u64 a ha, ofInt_u64 b hb, IntKind.wrap_u64]
  omega
theorem u64_or_hi (a b : Nat) (ha : a < 4294967296) (hb : b < 4294967296) : bits .or .u64 ((a : Int) * 4294967296) (b : Int) = ((b + 4294967296 * a : Nat) : Int) := by
  have h1 : (a : Int) * 4294967296 = ((a * 4294967296 : Nat) : Int) := by omega
  rw [h1, u64_or_nat _ _ (by omega) (by omega)]
  have h2 := Nat.two_pow_add_eq_or_of_lt (i := 32) (b := b) (by omega) a
  have h3 : a * 4294967296 = 2 ^ 32 * a := by omega
  rw [h3, ← h2]
  omega

theorem u64_or_lo (a b : Nat) (ha : a < 4294967296) (hb : b < 4294967296) : bits .or .u64 (b : Int) ((a : Int) * 4294967296) = ((b + 4294967296 * a : Nat) : Int) := by
  have h1 : (a : Int) * 4294967296 = ((a * 4294967296 : Nat) : Int) := by omega
  rw [h1, u64_or_nat _ _ (by omega) (by omega)]
  have h2 := Nat.two_pow_add_eq_or_of_lt (i := 32) (b := b) (by omega) a
  have h3 : a * 4294967296 = 2 ^ 32 * a := by omega
  rw [Nat.or_comm, h3, ← h2]
  omega
theorem div_pow_cast (x s : Nat) : (x : Int) / 2 ^ s % 4294967296 = ((x / 2 ^ s % 4294967296 : Nat) : Int) := by
  rw [Int.natCast_emod, Int.natCast_ediv, Int.natCast_pow]; rfl

end Go.Proofs.YtonleohlplkglaaGreatDoor
