/- Arithmetic of references (a place and a count in one int64), and the contracts of ref.Of and Ref.Place. -/
import Derived.Test.YtacmeafpieoaaaaProg
import Derived.WalkKit
import Derived.Lib.Hide
namespace Go.Proofs.Ytacmeafpieoaaaa
open Go.RowKit

/-- The place that a reference names. -/
def placeOf (r : Int) : Int := r % 1099511627776 - 1
/-- The reference of a place and a count. -/
def refOf (p c : Int) : Int := (c % 8388608) * 1099511627776 + (p + 1) % 1099511627776

theorem ofInt64_toNat (r : Int) : ((BitVec.ofInt 64 r).toNat : Int) = r % 18446744073709551616 := by
  rw [BitVec.toNat_ofInt]; omega
theorem wrap64_small (x : Int) (h0 : 0 ≤ x) (h1 : x < 9223372036854775808) : IntKind.i64.wrap x = x := by
  simp only [IntKind.wrap_i64]; omega

theorem and_i64_mask40 (r : Int) : bits .and .i64 r 1099511627775 = r % 1099511627776 := by
  show IntKind.i64.wrap ((BitVec.ofInt 64 r &&& BitVec.ofInt 64 1099511627775).toNat : Int) = _
  have h2 : (BitVec.ofInt 64 1099511627775).toNat = 2 ^ 40 - 1 := by decide
  rw [BitVec.toNat_and, h2, Nat.and_two_pow_sub_one_eq_mod, Int.natCast_emod, ofInt64_toNat]
  have e : ((2 ^ 40 : Nat) : Int) = 1099511627776 := by decide
  rw [e, wrap64_small _ (by omega) (by omega)]
  omega
theorem and_u32_mask23 (c : Int) : bits .and .u32 c 8388607 = c % 8388608 := by
  show IntKind.u32.wrap ((BitVec.ofInt 32 c &&& BitVec.ofInt 32 8388607).toNat : Int) = _
  have h2 : (BitVec.ofInt 32 8388607).toNat = 2 ^ 23 - 1 := by decide
  rw [BitVec.toNat_and, h2, Nat.and_two_pow_sub_one_eq_mod, Int.natCast_emod, BitVec.toNat_ofInt]
  have e : ((2 ^ 23 : Nat) : Int) = 8388608 := by decide
  rw [e]
  simp only [IntKind.wrap_u32]
  omega
theorem or_i64_apart (a b : Int) (ha0 : 0 ≤ a) (ha : a < 8388608) (hb0 : 0 ≤ b) (hb : b < 1099511627776) : bits .or .i64 (a * 1099511627776) b = a * 1099511627776 + b := by
  obtain ⟨a, rfl⟩ := Int.eq_ofNat_of_zero_le ha0
  obtain ⟨b, rfl⟩ := Int.eq_ofNat_of_zero_le hb0
  show IntKind.i64.wrap ((BitVec.ofInt 64 (a * 1099511627776 : Int) ||| BitVec.ofInt 64 (b : Int)).toNat : Int) = _
  have h1 : (BitVec.ofInt 64 (a * 1099511627776 : Int)).toNat = 2 ^ 40 * a := by
    have := ofInt64_toNat (a * 1099511627776 : Int); omega
  have h2 : (BitVec.ofInt 64 (b : Int)).toNat = b := by
    have := ofInt64_toNat (b : Int); omega
  rw [BitVec.toNat_or, h1, h2, ← Nat.two_pow_add_eq_or_of_lt (by omega : b < 2 ^ 40)]
  rw [wrap64_small _ (by omega) (by omega)]
  omega

theorem place_any (r : Int) (w : World) : Calls Try.prog 144 #[.int .i64 r] w fun e w' => e = .returned (.int .i64 (placeOf r)) ∧ w' = w := by
  go_enter Try.func144, Try.ntmps144
  go_wp2
  go_ret
  refine ⟨?_, rfl⟩
  simp [and_i64_mask40, placeOf, wrap64]
  omega
theorem of_any (p c : Int) (hp : -1 ≤ p) (hp' : p < 1099511627775) (w : World) : Calls Try.prog 77 #[.int .i64 p, .int .u32 c] w fun e w' => e = .returned (.int .i64 (refOf p c)) ∧ w' = w := by
  go_enter Try.func77, Try.ntmps77
  go_wp2
  go_ret
  refine ⟨?_, rfl⟩
  have h2 : wrap64 (c % 8388608) = c % 8388608 := by unfold wrap64; omega
  have h3 : wrap64 (c % 8388608 * 1099511627776) = c % 8388608 * 1099511627776 := by unfold wrap64; omega
  simp [and_i64_mask40, and_u32_mask23, h2, h3, or_i64_apart (c % 8388608) ((p + 1) % 1099511627776) (by omega) (by omega) (by omega) (by omega), refOf]

end Go.Proofs.Ytacmeafpieoaaaa
