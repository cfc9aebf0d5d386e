/- Numbers as bits: plain laws. -/
import Derived.Test.YtghiionknnpajaaGreatDoorP4
set_option linter.unusedVariables false
set_option linter.unusedSimpArgs false
namespace Go.Ab

def andNotV (k : IntKind) (a b : Int) : Int := k.wrap (BitVec.ofInt k.bits a &&& ~~~BitVec.ofInt k.bits b).toNat
@[go_sem] theorem bin_andNot (k : IntKind) (a b : Int) : binV .andNot (.int k a) (.int k b) = some (.int k (andNotV k a b)) := by simp [binV, binInt, andNotV]

/-- The 63 lower bits. -/
def low63 (n : Int) : Nat := (n % 18446744073709551616).toNat % 9223372036854775808

theorem and63 (n : Int) : (BitVec.ofInt 64 n &&& ~~~BitVec.ofInt 64 9223372036854775808).toNat = low63 n := by
  rw [show (~~~BitVec.ofInt 64 9223372036854775808) = BitVec.ofNat 64 9223372036854775807 by decide]
  rw [BitVec.toNat_and, BitVec.toNat_ofInt, show (BitVec.ofNat 64 9223372036854775807).toNat = 2 ^ 63 - 1 by decide, Nat.and_two_pow_sub_one_eq_mod]
  rfl
theorem u64_wrap (n : Int) : IntKind.u64.wrap n = n % 18446744073709551616 := rfl
theorem size_u (n : Int) : andNotV .u64 (IntKind.u64.wrap n) 9223372036854775808 = low63 n := by
  show IntKind.u64.wrap (BitVec.ofInt 64 (IntKind.u64.wrap n) &&& ~~~BitVec.ofInt 64 9223372036854775808).toNat = low63 n
  rw [and63, u64_wrap, u64_wrap]
  unfold low63
  omega
theorem nan_u {n : Int} (h1 : -9223372036854775808 ≤ n) (h2 : n < 9223372036854775808) : (IntKind.u64.wrap n == 9221120237041090560) = (n == 9221120237041090560) := by
  rw [u64_wrap, Bool.eq_iff_iff]
  simp only [beq_iff_eq]
  omega

theorem and1 (x : Nat) (h : x < 18446744073709551616) : (x &&& 18446744073709551614) = x / 2 * 2 := by
  have h2 : (x &&& 18446744073709551614) / 2 = x / 2 := by
    rw [Nat.and_div_two, show 18446744073709551614 / 2 = 2 ^ 63 - 1 by decide, Nat.and_two_pow_sub_one_eq_mod]
    omega
  have h3 : (x &&& 18446744073709551614) % 2 = 0 := by
    have : (x &&& 18446744073709551614) % 2 ^ 1 = (x % 2 ^ 1) &&& (18446744073709551614 % 2 ^ 1) := Nat.and_mod_two_pow
    rw [show (18446744073709551614 % 2 ^ 1) = 0 from rfl, Nat.and_zero] at this
    exact this
  omega
theorem bool_i {n : Int} (h1 : -9223372036854775808 ≤ n) (h2 : n < 9223372036854775808) : (andNotV .i64 n 1 == 0) = (n == 0 || n == 1) := by
  show (IntKind.i64.wrap (BitVec.ofInt 64 n &&& ~~~BitVec.ofInt 64 1).toNat == 0) = _
  rw [show (~~~BitVec.ofInt 64 1) = BitVec.ofNat 64 18446744073709551614 by decide]
  rw [BitVec.toNat_and, BitVec.toNat_ofInt, show (BitVec.ofNat 64 18446744073709551614).toNat = 18446744073709551614 by decide]
  have hx : (n % ((2 ^ 64 : Nat) : Int)).toNat < 18446744073709551616 := by omega
  rw [and1 _ hx]
  have hw : IntKind.i64.wrap ((((n % ((2 ^ 64 : Nat) : Int)).toNat / 2 * 2 : Nat) : Int)) = 0 ↔ ((n % ((2 ^ 64 : Nat) : Int)).toNat / 2 * 2) = 0 := by
    simp only [IntKind.wrap, IntKind.signed, IntKind.bits, Bool.true_and]
    split <;> (rename_i hh; simp at hh; omega)
  rw [Bool.eq_iff_iff, beq_iff_eq, hw]
  simp
  omega

def fR (n : Int) : Bool := decide ((low63 n : Int) ≤ 9218868437227405312) || n == 9221120237041090560
end Go.Ab
