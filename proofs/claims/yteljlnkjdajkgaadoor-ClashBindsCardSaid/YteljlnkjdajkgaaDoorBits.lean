/- Bit operations of the model's numbers, in plain arithmetic. -/
import Derived.Test.YteljlnkjdajkgaaDoorRows
import Derived.Test.YteljlnkjdajkgaaDoorPure
import Derived.WalkKit
namespace Go.Proofs.YteljlnkjdajkgaaDoor
open Go.RowKit

theorem and127_u8 (c : UInt8) : bits .and .u8 (c.toNat : Int) 127 = ((c.toNat % 128 : Nat) : Int) := by
  have h := c.toNat_lt
  have := bits_mask .u8 8 (by decide) wraps_u8 7 (by decide) (c.toNat : Int) (by omega) (by omega)
  simpa using this

/-- What Out.Int writes. -/
theorem zig_u64 (n : Int) (h0 : -9223372036854775808 ≤ n) (h1 : n ≤ 9223372036854775807) :
    bits .xor .u64 (IntKind.u64.wrap (IntKind.u64.wrap n * 2)) (IntKind.u64.wrap (n / 9223372036854775808)) = (Wire.zig n : Int) := by
  unfold Wire.zig
  by_cases hn : 0 ≤ n
  · have e1 : IntKind.u64.wrap (IntKind.u64.wrap n * 2) = ((2 * n).toNat : Int) := by rw [IntKind.wrap_u64, IntKind.wrap_u64]; omega
    have e2 : IntKind.u64.wrap (n / 9223372036854775808) = ((0 : Nat) : Int) := by rw [IntKind.wrap_u64]; omega
    rw [e1, e2, bits_xor_u64_nat _ _ (by omega) (by omega), if_pos hn, Nat.xor_zero]
  · have e1 : IntKind.u64.wrap (IntKind.u64.wrap n * 2) = (((2 * n) % 18446744073709551616).toNat : Int) := by rw [IntKind.wrap_u64, IntKind.wrap_u64]; omega
    have e2 : IntKind.u64.wrap (n / 9223372036854775808) = ((2 ^ 64 - 1 : Nat) : Int) := by rw [IntKind.wrap_u64]; omega
    rw [e1, e2, bits_xor_u64_nat _ _ (by omega) (by omega), if_neg hn]
    have hx := BitVec.toNat_not (x := BitVec.ofNat 64 ((2 * n) % 18446744073709551616).toNat)
    have e3 : ∀ a : Nat, a < 2 ^ 64 → a ^^^ (2 ^ 64 - 1) = 2 ^ 64 - 1 - a := by
      intro a ha
      have hx := BitVec.toNat_not (x := BitVec.ofNat 64 a)
      rw [← BitVec.xor_allOnes, BitVec.toNat_xor, BitVec.toNat_allOnes, BitVec.toNat_ofNat, Nat.mod_eq_of_lt ha] at hx
      exact hx
    rw [e3 _ (by omega)]
    omega

/-- What In.Int makes of a number. -/
theorem unzig_i64 (n : Nat) (h : n < 18446744073709551616) :
    bits .xor .i64 (wrap64 ((n : Int) / 2)) (wrap64 (-wrap64 (bits .and .u64 (n : Int) 1))) = Wire.unzig n := by
  have ha : bits .and .u64 (n : Int) 1 = ((n % 2 : Nat) : Int) := by
    have := bits_and_u64_nat n 1 h (by decide)
    rw [Nat.and_one_is_mod] at this
    exact this
  have e0 : ∀ x : Int, wrap64 x = (x + 9223372036854775808) % 18446744073709551616 - 9223372036854775808 := fun x => by unfold wrap64; rfl
  rw [ha]
  have e1 : wrap64 ((n : Int) / 2) = ((n / 2 : Nat) : Int) := by rw [e0]; omega
  rw [e1]
  have hb : n / 2 < 2 ^ 63 := by omega
  have e3 : ∀ a : Nat, a < 2 ^ 63 → (BitVec.ofInt 64 (a : Int)).toNat = a := by
    intro a ha
    rw [BitVec.ofInt_natCast, BitVec.toNat_ofNat]; exact Nat.mod_eq_of_lt (by omega)
  unfold Wire.unzig
  by_cases h2 : n % 2 = 0
  · have e2 : wrap64 (-wrap64 ((n % 2 : Nat) : Int)) = ((0 : Nat) : Int) := by rw [h2, e0, e0]; omega
    rw [e2, if_pos h2]
    show IntKind.i64.wrap ((BitVec.ofInt 64 ((n / 2 : Nat) : Int) ^^^ BitVec.ofInt 64 ((0 : Nat) : Int)).toNat : Int) = _
    rw [BitVec.toNat_xor, e3 _ hb, e3 0 (by decide), Nat.xor_zero, IntKind.wrap_i64]; omega
  · have e2 : wrap64 (-wrap64 ((n % 2 : Nat) : Int)) = -1 := by rw [show n % 2 = 1 by omega, e0, e0]; omega
    rw [e2, if_neg h2]
    show IntKind.i64.wrap ((BitVec.ofInt 64 ((n / 2 : Nat) : Int) ^^^ BitVec.allOnes 64).toNat : Int) = _
    rw [BitVec.xor_allOnes, BitVec.toNat_not, e3 _ hb, IntKind.wrap_i64]; omega

theorem wrap_u64_lt (n : Nat) (h : n < 18446744073709551616) : IntKind.u64.wrap (n : Int) = n := by
  rw [IntKind.wrap_u64]; omega

/-- A low part and a part above it, by 'or'. -/
theorem or_join (n x i : Nat) (hn : n < 2 ^ i) (hx : x * 2 ^ i < 18446744073709551616) (hn2 : n < 18446744073709551616) :
    bits .or .u64 (n : Int) ((x * 2 ^ i : Nat) : Int) = ((n + x * 2 ^ i : Nat) : Int) := by
  rw [bits_or_u64_nat _ _ hn2 hx, Nat.or_comm, Nat.mul_comm, ← Nat.two_pow_add_eq_or_of_lt hn, Nat.add_comm]

theorem pow128 (k : Nat) : 128 ^ k = 2 ^ (7 * k) := by rw [Nat.pow_mul]

theorem pow128_le (k : Nat) (h : k ≤ 9) : 128 ^ k ≤ 9223372036854775808 :=
  Nat.le_trans (Nat.pow_le_pow_right (by decide) h) (by decide)

/-- One byte more of a number, as the program puts it in. -/
theorem number_step (n k : Nat) (c : UInt8) (hk : k ≤ 9) (hn : n < 128 ^ k) (h9 : k = 9 → c.toNat ≤ 1) :
    bits .or .u64 (n : Int) (IntKind.u64.wrap (IntKind.u64.wrap (bits .and .u8 (c.toNat : Int) 127) * 2 ^ (7 * k))) =
      ((n + c.toNat % 128 * 128 ^ k : Nat) : Int) := by
  have hp := pow128_le k hk
  have hb : c.toNat % 128 * 128 ^ k < 18446744073709551616 := by
    by_cases h : k = 9
    · have := h9 h; subst h
      have : c.toNat % 128 ≤ 1 := by omega
      calc c.toNat % 128 * 128 ^ 9 ≤ 1 * 128 ^ 9 := Nat.mul_le_mul_right _ this
        _ < _ := by decide
    · have h8 : 128 ^ k ≤ 128 ^ 8 := Nat.pow_le_pow_right (by decide) (by omega)
      calc c.toNat % 128 * 128 ^ k ≤ 127 * 128 ^ 8 := Nat.mul_le_mul (by omega) h8
        _ < _ := by decide
  rw [and127_u8, wrap_u64_lt _ (by omega)]
  have e : ((c.toNat % 128 : Nat) : Int) * 2 ^ (7 * k) = ((c.toNat % 128 * 2 ^ (7 * k) : Nat) : Int) := by
    rw [Int.natCast_mul, Int.natCast_pow]; rfl
  rw [pow128] at hb hn hp ⊢
  rw [e, wrap_u64_lt _ hb]
  exact or_join n _ _ hn hb (by omega)

theorem number_step9 (n : Nat) (c : UInt8) (hn : n < 128 ^ 9) (h9 : c.toNat ≤ 1) :
    bits .or .u64 (n : Int) (IntKind.u64.wrap (IntKind.u64.wrap (bits .and .u8 (c.toNat : Int) 127) * 9223372036854775808)) =
      ((n + c.toNat % 128 * 128 ^ 9 : Nat) : Int) := number_step n 9 c (by omega) hn (fun _ => h9)

/-- The same step by sums and products, as the reference has it. -/
theorem ref_step (n k p : Nat) (c : UInt8) (hk : k ≤ 9) (hn : n < 128 ^ k) (h9 : k = 9 → c.toNat ≤ 1) (hp : p = 128 ^ k) :
    IntKind.u64.wrap ((n : Int) + IntKind.u64.wrap ((c.toNat : Int) % 128 * (p : Int))) = ((n + c.toNat % 128 * 128 ^ k : Nat) : Int) := by
  have hpw := pow128_le k hk
  have hb : c.toNat % 128 * 128 ^ k < 9223372036854775809 := by
    by_cases h : k = 9
    · have := h9 h; subst h
      have h1 : c.toNat % 128 ≤ 1 := by omega
      calc c.toNat % 128 * 128 ^ 9 ≤ 1 * 128 ^ 9 := Nat.mul_le_mul_right _ h1
        _ < _ := by decide
    · have h8 : 128 ^ k ≤ 128 ^ 8 := Nat.pow_le_pow_right (by decide) (by omega)
      calc c.toNat % 128 * 128 ^ k ≤ 127 * 128 ^ 8 := Nat.mul_le_mul (by omega) h8
        _ < _ := by decide
  subst hp
  have e : (c.toNat : Int) % 128 * ((128 ^ k : Nat) : Int) = ((c.toNat % 128 * 128 ^ k : Nat) : Int) := by
    rw [Int.natCast_mul, Int.natCast_emod]; rfl
  rw [e, wrap_u64_lt _ (by omega), ← Int.natCast_add, wrap_u64_lt _ (by omega)]

theorem ref_weight (k p : Nat) (hp : k ≤ 9 → p = 128 ^ k) : ∃ q : Nat, IntKind.u64.wrap ((p : Int) * 128) = (q : Int) ∧ (k + 1 ≤ 9 → q = 128 ^ (k + 1)) := by
  refine ⟨p * 128 % 18446744073709551616, by rw [IntKind.wrap_u64]; omega, fun h => ?_⟩
  rw [hp (by omega), ← Nat.pow_succ]
  have := pow128_le (k + 1) h
  exact Nat.mod_eq_of_lt (by omega)

theorem number_lt (n k : Nat) (c : UInt8) (hn : n < 128 ^ k) : n + c.toNat % 128 * 128 ^ k < 128 ^ (k + 1) := by
  have : c.toNat % 128 ≤ 127 := by omega
  have := Nat.mul_le_mul_right (128 ^ k) this
  rw [Nat.pow_succ]; omega

end Go.Proofs.YteljlnkjdajkgaaDoor
