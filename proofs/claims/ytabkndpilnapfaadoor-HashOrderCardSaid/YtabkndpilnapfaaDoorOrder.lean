/- The order of sums and of their texts. Plain. -/
import Derived.Test.YtabkndpilnapfaaDoorLess
import Derived.Test.YtabkndpilnapfaaDoorHex
namespace Go.Proofs.YtabkndpilnapfaaDoor

theorem lessB_eq : ∀ a b : List UInt8, lessB a b = Op.bytesLess a b
  | [], [] => rfl
  | [], _ :: _ => rfl
  | _ :: _, [] => rfl
  | a :: x, b :: y => by
    have ih := lessB_eq x y
    unfold lessB at ih ⊢
    rw [Op.bytesLess, Lib.compareBytes, ← ih]
    by_cases h1 : a < b
    · simp [h1]
    · by_cases h2 : b < a
      · have h3 : a ≠ b := by rintro rfl; exact h1 h2
        simp [h1, h2, h3]
      · have h3 : a = b := UInt8.le_antisymm (UInt8.not_lt.1 h2) (UInt8.not_lt.1 h1)
        simp [h3]

theorem bytesLess_lex : ∀ (x y : List UInt8), Op.bytesLess x y = decide (x < y)
  | [], [] => by simp [Op.bytesLess]
  | _ :: _, [] => by simp [Op.bytesLess]
  | [], _ :: _ => by simp [Op.bytesLess]
  | a :: x, b :: y => by
    rw [Op.bytesLess, bytesLess_lex x y]
    simp only [List.cons_lt_cons_iff]
    by_cases h1 : a < b <;> by_cases h2 : a = b <;> by_cases h3 : x < y <;> simp [h1, h2, h3]

theorem lessB_decide (a b : List UInt8) : lessB a b = decide (a < b) := by rw [lessB_eq, bytesLess_lex]

theorem less_total (a b : List UInt8) : (lessB a b || lessB b a || a == b) = true := by
  rw [lessB_decide, lessB_decide]
  rcases Std.lt_trichotomy a b with h | h | h
  · simp [h]
  · simp [h]
  · simp [h]

theorem less_trans (a b c : List UInt8) : (!lessB a b || !lessB b c || lessB a c) = true := by
  rw [lessB_decide, lessB_decide, lessB_decide]
  by_cases h1 : a < b
  · by_cases h2 : b < c
    · simp [h1, h2, List.lt_trans h1 h2]
    · simp [h2]
  · simp [h1]

theorem hex_eq (a b : List UInt8) : (Sha.hex a == Sha.hex b) = (a == b) := by
  rw [Bool.eq_iff_iff, beq_iff_eq, beq_iff_eq]
  constructor
  · intro h
    have h1 := Sha.unhex_hex a
    rw [h, Sha.unhex_hex b] at h1
    exact (Option.some.inj h1).symm
  · rintro rfl; rfl

theorem digit_lt : ∀ m n, m < 16 → n < 16 → (decide (Sha.digit m < Sha.digit n) = decide (m < n) ∧ (Sha.digit m == Sha.digit n) = (m == n)) := by
  have : ∀ m, m < 16 → ∀ n, n < 16 → (decide (Sha.digit m < Sha.digit n) = decide (m < n) ∧ (Sha.digit m == Sha.digit n) = (m == n)) := by decide
  exact fun m n hm hn => this m hm n hn

theorem hex_less : ∀ a b : List UInt8, Op.bytesLess (Sha.hex a) (Sha.hex b) = Op.bytesLess a b
  | [], [] => rfl
  | [], _ :: _ => rfl
  | _ :: _, [] => rfl
  | x :: a, y :: b => by
    have ih := hex_less a b
    have e : ∀ (x : UInt8) (a : List UInt8), Sha.hex (x :: a) = Sha.digit (x.toNat / 16) :: Sha.digit (x.toNat % 16) :: Sha.hex a := fun _ _ => rfl
    have hx := x.toNat_lt
    have hy := y.toNat_lt
    obtain ⟨d1, d2⟩ := digit_lt (x.toNat / 16) (y.toNat / 16) (by omega) (by omega)
    obtain ⟨d3, d4⟩ := digit_lt (x.toNat % 16) (y.toNat % 16) (by omega) (by omega)
    rw [e, e, Op.bytesLess, Op.bytesLess, Op.bytesLess, ih, d1, d2, d3, d4]
    have hlt : decide (x < y) = decide (x.toNat < y.toNat) := by congr 1
    have heq : (x == y) = (x.toNat == y.toNat) := by
      rw [Bool.eq_iff_iff, beq_iff_eq, beq_iff_eq]; exact UInt8.toNat_inj.symm
    rw [hlt, heq]
    cases Op.bytesLess a b
    all_goals
      rw [Bool.eq_iff_iff]
      simp only [Bool.or_eq_true, Bool.and_eq_true, decide_eq_true_eq, beq_iff_eq]
      simp
      omega

theorem less_hex (a b : List UInt8) : Op.bytesLess (Sha.hex a) (Sha.hex b) = lessB a b := by rw [hex_less, lessB_eq]

end Go.Proofs.YtabkndpilnapfaaDoor
