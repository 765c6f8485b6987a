/-
  Plain facts on numbers and bytes for the wire layer: a number's bytes, and what bytes read as. No program in sight.
-/
namespace Wire

/-- The bytes of a number. -/
def num (n : Nat) : List UInt8 :=
  if h : n < 128 then [UInt8.ofNat n] else UInt8.ofNat (n % 128 + 128) :: num (n / 128)
termination_by n
decreasing_by omega

/-- The number that stands for one that may be below 0. -/
def zig (n : Int) : Nat := if 0 ≤ n then (2 * n).toNat else (2 * (-1 - n) + 1).toNat

theorem num_pos (n : Nat) : 1 ≤ (num n).length := by
  rw [num.eq_def]; split <;> simp

theorem num_le (k : Nat) : ∀ n, n < 128 ^ (k + 1) → (num n).length ≤ k + 1 := by
  induction k with
  | zero => intro n h; rw [num.eq_def, dif_pos (by simpa using h)]; simp
  | succ k ih =>
    intro n h
    rw [num.eq_def]; split
    · simp
    · have := ih (n / 128) (by rw [Nat.pow_succ] at h; omega)
      simp; omega

theorem num_length (n : Nat) (h : n < 18446744073709551616) : (num n).length ≤ 10 :=
  num_le 9 n (Nat.lt_of_lt_of_le h (by decide))

/-- What bytes read as, from the k-th byte of a number on, of which 'v' was read: the number, how many bytes, the error. -/
def dec : Nat → Nat → List UInt8 → Nat × Nat × Nat
  | _, _, [] => (0, 0, 20)
  | k, v, c :: r =>
    if (k = 9 ∧ 1 < c.toNat) ∨ (0 < k ∧ c.toNat = 0) then (0, 0, 21)
    else if c.toNat < 128 then (v + c.toNat % 128 * 128 ^ k, k + 1, 0)
    else dec (k + 1) (v + c.toNat % 128 * 128 ^ k) r

theorem dec_stop {k v : Nat} {c : UInt8} {r : List UInt8} (h : (k = 9 ∧ 1 < c.toNat) ∨ (0 < k ∧ c.toNat = 0)) : dec k v (c :: r) = (0, 0, 21) := by
  rw [dec, if_pos h]
theorem dec_last {k v : Nat} {c : UInt8} {r : List UInt8} (h : ¬ ((k = 9 ∧ 1 < c.toNat) ∨ (0 < k ∧ c.toNat = 0))) (h2 : c.toNat < 128) :
    dec k v (c :: r) = (v + c.toNat % 128 * 128 ^ k, k + 1, 0) := by
  rw [dec, if_neg h, if_pos h2]
theorem dec_more {k v : Nat} {c : UInt8} {r : List UInt8} (h : ¬ ((k = 9 ∧ 1 < c.toNat) ∨ (0 < k ∧ c.toNat = 0))) (h2 : ¬ c.toNat < 128) :
    dec k v (c :: r) = dec (k + 1) (v + c.toNat % 128 * 128 ^ k) r := by
  rw [dec, if_neg h, if_neg h2]

/-- An error bears no number; and no more is read than is there. -/
theorem dec_facts (l : List UInt8) : ∀ k v, (dec k v l).2.1 ≤ k + l.length ∧ ((dec k v l).2.2 ≠ 0 → (dec k v l).1 = 0 ∧ (dec k v l).2.1 = 0) := by
  induction l with
  | nil => intro k v; simp [dec]
  | cons c r ih =>
    intro k v
    rw [dec]
    split
    · simp
    · split
      · simp
      · have := ih (k + 1) (v + c.toNat % 128 * 128 ^ k)
        refine ⟨?_, this.2⟩
        simp only [List.length_cons]; omega

theorem dec_len (l : List UInt8) : (dec 0 0 l).2.1 ≤ l.length := by have := (dec_facts l 0 0).1; omega

theorem dec_lt (l : List UInt8) : ∀ k v, (k < 10 ∨ l = []) → v < 128 ^ k → (dec k v l).1 < 18446744073709551616 := by
  induction l with
  | nil => intro k v _ _; simp [dec]
  | cons c r ih =>
    intro k v hk hv
    have hk : k < 10 := by simpa using hk
    have hs : v + c.toNat % 128 * 128 ^ k < 128 ^ (k + 1) := by
      have h1 : c.toNat % 128 ≤ 127 := by omega
      have := Nat.mul_le_mul_right (128 ^ k) h1
      rw [Nat.pow_succ]; omega
    rw [dec]
    split
    · simp
    · rename_i hns
      split
      · rename_i hc
        show v + c.toNat % 128 * 128 ^ k < _
        by_cases h9 : k = 9
        · subst h9
          have h1 : c.toNat % 128 ≤ 1 := by omega
          have := Nat.mul_le_mul_right (128 ^ 9) h1
          have e9 : 128 ^ 9 = 9223372036854775808 := by decide
          rw [e9] at hv this ⊢; omega
        · have h8 : 128 ^ (k + 1) ≤ 128 ^ 9 := Nat.pow_le_pow_right (by decide) (by omega)
          exact Nat.lt_of_lt_of_le hs (Nat.le_trans h8 (by decide))
      · refine ih (k + 1) _ ?_ hs
        by_cases h9 : k = 9
        · omega
        · left; omega

theorem dec_u64 (l : List UInt8) : (dec 0 0 l).1 < 18446744073709551616 := dec_lt l 0 0 (.inl (by decide)) (by decide)

/-- A number read: it, what is left, the error. -/
def rdNum (l : List UInt8) (e : Nat) : Nat × List UInt8 × Nat :=
  if e ≠ 0 then (0, l, e) else if (dec 0 0 l).2.2 ≠ 0 then (0, l, (dec 0 0 l).2.2) else ((dec 0 0 l).1, l.drop (dec 0 0 l).2.1, 0)

/-- What the text's reader does at bytes without an error: what is read, how many bytes, the error. -/
def txt (most : Int) (l : List UInt8) : Option (List UInt8) × Nat × Nat :=
  if (dec 0 0 l).2.2 ≠ 0 then (none, 0, (dec 0 0 l).2.2)
  else if most < 0 ∨ most < (dec 0 0 l).1 then (none, 0, 22)
  else if l.length < (dec 0 0 l).2.1 + (dec 0 0 l).1 then (none, 0, 20)
  else (some ((l.drop (dec 0 0 l).2.1).take (dec 0 0 l).1), (dec 0 0 l).2.1 + (dec 0 0 l).1, 0)

/-- A text read: it, what is left, the error. -/
def rdText (most : Int) (l : List UInt8) (e : Nat) : List UInt8 × List UInt8 × Nat :=
  if e ≠ 0 then ([], l, e) else match txt most l with
    | (some t, n, _) => (t, l.drop n, 0)
    | (none, _, er) => ([], l, er)

/-- A sum read: it, what is left, the error. -/
def rdHash (l : List UInt8) (e : Nat) : List UInt8 × List UInt8 × Nat :=
  if e ≠ 0 then (List.replicate 32 0, l, e) else if l.length < 32 then (List.replicate 32 0, l, 20) else (l.take 32, l.drop 32, 0)

/-- A number's sign taken back. -/
def unzig (n : Nat) : Int := if n % 2 = 0 then (n / 2 : Nat) else -1 - (n / 2 : Nat)

theorem rdNum_lt (l : List UInt8) (e : Nat) : (rdNum l e).1 < 18446744073709551616 := by
  unfold rdNum
  split
  · simp
  · split
    · simp
    · exact dec_u64 l

theorem txt_facts (most : Int) (l : List UInt8) : (∀ t, (txt most l).1 = some t → (txt most l).2.2 = 0) ∧ ((txt most l).1 = none → (txt most l).2.2 ≠ 0) := by
  unfold txt
  split
  · simp_all
  · split
    · simp
    · split <;> simp

theorem txt_len (most : Int) (l : List UInt8) : (txt most l).2.1 ≤ l.length := by
  unfold txt
  split
  · simp
  · split
    · simp
    · split
      · simp
      · simp; omega

theorem rdHash_len (l : List UInt8) (e : Nat) : (rdHash l e).1.length = 32 := by
  unfold rdHash
  split
  · simp
  · split
    · simp
    · simp; omega

theorem num_300 : num 300 = [172, 2] := by
  rw [num.eq_def, dif_neg (by decide), num.eq_def, dif_pos (by decide)]; rfl
theorem num_1 : num (zig (-1)) = [1] := by
  rw [num.eq_def, dif_pos (by decide)]; rfl
theorem num_2 : num 2 = [2] := by
  rw [num.eq_def, dif_pos (by decide)]; rfl

theorem num_small (n : Nat) (h : n < 128) : num n = [UInt8.ofNat n] := by rw [num.eq_def, dif_pos h]
theorem num_big (n : Nat) (h : ¬ n < 128) : num n = UInt8.ofNat (n % 128 + 128) :: num (n / 128) := by rw [num.eq_def, dif_neg h]

/-- A greater number has no fewer bytes. -/
theorem num_mono (m : Nat) : ∀ n, n ≤ m → (num n).length ≤ (num m).length := by
  induction m using Nat.strongRecOn with
  | ind m ih =>
    intro n h
    by_cases hm : m < 128
    · rw [num_small m hm, num_small n (by omega)]; simp
    · by_cases hn : n < 128
      · rw [num_small n hn]; exact num_pos m
      · rw [num_big m hm, num_big n hn]
        have := ih (m / 128) (by omega) (n / 128) (by omega)
        simp; omega

theorem num_one (n : Nat) : (num n).length = 1 ↔ n < 128 := by
  constructor
  · intro h
    by_cases hn : n < 128
    · exact hn
    · rw [num_big n hn] at h
      have hp := num_pos (n / 128)
      rw [List.length_cons] at h; omega
  · intro h; rw [num_small n h]; rfl

/-- A number and its opposite, less one, have as many bytes. -/
theorem num_pair (i : Nat) : (num (2 * i)).length = (num (2 * i + 1)).length := by
  by_cases h : 2 * i < 128
  · rw [num_small _ h, num_small _ (by omega)]; rfl
  · rw [num_big (2 * i) h, num_big (2 * i + 1) (by omega)]
    have e : (2 * i + 1) / 128 = 2 * i / 128 := by omega
    rw [List.length_cons, List.length_cons, e]

end Wire
