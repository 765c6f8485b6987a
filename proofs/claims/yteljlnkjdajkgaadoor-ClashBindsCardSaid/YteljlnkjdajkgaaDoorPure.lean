/-
  Plain facts on numbers and bytes for the wire layer: a number's bytes, and what bytes read as. No program in sight.
-/
namespace Wire

/-- The bytes of a number. -/
def num (n : Nat) : List UInt8 :=
  if h : n < 128 then [UInt8.ofNat n] else UInt8.ofNat (n % 128 + 128) :: num (n / 128)
termination_by n
decreasing_by omega

/-- The number that stands for one that may be below 0. -/
def zig (n : Int) : Nat := if 0 ≤ n then (2 * n).toNat else (2 * (-1 - n) + 1).toNat

theorem num_pos (n : Nat) : 1 ≤ (num n).length := by
  rw [num.eq_def]; split <;> simp

theorem num_le (k : Nat) : ∀ n, n < 128 ^ (k + 1) → (num n).length ≤ k + 1 := by
  induction k with
  | zero => intro n h; rw [num.eq_def, dif_pos (by simpa using h)]; simp
  | succ k ih =>
    intro n h
    rw [num.eq_def]; split
    · simp
    · have := ih (n / 128) (by rw [Nat.pow_succ] at h; omega)
      simp; omega

theorem num_length (n : Nat) (h : n < 18446744073709551616) : (num n).length ≤ 10 :=
  num_le 9 n (Nat.lt_of_lt_of_le h (by decide))

/-- What bytes read as, from the k-th byte of a number on, of which 'v' was read: the number, how many bytes, the error. -/
def dec : Nat → Nat → List UInt8 → Nat × Nat × Nat
  | _, _, [] => (0, 0, 20)
  | k, v, c :: r =>
    if (k = 9 ∧ 1 < c.toNat) ∨ (0 < k ∧ c.toNat = 0) then (0, 0, 21)
    else if c.toNat < 128 then (v + c.toNat % 128 * 128 ^ k, k + 1, 0)
    else dec (k + 1) (v + c.toNat % 128 * 128 ^ k) r

theorem dec_stop {k v : Nat} {c : UInt8} {r : List UInt8} (h : (k = 9 ∧ 1 < c.toNat) ∨ (0 < k ∧ c.toNat = 0)) : dec k v (c :: r) = (0, 0, 21) := by
  rw [dec, if_pos h]
theorem dec_last {k v : Nat} {c : UInt8} {r : List UInt8} (h : ¬ ((k = 9 ∧ 1 < c.toNat) ∨ (0 < k ∧ c.toNat = 0))) (h2 : c.toNat < 128) :
    dec k v (c :: r) = (v + c.toNat % 128 * 128 ^ k, k + 1, 0) := by
  rw [dec, if_neg h, if_pos h2]
theorem dec_more {k v : Nat} {c : UInt8} {r : List UInt8} (h : ¬ ((k = 9 ∧ 1 < c.toNat) ∨ (0 < k ∧ c.toNat = 0))) (h2 : ¬ c.toNat < 128) :
    dec k v (c :: r) = dec (k + 1) (v + c.toNat % 128 * 128 ^ k) r := by
  rw [dec, if_neg h, if_neg h2]

/-- An error bears no number; and no more is read than is there. -/
theorem dec_facts (l : List UInt8) : ∀ k v, (dec k v l).2.1 ≤ k + l.length ∧ ((dec k v l).2.2 ≠ 0 → (dec k v l).1 = 0 ∧ (dec k v l).2.1 = 0) := by
  induction l with
  | nil => intro k v; simp [dec]
  | cons c r ih =>
    intro k v
    rw [dec]
    split
    · simp
    · split
      · simp
      · have := ih (k + 1) (v + c.toNat % 128 * 128 ^ k)
        refine ⟨?_, this.2⟩
        simp only [List.length_cons]; omega

theorem dec_len (l : List UInt8) : (dec 0 0 l).2.1 ≤ l.length := by have := (dec_facts l 0 0).1; omega

theorem dec_lt (l : List UInt8) : ∀ k v, (k < 10 ∨ l = []) → v < 128 ^ k → (dec k v l).1 < 18446744073709551616 := by
  induction l with
  | nil => intro k v _ _; simp [dec]
  | cons c r ih =>
    intro k v hk hv
    have hk : k < 10 := by simpa using hk
    have hs : v + c.toNat % 128 * 128 ^ k < 128 ^ (k + 1) := by
      have h1 : c.toNat % 128 ≤ 127 := by omega
      have := Nat.mul_le_mul_right (128 ^ k) h1
      rw [Nat.pow_succ]; omega
    rw [dec]
    split
    · simp
    · rename_i hns
      split
      · rename_i hc
        show v + c.toNat % 128 * 128 ^ k < _
        by_cases h9 : k = 9
        · subst h9
          have h1 : c.toNat % 128 ≤ 1 := by omega
          have := Nat.mul_le_mul_right (128 ^ 9) h1
          have e9 : 128 ^ 9 = 9223372036854775808 := by decide
          rw [e9] at hv this ⊢; omega
        · have h8 : 128 ^ (k + 1) ≤ 128 ^ 9 := Nat.pow_le_pow_right (by decide) (by omega)
          exact Nat.lt_of_lt_of_le hs (Nat.le_trans h8 (by decide))
      · refine ih (k + 1) _ ?_ hs
        by_cases h9 : k = 9
        · omega
        · left; omega

theorem dec_u64 (l : List UInt8) : (dec 0 0 l).1 < 18446744073709551616 := dec_lt l 0 0 (.inl (by decide)) (by decide)

/-- A number read: it, what is left, the error. -/
def rdNum (l : List UInt8) (e : Nat) : Nat × List UInt8 × Nat :=
  if e ≠ 0 then (0, l, e) else if (dec 0 0 l).2.2 ≠ 0 then (0, l, (dec 0 0 l).2.2) else ((dec 0 0 l).1, l.drop (dec 0 0 l).2.1, 0)

/-- What the text's reader does at bytes without an error: what is read, how many bytes, the error. -/
def txt (most : Int) (l : List UInt8) : Option (List UInt8) × Nat × Nat :=
  if (dec 0 0 l).2.2 ≠ 0 then (none, 0, (dec 0 0 l).2.2)
  else if most < 0 ∨ most < (dec 0 0 l).1 then (none, 0, 22)
  else if l.length < (dec 0 0 l).2.1 + (dec 0 0 l).1 then (none, 0, 20)
  else (some ((l.drop (dec 0 0 l).2.1).take (dec 0 0 l).1), (dec 0 0 l).2.1 + (dec 0 0 l).1, 0)

/-- A text read: it, what is left, the error. -/
def rdText (most : Int) (l : List UInt8) (e : Nat) : List UInt8 × List UInt8 × Nat :=
  if e ≠ 0 then ([], l, e) else match txt most l with
    | (some t, n, _) => (t, l.drop n, 0)
    | (none, _, er) => ([], l, er)

/-- A sum read: it, what is left, the error. -/
def rdHash (l : List UInt8) (e : Nat) : List UInt8 × List UInt8 × Nat :=
  if e ≠ 0 then (List.replicate 32 0, l, e) else if l.length < 32 then (List.replicate 32 0, l, 20) else (l.take 32, l.drop 32, 0)

/-- A number's sign taken back. -/
def unzig (n : Nat) : Int := if n % 2 = 0 then (n / 2 : Nat) else -1 - (n / 2 : Nat)

theorem rdNum_lt (l : List UInt8) (e : Nat) : (rdNum l e).1 < 18446744073709551616 := by
  unfold rdNum
  split
  · simp
  · split
    · simp
    · exact dec_u64 l

theorem txt_facts (most : Int) (l : List UInt8) : (∀ t, (txt most l).1 = some t → (txt most l).2.2 = 0) ∧ ((txt most l).1 = none → (txt most l).2.2 ≠ 0) := by
  unfold txt
  split
  · simp_all
  · split
    · simp
    · split <;> simp

theorem txt_len (most : Int) (l : List UInt8) : (txt most l).2.1 ≤ l.length := by
  unfold txt
  split
  · simp
  · split
    · simp
    · split
      · simp
      · simp; omega

theorem rdHash_len (l : List UInt8) (e : Nat) : (rdHash l e).1.length = 32 := by
  unfold rdHash
  split
  · simp
  · split
    · simp
    · simp; omega

theorem num_300 : num 300 = [172, 2] := by
  rw [num.eq_def, dif_neg (by decide), num.eq_def, dif_pos (by decide)]; rfl
theorem num_1 : num (zig (-1)) = [1] := by
  rw [num.eq_def, dif_pos (by decide)]; rfl
theorem num_2 : num 2 = [2] := by
  rw [num.eq_def, dif_pos (by decide)]; rfl

theorem num_small (n : Nat) (h : n < 128) : num n = [UInt8.ofNat n] := by rw [num.eq_def, dif_pos h]
theorem num_big (n : Nat) (h : ¬ n < 128) : num n = UInt8.ofNat (n % 128 + 128) :: num (n / 128) := by rw [num.eq_def, dif_neg h]

/-- A greater number has no fewer bytes. -/
theorem num_mono (m : Nat) : ∀ n, n ≤ m → (num n).length ≤ (num m).length := by
  induction m using Nat.strongRecOn with
  | ind m ih =>
    intro n h
    by_cases hm : m < 128
    · rw [num_small m hm, num_small n (by omega)]; simp
    · by_cases hn : n < 128
      · rw [num_small n hn]; exact num_pos m
      · rw [num_big m hm, num_big n hn]
        have := ih (m / 128) (by omega) (n / 128) (by omega)
        simp; omega

theorem num_one (n : Nat) : (num n).length = 1 ↔ n < 128 := by
  constructor
  · intro h
    by_cases hn : n < 128
    · exact hn
    · rw [num_big n hn] at h
      have hp := num_pos (n / 128)
      rw [List.length_cons] at h; omega
  · intro h; rw [num_small n h]; rfl

/-- A number and its opposite, less one, have as many bytes. -/
theorem num_pair (i : Nat) : (num (2 * i)).length = (num (2 * i + 1)).length := by
  by_cases h : 2 * i < 128
  · rw [num_small _ h, num_small _ (by omega)]; rfl
  · rw [num_big (2 * i) h, num_big (2 * i + 1) (by omega)]
    have e : (2 * i + 1) / 128 = 2 * i / 128 := by omega
    rw [List.length_cons, List.length_cons, e]

/-- What was written is read again, whatever stands behind. -/
theorem dec_num_at (n : Nat) : ∀ k v (r : List UInt8), k ≤ 9 → n * 128 ^ k < 18446744073709551616 → (k = 0 ∨ 0 < n) →
    dec k v (num n ++ r) = (v + n * 128 ^ k, k + (num n).length, 0) := by
  induction n using Nat.strongRecOn with
  | ind n ih =>
    intro k v r hk hb h0
    have hk9 : k = 9 → n ≤ 1 := by
      rintro rfl
      have e9 : 128 ^ 9 = 9223372036854775808 := by decide
      rw [e9] at hb; omega
    by_cases hn : n < 128
    · have hc : (UInt8.ofNat n).toNat = n := by rw [UInt8.toNat_ofNat']; omega
      rw [num_small n hn, List.singleton_append, dec_last (by rw [hc]; omega) (by rw [hc]; omega), hc, Nat.mod_eq_of_lt hn]
      rfl
    · have hc : (UInt8.ofNat (n % 128 + 128)).toNat = n % 128 + 128 := by rw [UInt8.toNat_ofNat']; omega
      have hk8 : k ≤ 8 := by
        rcases Nat.lt_or_ge k 9 with h | h
        · omega
        · have := hk9 (by omega); omega
      rw [num_big n hn, List.cons_append, dec_more (by rw [hc]; omega) (by rw [hc]; omega), hc]
      have hm : (n / 128) * 128 ^ (k + 1) ≤ n * 128 ^ k := by
        rw [Nat.pow_succ, Nat.mul_comm (128 ^ k) 128, ← Nat.mul_assoc]
        exact Nat.mul_le_mul_right _ (Nat.div_mul_le_self n 128)
      rw [ih (n / 128) (by omega) (k + 1) _ r (by omega) (by omega) (.inr (by omega))]
      have e1 : (n % 128 + 128) % 128 = n % 128 := by omega
      have e2 : n % 128 * 128 ^ k + n / 128 * 128 ^ (k + 1) = n * 128 ^ k := by
        rw [Nat.pow_succ, Nat.mul_comm (128 ^ k) 128, ← Nat.mul_assoc, ← Nat.add_mul]
        congr 1; omega
      rw [e1, Nat.add_assoc, e2]
      simp only [List.length_cons]
      congr 2; omega

theorem dec_num (n : Nat) (hn : n < 18446744073709551616) (r : List UInt8) : dec 0 0 (num n ++ r) = (n, (num n).length, 0) := by
  have := dec_num_at n 0 0 r (by omega) (by simpa using hn) (.inl rfl)
  simpa using this

/-- Bytes of a number that are cut end too early. -/
theorem dec_cut_at (n : Nat) : ∀ k v j, k ≤ 9 → n * 128 ^ k < 18446744073709551616 → j < (num n).length → dec k v ((num n).take j) = (0, 0, 20) := by
  induction n using Nat.strongRecOn with
  | ind n ih =>
    intro k v j hk hb hj
    cases j with
    | zero => rw [List.take_zero, dec]
    | succ j =>
      by_cases hn : n < 128
      · rw [num_small n hn] at hj; simp at hj
      · have hc : (UInt8.ofNat (n % 128 + 128)).toNat = n % 128 + 128 := by rw [UInt8.toNat_ofNat']; omega
        have hk8 : k ≤ 8 := by
          rcases Nat.lt_or_ge k 9 with h | h
          · omega
          · obtain rfl : k = 9 := by omega
            have e9 : 128 ^ 9 = 9223372036854775808 := by decide
            rw [e9] at hb; omega
        rw [num_big n hn] at hj ⊢
        rw [List.take_succ_cons, dec_more (by rw [hc]; omega) (by rw [hc]; omega)]
        have hm : (n / 128) * 128 ^ (k + 1) ≤ n * 128 ^ k := by
          rw [Nat.pow_succ, Nat.mul_comm (128 ^ k) 128, ← Nat.mul_assoc]
          exact Nat.mul_le_mul_right _ (Nat.div_mul_le_self n 128)
        exact ih (n / 128) (by omega) (k + 1) _ j (by omega) (by omega) (by rw [List.length_cons] at hj; omega)

theorem dec_cut (n : Nat) (hn : n < 18446744073709551616) (j : Nat) (hj : j < (num n).length) : dec 0 0 ((num n).take j) = (0, 0, 20) :=
  dec_cut_at n 0 0 j (by omega) (by simpa using hn) hj

theorem rdNum_num (n : Nat) (hn : n < 18446744073709551616) (r : List UInt8) : rdNum (num n ++ r) 0 = (n, r, 0) := by
  unfold rdNum
  rw [dec_num n hn r]
  simp

theorem rdText_text (most : Int) (s r : List UInt8) (hs : s.length < 18446744073709551616) (hm : (s.length : Int) ≤ most) : rdText most (num s.length ++ (s ++ r)) 0 = (s, r, 0) := by
  unfold rdText txt
  rw [dec_num s.length hs (s ++ r)]
  rw [if_neg (by simp), if_neg (by simp), if_neg (by omega), if_neg (by simp)]
  simp [List.drop_append]

theorem rdText_most (most : Int) (s r : List UInt8) (hs : s.length < 18446744073709551616) (hm : most < s.length) : rdText most (num s.length ++ (s ++ r)) 0 = ([], num s.length ++ (s ++ r), 22) := by
  unfold rdText txt
  rw [dec_num s.length hs (s ++ r)]
  rw [if_neg (by simp), if_neg (by simp), if_pos (by omega)]

/-- What is read of bytes is what these are the bytes of. -/
theorem dec_inv_at (l : List UInt8) : ∀ k v n j, dec k v l = (n, j, 0) → k < j ∧ j - k ≤ l.length ∧ ∃ m, n = v + m * 128 ^ k ∧ l.take (j - k) = num m ∧ (0 < k → 0 < m) := by
  induction l with
  | nil => intro k v n j h; simp [dec] at h
  | cons c r ih =>
    intro k v n j h
    rw [dec] at h
    split at h
    · simp at h
    · rename_i hns
      split at h
      · rename_i hc
        simp only [Prod.mk.injEq, and_true] at h
        obtain ⟨rfl, rfl⟩ := h
        refine ⟨by omega, by simp, c.toNat, ?_, ?_, ?_⟩
        · rw [Nat.mod_eq_of_lt hc]
        · rw [num_small _ hc, show k + 1 - k = 1 by omega, List.take_succ_cons, List.take_zero]
          simp
        · intro hk; omega
      · rename_i hc
        obtain ⟨h1, h2, m, h3, h4, h5⟩ := ih (k + 1) _ n j h
        have hm := h5 (by omega)
        have hb := c.toNat_lt
        refine ⟨by omega, by simp; omega, c.toNat % 128 + 128 * m, ?_, ?_, ?_⟩
        · rw [h3, Nat.add_mul, Nat.pow_succ, Nat.add_assoc]
          congr 2
          rw [Nat.mul_comm (128 ^ k) 128, ← Nat.mul_assoc, Nat.mul_comm m 128]
        · rw [num_big _ (by omega), show j - k = (j - (k + 1)) + 1 by omega, List.take_succ_cons, h4]
          congr 1
          · apply UInt8.toNat_inj.1
            rw [UInt8.toNat_ofNat']; omega
          · congr 1; omega
        · intro _; omega

theorem dec_inv {l : List UInt8} {n j : Nat} (h : dec 0 0 l = (n, j, 0)) : l.take j = num n ∧ j ≤ l.length := by
  obtain ⟨_, h2, m, h3, h4, _⟩ := dec_inv_at l 0 0 n j h
  simp only [Nat.pow_zero, Nat.mul_one, Nat.zero_add] at h3
  subst h3
  exact ⟨by simpa using h4, by simpa using h2⟩

theorem zig_unzig (n : Nat) : zig (unzig n) = n := by
  unfold zig unzig
  split
  · rw [if_pos (by omega)]; omega
  · rw [if_neg (by omega)]; omega

theorem unzig_zig (i : Int) : unzig (zig i) = i := by
  unfold zig unzig
  split
  · rw [if_pos (by omega)]; omega
  · rw [if_neg (by omega)]; omega

theorem unzig_bounds (n : Nat) (h : n < 18446744073709551616) : -9223372036854775808 ≤ unzig n ∧ unzig n ≤ 9223372036854775807 := by
  unfold unzig; split <;> omega

/-- A number that is read to the end. -/
theorem rdNum_end {l : List UInt8} (h1 : (rdNum l 0).2.1 = []) (h2 : (rdNum l 0).2.2 = 0) : num (rdNum l 0).1 = l := by
  unfold rdNum at h1 h2 ⊢
  rw [if_neg (by simp)] at h1 h2 ⊢
  split at h1
  · rename_i he
    rw [if_pos he] at h2
    exact absurd h2 he
  · rename_i he
    rw [if_neg he]
    simp only at h1 ⊢
    obtain ⟨h3, h4⟩ := dec_inv (l := l) (n := (dec 0 0 l).1) (j := (dec 0 0 l).2.1) (Prod.ext rfl (Prod.ext rfl (by simp only; omega)))
    rw [← h3]
    have := List.drop_eq_nil_iff.1 h1
    exact List.take_of_length_le this

theorem txt_some {most : Int} {l t : List UInt8} {n er : Nat} (h : txt most l = (some t, n, er)) :
    (dec 0 0 l).2.2 = 0 ∧ n = (dec 0 0 l).2.1 + (dec 0 0 l).1 ∧ t = (l.drop (dec 0 0 l).2.1).take (dec 0 0 l).1 ∧ (dec 0 0 l).2.1 + (dec 0 0 l).1 ≤ l.length := by
  unfold txt at h
  split at h
  · simp at h
  · split at h
    · simp at h
    · split at h
      · simp at h
      · simp only [Prod.mk.injEq, Option.some.injEq] at h
        exact ⟨by omega, h.2.1.symm, h.1.symm, by omega⟩

theorem rdText_end {most : Int} {l : List UInt8} (h1 : (rdText most l 0).2.1 = []) (h2 : (rdText most l 0).2.2 = 0) : num (rdText most l 0).1.length ++ (rdText most l 0).1 = l := by
  have hf := txt_facts most l
  unfold rdText at h1 h2 ⊢
  rw [if_neg (by simp)] at h1 h2 ⊢
  cases hx : txt most l with
  | mk o r =>
    obtain ⟨n, er⟩ := r
    rw [hx] at h1 h2 hf
    cases o with
    | none => exact absurd h2 (hf.2 rfl)
    | some t =>
      simp only at h1 ⊢
      obtain ⟨he, hn, ht, hle⟩ := txt_some hx
      obtain ⟨h3, h4⟩ := dec_inv (l := l) (n := (dec 0 0 l).1) (j := (dec 0 0 l).2.1) (Prod.ext rfl (Prod.ext rfl he))
      have hd := List.drop_eq_nil_iff.1 h1
      have htl : t = l.drop (dec 0 0 l).2.1 := by
        rw [ht]; exact List.take_of_length_le (by rw [List.length_drop]; omega)
      have hlen : t.length = (dec 0 0 l).1 := by rw [htl, List.length_drop]; omega
      rw [hlen, ← h3, htl]
      exact List.take_append_drop _ _

theorem rdHash_end {l : List UInt8} (h1 : (rdHash l 0).2.1 = []) (h2 : (rdHash l 0).2.2 = 0) : (rdHash l 0).1 = l := by
  unfold rdHash at h1 h2 ⊢
  rw [if_neg (by simp)] at h1 h2 ⊢
  split at h1
  · rename_i h; rw [if_pos h] at h2; simp at h2
  · rename_i h
    rw [if_neg h]
    exact List.take_of_length_le (List.drop_eq_nil_iff.1 h1)

theorem rdText_len (most : Int) (l : List UInt8) (e : Nat) : (rdText most l e).1.length ≤ l.length := by
  unfold rdText
  split
  · simp
  · cases hx : txt most l with
    | mk o r =>
      obtain ⟨n, er⟩ := r
      cases o with
      | none => simp
      | some t =>
        obtain ⟨he, hn, ht, hle⟩ := txt_some hx
        simp only [ht, List.length_take, List.length_drop]; omega

theorem num_inj {a b : Nat} (ha : a < 18446744073709551616) (hb : b < 18446744073709551616) (h : num a = num b) : a = b := by
  have h1 := dec_num a ha []
  have h2 := dec_num b hb []
  rw [h, h2] at h1
  exact (congrArg (fun x : Nat × Nat × Nat => x.1) h1).symm

theorem text_inj {a b : List UInt8} (ha : a.length < 18446744073709551616) (hb : b.length < 18446744073709551616) (h : num a.length ++ a = num b.length ++ b) : a = b := by
  have h1 := dec_num a.length ha a
  have h2 := dec_num b.length hb b
  rw [h, h2] at h1
  simp only [Prod.mk.injEq, and_true] at h1
  have h3 := congrArg (List.drop (num a.length).length) h
  rw [List.drop_left, ← h1.2, List.drop_left] at h3
  exact h3

theorem zig_lt (i : Int) (h0 : -9223372036854775808 ≤ i) (h1 : i ≤ 9223372036854775807) : zig i < 18446744073709551616 := by
  unfold zig; split <;> omega

theorem zig_inj {a b : Int} (h : zig a = zig b) : a = b := by
  rw [← unzig_zig a, h, unzig_zig]

end Wire
