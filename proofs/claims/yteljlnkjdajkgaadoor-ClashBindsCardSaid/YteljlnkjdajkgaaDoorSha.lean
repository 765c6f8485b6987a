/-
  Plain facts on the sum of bytes: its words, its rounds, its padding. No program in sight.
-/
namespace Sha
set_option linter.unusedVariables false
set_option linter.unusedSimpArgs false

def M : Nat := 4294967296

/-- The constants of the rounds. -/
def K : List Nat := [
  0x428a2f98, 0x71374491, 0xb5c0fbcf, 0xe9b5dba5, 0x3956c25b, 0x59f111f1, 0x923f82a4, 0xab1c5ed5,
  0xd807aa98, 0x12835b01, 0x243185be, 0x550c7dc3, 0x72be5d74, 0x80deb1fe, 0x9bdc06a7, 0xc19bf174,
  0xe49b69c1, 0xefbe4786, 0x0fc19dc6, 0x240ca1cc, 0x2de92c6f, 0x4a7484aa, 0x5cb0a9dc, 0x76f988da,
  0x983e5152, 0xa831c66d, 0xb00327c8, 0xbf597fc7, 0xc6e00bf3, 0xd5a79147, 0x06ca6351, 0x14292967,
  0x27b70a85, 0x2e1b2138, 0x4d2c6dfc, 0x53380d13, 0x650a7354, 0x766a0abb, 0x81c2c92e, 0x92722c85,
  0xa2bfe8a1, 0xa81a664b, 0xc24b8b70, 0xc76c51a3, 0xd192e819, 0xd6990624, 0xf40e3585, 0x106aa070,
  0x19a4c116, 0x1e376c08, 0x2748774c, 0x34b0bcb5, 0x391c0cb3, 0x4ed8aa4a, 0x5b9cca4f, 0x682e6ff3,
  0x748f82ee, 0x78a5636f, 0x84c87814, 0x8cc70208, 0x90befffa, 0xa4506ceb, 0xbef9a3f7, 0xc67178f2]

/-- What a sum begins with. -/
def H0 : List Nat := [0x6a09e667, 0xbb67ae85, 0x3c6ef372, 0xa54ff53a, 0x510e527f, 0x9b05688c, 0x1f83d9ab, 0x5be0cd19]

/-- Turned to the right. -/
def rot (n x : Nat) : Nat := x / 2 ^ n + x % 2 ^ n * 2 ^ (32 - n)

def s0 (x : Nat) : Nat := rot 7 x ^^^ rot 18 x ^^^ x / 8
def s1 (x : Nat) : Nat := rot 17 x ^^^ rot 19 x ^^^ x / 1024
def S0 (x : Nat) : Nat := rot 2 x ^^^ rot 13 x ^^^ rot 22 x
def S1 (x : Nat) : Nat := rot 6 x ^^^ rot 11 x ^^^ rot 25 x
def ch (e f g : Nat) : Nat := g ^^^ (e &&& (f ^^^ g))
def mj (a b c : Nat) : Nat := (a &&& b) ||| (c &&& (a ||| b))

/-- A word of four bytes. -/
def word (l : List UInt8) : Nat := (l.getD 0 0).toNat * 16777216 + (l.getD 1 0).toNat * 65536 + (l.getD 2 0).toNat * 256 + (l.getD 3 0).toNat

/-- The first t of a block's words that are in it. -/
def words (p : List UInt8) (t : Nat) : List Nat := (List.range t).map fun i => word (p.drop (4 * i))

/-- The word behind those that are there. -/
def next (w : List Nat) : Nat := (w.getD (w.length - 16) 0 + w.getD (w.length - 7) 0 + s0 (w.getD (w.length - 15) 0) + s1 (w.getD (w.length - 2) 0)) % M
def grow : Nat → List Nat → List Nat
  | 0, w => w
  | n + 1, w => let v := grow n w; v ++ [next v]

/-- The words of a block's rounds. -/
def sched (p : List UInt8) : List Nat := grow 48 (words p 16)

/-- The eight numbers behind a round. -/
def round (kw : Nat) (v : List Nat) : List Nat :=
  match v with
  | [a, b, c, d, e, f, g, h] =>
    let x := h + S1 e + ch e f g + kw
    [(x + (S0 a + mj a b c)) % M, a, b, c, (d + x) % M, e, f, g]
  | v => v

/-- The first t rounds. -/
def rounds (w : List Nat) (h : List Nat) : Nat → List Nat
  | 0 => h
  | t + 1 => round (K.getD t 0 + w.getD t 0) (rounds w h t)

/-- A block taken. -/
def step (h : List Nat) (p : List UInt8) : List Nat := List.zipWith (fun a b => (a + b) % M) h (rounds (sched p) h 64)

/-- n blocks taken. -/
def run : Nat → List Nat → List UInt8 → List Nat
  | 0, h, _ => h
  | n + 1, h, l => run n (step h (l.take 64)) (l.drop 64)

/-- A number's bytes, the greatest one first. -/
def be (n x : Nat) : List UInt8 := (List.range n).map fun i => UInt8.ofNat (x / 256 ^ (n - 1 - i))

/-- How many 0s are laid. -/
def zeros (n : Nat) : Nat := (119 - n % 64) % 64
def pad (l : List UInt8) : List UInt8 := l ++ [128] ++ List.replicate (zeros l.length) 0 ++ be 8 (8 * l.length)

/-- The sum of bytes. -/
def of (l : List UInt8) : List UInt8 := ((run ((pad l).length / 64) H0 (pad l)).map (be 4)).flatten

set_option maxRecDepth 100000 in
theorem of_abc : of [97, 98, 99] = [0xba, 0x78, 0x16, 0xbf, 0x8f, 0x01, 0xcf, 0xea, 0x41, 0x41, 0x40, 0xde, 0x5d, 0xae, 0x22, 0x23, 0xb0, 0x03, 0x61, 0xa3, 0x96, 0x17, 0x7a, 0x9c, 0xb4, 0x10, 0xff, 0x61, 0xf2, 0x00, 0x15, 0xad] := by decide +kernel

theorem pad_len (l : List UInt8) : (pad l).length % 64 = 0 ∧ l.length + 9 ≤ (pad l).length := by
  unfold pad be zeros
  simp only [List.length_append, List.length_cons, List.length_nil, List.length_replicate, List.length_map, List.length_range]
  omega

theorem words_len (p : List UInt8) (t : Nat) : (words p t).length = t := by simp [words]
theorem grow_len (n : Nat) (w : List Nat) : (grow n w).length = w.length + n := by
  induction n with
  | zero => rfl
  | succ n ih => simp only [grow, List.length_append, List.length_cons, List.length_nil, ih]; omega
theorem sched_len (p : List UInt8) : (sched p).length = 64 := by rw [sched, grow_len, words_len]

theorem grow_take (n m : Nat) (w : List Nat) (h : m ≤ n) : (grow n w).take (w.length + m) = grow m w := by
  induction n with
  | zero => obtain rfl : m = 0 := by omega
            exact List.take_of_length_le (Nat.le_refl _)
  | succ n ih =>
    rcases Nat.lt_or_ge n m with h1 | h1
    · obtain rfl : m = n + 1 := by omega
      exact List.take_of_length_le (by rw [grow_len]; omega)
    · show ((grow n w) ++ [next (grow n w)]).take (w.length + m) = _
      rw [List.take_append_of_le_length (by rw [grow_len]; omega)]
      exact ih h1

theorem word_lt (l : List UInt8) : word l < M := by
  have := (l.getD 0 0).toNat_lt; have := (l.getD 1 0).toNat_lt; have := (l.getD 2 0).toNat_lt; have := (l.getD 3 0).toNat_lt
  unfold word M; omega

theorem words_lt (p : List UInt8) (t : Nat) : ∀ x ∈ words p t, x < M := by
  intro x hx
  obtain ⟨i, _, rfl⟩ := List.mem_map.1 hx
  exact word_lt _

theorem next_lt (w : List Nat) : next w < M := Nat.mod_lt _ (by decide)

theorem grow_lt (n : Nat) (w : List Nat) (h : ∀ x ∈ w, x < M) : ∀ x ∈ grow n w, x < M := by
  induction n with
  | zero => exact h
  | succ n ih =>
    intro x hx
    rcases List.mem_append.1 hx with h1 | h1
    · exact ih x h1
    · obtain rfl := List.mem_singleton.1 h1; exact next_lt _

theorem rot_lt (n x : Nat) (hn : n ≤ 32) (hx : x < M) : rot n x < M := by
  unfold rot M at *
  have h1 : x / 2 ^ n < 2 ^ (32 - n) := by
    rw [Nat.div_lt_iff_lt_mul (Nat.two_pow_pos n), ← Nat.pow_add]
    rw [show 32 - n + n = 32 by omega]; exact hx
  have h2 : x % 2 ^ n < 2 ^ n := Nat.mod_lt _ (Nat.two_pow_pos n)
  have h3 : x % 2 ^ n * 2 ^ (32 - n) ≤ (2 ^ n - 1) * 2 ^ (32 - n) := Nat.mul_le_mul_right _ (by omega)
  have h4 : 2 ^ n * 2 ^ (32 - n) = 4294967296 := by rw [← Nat.pow_add, show n + (32 - n) = 32 by omega]
  rw [Nat.sub_mul, h4, Nat.one_mul] at h3
  have h5 : 2 ^ (32 - n) ≤ 4294967296 := by rw [← h4]; exact Nat.le_mul_of_pos_left _ (Nat.two_pow_pos n)
  omega

/-- A turn, as shifts. -/
theorem rot_shift (n x : Nat) (hn : n ≤ 32) (hx : x < M) : x >>> n ||| (x <<< (32 - n)) % M = rot n x := by
  have h4 : 2 ^ (32 - n) * 2 ^ n = M := by rw [← Nat.pow_add, show 32 - n + n = 32 by omega]; rfl
  have h1 : x / 2 ^ n < 2 ^ (32 - n) := by
    rw [Nat.div_lt_iff_lt_mul (Nat.two_pow_pos n), h4]; exact hx
  unfold rot
  rw [Nat.shiftRight_eq_div_pow, Nat.shiftLeft_eq, ← h4, Nat.mul_comm x, Nat.mul_mod_mul_left, Nat.or_comm, ← Nat.two_pow_add_eq_or_of_lt h1, Nat.add_comm, Nat.mul_comm (x % 2 ^ n)]

theorem ch_ref (e f g : Nat) (he : e < M) (hf : f < M) (hg : g < M) : (e &&& f) ^^^ ((4294967295 - e) &&& g) = ch e f g := by
  apply Nat.eq_of_testBit_eq
  intro i
  unfold ch M at *
  have h1 : (4294967295 - e).testBit i = (decide (i < 32) && !e.testBit i) := by
    have := Nat.testBit_two_pow_sub_succ (x := e) (n := 32) (by simpa using he) i
    rw [← this, show 4294967295 - e = 2 ^ 32 - (e + 1) by rw [show (2 : Nat) ^ 32 = 4294967296 from rfl]; omega]
  have h2 : ¬ i < 32 → g.testBit i = false := fun h => Nat.testBit_lt_two_pow (Nat.lt_of_lt_of_le hg (Nat.pow_le_pow_right (n := 2) (by decide) (by omega : 32 ≤ i)))
  simp only [Nat.testBit_xor, Nat.testBit_and, h1]
  by_cases hi : i < 32
  · simp only [hi, decide_true, Bool.true_and]
    cases e.testBit i <;> cases f.testBit i <;> cases g.testBit i <;> rfl
  · rw [h2 hi]
    simp [hi]

theorem mj_ref (a b c : Nat) : (a &&& b) ^^^ (a &&& c) ^^^ (b &&& c) = mj a b c := by
  apply Nat.eq_of_testBit_eq
  intro i
  unfold mj
  simp only [Nat.testBit_xor, Nat.testBit_and, Nat.testBit_or]
  cases a.testBit i <;> cases b.testBit i <;> cases c.testBit i <;> rfl

end Sha
