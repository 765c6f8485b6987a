/- Sha, Sha2, Pure, TreeSpec, ManySpec, ManyRef, Turn, Mine, QuietTail, in one text. -/
import Derived.Test.YtgheacegjgaobaaDoorRows
import Derived.WalkKit
import Derived.WalkSpells
import Derived.WalkLawsBesides
import Derived.Lib.Hide
import Derived.Laws.BitsAllLaws
import Derived.Deep.MidRow
import Derived.Deep.RegionHeldLaw
import Derived.ArgAppend
import Derived.Below
import Derived.Lib.SlFresh
import Derived.Lib.SlBuf
import Derived.Lib.SlParts
import Derived.Laws.Tables
import Derived.Lib.ConvBytes
import Derived.StillTail
import Derived.Deep.Quiet
import Derived.BigQuiet
/-
  Plain facts on the sum of bytes: its words, its rounds, its padding. No program in sight.
-/
namespace Sha
set_option linter.unusedVariables false
set_option linter.unusedSimpArgs false

def M : Nat := 4294967296

/-- The constants of the rounds. -/
def K : List Nat := [
  0x428a2f98, 0x71374491, 0xb5c0fbcf, 0xe9b5dba5, 0x3956c25b, 0x59f111f1, 0x923f82a4, 0xab1c5ed5,
  0xd807aa98, 0x12835b01, 0x243185be, 0x550c7dc3, 0x72be5d74, 0x80deb1fe, 0x9bdc06a7, 0xc19bf174,
  0xe49b69c1, 0xefbe4786, 0x0fc19dc6, 0x240ca1cc, 0x2de92c6f, 0x4a7484aa, 0x5cb0a9dc, 0x76f988da,
  0x983e5152, 0xa831c66d, 0xb00327c8, 0xbf597fc7, 0xc6e00bf3, 0xd5a79147, 0x06ca6351, 0x14292967,
  0x27b70a85, 0x2e1b2138, 0x4d2c6dfc, 0x53380d13, 0x650a7354, 0x766a0abb, 0x81c2c92e, 0x92722c85,
  0xa2bfe8a1, 0xa81a664b, 0xc24b8b70, 0xc76c51a3, 0xd192e819, 0xd6990624, 0xf40e3585, 0x106aa070,
  0x19a4c116, 0x1e376c08, 0x2748774c, 0x34b0bcb5, 0x391c0cb3, 0x4ed8aa4a, 0x5b9cca4f, 0x682e6ff3,
  0x748f82ee, 0x78a5636f, 0x84c87814, 0x8cc70208, 0x90befffa, 0xa4506ceb, 0xbef9a3f7, 0xc67178f2]

/-- What a sum begins with. -/
def H0 : List Nat := [0x6a09e667, 0xbb67ae85, 0x3c6ef372, 0xa54ff53a, 0x510e527f, 0x9b05688c, 0x1f83d9ab, 0x5be0cd19]

/-- Turned to the right. -/
def rot (n x : Nat) : Nat := x / 2 ^ n + x % 2 ^ n * 2 ^ (32 - n)

def s0 (x : Nat) : Nat := rot 7 x ^^^ rot 18 x ^^^ x / 8
def s1 (x : Nat) : Nat := rot 17 x ^^^ rot 19 x ^^^ x / 1024
def S0 (x : Nat) : Nat := rot 2 x ^^^ rot 13 x ^^^ rot 22 x
def S1 (x : Nat) : Nat := rot 6 x ^^^ rot 11 x ^^^ rot 25 x
def ch (e f g : Nat) : Nat := g ^^^ (e &&& (f ^^^ g))
def mj (a b c : Nat) : Nat := (a &&& b) ||| (c &&& (a ||| b))

/-- A word of four bytes. -/
def word (l : List UInt8) : Nat := (l.getD 0 0).toNat * 16777216 + (l.getD 1 0).toNat * 65536 + (l.getD 2 0).toNat * 256 + (l.getD 3 0).toNat

/-- The first t of a block's words that are in it. -/
def words (p : List UInt8) (t : Nat) : List Nat := (List.range t).map fun i => word (p.drop (4 * i))

/-- The word behind those that are there. -/
def next (w : List Nat) : Nat := (w.getD (w.length - 16) 0 + w.getD (w.length - 7) 0 + s0 (w.getD (w.length - 15) 0) + s1 (w.getD (w.length - 2) 0)) % M
def grow : Nat → List Nat → List Nat
  | 0, w => w
  | n + 1, w => let v := grow n w; v ++ [next v]

/-- The words of a block's rounds. -/
def sched (p : List UInt8) : List Nat := grow 48 (words p 16)

/-- The eight numbers behind a round. -/
def round (kw : Nat) (v : List Nat) : List Nat :=
  match v with
  | [a, b, c, d, e, f, g, h] =>
    let x := h + S1 e + ch e f g + kw
    [(x + (S0 a + mj a b c)) % M, a, b, c, (d + x) % M, e, f, g]
  | v => v

/-- The first t rounds. -/
def rounds (w : List Nat) (h : List Nat) : Nat → List Nat
  | 0 => h
  | t + 1 => round (K.getD t 0 + w.getD t 0) (rounds w h t)

/-- A block taken. -/
def step (h : List Nat) (p : List UInt8) : List Nat := List.zipWith (fun a b => (a + b) % M) h (rounds (sched p) h 64)

/-- n blocks taken. -/
def run : Nat → List Nat → List UInt8 → List Nat
  | 0, h, _ => h
  | n + 1, h, l => run n (step h (l.take 64)) (l.drop 64)

/-- A number's bytes, the greatest one first. -/
def be (n x : Nat) : List UInt8 := (List.range n).map fun i => UInt8.ofNat (x / 256 ^ (n - 1 - i))

/-- How many 0s are laid. -/
def zeros (n : Nat) : Nat := (119 - n % 64) % 64
def pad (l : List UInt8) : List UInt8 := l ++ [128] ++ List.replicate (zeros l.length) 0 ++ be 8 (8 * l.length)

/-- The sum of bytes. -/
def of (l : List UInt8) : List UInt8 := ((run ((pad l).length / 64) H0 (pad l)).map (be 4)).flatten

set_option maxRecDepth 100000 in
theorem of_abc : of [97, 98, 99] = [0xba, 0x78, 0x16, 0xbf, 0x8f, 0x01, 0xcf, 0xea, 0x41, 0x41, 0x40, 0xde, 0x5d, 0xae, 0x22, 0x23, 0xb0, 0x03, 0x61, 0xa3, 0x96, 0x17, 0x7a, 0x9c, 0xb4, 0x10, 0xff, 0x61, 0xf2, 0x00, 0x15, 0xad] := by decide +kernel

theorem pad_len (l : List UInt8) : (pad l).length % 64 = 0 ∧ l.length + 9 ≤ (pad l).length := by
  unfold pad be zeros
  simp only [List.length_append, List.length_cons, List.length_nil, List.length_replicate, List.length_map, List.length_range]
  omega

theorem words_len (p : List UInt8) (t : Nat) : (words p t).length = t := by simp [words]
theorem grow_len (n : Nat) (w : List Nat) : (grow n w).length = w.length + n := by
  induction n with
  | zero => rfl
  | succ n ih => simp only [grow, List.length_append, List.length_cons, List.length_nil, ih]; omega
theorem sched_len (p : List UInt8) : (sched p).length = 64 := by rw [sched, grow_len, words_len]

theorem grow_take (n m : Nat) (w : List Nat) (h : m ≤ n) : (grow n w).take (w.length + m) = grow m w := by
  induction n with
  | zero => obtain rfl : m = 0 := by omega
            exact List.take_of_length_le (Nat.le_refl _)
  | succ n ih =>
    rcases Nat.lt_or_ge n m with h1 | h1
    · obtain rfl : m = n + 1 := by omega
      exact List.take_of_length_le (by rw [grow_len]; omega)
    · show ((grow n w) ++ [next (grow n w)]).take (w.length + m) = _
      rw [List.take_append_of_le_length (by rw [grow_len]; omega)]
      exact ih h1

theorem word_lt (l : List UInt8) : word l < M := by
  have := (l.getD 0 0).toNat_lt; have := (l.getD 1 0).toNat_lt; have := (l.getD 2 0).toNat_lt; have := (l.getD 3 0).toNat_lt
  unfold word M; omega

theorem words_lt (p : List UInt8) (t : Nat) : ∀ x ∈ words p t, x < M := by
  intro x hx
  obtain ⟨i, _, rfl⟩ := List.mem_map.1 hx
  exact word_lt _

theorem next_lt (w : List Nat) : next w < M := Nat.mod_lt _ (by decide)

theorem grow_lt (n : Nat) (w : List Nat) (h : ∀ x ∈ w, x < M) : ∀ x ∈ grow n w, x < M := by
  induction n with
  | zero => exact h
  | succ n ih =>
    intro x hx
    rcases List.mem_append.1 hx with h1 | h1
    · exact ih x h1
    · obtain rfl := List.mem_singleton.1 h1; exact next_lt _

theorem rot_lt (n x : Nat) (hn : n ≤ 32) (hx : x < M) : rot n x < M := by
  unfold rot M at *
  have h1 : x / 2 ^ n < 2 ^ (32 - n) := by
    rw [Nat.div_lt_iff_lt_mul (Nat.two_pow_pos n), ← Nat.pow_add]
    rw [show 32 - n + n = 32 by omega]; exact hx
  have h2 : x % 2 ^ n < 2 ^ n := Nat.mod_lt _ (Nat.two_pow_pos n)
  have h3 : x % 2 ^ n * 2 ^ (32 - n) ≤ (2 ^ n - 1) * 2 ^ (32 - n) := Nat.mul_le_mul_right _ (by omega)
  have h4 : 2 ^ n * 2 ^ (32 - n) = 4294967296 := by rw [← Nat.pow_add, show n + (32 - n) = 32 by omega]
  rw [Nat.sub_mul, h4, Nat.one_mul] at h3
  have h5 : 2 ^ (32 - n) ≤ 4294967296 := by rw [← h4]; exact Nat.le_mul_of_pos_left _ (Nat.two_pow_pos n)
  omega

/-- A turn, as shifts. -/
theorem rot_shift (n x : Nat) (hn : n ≤ 32) (hx : x < M) : x >>> n ||| (x <<< (32 - n)) % M = rot n x := by
  have h4 : 2 ^ (32 - n) * 2 ^ n = M := by rw [← Nat.pow_add, show 32 - n + n = 32 by omega]; rfl
  have h1 : x / 2 ^ n < 2 ^ (32 - n) := by
    rw [Nat.div_lt_iff_lt_mul (Nat.two_pow_pos n), h4]; exact hx
  unfold rot
  rw [Nat.shiftRight_eq_div_pow, Nat.shiftLeft_eq, ← h4, Nat.mul_comm x, Nat.mul_mod_mul_left, Nat.or_comm, ← Nat.two_pow_add_eq_or_of_lt h1, Nat.add_comm, Nat.mul_comm (x % 2 ^ n)]

theorem ch_ref (e f g : Nat) (he : e < M) (hf : f < M) (hg : g < M) : (e &&& f) ^^^ ((4294967295 - e) &&& g) = ch e f g := by
  apply Nat.eq_of_testBit_eq
  intro i
  unfold ch M at *
  have h1 : (4294967295 - e).testBit i = (decide (i < 32) && !e.testBit i) := by
    have := Nat.testBit_two_pow_sub_succ (x := e) (n := 32) (by simpa using he) i
    rw [← this, show 4294967295 - e = 2 ^ 32 - (e + 1) by rw [show (2 : Nat) ^ 32 = 4294967296 from rfl]; omega]
  have h2 : ¬ i < 32 → g.testBit i = false := fun h => Nat.testBit_lt_two_pow (Nat.lt_of_lt_of_le hg (Nat.pow_le_pow_right (n := 2) (by decide) (by omega : 32 ≤ i)))
  simp only [Nat.testBit_xor, Nat.testBit_and, h1]
  by_cases hi : i < 32
  · simp only [hi, decide_true, Bool.true_and]
    cases e.testBit i <;> cases f.testBit i <;> cases g.testBit i <;> rfl
  · rw [h2 hi]
    simp [hi]

theorem mj_ref (a b c : Nat) : (a &&& b) ^^^ (a &&& c) ^^^ (b &&& c) = mj a b c := by
  apply Nat.eq_of_testBit_eq
  intro i
  unfold mj
  simp only [Nat.testBit_xor, Nat.testBit_and, Nat.testBit_or]
  cases a.testBit i <;> cases b.testBit i <;> cases c.testBit i <;> rfl

end Sha

/-
  Plain facts on the sum of bytes: block by block, word by word, round by round. No program in sight.
-/
namespace Sha
set_option linter.unusedVariables false
set_option linter.unusedSimpArgs false

/-- j blocks taken. -/
def after : Nat → List Nat → List UInt8 → List Nat
  | 0, h, _ => h
  | j + 1, h, l => step (after j h l) ((l.drop (64 * j)).take 64)

theorem run_after (n : Nat) : ∀ (j : Nat) (h : List Nat) (l : List UInt8), run n (after j h l) (l.drop (64 * j)) = after (j + n) h l := by
  induction n with
  | zero => intro j h l; rfl
  | succ n ih =>
    intro j h l
    show run n (step (after j h l) ((l.drop (64 * j)).take 64)) ((l.drop (64 * j)).drop 64) = _
    rw [List.drop_drop, show 64 * j + 64 = 64 * (j + 1) by omega]
    have := ih (j + 1) h l
    rw [show j + 1 + n = j + (n + 1) by omega] at this
    exact this

theorem run_eq (n : Nat) (h : List Nat) (l : List UInt8) : run n h l = after n h l := by
  have := run_after n 0 h l
  rw [Nat.zero_add] at this
  exact this

theorem list8 {α : Type} (v : List α) (h : v.length = 8) : ∃ a b c d e f g k, v = [a, b, c, d, e, f, g, k] := by
  match v, h with
  | [a, b, c, d, e, f, g, k], _ => exact ⟨a, b, c, d, e, f, g, k, rfl⟩

theorem round_len (kw : Nat) (v : List Nat) (h : v.length = 8) : (round kw v).length = 8 := by
  obtain ⟨a, b, c, d, e, f, g, k, rfl⟩ := list8 v h; rfl
theorem rounds_len (w h : List Nat) (t : Nat) (hl : h.length = 8) : (rounds w h t).length = 8 := by
  induction t with
  | zero => exact hl
  | succ t ih => exact round_len _ _ ih
theorem M_pos : 0 < M := by decide
theorem round_lt (kw : Nat) (v : List Nat) (h : v.length = 8) (hv : ∀ x ∈ v, x < M) : ∀ x ∈ round kw v, x < M := by
  obtain ⟨a, b, c, d, e, f, g, k, rfl⟩ := list8 v h
  simp only [List.mem_cons, List.not_mem_nil, or_false, forall_eq_or_imp, forall_eq] at hv
  intro x hx
  simp only [round, List.mem_cons, List.not_mem_nil, or_false] at hx
  rcases hx with rfl | rfl | rfl | rfl | rfl | rfl | rfl | rfl
  · exact Nat.mod_lt _ M_pos
  · exact hv.1
  · exact hv.2.1
  · exact hv.2.2.1
  · exact Nat.mod_lt _ M_pos
  · exact hv.2.2.2.2.1
  · exact hv.2.2.2.2.2.1
  · exact hv.2.2.2.2.2.2.1
theorem rounds_lt (w h : List Nat) (t : Nat) (hl : h.length = 8) (hh : ∀ x ∈ h, x < M) : ∀ x ∈ rounds w h t, x < M := by
  induction t with
  | zero => exact hh
  | succ t ih => exact round_lt _ _ (rounds_len _ _ _ hl) ih
theorem step_len (h : List Nat) (p : List UInt8) (hl : h.length = 8) : (step h p).length = 8 := by
  unfold step
  rw [List.length_zipWith, hl, rounds_len _ _ _ hl]; rfl
theorem step_lt (h : List Nat) (p : List UInt8) : ∀ x ∈ step h p, x < M := by
  intro x hx
  unfold step at hx
  rw [List.mem_iff_getElem?] at hx
  obtain ⟨i, hi⟩ := hx
  rw [List.getElem?_zipWith] at hi
  split at hi
  · cases hi; exact Nat.mod_lt _ M_pos
  · cases hi
theorem after_len (j : Nat) (h : List Nat) (l : List UInt8) (hl : h.length = 8) : (after j h l).length = 8 := by
  induction j with
  | zero => exact hl
  | succ j ih => exact step_len _ _ ih
theorem after_lt (j : Nat) (h : List Nat) (l : List UInt8) (hh : ∀ x ∈ h, x < M) : ∀ x ∈ after j h l, x < M := by
  cases j with
  | zero => exact hh
  | succ j => exact step_lt _ _

theorem H0_len : H0.length = 8 := rfl
theorem H0_lt : ∀ x ∈ H0, x < M := by decide
theorem K_len : K.length = 64 := rfl
theorem K_lt : ∀ x ∈ K, x < M := by decide

/-- The first t words of a block's rounds. -/
def wAt (p : List UInt8) (t : Nat) : List Nat := if t ≤ 16 then words p t else grow (t - 16) (words p 16)

theorem wAt_len (p : List UInt8) (t : Nat) : (wAt p t).length = t := by
  unfold wAt; split
  · exact words_len _ _
  · rw [grow_len, words_len]; omega
theorem wAt_lt (p : List UInt8) (t : Nat) : ∀ x ∈ wAt p t, x < M := by
  unfold wAt; split
  · exact words_lt _ _
  · exact grow_lt _ _ (words_lt _ _)
theorem wAt_word (p : List UInt8) (t : Nat) (h : t < 16) : wAt p (t + 1) = wAt p t ++ [word (p.drop (4 * t))] := by
  unfold wAt
  rw [if_pos (by omega), if_pos (by omega)]
  unfold words
  rw [List.range_succ, List.map_append]; rfl
theorem wAt_next (p : List UInt8) (t : Nat) (h : 16 ≤ t) : wAt p (t + 1) = wAt p t ++ [next (wAt p t)] := by
  have e : wAt p t = grow (t - 16) (words p 16) := by
    unfold wAt
    split
    · obtain rfl : t = 16 := by omega
      rfl
    · rfl
  rw [e]
  unfold wAt
  rw [if_neg (by omega), show t + 1 - 16 = (t - 16) + 1 by omega]; rfl
theorem wAt_all (p : List UInt8) : wAt p 64 = sched p := rfl

theorem xor3_lt (a b c : Nat) (ha : a < 4294967296) (hb : b < 4294967296) (hc : c < 4294967296) : a ^^^ b ^^^ c < 4294967296 := by
  have h1 : a ^^^ b < 2 ^ 32 := Nat.xor_lt_two_pow ha hb
  exact Nat.xor_lt_two_pow (n := 32) h1 hc
theorem S0_lt (x : Nat) (hx : x < M) : S0 x < M := xor3_lt _ _ _ (rot_lt 2 x (by decide) hx) (rot_lt 13 x (by decide) hx) (rot_lt 22 x (by decide) hx)
theorem S1_lt (x : Nat) (hx : x < M) : S1 x < M := xor3_lt _ _ _ (rot_lt 6 x (by decide) hx) (rot_lt 11 x (by decide) hx) (rot_lt 25 x (by decide) hx)
theorem ch_lt (e f g : Nat) (he : e < M) (hf : f < M) (hg : g < M) : ch e f g < M := by
  have h1 : f ^^^ g < 2 ^ 32 := Nat.xor_lt_two_pow hf hg
  have h2 : e &&& (f ^^^ g) < 2 ^ 32 := Nat.and_lt_two_pow _ h1
  exact Nat.xor_lt_two_pow (n := 32) hg h2
theorem mj_lt (a b c : Nat) (ha : a < M) (hb : b < M) (hc : c < M) : mj a b c < M := by
  have h1 : a &&& b < 2 ^ 32 := Nat.and_lt_two_pow _ hb
  have h2 : a ||| b < 2 ^ 32 := Nat.or_lt_two_pow ha hb
  have h3 : c &&& (a ||| b) < 2 ^ 32 := Nat.and_lt_two_pow _ h2
  exact Nat.or_lt_two_pow (n := 32) h1 h3

/-- The first t sums of two rows, and what is left of the first. -/
def addTo (h v : List Nat) (t : Nat) : List Nat := List.zipWith (fun a b => (a + b) % M) (h.take t) (v.take t) ++ h.drop t
theorem addTo_zero (h v : List Nat) : addTo h v 0 = h := by simp [addTo]
theorem addTo_all (h v : List Nat) (n : Nat) (h1 : h.length = n) (h2 : v.length = n) : addTo h v n = List.zipWith (fun a b => (a + b) % M) h v := by
  subst h1
  unfold addTo
  rw [List.take_length, List.drop_length, ← h2, List.take_length, List.append_nil]
theorem addTo_get (h v : List Nat) (t a b : Nat) (ha : h[t]? = some a) (hb : v[t]? = some b) : (addTo h v t)[t]? = some a ∧ (addTo h v t).set t ((a + b) % M) = addTo h v (t + 1) := by
  obtain ⟨l1, e1⟩ := List.getElem?_eq_some_iff.1 ha
  obtain ⟨l2, e2⟩ := List.getElem?_eq_some_iff.1 hb
  have hz : (List.zipWith (fun a b => (a + b) % M) (h.take t) (v.take t)).length = t := by
    rw [List.length_zipWith, List.length_take, List.length_take]; omega
  have hd : h.drop t = a :: h.drop (t + 1) := by rw [List.drop_eq_getElem_cons l1, e1]
  unfold addTo
  constructor
  · rw [List.getElem?_append_right (by omega), hz, Nat.sub_self, hd]; rfl
  · rw [List.set_append_right _ _ (by omega), hz, Nat.sub_self, hd, List.set_cons_zero]
    rw [List.take_succ_eq_append_getElem l1, List.take_succ_eq_append_getElem l2, e1, e2, List.zipWith_append (by rw [List.length_take, List.length_take]; omega)]
    simp

theorem be_len (n x : Nat) : (be n x).length = n := by simp [be]
theorem flat_len {α : Type} (f : α → List UInt8) (k : Nat) (h : ∀ a, (f a).length = k) : ∀ l : List α, ((l.map f).flatten).length = l.length * k := by
  intro l
  induction l with
  | nil => simp
  | cons a l ih => simp only [List.map_cons, List.flatten_cons, List.length_append, ih, h, List.length_cons]; rw [Nat.add_mul]; omega
theorem of_len (l : List UInt8) : (of l).length = 32 := by
  unfold of
  rw [flat_len (be 4) 4 (fun x => be_len 4 x), run_eq, after_len _ _ _ H0_len]
theorem of_eq (l : List UInt8) : of l = ((after ((pad l).length / 64) H0 (pad l)).map (be 4)).flatten := by unfold of; rw [run_eq]

end Sha

/-
  Plain facts on numbers and bytes for the wire layer: a number's bytes, and what bytes read as. No program in sight.
-/
namespace Wire

/-- The bytes of a number. -/
def num (n : Nat) : List UInt8 :=
  if h : n < 128 then [UInt8.ofNat n] else UInt8.ofNat (n % 128 + 128) :: num (n / 128)
termination_by n
decreasing_by omega

/-- The number that stands for one that may be below 0. -/
def zig (n : Int) : Nat := if 0 ≤ n then (2 * n).toNat else (2 * (-1 - n) + 1).toNat

theorem num_pos (n : Nat) : 1 ≤ (num n).length := by
  rw [num.eq_def]; split <;> simp

theorem num_le (k : Nat) : ∀ n, n < 128 ^ (k + 1) → (num n).length ≤ k + 1 := by
  induction k with
  | zero => intro n h; rw [num.eq_def, dif_pos (by simpa using h)]; simp
  | succ k ih =>
    intro n h
    rw [num.eq_def]; split
    · simp
    · have := ih (n / 128) (by rw [Nat.pow_succ] at h; omega)
      simp; omega

theorem num_length (n : Nat) (h : n < 18446744073709551616) : (num n).length ≤ 10 :=
  num_le 9 n (Nat.lt_of_lt_of_le h (by decide))

/-- What bytes read as, from the k-th byte of a number on, of which 'v' was read: the number, how many bytes, the error. -/
def dec : Nat → Nat → List UInt8 → Nat × Nat × Nat
  | _, _, [] => (0, 0, 20)
  | k, v, c :: r =>
    if (k = 9 ∧ 1 < c.toNat) ∨ (0 < k ∧ c.toNat = 0) then (0, 0, 21)
    else if c.toNat < 128 then (v + c.toNat % 128 * 128 ^ k, k + 1, 0)
    else dec (k + 1) (v + c.toNat % 128 * 128 ^ k) r

theorem dec_stop {k v : Nat} {c : UInt8} {r : List UInt8} (h : (k = 9 ∧ 1 < c.toNat) ∨ (0 < k ∧ c.toNat = 0)) : dec k v (c :: r) = (0, 0, 21) := by
  rw [dec, if_pos h]
theorem dec_last {k v : Nat} {c : UInt8} {r : List UInt8} (h : ¬ ((k = 9 ∧ 1 < c.toNat) ∨ (0 < k ∧ c.toNat = 0))) (h2 : c.toNat < 128) :
    dec k v (c :: r) = (v + c.toNat % 128 * 128 ^ k, k + 1, 0) := by
  rw [dec, if_neg h, if_pos h2]
theorem dec_more {k v : Nat} {c : UInt8} {r : List UInt8} (h : ¬ ((k = 9 ∧ 1 < c.toNat) ∨ (0 < k ∧ c.toNat = 0))) (h2 : ¬ c.toNat < 128) :
    dec k v (c :: r) = dec (k + 1) (v + c.toNat % 128 * 128 ^ k) r := by
  rw [dec, if_neg h, if_neg h2]

/-- An error bears no number; and no more is read than is there. -/
theorem dec_facts (l : List UInt8) : ∀ k v, (dec k v l).2.1 ≤ k + l.length ∧ ((dec k v l).2.2 ≠ 0 → (dec k v l).1 = 0 ∧ (dec k v l).2.1 = 0) := by
  induction l with
  | nil => intro k v; simp [dec]
  | cons c r ih =>
    intro k v
    rw [dec]
    split
    · simp
    · split
      · simp
      · have := ih (k + 1) (v + c.toNat % 128 * 128 ^ k)
        refine ⟨?_, this.2⟩
        simp only [List.length_cons]; omega

theorem dec_len (l : List UInt8) : (dec 0 0 l).2.1 ≤ l.length := by have := (dec_facts l 0 0).1; omega

theorem dec_lt (l : List UInt8) : ∀ k v, (k < 10 ∨ l = []) → v < 128 ^ k → (dec k v l).1 < 18446744073709551616 := by
  induction l with
  | nil => intro k v _ _; simp [dec]
  | cons c r ih =>
    intro k v hk hv
    have hk : k < 10 := by simpa using hk
    have hs : v + c.toNat % 128 * 128 ^ k < 128 ^ (k + 1) := by
      have h1 : c.toNat % 128 ≤ 127 := by omega
      have := Nat.mul_le_mul_right (128 ^ k) h1
      rw [Nat.pow_succ]; omega
    rw [dec]
    split
    · simp
    · rename_i hns
      split
      · rename_i hc
        show v + c.toNat % 128 * 128 ^ k < _
        by_cases h9 : k = 9
        · subst h9
          have h1 : c.toNat % 128 ≤ 1 := by omega
          have := Nat.mul_le_mul_right (128 ^ 9) h1
          have e9 : 128 ^ 9 = 9223372036854775808 := by decide
          rw [e9] at hv this ⊢; omega
        · have h8 : 128 ^ (k + 1) ≤ 128 ^ 9 := Nat.pow_le_pow_right (by decide) (by omega)
          exact Nat.lt_of_lt_of_le hs (Nat.le_trans h8 (by decide))
      · refine ih (k + 1) _ ?_ hs
        by_cases h9 : k = 9
        · omega
        · left; omega

theorem dec_u64 (l : List UInt8) : (dec 0 0 l).1 < 18446744073709551616 := dec_lt l 0 0 (.inl (by decide)) (by decide)

/-- A number read: it, what is left, the error. -/
def rdNum (l : List UInt8) (e : Nat) : Nat × List UInt8 × Nat :=
  if e ≠ 0 then (0, l, e) else if (dec 0 0 l).2.2 ≠ 0 then (0, l, (dec 0 0 l).2.2) else ((dec 0 0 l).1, l.drop (dec 0 0 l).2.1, 0)

/-- What the text's reader does at bytes without an error: what is read, how many bytes, the error. -/
def txt (most : Int) (l : List UInt8) : Option (List UInt8) × Nat × Nat :=
  if (dec 0 0 l).2.2 ≠ 0 then (none, 0, (dec 0 0 l).2.2)
  else if most < 0 ∨ most < (dec 0 0 l).1 then (none, 0, 22)
  else if l.length < (dec 0 0 l).2.1 + (dec 0 0 l).1 then (none, 0, 20)
  else (some ((l.drop (dec 0 0 l).2.1).take (dec 0 0 l).1), (dec 0 0 l).2.1 + (dec 0 0 l).1, 0)

/-- A text read: it, what is left, the error. -/
def rdText (most : Int) (l : List UInt8) (e : Nat) : List UInt8 × List UInt8 × Nat :=
  if e ≠ 0 then ([], l, e) else match txt most l with
    | (some t, n, _) => (t, l.drop n, 0)
    | (none, _, er) => ([], l, er)

/-- A sum read: it, what is left, the error. -/
def rdHash (l : List UInt8) (e : Nat) : List UInt8 × List UInt8 × Nat :=
  if e ≠ 0 then (List.replicate 32 0, l, e) else if l.length < 32 then (List.replicate 32 0, l, 20) else (l.take 32, l.drop 32, 0)

/-- A number's sign taken back. -/
def unzig (n : Nat) : Int := if n % 2 = 0 then (n / 2 : Nat) else -1 - (n / 2 : Nat)

theorem rdNum_lt (l : List UInt8) (e : Nat) : (rdNum l e).1 < 18446744073709551616 := by
  unfold rdNum
  split
  · simp
  · split
    · simp
    · exact dec_u64 l

theorem txt_facts (most : Int) (l : List UInt8) : (∀ t, (txt most l).1 = some t → (txt most l).2.2 = 0) ∧ ((txt most l).1 = none → (txt most l).2.2 ≠ 0) := by
  unfold txt
  split
  · simp_all
  · split
    · simp
    · split <;> simp

theorem txt_len (most : Int) (l : List UInt8) : (txt most l).2.1 ≤ l.length := by
  unfold txt
  split
  · simp
  · split
    · simp
    · split
      · simp
      · simp; omega

theorem rdHash_len (l : List UInt8) (e : Nat) : (rdHash l e).1.length = 32 := by
  unfold rdHash
  split
  · simp
  · split
    · simp
    · simp; omega

theorem num_300 : num 300 = [172, 2] := by
  rw [num.eq_def, dif_neg (by decide), num.eq_def, dif_pos (by decide)]; rfl
theorem num_1 : num (zig (-1)) = [1] := by
  rw [num.eq_def, dif_pos (by decide)]; rfl
theorem num_2 : num 2 = [2] := by
  rw [num.eq_def, dif_pos (by decide)]; rfl

theorem num_small (n : Nat) (h : n < 128) : num n = [UInt8.ofNat n] := by rw [num.eq_def, dif_pos h]
theorem num_big (n : Nat) (h : ¬ n < 128) : num n = UInt8.ofNat (n % 128 + 128) :: num (n / 128) := by rw [num.eq_def, dif_neg h]

/-- A greater number has no fewer bytes. -/
theorem num_mono (m : Nat) : ∀ n, n ≤ m → (num n).length ≤ (num m).length := by
  induction m using Nat.strongRecOn with
  | ind m ih =>
    intro n h
    by_cases hm : m < 128
    · rw [num_small m hm, num_small n (by omega)]; simp
    · by_cases hn : n < 128
      · rw [num_small n hn]; exact num_pos m
      · rw [num_big m hm, num_big n hn]
        have := ih (m / 128) (by omega) (n / 128) (by omega)
        simp; omega

theorem num_one (n : Nat) : (num n).length = 1 ↔ n < 128 := by
  constructor
  · intro h
    by_cases hn : n < 128
    · exact hn
    · rw [num_big n hn] at h
      have hp := num_pos (n / 128)
      rw [List.length_cons] at h; omega
  · intro h; rw [num_small n h]; rfl

/-- A number and its opposite, less one, have as many bytes. -/
theorem num_pair (i : Nat) : (num (2 * i)).length = (num (2 * i + 1)).length := by
  by_cases h : 2 * i < 128
  · rw [num_small _ h, num_small _ (by omega)]; rfl
  · rw [num_big (2 * i) h, num_big (2 * i + 1) (by omega)]
    have e : (2 * i + 1) / 128 = 2 * i / 128 := by omega
    rw [List.length_cons, List.length_cons, e]

/-- What was written is read again, whatever stands behind. -/
theorem dec_num_at (n : Nat) : ∀ k v (r : List UInt8), k ≤ 9 → n * 128 ^ k < 18446744073709551616 → (k = 0 ∨ 0 < n) →
    dec k v (num n ++ r) = (v + n * 128 ^ k, k + (num n).length, 0) := by
  induction n using Nat.strongRecOn with
  | ind n ih =>
    intro k v r hk hb h0
    have hk9 : k = 9 → n ≤ 1 := by
      rintro rfl
      have e9 : 128 ^ 9 = 9223372036854775808 := by decide
      rw [e9] at hb; omega
    by_cases hn : n < 128
    · have hc : (UInt8.ofNat n).toNat = n := by rw [UInt8.toNat_ofNat']; omega
      rw [num_small n hn, List.singleton_append, dec_last (by rw [hc]; omega) (by rw [hc]; omega), hc, Nat.mod_eq_of_lt hn]
      rfl
    · have hc : (UInt8.ofNat (n % 128 + 128)).toNat = n % 128 + 128 := by rw [UInt8.toNat_ofNat']; omega
      have hk8 : k ≤ 8 := by
        rcases Nat.lt_or_ge k 9 with h | h
        · omega
        · have := hk9 (by omega); omega
      rw [num_big n hn, List.cons_append, dec_more (by rw [hc]; omega) (by rw [hc]; omega), hc]
      have hm : (n / 128) * 128 ^ (k + 1) ≤ n * 128 ^ k := by
        rw [Nat.pow_succ, Nat.mul_comm (128 ^ k) 128, ← Nat.mul_assoc]
        exact Nat.mul_le_mul_right _ (Nat.div_mul_le_self n 128)
      rw [ih (n / 128) (by omega) (k + 1) _ r (by omega) (by omega) (.inr (by omega))]
      have e1 : (n % 128 + 128) % 128 = n % 128 := by omega
      have e2 : n % 128 * 128 ^ k + n / 128 * 128 ^ (k + 1) = n * 128 ^ k := by
        rw [Nat.pow_succ, Nat.mul_comm (128 ^ k) 128, ← Nat.mul_assoc, ← Nat.add_mul]
        congr 1; omega
      rw [e1, Nat.add_assoc, e2]
      simp only [List.length_cons]
      congr 2; omega

theorem dec_num (n : Nat) (hn : n < 18446744073709551616) (r : List UInt8) : dec 0 0 (num n ++ r) = (n, (num n).length, 0) := by
  have := dec_num_at n 0 0 r (by omega) (by simpa using hn) (.inl rfl)
  simpa using this

/-- Bytes of a number that are cut end too early. -/
theorem dec_cut_at (n : Nat) : ∀ k v j, k ≤ 9 → n * 128 ^ k < 18446744073709551616 → j < (num n).length → dec k v ((num n).take j) = (0, 0, 20) := by
  induction n using Nat.strongRecOn with
  | ind n ih =>
    intro k v j hk hb hj
    cases j with
    | zero => rw [List.take_zero, dec]
    | succ j =>
      by_cases hn : n < 128
      · rw [num_small n hn] at hj; simp at hj
      · have hc : (UInt8.ofNat (n % 128 + 128)).toNat = n % 128 + 128 := by rw [UInt8.toNat_ofNat']; omega
        have hk8 : k ≤ 8 := by
          rcases Nat.lt_or_ge k 9 with h | h
          · omega
          · obtain rfl : k = 9 := by omega
            have e9 : 128 ^ 9 = 9223372036854775808 := by decide
            rw [e9] at hb; omega
        rw [num_big n hn] at hj ⊢
        rw [List.take_succ_cons, dec_more (by rw [hc]; omega) (by rw [hc]; omega)]
        have hm : (n / 128) * 128 ^ (k + 1) ≤ n * 128 ^ k := by
          rw [Nat.pow_succ, Nat.mul_comm (128 ^ k) 128, ← Nat.mul_assoc]
          exact Nat.mul_le_mul_right _ (Nat.div_mul_le_self n 128)
        exact ih (n / 128) (by omega) (k + 1) _ j (by omega) (by omega) (by rw [List.length_cons] at hj; omega)

theorem dec_cut (n : Nat) (hn : n < 18446744073709551616) (j : Nat) (hj : j < (num n).length) : dec 0 0 ((num n).take j) = (0, 0, 20) :=
  dec_cut_at n 0 0 j (by omega) (by simpa using hn) hj

theorem rdNum_num (n : Nat) (hn : n < 18446744073709551616) (r : List UInt8) : rdNum (num n ++ r) 0 = (n, r, 0) := by
  unfold rdNum
  rw [dec_num n hn r]
  simp

theorem rdText_text (most : Int) (s r : List UInt8) (hs : s.length < 18446744073709551616) (hm : (s.length : Int) ≤ most) : rdText most (num s.length ++ (s ++ r)) 0 = (s, r, 0) := by
  unfold rdText txt
  rw [dec_num s.length hs (s ++ r)]
  rw [if_neg (by simp), if_neg (by simp), if_neg (by omega), if_neg (by simp)]
  simp [List.drop_append]

theorem rdText_most (most : Int) (s r : List UInt8) (hs : s.length < 18446744073709551616) (hm : most < s.length) : rdText most (num s.length ++ (s ++ r)) 0 = ([], num s.length ++ (s ++ r), 22) := by
  unfold rdText txt
  rw [dec_num s.length hs (s ++ r)]
  rw [if_neg (by simp), if_neg (by simp), if_pos (by omega)]

/-- What is read of bytes is what these are the bytes of. -/
theorem dec_inv_at (l : List UInt8) : ∀ k v n j, dec k v l = (n, j, 0) → k < j ∧ j - k ≤ l.length ∧ ∃ m, n = v + m * 128 ^ k ∧ l.take (j - k) = num m ∧ (0 < k → 0 < m) := by
  induction l with
  | nil => intro k v n j h; simp [dec] at h
  | cons c r ih =>
    intro k v n j h
    rw [dec] at h
    split at h
    · simp at h
    · rename_i hns
      split at h
      · rename_i hc
        simp only [Prod.mk.injEq, and_true] at h
        obtain ⟨rfl, rfl⟩ := h
        refine ⟨by omega, by simp, c.toNat, ?_, ?_, ?_⟩
        · rw [Nat.mod_eq_of_lt hc]
        · rw [num_small _ hc, show k + 1 - k = 1 by omega, List.take_succ_cons, List.take_zero]
          simp
        · intro hk; omega
      · rename_i hc
        obtain ⟨h1, h2, m, h3, h4, h5⟩ := ih (k + 1) _ n j h
        have hm := h5 (by omega)
        have hb := c.toNat_lt
        refine ⟨by omega, by simp; omega, c.toNat % 128 + 128 * m, ?_, ?_, ?_⟩
        · rw [h3, Nat.add_mul, Nat.pow_succ, Nat.add_assoc]
          congr 2
          rw [Nat.mul_comm (128 ^ k) 128, ← Nat.mul_assoc, Nat.mul_comm m 128]
        · rw [num_big _ (by omega), show j - k = (j - (k + 1)) + 1 by omega, List.take_succ_cons, h4]
          congr 1
          · apply UInt8.toNat_inj.1
            rw [UInt8.toNat_ofNat']; omega
          · congr 1; omega
        · intro _; omega

theorem dec_inv {l : List UInt8} {n j : Nat} (h : dec 0 0 l = (n, j, 0)) : l.take j = num n ∧ j ≤ l.length := by
  obtain ⟨_, h2, m, h3, h4, _⟩ := dec_inv_at l 0 0 n j h
  simp only [Nat.pow_zero, Nat.mul_one, Nat.zero_add] at h3
  subst h3
  exact ⟨by simpa using h4, by simpa using h2⟩

theorem zig_unzig (n : Nat) : zig (unzig n) = n := by
  unfold zig unzig
  split
  · rw [if_pos (by omega)]; omega
  · rw [if_neg (by omega)]; omega

theorem unzig_zig (i : Int) : unzig (zig i) = i := by
  unfold zig unzig
  split
  · rw [if_pos (by omega)]; omega
  · rw [if_neg (by omega)]; omega

theorem unzig_bounds (n : Nat) (h : n < 18446744073709551616) : -9223372036854775808 ≤ unzig n ∧ unzig n ≤ 9223372036854775807 := by
  unfold unzig; split <;> omega

/-- A number that is read to the end. -/
theorem rdNum_end {l : List UInt8} (h1 : (rdNum l 0).2.1 = []) (h2 : (rdNum l 0).2.2 = 0) : num (rdNum l 0).1 = l := by
  unfold rdNum at h1 h2 ⊢
  rw [if_neg (by simp)] at h1 h2 ⊢
  split at h1
  · rename_i he
    rw [if_pos he] at h2
    exact absurd h2 he
  · rename_i he
    rw [if_neg he]
    simp only at h1 ⊢
    obtain ⟨h3, h4⟩ := dec_inv (l := l) (n := (dec 0 0 l).1) (j := (dec 0 0 l).2.1) (Prod.ext rfl (Prod.ext rfl (by simp only; omega)))
    rw [← h3]
    have := List.drop_eq_nil_iff.1 h1
    exact List.take_of_length_le this

theorem txt_some {most : Int} {l t : List UInt8} {n er : Nat} (h : txt most l = (some t, n, er)) :
    (dec 0 0 l).2.2 = 0 ∧ n = (dec 0 0 l).2.1 + (dec 0 0 l).1 ∧ t = (l.drop (dec 0 0 l).2.1).take (dec 0 0 l).1 ∧ (dec 0 0 l).2.1 + (dec 0 0 l).1 ≤ l.length := by
  unfold txt at h
  split at h
  · simp at h
  · split at h
    · simp at h
    · split at h
      · simp at h
      · simp only [Prod.mk.injEq, Option.some.injEq] at h
        exact ⟨by omega, h.2.1.symm, h.1.symm, by omega⟩

theorem rdText_end {most : Int} {l : List UInt8} (h1 : (rdText most l 0).2.1 = []) (h2 : (rdText most l 0).2.2 = 0) : num (rdText most l 0).1.length ++ (rdText most l 0).1 = l := by
  have hf := txt_facts most l
  unfold rdText at h1 h2 ⊢
  rw [if_neg (by simp)] at h1 h2 ⊢
  cases hx : txt most l with
  | mk o r =>
    obtain ⟨n, er⟩ := r
    rw [hx] at h1 h2 hf
    cases o with
    | none => exact absurd h2 (hf.2 rfl)
    | some t =>
      simp only at h1 ⊢
      obtain ⟨he, hn, ht, hle⟩ := txt_some hx
      obtain ⟨h3, h4⟩ := dec_inv (l := l) (n := (dec 0 0 l).1) (j := (dec 0 0 l).2.1) (Prod.ext rfl (Prod.ext rfl he))
      have hd := List.drop_eq_nil_iff.1 h1
      have htl : t = l.drop (dec 0 0 l).2.1 := by
        rw [ht]; exact List.take_of_length_le (by rw [List.length_drop]; omega)
      have hlen : t.length = (dec 0 0 l).1 := by rw [htl, List.length_drop]; omega
      rw [hlen, ← h3, htl]
      exact List.take_append_drop _ _

theorem rdHash_end {l : List UInt8} (h1 : (rdHash l 0).2.1 = []) (h2 : (rdHash l 0).2.2 = 0) : (rdHash l 0).1 = l := by
  unfold rdHash at h1 h2 ⊢
  rw [if_neg (by simp)] at h1 h2 ⊢
  split at h1
  · rename_i h; rw [if_pos h] at h2; simp at h2
  · rename_i h
    rw [if_neg h]
    exact List.take_of_length_le (List.drop_eq_nil_iff.1 h1)

theorem rdText_len (most : Int) (l : List UInt8) (e : Nat) : (rdText most l e).1.length ≤ l.length := by
  unfold rdText
  split
  · simp
  · cases hx : txt most l with
    | mk o r =>
      obtain ⟨n, er⟩ := r
      cases o with
      | none => simp
      | some t =>
        obtain ⟨he, hn, ht, hle⟩ := txt_some hx
        simp only [ht, List.length_take, List.length_drop]; omega

theorem num_inj {a b : Nat} (ha : a < 18446744073709551616) (hb : b < 18446744073709551616) (h : num a = num b) : a = b := by
  have h1 := dec_num a ha []
  have h2 := dec_num b hb []
  rw [h, h2] at h1
  exact (congrArg (fun x : Nat × Nat × Nat => x.1) h1).symm

theorem text_inj {a b : List UInt8} (ha : a.length < 18446744073709551616) (hb : b.length < 18446744073709551616) (h : num a.length ++ a = num b.length ++ b) : a = b := by
  have h1 := dec_num a.length ha a
  have h2 := dec_num b.length hb b
  rw [h, h2] at h1
  simp only [Prod.mk.injEq, and_true] at h1
  have h3 := congrArg (List.drop (num a.length).length) h
  rw [List.drop_left, ← h1.2, List.drop_left] at h3
  exact h3

theorem zig_lt (i : Int) (h0 : -9223372036854775808 ≤ i) (h1 : i ≤ 9223372036854775807) : zig i < 18446744073709551616 := by
  unfold zig; split <;> omega

theorem zig_inj {a b : Int} (h : zig a = zig b) : a = b := by
  rw [← unzig_zig a, h, unzig_zig]

end Wire

/- What a tree of leaves comes to: plain. -/
namespace Go.Proofs.YtgheacegjgaobaaDoor.Tree
set_option linter.unusedVariables false

/-- How many leaves stand on the left of n. -/
def half (n : Nat) : Nat := if n < 2 then 0 else 2 ^ Nat.log2 (n - 1)

theorem half_of {n i : Nat} (h1 : 2 ^ i < n) (h2 : n ≤ 2 * 2 ^ i) : half n = 2 ^ i := by
  have hp := Nat.two_pow_pos i
  have : Nat.log2 (n - 1) = i := by
    have h0 : n - 1 ≠ 0 := by omega
    have l1 : i ≤ Nat.log2 (n - 1) := (Nat.le_log2 h0).2 (by omega)
    have l2 : Nat.log2 (n - 1) < i + 1 := (Nat.log2_lt h0).2 (by rw [Nat.pow_succ]; omega)
    omega
  unfold half
  rw [if_neg (by omega), this]

theorem half_zero {n : Nat} (h : n < 2) : half n = 0 := by unfold half; rw [if_pos h]

theorem half_spec {n : Nat} (h : 2 ≤ n) : ∃ i, half n = 2 ^ i ∧ 2 ^ i < n ∧ n ≤ 2 * 2 ^ i := by
  have h0 : n - 1 ≠ 0 := by omega
  refine ⟨Nat.log2 (n - 1), by unfold half; rw [if_neg (by omega)], ?_, ?_⟩
  · have := (Nat.le_log2 h0).1 (Nat.le_refl _); omega
  · have := (Nat.log2_lt h0).1 (Nat.lt_succ_self _); rw [Nat.pow_succ] at this; omega

theorem half_pos {n : Nat} (h : 2 ≤ n) : 1 ≤ half n := by
  obtain ⟨i, h1, _⟩ := half_spec h
  rw [h1]; exact Nat.two_pow_pos i
theorem half_lt {n : Nat} (h : 2 ≤ n) : half n < n := by
  obtain ⟨i, h1, h2, _⟩ := half_spec h
  omega
theorem half_ge {n : Nat} (h : 2 ≤ n) : n ≤ 2 * half n := by
  obtain ⟨i, h1, _, h2⟩ := half_spec h
  omega

/-- A leaf's sum, that of two, of none; the root's. -/
def leaf (s : List UInt8) : List UInt8 := Sha.of (0 :: s)
def node (a b : List UInt8) : List UInt8 := Sha.of (1 :: (a ++ b))
def root (n : Nat) (t : List UInt8) : List UInt8 := Sha.of (3 :: (Wire.num n ++ t))

theorem leaf_len (s : List UInt8) : (leaf s).length = 32 := Sha.of_len _
theorem node_len (a b : List UInt8) : (node a b).length = 32 := Sha.of_len _
theorem root_len (n : Nat) (t : List UInt8) : (root n t).length = 32 := Sha.of_len _

/-- The top of leaves. -/
def top (l : List (List UInt8)) : List UInt8 :=
  if h : 2 ≤ l.length then node (top (l.take (half l.length))) (top (l.drop (half l.length)))
  else match l with
    | [] => Sha.of [2]
    | a :: _ => leaf a
termination_by l.length
decreasing_by
  · have := half_lt h; simp only [List.length_take]; omega
  · have := half_pos h; simp only [List.length_drop]; omega

theorem top_nil : top [] = Sha.of [2] := by rw [top.eq_def]; rfl
theorem top_one (a : List UInt8) : top [a] = leaf a := by rw [top.eq_def]; rfl
theorem top_two {l : List (List UInt8)} (h : 2 ≤ l.length) : top l = node (top (l.take (half l.length))) (top (l.drop (half l.length))) := by
  rw [top.eq_def, dif_pos h]
theorem top_len (l : List (List UInt8)) : (top l).length = 32 := by
  by_cases h : 2 ≤ l.length
  · rw [top_two h]; exact node_len _ _
  · match l, h with
    | [], _ => rw [top_nil]; exact Sha.of_len _
    | [a], _ => rw [top_one]; exact leaf_len _
    | _ :: _ :: _, h => exact absurd (by simp) h

/-- The proof of a leaf, from the leaf on up. -/
def prove (l : List (List UInt8)) (at' : Nat) : List (List UInt8) :=
  if h : 2 ≤ l.length then
    if at' < half l.length then prove (l.take (half l.length)) at' ++ [top (l.drop (half l.length))]
    else prove (l.drop (half l.length)) (at' - half l.length) ++ [top (l.take (half l.length))]
  else []
termination_by l.length
decreasing_by
  · have := half_lt h; simp only [List.length_take]; omega
  · have := half_pos h; simp only [List.length_drop]; omega

theorem prove_small {l : List (List UInt8)} (h : ¬ 2 ≤ l.length) (i : Nat) : prove l i = [] := by rw [prove.eq_def, dif_neg h]
theorem prove_left {l : List (List UInt8)} {i : Nat} (h : 2 ≤ l.length) (hi : i < half l.length) : prove l i = prove (l.take (half l.length)) i ++ [top (l.drop (half l.length))] := by
  rw [prove.eq_def, dif_pos h, if_pos hi]
theorem prove_right {l : List (List UInt8)} {i : Nat} (h : 2 ≤ l.length) (hi : ¬ i < half l.length) : prove l i = prove (l.drop (half l.length)) (i - half l.length) ++ [top (l.take (half l.length))] := by
  rw [prove.eq_def, dif_pos h, if_neg hi]

/-- On which side a leaf stands, from the top on down: true is the left one. -/
def sides (n at' : Nat) : List Bool :=
  if h : 2 ≤ n then
    if at' < half n then true :: sides (half n) at' else false :: sides (n - half n) (at' - half n)
  else []
termination_by n
decreasing_by
  · exact half_lt h
  · have := half_pos h; omega

theorem sides_small {n : Nat} (h : ¬ 2 ≤ n) (i : Nat) : sides n i = [] := by rw [sides.eq_def, dif_neg h]
theorem sides_left {n i : Nat} (h : 2 ≤ n) (hi : i < half n) : sides n i = true :: sides (half n) i := by rw [sides.eq_def, dif_pos h, if_pos hi]
theorem sides_right {n i : Nat} (h : 2 ≤ n) (hi : ¬ i < half n) : sides n i = false :: sides (n - half n) (i - half n) := by rw [sides.eq_def, dif_pos h, if_neg hi]

/-- There are no more sides than it takes to double up to n. -/
theorem sides_len : ∀ (d n i : Nat), i < n → n ≤ 2 ^ d → (sides n i).length ≤ d := by
  intro d n
  induction n using Nat.strongRecOn generalizing d with
  | ind n ih =>
    intro i hi hn
    by_cases h : 2 ≤ n
    · obtain ⟨j, h1, h2, h3⟩ := half_spec h
      cases d with
      | zero => simp at hn; omega
      | succ d =>
        have hjd : j ≤ d := by
          apply Nat.le_of_not_lt
          intro hlt
          have := Nat.pow_le_pow_right (n := 2) (by omega) (show d + 1 ≤ j by omega)
          omega
        have hk : half n ≤ 2 ^ d := by rw [h1]; exact Nat.pow_le_pow_right (by omega) hjd
        by_cases hl : i < half n
        · rw [sides_left h hl, List.length_cons]
          have := ih (half n) (half_lt h) d i hl hk
          omega
        · rw [sides_right h hl, List.length_cons]
          have := ih (n - half n) (by have := half_pos h; omega) d (i - half n) (by omega) (by omega)
          omega
    · rw [sides_small h]; simp

/-- One step up: the sum and the side on which it stands. -/
def step (t : List UInt8) (x : Bool × List UInt8) : List UInt8 := if x.1 then node t x.2 else node x.2 t
/-- What a leaf comes to, with a proof of as many sums as there are sides. -/
def climb (t : List UInt8) (sd : List Bool) (p : List (List UInt8)) : List UInt8 := (sd.reverse.zip p).foldl step t

theorem step_len (t : List UInt8) (x : Bool × List UInt8) : (step t x).length = 32 := by unfold step; split <;> exact node_len _ _

theorem climb_len (t : List UInt8) (ht : t.length = 32) (sd : List Bool) (p : List (List UInt8)) : (climb t sd p).length = 32 := by
  unfold climb
  generalize sd.reverse.zip p = z
  induction z generalizing t with
  | nil => exact ht
  | cons x z ih => exact ih _ (step_len _ _)

/-- Is it proved? -/
def check (want : List UInt8) (n i : Nat) (s : List UInt8) (p : List (List UInt8)) : Bool :=
  decide ((sides n i).length = p.length) && (root n (climb (leaf s) (sides n i) p) == want)

end Go.Proofs.YtgheacegjgaobaaDoor.Tree

/- Proofs of many leaves: plain. -/
namespace Go.Proofs.YtgheacegjgaobaaDoor.Many
open Tree
set_option linter.unusedVariables false
set_option linter.unusedSimpArgs false

/-- The places from f on, below t. -/
def inr (A : List Nat) (f t : Nat) : List Nat := A.filter fun a => decide (f ≤ a) && decide (a < t)

theorem mem_inr {A : List Nat} {f t a : Nat} : a ∈ inr A f t ↔ a ∈ A ∧ f ≤ a ∧ a < t := by
  unfold inr; rw [List.mem_filter]; simp

theorem inr_empty (A : List Nat) {f t : Nat} (h : t ≤ f) : inr A f t = [] := by
  apply List.eq_nil_iff_forall_not_mem.2
  intro a ha
  have := mem_inr.1 ha
  omega

/-- Of places that rise, those from f on below t: those below m, and the others. -/
theorem inr_split : ∀ {A : List Nat}, A.Pairwise (· < ·) → ∀ {f m t : Nat}, f ≤ m → m ≤ t → inr A f t = inr A f m ++ inr A m t := by
  intro A
  induction A with
  | nil => intro _ f m t _ _; rfl
  | cons x A ih =>
    intro h f m t h1 h2
    obtain ⟨hx, hA⟩ := List.pairwise_cons.1 h
    have hr := ih hA h1 h2
    unfold inr at hr ⊢
    rw [List.filter_cons, List.filter_cons, List.filter_cons]
    by_cases c1 : f ≤ x ∧ x < m
    · rw [if_pos (by simp; omega), if_pos (by simp; omega), if_neg (by simp; omega), hr]; rfl
    · by_cases c2 : m ≤ x ∧ x < t
      · rw [if_pos (by simp; omega), if_neg (by simp; omega), if_pos (by simp; omega)]
        have hn : A.filter (fun a => decide (f ≤ a) && decide (a < m)) = [] := by
          rw [List.filter_eq_nil_iff]
          intro a ha
          have := hx a ha
          simp; omega
        rw [hn] at hr ⊢
        rw [hr]; rfl
      · rw [if_neg (by simp; omega), if_neg (by simp; omega), if_neg (by simp; omega), hr]

/-- The parts in which nothing is asked for: where each begins, and how many leaves it has. -/
def tops (A : List Nat) (f n : Nat) : List (Nat × Nat) :=
  if inr A f (f + n) = [] then [(f, n)]
  else if h : 2 ≤ n then tops A f (half n) ++ tops A (f + half n) (n - half n) else []
termination_by n
decreasing_by
  · exact half_lt h
  · have := half_pos h; omega

theorem tops_none {A : List Nat} {f n : Nat} (h : inr A f (f + n) = []) : tops A f n = [(f, n)] := by rw [tops.eq_def, if_pos h]
theorem tops_one {A : List Nat} {f n : Nat} (h : inr A f (f + n) ≠ []) (h2 : ¬ 2 ≤ n) : tops A f n = [] := by rw [tops.eq_def, if_neg h, dif_neg h2]
theorem tops_two {A : List Nat} {f n : Nat} (h : inr A f (f + n) ≠ []) (h2 : 2 ≤ n) : tops A f n = tops A f (half n) ++ tops A (f + half n) (n - half n) := by rw [tops.eq_def, if_neg h, dif_pos h2]

/-- What a part comes to: NH of the parts in which nothing is asked for, OH of the leaves that are. -/
def val (A : List Nat) (NH : Nat → Nat → Nat → List UInt8) (OH : Nat → Nat → List UInt8) (i j f n : Nat) : List UInt8 :=
  if inr A f (f + n) = [] then NH i f n
  else if h : 2 ≤ n then node (val A NH OH i j f (half n)) (val A NH OH (i + (tops A f (half n)).length) (j + (inr A f (f + half n)).length) (f + half n) (n - half n))
  else OH j f
termination_by n
decreasing_by
  · exact half_lt h
  · have := half_pos h; omega

theorem val_none {A : List Nat} {NH OH} {i j f n : Nat} (h : inr A f (f + n) = []) : val A NH OH i j f n = NH i f n := by rw [val.eq_def, if_pos h]
theorem val_one {A : List Nat} {NH OH} {i j f n : Nat} (h : inr A f (f + n) ≠ []) (h2 : ¬ 2 ≤ n) : val A NH OH i j f n = OH j f := by rw [val.eq_def, if_neg h, dif_neg h2]
theorem val_two {A : List Nat} {NH OH} {i j f n : Nat} (h : inr A f (f + n) ≠ []) (h2 : 2 ≤ n) : val A NH OH i j f n = node (val A NH OH i j f (half n)) (val A NH OH (i + (tops A f (half n)).length) (j + (inr A f (f + half n)).length) (f + half n) (n - half n)) := by rw [val.eq_def, if_neg h, dif_pos h2]

theorem val_len {A : List Nat} {NH OH} (hN : ∀ i f n, (NH i f n).length = 32) (hO : ∀ j f, (OH j f).length = 32) (i j f n : Nat) : (val A NH OH i j f n).length = 32 := by
  by_cases h : inr A f (f + n) = []
  · rw [val_none h]; exact hN _ _ _
  · by_cases h2 : 2 ≤ n
    · rw [val_two h h2]; exact node_len _ _
    · rw [val_one h h2]; exact hO _ _

/-- The parts stand within, and none is empty. -/
theorem tops_in (A : List Nat) : ∀ (n f : Nat), 1 ≤ n → ∀ p ∈ tops A f n, f ≤ p.1 ∧ p.1 + p.2 ≤ f + n ∧ 1 ≤ p.2 := by
  intro n
  induction n using Nat.strongRecOn with
  | ind n ih =>
    intro f hn p hp
    by_cases h : inr A f (f + n) = []
    · rw [tops_none h] at hp
      obtain rfl := List.mem_singleton.1 hp
      exact ⟨Nat.le_refl _, Nat.le_refl _, hn⟩
    · by_cases h2 : 2 ≤ n
      · have k1 := half_pos h2
        have k2 := half_lt h2
        rw [tops_two h h2] at hp
        rcases List.mem_append.1 hp with hp | hp
        · have := ih _ k2 f k1 p hp; omega
        · have := ih _ (by omega) (f + half n) (by omega) p hp; omega
      · rw [tops_one h h2] at hp; cases hp

/-- What is asked for in a part stands in it. -/
theorem tops_free (A : List Nat) : ∀ (n f : Nat), ∀ p ∈ tops A f n, inr A p.1 (p.1 + p.2) = [] := by
  intro n
  induction n using Nat.strongRecOn with
  | ind n ih =>
    intro f p hp
    by_cases h : inr A f (f + n) = []
    · rw [tops_none h] at hp
      obtain rfl := List.mem_singleton.1 hp
      exact h
    · by_cases h2 : 2 ≤ n
      · have k1 := half_pos h2
        have k2 := half_lt h2
        rw [tops_two h h2] at hp
        rcases List.mem_append.1 hp with hp | hp
        · exact ih _ k2 f p hp
        · exact ih _ (by omega) (f + half n) p hp
      · rw [tops_one h h2] at hp; cases hp

/-- There are no more parts than leaves (one, if there is none). -/
theorem tops_len (A : List Nat) : ∀ (n f : Nat), (tops A f n).length ≤ n + 1 ∧ (1 ≤ n → (tops A f n).length ≤ n) := by
  intro n
  induction n using Nat.strongRecOn with
  | ind n ih =>
    intro f
    by_cases h : inr A f (f + n) = []
    · rw [tops_none h]; simp
    · by_cases h2 : 2 ≤ n
      · have k1 := half_pos h2
        have k2 := half_lt h2
        rw [tops_two h h2, List.length_append]
        have h3 := (ih _ k2 f).2 k1
        have h4 := (ih _ (show n - half n < n by omega) (f + half n)).2 (by omega)
        omega
      · rw [tops_one h h2]; simp

/-- The parts of a part are those of what is asked for in it. -/
theorem inr_inr (A : List Nat) {f t g u : Nat} (h1 : f ≤ g) (h2 : u ≤ t) : inr (inr A f t) g u = inr A g u := by
  unfold inr
  rw [List.filter_filter]
  apply List.filter_congr
  intro a _
  by_cases c : g ≤ a ∧ a < u
  · simp; omega
  · simp; omega

theorem inr_inr2 (A : List Nat) {f t g u : Nat} (h1 : g ≤ f) (h2 : t ≤ u) : inr (inr A f t) g u = inr A f t := by
  unfold inr
  rw [List.filter_filter]
  apply List.filter_congr
  intro a _
  by_cases c : f ≤ a ∧ a < t
  · simp; omega
  · simp; omega

theorem tops_inr (A : List Nat) : ∀ (n f g u : Nat), g ≤ f → f + n ≤ u → tops (inr A g u) f n = tops A f n := by
  intro n
  induction n using Nat.strongRecOn with
  | ind n ih =>
    intro f g u h1 h2
    have hi := inr_inr A (f := g) (t := u) (g := f) (u := f + n) h1 h2
    by_cases h : inr A f (f + n) = []
    · rw [tops_none h, tops_none (by rw [hi]; exact h)]
    · by_cases h2' : 2 ≤ n
      · have k1 := half_pos h2'
        have k2 := half_lt h2'
        rw [tops_two h h2', tops_two (by rw [hi]; exact h) h2', ih _ k2 f g u h1 (by omega), ih _ (by omega) (f + half n) g u (by omega) (by omega)]
      · rw [tops_one h h2', tops_one (by rw [hi]; exact h) h2']

theorem val_inr (A : List Nat) (NH OH) : ∀ (n i j f g u : Nat), g ≤ f → f + n ≤ u → val (inr A g u) NH OH i j f n = val A NH OH i j f n := by
  intro n
  induction n using Nat.strongRecOn with
  | ind n ih =>
    intro i j f g u h1 h2
    have hi := inr_inr A (f := g) (t := u) (g := f) (u := f + n) h1 h2
    by_cases h : inr A f (f + n) = []
    · rw [val_none h, val_none (by rw [hi]; exact h)]
    · by_cases h2' : 2 ≤ n
      · have k1 := half_pos h2'
        have k2 := half_lt h2'
        rw [val_two h h2', val_two (by rw [hi]; exact h) h2', ih _ k2 _ _ f g u h1 (by omega), ih _ (by omega) _ _ (f + half n) g u (by omega) (by omega)]
        rw [tops_inr A _ f g u h1 (by omega), inr_inr A (f := g) (t := u) (g := f) (u := f + half n) h1 (by omega)]
      · rw [val_one h h2', val_one (by rw [hi]; exact h) h2']

/-- Where each part comes to its leaves' top, and each leaf to its own sum, all comes to the top. -/
theorem val_top (A : List Nat) (NH OH) (l : List (List UInt8)) : ∀ (n i j f : Nat), f + n ≤ l.length →
    (∀ t p, (tops A f n)[t]? = some p → NH (i + t) p.1 p.2 = top ((l.drop p.1).take p.2)) →
    (∀ t a, (inr A f (f + n))[t]? = some a → ∃ x, l[a]? = some x ∧ OH (j + t) a = leaf x) → A.Pairwise (· < ·) →
    val A NH OH i j f n = top ((l.drop f).take n) := by
  intro n
  induction n using Nat.strongRecOn with
  | ind n ih =>
    intro i j f hl hN hO hs
    by_cases h : inr A f (f + n) = []
    · rw [val_none h]
      have := hN 0 (f, n) (by rw [tops_none h]; rfl)
      exact this
    · by_cases h2 : 2 ≤ n
      · have k1 := half_pos h2
        have k2 := half_lt h2
        have hsp : inr A f (f + n) = inr A f (f + half n) ++ inr A (f + half n) (f + n) := inr_split hs (by omega) (by omega)
        rw [val_two h h2]
        rw [tops_two h h2] at hN
        rw [hsp] at hO
        rw [ih _ k2 i j f (by omega) (fun t p hp => hN t p (by rw [List.getElem?_append_left (List.getElem?_eq_some_iff.1 hp).1]; exact hp))
          (fun t a ha => hO t a (by rw [List.getElem?_append_left (List.getElem?_eq_some_iff.1 ha).1]; exact ha)) hs]
        rw [ih _ (show n - half n < n by omega) (i + (tops A f (half n)).length) (j + (inr A f (f + half n)).length) (f + half n) (by omega)
          (fun t p hp => by
            have := hN ((tops A f (half n)).length + t) p (by rw [List.getElem?_append_right (by omega), Nat.add_sub_cancel_left]; exact hp)
            rw [← Nat.add_assoc] at this; exact this)
          (fun t a ha => by
            have := hO ((inr A f (f + half n)).length + t) a (by rw [List.getElem?_append_right (by omega), Nat.add_sub_cancel_left]; rw [show f + half n + (n - half n) = f + n by omega] at ha; exact ha)
            rw [← Nat.add_assoc] at this; exact this) hs]
        have hlen : ((l.drop f).take n).length = n := by rw [List.length_take, List.length_drop]; omega
        rw [top_two (l := (l.drop f).take n) (by omega), hlen]
        congr 2
        · rw [List.take_take]; congr 1; omega
        · rw [List.drop_take, List.drop_drop]
      · have hn1 : n = 1 := by
          rcases n with _ | _ | n
          · exact absurd (inr_empty A (by omega)) h
          · rfl
          · omega
        subst hn1
        rw [val_one h h2]
        obtain ⟨a, ha⟩ : ∃ a, (inr A f (f + 1))[0]? = some a := by
          cases hx : inr A f (f + 1) with
          | nil => exact absurd hx h
          | cons a _ => exact ⟨a, rfl⟩
        have hm := mem_inr.1 (List.mem_of_getElem? ha)
        obtain rfl : a = f := by omega
        obtain ⟨x, hx, ho⟩ := hO 0 a ha
        rw [Nat.add_zero] at ho
        rw [ho]
        have : (l.drop a).take 1 = [x] := by
          obtain ⟨h3, h4⟩ := List.getElem?_eq_some_iff.1 hx
          rw [List.drop_eq_getElem_cons h3, h4]; rfl
        rw [this, top_one]

/-- The proof of leaves. -/
def prove (l : List (List UInt8)) (A : List Nat) : List (List UInt8) := (tops A 0 l.length).map fun p => top ((l.drop p.1).take p.2)

theorem prove_len (l : List (List UInt8)) (A : List Nat) : (prove l A).length = (tops A 0 l.length).length := List.length_map ..
theorem prove_32 (l : List (List UInt8)) (A : List Nat) : ∀ p ∈ prove l A, p.length = 32 := by
  intro p hp
  obtain ⟨x, _, rfl⟩ := List.mem_map.1 hp
  exact top_len _

/-- What leaves and a proof come to. -/
def topOf (n : Nat) (A : List Nat) (leaves proof : List (List UInt8)) : List UInt8 :=
  val A (fun i _ _ => (proof[i]?).getD (List.replicate 32 0)) (fun j _ => leaf ((leaves[j]?).getD [])) 0 0 0 n

/-- Is it proved? -/
def check (want : List UInt8) (n : Nat) (A : List Nat) (leaves proof : List (List UInt8)) : Bool :=
  decide (leaves.length = A.length) && (decide (proof.length = (tops A 0 n).length) && (root n (topOf n A leaves proof) == want))

/-- Places that rise, below n. -/
def Rise (n : Nat) (A : List Nat) : Prop := A.Pairwise (· < ·) ∧ ∀ a ∈ A, a < n

theorem inr_all {n : Nat} {A : List Nat} (h : ∀ a ∈ A, a < n) : inr A 0 n = A := by
  unfold inr
  rw [List.filter_eq_self]
  intro a ha
  have := h a ha
  simp; exact this

/-- A proof with other leaves at the places that are asked for. -/
theorem topOf_prove {l m : List (List UInt8)} {A : List Nat} {x : List (List UInt8)} (hr : Rise l.length A) (hm : m.length = l.length) (hx : x.length = A.length)
    (hA : ∀ t a : Nat, A[t]? = some a → m[a]? = x[t]?) (ho : ∀ a : Nat, a ∉ A → m[a]? = l[a]?) : topOf l.length A x (prove l A) = top m := by
  unfold topOf
  have h := val_top A (fun i _ _ => ((prove l A)[i]?).getD (List.replicate 32 0)) (fun j _ => leaf ((x[j]?).getD [])) m l.length 0 0 0 (by omega) ?_ ?_ hr.1
  · rw [h, List.drop_zero, ← hm, List.take_length]
  · intro t p hp
    simp only [Nat.zero_add]
    have : (prove l A)[t]? = some (top ((l.drop p.1).take p.2)) := by unfold prove; rw [List.getElem?_map, hp]; rfl
    rw [this]
    simp only [Option.getD_some]
    congr 1
    apply List.ext_getElem?
    intro k
    rw [List.getElem?_take, List.getElem?_take, List.getElem?_drop, List.getElem?_drop]
    split
    · rename_i hk
      have hf := tops_free A _ _ p (List.mem_of_getElem? hp)
      refine (ho _ fun hm => ?_).symm
      have : p.1 + k ∈ inr A p.1 (p.1 + p.2) := mem_inr.2 ⟨hm, by omega, by omega⟩
      rw [hf] at this; cases this
    · rfl
  · intro t a ha
    rw [Nat.zero_add, inr_all hr.2] at ha
    have h1 := hA t a ha
    have h2 : t < x.length := by rw [hx]; exact (List.getElem?_eq_some_iff.1 ha).1
    refine ⟨x[t], by rw [h1]; exact List.getElem?_eq_getElem h2, ?_⟩
    simp only [Nat.zero_add]
    rw [List.getElem?_eq_getElem h2]; rfl

/-- The leaves at places. -/
def pick (l : List (List UInt8)) (A : List Nat) : List (List UInt8) := A.map fun a => (l[a]?).getD []

theorem check_prove {l : List (List UInt8)} {A : List Nat} (hr : Rise l.length A) : check (root l.length (top l)) l.length A (pick l A) (prove l A) = true := by
  unfold check
  have hp : (pick l A).length = A.length := List.length_map ..
  rw [topOf_prove (m := l) hr rfl hp ?_ (fun _ _ => rfl), decide_eq_true hp, prove_len, decide_eq_true rfl]
  · simp
  · intro t a ha
    have h1 := hr.2 a (List.mem_of_getElem? ha)
    unfold pick
    rw [List.getElem?_map, ha, Option.map_some, List.getElem?_eq_getElem h1]
    rfl

/-- Of one leaf. -/
theorem tops_single (a : Nat) : ∀ (n f : Nat), f ≤ a → a < f + n → (tops [a] f n).length = (sides n (a - f)).length := by
  intro n
  induction n using Nat.strongRecOn with
  | ind n ih =>
    intro f h1 h2
    have hne : inr [a] f (f + n) ≠ [] := fun h => by
      have : a ∈ inr [a] f (f + n) := mem_inr.2 ⟨by simp, h1, h2⟩
      rw [h] at this; cases this
    by_cases h : 2 ≤ n
    · have k1 := half_pos h
      have k2 := half_lt h
      rw [tops_two hne h, List.length_append]
      by_cases hl : a - f < half n
      · rw [sides_left h hl, List.length_cons, ih _ k2 f h1 (by omega)]
        rw [tops_none (A := [a]) (f := f + half n) (n := n - half n)]
        · rfl
        · apply List.eq_nil_iff_forall_not_mem.2
          intro b hb
          obtain ⟨hb1, hb2, hb3⟩ := mem_inr.1 hb
          obtain rfl := List.mem_singleton.1 hb1
          omega
      · rw [sides_right h hl, List.length_cons, ih _ (by omega) (f + half n) (by omega) (by omega)]
        rw [tops_none (A := [a]) (f := f) (n := half n)]
        · rw [List.length_singleton, show a - (f + half n) = a - f - half n by omega]; omega
        · apply List.eq_nil_iff_forall_not_mem.2
          intro b hb
          obtain ⟨hb1, hb2, hb3⟩ := mem_inr.1 hb
          obtain rfl := List.mem_singleton.1 hb1
          omega
    · rw [tops_one hne h, sides_small h]; rfl

/-- No more parts than one for each step on each way. -/
theorem tops_fewer {A : List Nat} (hA : A.Pairwise (· < ·)) : ∀ (n f : Nat), inr A f (f + n) ≠ [] → (tops A f n).length ≤ ((inr A f (f + n)).map fun a => (sides n (a - f)).length).sum := by
  intro n
  induction n using Nat.strongRecOn with
  | ind n ih =>
    intro f hne
    by_cases h : 2 ≤ n
    · have k1 := half_pos h
      have k2 := half_lt h
      rw [tops_two hne h, List.length_append]
      have hsp : inr A f (f + n) = inr A f (f + half n) ++ inr A (f + half n) (f + n) := inr_split hA (by omega) (by omega)
      rw [hsp, List.map_append, List.sum_append]
      have e1 : (inr A f (f + half n)).map (fun a => (sides n (a - f)).length) = (inr A f (f + half n)).map (fun a => (sides (half n) (a - f)).length + 1) := by
        apply List.map_congr_left
        intro a ha
        have := mem_inr.1 ha
        rw [sides_left h (by omega), List.length_cons]
      have e2 : (inr A (f + half n) (f + n)).map (fun a => (sides n (a - f)).length) = (inr A (f + half n) (f + n)).map (fun a => (sides (n - half n) (a - (f + half n))).length + 1) := by
        apply List.map_congr_left
        intro a ha
        have := mem_inr.1 ha
        rw [sides_right h (by omega), List.length_cons, show a - f - half n = a - (f + half n) by omega]
      rw [e1, e2]
      have hs : ∀ (L : List Nat) (g : Nat → Nat), (L.map fun a => g a + 1).sum = (L.map g).sum + L.length := by
        intro L g
        induction L with
        | nil => rfl
        | cons x L ihL => simp only [List.map_cons, List.sum_cons, ihL, List.length_cons]; omega
      rw [hs, hs]
      have hf : f + half n + (n - half n) = f + n := by omega
      by_cases c1 : inr A f (f + half n) = []
      · have c2 : inr A (f + half n) (f + n) ≠ [] := fun c2 => hne (by rw [hsp, c1, c2]; rfl)
        have h3 := ih _ (show n - half n < n by omega) (f + half n) (by rw [hf]; exact c2)
        rw [hf] at h3
        rw [tops_none c1, c1]
        have : 1 ≤ (inr A (f + half n) (f + n)).length := List.length_pos_iff.2 c2
        simp only [List.length_singleton, List.map_nil, List.sum_nil, List.length_nil]
        omega
      · have h3 := ih _ k2 f c1
        have l1 : 1 ≤ (inr A f (f + half n)).length := List.length_pos_iff.2 c1
        by_cases c2 : inr A (f + half n) (f + n) = []
        · rw [tops_none (A := A) (f := f + half n) (n := n - half n) (by rw [hf]; exact c2), c2]
          simp only [List.length_singleton, List.map_nil, List.sum_nil, List.length_nil]
          omega
        · have h4 := ih _ (show n - half n < n by omega) (f + half n) (by rw [hf]; exact c2)
          rw [hf] at h4
          omega
    · rw [tops_one hne h]; exact Nat.zero_le _

/-- All are asked for. -/
theorem tops_all {A : List Nat} : ∀ (n f : Nat), 1 ≤ n → (∀ a, f ≤ a → a < f + n → a ∈ A) → tops A f n = [] := by
  intro n
  induction n using Nat.strongRecOn with
  | ind n ih =>
    intro f hn ha
    have hne : inr A f (f + n) ≠ [] := fun h => by
      have : f ∈ inr A f (f + n) := mem_inr.2 ⟨ha f (Nat.le_refl _) (by omega), by omega, by omega⟩
      rw [h] at this; cases this
    by_cases h : 2 ≤ n
    · have k1 := half_pos h
      have k2 := half_lt h
      rw [tops_two hne h, ih _ k2 f k1 (fun a h1 h2 => ha a h1 (by omega)), ih _ (by omega) (f + half n) (by omega) (fun a h1 h2 => ha a (by omega) (by omega))]
      rfl
    · exact tops_one hne h

end Go.Proofs.YtgheacegjgaobaaDoor.Many

/- What the reference of many leaves looks up: plain. -/
namespace Go.Proofs.YtgheacegjgaobaaDoor.Many
open Tree
set_option linter.unusedVariables false
set_option linter.unusedSimpArgs false

/-- A part among all parts: those ahead of it, its own, those behind. -/
def Loc (A : List Nat) (N f n : Nat) (D R : List (Nat × Nat)) : Prop := tops A 0 N = D ++ tops A f n ++ R ∧ ∀ p ∈ D, p.1 < f

theorem Loc.whole (A : List Nat) (N : Nat) : Loc A N 0 N [] [] := ⟨by simp, fun p hp => by cases hp⟩

theorem Loc.left {A : List Nat} {N f n : Nat} {D R : List (Nat × Nat)} (h : Loc A N f n D R) (hne : inr A f (f + n) ≠ []) (h2 : 2 ≤ n) : Loc A N f (half n) D (tops A (f + half n) (n - half n) ++ R) :=
  ⟨by rw [h.1, tops_two hne h2]; simp [List.append_assoc], h.2⟩

theorem Loc.right {A : List Nat} {N f n : Nat} {D R : List (Nat × Nat)} (h : Loc A N f n D R) (hne : inr A f (f + n) ≠ []) (h2 : 2 ≤ n) : Loc A N (f + half n) (n - half n) (D ++ tops A f (half n)) R := by
  have k1 := half_pos h2
  refine ⟨by rw [h.1, tops_two hne h2]; simp [List.append_assoc], fun p hp => ?_⟩
  rcases List.mem_append.1 hp with hp | hp
  · have := h.2 p hp; omega
  · have := tops_in A _ f k1 p hp; omega

/-- A part in which nothing is asked for: where it stands. -/
theorem Loc.none_at {A : List Nat} {N f n : Nat} {D R : List (Nat × Nat)} (h : Loc A N f n D R) (he : inr A f (f + n) = []) :
    (tops A 0 N)[D.length]? = some (f, n) ∧ ∀ (t : Nat) (p : Nat × Nat), t < D.length → (tops A 0 N)[t]? = some p → p ≠ (f, n) := by
  rw [h.1, tops_none he]
  refine ⟨by simp, fun t p ht hp hpe => ?_⟩
  rw [List.append_assoc, List.getElem?_append_left ht] at hp
  have := h.2 p (List.mem_of_getElem? hp)
  rw [hpe] at this
  exact Nat.lt_irrefl _ this

/-- A part in which something is asked for is none of them. -/
theorem asked_not {A : List Nat} {N f n : Nat} (he : inr A f (f + n) ≠ []) : ∀ (t : Nat) (p : Nat × Nat), (tops A 0 N)[t]? = some p → p ≠ (f, n) := by
  intro t p hp hpe
  have := tops_free A N 0 p (List.mem_of_getElem? hp)
  rw [hpe] at this
  exact he this

/-- Where a leaf that is asked for stands among the places. -/
theorem leaf_at {A : List Nat} (hs : A.Pairwise (· < ·)) {f : Nat} (he : inr A f (f + 1) ≠ []) :
    A[(inr A 0 f).length]? = some f ∧ ∀ (t a : Nat), t < (inr A 0 f).length → A[t]? = some a → a ≠ f := by
  obtain ⟨M, hM⟩ : ∃ M, ∀ a ∈ A, a < f + 1 + M := by
    clear hs he
    induction A with
    | nil => exact ⟨0, fun a ha => by cases ha⟩
    | cons x A ih =>
      obtain ⟨M, hM⟩ := ih
      refine ⟨M + x + 1, fun a ha => ?_⟩
      rcases List.mem_cons.1 ha with rfl | ha
      · omega
      · have := hM a ha; omega
  have h1 : A = inr A 0 f ++ (inr A f (f + 1) ++ inr A (f + 1) (f + 1 + M)) := by
    rw [← inr_split hs (by omega) (by omega), ← inr_split hs (by omega) (by omega), inr_all hM]
  obtain ⟨a, R, hx⟩ : ∃ a R, inr A f (f + 1) = a :: R := by
    cases hx : inr A f (f + 1) with
    | nil => exact absurd hx he
    | cons a R => exact ⟨a, R, rfl⟩
  have hm : a ∈ inr A f (f + 1) := by rw [hx]; exact List.mem_cons_self ..
  have := mem_inr.1 hm
  obtain rfl : a = f := by omega
  refine ⟨?_, fun t b ht hb hbe => ?_⟩
  · obtain ⟨k, hk⟩ : ∃ k, k = (inr A 0 a).length := ⟨_, rfl⟩
    rw [← hk]
    rw [h1, List.getElem?_append_right (by omega), hk, Nat.sub_self, hx]; rfl
  · obtain ⟨Z, hZ⟩ : ∃ Z, Z = inr A 0 a := ⟨_, rfl⟩
    rw [← hZ] at ht h1
    rw [h1, List.getElem?_append_left ht] at hb
    rw [hZ] at hb
    have := mem_inr.1 (List.mem_of_getElem? hb)
    omega

theorem inr_len_split {A : List Nat} (hs : A.Pairwise (· < ·)) {f m : Nat} (h : f ≤ m) : (inr A 0 m).length = (inr A 0 f).length + (inr A f m).length := by
  rw [inr_split hs (Nat.zero_le f) h, List.length_append]

/-- Of places that rise: how many stand below a bound. -/
theorem cut_at {A : List Nat} (hs : A.Pairwise (· < ·)) {f m t : Nat} (h1 : f ≤ m) (h2 : m ≤ t) :
    (inr A f t).take (inr A f m).length = inr A f m ∧ (inr A f t).drop (inr A f m).length = inr A m t ∧ (inr A f m).length ≤ (inr A f t).length ∧ (inr A f t).length - (inr A f m).length = (inr A m t).length := by
  rw [inr_split hs h1 h2]
  refine ⟨List.take_left' rfl, List.drop_left' rfl, by simp, by simp⟩

/-- What a bound tells of places that rise: those ahead are below it, the others are not. -/
theorem cut_side {A : List Nat} (hs : A.Pairwise (· < ·)) {f m t : Nat} (h1 : f ≤ m) (h2 : m ≤ t) {i a : Nat} (h : (inr A f t)[i]? = some a) : a < m ↔ i < (inr A f m).length := by
  rw [inr_split hs h1 h2] at h
  by_cases hi : i < (inr A f m).length
  · rw [List.getElem?_append_left hi] at h
    have := mem_inr.1 (List.mem_of_getElem? h)
    omega
  · rw [List.getElem?_append_right (by omega)] at h
    have := mem_inr.1 (List.mem_of_getElem? h)
    omega

/-- Do places rise, and are they there? -/
def rises : Int → List Int → Int → Bool
  | _, [], _ => true
  | n, a :: A, last => if a ≤ last ∨ n ≤ a then false else rises n A a

theorem rises_nat {n : Int} : ∀ {A : List Int} {last : Int}, -1 ≤ last → rises n A last = true → ∃ B : List Nat, A = B.map Int.ofNat ∧ B.Pairwise (· < ·) ∧ (∀ a ∈ B, (a : Int) < n ∧ last < (a : Int)) := by
  intro A
  induction A with
  | nil => intro last hl h; exact ⟨[], rfl, List.Pairwise.nil, fun a ha => by cases ha⟩
  | cons a A ih =>
    intro last hl h
    unfold rises at h
    split at h
    · cases h
    · rename_i hc
      obtain ⟨B, rfl, hp, hb⟩ := ih (last := a) (by omega) h
      refine ⟨a.toNat :: B, by rw [List.map_cons, show Int.ofNat a.toNat = a by simp; omega], List.pairwise_cons.2 ⟨fun b hb' => ?_, hp⟩, fun b hb' => ?_⟩
      · have := hb b hb'; omega
      · rcases List.mem_cons.1 hb' with rfl | hb'
        · omega
        · have := hb b hb'; omega

theorem rises_of {n : Int} : ∀ {B : List Nat} {last : Int}, B.Pairwise (· < ·) → (∀ a ∈ B, (a : Int) < n ∧ last < (a : Int)) → rises n (B.map Int.ofNat) last = true := by
  intro B
  induction B with
  | nil => intro last _ _; rfl
  | cons b B ih =>
    intro last hp hb
    obtain ⟨h1, h2⟩ := List.pairwise_cons.1 hp
    have h3 := hb b (by simp)
    rw [List.map_cons, show Int.ofNat b = (b : Int) from rfl, rises, if_neg (by omega)]
    exact ih h2 fun a ha => ⟨(hb a (by simp [ha])).1, by have := h1 a ha; omega⟩

end Go.Proofs.YtgheacegjgaobaaDoor.Many

/- The walk of hash.turn. -/
namespace Go.Proofs.YtgheacegjgaobaaDoor
open Go.RowKit
set_option linter.unusedSimpArgs false

theorem rot_or (n p q x : Nat) (hn : n ≤ 32) (hp : p = 2 ^ (32 - n)) (hq : q = 2 ^ n) (hx : x < 4294967296) : bits BinOp.or IntKind.u32 ((x : Int) * (p : Int) % 4294967296) ((x : Int) / (q : Int)) = (Sha.rot n x : Nat) := by
  subst hp hq
  have h2 : x / 2 ^ n < 4294967296 := Nat.lt_of_le_of_lt (Nat.div_le_self _ _) hx
  have e1 : ((x : Int) * ((2 ^ (32 - n) : Nat) : Int) % 4294967296) = ((x * 2 ^ (32 - n) % 4294967296 : Nat) : Int) := by rw [Int.natCast_emod, Int.natCast_mul]; rfl
  have e2 : ((x : Int) / ((2 ^ n : Nat) : Int)) = ((x / 2 ^ n : Nat) : Int) := by rw [Int.natCast_ediv]
  have hr := Sha.rot_shift n x hn hx
  rw [Nat.shiftRight_eq_div_pow, Nat.shiftLeft_eq, Nat.or_comm] at hr
  rw [e1, e2, u32_or_nat _ _ (Nat.mod_lt _ (by decide)) h2]
  exact congrArg _ hr

set_option maxRecDepth 100000 in
set_option maxHeartbeats 400000 in
theorem turn_2 (x : Nat) (hx : x < 4294967296) (w : World) :
    Calls Tryd.prog 73 #[.int .u32 x, .int .i64 2] w fun e w' => w = w' ∧ e = .returned (.int .u32 (Sha.rot 2 x)) := by
  have hb : bits BinOp.and IntKind.u64 (IntKind.u64.wrap (-2)) 31 = 30 := by decide
  have ho := rot_or 2 1073741824 4 x (by decide) (by decide) (by decide) hx
  have HO := Lib.hid ho; clear ho
  go_enter Tryd.func73, Tryd.ntmps73
  go_wp2
  go_ret
  exact ⟨rfl, congrArg (fun z => Ending.returned (.int .u32 z)) HO.out⟩

set_option maxRecDepth 100000 in
set_option maxHeartbeats 400000 in
theorem turn_6 (x : Nat) (hx : x < 4294967296) (w : World) :
    Calls Tryd.prog 73 #[.int .u32 x, .int .i64 6] w fun e w' => w = w' ∧ e = .returned (.int .u32 (Sha.rot 6 x)) := by
  have hb : bits BinOp.and IntKind.u64 (IntKind.u64.wrap (-6)) 31 = 26 := by decide
  have ho := rot_or 6 67108864 64 x (by decide) (by decide) (by decide) hx
  have HO := Lib.hid ho; clear ho
  go_enter Tryd.func73, Tryd.ntmps73
  go_wp2
  go_ret
  exact ⟨rfl, congrArg (fun z => Ending.returned (.int .u32 z)) HO.out⟩

set_option maxRecDepth 100000 in
set_option maxHeartbeats 400000 in
theorem turn_7 (x : Nat) (hx : x < 4294967296) (w : World) :
    Calls Tryd.prog 73 #[.int .u32 x, .int .i64 7] w fun e w' => w = w' ∧ e = .returned (.int .u32 (Sha.rot 7 x)) := by
  have hb : bits BinOp.and IntKind.u64 (IntKind.u64.wrap (-7)) 31 = 25 := by decide
  have ho := rot_or 7 33554432 128 x (by decide) (by decide) (by decide) hx
  have HO := Lib.hid ho; clear ho
  go_enter Tryd.func73, Tryd.ntmps73
  go_wp2
  go_ret
  exact ⟨rfl, congrArg (fun z => Ending.returned (.int .u32 z)) HO.out⟩

set_option maxRecDepth 100000 in
set_option maxHeartbeats 400000 in
theorem turn_11 (x : Nat) (hx : x < 4294967296) (w : World) :
    Calls Tryd.prog 73 #[.int .u32 x, .int .i64 11] w fun e w' => w = w' ∧ e = .returned (.int .u32 (Sha.rot 11 x)) := by
  have hb : bits BinOp.and IntKind.u64 (IntKind.u64.wrap (-11)) 31 = 21 := by decide
  have ho := rot_or 11 2097152 2048 x (by decide) (by decide) (by decide) hx
  have HO := Lib.hid ho; clear ho
  go_enter Tryd.func73, Tryd.ntmps73
  go_wp2
  go_ret
  exact ⟨rfl, congrArg (fun z => Ending.returned (.int .u32 z)) HO.out⟩

set_option maxRecDepth 100000 in
set_option maxHeartbeats 400000 in
theorem turn_13 (x : Nat) (hx : x < 4294967296) (w : World) :
    Calls Tryd.prog 73 #[.int .u32 x, .int .i64 13] w fun e w' => w = w' ∧ e = .returned (.int .u32 (Sha.rot 13 x)) := by
  have hb : bits BinOp.and IntKind.u64 (IntKind.u64.wrap (-13)) 31 = 19 := by decide
  have ho := rot_or 13 524288 8192 x (by decide) (by decide) (by decide) hx
  have HO := Lib.hid ho; clear ho
  go_enter Tryd.func73, Tryd.ntmps73
  go_wp2
  go_ret
  exact ⟨rfl, congrArg (fun z => Ending.returned (.int .u32 z)) HO.out⟩

set_option maxRecDepth 100000 in
set_option maxHeartbeats 400000 in
theorem turn_17 (x : Nat) (hx : x < 4294967296) (w : World) :
    Calls Tryd.prog 73 #[.int .u32 x, .int .i64 17] w fun e w' => w = w' ∧ e = .returned (.int .u32 (Sha.rot 17 x)) := by
  have hb : bits BinOp.and IntKind.u64 (IntKind.u64.wrap (-17)) 31 = 15 := by decide
  have ho := rot_or 17 32768 131072 x (by decide) (by decide) (by decide) hx
  have HO := Lib.hid ho; clear ho
  go_enter Tryd.func73, Tryd.ntmps73
  go_wp2
  go_ret
  exact ⟨rfl, congrArg (fun z => Ending.returned (.int .u32 z)) HO.out⟩

set_option maxRecDepth 100000 in
set_option maxHeartbeats 400000 in
theorem turn_18 (x : Nat) (hx : x < 4294967296) (w : World) :
    Calls Tryd.prog 73 #[.int .u32 x, .int .i64 18] w fun e w' => w = w' ∧ e = .returned (.int .u32 (Sha.rot 18 x)) := by
  have hb : bits BinOp.and IntKind.u64 (IntKind.u64.wrap (-18)) 31 = 14 := by decide
  have ho := rot_or 18 16384 262144 x (by decide) (by decide) (by decide) hx
  have HO := Lib.hid ho; clear ho
  go_enter Tryd.func73, Tryd.ntmps73
  go_wp2
  go_ret
  exact ⟨rfl, congrArg (fun z => Ending.returned (.int .u32 z)) HO.out⟩

set_option maxRecDepth 100000 in
set_option maxHeartbeats 400000 in
theorem turn_19 (x : Nat) (hx : x < 4294967296) (w : World) :
    Calls Tryd.prog 73 #[.int .u32 x, .int .i64 19] w fun e w' => w = w' ∧ e = .returned (.int .u32 (Sha.rot 19 x)) := by
  have hb : bits BinOp.and IntKind.u64 (IntKind.u64.wrap (-19)) 31 = 13 := by decide
  have ho := rot_or 19 8192 524288 x (by decide) (by decide) (by decide) hx
  have HO := Lib.hid ho; clear ho
  go_enter Tryd.func73, Tryd.ntmps73
  go_wp2
  go_ret
  exact ⟨rfl, congrArg (fun z => Ending.returned (.int .u32 z)) HO.out⟩

set_option maxRecDepth 100000 in
set_option maxHeartbeats 400000 in
theorem turn_22 (x : Nat) (hx : x < 4294967296) (w : World) :
    Calls Tryd.prog 73 #[.int .u32 x, .int .i64 22] w fun e w' => w = w' ∧ e = .returned (.int .u32 (Sha.rot 22 x)) := by
  have hb : bits BinOp.and IntKind.u64 (IntKind.u64.wrap (-22)) 31 = 10 := by decide
  have ho := rot_or 22 1024 4194304 x (by decide) (by decide) (by decide) hx
  have HO := Lib.hid ho; clear ho
  go_enter Tryd.func73, Tryd.ntmps73
  go_wp2
  go_ret
  exact ⟨rfl, congrArg (fun z => Ending.returned (.int .u32 z)) HO.out⟩

set_option maxRecDepth 100000 in
set_option maxHeartbeats 400000 in
theorem turn_25 (x : Nat) (hx : x < 4294967296) (w : World) :
    Calls Tryd.prog 73 #[.int .u32 x, .int .i64 25] w fun e w' => w = w' ∧ e = .returned (.int .u32 (Sha.rot 25 x)) := by
  have hb : bits BinOp.and IntKind.u64 (IntKind.u64.wrap (-25)) 31 = 7 := by decide
  have ho := rot_or 25 128 33554432 x (by decide) (by decide) (by decide) hx
  have HO := Lib.hid ho; clear ho
  go_enter Tryd.func73, Tryd.ntmps73
  go_wp2
  go_ret
  exact ⟨rfl, congrArg (fun z => Ending.returned (.int .u32 z)) HO.out⟩

end Go.Proofs.YtgheacegjgaobaaDoor

/- A slice of bytes that a call holds for itself, with or without room: one byte more. And the parts that bytes.Join takes. -/
namespace Go.Proofs.YtgheacegjgaobaaDoor
open Go.RowKit
set_option linter.unusedSimpArgs false

/-- An array of numbers, by value: its part i. -/
theorem run_index_arr {P : Program} (w : World) (t e : TypeId) (n : Nat) (k : IntKind) (cs : Array Value) (v : Value) (i : Nat) (ht : P.underlying t = some (.array n e)) (he : P.underlying e = some (.int k)) (hs : (P.info? e).map (·.size) = some 1) (hi : i < n) (hv : cs[i]? = some v) :
    (Instr.index t (.agg cs) (.int .i64 (i : Int))).run P w = .ok v w := by
  obtain ⟨ie, h1, h2⟩ := Option.map_eq_some_iff.1 hs
  simp [Instr.index, asIntOf, run_underlying ht, run_underlying he, hi, part, isAgg, sizeOf, typeInfo, h1, h2, hv]

/-- A composite of no part. -/
theorem wpList_build0 {P : Program} {ops : Array Oper} {rest : List Oper} {o : Oper} {a : Act} {w : World} {Q : Exit → Act → World → Prop} (hg : o.guard = none) (t : TypeId) (ho : o.op = .build t #[])
    (cs : Array Value) (hb : P.built t [] = some cs)
    (h : wpList P ops Q rest (a.put o.dst (.agg cs)) w) : wpList P ops Q (o :: rest) a w := by
  have e : ((#[] : Array (Nat × Operand)).map fun (p : Nat × Operand) => (p.1, a.eval p.2)).toList = [] := by simp
  refine wpList_build hg t #[] ho ?_ ?_
  · show (P.built t ((#[] : Array (Nat × Operand)).map fun (p : Nat × Operand) => (p.1, a.eval p.2)).toList).isSome = true
    rw [e, hb]; rfl
  · show wpList P ops Q rest (a.put o.dst (.agg ((P.built t ((#[] : Array (Nat × Operand)).map fun (p : Nat × Operand) => (p.1, a.eval p.2)).toList).getD #[]))) w
    rw [e, hb]; exact h

/-- The cells of bytes. -/
def byteCells (l : List UInt8) : List Value := l.map fun x => .int .u8 x.toNat
theorem byteCells_length (l : List UInt8) : (byteCells l).length = l.length := by simp [byteCells]
theorem byteCells_append (a b : List UInt8) : byteCells (a ++ b) = byteCells a ++ byteCells b := by simp [byteCells]
theorem byteCells_one (l : List UInt8) : ∀ u ∈ byteCells l, u.oneCell' = true := by
  intro u hu
  obtain ⟨_, _, rfl⟩ := List.mem_map.1 hu
  rfl
theorem byteCells_get {l : List UInt8} {i : Nat} {x : UInt8} (h : l[i]? = some x) : (byteCells l)[i]? = some (.int .u8 (x.toNat : Int)) := by simp [byteCells, h]

/-- Bytes as a string. -/
def strOf (l : List UInt8) : ByteArray := ⟨l.toArray⟩
theorem strOf_size (l : List UInt8) : (strOf l).size = l.length := by simp [strOf, ByteArray.size]
theorem strOf_list (l : List UInt8) : (strOf l).data.toList = l := by simp [strOf]
theorem strOf_toList (l : List UInt8) : (strOf l).toList = l := by rw [ByteArray.toList_eq, strOf_list]
theorem strOf_data (s : ByteArray) : strOf s.data.toList = s := by simp [strOf]
theorem strOf_extract (l : List UInt8) (a b : Nat) : (strOf l).extract a b = strOf ((l.drop a).take (b - a)) := by
  apply ByteArray.ext
  simp [strOf, ByteArray.data_extract]
theorem strOf_from (l : List UInt8) (a : Nat) : (strOf l).extract a l.length = strOf (l.drop a) := by
  rw [strOf_extract, List.take_of_length_le (by simp)]

theorem add_str (a b : List UInt8) : strOf a ++ strOf b = strOf (a ++ b) := by
  apply ByteArray.ext
  simp [strOf, ByteArray.data_append]

/-- The cells of a sum that is all 0. -/
def zero32 : Array Value := (byteCells (List.replicate 32 0)).toArray
theorem byteCells_set (l : List UInt8) (i : Nat) (x : UInt8) : (byteCells l).toArray.setIfInBounds i (.int .u8 (x.toNat : Int)) = (byteCells (l.set i x)).toArray := by
  simp [byteCells, List.map_set]
theorem range_row {w : World} {b : Nat} {cs : List Value} {t : TypeId} {fr : Nat × Nat} (h : w.heap[b]? = some (.cells cs.toArray t fr)) : w.rangeAt b 0 cs := by
  intro j v hv
  rw [Nat.zero_add]
  unfold World.cell?
  rw [h]
  simpa using hv

/-- The value v is a slice of the bytes l, of the call's own: its block stands from B on. -/
def Mine (w : World) (B : Nat) (v : Value) (l : List UInt8) : Prop :=
  (v = .slice none 0 0 ∧ l = []) ∨ ∃ g cap, v = .slice (some ⟨g, 0, none⟩) l.length cap ∧ B ≤ g ∧ (0 < cap → g < w.heap.size) ∧ l.length ≤ cap ∧ cap ≤ maxLen ∧ w.rangeAt g 0 (byteCells l) ∧ w.there g l.length (cap - l.length)

theorem Mine.nil (w : World) (B : Nat) : Mine w B (.slice none 0 0) [] := .inl ⟨rfl, rfl⟩

theorem Mine.mono {w : World} {B B' : Nat} {v : Value} {l : List UInt8} (h : Mine w B v l) (hB : B' ≤ B) : Mine w B' v l :=
  h.imp id fun ⟨g, cap, h1, h2, h3⟩ => ⟨g, cap, h1, Nat.le_trans hB h2, h3⟩

theorem Mine.kept {w w' : World} {B : Nat} {v : Value} {l : List UInt8} (h : Mine w B v l) (hs : w.heap.size ≤ w'.heap.size) (hb : ∀ k, v.ownBlock = some k → k < w.heap.size → w'.heap[k]? = w.heap[k]?) : Mine w' B v l := by
  rcases h with h | ⟨g, cap, rfl, h1, h2, h3, h4, h5, h6⟩
  · exact .inl h
  · refine .inr ⟨g, cap, rfl, h1, fun h0 => Nat.lt_of_lt_of_le (h2 h0) hs, h3, h4, fun j u hu => ?_, fun j hj => ?_⟩
    · have := (List.getElem?_eq_some_iff.1 hu).1
      rw [byteCells_length] at this
      have e := hb g rfl (h2 (by omega))
      rw [World.cell?_of_block (a := ⟨g, 0 + j, none⟩) e]; exact h5 j u hu
    · have e := hb g rfl (h2 (by omega))
      rw [World.cell?_of_block (a := ⟨g, l.length + j, none⟩) e, World.frozen?_of_block (a := ⟨g, l.length + j, none⟩) e]; exact h6 j hj

theorem Mine.lt {w : World} {B : Nat} {v : Value} {l : List UInt8} (h : Mine w B v l) : ∀ k, v.ownBlock = some k → B ≤ k := by
  intro k hk
  rcases h with ⟨rfl, _⟩ | ⟨g, cap, rfl, h1, _⟩
  · simp [Value.ownBlock] at hk
  · simp [Value.ownBlock] at hk
    subst hk
    exact h1

theorem Mine.below {w w' : World} {B : Nat} {v : Value} {l : List UInt8} (h : Mine w B v l) (hb : Below w.heap.size w w') : Mine w' B v l :=
  h.kept hb.size fun k _ hk => hb.block k hk

theorem Mine.alloc {w : World} {B : Nat} {v : Value} {l : List UInt8} (h : Mine w B v l) (o : Obj) : Mine (w.alloc o) B v l :=
  h.below ((Below.refl _ _).alloc (Nat.le_refl _) _)

theorem Mine.of_own {w : World} {B : Nat} {e : TypeId} {v : Value} {n : Nat} {l : List UInt8} (h : w.ownsRow B e 1 v n (byteCells l)) : Mine w B v l := by
  have hl := h.1
  rw [byteCells_length, Nat.mul_one] at hl
  subst hl
  have hcell := fun g hg => h.cells (g := g) hg
  rcases h.2 with ⟨rfl, h0⟩ | ⟨g, cap, cur, rfl, hb, hg, hnc, hcm, hcs, _⟩
  · exact .inl ⟨rfl, List.eq_nil_of_length_eq_zero h0⟩
  · refine .inr ⟨g, cap, rfl, hb, fun _ => (Array.getElem?_eq_some_iff.1 hg).1, hnc, hcm, fun j u hu => ?_, fun j hj => ?_⟩
    · have := hcell g rfl j u hu
      rw [Addr.add_mid] at this; exact this
    · have hlt : l.length + j < cur.size := by omega
      simp [World.cell?, World.frozen?, hg, hlt]

theorem setCells_size (g : Nat) : ∀ (vs : List Value) (o : Nat) (w : World), (w.setCells g o vs).heap.size = w.heap.size
  | [], _, _ => rfl
  | _ :: r, o, w => by
    show ((w.setCell _ _).setCells g (o + 1) r).heap.size = _
    rw [setCells_size g r]; simp

theorem Below.setCells' {B g : Nat} (hg : B ≤ g) : ∀ (vs : List Value) (o : Nat) (w : World), Below B w (w.setCells g o vs)
  | [], _, w => Below.refl _ w
  | v :: r, o, w => ((Below.refl B w).setCell (p := ⟨g, o, none⟩) hg v).trans (Below.setCells' hg r (o + 1) _)

theorem below_setRow' {B b : Nat} {w w' : World} {cs : Array Value} (h : Below B w w') (hb : B ≤ b) : Below B w (w'.setRow b cs) :=
  ⟨h.os, h.tape, h.output, by simpa [World.setRow] using h.size, fun k hk => by rw [setRow_other _ _ _ _ (by omega)]; exact h.block k hk⟩

/-- ONE BYTE MORE, or several, that lie somewhere. -/
theorem Mine.push {P : Program} {t ty e : TypeId} {i : TypeInfo} {z : Value} (ht : P.underlying t = some (.slice e)) (hi : P.info? e = some i) (hz : i.zero = some z) (hs : i.size = 1) (hby : i.bytes = 1) (hzs : z.cells.size = 1)
    {W : World} {B : Nat} {v : Value} {l : List UInt8} (h : Mine W B v l) (hB : B ≤ W.heap.size) (news : List UInt8) (hpos : 0 < news.length) (hl : l.length + news.length ≤ 140737488355328) (a : Addr) (c : Nat) (hx : ∀ j u, (byteCells news)[j]? = some u → W.cell? (a.add j) = some u) :
    ∃ v' w', (Builtin.append_ #[t, t] ty #[v, .slice (some a) news.length c]).run P W = .ok v' w' ∧ Mine w' B v' (l ++ news) ∧ Below B W w' ∧ ∃ g cap, v' = .slice (some ⟨g, 0, none⟩) (l ++ news).length cap := by
  have fin : ∀ (v' : Value) (w' : World), w'.ownsRow B e 1 v' (l.length + news.length) (byteCells (l ++ news)) → ∃ g cap, v' = .slice (some ⟨g, 0, none⟩) (l ++ news).length cap := by
    intro v' w' ho
    rcases ho.2 with ⟨_, h0⟩ | ⟨g, cap, _, rfl, _⟩
    · omega
    · exact ⟨g, cap, by rw [List.length_append]⟩
  rcases h with ⟨rfl, rfl⟩ | ⟨g, cap, rfl, hg, hlt, hle, hm, hr, hth⟩
  · obtain ⟨v', w', h1, h2, h3, _⟩ := run_append_own (P := P) W B t ty e i z 1 1 ht hi hz hs hby hzs (by decide) (.slice none 0 0) 0 [] (World.ownsRow_nil _ _ _ _) a news.length c (byteCells news) (by rw [byteCells_length, Nat.mul_one]) hx (byteCells_one _) (by unfold maxLen; simp at hl; omega) (by simp at hl; omega) hB
    rw [List.nil_append] at h2
    refine ⟨v', w', h1, Mine.of_own h2, (Below.refl _ _).grown h3 hB (fun k hk => by simp [Value.ownBlock] at hk), fin v' w' ?_⟩
    simpa using h2
  · by_cases hroom : l.length + news.length ≤ cap
    · have hr1 := run_append_room_cells (P := P) W t ty e i ht hi g 0 l.length cap a news.length c (byteCells news) (by rw [byteCells_length, hs, Nat.mul_one]) hx (byteCells_one _) hroom
        (fun j hj => by rw [byteCells_length] at hj; have := (hth j (by omega)).1; rw [hs]; simpa using this) (fun j hj => by rw [byteCells_length] at hj; have := (hth j (by omega)).2; rw [hs]; simpa using this)
      rw [hs, Nat.zero_add, Nat.mul_one] at hr1
      refine ⟨_, _, hr1, .inr ⟨g, cap, by rw [List.length_append], hg, fun h0 => by rw [setCells_size]; exact hlt h0, by rw [List.length_append]; exact hroom, hm, fun j u hu => ?_, fun j hj => ?_⟩, Below.setCells' hg _ _ _, ⟨g, cap, by rw [List.length_append]⟩⟩
      · rw [byteCells_append] at hu
        by_cases hj : j < l.length
        · rw [List.getElem?_append_left (by rw [byteCells_length]; exact hj)] at hu
          rw [World.cell?_setCells_out _ _ _ _ _ (fun _ _ => by simp only; omega)]
          exact hr j u hu
        · rw [List.getElem?_append_right (by rw [byteCells_length]; omega), byteCells_length] at hu
          have hjl := (List.getElem?_eq_some_iff.1 hu).1
          have := World.cell?_setCells_in g (byteCells news) l.length W (fun j hj => (hth j (by rw [byteCells_length] at hj; omega)).1) (j - l.length) hjl
          rw [show 0 + j = l.length + (j - l.length) by omega, this]
          rw [List.getElem?_eq_getElem hjl] at hu; exact hu
      · rw [List.length_append] at hj
        rw [World.frozen?_setCells, World.cell?_setCells_out _ _ _ _ _ (fun _ _ => by simp only [List.length_append, byteCells_length]; omega)]
        have := hth (news.length + j) (by omega)
        rw [List.length_append, Nat.add_assoc]; exact this
    · obtain ⟨v', w', h1, h2, h3⟩ := run_append_arg_grows (P := P) W t ty e i z 1 1 ht hi hz hs hby hzs (by decide) ⟨g, 0, none⟩ l.length cap (byteCells l) (by rw [byteCells_length, Nat.mul_one]) (fun j u hu => by rw [Addr.add_mid]; exact hr j u hu)
        a news.length c (byteCells news) (by rw [byteCells_length, Nat.mul_one]) hx (by omega) (by unfold maxLen; omega) (by omega)
      rw [← byteCells_append] at h2
      have h2' : w'.ownsRow B e 1 v' (l.length + news.length) (byteCells (l ++ news)) := ⟨h2.1, h2.2.imp id fun ⟨g, cap, cur, a1, a2, a3⟩ => ⟨g, cap, cur, a1, Nat.le_trans hB a2, a3⟩⟩
      exact ⟨v', w', h1, Mine.of_own h2', (Below.refl _ _).grown h3 hB (fun k hk => by cases hk), fin v' w' h2'⟩

theorem Mine.fresh {w : World} {B : Nat} {v : Value} {l : List UInt8} (h : Lib.FreshBytes B w v l) : Mine w B v l := by
  obtain ⟨g, cap, zs, rfl, hB, hle, hm, hzl, hz, hb, hc, hf⟩ := h
  refine .inr ⟨g, cap, rfl, hB, fun h0 => World.block_lt_of_cell? w ⟨g, 0, none⟩ (hc 0 h0), hle, hm, fun j u hu => ?_, fun j hj => ?_⟩
  · have hjl := (List.getElem?_eq_some_iff.1 hu).1
    rw [byteCells_length] at hjl
    rw [Nat.zero_add, hc j (by omega), ← hu]
    have hl : l[j]? = some (UInt8.ofNat (zs.getD j 0).toNat) := by
      have e : (Lib.bytesOf (zs.take l.length))[j]? = some (UInt8.ofNat (zs.getD j 0).toNat) := by
        unfold Lib.bytesOf
        rw [List.getElem?_map, List.getElem?_take, if_pos hjl, List.getD_eq_getElem?_getD, List.getElem?_eq_getElem (by omega)]; rfl
      rwa [hb] at e
    rw [byteCells_get hl]
    have := hz (zs.getD j 0) (by rw [List.getD_eq_getElem?_getD, List.getElem?_eq_getElem (by omega)]; exact List.getElem_mem _)
    congr 2
    rw [UInt8.toNat_ofNat']
    omega
  · rw [hf _ (by omega), hc _ (by omega)]; simp

theorem Mine.form {w : World} {B : Nat} {v : Value} {l : List UInt8} (h : Mine w B v l) : ∃ a cap, v = .slice a l.length cap := by
  rcases h with ⟨rfl, rfl⟩ | ⟨g, cap, rfl, _⟩
  · exact ⟨none, 0, rfl⟩
  · exact ⟨_, cap, rfl⟩

/-- 'string(b)'. -/
theorem Mine.string {P : Program} {src dst e : TypeId} (h1 : P.underlying src = some (.slice e)) (h2 : P.underlying e = some (.int .u8)) (h3 : P.underlying dst = some .string) {w : World} {B : Nat} {v : Value} {l : List UInt8} (h : Mine w B v l) :
    (convert src dst v).run P w = .ok (.string (strOf l)) w := by
  rcases h with ⟨rfl, rfl⟩ | ⟨g, cap, rfl, _, _, _, _, hr, _⟩
  · rw [run_convert_bytes_string w _ _ _ _ _ _ h1 h2 h3]
    simp [Conv.bytesToString]
    rfl
  · refine run_convert_bytes_back w _ _ _ _ _ l h1 h2 h3 ?_
    intro j hj
    rw [Addr.add_mid]
    exact hr j _ (by simp [byteCells, hj])

/-- '[]byte(s)': a new slice. -/
theorem str_bytes {P : Program} {src dst e : TypeId} (hs : P.underlying src = some .string) (hd : P.underlying dst = some (.slice e)) (he : P.underlying e = some (.int .u8)) (w : World) (l : List UInt8) (hl : l.length ≤ 9223372036854775807) :
    ∃ cap W, (convert src dst (.string (strOf l))).run P w = .ok (.slice (some ⟨w.heap.size, 0, none⟩) l.length cap) W ∧ Mine W w.heap.size (.slice (some ⟨w.heap.size, 0, none⟩) l.length cap) l ∧ Below w.heap.size w W ∧ w.heap.size < W.heap.size := by
  have hr := Lib.run_convert_string_bytes (P := P) w src dst e (strOf l) hs hd he
  rw [strOf_size] at hr
  have hge := grownCap_ge w l.length 0 e
  have hcm := grownCap_le_maxLen w l.length 0 e (by unfold maxLen; omega)
  have hnew := Lib.bytesWorld_at_new w e (strOf l)
  have hcells : Lib.bytesCells w e (strOf l) = (byteCells l).toArray ++ Array.replicate (grownCap w l.length 0 e - l.length) (.int .u8 0) := by
    unfold Lib.bytesCells
    rw [strOf_size]
    congr 1
    apply Array.ext'
    simp [strOf, byteCells]
  rw [hcells] at hnew
  refine ⟨_, _, hr, .inr ⟨w.heap.size, _, rfl, Nat.le_refl _, fun _ => by rw [Lib.bytesWorld_size]; omega, hge, hcm, fun j u hu => ?_, fun j hj => ?_⟩, ⟨rfl, rfl, rfl, by rw [Lib.bytesWorld_size]; omega, fun k hk => Lib.bytesWorld_at_old w e _ k hk⟩, by rw [Lib.bytesWorld_size]; omega⟩
  · have hj := (List.getElem?_eq_some_iff.1 hu).1
    rw [byteCells_length] at hj
    simp only [World.cell?, hnew, Nat.zero_add]
    rw [Array.getElem?_append_left (by rw [List.size_toArray, byteCells_length]; exact hj)]
    simpa using hu
  · refine ⟨?_, ?_⟩
    · simp only [World.cell?, hnew]
      rw [Array.getElem?_eq_getElem (by simp [byteCells_length]; omega)]; rfl
    · simp only [World.frozen?, hnew]
      simp [byteCells_length]
      omega

/-- What bytes.Join takes. -/
def PartsV (w : World) (v : Value) (ls : List (List UInt8)) : Prop :=
  ∃ p c, v = .slice p ls.length c ∧ ls.length ≤ c ∧ (0 < ls.length → ∃ b o vs, p = some ⟨b, o, none⟩ ∧ Lib.PartsAt w ⟨b, o, none⟩ vs ls)

theorem PartsV.below {w w' : World} {v : Value} {ls : List (List UInt8)} (h : PartsV w v ls) (hb : Below w.heap.size w w') : PartsV w' v ls := by
  obtain ⟨p, c, h1, h2, h3⟩ := h
  refine ⟨p, c, h1, h2, fun h0 => ?_⟩
  obtain ⟨b, o, vs, h4, h5, h6, h7⟩ := h3 h0
  refine ⟨b, o, vs, h4, h5, fun i v hv => Lib.Below.cellOf hb (h6 i v hv) (Nat.le_refl _), fun i v l hv hl => ?_⟩
  obtain ⟨q, cap, h8, h9, h10⟩ := h7 i v l hv hl
  exact ⟨q, cap, h8, h9, fun a ha j x hx => Lib.Below.cellOf hb (h10 a ha j x hx) (Nat.le_refl _)⟩

end Go.Proofs.YtgheacegjgaobaaDoor

/- A region that draws its order: operations and calls that leave the world alone but for draws, and behind them a chain that writes: one walk in the order of the text. -/
namespace Go.Proofs.YtgheacegjgaobaaDoor
set_option linter.unusedVariables false
set_option linter.unusedSimpArgs false

section
variable {P : Program} {ops : Array Oper} {md : Region.Mode} {C : World → Prop}

/-- Each of the operations m .. n - 1 is waited for by a later one, up to n. -/
def sinkF (md : Region.Mode) (ops : Array Oper) (m n : Nat) : Bool :=
  (List.range n).all fun i => decide (i < m) || (List.range (n + 1)).any fun j => decide (i < j) && Region.waitsFor md ops j i

theorem tail_late {m n : Nat} {listed : Array Bool} (hs : sinkF md ops m n = true) (hc : Region.chainB md ops n = true) (inv : HeadInv md ops n listed) :
    ∀ (d i : Nat), n - i = d → m ≤ i → i < n → n < ops.size → listed.getD i true = false → ∀ t, n ≤ t → t ∉ Region.ready md ops listed := by
  intro d
  induction d using Nat.strongRecOn with
  | _ d ih =>
    intro i hd hm hi hn hun t ht hr
    obtain ⟨_, ot, hot, hall⟩ := mem_ready.1 hr
    have htlt : t < ops.size := (Array.getElem?_eq_some_iff.1 hot).1
    by_cases htn : t = n
    · have h1 := List.all_eq_true.1 hs i (List.mem_range.2 hi)
      simp only [Bool.or_eq_true, decide_eq_true_eq] at h1
      rcases h1 with h1 | h1
      · omega
      · obtain ⟨j, hj, hj2⟩ := List.any_eq_true.1 h1
        simp only [Bool.and_eq_true, decide_eq_true_eq] at hj2
        obtain ⟨oj, hoj, e, he, hb, hon⟩ := Region.waitsFor_spec hj2.2
        have hjle := List.mem_range.1 hj
        by_cases hjt : j = t
        · rw [hjt] at hoj
          obtain rfl := Option.some.inj (hoj.symm.trans hot)
          have h2 := hall e he hb
          rw [hon, getD_both hun] at h2
          cases h2
        · cases hl : listed.getD j false with
          | true =>
            have h2 := inv.closed j oj hoj hl e he hb
            rw [hon, getD_both hun] at h2
            cases h2
          | false =>
            have hjs : j < listed.size := by rw [inv.size]; omega
            exact ih (n - j) (by omega) j rfl (by omega) (by omega) hn (getD_in hjs hl) t ht hr
    · have h1 := List.all_eq_true.1 hc t (List.mem_range.2 htlt)
      simp only [Bool.or_eq_true, decide_eq_true_eq] at h1
      rcases h1 with h1 | h1
      · omega
      · obtain ⟨o', ho', e, he, hb, hon⟩ := Region.waitsFor_spec h1
        obtain rfl := Option.some.inj (ho'.symm.trans hot)
        have h2 := hall e he hb
        rw [hon, getD_both (inv.tail (t - 1) (by omega) (by omega))] at h2
        cases h2

/-- The head, whatever its order; L behind it. -/
def wpHead (P : Program) (md : Region.Mode) (ops : Array Oper) (C : World → Prop) (n : Nat) (L : Array Bool → Act → Prop) : Nat → Array Bool → Act → Prop
  | 0, listed, a => L listed a
  | f + 1, listed, a => Region.ready md ops listed ≠ [] ∧ ∀ i ∈ Region.ready md ops listed, i < n ∧ qOp P ops C i (wpHead P md ops C n L f (listed.setIfInBounds i true)) a

theorem wpAny_of_wpHead {n g : Nat} {L : Array Bool → Act → Prop} {Q' : Exit → Act → World → Prop} (hL : ∀ listed a w, C w → L listed a → wpAny P md ops Q' g listed a w) :
    ∀ (f : Nat) (listed : Array Bool) (a : Act) (w : World), C w → wpHead P md ops C n L f listed a → wpAny P md ops Q' (f + g) listed a w
  | 0, listed, a, w, hw, h => by rw [Nat.zero_add]; exact hL _ _ _ hw h
  | f + 1, listed, a, w, hw, h => by
    rw [show f + 1 + g = (f + g) + 1 by omega]
    exact ⟨fun h0 => absurd h0 h.1, fun i hi => wpOp_of_qOp hw (fun a' w' hw' h' => wpAny_of_wpHead hL f _ a' w' hw' h') (h.2 i hi).2⟩

theorem wpHead_first {m n i : Nat} {oi : Oper} {v : Value} {L : Array Bool → Act → Prop} (hi : ops[i]? = some oi) (hsel : ∀ (j : Nat) (o : Oper) cs b, ops[j]? = some o → o.op ≠ .select cs b)
    (hs : sinkF md ops m n = true) (hc : Region.chainB md ops n = true) (hn : n < ops.size) (him : m ≤ i) (hin : i < n)
    (hdone : ∀ listed a, L listed a → ∀ j ∈ Region.ready md ops listed, n ≤ j) :
    ∀ (f : Nat) (listed : Array Bool) (a : Act), HeadInv md ops n listed →
      (∀ j oj, ops[j]? = some oj → j ≠ i → listed.getD j true = false → (∀ e ∈ oj.after, Region.binds md e = true → e.on ≠ i) → oi.apart ops oj = true) →
      i ∈ Region.ready md ops listed → YieldsIn P ops C oi v a →
      wpHead P md ops C n L f (listed.setIfInBounds i true) (a.put oi.dst v) → wpHead P md ops C n L (f + 1) listed a := by
  intro f
  induction f with
  | zero =>
    intro listed a inv _ hr hy H
    have hun := (mem_ready.1 hr).1
    refine ⟨fun h => (by rw [h] at hr; cases hr), fun j hj => ?_⟩
    have hjn : j < n := by
      rcases Nat.lt_or_ge j n with h | h
      · exact h
      · exact absurd hj (tail_late hs hc inv _ i rfl him hin hn hun j h)
    refine ⟨hjn, ?_⟩
    by_cases hji : j = i
    · subst hji; exact hy.qOp hi H
    · have := hdone _ _ H j (ready_mono hj hji)
      omega
  | succ f ih =>
    intro listed a inv hfree hr hy H
    have hun := (mem_ready.1 hr).1
    refine ⟨fun h => (by rw [h] at hr; cases hr), fun j hj => ?_⟩
    have hjn : j < n := by
      rcases Nat.lt_or_ge j n with h | h
      · exact h
      · exact absurd hj (tail_late hs hc inv _ i rfl him hin hn hun j h)
    refine ⟨hjn, ?_⟩
    by_cases hji : j = i
    · subst hji; exact hy.qOp hi H
    · have h1 := (H.2 j (ready_mono hj hji)).2
      obtain ⟨hjun, oj, hoj, hall⟩ := mem_ready.1 hj
      have hnot : ∀ e ∈ oj.after, Region.binds md e = true → e.on ≠ i := fun e he hb heq => by
        have h1 := hall e he hb
        rw [heq, getD_both hun] at h1
        cases h1
      have h2 := qOp_put hoj (hfree j oj hoj hji hjun hnot) (fun cs b => hsel i oi cs b hi) (fun cs b => hsel j oj cs b hoj) hy h1
      have hfree' : ∀ k ok, ops[k]? = some ok → k ≠ i → (listed.setIfInBounds j true).getD k true = false →
          (∀ e ∈ ok.after, Region.binds md e = true → e.on ≠ i) → oi.apart ops ok = true := fun k ok hk hki hun hno => by
        refine hfree k ok hk hki ?_ hno
        by_cases hjk : j = k
        · subst hjk; exact hjun
        · rw [getD_set_ne true hjk] at hun; exact hun
      refine qOp_mono (fun a' h3 => ih (listed.setIfInBounds j true) a' (inv.set hj hjn) hfree' (ready_mono hr (Ne.symm hji)) h3.1 ?_) h2
      rw [Array.setIfInBounds_comm _ _ hji]
      exact h3.2

theorem wpHead_lex {m n g : Nat} {Lq : Act → Prop} (hsel : Region.noSelect ops = true) (hs : sinkF md ops m n = true) (hc : Region.chainB md ops n = true) (hn : n < ops.size) :
    ∀ (l : List Oper) (k : Nat) (listed : Array Bool) (a : Act), (∀ j, j < l.length → l[j]? = ops[k + j]?) → m ≤ k → k + l.length = n → HeadInv md ops n listed →
    Region.lexHead md ops g l.length k listed = true → wpQuiet P ops C Lq l a →
    wpHead P md ops C n (fun listed' a' => Region.seqB md ops g n listed' = true ∧ Lq a') l.length listed a
  | [], k, listed, a, _, _, hk, _, hB, h => by
    have : k = n := by simpa using hk
    subst this
    exact ⟨by simpa [Region.lexHead] using hB, h⟩
  | o :: l, k, listed, a, hl, hmk, hk, inv, hB, h => by
    have h0 : ops[k]? = some o := by simpa using (hl 0 (by simp)).symm
    simp only [List.length_cons, Region.lexHead, Bool.and_eq_true] at hB
    obtain ⟨⟨hr, hf⟩, hB'⟩ := hB
    have hkn : k < n := by simp only [List.length_cons] at hk; omega
    have hr' : k ∈ Region.ready md ops listed := by simpa using hr
    have hst : qOp P ops C k (wpQuiet P ops C Lq l) a := by unfold qOp; simp only [h0]; exact h
    obtain ⟨v, hy, hK⟩ := yieldsIn_of_qOp h0 hst
    exact wpHead_first h0 (Region.noSelect_spec hsel) hs hc hn hmk hkn (fun listed' a' hL => seqB_ready hL.1) l.length listed a inv (Region.free_spec h0 hf) hr' hy
      (wpHead_lex hsel hs hc hn l (k + 1) _ _ (fun j hj => by have := hl (j + 1) (by simp; omega); simpa [Nat.add_assoc, Nat.add_comm 1 j] using this) (by omega) (by simp only [List.length_cons] at hk; omega) (inv.set hr' hkn) hB' hK)

/-- The Bools of both forms. -/
def tailB0 (l : List Oper) (n : Nat) : Bool :=
  Region.noSelect l.toArray && decide (n < l.length) && sinkF .any l.toArray 0 n && Region.chainB .any l.toArray n && Region.lexHead .any l.toArray (l.length - n) n 0 (Array.replicate l.length false)
def tailB1 (l : List Oper) (n : Nat) : Bool :=
  Region.noSelect l.toArray && decide (n + 1 < l.length) && sinkF .any l.toArray 1 (n + 1) && Region.chainB .any l.toArray (n + 1) && (Region.ready .any l.toArray (Array.replicate l.length false)).contains 0 && Region.free .any l.toArray (Array.replicate l.length false) 0 &&
    Region.lexHead .any l.toArray (l.length - (n + 1)) n 1 ((Array.replicate l.length false).setIfInBounds 0 true)

theorem head0 (l : List Oper) (n : Nat) : HeadInv .any l.toArray n (Array.replicate l.length false) :=
  ⟨by simp, fun j oj _ hl => (by rw [getD_replicate_false] at hl; cases hl), fun t _ ht => getD_in (by simpa using ht) (getD_replicate_false _ _)⟩

/-- Quiet operations, and behind them the chain. -/
theorem wp_region_quiet_tail {id : Nat} {Q : Exit → Act → World → Prop} {a : Act} {w : World} {l : List Oper} (n : Nat) (hm : P.follows .mixedOrders = true) (hB : tailB0 l n = true)
    (h : wpQuiet P l.toArray (fun w' => ∃ k, w' = w.drewN k) (fun a' => ∀ w', (∃ k, w' = w.drewN k) → wpList P l.toArray Q (l.drop n) a' w') (l.take n) a) : (Code.region id l.toArray true).wp P Q a w := by
  simp only [tailB0, Bool.and_eq_true, decide_eq_true_eq] at hB
  obtain ⟨⟨⟨⟨hsel, hn⟩, hs⟩, hc⟩, hlex⟩ := hB
  have htl : (l.take n).length = n := by simp; omega
  have hdl : (l.drop n).length = l.length - n := by simp
  have H := wpHead_lex (md := .any) (m := 0) (g := l.length - n) hsel hs hc (by simpa using hn) (l.take n) 0 _ a (fun j hj => by
    have hj' : j < n := by rw [htl] at hj; exact hj
    simp [hj']) (Nat.le_refl _) (by simpa using htl) (head0 l n) (by rw [htl]; exact hlex) h
  refine wp_region_any hm ?_
  have := wpAny_of_wpHead (Q' := Q) (g := l.length - n) (fun listed a' w' hw' hL => by
    have := wpAny_of_seq (md := .any) (Q' := Q) (l.drop n) n listed a' w' (fun j => by simp [List.getElem?_drop]) (by rw [hdl]; exact hL.1) (hL.2 w' hw')
    rwa [hdl] at this) _ _ _ { w with drawn := w.drawn + 1 } ⟨1, rfl⟩ H
  rw [htl, show n + (l.length - n) = l.length by omega] at this
  simpa using this

/-- The same where the first operation is waited for by the chain alone: it is a copy, and is taken first. -/
theorem wp_region_move_tail {id : Nat} {Q : Exit → Act → World → Prop} {a : Act} {w : World} {o : Oper} {l : List Oper} (n : Nat) (v : Value) (hm : P.follows .mixedOrders = true) (hB : tailB1 (o :: l) n = true)
    (hQ : ∀ c a w, Q (.panic c) (a.put o.dst v) w → Q (.panic c) a w) (hy : Yields P (o :: l).toArray o v a)
    (h : wpQuiet P (o :: l).toArray (fun w' => ∃ k, w' = w.drewN k) (fun a' => ∀ w', (∃ k, w' = w.drewN k) → wpList P (o :: l).toArray Q (l.drop n) a' w') (l.take n) (a.put o.dst v)) : (Code.region id (o :: l).toArray true).wp P Q a w := by
  simp only [tailB1, Bool.and_eq_true, decide_eq_true_eq, List.length_cons] at hB
  obtain ⟨⟨⟨⟨⟨⟨hsel, hn⟩, hs⟩, hc⟩, hr0⟩, hf0⟩, hlex⟩ := hB
  have htl : (l.take n).length = n := by simp; omega
  have hdl : (l.drop n).length = l.length - n := by simp
  have inv1 : HeadInv .any (o :: l).toArray (n + 1) ((Array.replicate (l.length + 1) false).setIfInBounds 0 true) := (head0 (o :: l) (n + 1)).set (by simpa using hr0) (by omega)
  have H := wpHead_lex (md := .any) (m := 1) (n := n + 1) (g := l.length + 1 - (n + 1)) hsel hs hc (by simpa using hn) (l.take n) 1 _ (a.put o.dst v) (fun j hj => by
    have hj' : j < n := by rw [htl] at hj; exact hj
    rw [Nat.add_comm 1 j]
    simp [hj']) (Nat.le_refl _) (by omega) inv1 (by rw [htl]; exact hlex) h
  refine wp_region_any hm ?_
  have := wpAny_of_wpHead (Q' := Q) (g := l.length + 1 - (n + 1)) (fun listed a' w' hw' hL => by
    have := wpAny_of_seq (md := .any) (Q' := Q) (l.drop n) (n + 1) listed a' w' (fun j => by rw [List.getElem?_drop, show n + 1 + j = (n + j) + 1 by omega]; simp) (by rw [hdl, show l.length - n = l.length + 1 - (n + 1) by omega]; exact hL.1) (hL.2 w' hw')
    rwa [hdl, show l.length - n = l.length + 1 - (n + 1) by omega] at this) _ _ _ { w with drawn := w.drawn + 1 } ⟨1, rfl⟩ H
  rw [htl, show n + (l.length + 1 - (n + 1)) = l.length by omega] at this
  have h2 := wpAny_take (i := 0) (oi := o) (v := v) (fuel := l.length) (listed := Array.replicate (l.length + 1) false) (by simp) hsel hf0 hr0 hQ hy this
  simpa using h2

/-- One operation of a quiet walk, its run told. -/
theorem quiet_run {Q : Act → Prop} {o : Oper} {rest : List Oper} {a : Act} {w : World} (v : Value) (hw : Region.wanted o (yielded ops a.tmps) = true) (h : ∀ n, (execOp a.eval o).run P (w.drewN n) = .ok (.value v) (w.drewN n))
    (hk : wpQuiet P ops (fun w' => ∃ n, w' = w.drewN n) Q rest (a.put o.dst v)) : wpQuiet P ops (fun w' => ∃ n, w' = w.drewN n) Q (o :: rest) a := by
  refine BigFrame.wpQuiet_want hw fun K hK => ⟨v, ?_, hK _ hk⟩
  rintro _ ⟨n, rfl⟩
  unfold Oper.quietAt
  rw [h n]
  exact ⟨rfl, rfl⟩

theorem run_cat (w : World) (o : Oper) (a : Act) (t1 t2 : TypeId) (x y : Operand) (ho : o.op = .binOp .add t1 x y t2) (ht : P.underlying t1 = some .string) (p q : ByteArray) (hx : a.eval x = .string p) (hy : a.eval y = .string q) (hb : p.size + q.size ≤ 9223372036854775807) :
    (execOp a.eval o).run P w = .ok (.value (.string (p ++ q))) w := by
  unfold execOp
  rw [ho]
  simp only [hx, hy]
  simp [go_sem, hb]

theorem yields_move {o : Oper} {a : Act} (hw : Region.wanted o (yielded ops a.tmps) = true) (x : Operand) (h : o.op = .move x) (v : Value) (hv : a.eval x = v) : Yields P ops o v a := by
  subst hv
  exact .inl ⟨hw, fun w => BigFrame.run_move x h w⟩
end
end Go.Proofs.YtgheacegjgaobaaDoor
