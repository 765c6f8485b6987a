/- Sha, Turn, Sha2, Mine, QuietTail, Rel, RelLast, Pure, in one text. -/
import Derived.Test.YtaihojahccplcaaDoorRows
import Derived.WalkKit
import Derived.WalkSpells
import Derived.WalkLawsBesides
import Derived.Lib.Hide
import Derived.Laws.BitsAllLaws
import Derived.Deep.MidRow
import Derived.Deep.RegionHeldLaw
import Derived.ArgAppend
import Derived.Below
import Derived.Lib.SlFresh
import Derived.Lib.SlBuf
import Derived.Lib.SlParts
import Derived.Laws.Tables
import Derived.Lib.ConvBytes
import Derived.StillTail
import Derived.Deep.Quiet
import Derived.BigQuiet
/-
  Plain facts on the sum of bytes: its words, its rounds, its padding. No program in sight.
-/
namespace Sha
set_option linter.unusedVariables false
set_option linter.unusedSimpArgs false

def M : Nat := 4294967296

/-- The constants of the rounds. -/
def K : List Nat := [
  0x428a2f98, 0x71374491, 0xb5c0fbcf, 0xe9b5dba5, 0x3956c25b, 0x59f111f1, 0x923f82a4, 0xab1c5ed5,
  0xd807aa98, 0x12835b01, 0x243185be, 0x550c7dc3, 0x72be5d74, 0x80deb1fe, 0x9bdc06a7, 0xc19bf174,
  0xe49b69c1, 0xefbe4786, 0x0fc19dc6, 0x240ca1cc, 0x2de92c6f, 0x4a7484aa, 0x5cb0a9dc, 0x76f988da,
  0x983e5152, 0xa831c66d, 0xb00327c8, 0xbf597fc7, 0xc6e00bf3, 0xd5a79147, 0x06ca6351, 0x14292967,
  0x27b70a85, 0x2e1b2138, 0x4d2c6dfc, 0x53380d13, 0x650a7354, 0x766a0abb, 0x81c2c92e, 0x92722c85,
  0xa2bfe8a1, 0xa81a664b, 0xc24b8b70, 0xc76c51a3, 0xd192e819, 0xd6990624, 0xf40e3585, 0x106aa070,
  0x19a4c116, 0x1e376c08, 0x2748774c, 0x34b0bcb5, 0x391c0cb3, 0x4ed8aa4a, 0x5b9cca4f, 0x682e6ff3,
  0x748f82ee, 0x78a5636f, 0x84c87814, 0x8cc70208, 0x90befffa, 0xa4506ceb, 0xbef9a3f7, 0xc67178f2]

/-- What a sum begins with. -/
def H0 : List Nat := [0x6a09e667, 0xbb67ae85, 0x3c6ef372, 0xa54ff53a, 0x510e527f, 0x9b05688c, 0x1f83d9ab, 0x5be0cd19]

/-- Turned to the right. -/
def rot (n x : Nat) : Nat := x / 2 ^ n + x % 2 ^ n * 2 ^ (32 - n)

def s0 (x : Nat) : Nat := rot 7 x ^^^ rot 18 x ^^^ x / 8
def s1 (x : Nat) : Nat := rot 17 x ^^^ rot 19 x ^^^ x / 1024
def S0 (x : Nat) : Nat := rot 2 x ^^^ rot 13 x ^^^ rot 22 x
def S1 (x : Nat) : Nat := rot 6 x ^^^ rot 11 x ^^^ rot 25 x
def ch (e f g : Nat) : Nat := g ^^^ (e &&& (f ^^^ g))
def mj (a b c : Nat) : Nat := (a &&& b) ||| (c &&& (a ||| b))

/-- A word of four bytes. -/
def word (l : List UInt8) : Nat := (l.getD 0 0).toNat * 16777216 + (l.getD 1 0).toNat * 65536 + (l.getD 2 0).toNat * 256 + (l.getD 3 0).toNat

/-- The first t of a block's words that are in it. -/
def words (p : List UInt8) (t : Nat) : List Nat := (List.range t).map fun i => word (p.drop (4 * i))

/-- The word behind those that are there. -/
def next (w : List Nat) : Nat := (w.getD (w.length - 16) 0 + w.getD (w.length - 7) 0 + s0 (w.getD (w.length - 15) 0) + s1 (w.getD (w.length - 2) 0)) % M
def grow : Nat → List Nat → List Nat
  | 0, w => w
  | n + 1, w => let v := grow n w; v ++ [next v]

/-- The words of a block's rounds. -/
def sched (p : List UInt8) : List Nat := grow 48 (words p 16)

/-- The eight numbers behind a round. -/
def round (kw : Nat) (v : List Nat) : List Nat :=
  match v with
  | [a, b, c, d, e, f, g, h] =>
    let x := h + S1 e + ch e f g + kw
    [(x + (S0 a + mj a b c)) % M, a, b, c, (d + x) % M, e, f, g]
  | v => v

/-- The first t rounds. -/
def rounds (w : List Nat) (h : List Nat) : Nat → List Nat
  | 0 => h
  | t + 1 => round (K.getD t 0 + w.getD t 0) (rounds w h t)

/-- A block taken. -/
def step (h : List Nat) (p : List UInt8) : List Nat := List.zipWith (fun a b => (a + b) % M) h (rounds (sched p) h 64)

/-- n blocks taken. -/
def run : Nat → List Nat → List UInt8 → List Nat
  | 0, h, _ => h
  | n + 1, h, l => run n (step h (l.take 64)) (l.drop 64)

/-- A number's bytes, the greatest one first. -/
def be (n x : Nat) : List UInt8 := (List.range n).map fun i => UInt8.ofNat (x / 256 ^ (n - 1 - i))

/-- How many 0s are laid. -/
def zeros (n : Nat) : Nat := (119 - n % 64) % 64
def pad (l : List UInt8) : List UInt8 := l ++ [128] ++ List.replicate (zeros l.length) 0 ++ be 8 (8 * l.length)

/-- The sum of bytes. -/
def of (l : List UInt8) : List UInt8 := ((run ((pad l).length / 64) H0 (pad l)).map (be 4)).flatten

set_option maxRecDepth 100000 in
theorem of_abc : of [97, 98, 99] = [0xba, 0x78, 0x16, 0xbf, 0x8f, 0x01, 0xcf, 0xea, 0x41, 0x41, 0x40, 0xde, 0x5d, 0xae, 0x22, 0x23, 0xb0, 0x03, 0x61, 0xa3, 0x96, 0x17, 0x7a, 0x9c, 0xb4, 0x10, 0xff, 0x61, 0xf2, 0x00, 0x15, 0xad] := by decide +kernel

theorem pad_len (l : List UInt8) : (pad l).length % 64 = 0 ∧ l.length + 9 ≤ (pad l).length := by
  unfold pad be zeros
  simp only [List.length_append, List.length_cons, List.length_nil, List.length_replicate, List.length_map, List.length_range]
  omega

theorem words_len (p : List UInt8) (t : Nat) : (words p t).length = t := by simp [words]
theorem grow_len (n : Nat) (w : List Nat) : (grow n w).length = w.length + n := by
  induction n with
  | zero => rfl
  | succ n ih => simp only [grow, List.length_append, List.length_cons, List.length_nil, ih]; omega
theorem sched_len (p : List UInt8) : (sched p).length = 64 := by rw [sched, grow_len, words_len]

theorem grow_take (n m : Nat) (w : List Nat) (h : m ≤ n) : (grow n w).take (w.length + m) = grow m w := by
  induction n with
  | zero => obtain rfl : m = 0 := by omega
            exact List.take_of_length_le (Nat.le_refl _)
  | succ n ih =>
    rcases Nat.lt_or_ge n m with h1 | h1
    · obtain rfl : m = n + 1 := by omega
      exact List.take_of_length_le (by rw [grow_len]; omega)
    · show ((grow n w) ++ [next (grow n w)]).take (w.length + m) = _
      rw [List.take_append_of_le_length (by rw [grow_len]; omega)]
      exact ih h1

theorem word_lt (l : List UInt8) : word l < M := by
  have := (l.getD 0 0).toNat_lt; have := (l.getD 1 0).toNat_lt; have := (l.getD 2 0).toNat_lt; have := (l.getD 3 0).toNat_lt
  unfold word M; omega

theorem words_lt (p : List UInt8) (t : Nat) : ∀ x ∈ words p t, x < M := by
  intro x hx
  obtain ⟨i, _, rfl⟩ := List.mem_map.1 hx
  exact word_lt _

theorem next_lt (w : List Nat) : next w < M := Nat.mod_lt _ (by decide)

theorem grow_lt (n : Nat) (w : List Nat) (h : ∀ x ∈ w, x < M) : ∀ x ∈ grow n w, x < M := by
  induction n with
  | zero => exact h
  | succ n ih =>
    intro x hx
    rcases List.mem_append.1 hx with h1 | h1
    · exact ih x h1
    · obtain rfl := List.mem_singleton.1 h1; exact next_lt _

theorem rot_lt (n x : Nat) (hn : n ≤ 32) (hx : x < M) : rot n x < M := by
  unfold rot M at *
  have h1 : x / 2 ^ n < 2 ^ (32 - n) := by
    rw [Nat.div_lt_iff_lt_mul (Nat.two_pow_pos n), ← Nat.pow_add]
    rw [show 32 - n + n = 32 by omega]; exact hx
  have h2 : x % 2 ^ n < 2 ^ n := Nat.mod_lt _ (Nat.two_pow_pos n)
  have h3 : x % 2 ^ n * 2 ^ (32 - n) ≤ (2 ^ n - 1) * 2 ^ (32 - n) := Nat.mul_le_mul_right _ (by omega)
  have h4 : 2 ^ n * 2 ^ (32 - n) = 4294967296 := by rw [← Nat.pow_add, show n + (32 - n) = 32 by omega]
  rw [Nat.sub_mul, h4, Nat.one_mul] at h3
  have h5 : 2 ^ (32 - n) ≤ 4294967296 := by rw [← h4]; exact Nat.le_mul_of_pos_left _ (Nat.two_pow_pos n)
  omega

/-- A turn, as shifts. -/
theorem rot_shift (n x : Nat) (hn : n ≤ 32) (hx : x < M) : x >>> n ||| (x <<< (32 - n)) % M = rot n x := by
  have h4 : 2 ^ (32 - n) * 2 ^ n = M := by rw [← Nat.pow_add, show 32 - n + n = 32 by omega]; rfl
  have h1 : x / 2 ^ n < 2 ^ (32 - n) := by
    rw [Nat.div_lt_iff_lt_mul (Nat.two_pow_pos n), h4]; exact hx
  unfold rot
  rw [Nat.shiftRight_eq_div_pow, Nat.shiftLeft_eq, ← h4, Nat.mul_comm x, Nat.mul_mod_mul_left, Nat.or_comm, ← Nat.two_pow_add_eq_or_of_lt h1, Nat.add_comm, Nat.mul_comm (x % 2 ^ n)]

theorem ch_ref (e f g : Nat) (he : e < M) (hf : f < M) (hg : g < M) : (e &&& f) ^^^ ((4294967295 - e) &&& g) = ch e f g := by
  apply Nat.eq_of_testBit_eq
  intro i
  unfold ch M at *
  have h1 : (4294967295 - e).testBit i = (decide (i < 32) && !e.testBit i) := by
    have := Nat.testBit_two_pow_sub_succ (x := e) (n := 32) (by simpa using he) i
    rw [← this, show 4294967295 - e = 2 ^ 32 - (e + 1) by rw [show (2 : Nat) ^ 32 = 4294967296 from rfl]; omega]
  have h2 : ¬ i < 32 → g.testBit i = false := fun h => Nat.testBit_lt_two_pow (Nat.lt_of_lt_of_le hg (Nat.pow_le_pow_right (n := 2) (by decide) (by omega : 32 ≤ i)))
  simp only [Nat.testBit_xor, Nat.testBit_and, h1]
  by_cases hi : i < 32
  · simp only [hi, decide_true, Bool.true_and]
    cases e.testBit i <;> cases f.testBit i <;> cases g.testBit i <;> rfl
  · rw [h2 hi]
    simp [hi]

theorem mj_ref (a b c : Nat) : (a &&& b) ^^^ (a &&& c) ^^^ (b &&& c) = mj a b c := by
  apply Nat.eq_of_testBit_eq
  intro i
  unfold mj
  simp only [Nat.testBit_xor, Nat.testBit_and, Nat.testBit_or]
  cases a.testBit i <;> cases b.testBit i <;> cases c.testBit i <;> rfl

end Sha

/- The walk of hash.turn. -/
namespace Go.Proofs.YtaihojahccplcaaDoor
open Go.RowKit
set_option linter.unusedSimpArgs false

theorem rot_or (n p q x : Nat) (hn : n ≤ 32) (hp : p = 2 ^ (32 - n)) (hq : q = 2 ^ n) (hx : x < 4294967296) : bits BinOp.or IntKind.u32 ((x : Int) * (p : Int) % 4294967296) ((x : Int) / (q : Int)) = (Sha.rot n x : Nat) := by
  subst hp hq
  have h2 : x / 2 ^ n < 4294967296 := Nat.lt_of_le_of_lt (Nat.div_le_self _ _) hx
  have e1 : ((x : Int) * ((2 ^ (32 - n) : Nat) : Int) % 4294967296) = ((x * 2 ^ (32 - n) % 4294967296 : Nat) : Int) := by rw [Int.natCast_emod, Int.natCast_mul]; rfl
  have e2 : ((x : Int) / ((2 ^ n : Nat) : Int)) = ((x / 2 ^ n : Nat) : Int) := by rw [Int.natCast_ediv]
  have hr := Sha.rot_shift n x hn hx
  rw [Nat.shiftRight_eq_div_pow, Nat.shiftLeft_eq, Nat.or_comm] at hr
  rw [e1, e2, u32_or_nat _ _ (Nat.mod_lt _ (by decide)) h2]
  exact congrArg _ hr

set_option maxRecDepth 100000 in
set_option maxHeartbeats 400000 in
theorem turn_2 (x : Nat) (hx : x < 4294967296) (w : World) :
    Calls Tryd.prog 67 #[.int .u32 x, .int .i64 2] w fun e w' => w = w' ∧ e = .returned (.int .u32 (Sha.rot 2 x)) := by
  have hb : bits BinOp.and IntKind.u64 (IntKind.u64.wrap (-2)) 31 = 30 := by decide
  have ho := rot_or 2 1073741824 4 x (by decide) (by decide) (by decide) hx
  have HO := Lib.hid ho; clear ho
  go_enter Tryd.func67, Tryd.ntmps67
  go_wp2
  go_ret
  exact ⟨rfl, congrArg (fun z => Ending.returned (.int .u32 z)) HO.out⟩

set_option maxRecDepth 100000 in
set_option maxHeartbeats 400000 in
theorem turn_6 (x : Nat) (hx : x < 4294967296) (w : World) :
    Calls Tryd.prog 67 #[.int .u32 x, .int .i64 6] w fun e w' => w = w' ∧ e = .returned (.int .u32 (Sha.rot 6 x)) := by
  have hb : bits BinOp.and IntKind.u64 (IntKind.u64.wrap (-6)) 31 = 26 := by decide
  have ho := rot_or 6 67108864 64 x (by decide) (by decide) (by decide) hx
  have HO := Lib.hid ho; clear ho
  go_enter Tryd.func67, Tryd.ntmps67
  go_wp2
  go_ret
  exact ⟨rfl, congrArg (fun z => Ending.returned (.int .u32 z)) HO.out⟩

set_option maxRecDepth 100000 in
set_option maxHeartbeats 400000 in
theorem turn_7 (x : Nat) (hx : x < 4294967296) (w : World) :
    Calls Tryd.prog 67 #[.int .u32 x, .int .i64 7] w fun e w' => w = w' ∧ e = .returned (.int .u32 (Sha.rot 7 x)) := by
  have hb : bits BinOp.and IntKind.u64 (IntKind.u64.wrap (-7)) 31 = 25 := by decide
  have ho := rot_or 7 33554432 128 x (by decide) (by decide) (by decide) hx
  have HO := Lib.hid ho; clear ho
  go_enter Tryd.func67, Tryd.ntmps67
  go_wp2
  go_ret
  exact ⟨rfl, congrArg (fun z => Ending.returned (.int .u32 z)) HO.out⟩

set_option maxRecDepth 100000 in
set_option maxHeartbeats 400000 in
theorem turn_11 (x : Nat) (hx : x < 4294967296) (w : World) :
    Calls Tryd.prog 67 #[.int .u32 x, .int .i64 11] w fun e w' => w = w' ∧ e = .returned (.int .u32 (Sha.rot 11 x)) := by
  have hb : bits BinOp.and IntKind.u64 (IntKind.u64.wrap (-11)) 31 = 21 := by decide
  have ho := rot_or 11 2097152 2048 x (by decide) (by decide) (by decide) hx
  have HO := Lib.hid ho; clear ho
  go_enter Tryd.func67, Tryd.ntmps67
  go_wp2
  go_ret
  exact ⟨rfl, congrArg (fun z => Ending.returned (.int .u32 z)) HO.out⟩

set_option maxRecDepth 100000 in
set_option maxHeartbeats 400000 in
theorem turn_13 (x : Nat) (hx : x < 4294967296) (w : World) :
    Calls Tryd.prog 67 #[.int .u32 x, .int .i64 13] w fun e w' => w = w' ∧ e = .returned (.int .u32 (Sha.rot 13 x)) := by
  have hb : bits BinOp.and IntKind.u64 (IntKind.u64.wrap (-13)) 31 = 19 := by decide
  have ho := rot_or 13 524288 8192 x (by decide) (by decide) (by decide) hx
  have HO := Lib.hid ho; clear ho
  go_enter Tryd.func67, Tryd.ntmps67
  go_wp2
  go_ret
  exact ⟨rfl, congrArg (fun z => Ending.returned (.int .u32 z)) HO.out⟩

set_option maxRecDepth 100000 in
set_option maxHeartbeats 400000 in
theorem turn_17 (x : Nat) (hx : x < 4294967296) (w : World) :
    Calls Tryd.prog 67 #[.int .u32 x, .int .i64 17] w fun e w' => w = w' ∧ e = .returned (.int .u32 (Sha.rot 17 x)) := by
  have hb : bits BinOp.and IntKind.u64 (IntKind.u64.wrap (-17)) 31 = 15 := by decide
  have ho := rot_or 17 32768 131072 x (by decide) (by decide) (by decide) hx
  have HO := Lib.hid ho; clear ho
  go_enter Tryd.func67, Tryd.ntmps67
  go_wp2
  go_ret
  exact ⟨rfl, congrArg (fun z => Ending.returned (.int .u32 z)) HO.out⟩

set_option maxRecDepth 100000 in
set_option maxHeartbeats 400000 in
theorem turn_18 (x : Nat) (hx : x < 4294967296) (w : World) :
    Calls Tryd.prog 67 #[.int .u32 x, .int .i64 18] w fun e w' => w = w' ∧ e = .returned (.int .u32 (Sha.rot 18 x)) := by
  have hb : bits BinOp.and IntKind.u64 (IntKind.u64.wrap (-18)) 31 = 14 := by decide
  have ho := rot_or 18 16384 262144 x (by decide) (by decide) (by decide) hx
  have HO := Lib.hid ho; clear ho
  go_enter Tryd.func67, Tryd.ntmps67
  go_wp2
  go_ret
  exact ⟨rfl, congrArg (fun z => Ending.returned (.int .u32 z)) HO.out⟩

set_option maxRecDepth 100000 in
set_option maxHeartbeats 400000 in
theorem turn_19 (x : Nat) (hx : x < 4294967296) (w : World) :
    Calls Tryd.prog 67 #[.int .u32 x, .int .i64 19] w fun e w' => w = w' ∧ e = .returned (.int .u32 (Sha.rot 19 x)) := by
  have hb : bits BinOp.and IntKind.u64 (IntKind.u64.wrap (-19)) 31 = 13 := by decide
  have ho := rot_or 19 8192 524288 x (by decide) (by decide) (by decide) hx
  have HO := Lib.hid ho; clear ho
  go_enter Tryd.func67, Tryd.ntmps67
  go_wp2
  go_ret
  exact ⟨rfl, congrArg (fun z => Ending.returned (.int .u32 z)) HO.out⟩

set_option maxRecDepth 100000 in
set_option maxHeartbeats 400000 in
theorem turn_22 (x : Nat) (hx : x < 4294967296) (w : World) :
    Calls Tryd.prog 67 #[.int .u32 x, .int .i64 22] w fun e w' => w = w' ∧ e = .returned (.int .u32 (Sha.rot 22 x)) := by
  have hb : bits BinOp.and IntKind.u64 (IntKind.u64.wrap (-22)) 31 = 10 := by decide
  have ho := rot_or 22 1024 4194304 x (by decide) (by decide) (by decide) hx
  have HO := Lib.hid ho; clear ho
  go_enter Tryd.func67, Tryd.ntmps67
  go_wp2
  go_ret
  exact ⟨rfl, congrArg (fun z => Ending.returned (.int .u32 z)) HO.out⟩

set_option maxRecDepth 100000 in
set_option maxHeartbeats 400000 in
theorem turn_25 (x : Nat) (hx : x < 4294967296) (w : World) :
    Calls Tryd.prog 67 #[.int .u32 x, .int .i64 25] w fun e w' => w = w' ∧ e = .returned (.int .u32 (Sha.rot 25 x)) := by
  have hb : bits BinOp.and IntKind.u64 (IntKind.u64.wrap (-25)) 31 = 7 := by decide
  have ho := rot_or 25 128 33554432 x (by decide) (by decide) (by decide) hx
  have HO := Lib.hid ho; clear ho
  go_enter Tryd.func67, Tryd.ntmps67
  go_wp2
  go_ret
  exact ⟨rfl, congrArg (fun z => Ending.returned (.int .u32 z)) HO.out⟩

end Go.Proofs.YtaihojahccplcaaDoor

/-
  Plain facts on the sum of bytes: block by block, word by word, round by round. No program in sight.
-/
namespace Sha
set_option linter.unusedVariables false
set_option linter.unusedSimpArgs false

/-- j blocks taken. -/
def after : Nat → List Nat → List UInt8 → List Nat
  | 0, h, _ => h
  | j + 1, h, l => step (after j h l) ((l.drop (64 * j)).take 64)

theorem run_after (n : Nat) : ∀ (j : Nat) (h : List Nat) (l : List UInt8), run n (after j h l) (l.drop (64 * j)) = after (j + n) h l := by
  induction n with
  | zero => intro j h l; rfl
  | succ n ih =>
    intro j h l
    show run n (step (after j h l) ((l.drop (64 * j)).take 64)) ((l.drop (64 * j)).drop 64) = _
    rw [List.drop_drop, show 64 * j + 64 = 64 * (j + 1) by omega]
    have := ih (j + 1) h l
    rw [show j + 1 + n = j + (n + 1) by omega] at this
    exact this

theorem run_eq (n : Nat) (h : List Nat) (l : List UInt8) : run n h l = after n h l := by
  have := run_after n 0 h l
  rw [Nat.zero_add] at this
  exact this

theorem list8 {α : Type} (v : List α) (h : v.length = 8) : ∃ a b c d e f g k, v = [a, b, c, d, e, f, g, k] := by
  match v, h with
  | [a, b, c, d, e, f, g, k], _ => exact ⟨a, b, c, d, e, f, g, k, rfl⟩

theorem round_len (kw : Nat) (v : List Nat) (h : v.length = 8) : (round kw v).length = 8 := by
  obtain ⟨a, b, c, d, e, f, g, k, rfl⟩ := list8 v h; rfl
theorem rounds_len (w h : List Nat) (t : Nat) (hl : h.length = 8) : (rounds w h t).length = 8 := by
  induction t with
  | zero => exact hl
  | succ t ih => exact round_len _ _ ih
theorem M_pos : 0 < M := by decide
theorem round_lt (kw : Nat) (v : List Nat) (h : v.length = 8) (hv : ∀ x ∈ v, x < M) : ∀ x ∈ round kw v, x < M := by
  obtain ⟨a, b, c, d, e, f, g, k, rfl⟩ := list8 v h
  simp only [List.mem_cons, List.not_mem_nil, or_false, forall_eq_or_imp, forall_eq] at hv
  intro x hx
  simp only [round, List.mem_cons, List.not_mem_nil, or_false] at hx
  rcases hx with rfl | rfl | rfl | rfl | rfl | rfl | rfl | rfl
  · exact Nat.mod_lt _ M_pos
  · exact hv.1
  · exact hv.2.1
  · exact hv.2.2.1
  · exact Nat.mod_lt _ M_pos
  · exact hv.2.2.2.2.1
  · exact hv.2.2.2.2.2.1
  · exact hv.2.2.2.2.2.2.1
theorem rounds_lt (w h : List Nat) (t : Nat) (hl : h.length = 8) (hh : ∀ x ∈ h, x < M) : ∀ x ∈ rounds w h t, x < M := by
  induction t with
  | zero => exact hh
  | succ t ih => exact round_lt _ _ (rounds_len _ _ _ hl) ih
theorem step_len (h : List Nat) (p : List UInt8) (hl : h.length = 8) : (step h p).length = 8 := by
  unfold step
  rw [List.length_zipWith, hl, rounds_len _ _ _ hl]; rfl
theorem step_lt (h : List Nat) (p : List UInt8) : ∀ x ∈ step h p, x < M := by
  intro x hx
  unfold step at hx
  rw [List.mem_iff_getElem?] at hx
  obtain ⟨i, hi⟩ := hx
  rw [List.getElem?_zipWith] at hi
  split at hi
  · cases hi; exact Nat.mod_lt _ M_pos
  · cases hi
theorem after_len (j : Nat) (h : List Nat) (l : List UInt8) (hl : h.length = 8) : (after j h l).length = 8 := by
  induction j with
  | zero => exact hl
  | succ j ih => exact step_len _ _ ih
theorem after_lt (j : Nat) (h : List Nat) (l : List UInt8) (hh : ∀ x ∈ h, x < M) : ∀ x ∈ after j h l, x < M := by
  cases j with
  | zero => exact hh
  | succ j => exact step_lt _ _

theorem H0_len : H0.length = 8 := rfl
theorem H0_lt : ∀ x ∈ H0, x < M := by decide
theorem K_len : K.length = 64 := rfl
theorem K_lt : ∀ x ∈ K, x < M := by decide

/-- The first t words of a block's rounds. -/
def wAt (p : List UInt8) (t : Nat) : List Nat := if t ≤ 16 then words p t else grow (t - 16) (words p 16)

theorem wAt_len (p : List UInt8) (t : Nat) : (wAt p t).length = t := by
  unfold wAt; split
  · exact words_len _ _
  · rw [grow_len, words_len]; omega
theorem wAt_lt (p : List UInt8) (t : Nat) : ∀ x ∈ wAt p t, x < M := by
  unfold wAt; split
  · exact words_lt _ _
  · exact grow_lt _ _ (words_lt _ _)
theorem wAt_word (p : List UInt8) (t : Nat) (h : t < 16) : wAt p (t + 1) = wAt p t ++ [word (p.drop (4 * t))] := by
  unfold wAt
  rw [if_pos (by omega), if_pos (by omega)]
  unfold words
  rw [List.range_succ, List.map_append]; rfl
theorem wAt_next (p : List UInt8) (t : Nat) (h : 16 ≤ t) : wAt p (t + 1) = wAt p t ++ [next (wAt p t)] := by
  have e : wAt p t = grow (t - 16) (words p 16) := by
    unfold wAt
    split
    · obtain rfl : t = 16 := by omega
      rfl
    · rfl
  rw [e]
  unfold wAt
  rw [if_neg (by omega), show t + 1 - 16 = (t - 16) + 1 by omega]; rfl
theorem wAt_all (p : List UInt8) : wAt p 64 = sched p := rfl

theorem xor3_lt (a b c : Nat) (ha : a < 4294967296) (hb : b < 4294967296) (hc : c < 4294967296) : a ^^^ b ^^^ c < 4294967296 := by
  have h1 : a ^^^ b < 2 ^ 32 := Nat.xor_lt_two_pow ha hb
  exact Nat.xor_lt_two_pow (n := 32) h1 hc
theorem S0_lt (x : Nat) (hx : x < M) : S0 x < M := xor3_lt _ _ _ (rot_lt 2 x (by decide) hx) (rot_lt 13 x (by decide) hx) (rot_lt 22 x (by decide) hx)
theorem S1_lt (x : Nat) (hx : x < M) : S1 x < M := xor3_lt _ _ _ (rot_lt 6 x (by decide) hx) (rot_lt 11 x (by decide) hx) (rot_lt 25 x (by decide) hx)
theorem ch_lt (e f g : Nat) (he : e < M) (hf : f < M) (hg : g < M) : ch e f g < M := by
  have h1 : f ^^^ g < 2 ^ 32 := Nat.xor_lt_two_pow hf hg
  have h2 : e &&& (f ^^^ g) < 2 ^ 32 := Nat.and_lt_two_pow _ h1
  exact Nat.xor_lt_two_pow (n := 32) hg h2
theorem mj_lt (a b c : Nat) (ha : a < M) (hb : b < M) (hc : c < M) : mj a b c < M := by
  have h1 : a &&& b < 2 ^ 32 := Nat.and_lt_two_pow _ hb
  have h2 : a ||| b < 2 ^ 32 := Nat.or_lt_two_pow ha hb
  have h3 : c &&& (a ||| b) < 2 ^ 32 := Nat.and_lt_two_pow _ h2
  exact Nat.or_lt_two_pow (n := 32) h1 h3

/-- The first t sums of two rows, and what is left of the first. -/
def addTo (h v : List Nat) (t : Nat) : List Nat := List.zipWith (fun a b => (a + b) % M) (h.take t) (v.take t) ++ h.drop t
theorem addTo_zero (h v : List Nat) : addTo h v 0 = h := by simp [addTo]
theorem addTo_all (h v : List Nat) (n : Nat) (h1 : h.length = n) (h2 : v.length = n) : addTo h v n = List.zipWith (fun a b => (a + b) % M) h v := by
  subst h1
  unfold addTo
  rw [List.take_length, List.drop_length, ← h2, List.take_length, List.append_nil]
theorem addTo_get (h v : List Nat) (t a b : Nat) (ha : h[t]? = some a) (hb : v[t]? = some b) : (addTo h v t)[t]? = some a ∧ (addTo h v t).set t ((a + b) % M) = addTo h v (t + 1) := by
  obtain ⟨l1, e1⟩ := List.getElem?_eq_some_iff.1 ha
  obtain ⟨l2, e2⟩ := List.getElem?_eq_some_iff.1 hb
  have hz : (List.zipWith (fun a b => (a + b) % M) (h.take t) (v.take t)).length = t := by
    rw [List.length_zipWith, List.length_take, List.length_take]; omega
  have hd : h.drop t = a :: h.drop (t + 1) := by rw [List.drop_eq_getElem_cons l1, e1]
  unfold addTo
  constructor
  · rw [List.getElem?_append_right (by omega), hz, Nat.sub_self, hd]; rfl
  · rw [List.set_append_right _ _ (by omega), hz, Nat.sub_self, hd, List.set_cons_zero]
    rw [List.take_succ_eq_append_getElem l1, List.take_succ_eq_append_getElem l2, e1, e2, List.zipWith_append (by rw [List.length_take, List.length_take]; omega)]
    simp

theorem be_len (n x : Nat) : (be n x).length = n := by simp [be]
theorem flat_len {α : Type} (f : α → List UInt8) (k : Nat) (h : ∀ a, (f a).length = k) : ∀ l : List α, ((l.map f).flatten).length = l.length * k := by
  intro l
  induction l with
  | nil => simp
  | cons a l ih => simp only [List.map_cons, List.flatten_cons, List.length_append, ih, h, List.length_cons]; rw [Nat.add_mul]; omega
theorem of_len (l : List UInt8) : (of l).length = 32 := by
  unfold of
  rw [flat_len (be 4) 4 (fun x => be_len 4 x), run_eq, after_len _ _ _ H0_len]
theorem of_eq (l : List UInt8) : of l = ((after ((pad l).length / 64) H0 (pad l)).map (be 4)).flatten := by unfold of; rw [run_eq]

end Sha

/- A slice of bytes that a call holds for itself, with or without room: one byte more. And the parts that bytes.Join takes. -/
namespace Go.Proofs.YtaihojahccplcaaDoor
open Go.RowKit
set_option linter.unusedSimpArgs false

/-- An array of numbers, by value: its part i. -/
theorem run_index_arr {P : Program} (w : World) (t e : TypeId) (n : Nat) (k : IntKind) (cs : Array Value) (v : Value) (i : Nat) (ht : P.underlying t = some (.array n e)) (he : P.underlying e = some (.int k)) (hs : (P.info? e).map (·.size) = some 1) (hi : i < n) (hv : cs[i]? = some v) :
    (Instr.index t (.agg cs) (.int .i64 (i : Int))).run P w = .ok v w := by
  obtain ⟨ie, h1, h2⟩ := Option.map_eq_some_iff.1 hs
  simp [Instr.index, asIntOf, run_underlying ht, run_underlying he, hi, part, isAgg, sizeOf, typeInfo, h1, h2, hv]

/-- A composite of no part. -/
theorem wpList_build0 {P : Program} {ops : Array Oper} {rest : List Oper} {o : Oper} {a : Act} {w : World} {Q : Exit → Act → World → Prop} (hg : o.guard = none) (t : TypeId) (ho : o.op = .build t #[])
    (cs : Array Value) (hb : P.built t [] = some cs)
    (h : wpList P ops Q rest (a.put o.dst (.agg cs)) w) : wpList P ops Q (o :: rest) a w := by
  have e : ((#[] : Array (Nat × Operand)).map fun (p : Nat × Operand) => (p.1, a.eval p.2)).toList = [] := by simp
  refine wpList_build hg t #[] ho ?_ ?_
  · show (P.built t ((#[] : Array (Nat × Operand)).map fun (p : Nat × Operand) => (p.1, a.eval p.2)).toList).isSome = true
    rw [e, hb]; rfl
  · show wpList P ops Q rest (a.put o.dst (.agg ((P.built t ((#[] : Array (Nat × Operand)).map fun (p : Nat × Operand) => (p.1, a.eval p.2)).toList).getD #[]))) w
    rw [e, hb]; exact h

/-- The cells of bytes. -/
def byteCells (l : List UInt8) : List Value := l.map fun x => .int .u8 x.toNat
theorem byteCells_length (l : List UInt8) : (byteCells l).length = l.length := by simp [byteCells]
theorem byteCells_append (a b : List UInt8) : byteCells (a ++ b) = byteCells a ++ byteCells b := by simp [byteCells]
theorem byteCells_one (l : List UInt8) : ∀ u ∈ byteCells l, u.oneCell' = true := by
  intro u hu
  obtain ⟨_, _, rfl⟩ := List.mem_map.1 hu
  rfl
theorem byteCells_get {l : List UInt8} {i : Nat} {x : UInt8} (h : l[i]? = some x) : (byteCells l)[i]? = some (.int .u8 (x.toNat : Int)) := by simp [byteCells, h]

/-- Bytes as a string. -/
def strOf (l : List UInt8) : ByteArray := ⟨l.toArray⟩
theorem strOf_size (l : List UInt8) : (strOf l).size = l.length := by simp [strOf, ByteArray.size]
theorem strOf_list (l : List UInt8) : (strOf l).data.toList = l := by simp [strOf]
theorem strOf_toList (l : List UInt8) : (strOf l).toList = l := by rw [ByteArray.toList_eq, strOf_list]
theorem strOf_data (s : ByteArray) : strOf s.data.toList = s := by simp [strOf]
theorem strOf_extract (l : List UInt8) (a b : Nat) : (strOf l).extract a b = strOf ((l.drop a).take (b - a)) := by
  apply ByteArray.ext
  simp [strOf, ByteArray.data_extract]
theorem strOf_from (l : List UInt8) (a : Nat) : (strOf l).extract a l.length = strOf (l.drop a) := by
  rw [strOf_extract, List.take_of_length_le (by simp)]

theorem add_str (a b : List UInt8) : strOf a ++ strOf b = strOf (a ++ b) := by
  apply ByteArray.ext
  simp [strOf, ByteArray.data_append]

/-- The cells of a sum that is all 0. -/
def zero32 : Array Value := (byteCells (List.replicate 32 0)).toArray
theorem byteCells_set (l : List UInt8) (i : Nat) (x : UInt8) : (byteCells l).toArray.setIfInBounds i (.int .u8 (x.toNat : Int)) = (byteCells (l.set i x)).toArray := by
  simp [byteCells, List.map_set]
theorem range_row {w : World} {b : Nat} {cs : List Value} {t : TypeId} {fr : Nat × Nat} (h : w.heap[b]? = some (.cells cs.toArray t fr)) : w.rangeAt b 0 cs := by
  intro j v hv
  rw [Nat.zero_add]
  unfold World.cell?
  rw [h]
  simpa using hv

/-- The value v is a slice of the bytes l, of the call's own: its block stands from B on. -/
def Mine (w : World) (B : Nat) (v : Value) (l : List UInt8) : Prop :=
  (v = .slice none 0 0 ∧ l = []) ∨ ∃ g cap, v = .slice (some ⟨g, 0, none⟩) l.length cap ∧ B ≤ g ∧ (0 < cap → g < w.heap.size) ∧ l.length ≤ cap ∧ cap ≤ maxLen ∧ w.rangeAt g 0 (byteCells l) ∧ w.there g l.length (cap - l.length)

theorem Mine.nil (w : World) (B : Nat) : Mine w B (.slice none 0 0) [] := .inl ⟨rfl, rfl⟩

theorem Mine.mono {w : World} {B B' : Nat} {v : Value} {l : List UInt8} (h : Mine w B v l) (hB : B' ≤ B) : Mine w B' v l :=
  h.imp id fun ⟨g, cap, h1, h2, h3⟩ => ⟨g, cap, h1, Nat.le_trans hB h2, h3⟩

theorem Mine.kept {w w' : World} {B : Nat} {v : Value} {l : List UInt8} (h : Mine w B v l) (hs : w.heap.size ≤ w'.heap.size) (hb : ∀ k, v.ownBlock = some k → k < w.heap.size → w'.heap[k]? = w.heap[k]?) : Mine w' B v l := by
  rcases h with h | ⟨g, cap, rfl, h1, h2, h3, h4, h5, h6⟩
  · exact .inl h
  · refine .inr ⟨g, cap, rfl, h1, fun h0 => Nat.lt_of_lt_of_le (h2 h0) hs, h3, h4, fun j u hu => ?_, fun j hj => ?_⟩
    · have := (List.getElem?_eq_some_iff.1 hu).1
      rw [byteCells_length] at this
      have e := hb g rfl (h2 (by omega))
      rw [World.cell?_of_block (a := ⟨g, 0 + j, none⟩) e]; exact h5 j u hu
    · have e := hb g rfl (h2 (by omega))
      rw [World.cell?_of_block (a := ⟨g, l.length + j, none⟩) e, World.frozen?_of_block (a := ⟨g, l.length + j, none⟩) e]; exact h6 j hj

theorem Mine.lt {w : World} {B : Nat} {v : Value} {l : List UInt8} (h : Mine w B v l) : ∀ k, v.ownBlock = some k → B ≤ k := by
  intro k hk
  rcases h with ⟨rfl, _⟩ | ⟨g, cap, rfl, h1, _⟩
  · simp [Value.ownBlock] at hk
  · simp [Value.ownBlock] at hk
    subst hk
    exact h1

theorem Mine.below {w w' : World} {B : Nat} {v : Value} {l : List UInt8} (h : Mine w B v l) (hb : Below w.heap.size w w') : Mine w' B v l :=
  h.kept hb.size fun k _ hk => hb.block k hk

theorem Mine.alloc {w : World} {B : Nat} {v : Value} {l : List UInt8} (h : Mine w B v l) (o : Obj) : Mine (w.alloc o) B v l :=
  h.below ((Below.refl _ _).alloc (Nat.le_refl _) _)

theorem Mine.of_own {w : World} {B : Nat} {e : TypeId} {v : Value} {n : Nat} {l : List UInt8} (h : w.ownsRow B e 1 v n (byteCells l)) : Mine w B v l := by
  have hl := h.1
  rw [byteCells_length, Nat.mul_one] at hl
  subst hl
  have hcell := fun g hg => h.cells (g := g) hg
  rcases h.2 with ⟨rfl, h0⟩ | ⟨g, cap, cur, rfl, hb, hg, hnc, hcm, hcs, _⟩
  · exact .inl ⟨rfl, List.eq_nil_of_length_eq_zero h0⟩
  · refine .inr ⟨g, cap, rfl, hb, fun _ => (Array.getElem?_eq_some_iff.1 hg).1, hnc, hcm, fun j u hu => ?_, fun j hj => ?_⟩
    · have := hcell g rfl j u hu
      rw [Addr.add_mid] at this; exact this
    · have hlt : l.length + j < cur.size := by omega
      simp [World.cell?, World.frozen?, hg, hlt]

theorem setCells_size (g : Nat) : ∀ (vs : List Value) (o : Nat) (w : World), (w.setCells g o vs).heap.size = w.heap.size
  | [], _, _ => rfl
  | _ :: r, o, w => by
    show ((w.setCell _ _).setCells g (o + 1) r).heap.size = _
    rw [setCells_size g r]; simp

theorem Below.setCells' {B g : Nat} (hg : B ≤ g) : ∀ (vs : List Value) (o : Nat) (w : World), Below B w (w.setCells g o vs)
  | [], _, w => Below.refl _ w
  | v :: r, o, w => ((Below.refl B w).setCell (p := ⟨g, o, none⟩) hg v).trans (Below.setCells' hg r (o + 1) _)

theorem below_setRow' {B b : Nat} {w w' : World} {cs : Array Value} (h : Below B w w') (hb : B ≤ b) : Below B w (w'.setRow b cs) :=
  ⟨h.os, h.tape, h.output, by simpa [World.setRow] using h.size, fun k hk => by rw [setRow_other _ _ _ _ (by omega)]; exact h.block k hk⟩

/-- ONE BYTE MORE, or several, that lie somewhere. -/
theorem Mine.push {P : Program} {t ty e : TypeId} {i : TypeInfo} {z : Value} (ht : P.underlying t = some (.slice e)) (hi : P.info? e = some i) (hz : i.zero = some z) (hs : i.size = 1) (hby : i.bytes = 1) (hzs : z.cells.size = 1)
    {W : World} {B : Nat} {v : Value} {l : List UInt8} (h : Mine W B v l) (hB : B ≤ W.heap.size) (news : List UInt8) (hpos : 0 < news.length) (hl : l.length + news.length ≤ 140737488355328) (a : Addr) (c : Nat) (hx : ∀ j u, (byteCells news)[j]? = some u → W.cell? (a.add j) = some u) :
    ∃ v' w', (Builtin.append_ #[t, t] ty #[v, .slice (some a) news.length c]).run P W = .ok v' w' ∧ Mine w' B v' (l ++ news) ∧ Below B W w' ∧ ∃ g cap, v' = .slice (some ⟨g, 0, none⟩) (l ++ news).length cap := by
  have fin : ∀ (v' : Value) (w' : World), w'.ownsRow B e 1 v' (l.length + news.length) (byteCells (l ++ news)) → ∃ g cap, v' = .slice (some ⟨g, 0, none⟩) (l ++ news).length cap := by
    intro v' w' ho
    rcases ho.2 with ⟨_, h0⟩ | ⟨g, cap, _, rfl, _⟩
    · omega
    · exact ⟨g, cap, by rw [List.length_append]⟩
  rcases h with ⟨rfl, rfl⟩ | ⟨g, cap, rfl, hg, hlt, hle, hm, hr, hth⟩
  · obtain ⟨v', w', h1, h2, h3, _⟩ := run_append_own (P := P) W B t ty e i z 1 1 ht hi hz hs hby hzs (by decide) (.slice none 0 0) 0 [] (World.ownsRow_nil _ _ _ _) a news.length c (byteCells news) (by rw [byteCells_length, Nat.mul_one]) hx (byteCells_one _) (by unfold maxLen; simp at hl; omega) (by simp at hl; omega) hB
    rw [List.nil_append] at h2
    refine ⟨v', w', h1, Mine.of_own h2, (Below.refl _ _).grown h3 hB (fun k hk => by simp [Value.ownBlock] at hk), fin v' w' ?_⟩
    simpa using h2
  · by_cases hroom : l.length + news.length ≤ cap
    · have hr1 := run_append_room_cells (P := P) W t ty e i ht hi g 0 l.length cap a news.length c (byteCells news) (by rw [byteCells_length, hs, Nat.mul_one]) hx (byteCells_one _) hroom
        (fun j hj => by rw [byteCells_length] at hj; have := (hth j (by omega)).1; rw [hs]; simpa using this) (fun j hj => by rw [byteCells_length] at hj; have := (hth j (by omega)).2; rw [hs]; simpa using this)
      rw [hs, Nat.zero_add, Nat.mul_one] at hr1
      refine ⟨_, _, hr1, .inr ⟨g, cap, by rw [List.length_append], hg, fun h0 => by rw [setCells_size]; exact hlt h0, by rw [List.length_append]; exact hroom, hm, fun j u hu => ?_, fun j hj => ?_⟩, Below.setCells' hg _ _ _, ⟨g, cap, by rw [List.length_append]⟩⟩
      · rw [byteCells_append] at hu
        by_cases hj : j < l.length
        · rw [List.getElem?_append_left (by rw [byteCells_length]; exact hj)] at hu
          rw [World.cell?_setCells_out _ _ _ _ _ (fun _ _ => by simp only; omega)]
          exact hr j u hu
        · rw [List.getElem?_append_right (by rw [byteCells_length]; omega), byteCells_length] at hu
          have hjl := (List.getElem?_eq_some_iff.1 hu).1
          have := World.cell?_setCells_in g (byteCells news) l.length W (fun j hj => (hth j (by rw [byteCells_length] at hj; omega)).1) (j - l.length) hjl
          rw [show 0 + j = l.length + (j - l.length) by omega, this]
          rw [List.getElem?_eq_getElem hjl] at hu; exact hu
      · rw [List.length_append] at hj
        rw [World.frozen?_setCells, World.cell?_setCells_out _ _ _ _ _ (fun _ _ => by simp only [List.length_append, byteCells_length]; omega)]
        have := hth (news.length + j) (by omega)
        rw [List.length_append, Nat.add_assoc]; exact this
    · obtain ⟨v', w', h1, h2, h3⟩ := run_append_arg_grows (P := P) W t ty e i z 1 1 ht hi hz hs hby hzs (by decide) ⟨g, 0, none⟩ l.length cap (byteCells l) (by rw [byteCells_length, Nat.mul_one]) (fun j u hu => by rw [Addr.add_mid]; exact hr j u hu)
        a news.length c (byteCells news) (by rw [byteCells_length, Nat.mul_one]) hx (by omega) (by unfold maxLen; omega) (by omega)
      rw [← byteCells_append] at h2
      have h2' : w'.ownsRow B e 1 v' (l.length + news.length) (byteCells (l ++ news)) := ⟨h2.1, h2.2.imp id fun ⟨g, cap, cur, a1, a2, a3⟩ => ⟨g, cap, cur, a1, Nat.le_trans hB a2, a3⟩⟩
      exact ⟨v', w', h1, Mine.of_own h2', (Below.refl _ _).grown h3 hB (fun k hk => by cases hk), fin v' w' h2'⟩

theorem Mine.fresh {w : World} {B : Nat} {v : Value} {l : List UInt8} (h : Lib.FreshBytes B w v l) : Mine w B v l := by
  obtain ⟨g, cap, zs, rfl, hB, hle, hm, hzl, hz, hb, hc, hf⟩ := h
  refine .inr ⟨g, cap, rfl, hB, fun h0 => World.block_lt_of_cell? w ⟨g, 0, none⟩ (hc 0 h0), hle, hm, fun j u hu => ?_, fun j hj => ?_⟩
  · have hjl := (List.getElem?_eq_some_iff.1 hu).1
    rw [byteCells_length] at hjl
    rw [Nat.zero_add, hc j (by omega), ← hu]
    have hl : l[j]? = some (UInt8.ofNat (zs.getD j 0).toNat) := by
      have e : (Lib.bytesOf (zs.take l.length))[j]? = some (UInt8.ofNat (zs.getD j 0).toNat) := by
        unfold Lib.bytesOf
        rw [List.getElem?_map, List.getElem?_take, if_pos hjl, List.getD_eq_getElem?_getD, List.getElem?_eq_getElem (by omega)]; rfl
      rwa [hb] at e
    rw [byteCells_get hl]
    have := hz (zs.getD j 0) (by rw [List.getD_eq_getElem?_getD, List.getElem?_eq_getElem (by omega)]; exact List.getElem_mem _)
    congr 2
    rw [UInt8.toNat_ofNat']
    omega
  · rw [hf _ (by omega), hc _ (by omega)]; simp

theorem Mine.form {w : World} {B : Nat} {v : Value} {l : List UInt8} (h : Mine w B v l) : ∃ a cap, v = .slice a l.length cap := by
  rcases h with ⟨rfl, rfl⟩ | ⟨g, cap, rfl, _⟩
  · exact ⟨none, 0, rfl⟩
  · exact ⟨_, cap, rfl⟩

/-- 'string(b)'. -/
theorem Mine.string {P : Program} {src dst e : TypeId} (h1 : P.underlying src = some (.slice e)) (h2 : P.underlying e = some (.int .u8)) (h3 : P.underlying dst = some .string) {w : World} {B : Nat} {v : Value} {l : List UInt8} (h : Mine w B v l) :
    (convert src dst v).run P w = .ok (.string (strOf l)) w := by
  rcases h with ⟨rfl, rfl⟩ | ⟨g, cap, rfl, _, _, _, _, hr, _⟩
  · rw [run_convert_bytes_string w _ _ _ _ _ _ h1 h2 h3]
    simp [Conv.bytesToString]
    rfl
  · refine run_convert_bytes_back w _ _ _ _ _ l h1 h2 h3 ?_
    intro j hj
    rw [Addr.add_mid]
    exact hr j _ (by simp [byteCells, hj])

/-- '[]byte(s)': a new slice. -/
theorem str_bytes {P : Program} {src dst e : TypeId} (hs : P.underlying src = some .string) (hd : P.underlying dst = some (.slice e)) (he : P.underlying e = some (.int .u8)) (w : World) (l : List UInt8) (hl : l.length ≤ 9223372036854775807) :
    ∃ cap W, (convert src dst (.string (strOf l))).run P w = .ok (.slice (some ⟨w.heap.size, 0, none⟩) l.length cap) W ∧ Mine W w.heap.size (.slice (some ⟨w.heap.size, 0, none⟩) l.length cap) l ∧ Below w.heap.size w W ∧ w.heap.size < W.heap.size := by
  have hr := Lib.run_convert_string_bytes (P := P) w src dst e (strOf l) hs hd he
  rw [strOf_size] at hr
  have hge := grownCap_ge w l.length 0 e
  have hcm := grownCap_le_maxLen w l.length 0 e (by unfold maxLen; omega)
  have hnew := Lib.bytesWorld_at_new w e (strOf l)
  have hcells : Lib.bytesCells w e (strOf l) = (byteCells l).toArray ++ Array.replicate (grownCap w l.length 0 e - l.length) (.int .u8 0) := by
    unfold Lib.bytesCells
    rw [strOf_size]
    congr 1
    apply Array.ext'
    simp [strOf, byteCells]
  rw [hcells] at hnew
  refine ⟨_, _, hr, .inr ⟨w.heap.size, _, rfl, Nat.le_refl _, fun _ => by rw [Lib.bytesWorld_size]; omega, hge, hcm, fun j u hu => ?_, fun j hj => ?_⟩, ⟨rfl, rfl, rfl, by rw [Lib.bytesWorld_size]; omega, fun k hk => Lib.bytesWorld_at_old w e _ k hk⟩, by rw [Lib.bytesWorld_size]; omega⟩
  · have hj := (List.getElem?_eq_some_iff.1 hu).1
    rw [byteCells_length] at hj
    simp only [World.cell?, hnew, Nat.zero_add]
    rw [Array.getElem?_append_left (by rw [List.size_toArray, byteCells_length]; exact hj)]
    simpa using hu
  · refine ⟨?_, ?_⟩
    · simp only [World.cell?, hnew]
      rw [Array.getElem?_eq_getElem (by simp [byteCells_length]; omega)]; rfl
    · simp only [World.frozen?, hnew]
      simp [byteCells_length]
      omega

/-- What bytes.Join takes. -/
def PartsV (w : World) (v : Value) (ls : List (List UInt8)) : Prop :=
  ∃ p c, v = .slice p ls.length c ∧ ls.length ≤ c ∧ (0 < ls.length → ∃ b o vs, p = some ⟨b, o, none⟩ ∧ Lib.PartsAt w ⟨b, o, none⟩ vs ls)

theorem PartsV.below {w w' : World} {v : Value} {ls : List (List UInt8)} (h : PartsV w v ls) (hb : Below w.heap.size w w') : PartsV w' v ls := by
  obtain ⟨p, c, h1, h2, h3⟩ := h
  refine ⟨p, c, h1, h2, fun h0 => ?_⟩
  obtain ⟨b, o, vs, h4, h5, h6, h7⟩ := h3 h0
  refine ⟨b, o, vs, h4, h5, fun i v hv => Lib.Below.cellOf hb (h6 i v hv) (Nat.le_refl _), fun i v l hv hl => ?_⟩
  obtain ⟨q, cap, h8, h9, h10⟩ := h7 i v l hv hl
  exact ⟨q, cap, h8, h9, fun a ha j x hx => Lib.Below.cellOf hb (h10 a ha j x hx) (Nat.le_refl _)⟩

end Go.Proofs.YtaihojahccplcaaDoor

/- A region that draws its order: operations and calls that leave the world alone but for draws, and behind them a chain that writes: one walk in the order of the text. -/
namespace Go.Proofs.YtaihojahccplcaaDoor
set_option linter.unusedVariables false
set_option linter.unusedSimpArgs false

section
variable {P : Program} {ops : Array Oper} {md : Region.Mode} {C : World → Prop}

/-- Each of the operations m .. n - 1 is waited for by a later one, up to n. -/
def sinkF (md : Region.Mode) (ops : Array Oper) (m n : Nat) : Bool :=
  (List.range n).all fun i => decide (i < m) || (List.range (n + 1)).any fun j => decide (i < j) && Region.waitsFor md ops j i

theorem tail_late {m n : Nat} {listed : Array Bool} (hs : sinkF md ops m n = true) (hc : Region.chainB md ops n = true) (inv : HeadInv md ops n listed) :
    ∀ (d i : Nat), n - i = d → m ≤ i → i < n → n < ops.size → listed.getD i true = false → ∀ t, n ≤ t → t ∉ Region.ready md ops listed := by
  intro d
  induction d using Nat.strongRecOn with
  | _ d ih =>
    intro i hd hm hi hn hun t ht hr
    obtain ⟨_, ot, hot, hall⟩ := mem_ready.1 hr
    have htlt : t < ops.size := (Array.getElem?_eq_some_iff.1 hot).1
    by_cases htn : t = n
    · have h1 := List.all_eq_true.1 hs i (List.mem_range.2 hi)
      simp only [Bool.or_eq_true, decide_eq_true_eq] at h1
      rcases h1 with h1 | h1
      · omega
      · obtain ⟨j, hj, hj2⟩ := List.any_eq_true.1 h1
        simp only [Bool.and_eq_true, decide_eq_true_eq] at hj2
        obtain ⟨oj, hoj, e, he, hb, hon⟩ := Region.waitsFor_spec hj2.2
        have hjle := List.mem_range.1 hj
        by_cases hjt : j = t
        · rw [hjt] at hoj
          obtain rfl := Option.some.inj (hoj.symm.trans hot)
          have h2 := hall e he hb
          rw [hon, getD_both hun] at h2
          cases h2
        · cases hl : listed.getD j false with
          | true =>
            have h2 := inv.closed j oj hoj hl e he hb
            rw [hon, getD_both hun] at h2
            cases h2
          | false =>
            have hjs : j < listed.size := by rw [inv.size]; omega
            exact ih (n - j) (by omega) j rfl (by omega) (by omega) hn (getD_in hjs hl) t ht hr
    · have h1 := List.all_eq_true.1 hc t (List.mem_range.2 htlt)
      simp only [Bool.or_eq_true, decide_eq_true_eq] at h1
      rcases h1 with h1 | h1
      · omega
      · obtain ⟨o', ho', e, he, hb, hon⟩ := Region.waitsFor_spec h1
        obtain rfl := Option.some.inj (ho'.symm.trans hot)
        have h2 := hall e he hb
        rw [hon, getD_both (inv.tail (t - 1) (by omega) (by omega))] at h2
        cases h2

/-- The head, whatever its order; L behind it. -/
def wpHead (P : Program) (md : Region.Mode) (ops : Array Oper) (C : World → Prop) (n : Nat) (L : Array Bool → Act → Prop) : Nat → Array Bool → Act → Prop
  | 0, listed, a => L listed a
  | f + 1, listed, a => Region.ready md ops listed ≠ [] ∧ ∀ i ∈ Region.ready md ops listed, i < n ∧ qOp P ops C i (wpHead P md ops C n L f (listed.setIfInBounds i true)) a

theorem wpAny_of_wpHead {n g : Nat} {L : Array Bool → Act → Prop} {Q' : Exit → Act → World → Prop} (hL : ∀ listed a w, C w → L listed a → wpAny P md ops Q' g listed a w) :
    ∀ (f : Nat) (listed : Array Bool) (a : Act) (w : World), C w → wpHead P md ops C n L f listed a → wpAny P md ops Q' (f + g) listed a w
  | 0, listed, a, w, hw, h => by rw [Nat.zero_add]; exact hL _ _ _ hw h
  | f + 1, listed, a, w, hw, h => by
    rw [show f + 1 + g = (f + g) + 1 by omega]
    exact ⟨fun h0 => absurd h0 h.1, fun i hi => wpOp_of_qOp hw (fun a' w' hw' h' => wpAny_of_wpHead hL f _ a' w' hw' h') (h.2 i hi).2⟩

theorem wpHead_first {m n i : Nat} {oi : Oper} {v : Value} {L : Array Bool → Act → Prop} (hi : ops[i]? = some oi) (hsel : ∀ (j : Nat) (o : Oper) cs b, ops[j]? = some o → o.op ≠ .select cs b)
    (hs : sinkF md ops m n = true) (hc : Region.chainB md ops n = true) (hn : n < ops.size) (him : m ≤ i) (hin : i < n)
    (hdone : ∀ listed a, L listed a → ∀ j ∈ Region.ready md ops listed, n ≤ j) :
    ∀ (f : Nat) (listed : Array Bool) (a : Act), HeadInv md ops n listed →
      (∀ j oj, ops[j]? = some oj → j ≠ i → listed.getD j true = false → (∀ e ∈ oj.after, Region.binds md e = true → e.on ≠ i) → oi.apart ops oj = true) →
      i ∈ Region.ready md ops listed → YieldsIn P ops C oi v a →
      wpHead P md ops C n L f (listed.setIfInBounds i true) (a.put oi.dst v) → wpHead P md ops C n L (f + 1) listed a := by
  intro f
  induction f with
  | zero =>
    intro listed a inv _ hr hy H
    have hun := (mem_ready.1 hr).1
    refine ⟨fun h => (by rw [h] at hr; cases hr), fun j hj => ?_⟩
    have hjn : j < n := by
      rcases Nat.lt_or_ge j n with h | h
      · exact h
      · exact absurd hj (tail_late hs hc inv _ i rfl him hin hn hun j h)
    refine ⟨hjn, ?_⟩
    by_cases hji : j = i
    · subst hji; exact hy.qOp hi H
    · have := hdone _ _ H j (ready_mono hj hji)
      omega
  | succ f ih =>
    intro listed a inv hfree hr hy H
    have hun := (mem_ready.1 hr).1
    refine ⟨fun h => (by rw [h] at hr; cases hr), fun j hj => ?_⟩
    have hjn : j < n := by
      rcases Nat.lt_or_ge j n with h | h
      · exact h
      · exact absurd hj (tail_late hs hc inv _ i rfl him hin hn hun j h)
    refine ⟨hjn, ?_⟩
    by_cases hji : j = i
    · subst hji; exact hy.qOp hi H
    · have h1 := (H.2 j (ready_mono hj hji)).2
      obtain ⟨hjun, oj, hoj, hall⟩ := mem_ready.1 hj
      have hnot : ∀ e ∈ oj.after, Region.binds md e = true → e.on ≠ i := fun e he hb heq => by
        have h1 := hall e he hb
        rw [heq, getD_both hun] at h1
        cases h1
      have h2 := qOp_put hoj (hfree j oj hoj hji hjun hnot) (fun cs b => hsel i oi cs b hi) (fun cs b => hsel j oj cs b hoj) hy h1
      have hfree' : ∀ k ok, ops[k]? = some ok → k ≠ i → (listed.setIfInBounds j true).getD k true = false →
          (∀ e ∈ ok.after, Region.binds md e = true → e.on ≠ i) → oi.apart ops ok = true := fun k ok hk hki hun hno => by
        refine hfree k ok hk hki ?_ hno
        by_cases hjk : j = k
        · subst hjk; exact hjun
        · rw [getD_set_ne true hjk] at hun; exact hun
      refine qOp_mono (fun a' h3 => ih (listed.setIfInBounds j true) a' (inv.set hj hjn) hfree' (ready_mono hr (Ne.symm hji)) h3.1 ?_) h2
      rw [Array.setIfInBounds_comm _ _ hji]
      exact h3.2

theorem wpHead_lex {m n g : Nat} {Lq : Act → Prop} (hsel : Region.noSelect ops = true) (hs : sinkF md ops m n = true) (hc : Region.chainB md ops n = true) (hn : n < ops.size) :
    ∀ (l : List Oper) (k : Nat) (listed : Array Bool) (a : Act), (∀ j, j < l.length → l[j]? = ops[k + j]?) → m ≤ k → k + l.length = n → HeadInv md ops n listed →
    Region.lexHead md ops g l.length k listed = true → wpQuiet P ops C Lq l a →
    wpHead P md ops C n (fun listed' a' => Region.seqB md ops g n listed' = true ∧ Lq a') l.length listed a
  | [], k, listed, a, _, _, hk, _, hB, h => by
    have : k = n := by simpa using hk
    subst this
    exact ⟨by simpa [Region.lexHead] using hB, h⟩
  | o :: l, k, listed, a, hl, hmk, hk, inv, hB, h => by
    have h0 : ops[k]? = some o := by simpa using (hl 0 (by simp)).symm
    simp only [List.length_cons, Region.lexHead, Bool.and_eq_true] at hB
    obtain ⟨⟨hr, hf⟩, hB'⟩ := hB
    have hkn : k < n := by simp only [List.length_cons] at hk; omega
    have hr' : k ∈ Region.ready md ops listed := by simpa using hr
    have hst : qOp P ops C k (wpQuiet P ops C Lq l) a := by unfold qOp; simp only [h0]; exact h
    obtain ⟨v, hy, hK⟩ := yieldsIn_of_qOp h0 hst
    exact wpHead_first h0 (Region.noSelect_spec hsel) hs hc hn hmk hkn (fun listed' a' hL => seqB_ready hL.1) l.length listed a inv (Region.free_spec h0 hf) hr' hy
      (wpHead_lex hsel hs hc hn l (k + 1) _ _ (fun j hj => by have := hl (j + 1) (by simp; omega); simpa [Nat.add_assoc, Nat.add_comm 1 j] using this) (by omega) (by simp only [List.length_cons] at hk; omega) (inv.set hr' hkn) hB' hK)

/-- The Bools of both forms. -/
def tailB0 (l : List Oper) (n : Nat) : Bool :=
  Region.noSelect l.toArray && decide (n < l.length) && sinkF .any l.toArray 0 n && Region.chainB .any l.toArray n && Region.lexHead .any l.toArray (l.length - n) n 0 (Array.replicate l.length false)
def tailB1 (l : List Oper) (n : Nat) : Bool :=
  Region.noSelect l.toArray && decide (n + 1 < l.length) && sinkF .any l.toArray 1 (n + 1) && Region.chainB .any l.toArray (n + 1) && (Region.ready .any l.toArray (Array.replicate l.length false)).contains 0 && Region.free .any l.toArray (Array.replicate l.length false) 0 &&
    Region.lexHead .any l.toArray (l.length - (n + 1)) n 1 ((Array.replicate l.length false).setIfInBounds 0 true)

theorem head0 (l : List Oper) (n : Nat) : HeadInv .any l.toArray n (Array.replicate l.length false) :=
  ⟨by simp, fun j oj _ hl => (by rw [getD_replicate_false] at hl; cases hl), fun t _ ht => getD_in (by simpa using ht) (getD_replicate_false _ _)⟩

/-- Quiet operations, and behind them the chain. -/
theorem wp_region_quiet_tail {id : Nat} {Q : Exit → Act → World → Prop} {a : Act} {w : World} {l : List Oper} (n : Nat) (hm : P.follows .mixedOrders = true) (hB : tailB0 l n = true)
    (h : wpQuiet P l.toArray (fun w' => ∃ k, w' = w.drewN k) (fun a' => ∀ w', (∃ k, w' = w.drewN k) → wpList P l.toArray Q (l.drop n) a' w') (l.take n) a) : (Code.region id l.toArray true).wp P Q a w := by
  simp only [tailB0, Bool.and_eq_true, decide_eq_true_eq] at hB
  obtain ⟨⟨⟨⟨hsel, hn⟩, hs⟩, hc⟩, hlex⟩ := hB
  have htl : (l.take n).length = n := by simp; omega
  have hdl : (l.drop n).length = l.length - n := by simp
  have H := wpHead_lex (md := .any) (m := 0) (g := l.length - n) hsel hs hc (by simpa using hn) (l.take n) 0 _ a (fun j hj => by
    have hj' : j < n := by rw [htl] at hj; exact hj
    simp [hj']) (Nat.le_refl _) (by simpa using htl) (head0 l n) (by rw [htl]; exact hlex) h
  refine wp_region_any hm ?_
  have := wpAny_of_wpHead (Q' := Q) (g := l.length - n) (fun listed a' w' hw' hL => by
    have := wpAny_of_seq (md := .any) (Q' := Q) (l.drop n) n listed a' w' (fun j => by simp [List.getElem?_drop]) (by rw [hdl]; exact hL.1) (hL.2 w' hw')
    rwa [hdl] at this) _ _ _ { w with drawn := w.drawn + 1 } ⟨1, rfl⟩ H
  rw [htl, show n + (l.length - n) = l.length by omega] at this
  simpa using this

/-- The same where the first operation is waited for by the chain alone: it is a copy, and is taken first. -/
theorem wp_region_move_tail {id : Nat} {Q : Exit → Act → World → Prop} {a : Act} {w : World} {o : Oper} {l : List Oper} (n : Nat) (v : Value) (hm : P.follows .mixedOrders = true) (hB : tailB1 (o :: l) n = true)
    (hQ : ∀ c a w, Q (.panic c) (a.put o.dst v) w → Q (.panic c) a w) (hy : Yields P (o :: l).toArray o v a)
    (h : wpQuiet P (o :: l).toArray (fun w' => ∃ k, w' = w.drewN k) (fun a' => ∀ w', (∃ k, w' = w.drewN k) → wpList P (o :: l).toArray Q (l.drop n) a' w') (l.take n) (a.put o.dst v)) : (Code.region id (o :: l).toArray true).wp P Q a w := by
  simp only [tailB1, Bool.and_eq_true, decide_eq_true_eq, List.length_cons] at hB
  obtain ⟨⟨⟨⟨⟨⟨hsel, hn⟩, hs⟩, hc⟩, hr0⟩, hf0⟩, hlex⟩ := hB
  have htl : (l.take n).length = n := by simp; omega
  have hdl : (l.drop n).length = l.length - n := by simp
  have inv1 : HeadInv .any (o :: l).toArray (n + 1) ((Array.replicate (l.length + 1) false).setIfInBounds 0 true) := (head0 (o :: l) (n + 1)).set (by simpa using hr0) (by omega)
  have H := wpHead_lex (md := .any) (m := 1) (n := n + 1) (g := l.length + 1 - (n + 1)) hsel hs hc (by simpa using hn) (l.take n) 1 _ (a.put o.dst v) (fun j hj => by
    have hj' : j < n := by rw [htl] at hj; exact hj
    rw [Nat.add_comm 1 j]
    simp [hj']) (Nat.le_refl _) (by omega) inv1 (by rw [htl]; exact hlex) h
  refine wp_region_any hm ?_
  have := wpAny_of_wpHead (Q' := Q) (g := l.length + 1 - (n + 1)) (fun listed a' w' hw' hL => by
    have := wpAny_of_seq (md := .any) (Q' := Q) (l.drop n) (n + 1) listed a' w' (fun j => by rw [List.getElem?_drop, show n + 1 + j = (n + j) + 1 by omega]; simp) (by rw [hdl, show l.length - n = l.length + 1 - (n + 1) by omega]; exact hL.1) (hL.2 w' hw')
    rwa [hdl, show l.length - n = l.length + 1 - (n + 1) by omega] at this) _ _ _ { w with drawn := w.drawn + 1 } ⟨1, rfl⟩ H
  rw [htl, show n + (l.length + 1 - (n + 1)) = l.length by omega] at this
  have h2 := wpAny_take (i := 0) (oi := o) (v := v) (fuel := l.length) (listed := Array.replicate (l.length + 1) false) (by simp) hsel hf0 hr0 hQ hy this
  simpa using h2

/-- One operation of a quiet walk, its run told. -/
theorem quiet_run {Q : Act → Prop} {o : Oper} {rest : List Oper} {a : Act} {w : World} (v : Value) (hw : Region.wanted o (yielded ops a.tmps) = true) (h : ∀ n, (execOp a.eval o).run P (w.drewN n) = .ok (.value v) (w.drewN n))
    (hk : wpQuiet P ops (fun w' => ∃ n, w' = w.drewN n) Q rest (a.put o.dst v)) : wpQuiet P ops (fun w' => ∃ n, w' = w.drewN n) Q (o :: rest) a := by
  refine BigFrame.wpQuiet_want hw fun K hK => ⟨v, ?_, hK _ hk⟩
  rintro _ ⟨n, rfl⟩
  unfold Oper.quietAt
  rw [h n]
  exact ⟨rfl, rfl⟩

theorem run_cat (w : World) (o : Oper) (a : Act) (t1 t2 : TypeId) (x y : Operand) (ho : o.op = .binOp .add t1 x y t2) (ht : P.underlying t1 = some .string) (p q : ByteArray) (hx : a.eval x = .string p) (hy : a.eval y = .string q) (hb : p.size + q.size ≤ 9223372036854775807) :
    (execOp a.eval o).run P w = .ok (.value (.string (p ++ q))) w := by
  unfold execOp
  rw [ho]
  simp only [hx, hy]
  simp [go_sem, hb]

theorem yields_move {o : Oper} {a : Act} (hw : Region.wanted o (yielded ops a.tmps) = true) (x : Operand) (h : o.op = .move x) (v : Value) (hv : a.eval x = v) : Yields P ops o v a := by
  subst hv
  exact .inl ⟨hw, fun w => BigFrame.run_move x h w⟩
end
end Go.Proofs.YtaihojahccplcaaDoor

/- A region that draws its order and makes memory: each operation under a predicate on its value, whatever the order. -/
namespace Go.Proofs.YtaihojahccplcaaDoor
open Go.RowKit
set_option linter.unusedSimpArgs false
set_option linter.unusedVariables false

/-- What an operation has left in its slot. -/
def slotOf (o : Oper) (a : Act) : Value := match o.dst with | some d => a.tmps.getD d undef | none => undef

/-- What a walk of one operation has to end in. -/
def relQ (V : World → Value → Prop) (w : World) (o : Oper) (F : Act) (e : Exit) (a' : Act) (w' : World) : Prop :=
  e = .normal ∧ Below w.heap.size w w' ∧ a'.defers = F.defers ∧ V w' (slotOf o a')

/-- Where operation j writes. -/
def dstAt (l : List Oper) (j : Nat) : Option Tmp := (l[j]?).bind (·.dst)
/-- What lies there. -/
def valAt (l : List Oper) (a : Act) (j : Nat) : Value := match dstAt l j with | some d => a.tmps.getD d undef | none => undef

/-- The frame in which the slots of the operations D hold vs. -/
def relF (l : List Oper) (a0 : Act) (vs : Nat → Value) (D : List Nat) : Act := D.foldl (fun a j => a.put (dstAt l j) (vs j)) a0

def relB (l : List Oper) (D : List (List Nat)) (n : Nat) : Bool :=
  Region.noSelect l.toArray &&
  ((List.range l.length).all fun i => (List.range l.length).all fun j => i == j || ((l[i]?).bind (·.dst)).isNone || (l[i]?).bind (·.dst) != (l[j]?).bind (·.dst)) &&
  ((List.range l.length).all fun i => match (l[i]?).bind (·.dst) with | some d => decide (d < n) | none => true) &&
  ((List.range l.length).all fun i => (D.getD i []).all fun j => Region.waitsFor .any l.toArray i j) &&
  ((List.range l.length).all fun i => (List.range l.length).all fun j => match (l[j]?).bind (·.dst) with
    | some t => !(((l[i]?).map (Oper.looksAt l.toArray)).getD []).contains t || (D.getD i []).contains j
    | none => true) &&
  ((List.range l.length).all fun i => (((l[i]?).map (·.after)).getD #[]).all fun e => !Region.binds .any e || decide (e.on < i))

section
variable {P : Program} {l : List Oper} {D : List (List Nat)} {a0 : Act} {w0 : World} {V : Nat → World → Value → Prop}

structure RInv (l : List Oper) (a0 : Act) (w0 : World) (V : Nat → World → Value → Prop) (listed : Array Bool) (a : Act) (w : World) : Prop where
  bw : Below w0.heap.size w0 w
  lsz : listed.size = l.length
  sz : a.tmps.size = a0.tmps.size
  df : a.defers = a0.defers
  off : ∀ t, (∀ j o, l[j]? = some o → listed.getD j false = true → o.dst ≠ some t) → a.tmps[t]? = a0.tmps[t]?
  on : ∀ j o, l[j]? = some o → listed.getD j false = true → V j w (slotOf o a)

theorem put_size (a : Act) (d : Option Tmp) (v : Value) : (a.put d v).tmps.size = a.tmps.size := by cases d <;> simp [Act.put]
theorem put_df (a : Act) (d : Option Tmp) (v : Value) : (a.put d v).defers = a.defers := by cases d <;> rfl
theorem put_ne (a : Act) (d : Option Tmp) (v : Value) (t : Nat) (h : d ≠ some t) : (a.put d v).tmps[t]? = a.tmps[t]? := by
  cases d with
  | none => rfl
  | some d =>
    have : d ≠ t := fun e => h (by rw [e])
    simp [Act.put, Array.getElem?_setIfInBounds_ne this]
theorem put_eq (a : Act) (d : Tmp) (v : Value) (h : d < a.tmps.size) : (a.put (some d) v).tmps[d]? = some v := by
  simp [Act.put, Array.getElem?_setIfInBounds_self, h]

theorem relF_spec (a : Act) (n : Nat) (hb : ∀ j d, dstAt l j = some d → d < n) (hn : a.tmps.size = n) :
    ∀ (D : List Nat) (b : Act), b.tmps.size = n →
      let F := relF l b (valAt l a) D
      F.tmps.size = n ∧ F.defers = b.defers ∧ ∀ t, ((∃ j ∈ D, dstAt l j = some t) → F.tmps[t]? = a.tmps[t]?) ∧ ((∀ j ∈ D, dstAt l j ≠ some t) → F.tmps[t]? = b.tmps[t]?) ∧ (b.tmps[t]? = a.tmps[t]? → F.tmps[t]? = a.tmps[t]?) := by
  intro D
  induction D with
  | nil => intro b hbn; exact ⟨hbn, rfl, fun t => ⟨fun ⟨j, hj, _⟩ => by simp at hj, fun _ => rfl, fun h => h⟩⟩
  | cons j D ih =>
    intro b hbn
    have hstep : ∀ v : Value, (b.put (dstAt l j) v).tmps.size = n := fun v => by rw [put_size]; exact hbn
    obtain ⟨h1, h2, h3⟩ := ih (b.put (dstAt l j) (valAt l a j)) (hstep _)
    refine ⟨h1, h2.trans (put_df _ _ _), fun t => ?_⟩
    obtain ⟨h4, h5, h6⟩ := h3 t
    have hself : dstAt l j = some t → (b.put (dstAt l j) (valAt l a j)).tmps[t]? = a.tmps[t]? := by
      intro hd
      have hlt := hb j t hd
      have hv : valAt l a j = a.tmps.getD t undef := by unfold valAt; rw [hd]
      rw [hd, hv, put_eq _ _ _ (by rw [hbn]; exact hlt), Array.getElem?_eq_getElem (by rw [hn]; exact hlt)]
      simp [Array.getD, hn, hlt]
    refine ⟨fun ⟨i, hi, hd⟩ => ?_, fun hno => ?_, fun hba => ?_⟩
    · rcases List.mem_cons.1 hi with rfl | hi
      · exact h6 (hself hd)
      · exact h4 ⟨i, hi, hd⟩
    · refine (h5 fun i hi => hno i (List.mem_cons_of_mem _ hi)).trans (put_ne _ _ _ _ (hno j (List.mem_cons_self ..)))
    · refine h6 ?_
      by_cases hd : dstAt l j = some t
      · exact hself hd
      · rw [put_ne _ _ _ _ hd]; exact hba

def resOf (o : Oper) (v : Value) : Value := match o.dst with | some _ => v | none => undef

theorem slot_put (o : Oper) (a : Act) (v : Value) (h : ∀ d, o.dst = some d → d < a.tmps.size) : slotOf o (a.put o.dst v) = resOf o v := by
  unfold slotOf resOf
  cases hd : o.dst with
  | none => rfl
  | some d =>
    have := put_eq a d v (h d hd)
    simp only [Array.getD_eq_getD_getElem?, this]; rfl

theorem slot_other (o o' : Oper) (a : Act) (v : Value) (h : ∀ d, o.dst = some d → o'.dst ≠ some d) : slotOf o (a.put o'.dst v) = slotOf o a := by
  unfold slotOf
  cases hd : o.dst with
  | none => rfl
  | some d => simp only [Array.getD_eq_getD_getElem?, put_ne a o'.dst v d (h d hd)]

theorem rel_transfer {ops : Array Oper} {W : World → Value → Prop} {o : Oper} {K : Act → World → Prop} {Q : Exit → Act → World → Prop} {a F : Act} {w : World} (hF : execOp F.eval o = execOp a.eval o)
    (hw : Region.wanted o (yielded ops F.tmps) = Region.wanted o (yielded ops a.tmps)) (hd : ∀ d, o.dst = some d → d < F.tmps.size) (h : wpList P ops (relQ W w o F) [o] F w)
    (hK : ∀ v w', Below w.heap.size w w' → W w' (resOf o v) → K (a.put o.dst v) w') :
    if Region.wanted o (yielded ops a.tmps) then o.wp P a w K Q ∨ (o.asks P a w ∧ LetsOut Q) else K (a.put o.dst undef) w := by
  have hn : ∀ (v : Value) (w' : World), relQ W w o F .normal (F.put o.dst v) w' → K (a.put o.dst v) w' := fun v w' hq => hK v w' hq.2.1 (by rw [← slot_put o F v hd]; exact hq.2.2.2)
  unfold wpList at h
  rw [hw] at h
  split
  · rename_i hwt
    rw [if_pos hwt] at h
    rcases h with h | ⟨_, _, _, he⟩
    · left
      unfold Oper.wp at h ⊢
      rw [← hF]
      generalize (execOp F.eval o).run P w = res at h ⊢
      cases res with
      | ok nx w' =>
        cases nx with
        | value v => exact hn v w' h
        | skip => exact hn _ w' h
        | defer d =>
          have := h.2.2.1
          rw [put_df] at this
          exact absurd this (List.cons_ne_self _ _)
        | enter f args =>
          refine Calls.mono h ?_
          intro e w'' he
          cases e with
          | returned v => exact hn v w'' he
          | panicked c => exact absurd he.1 (by intro h; cases h)
          | outgrown =>
            obtain ⟨_, _, he⟩ := he
            exact absurd he.1 (by intro h; cases h)
        | row r args => exact Rows.mono h fun v w'' hv => hn v w'' hv
        | _ => exact h.elim
      | halt hh w' =>
        cases hh with
        | panic v => exact absurd h.1 (by intro h; cases h)
        | _ => exact h.elim
    · exact absurd he.1 (by intro h; cases h)
  · rename_i hwt
    rw [if_neg hwt] at h
    exact hn _ _ h


structure RelB (l : List Oper) (D : List (List Nat)) (n : Nat) : Prop where
  sel : Region.noSelect l.toArray = true
  dist : ∀ i j t, i < l.length → j < l.length → i ≠ j → dstAt l i = some t → dstAt l j ≠ some t
  bnd : ∀ i t, i < l.length → dstAt l i = some t → t < n
  wait : ∀ i j, i < l.length → j ∈ D.getD i [] → Region.waitsFor .any l.toArray i j = true
  look : ∀ i j t o, i < l.length → j < l.length → l[i]? = some o → dstAt l j = some t → t ∈ o.looksAt l.toArray → j ∈ D.getD i []
  back : ∀ i o e, i < l.length → l[i]? = some o → e ∈ o.after → Region.binds .any e = true → e.on < i

theorem relB_spec {n : Nat} (h : relB l D n = true) : RelB l D n := by
  unfold relB at h
  simp only [Bool.and_eq_true] at h
  obtain ⟨⟨⟨⟨⟨h1, h2⟩, h3⟩, h4⟩, h5⟩, h6⟩ := h
  refine ⟨h1, fun i j t hi hj hij hd hd' => ?_, fun i t hi hd => ?_, fun i j hi hj => ?_, fun i j t o hi hj ho hd hl => ?_, fun i o e hi ho he hb => ?_⟩
  · have := List.all_eq_true.1 (List.all_eq_true.1 h2 i (List.mem_range.2 hi)) j (List.mem_range.2 hj)
    unfold dstAt at hd hd'
    rw [hd, hd'] at this
    simp [hij] at this
  · have := List.all_eq_true.1 h3 i (List.mem_range.2 hi)
    unfold dstAt at hd
    rw [hd] at this
    simpa using this
  · exact List.all_eq_true.1 (List.all_eq_true.1 h4 i (List.mem_range.2 hi)) j hj
  · have := List.all_eq_true.1 (List.all_eq_true.1 h5 i (List.mem_range.2 hi)) j (List.mem_range.2 hj)
    unfold dstAt at hd
    rw [hd, ho] at this
    simp only [Option.map_some, Option.getD_some, Bool.or_eq_true, Bool.not_eq_true'] at this
    rcases this with h | h
    · rw [List.contains_eq_mem] at h
      simp [hl] at h
    · simpa using h
  · have := List.all_eq_true.1 h6 i (List.mem_range.2 hi)
    rw [ho] at this
    simp only [Option.map_some, Option.getD_some] at this
    have := Array.all_eq_true_iff_forall_mem.1 this e he
    simpa [hb] using this

theorem get_set_true (x : Array Bool) (i j : Nat) (hi : i < x.size) : (x.setIfInBounds i true).getD j false = (decide (j = i) || x.getD j false) := by
  simp only [Array.getD_eq_getD_getElem?]
  by_cases h : j = i
  · subst h; simp [Array.getElem?_setIfInBounds_self, hi]
  · rw [Array.getElem?_setIfInBounds_ne (fun e => h e.symm)]; simp [h]

theorem count_set : ∀ (xs : List Bool) (i : Nat), xs[i]? = some false → ((xs.set i true).filter (!·)).length + 1 = (xs.filter (!·)).length
  | [], i, h => by simp at h
  | x :: xs, 0, h => by
    simp only [List.getElem?_cons_zero, Option.some.injEq] at h
    subst h; simp
  | x :: xs, i + 1, h => by
    have := count_set xs i (by simpa using h)
    cases x <;> simp <;> omega

/-- Whatever the order. -/
theorem wpAny_of_rel {n : Nat} {Q : Exit → Act → World → Prop} (hB : RelB l D n) (hn : a0.tmps.size = n) (hmono : ∀ j (w w' : World) v, Below w.heap.size w w' → V j w v → V j w' v)
    (hop : ∀ i o, l[i]? = some o → ∀ w, Below w0.heap.size w0 w → ∀ vs : Nat → Value, (∀ j ∈ D.getD i [], V j w (vs j)) → wpList P l.toArray (relQ (V i) w o (relF l a0 vs (D.getD i []))) [o] (relF l a0 vs (D.getD i [])) w)
    (hfin : ∀ w, Below w0.heap.size w0 w → ∀ vs : Nat → Value, (∀ j, j < l.length → V j w (vs j)) → Q .normal (relF l a0 vs (List.range l.length)) w) :
    ∀ (fuel : Nat) (listed : Array Bool) (a : Act) (w : World), RInv l a0 w0 V listed a w → (listed.toList.filter (!·)).length ≤ fuel → wpAny P .any l.toArray Q fuel listed a w := by
  have hbn : ∀ j d, dstAt l j = some d → d < n := fun j d hd => by
    by_cases hj : j < l.length
    · exact hB.bnd j d hj hd
    · unfold dstAt at hd; rw [List.getElem?_eq_none (by omega)] at hd; cases hd
  have hval : ∀ (a : Act) j o, l[j]? = some o → valAt l a j = slotOf o a := fun a j o ho => by unfold valAt slotOf dstAt; rw [ho]; rfl
  have hdst : ∀ j o, l[j]? = some o → dstAt l j = o.dst := fun j o ho => by unfold dstAt; rw [ho]; rfl
  have hall : ∀ listed a w, RInv l a0 w0 V listed a w → (∀ j, j < l.length → listed.getD j false = true) → Q .normal a w := by
    intro listed a w inv hl
    have h := hfin w inv.bw (valAt l a) (fun j hj => by
      obtain ⟨o, ho⟩ : ∃ o, l[j]? = some o := ⟨_, List.getElem?_eq_getElem hj⟩
      rw [hval a j o ho]; exact inv.on j o ho (hl j hj))
    obtain ⟨s1, s2, s3⟩ := relF_spec (l := l) a n hbn (inv.sz.trans hn) (List.range l.length) a0 hn
    have e : relF l a0 (valAt l a) (List.range l.length) = a := by
      obtain ⟨at', ad'⟩ := a
      generalize hG : relF l a0 (valAt l ⟨at', ad'⟩) (List.range l.length) = G at s1 s2 s3
      obtain ⟨gt, gd⟩ := G
      have e1 : gd = ad' := s2.trans inv.df.symm
      have e2 : gt = at' := by
        apply Array.ext_getElem?
        intro t
        obtain ⟨h1, h2, h3⟩ := s3 t
        by_cases hx : ∃ j ∈ List.range l.length, dstAt l j = some t
        · exact h1 hx
        · refine h3 (inv.off t fun j o ho _ hd => hx ⟨j, List.mem_range.2 ?_, (hdst j o ho).trans hd⟩).symm
          exact (List.getElem?_eq_some_iff.1 ho).1
      rw [e1, e2]
    rwa [e] at h
  intro fuel
  induction fuel with
  | zero =>
    intro listed a w inv hf
    have hl : ∀ j, j < l.length → listed.getD j false = true := by
      intro j hj
      have h0 := List.eq_nil_of_length_eq_zero (Nat.le_zero.1 hf)
      have hj' : j < listed.size := by rw [inv.lsz]; exact hj
      have hm := List.filter_eq_nil_iff.1 h0 (listed[j]'hj') (by simp)
      rw [Array.getD_eq_getD_getElem?, Array.getElem?_eq_getElem hj']
      simpa using hm
    refine ⟨?_, hall listed a w inv hl⟩
    rw [List.eq_nil_iff_forall_not_mem]
    intro j hj
    obtain ⟨h1, o, ho, _⟩ := mem_ready.1 hj
    have hj' : j < l.length := by simpa using (Array.getElem?_eq_some_iff.1 ho).1
    have := hl j hj'
    rw [Array.getD_eq_getD_getElem?, Array.getElem?_eq_getElem (by rw [inv.lsz]; exact hj')] at h1 this
    simp only [Option.getD_some] at h1 this
    rw [h1] at this; cases this
  | succ fuel ih =>
    intro listed a w inv hf
    have hgd : ∀ j, j < l.length → ∀ b, listed.getD j b = listed.getD j false := fun j hj b => by
      simp [Array.getD_eq_getD_getElem?, Array.getElem?_eq_getElem (show j < listed.size by rw [inv.lsz]; exact hj)]
    refine ⟨fun hr => ?_, fun i hi => ?_⟩
    · refine hall listed a w inv fun j hj => ?_
      induction j using Nat.strongRecOn with
      | ind j ihj =>
        cases hx : listed.getD j false with
        | true => rfl
        | false =>
          obtain ⟨o, ho⟩ : ∃ o, l[j]? = some o := ⟨_, List.getElem?_eq_getElem hj⟩
          have : j ∈ Region.ready .any l.toArray listed := mem_ready.2 ⟨(hgd j hj true).trans hx, o, by simpa using ho, fun e he hb => by
            have hlt := hB.back j o e hj ho he hb
            exact ihj e.on hlt (by omega)⟩
          rw [hr] at this; cases this
    · obtain ⟨hun, o, ho', hdep⟩ := mem_ready.1 hi
      have ho : l[i]? = some o := by simpa using ho'
      have hil : i < l.length := (List.getElem?_eq_some_iff.1 ho).1
      have hdl : ∀ j ∈ D.getD i [], j < l.length ∧ listed.getD j false = true := by
        intro j hj
        obtain ⟨oj, hoj, e, he, hb, hon⟩ := Region.waitsFor_spec (hB.wait i j hil hj)
        obtain rfl : o = oj := Option.some.inj (ho'.symm.trans hoj)
        have := hdep e he hb
        rw [hon] at this
        refine ⟨?_, this⟩
        have := hB.back i o e hil ho he hb
        omega
      have hw0 := hop i o ho w inv.bw (valAt l a) (fun j hj => by
        obtain ⟨h1, h2⟩ := hdl j hj
        obtain ⟨oj, hoj⟩ : ∃ o, l[j]? = some o := ⟨_, List.getElem?_eq_getElem h1⟩
        rw [hval a j oj hoj]; exact inv.on j oj hoj h2)
      obtain ⟨s1, s2, s3⟩ := relF_spec (l := l) a n hbn (inv.sz.trans hn) (D.getD i []) a0 hn
      have hlook : ∀ t, t ∈ o.looksAt l.toArray → (relF l a0 (valAt l a) (D.getD i [])).tmps[t]? = a.tmps[t]? := by
        intro t ht
        obtain ⟨h1, h2, h3⟩ := s3 t
        by_cases hx : ∃ j ∈ D.getD i [], dstAt l j = some t
        · exact h1 hx
        · refine h3 (inv.off t fun j oj hoj _ hd => hx ⟨j, hB.look i j t o hil (List.getElem?_eq_some_iff.1 hoj).1 ho ((hdst j oj hoj).trans hd) ht, (hdst j oj hoj).trans hd⟩).symm
      have hev : ∀ x ∈ o.op.operands, (relF l a0 (valAt l a) (D.getD i [])).eval x = a.eval x := by
        intro x hx
        cases x with
        | tmp t =>
          have := hlook t (List.mem_append_left _ (List.mem_filterMap.2 ⟨.tmp t, by simpa using hx, rfl⟩))
          show (relF l a0 (valAt l a) (D.getD i [])).tmps.getD t undef = a.tmps.getD t undef
          rw [Array.getD_eq_getD_getElem?, Array.getD_eq_getD_getElem?, this]
        | _ => rfl
      have hwt : Region.wanted o (yielded l.toArray (relF l a0 (valAt l a) (D.getD i [])).tmps) = Region.wanted o (yielded l.toArray a.tmps) := by
        unfold Region.wanted
        cases hg : o.guard with
        | none => rfl
        | some gw =>
          obtain ⟨g, want⟩ := gw
          simp only []
          congr 1
          unfold yielded
          cases hd : (l.toArray[g]?).bind (·.dst) with
          | none => rfl
          | some t =>
            simp only [Option.bind_some]
            rw [hlook t (List.mem_append_right _ (by rw [hg]; simp only [hd]; simp))]
      unfold wpOp
      simp only [ho']
      refine rel_transfer (execOp_congr o (fun cs b => Region.noSelect_spec hB.sel i o cs b ho') hev) hwt (fun d hd => by rw [s1]; exact hbn i d ((hdst i o ho).trans hd)) hw0 fun v w' hb hv => ?_
      have hil2 : i < listed.size := by rw [inv.lsz]; exact hil
      refine ih _ _ _ ⟨inv.bw.trans (hb.mono inv.bw.size), by simp [inv.lsz], by rw [put_size]; exact inv.sz, by rw [put_df]; exact inv.df, fun t ht => ?_, fun j oj hoj hj => ?_⟩ ?_
      · rw [put_ne _ _ _ _ (ht i o ho (by rw [get_set_true _ _ _ hil2]; simp))]
        exact inv.off t fun j oj hoj hj => ht j oj hoj (by rw [get_set_true _ _ _ hil2, hj]; simp)
      · by_cases hji : j = i
        · subst hji
          obtain rfl := Option.some.inj (hoj.symm.trans ho)
          rw [slot_put _ _ _ (fun d hd => by rw [inv.sz, hn]; exact hbn j d ((hdst j oj hoj).trans hd))]
          exact hv
        · rw [get_set_true _ _ _ hil2] at hj
          simp only [hji, decide_false, Bool.false_or] at hj
          rw [slot_other _ _ _ _ fun d hd hd' => hB.dist j i d (List.getElem?_eq_some_iff.1 hoj).1 hil hji ((hdst j oj hoj).trans hd) ((hdst i o ho).trans hd')]
          exact hmono j w w' _ hb (inv.on j oj hoj hj)
      · have hx : listed.toList[i]? = some false := by
          rw [Array.getElem?_toList, Array.getElem?_eq_getElem hil2]
          rw [Array.getD_eq_getD_getElem?, Array.getElem?_eq_getElem hil2] at hun
          exact congrArg some hun
        have := count_set listed.toList i hx
        rw [Array.toList_setIfInBounds]
        omega

/-- The region, whatever the order: D: for each operation the operations whose slots it looks at; V: what is known of its value (kept where blocks are added). -/
theorem wp_region_rel {id : Nat} {Q : Exit → Act → World → Prop} (D : List (List Nat)) (V : Nat → World → Value → Prop) (n : Nat) (hm : P.follows .mixedOrders = true) (hn : a0.tmps.size = n) (hB : relB l D n = true)
    (hmono : ∀ j (w w' : World) v, Below w.heap.size w w' → V j w v → V j w' v)
    (hop : ∀ i o, l[i]? = some o → ∀ w, Below w0.heap.size w0 w → ∀ vs : Nat → Value, (∀ j ∈ D.getD i [], V j w (vs j)) → wpList P l.toArray (relQ (V i) w o (relF l a0 vs (D.getD i []))) [o] (relF l a0 vs (D.getD i [])) w)
    (hfin : ∀ w, Below w0.heap.size w0 w → ∀ vs : Nat → Value, (∀ j, j < l.length → V j w (vs j)) → Q .normal (relF l a0 vs (List.range l.length)) w) : (Code.region id l.toArray true).wp P Q a0 w0 := by
  refine wp_region_any hm ?_
  have hs : l.toArray.size = l.length := by simp
  rw [hs]
  refine wpAny_of_rel (relB_spec hB) hn hmono hop hfin _ _ _ _ ⟨(Below.refl _ w0).drew, by simp, rfl, rfl, fun t _ => rfl, fun j o ho hj => ?_⟩ ?_
  · rw [getD_replicate_false] at hj; cases hj
  · refine Nat.le_trans (List.length_filter_le (!·) (Array.replicate l.length false).toList) ?_
    simp

end

end Go.Proofs.YtaihojahccplcaaDoor

/- A region that draws its order and makes memory, and ends in one operation that waits for all the others (a store into what stood there before). -/
namespace Go.Proofs.YtaihojahccplcaaDoor
open Go.RowKit
set_option linter.unusedSimpArgs false
set_option linter.unusedVariables false

def lastB (l : List Oper) : Bool :=
  (List.range (l.length - 1)).all fun j => (List.range l.length).any fun i => decide (j < i) && Region.waitsFor .any l.toArray i j

section
variable {P : Program} {l : List Oper} {D : List (List Nat)} {a0 : Act} {w0 : World} {V : Nat → World → Value → Prop}

/-- Whatever the order. -/
theorem wpAny_of_rel_last {n m : Nat} {oL : Oper} {Q : Exit → Act → World → Prop} (hm : l.length = m + 1) (hoL : l[m]? = some oL) (hB : RelB l D n) (hLast : lastB l = true) (hn : a0.tmps.size = n) (hmono : ∀ j (w w' : World) v, Below w.heap.size w w' → V j w v → V j w' v)
    (hop : ∀ i o, i < m → l[i]? = some o → ∀ w, Below w0.heap.size w0 w → ∀ vs : Nat → Value, (∀ j ∈ D.getD i [], V j w (vs j)) → wpList P l.toArray (relQ (V i) w o (relF l a0 vs (D.getD i []))) [o] (relF l a0 vs (D.getD i [])) w)
    (hfin : ∀ w, Below w0.heap.size w0 w → ∀ vs : Nat → Value, (∀ j, j < m → V j w (vs j)) → wpList P l.toArray Q [oL] (relF l a0 vs (List.range m)) w) :
    ∀ (fuel : Nat) (listed : Array Bool) (a : Act) (w : World), RInv l a0 w0 V listed a w → listed.getD m false = false →
      (∀ i o e, l[i]? = some o → listed.getD i false = true → e ∈ o.after → Region.binds .any e = true → listed.getD e.on false = true) →
      (listed.toList.filter (!·)).length ≤ fuel → wpAny P .any l.toArray Q fuel listed a w := by
  have hbn : ∀ j d, dstAt l j = some d → d < n := fun j d hd => by
    by_cases hj : j < l.length
    · exact hB.bnd j d hj hd
    · unfold dstAt at hd; rw [List.getElem?_eq_none (by omega)] at hd; cases hd
  have hval : ∀ (a : Act) j o, l[j]? = some o → valAt l a j = slotOf o a := fun a j o ho => by unfold valAt slotOf dstAt; rw [ho]; rfl
  have hdst : ∀ j o, l[j]? = some o → dstAt l j = o.dst := fun j o ho => by unfold dstAt; rw [ho]; rfl
  have hall : ∀ listed a w, RInv l a0 w0 V listed a w → listed.getD m false = false → (∀ j, j < m → listed.getD j false = true) → wpList P l.toArray Q [oL] a w := by
    intro listed a w inv hmf hl
    have h := hfin w inv.bw (valAt l a) (fun j hj => by
      obtain ⟨o, ho⟩ : ∃ o, l[j]? = some o := ⟨_, List.getElem?_eq_getElem (show j < l.length by omega)⟩
      rw [hval a j o ho]; exact inv.on j o ho (hl j hj))
    obtain ⟨s1, s2, s3⟩ := relF_spec (l := l) a n hbn (inv.sz.trans hn) (List.range m) a0 hn
    have e : relF l a0 (valAt l a) (List.range m) = a := by
      obtain ⟨at', ad'⟩ := a
      generalize hG : relF l a0 (valAt l ⟨at', ad'⟩) (List.range m) = G at s1 s2 s3
      obtain ⟨gt, gd⟩ := G
      have e1 : gd = ad' := s2.trans inv.df.symm
      have e2 : gt = at' := by
        apply Array.ext_getElem?
        intro t
        obtain ⟨h1, h2, h3⟩ := s3 t
        by_cases hx : ∃ j ∈ List.range m, dstAt l j = some t
        · exact h1 hx
        · refine h3 (inv.off t fun j o ho hlj hd => hx ⟨j, List.mem_range.2 ?_, (hdst j o ho).trans hd⟩).symm
          have h5 := (List.getElem?_eq_some_iff.1 ho).1
          by_cases hjm : j = m
          · subst hjm; rw [hmf] at hlj; cases hlj
          · omega
      rw [e1, e2]
    rwa [e] at h
  intro fuel
  induction fuel with
  | zero =>
    intro listed a w inv hmf hcl hf
    exfalso
    have h0 := List.eq_nil_of_length_eq_zero (Nat.le_zero.1 hf)
    have hj' : m < listed.size := by rw [inv.lsz]; omega
    have hmm := List.filter_eq_nil_iff.1 h0 (listed[m]'hj') (by simp)
    rw [Array.getD_eq_getD_getElem?, Array.getElem?_eq_getElem hj'] at hmf
    simp only [Option.getD_some] at hmf
    rw [hmf] at hmm
    exact hmm rfl
  | succ fuel ih =>
    intro listed a w inv hmf hcl hf
    have hgd : ∀ j, j < l.length → ∀ b, listed.getD j b = listed.getD j false := fun j hj b => by
      simp [Array.getD_eq_getD_getElem?, Array.getElem?_eq_getElem (show j < listed.size by rw [inv.lsz]; exact hj)]
    refine ⟨fun hr => ?_, fun i hi => ?_⟩
    · exfalso
      have hallL : ∀ j, j < l.length → listed.getD j false = true := by
        intro j hj
        induction j using Nat.strongRecOn with
        | ind j ihj =>
          cases hx : listed.getD j false with
          | true => rfl
          | false =>
            obtain ⟨o, ho⟩ : ∃ o, l[j]? = some o := ⟨_, List.getElem?_eq_getElem hj⟩
            have : j ∈ Region.ready .any l.toArray listed := mem_ready.2 ⟨(hgd j hj true).trans hx, o, by simpa using ho, fun e he hb => by
              have hlt := hB.back j o e hj ho he hb
              exact ihj e.on hlt (by omega)⟩
            rw [hr] at this; cases this
      rw [hallL m (by omega)] at hmf; cases hmf
    · obtain ⟨hun, o, ho', hdep⟩ := mem_ready.1 hi
      have ho : l[i]? = some o := by simpa using ho'
      have hil : i < l.length := (List.getElem?_eq_some_iff.1 ho).1
      have hil2 : i < listed.size := by rw [inv.lsz]; exact hil
      by_cases him : i = m
      · subst him
        obtain rfl : o = oL := Option.some.inj (ho.symm.trans hoL)
        have hlst : ∀ k j, i - j = k → j < i → listed.getD j false = true := by
          intro k
          induction k using Nat.strongRecOn with
          | ind k ihk =>
            intro j hjk hj
            have h1 := List.all_eq_true.1 hLast j (List.mem_range.2 (by omega))
            obtain ⟨i', hi', h2⟩ := List.any_eq_true.1 h1
            simp only [Bool.and_eq_true, decide_eq_true_eq] at h2
            have hil' := List.mem_range.1 hi'
            obtain ⟨oi, hoi, e, he, hb, hon⟩ := Region.waitsFor_spec h2.2
            have hoi' : l[i']? = some oi := by simpa using hoi
            by_cases hii : i' = i
            · subst hii
              obtain rfl : o = oi := Option.some.inj (ho'.symm.trans hoi)
              have := hdep e he hb
              rwa [hon] at this
            · have := hcl i' oi e hoi' (ihk (i - i') (by omega) i' rfl (by omega)) he hb
              rwa [hon] at this
        have hw := hall listed a w inv hmf (fun j hj => hlst _ j rfl hj)
        have hK : ∀ a' w', Q .normal a' w' → wpAny P .any l.toArray Q fuel (listed.setIfInBounds i true) a' w' := by
          intro a' w' hq
          have hnone : Region.ready .any l.toArray (listed.setIfInBounds i true) = [] := by
            rw [List.eq_nil_iff_forall_not_mem]
            intro j hj
            obtain ⟨h1, oj, hoj, _⟩ := mem_ready.1 hj
            have hjl : j < l.length := by simpa using (Array.getElem?_eq_some_iff.1 hoj).1
            have hjs : j < (listed.setIfInBounds i true).size := by simp [inv.lsz]; exact hjl
            have hset := get_set_true listed i j hil2
            have : (listed.setIfInBounds i true).getD j false = true := by
              rw [hset]
              by_cases hji : j = i
              · simp [hji]
              · rw [hlst _ j rfl (by omega)]; simp
            rw [Array.getD_eq_getD_getElem?, Array.getElem?_eq_getElem hjs] at h1 this
            simp only [Option.getD_some] at h1 this
            rw [h1] at this; cases this
          cases fuel with
          | zero => exact ⟨hnone, hq⟩
          | succ k => exact ⟨fun _ => hq, fun j hj => by rw [hnone] at hj; cases hj⟩
        unfold wpOp
        simp only [ho']
        unfold wpList at hw
        split at hw
        · rename_i hwt
          rw [if_pos hwt]
          exact hw.imp (Oper.wp_mono (fun a' w' hq => hK a' w' hq)) id
        · rename_i hwt
          rw [if_neg hwt]
          exact hK _ _ hw
      · have hlm : i < m := by omega
        have hdl : ∀ j ∈ D.getD i [], j < l.length ∧ listed.getD j false = true := by
          intro j hj
          obtain ⟨oj, hoj, e, he, hb, hon⟩ := Region.waitsFor_spec (hB.wait i j hil hj)
          obtain rfl : o = oj := Option.some.inj (ho'.symm.trans hoj)
          have := hdep e he hb
          rw [hon] at this
          refine ⟨?_, this⟩
          have := hB.back i o e hil ho he hb
          omega
        have hw0 := hop i o hlm ho w inv.bw (valAt l a) (fun j hj => by
          obtain ⟨h1, h2⟩ := hdl j hj
          obtain ⟨oj, hoj⟩ : ∃ o, l[j]? = some o := ⟨_, List.getElem?_eq_getElem h1⟩
          rw [hval a j oj hoj]; exact inv.on j oj hoj h2)
        obtain ⟨s1, s2, s3⟩ := relF_spec (l := l) a n hbn (inv.sz.trans hn) (D.getD i []) a0 hn
        have hlook : ∀ t, t ∈ o.looksAt l.toArray → (relF l a0 (valAt l a) (D.getD i [])).tmps[t]? = a.tmps[t]? := by
          intro t ht
          obtain ⟨h1, h2, h3⟩ := s3 t
          by_cases hx : ∃ j ∈ D.getD i [], dstAt l j = some t
          · exact h1 hx
          · refine h3 (inv.off t fun j oj hoj _ hd => hx ⟨j, hB.look i j t o hil (List.getElem?_eq_some_iff.1 hoj).1 ho ((hdst j oj hoj).trans hd) ht, (hdst j oj hoj).trans hd⟩).symm
        have hev : ∀ x ∈ o.op.operands, (relF l a0 (valAt l a) (D.getD i [])).eval x = a.eval x := by
          intro x hx
          cases x with
          | tmp t =>
            have := hlook t (List.mem_append_left _ (List.mem_filterMap.2 ⟨.tmp t, by simpa using hx, rfl⟩))
            show (relF l a0 (valAt l a) (D.getD i [])).tmps.getD t undef = a.tmps.getD t undef
            rw [Array.getD_eq_getD_getElem?, Array.getD_eq_getD_getElem?, this]
          | _ => rfl
        have hwt : Region.wanted o (yielded l.toArray (relF l a0 (valAt l a) (D.getD i [])).tmps) = Region.wanted o (yielded l.toArray a.tmps) := by
          unfold Region.wanted
          cases hg : o.guard with
          | none => rfl
          | some gw =>
            obtain ⟨g, want⟩ := gw
            simp only []
            congr 1
            unfold yielded
            cases hd : (l.toArray[g]?).bind (·.dst) with
            | none => rfl
            | some t =>
              simp only [Option.bind_some]
              rw [hlook t (List.mem_append_right _ (by rw [hg]; simp only [hd]; simp))]
        unfold wpOp
        simp only [ho']
        refine rel_transfer (execOp_congr o (fun cs b => Region.noSelect_spec hB.sel i o cs b ho') hev) hwt (fun d hd => by rw [s1]; exact hbn i d ((hdst i o ho).trans hd)) hw0 fun v w' hb hv => ?_
        refine ih _ _ _ ⟨inv.bw.trans (hb.mono inv.bw.size), by simp [inv.lsz], by rw [put_size]; exact inv.sz, by rw [put_df]; exact inv.df, fun t ht => ?_, fun j oj hoj hj => ?_⟩ ?_ ?_ ?_
        · rw [put_ne _ _ _ _ (ht i o ho (by rw [get_set_true _ _ _ hil2]; simp))]
          exact inv.off t fun j oj hoj hj => ht j oj hoj (by rw [get_set_true _ _ _ hil2, hj]; simp)
        · by_cases hji : j = i
          · subst hji
            obtain rfl := Option.some.inj (hoj.symm.trans ho)
            rw [slot_put _ _ _ (fun d hd => by rw [inv.sz, hn]; exact hbn j d ((hdst j oj hoj).trans hd))]
            exact hv
          · rw [get_set_true _ _ _ hil2] at hj
            simp only [hji, decide_false, Bool.false_or] at hj
            rw [slot_other _ _ _ _ fun d hd hd' => hB.dist j i d (List.getElem?_eq_some_iff.1 hoj).1 hil hji ((hdst j oj hoj).trans hd) ((hdst i o ho).trans hd')]
            exact hmono j w w' _ hb (inv.on j oj hoj hj)
        · rw [get_set_true _ _ _ hil2, hmf]; simp; omega
        · intro i' o' e hi' hli he hb
          rw [get_set_true _ _ _ hil2] at hli ⊢
          by_cases hii : i' = i
          · subst hii
            obtain rfl := Option.some.inj (hi'.symm.trans ho)
            rw [hdep e he hb]; simp
          · simp only [hii, decide_false, Bool.false_or] at hli
            rw [hcl i' o' e hi' hli he hb]; simp
        · have hx : listed.toList[i]? = some false := by
            rw [Array.getElem?_toList, Array.getElem?_eq_getElem hil2]
            rw [Array.getD_eq_getD_getElem?, Array.getElem?_eq_getElem hil2] at hun
            exact congrArg some hun
          have := count_set listed.toList i hx
          rw [Array.toList_setIfInBounds]
          omega

/-- The region, whatever the order, its last operation at the end: D, V as in wp_region_rel. -/
theorem wp_region_rel_last {id : Nat} {Q : Exit → Act → World → Prop} (D : List (List Nat)) (V : Nat → World → Value → Prop) (n m : Nat) (oL : Oper) (hmx : P.follows .mixedOrders = true) (hn : a0.tmps.size = n) (hB : relB l D n = true) (hLast : lastB l = true) (hm : l.length = m + 1) (hoL : l[m]? = some oL)
    (hmono : ∀ j (w w' : World) v, Below w.heap.size w w' → V j w v → V j w' v)
    (hop : ∀ i o, i < m → l[i]? = some o → ∀ w, Below w0.heap.size w0 w → ∀ vs : Nat → Value, (∀ j ∈ D.getD i [], V j w (vs j)) → wpList P l.toArray (relQ (V i) w o (relF l a0 vs (D.getD i []))) [o] (relF l a0 vs (D.getD i [])) w)
    (hfin : ∀ w, Below w0.heap.size w0 w → ∀ vs : Nat → Value, (∀ j, j < m → V j w (vs j)) → wpList P l.toArray Q [oL] (relF l a0 vs (List.range m)) w) : (Code.region id l.toArray true).wp P Q a0 w0 := by
  refine wp_region_any hmx ?_
  have hs : l.toArray.size = l.length := by simp
  rw [hs]
  have hr : ∀ k, (Array.replicate l.length false).getD k false = false := fun k => getD_replicate_false ..
  refine wpAny_of_rel_last hm hoL (relB_spec hB) hLast hn hmono hop hfin _ _ _ _ ⟨(Below.refl _ w0).drew, by simp, rfl, rfl, fun t _ => rfl, fun j o ho hj => ?_⟩ (hr _) (fun i o e _ hli _ _ => ?_) ?_
  · rw [hr] at hj; cases hj
  · rw [hr] at hli; cases hli
  · refine Nat.le_trans (List.length_filter_le (!·) (Array.replicate l.length false).toList) ?_
    simp

end

end Go.Proofs.YtaihojahccplcaaDoor

/-
  Plain facts on numbers and bytes for the wire layer: a number's bytes, and what bytes read as. No program in sight.
-/
namespace Wire

/-- The bytes of a number. -/
def num (n : Nat) : List UInt8 :=
  if h : n < 128 then [UInt8.ofNat n] else UInt8.ofNat (n % 128 + 128) :: num (n / 128)
termination_by n
decreasing_by omega

/-- The number that stands for one that may be below 0. -/
def zig (n : Int) : Nat := if 0 ≤ n then (2 * n).toNat else (2 * (-1 - n) + 1).toNat

theorem num_pos (n : Nat) : 1 ≤ (num n).length := by
  rw [num.eq_def]; split <;> simp

theorem num_le (k : Nat) : ∀ n, n < 128 ^ (k + 1) → (num n).length ≤ k + 1 := by
  induction k with
  | zero => intro n h; rw [num.eq_def, dif_pos (by simpa using h)]; simp
  | succ k ih =>
    intro n h
    rw [num.eq_def]; split
    · simp
    · have := ih (n / 128) (by rw [Nat.pow_succ] at h; omega)
      simp; omega

theorem num_length (n : Nat) (h : n < 18446744073709551616) : (num n).length ≤ 10 :=
  num_le 9 n (Nat.lt_of_lt_of_le h (by decide))

/-- What bytes read as, from the k-th byte of a number on, of which 'v' was read: the number, how many bytes, the error. -/
def dec : Nat → Nat → List UInt8 → Nat × Nat × Nat
  | _, _, [] => (0, 0, 20)
  | k, v, c :: r =>
    if (k = 9 ∧ 1 < c.toNat) ∨ (0 < k ∧ c.toNat = 0) then (0, 0, 21)
    else if c.toNat < 128 then (v + c.toNat % 128 * 128 ^ k, k + 1, 0)
    else dec (k + 1) (v + c.toNat % 128 * 128 ^ k) r

theorem dec_stop {k v : Nat} {c : UInt8} {r : List UInt8} (h : (k = 9 ∧ 1 < c.toNat) ∨ (0 < k ∧ c.toNat = 0)) : dec k v (c :: r) = (0, 0, 21) := by
  rw [dec, if_pos h]
theorem dec_last {k v : Nat} {c : UInt8} {r : List UInt8} (h : ¬ ((k = 9 ∧ 1 < c.toNat) ∨ (0 < k ∧ c.toNat = 0))) (h2 : c.toNat < 128) :
    dec k v (c :: r) = (v + c.toNat % 128 * 128 ^ k, k + 1, 0) := by
  rw [dec, if_neg h, if_pos h2]
theorem dec_more {k v : Nat} {c : UInt8} {r : List UInt8} (h : ¬ ((k = 9 ∧ 1 < c.toNat) ∨ (0 < k ∧ c.toNat = 0))) (h2 : ¬ c.toNat < 128) :
    dec k v (c :: r) = dec (k + 1) (v + c.toNat % 128 * 128 ^ k) r := by
  rw [dec, if_neg h, if_neg h2]

/-- An error bears no number; and no more is read than is there. -/
theorem dec_facts (l : List UInt8) : ∀ k v, (dec k v l).2.1 ≤ k + l.length ∧ ((dec k v l).2.2 ≠ 0 → (dec k v l).1 = 0 ∧ (dec k v l).2.1 = 0) := by
  induction l with
  | nil => intro k v; simp [dec]
  | cons c r ih =>
    intro k v
    rw [dec]
    split
    · simp
    · split
      · simp
      · have := ih (k + 1) (v + c.toNat % 128 * 128 ^ k)
        refine ⟨?_, this.2⟩
        simp only [List.length_cons]; omega

theorem dec_len (l : List UInt8) : (dec 0 0 l).2.1 ≤ l.length := by have := (dec_facts l 0 0).1; omega

theorem dec_lt (l : List UInt8) : ∀ k v, (k < 10 ∨ l = []) → v < 128 ^ k → (dec k v l).1 < 18446744073709551616 := by
  induction l with
  | nil => intro k v _ _; simp [dec]
  | cons c r ih =>
    intro k v hk hv
    have hk : k < 10 := by simpa using hk
    have hs : v + c.toNat % 128 * 128 ^ k < 128 ^ (k + 1) := by
      have h1 : c.toNat % 128 ≤ 127 := by omega
      have := Nat.mul_le_mul_right (128 ^ k) h1
      rw [Nat.pow_succ]; omega
    rw [dec]
    split
    · simp
    · rename_i hns
      split
      · rename_i hc
        show v + c.toNat % 128 * 128 ^ k < _
        by_cases h9 : k = 9
        · subst h9
          have h1 : c.toNat % 128 ≤ 1 := by omega
          have := Nat.mul_le_mul_right (128 ^ 9) h1
          have e9 : 128 ^ 9 = 9223372036854775808 := by decide
          rw [e9] at hv this ⊢; omega
        · have h8 : 128 ^ (k + 1) ≤ 128 ^ 9 := Nat.pow_le_pow_right (by decide) (by omega)
          exact Nat.lt_of_lt_of_le hs (Nat.le_trans h8 (by decide))
      · refine ih (k + 1) _ ?_ hs
        by_cases h9 : k = 9
        · omega
        · left; omega

theorem dec_u64 (l : List UInt8) : (dec 0 0 l).1 < 18446744073709551616 := dec_lt l 0 0 (.inl (by decide)) (by decide)

/-- A number read: it, what is left, the error. -/
def rdNum (l : List UInt8) (e : Nat) : Nat × List UInt8 × Nat :=
  if e ≠ 0 then (0, l, e) else if (dec 0 0 l).2.2 ≠ 0 then (0, l, (dec 0 0 l).2.2) else ((dec 0 0 l).1, l.drop (dec 0 0 l).2.1, 0)

/-- What the text's reader does at bytes without an error: what is read, how many bytes, the error. -/
def txt (most : Int) (l : List UInt8) : Option (List UInt8) × Nat × Nat :=
  if (dec 0 0 l).2.2 ≠ 0 then (none, 0, (dec 0 0 l).2.2)
  else if most < 0 ∨ most < (dec 0 0 l).1 then (none, 0, 22)
  else if l.length < (dec 0 0 l).2.1 + (dec 0 0 l).1 then (none, 0, 20)
  else (some ((l.drop (dec 0 0 l).2.1).take (dec 0 0 l).1), (dec 0 0 l).2.1 + (dec 0 0 l).1, 0)

/-- A text read: it, what is left, the error. -/
def rdText (most : Int) (l : List UInt8) (e : Nat) : List UInt8 × List UInt8 × Nat :=
  if e ≠ 0 then ([], l, e) else match txt most l with
    | (some t, n, _) => (t, l.drop n, 0)
    | (none, _, er) => ([], l, er)

/-- A sum read: it, what is left, the error. -/
def rdHash (l : List UInt8) (e : Nat) : List UInt8 × List UInt8 × Nat :=
  if e ≠ 0 then (List.replicate 32 0, l, e) else if l.length < 32 then (List.replicate 32 0, l, 20) else (l.take 32, l.drop 32, 0)

/-- A number's sign taken back. -/
def unzig (n : Nat) : Int := if n % 2 = 0 then (n / 2 : Nat) else -1 - (n / 2 : Nat)

theorem rdNum_lt (l : List UInt8) (e : Nat) : (rdNum l e).1 < 18446744073709551616 := by
  unfold rdNum
  split
  · simp
  · split
    · simp
    · exact dec_u64 l

theorem txt_facts (most : Int) (l : List UInt8) : (∀ t, (txt most l).1 = some t → (txt most l).2.2 = 0) ∧ ((txt most l).1 = none → (txt most l).2.2 ≠ 0) := by
  unfold txt
  split
  · simp_all
  · split
    · simp
    · split <;> simp

theorem txt_len (most : Int) (l : List UInt8) : (txt most l).2.1 ≤ l.length := by
  unfold txt
  split
  · simp
  · split
    · simp
    · split
      · simp
      · simp; omega

theorem rdHash_len (l : List UInt8) (e : Nat) : (rdHash l e).1.length = 32 := by
  unfold rdHash
  split
  · simp
  · split
    · simp
    · simp; omega

theorem num_300 : num 300 = [172, 2] := by
  rw [num.eq_def, dif_neg (by decide), num.eq_def, dif_pos (by decide)]; rfl
theorem num_1 : num (zig (-1)) = [1] := by
  rw [num.eq_def, dif_pos (by decide)]; rfl
theorem num_2 : num 2 = [2] := by
  rw [num.eq_def, dif_pos (by decide)]; rfl

theorem num_small (n : Nat) (h : n < 128) : num n = [UInt8.ofNat n] := by rw [num.eq_def, dif_pos h]
theorem num_big (n : Nat) (h : ¬ n < 128) : num n = UInt8.ofNat (n % 128 + 128) :: num (n / 128) := by rw [num.eq_def, dif_neg h]

/-- A greater number has no fewer bytes. -/
theorem num_mono (m : Nat) : ∀ n, n ≤ m → (num n).length ≤ (num m).length := by
  induction m using Nat.strongRecOn with
  | ind m ih =>
    intro n h
    by_cases hm : m < 128
    · rw [num_small m hm, num_small n (by omega)]; simp
    · by_cases hn : n < 128
      · rw [num_small n hn]; exact num_pos m
      · rw [num_big m hm, num_big n hn]
        have := ih (m / 128) (by omega) (n / 128) (by omega)
        simp; omega

theorem num_one (n : Nat) : (num n).length = 1 ↔ n < 128 := by
  constructor
  · intro h
    by_cases hn : n < 128
    · exact hn
    · rw [num_big n hn] at h
      have hp := num_pos (n / 128)
      rw [List.length_cons] at h; omega
  · intro h; rw [num_small n h]; rfl

/-- A number and its opposite, less one, have as many bytes. -/
theorem num_pair (i : Nat) : (num (2 * i)).length = (num (2 * i + 1)).length := by
  by_cases h : 2 * i < 128
  · rw [num_small _ h, num_small _ (by omega)]; rfl
  · rw [num_big (2 * i) h, num_big (2 * i + 1) (by omega)]
    have e : (2 * i + 1) / 128 = 2 * i / 128 := by omega
    rw [List.length_cons, List.length_cons, e]

/-- What was written is read again, whatever stands behind. -/
theorem dec_num_at (n : Nat) : ∀ k v (r : List UInt8), k ≤ 9 → n * 128 ^ k < 18446744073709551616 → (k = 0 ∨ 0 < n) →
    dec k v (num n ++ r) = (v + n * 128 ^ k, k + (num n).length, 0) := by
  induction n using Nat.strongRecOn with
  | ind n ih =>
    intro k v r hk hb h0
    have hk9 : k = 9 → n ≤ 1 := by
      rintro rfl
      have e9 : 128 ^ 9 = 9223372036854775808 := by decide
      rw [e9] at hb; omega
    by_cases hn : n < 128
    · have hc : (UInt8.ofNat n).toNat = n := by rw [UInt8.toNat_ofNat']; omega
      rw [num_small n hn, List.singleton_append, dec_last (by rw [hc]; omega) (by rw [hc]; omega), hc, Nat.mod_eq_of_lt hn]
      rfl
    · have hc : (UInt8.ofNat (n % 128 + 128)).toNat = n % 128 + 128 := by rw [UInt8.toNat_ofNat']; omega
      have hk8 : k ≤ 8 := by
        rcases Nat.lt_or_ge k 9 with h | h
        · omega
        · have := hk9 (by omega); omega
      rw [num_big n hn, List.cons_append, dec_more (by rw [hc]; omega) (by rw [hc]; omega), hc]
      have hm : (n / 128) * 128 ^ (k + 1) ≤ n * 128 ^ k := by
        rw [Nat.pow_succ, Nat.mul_comm (128 ^ k) 128, ← Nat.mul_assoc]
        exact Nat.mul_le_mul_right _ (Nat.div_mul_le_self n 128)
      rw [ih (n / 128) (by omega) (k + 1) _ r (by omega) (by omega) (.inr (by omega))]
      have e1 : (n % 128 + 128) % 128 = n % 128 := by omega
      have e2 : n % 128 * 128 ^ k + n / 128 * 128 ^ (k + 1) = n * 128 ^ k := by
        rw [Nat.pow_succ, Nat.mul_comm (128 ^ k) 128, ← Nat.mul_assoc, ← Nat.add_mul]
        congr 1; omega
      rw [e1, Nat.add_assoc, e2]
      simp only [List.length_cons]
      congr 2; omega

theorem dec_num (n : Nat) (hn : n < 18446744073709551616) (r : List UInt8) : dec 0 0 (num n ++ r) = (n, (num n).length, 0) := by
  have := dec_num_at n 0 0 r (by omega) (by simpa using hn) (.inl rfl)
  simpa using this

/-- Bytes of a number that are cut end too early. -/
theorem dec_cut_at (n : Nat) : ∀ k v j, k ≤ 9 → n * 128 ^ k < 18446744073709551616 → j < (num n).length → dec k v ((num n).take j) = (0, 0, 20) := by
  induction n using Nat.strongRecOn with
  | ind n ih =>
    intro k v j hk hb hj
    cases j with
    | zero => rw [List.take_zero, dec]
    | succ j =>
      by_cases hn : n < 128
      · rw [num_small n hn] at hj; simp at hj
      · have hc : (UInt8.ofNat (n % 128 + 128)).toNat = n % 128 + 128 := by rw [UInt8.toNat_ofNat']; omega
        have hk8 : k ≤ 8 := by
          rcases Nat.lt_or_ge k 9 with h | h
          · omega
          · obtain rfl : k = 9 := by omega
            have e9 : 128 ^ 9 = 9223372036854775808 := by decide
            rw [e9] at hb; omega
        rw [num_big n hn] at hj ⊢
        rw [List.take_succ_cons, dec_more (by rw [hc]; omega) (by rw [hc]; omega)]
        have hm : (n / 128) * 128 ^ (k + 1) ≤ n * 128 ^ k := by
          rw [Nat.pow_succ, Nat.mul_comm (128 ^ k) 128, ← Nat.mul_assoc]
          exact Nat.mul_le_mul_right _ (Nat.div_mul_le_self n 128)
        exact ih (n / 128) (by omega) (k + 1) _ j (by omega) (by omega) (by rw [List.length_cons] at hj; omega)

theorem dec_cut (n : Nat) (hn : n < 18446744073709551616) (j : Nat) (hj : j < (num n).length) : dec 0 0 ((num n).take j) = (0, 0, 20) :=
  dec_cut_at n 0 0 j (by omega) (by simpa using hn) hj

theorem rdNum_num (n : Nat) (hn : n < 18446744073709551616) (r : List UInt8) : rdNum (num n ++ r) 0 = (n, r, 0) := by
  unfold rdNum
  rw [dec_num n hn r]
  simp

theorem rdText_text (most : Int) (s r : List UInt8) (hs : s.length < 18446744073709551616) (hm : (s.length : Int) ≤ most) : rdText most (num s.length ++ (s ++ r)) 0 = (s, r, 0) := by
  unfold rdText txt
  rw [dec_num s.length hs (s ++ r)]
  rw [if_neg (by simp), if_neg (by simp), if_neg (by omega), if_neg (by simp)]
  simp [List.drop_append]

theorem rdText_most (most : Int) (s r : List UInt8) (hs : s.length < 18446744073709551616) (hm : most < s.length) : rdText most (num s.length ++ (s ++ r)) 0 = ([], num s.length ++ (s ++ r), 22) := by
  unfold rdText txt
  rw [dec_num s.length hs (s ++ r)]
  rw [if_neg (by simp), if_neg (by simp), if_pos (by omega)]

/-- What is read of bytes is what these are the bytes of. -/
theorem dec_inv_at (l : List UInt8) : ∀ k v n j, dec k v l = (n, j, 0) → k < j ∧ j - k ≤ l.length ∧ ∃ m, n = v + m * 128 ^ k ∧ l.take (j - k) = num m ∧ (0 < k → 0 < m) := by
  induction l with
  | nil => intro k v n j h; simp [dec] at h
  | cons c r ih =>
    intro k v n j h
    rw [dec] at h
    split at h
    · simp at h
    · rename_i hns
      split at h
      · rename_i hc
        simp only [Prod.mk.injEq, and_true] at h
        obtain ⟨rfl, rfl⟩ := h
        refine ⟨by omega, by simp, c.toNat, ?_, ?_, ?_⟩
        · rw [Nat.mod_eq_of_lt hc]
        · rw [num_small _ hc, show k + 1 - k = 1 by omega, List.take_succ_cons, List.take_zero]
          simp
        · intro hk; omega
      · rename_i hc
        obtain ⟨h1, h2, m, h3, h4, h5⟩ := ih (k + 1) _ n j h
        have hm := h5 (by omega)
        have hb := c.toNat_lt
        refine ⟨by omega, by simp; omega, c.toNat % 128 + 128 * m, ?_, ?_, ?_⟩
        · rw [h3, Nat.add_mul, Nat.pow_succ, Nat.add_assoc]
          congr 2
          rw [Nat.mul_comm (128 ^ k) 128, ← Nat.mul_assoc, Nat.mul_comm m 128]
        · rw [num_big _ (by omega), show j - k = (j - (k + 1)) + 1 by omega, List.take_succ_cons, h4]
          congr 1
          · apply UInt8.toNat_inj.1
            rw [UInt8.toNat_ofNat']; omega
          · congr 1; omega
        · intro _; omega

theorem dec_inv {l : List UInt8} {n j : Nat} (h : dec 0 0 l = (n, j, 0)) : l.take j = num n ∧ j ≤ l.length := by
  obtain ⟨_, h2, m, h3, h4, _⟩ := dec_inv_at l 0 0 n j h
  simp only [Nat.pow_zero, Nat.mul_one, Nat.zero_add] at h3
  subst h3
  exact ⟨by simpa using h4, by simpa using h2⟩

theorem zig_unzig (n : Nat) : zig (unzig n) = n := by
  unfold zig unzig
  split
  · rw [if_pos (by omega)]; omega
  · rw [if_neg (by omega)]; omega

theorem unzig_zig (i : Int) : unzig (zig i) = i := by
  unfold zig unzig
  split
  · rw [if_pos (by omega)]; omega
  · rw [if_neg (by omega)]; omega

theorem unzig_bounds (n : Nat) (h : n < 18446744073709551616) : -9223372036854775808 ≤ unzig n ∧ unzig n ≤ 9223372036854775807 := by
  unfold unzig; split <;> omega

/-- A number that is read to the end. -/
theorem rdNum_end {l : List UInt8} (h1 : (rdNum l 0).2.1 = []) (h2 : (rdNum l 0).2.2 = 0) : num (rdNum l 0).1 = l := by
  unfold rdNum at h1 h2 ⊢
  rw [if_neg (by simp)] at h1 h2 ⊢
  split at h1
  · rename_i he
    rw [if_pos he] at h2
    exact absurd h2 he
  · rename_i he
    rw [if_neg he]
    simp only at h1 ⊢
    obtain ⟨h3, h4⟩ := dec_inv (l := l) (n := (dec 0 0 l).1) (j := (dec 0 0 l).2.1) (Prod.ext rfl (Prod.ext rfl (by simp only; omega)))
    rw [← h3]
    have := List.drop_eq_nil_iff.1 h1
    exact List.take_of_length_le this

theorem txt_some {most : Int} {l t : List UInt8} {n er : Nat} (h : txt most l = (some t, n, er)) :
    (dec 0 0 l).2.2 = 0 ∧ n = (dec 0 0 l).2.1 + (dec 0 0 l).1 ∧ t = (l.drop (dec 0 0 l).2.1).take (dec 0 0 l).1 ∧ (dec 0 0 l).2.1 + (dec 0 0 l).1 ≤ l.length := by
  unfold txt at h
  split at h
  · simp at h
  · split at h
    · simp at h
    · split at h
      · simp at h
      · simp only [Prod.mk.injEq, Option.some.injEq] at h
        exact ⟨by omega, h.2.1.symm, h.1.symm, by omega⟩

theorem rdText_end {most : Int} {l : List UInt8} (h1 : (rdText most l 0).2.1 = []) (h2 : (rdText most l 0).2.2 = 0) : num (rdText most l 0).1.length ++ (rdText most l 0).1 = l := by
  have hf := txt_facts most l
  unfold rdText at h1 h2 ⊢
  rw [if_neg (by simp)] at h1 h2 ⊢
  cases hx : txt most l with
  | mk o r =>
    obtain ⟨n, er⟩ := r
    rw [hx] at h1 h2 hf
    cases o with
    | none => exact absurd h2 (hf.2 rfl)
    | some t =>
      simp only at h1 ⊢
      obtain ⟨he, hn, ht, hle⟩ := txt_some hx
      obtain ⟨h3, h4⟩ := dec_inv (l := l) (n := (dec 0 0 l).1) (j := (dec 0 0 l).2.1) (Prod.ext rfl (Prod.ext rfl he))
      have hd := List.drop_eq_nil_iff.1 h1
      have htl : t = l.drop (dec 0 0 l).2.1 := by
        rw [ht]; exact List.take_of_length_le (by rw [List.length_drop]; omega)
      have hlen : t.length = (dec 0 0 l).1 := by rw [htl, List.length_drop]; omega
      rw [hlen, ← h3, htl]
      exact List.take_append_drop _ _

theorem rdHash_end {l : List UInt8} (h1 : (rdHash l 0).2.1 = []) (h2 : (rdHash l 0).2.2 = 0) : (rdHash l 0).1 = l := by
  unfold rdHash at h1 h2 ⊢
  rw [if_neg (by simp)] at h1 h2 ⊢
  split at h1
  · rename_i h; rw [if_pos h] at h2; simp at h2
  · rename_i h
    rw [if_neg h]
    exact List.take_of_length_le (List.drop_eq_nil_iff.1 h1)

theorem rdText_len (most : Int) (l : List UInt8) (e : Nat) : (rdText most l e).1.length ≤ l.length := by
  unfold rdText
  split
  · simp
  · cases hx : txt most l with
    | mk o r =>
      obtain ⟨n, er⟩ := r
      cases o with
      | none => simp
      | some t =>
        obtain ⟨he, hn, ht, hle⟩ := txt_some hx
        simp only [ht, List.length_take, List.length_drop]; omega

theorem num_inj {a b : Nat} (ha : a < 18446744073709551616) (hb : b < 18446744073709551616) (h : num a = num b) : a = b := by
  have h1 := dec_num a ha []
  have h2 := dec_num b hb []
  rw [h, h2] at h1
  exact (congrArg (fun x : Nat × Nat × Nat => x.1) h1).symm

theorem text_inj {a b : List UInt8} (ha : a.length < 18446744073709551616) (hb : b.length < 18446744073709551616) (h : num a.length ++ a = num b.length ++ b) : a = b := by
  have h1 := dec_num a.length ha a
  have h2 := dec_num b.length hb b
  rw [h, h2] at h1
  simp only [Prod.mk.injEq, and_true] at h1
  have h3 := congrArg (List.drop (num a.length).length) h
  rw [List.drop_left, ← h1.2, List.drop_left] at h3
  exact h3

theorem zig_lt (i : Int) (h0 : -9223372036854775808 ≤ i) (h1 : i ≤ 9223372036854775807) : zig i < 18446744073709551616 := by
  unfold zig; split <;> omega

theorem zig_inj {a b : Int} (h : zig a = zig b) : a = b := by
  rw [← unzig_zig a, h, unzig_zig]

end Wire
