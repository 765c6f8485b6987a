/- TreeSpec, RefTurn, Bits, Out, NumT, OpenC, RelTail, StSpec, StLaw, Number, Out2, In, In2, In3, In4, Awake, Hex, Hex2, Read, in one text. -/
import Derived.Test.YtaihojahccplcaaDoorKG0a
import Derived.Test.YtaihojahccplcaaDoorRows
import Derived.WalkKit
import Derived.WalkSpells
import Derived.WalkLawsBesides
import Derived.Lib.Hide
import Derived.Deep.QuietTactic
import Derived.BigQuiet
import Derived.IntWalk
import Derived.Lib.AppendStr
import Derived.RegionTactic
import Derived.Deep.RegionLaw
import Derived.Deep.RegionWith
import Derived.ProofKit
import Derived.OpenShut
import Derived.ShutString
import Derived.ChangeOld
import Derived.SizedLaws
import Derived.Deep.Slices
import Derived.Deep.MidRow
import Derived.Deep.AppendLies
import Derived.Laws.CopyOwn
import Derived.Lib.BufferWrite
import Derived.Lib.Bytealg
import Derived.Lib.Strings
import Derived.Test.YtaihojahccplcaaDoorShelf
import Derived.Laws.BitsAllLaws
/- What a tree of leaves comes to: plain. -/
namespace Go.Proofs.YtaihojahccplcaaDoor.Tree
set_option linter.unusedVariables false

/-- How many leaves stand on the left of n. -/
def half (n : Nat) : Nat := if n < 2 then 0 else 2 ^ Nat.log2 (n - 1)

theorem half_of {n i : Nat} (h1 : 2 ^ i < n) (h2 : n ≤ 2 * 2 ^ i) : half n = 2 ^ i := by
  have hp := Nat.two_pow_pos i
  have : Nat.log2 (n - 1) = i := by
    have h0 : n - 1 ≠ 0 := by omega
    have l1 : i ≤ Nat.log2 (n - 1) := (Nat.le_log2 h0).2 (by omega)
    have l2 : Nat.log2 (n - 1) < i + 1 := (Nat.log2_lt h0).2 (by rw [Nat.pow_succ]; omega)
    omega
  unfold half
  rw [if_neg (by omega), this]

theorem half_zero {n : Nat} (h : n < 2) : half n = 0 := by unfold half; rw [if_pos h]

theorem half_spec {n : Nat} (h : 2 ≤ n) : ∃ i, half n = 2 ^ i ∧ 2 ^ i < n ∧ n ≤ 2 * 2 ^ i := by
  have h0 : n - 1 ≠ 0 := by omega
  refine ⟨Nat.log2 (n - 1), by unfold half; rw [if_neg (by omega)], ?_, ?_⟩
  · have := (Nat.le_log2 h0).1 (Nat.le_refl _); omega
  · have := (Nat.log2_lt h0).1 (Nat.lt_succ_self _); rw [Nat.pow_succ] at this; omega

theorem half_pos {n : Nat} (h : 2 ≤ n) : 1 ≤ half n := by
  obtain ⟨i, h1, _⟩ := half_spec h
  rw [h1]; exact Nat.two_pow_pos i
theorem half_lt {n : Nat} (h : 2 ≤ n) : half n < n := by
  obtain ⟨i, h1, h2, _⟩ := half_spec h
  omega
theorem half_ge {n : Nat} (h : 2 ≤ n) : n ≤ 2 * half n := by
  obtain ⟨i, h1, _, h2⟩ := half_spec h
  omega

/-- A leaf's sum, that of two, of none; the root's. -/
def leaf (s : List UInt8) : List UInt8 := Sha.of (0 :: s)
def node (a b : List UInt8) : List UInt8 := Sha.of (1 :: (a ++ b))
def root (n : Nat) (t : List UInt8) : List UInt8 := Sha.of (3 :: (Wire.num n ++ t))

theorem leaf_len (s : List UInt8) : (leaf s).length = 32 := Sha.of_len _
theorem node_len (a b : List UInt8) : (node a b).length = 32 := Sha.of_len _
theorem root_len (n : Nat) (t : List UInt8) : (root n t).length = 32 := Sha.of_len _

/-- The top of leaves. -/
def top (l : List (List UInt8)) : List UInt8 :=
  if h : 2 ≤ l.length then node (top (l.take (half l.length))) (top (l.drop (half l.length)))
  else match l with
    | [] => Sha.of [2]
    | a :: _ => leaf a
termination_by l.length
decreasing_by
  · have := half_lt h; simp only [List.length_take]; omega
  · have := half_pos h; simp only [List.length_drop]; omega

theorem top_nil : top [] = Sha.of [2] := by rw [top.eq_def]; rfl
theorem top_one (a : List UInt8) : top [a] = leaf a := by rw [top.eq_def]; rfl
theorem top_two {l : List (List UInt8)} (h : 2 ≤ l.length) : top l = node (top (l.take (half l.length))) (top (l.drop (half l.length))) := by
  rw [top.eq_def, dif_pos h]
theorem top_len (l : List (List UInt8)) : (top l).length = 32 := by
  by_cases h : 2 ≤ l.length
  · rw [top_two h]; exact node_len _ _
  · match l, h with
    | [], _ => rw [top_nil]; exact Sha.of_len _
    | [a], _ => rw [top_one]; exact leaf_len _
    | _ :: _ :: _, h => exact absurd (by simp) h

/-- The proof of a leaf, from the leaf on up. -/
def prove (l : List (List UInt8)) (at' : Nat) : List (List UInt8) :=
  if h : 2 ≤ l.length then
    if at' < half l.length then prove (l.take (half l.length)) at' ++ [top (l.drop (half l.length))]
    else prove (l.drop (half l.length)) (at' - half l.length) ++ [top (l.take (half l.length))]
  else []
termination_by l.length
decreasing_by
  · have := half_lt h; simp only [List.length_take]; omega
  · have := half_pos h; simp only [List.length_drop]; omega

theorem prove_small {l : List (List UInt8)} (h : ¬ 2 ≤ l.length) (i : Nat) : prove l i = [] := by rw [prove.eq_def, dif_neg h]
theorem prove_left {l : List (List UInt8)} {i : Nat} (h : 2 ≤ l.length) (hi : i < half l.length) : prove l i = prove (l.take (half l.length)) i ++ [top (l.drop (half l.length))] := by
  rw [prove.eq_def, dif_pos h, if_pos hi]
theorem prove_right {l : List (List UInt8)} {i : Nat} (h : 2 ≤ l.length) (hi : ¬ i < half l.length) : prove l i = prove (l.drop (half l.length)) (i - half l.length) ++ [top (l.take (half l.length))] := by
  rw [prove.eq_def, dif_pos h, if_neg hi]

/-- On which side a leaf stands, from the top on down: true is the left one. -/
def sides (n at' : Nat) : List Bool :=
  if h : 2 ≤ n then
    if at' < half n then true :: sides (half n) at' else false :: sides (n - half n) (at' - half n)
  else []
termination_by n
decreasing_by
  · exact half_lt h
  · have := half_pos h; omega

theorem sides_small {n : Nat} (h : ¬ 2 ≤ n) (i : Nat) : sides n i = [] := by rw [sides.eq_def, dif_neg h]
theorem sides_left {n i : Nat} (h : 2 ≤ n) (hi : i < half n) : sides n i = true :: sides (half n) i := by rw [sides.eq_def, dif_pos h, if_pos hi]
theorem sides_right {n i : Nat} (h : 2 ≤ n) (hi : ¬ i < half n) : sides n i = false :: sides (n - half n) (i - half n) := by rw [sides.eq_def, dif_pos h, if_neg hi]

/-- There are no more sides than it takes to double up to n. -/
theorem sides_len : ∀ (d n i : Nat), i < n → n ≤ 2 ^ d → (sides n i).length ≤ d := by
  intro d n
  induction n using Nat.strongRecOn generalizing d with
  | ind n ih =>
    intro i hi hn
    by_cases h : 2 ≤ n
    · obtain ⟨j, h1, h2, h3⟩ := half_spec h
      cases d with
      | zero => simp at hn; omega
      | succ d =>
        have hjd : j ≤ d := by
          apply Nat.le_of_not_lt
          intro hlt
          have := Nat.pow_le_pow_right (n := 2) (by omega) (show d + 1 ≤ j by omega)
          omega
        have hk : half n ≤ 2 ^ d := by rw [h1]; exact Nat.pow_le_pow_right (by omega) hjd
        by_cases hl : i < half n
        · rw [sides_left h hl, List.length_cons]
          have := ih (half n) (half_lt h) d i hl hk
          omega
        · rw [sides_right h hl, List.length_cons]
          have := ih (n - half n) (by have := half_pos h; omega) d (i - half n) (by omega) (by omega)
          omega
    · rw [sides_small h]; simp

/-- One step up: the sum and the side on which it stands. -/
def step (t : List UInt8) (x : Bool × List UInt8) : List UInt8 := if x.1 then node t x.2 else node x.2 t
/-- What a leaf comes to, with a proof of as many sums as there are sides. -/
def climb (t : List UInt8) (sd : List Bool) (p : List (List UInt8)) : List UInt8 := (sd.reverse.zip p).foldl step t

theorem step_len (t : List UInt8) (x : Bool × List UInt8) : (step t x).length = 32 := by unfold step; split <;> exact node_len _ _

theorem climb_len (t : List UInt8) (ht : t.length = 32) (sd : List Bool) (p : List (List UInt8)) : (climb t sd p).length = 32 := by
  unfold climb
  generalize sd.reverse.zip p = z
  induction z generalizing t with
  | nil => exact ht
  | cons x z ih => exact ih _ (step_len _ _)

/-- Is it proved? -/
def check (want : List UInt8) (n i : Nat) (s : List UInt8) (p : List (List UInt8)) : Bool :=
  decide ((sides n i).length = p.length) && (root n (climb (leaf s) (sides n i) p) == want)

end Go.Proofs.YtaihojahccplcaaDoor.Tree

/- The walks of the reference's small functions: two, cut, turn, constants. -/
namespace Go.Proofs.YtaihojahccplcaaDoor
open Go.RowKit
set_option linter.unusedSimpArgs false

set_option maxRecDepth 100000 in
set_option maxHeartbeats 400000 in
theorem two_any (n A : Nat) (hn : n ≤ 63) (hA : A = 2 ^ n) (w : World) :
    Calls Tryd.prog 62 #[.int .i64 n] w fun e w' => w = w' ∧ e = .returned (.int .u64 A) := by
  have HA := Lib.hid hA; clear hA
  go_enter Tryd.func62, Tryd.ntmps62
  go_wp2
  go_loop [3, 4] (fun x i => ∃ k P : Nat, k ≤ n ∧ i = .int .i64 k ∧ x = .int .u64 P ∧ Hid (P = 2 ^ k)) (fun _ i => n - (intOf i).toNat)
  case atStart => exact ⟨0, 1, by omega, rfl, rfl, rfl⟩
  case round =>
    obtain ⟨k, P, hk, rfl, rfl, hP⟩ := hrel
    by_cases hlt : k < n
    · have hb : P ≤ 4611686018427387904 := by rw [hP.out]; exact Nat.pow_le_pow_right (n := 2) (by decide) (by omega : k ≤ 62)
      go_wp2
      go_round
      case rel => exact ⟨k + 1, 2 * P, by omega, by go_num, by go_num, Lib.hid (by rw [Nat.pow_succ, hP.out, Nat.mul_comm])⟩
      case measure => simp [intOf]; omega
    · obtain rfl : k = n := by omega
      go_wp2
      go_ret
      exact ⟨rfl, congrArg (fun z : Nat => Ending.returned (.int .u64 (z : Int))) (hP.out.trans HA.out.symm)⟩

set_option maxRecDepth 100000 in
theorem cut_any (x : Nat) (w : World) :
    Calls Tryd.prog 64 #[.int .u64 x] w fun e w' => w = w' ∧ e = .returned (.int .u64 ((x % 4294967296 : Nat) : Int)) := by
  go_enter Tryd.func64, Tryd.ntmps64
  go_wp2
  go_ret
  exact ⟨rfl, rfl⟩

theorem rot_val (n A B x : Nat) (hn : n ≤ 32) (hA : A = 2 ^ n) (hB : B = 2 ^ (32 - n)) (hx : x < 4294967296) :
    IntKind.u64.wrap (IntKind.u64.wrap ((x : Int) / (A : Int)) + IntKind.u64.wrap ((x : Int) % (A : Int) * (B : Int))) = (Sha.rot n x : Int) ∧ 0 < A ∧ x % A * B < 4294967296 := by
  subst hA hB
  have h0 : 0 < 2 ^ n := Nat.two_pow_pos n
  have hr := Sha.rot_lt n x hn hx
  unfold Sha.rot Sha.M at *
  have e1 : ((x : Int) % ((2 ^ n : Nat) : Int) * ((2 ^ (32 - n) : Nat) : Int)) = ((x % 2 ^ n * 2 ^ (32 - n) : Nat) : Int) := by rw [Int.natCast_mul, Int.natCast_emod]
  have e2 : ((x : Int) / ((2 ^ n : Nat) : Int)) = ((x / 2 ^ n : Nat) : Int) := by rw [Int.natCast_ediv]
  rw [e1, e2, IntKind.wrap_u64, IntKind.wrap_u64, IntKind.wrap_u64]
  generalize x % 2 ^ n * 2 ^ (32 - n) = p at *
  generalize x / 2 ^ n = q at *
  refine ⟨?_, h0, by omega⟩
  omega

set_option maxRecDepth 100000 in
set_option maxHeartbeats 400000 in
theorem rturn_any (x n : Nat) (hn : n ≤ 32) (hx : x < 4294967296) (w : World) :
    Calls Tryd.prog 65 #[.int .u64 x, .int .i64 n] w fun e w' => e = .returned (.int .u64 (Sha.rot n x)) ∧ ∃ q, w' = w.drewN q := by
  obtain ⟨A, hA⟩ : ∃ A, A = 2 ^ n := ⟨_, rfl⟩
  obtain ⟨B, hB⟩ : ∃ B, B = 2 ^ (32 - n) := ⟨_, rfl⟩
  obtain ⟨hv, hA0, _⟩ := rot_val n A B x hn hA hB hx
  have HV := Lib.hid hv; clear hv
  have HA := Lib.hid hA; clear hA
  have HB := Lib.hid hB; clear hB
  have t1 := fun w => two_any n A (by omega) HA.out w
  have t2 := fun w => two_any (32 - n) B (by omega) HB.out w
  have e32 : (((32 - n : Nat)) : Int) = 32 - (n : Int) := by omega
  rw [e32] at t2
  have T1 := Lib.hid t1; clear t1
  have T2 := Lib.hid t2; clear t2
  clear e32
  have hs : IntKind.i64.wrap (32 - (n : Int)) = 32 - (n : Int) := IntWalk.i64_in _ (by omega)
  go_enter Tryd.func65, Tryd.ntmps65
  go_wp2_with fail
  refine wp_region_quiet_lit (by kernel_rfl) (by kernel_rfl) ?_
  repeat (go_big_quiet_step (first | (go_at_call 62; with_reducible exact Calls.quiet_of_same ((T1.out _).mono fun _ _ h => ⟨h.2, h.1.symm⟩)) | (go_at_call 62; with_reducible exact Calls.quiet_of_same ((T2.out _).mono fun _ _ h => ⟨h.2, h.1.symm⟩))))
  refine wpQuiet_nil ?_
  rintro w3 ⟨nq, hw3⟩
  go_wp2_with fail
  go_ret
  exact ⟨congrArg (fun z : Int => Ending.returned (.int .u64 z)) HV.out, ⟨nq, hw3⟩⟩

end Go.Proofs.YtaihojahccplcaaDoor

/- Bit operations of the model's numbers, in plain arithmetic. -/
namespace Go.Proofs.YtaihojahccplcaaDoor
open Go.RowKit

theorem and127_u8 (c : UInt8) : bits .and .u8 (c.toNat : Int) 127 = ((c.toNat % 128 : Nat) : Int) := by
  have h := c.toNat_lt
  have := bits_mask .u8 8 (by decide) wraps_u8 7 (by decide) (c.toNat : Int) (by omega) (by omega)
  simpa using this

/-- What Out.Int writes. -/
theorem zig_u64 (n : Int) (h0 : -9223372036854775808 ≤ n) (h1 : n ≤ 9223372036854775807) :
    bits .xor .u64 (IntKind.u64.wrap (IntKind.u64.wrap n * 2)) (IntKind.u64.wrap (n / 9223372036854775808)) = (Wire.zig n : Int) := by
  unfold Wire.zig
  by_cases hn : 0 ≤ n
  · have e1 : IntKind.u64.wrap (IntKind.u64.wrap n * 2) = ((2 * n).toNat : Int) := by rw [IntKind.wrap_u64, IntKind.wrap_u64]; omega
    have e2 : IntKind.u64.wrap (n / 9223372036854775808) = ((0 : Nat) : Int) := by rw [IntKind.wrap_u64]; omega
    rw [e1, e2, bits_xor_u64_nat _ _ (by omega) (by omega), if_pos hn, Nat.xor_zero]
  · have e1 : IntKind.u64.wrap (IntKind.u64.wrap n * 2) = (((2 * n) % 18446744073709551616).toNat : Int) := by rw [IntKind.wrap_u64, IntKind.wrap_u64]; omega
    have e2 : IntKind.u64.wrap (n / 9223372036854775808) = ((2 ^ 64 - 1 : Nat) : Int) := by rw [IntKind.wrap_u64]; omega
    rw [e1, e2, bits_xor_u64_nat _ _ (by omega) (by omega), if_neg hn]
    have hx := BitVec.toNat_not (x := BitVec.ofNat 64 ((2 * n) % 18446744073709551616).toNat)
    have e3 : ∀ a : Nat, a < 2 ^ 64 → a ^^^ (2 ^ 64 - 1) = 2 ^ 64 - 1 - a := by
      intro a ha
      have hx := BitVec.toNat_not (x := BitVec.ofNat 64 a)
      rw [← BitVec.xor_allOnes, BitVec.toNat_xor, BitVec.toNat_allOnes, BitVec.toNat_ofNat, Nat.mod_eq_of_lt ha] at hx
      exact hx
    rw [e3 _ (by omega)]
    omega

/-- What In.Int makes of a number. -/
theorem unzig_i64 (n : Nat) (h : n < 18446744073709551616) :
    bits .xor .i64 (wrap64 ((n : Int) / 2)) (wrap64 (-wrap64 (bits .and .u64 (n : Int) 1))) = Wire.unzig n := by
  have ha : bits .and .u64 (n : Int) 1 = ((n % 2 : Nat) : Int) := by
    have := bits_and_u64_nat n 1 h (by decide)
    rw [Nat.and_one_is_mod] at this
    exact this
  have e0 : ∀ x : Int, wrap64 x = (x + 9223372036854775808) % 18446744073709551616 - 9223372036854775808 := fun x => by unfold wrap64; rfl
  rw [ha]
  have e1 : wrap64 ((n : Int) / 2) = ((n / 2 : Nat) : Int) := by rw [e0]; omega
  rw [e1]
  have hb : n / 2 < 2 ^ 63 := by omega
  have e3 : ∀ a : Nat, a < 2 ^ 63 → (BitVec.ofInt 64 (a : Int)).toNat = a := by
    intro a ha
    rw [BitVec.ofInt_natCast, BitVec.toNat_ofNat]; exact Nat.mod_eq_of_lt (by omega)
  unfold Wire.unzig
  by_cases h2 : n % 2 = 0
  · have e2 : wrap64 (-wrap64 ((n % 2 : Nat) : Int)) = ((0 : Nat) : Int) := by rw [h2, e0, e0]; omega
    rw [e2, if_pos h2]
    show IntKind.i64.wrap ((BitVec.ofInt 64 ((n / 2 : Nat) : Int) ^^^ BitVec.ofInt 64 ((0 : Nat) : Int)).toNat : Int) = _
    rw [BitVec.toNat_xor, e3 _ hb, e3 0 (by decide), Nat.xor_zero, IntKind.wrap_i64]; omega
  · have e2 : wrap64 (-wrap64 ((n % 2 : Nat) : Int)) = -1 := by rw [show n % 2 = 1 by omega, e0, e0]; omega
    rw [e2, if_neg h2]
    show IntKind.i64.wrap ((BitVec.ofInt 64 ((n / 2 : Nat) : Int) ^^^ BitVec.allOnes 64).toNat : Int) = _
    rw [BitVec.xor_allOnes, BitVec.toNat_not, e3 _ hb, IntKind.wrap_i64]; omega

theorem wrap_u64_lt (n : Nat) (h : n < 18446744073709551616) : IntKind.u64.wrap (n : Int) = n := by
  rw [IntKind.wrap_u64]; omega

/-- A low part and a part above it, by 'or'. -/
theorem or_join (n x i : Nat) (hn : n < 2 ^ i) (hx : x * 2 ^ i < 18446744073709551616) (hn2 : n < 18446744073709551616) :
    bits .or .u64 (n : Int) ((x * 2 ^ i : Nat) : Int) = ((n + x * 2 ^ i : Nat) : Int) := by
  rw [bits_or_u64_nat _ _ hn2 hx, Nat.or_comm, Nat.mul_comm, ← Nat.two_pow_add_eq_or_of_lt hn, Nat.add_comm]

theorem pow128 (k : Nat) : 128 ^ k = 2 ^ (7 * k) := by rw [Nat.pow_mul]

theorem pow128_le (k : Nat) (h : k ≤ 9) : 128 ^ k ≤ 9223372036854775808 :=
  Nat.le_trans (Nat.pow_le_pow_right (by decide) h) (by decide)

/-- One byte more of a number, as the program puts it in. -/
theorem number_step (n k : Nat) (c : UInt8) (hk : k ≤ 9) (hn : n < 128 ^ k) (h9 : k = 9 → c.toNat ≤ 1) :
    bits .or .u64 (n : Int) (IntKind.u64.wrap (IntKind.u64.wrap (bits .and .u8 (c.toNat : Int) 127) * 2 ^ (7 * k))) =
      ((n + c.toNat % 128 * 128 ^ k : Nat) : Int) := by
  have hp := pow128_le k hk
  have hb : c.toNat % 128 * 128 ^ k < 18446744073709551616 := by
    by_cases h : k = 9
    · have := h9 h; subst h
      have : c.toNat % 128 ≤ 1 := by omega
      calc c.toNat % 128 * 128 ^ 9 ≤ 1 * 128 ^ 9 := Nat.mul_le_mul_right _ this
        _ < _ := by decide
    · have h8 : 128 ^ k ≤ 128 ^ 8 := Nat.pow_le_pow_right (by decide) (by omega)
      calc c.toNat % 128 * 128 ^ k ≤ 127 * 128 ^ 8 := Nat.mul_le_mul (by omega) h8
        _ < _ := by decide
  rw [and127_u8, wrap_u64_lt _ (by omega)]
  have e : ((c.toNat % 128 : Nat) : Int) * 2 ^ (7 * k) = ((c.toNat % 128 * 2 ^ (7 * k) : Nat) : Int) := by
    rw [Int.natCast_mul, Int.natCast_pow]; rfl
  rw [pow128] at hb hn hp ⊢
  rw [e, wrap_u64_lt _ hb]
  exact or_join n _ _ hn hb (by omega)

theorem number_step9 (n : Nat) (c : UInt8) (hn : n < 128 ^ 9) (h9 : c.toNat ≤ 1) :
    bits .or .u64 (n : Int) (IntKind.u64.wrap (IntKind.u64.wrap (bits .and .u8 (c.toNat : Int) 127) * 9223372036854775808)) =
      ((n + c.toNat % 128 * 128 ^ 9 : Nat) : Int) := number_step n 9 c (by omega) hn (fun _ => h9)

/-- The same step by sums and products, as the reference has it. -/
theorem ref_step (n k p : Nat) (c : UInt8) (hk : k ≤ 9) (hn : n < 128 ^ k) (h9 : k = 9 → c.toNat ≤ 1) (hp : p = 128 ^ k) :
    IntKind.u64.wrap ((n : Int) + IntKind.u64.wrap ((c.toNat : Int) % 128 * (p : Int))) = ((n + c.toNat % 128 * 128 ^ k : Nat) : Int) := by
  have hpw := pow128_le k hk
  have hb : c.toNat % 128 * 128 ^ k < 9223372036854775809 := by
    by_cases h : k = 9
    · have := h9 h; subst h
      have h1 : c.toNat % 128 ≤ 1 := by omega
      calc c.toNat % 128 * 128 ^ 9 ≤ 1 * 128 ^ 9 := Nat.mul_le_mul_right _ h1
        _ < _ := by decide
    · have h8 : 128 ^ k ≤ 128 ^ 8 := Nat.pow_le_pow_right (by decide) (by omega)
      calc c.toNat % 128 * 128 ^ k ≤ 127 * 128 ^ 8 := Nat.mul_le_mul (by omega) h8
        _ < _ := by decide
  subst hp
  have e : (c.toNat : Int) % 128 * ((128 ^ k : Nat) : Int) = ((c.toNat % 128 * 128 ^ k : Nat) : Int) := by
    rw [Int.natCast_mul, Int.natCast_emod]; rfl
  rw [e, wrap_u64_lt _ (by omega), ← Int.natCast_add, wrap_u64_lt _ (by omega)]

theorem ref_weight (k p : Nat) (hp : k ≤ 9 → p = 128 ^ k) : ∃ q : Nat, IntKind.u64.wrap ((p : Int) * 128) = (q : Int) ∧ (k + 1 ≤ 9 → q = 128 ^ (k + 1)) := by
  refine ⟨p * 128 % 18446744073709551616, by rw [IntKind.wrap_u64]; omega, fun h => ?_⟩
  rw [hp (by omega), ← Nat.pow_succ]
  have := pow128_le (k + 1) h
  exact Nat.mod_eq_of_lt (by omega)

theorem number_lt (n k : Nat) (c : UInt8) (hn : n < 128 ^ k) : n + c.toNat % 128 * 128 ^ k < 128 ^ (k + 1) := by
  have : c.toNat % 128 ≤ 127 := by omega
  have := Nat.mul_le_mul_right (128 ^ k) this
  rw [Nat.pow_succ]; omega

end Go.Proofs.YtaihojahccplcaaDoor

/- The walks of wire.Out: what is written is what Wire.num and its kin say. -/
namespace Go.Proofs.YtaihojahccplcaaDoor
open Go.RowKit

theorem Tryd.under_bytes : Tryd.prog.underlying 82 = some (.slice 5) := by kernel_rfl
theorem Tryd.info_byte : (Tryd.prog.info? 5).map (fun i => (i.zero, i.size, i.bytes)) = some (some (.int .u8 0), 1, 1) := by kernel_rfl

/-- Below block B the world w' is as w was, but for block b. -/
structure BelowBut (B b : Nat) (w w' : World) : Prop where
  os : w'.os = w.os
  tape : w'.tape = w.tape
  output : w'.output = w.output
  size : w.heap.size ≤ w'.heap.size
  block : ∀ k, k < B → k ≠ b → w'.heap[k]? = w.heap[k]?

theorem BelowBut.refl (B b : Nat) (w : World) : BelowBut B b w w := ⟨rfl, rfl, rfl, Nat.le_refl _, fun _ _ _ => rfl⟩
theorem BelowBut.trans {B b : Nat} {x y z : World} (h : BelowBut B b x y) (k : BelowBut B b y z) : BelowBut B b x z :=
  ⟨k.os.trans h.os, k.tape.trans h.tape, k.output.trans h.output, Nat.le_trans h.size k.size, fun i hi hb => (k.block i hi hb).trans (h.block i hi hb)⟩
theorem BelowBut.mono {B B' b : Nat} {w w' : World} (h : BelowBut B b w w') (hB : B' ≤ B) : BelowBut B' b w w' :=
  ⟨h.os, h.tape, h.output, h.size, fun k hk => h.block k (Nat.lt_of_lt_of_le hk hB)⟩
theorem BelowBut.below {B b : Nat} {w w' : World} (h : BelowBut B b w w') (hB : B ≤ b) : Below B w w' :=
  ⟨h.os, h.tape, h.output, h.size, fun k hk => h.block k hk (by omega)⟩
theorem BelowBut.of {B b : Nat} {w w' : World} (h : Below B w w') : BelowBut B b w w' :=
  ⟨h.os, h.tape, h.output, h.size, fun k hk _ => h.block k hk⟩



/-- Block b is a wire.Out whose bytes are bs; the row lies from block 'base' on. -/
def OutIs (w : World) (base b : Nat) (bs : List UInt8) : Prop :=
  ∃ v, w.heap[b]? = some (.cells #[v] 84 (0, 0)) ∧ w.ownsRow base 5 1 v bs.length (byteCells bs)

theorem OutIs.lt {w : World} {base b : Nat} {bs : List UInt8} (h : OutIs w base b bs) : b < w.heap.size := by
  obtain ⟨v, h1, _⟩ := h
  exact lt_of_block h1

theorem ownsRow_below {w w' : World} {base : Nat} {e size : Nat} {v : Value} {n : Nat} {xs : List Value} (h : w.ownsRow base e size v n xs) (hk : ∀ k, v.ownBlock = some k → w'.heap[k]? = w.heap[k]?) : w'.ownsRow base e size v n xs := by
  refine ⟨h.1, ?_⟩
  rcases h.2 with hn | ⟨g, cap, cur, rfl, hb, hgg, rest⟩
  · exact .inl hn
  · exact .inr ⟨g, cap, cur, rfl, hb, (hk g (by simp [Value.ownBlock])).trans hgg, rest⟩

/-- An Out is kept where its two blocks are. -/
theorem OutIs.kept {w w' : World} {base b : Nat} {bs : List UInt8} (h : OutIs w base b bs) (hk : ∀ k, k < w.heap.size → w'.heap[k]? = w.heap[k]?) : OutIs w' base b bs := by
  obtain ⟨v, h1, h2⟩ := h
  exact ⟨v, (hk b (lt_of_block h1)).trans h1, ownsRow_below h2 fun k hk' => hk k (h2.lt k hk').2⟩

theorem outBlock_ne {w : World} {base b : Nat} {v v0 : Value} {n : Nat} {xs : List Value} (hb : w.heap[b]? = some (.cells #[v0] 84 (0, 0)))
    (hown : w.ownsRow base 5 1 v n xs) : v.ownBlock ≠ some b := by
  intro e
  rcases hown.2 with ⟨rfl, _⟩ | ⟨g, cap, cur, rfl, _, hgg, _⟩
  · simp [Value.ownBlock] at e
  · simp [Value.ownBlock] at e
    subst e
    rw [hb] at hgg
    simp at hgg

/-- What a write leaves: the cells behind an append, and the store of the slice. -/
theorem out_store {w w0 w1 : World} {base b : Nat} {v v' : Value} {bs news : List UInt8} (hb : w.heap[b]? = some (.cells #[v] 84 (0, 0)))
    (hown : w.ownsRow base 5 1 v bs.length (byteCells bs)) (h0 : Below w.heap.size w w0) (hbase : base ≤ w.heap.size)
    {k : Nat} {cs : List Value} (hown' : w1.ownsRow base 5 1 v' k (byteCells bs ++ cs)) (hg : w0.grownBy w1 v.ownBlock) (hk : k = bs.length + news.length) (hcs : cs = byteCells news) :
    OutIs (w1.setCell ⟨b, 0, none⟩ v') base b (bs ++ news) ∧ BelowBut base b w (w1.setCell ⟨b, 0, none⟩ v') := by
  subst hk hcs
  have hlt := lt_of_block hb
  have hne := outBlock_ne hb hown
  have hb1 : w1.heap[b]? = some (.cells #[v] 84 (0, 0)) := by
    rw [hg.block b (Nat.lt_of_lt_of_le hlt h0.size) (fun e => hne e.symm), h0.block b hlt]; exact hb
  refine ⟨⟨v', one_setCell hb1, ?_⟩, ?_⟩
  · rw [List.length_append, byteCells_append]
    exact ownsRow_setCell_other hown' (outBlock_ne hb1 hown') _
  · refine ⟨hg.os.trans h0.os, hg.tape.trans h0.tape, hg.output.trans h0.output, ?_, ?_⟩
    · have := hg.size; have := h0.size; simp; omega
    · intro k hk hkb
      rw [Below.heap_setCell _ _ _ _ hkb, hg.block k (by have := h0.size; omega) (fun e => by have := hown.lt k e.symm; omega), h0.block k (by omega)]

theorem out_cell {w w0 w1 : World} {base b : Nat} {v : Value} {n : Nat} {xs : List Value} (hb : w.heap[b]? = some (.cells #[v] 84 (0, 0)))
    (hown : w.ownsRow base 5 1 v n xs) (h0 : Below w.heap.size w w0) (hg : w0.grownBy w1 v.ownBlock) :
    w1.cell? ⟨b, 0, none⟩ = some v ∧ w1.frozen? ⟨b, 0, none⟩ = false := by
  have hlt := lt_of_block hb
  have hne := outBlock_ne hb hown
  have hb1 : w1.heap[b]? = some (.cells #[v] 84 (0, 0)) := by
    rw [hg.block b (Nat.lt_of_lt_of_le hlt h0.size) (fun e => hne e.symm), h0.block b hlt]; exact hb
  exact ⟨cell_of_one hb1, free_of_one hb1⟩

set_option maxRecDepth 100000 in
set_option maxHeartbeats 400000 in
theorem newOut_any (w : World) :
    Calls Tryd.prog 27 #[] w fun e w' => e = .returned (.pointer (some ⟨w.heap.size, 0, none⟩)) ∧ w' = w.alloc (.cells #[.slice none 0 0] 84 (0, 0)) := by
  go_enter Tryd.func27, Tryd.ntmps27
  go_wp2
  go_ret
  exact ⟨rfl, rfl⟩

theorem OutIs.fresh (w : World) (base : Nat) : OutIs (w.alloc (.cells #[.slice none 0 0] 84 (0, 0))) base w.heap.size [] :=
  ⟨_, heap_alloc_new w _, World.ownsRow_nil _ _ _ _⟩

theorem one_int (k : IntKind) (x : Int) : ∀ u ∈ [Value.int k x], u.oneCell' = true := by
  intro u hu
  obtain rfl := List.mem_singleton.1 hu
  rfl

theorem byte_cell (x : Int) (c : UInt8) (h : x = c.toNat) : [Value.int .u8 x] = byteCells [c] := by rw [h]; rfl

theorem byte_high (m : Nat) : bits .or .u8 ((m : Int) % 256) 128 = ((UInt8.ofNat (m % 128 + 128)).toNat : Int) := by
  have e1 : ((m : Int) % 256) = (((m % 256 : Nat)) : Int) := by omega
  have key : ∀ x : Fin 256, bits .or .u8 ((x.val : Nat) : Int) 128 = (((UInt8.ofNat (x.val % 128 + 128)).toNat : Nat) : Int) := by decide +kernel
  rw [e1, key ⟨m % 256, by omega⟩]
  congr 3
  simp only; omega

theorem ownsRow_slice {w : World} {base : Nat} {e size : Nat} {v : Value} {n : Nat} {xs : List Value} (h : w.ownsRow base e size v n xs) : ∃ a c, v = .slice a n c := by
  rcases h.2 with ⟨rfl, rfl⟩ | ⟨g, cap, cur, rfl, _⟩
  · exact ⟨_, _, rfl⟩
  · exact ⟨_, _, rfl⟩

theorem byte_low (m : Nat) (h : ¬ 128 ≤ m) : (m : Int) = ((UInt8.ofNat m).toNat : Int) := by
  rw [UInt8.toNat_ofNat']; omega

theorem loop_num (done : List UInt8) (m n : Nat) (hm : 128 ≤ m) (hd : done ++ Wire.num m = Wire.num n) :
    (done ++ [UInt8.ofNat (m % 128 + 128)]) ++ Wire.num (m / 128) = Wire.num n := by
  rw [← hd, List.append_assoc]
  congr 1
  rw [Wire.num.eq_def m, dif_neg (by omega)]; rfl

theorem last_num (done : List UInt8) (m n : Nat) (hm : ¬ 128 ≤ m) (hd : done ++ Wire.num m = Wire.num n) : done ++ [UInt8.ofNat m] = Wire.num n := by
  rw [← hd, Wire.num.eq_def m, dif_pos (by omega)]

set_option maxRecDepth 100000 in
set_option maxHeartbeats 400000 in
theorem outNum_any (n : Nat) (hn : n < 18446744073709551616) (base b : Nat) (bs : List UInt8) (w : World) (h : OutIs w base b bs) (hbase : base ≤ w.heap.size) (hl : bs.length + 10 ≤ 140737488355328) :
    Calls Tryd.prog 28 #[.pointer (some ⟨b, 0, none⟩), .int .u64 n] w fun e w' => e = .returned (.tuple #[]) ∧ OutIs w' base b (bs ++ Wire.num n) ∧ BelowBut base b w w' := by
  have hnl := Wire.num_length n hn
  have HN := Lib.hid hn; clear hn
  go_enter Tryd.func28, Tryd.ntmps28
  obtain ⟨i0, hi, hz0, hz1, hz2⟩ := info_parts Tryd.info_byte
  go_wp2
  go_loopw [1] (fun x wr => ∃ m : Nat, ∃ done : List UInt8, x = .int .u64 m ∧ OutIs wr base b (bs ++ done) ∧ Hid (done ++ Wire.num m = Wire.num n) ∧ BelowBut base b w wr)
    (fun x _ => (intOf x).toNat)
  case atStart => exact ⟨n, [], rfl, by simpa using h, rfl, BelowBut.refl _ _ _⟩
  case round =>
    obtain ⟨m, done, rfl, ⟨v, hb, hown⟩, hd, ht⟩ := hrel
    have hc := cell_of_one hb
    have hf := free_of_one hb
    have hsz := ht.size
    have hdl : done.length + 1 ≤ 10 := by
      have h1 := congrArg List.length hd.out
      have h2 := Wire.num_pos m
      rw [List.length_append] at h1; omega
    have hll : (bs ++ done).length ≤ bs.length + done.length := Nat.le_of_eq List.length_append
    have h0 : ∀ o, Below wr.heap.size wr (wr.alloc o) := fun o => (Below.refl _ _).alloc (Nat.le_refl _) _
    by_cases hm : 128 ≤ m
    all_goals
      go_wp2_with (at_builtin; refine wpList_append_own _ rfl _ _ 82 rfl base 5 i0 (.int .u8 0) 1 1 Tryd.under_bytes hi hz0 hz1 hz2 rfl (by decide) _ _ _ rfl (hown.alloc _) ⟨wr.heap.size, 0, none⟩ 1 1 [.int .u8 _] rfl rfl (cell_one_new _ _ _) (one_int _ _) (by unfold maxLen; omega) (by omega) (by simp; omega) ?_)
      intro v' w1 hown' hgrow _
      obtain ⟨a', c', rfl⟩ := ownsRow_slice hown'
      obtain ⟨hc1, hf1⟩ := out_cell hb hown (h0 _) hgrow
    · have R := out_store (news := [UInt8.ofNat (m % 128 + 128)]) hb hown (h0 _) (by omega) hown' hgrow (by simp) (byte_cell _ _ (byte_high m))
      have HR := Lib.hid R; clear R hown' hgrow
      go_wp2
      go_roundw
      case rel => exact ⟨m / 128, done ++ [UInt8.ofNat (m % 128 + 128)], by go_num, by rw [← List.append_assoc]; exact HR.out.1, loop_num done m n hm hd.out, ht.trans HR.out.2⟩
      case measure => simp [intOf]; omega
    · have R := out_store (news := [UInt8.ofNat m]) hb hown (h0 _) (by omega) hown' hgrow (by simp) (byte_cell _ _ (byte_low m hm))
      rw [List.append_assoc, last_num done m n hm hd.out] at R
      have HR := Lib.hid R; clear R hown' hgrow
      go_wp2
      go_end0
      exact ⟨rfl, HR.out.1, ht.trans HR.out.2⟩

end Go.Proofs.YtaihojahccplcaaDoor

/- Numbers as bytes: wire.Out's end, and the reference's number. (Parts of XOut2 and XRef, for the seats that lack the rest.) -/
namespace Go.Proofs.YtaihojahccplcaaDoor
open Go.RowKit
set_option linter.unusedSimpArgs false
set_option linter.unusedVariables false

theorem Tryd.under_string : Tryd.prog.underlying 9 = some .string := by kernel_rfl
theorem Tryd.under_byte : Tryd.prog.underlying 5 = some (.int .u8) := by kernel_rfl

/-- What an Out holds, as a string. -/
theorem out_string {w : World} {base : Nat} {v : Value} {bs : List UInt8} (hown : w.ownsRow base 5 1 v bs.length (byteCells bs)) :
    (convert 82 9 v).run Tryd.prog w = .ok (.string ⟨bs.toArray⟩) w := by
  rcases hown.2 with ⟨rfl, hn⟩ | ⟨g, cap, cur, rfl, _, hg, _, _, _, htk⟩
  · obtain rfl := List.eq_nil_of_length_eq_zero hn
    rw [run_convert_bytes_string w _ _ _ _ _ _ Tryd.under_bytes Tryd.under_byte Tryd.under_string]
    simp [Conv.bytesToString]
    rfl
  · refine run_convert_bytes_back w _ _ _ _ _ bs Tryd.under_bytes Tryd.under_byte Tryd.under_string ?_
    intro j hj
    have := hown.cells (g := g) rfl j (.int .u8 (bs[j].toNat : Int)) (by simp [byteCells, hj])
    exact this

set_option maxRecDepth 100000 in
set_option maxHeartbeats 400000 in
theorem outDone_any (base b : Nat) (bs : List UInt8) (w : World) (h : OutIs w base b bs) :
    Calls Tryd.prog 31 #[.pointer (some ⟨b, 0, none⟩)] w fun e w' => w = w' ∧ e = .returned (.string ⟨bs.toArray⟩) := by
  obtain ⟨v, hb, hown⟩ := h
  obtain ⟨a', c', rfl⟩ := ownsRow_slice hown
  have hcv := out_string hown
  have hc := cell_of_one hb
  clear hown hb
  go_enter Tryd.func31, Tryd.ntmps31
  go_wp2
  go_ret
  exact ⟨rfl, rfl⟩

/-- 'string([]byte{c})'. -/
theorem one_string (w : World) (x : Int) (c : UInt8) (h : x = c.toNat) :
    (convert 82 9 (.slice (some ⟨w.heap.size, 0, none⟩) 1 1)).run Tryd.prog (w.alloc (.cells #[.int .u8 x] 5)) = .ok (.string (strOf [c])) (w.alloc (.cells #[.int .u8 x] 5)) := by
  refine run_convert_bytes_back _ _ _ _ _ _ [c] Tryd.under_bytes Tryd.under_byte Tryd.under_string ?_
  intro j hj
  match j, hj with
  | 0, _ =>
    subst h
    exact cell_one_new w _ _ 0 _ rfl

theorem one_string_at (g : Nat) (c : UInt8) (W : World) (h : W.cell? ⟨g, 0, none⟩ = some (.int .u8 c.toNat)) :
    (convert 82 9 (.slice (some ⟨g, 0, none⟩) 1 1)).run Tryd.prog W = .ok (.string (strOf [c])) W := by
  refine run_convert_bytes_back _ _ _ _ _ _ [c] Tryd.under_bytes Tryd.under_byte Tryd.under_string ?_
  intro j hj
  match j, hj with
  | 0, _ => exact h

set_option maxRecDepth 100000 in
set_option maxHeartbeats 1000000 in
theorem refNum_any (n : Nat) : n < 18446744073709551616 → ∀ w : World,
    Calls Tryd.prog 35 #[.int .u64 n] w fun e w' => e = .returned (.string (strOf (Wire.num n))) ∧ Below w.heap.size w w' := by
  induction n using Nat.strongRecOn with
  | ind n ih =>
    intro hn w
    by_cases h : n < 128
    · have hnum := Wire.num_small n h
      have HNUM := Lib.hid hnum; clear hnum
      have hc := one_string w n (UInt8.ofNat n) (by rw [UInt8.toNat_ofNat']; omega)
      have HIH := Lib.hid ih; clear ih
      go_enter Tryd.func35, Tryd.ntmps35
      go_wp2_with fail
      go_ret
      rw [HNUM.out]
      exact ⟨rfl, (Below.refl _ _).alloc (Nat.le_refl _) _⟩
    · have hnum := Wire.num_big n h
      have HNUM := Lib.hid hnum; clear hnum
      have HIH := Lib.hid ih; clear ih
      go_enter Tryd.func35, Tryd.ntmps35
      go_wp2_with fail
      have e1 : IntKind.u64.wrap ((n : Int) / 128) = ((n / 128 : Nat) : Int) := by rw [IntKind.wrap_u64]; omega
      have e2 : IntKind.u8.wrap (IntKind.u64.wrap ((n : Int).tmod 128 + 128)) = ((UInt8.ofNat (n % 128 + 128)).toNat : Int) := by
        rw [IntKind.wrap_u8, IntKind.wrap_u64, UInt8.toNat_ofNat']
        have : (n : Int).tmod 128 = ((n % 128 : Nat) : Int) := rfl
        rw [this]; omega
      have hconv := fun g => one_string_at g (UInt8.ofNat (n % 128 + 128))
      have hlt : n / 128 < 18446744073709551616 := by omega
      have hlt2 : n / 128 < n := by omega
      generalize UInt8.ofNat (n % 128 + 128) = c at *
      have hs1 : (strOf [c]).size = 1 := strOf_size [c]
      have hs2 : (strOf (Wire.num (n / 128))).size ≤ 10 := by rw [strOf_size]; exact Wire.num_length _ hlt
      have hadd := add_str [c] (Wire.num (n / 128))
      go_region_with (first | (go_at_call 35; refine (HIH.out (n / 128) hlt2 hlt _).mono ?_; rintro e w1 ⟨rfl, b1⟩; (try have hcell := (b1.cell (p := ⟨w.heap.size, 0, none⟩) (by simp)).trans (cell_one_new w _ _ 0 _ rfl))))
      all_goals
        go_wp2_with fail
        go_ret
        rw [HNUM.out]
        refine ⟨rfl, ?_⟩
        first
          | exact (((Below.refl _ _).alloc (Nat.le_refl _) _).drew).trans (b1.mono (by simp))
          | exact (((Below.refl _ _).drew).trans b1).alloc b1.size _


end Go.Proofs.YtaihojahccplcaaDoor

/- What arguments read as: sums, and rows of cells. -/
namespace Go.Proofs.YtaihojahccplcaaDoor
open Go.ChangeShapes Go.WideShapes Go.ChangeAt Go.RowKit

section
variable {H : Type} {enc : TypeId × Value → H} {P : Program} {w : World} {base : Nat} {spare : Nat → Bool} {held : Bool} {fuel : Nat} {t : TypeId} {cs : List Value} {x : DataW H × List MemPlace}

theorem wf_u8 {a : Int} (h : (Lit.int .u8 a).wf = true) : 0 ≤ a ∧ a < 256 := by
  have := bounds_u8 h
  omega

/-- A row of bytes, by value. -/
theorem open_bytes {n : Nat} {e : TypeId} (ht : P.underlying t = some (.array n e)) (he : P.underlying e = some (.int .u8)) (hce : P.cellsOf e = 1) (hct : P.cellsOf t = n)
    (h : DataW.trod enc P w base spare held fuel t cs = some x) : ∃ l : List UInt8, l.length = n ∧ cs = byteCells l := by
  obtain ⟨xs, m, _, _, hl, hx, hd⟩ := DataW.trod_array ht h
  rw [hct] at hl
  refine ⟨cs.map fun v => UInt8.ofNat (intOf v).toNat, by simpa using hl, ?_⟩
  apply List.ext_getElem
  · simp [byteCells]
  · intro i h1 h2
    have hi : i < n := by omega
    have := hd i hi
    rw [hce, Nat.mul_one, List.drop_eq_getElem_cons h1, List.take_succ_cons, List.take_zero, List.getElem?_eq_getElem (by omega)] at this
    obtain ⟨a, e0, _, wa⟩ := DataW.trod_int he this
    simp only [List.cons.injEq, and_true] at e0
    simp only [byteCells, List.getElem_map, e0, intOf]
    have := wf_u8 wa
    congr 1
    rw [UInt8.toNat_ofNat']; omega

/-- Rows of c cells: what a slice that came in leads to. -/
def RowsAt {α : Type} (w : World) (a0 : Option Addr) (len cap c : Nat) (cells : α → List Value) (F : List α) : Prop :=
  F.length = len ∧ len ≤ cap ∧ cap ≤ maxLen ∧ (0 < len → ∃ b off, a0 = some ⟨b, off, none⟩ ∧ b < w.heap.size ∧ ∀ i f, F[i]? = some f → w.rangeAt b (off + i * c) (cells f))

theorem addr_add (a : Addr) (h : a.spot = none) (j : Nat) : a.add j = ⟨a.block, a.off + j, none⟩ := by
  obtain ⟨b, o, s⟩ := a
  simp only at h
  subst h
  exact Addr.add_mid b o j

theorem cell_spot {w : World} {a : Addr} {v : Value} (h : w.cell? a = some v) : a.spot = none := by
  unfold World.cell? at h
  split at h
  · split at h
    · cases h
    · rename_i hs; simpa using hs
  · cases h

theorem add_spot_zero (a : Addr) : a.add 0 = a := by simp [Addr.add]

theorem open_rows {α : Type} {e : TypeId} {a0 : Option Addr} {len cap c : Nat} (cells : α → List Value) (ok : α → Prop) (ht : P.underlying t = some (.slice e)) (hce : P.cellsOf e = c) (hc0 : 0 < c)
    (hop : ∀ (n : Nat) (cs : List Value) (y : DataW H × List MemPlace), DataW.trod enc P w base spare held n e cs = some y → ∃ f, ok f ∧ cs = cells f)
    (h : DataW.trod enc P w base spare held fuel t [.slice a0 len cap] = some x) :
    ∃ F : List α, RowsAt w a0 len cap c cells F ∧ ∀ f ∈ F, ok f := by
  rcases Go.Deep.open_slice ht h with ⟨hcs, _⟩ | ⟨a, len', cap', m, n, D, Pl, hcs, _, hl, hm, hmm, _, hx⟩
  · simp only [List.cons.injEq, Value.slice.injEq, and_true] at hcs
    obtain ⟨rfl, rfl, rfl⟩ := hcs
    exact ⟨[], ⟨rfl, Nat.le_refl _, by decide, fun h => absurd h (by decide)⟩, by simp⟩
  · simp only [List.cons.injEq, Value.slice.injEq, and_true] at hcs
    obtain ⟨rfl, rfl, rfl⟩ := hcs
    have hlm : len ≤ m := by rw [hmm]; split <;> omega
    have each : ∀ i, i < len → ∃ f : α, ok f ∧ w.cells? base (a.add (i * c)) c = some (cells f) := by
      intro i hi
      obtain ⟨cs', h1, h2⟩ := hx i (by omega)
      obtain ⟨f, h3, rfl⟩ := hop _ _ _ h2
      rw [hce] at h1
      exact ⟨f, h3, h1⟩
    have hlist : ∀ k, k ≤ len → ∃ F : List α, F.length = k ∧ (∀ f ∈ F, ok f) ∧ ∀ i f, F[i]? = some f → w.cells? base (a.add (i * c)) c = some (cells f) := by
      intro k
      induction k with
      | zero => intro _; exact ⟨[], rfl, by simp, by simp⟩
      | succ k ih =>
        intro hk
        obtain ⟨F, h1, h2, h3⟩ := ih (by omega)
        obtain ⟨f, h4, h5⟩ := each k (by omega)
        refine ⟨F ++ [f], by simp [h1], ?_, ?_⟩
        · intro g hg
          rcases List.mem_append.1 hg with hg | hg
          · exact h2 g hg
          · rw [List.mem_singleton.1 hg]; exact h4
        · intro i g hg
          by_cases hi : i < F.length
          · rw [List.getElem?_append_left hi] at hg; exact h3 i g hg
          · have : i = k := by
              have := (List.getElem?_eq_some_iff.1 hg).1
              simp at this; omega
            subst this
            rw [List.getElem?_append_right (by omega)] at hg
            simp [h1] at hg
            subst hg; exact h5
    obtain ⟨F, h1, h2, h3⟩ := hlist len (Nat.le_refl _)
    refine ⟨F, ⟨h1, hl, hm, fun h0 => ?_⟩, h2⟩
    have hsp : a.spot = none := by
      obtain ⟨f, _, h5⟩ := each 0 h0
      obtain ⟨_, hlen, hcell⟩ := World.cells?_some h5
      have := hcell 0 hc0
      rw [Nat.zero_mul, add_spot_zero, add_spot_zero, List.getElem?_eq_getElem (by omega)] at this
      exact cell_spot this
    have hadd : ∀ i j, (a.add (i * c)).add j = ⟨a.block, a.off + i * c + j, none⟩ := by
      intro i j
      rw [addr_add a hsp, Addr.add_mid]
    refine ⟨a.block, a.off, congrArg some ?_, ?_, ?_⟩
    · obtain ⟨b, o, s⟩ := a
      simp only at hsp
      rw [hsp]
    · obtain ⟨f, _, h5⟩ := each 0 h0
      obtain ⟨_, hlen, hcell⟩ := World.cells?_some h5
      have := hcell 0 hc0
      rw [Nat.zero_mul, add_spot_zero, add_spot_zero, List.getElem?_eq_getElem (by omega)] at this
      exact World.block_lt_of_cell? w a this
    · intro i f hf j v hv
      obtain ⟨_, hlen, hcell⟩ := World.cells?_some (h3 i f hf)
      have hj : j < c := by have := (List.getElem?_eq_some_iff.1 hv).1; omega
      rw [← hadd, hcell j hj]; exact hv
end

theorem bytes_len (s : ByteArray) : s.data.toList.length = s.size := by rw [Array.length_toList]; rfl

/-- A row of one cell. -/
def intCell (k : IntKind) (x : Int) : List Value := [.int k x]
def strCell (s : ByteArray) : List Value := [.string s]

section
variable {H : Type} {enc : TypeId × Value → H} {P : Program} {w : World} {base : Nat} {spare : Nat → Bool} {held : Bool}
theorem open_int1 {k : IntKind} {e : TypeId} (he : P.underlying e = some (.int k)) (n : Nat) (cs : List Value) (y : DataW H × List MemPlace) (h : DataW.trod enc P w base spare held n e cs = some y) : ∃ x : Int, (Lit.int k x).wf = true ∧ cs = intCell k x := by
  obtain ⟨a, e0, _, wa⟩ := DataW.trod_int he h
  exact ⟨a, wa, e0⟩
theorem open_str1 {e : TypeId} (he : P.underlying e = some .string) (n : Nat) (cs : List Value) (y : DataW H × List MemPlace) (h : DataW.trod enc P w base spare held n e cs = some y) : ∃ s : ByteArray, s.size ≤ maxLen ∧ cs = strCell s := by
  obtain ⟨a, e0, _, wa⟩ := DataW.trod_string he h
  exact ⟨a, wa, e0⟩
theorem okWide_array {r : Reach} {base : Nat} {t : TypeId} {n : Nat} {e : TypeId} {v : Value} (ht : P.underlying t = some (.array n e)) (h : Value.okWide P w r base t v) : ∃ cs, v = .agg cs ∧ cs.size = P.cellsOf t := by
  simp only [Value.okWide, ht] at h
  obtain ⟨cs, h1, h2, _⟩ := h
  exact ⟨cs, h1, h2⟩
end

theorem Tryd.under_hash : Tryd.prog.underlying 27 = some (.array 32 5) := by kernel_rfl
theorem Tryd.cells_byte : Tryd.prog.cellsOf 5 = 1 := by kernel_rfl
theorem Tryd.cells_hash : Tryd.prog.cellsOf 27 = 32 := by kernel_rfl
theorem Tryd.cells_string : Tryd.prog.cellsOf 9 = 1 := by kernel_rfl
end Go.Proofs.YtaihojahccplcaaDoor

/- A region that draws its order and makes memory, and ends in operations that come one behind the other, behind all else (an append, a store into what stood there before). -/
namespace Go.Proofs.YtaihojahccplcaaDoor
open Go.RowKit
set_option linter.unusedSimpArgs false
set_option linter.unusedVariables false

def tailB (l : List Oper) (m : Nat) : Bool :=
  ((List.range m).all fun j => (List.range (m + 1)).any fun i => decide (j < i) && Region.waitsFor .any l.toArray i j) &&
  ((List.range l.length).all fun k => !decide (m < k) || Region.waitsFor .any l.toArray k (k - 1))

section
variable {P : Program} {l : List Oper} {D : List (List Nat)} {a0 : Act} {w0 : World} {V : Nat → World → Value → Prop}

theorem wpAny_tail {Q : Exit → Act → World → Prop} {m : Nat} (hback : ∀ i o e, i < l.length → l[i]? = some o → e ∈ o.after → Region.binds .any e = true → e.on < i) (hch : ∀ k, m < k → k < l.length → Region.waitsFor .any l.toArray k (k - 1) = true) :
    ∀ (fuel i : Nat) (listed : Array Bool) (a : Act) (w : World), m ≤ i → i ≤ l.length → listed.size = l.length → (∀ j, j < l.length → listed.getD j false = decide (j < i)) → l.length - i ≤ fuel →
      wpList P l.toArray Q (l.drop i) a w → wpAny P .any l.toArray Q fuel listed a w := by
  intro fuel
  have hready : ∀ (i : Nat) (listed : Array Bool), m ≤ i → listed.size = l.length → (∀ j, j < l.length → listed.getD j false = decide (j < i)) → ∀ j, j ∈ Region.ready .any l.toArray listed → j = i := by
    intro i listed hmi hsz hl j hj
    obtain ⟨h1, o, ho, hdep⟩ := mem_ready.1 hj
    have hjl : j < l.length := by simpa using (Array.getElem?_eq_some_iff.1 ho).1
    have h2 := hl j hjl
    rw [Array.getD_eq_getD_getElem?, Array.getElem?_eq_getElem (by rw [hsz]; exact hjl)] at h1 h2
    simp only [Option.getD_some] at h1 h2
    rw [h1] at h2
    have hji : ¬ j < i := by simpa using h2.symm
    by_cases he : j = i
    · exact he
    · exfalso
      obtain ⟨oj, hoj, e, hme, hb, hon⟩ := Region.waitsFor_spec (hch j (by omega) hjl)
      obtain rfl : o = oj := Option.some.inj (ho.symm.trans hoj)
      have := hdep e hme hb
      rw [hon, hl (j - 1) (by omega)] at this
      have := of_decide_eq_true this
      omega
  induction fuel with
  | zero =>
    intro i listed a w hmi hil hsz hl hf h
    obtain rfl : i = l.length := by omega
    rw [List.drop_length] at h
    refine ⟨?_, h⟩
    rw [List.eq_nil_iff_forall_not_mem]
    intro j hj
    have hjl : j < l.length := by obtain ⟨_, o, ho, _⟩ := mem_ready.1 hj; simpa using (Array.getElem?_eq_some_iff.1 ho).1
    have := hready _ listed hmi hsz hl j hj
    omega
  | succ fuel ih =>
    intro i listed a w hmi hil hsz hl hf h
    by_cases hlast : i = l.length
    · subst hlast
      rw [List.drop_length] at h
      refine ⟨fun _ => h, fun j hj => ?_⟩
      have hjl : j < l.length := by obtain ⟨_, o, ho, _⟩ := mem_ready.1 hj; simpa using (Array.getElem?_eq_some_iff.1 ho).1
      have := hready _ listed hmi hsz hl j hj
      omega
    · have hlt : i < l.length := by omega
      obtain ⟨o, ho⟩ : ∃ o, l[i]? = some o := ⟨_, List.getElem?_eq_getElem hlt⟩
      have hdrop : l.drop i = o :: l.drop (i + 1) := by rw [List.drop_eq_getElem_cons hlt]; congr 1; rw [List.getElem?_eq_getElem hlt] at ho; exact Option.some.inj ho
      rw [hdrop] at h
      refine ⟨fun hr => ?_, fun j hj => ?_⟩
      · exfalso
        have : i ∈ Region.ready .any l.toArray listed := mem_ready.2 ⟨by
          have := hl i hlt
          rw [Array.getD_eq_getD_getElem?, Array.getElem?_eq_getElem (by rw [hsz]; exact hlt)] at this ⊢
          simpa using this, o, by simpa using ho, fun e he hb => by
            have h1 := hback i o e hlt ho he hb
            rw [hl e.on (by omega)]; exact decide_eq_true h1⟩
        rw [hr] at this; cases this
      · obtain rfl := hready i listed hmi hsz hl j hj
        have ho' : l.toArray[j]? = some o := by simpa using ho
        unfold wpOp
        simp only [ho']
        unfold wpList at h
        have hset : ∀ k, k < l.length → (listed.setIfInBounds j true).getD k false = decide (k < j + 1) := by
          intro k hk
          rw [get_set_true _ _ _ (by rw [hsz]; exact hlt), hl k hk]
          by_cases hkj : k = j
          · subst hkj; simp
          · have : (k < j + 1) ↔ k < j := by omega
            simp [hkj, this]
        have hK : ∀ a' w', wpList P l.toArray Q (l.drop (j + 1)) a' w' → wpAny P .any l.toArray Q fuel (listed.setIfInBounds j true) a' w' := fun a' w' hq =>
          ih (j + 1) _ a' w' (by omega) (by omega) (by simp [hsz]) hset (by omega) hq
        split at h
        · rename_i hwt
          rw [if_pos hwt]
          exact h.imp (Oper.wp_mono (fun a' w' hq => hK a' w' hq)) id
        · rename_i hwt
          rw [if_neg hwt]
          exact hK _ _ h

/-- Whatever the order. -/
theorem wpAny_of_rel_tail {n m : Nat} {Q : Exit → Act → World → Prop} (hm : m < l.length) (hB : RelB l D n) (hT : tailB l m = true) (hn : a0.tmps.size = n) (hmono : ∀ j (w w' : World) v, Below w.heap.size w w' → V j w v → V j w' v)
    (hop : ∀ i o, i < m → l[i]? = some o → ∀ w, Below w0.heap.size w0 w → ∀ vs : Nat → Value, (∀ j ∈ D.getD i [], V j w (vs j)) → wpList P l.toArray (relQ (V i) w o (relF l a0 vs (D.getD i []))) [o] (relF l a0 vs (D.getD i [])) w)
    (hfin : ∀ w, Below w0.heap.size w0 w → ∀ vs : Nat → Value, (∀ j, j < m → V j w (vs j)) → wpList P l.toArray Q (l.drop m) (relF l a0 vs (List.range m)) w) :
    ∀ (fuel : Nat) (listed : Array Bool) (a : Act) (w : World), RInv l a0 w0 V listed a w → (∀ j, m ≤ j → listed.getD j false = false) →
      (∀ i o e, l[i]? = some o → listed.getD i false = true → e ∈ o.after → Region.binds .any e = true → listed.getD e.on false = true) →
      (listed.toList.filter (!·)).length ≤ fuel → wpAny P .any l.toArray Q fuel listed a w := by
  unfold tailB at hT
  rw [Bool.and_eq_true] at hT
  obtain ⟨hT1, hT2⟩ := hT
  have hch : ∀ k, m < k → k < l.length → Region.waitsFor .any l.toArray k (k - 1) = true := by
    intro k h1 h2
    have := List.all_eq_true.1 hT2 k (List.mem_range.2 h2)
    simpa [h1] using this
  have hbn : ∀ j d, dstAt l j = some d → d < n := fun j d hd => by
    by_cases hj : j < l.length
    · exact hB.bnd j d hj hd
    · unfold dstAt at hd; rw [List.getElem?_eq_none (by omega)] at hd; cases hd
  have hval : ∀ (a : Act) j o, l[j]? = some o → valAt l a j = slotOf o a := fun a j o ho => by unfold valAt slotOf dstAt; rw [ho]; rfl
  have hdst : ∀ j o, l[j]? = some o → dstAt l j = o.dst := fun j o ho => by unfold dstAt; rw [ho]; rfl
  have hall : ∀ listed a w, RInv l a0 w0 V listed a w → (∀ j, m ≤ j → listed.getD j false = false) → (∀ j, j < m → listed.getD j false = true) → wpList P l.toArray Q (l.drop m) a w := by
    intro listed a w inv hmf hl
    have h := hfin w inv.bw (valAt l a) (fun j hj => by
      obtain ⟨o, ho⟩ : ∃ o, l[j]? = some o := ⟨_, List.getElem?_eq_getElem (show j < l.length by omega)⟩
      rw [hval a j o ho]; exact inv.on j o ho (hl j hj))
    obtain ⟨s1, s2, s3⟩ := relF_spec (l := l) a n hbn (inv.sz.trans hn) (List.range m) a0 hn
    have e : relF l a0 (valAt l a) (List.range m) = a := by
      obtain ⟨at', ad'⟩ := a
      generalize hG : relF l a0 (valAt l ⟨at', ad'⟩) (List.range m) = G at s1 s2 s3
      obtain ⟨gt, gd⟩ := G
      have e1 : gd = ad' := s2.trans inv.df.symm
      have e2 : gt = at' := by
        apply Array.ext_getElem?
        intro t
        obtain ⟨h1, h2, h3⟩ := s3 t
        by_cases hx : ∃ j ∈ List.range m, dstAt l j = some t
        · exact h1 hx
        · refine h3 (inv.off t fun j o ho hlj hd => hx ⟨j, List.mem_range.2 ?_, (hdst j o ho).trans hd⟩).symm
          apply Nat.lt_of_not_le
          intro hmj
          rw [hmf j hmj] at hlj; cases hlj
      rw [e1, e2]
    rwa [e] at h
  intro fuel
  induction fuel with
  | zero =>
    intro listed a w inv hmf hcl hf
    exfalso
    have h0 := List.eq_nil_of_length_eq_zero (Nat.le_zero.1 hf)
    have hj' : m < listed.size := by rw [inv.lsz]; omega
    have hmm := List.filter_eq_nil_iff.1 h0 (listed[m]'hj') (by simp)
    have hmf' := hmf m (Nat.le_refl _)
    rw [Array.getD_eq_getD_getElem?, Array.getElem?_eq_getElem hj'] at hmf'
    simp only [Option.getD_some] at hmf'
    rw [hmf'] at hmm
    exact hmm rfl
  | succ fuel ih =>
    intro listed a w inv hmf hcl hf
    by_cases hld : ∀ j, j < m → listed.getD j false = true
    · have hd : ∀ j, j < l.length → listed.getD j false = decide (j < m) := by
        intro j hj
        by_cases hjm : j < m
        · rw [hld j hjm]; simp [hjm]
        · rw [hmf j (by omega)]; simp [hjm]
      refine wpAny_tail (m := m) hB.back hch _ m listed a w (Nat.le_refl _) (by omega) inv.lsz hd (Nat.le_trans ?_ hf) (hall listed a w inv hmf hld)
      have h1 : (listed.toList.drop m).length = l.length - m := by rw [List.length_drop, Array.length_toList, inv.lsz]
      have h2 : (listed.toList.drop m).filter (!·) = listed.toList.drop m := by
        rw [List.filter_eq_self]
        intro x hx
        obtain ⟨i, hi, rfl⟩ := List.mem_iff_getElem.1 hx
        rw [List.getElem_drop]
        have h3 := hmf (m + i) (by omega)
        rw [h1] at hi
        rw [Array.getD_eq_getD_getElem?, Array.getElem?_eq_getElem (by rw [inv.lsz]; omega)] at h3
        simpa using h3
      rw [← h1, ← h2]
      exact ((List.drop_sublist m listed.toList).filter _).length_le
    · have hgd : ∀ j, j < l.length → ∀ b, listed.getD j b = listed.getD j false := fun j hj b => by
        simp [Array.getD_eq_getD_getElem?, Array.getElem?_eq_getElem (show j < listed.size by rw [inv.lsz]; exact hj)]
      refine ⟨fun hr => ?_, fun i hi => ?_⟩
      · exfalso
        have hallL : ∀ j, j < l.length → listed.getD j false = true := by
          intro j hj
          induction j using Nat.strongRecOn with
          | ind j ihj =>
            cases hx : listed.getD j false with
            | true => rfl
            | false =>
              obtain ⟨o, ho⟩ : ∃ o, l[j]? = some o := ⟨_, List.getElem?_eq_getElem hj⟩
              have : j ∈ Region.ready .any l.toArray listed := mem_ready.2 ⟨(hgd j hj true).trans hx, o, by simpa using ho, fun e he hb => by
                have hlt := hB.back j o e hj ho he hb
                exact ihj e.on hlt (by omega)⟩
              rw [hr] at this; cases this
        have := hmf m (Nat.le_refl _)
        rw [hallL m (by omega)] at this; cases this
      · obtain ⟨hun, o, ho', hdep⟩ := mem_ready.1 hi
        have ho : l[i]? = some o := by simpa using ho'
        have hil : i < l.length := (List.getElem?_eq_some_iff.1 ho).1
        have hil2 : i < listed.size := by rw [inv.lsz]; exact hil
        have hlm : i < m := by
          apply Nat.lt_of_not_le
          intro hmi
          by_cases him : i = m
          · subst him
            refine hld ?_
            have hlst : ∀ k j, i - j = k → j < i → listed.getD j false = true := by
              intro k
              induction k using Nat.strongRecOn with
              | ind k ihk =>
                intro j hjk hj
                have h1 := List.all_eq_true.1 hT1 j (List.mem_range.2 (by omega))
                obtain ⟨i', hi', h2⟩ := List.any_eq_true.1 h1
                simp only [Bool.and_eq_true, decide_eq_true_eq] at h2
                have hil' := List.mem_range.1 hi'
                obtain ⟨oi, hoi, e, he, hb, hon⟩ := Region.waitsFor_spec h2.2
                have hoi' : l[i']? = some oi := by simpa using hoi
                by_cases hii : i' = i
                · subst hii
                  obtain rfl : o = oi := Option.some.inj (ho'.symm.trans hoi)
                  have := hdep e he hb
                  rwa [hon] at this
                · have := hcl i' oi e hoi' (ihk (i - i') (by omega) i' rfl (by omega)) he hb
                  rwa [hon] at this
            exact fun j hj => hlst _ j rfl hj
          · obtain ⟨oj, hoj, e, he, hb, hon⟩ := Region.waitsFor_spec (hch i (by omega) hil)
            obtain rfl : o = oj := Option.some.inj (ho'.symm.trans hoj)
            have := hdep e he hb
            rw [hon, hmf (i - 1) (by omega)] at this
            cases this
        have hdl : ∀ j ∈ D.getD i [], j < l.length ∧ listed.getD j false = true := by
          intro j hj
          obtain ⟨oj, hoj, e, he, hb, hon⟩ := Region.waitsFor_spec (hB.wait i j hil hj)
          obtain rfl : o = oj := Option.some.inj (ho'.symm.trans hoj)
          have := hdep e he hb
          rw [hon] at this
          refine ⟨?_, this⟩
          have := hB.back i o e hil ho he hb
          omega
        have hw0 := hop i o hlm ho w inv.bw (valAt l a) (fun j hj => by
          obtain ⟨h1, h2⟩ := hdl j hj
          obtain ⟨oj, hoj⟩ : ∃ o, l[j]? = some o := ⟨_, List.getElem?_eq_getElem h1⟩
          rw [hval a j oj hoj]; exact inv.on j oj hoj h2)
        obtain ⟨s1, s2, s3⟩ := relF_spec (l := l) a n hbn (inv.sz.trans hn) (D.getD i []) a0 hn
        have hlook : ∀ t, t ∈ o.looksAt l.toArray → (relF l a0 (valAt l a) (D.getD i [])).tmps[t]? = a.tmps[t]? := by
          intro t ht
          obtain ⟨h1, h2, h3⟩ := s3 t
          by_cases hx : ∃ j ∈ D.getD i [], dstAt l j = some t
          · exact h1 hx
          · refine h3 (inv.off t fun j oj hoj _ hd => hx ⟨j, hB.look i j t o hil (List.getElem?_eq_some_iff.1 hoj).1 ho ((hdst j oj hoj).trans hd) ht, (hdst j oj hoj).trans hd⟩).symm
        have hev : ∀ x ∈ o.op.operands, (relF l a0 (valAt l a) (D.getD i [])).eval x = a.eval x := by
          intro x hx
          cases x with
          | tmp t =>
            have := hlook t (List.mem_append_left _ (List.mem_filterMap.2 ⟨.tmp t, by simpa using hx, rfl⟩))
            show (relF l a0 (valAt l a) (D.getD i [])).tmps.getD t undef = a.tmps.getD t undef
            rw [Array.getD_eq_getD_getElem?, Array.getD_eq_getD_getElem?, this]
          | _ => rfl
        have hwt : Region.wanted o (yielded l.toArray (relF l a0 (valAt l a) (D.getD i [])).tmps) = Region.wanted o (yielded l.toArray a.tmps) := by
          unfold Region.wanted
          cases hg : o.guard with
          | none => rfl
          | some gw =>
            obtain ⟨g, want⟩ := gw
            simp only []
            congr 1
            unfold yielded
            cases hd : (l.toArray[g]?).bind (·.dst) with
            | none => rfl
            | some t =>
              simp only [Option.bind_some]
              rw [hlook t (List.mem_append_right _ (by rw [hg]; simp only [hd]; simp))]
        unfold wpOp
        simp only [ho']
        refine rel_transfer (execOp_congr o (fun cs b => Region.noSelect_spec hB.sel i o cs b ho') hev) hwt (fun d hd => by rw [s1]; exact hbn i d ((hdst i o ho).trans hd)) hw0 fun v w' hb hv => ?_
        refine ih _ _ _ ⟨inv.bw.trans (hb.mono inv.bw.size), by simp [inv.lsz], by rw [put_size]; exact inv.sz, by rw [put_df]; exact inv.df, fun t ht => ?_, fun j oj hoj hj => ?_⟩ ?_ ?_ ?_
        · rw [put_ne _ _ _ _ (ht i o ho (by rw [get_set_true _ _ _ hil2]; simp))]
          exact inv.off t fun j oj hoj hj => ht j oj hoj (by rw [get_set_true _ _ _ hil2, hj]; simp)
        · by_cases hji : j = i
          · subst hji
            obtain rfl := Option.some.inj (hoj.symm.trans ho)
            rw [slot_put _ _ _ (fun d hd => by rw [inv.sz, hn]; exact hbn j d ((hdst j oj hoj).trans hd))]
            exact hv
          · rw [get_set_true _ _ _ hil2] at hj
            simp only [hji, decide_false, Bool.false_or] at hj
            rw [slot_other _ _ _ _ fun d hd hd' => hB.dist j i d (List.getElem?_eq_some_iff.1 hoj).1 hil hji ((hdst j oj hoj).trans hd) ((hdst i o ho).trans hd')]
            exact hmono j w w' _ hb (inv.on j oj hoj hj)
        · intro j hj
          rw [get_set_true _ _ _ hil2, hmf j hj]; simp; omega
        · intro i' o' e hi' hli he hb
          rw [get_set_true _ _ _ hil2] at hli ⊢
          by_cases hii : i' = i
          · subst hii
            obtain rfl := Option.some.inj (hi'.symm.trans ho)
            rw [hdep e he hb]; simp
          · simp only [hii, decide_false, Bool.false_or] at hli
            rw [hcl i' o' e hi' hli he hb]; simp
        · have hx : listed.toList[i]? = some false := by
            rw [Array.getElem?_toList, Array.getElem?_eq_getElem hil2]
            rw [Array.getD_eq_getD_getElem?, Array.getElem?_eq_getElem hil2] at hun
            exact congrArg some hun
          have := count_set listed.toList i hx
          rw [Array.toList_setIfInBounds]
          omega

/-- The region, whatever the order, its last operations at the end: D, V as in wp_region_rel. -/
theorem wp_region_rel_tail {id : Nat} {Q : Exit → Act → World → Prop} (D : List (List Nat)) (V : Nat → World → Value → Prop) (n m : Nat) (hmx : P.follows .mixedOrders = true) (hn : a0.tmps.size = n) (hB : relB l D n = true) (hT : tailB l m = true) (hm : m < l.length)
    (hmono : ∀ j (w w' : World) v, Below w.heap.size w w' → V j w v → V j w' v)
    (hop : ∀ i o, i < m → l[i]? = some o → ∀ w, Below w0.heap.size w0 w → ∀ vs : Nat → Value, (∀ j ∈ D.getD i [], V j w (vs j)) → wpList P l.toArray (relQ (V i) w o (relF l a0 vs (D.getD i []))) [o] (relF l a0 vs (D.getD i [])) w)
    (hfin : ∀ w, Below w0.heap.size w0 w → ∀ vs : Nat → Value, (∀ j, j < m → V j w (vs j)) → wpList P l.toArray Q (l.drop m) (relF l a0 vs (List.range m)) w) : (Code.region id l.toArray true).wp P Q a0 w0 := by
  refine wp_region_any hmx ?_
  have hs : l.toArray.size = l.length := by simp
  rw [hs]
  have hr : ∀ k, (Array.replicate l.length false).getD k false = false := fun k => getD_replicate_false ..
  refine wpAny_of_rel_tail hm (relB_spec hB) hT hn hmono hop hfin _ _ _ _ ⟨(Below.refl _ w0).drew, by simp, rfl, rfl, fun t _ => rfl, fun j o ho hj => ?_⟩ (fun j _ => hr _) (fun i o e _ hli _ _ => ?_) ?_
  · rw [hr] at hj; cases hj
  · rw [hr] at hli; cases hli
  · refine Nat.le_trans (List.length_filter_le (!·) (Array.replicate l.length false).toList) ?_
    simp

end

end Go.Proofs.YtaihojahccplcaaDoor

/- Vertices: plain. -/
namespace Go.Proofs.YtaihojahccplcaaDoor.St
open Wire
set_option linter.unusedVariables false
set_option linter.unusedSimpArgs false

/-- A vertex. -/
structure V where
  id : Int
  value : Int
  active : Bool
  has : Bool
  inn : Int

theorem V.eq_iff (a b : V) : a = b ↔ a.id = b.id ∧ a.value = b.value ∧ a.active = b.active ∧ a.has = b.has ∧ a.inn = b.inn := by
  obtain ⟨a0, a1, a2, a3, a4⟩ := a
  obtain ⟨b0, b1, b2, b3, b4⟩ := b
  simp only [V.mk.injEq]

instance : DecidableEq V := fun a b => decidable_of_iff _ (V.eq_iff a b).symm

/-- Its numbers are such as there are. -/
def V.ok (x : V) : Prop := (-9223372036854775808 ≤ x.id ∧ x.id ≤ 9223372036854775807) ∧ (-9223372036854775808 ≤ x.value ∧ x.value ≤ 9223372036854775807) ∧ (-9223372036854775808 ≤ x.inn ∧ x.inn ≤ 9223372036854775807)

/-- No vertex. -/
def none : V := ⟨0, 0, false, false, 0⟩

/-- A value that is too great. -/
def great (n : Int) : Bool := decide (1125899906842624 < n) || decide (n < -1125899906842624)

/-- Has it bytes? -/
def right (x : V) : Bool := decide (0 ≤ x.id) && (decide (x.id < 64) && (!great x.value && (!great x.inn && (x.has || decide (x.inn = 0)))))

theorem right_iff {x : V} : right x = true ↔ 0 ≤ x.id ∧ x.id < 64 ∧ great x.value = false ∧ great x.inn = false ∧ (x.has = true ∨ x.inn = 0) := by
  unfold right; simp

theorem great_iff {n : Int} : great n = false ↔ -1125899906842624 ≤ n ∧ n ≤ 1125899906842624 := by
  unfold great; simp; omega

/-- 1 or 0. -/
def bit (b : Bool) : Nat := if b then 1 else 0
theorem bit_lt (b : Bool) : bit b < 2 := by cases b <;> decide
theorem bit_one (b : Bool) : (bit b == 1) = b := by cases b <;> rfl

/-- Its bytes, as they are written. -/
def bytes (x : V) : List UInt8 := num x.id.toNat ++ num (zig x.value) ++ num (bit x.active) ++ num (bit x.has) ++ num (zig x.inn)

/-- Its bytes, if it has any. -/
def put (x : V) : List UInt8 := if right x then bytes x else []

/-- What five numbers are as a vertex. -/
def made (a b c d e : Nat) : V := ⟨(min a 64 : Nat), unzig b, c == 1, d == 1, unzig e⟩

/-- The vertex of bytes; 160.. is what is wrong. -/
def get (er : Nat) (l : List UInt8) : V × Nat :=
  let a := rdNum l 0
  let b := rdNum a.2.1 a.2.2
  let c := rdNum b.2.1 b.2.2
  let d := rdNum c.2.1 c.2.2
  let e := rdNum d.2.1 d.2.2
  if e.2.2 ≠ 0 then (none, e.2.2)
  else if e.2.1 ≠ [] then (none, 22)
  else if 1 < c.1 ∨ 1 < d.1 ∨ right (made a.1 b.1 c.1 d.1 e.1) = false then (none, er)
  else (made a.1 b.1 c.1 d.1 e.1, 0)

theorem bytes_get {x : V} (h : right x = true) (er : Nat) : get er (bytes x) = (x, 0) := by
  obtain ⟨h1, h2, h3, h4, h5⟩ := right_iff.1 h
  obtain ⟨v1, v2⟩ := great_iff.1 h3
  obtain ⟨n1, n2⟩ := great_iff.1 h4
  have z1 := zig_lt x.value (by omega) (by omega)
  have z2 := zig_lt x.inn (by omega) (by omega)
  have ba := bit_lt x.active
  have bh := bit_lt x.has
  have e0 : bytes x = num x.id.toNat ++ (num (zig x.value) ++ (num (bit x.active) ++ (num (bit x.has) ++ (num (zig x.inn) ++ [])))) := by
    unfold bytes; simp only [List.append_assoc, List.append_nil]
  have hm : made x.id.toNat (zig x.value) (bit x.active) (bit x.has) (zig x.inn) = x := by
    unfold made
    rw [unzig_zig, unzig_zig, bit_one, bit_one]
    have : ((min x.id.toNat 64 : Nat) : Int) = x.id := by omega
    rw [this]
  unfold get
  rw [e0, rdNum_num _ (by omega)]
  simp only
  rw [rdNum_num _ z1]
  simp only
  rw [rdNum_num _ (by omega)]
  simp only
  rw [rdNum_num _ (by omega)]
  simp only
  rw [rdNum_num _ z2]
  simp only
  rw [hm, if_neg (by simp), if_neg (by simp), if_neg (by rw [h]; simp; omega)]

theorem rdNum_bad (l : List UInt8) {e : Nat} (h : e ≠ 0) : (rdNum l e).2.2 ≠ 0 := by
  unfold rdNum; rw [if_pos h]; exact h

theorem rdNum_ok {l : List UInt8} {e : Nat} (h : (rdNum l e).2.2 = 0) : e = 0 ∧ l = num (rdNum l 0).1 ++ (rdNum l 0).2.1 ∧ (rdNum l 0).2.2 = 0 := by
  have he : e = 0 := Decidable.byContradiction fun hne => rdNum_bad l hne h
  subst he
  refine ⟨rfl, ?_, h⟩
  unfold rdNum at h ⊢
  rw [if_neg (by simp)] at h ⊢
  by_cases hd : (dec 0 0 l).2.2 = 0
  · rw [if_neg (by simpa using hd)]
    simp only
    obtain ⟨h3, _⟩ := dec_inv (l := l) (n := (dec 0 0 l).1) (j := (dec 0 0 l).2.1) (Prod.ext rfl (Prod.ext rfl hd))
    rw [← h3, List.take_append_drop]
  · rw [if_pos hd] at h
    exact absurd h hd

theorem num_ne (n : Nat) : num n ≠ [] := fun h => by have := num_pos n; rw [h] at this; simp at this

/-- What is got has just these bytes. -/
theorem get_put {er : Nat} {l : List UInt8} {x : V} (hne : er ≠ 0) (h : get er l = (x, 0)) : put x = l := by
  unfold get at h
  simp only at h
  split at h
  · rename_i h1; simp only [Prod.mk.injEq] at h; exact absurd h.2 h1
  · rename_i h1
    simp only [ne_eq, Decidable.not_not] at h1
    split at h
    · simp only [Prod.mk.injEq] at h; exact absurd h.2 (by decide)
    · rename_i h2
      simp only [ne_eq, Decidable.not_not] at h2
      split at h
      · simp only [Prod.mk.injEq] at h; exact absurd h.2 hne
      · rename_i h3
        simp only [Prod.mk.injEq] at h
        obtain ⟨h, -⟩ := h
        obtain ⟨e5, l5, z5⟩ := rdNum_ok h1
        rw [e5] at h h1 h2 h3
        obtain ⟨e4, l4, z4⟩ := rdNum_ok e5
        rw [e4] at h h1 h2 h3 l5 z5 e5
        obtain ⟨e3, l3, z3⟩ := rdNum_ok e4
        rw [e3] at h h1 h2 h3 l5 z5 e5 l4 z4 e4
        obtain ⟨e2, l2, z2⟩ := rdNum_ok e3
        rw [e2] at h h1 h2 h3 l5 z5 e5 l4 z4 e4 l3 z3 e3
        obtain ⟨e1, l1, z1⟩ := rdNum_ok e2
        obtain ⟨a, ha⟩ : ∃ a, a = rdNum l 0 := ⟨_, rfl⟩
        rw [← ha] at h h1 h2 h3 l5 z5 e5 l4 z4 e4 l3 z3 e3 l2 z2 e2 l1 z1
        obtain ⟨b, hb⟩ : ∃ b, b = rdNum a.2.1 0 := ⟨_, rfl⟩
        rw [← hb] at h h1 h2 h3 l5 z5 e5 l4 z4 e4 l3 z3 e3 l2 z2 
        obtain ⟨c, hc⟩ : ∃ c, c = rdNum b.2.1 0 := ⟨_, rfl⟩
        rw [← hc] at h h1 h2 h3 l5 z5 e5 l4 z4 e4 l3 z3 
        obtain ⟨d, hd⟩ : ∃ d, d = rdNum c.2.1 0 := ⟨_, rfl⟩
        rw [← hd] at h h1 h2 h3 l5 z5 e5 l4 z4 
        obtain ⟨e, hee⟩ : ∃ e, e = rdNum d.2.1 0 := ⟨_, rfl⟩
        rw [← hee] at h h1 h2 h3 l5 z5 
        have h3' : c.1 ≤ 1 ∧ d.1 ≤ 1 ∧ right (made a.1 b.1 c.1 d.1 e.1) = true := by
          refine ⟨by omega, by omega, ?_⟩
          cases hr : right (made a.1 b.1 c.1 d.1 e.1) with
          | true => rfl
          | false => exact absurd (.inr (.inr hr)) h3
        obtain ⟨c1, d1, hr⟩ := h3'
        rw [← h]
        unfold put
        rw [if_pos hr]
        obtain ⟨r1, r2, -⟩ := right_iff.1 hr
        have r2' : ((min a.1 64 : Nat) : Int) < 64 := r2
        unfold bytes made
        have hid : (((min a.1 64 : Nat) : Int)).toNat = a.1 := by omega
        have hbc : bit (c.1 == 1) = c.1 := by
          rcases (show c.1 = 0 ∨ c.1 = 1 by omega) with hh | hh <;> rw [hh] <;> rfl
        have hbd : bit (d.1 == 1) = d.1 := by
          rcases (show d.1 = 0 ∨ d.1 = 1 by omega) with hh | hh <;> rw [hh] <;> rfl
        simp only [hid, zig_unzig, hbc, hbd]
        rw [l1, l2, l3, l4, l5, h2]
        simp only [List.append_assoc, List.append_nil]

theorem put_inj {a b : V} (ha : right a = true) (hb : right b = true) (h : put a = put b) : a = b := by
  unfold put at h
  rw [if_pos ha, if_pos hb] at h
  have h1 := bytes_get ha 1
  rw [h, bytes_get hb] at h1
  exact (Prod.mk.inj h1).1.symm

theorem zig_le {n : Int} (h : great n = false) : zig n ≤ 2251799813685248 := by
  obtain ⟨h1, h2⟩ := great_iff.1 h
  unfold zig
  split <;> omega

theorem num_8 {n : Nat} (h : n ≤ 2251799813685248) : (num n).length ≤ 8 := num_le 7 n (by omega)

/-- From 5 bytes to 19. -/
theorem put_len {x : V} (h : right x = true) : 5 ≤ (put x).length ∧ (put x).length ≤ 19 := by
  obtain ⟨h1, h2, h3, h4, h5⟩ := right_iff.1 h
  have a1 := num_pos x.id.toNat
  have a2 := (num_one x.id.toNat).2 (by omega)
  have b1 := num_pos (zig x.value)
  have b2 := num_8 (zig_le h3)
  have c1 := bit_lt x.active
  have c2 := (num_one (bit x.active)).2 (by omega)
  have d1 := bit_lt x.has
  have d2 := (num_one (bit x.has)).2 (by omega)
  have e1 := num_pos (zig x.inn)
  have e2 := num_8 (zig_le h4)
  unfold put bytes
  rw [if_pos h]
  simp only [List.length_append]
  omega

end Go.Proofs.YtaihojahccplcaaDoor.St

/- What the laws on vertices ask: plain. -/
namespace Go.Proofs.YtaihojahccplcaaDoor.St
set_option linter.unusedVariables false
set_option linter.unusedSimpArgs false

/-- A worker's vertices. -/
def own (f : V → Int) (w : Int) (l : List V) : List V := l.filter fun x => f x == w

/-- How many are of a worker below w. -/
def below (f : V → Int) (l : List V) (w : Nat) : Nat := (l.filter fun x => decide (0 ≤ f x) && decide (f x < (w : Int))).length

theorem below_zero (f : V → Int) (l : List V) : below f l 0 = 0 := by
  unfold below
  rw [List.length_eq_zero_iff, List.filter_eq_nil_iff]
  intro x _; simp <;> omega

theorem below_succ (f : V → Int) (l : List V) (w : Nat) : below f l (w + 1) = below f l w + (own f w l).length := by
  unfold below own
  induction l with
  | nil => rfl
  | cons x l ih =>
    rw [List.filter_cons, List.filter_cons, List.filter_cons]
    by_cases h1 : f x = (w : Int)
    · rw [if_pos (by simp; omega), if_neg (by simp; omega), if_pos (by simp; exact h1)]
      simp only [List.length_cons, ih]; omega
    · have h2 : (f x == (w : Int)) = false := by simpa using h1
      rw [h2]
      by_cases h3 : 0 ≤ f x ∧ f x < (w : Int)
      · rw [if_pos (by simp; omega), if_pos (by simp; omega), if_neg (by decide)]
        simp only [List.length_cons, ih]; omega
      · rw [if_neg (by simp; omega), if_neg (by simp; omega), if_neg (by decide)]
        exact ih

/-- How many have a number below 0. -/
def odd (l : List V) : Nat := (l.filter fun x => decide (x.id < 0)).length

theorem odd_snoc (l : List V) (x : V) : odd (l ++ [x]) = odd l + if x.id < 0 then 1 else 0 := by
  unfold odd
  rw [List.filter_append, List.length_append]
  by_cases h : x.id < 0
  · simp [h]
  · simp [h]

theorem odd_le (l : List V) : odd l ≤ l.length := List.length_filter_le _ _

theorem all_each (f : V → Int) (l : List V) (W : Nat) (h1 : ∀ x ∈ l, x.id < 0 → f x < 0) (h2 : ∀ x ∈ l, 0 ≤ x.id → 0 ≤ f x ∧ f x < (W : Int)) : below f l W + odd l = l.length := by
  unfold below odd
  induction l with
  | nil => rfl
  | cons x l ih =>
    have ih := ih (fun y hy => h1 y (by simp [hy])) (fun y hy => h2 y (by simp [hy]))
    rw [List.filter_cons, List.filter_cons]
    by_cases h : x.id < 0
    · have := h1 x (by simp) h
      rw [if_neg (by simp; omega), if_pos (by simpa using h)]
      simp only [List.length_cons]; omega
    · have := h2 x (by simp) (by omega)
      rw [if_pos (by simp; omega), if_neg (by simpa using h)]
      simp only [List.length_cons]; omega

theorem own_le (f : V → Int) (w : Int) (l : List V) : (own f w l).length ≤ l.length := List.length_filter_le _ _

theorem own_snoc (f : V → Int) (w : Int) (l : List V) (x : V) : own f w (l ++ [x]) = own f w l ++ if f x == w then [x] else [] := by
  unfold own
  rw [List.filter_append]
  by_cases h : f x == w
  · simp [h]
  · simp [h]

theorem take_snoc' {α : Type} {l : List α} {i : Nat} {x : α} (h : l[i]? = some x) : l.take (i + 1) = l.take i ++ [x] := by
  rw [List.take_add_one, h]; rfl

/-- A vertex that is a worker's: the next one of his. -/
theorem own_next (f : V → Int) (w : Int) {l : List V} {i : Nat} {x : V} (h : l[i]? = some x) (hx : (f x == w) = true) : (own f w l)[(own f w (l.take i)).length]? = some x := by
  have h1 : own f w l = own f w (l.take (i + 1)) ++ own f w (l.drop (i + 1)) := by
    unfold own; rw [← List.filter_append, List.take_append_drop]
  rw [h1, take_snoc' h, own_snoc, hx, if_pos rfl, List.append_assoc, List.getElem?_append_right (Nat.le_refl _), Nat.sub_self]
  rfl

end Go.Proofs.YtaihojahccplcaaDoor.St

/- The walk of wire.number: it reads what Wire.dec says. -/
namespace Go.Proofs.YtaihojahccplcaaDoor
open Go.RowKit

theorem drop_cons (s : ByteArray) (k : Nat) (h : k < s.size) : s.data.toList.drop k = s[k] :: s.data.toList.drop (k + 1) := by
  rw [List.drop_eq_getElem_cons (by simpa using h)]; rfl

set_option maxRecDepth 100000 in
set_option maxHeartbeats 400000 in
theorem number_any (s : ByteArray) (w : World) (hs : s.size ≤ maxLen) :
    Calls Tryd.prog 52 #[.string s] w fun e w' => w = w' ∧
      e = .returned (.tuple #[.int .u64 (Wire.dec 0 0 s.data.toList).1, .int .i64 (Wire.dec 0 0 s.data.toList).2.1, .int .i64 (Wire.dec 0 0 s.data.toList).2.2]) := by
  unfold maxLen at hs
  go_enter Tryd.func52, Tryd.ntmps52
  go_wp2
  go_loop [5, 10] (fun v i => ∃ k : Nat, ∃ n : Nat, k ≤ s.size ∧ (k < s.size → k ≤ 9) ∧ n < 128 ^ k ∧ i = .int .i64 k ∧ v = .int .u64 n ∧ Hid (Wire.dec 0 0 s.data.toList = Wire.dec k n (s.data.toList.drop k))) (fun _ i => s.size - (intOf i).toNat)
  case atStart => exact ⟨0, 0, by omega, by omega, by decide, rfl, rfl, rfl⟩
  case round =>
    obtain ⟨k, n, hk, hk9, hn, rfl, rfl, hd⟩ := hrel
    have Hn := Lib.hid hn; clear hn
    by_cases hlt : k < s.size
    · have hd' := drop_cons s k hlt
      replace hk9 := hk9 hlt
      have HD : Hid (List.drop k s.data.toList = s[k] :: List.drop (k + 1) s.data.toList) := hd'; clear hd'
      have hc256 := s[k].toNat_lt
      rcases (show k < 9 ∨ k = 9 by omega) with h9 | h9
      · have h9' : ((k : Int) == 9) = false := by simp only [beq_eq_false_iff_ne, ne_eq]; omega
        go_wp2
        all_goals (try simp only [beq_iff_eq, beq_eq_false_iff_ne, ne_eq] at *)
        all_goals first
          | (rw [number_step n k s[k] hk9 Hn.out (by omega)]
             exact ⟨⟨k + 1, _, by omega, by omega, number_lt n k s[k] Hn.out, by go_num, rfl, by rw [hd.out, HD.out]; exact Wire.dec_more (by omega) (by omega)⟩, by simp [intOf]; omega⟩)
          | (go_ret3
             refine ⟨rfl, ?_⟩
             rw [hd.out, HD.out]
             first | (rw [Wire.dec_stop (by omega)]; rfl) | (rw [number_step n k s[k] hk9 Hn.out (by omega), Wire.dec_last (by omega) (by omega)]; rfl))
      · subst h9
        by_cases hc1 : s[9].toNat ≤ 1
        · by_cases hc0 : ((s[9].toNat : Int) == 0) = true
          all_goals
            go_wp2
            go_ret3
            refine ⟨rfl, ?_⟩
            rw [hd.out, HD.out]
          · simp only [beq_iff_eq] at hc0
            rw [Wire.dec_stop (by omega)]; rfl
          · simp only [beq_iff_eq] at hc0
            rw [number_step9 n s[9] Hn.out (by omega), Wire.dec_last (by omega) (by omega)]; rfl
        · go_wp2
          go_ret3
          refine ⟨rfl, ?_⟩
          rw [hd.out, HD.out]
          rw [Wire.dec_stop (by omega)]; rfl
    · go_wp2
      go_ret3
      have : List.drop k s.data.toList = [] := List.drop_of_length_le (by simp; omega)
      rw [hd.out, this]
      exact ⟨rfl, rfl⟩
end Go.Proofs.YtaihojahccplcaaDoor

/- The walks of wire.Out: Int, Text, Hash, Done. -/
namespace Go.Proofs.YtaihojahccplcaaDoor
open Go.RowKit

set_option maxRecDepth 100000 in
set_option maxHeartbeats 400000 in
theorem outInt_any (n : Int) (h0 : -9223372036854775808 ≤ n) (h1 : n ≤ 9223372036854775807) (base b : Nat) (bs : List UInt8) (w : World) (h : OutIs w base b bs) (hbase : base ≤ w.heap.size) (hl : bs.length + 10 ≤ 140737488355328) :
    Calls Tryd.prog 29 #[.pointer (some ⟨b, 0, none⟩), .int .i64 n] w fun e w' => e = .returned (.tuple #[]) ∧ OutIs w' base b (bs ++ Wire.num (Wire.zig n)) ∧ BelowBut base b w w' := by
  have hz := zig_u64 n h0 h1
  have hlt : Wire.zig n < 18446744073709551616 := by unfold Wire.zig; split <;> omega
  have HZ := Lib.hid hz; clear hz
  have HL := Lib.hid hlt; clear hlt
  go_enter Tryd.func29, Tryd.ntmps29
  go_wp2_with fail
  rw [HZ.out]
  refine (outNum_any _ HL.out base b bs _ h hbase (by omega)).mono ?_
  rintro e wr ⟨rfl, h1, ht⟩
  go_wp2_with fail
  go_end0
  exact ⟨rfl, h1, ht⟩

end Go.Proofs.YtaihojahccplcaaDoor

/- The walks of wire.In: what is read is what Wire.dec says. -/
namespace Go.Proofs.YtaihojahccplcaaDoor
open Go.RowKit





/-- Block b is a wire.In with the bytes l ahead of it and the error e. -/
def InIs (w : World) (b : Nat) (l : List UInt8) (e : Int) : Prop :=
  w.heap[b]? = some (.cells #[.string (strOf l), .int .i64 e] 87 (0, 0))

theorem InIs.cells {w : World} {b : Nat} {l : List UInt8} {e : Int} (h : InIs w b l e) :
    w.cell? ⟨b, 0, none⟩ = some (.string (strOf l)) ∧ w.cell? ⟨b, 1, none⟩ = some (.int .i64 e) ∧ (∀ j, w.frozen? ⟨b, j, none⟩ = false) := by
  unfold InIs at h
  refine ⟨?_, ?_, fun j => ?_⟩ <;> simp [World.cell?, World.frozen?, h]

theorem InIs.lt {w : World} {b : Nat} {l : List UInt8} {e : Int} (h : InIs w b l e) : b < w.heap.size := lt_of_block h

set_option maxRecDepth 100000 in
set_option maxHeartbeats 400000 in
theorem newIn_any (s : ByteArray) (w : World) :
    Calls Tryd.prog 40 #[.string s] w fun e w' => e = .returned (.pointer (some ⟨w.heap.size, 0, none⟩)) ∧ w' = w.alloc (.cells #[.string s, .int .i64 0] 87 (0, 0)) := by
  go_enter Tryd.func40, Tryd.ntmps40
  go_wp2
  go_ret
  exact ⟨rfl, rfl⟩

/-- The error that End tells. -/
def endErr (l : List UInt8) (e : Int) : Int := if e = 0 ∧ l ≠ [] then 22 else e

set_option maxRecDepth 100000 in
set_option maxHeartbeats 400000 in
theorem inEnd_any (b : Nat) (l : List UInt8) (e : Int) (w : World) (h : InIs w b l e) :
    Calls Tryd.prog 43 #[.pointer (some ⟨b, 0, none⟩)] w fun x w' => w = w' ∧ x = .returned (.int .i64 (endErr l e)) := by
  obtain ⟨h0, h1, h2⟩ := h.cells
  go_enter Tryd.func43, Tryd.ntmps43
  have hs : (strOf l).toList = l := strOf_toList l
  by_cases he : e = 0
  · subst he
    cases l with
    | nil =>
      go_wp2
      go_ret
      exact ⟨rfl, rfl⟩
    | cons c r =>
      go_wp2
      go_ret
      exact ⟨rfl, rfl⟩
  · have he' : (e == 0) = false := by simpa using he
    go_wp2
    go_ret
    exact ⟨rfl, by simp [endErr, he]⟩

set_option maxRecDepth 100000 in
set_option maxHeartbeats 400000 in
theorem read_stop (b : Nat) (l : List UInt8) (e : Int) (he : e ≠ 0) (fv : Value) (w : World) (h : InIs w b l e) :
    Calls Tryd.prog 50 #[.pointer (some ⟨b, 0, none⟩), fv] w fun x w' => w = w' ∧ x = .returned (.bool false) := by
  obtain ⟨h0, h1, h2⟩ := h.cells
  have he' : (e == 0) = false := by simpa using he
  go_enter Tryd.func50, Tryd.ntmps50
  go_wp2_with fail
  go_ret
  exact ⟨rfl, rfl⟩

/-- What 'read' leaves behind the function that it calls. -/
def readEnd (b : Nat) (l : List UInt8) (n : Nat) (er : Int) (w1 : World) : World :=
  if er = 0 then (w1.setCell ⟨b, 1, none⟩ (.int .i64 0)).setCell ⟨b, 0, none⟩ (.string (strOf (l.drop n))) else w1.setCell ⟨b, 1, none⟩ (.int .i64 er)

theorem InIs.setCell0 {w : World} {b : Nat} {l : List UInt8} {e : Int} (h : InIs w b l e) (l' : List UInt8) : InIs (w.setCell ⟨b, 0, none⟩ (.string (strOf l'))) b l' e :=
  (heap_setCell_same w b 0 _ _ _ h).trans rfl

theorem InIs.setCell1 {w : World} {b : Nat} {l : List UInt8} {e : Int} (h : InIs w b l e) (e' : Int) : InIs (w.setCell ⟨b, 1, none⟩ (.int .i64 e')) b l e' :=
  (heap_setCell_same w b 1 _ _ _ h).trans rfl

theorem BelowBut.setCell {B b : Nat} {a w : World} (h : BelowBut B b a w) {o : Nat} (u : Value) : BelowBut B b a (w.setCell ⟨b, o, none⟩ u) :=
  h.trans ⟨rfl, rfl, rfl, by simp [World.setCell], fun k _ hk => Below.heap_setCell _ _ _ _ hk⟩

theorem readEnd_is {w1 : World} {b : Nat} {l : List UInt8} (h : InIs w1 b l 0) (n : Nat) (er : Int) :
    InIs (readEnd b l n er w1) b (if er = 0 then l.drop n else l) er ∧ BelowBut w1.heap.size b w1 (readEnd b l n er w1) := by
  unfold readEnd
  split
  · rename_i he; subst he
    exact ⟨(h.setCell1 0).setCell0 _, ((BelowBut.refl _ _ _).setCell _).setCell _⟩
  · exact ⟨h.setCell1 _, (BelowBut.refl _ _ _).setCell _⟩

theorem InIs.kept {w w' : World} {b : Nat} {l : List UInt8} {e : Int} (h : InIs w b l e) (hk : w'.heap[b]? = w.heap[b]?) : InIs w' b l e := hk.trans h

set_option maxRecDepth 100000 in
set_option maxHeartbeats 400000 in
theorem read_go (b : Nat) (l : List UInt8) (f : FuncId) (cap : Array Value) (w : World) (h : InIs w b l 0) (R : Nat → Int → World → Prop)
    (hcf : ∀ (args : Array Value) (w : World), Sem.run Tryd.prog (callFunc f args) w = .ok (.enter f args) w)
    (hcall : Calls Tryd.prog f (#[.string (strOf l)] ++ cap) w fun x w1 => ∃ (n : Nat) (er : Int), x = .returned (.tuple #[.int .i64 n, .int .i64 er]) ∧ InIs w1 b l 0 ∧ n ≤ l.length ∧ R n er w1) :
    Calls Tryd.prog 50 #[.pointer (some ⟨b, 0, none⟩), .func (.func f) #[] cap] w fun x w' => ∃ (n : Nat) (er : Int) (w1 : World), R n er w1 ∧ InIs w' b (if er = 0 then l.drop n else l) er ∧ BelowBut w1.heap.size b w1 w' ∧ x = .returned (.bool (decide (er = 0))) := by
  obtain ⟨h0, h1, h2⟩ := h.cells
  go_enter Tryd.func50, Tryd.ntmps50
  go_wp2_with fail

  refine hcall.mono ?_
  rintro x w1 ⟨n, er, rfl, hin, hn, hr⟩
  obtain ⟨g0, g1, g2⟩ := hin.cells
  have hs := strOf_size l
  by_cases her : er = 0
  · subst her
    have hend : readEnd b l n 0 w1 = (w1.setCell ⟨b, 1, none⟩ (.int .i64 0)).setCell ⟨b, 0, none⟩ (.string (strOf (l.drop n))) := by simp [readEnd]
    have hext := strOf_from l n
    have HE := Lib.hid hend; clear hend
    have HX := Lib.hid hext; clear hext
    clear hcf h0 h1 h2
    go_wp2_with fail
    go_ret
    have hre := readEnd_is hin n 0
    rw [HE.out] at hre
    rw [HX.out]
    exact ⟨n, 0, w1, hr, hre.1, hre.2, rfl⟩
  · have her' : (er == 0) = false := by simpa using her
    have hend : readEnd b l n er w1 = w1.setCell ⟨b, 1, none⟩ (.int .i64 er) := by simp [readEnd, her]
    have HE := Lib.hid hend; clear hend
    clear hcf h0 h1 h2
    go_wp2_with fail
    go_ret
    have hre := readEnd_is hin n er
    rw [HE.out] at hre
    exact ⟨n, er, w1, hr, hre.1, hre.2, by simp [her]⟩

set_option maxRecDepth 100000 in
set_option maxHeartbeats 400000 in
theorem num1_any (l : List UInt8) (hl : l.length ≤ maxLen) (p : Nat) (x : Value) (w : World) (hp : w.heap[p]? = some (.cells #[x] 53 (0, 0))) :
    Calls Tryd.prog 51 #[.string (strOf l), .pointer (some ⟨p, 0, none⟩)] w fun e w' => w' = w.setCell ⟨p, 0, none⟩ (.int .u64 (Wire.dec 0 0 l).1) ∧
      e = .returned (.tuple #[.int .i64 (Wire.dec 0 0 l).2.1, .int .i64 (Wire.dec 0 0 l).2.2]) := by
  have hc := cell_of_one hp
  have hf := free_of_one hp
  have hn := number_any (strOf l) w (by rw [strOf_size]; exact hl)
  rw [strOf_list] at hn
  have HN := Lib.hid hn; clear hn
  clear hp
  go_enter Tryd.func51, Tryd.ntmps51
  go_wp2_with fail
  refine HN.out.mono ?_
  rintro e w' ⟨rfl, rfl⟩
  go_wp2_with fail
  go_ret2
  exact ⟨rfl, rfl⟩

theorem Tryd.callNum1 (args : Array Value) (w : World) : Sem.run Tryd.prog (callFunc 51 args) w = .ok (.enter 51 args) w := by kernel_rfl
set_option maxRecDepth 100000 in
set_option maxHeartbeats 400000 in
theorem inNum_any (b : Nat) (l : List UInt8) (e : Nat) (hl : l.length ≤ maxLen) (w : World) (h : InIs w b l e) :
    Calls Tryd.prog 41 #[.pointer (some ⟨b, 0, none⟩)] w fun x w' => x = .returned (.int .u64 (Wire.rdNum l e).1) ∧ InIs w' b (Wire.rdNum l e).2.1 (Wire.rdNum l e).2.2 ∧ BelowBut w.heap.size b w w' := by
  have hlt := h.lt
  have hal : ∀ o, InIs (w.alloc o) b l e := fun o => h.kept (Below.heap_alloc w o b hlt)
  have hbl : ∀ o, BelowBut w.heap.size b w (w.alloc o) := fun o => .of ((Below.refl _ _).alloc (Nat.le_refl _) _)
  by_cases he : e = 0
  · subst he
    have hcall := read_go b l 51 #[.pointer (some ⟨w.heap.size, 0, none⟩)] (w.alloc (.cells #[.int .u64 0] 53 (0, 0))) (hal _)
      (fun n er w1 => n = (Wire.dec 0 0 l).2.1 ∧ er = (Wire.dec 0 0 l).2.2 ∧ w1 = (w.alloc (.cells #[.int .u64 0] 53 (0, 0))).setCell ⟨w.heap.size, 0, none⟩ (.int .u64 (Wire.dec 0 0 l).1)) Tryd.callNum1
      ((num1_any l hl w.heap.size _ _ (heap_alloc_new w _)).mono fun x w1 ⟨hw, hx⟩ => ⟨_, _, hx, by subst hw; exact (hal _).kept (Below.heap_setCell _ _ _ _ (by simp; omega)), Wire.dec_len l, rfl, rfl, hw⟩)
    have HC := Lib.hid hcall; clear hcall
    clear hal
    go_enter Tryd.func41, Tryd.ntmps41
    go_wp2_with fail
    refine HC.out.mono ?_
    rintro x w' ⟨n, er, w1, ⟨rfl, rfl, rfl⟩, hin, hbb, rfl⟩
    have hcell : w'.cell? ⟨w.heap.size, 0, none⟩ = some (.int .u64 (Wire.dec 0 0 l).1) :=
      cell_of_one ((hbb.block _ (by simp) (by omega)).trans (one_setCell (heap_alloc_new w _)))
    have hbb2 : BelowBut w.heap.size b w w' := (hbl _).trans (BelowBut.trans (.of ((Below.refl _ _).setCell (p := ⟨w.heap.size, 0, none⟩) (Nat.le_refl _) _)) (hbb.mono (by simp)))
    have HI := Lib.hid hin; clear hin
    clear hbb HC
    go_wp2_with fail
    go_ret
    have hin := HI.out
    have hf := (Wire.dec_facts l 0 0).2
    unfold Wire.rdNum
    rw [if_neg (by simp)]
    by_cases her : (Wire.dec 0 0 l).2.2 = 0
    · rw [if_neg (by simpa using her)]
      rw [her] at hin
      exact ⟨rfl, hin, hbb2⟩
    · rw [if_pos her]
      rw [if_neg (by omega)] at hin
      exact ⟨congrArg (fun n : Nat => Ending.returned (.int .u64 n)) (hf her).1, hin, hbb2⟩
  · have hstop := fun fv => read_stop b l e (by omega) fv _ (hal (.cells #[.int .u64 0] 53 (0, 0)))
    have HS := Lib.hid hstop; clear hstop
    have HI := Lib.hid (hal (.cells #[.int .u64 0] 53 (0, 0)))
    clear hal
    go_enter Tryd.func41, Tryd.ntmps41
    go_wp2_with fail
    refine (HS.out _).mono ?_
    rintro x w' ⟨rfl, rfl⟩
    go_wp2_with fail
    go_ret
    have hr : Wire.rdNum l e = (0, l, e) := by simp [Wire.rdNum, he]
    rw [hr]
    exact ⟨rfl, HI.out, hbl _⟩

end Go.Proofs.YtaihojahccplcaaDoor

/- The walks of wire.In: Int, Text, Hash. -/
namespace Go.Proofs.YtaihojahccplcaaDoor
open Go.RowKit

set_option maxRecDepth 100000 in
set_option maxHeartbeats 400000 in
theorem inInt_any (b : Nat) (l : List UInt8) (e : Nat) (hl : l.length ≤ maxLen) (w : World) (h : InIs w b l e) :
    Calls Tryd.prog 42 #[.pointer (some ⟨b, 0, none⟩)] w fun x w' => x = .returned (.int .i64 (Wire.unzig (Wire.rdNum l e).1)) ∧ InIs w' b (Wire.rdNum l e).2.1 (Wire.rdNum l e).2.2 ∧ BelowBut w.heap.size b w w' := by
  have hn := inNum_any b l e hl w h
  have HN := Lib.hid hn; clear hn h
  go_enter Tryd.func42, Tryd.ntmps42
  go_wp2_with fail
  refine HN.out.mono ?_
  rintro x w' ⟨rfl, hin, hbb⟩
  have HI := Lib.hid hin; clear hin
  go_wp2_with fail
  go_ret
  exact ⟨congrArg (fun n => Ending.returned (.int .i64 n)) (unzig_i64 _ (Wire.rdNum_lt l e)), HI.out, hbb⟩

/-- The world behind a text's reader. -/
def textEnd (p : Nat) (o : Option (List UInt8)) (w : World) : World :=
  match o with
  | some t => w.setCell ⟨p, 0, none⟩ (.string (strOf t))
  | none => w

theorem txt_cases (most : Int) (l : List UInt8) (n k er : Nat) (h : Wire.dec 0 0 l = (n, k, er)) :
    (er ≠ 0 ∧ Wire.txt most l = (none, 0, er)) ∨ (er = 0 ∧ (most < 0 ∨ most < n) ∧ Wire.txt most l = (none, 0, 22)) ∨
    (er = 0 ∧ 0 ≤ most ∧ (n : Int) ≤ most ∧ l.length < k + n ∧ Wire.txt most l = (none, 0, 20)) ∨
    (er = 0 ∧ 0 ≤ most ∧ (n : Int) ≤ most ∧ k + n ≤ l.length ∧ Wire.txt most l = (some ((l.drop k).take n), k + n, 0)) := by
  unfold Wire.txt
  rw [h]
  by_cases h1 : er = 0
  · by_cases h2 : most < 0 ∨ most < n
    · exact .inr (.inl ⟨h1, h2, by simp [h1, h2]⟩)
    · by_cases h3 : l.length < k + n
      · exact .inr (.inr (.inl ⟨h1, by omega, by omega, h3, by simp [h1, h2, h3]⟩))
      · exact .inr (.inr (.inr ⟨h1, by omega, by omega, by omega, by simp [h1, h2, h3]⟩))
  · exact .inl ⟨h1, by simp [h1]⟩

end Go.Proofs.YtaihojahccplcaaDoor

/- The walks of wire.In: Text, Hash. -/
namespace Go.Proofs.YtaihojahccplcaaDoor
open Go.RowKit

theorem wnew (w : World) (o : Obj) : (w.alloc o).heap[w.heap.size]? = some o := heap_alloc_new w o

theorem lib_byteCells (l : List UInt8) : Lib.byteCells l = byteCells l := rfl

/-- 'copy(row, s)' where s is no shorter than the row. -/
theorem run_copy_string_full {P : Program} (w : World) (dT sT ty elem : TypeId) (g dLen dCap : Nat) (l : List UInt8) (cur : Array Value) (t : TypeId)
    (hu : P.underlying dT = some (.slice elem)) (hs : (P.info? elem).map (·.size) = some 1) (hg : w.heap[g]? = some (.cells cur t (0, 0))) (hle : dLen ≤ l.length) (hfit : cur.size = dLen) :
    (Builtin.copy_ #[dT, sT] ty #[.slice (some ⟨g, 0, none⟩) dLen dCap, .string (strOf l)]).run P w =
      .ok (goInt dLen) (w.setRow g (byteCells (l.take dLen)).toArray) := by
  have hlen : (byteCells (l.take dLen)).length = dLen := by rw [byteCells_length, List.length_take]; omega
  have hst := run_storeCells_at P g 0 t (byteCells (l.take dLen)) 0 cur w hg (by rw [hlen]; omega) (byteCells_one _)
  have hmin : Nat.min (strOf l).size dLen = dLen := Nat.min_eq_right (by rw [strOf_size]; exact hle)
  have htk : List.take dLen (List.map (fun b : UInt8 => Value.int IntKind.u8 (b.toNat : Int)) (strOf l).data.toList) = byteCells (l.take dLen) := by
    rw [strOf_list, ← List.map_take]; rfl
  have hrow : List.take 0 cur.toList ++ byteCells (List.take dLen l) ++ List.drop (0 + (byteCells (List.take dLen l)).length) cur.toList = byteCells (l.take dLen) := by
    rw [hlen, List.drop_of_length_le (by simp [hfit])]; simp
  simp only [Nat.add_zero] at hst
  rw [hrow] at hst
  cases hq : P.info? elem with
  | none => simp [hq] at hs
  | some i =>
    simp [Builtin.copy_, run_underlying hu, Builtin.lenOf, Builtin.firstCells, sizeOf, typeInfo, hq, hmin]
    rw [htk, hst]
    simp [Result.andThen]

theorem wpList_copy_string_full {P : Program} {w : World} {ops : Array Oper} {rest : List Oper} {o : Oper} {a : Act} {Q : Exit → Act → World → Prop} (hgd : o.guard = none) (d s : Operand) (dT sT : TypeId)
    (ho : o.op = .call { callee := .builtin .copy, args := #[d, s], argTypes := #[dT, sT] }) (elem : TypeId) (hu : P.underlying dT = some (.slice elem)) (hsz : (P.info? elem).map (·.size) = some 1)
    (g dLen dCap : Nat) (l : List UInt8) (hd : a.eval d = .slice (some ⟨g, 0, none⟩) dLen dCap) (hs : a.eval s = .string (strOf l))
    (cur : Array Value) (t : TypeId) (hg : w.heap[g]? = some (.cells cur t (0, 0))) (hle : dLen ≤ l.length) (hfit : cur.size = dLen)
    (h : wpList P ops Q rest (a.put o.dst (goInt dLen)) (w.setRow g (byteCells (l.take dLen)).toArray)) :
    wpList P ops Q (o :: rest) a w := by
  refine wpList_plain hgd fun K hK => ?_
  have hrun := run_copy_string_full (P := P) w dT sT o.type elem g dLen dCap l cur t hu hsz hg hle hfit
  unfold Oper.wp execOp
  simp only [ho, resolve, invoke, builtin, Sem.run_bind, Sem.run_pure, Result.andThen_ok, List.map_toArray, List.map_cons, List.map_nil, hs, hd, hrun]
  exact hK _ _ h

end Go.Proofs.YtaihojahccplcaaDoor

/- The walk of wire.In.Hash. -/
namespace Go.Proofs.YtaihojahccplcaaDoor
open Go.RowKit


theorem bytes_all (l : List UInt8) : (byteCells l).toArray.all (·.oneCell') = true := by
  rw [Array.all_eq_true_iff_forall_mem]
  intro v hv
  exact byteCells_one l v (by simpa using hv)

theorem Tryd.size_hash : (Tryd.prog.info? 27).map (·.size) = some 32 := by kernel_rfl

end Go.Proofs.YtaihojahccplcaaDoor

/- The walk of the wire laws' awake: it returns true. -/
namespace Go.Proofs.YtaihojahccplcaaDoor
open Go.RowKit

theorem OutIs.below {w w' : World} {base b : Nat} {bs : List UInt8} (h : OutIs w base b bs) (hb : Below w.heap.size w w') : OutIs w' base b bs :=
  h.kept fun k hk => hb.block k hk

/-- An Out is kept where another block is changed. -/
theorem OutIs.but {w w' : World} {base b c : Nat} {bs : List UInt8} (h : OutIs w base b bs) (hb : BelowBut w.heap.size c w w') (hc : b ≠ c) (ho : w.heap[c]? ≠ none → ∀ cur fr, w.heap[c]? ≠ some (.cells cur 5 fr)) : OutIs w' base b bs := by
  obtain ⟨v, h1, h2⟩ := h
  refine ⟨v, (hb.block b (lt_of_block h1) hc).trans h1, ownsRow_below h2 fun k hk' => hb.block k (h2.lt k hk').2 ?_⟩
  rintro rfl
  rcases h2.2 with ⟨rfl, _⟩ | ⟨g, cap, cur, rfl, _, hgg, _⟩
  · simp [Value.ownBlock] at hk'
  · simp [Value.ownBlock] at hk'
    subst hk'
    exact ho (by rw [hgg]; simp) _ _ hgg

/-- Block b is a wire.Out in which nothing is written yet. -/
def OutNew (w : World) (b : Nat) : Prop := w.heap[b]? = some (.cells #[.slice none 0 0] 84 (0, 0))

theorem OutNew.is {w : World} {b : Nat} (h : OutNew w b) (base : Nat) : OutIs w base b [] := ⟨_, h, World.ownsRow_nil _ _ _ _⟩
theorem OutNew.is0 {w : World} {b : Nat} (h : OutNew w b) : OutIs w 0 b [] := h.is 0
theorem OutNew.made (w : World) : OutNew (w.alloc (.cells #[.slice none 0 0] 84 (0, 0))) w.heap.size := heap_alloc_new w _
theorem OutNew.lt {w : World} {b : Nat} (h : OutNew w b) : b < w.heap.size := lt_of_block h
theorem OutNew.below {w w' : World} {b : Nat} (h : OutNew w b) (hb : Below w.heap.size w w') : OutNew w' b := (hb.block b h.lt).trans h
theorem OutNew.but {w w' : World} {b c : Nat} (h : OutNew w b) (hb : BelowBut w.heap.size c w w') (hc : b ≠ c) : OutNew w' b := (hb.block b h.lt hc).trans h
theorem OutIs.noRow {w : World} {base b : Nat} {bs : List UInt8} (h : OutIs w base b bs) : w.heap[b]? ≠ none → ∀ cur fr, w.heap[b]? ≠ some (.cells cur 5 fr) := by
  obtain ⟨v, h1, _⟩ := h
  intro _ cur fr hx
  rw [h1] at hx
  simp at hx

theorem outDone_str (base b : Nat) (bs : List UInt8) (w : World) (h : OutIs w base b bs) :
    Calls Tryd.prog 31 #[.pointer (some ⟨b, 0, none⟩)] w fun e w' => w = w' ∧ e = .returned (.string (strOf bs)) :=
  outDone_any base b bs w h

theorem InIs.noRow {w : World} {b : Nat} {l : List UInt8} {e : Int} (h : InIs w b l e) : w.heap[b]? ≠ none → ∀ cur fr, w.heap[b]? ≠ some (.cells cur 5 fr) := by
  intro _ cur fr hx
  unfold InIs at h
  rw [h] at hx
  simp at hx

theorem InIs.fresh (w : World) (l : List UInt8) : InIs (w.alloc (.cells #[.string (strOf l), .int .i64 0] 87 (0, 0))) w.heap.size l 0 := heap_alloc_new w _

end Go.Proofs.YtaihojahccplcaaDoor

/-
  Plain facts on the text of a sum: digits, bytes, order. No program in sight.
-/
namespace Sha

def digits : List UInt8 := [48, 49, 50, 51, 52, 53, 54, 55, 56, 57, 97, 98, 99, 100, 101, 102]
def digit (n : Nat) : UInt8 := digits.getD n 0
/-- What a digit counts; -1: it is none. -/
def nib (c : UInt8) : Int := if 48 ≤ c.toNat ∧ c.toNat ≤ 57 then (c.toNat : Int) - 48 else if 97 ≤ c.toNat ∧ c.toNat ≤ 102 then (c.toNat : Int) - 87 else -1
def hex2 (x : UInt8) : List UInt8 := [digit (x.toNat / 16), digit (x.toNat % 16)]
def hex (l : List UInt8) : List UInt8 := (l.map hex2).flatten
def unhex : List UInt8 → Option (List UInt8)
  | a :: b :: r => if nib a < 0 ∨ nib b < 0 then none else (unhex r).map fun l => UInt8.ofNat (16 * (nib a).toNat + (nib b).toNat) :: l
  | _ => some []

theorem nib_range (c : UInt8) : -1 ≤ nib c ∧ nib c ≤ 15 := by unfold nib; split <;> (try split) <;> omega
theorem all_bytes (p : UInt8 → Prop) [DecidablePred p] (h : ∀ n, n < 256 → p (UInt8.ofNat n)) (c : UInt8) : p c := by
  have := h c.toNat c.toNat_lt
  rwa [UInt8.ofNat_toNat] at this
theorem nib_index (c : UInt8) : Go.Lib.indexByte digits c = nib c := by
  have : ∀ n, n < 256 → Go.Lib.indexByte digits (UInt8.ofNat n) = nib (UInt8.ofNat n) := by decide +kernel
  exact all_bytes (fun c => Go.Lib.indexByte digits c = nib c) this c
theorem digit_nib : ∀ n, n < 16 → nib (digit n) = n := by decide
theorem nib_digit (c : UInt8) (h : 0 ≤ nib c) : digit (nib c).toNat = c := by
  have : ∀ n, n < 256 → (0 ≤ nib (UInt8.ofNat n) → digit (nib (UInt8.ofNat n)).toNat = UInt8.ofNat n) := by decide +kernel
  exact all_bytes (fun c => 0 ≤ nib c → digit (nib c).toNat = c) this c h

theorem hex_len (l : List UInt8) : (hex l).length = 2 * l.length := by
  unfold hex
  induction l with
  | nil => rfl
  | cons x l ih => simp only [List.map_cons, List.flatten_cons, List.length_append, ih, List.length_cons]; simp [hex2]; omega

theorem unhex_hex (l : List UInt8) : unhex (hex l) = some l := by
  induction l with
  | nil => rfl
  | cons x l ih =>
    have hx := x.toNat_lt
    have e : hex (x :: l) = digit (x.toNat / 16) :: digit (x.toNat % 16) :: hex l := rfl
    rw [e, unhex, digit_nib _ (by omega), digit_nib _ (by omega), if_neg (by omega), ih]
    simp only [Option.map_some, Option.some.injEq, List.cons.injEq, and_true]
    apply UInt8.toNat_inj.1
    rw [UInt8.toNat_ofNat']; omega

theorem hex_unhex : ∀ (n : Nat) (s l : List UInt8), s.length = 2 * n → unhex s = some l → hex l = s ∧ l.length = n := by
  intro n
  induction n with
  | zero =>
    intro s l hs h
    obtain rfl := List.eq_nil_of_length_eq_zero hs
    simp [unhex] at h; subst h; exact ⟨rfl, rfl⟩
  | succ n ih =>
    intro s l hs h
    match s, hs with
    | a :: b :: r, hs =>
      rw [unhex] at h
      split at h
      · cases h
      · rename_i hn
        obtain ⟨l', h1, rfl⟩ := Option.map_eq_some_iff.1 h
        obtain ⟨h2, h3⟩ := ih r l' (by simp at hs; omega) h1
        have ra := nib_range a; have rb := nib_range b
        have ha := nib_digit a (by omega); have hb := nib_digit b (by omega)
        refine ⟨?_, by simp [h3]⟩
        show hex2 _ ++ hex l' = _
        rw [h2]
        unfold hex2
        rw [UInt8.toNat_ofNat', show (16 * (nib a).toNat + (nib b).toNat) % 2 ^ 8 / 16 = (nib a).toNat by omega, show (16 * (nib a).toNat + (nib b).toNat) % 2 ^ 8 % 16 = (nib b).toNat by omega, ha, hb]; rfl
    | [], hs => simp at hs
    | [a], hs => simp at hs; omega

theorem hexAt (l : List UInt8) (k : Nat) (x : UInt8) (h : l[k]? = some x) : (hex l)[2 * k]? = some (digit (x.toNat / 16)) ∧ (hex l)[2 * k + 1]? = some (digit (x.toNat % 16)) := by
  induction l generalizing k with
  | nil => simp at h
  | cons a l ih =>
    have e : hex (a :: l) = digit (a.toNat / 16) :: digit (a.toNat % 16) :: hex l := rfl
    cases k with
    | zero => simp at h; subst h; rw [e]; exact ⟨rfl, rfl⟩
    | succ k =>
      have := ih k (by simpa using h)
      rw [e, show 2 * (k + 1) = 2 * k + 1 + 1 by omega]
      exact this

end Sha

/-
  Plain facts on how hash.Read builds a sum, digit by digit. No program in sight.
-/
namespace Sha

/-- The sum behind the first t digits. -/
def accN (s : List UInt8) : Nat → List UInt8
  | 0 => List.replicate 32 0
  | t + 1 => (accN s t).set (t / 2) (UInt8.ofNat (((accN s t).getD (t / 2) 0).toNat * 16 % 256 + (nib (s.getD t 0)).toNat))

theorem accN_len (s : List UInt8) (t : Nat) : (accN s t).length = 32 := by
  induction t with
  | zero => rfl
  | succ t ih => rw [accN, List.length_set, ih]

/-- What Go's shift and or come to. -/
theorem or_shift : ∀ x, x < 256 → ∀ n, n < 16 → (x * 16 % 256) ||| n = x * 16 % 256 + n := by decide +kernel

theorem acc_pairs : ∀ (n : Nat) (s l : List UInt8), s.length = 2 * n → n ≤ 32 → unhex s = some l → ∀ k, k ≤ n → accN s (2 * k) = l.take k ++ List.replicate (32 - k) 0 := by
  intro n s l hs hn hu k
  have hl := (hex_unhex n s l hs hu)
  induction k with
  | zero => intro _; simp [accN]
  | succ k ih =>
    intro hk
    have h0 := ih (by omega)
    have hx : l[k]? = some (l[k]'(by omega)) := List.getElem?_eq_getElem (by omega)
    obtain ⟨x, hx'⟩ : ∃ x, l[k]? = some x := ⟨_, hx⟩
    have hpair := hexAt l k x hx'
    rw [hl.1] at hpair
    obtain ⟨p0, p1⟩ := hpair
    have hxl := x.toNat_lt
    have n0 : nib (s.getD (2 * k) 0) = ((x.toNat / 16 : Nat) : Int) := by rw [List.getD_eq_getElem?_getD, p0]; exact digit_nib _ (by omega)
    have n1 : nib (s.getD (2 * k + 1) 0) = ((x.toNat % 16 : Nat) : Int) := by rw [List.getD_eq_getElem?_getD, p1]; exact digit_nib _ (by omega)
    have htk : (l.take k).length = k := by rw [List.length_take]; omega
    have er : List.replicate (32 - k) (0 : UInt8) = 0 :: List.replicate (32 - (k + 1)) 0 := by rw [← List.replicate_succ]; congr 1; omega
    have e1 : accN s (2 * k + 1) = l.take k ++ UInt8.ofNat (x.toNat / 16) :: List.replicate (32 - (k + 1)) 0 := by
      rw [accN, h0, show 2 * k / 2 = k by omega, n0, er, Int.toNat_natCast]
      rw [List.set_append_right _ _ (by omega), htk, Nat.sub_self, List.set_cons_zero]
      rw [List.getD_eq_getElem?_getD, List.getElem?_append_right (by omega), htk, Nat.sub_self]
      simp
    rw [show 2 * (k + 1) = 2 * k + 1 + 1 by omega, accN, e1, show (2 * k + 1) / 2 = k by omega, n1, Int.toNat_natCast]
    rw [List.set_append_right _ _ (by omega), htk, Nat.sub_self, List.set_cons_zero]
    rw [List.getD_eq_getElem?_getD, List.getElem?_append_right (by omega), htk, Nat.sub_self]
    rw [List.take_add_one, hx', List.append_assoc]
    congr 1
    simp only [List.getElem?_cons_zero, Option.getD_some, Option.toList_some, List.singleton_append, List.cons.injEq, and_true]
    apply UInt8.toNat_inj.1
    rw [UInt8.toNat_ofNat', UInt8.toNat_ofNat']
    omega

theorem acc_all (s l : List UInt8) (hs : s.length = 64) (hu : unhex s = some l) : accN s 64 = l := by
  have h := acc_pairs 32 s l (by omega) (Nat.le_refl _) hu 32 (Nat.le_refl _)
  have hl := (hex_unhex 32 s l (by omega) hu).2
  rw [show 2 * 32 = 64 from rfl, List.take_of_length_le (by omega)] at h
  simpa using h

/-- Is each of the first t a digit? -/
theorem unhex_some : ∀ (n : Nat) (s : List UInt8), s.length = 2 * n → (∀ j, j < 2 * n → 0 ≤ nib (s.getD j 0)) → ∃ l, unhex s = some l := by
  intro n
  induction n with
  | zero => intro s hs _; obtain rfl := List.eq_nil_of_length_eq_zero hs; exact ⟨[], rfl⟩
  | succ n ih =>
    intro s hs h
    match s, hs with
    | a :: b :: r, hs =>
      obtain ⟨l, hl⟩ := ih r (by simp at hs; omega) (fun j hj => by have := h (j + 2) (by omega); simpa using this)
      have h0 := h 0 (by omega)
      have h1 := h 1 (by omega)
      simp at h0 h1
      rw [unhex, if_neg (by omega), hl]
      exact ⟨_, rfl⟩
    | [], hs => simp at hs
    | [a], hs => simp at hs; omega

theorem unhex_none : ∀ (s : List UInt8) (j : Nat), j < s.length → s.length % 2 = 0 → nib (s.getD j 0) < 0 → unhex s = none := by
  intro s
  induction s using unhex.induct with
  | case1 a b r h => intro j _ _ _; rw [unhex, if_pos h]
  | case2 a b r h ih =>
    intro j hj hm hn
    rw [unhex, if_neg h]
    match j with
    | 0 => simp at hn; omega
    | 1 => simp at hn; omega
    | j + 2 => rw [ih j (by simp at hj; omega) (by simp at hm; omega) (by simpa using hn)]; rfl
  | case3 s h1 =>
    intro j hj hm _
    match s, h1, hj, hm with
    | [], _, hj, _ => simp at hj
    | [a], _, _, hm => simp at hm
    | a :: b :: r, h1, _, _ => exact absurd rfl (h1 a b r)

end Sha

/- The walk of hash.Read: the sum that a text is. -/
namespace Go.Proofs.YtaihojahccplcaaDoor
open Go.RowKit
set_option linter.unusedSimpArgs false
set_option linter.unusedVariables false

/-- What hash.Read makes of a text. -/
def rdSum (s : List UInt8) : List UInt8 × Int :=
  if s.length = 64 then match Sha.unhex s with
    | some l => (l, 0)
    | none => (List.replicate 32 0, 10)
  else (List.replicate 32 0, 10)

theorem results_row2 {P : Program} {fn : Func} {p u : Tmp} {ty : TypeId} (h : fn.results = #[.cell p ty, .tmp u]) (tmps : Array Value) (w : World) (g : Nat) (t : TypeId) (cs : Array Value) (fr : Nat × Nat) (d : TypeDesc)
    (hp : tmps.getD p undef = .pointer (some ⟨g, 0, none⟩)) (hg : w.heap[g]? = some (.cells cs t fr))
    (hu : P.underlying ty = some d) (hd : (match d with | .struct _ | .array _ _ => true | _ => false) = true) (hi : (P.info? ty).map (·.size) = some cs.size) :
    (results fn tmps).run P w = .ok (.tuple #[.agg cs, tmps.getD u undef]) w := by
  have hp' : tmps[p]?.getD undef = .pointer (some ⟨g, 0, none⟩) := by simpa using hp
  simp [results, h, hp', asAddr, run_loadVar_row w g t ty cs fr d hg hu hd hi]

theorem Tryd.under_r32 : Tryd.prog.underlying 27 = some (.array 32 5) := by kernel_rfl
theorem Tryd.size_r32 : (Tryd.prog.info? 27).map (·.size) = some 32 := by kernel_rfl
theorem Tryd.built_r32 : Tryd.prog.built 27 [] = some zero32 := by kernel_rfl

theorem or_u8 (x n : Nat) (hx : x < 256) (hn : n < 16) : bits BinOp.or IntKind.u8 ((x : Int) * 16 % 256) (n : Int) = ((x * 16 % 256 + n : Nat) : Int) := by
  have e : ((x : Int) * 16 % 256) = ((x * 16 % 256 : Nat) : Int) := by omega
  rw [e, u8_or_nat _ _ (by omega) (by omega), Sha.or_shift x hx n hn]

end Go.Proofs.YtaihojahccplcaaDoor
