/- TreeSpec, RefTurn, Bits, Out, NumT, OpenC, RelTail, RelR, ManySpec, ManyRef, in one text. -/
import Derived.Test.YtgheacegjgaobaaDoorKG0a
import Derived.Test.YtgheacegjgaobaaDoorRows
import Derived.WalkKit
import Derived.WalkSpells
import Derived.WalkLawsBesides
import Derived.Lib.Hide
import Derived.Deep.QuietTactic
import Derived.BigQuiet
import Derived.IntWalk
import Derived.Lib.AppendStr
import Derived.RegionTactic
import Derived.Deep.RegionLaw
import Derived.Deep.RegionWith
import Derived.ProofKit
import Derived.OpenShut
import Derived.ShutString
import Derived.ChangeOld
import Derived.SizedLaws
import Derived.Deep.Slices
import Derived.Deep.MidRow
/- What a tree of leaves comes to: plain. -/
namespace Go.Proofs.YtgheacegjgaobaaDoor.Tree
set_option linter.unusedVariables false

/-- How many leaves stand on the left of n. -/
def half (n : Nat) : Nat := if n < 2 then 0 else 2 ^ Nat.log2 (n - 1)

theorem half_of {n i : Nat} (h1 : 2 ^ i < n) (h2 : n ≤ 2 * 2 ^ i) : half n = 2 ^ i := by
  have hp := Nat.two_pow_pos i
  have : Nat.log2 (n - 1) = i := by
    have h0 : n - 1 ≠ 0 := by omega
    have l1 : i ≤ Nat.log2 (n - 1) := (Nat.le_log2 h0).2 (by omega)
    have l2 : Nat.log2 (n - 1) < i + 1 := (Nat.log2_lt h0).2 (by rw [Nat.pow_succ]; omega)
    omega
  unfold half
  rw [if_neg (by omega), this]

theorem half_zero {n : Nat} (h : n < 2) : half n = 0 := by unfold half; rw [if_pos h]

theorem half_spec {n : Nat} (h : 2 ≤ n) : ∃ i, half n = 2 ^ i ∧ 2 ^ i < n ∧ n ≤ 2 * 2 ^ i := by
  have h0 : n - 1 ≠ 0 := by omega
  refine ⟨Nat.log2 (n - 1), by unfold half; rw [if_neg (by omega)], ?_, ?_⟩
  · have := (Nat.le_log2 h0).1 (Nat.le_refl _); omega
  · have := (Nat.log2_lt h0).1 (Nat.lt_succ_self _); rw [Nat.pow_succ] at this; omega

theorem half_pos {n : Nat} (h : 2 ≤ n) : 1 ≤ half n := by
  obtain ⟨i, h1, _⟩ := half_spec h
  rw [h1]; exact Nat.two_pow_pos i
theorem half_lt {n : Nat} (h : 2 ≤ n) : half n < n := by
  obtain ⟨i, h1, h2, _⟩ := half_spec h
  omega
theorem half_ge {n : Nat} (h : 2 ≤ n) : n ≤ 2 * half n := by
  obtain ⟨i, h1, _, h2⟩ := half_spec h
  omega

/-- A leaf's sum, that of two, of none; the root's. -/
def leaf (s : List UInt8) : List UInt8 := Sha.of (0 :: s)
def node (a b : List UInt8) : List UInt8 := Sha.of (1 :: (a ++ b))
def root (n : Nat) (t : List UInt8) : List UInt8 := Sha.of (3 :: (Wire.num n ++ t))

theorem leaf_len (s : List UInt8) : (leaf s).length = 32 := Sha.of_len _
theorem node_len (a b : List UInt8) : (node a b).length = 32 := Sha.of_len _
theorem root_len (n : Nat) (t : List UInt8) : (root n t).length = 32 := Sha.of_len _

/-- The top of leaves. -/
def top (l : List (List UInt8)) : List UInt8 :=
  if h : 2 ≤ l.length then node (top (l.take (half l.length))) (top (l.drop (half l.length)))
  else match l with
    | [] => Sha.of [2]
    | a :: _ => leaf a
termination_by l.length
decreasing_by
  · have := half_lt h; simp only [List.length_take]; omega
  · have := half_pos h; simp only [List.length_drop]; omega

theorem top_nil : top [] = Sha.of [2] := by rw [top.eq_def]; rfl
theorem top_one (a : List UInt8) : top [a] = leaf a := by rw [top.eq_def]; rfl
theorem top_two {l : List (List UInt8)} (h : 2 ≤ l.length) : top l = node (top (l.take (half l.length))) (top (l.drop (half l.length))) := by
  rw [top.eq_def, dif_pos h]
theorem top_len (l : List (List UInt8)) : (top l).length = 32 := by
  by_cases h : 2 ≤ l.length
  · rw [top_two h]; exact node_len _ _
  · match l, h with
    | [], _ => rw [top_nil]; exact Sha.of_len _
    | [a], _ => rw [top_one]; exact leaf_len _
    | _ :: _ :: _, h => exact absurd (by simp) h

/-- The proof of a leaf, from the leaf on up. -/
def prove (l : List (List UInt8)) (at' : Nat) : List (List UInt8) :=
  if h : 2 ≤ l.length then
    if at' < half l.length then prove (l.take (half l.length)) at' ++ [top (l.drop (half l.length))]
    else prove (l.drop (half l.length)) (at' - half l.length) ++ [top (l.take (half l.length))]
  else []
termination_by l.length
decreasing_by
  · have := half_lt h; simp only [List.length_take]; omega
  · have := half_pos h; simp only [List.length_drop]; omega

theorem prove_small {l : List (List UInt8)} (h : ¬ 2 ≤ l.length) (i : Nat) : prove l i = [] := by rw [prove.eq_def, dif_neg h]
theorem prove_left {l : List (List UInt8)} {i : Nat} (h : 2 ≤ l.length) (hi : i < half l.length) : prove l i = prove (l.take (half l.length)) i ++ [top (l.drop (half l.length))] := by
  rw [prove.eq_def, dif_pos h, if_pos hi]
theorem prove_right {l : List (List UInt8)} {i : Nat} (h : 2 ≤ l.length) (hi : ¬ i < half l.length) : prove l i = prove (l.drop (half l.length)) (i - half l.length) ++ [top (l.take (half l.length))] := by
  rw [prove.eq_def, dif_pos h, if_neg hi]

/-- On which side a leaf stands, from the top on down: true is the left one. -/
def sides (n at' : Nat) : List Bool :=
  if h : 2 ≤ n then
    if at' < half n then true :: sides (half n) at' else false :: sides (n - half n) (at' - half n)
  else []
termination_by n
decreasing_by
  · exact half_lt h
  · have := half_pos h; omega

theorem sides_small {n : Nat} (h : ¬ 2 ≤ n) (i : Nat) : sides n i = [] := by rw [sides.eq_def, dif_neg h]
theorem sides_left {n i : Nat} (h : 2 ≤ n) (hi : i < half n) : sides n i = true :: sides (half n) i := by rw [sides.eq_def, dif_pos h, if_pos hi]
theorem sides_right {n i : Nat} (h : 2 ≤ n) (hi : ¬ i < half n) : sides n i = false :: sides (n - half n) (i - half n) := by rw [sides.eq_def, dif_pos h, if_neg hi]

/-- There are no more sides than it takes to double up to n. -/
theorem sides_len : ∀ (d n i : Nat), i < n → n ≤ 2 ^ d → (sides n i).length ≤ d := by
  intro d n
  induction n using Nat.strongRecOn generalizing d with
  | ind n ih =>
    intro i hi hn
    by_cases h : 2 ≤ n
    · obtain ⟨j, h1, h2, h3⟩ := half_spec h
      cases d with
      | zero => simp at hn; omega
      | succ d =>
        have hjd : j ≤ d := by
          apply Nat.le_of_not_lt
          intro hlt
          have := Nat.pow_le_pow_right (n := 2) (by omega) (show d + 1 ≤ j by omega)
          omega
        have hk : half n ≤ 2 ^ d := by rw [h1]; exact Nat.pow_le_pow_right (by omega) hjd
        by_cases hl : i < half n
        · rw [sides_left h hl, List.length_cons]
          have := ih (half n) (half_lt h) d i hl hk
          omega
        · rw [sides_right h hl, List.length_cons]
          have := ih (n - half n) (by have := half_pos h; omega) d (i - half n) (by omega) (by omega)
          omega
    · rw [sides_small h]; simp

/-- One step up: the sum and the side on which it stands. -/
def step (t : List UInt8) (x : Bool × List UInt8) : List UInt8 := if x.1 then node t x.2 else node x.2 t
/-- What a leaf comes to, with a proof of as many sums as there are sides. -/
def climb (t : List UInt8) (sd : List Bool) (p : List (List UInt8)) : List UInt8 := (sd.reverse.zip p).foldl step t

theorem step_len (t : List UInt8) (x : Bool × List UInt8) : (step t x).length = 32 := by unfold step; split <;> exact node_len _ _

theorem climb_len (t : List UInt8) (ht : t.length = 32) (sd : List Bool) (p : List (List UInt8)) : (climb t sd p).length = 32 := by
  unfold climb
  generalize sd.reverse.zip p = z
  induction z generalizing t with
  | nil => exact ht
  | cons x z ih => exact ih _ (step_len _ _)

/-- Is it proved? -/
def check (want : List UInt8) (n i : Nat) (s : List UInt8) (p : List (List UInt8)) : Bool :=
  decide ((sides n i).length = p.length) && (root n (climb (leaf s) (sides n i) p) == want)

end Go.Proofs.YtgheacegjgaobaaDoor.Tree

/- The walks of the reference's small functions: two, cut, turn, constants. -/
namespace Go.Proofs.YtgheacegjgaobaaDoor
open Go.RowKit
set_option linter.unusedSimpArgs false

set_option maxRecDepth 100000 in
set_option maxHeartbeats 400000 in
theorem two_any (n A : Nat) (hn : n ≤ 63) (hA : A = 2 ^ n) (w : World) :
    Calls Tryd.prog 66 #[.int .i64 n] w fun e w' => w = w' ∧ e = .returned (.int .u64 A) := by
  have HA := Lib.hid hA; clear hA
  go_enter Tryd.func66, Tryd.ntmps66
  go_wp2
  go_loop [3, 4] (fun x i => ∃ k P : Nat, k ≤ n ∧ i = .int .i64 k ∧ x = .int .u64 P ∧ Hid (P = 2 ^ k)) (fun _ i => n - (intOf i).toNat)
  case atStart => exact ⟨0, 1, by omega, rfl, rfl, rfl⟩
  case round =>
    obtain ⟨k, P, hk, rfl, rfl, hP⟩ := hrel
    by_cases hlt : k < n
    · have hb : P ≤ 4611686018427387904 := by rw [hP.out]; exact Nat.pow_le_pow_right (n := 2) (by decide) (by omega : k ≤ 62)
      go_wp2
      go_round
      case rel => exact ⟨k + 1, 2 * P, by omega, by go_num, by go_num, Lib.hid (by rw [Nat.pow_succ, hP.out, Nat.mul_comm])⟩
      case measure => simp [intOf]; omega
    · obtain rfl : k = n := by omega
      go_wp2
      go_ret
      exact ⟨rfl, congrArg (fun z : Nat => Ending.returned (.int .u64 (z : Int))) (hP.out.trans HA.out.symm)⟩

set_option maxRecDepth 100000 in
theorem cut_any (x : Nat) (w : World) :
    Calls Tryd.prog 68 #[.int .u64 x] w fun e w' => w = w' ∧ e = .returned (.int .u64 ((x % 4294967296 : Nat) : Int)) := by
  go_enter Tryd.func68, Tryd.ntmps68
  go_wp2
  go_ret
  exact ⟨rfl, rfl⟩

theorem rot_val (n A B x : Nat) (hn : n ≤ 32) (hA : A = 2 ^ n) (hB : B = 2 ^ (32 - n)) (hx : x < 4294967296) :
    IntKind.u64.wrap (IntKind.u64.wrap ((x : Int) / (A : Int)) + IntKind.u64.wrap ((x : Int) % (A : Int) * (B : Int))) = (Sha.rot n x : Int) ∧ 0 < A ∧ x % A * B < 4294967296 := by
  subst hA hB
  have h0 : 0 < 2 ^ n := Nat.two_pow_pos n
  have hr := Sha.rot_lt n x hn hx
  unfold Sha.rot Sha.M at *
  have e1 : ((x : Int) % ((2 ^ n : Nat) : Int) * ((2 ^ (32 - n) : Nat) : Int)) = ((x % 2 ^ n * 2 ^ (32 - n) : Nat) : Int) := by rw [Int.natCast_mul, Int.natCast_emod]
  have e2 : ((x : Int) / ((2 ^ n : Nat) : Int)) = ((x / 2 ^ n : Nat) : Int) := by rw [Int.natCast_ediv]
  rw [e1, e2, IntKind.wrap_u64, IntKind.wrap_u64, IntKind.wrap_u64]
  generalize x % 2 ^ n * 2 ^ (32 - n) = p at *
  generalize x / 2 ^ n = q at *
  refine ⟨?_, h0, by omega⟩
  omega

set_option maxRecDepth 100000 in
set_option maxHeartbeats 400000 in
theorem rturn_any (x n : Nat) (hn : n ≤ 32) (hx : x < 4294967296) (w : World) :
    Calls Tryd.prog 69 #[.int .u64 x, .int .i64 n] w fun e w' => e = .returned (.int .u64 (Sha.rot n x)) ∧ ∃ q, w' = w.drewN q := by
  obtain ⟨A, hA⟩ : ∃ A, A = 2 ^ n := ⟨_, rfl⟩
  obtain ⟨B, hB⟩ : ∃ B, B = 2 ^ (32 - n) := ⟨_, rfl⟩
  obtain ⟨hv, hA0, _⟩ := rot_val n A B x hn hA hB hx
  have HV := Lib.hid hv; clear hv
  have HA := Lib.hid hA; clear hA
  have HB := Lib.hid hB; clear hB
  have t1 := fun w => two_any n A (by omega) HA.out w
  have t2 := fun w => two_any (32 - n) B (by omega) HB.out w
  have e32 : (((32 - n : Nat)) : Int) = 32 - (n : Int) := by omega
  rw [e32] at t2
  have T1 := Lib.hid t1; clear t1
  have T2 := Lib.hid t2; clear t2
  clear e32
  have hs : IntKind.i64.wrap (32 - (n : Int)) = 32 - (n : Int) := IntWalk.i64_in _ (by omega)
  go_enter Tryd.func69, Tryd.ntmps69
  go_wp2_with fail
  refine wp_region_quiet_lit (by kernel_rfl) (by kernel_rfl) ?_
  repeat (go_big_quiet_step (first | (go_at_call 66; with_reducible exact Calls.quiet_of_same ((T1.out _).mono fun _ _ h => ⟨h.2, h.1.symm⟩)) | (go_at_call 66; with_reducible exact Calls.quiet_of_same ((T2.out _).mono fun _ _ h => ⟨h.2, h.1.symm⟩))))
  refine wpQuiet_nil ?_
  rintro w3 ⟨nq, hw3⟩
  go_wp2_with fail
  go_ret
  exact ⟨congrArg (fun z : Int => Ending.returned (.int .u64 z)) HV.out, ⟨nq, hw3⟩⟩

end Go.Proofs.YtgheacegjgaobaaDoor

/- Bit operations of the model's numbers, in plain arithmetic. -/
namespace Go.Proofs.YtgheacegjgaobaaDoor
open Go.RowKit

theorem and127_u8 (c : UInt8) : bits .and .u8 (c.toNat : Int) 127 = ((c.toNat % 128 : Nat) : Int) := by
  have h := c.toNat_lt
  have := bits_mask .u8 8 (by decide) wraps_u8 7 (by decide) (c.toNat : Int) (by omega) (by omega)
  simpa using this

/-- What Out.Int writes. -/
theorem zig_u64 (n : Int) (h0 : -9223372036854775808 ≤ n) (h1 : n ≤ 9223372036854775807) :
    bits .xor .u64 (IntKind.u64.wrap (IntKind.u64.wrap n * 2)) (IntKind.u64.wrap (n / 9223372036854775808)) = (Wire.zig n : Int) := by
  unfold Wire.zig
  by_cases hn : 0 ≤ n
  · have e1 : IntKind.u64.wrap (IntKind.u64.wrap n * 2) = ((2 * n).toNat : Int) := by rw [IntKind.wrap_u64, IntKind.wrap_u64]; omega
    have e2 : IntKind.u64.wrap (n / 9223372036854775808) = ((0 : Nat) : Int) := by rw [IntKind.wrap_u64]; omega
    rw [e1, e2, bits_xor_u64_nat _ _ (by omega) (by omega), if_pos hn, Nat.xor_zero]
  · have e1 : IntKind.u64.wrap (IntKind.u64.wrap n * 2) = (((2 * n) % 18446744073709551616).toNat : Int) := by rw [IntKind.wrap_u64, IntKind.wrap_u64]; omega
    have e2 : IntKind.u64.wrap (n / 9223372036854775808) = ((2 ^ 64 - 1 : Nat) : Int) := by rw [IntKind.wrap_u64]; omega
    rw [e1, e2, bits_xor_u64_nat _ _ (by omega) (by omega), if_neg hn]
    have hx := BitVec.toNat_not (x := BitVec.ofNat 64 ((2 * n) % 18446744073709551616).toNat)
    have e3 : ∀ a : Nat, a < 2 ^ 64 → a ^^^ (2 ^ 64 - 1) = 2 ^ 64 - 1 - a := by
      intro a ha
      have hx := BitVec.toNat_not (x := BitVec.ofNat 64 a)
      rw [← BitVec.xor_allOnes, BitVec.toNat_xor, BitVec.toNat_allOnes, BitVec.toNat_ofNat, Nat.mod_eq_of_lt ha] at hx
      exact hx
    rw [e3 _ (by omega)]
    omega

/-- What In.Int makes of a number. -/
theorem unzig_i64 (n : Nat) (h : n < 18446744073709551616) :
    bits .xor .i64 (wrap64 ((n : Int) / 2)) (wrap64 (-wrap64 (bits .and .u64 (n : Int) 1))) = Wire.unzig n := by
  have ha : bits .and .u64 (n : Int) 1 = ((n % 2 : Nat) : Int) := by
    have := bits_and_u64_nat n 1 h (by decide)
    rw [Nat.and_one_is_mod] at this
    exact this
  have e0 : ∀ x : Int, wrap64 x = (x + 9223372036854775808) % 18446744073709551616 - 9223372036854775808 := fun x => by unfold wrap64; rfl
  rw [ha]
  have e1 : wrap64 ((n : Int) / 2) = ((n / 2 : Nat) : Int) := by rw [e0]; omega
  rw [e1]
  have hb : n / 2 < 2 ^ 63 := by omega
  have e3 : ∀ a : Nat, a < 2 ^ 63 → (BitVec.ofInt 64 (a : Int)).toNat = a := by
    intro a ha
    rw [BitVec.ofInt_natCast, BitVec.toNat_ofNat]; exact Nat.mod_eq_of_lt (by omega)
  unfold Wire.unzig
  by_cases h2 : n % 2 = 0
  · have e2 : wrap64 (-wrap64 ((n % 2 : Nat) : Int)) = ((0 : Nat) : Int) := by rw [h2, e0, e0]; omega
    rw [e2, if_pos h2]
    show IntKind.i64.wrap ((BitVec.ofInt 64 ((n / 2 : Nat) : Int) ^^^ BitVec.ofInt 64 ((0 : Nat) : Int)).toNat : Int) = _
    rw [BitVec.toNat_xor, e3 _ hb, e3 0 (by decide), Nat.xor_zero, IntKind.wrap_i64]; omega
  · have e2 : wrap64 (-wrap64 ((n % 2 : Nat) : Int)) = -1 := by rw [show n % 2 = 1 by omega, e0, e0]; omega
    rw [e2, if_neg h2]
    show IntKind.i64.wrap ((BitVec.ofInt 64 ((n / 2 : Nat) : Int) ^^^ BitVec.allOnes 64).toNat : Int) = _
    rw [BitVec.xor_allOnes, BitVec.toNat_not, e3 _ hb, IntKind.wrap_i64]; omega

theorem wrap_u64_lt (n : Nat) (h : n < 18446744073709551616) : IntKind.u64.wrap (n : Int) = n := by
  rw [IntKind.wrap_u64]; omega

/-- A low part and a part above it, by 'or'. -/
theorem or_join (n x i : Nat) (hn : n < 2 ^ i) (hx : x * 2 ^ i < 18446744073709551616) (hn2 : n < 18446744073709551616) :
    bits .or .u64 (n : Int) ((x * 2 ^ i : Nat) : Int) = ((n + x * 2 ^ i : Nat) : Int) := by
  rw [bits_or_u64_nat _ _ hn2 hx, Nat.or_comm, Nat.mul_comm, ← Nat.two_pow_add_eq_or_of_lt hn, Nat.add_comm]

theorem pow128 (k : Nat) : 128 ^ k = 2 ^ (7 * k) := by rw [Nat.pow_mul]

theorem pow128_le (k : Nat) (h : k ≤ 9) : 128 ^ k ≤ 9223372036854775808 :=
  Nat.le_trans (Nat.pow_le_pow_right (by decide) h) (by decide)

/-- One byte more of a number, as the program puts it in. -/
theorem number_step (n k : Nat) (c : UInt8) (hk : k ≤ 9) (hn : n < 128 ^ k) (h9 : k = 9 → c.toNat ≤ 1) :
    bits .or .u64 (n : Int) (IntKind.u64.wrap (IntKind.u64.wrap (bits .and .u8 (c.toNat : Int) 127) * 2 ^ (7 * k))) =
      ((n + c.toNat % 128 * 128 ^ k : Nat) : Int) := by
  have hp := pow128_le k hk
  have hb : c.toNat % 128 * 128 ^ k < 18446744073709551616 := by
    by_cases h : k = 9
    · have := h9 h; subst h
      have : c.toNat % 128 ≤ 1 := by omega
      calc c.toNat % 128 * 128 ^ 9 ≤ 1 * 128 ^ 9 := Nat.mul_le_mul_right _ this
        _ < _ := by decide
    · have h8 : 128 ^ k ≤ 128 ^ 8 := Nat.pow_le_pow_right (by decide) (by omega)
      calc c.toNat % 128 * 128 ^ k ≤ 127 * 128 ^ 8 := Nat.mul_le_mul (by omega) h8
        _ < _ := by decide
  rw [and127_u8, wrap_u64_lt _ (by omega)]
  have e : ((c.toNat % 128 : Nat) : Int) * 2 ^ (7 * k) = ((c.toNat % 128 * 2 ^ (7 * k) : Nat) : Int) := by
    rw [Int.natCast_mul, Int.natCast_pow]; rfl
  rw [pow128] at hb hn hp ⊢
  rw [e, wrap_u64_lt _ hb]
  exact or_join n _ _ hn hb (by omega)

theorem number_step9 (n : Nat) (c : UInt8) (hn : n < 128 ^ 9) (h9 : c.toNat ≤ 1) :
    bits .or .u64 (n : Int) (IntKind.u64.wrap (IntKind.u64.wrap (bits .and .u8 (c.toNat : Int) 127) * 9223372036854775808)) =
      ((n + c.toNat % 128 * 128 ^ 9 : Nat) : Int) := number_step n 9 c (by omega) hn (fun _ => h9)

/-- The same step by sums and products, as the reference has it. -/
theorem ref_step (n k p : Nat) (c : UInt8) (hk : k ≤ 9) (hn : n < 128 ^ k) (h9 : k = 9 → c.toNat ≤ 1) (hp : p = 128 ^ k) :
    IntKind.u64.wrap ((n : Int) + IntKind.u64.wrap ((c.toNat : Int) % 128 * (p : Int))) = ((n + c.toNat % 128 * 128 ^ k : Nat) : Int) := by
  have hpw := pow128_le k hk
  have hb : c.toNat % 128 * 128 ^ k < 9223372036854775809 := by
    by_cases h : k = 9
    · have := h9 h; subst h
      have h1 : c.toNat % 128 ≤ 1 := by omega
      calc c.toNat % 128 * 128 ^ 9 ≤ 1 * 128 ^ 9 := Nat.mul_le_mul_right _ h1
        _ < _ := by decide
    · have h8 : 128 ^ k ≤ 128 ^ 8 := Nat.pow_le_pow_right (by decide) (by omega)
      calc c.toNat % 128 * 128 ^ k ≤ 127 * 128 ^ 8 := Nat.mul_le_mul (by omega) h8
        _ < _ := by decide
  subst hp
  have e : (c.toNat : Int) % 128 * ((128 ^ k : Nat) : Int) = ((c.toNat % 128 * 128 ^ k : Nat) : Int) := by
    rw [Int.natCast_mul, Int.natCast_emod]; rfl
  rw [e, wrap_u64_lt _ (by omega), ← Int.natCast_add, wrap_u64_lt _ (by omega)]

theorem ref_weight (k p : Nat) (hp : k ≤ 9 → p = 128 ^ k) : ∃ q : Nat, IntKind.u64.wrap ((p : Int) * 128) = (q : Int) ∧ (k + 1 ≤ 9 → q = 128 ^ (k + 1)) := by
  refine ⟨p * 128 % 18446744073709551616, by rw [IntKind.wrap_u64]; omega, fun h => ?_⟩
  rw [hp (by omega), ← Nat.pow_succ]
  have := pow128_le (k + 1) h
  exact Nat.mod_eq_of_lt (by omega)

theorem number_lt (n k : Nat) (c : UInt8) (hn : n < 128 ^ k) : n + c.toNat % 128 * 128 ^ k < 128 ^ (k + 1) := by
  have : c.toNat % 128 ≤ 127 := by omega
  have := Nat.mul_le_mul_right (128 ^ k) this
  rw [Nat.pow_succ]; omega

end Go.Proofs.YtgheacegjgaobaaDoor

/- The walks of wire.Out: what is written is what Wire.num and its kin say. -/
namespace Go.Proofs.YtgheacegjgaobaaDoor
open Go.RowKit

theorem Tryd.under_bytes : Tryd.prog.underlying 64 = some (.slice 5) := by kernel_rfl
theorem Tryd.info_byte : (Tryd.prog.info? 5).map (fun i => (i.zero, i.size, i.bytes)) = some (some (.int .u8 0), 1, 1) := by kernel_rfl

/-- Below block B the world w' is as w was, but for block b. -/
structure BelowBut (B b : Nat) (w w' : World) : Prop where
  os : w'.os = w.os
  tape : w'.tape = w.tape
  output : w'.output = w.output
  size : w.heap.size ≤ w'.heap.size
  block : ∀ k, k < B → k ≠ b → w'.heap[k]? = w.heap[k]?

theorem BelowBut.refl (B b : Nat) (w : World) : BelowBut B b w w := ⟨rfl, rfl, rfl, Nat.le_refl _, fun _ _ _ => rfl⟩
theorem BelowBut.trans {B b : Nat} {x y z : World} (h : BelowBut B b x y) (k : BelowBut B b y z) : BelowBut B b x z :=
  ⟨k.os.trans h.os, k.tape.trans h.tape, k.output.trans h.output, Nat.le_trans h.size k.size, fun i hi hb => (k.block i hi hb).trans (h.block i hi hb)⟩
theorem BelowBut.mono {B B' b : Nat} {w w' : World} (h : BelowBut B b w w') (hB : B' ≤ B) : BelowBut B' b w w' :=
  ⟨h.os, h.tape, h.output, h.size, fun k hk => h.block k (Nat.lt_of_lt_of_le hk hB)⟩
theorem BelowBut.below {B b : Nat} {w w' : World} (h : BelowBut B b w w') (hB : B ≤ b) : Below B w w' :=
  ⟨h.os, h.tape, h.output, h.size, fun k hk => h.block k hk (by omega)⟩
theorem BelowBut.of {B b : Nat} {w w' : World} (h : Below B w w') : BelowBut B b w w' :=
  ⟨h.os, h.tape, h.output, h.size, fun k hk _ => h.block k hk⟩



/-- Block b is a wire.Out whose bytes are bs; the row lies from block 'base' on. -/
def OutIs (w : World) (base b : Nat) (bs : List UInt8) : Prop :=
  ∃ v, w.heap[b]? = some (.cells #[v] 77 (0, 0)) ∧ w.ownsRow base 5 1 v bs.length (byteCells bs)

theorem OutIs.lt {w : World} {base b : Nat} {bs : List UInt8} (h : OutIs w base b bs) : b < w.heap.size := by
  obtain ⟨v, h1, _⟩ := h
  exact lt_of_block h1

theorem ownsRow_below {w w' : World} {base : Nat} {e size : Nat} {v : Value} {n : Nat} {xs : List Value} (h : w.ownsRow base e size v n xs) (hk : ∀ k, v.ownBlock = some k → w'.heap[k]? = w.heap[k]?) : w'.ownsRow base e size v n xs := by
  refine ⟨h.1, ?_⟩
  rcases h.2 with hn | ⟨g, cap, cur, rfl, hb, hgg, rest⟩
  · exact .inl hn
  · exact .inr ⟨g, cap, cur, rfl, hb, (hk g (by simp [Value.ownBlock])).trans hgg, rest⟩

/-- An Out is kept where its two blocks are. -/
theorem OutIs.kept {w w' : World} {base b : Nat} {bs : List UInt8} (h : OutIs w base b bs) (hk : ∀ k, k < w.heap.size → w'.heap[k]? = w.heap[k]?) : OutIs w' base b bs := by
  obtain ⟨v, h1, h2⟩ := h
  exact ⟨v, (hk b (lt_of_block h1)).trans h1, ownsRow_below h2 fun k hk' => hk k (h2.lt k hk').2⟩

theorem outBlock_ne {w : World} {base b : Nat} {v v0 : Value} {n : Nat} {xs : List Value} (hb : w.heap[b]? = some (.cells #[v0] 77 (0, 0)))
    (hown : w.ownsRow base 5 1 v n xs) : v.ownBlock ≠ some b := by
  intro e
  rcases hown.2 with ⟨rfl, _⟩ | ⟨g, cap, cur, rfl, _, hgg, _⟩
  · simp [Value.ownBlock] at e
  · simp [Value.ownBlock] at e
    subst e
    rw [hb] at hgg
    simp at hgg

/-- What a write leaves: the cells behind an append, and the store of the slice. -/
theorem out_store {w w0 w1 : World} {base b : Nat} {v v' : Value} {bs news : List UInt8} (hb : w.heap[b]? = some (.cells #[v] 77 (0, 0)))
    (hown : w.ownsRow base 5 1 v bs.length (byteCells bs)) (h0 : Below w.heap.size w w0) (hbase : base ≤ w.heap.size)
    {k : Nat} {cs : List Value} (hown' : w1.ownsRow base 5 1 v' k (byteCells bs ++ cs)) (hg : w0.grownBy w1 v.ownBlock) (hk : k = bs.length + news.length) (hcs : cs = byteCells news) :
    OutIs (w1.setCell ⟨b, 0, none⟩ v') base b (bs ++ news) ∧ BelowBut base b w (w1.setCell ⟨b, 0, none⟩ v') := by
  subst hk hcs
  have hlt := lt_of_block hb
  have hne := outBlock_ne hb hown
  have hb1 : w1.heap[b]? = some (.cells #[v] 77 (0, 0)) := by
    rw [hg.block b (Nat.lt_of_lt_of_le hlt h0.size) (fun e => hne e.symm), h0.block b hlt]; exact hb
  refine ⟨⟨v', one_setCell hb1, ?_⟩, ?_⟩
  · rw [List.length_append, byteCells_append]
    exact ownsRow_setCell_other hown' (outBlock_ne hb1 hown') _
  · refine ⟨hg.os.trans h0.os, hg.tape.trans h0.tape, hg.output.trans h0.output, ?_, ?_⟩
    · have := hg.size; have := h0.size; simp; omega
    · intro k hk hkb
      rw [Below.heap_setCell _ _ _ _ hkb, hg.block k (by have := h0.size; omega) (fun e => by have := hown.lt k e.symm; omega), h0.block k (by omega)]

theorem out_cell {w w0 w1 : World} {base b : Nat} {v : Value} {n : Nat} {xs : List Value} (hb : w.heap[b]? = some (.cells #[v] 77 (0, 0)))
    (hown : w.ownsRow base 5 1 v n xs) (h0 : Below w.heap.size w w0) (hg : w0.grownBy w1 v.ownBlock) :
    w1.cell? ⟨b, 0, none⟩ = some v ∧ w1.frozen? ⟨b, 0, none⟩ = false := by
  have hlt := lt_of_block hb
  have hne := outBlock_ne hb hown
  have hb1 : w1.heap[b]? = some (.cells #[v] 77 (0, 0)) := by
    rw [hg.block b (Nat.lt_of_lt_of_le hlt h0.size) (fun e => hne e.symm), h0.block b hlt]; exact hb
  exact ⟨cell_of_one hb1, free_of_one hb1⟩

set_option maxRecDepth 100000 in
set_option maxHeartbeats 400000 in
theorem newOut_any (w : World) :
    Calls Tryd.prog 44 #[] w fun e w' => e = .returned (.pointer (some ⟨w.heap.size, 0, none⟩)) ∧ w' = w.alloc (.cells #[.slice none 0 0] 77 (0, 0)) := by
  go_enter Tryd.func44, Tryd.ntmps44
  go_wp2
  go_ret
  exact ⟨rfl, rfl⟩

theorem OutIs.fresh (w : World) (base : Nat) : OutIs (w.alloc (.cells #[.slice none 0 0] 77 (0, 0))) base w.heap.size [] :=
  ⟨_, heap_alloc_new w _, World.ownsRow_nil _ _ _ _⟩

theorem one_int (k : IntKind) (x : Int) : ∀ u ∈ [Value.int k x], u.oneCell' = true := by
  intro u hu
  obtain rfl := List.mem_singleton.1 hu
  rfl

theorem byte_cell (x : Int) (c : UInt8) (h : x = c.toNat) : [Value.int .u8 x] = byteCells [c] := by rw [h]; rfl

theorem byte_high (m : Nat) : bits .or .u8 ((m : Int) % 256) 128 = ((UInt8.ofNat (m % 128 + 128)).toNat : Int) := by
  have e1 : ((m : Int) % 256) = (((m % 256 : Nat)) : Int) := by omega
  have key : ∀ x : Fin 256, bits .or .u8 ((x.val : Nat) : Int) 128 = (((UInt8.ofNat (x.val % 128 + 128)).toNat : Nat) : Int) := by decide +kernel
  rw [e1, key ⟨m % 256, by omega⟩]
  congr 3
  simp only; omega

theorem ownsRow_slice {w : World} {base : Nat} {e size : Nat} {v : Value} {n : Nat} {xs : List Value} (h : w.ownsRow base e size v n xs) : ∃ a c, v = .slice a n c := by
  rcases h.2 with ⟨rfl, rfl⟩ | ⟨g, cap, cur, rfl, _⟩
  · exact ⟨_, _, rfl⟩
  · exact ⟨_, _, rfl⟩

theorem byte_low (m : Nat) (h : ¬ 128 ≤ m) : (m : Int) = ((UInt8.ofNat m).toNat : Int) := by
  rw [UInt8.toNat_ofNat']; omega

theorem loop_num (done : List UInt8) (m n : Nat) (hm : 128 ≤ m) (hd : done ++ Wire.num m = Wire.num n) :
    (done ++ [UInt8.ofNat (m % 128 + 128)]) ++ Wire.num (m / 128) = Wire.num n := by
  rw [← hd, List.append_assoc]
  congr 1
  rw [Wire.num.eq_def m, dif_neg (by omega)]; rfl

theorem last_num (done : List UInt8) (m n : Nat) (hm : ¬ 128 ≤ m) (hd : done ++ Wire.num m = Wire.num n) : done ++ [UInt8.ofNat m] = Wire.num n := by
  rw [← hd, Wire.num.eq_def m, dif_pos (by omega)]

set_option maxRecDepth 100000 in
set_option maxHeartbeats 400000 in
theorem outNum_any (n : Nat) (hn : n < 18446744073709551616) (base b : Nat) (bs : List UInt8) (w : World) (h : OutIs w base b bs) (hbase : base ≤ w.heap.size) (hl : bs.length + 10 ≤ 140737488355328) :
    Calls Tryd.prog 45 #[.pointer (some ⟨b, 0, none⟩), .int .u64 n] w fun e w' => e = .returned (.tuple #[]) ∧ OutIs w' base b (bs ++ Wire.num n) ∧ BelowBut base b w w' := by
  have hnl := Wire.num_length n hn
  have HN := Lib.hid hn; clear hn
  go_enter Tryd.func45, Tryd.ntmps45
  obtain ⟨i0, hi, hz0, hz1, hz2⟩ := info_parts Tryd.info_byte
  go_wp2
  go_loopw [1] (fun x wr => ∃ m : Nat, ∃ done : List UInt8, x = .int .u64 m ∧ OutIs wr base b (bs ++ done) ∧ Hid (done ++ Wire.num m = Wire.num n) ∧ BelowBut base b w wr)
    (fun x _ => (intOf x).toNat)
  case atStart => exact ⟨n, [], rfl, by simpa using h, rfl, BelowBut.refl _ _ _⟩
  case round =>
    obtain ⟨m, done, rfl, ⟨v, hb, hown⟩, hd, ht⟩ := hrel
    have hc := cell_of_one hb
    have hf := free_of_one hb
    have hsz := ht.size
    have hdl : done.length + 1 ≤ 10 := by
      have h1 := congrArg List.length hd.out
      have h2 := Wire.num_pos m
      rw [List.length_append] at h1; omega
    have hll : (bs ++ done).length ≤ bs.length + done.length := Nat.le_of_eq List.length_append
    have h0 : ∀ o, Below wr.heap.size wr (wr.alloc o) := fun o => (Below.refl _ _).alloc (Nat.le_refl _) _
    by_cases hm : 128 ≤ m
    all_goals
      go_wp2_with (at_builtin; refine wpList_append_own _ rfl _ _ 64 rfl base 5 i0 (.int .u8 0) 1 1 Tryd.under_bytes hi hz0 hz1 hz2 rfl (by decide) _ _ _ rfl (hown.alloc _) ⟨wr.heap.size, 0, none⟩ 1 1 [.int .u8 _] rfl rfl (cell_one_new _ _ _) (one_int _ _) (by unfold maxLen; omega) (by omega) (by simp; omega) ?_)
      intro v' w1 hown' hgrow _
      obtain ⟨a', c', rfl⟩ := ownsRow_slice hown'
      obtain ⟨hc1, hf1⟩ := out_cell hb hown (h0 _) hgrow
    · have R := out_store (news := [UInt8.ofNat (m % 128 + 128)]) hb hown (h0 _) (by omega) hown' hgrow (by simp) (byte_cell _ _ (byte_high m))
      have HR := Lib.hid R; clear R hown' hgrow
      go_wp2
      go_roundw
      case rel => exact ⟨m / 128, done ++ [UInt8.ofNat (m % 128 + 128)], by go_num, by rw [← List.append_assoc]; exact HR.out.1, loop_num done m n hm hd.out, ht.trans HR.out.2⟩
      case measure => simp [intOf]; omega
    · have R := out_store (news := [UInt8.ofNat m]) hb hown (h0 _) (by omega) hown' hgrow (by simp) (byte_cell _ _ (byte_low m hm))
      rw [List.append_assoc, last_num done m n hm hd.out] at R
      have HR := Lib.hid R; clear R hown' hgrow
      go_wp2
      go_end0
      exact ⟨rfl, HR.out.1, ht.trans HR.out.2⟩

end Go.Proofs.YtgheacegjgaobaaDoor

/- Numbers as bytes: wire.Out's end, and the reference's number. (Parts of XOut2 and XRef, for the seats that lack the rest.) -/
namespace Go.Proofs.YtgheacegjgaobaaDoor
open Go.RowKit
set_option linter.unusedSimpArgs false
set_option linter.unusedVariables false

theorem Tryd.under_string : Tryd.prog.underlying 9 = some .string := by kernel_rfl
theorem Tryd.under_byte : Tryd.prog.underlying 5 = some (.int .u8) := by kernel_rfl

/-- What an Out holds, as a string. -/
theorem out_string {w : World} {base : Nat} {v : Value} {bs : List UInt8} (hown : w.ownsRow base 5 1 v bs.length (byteCells bs)) :
    (convert 64 9 v).run Tryd.prog w = .ok (.string ⟨bs.toArray⟩) w := by
  rcases hown.2 with ⟨rfl, hn⟩ | ⟨g, cap, cur, rfl, _, hg, _, _, _, htk⟩
  · obtain rfl := List.eq_nil_of_length_eq_zero hn
    rw [run_convert_bytes_string w _ _ _ _ _ _ Tryd.under_bytes Tryd.under_byte Tryd.under_string]
    simp [Conv.bytesToString]
    rfl
  · refine run_convert_bytes_back w _ _ _ _ _ bs Tryd.under_bytes Tryd.under_byte Tryd.under_string ?_
    intro j hj
    have := hown.cells (g := g) rfl j (.int .u8 (bs[j].toNat : Int)) (by simp [byteCells, hj])
    exact this

set_option maxRecDepth 100000 in
set_option maxHeartbeats 400000 in
theorem outDone_any (base b : Nat) (bs : List UInt8) (w : World) (h : OutIs w base b bs) :
    Calls Tryd.prog 47 #[.pointer (some ⟨b, 0, none⟩)] w fun e w' => w = w' ∧ e = .returned (.string ⟨bs.toArray⟩) := by
  obtain ⟨v, hb, hown⟩ := h
  obtain ⟨a', c', rfl⟩ := ownsRow_slice hown
  have hcv := out_string hown
  have hc := cell_of_one hb
  clear hown hb
  go_enter Tryd.func47, Tryd.ntmps47
  go_wp2
  go_ret
  exact ⟨rfl, rfl⟩

/-- 'string([]byte{c})'. -/
theorem one_string (w : World) (x : Int) (c : UInt8) (h : x = c.toNat) :
    (convert 64 9 (.slice (some ⟨w.heap.size, 0, none⟩) 1 1)).run Tryd.prog (w.alloc (.cells #[.int .u8 x] 5)) = .ok (.string (strOf [c])) (w.alloc (.cells #[.int .u8 x] 5)) := by
  refine run_convert_bytes_back _ _ _ _ _ _ [c] Tryd.under_bytes Tryd.under_byte Tryd.under_string ?_
  intro j hj
  match j, hj with
  | 0, _ =>
    subst h
    exact cell_one_new w _ _ 0 _ rfl

theorem one_string_at (g : Nat) (c : UInt8) (W : World) (h : W.cell? ⟨g, 0, none⟩ = some (.int .u8 c.toNat)) :
    (convert 64 9 (.slice (some ⟨g, 0, none⟩) 1 1)).run Tryd.prog W = .ok (.string (strOf [c])) W := by
  refine run_convert_bytes_back _ _ _ _ _ _ [c] Tryd.under_bytes Tryd.under_byte Tryd.under_string ?_
  intro j hj
  match j, hj with
  | 0, _ => exact h

set_option maxRecDepth 100000 in
set_option maxHeartbeats 1000000 in
theorem refNum_any (n : Nat) : n < 18446744073709551616 → ∀ w : World,
    Calls Tryd.prog 54 #[.int .u64 n] w fun e w' => e = .returned (.string (strOf (Wire.num n))) ∧ Below w.heap.size w w' := by
  induction n using Nat.strongRecOn with
  | ind n ih =>
    intro hn w
    by_cases h : n < 128
    · have hnum := Wire.num_small n h
      have HNUM := Lib.hid hnum; clear hnum
      have hc := one_string w n (UInt8.ofNat n) (by rw [UInt8.toNat_ofNat']; omega)
      have HIH := Lib.hid ih; clear ih
      go_enter Tryd.func54, Tryd.ntmps54
      go_wp2_with fail
      go_ret
      rw [HNUM.out]
      exact ⟨rfl, (Below.refl _ _).alloc (Nat.le_refl _) _⟩
    · have hnum := Wire.num_big n h
      have HNUM := Lib.hid hnum; clear hnum
      have HIH := Lib.hid ih; clear ih
      go_enter Tryd.func54, Tryd.ntmps54
      go_wp2_with fail
      have e1 : IntKind.u64.wrap ((n : Int) / 128) = ((n / 128 : Nat) : Int) := by rw [IntKind.wrap_u64]; omega
      have e2 : IntKind.u8.wrap (IntKind.u64.wrap ((n : Int).tmod 128 + 128)) = ((UInt8.ofNat (n % 128 + 128)).toNat : Int) := by
        rw [IntKind.wrap_u8, IntKind.wrap_u64, UInt8.toNat_ofNat']
        have : (n : Int).tmod 128 = ((n % 128 : Nat) : Int) := rfl
        rw [this]; omega
      have hconv := fun g => one_string_at g (UInt8.ofNat (n % 128 + 128))
      have hlt : n / 128 < 18446744073709551616 := by omega
      have hlt2 : n / 128 < n := by omega
      generalize UInt8.ofNat (n % 128 + 128) = c at *
      have hs1 : (strOf [c]).size = 1 := strOf_size [c]
      have hs2 : (strOf (Wire.num (n / 128))).size ≤ 10 := by rw [strOf_size]; exact Wire.num_length _ hlt
      have hadd := add_str [c] (Wire.num (n / 128))
      go_region_with (first | (go_at_call 54; refine (HIH.out (n / 128) hlt2 hlt _).mono ?_; rintro e w1 ⟨rfl, b1⟩; (try have hcell := (b1.cell (p := ⟨w.heap.size, 0, none⟩) (by simp)).trans (cell_one_new w _ _ 0 _ rfl))))
      all_goals
        go_wp2_with fail
        go_ret
        rw [HNUM.out]
        refine ⟨rfl, ?_⟩
        first
          | exact (((Below.refl _ _).alloc (Nat.le_refl _) _).drew).trans (b1.mono (by simp))
          | exact (((Below.refl _ _).drew).trans b1).alloc b1.size _


end Go.Proofs.YtgheacegjgaobaaDoor

/- What arguments read as: sums, and rows of cells. -/
namespace Go.Proofs.YtgheacegjgaobaaDoor
open Go.ChangeShapes Go.WideShapes Go.ChangeAt Go.RowKit

section
variable {H : Type} {enc : TypeId × Value → H} {P : Program} {w : World} {base : Nat} {spare : Nat → Bool} {held : Bool} {fuel : Nat} {t : TypeId} {cs : List Value} {x : DataW H × List MemPlace}

theorem wf_u8 {a : Int} (h : (Lit.int .u8 a).wf = true) : 0 ≤ a ∧ a < 256 := by
  have := bounds_u8 h
  omega

/-- A row of bytes, by value. -/
theorem open_bytes {n : Nat} {e : TypeId} (ht : P.underlying t = some (.array n e)) (he : P.underlying e = some (.int .u8)) (hce : P.cellsOf e = 1) (hct : P.cellsOf t = n)
    (h : DataW.trod enc P w base spare held fuel t cs = some x) : ∃ l : List UInt8, l.length = n ∧ cs = byteCells l := by
  obtain ⟨xs, m, _, _, hl, hx, hd⟩ := DataW.trod_array ht h
  rw [hct] at hl
  refine ⟨cs.map fun v => UInt8.ofNat (intOf v).toNat, by simpa using hl, ?_⟩
  apply List.ext_getElem
  · simp [byteCells]
  · intro i h1 h2
    have hi : i < n := by omega
    have := hd i hi
    rw [hce, Nat.mul_one, List.drop_eq_getElem_cons h1, List.take_succ_cons, List.take_zero, List.getElem?_eq_getElem (by omega)] at this
    obtain ⟨a, e0, _, wa⟩ := DataW.trod_int he this
    simp only [List.cons.injEq, and_true] at e0
    simp only [byteCells, List.getElem_map, e0, intOf]
    have := wf_u8 wa
    congr 1
    rw [UInt8.toNat_ofNat']; omega

/-- Rows of c cells: what a slice that came in leads to. -/
def RowsAt {α : Type} (w : World) (a0 : Option Addr) (len cap c : Nat) (cells : α → List Value) (F : List α) : Prop :=
  F.length = len ∧ len ≤ cap ∧ cap ≤ maxLen ∧ (0 < len → ∃ b off, a0 = some ⟨b, off, none⟩ ∧ b < w.heap.size ∧ ∀ i f, F[i]? = some f → w.rangeAt b (off + i * c) (cells f))

theorem addr_add (a : Addr) (h : a.spot = none) (j : Nat) : a.add j = ⟨a.block, a.off + j, none⟩ := by
  obtain ⟨b, o, s⟩ := a
  simp only at h
  subst h
  exact Addr.add_mid b o j

theorem cell_spot {w : World} {a : Addr} {v : Value} (h : w.cell? a = some v) : a.spot = none := by
  unfold World.cell? at h
  split at h
  · split at h
    · cases h
    · rename_i hs; simpa using hs
  · cases h

theorem add_spot_zero (a : Addr) : a.add 0 = a := by simp [Addr.add]

theorem open_rows {α : Type} {e : TypeId} {a0 : Option Addr} {len cap c : Nat} (cells : α → List Value) (ok : α → Prop) (ht : P.underlying t = some (.slice e)) (hce : P.cellsOf e = c) (hc0 : 0 < c)
    (hop : ∀ (n : Nat) (cs : List Value) (y : DataW H × List MemPlace), DataW.trod enc P w base spare held n e cs = some y → ∃ f, ok f ∧ cs = cells f)
    (h : DataW.trod enc P w base spare held fuel t [.slice a0 len cap] = some x) :
    ∃ F : List α, RowsAt w a0 len cap c cells F ∧ ∀ f ∈ F, ok f := by
  rcases Go.Deep.open_slice ht h with ⟨hcs, _⟩ | ⟨a, len', cap', m, n, D, Pl, hcs, _, hl, hm, hmm, _, hx⟩
  · simp only [List.cons.injEq, Value.slice.injEq, and_true] at hcs
    obtain ⟨rfl, rfl, rfl⟩ := hcs
    exact ⟨[], ⟨rfl, Nat.le_refl _, by decide, fun h => absurd h (by decide)⟩, by simp⟩
  · simp only [List.cons.injEq, Value.slice.injEq, and_true] at hcs
    obtain ⟨rfl, rfl, rfl⟩ := hcs
    have hlm : len ≤ m := by rw [hmm]; split <;> omega
    have each : ∀ i, i < len → ∃ f : α, ok f ∧ w.cells? base (a.add (i * c)) c = some (cells f) := by
      intro i hi
      obtain ⟨cs', h1, h2⟩ := hx i (by omega)
      obtain ⟨f, h3, rfl⟩ := hop _ _ _ h2
      rw [hce] at h1
      exact ⟨f, h3, h1⟩
    have hlist : ∀ k, k ≤ len → ∃ F : List α, F.length = k ∧ (∀ f ∈ F, ok f) ∧ ∀ i f, F[i]? = some f → w.cells? base (a.add (i * c)) c = some (cells f) := by
      intro k
      induction k with
      | zero => intro _; exact ⟨[], rfl, by simp, by simp⟩
      | succ k ih =>
        intro hk
        obtain ⟨F, h1, h2, h3⟩ := ih (by omega)
        obtain ⟨f, h4, h5⟩ := each k (by omega)
        refine ⟨F ++ [f], by simp [h1], ?_, ?_⟩
        · intro g hg
          rcases List.mem_append.1 hg with hg | hg
          · exact h2 g hg
          · rw [List.mem_singleton.1 hg]; exact h4
        · intro i g hg
          by_cases hi : i < F.length
          · rw [List.getElem?_append_left hi] at hg; exact h3 i g hg
          · have : i = k := by
              have := (List.getElem?_eq_some_iff.1 hg).1
              simp at this; omega
            subst this
            rw [List.getElem?_append_right (by omega)] at hg
            simp [h1] at hg
            subst hg; exact h5
    obtain ⟨F, h1, h2, h3⟩ := hlist len (Nat.le_refl _)
    refine ⟨F, ⟨h1, hl, hm, fun h0 => ?_⟩, h2⟩
    have hsp : a.spot = none := by
      obtain ⟨f, _, h5⟩ := each 0 h0
      obtain ⟨_, hlen, hcell⟩ := World.cells?_some h5
      have := hcell 0 hc0
      rw [Nat.zero_mul, add_spot_zero, add_spot_zero, List.getElem?_eq_getElem (by omega)] at this
      exact cell_spot this
    have hadd : ∀ i j, (a.add (i * c)).add j = ⟨a.block, a.off + i * c + j, none⟩ := by
      intro i j
      rw [addr_add a hsp, Addr.add_mid]
    refine ⟨a.block, a.off, congrArg some ?_, ?_, ?_⟩
    · obtain ⟨b, o, s⟩ := a
      simp only at hsp
      rw [hsp]
    · obtain ⟨f, _, h5⟩ := each 0 h0
      obtain ⟨_, hlen, hcell⟩ := World.cells?_some h5
      have := hcell 0 hc0
      rw [Nat.zero_mul, add_spot_zero, add_spot_zero, List.getElem?_eq_getElem (by omega)] at this
      exact World.block_lt_of_cell? w a this
    · intro i f hf j v hv
      obtain ⟨_, hlen, hcell⟩ := World.cells?_some (h3 i f hf)
      have hj : j < c := by have := (List.getElem?_eq_some_iff.1 hv).1; omega
      rw [← hadd, hcell j hj]; exact hv
end

theorem bytes_len (s : ByteArray) : s.data.toList.length = s.size := by rw [Array.length_toList]; rfl

/-- A row of one cell. -/
def intCell (k : IntKind) (x : Int) : List Value := [.int k x]
def strCell (s : ByteArray) : List Value := [.string s]

section
variable {H : Type} {enc : TypeId × Value → H} {P : Program} {w : World} {base : Nat} {spare : Nat → Bool} {held : Bool}
theorem open_int1 {k : IntKind} {e : TypeId} (he : P.underlying e = some (.int k)) (n : Nat) (cs : List Value) (y : DataW H × List MemPlace) (h : DataW.trod enc P w base spare held n e cs = some y) : ∃ x : Int, (Lit.int k x).wf = true ∧ cs = intCell k x := by
  obtain ⟨a, e0, _, wa⟩ := DataW.trod_int he h
  exact ⟨a, wa, e0⟩
theorem open_str1 {e : TypeId} (he : P.underlying e = some .string) (n : Nat) (cs : List Value) (y : DataW H × List MemPlace) (h : DataW.trod enc P w base spare held n e cs = some y) : ∃ s : ByteArray, s.size ≤ maxLen ∧ cs = strCell s := by
  obtain ⟨a, e0, _, wa⟩ := DataW.trod_string he h
  exact ⟨a, wa, e0⟩
theorem okWide_array {r : Reach} {base : Nat} {t : TypeId} {n : Nat} {e : TypeId} {v : Value} (ht : P.underlying t = some (.array n e)) (h : Value.okWide P w r base t v) : ∃ cs, v = .agg cs ∧ cs.size = P.cellsOf t := by
  simp only [Value.okWide, ht] at h
  obtain ⟨cs, h1, h2, _⟩ := h
  exact ⟨cs, h1, h2⟩
end

theorem Tryd.under_hash : Tryd.prog.underlying 23 = some (.array 32 5) := by kernel_rfl
theorem Tryd.cells_byte : Tryd.prog.cellsOf 5 = 1 := by kernel_rfl
theorem Tryd.cells_hash : Tryd.prog.cellsOf 23 = 32 := by kernel_rfl
theorem Tryd.cells_string : Tryd.prog.cellsOf 9 = 1 := by kernel_rfl
end Go.Proofs.YtgheacegjgaobaaDoor

/- A region that draws its order and makes memory, and ends in operations that come one behind the other, behind all else (an append, a store into what stood there before). -/
namespace Go.Proofs.YtgheacegjgaobaaDoor
open Go.RowKit
set_option linter.unusedSimpArgs false
set_option linter.unusedVariables false

def tailB (l : List Oper) (m : Nat) : Bool :=
  ((List.range m).all fun j => (List.range (m + 1)).any fun i => decide (j < i) && Region.waitsFor .any l.toArray i j) &&
  ((List.range l.length).all fun k => !decide (m < k) || Region.waitsFor .any l.toArray k (k - 1))

section
variable {P : Program} {l : List Oper} {D : List (List Nat)} {a0 : Act} {w0 : World} {V : Nat → World → Value → Prop}

theorem wpAny_tail {Q : Exit → Act → World → Prop} {m : Nat} (hback : ∀ i o e, i < l.length → l[i]? = some o → e ∈ o.after → Region.binds .any e = true → e.on < i) (hch : ∀ k, m < k → k < l.length → Region.waitsFor .any l.toArray k (k - 1) = true) :
    ∀ (fuel i : Nat) (listed : Array Bool) (a : Act) (w : World), m ≤ i → i ≤ l.length → listed.size = l.length → (∀ j, j < l.length → listed.getD j false = decide (j < i)) → l.length - i ≤ fuel →
      wpList P l.toArray Q (l.drop i) a w → wpAny P .any l.toArray Q fuel listed a w := by
  intro fuel
  have hready : ∀ (i : Nat) (listed : Array Bool), m ≤ i → listed.size = l.length → (∀ j, j < l.length → listed.getD j false = decide (j < i)) → ∀ j, j ∈ Region.ready .any l.toArray listed → j = i := by
    intro i listed hmi hsz hl j hj
    obtain ⟨h1, o, ho, hdep⟩ := mem_ready.1 hj
    have hjl : j < l.length := by simpa using (Array.getElem?_eq_some_iff.1 ho).1
    have h2 := hl j hjl
    rw [Array.getD_eq_getD_getElem?, Array.getElem?_eq_getElem (by rw [hsz]; exact hjl)] at h1 h2
    simp only [Option.getD_some] at h1 h2
    rw [h1] at h2
    have hji : ¬ j < i := by simpa using h2.symm
    by_cases he : j = i
    · exact he
    · exfalso
      obtain ⟨oj, hoj, e, hme, hb, hon⟩ := Region.waitsFor_spec (hch j (by omega) hjl)
      obtain rfl : o = oj := Option.some.inj (ho.symm.trans hoj)
      have := hdep e hme hb
      rw [hon, hl (j - 1) (by omega)] at this
      have := of_decide_eq_true this
      omega
  induction fuel with
  | zero =>
    intro i listed a w hmi hil hsz hl hf h
    obtain rfl : i = l.length := by omega
    rw [List.drop_length] at h
    refine ⟨?_, h⟩
    rw [List.eq_nil_iff_forall_not_mem]
    intro j hj
    have hjl : j < l.length := by obtain ⟨_, o, ho, _⟩ := mem_ready.1 hj; simpa using (Array.getElem?_eq_some_iff.1 ho).1
    have := hready _ listed hmi hsz hl j hj
    omega
  | succ fuel ih =>
    intro i listed a w hmi hil hsz hl hf h
    by_cases hlast : i = l.length
    · subst hlast
      rw [List.drop_length] at h
      refine ⟨fun _ => h, fun j hj => ?_⟩
      have hjl : j < l.length := by obtain ⟨_, o, ho, _⟩ := mem_ready.1 hj; simpa using (Array.getElem?_eq_some_iff.1 ho).1
      have := hready _ listed hmi hsz hl j hj
      omega
    · have hlt : i < l.length := by omega
      obtain ⟨o, ho⟩ : ∃ o, l[i]? = some o := ⟨_, List.getElem?_eq_getElem hlt⟩
      have hdrop : l.drop i = o :: l.drop (i + 1) := by rw [List.drop_eq_getElem_cons hlt]; congr 1; rw [List.getElem?_eq_getElem hlt] at ho; exact Option.some.inj ho
      rw [hdrop] at h
      refine ⟨fun hr => ?_, fun j hj => ?_⟩
      · exfalso
        have : i ∈ Region.ready .any l.toArray listed := mem_ready.2 ⟨by
          have := hl i hlt
          rw [Array.getD_eq_getD_getElem?, Array.getElem?_eq_getElem (by rw [hsz]; exact hlt)] at this ⊢
          simpa using this, o, by simpa using ho, fun e he hb => by
            have h1 := hback i o e hlt ho he hb
            rw [hl e.on (by omega)]; exact decide_eq_true h1⟩
        rw [hr] at this; cases this
      · obtain rfl := hready i listed hmi hsz hl j hj
        have ho' : l.toArray[j]? = some o := by simpa using ho
        unfold wpOp
        simp only [ho']
        unfold wpList at h
        have hset : ∀ k, k < l.length → (listed.setIfInBounds j true).getD k false = decide (k < j + 1) := by
          intro k hk
          rw [get_set_true _ _ _ (by rw [hsz]; exact hlt), hl k hk]
          by_cases hkj : k = j
          · subst hkj; simp
          · have : (k < j + 1) ↔ k < j := by omega
            simp [hkj, this]
        have hK : ∀ a' w', wpList P l.toArray Q (l.drop (j + 1)) a' w' → wpAny P .any l.toArray Q fuel (listed.setIfInBounds j true) a' w' := fun a' w' hq =>
          ih (j + 1) _ a' w' (by omega) (by omega) (by simp [hsz]) hset (by omega) hq
        split at h
        · rename_i hwt
          rw [if_pos hwt]
          exact h.imp (Oper.wp_mono (fun a' w' hq => hK a' w' hq)) id
        · rename_i hwt
          rw [if_neg hwt]
          exact hK _ _ h

/-- Whatever the order. -/
theorem wpAny_of_rel_tail {n m : Nat} {Q : Exit → Act → World → Prop} (hm : m < l.length) (hB : RelB l D n) (hT : tailB l m = true) (hn : a0.tmps.size = n) (hmono : ∀ j (w w' : World) v, Below w.heap.size w w' → V j w v → V j w' v)
    (hop : ∀ i o, i < m → l[i]? = some o → ∀ w, Below w0.heap.size w0 w → ∀ vs : Nat → Value, (∀ j ∈ D.getD i [], V j w (vs j)) → wpList P l.toArray (relQ (V i) w o (relF l a0 vs (D.getD i []))) [o] (relF l a0 vs (D.getD i [])) w)
    (hfin : ∀ w, Below w0.heap.size w0 w → ∀ vs : Nat → Value, (∀ j, j < m → V j w (vs j)) → wpList P l.toArray Q (l.drop m) (relF l a0 vs (List.range m)) w) :
    ∀ (fuel : Nat) (listed : Array Bool) (a : Act) (w : World), RInv l a0 w0 V listed a w → (∀ j, m ≤ j → listed.getD j false = false) →
      (∀ i o e, l[i]? = some o → listed.getD i false = true → e ∈ o.after → Region.binds .any e = true → listed.getD e.on false = true) →
      (listed.toList.filter (!·)).length ≤ fuel → wpAny P .any l.toArray Q fuel listed a w := by
  unfold tailB at hT
  rw [Bool.and_eq_true] at hT
  obtain ⟨hT1, hT2⟩ := hT
  have hch : ∀ k, m < k → k < l.length → Region.waitsFor .any l.toArray k (k - 1) = true := by
    intro k h1 h2
    have := List.all_eq_true.1 hT2 k (List.mem_range.2 h2)
    simpa [h1] using this
  have hbn : ∀ j d, dstAt l j = some d → d < n := fun j d hd => by
    by_cases hj : j < l.length
    · exact hB.bnd j d hj hd
    · unfold dstAt at hd; rw [List.getElem?_eq_none (by omega)] at hd; cases hd
  have hval : ∀ (a : Act) j o, l[j]? = some o → valAt l a j = slotOf o a := fun a j o ho => by unfold valAt slotOf dstAt; rw [ho]; rfl
  have hdst : ∀ j o, l[j]? = some o → dstAt l j = o.dst := fun j o ho => by unfold dstAt; rw [ho]; rfl
  have hall : ∀ listed a w, RInv l a0 w0 V listed a w → (∀ j, m ≤ j → listed.getD j false = false) → (∀ j, j < m → listed.getD j false = true) → wpList P l.toArray Q (l.drop m) a w := by
    intro listed a w inv hmf hl
    have h := hfin w inv.bw (valAt l a) (fun j hj => by
      obtain ⟨o, ho⟩ : ∃ o, l[j]? = some o := ⟨_, List.getElem?_eq_getElem (show j < l.length by omega)⟩
      rw [hval a j o ho]; exact inv.on j o ho (hl j hj))
    obtain ⟨s1, s2, s3⟩ := relF_spec (l := l) a n hbn (inv.sz.trans hn) (List.range m) a0 hn
    have e : relF l a0 (valAt l a) (List.range m) = a := by
      obtain ⟨at', ad'⟩ := a
      generalize hG : relF l a0 (valAt l ⟨at', ad'⟩) (List.range m) = G at s1 s2 s3
      obtain ⟨gt, gd⟩ := G
      have e1 : gd = ad' := s2.trans inv.df.symm
      have e2 : gt = at' := by
        apply Array.ext_getElem?
        intro t
        obtain ⟨h1, h2, h3⟩ := s3 t
        by_cases hx : ∃ j ∈ List.range m, dstAt l j = some t
        · exact h1 hx
        · refine h3 (inv.off t fun j o ho hlj hd => hx ⟨j, List.mem_range.2 ?_, (hdst j o ho).trans hd⟩).symm
          apply Nat.lt_of_not_le
          intro hmj
          rw [hmf j hmj] at hlj; cases hlj
      rw [e1, e2]
    rwa [e] at h
  intro fuel
  induction fuel with
  | zero =>
    intro listed a w inv hmf hcl hf
    exfalso
    have h0 := List.eq_nil_of_length_eq_zero (Nat.le_zero.1 hf)
    have hj' : m < listed.size := by rw [inv.lsz]; omega
    have hmm := List.filter_eq_nil_iff.1 h0 (listed[m]'hj') (by simp)
    have hmf' := hmf m (Nat.le_refl _)
    rw [Array.getD_eq_getD_getElem?, Array.getElem?_eq_getElem hj'] at hmf'
    simp only [Option.getD_some] at hmf'
    rw [hmf'] at hmm
    exact hmm rfl
  | succ fuel ih =>
    intro listed a w inv hmf hcl hf
    by_cases hld : ∀ j, j < m → listed.getD j false = true
    · have hd : ∀ j, j < l.length → listed.getD j false = decide (j < m) := by
        intro j hj
        by_cases hjm : j < m
        · rw [hld j hjm]; simp [hjm]
        · rw [hmf j (by omega)]; simp [hjm]
      refine wpAny_tail (m := m) hB.back hch _ m listed a w (Nat.le_refl _) (by omega) inv.lsz hd (Nat.le_trans ?_ hf) (hall listed a w inv hmf hld)
      have h1 : (listed.toList.drop m).length = l.length - m := by rw [List.length_drop, Array.length_toList, inv.lsz]
      have h2 : (listed.toList.drop m).filter (!·) = listed.toList.drop m := by
        rw [List.filter_eq_self]
        intro x hx
        obtain ⟨i, hi, rfl⟩ := List.mem_iff_getElem.1 hx
        rw [List.getElem_drop]
        have h3 := hmf (m + i) (by omega)
        rw [h1] at hi
        rw [Array.getD_eq_getD_getElem?, Array.getElem?_eq_getElem (by rw [inv.lsz]; omega)] at h3
        simpa using h3
      rw [← h1, ← h2]
      exact ((List.drop_sublist m listed.toList).filter _).length_le
    · have hgd : ∀ j, j < l.length → ∀ b, listed.getD j b = listed.getD j false := fun j hj b => by
        simp [Array.getD_eq_getD_getElem?, Array.getElem?_eq_getElem (show j < listed.size by rw [inv.lsz]; exact hj)]
      refine ⟨fun hr => ?_, fun i hi => ?_⟩
      · exfalso
        have hallL : ∀ j, j < l.length → listed.getD j false = true := by
          intro j hj
          induction j using Nat.strongRecOn with
          | ind j ihj =>
            cases hx : listed.getD j false with
            | true => rfl
            | false =>
              obtain ⟨o, ho⟩ : ∃ o, l[j]? = some o := ⟨_, List.getElem?_eq_getElem hj⟩
              have : j ∈ Region.ready .any l.toArray listed := mem_ready.2 ⟨(hgd j hj true).trans hx, o, by simpa using ho, fun e he hb => by
                have hlt := hB.back j o e hj ho he hb
                exact ihj e.on hlt (by omega)⟩
              rw [hr] at this; cases this
        have := hmf m (Nat.le_refl _)
        rw [hallL m (by omega)] at this; cases this
      · obtain ⟨hun, o, ho', hdep⟩ := mem_ready.1 hi
        have ho : l[i]? = some o := by simpa using ho'
        have hil : i < l.length := (List.getElem?_eq_some_iff.1 ho).1
        have hil2 : i < listed.size := by rw [inv.lsz]; exact hil
        have hlm : i < m := by
          apply Nat.lt_of_not_le
          intro hmi
          by_cases him : i = m
          · subst him
            refine hld ?_
            have hlst : ∀ k j, i - j = k → j < i → listed.getD j false = true := by
              intro k
              induction k using Nat.strongRecOn with
              | ind k ihk =>
                intro j hjk hj
                have h1 := List.all_eq_true.1 hT1 j (List.mem_range.2 (by omega))
                obtain ⟨i', hi', h2⟩ := List.any_eq_true.1 h1
                simp only [Bool.and_eq_true, decide_eq_true_eq] at h2
                have hil' := List.mem_range.1 hi'
                obtain ⟨oi, hoi, e, he, hb, hon⟩ := Region.waitsFor_spec h2.2
                have hoi' : l[i']? = some oi := by simpa using hoi
                by_cases hii : i' = i
                · subst hii
                  obtain rfl : o = oi := Option.some.inj (ho'.symm.trans hoi)
                  have := hdep e he hb
                  rwa [hon] at this
                · have := hcl i' oi e hoi' (ihk (i - i') (by omega) i' rfl (by omega)) he hb
                  rwa [hon] at this
            exact fun j hj => hlst _ j rfl hj
          · obtain ⟨oj, hoj, e, he, hb, hon⟩ := Region.waitsFor_spec (hch i (by omega) hil)
            obtain rfl : o = oj := Option.some.inj (ho'.symm.trans hoj)
            have := hdep e he hb
            rw [hon, hmf (i - 1) (by omega)] at this
            cases this
        have hdl : ∀ j ∈ D.getD i [], j < l.length ∧ listed.getD j false = true := by
          intro j hj
          obtain ⟨oj, hoj, e, he, hb, hon⟩ := Region.waitsFor_spec (hB.wait i j hil hj)
          obtain rfl : o = oj := Option.some.inj (ho'.symm.trans hoj)
          have := hdep e he hb
          rw [hon] at this
          refine ⟨?_, this⟩
          have := hB.back i o e hil ho he hb
          omega
        have hw0 := hop i o hlm ho w inv.bw (valAt l a) (fun j hj => by
          obtain ⟨h1, h2⟩ := hdl j hj
          obtain ⟨oj, hoj⟩ : ∃ o, l[j]? = some o := ⟨_, List.getElem?_eq_getElem h1⟩
          rw [hval a j oj hoj]; exact inv.on j oj hoj h2)
        obtain ⟨s1, s2, s3⟩ := relF_spec (l := l) a n hbn (inv.sz.trans hn) (D.getD i []) a0 hn
        have hlook : ∀ t, t ∈ o.looksAt l.toArray → (relF l a0 (valAt l a) (D.getD i [])).tmps[t]? = a.tmps[t]? := by
          intro t ht
          obtain ⟨h1, h2, h3⟩ := s3 t
          by_cases hx : ∃ j ∈ D.getD i [], dstAt l j = some t
          · exact h1 hx
          · refine h3 (inv.off t fun j oj hoj _ hd => hx ⟨j, hB.look i j t o hil (List.getElem?_eq_some_iff.1 hoj).1 ho ((hdst j oj hoj).trans hd) ht, (hdst j oj hoj).trans hd⟩).symm
        have hev : ∀ x ∈ o.op.operands, (relF l a0 (valAt l a) (D.getD i [])).eval x = a.eval x := by
          intro x hx
          cases x with
          | tmp t =>
            have := hlook t (List.mem_append_left _ (List.mem_filterMap.2 ⟨.tmp t, by simpa using hx, rfl⟩))
            show (relF l a0 (valAt l a) (D.getD i [])).tmps.getD t undef = a.tmps.getD t undef
            rw [Array.getD_eq_getD_getElem?, Array.getD_eq_getD_getElem?, this]
          | _ => rfl
        have hwt : Region.wanted o (yielded l.toArray (relF l a0 (valAt l a) (D.getD i [])).tmps) = Region.wanted o (yielded l.toArray a.tmps) := by
          unfold Region.wanted
          cases hg : o.guard with
          | none => rfl
          | some gw =>
            obtain ⟨g, want⟩ := gw
            simp only []
            congr 1
            unfold yielded
            cases hd : (l.toArray[g]?).bind (·.dst) with
            | none => rfl
            | some t =>
              simp only [Option.bind_some]
              rw [hlook t (List.mem_append_right _ (by rw [hg]; simp only [hd]; simp))]
        unfold wpOp
        simp only [ho']
        refine rel_transfer (execOp_congr o (fun cs b => Region.noSelect_spec hB.sel i o cs b ho') hev) hwt (fun d hd => by rw [s1]; exact hbn i d ((hdst i o ho).trans hd)) hw0 fun v w' hb hv => ?_
        refine ih _ _ _ ⟨inv.bw.trans (hb.mono inv.bw.size), by simp [inv.lsz], by rw [put_size]; exact inv.sz, by rw [put_df]; exact inv.df, fun t ht => ?_, fun j oj hoj hj => ?_⟩ ?_ ?_ ?_
        · rw [put_ne _ _ _ _ (ht i o ho (by rw [get_set_true _ _ _ hil2]; simp))]
          exact inv.off t fun j oj hoj hj => ht j oj hoj (by rw [get_set_true _ _ _ hil2, hj]; simp)
        · by_cases hji : j = i
          · subst hji
            obtain rfl := Option.some.inj (hoj.symm.trans ho)
            rw [slot_put _ _ _ (fun d hd => by rw [inv.sz, hn]; exact hbn j d ((hdst j oj hoj).trans hd))]
            exact hv
          · rw [get_set_true _ _ _ hil2] at hj
            simp only [hji, decide_false, Bool.false_or] at hj
            rw [slot_other _ _ _ _ fun d hd hd' => hB.dist j i d (List.getElem?_eq_some_iff.1 hoj).1 hil hji ((hdst j oj hoj).trans hd) ((hdst i o ho).trans hd')]
            exact hmono j w w' _ hb (inv.on j oj hoj hj)
        · intro j hj
          rw [get_set_true _ _ _ hil2, hmf j hj]; simp; omega
        · intro i' o' e hi' hli he hb
          rw [get_set_true _ _ _ hil2] at hli ⊢
          by_cases hii : i' = i
          · subst hii
            obtain rfl := Option.some.inj (hi'.symm.trans ho)
            rw [hdep e he hb]; simp
          · simp only [hii, decide_false, Bool.false_or] at hli
            rw [hcl i' o' e hi' hli he hb]; simp
        · have hx : listed.toList[i]? = some false := by
            rw [Array.getElem?_toList, Array.getElem?_eq_getElem hil2]
            rw [Array.getD_eq_getD_getElem?, Array.getElem?_eq_getElem hil2] at hun
            exact congrArg some hun
          have := count_set listed.toList i hx
          rw [Array.toList_setIfInBounds]
          omega

/-- The region, whatever the order, its last operations at the end: D, V as in wp_region_rel. -/
theorem wp_region_rel_tail {id : Nat} {Q : Exit → Act → World → Prop} (D : List (List Nat)) (V : Nat → World → Value → Prop) (n m : Nat) (hmx : P.follows .mixedOrders = true) (hn : a0.tmps.size = n) (hB : relB l D n = true) (hT : tailB l m = true) (hm : m < l.length)
    (hmono : ∀ j (w w' : World) v, Below w.heap.size w w' → V j w v → V j w' v)
    (hop : ∀ i o, i < m → l[i]? = some o → ∀ w, Below w0.heap.size w0 w → ∀ vs : Nat → Value, (∀ j ∈ D.getD i [], V j w (vs j)) → wpList P l.toArray (relQ (V i) w o (relF l a0 vs (D.getD i []))) [o] (relF l a0 vs (D.getD i [])) w)
    (hfin : ∀ w, Below w0.heap.size w0 w → ∀ vs : Nat → Value, (∀ j, j < m → V j w (vs j)) → wpList P l.toArray Q (l.drop m) (relF l a0 vs (List.range m)) w) : (Code.region id l.toArray true).wp P Q a0 w0 := by
  refine wp_region_any hmx ?_
  have hs : l.toArray.size = l.length := by simp
  rw [hs]
  have hr : ∀ k, (Array.replicate l.length false).getD k false = false := fun k => getD_replicate_false ..
  refine wpAny_of_rel_tail hm (relB_spec hB) hT hn hmono hop hfin _ _ _ _ ⟨(Below.refl _ w0).drew, by simp, rfl, rfl, fun t _ => rfl, fun j o ho hj => ?_⟩ (fun j _ => hr _) (fun i o e _ hli _ _ => ?_) ?_
  · rw [hr] at hj; cases hj
  · rw [hr] at hli; cases hli
  · refine Nat.le_trans (List.length_filter_le (!·) (Array.replicate l.length false).toList) ?_
    simp

end

end Go.Proofs.YtgheacegjgaobaaDoor

/- A region that draws its order, each operation under a relation of its own between the worlds (one that writes beside what the others know). -/
namespace Go.Proofs.YtgheacegjgaobaaDoor
open Go.RowKit
set_option linter.unusedSimpArgs false
set_option linter.unusedVariables false

/-- What a walk of one operation has to end in. -/
def relQR (R : World → World → Prop) (V : World → Value → Prop) (w : World) (o : Oper) (F : Act) (e : Exit) (a' : Act) (w' : World) : Prop :=
  e = .normal ∧ R w w' ∧ a'.defers = F.defers ∧ V w' (slotOf o a')

section
variable {P : Program} {l : List Oper} {D : List (List Nat)} {a0 : Act} {w0 : World} {V : Nat → World → Value → Prop} {R : Nat → World → World → Prop}

theorem rel_transferR {ops : Array Oper} {W : World → Value → Prop} {R : World → World → Prop} {o : Oper} {K : Act → World → Prop} {Q : Exit → Act → World → Prop} {a F : Act} {w : World} (hF : execOp F.eval o = execOp a.eval o)
    (hw : Region.wanted o (yielded ops F.tmps) = Region.wanted o (yielded ops a.tmps)) (hd : ∀ d, o.dst = some d → d < F.tmps.size) (h : wpList P ops (relQR R W w o F) [o] F w)
    (hK : ∀ v w', R w w' → W w' (resOf o v) → K (a.put o.dst v) w') :
    if Region.wanted o (yielded ops a.tmps) then o.wp P a w K Q ∨ (o.asks P a w ∧ LetsOut Q) else K (a.put o.dst undef) w := by
  have hn : ∀ (v : Value) (w' : World), relQR R W w o F .normal (F.put o.dst v) w' → K (a.put o.dst v) w' := fun v w' hq => hK v w' hq.2.1 (by rw [← slot_put o F v hd]; exact hq.2.2.2)
  unfold wpList at h
  rw [hw] at h
  split
  · rename_i hwt
    rw [if_pos hwt] at h
    rcases h with h | ⟨_, _, _, he⟩
    · left
      unfold Oper.wp at h ⊢
      rw [← hF]
      generalize (execOp F.eval o).run P w = res at h ⊢
      cases res with
      | ok nx w' =>
        cases nx with
        | value v => exact hn v w' h
        | skip => exact hn _ w' h
        | defer d =>
          have := h.2.2.1
          rw [put_df] at this
          exact absurd this (List.cons_ne_self _ _)
        | enter f args =>
          refine Calls.mono h ?_
          intro e w'' he
          cases e with
          | returned v => exact hn v w'' he
          | panicked c => exact absurd he.1 (by intro h; cases h)
          | outgrown =>
            obtain ⟨_, _, he⟩ := he
            exact absurd he.1 (by intro h; cases h)
        | row r args => exact Rows.mono h fun v w'' hv => hn v w'' hv
        | _ => exact h.elim
      | halt hh w' =>
        cases hh with
        | panic v => exact absurd h.1 (by intro h; cases h)
        | _ => exact h.elim
    · exact absurd he.1 (by intro h; cases h)
  · rename_i hwt
    rw [if_neg hwt] at h
    exact hn _ _ h


/-- Whatever the order. -/
theorem wpAny_of_relR {n : Nat} {Q : Exit → Act → World → Prop} (hB : RelB l D n) (hn : a0.tmps.size = n) (hR : ∀ i (w w' : World), Below w0.heap.size w0 w → R i w w' → Below w0.heap.size w0 w') (hmono : ∀ i j, i ≠ j → ∀ (w w' : World) v, R i w w' → V j w v → V j w' v)
    (hop : ∀ i o, l[i]? = some o → ∀ w, Below w0.heap.size w0 w → ∀ vs : Nat → Value, (∀ j ∈ D.getD i [], V j w (vs j)) → wpList P l.toArray (relQR (R i) (V i) w o (relF l a0 vs (D.getD i []))) [o] (relF l a0 vs (D.getD i [])) w)
    (hfin : ∀ w, Below w0.heap.size w0 w → ∀ vs : Nat → Value, (∀ j, j < l.length → V j w (vs j)) → Q .normal (relF l a0 vs (List.range l.length)) w) :
    ∀ (fuel : Nat) (listed : Array Bool) (a : Act) (w : World), RInv l a0 w0 V listed a w → (listed.toList.filter (!·)).length ≤ fuel → wpAny P .any l.toArray Q fuel listed a w := by
  have hbn : ∀ j d, dstAt l j = some d → d < n := fun j d hd => by
    by_cases hj : j < l.length
    · exact hB.bnd j d hj hd
    · unfold dstAt at hd; rw [List.getElem?_eq_none (by omega)] at hd; cases hd
  have hval : ∀ (a : Act) j o, l[j]? = some o → valAt l a j = slotOf o a := fun a j o ho => by unfold valAt slotOf dstAt; rw [ho]; rfl
  have hdst : ∀ j o, l[j]? = some o → dstAt l j = o.dst := fun j o ho => by unfold dstAt; rw [ho]; rfl
  have hall : ∀ listed a w, RInv l a0 w0 V listed a w → (∀ j, j < l.length → listed.getD j false = true) → Q .normal a w := by
    intro listed a w inv hl
    have h := hfin w inv.bw (valAt l a) (fun j hj => by
      obtain ⟨o, ho⟩ : ∃ o, l[j]? = some o := ⟨_, List.getElem?_eq_getElem hj⟩
      rw [hval a j o ho]; exact inv.on j o ho (hl j hj))
    obtain ⟨s1, s2, s3⟩ := relF_spec (l := l) a n hbn (inv.sz.trans hn) (List.range l.length) a0 hn
    have e : relF l a0 (valAt l a) (List.range l.length) = a := by
      obtain ⟨at', ad'⟩ := a
      generalize hG : relF l a0 (valAt l ⟨at', ad'⟩) (List.range l.length) = G at s1 s2 s3
      obtain ⟨gt, gd⟩ := G
      have e1 : gd = ad' := s2.trans inv.df.symm
      have e2 : gt = at' := by
        apply Array.ext_getElem?
        intro t
        obtain ⟨h1, h2, h3⟩ := s3 t
        by_cases hx : ∃ j ∈ List.range l.length, dstAt l j = some t
        · exact h1 hx
        · refine h3 (inv.off t fun j o ho _ hd => hx ⟨j, List.mem_range.2 ?_, (hdst j o ho).trans hd⟩).symm
          exact (List.getElem?_eq_some_iff.1 ho).1
      rw [e1, e2]
    rwa [e] at h
  intro fuel
  induction fuel with
  | zero =>
    intro listed a w inv hf
    have hl : ∀ j, j < l.length → listed.getD j false = true := by
      intro j hj
      have h0 := List.eq_nil_of_length_eq_zero (Nat.le_zero.1 hf)
      have hj' : j < listed.size := by rw [inv.lsz]; exact hj
      have hm := List.filter_eq_nil_iff.1 h0 (listed[j]'hj') (by simp)
      rw [Array.getD_eq_getD_getElem?, Array.getElem?_eq_getElem hj']
      simpa using hm
    refine ⟨?_, hall listed a w inv hl⟩
    rw [List.eq_nil_iff_forall_not_mem]
    intro j hj
    obtain ⟨h1, o, ho, _⟩ := mem_ready.1 hj
    have hj' : j < l.length := by simpa using (Array.getElem?_eq_some_iff.1 ho).1
    have := hl j hj'
    rw [Array.getD_eq_getD_getElem?, Array.getElem?_eq_getElem (by rw [inv.lsz]; exact hj')] at h1 this
    simp only [Option.getD_some] at h1 this
    rw [h1] at this; cases this
  | succ fuel ih =>
    intro listed a w inv hf
    have hgd : ∀ j, j < l.length → ∀ b, listed.getD j b = listed.getD j false := fun j hj b => by
      simp [Array.getD_eq_getD_getElem?, Array.getElem?_eq_getElem (show j < listed.size by rw [inv.lsz]; exact hj)]
    refine ⟨fun hr => ?_, fun i hi => ?_⟩
    · refine hall listed a w inv fun j hj => ?_
      induction j using Nat.strongRecOn with
      | ind j ihj =>
        cases hx : listed.getD j false with
        | true => rfl
        | false =>
          obtain ⟨o, ho⟩ : ∃ o, l[j]? = some o := ⟨_, List.getElem?_eq_getElem hj⟩
          have : j ∈ Region.ready .any l.toArray listed := mem_ready.2 ⟨(hgd j hj true).trans hx, o, by simpa using ho, fun e he hb => by
            have hlt := hB.back j o e hj ho he hb
            exact ihj e.on hlt (by omega)⟩
          rw [hr] at this; cases this
    · obtain ⟨hun, o, ho', hdep⟩ := mem_ready.1 hi
      have ho : l[i]? = some o := by simpa using ho'
      have hil : i < l.length := (List.getElem?_eq_some_iff.1 ho).1
      have hdl : ∀ j ∈ D.getD i [], j < l.length ∧ listed.getD j false = true := by
        intro j hj
        obtain ⟨oj, hoj, e, he, hb, hon⟩ := Region.waitsFor_spec (hB.wait i j hil hj)
        obtain rfl : o = oj := Option.some.inj (ho'.symm.trans hoj)
        have := hdep e he hb
        rw [hon] at this
        refine ⟨?_, this⟩
        have := hB.back i o e hil ho he hb
        omega
      have hw0 := hop i o ho w inv.bw (valAt l a) (fun j hj => by
        obtain ⟨h1, h2⟩ := hdl j hj
        obtain ⟨oj, hoj⟩ : ∃ o, l[j]? = some o := ⟨_, List.getElem?_eq_getElem h1⟩
        rw [hval a j oj hoj]; exact inv.on j oj hoj h2)
      obtain ⟨s1, s2, s3⟩ := relF_spec (l := l) a n hbn (inv.sz.trans hn) (D.getD i []) a0 hn
      have hlook : ∀ t, t ∈ o.looksAt l.toArray → (relF l a0 (valAt l a) (D.getD i [])).tmps[t]? = a.tmps[t]? := by
        intro t ht
        obtain ⟨h1, h2, h3⟩ := s3 t
        by_cases hx : ∃ j ∈ D.getD i [], dstAt l j = some t
        · exact h1 hx
        · refine h3 (inv.off t fun j oj hoj _ hd => hx ⟨j, hB.look i j t o hil (List.getElem?_eq_some_iff.1 hoj).1 ho ((hdst j oj hoj).trans hd) ht, (hdst j oj hoj).trans hd⟩).symm
      have hev : ∀ x ∈ o.op.operands, (relF l a0 (valAt l a) (D.getD i [])).eval x = a.eval x := by
        intro x hx
        cases x with
        | tmp t =>
          have := hlook t (List.mem_append_left _ (List.mem_filterMap.2 ⟨.tmp t, by simpa using hx, rfl⟩))
          show (relF l a0 (valAt l a) (D.getD i [])).tmps.getD t undef = a.tmps.getD t undef
          rw [Array.getD_eq_getD_getElem?, Array.getD_eq_getD_getElem?, this]
        | _ => rfl
      have hwt : Region.wanted o (yielded l.toArray (relF l a0 (valAt l a) (D.getD i [])).tmps) = Region.wanted o (yielded l.toArray a.tmps) := by
        unfold Region.wanted
        cases hg : o.guard with
        | none => rfl
        | some gw =>
          obtain ⟨g, want⟩ := gw
          simp only []
          congr 1
          unfold yielded
          cases hd : (l.toArray[g]?).bind (·.dst) with
          | none => rfl
          | some t =>
            simp only [Option.bind_some]
            rw [hlook t (List.mem_append_right _ (by rw [hg]; simp only [hd]; simp))]
      unfold wpOp
      simp only [ho']
      refine rel_transferR (execOp_congr o (fun cs b => Region.noSelect_spec hB.sel i o cs b ho') hev) hwt (fun d hd => by rw [s1]; exact hbn i d ((hdst i o ho).trans hd)) hw0 fun v w' hb hv => ?_
      have hil2 : i < listed.size := by rw [inv.lsz]; exact hil
      refine ih _ _ _ ⟨hR i _ _ inv.bw hb, by simp [inv.lsz], by rw [put_size]; exact inv.sz, by rw [put_df]; exact inv.df, fun t ht => ?_, fun j oj hoj hj => ?_⟩ ?_
      · rw [put_ne _ _ _ _ (ht i o ho (by rw [get_set_true _ _ _ hil2]; simp))]
        exact inv.off t fun j oj hoj hj => ht j oj hoj (by rw [get_set_true _ _ _ hil2, hj]; simp)
      · by_cases hji : j = i
        · subst hji
          obtain rfl := Option.some.inj (hoj.symm.trans ho)
          rw [slot_put _ _ _ (fun d hd => by rw [inv.sz, hn]; exact hbn j d ((hdst j oj hoj).trans hd))]
          exact hv
        · rw [get_set_true _ _ _ hil2] at hj
          simp only [hji, decide_false, Bool.false_or] at hj
          rw [slot_other _ _ _ _ fun d hd hd' => hB.dist j i d (List.getElem?_eq_some_iff.1 hoj).1 hil hji ((hdst j oj hoj).trans hd) ((hdst i o ho).trans hd')]
          exact hmono i j (fun e => hji e.symm) w w' _ hb (inv.on j oj hoj hj)
      · have hx : listed.toList[i]? = some false := by
          rw [Array.getElem?_toList, Array.getElem?_eq_getElem hil2]
          rw [Array.getD_eq_getD_getElem?, Array.getElem?_eq_getElem hil2] at hun
          exact congrArg some hun
        have := count_set listed.toList i hx
        rw [Array.toList_setIfInBounds]
        omega

/-- The region, whatever the order: D: for each operation the operations whose slots it looks at; V: what is known of its value (kept where blocks are added). -/
theorem wp_region_relR {id : Nat} {Q : Exit → Act → World → Prop} (D : List (List Nat)) (V : Nat → World → Value → Prop) (R : Nat → World → World → Prop) (n : Nat) (hm : P.follows .mixedOrders = true) (hn : a0.tmps.size = n) (hB : relB l D n = true)
    (hR : ∀ i (w w' : World), Below w0.heap.size w0 w → R i w w' → Below w0.heap.size w0 w') (hmono : ∀ i j, i ≠ j → ∀ (w w' : World) v, R i w w' → V j w v → V j w' v)
    (hop : ∀ i o, l[i]? = some o → ∀ w, Below w0.heap.size w0 w → ∀ vs : Nat → Value, (∀ j ∈ D.getD i [], V j w (vs j)) → wpList P l.toArray (relQR (R i) (V i) w o (relF l a0 vs (D.getD i []))) [o] (relF l a0 vs (D.getD i [])) w)
    (hfin : ∀ w, Below w0.heap.size w0 w → ∀ vs : Nat → Value, (∀ j, j < l.length → V j w (vs j)) → Q .normal (relF l a0 vs (List.range l.length)) w) : (Code.region id l.toArray true).wp P Q a0 w0 := by
  refine wp_region_any hm ?_
  have hs : l.toArray.size = l.length := by simp
  rw [hs]
  refine wpAny_of_relR (relB_spec hB) hn hR hmono hop hfin _ _ _ _ ⟨(Below.refl _ w0).drew, by simp, rfl, rfl, fun t _ => rfl, fun j o ho hj => ?_⟩ ?_
  · rw [getD_replicate_false] at hj; cases hj
  · refine Nat.le_trans (List.length_filter_le (!·) (Array.replicate l.length false).toList) ?_
    simp

end

end Go.Proofs.YtgheacegjgaobaaDoor

/- Proofs of many leaves: plain. -/
namespace Go.Proofs.YtgheacegjgaobaaDoor.Many
open Tree
set_option linter.unusedVariables false
set_option linter.unusedSimpArgs false

/-- The places from f on, below t. -/
def inr (A : List Nat) (f t : Nat) : List Nat := A.filter fun a => decide (f ≤ a) && decide (a < t)

theorem mem_inr {A : List Nat} {f t a : Nat} : a ∈ inr A f t ↔ a ∈ A ∧ f ≤ a ∧ a < t := by
  unfold inr; rw [List.mem_filter]; simp

theorem inr_empty (A : List Nat) {f t : Nat} (h : t ≤ f) : inr A f t = [] := by
  apply List.eq_nil_iff_forall_not_mem.2
  intro a ha
  have := mem_inr.1 ha
  omega

/-- Of places that rise, those from f on below t: those below m, and the others. -/
theorem inr_split : ∀ {A : List Nat}, A.Pairwise (· < ·) → ∀ {f m t : Nat}, f ≤ m → m ≤ t → inr A f t = inr A f m ++ inr A m t := by
  intro A
  induction A with
  | nil => intro _ f m t _ _; rfl
  | cons x A ih =>
    intro h f m t h1 h2
    obtain ⟨hx, hA⟩ := List.pairwise_cons.1 h
    have hr := ih hA h1 h2
    unfold inr at hr ⊢
    rw [List.filter_cons, List.filter_cons, List.filter_cons]
    by_cases c1 : f ≤ x ∧ x < m
    · rw [if_pos (by simp; omega), if_pos (by simp; omega), if_neg (by simp; omega), hr]; rfl
    · by_cases c2 : m ≤ x ∧ x < t
      · rw [if_pos (by simp; omega), if_neg (by simp; omega), if_pos (by simp; omega)]
        have hn : A.filter (fun a => decide (f ≤ a) && decide (a < m)) = [] := by
          rw [List.filter_eq_nil_iff]
          intro a ha
          have := hx a ha
          simp; omega
        rw [hn] at hr ⊢
        rw [hr]; rfl
      · rw [if_neg (by simp; omega), if_neg (by simp; omega), if_neg (by simp; omega), hr]

/-- The parts in which nothing is asked for: where each begins, and how many leaves it has. -/
def tops (A : List Nat) (f n : Nat) : List (Nat × Nat) :=
  if inr A f (f + n) = [] then [(f, n)]
  else if h : 2 ≤ n then tops A f (half n) ++ tops A (f + half n) (n - half n) else []
termination_by n
decreasing_by
  · exact half_lt h
  · have := half_pos h; omega

theorem tops_none {A : List Nat} {f n : Nat} (h : inr A f (f + n) = []) : tops A f n = [(f, n)] := by rw [tops.eq_def, if_pos h]
theorem tops_one {A : List Nat} {f n : Nat} (h : inr A f (f + n) ≠ []) (h2 : ¬ 2 ≤ n) : tops A f n = [] := by rw [tops.eq_def, if_neg h, dif_neg h2]
theorem tops_two {A : List Nat} {f n : Nat} (h : inr A f (f + n) ≠ []) (h2 : 2 ≤ n) : tops A f n = tops A f (half n) ++ tops A (f + half n) (n - half n) := by rw [tops.eq_def, if_neg h, dif_pos h2]

/-- What a part comes to: NH of the parts in which nothing is asked for, OH of the leaves that are. -/
def val (A : List Nat) (NH : Nat → Nat → Nat → List UInt8) (OH : Nat → Nat → List UInt8) (i j f n : Nat) : List UInt8 :=
  if inr A f (f + n) = [] then NH i f n
  else if h : 2 ≤ n then node (val A NH OH i j f (half n)) (val A NH OH (i + (tops A f (half n)).length) (j + (inr A f (f + half n)).length) (f + half n) (n - half n))
  else OH j f
termination_by n
decreasing_by
  · exact half_lt h
  · have := half_pos h; omega

theorem val_none {A : List Nat} {NH OH} {i j f n : Nat} (h : inr A f (f + n) = []) : val A NH OH i j f n = NH i f n := by rw [val.eq_def, if_pos h]
theorem val_one {A : List Nat} {NH OH} {i j f n : Nat} (h : inr A f (f + n) ≠ []) (h2 : ¬ 2 ≤ n) : val A NH OH i j f n = OH j f := by rw [val.eq_def, if_neg h, dif_neg h2]
theorem val_two {A : List Nat} {NH OH} {i j f n : Nat} (h : inr A f (f + n) ≠ []) (h2 : 2 ≤ n) : val A NH OH i j f n = node (val A NH OH i j f (half n)) (val A NH OH (i + (tops A f (half n)).length) (j + (inr A f (f + half n)).length) (f + half n) (n - half n)) := by rw [val.eq_def, if_neg h, dif_pos h2]

theorem val_len {A : List Nat} {NH OH} (hN : ∀ i f n, (NH i f n).length = 32) (hO : ∀ j f, (OH j f).length = 32) (i j f n : Nat) : (val A NH OH i j f n).length = 32 := by
  by_cases h : inr A f (f + n) = []
  · rw [val_none h]; exact hN _ _ _
  · by_cases h2 : 2 ≤ n
    · rw [val_two h h2]; exact node_len _ _
    · rw [val_one h h2]; exact hO _ _

/-- The parts stand within, and none is empty. -/
theorem tops_in (A : List Nat) : ∀ (n f : Nat), 1 ≤ n → ∀ p ∈ tops A f n, f ≤ p.1 ∧ p.1 + p.2 ≤ f + n ∧ 1 ≤ p.2 := by
  intro n
  induction n using Nat.strongRecOn with
  | ind n ih =>
    intro f hn p hp
    by_cases h : inr A f (f + n) = []
    · rw [tops_none h] at hp
      obtain rfl := List.mem_singleton.1 hp
      exact ⟨Nat.le_refl _, Nat.le_refl _, hn⟩
    · by_cases h2 : 2 ≤ n
      · have k1 := half_pos h2
        have k2 := half_lt h2
        rw [tops_two h h2] at hp
        rcases List.mem_append.1 hp with hp | hp
        · have := ih _ k2 f k1 p hp; omega
        · have := ih _ (by omega) (f + half n) (by omega) p hp; omega
      · rw [tops_one h h2] at hp; cases hp

/-- What is asked for in a part stands in it. -/
theorem tops_free (A : List Nat) : ∀ (n f : Nat), ∀ p ∈ tops A f n, inr A p.1 (p.1 + p.2) = [] := by
  intro n
  induction n using Nat.strongRecOn with
  | ind n ih =>
    intro f p hp
    by_cases h : inr A f (f + n) = []
    · rw [tops_none h] at hp
      obtain rfl := List.mem_singleton.1 hp
      exact h
    · by_cases h2 : 2 ≤ n
      · have k1 := half_pos h2
        have k2 := half_lt h2
        rw [tops_two h h2] at hp
        rcases List.mem_append.1 hp with hp | hp
        · exact ih _ k2 f p hp
        · exact ih _ (by omega) (f + half n) p hp
      · rw [tops_one h h2] at hp; cases hp

/-- There are no more parts than leaves (one, if there is none). -/
theorem tops_len (A : List Nat) : ∀ (n f : Nat), (tops A f n).length ≤ n + 1 ∧ (1 ≤ n → (tops A f n).length ≤ n) := by
  intro n
  induction n using Nat.strongRecOn with
  | ind n ih =>
    intro f
    by_cases h : inr A f (f + n) = []
    · rw [tops_none h]; simp
    · by_cases h2 : 2 ≤ n
      · have k1 := half_pos h2
        have k2 := half_lt h2
        rw [tops_two h h2, List.length_append]
        have h3 := (ih _ k2 f).2 k1
        have h4 := (ih _ (show n - half n < n by omega) (f + half n)).2 (by omega)
        omega
      · rw [tops_one h h2]; simp

/-- The parts of a part are those of what is asked for in it. -/
theorem inr_inr (A : List Nat) {f t g u : Nat} (h1 : f ≤ g) (h2 : u ≤ t) : inr (inr A f t) g u = inr A g u := by
  unfold inr
  rw [List.filter_filter]
  apply List.filter_congr
  intro a _
  by_cases c : g ≤ a ∧ a < u
  · simp; omega
  · simp; omega

theorem inr_inr2 (A : List Nat) {f t g u : Nat} (h1 : g ≤ f) (h2 : t ≤ u) : inr (inr A f t) g u = inr A f t := by
  unfold inr
  rw [List.filter_filter]
  apply List.filter_congr
  intro a _
  by_cases c : f ≤ a ∧ a < t
  · simp; omega
  · simp; omega

theorem tops_inr (A : List Nat) : ∀ (n f g u : Nat), g ≤ f → f + n ≤ u → tops (inr A g u) f n = tops A f n := by
  intro n
  induction n using Nat.strongRecOn with
  | ind n ih =>
    intro f g u h1 h2
    have hi := inr_inr A (f := g) (t := u) (g := f) (u := f + n) h1 h2
    by_cases h : inr A f (f + n) = []
    · rw [tops_none h, tops_none (by rw [hi]; exact h)]
    · by_cases h2' : 2 ≤ n
      · have k1 := half_pos h2'
        have k2 := half_lt h2'
        rw [tops_two h h2', tops_two (by rw [hi]; exact h) h2', ih _ k2 f g u h1 (by omega), ih _ (by omega) (f + half n) g u (by omega) (by omega)]
      · rw [tops_one h h2', tops_one (by rw [hi]; exact h) h2']

theorem val_inr (A : List Nat) (NH OH) : ∀ (n i j f g u : Nat), g ≤ f → f + n ≤ u → val (inr A g u) NH OH i j f n = val A NH OH i j f n := by
  intro n
  induction n using Nat.strongRecOn with
  | ind n ih =>
    intro i j f g u h1 h2
    have hi := inr_inr A (f := g) (t := u) (g := f) (u := f + n) h1 h2
    by_cases h : inr A f (f + n) = []
    · rw [val_none h, val_none (by rw [hi]; exact h)]
    · by_cases h2' : 2 ≤ n
      · have k1 := half_pos h2'
        have k2 := half_lt h2'
        rw [val_two h h2', val_two (by rw [hi]; exact h) h2', ih _ k2 _ _ f g u h1 (by omega), ih _ (by omega) _ _ (f + half n) g u (by omega) (by omega)]
        rw [tops_inr A _ f g u h1 (by omega), inr_inr A (f := g) (t := u) (g := f) (u := f + half n) h1 (by omega)]
      · rw [val_one h h2', val_one (by rw [hi]; exact h) h2']

/-- Where each part comes to its leaves' top, and each leaf to its own sum, all comes to the top. -/
theorem val_top (A : List Nat) (NH OH) (l : List (List UInt8)) : ∀ (n i j f : Nat), f + n ≤ l.length →
    (∀ t p, (tops A f n)[t]? = some p → NH (i + t) p.1 p.2 = top ((l.drop p.1).take p.2)) →
    (∀ t a, (inr A f (f + n))[t]? = some a → ∃ x, l[a]? = some x ∧ OH (j + t) a = leaf x) → A.Pairwise (· < ·) →
    val A NH OH i j f n = top ((l.drop f).take n) := by
  intro n
  induction n using Nat.strongRecOn with
  | ind n ih =>
    intro i j f hl hN hO hs
    by_cases h : inr A f (f + n) = []
    · rw [val_none h]
      have := hN 0 (f, n) (by rw [tops_none h]; rfl)
      exact this
    · by_cases h2 : 2 ≤ n
      · have k1 := half_pos h2
        have k2 := half_lt h2
        have hsp : inr A f (f + n) = inr A f (f + half n) ++ inr A (f + half n) (f + n) := inr_split hs (by omega) (by omega)
        rw [val_two h h2]
        rw [tops_two h h2] at hN
        rw [hsp] at hO
        rw [ih _ k2 i j f (by omega) (fun t p hp => hN t p (by rw [List.getElem?_append_left (List.getElem?_eq_some_iff.1 hp).1]; exact hp))
          (fun t a ha => hO t a (by rw [List.getElem?_append_left (List.getElem?_eq_some_iff.1 ha).1]; exact ha)) hs]
        rw [ih _ (show n - half n < n by omega) (i + (tops A f (half n)).length) (j + (inr A f (f + half n)).length) (f + half n) (by omega)
          (fun t p hp => by
            have := hN ((tops A f (half n)).length + t) p (by rw [List.getElem?_append_right (by omega), Nat.add_sub_cancel_left]; exact hp)
            rw [← Nat.add_assoc] at this; exact this)
          (fun t a ha => by
            have := hO ((inr A f (f + half n)).length + t) a (by rw [List.getElem?_append_right (by omega), Nat.add_sub_cancel_left]; rw [show f + half n + (n - half n) = f + n by omega] at ha; exact ha)
            rw [← Nat.add_assoc] at this; exact this) hs]
        have hlen : ((l.drop f).take n).length = n := by rw [List.length_take, List.length_drop]; omega
        rw [top_two (l := (l.drop f).take n) (by omega), hlen]
        congr 2
        · rw [List.take_take]; congr 1; omega
        · rw [List.drop_take, List.drop_drop]
      · have hn1 : n = 1 := by
          rcases n with _ | _ | n
          · exact absurd (inr_empty A (by omega)) h
          · rfl
          · omega
        subst hn1
        rw [val_one h h2]
        obtain ⟨a, ha⟩ : ∃ a, (inr A f (f + 1))[0]? = some a := by
          cases hx : inr A f (f + 1) with
          | nil => exact absurd hx h
          | cons a _ => exact ⟨a, rfl⟩
        have hm := mem_inr.1 (List.mem_of_getElem? ha)
        obtain rfl : a = f := by omega
        obtain ⟨x, hx, ho⟩ := hO 0 a ha
        rw [Nat.add_zero] at ho
        rw [ho]
        have : (l.drop a).take 1 = [x] := by
          obtain ⟨h3, h4⟩ := List.getElem?_eq_some_iff.1 hx
          rw [List.drop_eq_getElem_cons h3, h4]; rfl
        rw [this, top_one]

/-- The proof of leaves. -/
def prove (l : List (List UInt8)) (A : List Nat) : List (List UInt8) := (tops A 0 l.length).map fun p => top ((l.drop p.1).take p.2)

theorem prove_len (l : List (List UInt8)) (A : List Nat) : (prove l A).length = (tops A 0 l.length).length := List.length_map ..
theorem prove_32 (l : List (List UInt8)) (A : List Nat) : ∀ p ∈ prove l A, p.length = 32 := by
  intro p hp
  obtain ⟨x, _, rfl⟩ := List.mem_map.1 hp
  exact top_len _

/-- What leaves and a proof come to. -/
def topOf (n : Nat) (A : List Nat) (leaves proof : List (List UInt8)) : List UInt8 :=
  val A (fun i _ _ => (proof[i]?).getD (List.replicate 32 0)) (fun j _ => leaf ((leaves[j]?).getD [])) 0 0 0 n

/-- Is it proved? -/
def check (want : List UInt8) (n : Nat) (A : List Nat) (leaves proof : List (List UInt8)) : Bool :=
  decide (leaves.length = A.length) && (decide (proof.length = (tops A 0 n).length) && (root n (topOf n A leaves proof) == want))

/-- Places that rise, below n. -/
def Rise (n : Nat) (A : List Nat) : Prop := A.Pairwise (· < ·) ∧ ∀ a ∈ A, a < n

theorem inr_all {n : Nat} {A : List Nat} (h : ∀ a ∈ A, a < n) : inr A 0 n = A := by
  unfold inr
  rw [List.filter_eq_self]
  intro a ha
  have := h a ha
  simp; exact this

/-- A proof with other leaves at the places that are asked for. -/
theorem topOf_prove {l m : List (List UInt8)} {A : List Nat} {x : List (List UInt8)} (hr : Rise l.length A) (hm : m.length = l.length) (hx : x.length = A.length)
    (hA : ∀ t a : Nat, A[t]? = some a → m[a]? = x[t]?) (ho : ∀ a : Nat, a ∉ A → m[a]? = l[a]?) : topOf l.length A x (prove l A) = top m := by
  unfold topOf
  have h := val_top A (fun i _ _ => ((prove l A)[i]?).getD (List.replicate 32 0)) (fun j _ => leaf ((x[j]?).getD [])) m l.length 0 0 0 (by omega) ?_ ?_ hr.1
  · rw [h, List.drop_zero, ← hm, List.take_length]
  · intro t p hp
    simp only [Nat.zero_add]
    have : (prove l A)[t]? = some (top ((l.drop p.1).take p.2)) := by unfold prove; rw [List.getElem?_map, hp]; rfl
    rw [this]
    simp only [Option.getD_some]
    congr 1
    apply List.ext_getElem?
    intro k
    rw [List.getElem?_take, List.getElem?_take, List.getElem?_drop, List.getElem?_drop]
    split
    · rename_i hk
      have hf := tops_free A _ _ p (List.mem_of_getElem? hp)
      refine (ho _ fun hm => ?_).symm
      have : p.1 + k ∈ inr A p.1 (p.1 + p.2) := mem_inr.2 ⟨hm, by omega, by omega⟩
      rw [hf] at this; cases this
    · rfl
  · intro t a ha
    rw [Nat.zero_add, inr_all hr.2] at ha
    have h1 := hA t a ha
    have h2 : t < x.length := by rw [hx]; exact (List.getElem?_eq_some_iff.1 ha).1
    refine ⟨x[t], by rw [h1]; exact List.getElem?_eq_getElem h2, ?_⟩
    simp only [Nat.zero_add]
    rw [List.getElem?_eq_getElem h2]; rfl

/-- The leaves at places. -/
def pick (l : List (List UInt8)) (A : List Nat) : List (List UInt8) := A.map fun a => (l[a]?).getD []

theorem check_prove {l : List (List UInt8)} {A : List Nat} (hr : Rise l.length A) : check (root l.length (top l)) l.length A (pick l A) (prove l A) = true := by
  unfold check
  have hp : (pick l A).length = A.length := List.length_map ..
  rw [topOf_prove (m := l) hr rfl hp ?_ (fun _ _ => rfl), decide_eq_true hp, prove_len, decide_eq_true rfl]
  · simp
  · intro t a ha
    have h1 := hr.2 a (List.mem_of_getElem? ha)
    unfold pick
    rw [List.getElem?_map, ha, Option.map_some, List.getElem?_eq_getElem h1]
    rfl

/-- Of one leaf. -/
theorem tops_single (a : Nat) : ∀ (n f : Nat), f ≤ a → a < f + n → (tops [a] f n).length = (sides n (a - f)).length := by
  intro n
  induction n using Nat.strongRecOn with
  | ind n ih =>
    intro f h1 h2
    have hne : inr [a] f (f + n) ≠ [] := fun h => by
      have : a ∈ inr [a] f (f + n) := mem_inr.2 ⟨by simp, h1, h2⟩
      rw [h] at this; cases this
    by_cases h : 2 ≤ n
    · have k1 := half_pos h
      have k2 := half_lt h
      rw [tops_two hne h, List.length_append]
      by_cases hl : a - f < half n
      · rw [sides_left h hl, List.length_cons, ih _ k2 f h1 (by omega)]
        rw [tops_none (A := [a]) (f := f + half n) (n := n - half n)]
        · rfl
        · apply List.eq_nil_iff_forall_not_mem.2
          intro b hb
          obtain ⟨hb1, hb2, hb3⟩ := mem_inr.1 hb
          obtain rfl := List.mem_singleton.1 hb1
          omega
      · rw [sides_right h hl, List.length_cons, ih _ (by omega) (f + half n) (by omega) (by omega)]
        rw [tops_none (A := [a]) (f := f) (n := half n)]
        · rw [List.length_singleton, show a - (f + half n) = a - f - half n by omega]; omega
        · apply List.eq_nil_iff_forall_not_mem.2
          intro b hb
          obtain ⟨hb1, hb2, hb3⟩ := mem_inr.1 hb
          obtain rfl := List.mem_singleton.1 hb1
          omega
    · rw [tops_one hne h, sides_small h]; rfl

/-- No more parts than one for each step on each way. -/
theorem tops_fewer {A : List Nat} (hA : A.Pairwise (· < ·)) : ∀ (n f : Nat), inr A f (f + n) ≠ [] → (tops A f n).length ≤ ((inr A f (f + n)).map fun a => (sides n (a - f)).length).sum := by
  intro n
  induction n using Nat.strongRecOn with
  | ind n ih =>
    intro f hne
    by_cases h : 2 ≤ n
    · have k1 := half_pos h
      have k2 := half_lt h
      rw [tops_two hne h, List.length_append]
      have hsp : inr A f (f + n) = inr A f (f + half n) ++ inr A (f + half n) (f + n) := inr_split hA (by omega) (by omega)
      rw [hsp, List.map_append, List.sum_append]
      have e1 : (inr A f (f + half n)).map (fun a => (sides n (a - f)).length) = (inr A f (f + half n)).map (fun a => (sides (half n) (a - f)).length + 1) := by
        apply List.map_congr_left
        intro a ha
        have := mem_inr.1 ha
        rw [sides_left h (by omega), List.length_cons]
      have e2 : (inr A (f + half n) (f + n)).map (fun a => (sides n (a - f)).length) = (inr A (f + half n) (f + n)).map (fun a => (sides (n - half n) (a - (f + half n))).length + 1) := by
        apply List.map_congr_left
        intro a ha
        have := mem_inr.1 ha
        rw [sides_right h (by omega), List.length_cons, show a - f - half n = a - (f + half n) by omega]
      rw [e1, e2]
      have hs : ∀ (L : List Nat) (g : Nat → Nat), (L.map fun a => g a + 1).sum = (L.map g).sum + L.length := by
        intro L g
        induction L with
        | nil => rfl
        | cons x L ihL => simp only [List.map_cons, List.sum_cons, ihL, List.length_cons]; omega
      rw [hs, hs]
      have hf : f + half n + (n - half n) = f + n := by omega
      by_cases c1 : inr A f (f + half n) = []
      · have c2 : inr A (f + half n) (f + n) ≠ [] := fun c2 => hne (by rw [hsp, c1, c2]; rfl)
        have h3 := ih _ (show n - half n < n by omega) (f + half n) (by rw [hf]; exact c2)
        rw [hf] at h3
        rw [tops_none c1, c1]
        have : 1 ≤ (inr A (f + half n) (f + n)).length := List.length_pos_iff.2 c2
        simp only [List.length_singleton, List.map_nil, List.sum_nil, List.length_nil]
        omega
      · have h3 := ih _ k2 f c1
        have l1 : 1 ≤ (inr A f (f + half n)).length := List.length_pos_iff.2 c1
        by_cases c2 : inr A (f + half n) (f + n) = []
        · rw [tops_none (A := A) (f := f + half n) (n := n - half n) (by rw [hf]; exact c2), c2]
          simp only [List.length_singleton, List.map_nil, List.sum_nil, List.length_nil]
          omega
        · have h4 := ih _ (show n - half n < n by omega) (f + half n) (by rw [hf]; exact c2)
          rw [hf] at h4
          omega
    · rw [tops_one hne h]; exact Nat.zero_le _

/-- All are asked for. -/
theorem tops_all {A : List Nat} : ∀ (n f : Nat), 1 ≤ n → (∀ a, f ≤ a → a < f + n → a ∈ A) → tops A f n = [] := by
  intro n
  induction n using Nat.strongRecOn with
  | ind n ih =>
    intro f hn ha
    have hne : inr A f (f + n) ≠ [] := fun h => by
      have : f ∈ inr A f (f + n) := mem_inr.2 ⟨ha f (Nat.le_refl _) (by omega), by omega, by omega⟩
      rw [h] at this; cases this
    by_cases h : 2 ≤ n
    · have k1 := half_pos h
      have k2 := half_lt h
      rw [tops_two hne h, ih _ k2 f k1 (fun a h1 h2 => ha a h1 (by omega)), ih _ (by omega) (f + half n) (by omega) (fun a h1 h2 => ha a (by omega) (by omega))]
      rfl
    · exact tops_one hne h

end Go.Proofs.YtgheacegjgaobaaDoor.Many

/- What the reference of many leaves looks up: plain. -/
namespace Go.Proofs.YtgheacegjgaobaaDoor.Many
open Tree
set_option linter.unusedVariables false
set_option linter.unusedSimpArgs false

/-- A part among all parts: those ahead of it, its own, those behind. -/
def Loc (A : List Nat) (N f n : Nat) (D R : List (Nat × Nat)) : Prop := tops A 0 N = D ++ tops A f n ++ R ∧ ∀ p ∈ D, p.1 < f

theorem Loc.whole (A : List Nat) (N : Nat) : Loc A N 0 N [] [] := ⟨by simp, fun p hp => by cases hp⟩

theorem Loc.left {A : List Nat} {N f n : Nat} {D R : List (Nat × Nat)} (h : Loc A N f n D R) (hne : inr A f (f + n) ≠ []) (h2 : 2 ≤ n) : Loc A N f (half n) D (tops A (f + half n) (n - half n) ++ R) :=
  ⟨by rw [h.1, tops_two hne h2]; simp [List.append_assoc], h.2⟩

theorem Loc.right {A : List Nat} {N f n : Nat} {D R : List (Nat × Nat)} (h : Loc A N f n D R) (hne : inr A f (f + n) ≠ []) (h2 : 2 ≤ n) : Loc A N (f + half n) (n - half n) (D ++ tops A f (half n)) R := by
  have k1 := half_pos h2
  refine ⟨by rw [h.1, tops_two hne h2]; simp [List.append_assoc], fun p hp => ?_⟩
  rcases List.mem_append.1 hp with hp | hp
  · have := h.2 p hp; omega
  · have := tops_in A _ f k1 p hp; omega

/-- A part in which nothing is asked for: where it stands. -/
theorem Loc.none_at {A : List Nat} {N f n : Nat} {D R : List (Nat × Nat)} (h : Loc A N f n D R) (he : inr A f (f + n) = []) :
    (tops A 0 N)[D.length]? = some (f, n) ∧ ∀ (t : Nat) (p : Nat × Nat), t < D.length → (tops A 0 N)[t]? = some p → p ≠ (f, n) := by
  rw [h.1, tops_none he]
  refine ⟨by simp, fun t p ht hp hpe => ?_⟩
  rw [List.append_assoc, List.getElem?_append_left ht] at hp
  have := h.2 p (List.mem_of_getElem? hp)
  rw [hpe] at this
  exact Nat.lt_irrefl _ this

/-- A part in which something is asked for is none of them. -/
theorem asked_not {A : List Nat} {N f n : Nat} (he : inr A f (f + n) ≠ []) : ∀ (t : Nat) (p : Nat × Nat), (tops A 0 N)[t]? = some p → p ≠ (f, n) := by
  intro t p hp hpe
  have := tops_free A N 0 p (List.mem_of_getElem? hp)
  rw [hpe] at this
  exact he this

/-- Where a leaf that is asked for stands among the places. -/
theorem leaf_at {A : List Nat} (hs : A.Pairwise (· < ·)) {f : Nat} (he : inr A f (f + 1) ≠ []) :
    A[(inr A 0 f).length]? = some f ∧ ∀ (t a : Nat), t < (inr A 0 f).length → A[t]? = some a → a ≠ f := by
  obtain ⟨M, hM⟩ : ∃ M, ∀ a ∈ A, a < f + 1 + M := by
    clear hs he
    induction A with
    | nil => exact ⟨0, fun a ha => by cases ha⟩
    | cons x A ih =>
      obtain ⟨M, hM⟩ := ih
      refine ⟨M + x + 1, fun a ha => ?_⟩
      rcases List.mem_cons.1 ha with rfl | ha
      · omega
      · have := hM a ha; omega
  have h1 : A = inr A 0 f ++ (inr A f (f + 1) ++ inr A (f + 1) (f + 1 + M)) := by
    rw [← inr_split hs (by omega) (by omega), ← inr_split hs (by omega) (by omega), inr_all hM]
  obtain ⟨a, R, hx⟩ : ∃ a R, inr A f (f + 1) = a :: R := by
    cases hx : inr A f (f + 1) with
    | nil => exact absurd hx he
    | cons a R => exact ⟨a, R, rfl⟩
  have hm : a ∈ inr A f (f + 1) := by rw [hx]; exact List.mem_cons_self ..
  have := mem_inr.1 hm
  obtain rfl : a = f := by omega
  refine ⟨?_, fun t b ht hb hbe => ?_⟩
  · obtain ⟨k, hk⟩ : ∃ k, k = (inr A 0 a).length := ⟨_, rfl⟩
    rw [← hk]
    rw [h1, List.getElem?_append_right (by omega), hk, Nat.sub_self, hx]; rfl
  · obtain ⟨Z, hZ⟩ : ∃ Z, Z = inr A 0 a := ⟨_, rfl⟩
    rw [← hZ] at ht h1
    rw [h1, List.getElem?_append_left ht] at hb
    rw [hZ] at hb
    have := mem_inr.1 (List.mem_of_getElem? hb)
    omega

theorem inr_len_split {A : List Nat} (hs : A.Pairwise (· < ·)) {f m : Nat} (h : f ≤ m) : (inr A 0 m).length = (inr A 0 f).length + (inr A f m).length := by
  rw [inr_split hs (Nat.zero_le f) h, List.length_append]

/-- Of places that rise: how many stand below a bound. -/
theorem cut_at {A : List Nat} (hs : A.Pairwise (· < ·)) {f m t : Nat} (h1 : f ≤ m) (h2 : m ≤ t) :
    (inr A f t).take (inr A f m).length = inr A f m ∧ (inr A f t).drop (inr A f m).length = inr A m t ∧ (inr A f m).length ≤ (inr A f t).length ∧ (inr A f t).length - (inr A f m).length = (inr A m t).length := by
  rw [inr_split hs h1 h2]
  refine ⟨List.take_left' rfl, List.drop_left' rfl, by simp, by simp⟩

/-- What a bound tells of places that rise: those ahead are below it, the others are not. -/
theorem cut_side {A : List Nat} (hs : A.Pairwise (· < ·)) {f m t : Nat} (h1 : f ≤ m) (h2 : m ≤ t) {i a : Nat} (h : (inr A f t)[i]? = some a) : a < m ↔ i < (inr A f m).length := by
  rw [inr_split hs h1 h2] at h
  by_cases hi : i < (inr A f m).length
  · rw [List.getElem?_append_left hi] at h
    have := mem_inr.1 (List.mem_of_getElem? h)
    omega
  · rw [List.getElem?_append_right (by omega)] at h
    have := mem_inr.1 (List.mem_of_getElem? h)
    omega

/-- Do places rise, and are they there? -/
def rises : Int → List Int → Int → Bool
  | _, [], _ => true
  | n, a :: A, last => if a ≤ last ∨ n ≤ a then false else rises n A a

theorem rises_nat {n : Int} : ∀ {A : List Int} {last : Int}, -1 ≤ last → rises n A last = true → ∃ B : List Nat, A = B.map Int.ofNat ∧ B.Pairwise (· < ·) ∧ (∀ a ∈ B, (a : Int) < n ∧ last < (a : Int)) := by
  intro A
  induction A with
  | nil => intro last hl h; exact ⟨[], rfl, List.Pairwise.nil, fun a ha => by cases ha⟩
  | cons a A ih =>
    intro last hl h
    unfold rises at h
    split at h
    · cases h
    · rename_i hc
      obtain ⟨B, rfl, hp, hb⟩ := ih (last := a) (by omega) h
      refine ⟨a.toNat :: B, by rw [List.map_cons, show Int.ofNat a.toNat = a by simp; omega], List.pairwise_cons.2 ⟨fun b hb' => ?_, hp⟩, fun b hb' => ?_⟩
      · have := hb b hb'; omega
      · rcases List.mem_cons.1 hb' with rfl | hb'
        · omega
        · have := hb b hb'; omega

theorem rises_of {n : Int} : ∀ {B : List Nat} {last : Int}, B.Pairwise (· < ·) → (∀ a ∈ B, (a : Int) < n ∧ last < (a : Int)) → rises n (B.map Int.ofNat) last = true := by
  intro B
  induction B with
  | nil => intro last _ _; rfl
  | cons b B ih =>
    intro last hp hb
    obtain ⟨h1, h2⟩ := List.pairwise_cons.1 hp
    have h3 := hb b (by simp)
    rw [List.map_cons, show Int.ofNat b = (b : Int) from rfl, rises, if_neg (by omega)]
    exact ih h2 fun a ha => ⟨(hb a (by simp [ha])).1, by have := h1 a ha; omega⟩

end Go.Proofs.YtgheacegjgaobaaDoor.Many
