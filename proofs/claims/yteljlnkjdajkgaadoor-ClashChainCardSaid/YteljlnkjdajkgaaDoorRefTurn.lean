/- The walks of the reference's small functions: two, cut, turn, constants. -/
import Derived.Test.YteljlnkjdajkgaaDoorRows
import Derived.Test.YteljlnkjdajkgaaDoorSha
import Derived.WalkKit
import Derived.WalkSpells
import Derived.WalkLawsBesides
import Derived.Lib.Hide
import Derived.Deep.QuietTactic
import Derived.BigQuiet
import Derived.IntWalk
namespace Go.Proofs.YteljlnkjdajkgaaDoor
open Go.RowKit
set_option linter.unusedSimpArgs false

set_option maxRecDepth 100000 in
set_option maxHeartbeats 400000 in
theorem two_any (n A : Nat) (hn : n ≤ 63) (hA : A = 2 ^ n) (w : World) :
    Calls Tryd.prog 29 #[.int .i64 n] w fun e w' => w = w' ∧ e = .returned (.int .u64 A) := by
  have HA := Lib.hid hA; clear hA
  go_enter Tryd.func29, Tryd.ntmps29
  go_wp2
  go_loop [3, 4] (fun x i => ∃ k P : Nat, k ≤ n ∧ i = .int .i64 k ∧ x = .int .u64 P ∧ Hid (P = 2 ^ k)) (fun _ i => n - (intOf i).toNat)
  case atStart => exact ⟨0, 1, by omega, rfl, rfl, rfl⟩
  case round =>
    obtain ⟨k, P, hk, rfl, rfl, hP⟩ := hrel
    by_cases hlt : k < n
    · have hb : P ≤ 4611686018427387904 := by rw [hP.out]; exact Nat.pow_le_pow_right (n := 2) (by decide) (by omega : k ≤ 62)
      go_wp2
      go_round
      case rel => exact ⟨k + 1, 2 * P, by omega, by go_num, by go_num, Lib.hid (by rw [Nat.pow_succ, hP.out, Nat.mul_comm])⟩
      case measure => simp [intOf]; omega
    · obtain rfl : k = n := by omega
      go_wp2
      go_ret
      exact ⟨rfl, congrArg (fun z : Nat => Ending.returned (.int .u64 (z : Int))) (hP.out.trans HA.out.symm)⟩

set_option maxRecDepth 100000 in
theorem cut_any (x : Nat) (w : World) :
    Calls Tryd.prog 31 #[.int .u64 x] w fun e w' => w = w' ∧ e = .returned (.int .u64 ((x % 4294967296 : Nat) : Int)) := by
  go_enter Tryd.func31, Tryd.ntmps31
  go_wp2
  go_ret
  exact ⟨rfl, rfl⟩

theorem rot_val (n A B x : Nat) (hn : n ≤ 32) (hA : A = 2 ^ n) (hB : B = 2 ^ (32 - n)) (hx : x < 4294967296) :
    IntKind.u64.wrap (IntKind.u64.wrap ((x : Int) / (A : Int)) + IntKind.u64.wrap ((x : Int) % (A : Int) * (B : Int))) = (Sha.rot n x : Int) ∧ 0 < A ∧ x % A * B < 4294967296 := by
  subst hA hB
  have h0 : 0 < 2 ^ n := Nat.two_pow_pos n
  have hr := Sha.rot_lt n x hn hx
  unfold Sha.rot Sha.M at *
  have e1 : ((x : Int) % ((2 ^ n : Nat) : Int) * ((2 ^ (32 - n) : Nat) : Int)) = ((x % 2 ^ n * 2 ^ (32 - n) : Nat) : Int) := by rw [Int.natCast_mul, Int.natCast_emod]
  have e2 : ((x : Int) / ((2 ^ n : Nat) : Int)) = ((x / 2 ^ n : Nat) : Int) := by rw [Int.natCast_ediv]
  rw [e1, e2, IntKind.wrap_u64, IntKind.wrap_u64, IntKind.wrap_u64]
  generalize x % 2 ^ n * 2 ^ (32 - n) = p at *
  generalize x / 2 ^ n = q at *
  refine ⟨?_, h0, by omega⟩
  omega

set_option maxRecDepth 100000 in
set_option maxHeartbeats 400000 in
theorem rturn_any (x n : Nat) (hn : n ≤ 32) (hx : x < 4294967296) (w : World) :
    Calls Tryd.prog 32 #[.int .u64 x, .int .i64 n] w fun e w' => e = .returned (.int .u64 (Sha.rot n x)) ∧ ∃ q, w' = w.drewN q := by
  obtain ⟨A, hA⟩ : ∃ A, A = 2 ^ n := ⟨_, rfl⟩
  obtain ⟨B, hB⟩ : ∃ B, B = 2 ^ (32 - n) := ⟨_, rfl⟩
  obtain ⟨hv, hA0, _⟩ := rot_val n A B x hn hA hB hx
  have HV := Lib.hid hv; clear hv
  have HA := Lib.hid hA; clear hA
  have HB := Lib.hid hB; clear hB
  have t1 := fun w => two_any n A (by omega) HA.out w
  have t2 := fun w => two_any (32 - n) B (by omega) HB.out w
  have e32 : (((32 - n : Nat)) : Int) = 32 - (n : Int) := by omega
  rw [e32] at t2
  have T1 := Lib.hid t1; clear t1
  have T2 := Lib.hid t2; clear t2
  clear e32
  have hs : IntKind.i64.wrap (32 - (n : Int)) = 32 - (n : Int) := IntWalk.i64_in _ (by omega)
  go_enter Tryd.func32, Tryd.ntmps32
  go_wp2_with fail
  refine wp_region_quiet_lit (by kernel_rfl) (by kernel_rfl) ?_
  repeat (go_big_quiet_step (first | (go_at_call 29; with_reducible exact Calls.quiet_of_same ((T1.out _).mono fun _ _ h => ⟨h.2, h.1.symm⟩)) | (go_at_call 29; with_reducible exact Calls.quiet_of_same ((T2.out _).mono fun _ _ h => ⟨h.2, h.1.symm⟩))))
  refine wpQuiet_nil ?_
  rintro w3 ⟨nq, hw3⟩
  go_wp2_with fail
  go_ret
  exact ⟨congrArg (fun z : Int => Ending.returned (.int .u64 z)) HV.out, ⟨nq, hw3⟩⟩

end Go.Proofs.YteljlnkjdajkgaaDoor
