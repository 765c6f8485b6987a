/- The walks of the reference's half, leaf, node, sum, and their kin. -/
import Derived.Test.YteljlnkjdajkgaaDoorTree6
import Derived.Test.YteljlnkjdajkgaaDoorRefOf
namespace Go.Proofs.YteljlnkjdajkgaaDoor
open Go.RowKit
set_option linter.unusedSimpArgs false
set_option linter.unusedVariables false

set_option maxRecDepth 100000 in
theorem refHalfOf_any (w : World) (n : Nat) (h2 : 2 ≤ n) (hn : n ≤ 4611686018427387904) : Calls Tryd.prog 39 #[.int .i64 (n : Int)] w fun e w' => w = w' ∧ e = .returned (.int .i64 (Tree.half n : Int)) := by
  go_enter Tryd.func39, Tryd.ntmps39
  go_wp2_with fail
  go_loopw [3] (fun v wr => Hid (w = wr) ∧ ∃ k i : Nat, v = .int .i64 (k : Int) ∧ Hid (k = 2 ^ i) ∧ k < n ∧ 1 ≤ k) (fun v _ => n - (intOf v).toNat)
  case atStart => exact ⟨Lib.hid rfl, 1, 0, rfl, Lib.hid rfl, by omega, by omega⟩
  case round =>
    obtain ⟨hw, k, i, rfl, hk, hkn, hk1⟩ := hrel
    by_cases hlt : 2 * k < n
    · have ht2 : decide (2 * (k : Int) < (n : Int)) = true := decide_eq_true (by omega)
      go_wp2_with fail
      go_roundw
      case rel => exact ⟨hw, 2 * k, i + 1, by go_num, Lib.hid (by rw [hk.out, Nat.pow_succ]; omega), hlt, by omega⟩
      case measure => simp [intOf]; omega
    · have ht2 : decide (2 * (k : Int) < (n : Int)) = false := decide_eq_false (by omega)
      have hh := Tree.half_of (n := n) (i := i) (by rw [← hk.out]; exact hkn) (by rw [← hk.out]; omega)
      go_wp2_with fail
      go_ret
      exact ⟨hw.out, by rw [hh, hk.out]; rfl⟩

set_option maxRecDepth 100000 in
theorem refHalf_nat (w : World) (n : Nat) (hn : n ≤ 4611686018427387904) : Calls Tryd.prog 40 #[.int .i64 (n : Int)] w fun e w' => w = w' ∧ e = .returned (.int .i64 (Tree.half n : Int)) := by
  by_cases h : n < 2
  · have ht : decide ((n : Int) < 2) = true := decide_eq_true (by omega)
    have hz := Tree.half_zero h
    go_enter Tryd.func40, Tryd.ntmps40
    go_wp2_with fail
    go_ret
    exact ⟨rfl, by rw [hz]; rfl⟩
  · have ht : decide ((n : Int) < 2) = false := decide_eq_false (by omega)
    have hc := refHalfOf_any w n (by omega) hn
    have HC := Lib.hid hc; clear hc
    go_enter Tryd.func40, Tryd.ntmps40
    go_wp2_with fail
    refine HC.out.mono ?_
    rintro e w' ⟨rfl, rfl⟩
    go_wp2_with fail
    go_ret
    exact ⟨rfl, rfl⟩

set_option maxRecDepth 100000 in
theorem refHalf_neg (w : World) (n : Int) (hn : n < 2) (h0 : -9223372036854775808 ≤ n) : Calls Tryd.prog 40 #[.int .i64 n] w fun e w' => w = w' ∧ e = .returned (.int .i64 0) := by
  have ht : decide (n < 2) = true := decide_eq_true hn
  go_enter Tryd.func40, Tryd.ntmps40
  go_wp2_with fail
  go_ret
  exact ⟨rfl, rfl⟩

end Go.Proofs.YteljlnkjdajkgaaDoor
