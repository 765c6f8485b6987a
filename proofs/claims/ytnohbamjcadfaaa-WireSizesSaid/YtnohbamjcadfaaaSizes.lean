/- WireSizes: a greater number has no fewer bytes; one below 0 as many as its opposite, less one. The walk of the law. -/
import Derived.Test.YtnohbamjcadfaaaAwake
import Derived.Test.YtnohbamjcadfaaaOpen
namespace Go.Proofs.Ytnohbamjcadfaaa
open Go.RowKit

set_option maxRecDepth 100000 in
set_option maxHeartbeats 1000000 in
theorem sizes_walk (n m : Nat) (hn : n < 18446744073709551616) (hm : m < 18446744073709551616) (w : World) :
    Calls Try.prog 4 #[.int .u64 n, .int .u64 m] w fun e w' => e = .returned (.bool true) ∧ Below w.heap.size w w' := by
  have hsm : n < m + 1 → (Wire.num n).length ≤ (Wire.num m).length := fun h => Wire.num_mono m n (by omega)
  have hpos := Wire.num_pos n
  have hten := Wire.num_length n hn
  have hone := Wire.num_one n
  have hpr : (Wire.num (Wire.zig ((n : Int) / 2))).length = (Wire.num (Wire.zig (-1 - (n : Int) / 2))).length := by
    have e1 : Wire.zig ((n : Int) / 2) = 2 * (n / 2) := by unfold Wire.zig; rw [if_pos (by omega)]; omega
    have e2 : Wire.zig (-1 - (n : Int) / 2) = 2 * (n / 2) + 1 := by unfold Wire.zig; rw [if_neg (by omega)]; omega
    rw [e1, e2]; exact Wire.num_pair _
  have HSM := Lib.hid hsm
  have HP := Lib.hid hpr
  have HONE := Lib.hid hone
  clear hsm hpr hone
  go_enter Try.func4, Try.ntmps4
  go_wp2_with fail
  refine (newOut_any _).mono ?_
  rintro e w1 ⟨rfl, hw1⟩
  have b1 : Below w.heap.size w w1 := by rw [hw1]; exact (Below.refl _ _).alloc (Nat.le_refl _) _
  have s1 : w.heap.size < w1.heap.size := by rw [hw1]; simp
  have na : OutNew w1 w.heap.size := by rw [hw1]; exact OutNew.made w
  clear hw1
  go_wp2_with fail
  refine (newOut_any _).mono ?_
  rintro e w2 ⟨rfl, hw2⟩
  have b2 : Below w1.heap.size w1 w2 := by rw [hw2]; exact (Below.refl _ _).alloc (Nat.le_refl _) _
  have s2 : w1.heap.size < w2.heap.size := by rw [hw2]; simp
  have nb : OutNew w2 w1.heap.size := by rw [hw2]; exact OutNew.made w1
  replace na := na.below b2
  clear hw2
  go_wp2_with fail
  refine (newOut_any _).mono ?_
  rintro e w3 ⟨rfl, hw3⟩
  have b3 : Below w2.heap.size w2 w3 := by rw [hw3]; exact (Below.refl _ _).alloc (Nat.le_refl _) _
  have s3 : w2.heap.size < w3.heap.size := by rw [hw3]; simp
  have nc : OutNew w3 w2.heap.size := by rw [hw3]; exact OutNew.made w2
  replace na := na.below b3
  replace nb := nb.below b3
  clear hw3
  go_wp2_with fail
  refine (newOut_any _).mono ?_
  rintro e w4 ⟨rfl, hw4⟩
  have b4 : Below w3.heap.size w3 w4 := by rw [hw4]; exact (Below.refl _ _).alloc (Nat.le_refl _) _
  have s4 : w3.heap.size < w4.heap.size := by rw [hw4]; simp
  have nd : OutNew w4 w3.heap.size := by rw [hw4]; exact OutNew.made w3
  replace na := na.below b4
  replace nb := nb.below b4
  replace nc := nc.below b4
  clear hw4
  have B4 : Below w.heap.size w w4 := b1.trans ((b2.mono (by omega)).trans ((b3.mono (by omega)).trans (b4.mono (by omega))))
  clear b1 b2 b3 b4
  go_wp2_with fail
  refine (awake_any _).mono ?_
  rintro e w5 ⟨rfl, b5⟩
  replace na := na.below b5
  replace nb := nb.below b5
  replace nc := nc.below b5
  replace nd := nd.below b5
  have s5 := b5.size
  replace B4 := B4.trans (b5.mono (by omega))
  clear b5
  go_wp2_with fail
  refine (outNum_any n hn w5.heap.size _ _ _ (na.is _) (Nat.le_refl _) (by decide)).mono ?_
  rintro e w6 ⟨rfl, oa, b6⟩
  replace nb := nb.but b6 (by omega)
  replace nc := nc.but b6 (by omega)
  replace nd := nd.but b6 (by omega)
  have s6 := b6.size
  replace B4 := B4.trans ((b6.mono (B' := w.heap.size) (by omega)).below (by omega))
  clear b6 na
  go_wp2_with fail
  refine (outNum_any m hm w6.heap.size _ _ _ (nb.is _) (Nat.le_refl _) (by decide)).mono ?_
  rintro e w7 ⟨rfl, ob, b7⟩
  replace oa := oa.but b7 (by omega) nb.is0.noRow
  replace nc := nc.but b7 (by omega)
  replace nd := nd.but b7 (by omega)
  have s7 := b7.size
  replace B4 := B4.trans ((b7.mono (B' := w.heap.size) (by omega)).below (by omega))
  clear b7 nb
  have hi2 : wrap64 ((n : Int) / 2) = (n : Int) / 2 := IntWalk.wrap64_in _ ⟨by omega, by omega⟩
  go_wp2_with fail
  refine (outInt_any ((n : Int) / 2) (by omega) (by omega) w7.heap.size _ _ _ (nc.is _) (Nat.le_refl _) (by decide)).mono ?_
  rintro e w8 ⟨rfl, oc, b8⟩
  replace oa := oa.but b8 (by omega) nc.is0.noRow
  replace ob := ob.but b8 (by omega) nc.is0.noRow
  replace nd := nd.but b8 (by omega)
  have s8 := b8.size
  replace B4 := B4.trans ((b8.mono (B' := w.heap.size) (by omega)).below (by omega))
  clear b8 nc
  go_wp2_with fail
  refine (outInt_any (-1 - (n : Int) / 2) (by omega) (by omega) w8.heap.size _ _ _ (nd.is _) (Nat.le_refl _) (by decide)).mono ?_
  rintro e w9 ⟨rfl, od, b9⟩
  replace oa := oa.but b9 (by omega) nd.is0.noRow
  replace ob := ob.but b9 (by omega) nd.is0.noRow
  replace oc := oc.but b9 (by omega) nd.is0.noRow
  replace B4 := B4.trans ((b9.mono (B' := w.heap.size) (by omega)).below (by omega))
  clear b9 nd s1 s2 s3 s4 s5 s6 s7 s8
  simp only [List.nil_append] at oa ob oc od
  have za := strOf_size (Wire.num n)
  have zb := strOf_size (Wire.num m)
  have zc := strOf_size (Wire.num (Wire.zig ((n : Int) / 2)))
  have zd := strOf_size (Wire.num (Wire.zig (-1 - (n : Int) / 2)))
  rw [← HP.out] at zd
  go_wp2_with fail
  refine (outDone_str _ _ _ _ oa).mono ?_
  rintro e w' ⟨rfl, rfl⟩
  go_wp2_with fail
  refine (outDone_str _ _ _ _ ob).mono ?_
  rintro e w' ⟨rfl, rfl⟩
  have hne : ((Wire.num n).length : Int) = 1 ↔ (n : Int) < 128 := by have := HONE.out; omega
  by_cases h128 : (n : Int) < 128
  · have h1 : (((Wire.num n).length : Int) == 1) = true := beq_iff_eq.2 (hne.2 h128)
    have H1 := Lib.hid hne; clear hne
    by_cases hnm : m < n
    · go_wp2_with fail
      refine (outDone_str _ _ _ _ oc).mono ?_
      rintro e w' ⟨rfl, rfl⟩
      go_wp2_with fail
      refine (outDone_str _ _ _ _ od).mono ?_
      rintro e w' ⟨rfl, rfl⟩
      go_wp2_with fail
      go_ret
      exact ⟨rfl, B4⟩
    · have hsm := HSM.out (by omega)
      go_wp2_with fail
      refine (outDone_str _ _ _ _ oc).mono ?_
      rintro e w' ⟨rfl, rfl⟩
      go_wp2_with fail
      refine (outDone_str _ _ _ _ od).mono ?_
      rintro e w' ⟨rfl, rfl⟩
      go_wp2_with fail
      go_ret
      exact ⟨rfl, B4⟩
  · have h1 : (((Wire.num n).length : Int) == 1) = false := beq_eq_false_iff_ne.2 (fun h => h128 (hne.1 h))
    have H1 := Lib.hid hne; clear hne
    by_cases hnm : m < n
    · go_wp2_with fail
      refine (outDone_str _ _ _ _ oc).mono ?_
      rintro e w' ⟨rfl, rfl⟩
      go_wp2_with fail
      refine (outDone_str _ _ _ _ od).mono ?_
      rintro e w' ⟨rfl, rfl⟩
      go_wp2_with fail
      go_ret
      exact ⟨congrArg (fun b => Ending.returned (.bool b)) (by rw [Bool.not_eq_true', decide_eq_false_iff_not]; omega), B4⟩
    · have hsm := HSM.out (by omega)
      go_wp2_with fail
      refine (outDone_str _ _ _ _ oc).mono ?_
      rintro e w' ⟨rfl, rfl⟩
      go_wp2_with fail
      refine (outDone_str _ _ _ _ od).mono ?_
      rintro e w' ⟨rfl, rfl⟩
      go_wp2_with fail
      go_ret
      exact ⟨congrArg (fun b => Ending.returned (.bool b)) (by rw [Bool.not_eq_true', decide_eq_false_iff_not]; omega), B4⟩
end Go.Proofs.Ytnohbamjcadfaaa

namespace Go.Proofs.Ytnohbamjcadfaaa
open Go.RowKit
theorem sizes_law (w : World) (a0 : Int) (w0 : (Lit.int .u64 a0).wf = true) (a1 : Int) (w1 : (Lit.int .u64 a1).wf = true) :
    Calls Try.prog 4 #[.int .u64 a0, .int .u64 a1] w fun e w' => e = .returned (.bool true) ∧ Below w.heap.size w w' := by
  have b0 := bounds_u64 w0
  have b1 := bounds_u64 w1
  obtain ⟨n, rfl⟩ := Int.eq_ofNat_of_zero_le b0.1
  obtain ⟨m, rfl⟩ := Int.eq_ofNat_of_zero_le b1.1
  exact sizes_walk n m (by omega) (by omega) w
end Go.Proofs.Ytnohbamjcadfaaa
