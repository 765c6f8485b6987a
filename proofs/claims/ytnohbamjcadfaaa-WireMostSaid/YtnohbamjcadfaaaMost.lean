/- WireMost: a text is read just if it is no longer than may be. The walk of the law. -/
import Derived.Test.YtnohbamjcadfaaaUse
namespace Go.Proofs.Ytnohbamjcadfaaa
open Go.RowKit

set_option maxRecDepth 100000 in
set_option maxHeartbeats 1000000 in
theorem most_walk (w : World) (l : List UInt8) (hl : l.length ≤ 140737488351232) (most : Int) (hm1 : most ≤ 9223372036854775807) :
    Calls Try.prog 5 #[.string (strOf l), .int .i64 most] w fun e w' => e = .returned (.bool true) ∧ Below w.heap.size w w' := by
  have hs := strOf_size l
  go_enter Try.func5, Try.ntmps5
  go_wp2_with fail
  refine (newOut_use _).mono ?_
  rintro e w1 ⟨rfl, n1, b1, s1⟩
  go_wp2_with fail
  refine (awake_any _).mono ?_
  rintro e w2 ⟨rfl, b2⟩
  replace n1 := n1.below b2
  have s2 := b2.size
  have B2 := b1.trans (b2.mono (by omega))
  clear b1 b2
  by_cases hlong : 300 < l.length
  · go_wp2_with fail
    refine (awake_any _).mono ?_
    rintro e w3 ⟨rfl, b3⟩
    go_wp2_with fail
    go_ret
    exact ⟨rfl, B2.trans (b3.mono (by omega))⟩
  · go_wp2_with fail
    refine (outText_any (strOf l) (by omega) w2.heap.size _ _ _ (n1.is _) (Nat.le_refl _) (by simp; omega)).mono ?_
    rintro e w3 ⟨rfl, o3, b3⟩
    have s3 := b3.size
    have B3 := Below.more B2 b3 (Nat.le_refl _) (by omega)
    rw [strOf_size, strOf_list, List.nil_append] at o3
    clear b3 n1 B2
    go_wp2_with fail
    refine (outDone_str _ _ _ _ o3).mono ?_
    rintro e w' ⟨rfl, rfl⟩
    clear o3
    go_wp2_with fail
    refine (newIn_use _ _).mono ?_
    rintro e w4 ⟨rfl, i4, b4, s4⟩
    have B4 := B3.trans (b4.mono (by omega))
    have hle := Wire.num_length l.length (by omega)
    have hlm : (Wire.num l.length ++ l).length ≤ maxLen := by rw [List.length_append]; unfold maxLen; omega
    clear b4 B3
    by_cases hm : most < l.length
    · have hr := Wire.rdText_most most l [] (by omega) hm
      rw [List.append_nil] at hr
      have HR := Lib.hid hr; clear hr
      go_wp2_with fail
      refine (inText_any _ _ 0 most hm1 hlm _ i4).mono ?_
      rintro e w5 ⟨rfl, i5, b5⟩
      rw [HR.out] at i5 ⊢
      have B5 := Below.more B4 b5 (by omega) (by omega)
      clear i4 b5 B4
      have hst := strOf_toList []
      simp only at i5 ⊢
      go_wp2_with fail
      refine (inErr_any _ _ _ _ i5).mono ?_
      rintro e w' ⟨rfl, rfl⟩
      go_wp2_with fail
      go_ret
      exact ⟨rfl, B5⟩
    · have hr := Wire.rdText_text most l [] (by omega) (by omega)
      rw [List.append_nil] at hr
      have HR := Lib.hid hr; clear hr
      go_wp2_with fail
      refine (inText_any _ _ 0 most hm1 hlm _ i4).mono ?_
      rintro e w5 ⟨rfl, i5, b5⟩
      rw [HR.out] at i5 ⊢
      have B5 := Below.more B4 b5 (by omega) (by omega)
      clear i4 b5 B4
      simp only at i5 ⊢
      go_wp2_with fail
      refine (inEnd_any _ _ _ _ i5).mono ?_
      rintro e w' ⟨rfl, rfl⟩
      have he : endErr [] ((0 : Nat) : Int) = 0 := rfl
      go_wp2_with fail
      go_ret
      exact ⟨rfl, B5⟩

theorem most_law (w : World) (a0 : ByteArray) (w0 : a0.size ≤ 140737488351232) (a1 : Int) (w1 : (Lit.int .i64 a1).wf = true) :
    Calls Try.prog 5 #[.string a0, .int .i64 a1] w fun e w' => e = .returned (.bool true) ∧ Below w.heap.size w w' := by
  obtain ⟨l, rfl⟩ := str_eta a0
  rw [strOf_size] at w0
  exact most_walk w l w0 a1 (bounds_i64 w1).2
end Go.Proofs.Ytnohbamjcadfaaa
