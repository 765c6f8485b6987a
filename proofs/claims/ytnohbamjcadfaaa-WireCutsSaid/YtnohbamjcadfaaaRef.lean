/- The walks of the reference: numbers and texts as bytes. -/
import Derived.Test.YtnohbamjcadfaaaUse
import Derived.Test.YtnohbamjcadfaaaNumber
import Derived.Deep.RegionWith
namespace Go.Proofs.Ytnohbamjcadfaaa
open Go.RowKit
set_option linter.unusedSimpArgs false

/-- 'string([]byte{c})'. -/
theorem one_string (w : World) (x : Int) (c : UInt8) (h : x = c.toNat) :
    (convert 59 9 (.slice (some ⟨w.heap.size, 0, none⟩) 1 1)).run Try.prog (w.alloc (.cells #[.int .u8 x] 5)) = .ok (.string (strOf [c])) (w.alloc (.cells #[.int .u8 x] 5)) := by
  refine run_convert_bytes_back _ _ _ _ _ _ [c] Try.under_bytes Try.under_byte Try.under_string ?_
  intro j hj
  match j, hj with
  | 0, _ =>
    subst h
    exact cell_one_new w _ _ 0 _ rfl

theorem add_str (a b : List UInt8) : strOf a ++ strOf b = strOf (a ++ b) := by
  apply ByteArray.ext
  simp [strOf, ByteArray.data_append]

theorem one_string_at (g : Nat) (c : UInt8) (W : World) (h : W.cell? ⟨g, 0, none⟩ = some (.int .u8 c.toNat)) :
    (convert 59 9 (.slice (some ⟨g, 0, none⟩) 1 1)).run Try.prog W = .ok (.string (strOf [c])) W := by
  refine run_convert_bytes_back _ _ _ _ _ _ [c] Try.under_bytes Try.under_byte Try.under_string ?_
  intro j hj
  match j, hj with
  | 0, _ => exact h

set_option maxRecDepth 100000 in
set_option maxHeartbeats 1000000 in
theorem refNum_any (n : Nat) : n < 18446744073709551616 → ∀ w : World,
    Calls Try.prog 36 #[.int .u64 n] w fun e w' => e = .returned (.string (strOf (Wire.num n))) ∧ Below w.heap.size w w' := by
  induction n using Nat.strongRecOn with
  | ind n ih =>
    intro hn w
    by_cases h : n < 128
    · have hnum := Wire.num_small n h
      have HNUM := Lib.hid hnum; clear hnum
      have hc := one_string w n (UInt8.ofNat n) (by rw [UInt8.toNat_ofNat']; omega)
      have HIH := Lib.hid ih; clear ih
      go_enter Try.func36, Try.ntmps36
      go_wp2_with fail
      go_ret
      rw [HNUM.out]
      exact ⟨rfl, (Below.refl _ _).alloc (Nat.le_refl _) _⟩
    · have hnum := Wire.num_big n h
      have HNUM := Lib.hid hnum; clear hnum
      have HIH := Lib.hid ih; clear ih
      go_enter Try.func36, Try.ntmps36
      go_wp2_with fail
      have e1 : IntKind.u64.wrap ((n : Int) / 128) = ((n / 128 : Nat) : Int) := by rw [IntKind.wrap_u64]; omega
      have e2 : IntKind.u8.wrap (IntKind.u64.wrap ((n : Int).tmod 128 + 128)) = ((UInt8.ofNat (n % 128 + 128)).toNat : Int) := by
        rw [IntKind.wrap_u8, IntKind.wrap_u64, UInt8.toNat_ofNat']
        have : (n : Int).tmod 128 = ((n % 128 : Nat) : Int) := rfl
        rw [this]; omega
      have hconv := fun g => one_string_at g (UInt8.ofNat (n % 128 + 128))
      have hlt : n / 128 < 18446744073709551616 := by omega
      have hlt2 : n / 128 < n := by omega
      generalize UInt8.ofNat (n % 128 + 128) = c at *
      have hs1 : (strOf [c]).size = 1 := strOf_size [c]
      have hs2 : (strOf (Wire.num (n / 128))).size ≤ 10 := by rw [strOf_size]; exact Wire.num_length _ hlt
      have hadd := add_str [c] (Wire.num (n / 128))
      go_region_with (first | (go_at_call 36; refine (HIH.out (n / 128) hlt2 hlt _).mono ?_; rintro e w1 ⟨rfl, b1⟩; (try have hcell := (b1.cell (p := ⟨w.heap.size, 0, none⟩) (by simp)).trans (cell_one_new w _ _ 0 _ rfl))))
      all_goals
        go_wp2_with fail
        go_ret
        rw [HNUM.out]
        refine ⟨rfl, ?_⟩
        first
          | exact (((Below.refl _ _).alloc (Nat.le_refl _) _).drew).trans (b1.mono (by simp))
          | exact (((Below.refl _ _).drew).trans b1).alloc b1.size _

set_option maxRecDepth 100000 in
set_option maxHeartbeats 1000000 in
theorem refInt_any (i : Int) (h0 : -9223372036854775808 ≤ i) (h1 : i ≤ 9223372036854775807) (w : World) :
    Calls Try.prog 37 #[.int .i64 i] w fun e w' => e = .returned (.string (strOf (Wire.num (Wire.zig i)))) ∧ Below w.heap.size w w' := by
  have hlt := Wire.zig_lt i h0 h1
  have hn := fun w => refNum_any (Wire.zig i) hlt w
  have HN := Lib.hid hn; clear hn hlt
  by_cases h : 0 ≤ i
  · have hz : Wire.zig i = (2 * i).toNat := by unfold Wire.zig; rw [if_pos h]
    have HZ := Lib.hid hz; clear hz
    go_enter Try.func37, Try.ntmps37
    go_wp2_with fail
    rw [show (2 * i) = ((Wire.zig i : Nat) : Int) by rw [HZ.out]; omega]
    refine (HN.out _).mono ?_
    rintro e w1 ⟨rfl, b1⟩
    go_wp2_with fail
    go_ret
    exact ⟨rfl, b1⟩
  · have hz : Wire.zig i = (2 * (-1 - i) + 1).toNat := by unfold Wire.zig; rw [if_neg h]
    have HZ := Lib.hid hz; clear hz
    go_enter Try.func37, Try.ntmps37
    go_wp2_with fail
    rw [show (2 * (-1 - i) + 1) = ((Wire.zig i : Nat) : Int) by rw [HZ.out]; omega]
    refine (HN.out _).mono ?_
    rintro e w1 ⟨rfl, b1⟩
    go_wp2_with fail
    go_ret
    exact ⟨rfl, b1⟩

set_option maxRecDepth 100000 in
set_option maxHeartbeats 1000000 in
theorem refText_any (l : List UInt8) (hl : l.length ≤ 140737488355328) (w : World) :
    Calls Try.prog 38 #[.string (strOf l)] w fun e w' => e = .returned (.string (strOf (Wire.num l.length ++ l))) ∧ Below w.heap.size w w' := by
  have hs := strOf_size l
  have hs1 := strOf_size (Wire.num l.length)
  have hs2 := Wire.num_length l.length (by omega)
  have hadd := add_str (Wire.num l.length) l
  have HA := Lib.hid hadd; clear hadd
  go_enter Try.func38, Try.ntmps38
  go_wp2_with fail
  refine (refNum_any l.length (by omega) _).mono ?_
  rintro e w1 ⟨rfl, b1⟩
  go_wp2_with fail
  go_ret
  rw [← HA.out]
  exact ⟨rfl, b1⟩

set_option maxRecDepth 100000 in
set_option maxHeartbeats 400000 in
theorem refNumber_any (s : ByteArray) (w : World) (hs : s.size ≤ maxLen) :
    Calls Try.prog 34 #[.string s] w fun e w' => w = w' ∧
      e = .returned (.tuple #[.int .u64 (Wire.dec 0 0 s.data.toList).1, .int .i64 (Wire.dec 0 0 s.data.toList).2.1, .int .i64 (Wire.dec 0 0 s.data.toList).2.2]) := by
  unfold maxLen at hs
  go_enter Try.func34, Try.ntmps34
  go_wp2
  go_loop [5, 6, 7] (fun v m i => ∃ k : Nat, ∃ n : Nat, ∃ p : Nat, k ≤ s.size ∧ (k < s.size → k ≤ 9) ∧ n < 128 ^ k ∧ i = .int .i64 k ∧ v = .int .u64 n ∧ m = .int .u64 p ∧ Hid (k ≤ 9 → p = 128 ^ k) ∧ Hid (Wire.dec 0 0 s.data.toList = Wire.dec k n (s.data.toList.drop k))) (fun _ _ i => s.size - (intOf i).toNat)
  case atStart => exact ⟨0, 0, 1, by omega, by omega, by decide, rfl, rfl, rfl, fun _ => rfl, rfl⟩
  case round =>
    obtain ⟨k, n, p, hk, hk9, hn, rfl, rfl, rfl, hp, hd⟩ := hrel
    have Hn := Lib.hid hn; clear hn
    by_cases hlt : k < s.size
    · have hd' := drop_cons s k hlt
      replace hk9 := hk9 hlt
      have HD : Hid (List.drop k s.data.toList = s[k] :: List.drop (k + 1) s.data.toList) := hd'; clear hd'
      have hc256 := s[k].toNat_lt
      rcases (show k < 9 ∨ k = 9 by omega) with h9 | h9
      · have h9' : ((k : Int) == 9) = false := by simp only [beq_eq_false_iff_ne, ne_eq]; omega
        obtain ⟨q, hq1, hq2⟩ := ref_weight k p hp.out
        have HQ1 := Lib.hid hq1; clear hq1
        have HQ2 := Lib.hid hq2; clear hq2
        go_wp2
        all_goals (try simp only [beq_iff_eq, beq_eq_false_iff_ne, ne_eq] at *)
        all_goals first
          | (rw [ref_step n k p s[k] hk9 Hn.out (by omega) (hp.out hk9), HQ1.out]
             exact ⟨⟨k + 1, _, q, by omega, by omega, number_lt n k s[k] Hn.out, by go_num, rfl, rfl, HQ2.out, by rw [hd.out, HD.out]; exact Wire.dec_more (by omega) (by omega)⟩, by simp [intOf]; omega⟩)
          | (go_ret3
             refine ⟨rfl, ?_⟩
             rw [hd.out, HD.out]
             first | (rw [Wire.dec_stop (by omega)]; rfl) | (rw [ref_step n k p s[k] hk9 Hn.out (by omega) (hp.out hk9), Wire.dec_last (by omega) (by omega)]; rfl))
      · subst h9
        by_cases hc0 : s[9].toNat = 0
        · have hc0' : ((s[9].toNat : Int) == 0) = true := by simpa using hc0
          clear hc0
          go_wp2
          go_ret3
          refine ⟨rfl, ?_⟩
          rw [hd.out, HD.out]
          simp only [beq_iff_eq] at hc0'
          rw [Wire.dec_stop (by omega)]; rfl
        · have hc0' : ((s[9].toNat : Int) == 0) = false := by rw [beq_eq_false_iff_ne]; omega
          by_cases hc1 : s[9].toNat ≤ 1
          · go_wp2
            go_ret3
            refine ⟨rfl, ?_⟩
            rw [hd.out, HD.out]
            rw [ref_step n 9 p s[9] (by omega) Hn.out (by omega) (hp.out (by omega)), Wire.dec_last (by omega) (by omega)]; rfl
          · go_wp2
            go_ret3
            refine ⟨rfl, ?_⟩
            rw [hd.out, HD.out]
            rw [Wire.dec_stop (by omega)]; rfl
    · go_wp2
      go_ret3
      have : List.drop k s.data.toList = [] := List.drop_of_length_le (by simp; omega)
      rw [hd.out, this]
      exact ⟨rfl, rfl⟩
end Go.Proofs.Ytnohbamjcadfaaa
