/- The walk of wire.number: it reads what Wire.dec says. -/
import Derived.Test.YtnohbamjcadfaaaRows
import Derived.Test.YtnohbamjcadfaaaPure
import Derived.Test.YtnohbamjcadfaaaBits
import Derived.WalkKit
import Derived.WalkSpells
import Derived.WalkLawsBesides
import Derived.Lib.Hide
namespace Go.Proofs.Ytnohbamjcadfaaa
open Go.RowKit

theorem drop_cons (s : ByteArray) (k : Nat) (h : k < s.size) : s.data.toList.drop k = s[k] :: s.data.toList.drop (k + 1) := by
  rw [List.drop_eq_getElem_cons (by simpa using h)]; rfl

set_option maxRecDepth 100000 in
set_option maxHeartbeats 400000 in
theorem number_any (s : ByteArray) (w : World) (hs : s.size ≤ maxLen) :
    Calls Try.prog 31 #[.string s] w fun e w' => w = w' ∧
      e = .returned (.tuple #[.int .u64 (Wire.dec 0 0 s.data.toList).1, .int .i64 (Wire.dec 0 0 s.data.toList).2.1, .int .i64 (Wire.dec 0 0 s.data.toList).2.2]) := by
  unfold maxLen at hs
  go_enter Try.func31, Try.ntmps31
  go_wp2
  go_loop [5, 10] (fun v i => ∃ k : Nat, ∃ n : Nat, k ≤ s.size ∧ (k < s.size → k ≤ 9) ∧ n < 128 ^ k ∧ i = .int .i64 k ∧ v = .int .u64 n ∧ Hid (Wire.dec 0 0 s.data.toList = Wire.dec k n (s.data.toList.drop k))) (fun _ i => s.size - (intOf i).toNat)
  case atStart => exact ⟨0, 0, by omega, by omega, by decide, rfl, rfl, rfl⟩
  case round =>
    obtain ⟨k, n, hk, hk9, hn, rfl, rfl, hd⟩ := hrel
    have Hn := Lib.hid hn; clear hn
    by_cases hlt : k < s.size
    · have hd' := drop_cons s k hlt
      replace hk9 := hk9 hlt
      have HD : Hid (List.drop k s.data.toList = s[k] :: List.drop (k + 1) s.data.toList) := hd'; clear hd'
      have hc256 := s[k].toNat_lt
      rcases (show k < 9 ∨ k = 9 by omega) with h9 | h9
      · have h9' : ((k : Int) == 9) = false := by simp only [beq_eq_false_iff_ne, ne_eq]; omega
        go_wp2
        all_goals (try simp only [beq_iff_eq, beq_eq_false_iff_ne, ne_eq] at *)
        all_goals first
          | (rw [number_step n k s[k] hk9 Hn.out (by omega)]
             exact ⟨⟨k + 1, _, by omega, by omega, number_lt n k s[k] Hn.out, by go_num, rfl, by rw [hd.out, HD.out]; exact Wire.dec_more (by omega) (by omega)⟩, by simp [intOf]; omega⟩)
          | (go_ret3
             refine ⟨rfl, ?_⟩
             rw [hd.out, HD.out]
             first | (rw [Wire.dec_stop (by omega)]; rfl) | (rw [number_step n k s[k] hk9 Hn.out (by omega), Wire.dec_last (by omega) (by omega)]; rfl))
      · subst h9
        by_cases hc1 : s[9].toNat ≤ 1
        · by_cases hc0 : ((s[9].toNat : Int) == 0) = true
          all_goals
            go_wp2
            go_ret3
            refine ⟨rfl, ?_⟩
            rw [hd.out, HD.out]
          · simp only [beq_iff_eq] at hc0
            rw [Wire.dec_stop (by omega)]; rfl
          · simp only [beq_iff_eq] at hc0
            rw [number_step9 n s[9] Hn.out (by omega), Wire.dec_last (by omega) (by omega)]; rfl
        · go_wp2
          go_ret3
          refine ⟨rfl, ?_⟩
          rw [hd.out, HD.out]
          rw [Wire.dec_stop (by omega)]; rfl
    · go_wp2
      go_ret3
      have : List.drop k s.data.toList = [] := List.drop_of_length_le (by simp; omega)
      rw [hd.out, this]
      exact ⟨rfl, rfl⟩
end Go.Proofs.Ytnohbamjcadfaaa
