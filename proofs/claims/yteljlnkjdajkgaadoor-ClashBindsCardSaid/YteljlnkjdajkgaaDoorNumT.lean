/- Numbers as bytes: wire.Out's end, and the reference's number. (Parts of XOut2 and XRef, for the seats that lack the rest.) -/
import Derived.Test.YteljlnkjdajkgaaDoorOut
import Derived.RegionTactic
import Derived.Deep.RegionLaw
import Derived.Deep.RegionWith
namespace Go.Proofs.YteljlnkjdajkgaaDoor
open Go.RowKit
set_option linter.unusedSimpArgs false
set_option linter.unusedVariables false

theorem Tryd.under_string : Tryd.prog.underlying 9 = some .string := by kernel_rfl
theorem Tryd.under_byte : Tryd.prog.underlying 5 = some (.int .u8) := by kernel_rfl

/-- What an Out holds, as a string. -/
theorem out_string {w : World} {base : Nat} {v : Value} {bs : List UInt8} (hown : w.ownsRow base 5 1 v bs.length (byteCells bs)) :
    (convert 42 9 v).run Tryd.prog w = .ok (.string ⟨bs.toArray⟩) w := by
  rcases hown.2 with ⟨rfl, hn⟩ | ⟨g, cap, cur, rfl, _, hg, _, _, _, htk⟩
  · obtain rfl := List.eq_nil_of_length_eq_zero hn
    rw [run_convert_bytes_string w _ _ _ _ _ _ Tryd.under_bytes Tryd.under_byte Tryd.under_string]
    simp [Conv.bytesToString]
    rfl
  · refine run_convert_bytes_back w _ _ _ _ _ bs Tryd.under_bytes Tryd.under_byte Tryd.under_string ?_
    intro j hj
    have := hown.cells (g := g) rfl j (.int .u8 (bs[j].toNat : Int)) (by simp [byteCells, hj])
    exact this

set_option maxRecDepth 100000 in
set_option maxHeartbeats 400000 in
theorem outDone_any (base b : Nat) (bs : List UInt8) (w : World) (h : OutIs w base b bs) :
    Calls Tryd.prog 25 #[.pointer (some ⟨b, 0, none⟩)] w fun e w' => w = w' ∧ e = .returned (.string ⟨bs.toArray⟩) := by
  obtain ⟨v, hb, hown⟩ := h
  obtain ⟨a', c', rfl⟩ := ownsRow_slice hown
  have hcv := out_string hown
  have hc := cell_of_one hb
  clear hown hb
  go_enter Tryd.func25, Tryd.ntmps25
  go_wp2
  go_ret
  exact ⟨rfl, rfl⟩

/-- 'string([]byte{c})'. -/
theorem one_string (w : World) (x : Int) (c : UInt8) (h : x = c.toNat) :
    (convert 42 9 (.slice (some ⟨w.heap.size, 0, none⟩) 1 1)).run Tryd.prog (w.alloc (.cells #[.int .u8 x] 5)) = .ok (.string (strOf [c])) (w.alloc (.cells #[.int .u8 x] 5)) := by
  refine run_convert_bytes_back _ _ _ _ _ _ [c] Tryd.under_bytes Tryd.under_byte Tryd.under_string ?_
  intro j hj
  match j, hj with
  | 0, _ =>
    subst h
    exact cell_one_new w _ _ 0 _ rfl

theorem one_string_at (g : Nat) (c : UInt8) (W : World) (h : W.cell? ⟨g, 0, none⟩ = some (.int .u8 c.toNat)) :
    (convert 42 9 (.slice (some ⟨g, 0, none⟩) 1 1)).run Tryd.prog W = .ok (.string (strOf [c])) W := by
  refine run_convert_bytes_back _ _ _ _ _ _ [c] Tryd.under_bytes Tryd.under_byte Tryd.under_string ?_
  intro j hj
  match j, hj with
  | 0, _ => exact h

set_option maxRecDepth 100000 in
set_option maxHeartbeats 1000000 in
theorem refNum_any (n : Nat) : n < 18446744073709551616 → ∀ w : World,
    Calls Tryd.prog 28 #[.int .u64 n] w fun e w' => e = .returned (.string (strOf (Wire.num n))) ∧ Below w.heap.size w w' := by
  induction n using Nat.strongRecOn with
  | ind n ih =>
    intro hn w
    by_cases h : n < 128
    · have hnum := Wire.num_small n h
      have HNUM := Lib.hid hnum; clear hnum
      have hc := one_string w n (UInt8.ofNat n) (by rw [UInt8.toNat_ofNat']; omega)
      have HIH := Lib.hid ih; clear ih
      go_enter Tryd.func28, Tryd.ntmps28
      go_wp2_with fail
      go_ret
      rw [HNUM.out]
      exact ⟨rfl, (Below.refl _ _).alloc (Nat.le_refl _) _⟩
    · have hnum := Wire.num_big n h
      have HNUM := Lib.hid hnum; clear hnum
      have HIH := Lib.hid ih; clear ih
      go_enter Tryd.func28, Tryd.ntmps28
      go_wp2_with fail
      have e1 : IntKind.u64.wrap ((n : Int) / 128) = ((n / 128 : Nat) : Int) := by rw [IntKind.wrap_u64]; omega
      have e2 : IntKind.u8.wrap (IntKind.u64.wrap ((n : Int).tmod 128 + 128)) = ((UInt8.ofNat (n % 128 + 128)).toNat : Int) := by
        rw [IntKind.wrap_u8, IntKind.wrap_u64, UInt8.toNat_ofNat']
        have : (n : Int).tmod 128 = ((n % 128 : Nat) : Int) := rfl
        rw [this]; omega
      have hconv := fun g => one_string_at g (UInt8.ofNat (n % 128 + 128))
      have hlt : n / 128 < 18446744073709551616 := by omega
      have hlt2 : n / 128 < n := by omega
      generalize UInt8.ofNat (n % 128 + 128) = c at *
      have hs1 : (strOf [c]).size = 1 := strOf_size [c]
      have hs2 : (strOf (Wire.num (n / 128))).size ≤ 10 := by rw [strOf_size]; exact Wire.num_length _ hlt
      have hadd := add_str [c] (Wire.num (n / 128))
      go_region_with (first | (go_at_call 28; refine (HIH.out (n / 128) hlt2 hlt _).mono ?_; rintro e w1 ⟨rfl, b1⟩; (try have hcell := (b1.cell (p := ⟨w.heap.size, 0, none⟩) (by simp)).trans (cell_one_new w _ _ 0 _ rfl))))
      all_goals
        go_wp2_with fail
        go_ret
        rw [HNUM.out]
        refine ⟨rfl, ?_⟩
        first
          | exact (((Below.refl _ _).alloc (Nat.le_refl _) _).drew).trans (b1.mono (by simp))
          | exact (((Below.refl _ _).drew).trans b1).alloc b1.size _


end Go.Proofs.YteljlnkjdajkgaaDoor
