/- The walk of the reference's Put. -/
import Derived.Test.YtnohbamjcadfaaaOne
import Derived.Test.YtnohbamjcadfaaaRef
namespace Go.Proofs.Ytnohbamjcadfaaa
open Go.RowKit

theorem bytes_string_at (g o : Nat) (cap : Nat) (l : List UInt8) (W : World) (h : W.rangeAt g o (byteCells l)) :
    (convert 59 9 (.slice (some ⟨g, o, none⟩) l.length cap)).run Try.prog W = .ok (.string (strOf l)) W := by
  refine run_convert_bytes_back _ _ _ _ _ _ l Try.under_bytes Try.under_byte Try.under_string ?_
  intro j hj
  rw [Addr.add_mid]
  exact h j _ (by simp [byteCells, hj])

set_option maxRecDepth 100000 in
set_option maxHeartbeats 1000000 in
theorem refPut_any (f : FieldV) (hf : f.ok) (hs : f.s.size ≤ 140737488351232) (w : World) :
    Calls Try.prog 27 #[.agg f.cells.toArray] w fun e w' => e = .returned (.string (strOf (putV f))) ∧ Below w.heap.size w w' := by
  obtain ⟨g0, g1, g2, g3, g4⟩ := f.get
  have hrange := (field_cell (heap_alloc_new w (.cells f.cells.toArray 47))).2.2.2.2.2
  have hconv := bytes_string_at w.heap.size 5 32 f.h _ hrange
  rw [hf.h1] at hconv
  have HB : Below w.heap.size w (w.alloc (.cells f.cells.toArray 47)) := (Below.refl _ _).alloc (Nat.le_refl _) _
  clear hrange
  have hn1 := hf.n1
  have hi0 := hf.i0
  have hi1 := hf.i1
  by_cases k0 : f.kind = 0
  · have e0 : (f.kind == 0) = true := by simpa using k0
    have HP := Lib.hid (putV_0 f k0); clear k0
    go_enter Try.func27, Try.ntmps27
    go_wp2_with fail
    refine (refNum_any f.n hn1 _).mono ?_
    rintro e w' ⟨rfl, hb⟩
    go_wp2_with fail
    go_ret
    rw [HP.out]
    exact ⟨rfl, HB.trans (hb.mono (by simp))⟩
  · have e0 : (f.kind == 0) = false := by simpa using k0
    by_cases k1 : f.kind = 1
    · have e1 : (f.kind == 1) = true := by simpa using k1
      have HP := Lib.hid (putV_1 f k1); clear k0 k1
      go_enter Try.func27, Try.ntmps27
      go_wp2_with fail
      refine (refInt_any f.i hi0 hi1 _).mono ?_
      rintro e w' ⟨rfl, hb⟩
      go_wp2_with fail
      go_ret
      rw [HP.out]
      exact ⟨rfl, HB.trans (hb.mono (by simp))⟩
    · have e1 : (f.kind == 1) = false := by simpa using k1
      by_cases k2 : f.kind = 2
      · have e2 : (f.kind == 2) = true := by simpa using k2
        have HP := Lib.hid (putV_2 f k2); clear k0 k1 k2
        have htx := fun w => refText_any f.s.data.toList (by rw [bytes_len]; omega) w
        rw [strOf_data, bytes_len] at htx
        have HT := Lib.hid htx; clear htx
        go_enter Try.func27, Try.ntmps27
        go_wp2_with fail
        refine (HT.out _).mono ?_
        rintro e w' ⟨rfl, hb⟩
        go_wp2_with fail
        go_ret
        rw [HP.out]
        exact ⟨rfl, HB.trans (hb.mono (by simp))⟩
      · have e2 : (f.kind == 2) = false := by simpa using k2
        have hp : putV f = f.h := by simp [putV, k0, k1, k2]
        have HP := Lib.hid hp; clear hp k0 k1 k2
        have HC := Lib.hid hconv; clear hconv
        have hconv2 := HC.out
        go_enter Try.func27, Try.ntmps27
        go_wp2_with fail
        go_ret
        rw [HP.out]
        exact ⟨rfl, HB⟩

end Go.Proofs.Ytnohbamjcadfaaa
