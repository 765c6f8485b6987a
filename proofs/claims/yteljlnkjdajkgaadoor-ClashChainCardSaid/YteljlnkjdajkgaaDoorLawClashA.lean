/- The walk of the law ClashRows. -/
import Derived.Test.YteljlnkjdajkgaaDoorClashAwake
namespace Go.Proofs.YteljlnkjdajkgaaDoor
open Go.RowKit
set_option linter.unusedSimpArgs false
set_option linter.unusedVariables false

set_option maxRecDepth 100000 in
set_option maxHeartbeats 4000000 in
theorem rows_list (w : World) (n : Int) (hn : (Lit.int .i64 n).wf = true) (i : Int) (hi : (Lit.int .i64 i).wf = true) (l : List UInt8) (hl : l.length ≤ 140737488351232) (oP : Option Addr) (mP cP : Nat) (P : List (List UInt8)) (hP : HashesAt w oP mP cP P) (hL : Laid w) :
    Calls Tryd.prog 3 #[.int .i64 n, .int .i64 i, .string (strOf l), .slice oP mP cP] w fun e w' => e = .returned (.bool true) ∧ Below w.heap.size w w' := by
  have hstl := strOf_size l
  have hmP : P.length = mP := hP.1.1
  have hcP : mP ≤ cP := hP.1.2.1
  have hxP : cP ≤ 9223372036854775807 := hP.1.2.2.1
  have HP := Lib.hid hP; clear hP
  have HL := Lib.hid hL; clear hL
  go_enter Tryd.func3, Tryd.ntmps3
  go_wp2_with fail
  refine (awake_any _ HL.out).mono ?_
  rintro e w1 ⟨rfl, b1⟩
  replace HP := Lib.hid (HP.out.below (Nat.le_refl _) b1)
  replace HL := Lib.hid (HL.out.below b1)
  by_cases hg : 200 < l.length
  · have ht : decide ((200 : Int) < (l.length : Int)) = true := decide_eq_true (by omega)
    go_wp2_with fail
    refine (awake_any _ HL.out).mono ?_
    rintro e w2 ⟨rfl, b2⟩
    go_wp2_with fail
    go_ret
    exact ⟨rfl, b1.trans (b2.mono b1.size)⟩
  · have ht : decide ((200 : Int) < (l.length : Int)) = false := decide_eq_false (by omega)
    by_cases hg : 40 < mP
    · have ht : decide ((40 : Int) < (mP : Int)) = true := decide_eq_true (by omega)
      go_wp2_with fail
      refine (awake_any _ HL.out).mono ?_
      rintro e w2 ⟨rfl, b2⟩
      go_wp2_with fail
      go_ret
      exact ⟨rfl, b1.trans (b2.mono b1.size)⟩
    · have ht : decide ((40 : Int) < (mP : Int)) = false := decide_eq_false (by omega)
      obtain ⟨q2, c2, v2, hrun, hs, dd⟩ := HashesAt.copy (HP.out.below (Nat.le_refl _) ((Below.refl w1.heap.size w1).alloc (Nat.le_refl _) (.cells #[] 39))) (by omega) ⟨w1.heap.size, 0, none⟩
      have d2 : Below w1.heap.size w1 v2 := ((Below.refl _ _).alloc (Nat.le_refl _) _).trans (dd.mono (by simp))
      have hrun2 := hrun; clear hrun dd
      have C2 := Lib.hid hs; clear hs
      replace HP := Lib.hid (HP.out.below (Nat.le_refl _) d2)
      replace HL := Lib.hid (HL.out.below d2)
      replace b1 := b1.trans (d2.mono b1.size)
      obtain ⟨X, ok, hR⟩ : ∃ X ok, rowsR n i l P = (X, ok) := ⟨_, _, rfl⟩
      have hra := clashRows_all v2 n i l (by omega) _ _ _ P C2.out HL.out
      rw [hR] at hra
      have hrb := fun (w3 : World) (b3 : Below v2.heap.size v2 w3) => refRowsAll_all w3 n i l (by omega) _ _ _ P (HP.out.below (Nat.le_refl _) b3)
      simp only [hR] at hrb
      clear hR
      rcases ok with _ | _
      · simp only [Bool.false_eq_true, if_false, if_true] at hra hrb
        have HRA := Lib.hid hra; clear hra
        have HRB := Lib.hid hrb; clear hrb
        go_wp2_with ((with_reducible show wpList _ _ _ (⟨some 32, _, _, _, _, _⟩ :: _) _ _); refine wpList_append_ran (by kernel_rfl) _ _ _ rfl _ _ rfl rfl hrun2 ?_)
        refine HRA.out.mono ?_
        rintro e w3 ⟨q3, c3, k3, rfl, s3, b3⟩
        have hb := HRB.out w3 b3
        have HRB1 := Lib.hid hb; clear hb HRA HRB
        replace b1 := b1.trans (b3.mono b1.size)
        go_wp2_with fail
        refine HRB1.out.mono ?_
        rintro e w4 ⟨q4, c4, k4, rfl, s4, b4⟩
        have hsm := refSame_any w4 _ _ _ _ _ _ _ _ (s3.below (Nat.le_refl _) b4) s4
        rw [decide_eq_true rfl] at hsm
        have HSM := Lib.hid hsm; clear hsm s3 s4
        replace b1 := b1.trans (b4.mono b1.size)
        go_wp2_with fail
        refine HSM.out.mono ?_
        rintro e w5 ⟨rfl, b5⟩
        go_wp2_with fail
        go_ret
        exact ⟨rfl, b1.trans (b5.mono b1.size)⟩
      · simp only [Bool.false_eq_true, if_false, if_true] at hra hrb
        have HRA := Lib.hid hra; clear hra
        have HRB := Lib.hid hrb; clear hrb
        go_wp2_with ((with_reducible show wpList _ _ _ (⟨some 32, _, _, _, _, _⟩ :: _) _ _); refine wpList_append_ran (by kernel_rfl) _ _ _ rfl _ _ rfl rfl hrun2 ?_)
        refine HRA.out.mono ?_
        rintro e w3 ⟨q3, c3, k3, rfl, s3, b3⟩
        have hb := HRB.out w3 b3
        have HRB1 := Lib.hid hb; clear hb HRA HRB
        replace b1 := b1.trans (b3.mono b1.size)
        go_wp2_with fail
        refine HRB1.out.mono ?_
        rintro e w4 ⟨q4, c4, k4, rfl, s4, b4⟩
        have hsm := refSame_any w4 _ _ _ _ _ _ _ _ (s3.below (Nat.le_refl _) b4) s4
        rw [decide_eq_true rfl] at hsm
        have HSM := Lib.hid hsm; clear hsm s3 s4
        replace b1 := b1.trans (b4.mono b1.size)
        go_wp2_with fail
        refine HSM.out.mono ?_
        rintro e w5 ⟨rfl, b5⟩
        go_wp2_with fail
        go_ret
        exact ⟨rfl, b1.trans (b5.mono b1.size)⟩

theorem rows_law (w : World) (n : Int) (hn : (Lit.int .i64 n).wf = true) (i : Int) (hi : (Lit.int .i64 i).wf = true) (l : ByteArray) (hl : l.size ≤ 140737488351232) (oP : Option Addr) (mP cP : Nat) (P : List (List UInt8)) (hP : RowsAt w oP mP cP 32 byteCells P) (h32P : ∀ p ∈ P, p.length = 32) (hL : Laid w) :
    Calls Tryd.prog 3 #[.int .i64 n, .int .i64 i, .string l, .slice oP mP cP] w fun e w' => e = .returned (.bool true) ∧ Below w.heap.size w w' := by
  have h := rows_list w n hn i hi l.data.toList (by rw [← strOf_size, strOf_data]; exact hl) oP mP cP P ⟨hP, h32P⟩ hL
  rwa [strOf_data] at h

end Go.Proofs.YteljlnkjdajkgaaDoor
