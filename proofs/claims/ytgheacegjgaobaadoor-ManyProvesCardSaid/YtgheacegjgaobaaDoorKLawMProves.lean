/- The walk of the law ManyProves. -/
import Derived.Test.YtgheacegjgaobaaDoorKG14a
namespace Go.Proofs.YtgheacegjgaobaaDoor
open Go.RowKit
set_option linter.unusedSimpArgs false
set_option linter.unusedVariables false

set_option maxRecDepth 100000 in
set_option maxHeartbeats 4000000 in
theorem mproves_list (w : World) (oK : Option Addr) (mK cK : Nat) (K : List (List UInt8)) (hK : StrsAt w oK mK cK K) (hxK : ∀ l ∈ K, l.length ≤ 9223372036854775807) (oA : Option Addr) (mA cA : Nat) (A : List Int) (hA : IntsAt w oA mA cA A) (hL : Laid w) :
    Calls Tryd.prog 4 #[.slice oK mK cK, .slice oA mA cA] w fun e w' => e = .returned (.bool true) ∧ Below w.heap.size w w' := by
  have hmK : K.length = mK := hK.len
  have hcK := hK.cap
  have hyK := hK.max
  have HK := Lib.hid hK; clear hK
  have HXK := Lib.hid hxK; clear hxK
  have hmA : A.length = mA := hA.len
  have hcA := hA.cap
  have hyA := hA.max
  have HA := Lib.hid hA; clear hA
  have HL := Lib.hid hL; clear hL
  go_enter Tryd.func4, Tryd.ntmps4
  go_wp2_with fail
  refine (awake4_any _ HL.out).mono ?_
  rintro e w1 ⟨rfl, b1⟩
  replace HK := Lib.hid (HK.out.below (Nat.le_refl _) b1)
  replace HA := Lib.hid (HA.out.below (Nat.le_refl _) b1)
  replace HL := Lib.hid (HL.out.below b1)
  rcases hf : few K with _ | _
  · have hfc := refFew_any w1 oK mK cK K HK.out HXK.out
    rw [hf] at hfc
    have HFC := Lib.hid hfc; clear hfc hf
    go_wp2_with fail
    refine HFC.out.mono ?_
    rintro e w' ⟨rfl, rfl⟩
    go_wp2_with fail
    refine (awake4_any _ HL.out).mono ?_
    rintro e w2 ⟨rfl, b2⟩
    go_wp2_with fail
    go_ret
    exact ⟨rfl, b1.trans (b2.mono b1.size)⟩
  · have hfc := refFew_any w1 oK mK cK K HK.out HXK.out
    rw [hf] at hfc
    obtain ⟨h20, h200⟩ := few_spec hf
    have HFC := Lib.hid hfc; clear hfc hf
    have HLE : Hid (∀ l ∈ K, l.length ≤ 100000) := Lib.hid fun l hl => by have := h200 l hl; omega
    have H200 := Lib.hid h200; clear h200
    go_wp2_with fail
    refine HFC.out.mono ?_
    rintro e w' ⟨rfl, rfl⟩
    clear HFC
    by_cases hg : 30 < mA
    · have ht : decide ((30 : Int) < (mA : Int)) = true := decide_eq_true (by omega)
      go_wp2_with fail
      refine (awake4_any _ HL.out).mono ?_
      rintro e w2 ⟨rfl, b2⟩
      go_wp2_with fail
      go_ret
      exact ⟨rfl, b1.trans (b2.mono b1.size)⟩
    · have ht : decide ((30 : Int) < (mA : Int)) = false := decide_eq_false (by omega)
      rcases hr : risesB (mK : Int) A with _ | _
      · have HSZ := Lib.hid (sizeI_zero hr)
        have HR := Lib.hid hr; clear hr
        obtain ⟨q11, c11, v11, hrun, hs, dd⟩ := StrsAt.copy (HK.out.below (Nat.le_refl _) ((Below.refl w1.heap.size w1).alloc (Nat.le_refl _) (.cells #[] 9))) (by omega) ⟨w1.heap.size, 0, none⟩
        have d11 : Below w1.heap.size w1 v11 := ((Below.refl _ _).alloc (Nat.le_refl _) _).trans (dd.mono (by simp))
        have hrun11 := hrun; clear hrun dd
        have C11 := Lib.hid hs; clear hs
        replace HK := Lib.hid (HK.out.below (Nat.le_refl _) d11)
        replace HA := Lib.hid (HA.out.below (Nat.le_refl _) d11)
        replace HL := Lib.hid (HL.out.below d11)
        replace b1 := b1.trans (d11.mono b1.size)
        obtain ⟨q12, c12, v12, hrun, hs, dd⟩ := IntsAt.copy (HA.out.below (Nat.le_refl _) ((Below.refl v11.heap.size v11).alloc (Nat.le_refl _) (.cells #[] 3))) (by omega) ⟨v11.heap.size, 0, none⟩
        have d12 : Below v11.heap.size v11 v12 := ((Below.refl _ _).alloc (Nat.le_refl _) _).trans (dd.mono (by simp))
        have hrun12 := hrun; clear hrun dd
        have C12 := Lib.hid hs; clear hs
        replace HK := Lib.hid (HK.out.below (Nat.le_refl _) d12)
        replace HA := Lib.hid (HA.out.below (Nat.le_refl _) d12)
        replace HL := Lib.hid (HL.out.below d12)
        replace C11 := Lib.hid (C11.out.below (Nat.le_refl _) d12)
        replace b1 := b1.trans (d12.mono b1.size)
        have hc13 := manyProve_bad v12 (some q11) _ mK c11 _ _ _ C11.out.cap C11.out.max C12.out HR.out
        have HC13 := Lib.hid hc13; clear hc13
        go_wp2_with (first | ((with_reducible show wpList _ _ _ (⟨some 24, _, _, _, _, _⟩ :: _) _ _); refine wpList_append_ran (by kernel_rfl) _ _ _ rfl _ _ rfl rfl hrun11 ?_) | ((with_reducible show wpList _ _ _ (⟨some 27, _, _, _, _, _⟩ :: _) _ _); refine wpList_append_ran (by kernel_rfl) _ _ _ rfl _ _ rfl rfl hrun12 ?_))
        refine HC13.out.mono ?_
        rintro e v13 ⟨rfl, d13⟩
        replace HK := Lib.hid (HK.out.below (Nat.le_refl _) d13)
        replace HA := Lib.hid (HA.out.below (Nat.le_refl _) d13)
        replace HL := Lib.hid (HL.out.below d13)
        replace C11 := Lib.hid (C11.out.below (Nat.le_refl _) d13)
        replace C12 := Lib.hid (C12.out.below (Nat.le_refl _) d13)
        replace b1 := b1.trans (d13.mono b1.size)
        clear HC13
        have hrn := refRises_any v13 (mK : Int) _ _ _ A HA.out
        rw [HR.out] at hrn
        have hc14 := hrn
        have HC14 := Lib.hid hc14; clear hc14
        go_wp2_with fail
        refine HC14.out.mono ?_
        rintro e v14 ⟨rfl, d14⟩
        replace HK := Lib.hid (HK.out.below (Nat.le_refl _) d14)
        replace HA := Lib.hid (HA.out.below (Nat.le_refl _) d14)
        replace HL := Lib.hid (HL.out.below d14)
        replace C11 := Lib.hid (C11.out.below (Nat.le_refl _) d14)
        replace C12 := Lib.hid (C12.out.below (Nat.le_refl _) d14)
        replace b1 := b1.trans (d14.mono b1.size)
        clear HC14
        obtain ⟨q15, c15, v15, hrun, hs, dd⟩ := IntsAt.copy (HA.out.below (Nat.le_refl _) ((Below.refl v14.heap.size v14).alloc (Nat.le_refl _) (.cells #[] 3))) (by omega) ⟨v14.heap.size, 0, none⟩
        have d15 : Below v14.heap.size v14 v15 := ((Below.refl _ _).alloc (Nat.le_refl _) _).trans (dd.mono (by simp))
        have hrun15 := hrun; clear hrun dd
        have C15 := Lib.hid hs; clear hs
        replace HK := Lib.hid (HK.out.below (Nat.le_refl _) d15)
        replace HA := Lib.hid (HA.out.below (Nat.le_refl _) d15)
        replace HL := Lib.hid (HL.out.below d15)
        replace C11 := Lib.hid (C11.out.below (Nat.le_refl _) d15)
        replace C12 := Lib.hid (C12.out.below (Nat.le_refl _) d15)
        replace b1 := b1.trans (d15.mono b1.size)
        have hrn := manyRises_any v15 (mK : Int) _ _ _ A C15.out
        rw [HR.out] at hrn
        have hc16 := hrn
        have HC16 := Lib.hid hc16; clear hc16
        go_wp2_with (first | ((with_reducible show wpList _ _ _ (⟨some 39, _, _, _, _, _⟩ :: _) _ _); refine wpList_append_ran (by kernel_rfl) _ _ _ rfl _ _ rfl rfl hrun15 ?_))
        refine HC16.out.mono ?_
        rintro e v16 ⟨rfl, d16⟩
        replace HK := Lib.hid (HK.out.below (Nat.le_refl _) d16)
        replace HA := Lib.hid (HA.out.below (Nat.le_refl _) d16)
        replace HL := Lib.hid (HL.out.below d16)
        replace C11 := Lib.hid (C11.out.below (Nat.le_refl _) d16)
        replace C12 := Lib.hid (C12.out.below (Nat.le_refl _) d16)
        replace C15 := Lib.hid (C15.out.below (Nat.le_refl _) d16)
        replace b1 := b1.trans (d16.mono b1.size)
        clear HC16
        obtain ⟨q17, c17, v17, hrun, hs, dd⟩ := IntsAt.copy (HA.out.below (Nat.le_refl _) ((Below.refl v16.heap.size v16).alloc (Nat.le_refl _) (.cells #[] 3))) (by omega) ⟨v16.heap.size, 0, none⟩
        have d17 : Below v16.heap.size v16 v17 := ((Below.refl _ _).alloc (Nat.le_refl _) _).trans (dd.mono (by simp))
        have hrun17 := hrun; clear hrun dd
        have C17 := Lib.hid hs; clear hs
        replace HK := Lib.hid (HK.out.below (Nat.le_refl _) d17)
        replace HA := Lib.hid (HA.out.below (Nat.le_refl _) d17)
        replace HL := Lib.hid (HL.out.below d17)
        replace C11 := Lib.hid (C11.out.below (Nat.le_refl _) d17)
        replace C12 := Lib.hid (C12.out.below (Nat.le_refl _) d17)
        replace C15 := Lib.hid (C15.out.below (Nat.le_refl _) d17)
        replace b1 := b1.trans (d17.mono b1.size)
        have hrn := manySize_all v17 (mK : Int) _ _ _ A C17.out (by omega) HL.out
        rw [HSZ.out] at hrn
        have hc18 := hrn
        have HC18 := Lib.hid hc18; clear hc18
        go_wp2_with (first | ((with_reducible show wpList _ _ _ (⟨some 57, _, _, _, _, _⟩ :: _) _ _); refine wpList_append_ran (by kernel_rfl) _ _ _ rfl _ _ rfl rfl hrun17 ?_))
        refine HC18.out.mono ?_
        rintro e v18 ⟨rfl, d18⟩
        replace HK := Lib.hid (HK.out.below (Nat.le_refl _) d18)
        replace HA := Lib.hid (HA.out.below (Nat.le_refl _) d18)
        replace HL := Lib.hid (HL.out.below d18)
        replace C11 := Lib.hid (C11.out.below (Nat.le_refl _) d18)
        replace C12 := Lib.hid (C12.out.below (Nat.le_refl _) d18)
        replace C15 := Lib.hid (C15.out.below (Nat.le_refl _) d18)
        replace C17 := Lib.hid (C17.out.below (Nat.le_refl _) d18)
        replace b1 := b1.trans (d18.mono b1.size)
        clear HC18
        go_wp2_with fail
        go_ret
        exact ⟨rfl, b1⟩
      · obtain ⟨B, hAB, hBP, hBn⟩ := rises_form hr
        subst hAB
        have HBP := Lib.hid hBP
        have hbn : ∀ a ∈ B, a < mK := fun a ha => by have := hBn a ha; omega
        have HBN := Lib.hid hbn
        have hpf := prove_few K B
        have hsz := sizeI_nat (by omega) hBP hbn
        have hlm : K.length = mK := hmK
        have hck := checkI_nat (r := Tree.root mK (Tree.top K)) (X := Many.pick K B) (P := Many.prove K B) (by omega) hBP hbn
        have hck2 := Many.check_prove (l := K) (A := B) ⟨hBP, by rw [hlm]; exact hbn⟩
        rw [hlm] at hck2 hpf
        rw [hck2] at hck
        have hsz2 : sizeI (mK : Int) (B.map Int.ofNat) = (Many.prove K B).length := by rw [hsz, Many.prove_len, hlm]
        have HSZ := Lib.hid hsz2; clear hsz hsz2
        have HCK := Lib.hid hck; clear hck hck2
        have HPK := Lib.hid (pick_le (B := B) HLE.out)
        have HR := Lib.hid hr; clear hr hBn hBP hbn
        obtain ⟨q11, c11, v11, hrun, hs, dd⟩ := StrsAt.copy (HK.out.below (Nat.le_refl _) ((Below.refl w1.heap.size w1).alloc (Nat.le_refl _) (.cells #[] 9))) (by omega) ⟨w1.heap.size, 0, none⟩
        have d11 : Below w1.heap.size w1 v11 := ((Below.refl _ _).alloc (Nat.le_refl _) _).trans (dd.mono (by simp))
        have hrun11 := hrun; clear hrun dd
        have C11 := Lib.hid hs; clear hs
        replace HK := Lib.hid (HK.out.below (Nat.le_refl _) d11)
        replace HA := Lib.hid (HA.out.below (Nat.le_refl _) d11)
        replace HL := Lib.hid (HL.out.below d11)
        replace b1 := b1.trans (d11.mono b1.size)
        obtain ⟨q12, c12, v12, hrun, hs, dd⟩ := IntsAt.copy (HA.out.below (Nat.le_refl _) ((Below.refl v11.heap.size v11).alloc (Nat.le_refl _) (.cells #[] 3))) (by omega) ⟨v11.heap.size, 0, none⟩
        have d12 : Below v11.heap.size v11 v12 := ((Below.refl _ _).alloc (Nat.le_refl _) _).trans (dd.mono (by simp))
        have hrun12 := hrun; clear hrun dd
        have C12 := Lib.hid hs; clear hs
        replace HK := Lib.hid (HK.out.below (Nat.le_refl _) d12)
        replace HA := Lib.hid (HA.out.below (Nat.le_refl _) d12)
        replace HL := Lib.hid (HL.out.below d12)
        replace C11 := Lib.hid (C11.out.below (Nat.le_refl _) d12)
        replace b1 := b1.trans (d12.mono b1.size)
        have hc13 := manyProve_any v12 _ _ _ _ _ _ K B C11.out C12.out HBP.out HBN.out HLE.out (by omega) (by omega) HL.out
        have HC13 := Lib.hid hc13; clear hc13
        go_wp2_with (first | ((with_reducible show wpList _ _ _ (⟨some 24, _, _, _, _, _⟩ :: _) _ _); refine wpList_append_ran (by kernel_rfl) _ _ _ rfl _ _ rfl rfl hrun11 ?_) | ((with_reducible show wpList _ _ _ (⟨some 27, _, _, _, _, _⟩ :: _) _ _); refine wpList_append_ran (by kernel_rfl) _ _ _ rfl _ _ rfl rfl hrun12 ?_))
        refine HC13.out.mono ?_
        rintro e v13 ⟨q13, c13, rfl, hs, d13⟩
        replace HK := Lib.hid (HK.out.below (Nat.le_refl _) d13)
        replace HA := Lib.hid (HA.out.below (Nat.le_refl _) d13)
        replace HL := Lib.hid (HL.out.below d13)
        replace C11 := Lib.hid (C11.out.below (Nat.le_refl _) d13)
        replace C12 := Lib.hid (C12.out.below (Nat.le_refl _) d13)
        replace b1 := b1.trans (d13.mono b1.size)
        have C13 := Lib.hid hs; clear hs
        clear HC13
        have hrn := refRises_any v13 (mK : Int) _ _ _ (B.map Int.ofNat) HA.out
        rw [HR.out] at hrn
        have hc14 := hrn
        have HC14 := Lib.hid hc14; clear hc14
        go_wp2_with fail
        refine HC14.out.mono ?_
        rintro e v14 ⟨rfl, d14⟩
        replace HK := Lib.hid (HK.out.below (Nat.le_refl _) d14)
        replace HA := Lib.hid (HA.out.below (Nat.le_refl _) d14)
        replace HL := Lib.hid (HL.out.below d14)
        replace C11 := Lib.hid (C11.out.below (Nat.le_refl _) d14)
        replace C12 := Lib.hid (C12.out.below (Nat.le_refl _) d14)
        replace C13 := Lib.hid (C13.out.below (Nat.le_refl _) d14)
        replace b1 := b1.trans (d14.mono b1.size)
        clear HC14
        obtain ⟨q15, c15, v15, hrun, hs, dd⟩ := IntsAt.copy (HA.out.below (Nat.le_refl _) ((Below.refl v14.heap.size v14).alloc (Nat.le_refl _) (.cells #[] 3))) (by omega) ⟨v14.heap.size, 0, none⟩
        have d15 : Below v14.heap.size v14 v15 := ((Below.refl _ _).alloc (Nat.le_refl _) _).trans (dd.mono (by simp))
        have hrun15 := hrun; clear hrun dd
        have C15 := Lib.hid hs; clear hs
        replace HK := Lib.hid (HK.out.below (Nat.le_refl _) d15)
        replace HA := Lib.hid (HA.out.below (Nat.le_refl _) d15)
        replace HL := Lib.hid (HL.out.below d15)
        replace C11 := Lib.hid (C11.out.below (Nat.le_refl _) d15)
        replace C12 := Lib.hid (C12.out.below (Nat.le_refl _) d15)
        replace C13 := Lib.hid (C13.out.below (Nat.le_refl _) d15)
        replace b1 := b1.trans (d15.mono b1.size)
        have hrn := manyRises_any v15 (mK : Int) _ _ _ (B.map Int.ofNat) C15.out
        rw [HR.out] at hrn
        have hc16 := hrn
        have HC16 := Lib.hid hc16; clear hc16
        go_wp2_with (first | ((with_reducible show wpList _ _ _ (⟨some 39, _, _, _, _, _⟩ :: _) _ _); refine wpList_append_ran (by kernel_rfl) _ _ _ rfl _ _ rfl rfl hrun15 ?_))
        refine HC16.out.mono ?_
        rintro e v16 ⟨rfl, d16⟩
        replace HK := Lib.hid (HK.out.below (Nat.le_refl _) d16)
        replace HA := Lib.hid (HA.out.below (Nat.le_refl _) d16)
        replace HL := Lib.hid (HL.out.below d16)
        replace C11 := Lib.hid (C11.out.below (Nat.le_refl _) d16)
        replace C12 := Lib.hid (C12.out.below (Nat.le_refl _) d16)
        replace C13 := Lib.hid (C13.out.below (Nat.le_refl _) d16)
        replace C15 := Lib.hid (C15.out.below (Nat.le_refl _) d16)
        replace b1 := b1.trans (d16.mono b1.size)
        clear HC16
        have hc17 := refMProve_any v16 _ _ _ _ _ _ K B HK.out HA.out HLE.out (by omega)
        have HC17 := Lib.hid hc17; clear hc17
        go_wp2_with fail
        refine HC17.out.mono ?_
        rintro e v17 ⟨q17, c17, rfl, hs, d17⟩
        replace HK := Lib.hid (HK.out.below (Nat.le_refl _) d17)
        replace HA := Lib.hid (HA.out.below (Nat.le_refl _) d17)
        replace HL := Lib.hid (HL.out.below d17)
        replace C11 := Lib.hid (C11.out.below (Nat.le_refl _) d17)
        replace C12 := Lib.hid (C12.out.below (Nat.le_refl _) d17)
        replace C13 := Lib.hid (C13.out.below (Nat.le_refl _) d17)
        replace C15 := Lib.hid (C15.out.below (Nat.le_refl _) d17)
        replace b1 := b1.trans (d17.mono b1.size)
        have C17 := Lib.hid hs; clear hs
        clear HC17
        have hsm := refSame_any v17 _ _ _ _ _ _ _ _ C13.out C17.out
        rw [decide_eq_true rfl] at hsm
        have hc18 := hsm
        have HC18 := Lib.hid hc18; clear hc18
        go_wp2_with fail
        refine HC18.out.mono ?_
        rintro e v18 ⟨rfl, d18⟩
        replace HK := Lib.hid (HK.out.below (Nat.le_refl _) d18)
        replace HA := Lib.hid (HA.out.below (Nat.le_refl _) d18)
        replace HL := Lib.hid (HL.out.below d18)
        replace C11 := Lib.hid (C11.out.below (Nat.le_refl _) d18)
        replace C12 := Lib.hid (C12.out.below (Nat.le_refl _) d18)
        replace C13 := Lib.hid (C13.out.below (Nat.le_refl _) d18)
        replace C15 := Lib.hid (C15.out.below (Nat.le_refl _) d18)
        replace C17 := Lib.hid (C17.out.below (Nat.le_refl _) d18)
        replace b1 := b1.trans (d18.mono b1.size)
        clear HC18
        obtain ⟨q19, c19, v19, hrun, hs, dd⟩ := IntsAt.copy (HA.out.below (Nat.le_refl _) ((Below.refl v18.heap.size v18).alloc (Nat.le_refl _) (.cells #[] 3))) (by omega) ⟨v18.heap.size, 0, none⟩
        have d19 : Below v18.heap.size v18 v19 := ((Below.refl _ _).alloc (Nat.le_refl _) _).trans (dd.mono (by simp))
        have hrun19 := hrun; clear hrun dd
        have C19 := Lib.hid hs; clear hs
        replace HK := Lib.hid (HK.out.below (Nat.le_refl _) d19)
        replace HA := Lib.hid (HA.out.below (Nat.le_refl _) d19)
        replace HL := Lib.hid (HL.out.below d19)
        replace C11 := Lib.hid (C11.out.below (Nat.le_refl _) d19)
        replace C12 := Lib.hid (C12.out.below (Nat.le_refl _) d19)
        replace C13 := Lib.hid (C13.out.below (Nat.le_refl _) d19)
        replace C15 := Lib.hid (C15.out.below (Nat.le_refl _) d19)
        replace C17 := Lib.hid (C17.out.below (Nat.le_refl _) d19)
        replace b1 := b1.trans (d19.mono b1.size)
        have hrn := manySize_all v19 (mK : Int) _ _ _ (B.map Int.ofNat) C19.out (by omega) HL.out
        rw [HSZ.out] at hrn
        have hc20 := hrn
        have HC20 := Lib.hid hc20; clear hc20
        go_wp2_with (first | ((with_reducible show wpList _ _ _ (⟨some 75, _, _, _, _, _⟩ :: _) _ _); refine wpList_append_ran (by kernel_rfl) _ _ _ rfl _ _ rfl rfl hrun19 ?_))
        refine HC20.out.mono ?_
        rintro e v20 ⟨rfl, d20⟩
        replace HK := Lib.hid (HK.out.below (Nat.le_refl _) d20)
        replace HA := Lib.hid (HA.out.below (Nat.le_refl _) d20)
        replace HL := Lib.hid (HL.out.below d20)
        replace C11 := Lib.hid (C11.out.below (Nat.le_refl _) d20)
        replace C12 := Lib.hid (C12.out.below (Nat.le_refl _) d20)
        replace C13 := Lib.hid (C13.out.below (Nat.le_refl _) d20)
        replace C15 := Lib.hid (C15.out.below (Nat.le_refl _) d20)
        replace C17 := Lib.hid (C17.out.below (Nat.le_refl _) d20)
        replace C19 := Lib.hid (C19.out.below (Nat.le_refl _) d20)
        replace b1 := b1.trans (d20.mono b1.size)
        clear HC20
        have hc21 := refRoot_any v20 _ mK _ K HK.out (by omega) HLE.out
        have HC21 := Lib.hid hc21; clear hc21
        go_wp2_with fail
        refine HC21.out.mono ?_
        rintro e v21 ⟨rfl, d21⟩
        replace HK := Lib.hid (HK.out.below (Nat.le_refl _) d21)
        replace HA := Lib.hid (HA.out.below (Nat.le_refl _) d21)
        replace HL := Lib.hid (HL.out.below d21)
        replace C11 := Lib.hid (C11.out.below (Nat.le_refl _) d21)
        replace C12 := Lib.hid (C12.out.below (Nat.le_refl _) d21)
        replace C13 := Lib.hid (C13.out.below (Nat.le_refl _) d21)
        replace C15 := Lib.hid (C15.out.below (Nat.le_refl _) d21)
        replace C17 := Lib.hid (C17.out.below (Nat.le_refl _) d21)
        replace C19 := Lib.hid (C19.out.below (Nat.le_refl _) d21)
        replace b1 := b1.trans (d21.mono b1.size)
        clear HC21
        obtain ⟨q22, c22, v22, hrun, hs, dd⟩ := IntsAt.copy (HA.out.below (Nat.le_refl _) ((Below.refl v21.heap.size v21).alloc (Nat.le_refl _) (.cells #[] 3))) (by omega) ⟨v21.heap.size, 0, none⟩
        have d22 : Below v21.heap.size v21 v22 := ((Below.refl _ _).alloc (Nat.le_refl _) _).trans (dd.mono (by simp))
        have hrun22 := hrun; clear hrun dd
        have C22 := Lib.hid hs; clear hs
        replace HK := Lib.hid (HK.out.below (Nat.le_refl _) d22)
        replace HA := Lib.hid (HA.out.below (Nat.le_refl _) d22)
        replace HL := Lib.hid (HL.out.below d22)
        replace C11 := Lib.hid (C11.out.below (Nat.le_refl _) d22)
        replace C12 := Lib.hid (C12.out.below (Nat.le_refl _) d22)
        replace C13 := Lib.hid (C13.out.below (Nat.le_refl _) d22)
        replace C15 := Lib.hid (C15.out.below (Nat.le_refl _) d22)
        replace C17 := Lib.hid (C17.out.below (Nat.le_refl _) d22)
        replace C19 := Lib.hid (C19.out.below (Nat.le_refl _) d22)
        replace b1 := b1.trans (d22.mono b1.size)
        have hc23 := pick_row v22 _ _ _ _ _ _ K B HK.out HA.out HBN.out (by omega)
        have HC23 := Lib.hid hc23; clear hc23
        go_wp2_with (first | ((with_reducible show wpList _ _ _ (⟨some 88, _, _, _, _, _⟩ :: _) _ _); refine wpList_append_ran (by kernel_rfl) _ _ _ rfl _ _ rfl rfl hrun22 ?_))
        refine HC23.out.mono ?_
        rintro e v23 ⟨q23, c23, rfl, hs, d23⟩
        replace HK := Lib.hid (HK.out.below (Nat.le_refl _) d23)
        replace HA := Lib.hid (HA.out.below (Nat.le_refl _) d23)
        replace HL := Lib.hid (HL.out.below d23)
        replace C11 := Lib.hid (C11.out.below (Nat.le_refl _) d23)
        replace C12 := Lib.hid (C12.out.below (Nat.le_refl _) d23)
        replace C13 := Lib.hid (C13.out.below (Nat.le_refl _) d23)
        replace C15 := Lib.hid (C15.out.below (Nat.le_refl _) d23)
        replace C17 := Lib.hid (C17.out.below (Nat.le_refl _) d23)
        replace C19 := Lib.hid (C19.out.below (Nat.le_refl _) d23)
        replace C22 := Lib.hid (C22.out.below (Nat.le_refl _) d23)
        replace b1 := b1.trans (d23.mono b1.size)
        have C23 := Lib.hid hs; clear hs
        clear HC23
        have hrn := manyCheck_all v23 (Tree.root mK (Tree.top K)) (Tree.root_len _ _) (mK : Int) _ _ _ _ _ _ _ _ _ (B.map Int.ofNat) (Many.pick K B) (Many.prove K B) C22.out C23.out C13.out HPK.out (by omega) (by omega) (by omega) HL.out
        rw [HCK.out] at hrn
        have hc24 := hrn
        have HC24 := Lib.hid hc24; clear hc24
        go_wp2_with fail
        refine HC24.out.mono ?_
        rintro e v24 ⟨rfl, d24⟩
        replace HK := Lib.hid (HK.out.below (Nat.le_refl _) d24)
        replace HA := Lib.hid (HA.out.below (Nat.le_refl _) d24)
        replace HL := Lib.hid (HL.out.below d24)
        replace C11 := Lib.hid (C11.out.below (Nat.le_refl _) d24)
        replace C12 := Lib.hid (C12.out.below (Nat.le_refl _) d24)
        replace C13 := Lib.hid (C13.out.below (Nat.le_refl _) d24)
        replace C15 := Lib.hid (C15.out.below (Nat.le_refl _) d24)
        replace C17 := Lib.hid (C17.out.below (Nat.le_refl _) d24)
        replace C19 := Lib.hid (C19.out.below (Nat.le_refl _) d24)
        replace C22 := Lib.hid (C22.out.below (Nat.le_refl _) d24)
        replace C23 := Lib.hid (C23.out.below (Nat.le_refl _) d24)
        replace b1 := b1.trans (d24.mono b1.size)
        clear HC24
        go_wp2_with fail
        go_ret
        exact ⟨rfl, b1⟩

theorem mproves_law (w : World) (oK : Option Addr) (mK cK : Nat) (K : List ByteArray) (rK : RowsAt w oK mK cK 1 strCell K) (hxK : ∀ s ∈ K, s.size ≤ maxLen) (oA : Option Addr) (mA cA : Nat) (A : List Int) (hA : RowsAt w oA mA cA 1 (intCell .i64) A) (hwA : ∀ x ∈ A, (Lit.int .i64 x).wf = true) (hL : Laid w) :
    Calls Tryd.prog 4 #[.slice oK mK cK, .slice oA mA cA] w fun e w' => e = .returned (.bool true) ∧ Below w.heap.size w w' := by
  have h := mproves_list w oK mK cK _ (StrsAt.of_rows rK) (strs_le hxK) oA mA cA A hA hL
  exact h

end Go.Proofs.YtgheacegjgaobaaDoor
