/- The walk of the law JournalJoins. -/
import Derived.Test.YtjlaoijmcenahaaDoorG12a
namespace Go.Proofs.YtjlaoijmcenahaaDoor
open Go.RowKit
set_option linter.unusedSimpArgs false
set_option linter.unusedVariables false

set_option maxRecDepth 100000 in
set_option maxHeartbeats 4000000 in
theorem jjoins_list (w : World) (oL : Option Addr) (mL cL : Nat) (L : List (List UInt8)) (hL_ : StrsAt w oL mL cL L) (hxL : ∀ l ∈ L, l.length ≤ 9223372036854775807) (hL : Laid w) :
    Calls Tryd.prog 8 #[.slice oL mL cL] w fun e w' => e = .returned (.bool true) ∧ Below w.heap.size w w' := by
  have hmL : L.length = mL := hL_.len
  have hcL := hL_.cap
  have hyL := hL_.max
  have HLL := Lib.hid hL_; clear hL_
  have HXL := Lib.hid hxL; clear hxL
  have HL := Lib.hid hL; clear hL
  go_enter Tryd.func8, Tryd.ntmps8
  go_wp2_with fail
  refine (awake_any _ HL.out).mono ?_
  rintro e w1 ⟨rfl, b1⟩
  replace HL := Lib.hid (HL.out.below b1)
  replace HLL := Lib.hid (HLL.out.below (Nat.le_refl _) b1)
  rcases hf : few16 L with _ | _
  · have hfc := refFew_any w1 oL mL cL L HLL.out HXL.out
    rw [hf] at hfc
    have HFC := Lib.hid hfc; clear hfc hf
    go_wp2_with fail
    refine HFC.out.mono ?_
    rintro e w' ⟨rfl, rfl⟩
    go_wp2_with fail
    refine (awake_any _ HL.out).mono ?_
    rintro e w2 ⟨rfl, b2⟩
    go_wp2_with fail
    go_ret
    exact ⟨rfl, b1.trans (b2.mono b1.size)⟩
  · have hfc := refFew_any w1 oL mL cL L HLL.out HXL.out
    rw [hf] at hfc
    obtain ⟨h12, h300⟩ := few16_spec hf
    have HFC := Lib.hid hfc; clear hfc hf
    have H300 := Lib.hid h300; clear h300
    go_wp2_with fail
    refine HFC.out.mono ?_
    rintro e w' ⟨rfl, rfl⟩
    clear HFC
    have hn12 : mL ≤ 12 := by omega
    go_wp2_with fail
    go_loopw [3, 4] (fun s v wr => ∃ j : Nat, j ≤ mL ∧ v = .int .i64 (j : Int) ∧ s = .string (strOf (J.enc J.zero (L.take j))) ∧ Below w1.heap.size w1 wr) (fun _ v _ => mL - (intOf v).toNat)
    case atStart => exact ⟨0, by omega, rfl, rfl, Below.refl _ _⟩
    case round =>
      obtain ⟨j, hj, rfl, rfl, Br⟩ := hrel
      by_cases hlt : j < mL
      · obtain ⟨b, off, rfl⟩ := HLL.out.form (by omega)
        obtain ⟨l, hl⟩ : ∃ l, L[j]? = some l := ⟨_, List.getElem?_eq_getElem (by omega)⟩
        have hcell := (HLL.out.below (Nat.le_refl _) Br).get hl
        have hl3 := H300.out l (List.mem_of_getElem? hl)
        have htk : ∀ r ∈ L.take j, r.length ≤ 300 := fun r hr => H300.out r (List.mem_of_mem_take hr)
        have hel := J.enc_len (L.take j) J.zero htk
        have htl : (L.take j).length ≤ 12 := by rw [List.length_take]; omega
        have hc := journalAppend_any wr (J.enc J.zero (L.take j)) l (by omega) (by omega) (HL.out.below Br)
        have hap := J.append_enc (R := L.take j) (fun r hr => by have := htk r hr; omega) l
        rw [show L.take j ++ [l] = L.take (j + 1) by rw [List.take_add_one, hl]; rfl] at hap
        have hlt2 := J.enc_take_len L J.zero j (by omega)
        have hpre : (J.enc J.zero (L.take (j + 1))).take (J.enc J.zero (L.take j)).length = J.enc J.zero (L.take j) := by
          rw [← hap]
          unfold J.append
          rw [J.read_enc0 (fun r hr => by have := htk r hr; omega)]
          simp only [List.take_length]
          exact List.take_left
        rw [hap] at hc
        have hel2 := J.append_len (J.enc J.zero (L.take j)) l
        rw [hap] at hel2
        have hxl := J.text_len l
        have hnl := Wire.num_length l.length (by omega)
        have hul := J.used_le J.zero (J.enc J.zero (L.take j))
        obtain ⟨E, hE⟩ : ∃ E, E = J.enc J.zero (L.take j) := ⟨_, rfl⟩
        obtain ⟨F, hF⟩ : ∃ F, F = J.enc J.zero (L.take (j + 1)) := ⟨_, rfl⟩
        rw [← hE, ← hF] at hc hlt2 hpre
        rw [← hF] at hel2
        rw [← hE] at hel hel2 hul ⊢
        have hFE : F.length ≤ E.length + 318 := by omega
        have HF := Lib.hid hF; clear hF
        have HC := Lib.hid hc; clear hc hl htk hap hE
        have hx := strOf_extract F 0 E.length
        rw [Nat.sub_zero, List.drop_zero, hpre] at hx
        have hsE := strOf_size E
        have hsF := strOf_size F
        have t1 : decide ((j : Int) < (mL : Int)) = true := decide_eq_true (by omega)
        have t1' : decide (j < mL) = true := decide_eq_true hlt
        have t2 : decide ((F.length : Int) ≤ (E.length : Int)) = false := decide_eq_false (by omega)
        have t2' : decide (F.length ≤ E.length) = false := decide_eq_false (by omega)
        clear hpre hel2
        go_wp2_with fail
        refine HC.out.mono ?_
        rintro e w2 ⟨rfl, b2⟩
        go_wp2_with fail
        go_roundw
        case rel => exact ⟨j + 1, by omega, by go_num, by rw [HF.out], Br.trans (b2.mono Br.size)⟩
        case measure => simp [intOf]; omega
      · obtain rfl : j = mL := by omega
        have htk : L.take j = L := List.take_of_length_le (by omega)
        rw [htk]
        clear htk
        have hel := J.enc_len L J.zero H300.out
        have hrd := J.read_enc0 (R := L) (fun r hr => by have := H300.out r hr; omega) J.zero
        have hrx := J.read_enc L J.zero (fun r hr => by have := H300.out r hr; omega) [127]
        rw [J.read_none (step_short2 _ [127] (by decide))] at hrx
        simp only [List.append_nil, Nat.add_zero] at hrx
        have hadd : strOf (J.enc J.zero L) ++ (⟨#[127]⟩ : ByteArray) = strOf (J.enc J.zero L ++ [127]) := add_str _ [127]
        have hs2 : (⟨#[127]⟩ : ByteArray).size = 1 := rfl
        replace HL := Lib.hid (HL.out.below Br)
        replace HLL := Lib.hid (HLL.out.below (Nat.le_refl _) Br)
        have hc2 := fun (w : World) (hLw : Laid w) => journalRead_any w (J.enc J.zero L) (by omega) hLw
        have hc3 := fun (w : World) (hLw : Laid w) => journalRead_any w (J.enc J.zero L ++ [127]) (by rw [List.length_append]; simp; omega) hLw
        simp only [hrd] at hc2
        simp only [hrx] at hc3
        obtain ⟨E, hE⟩ : ∃ E, E = J.enc J.zero L := ⟨_, rfl⟩
        rw [← hE] at hadd hel ⊢
        simp only [← hE] at hc2 hc3
        clear hrd hrx hE
        have HC2 := Lib.hid hc2; clear hc2
        have HC3 := Lib.hid hc3; clear hc3
        have hsE := strOf_size E
        have hcc := HC2.out wr HL.out
        have HCC := Lib.hid hcc; clear hcc
        clear hadd
        go_wp2_with fail
        refine HCC.out.mono ?_
        rintro e w2 ⟨q2, c2, k2, rfl, s2, b2⟩
        clear HCC
        replace HL := Lib.hid (HL.out.below b2)
        replace HLL := Lib.hid (HLL.out.below (Nat.le_refl _) b2)
        replace Br := Br.trans (b2.mono Br.size)
        have S2 := Lib.hid s2; clear s2
        have hcc := HC3.out w2 HL.out
        have HCC := Lib.hid hcc; clear hcc
        have hadd : strOf E ++ (⟨#[127]⟩ : ByteArray) = strOf (E ++ [127]) := add_str _ [127]
        go_wp2_with fail
        refine HCC.out.mono ?_
        rintro e w3 ⟨q3, c3, k3, rfl, s3, b3⟩
        clear HCC hadd
        replace HL := Lib.hid (HL.out.below b3)
        replace HLL := Lib.hid (HLL.out.below (Nat.le_refl _) b3)
        replace Br := Br.trans (b3.mono Br.size)
        replace S2 := Lib.hid (S2.out.below (Nat.le_refl _) b3)
        have S3 := Lib.hid s3; clear s3
        have hcc := refSame_any w3 _ _ _ _ _ _ _ _ S2.out HLL.out
        rw [decide_eq_true rfl] at hcc
        have HCC := Lib.hid hcc; clear hcc
        go_wp2_with fail
        refine HCC.out.mono ?_
        rintro e w4 ⟨rfl, b4⟩
        clear HCC
        replace HLL := Lib.hid (HLL.out.below (Nat.le_refl _) b4)
        replace Br := Br.trans (b4.mono Br.size)
        replace S3 := Lib.hid (S3.out.below (Nat.le_refl _) b4)
        have hcc := refSame_any w4 _ _ _ _ _ _ _ _ S3.out HLL.out
        rw [decide_eq_true rfl] at hcc
        have HCC := Lib.hid hcc; clear hcc
        go_wp2_with fail
        refine HCC.out.mono ?_
        rintro e w5 ⟨rfl, b5⟩
        clear HCC
        replace Br := Br.trans (b5.mono Br.size)
        go_wp2_with fail
        go_ret
        exact ⟨rfl, b1.trans (Br.mono b1.size)⟩

theorem jjoins_law (w : World) (oL : Option Addr) (mL cL : Nat) (L : List ByteArray) (rL : RowsAt w oL mL cL 1 strCell L) (hxL : ∀ s ∈ L, s.size ≤ maxLen) (hL : Laid w) :
    Calls Tryd.prog 8 #[.slice oL mL cL] w fun e w' => e = .returned (.bool true) ∧ Below w.heap.size w w' := by
  have h := jjoins_list w oL mL cL _ (StrsAt.of_rows rL) (strs_le hxL) hL
  exact h

end Go.Proofs.YtjlaoijmcenahaaDoor
