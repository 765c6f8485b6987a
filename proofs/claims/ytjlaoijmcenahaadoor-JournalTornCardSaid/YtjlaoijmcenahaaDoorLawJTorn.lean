/- The walk of the law JournalTorn. -/
import Derived.Test.YtjlaoijmcenahaaDoorG12a
namespace Go.Proofs.YtjlaoijmcenahaaDoor
open Go.RowKit
set_option linter.unusedSimpArgs false
set_option linter.unusedVariables false

set_option maxRecDepth 100000 in
set_option maxHeartbeats 4000000 in
theorem jtorn_list (w : World) (oL : Option Addr) (mL cL : Nat) (L : List (List UInt8)) (hL_ : StrsAt w oL mL cL L) (hxL : ∀ l ∈ L, l.length ≤ 9223372036854775807) (n : Int) (hn : (Lit.int .i64 n).wf = true) (r : List UInt8) (hr : r.length ≤ 140737488351232) (hL : Laid w) :
    Calls Tryd.prog 6 #[.slice oL mL cL, .int .i64 n, .string (strOf r)] w fun e w' => e = .returned (.bool true) ∧ Below w.heap.size w w' := by
  have hmL : L.length = mL := hL_.len
  have hcL := hL_.cap
  have hyL := hL_.max
  have HLL := Lib.hid hL_; clear hL_
  have HXL := Lib.hid hxL; clear hxL
  have hstr := strOf_size r
  have HL := Lib.hid hL; clear hL
  go_enter Tryd.func6, Tryd.ntmps6
  go_wp2_with fail
  refine (awake_any _ HL.out).mono ?_
  rintro e w1 ⟨rfl, b1⟩
  replace HL := Lib.hid (HL.out.below b1)
  replace HLL := Lib.hid (HLL.out.below (Nat.le_refl _) b1)
  rcases hf : few16 L with _ | _
  · have hfc := refFew_any w1 oL mL cL L HLL.out HXL.out
    rw [hf] at hfc
    have HFC := Lib.hid hfc; clear hfc hf
    go_wp2_with fail
    refine HFC.out.mono ?_
    rintro e w' ⟨rfl, rfl⟩
    go_wp2_with fail
    refine (awake_any _ HL.out).mono ?_
    rintro e w2 ⟨rfl, b2⟩
    go_wp2_with fail
    go_ret
    exact ⟨rfl, b1.trans (b2.mono b1.size)⟩
  · have hfc := refFew_any w1 oL mL cL L HLL.out HXL.out
    rw [hf] at hfc
    obtain ⟨h12, h300⟩ := few16_spec hf
    have HFC := Lib.hid hfc; clear hfc hf
    have H300 := Lib.hid h300; clear h300
    go_wp2_with fail
    refine HFC.out.mono ?_
    rintro e w' ⟨rfl, rfl⟩
    clear HFC
    by_cases hg : 300 < r.length
    · have ht : decide ((300 : Int) < (r.length : Int)) = true := decide_eq_true (by omega)
      go_wp2_with fail
      refine (awake_any _ HL.out).mono ?_
      rintro e w2 ⟨rfl, b2⟩
      go_wp2_with fail
      go_ret
      exact ⟨rfl, b1.trans (b2.mono b1.size)⟩
    · have ht : decide ((300 : Int) < (r.length : Int)) = false := decide_eq_false (by omega)
      have hel := J.enc_len L J.zero H300.out
      have hrc := J.read_cut_len L J.zero (fun r hr => by have := H300.out r hr; omega)
      have hc := refAll_any w1 oL mL cL L HLL.out H300.out h12
      obtain ⟨E, hE⟩ : ∃ E, E = J.enc J.zero L := ⟨_, rfl⟩
      rw [← hE] at hc hel
      simp only [← hE] at hrc
      clear hE
      have HC2 := Lib.hid hc; clear hc
      go_wp2_with fail
      refine HC2.out.mono ?_
      rintro e w2 ⟨rfl, b2⟩
      clear HC2
      replace HL := Lib.hid (HL.out.below b2)
      replace HLL := Lib.hid (HLL.out.below (Nat.le_refl _) b2)
      replace b1 := b1.trans (b2.mono b1.size)
      obtain ⟨cc, hcc, hcl⟩ := J.cut_take E n
      replace hrc := hrc cc
      rw [← hcc] at hrc
      clear hcc
      have hc := journalCut_any w2 E n (by omega)
      obtain ⟨T, hT⟩ : ∃ T, T = J.cut E n := ⟨_, rfl⟩
      rw [← hT] at hc hrc hcl
      clear hT
      have HC3 := Lib.hid hc; clear hc
      have hrap := J.read_append (l := T) (r := r) (by omega)
      have hapl := J.append_len T r
      have hxl := J.text_len r
      have hnl := Wire.num_length r.length (by omega)
      have hul := J.used_le J.zero T
      have hcnt := read_count T.length J.zero T (Nat.le_refl _)
      have hcr := fun (w : World) (hLw : Laid w) => journalRead_any w T (by omega) hLw
      have hca := fun (w : World) (hLw : Laid w) => journalAppend_any w T r (by omega) (by omega) hLw
      obtain ⟨R, hR⟩ : ∃ R, R = J.read J.zero T := ⟨_, rfl⟩
      simp only [← hR] at hcr
      rw [← hR] at hrc hrap hapl hul hcnt
      clear hR
      obtain ⟨A, u, la⟩ := R
      simp only at hcr hrc hrap hapl hul hcnt
      obtain ⟨F, hF⟩ : ∃ F, F = J.append T r := ⟨_, rfl⟩
      simp only [← hF] at hca
      rw [← hF] at hrap hapl
      clear hF
      have hcf := fun (w : World) (hLw : Laid w) => journalRead_any w F (by omega) hLw
      simp only [hrap] at hcf
      clear hrap
      have hFl : F.length ≤ 100000 := by omega
      clear hapl
      have HCR := Lib.hid hcr; clear hcr
      have HCA := Lib.hid hca; clear hca
      have HCF := Lib.hid hcf; clear hcf
      have hsF := strOf_size F
      go_wp2_with fail
      refine HC3.out.mono ?_
      rintro e w' ⟨rfl, rfl⟩
      clear HC3
      have hc := HCR.out w2 HL.out
      have HC3 := Lib.hid hc; clear hc
      go_wp2_with fail
      refine HC3.out.mono ?_
      rintro e w3 ⟨q3, c3, k3, rfl, s3, b3⟩
      clear HC3
      replace HL := Lib.hid (HL.out.below b3)
      replace HLL := Lib.hid (HLL.out.below (Nat.le_refl _) b3)
      replace b1 := b1.trans (b3.mono b1.size)
      have hk3 := s3.len
      have S3 := Lib.hid s3; clear s3
      have hc := HCA.out w3 HL.out
      have HC4 := Lib.hid hc; clear hc
      go_wp2_with fail
      refine HC4.out.mono ?_
      rintro e w4 ⟨rfl, b4⟩
      clear HC4
      replace HL := Lib.hid (HL.out.below b4)
      replace HLL := Lib.hid (HLL.out.below (Nat.le_refl _) b4)
      replace b1 := b1.trans (b4.mono b1.size)
      replace S3 := Lib.hid (S3.out.below (Nat.le_refl _) b4)
      have hc := HCF.out w4 HL.out
      have HC5 := Lib.hid hc; clear hc
      go_wp2_with fail
      refine HC5.out.mono ?_
      rintro e w5 ⟨q5, c5, k5, rfl, s5, b5⟩
      clear HC5
      replace HL := Lib.hid (HL.out.below b5)
      replace HLL := Lib.hid (HLL.out.below (Nat.le_refl _) b5)
      replace b1 := b1.trans (b5.mono b1.size)
      replace S3 := Lib.hid (S3.out.below (Nat.le_refl _) b5)
      have S5 := Lib.hid s5; clear s5
      clear HCR HCA HCF
      have d6 : Below w5.heap.size w5 (w5.alloc (.cells #[] 9)) := (Below.refl _ _).alloc (Nat.le_refl _) _
      obtain ⟨v7, w7, hrun7, o7, dd7⟩ := StrsAt.copyO (b := w5.heap.size) (S3.out.below (Nat.le_refl _) d6) (by omega) (heap_alloc_new w5 _)
      have d7 := d6.trans (dd7.mono d6.size)
      have hx8 := heap_alloc_new w7 (.cells #[.string (strOf r)] 9)
      have d8 := d7.alloc d7.size (.cells #[.string (strOf r)] 9)
      obtain ⟨q9, c9, w9, hrun9, s9, g9⟩ := StrsAt.snocO (o7.alloc (.cells #[.string (strOf r)] 9)) hk3 (by omega) d8.size hx8
      have d9 := d8.trans (grown_below g9 (fun k hk => (o7.lt k hk).1) d8.size)
      have HS5 := Lib.hid (S5.out.below (Nat.le_refl _) d9)
      have hcs := refSame_any w9 _ _ _ _ _ _ _ _ HS5.out s9
      rw [decide_eq_true rfl] at hcs
      have HCS := Lib.hid hcs; clear hcs s9 g9 o7 dd7
      replace b1 := b1.trans (d9.mono b1.size)
      clear d6 d7 d8 d9 hx8
      have t1 : decide ((k3 : Int) ≤ (mL : Int)) = true := decide_eq_true (by omega)
      have t1' : decide (k3 ≤ mL) = true := decide_eq_true (by omega)
      clear hk3
      go_wp2_with (first | ((with_reducible show wpList _ _ _ (⟨some 55, _, _, _, _, _⟩ :: _) _ _); refine wpList_append_ran (by kernel_rfl) _ _ _ rfl _ _ rfl rfl hrun7 ?_) | ((with_reducible show wpList _ _ _ (⟨some 58, _, _, _, _, _⟩ :: _) _ _); refine wpList_append_ran (by kernel_rfl) _ _ _ rfl _ _ rfl rfl hrun9 ?_))
      refine HCS.out.mono ?_
      rintro e w10 ⟨rfl, b10⟩
      replace b1 := b1.trans (b10.mono b1.size)
      clear hrun7 hrun9
      go_wp2_with fail
      go_ret
      exact ⟨rfl, b1⟩

theorem jtorn_law (w : World) (oL : Option Addr) (mL cL : Nat) (L : List ByteArray) (rL : RowsAt w oL mL cL 1 strCell L) (hxL : ∀ s ∈ L, s.size ≤ maxLen) (n : Int) (hn : (Lit.int .i64 n).wf = true) (r : ByteArray) (hr : r.size ≤ 140737488351232) (hL : Laid w) :
    Calls Tryd.prog 6 #[.slice oL mL cL, .int .i64 n, .string r] w fun e w' => e = .returned (.bool true) ∧ Below w.heap.size w w' := by
  have h := jtorn_list w oL mL cL _ (StrsAt.of_rows rL) (strs_le hxL) n hn r.data.toList (by rw [← strOf_size, strOf_data]; exact hr) hL
  rwa [strOf_data] at h

end Go.Proofs.YtjlaoijmcenahaaDoor
