/- The walk of the law JournalCuts. -/
import Derived.Test.YtjlaoijmcenahaaDoorG12a
namespace Go.Proofs.YtjlaoijmcenahaaDoor
open Go.RowKit
set_option linter.unusedSimpArgs false
set_option linter.unusedVariables false

theorem Tryd.under_ints : Tryd.prog.underlying 39 = some (.slice 3) := by kernel_rfl
theorem Tryd.info_int : (Tryd.prog.info? 3).map (fun i => (i.zero, i.size, i.bytes)) = some (some (.int .i64 0), 1, 8) := by kernel_rfl

/-- How many bytes the first records take. -/
def J.sz (L : List (List UInt8)) (i : Nat) : Nat := (J.enc J.zero (L.take i)).length

/-- The sizes, as the law keeps them. -/
def szC (L : List (List UInt8)) (j : Nat) : List Value := (List.range (j + 1)).map fun i => Value.int .i64 (J.sz L i : Int)

theorem szC_zero (L : List (List UInt8)) : szC L 0 = [.int .i64 0] := rfl
theorem szC_succ (L : List (List UInt8)) (j : Nat) : szC L j ++ [.int .i64 (J.sz L (j + 1) : Int)] = szC L (j + 1) := by
  unfold szC
  rw [List.range_succ (n := j + 1), List.map_append]
  rfl
theorem szC_get (L : List (List UInt8)) {i j : Nat} (h : i ≤ j) : (szC L j)[i]? = some (.int .i64 (J.sz L i : Int)) := by
  unfold szC
  rw [List.getElem?_map, List.getElem?_range (by omega)]
  rfl

theorem one_int' (k : IntKind) (x : Int) : ∀ u ∈ [Value.int k x], u.oneCell' = true := by
  intro u hu
  obtain rfl := List.mem_singleton.1 hu
  rfl

theorem J.sz_lt (L : List (List UInt8)) (j : Nat) (h : j < L.length) : J.sz L j < J.sz L (j + 1) := J.enc_take_len L J.zero j h

theorem J.sz_le (L : List (List UInt8)) (h300 : ∀ r ∈ L, r.length ≤ 300) (h12 : L.length ≤ 12) (j : Nat) : J.sz L j ≤ 3816 := by
  have h := J.enc_len (L.take j) J.zero (fun r hr => h300 r (List.mem_of_mem_take hr))
  have : (L.take j).length ≤ 12 := by rw [List.length_take]; omega
  unfold J.sz
  omega

theorem J.sz_mono (L : List (List UInt8)) {i j : Nat} (h : i ≤ j) (hj : j ≤ L.length) : J.sz L i ≤ J.sz L j := by
  induction j with
  | zero => obtain rfl : i = 0 := by omega
            exact Nat.le_refl _
  | succ j ih =>
    by_cases he : i = j + 1
    · subst he; exact Nat.le_refl _
    · have := ih (by omega) (by omega)
      have := J.sz_lt L j (by omega)
      omega

set_option maxRecDepth 100000 in
set_option maxHeartbeats 4000000 in
theorem jcuts_list (w : World) (oL : Option Addr) (mL cL : Nat) (L : List (List UInt8)) (hL_ : StrsAt w oL mL cL L) (hxL : ∀ l ∈ L, l.length ≤ 9223372036854775807) (n : Int) (hn : (Lit.int .i64 n).wf = true) (hL : Laid w) :
    Calls Tryd.prog 5 #[.slice oL mL cL, .int .i64 n] w fun e w' => e = .returned (.bool true) ∧ Below w.heap.size w w' := by
  have hmL : L.length = mL := hL_.len
  have hcL := hL_.cap
  have hyL := hL_.max
  have HLL := Lib.hid hL_; clear hL_
  have HXL := Lib.hid hxL; clear hxL
  have HL := Lib.hid hL; clear hL
  go_enter Tryd.func5, Tryd.ntmps5
  go_wp2_with fail
  refine (awake_any _ HL.out).mono ?_
  rintro e w1 ⟨rfl, b1⟩
  replace HL := Lib.hid (HL.out.below b1)
  replace HLL := Lib.hid (HLL.out.below (Nat.le_refl _) b1)
  rcases hf : few16 L with _ | _
  · have hfc := refFew_any w1 oL mL cL L HLL.out HXL.out
    rw [hf] at hfc
    have HFC := Lib.hid hfc; clear hfc hf
    go_wp2_with fail
    refine HFC.out.mono ?_
    rintro e w' ⟨rfl, rfl⟩
    go_wp2_with fail
    refine (awake_any _ HL.out).mono ?_
    rintro e w2 ⟨rfl, b2⟩
    go_wp2_with fail
    go_ret
    exact ⟨rfl, b1.trans (b2.mono b1.size)⟩
  · have hfc := refFew_any w1 oL mL cL L HLL.out HXL.out
    rw [hf] at hfc
    obtain ⟨h12, h300⟩ := few16_spec hf
    have HFC := Lib.hid hfc; clear hfc hf
    have H300 := Lib.hid h300; clear h300
    go_wp2_with fail
    refine HFC.out.mono ?_
    rintro e w' ⟨rfl, rfl⟩
    clear HFC
    have hn12 : mL ≤ 12 := by omega
    obtain ⟨i0, hi, hz0, hz1, hz2⟩ := info_parts Tryd.info_int
    have HI0 := Lib.hid hi; clear hi
    have HZ0 := Lib.hid hz0; clear hz0
    have HZ1 := Lib.hid hz1; clear hz1
    have HZ2 := Lib.hid hz2; clear hz2
    have hszb := J.sz_le L H300.out h12
    have HSB := Lib.hid hszb; clear hszb
    go_wp2_with fail
    go_loopw [5, 6, 7] (fun s z v wr => ∃ j g c : Nat, j ≤ mL ∧ s = .string (strOf (J.enc J.zero (L.take j))) ∧ z = .slice (some ⟨g, 0, none⟩) (j + 1) c ∧ v = .int .i64 (j : Int) ∧ Hid (wr.ownsRow w1.heap.size 3 1 (.slice (some ⟨g, 0, none⟩) (j + 1) c) (j + 1) (szC L j)) ∧ Below w1.heap.size w1 wr) (fun _ _ v _ => mL - (intOf v).toNat)
    case atStart => exact ⟨0, w1.heap.size, 1, by omega, rfl, rfl, rfl, Lib.hid ⟨rfl, .inr ⟨w1.heap.size, 1, #[.int .i64 0], rfl, Nat.le_refl _, heap_alloc_new w1 _, Nat.le_refl _, by decide, rfl, rfl⟩⟩, (Below.refl _ _).alloc (Nat.le_refl _) _⟩
    case round =>
      obtain ⟨j, g, c, hj, rfl, rfl, rfl, OW, Br⟩ := hrel
      by_cases hlt : j < mL
      · obtain ⟨b, off, rfl⟩ := HLL.out.form (by omega)
        obtain ⟨l, hl⟩ : ∃ l, L[j]? = some l := ⟨_, List.getElem?_eq_getElem (by omega)⟩
        have hcell := (HLL.out.below (Nat.le_refl _) Br).get hl
        have hl3 := H300.out l (List.mem_of_getElem? hl)
        have htk : ∀ r ∈ L.take j, r.length ≤ 300 := fun r hr => H300.out r (List.mem_of_mem_take hr)
        have hel := J.enc_len (L.take j) J.zero htk
        have htl : (L.take j).length ≤ 12 := by rw [List.length_take]; omega
        have hc := journalAppend_any wr (J.enc J.zero (L.take j)) l (by omega) (by omega) (HL.out.below Br)
        have hap := J.append_enc (R := L.take j) (fun r hr => by have := htk r hr; omega) l
        rw [show L.take j ++ [l] = L.take (j + 1) by rw [List.take_add_one, hl]; rfl] at hap
        rw [hap] at hc
        have hsz := HSB.out (j + 1)
        obtain ⟨F, hFe⟩ : ∃ F, F = J.enc J.zero (L.take (j + 1)) := ⟨_, rfl⟩
        obtain ⟨z, hze⟩ : ∃ z, z = J.sz L (j + 1) := ⟨_, rfl⟩
        have hFz : F.length = z := by rw [hFe, hze]; rfl
        rw [← hFe] at hc
        rw [← hze] at hsz
        have HZE := Lib.hid hze; clear hze
        have HFE := Lib.hid hFe; clear hFe
        have HC := Lib.hid hc; clear hc htk hap hl
        have hsF := strOf_size F
        rw [hFz] at hsF
        clear hFz
        have t1 : decide ((j : Int) < (mL : Int)) = true := decide_eq_true (by omega)
        have t1' : decide (j < mL) = true := decide_eq_true hlt
        go_wp2_with fail
        refine HC.out.mono ?_
        rintro e w2 ⟨rfl, b2⟩
        have OW2 := Lib.hid (ownsRow_below OW.out fun k' hk' => b2.block k' (OW.out.lt k' hk').2)
        have B2 := Br.trans (b2.mono Br.size)
        clear HC hcell
        go_wp2_with (at_builtin; refine wpList_append_own _ rfl _ _ 39 rfl w1.heap.size 3 i0 (.int .i64 0) 1 8 Tryd.under_ints HI0.out HZ0.out HZ1.out HZ2.out rfl (by decide) _ _ _ rfl (OW2.out.alloc _) ⟨w2.heap.size, 0, none⟩ 1 1 [.int .i64 (z : Int)] rfl rfl (cell_one_new _ _ _) (one_int' _ _) (by unfold maxLen; omega) (by omega) (by have := B2.size; simp; omega) ?_)
        intro v' w5 hown' hgrow _
        rw [HZE.out, szC_succ] at hown'
        have B5 : Below w1.heap.size w1 w5 := (B2.alloc B2.size _).trans (grown_below hgrow (fun g' hg' => (OW2.out.lt g' hg').1) (by have := B2.size; simp; omega))
        rcases hown'.2 with ⟨_, h0⟩ | ⟨g', cp', cur', rfl, hrest⟩
        · omega
        have OW5 := Lib.hid hown'; clear hown' hrest hgrow
        clear OW2 OW
        go_wp2_with fail
        go_roundw
        case rel => exact ⟨j + 1, g', cp', by omega, by rw [HFE.out], rfl, by go_num, OW5, B5⟩
        case measure => simp [intOf]; omega
      · obtain rfl : j = mL := by omega
        have htk : L.take j = L := List.take_of_length_le (by omega)
        rw [htk]
        have hszE : J.sz L j = (J.enc J.zero L).length := by unfold J.sz; rw [htk]
        clear htk
        have hel := HSB.out j
        rw [hszE] at hel
        obtain ⟨E, hE⟩ : ∃ E, E = J.enc J.zero L := ⟨_, rfl⟩
        rw [← hE] at hszE hel ⊢
        have HEE := Lib.hid hE; clear hE
        have HLr := Lib.hid (HL.out.below Br)
        have HLLr := Lib.hid (HLL.out.below (Nat.le_refl _) Br)
        have hc := journalCut_any wr E n (by omega)
        obtain ⟨cc, hcc⟩ : ∃ cc, cc = (min (max n 0) (E.length : Int)).toNat := ⟨_, rfl⟩
        have hcE : cc ≤ E.length := by omega
        have hcn : 0 ≤ n → n ≤ (E.length : Int) → (cc : Int) = n := by omega
        have hcn2 : (E.length : Int) ≤ n → cc = E.length := by omega
        have hcn0 : n ≤ 0 → cc = 0 := by omega
        obtain ⟨T, hT⟩ : ∃ T, T = J.cut E n := ⟨_, rfl⟩
        have hTT : T = E.take cc := by rw [hT, hcc]; rfl
        have hTl : T.length = cc := by rw [hTT, List.length_take]; omega
        have hq : ((T.length : Int) == min (max n 0) (E.length : Int)) = true := by rw [beq_iff_eq, hTl]; omega
        have hq2 : ((T.length : Int) == min (max 0 n) (E.length : Int)) = true := by rw [beq_iff_eq, hTl]; omega
        have hx := strOf_extract E 0 T.length
        rw [Nat.sub_zero, List.drop_zero, hTl, ← hTT, ← hTl] at hx
        rw [← hT] at hc
        have HC := Lib.hid hc; clear hc
        have HTT := Lib.hid hTT; clear hTT
        have HTL := Lib.hid hTl
        have hTb : T.length ≤ 3816 := by omega
        have hTE : T.length ≤ E.length := by omega
        have HXX := Lib.hid hx; clear hx
        have HQQ := Lib.hid hq; clear hq
        have HQ2 := Lib.hid hq2; clear hq2
        have HZE := Lib.hid hszE; clear hszE
        have HCN := Lib.hid hcn; clear hcn
        have HCN2 := Lib.hid hcn2; clear hcn2
        have HCN0 := Lib.hid hcn0; clear hcn0
        clear hT hcc hTl
        have OWr := OW; clear OW
        go_wp2_with fail
        refine HC.out.mono ?_
        rintro e w' ⟨rfl, rfl⟩
        clear HC
        go_wp2_with fail
        go_loop [11] (fun v => ∃ k : Nat, k ≤ j ∧ v = .int .i64 (k : Int) ∧ (0 < k → (J.sz L k : Int) ≤ n)) (fun v => j - (intOf v).toNat)
        case atStart => exact ⟨0, by omega, rfl, fun h => absurd h (by decide)⟩
        case round =>
          obtain ⟨k, hk, rfl, hkn⟩ := hrel
          have HKN := Lib.hid hkn; clear hkn
          have hc0 := slice_cell OWr.out (szC_get L hk)
          have hc1 : J.sz L k ≤ cc := by
            have h1 := HSB.out k
            by_cases h0 : 0 < k
            · have h2 := HKN.out h0
              by_cases h3 : n ≤ (E.length : Int)
              · have := HCN.out (by omega) h3; omega
              · have h4 := HCN2.out (by omega)
                have : J.sz L k ≤ J.sz L j := J.sz_mono L hk (by omega)
                have := HZE.out
                omega
            · obtain rfl : k = 0 := by omega
              exact Nat.zero_le _
          by_cases hlk : k < j
          · have hz1 := HSB.out (k + 1)
            have hcell := slice_cell OWr.out (szC_get L (show k + 1 ≤ j by omega))
            have t1 : decide ((k : Int) + 1 < ((j + 1 : Nat) : Int)) = true := decide_eq_true (by omega)
            have t1' : decide (k + 1 < j + 1) = true := decide_eq_true (by omega)
            have t1'' : decide (k < j) = true := decide_eq_true hlk
            have hns : ((k : Int) + 1).toNat = k + 1 := by omega
            obtain ⟨z, hze⟩ : ∃ z, z = J.sz L (k + 1) := ⟨_, rfl⟩
            rw [← hze] at hcell hz1
            have HZ := Lib.hid hze; clear hze
            by_cases hle : (z : Int) ≤ n
            · have t2 : decide ((z : Int) ≤ n) = true := decide_eq_true hle
              clear hc0
              go_wp2_with fail
              go_round
              case rel => exact ⟨k + 1, by omega, by go_num, fun _ => by rw [← HZ.out]; exact hle⟩
              case measure => simp [intOf]; omega
            · have t2 : decide ((z : Int) ≤ n) = false := decide_eq_false hle
              have hc2 : k < L.length → cc < (J.enc J.zero (L.take (k + 1))).length := fun _ => by
                have h5 : (J.enc J.zero (L.take (k + 1))).length = z := by rw [HZ.out]; rfl
                have h6 := J.sz_mono L (show k + 1 ≤ j by omega) (by omega)
                rw [← HZ.out, HZE.out] at h6
                rw [h5]
                by_cases h0 : 0 ≤ n
                · have := HCN.out h0 (by omega); omega
                · have := HCN0.out (by omega)
                  have h7 := J.sz_lt L k (by omega)
                  rw [← HZ.out] at h7
                  omega
              have HC2 := Lib.hid hc2; clear hc2
              have hrc := J.read_cut L J.zero (fun r hr => by have := H300.out r hr; omega) cc k (by omega) hc1 HC2.out
              rw [← HEE.out, ← HTT.out] at hrc
              have hrd := journalRead_any wr T (by omega) HLr.out
              obtain ⟨R, hR⟩ : ∃ R, R = J.read J.zero T := ⟨_, rfl⟩
              rw [← hR] at hrd hrc
              clear hR
              obtain ⟨A, u, la⟩ := R
              simp only at hrd hrc
              obtain ⟨hA, hu⟩ := hrc
              subst hA
              rw [hu, show (J.enc J.zero (L.take k)).length = J.sz L k from rfl] at hrd
              clear hu
              have HRD := Lib.hid hrd; clear hrd
              go_wp2_with fail
              refine HRD.out.mono ?_
              rintro e w5 ⟨q5, c5, k5, rfl, s5, b5⟩
              clear HRD
              have B5 := Br.trans (b5.mono Br.size)
              have HL5 := Lib.hid (HLLr.out.below (Nat.le_refl _) b5)
              have hcs := refSame_any w5 _ _ _ _ _ _ _ _ s5 (HL5.out.take k cL (by omega) (by omega) (by omega))
              rw [decide_eq_true rfl] at hcs
              have HCS := Lib.hid hcs; clear hcs
              have OW5 := Lib.hid (ownsRow_below OWr.out fun k' hk' => b5.block k' (OWr.out.lt k' hk').2)
              have hx := HXX.out
              have hq := HQQ.out
              have hq2 := HQ2.out
              have hsE := strOf_size E
              have hsT := strOf_size T
              clear s5 hc0
              go_wp2_with fail
              refine HCS.out.mono ?_
              rintro e w6 ⟨rfl, b6⟩
              clear HCS
              have B6 := B5.trans (b6.mono B5.size)
              have hcell := slice_cell (ownsRow_below OW5.out fun k' hk' => b6.block k' (OW5.out.lt k' hk').2) (szC_get L (show k ≤ j by omega))
              go_wp2_with fail
              go_ret
              exact ⟨rfl, b1.trans (B6.mono b1.size)⟩
          · obtain rfl : k = j := by omega
            have t1 : decide ((k : Int) + 1 < ((k + 1 : Nat) : Int)) = false := decide_eq_false (by omega)
            have t1' : decide (k + 1 < k + 1) = false := decide_eq_false (by omega)
            have hrc := J.read_cut L J.zero (fun r hr => by have := H300.out r hr; omega) cc k (by omega) hc1 (fun h => absurd h (by omega))
            rw [← HEE.out, ← HTT.out] at hrc
            have hrd := journalRead_any wr T (by omega) HLr.out
            obtain ⟨R, hR⟩ : ∃ R, R = J.read J.zero T := ⟨_, rfl⟩
            rw [← hR] at hrd hrc
            clear hR
            obtain ⟨A, u, la⟩ := R
            simp only at hrd hrc
            obtain ⟨hA, hu⟩ := hrc
            subst hA
            rw [hu, show (J.enc J.zero (L.take k)).length = J.sz L k from rfl] at hrd
            clear hu
            have HRD := Lib.hid hrd; clear hrd
            go_wp2_with fail
            refine HRD.out.mono ?_
            rintro e w5 ⟨q5, c5, k5, rfl, s5, b5⟩
            clear HRD
            have B5 := Br.trans (b5.mono Br.size)
            have HL5 := Lib.hid (HLLr.out.below (Nat.le_refl _) b5)
            have hcs := refSame_any w5 _ _ _ _ _ _ _ _ s5 (HL5.out.take k cL (by omega) (by omega) (by omega))
            rw [decide_eq_true rfl] at hcs
            have HCS := Lib.hid hcs; clear hcs
            have OW5 := Lib.hid (ownsRow_below OWr.out fun k' hk' => b5.block k' (OWr.out.lt k' hk').2)
            have hx := HXX.out
            have hq := HQQ.out
            have hq2 := HQ2.out
            have hsE := strOf_size E
            have hsT := strOf_size T
            clear s5 hc0
            go_wp2_with fail
            refine HCS.out.mono ?_
            rintro e w6 ⟨rfl, b6⟩
            clear HCS
            have B6 := B5.trans (b6.mono B5.size)
            have hcell := slice_cell (ownsRow_below OW5.out fun k' hk' => b6.block k' (OW5.out.lt k' hk').2) (szC_get L (show k ≤ k by omega))
            go_wp2_with fail
            go_ret
            exact ⟨rfl, b1.trans (B6.mono b1.size)⟩

theorem jcuts_law (w : World) (oL : Option Addr) (mL cL : Nat) (L : List ByteArray) (rL : RowsAt w oL mL cL 1 strCell L) (hxL : ∀ s ∈ L, s.size ≤ maxLen) (n : Int) (hn : (Lit.int .i64 n).wf = true) (hL : Laid w) :
    Calls Tryd.prog 5 #[.slice oL mL cL, .int .i64 n] w fun e w' => e = .returned (.bool true) ∧ Below w.heap.size w w' := by
  have h := jcuts_list w oL mL cL _ (StrsAt.of_rows rL) (strs_le hxL) n hn hL
  exact h

end Go.Proofs.YtjlaoijmcenahaaDoor
