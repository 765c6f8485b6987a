/- WireGets: an In reads what the reference reads, field by field. The walk of the law. -/
import Derived.Test.YtnohbamjcadfaaaRefGet
import Derived.Test.YtnohbamjcadfaaaKeeps
namespace Go.Proofs.Ytnohbamjcadfaaa
open Go.RowKit
set_option linter.unusedSimpArgs false

theorem refV_ok (f : FieldV) (hf : f.ok) (l : List UInt8) (hl : l.length ≤ 140737488351232) : (refV f l).1.ok := by
  have a0 : (-9223372036854775808 : Int) ≤ 0 := by decide
  have a1 : (0 : Int) ≤ 9223372036854775807 := by decide
  have a2 : (0 : Nat) < 18446744073709551616 := by decide
  have k1 : ∀ k : Int, 0 ≤ k → k ≤ 3 → -9223372036854775808 ≤ k ∧ k ≤ 9223372036854775807 := fun k _ _ => by omega
  have c1 := k1 1 (by omega) (by omega)
  have c2 := k1 2 (by omega) (by omega)
  have c3 := k1 3 (by omega) (by omega)
  have hz : zeroField.ok := ⟨a0, a1, a0, a1, a2, a0, a1, Nat.zero_le _, rfl⟩
  have hn := Wire.dec_u64 l
  have hu := Wire.unzig_bounds _ hn
  unfold refV
  split
  · split
    · exact hz
    · exact ⟨c3.1, c3.2, a0, a1, a2, a0, a1, Nat.zero_le _, by rw [List.length_take]; omega⟩
  · split
    · exact hz
    · split
      · exact ⟨a0, a1, a0, a1, hn, a0, a1, Nat.zero_le _, rfl⟩
      · split
        · exact ⟨c1.1, c1.2, a0, a1, a2, hu.1, hu.2, Nat.zero_le _, rfl⟩
        · split
          · exact hz
          · split
            · exact hz
            · refine ⟨c2.1, c2.2, a0, a1, a2, a0, a1, ?_, rfl⟩
              show (strOf ((l.drop (Wire.dec 0 0 l).2.1).take (Wire.dec 0 0 l).1)).size ≤ _
              rw [strOf_size, List.length_take, List.length_drop]
              exact Nat.le_trans (Nat.le_trans (Nat.min_le_right _ _) (Nat.sub_le _ _)) (by unfold maxLen; omega)

set_option maxRecDepth 100000 in
set_option maxHeartbeats 2000000 in
theorem gets_walk (w : World) (l0 : List UInt8) (hl0 : l0.length ≤ 140737488351232) (o0 : Option Addr) (len cap : Nat) (F : List FieldV) (hF : RowsAt w o0 len cap 37 FieldV.cells F) (hok : ∀ f ∈ F, f.ok) :
    Calls Try.prog 7 #[.string (strOf l0), .slice o0 len cap] w fun e w' => e = .returned (.bool true) ∧ Below w.heap.size w w' := by
  have hs := strOf_size l0
  have HF := Lib.hid hF
  obtain ⟨hlen, hcap, hm, _⟩ := hF
  unfold maxLen at hm
  have HLEN := Lib.hid hlen; clear hlen
  have HOK := Lib.hid hok; clear hok
  have HZS := Lib.hid (field_size (f := zeroField) rfl)
  have HZA := Lib.hid (field_all zeroField)
  obtain ⟨fs, hfs⟩ := Try.under_field
  have HFS := Lib.hid hfs; clear hfs
  go_enter Try.func7, Try.ntmps7
  go_wp2_with fail
  refine (newIn_use _ _).mono ?_
  rintro e w1 ⟨rfl, i1, b1, s1⟩
  go_wp2_with fail
  refine (awake_any _).mono ?_
  rintro e w2 ⟨rfl, b2⟩
  replace i1 := i1.below b2
  have s2 := b2.size
  have B2 := b1.trans (b2.mono (by omega))
  clear b1 b2
  have hF2 : RowsAt w2 o0 len cap 37 FieldV.cells F := HF.out.below B2
  go_wp2_with fail
  refine (few_any w2 o0 len cap F hF2).mono ?_
  rintro e w' ⟨rfl, rfl⟩
  clear hF2
  cases hfew : fewB F with
  | false =>
    go_wp2_with fail
    refine (awake_any _).mono ?_
    rintro e w3 ⟨rfl, b3⟩
    go_wp2_with fail
    go_ret
    exact ⟨rfl, B2.trans (b3.mono (by omega))⟩
  | true =>
    have HFEW := Lib.hid hfew; clear hfew
    by_cases hg : l0.length ≤ 500
    · go_wp2_with fail
      go_loopw [0, 6, 7] (fun s e i wr => ∃ k : Nat, ∃ l : List UInt8, ∃ er : Nat, k ≤ len ∧ l.length ≤ 500 ∧ s = .string (strOf l) ∧ e = .int .i64 er ∧ i = .int .i64 k ∧ InIs wr w.heap.size l er ∧ Below w.heap.size w wr) (fun _ _ i _ => len - (intOf i).toNat)
      case atStart => exact ⟨0, l0, 0, by omega, hg, rfl, rfl, rfl, i1, B2⟩
      case round =>
        obtain ⟨k, l, er, hk, hll, rfl, rfl, rfl, ir, Br⟩ := hrel
        clear i1 B2 s2 s1 hs hg
        have hs := strOf_size l
        have hlr := ir.lt
        have sr := Br.size
        by_cases hlt : k < len
        · obtain ⟨b, off, rfl, hb, hr⟩ := HF.out.2.2.2 (by omega)
          obtain ⟨f, hf⟩ : ∃ f, F[k]? = some f := ⟨_, List.getElem?_eq_getElem (by rw [HLEN.out]; exact hlt)⟩
          have hfok := HOK.out f (List.mem_of_getElem? hf)
          have hf1 := few_one HFEW.out hf
          have HLF := Lib.hid (FieldV.len hfok)
          have hrw := hr k f hf
          obtain ⟨W1, hW1⟩ : ∃ W1, W1 = (wr.alloc (.cells zeroField.cells.toArray 47)).setRow wr.heap.size zeroField.cells.toArray := ⟨_, rfl⟩
          have r1 : W1.heap[wr.heap.size]? = some (.cells zeroField.cells.toArray 47 (0, 0)) := by rw [hW1]; exact setRow_heap _ _ _ _ _ _ (heap_alloc_new wr _)
          have b1 : Below wr.heap.size wr W1 := by rw [hW1]; exact below_setRow ((Below.refl _ _).alloc (Nat.le_refl _) _) (Nat.le_refl _) _
          have s1 : W1.heap.size = wr.heap.size + 1 := by rw [hW1]; simp [World.setRow]
          have i1 := ir.below b1
          have B1 := Br.trans (b1.mono (by omega))
          have HRK1 := Lib.hid (range_below hrw hb B1)
          have HRW := Lib.hid hrw; clear hrw hr
          have HW1 := Lib.hid hW1; clear hW1
          have H1 := Lib.hid hf; clear hf
          have hk0 := hf1.2.1
          have hk3 := hf1.2.2
          have HF1 := Lib.hid hf1; clear hf1
          clear ir b1
          by_cases he : er = 0
          · subst he
            obtain ⟨V, n, er', hv⟩ : ∃ V n er', refV f l = (V, n, er') := ⟨_, _, _, rfl⟩
            have hgv := getV_ref f ⟨hk0, hk3⟩ l
            have hvok := refV_ok f hfok l (by omega)
            have hnl := refV_len f l
            rw [hv] at hgv hvok hnl
            simp only at hgv hvok hnl
            have HWV : Hid (wantV f l = if er' = 0 then V else { zeroField with kind := f.kind }) := Lib.hid (by unfold wantV; rw [hv])
            have HGV := Lib.hid hgv; clear hgv
            have HV := Lib.hid hv; clear hv
            have HVS := Lib.hid (field_size hvok.h1)
            have HVA := Lib.hid (field_all V)
            have HVOK := Lib.hid hvok; clear hvok
            have HSL := Lib.hid (strOf_list l)
            go_wp2_with (first | ((with_reducible show wpList _ _ _ (⟨some 37, _, _, _, _, _⟩ :: _) _ _); refine wpList_build0 (o := ⟨some 37, _, _, _, _, _⟩) rfl _ rfl zeroField.cells.toArray FieldV.builtZ ?_) | ((with_reducible show wpList _ _ _ (⟨none, .store 47 (.tmp 8) (.tmp 37), _, _, _, _⟩ :: _) _ _); refine wpList_store_row (o := ⟨none, .store 47 _ _, _, _, _, _⟩) rfl _ _ _ rfl wr.heap.size zeroField.cells.toArray rfl rfl _ zeroField.cells.toArray (heap_alloc_new wr (.cells zeroField.cells.toArray 47)) (by rw [HZS.out]; exact Try.size_field) rfl HZA.out ?_; change wpList _ _ _ _ _ ((wr.alloc (.cells zeroField.cells.toArray 47)).setRow wr.heap.size zeroField.cells.toArray); rw [← HW1.out]) | ((with_reducible show wpList _ _ _ (⟨some 46, _, _, _, _, _⟩ :: _) _ _); refine wpList_load_mid (op := ⟨some 46, _, _, _, _, _⟩) rfl _ _ rfl b (off + k * 37) rfl f.cells _ HRK1.out HFS.out rfl (by rw [HLF.out]; exact Try.size_field) ?_))
            refine (refGet_any f hfok (strOf l) (by rw [hs]; unfold maxLen; omega) W1).mono ?_
            rintro e w4 ⟨rfl, b4⟩
            rw [HSL.out, HV.out]
            have s4 := b4.size
            have r4 := (b4.block wr.heap.size (by omega)).trans r1
            have i4 := i1.below b4
            have B4 := B1.trans (b4.mono (by omega))
            obtain ⟨W2, hW2⟩ : ∃ W2, W2 = w4.setRow wr.heap.size V.cells.toArray := ⟨_, rfl⟩
            have r2 : W2.heap[wr.heap.size]? = some (.cells V.cells.toArray 47 (0, 0)) := by rw [hW2]; exact setRow_heap _ _ _ _ _ _ r4
            have b2 : Below wr.heap.size w4 W2 := by rw [hW2]; exact below_setRow (Below.refl _ _) (Nat.le_refl _) _
            have s2 : W2.heap.size = w4.heap.size := by rw [hW2]; simp [World.setRow]
            have i2 := i4.kept (b2.block _ (by omega))
            have B2 := B4.trans (b2.mono (by omega))
            have HRK2 := Lib.hid (range_below HRW.out hb B2)
            have R4 := Lib.hid r4; clear r4
            have HW2 := Lib.hid hW2; clear hW2
            clear i1 i4 b2 b4 B1 B4 r1
            go_wp2_with (first | ((with_reducible show wpList _ _ _ (⟨none, .store 47 (.tmp 8) (.tmp 48), _, _, _, _⟩ :: _) _ _); refine wpList_store_row (o := ⟨none, .store 47 _ _, _, _, _, _⟩) rfl _ _ _ rfl wr.heap.size V.cells.toArray rfl rfl _ zeroField.cells.toArray R4.out (by rw [HVS.out]; exact Try.size_field) (by rw [HVS.out]; exact HZS.out) HVA.out ?_; rw [← HW2.out]) | ((with_reducible show wpList _ _ _ (⟨some 55, _, _, _, _, _⟩ :: _) _ _); refine wpList_load_mid (op := ⟨some 55, _, _, _, _, _⟩) rfl _ _ rfl b (off + k * 37) rfl f.cells _ HRK2.out HFS.out rfl (by rw [HLF.out]; exact Try.size_field) ?_))
            refine (get_any f hfok _ l 0 (by unfold maxLen; omega) W2 i2).mono ?_
            rintro e w5 ⟨rfl, i5, b5⟩
            obtain ⟨l', hl'⟩ : ∃ l', l' = l.drop n := ⟨_, rfl⟩
            obtain ⟨G, hG⟩ : ∃ G, G = wantV f l := ⟨_, rfl⟩
            rw [HGV.out] at i5 ⊢
            simp only [← hl', ← hG] at i5 ⊢
            have s5 := b5.size
            have r5 := (b5.block wr.heap.size (by omega) (by omega)).trans r2
            have B5 := Below.more B2 b5 (by omega) (by omega)
            have hGok : G.ok := by rw [hG, HWV.out]; split; exact HVOK.out; exact zeroKind_ok _ hfok.kind0 hfok.kind1
            have HGS := Lib.hid (field_size hGok.h1)
            have HGA := Lib.hid (field_all G)
            have HGL := Lib.hid (FieldV.len hGok)
            have HSELF := Lib.hid (fieldEq_self G)
            obtain ⟨W3, hW3⟩ : ∃ W3, W3 = (w5.alloc (.cells zeroField.cells.toArray 47)).setRow w5.heap.size G.cells.toArray := ⟨_, rfl⟩
            have r3 : W3.heap[w5.heap.size]? = some (.cells G.cells.toArray 47 (0, 0)) := by rw [hW3]; exact setRow_heap _ _ _ _ _ _ (heap_alloc_new w5 _)
            have b3 : Below w5.heap.size w5 W3 := by rw [hW3]; exact below_setRow ((Below.refl _ _).alloc (Nat.le_refl _) _) (Nat.le_refl _) _
            have q3 := (b3.block wr.heap.size (by omega)).trans r5
            have i3 := i5.below b3
            have B3 := B5.trans (b3.mono (by omega))
            have hext := strOf_from l n
            rw [← hl'] at hext
            have hs' := strOf_size l'
            have hl2 : l'.length ≤ 500 := by rw [hl', List.length_drop]; omega
            have HW3 := Lib.hid hW3; clear hW3
            clear i2 i5 b3 b5 B2 B5 r2 r5
            by_cases he' : er' = 0
            · subst he'
              have hGV : G = V := by rw [hG, HWV.out, if_pos rfl]
              subst hGV
              have X8 := Lib.hid q3
              have X11 := Lib.hid r3
              have iF := i3
              have BF := B3
              clear q3 r3 hG i3 B3 hl'
              go_wp2_with (first | (((with_reducible show wpList _ _ _ (⟨none, .store 47 (.tmp 11) (.tmp 56), _, _, _, _⟩ :: _) _ _); refine wpList_store_row (o := ⟨none, .store 47 _ _, _, _, _, _⟩) rfl _ _ _ rfl w5.heap.size G.cells.toArray rfl rfl _ zeroField.cells.toArray (heap_alloc_new w5 (.cells zeroField.cells.toArray 47)) (by rw [HGS.out]; exact Try.size_field) (by rw [HGS.out]; exact HZS.out) HGA.out ?_; change wpList _ _ _ _ _ ((w5.alloc (.cells zeroField.cells.toArray 47)).setRow w5.heap.size G.cells.toArray); rw [← HW3.out])) | ((with_reducible show wpList _ _ _ (⟨some 69, _, _, _, _, _⟩ :: _) _ _); refine wpList_load_row (o := ⟨some 69, _, _, _, _, _⟩) rfl _ _ rfl w5.heap.size rfl _ G.cells.toArray _ _ X11.out HFS.out rfl (by rw [HGS.out]; exact Try.size_field) ?_) | ((with_reducible show wpList _ _ _ (⟨some 70, _, _, _, _, _⟩ :: _) _ _); refine wpList_load_row (o := ⟨some 70, _, _, _, _, _⟩) rfl _ _ rfl wr.heap.size rfl _ G.cells.toArray _ _ X8.out HFS.out rfl (by rw [HGS.out]; exact Try.size_field) ?_) | ((with_reducible show wpList _ _ _ (⟨some 71, _, _, _, _, _⟩ :: _) _ _); refine wpList_neq_field (op := ⟨some 71, _, _, _, _, _⟩) rfl _ _ rfl G G hGok hGok rfl rfl ?_; rw [HSELF.out]))
              refine (inErr_any _ _ _ _ iF).mono ?_
              rintro e w' ⟨rfl, rfl⟩
              go_wp2_with fail
              refine (inLeft_any _ _ _ _ iF).mono ?_
              rintro e w' ⟨rfl, rfl⟩
              go_wp2_with fail
              go_roundw
              case rel => exact ⟨k + 1, l', 0, by omega, by omega, rfl, rfl, by go_num, iF, BF⟩
              case measure => simp [intOf]; omega
            · have he2 : ((er' : Int) != 0) = true := by simpa using he'
              have hG2 : G = { zeroField with kind := f.kind } := by rw [hG, HWV.out, if_neg he']
              have HB : Hid (Try.prog.built 47 [(0, .int .i64 f.kind)] = some G.cells.toArray) := Lib.hid (by rw [hG2]; exact FieldV.builtK _)
              have ck := (rows_cell (range_below HRW.out hb B3)).1
              obtain ⟨W4, hW4⟩ : ∃ W4, W4 = W3.setRow wr.heap.size G.cells.toArray := ⟨_, rfl⟩
              have x8 : W4.heap[wr.heap.size]? = some (.cells G.cells.toArray 47 (0, 0)) := by rw [hW4]; exact setRow_heap _ _ _ _ _ _ q3
              have x11 : W4.heap[w5.heap.size]? = some (.cells G.cells.toArray 47 (0, 0)) := by rw [hW4, setRow_other _ _ _ _ (by omega)]; exact r3
              have b6 : Below wr.heap.size W3 W4 := by rw [hW4]; exact below_setRow (Below.refl _ _) (Nat.le_refl _) _
              have iF := i3.kept (b6.block _ (by omega))
              have BF := B3.trans (b6.mono (by omega))
              have X8 := Lib.hid x8
              have X11 := Lib.hid x11
              have Q3 := Lib.hid q3; clear q3
              have HW4 := Lib.hid hW4; clear hW4
              clear r3 hG hG2 i3 B3 b6 x8 x11 hl'
              go_wp2_with (first | ((with_reducible show wpList _ _ _ (⟨none, .store 47 (.tmp 11) (.tmp 56), _, _, _, _⟩ :: _) _ _); refine wpList_store_row (o := ⟨none, .store 47 _ _, _, _, _, _⟩) rfl _ _ _ rfl w5.heap.size G.cells.toArray rfl rfl _ zeroField.cells.toArray (heap_alloc_new w5 (.cells zeroField.cells.toArray 47)) (by rw [HGS.out]; exact Try.size_field) (by rw [HGS.out]; exact HZS.out) HGA.out ?_; change wpList _ _ _ _ _ ((w5.alloc (.cells zeroField.cells.toArray 47)).setRow w5.heap.size G.cells.toArray); rw [← HW3.out]) | ((with_reducible show wpList _ _ _ (⟨some 64, _, _, _, _, _⟩ :: _) _ _); refine wpList_build1' (o := ⟨some 64, _, _, _, _, _⟩) rfl _ _ _ rfl _ rfl G.cells.toArray HB.out ?_) | ((with_reducible show wpList _ _ _ (⟨none, .store 47 (.tmp 8) (.tmp 64), _, _, _, _⟩ :: _) _ _); refine wpList_store_row (o := ⟨none, .store 47 _ _, _, _, _, _⟩) rfl _ _ _ rfl wr.heap.size G.cells.toArray rfl rfl _ V.cells.toArray Q3.out (by rw [HGS.out]; exact Try.size_field) (by rw [HGS.out]; exact HVS.out) HGA.out ?_; rw [← HW4.out]) | ((with_reducible show wpList _ _ _ (⟨some 69, _, _, _, _, _⟩ :: _) _ _); refine wpList_load_row (o := ⟨some 69, _, _, _, _, _⟩) rfl _ _ rfl w5.heap.size rfl _ G.cells.toArray _ _ X11.out HFS.out rfl (by rw [HGS.out]; exact Try.size_field) ?_) | ((with_reducible show wpList _ _ _ (⟨some 70, _, _, _, _, _⟩ :: _) _ _); refine wpList_load_row (o := ⟨some 70, _, _, _, _, _⟩) rfl _ _ rfl wr.heap.size rfl _ G.cells.toArray _ _ X8.out HFS.out rfl (by rw [HGS.out]; exact Try.size_field) ?_) | ((with_reducible show wpList _ _ _ (⟨some 71, _, _, _, _, _⟩ :: _) _ _); refine wpList_neq_field (op := ⟨some 71, _, _, _, _, _⟩) rfl _ _ rfl G G hGok hGok rfl rfl ?_; rw [HSELF.out]))
              refine (inErr_any _ _ _ _ iF).mono ?_
              rintro e w' ⟨rfl, rfl⟩
              go_wp2_with fail
              refine (inLeft_any _ _ _ _ iF).mono ?_
              rintro e w' ⟨rfl, rfl⟩
              go_wp2_with fail
              go_roundw
              case rel => exact ⟨k + 1, l', er', by omega, by omega, rfl, rfl, by go_num, iF, BF⟩
              case measure => simp [intOf]; omega
          · have he0 : ((er : Int) == 0) = false := by simpa using he
            have he2 : ((er : Int) != 0) = true := by simpa using he
            have hgv := getV_err f ⟨hk0, hk3⟩ l er he
            have HGV := Lib.hid hgv; clear hgv
            have i2 := i1
            have hrk2 := HRK1.out
            go_wp2_with (first | ((with_reducible show wpList _ _ _ (⟨some 37, _, _, _, _, _⟩ :: _) _ _); refine wpList_build0 (o := ⟨some 37, _, _, _, _, _⟩) rfl _ rfl zeroField.cells.toArray FieldV.builtZ ?_) | ((with_reducible show wpList _ _ _ (⟨none, .store 47 (.tmp 8) (.tmp 37), _, _, _, _⟩ :: _) _ _); refine wpList_store_row (o := ⟨none, .store 47 _ _, _, _, _, _⟩) rfl _ _ _ rfl wr.heap.size zeroField.cells.toArray rfl rfl _ zeroField.cells.toArray (heap_alloc_new wr (.cells zeroField.cells.toArray 47)) (by rw [HZS.out]; exact Try.size_field) rfl HZA.out ?_; change wpList _ _ _ _ _ ((wr.alloc (.cells zeroField.cells.toArray 47)).setRow wr.heap.size zeroField.cells.toArray); rw [← HW1.out]) | ((with_reducible show wpList _ _ _ (⟨some 55, _, _, _, _, _⟩ :: _) _ _); refine wpList_load_mid (op := ⟨some 55, _, _, _, _, _⟩) rfl _ _ rfl b (off + k * 37) rfl f.cells _ HRK1.out HFS.out rfl (by rw [HLF.out]; exact Try.size_field) ?_))
            refine (get_any f hfok _ l er (by unfold maxLen; omega) W1 i2).mono ?_
            rintro e w5 ⟨rfl, i5, b5⟩
            obtain ⟨G, hG⟩ : ∃ G : FieldV, G = { zeroField with kind := f.kind } := ⟨_, rfl⟩
            rw [HGV.out] at i5 ⊢
            simp only [← hG] at i5 ⊢
            have s5 := b5.size
            have r5 := (b5.block wr.heap.size (by omega) (by omega)).trans r1
            have B5 := Below.more B1 b5 (by omega) (by omega)
            have hGok : G.ok := by rw [hG]; exact zeroKind_ok _ hfok.kind0 hfok.kind1
            have HGS := Lib.hid (field_size hGok.h1)
            have HGA := Lib.hid (field_all G)
            have HGL := Lib.hid (FieldV.len hGok)
            have HSELF := Lib.hid (fieldEq_self G)
            obtain ⟨W3, hW3⟩ : ∃ W3, W3 = (w5.alloc (.cells zeroField.cells.toArray 47)).setRow w5.heap.size G.cells.toArray := ⟨_, rfl⟩
            have r3 : W3.heap[w5.heap.size]? = some (.cells G.cells.toArray 47 (0, 0)) := by rw [hW3]; exact setRow_heap _ _ _ _ _ _ (heap_alloc_new w5 _)
            have b3 : Below w5.heap.size w5 W3 := by rw [hW3]; exact below_setRow ((Below.refl _ _).alloc (Nat.le_refl _) _) (Nat.le_refl _) _
            have q3 := (b3.block wr.heap.size (by omega)).trans r5
            have i3 := i5.below b3
            have B3 := B5.trans (b3.mono (by omega))
            have hext := strOf_from l 0
            rw [List.drop_zero] at hext
            have HW3 := Lib.hid hW3; clear hW3
            have HB : Hid (Try.prog.built 47 [(0, .int .i64 f.kind)] = some G.cells.toArray) := Lib.hid (by rw [hG]; exact FieldV.builtK _)
            have ck := (rows_cell (range_below HRW.out hb B3)).1
            obtain ⟨W4, hW4⟩ : ∃ W4, W4 = W3.setRow wr.heap.size G.cells.toArray := ⟨_, rfl⟩
            have x8 : W4.heap[wr.heap.size]? = some (.cells G.cells.toArray 47 (0, 0)) := by rw [hW4]; exact setRow_heap _ _ _ _ _ _ q3
            have x11 : W4.heap[w5.heap.size]? = some (.cells G.cells.toArray 47 (0, 0)) := by rw [hW4, setRow_other _ _ _ _ (by omega)]; exact r3
            have b6 : Below wr.heap.size W3 W4 := by rw [hW4]; exact below_setRow (Below.refl _ _) (Nat.le_refl _) _
            have iF := i3.kept (b6.block _ (by omega))
            have BF := B3.trans (b6.mono (by omega))
            have X8 := Lib.hid x8
            have X11 := Lib.hid x11
            have Q3 := Lib.hid q3; clear q3
            have HW4 := Lib.hid hW4; clear hW4
            clear r1 r3 r5 hG i1 i2 i3 i5 B1 B5 B3 b3 b5 b6 x8 x11 hrk2
            go_wp2_with (first | ((with_reducible show wpList _ _ _ (⟨none, .store 47 (.tmp 11) (.tmp 56), _, _, _, _⟩ :: _) _ _); refine wpList_store_row (o := ⟨none, .store 47 _ _, _, _, _, _⟩) rfl _ _ _ rfl w5.heap.size G.cells.toArray rfl rfl _ zeroField.cells.toArray (heap_alloc_new w5 (.cells zeroField.cells.toArray 47)) (by rw [HGS.out]; exact Try.size_field) (by rw [HGS.out]; exact HZS.out) HGA.out ?_; change wpList _ _ _ _ _ ((w5.alloc (.cells zeroField.cells.toArray 47)).setRow w5.heap.size G.cells.toArray); rw [← HW3.out]) | ((with_reducible show wpList _ _ _ (⟨some 64, _, _, _, _, _⟩ :: _) _ _); refine wpList_build1' (o := ⟨some 64, _, _, _, _, _⟩) rfl _ _ _ rfl _ rfl G.cells.toArray HB.out ?_) | ((with_reducible show wpList _ _ _ (⟨none, .store 47 (.tmp 8) (.tmp 64), _, _, _, _⟩ :: _) _ _); refine wpList_store_row (o := ⟨none, .store 47 _ _, _, _, _, _⟩) rfl _ _ _ rfl wr.heap.size G.cells.toArray rfl rfl _ zeroField.cells.toArray Q3.out (by rw [HGS.out]; exact Try.size_field) (by rw [HGS.out]; exact HZS.out) HGA.out ?_; rw [← HW4.out]) | ((with_reducible show wpList _ _ _ (⟨some 69, _, _, _, _, _⟩ :: _) _ _); refine wpList_load_row (o := ⟨some 69, _, _, _, _, _⟩) rfl _ _ rfl w5.heap.size rfl _ G.cells.toArray _ _ X11.out HFS.out rfl (by rw [HGS.out]; exact Try.size_field) ?_) | ((with_reducible show wpList _ _ _ (⟨some 70, _, _, _, _, _⟩ :: _) _ _); refine wpList_load_row (o := ⟨some 70, _, _, _, _, _⟩) rfl _ _ rfl wr.heap.size rfl _ G.cells.toArray _ _ X8.out HFS.out rfl (by rw [HGS.out]; exact Try.size_field) ?_) | ((with_reducible show wpList _ _ _ (⟨some 71, _, _, _, _, _⟩ :: _) _ _); refine wpList_neq_field (op := ⟨some 71, _, _, _, _, _⟩) rfl _ _ rfl G G hGok hGok rfl rfl ?_; rw [HSELF.out]))
            refine (inErr_any _ _ _ _ iF).mono ?_
            rintro e w' ⟨rfl, rfl⟩
            go_wp2_with fail
            refine (inLeft_any _ _ _ _ iF).mono ?_
            rintro e w' ⟨rfl, rfl⟩
            go_wp2_with fail
            go_roundw
            case rel => exact ⟨k + 1, l, er, by omega, by omega, rfl, rfl, by go_num, iF, BF⟩
            case measure => simp [intOf]; omega
        · have hst := strOf_toList l
          by_cases he : er = 0
          · subst he
            have HE : Hid (endErr l ((0 : Nat) : Int) = if l = [] then 0 else 22) := Lib.hid (by unfold endErr; by_cases h : l = [] <;> simp [h])
            by_cases hm0 : l = []
            · have hme : (!(strOf l).toList.isEmpty) = false := by rw [hst, hm0]; rfl
              rw [if_pos hm0] at HE
              clear hst hm0
              go_wp2_with fail
              refine (inEnd_any _ _ _ _ ir).mono ?_
              rintro e w' ⟨rfl, rfl⟩
              rw [HE.out]
              go_wp2_with fail
              go_ret
              exact ⟨rfl, Br⟩
            · have hme : (!(strOf l).toList.isEmpty) = true := by rw [hst]; cases l with
                | nil => exact absurd rfl hm0
                | cons c r => rfl
              rw [if_neg hm0] at HE
              clear hst hm0
              go_wp2_with fail
              refine (inEnd_any _ _ _ _ ir).mono ?_
              rintro e w' ⟨rfl, rfl⟩
              rw [HE.out]
              go_wp2_with fail
              go_ret
              exact ⟨rfl, Br⟩
          · have he0 : ((er : Int) == 0) = false := by simpa using he
            have HE : Hid (endErr l (er : Int) = er) := Lib.hid (by unfold endErr; rw [if_neg (by omega)])
            go_wp2_with fail
            refine (inEnd_any _ _ _ _ ir).mono ?_
            rintro e w' ⟨rfl, rfl⟩
            rw [HE.out]
            go_wp2_with fail
            go_ret
            exact ⟨rfl, Br⟩
    · go_wp2_with fail
      refine (awake_any _).mono ?_
      rintro e w3 ⟨rfl, b3⟩
      go_wp2_with fail
      go_ret
      exact ⟨rfl, B2.trans (b3.mono (by omega))⟩

theorem gets_law (w : World) (a0 : ByteArray) (w0 : a0.size ≤ 140737488351232) (o0 : Option Addr) (len cap : Nat) (F : List FieldV) (hF : RowsAt w o0 len cap 37 FieldV.cells F) (hok : ∀ f ∈ F, f.ok) :
    Calls Try.prog 7 #[.string a0, .slice o0 len cap] w fun e w' => e = .returned (.bool true) ∧ Below w.heap.size w w' := by
  obtain ⟨l, rfl⟩ := str_eta a0
  rw [strOf_size] at w0
  exact gets_walk w l w0 o0 len cap F hF hok
end Go.Proofs.Ytnohbamjcadfaaa
