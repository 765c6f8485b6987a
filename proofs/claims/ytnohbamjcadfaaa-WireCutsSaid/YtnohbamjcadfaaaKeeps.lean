/- WireKeeps: with an error nothing is read, and it is kept. The walk of the law. -/
import Derived.Test.YtnohbamjcadfaaaEq
import Derived.Test.YtnohbamjcadfaaaRef
import Derived.Deep.QuietTactic
import Derived.BigQuiet
namespace Go.Proofs.Ytnohbamjcadfaaa
open Go.RowKit

theorem getV_err (f : FieldV) (hk : 0 ≤ f.kind ∧ f.kind ≤ 3) (l : List UInt8) (e : Nat) (he : e ≠ 0) : getV f l e = ({ zeroField with kind := f.kind }, l, e) := by
  have h1 : Wire.rdNum l e = (0, l, e) := by simp [Wire.rdNum, he]
  have h2 : ∀ m, Wire.rdText m l e = ([], l, e) := by intro m; simp [Wire.rdText, he]
  have h3 : Wire.rdHash l e = (List.replicate 32 0, l, e) := by simp [Wire.rdHash, he]
  unfold getV
  rw [h1, h2, h3]
  split
  · rename_i k; rw [k]; rfl
  · split
    · rename_i k; rw [k, show Wire.unzig ((0, l, e) : Nat × List UInt8 × Nat).1 = 0 from (by decide : Wire.unzig 0 = 0)]; rfl
    · split
      · rename_i k; rw [k]; rfl
      · rw [show f.kind = 3 by omega]; rfl

theorem rd_form (l : List UInt8) : Wire.rdNum (128 :: 0 :: l) 0 = (0, 128 :: 0 :: l, 21) := by
  have : Wire.dec 0 0 (128 :: 0 :: l) = (0, 0, 21) := by
    rw [Wire.dec_more (by decide) (by decide), Wire.dec_stop (by decide)]
  unfold Wire.rdNum
  rw [this]
  rfl

set_option maxRecDepth 100000 in
set_option maxHeartbeats 1000000 in
theorem keeps_walk (w : World) (l : List UInt8) (hl : l.length ≤ 140737488351232) (o0 : Option Addr) (len cap : Nat) (F : List FieldV) (hF : RowsAt w o0 len cap 37 FieldV.cells F) (hok : ∀ f ∈ F, f.ok) :
    Calls Try.prog 8 #[.string (strOf l), .slice o0 len cap] w fun e w' => e = .returned (.bool true) ∧ Below w.heap.size w w' := by
  have hs := strOf_size l
  have HF := Lib.hid hF
  obtain ⟨hlen, hcap, hm, _⟩ := hF
  unfold maxLen at hm
  have HLEN := Lib.hid hlen; clear hlen
  have HOK := Lib.hid hok; clear hok
  have hadd := add_str [128, 0] l
  have HADD := Lib.hid hadd; clear hadd
  obtain ⟨fs, hfs⟩ := Try.under_field
  have HFS := Lib.hid hfs; clear hfs
  go_enter Try.func8, Try.ntmps8
  go_wp2_with fail
  change Calls _ _ #[.string (strOf [128, 0] ++ strOf l)] _ _
  rw [HADD.out]
  refine (newIn_use _ _).mono ?_
  rintro e w1 ⟨rfl, i1, b1, s1⟩
  go_wp2_with fail
  refine (awake_any _).mono ?_
  rintro e w2 ⟨rfl, b2⟩
  replace i1 := i1.below b2
  have s2 := b2.size
  have B2 := b1.trans (b2.mono (by omega))
  clear b1 b2
  by_cases hg : l.length ≤ 300
  · have hF2 : RowsAt w2 o0 len cap 37 FieldV.cells F := HF.out.below B2
    go_wp2_with fail
    refine (few_any w2 o0 len cap F hF2).mono ?_
    rintro e w' ⟨rfl, rfl⟩
    clear hF2
    cases hfew : fewB F with
    | false =>
      go_wp2_with fail
      refine (awake_any _).mono ?_
      rintro e w3 ⟨rfl, b3⟩
      go_wp2_with fail
      go_ret
      exact ⟨rfl, B2.trans (b3.mono (by omega))⟩
    | true =>
      have HFEW := Lib.hid hfew; clear hfew
      go_wp2_with fail
      refine (inNum_any _ _ 0 (by unfold maxLen; simp; omega) _ i1).mono ?_
      rintro e w3 ⟨rfl, i3, b3⟩
      have hrd := rd_form l
      replace i3 : InIs w3 w.heap.size (128 :: 0 :: l) 21 := by
        have e : ([128, 0] ++ l : List UInt8) = 128 :: 0 :: l := rfl
        rw [e, hrd] at i3; exact i3
      have s3 := b3.size
      have B3 := Below.more B2 b3 (by omega) (by omega)
      clear i1 b3 B2 hrd
      go_wp2_with fail
      go_loopw [6] (fun i wr => ∃ k : Nat, k ≤ len ∧ i = .int .i64 k ∧ InIs wr w.heap.size (128 :: 0 :: l) 21 ∧ Below w.heap.size w wr) (fun i _ => len - (intOf i).toNat)
      case atStart => exact ⟨0, by omega, rfl, i3, B3⟩
      case round =>
        obtain ⟨k, hk, rfl, ir, Br⟩ := hrel
        clear i3 B3 s3
        have hlr := ir.lt
        by_cases hlt : k < len
        · obtain ⟨b, off, rfl, hb, hr⟩ := HF.out.2.2.2 (by omega)
          obtain ⟨f, hf⟩ : ∃ f, F[k]? = some f := ⟨_, List.getElem?_eq_getElem (by rw [HLEN.out]; exact hlt)⟩
          have hrk := range_below (hr k f hf) hb Br
          have hfok := HOK.out f (List.mem_of_getElem? hf)
          have hf1 := few_one HFEW.out hf
          have hge := getV_err f ⟨hf1.2.1, hf1.2.2⟩ (128 :: 0 :: l) 21 (by decide)
          have hlf := FieldV.len hfok
          have HR := Lib.hid hr; clear hr
          have HRK := Lib.hid hrk; clear hrk
          have HGE := Lib.hid hge; clear hge
          have HLF := Lib.hid hlf; clear hlf
          have H1 := Lib.hid hf; clear hf
          go_wp2_with ((with_reducible show wpList _ _ _ (⟨some 40, _, _, _, _, _⟩ :: _) _ _); refine wpList_load_mid (op := ⟨some 40, _, _, _, _, _⟩) rfl _ _ rfl b (off + k * 37) rfl f.cells _ HRK.out HFS.out rfl (by rw [HLF.out]; exact Try.size_field) ?_)
          refine (get_any f hfok _ _ 21 (by unfold maxLen; simp; omega) _ ir).mono ?_
          rintro e w4 ⟨rfl, i4, b4⟩
          rw [HGE.out] at i4 ⊢
          obtain ⟨G, hG⟩ : ∃ G : FieldV, G = { zeroField with kind := f.kind } := ⟨_, rfl⟩
          simp only [← hG] at i4 ⊢
          have hGh : G.h.length = 32 := by rw [hG]; rfl
          have hGs := field_size hGh
          have HGS := Lib.hid hGs; clear hGs
          have HGA := Lib.hid (field_all G)
          have HG := Lib.hid hG; clear hG hGh
          have s4 := b4.size
          have B4 := Below.more Br b4 (by omega) (by have := Br.size; omega)
          have hk4 := (b4.cellAt (Nat.lt_of_lt_of_le hb Br.size) (by omega)).trans (rows_cell HRK.out).1
          have sB := Br.size
          have HI := Lib.hid i4; clear i4
          clear b4 ir HF
          go_wp2_with ((with_reducible show wpList _ _ _ (⟨none, .store 47 _ _, _, _, _, _⟩ :: _) _ _); refine wpList_store_row (o := ⟨none, .store 47 _ _, _, _, _, _⟩) rfl _ _ _ rfl w4.heap.size G.cells.toArray rfl rfl _ zeroField.cells.toArray (heap_alloc_new w4 (.cells zeroField.cells.toArray 47)) (by rw [HGS.out]; exact Try.size_field) (by rw [HGS.out]; rfl) HGA.out ?_)
          obtain ⟨w5, h5⟩ : ∃ w5, w5 = (w4.alloc (.cells zeroField.cells.toArray 47)).setRow w4.heap.size G.cells.toArray := ⟨_, rfl⟩
          change Code.wp _ _ _ _ ((w4.alloc (.cells zeroField.cells.toArray 47)).setRow w4.heap.size G.cells.toArray)
          rw [← h5]
          have b5 : Below w4.heap.size w4 w5 := by rw [h5]; exact below_setRow ((Below.refl _ _).alloc (Nat.le_refl _) _) (Nat.le_refl _) _
          have x5 : w5.heap[w4.heap.size]? = some (.cells G.cells.toArray 47 (0, 0)) := by rw [h5]; exact setRow_heap _ _ _ _ _ _ (heap_alloc_new w4 _)
          have i5 := HI.out.below b5
          have B5 := B4.trans (b5.mono (by omega))
          have hk5 := (b5.cell (p := ⟨b, off + k * 37, none⟩) (by simp only; omega)).trans hk4
          clear h5 b5 B4 HI hk4
          have x5r := range_row x5
          have X5 := Lib.hid x5r; clear x5r x5
          have hGok : G.ok := by rw [HG.out]; exact zeroKind_ok _ hfok.kind0 hfok.kind1
          have hself := fieldEq_self G
          have HGL := Lib.hid (FieldV.len hGok)
          have hlen2 : ((128 :: 0 :: l).length : Int) = 2 + (l.length : Int) := by simp; omega
          have HL2 := Lib.hid hlen2; clear hlen2
          refine wp_region_quiet_lit (by kernel_rfl) (by kernel_rfl) ?_
          refine quiet_load rfl _ _ rfl w4.heap.size 0 rfl G.cells _ X5.out HFS.out rfl (by rw [HGL.out]; exact Try.size_field) ?_
          go_simp
          repeat (go_big_quiet_step (fail))
          refine quiet_neq_field rfl _ _ rfl G G hGok hGok rfl (by rw [HG.out]; rfl) ?_
          rw [hself]
          go_simp
          repeat (go_big_quiet_step (first | (go_at_call 17; exact Calls.quiet_of_same ((inErr_any _ _ _ (w5.drewN _) i5).mono fun _ _ h => ⟨h.2, h.1.symm⟩)) | (go_at_call 18; exact Calls.quiet_of_same ((inLeft_any _ _ _ (w5.drewN _) i5).mono fun _ _ h => ⟨h.2, h.1.symm⟩))))
          refine wpQuiet_nil ?_
          intro nq
          have hdone : (((128 :: 0 :: l).length : Int) != 2 + (l.length : Int)) = false := by rw [HL2.out]; simp
          go_wp2_with fail
          go_roundw
          case rel => exact ⟨k + 1, by omega, by go_num, i5, B5.drewN nq⟩
          case measure => simp [intOf]; omega
        · go_wp2_with fail
          refine (inEnd_any _ _ _ _ ir).mono ?_
          rintro e w' ⟨rfl, rfl⟩
          have he : endErr (128 :: 0 :: l) 21 = 21 := rfl
          go_wp2_with fail
          go_ret
          exact ⟨rfl, Br⟩
  · go_wp2_with fail
    refine (awake_any _).mono ?_
    rintro e w3 ⟨rfl, b3⟩
    go_wp2_with fail
    go_ret
    exact ⟨rfl, B2.trans (b3.mono (by omega))⟩

theorem keeps_law (w : World) (a0 : ByteArray) (w0 : a0.size ≤ 140737488351232) (o0 : Option Addr) (len cap : Nat) (F : List FieldV) (hF : RowsAt w o0 len cap 37 FieldV.cells F) (hok : ∀ f ∈ F, f.ok) :
    Calls Try.prog 8 #[.string a0, .slice o0 len cap] w fun e w' => e = .returned (.bool true) ∧ Below w.heap.size w w' := by
  obtain ⟨l, rfl⟩ := str_eta a0
  rw [strOf_size] at w0
  exact keeps_walk w l w0 o0 len cap F hF hok
end Go.Proofs.Ytnohbamjcadfaaa
