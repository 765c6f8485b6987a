/- WireOne: what is read to its end was written so. The walk of the law. -/
import Derived.Test.YtnohbamjcadfaaaGet
namespace Go.Proofs.Ytnohbamjcadfaaa
open Go.RowKit

theorem getV_ok (f : FieldV) (hk : 0 ≤ f.kind ∧ f.kind ≤ 3) (l : List UInt8) (hl : l.length ≤ maxLen) (e : Nat) : (getV f l e).1.ok ∧ (getV f l e).1.kind = f.kind := by
  have hr := Wire.rdNum_lt l e
  have hu := Wire.unzig_bounds _ hr
  have ht := Wire.rdText_len f.most l e
  have hh := Wire.rdHash_len l e
  have hz : (0 : Nat) ≤ maxLen := Nat.zero_le _
  unfold getV
  split
  · rename_i k; exact ⟨⟨(by decide : (-9223372036854775808 : Int) ≤ 0), (by decide : (0 : Int) ≤ 9223372036854775807), (by decide : (-9223372036854775808 : Int) ≤ 0), (by decide : (0 : Int) ≤ 9223372036854775807), hr, (by decide : (-9223372036854775808 : Int) ≤ 0), (by decide : (0 : Int) ≤ 9223372036854775807), hz, rfl⟩, k.symm⟩
  · split
    · rename_i k; exact ⟨⟨(by decide : (-9223372036854775808 : Int) ≤ 1), (by decide : (1 : Int) ≤ 9223372036854775807), (by decide : (-9223372036854775808 : Int) ≤ 0), (by decide : (0 : Int) ≤ 9223372036854775807), (by decide : (0 : Nat) < 18446744073709551616), hu.1, hu.2, hz, rfl⟩, k.symm⟩
    · split
      · rename_i k; exact ⟨⟨(by decide : (-9223372036854775808 : Int) ≤ 2), (by decide : (2 : Int) ≤ 9223372036854775807), (by decide : (-9223372036854775808 : Int) ≤ 0), (by decide : (0 : Int) ≤ 9223372036854775807), (by decide : (0 : Nat) < 18446744073709551616), (by decide : (-9223372036854775808 : Int) ≤ 0), (by decide : (0 : Int) ≤ 9223372036854775807), (by show (strOf _).size ≤ _; rw [strOf_size]; omega), rfl⟩, k.symm⟩
      · exact ⟨⟨(by decide : (-9223372036854775808 : Int) ≤ 3), (by decide : (3 : Int) ≤ 9223372036854775807), (by decide : (-9223372036854775808 : Int) ≤ 0), (by decide : (0 : Int) ≤ 9223372036854775807), (by decide : (0 : Nat) < 18446744073709551616), (by decide : (-9223372036854775808 : Int) ≤ 0), (by decide : (0 : Int) ≤ 9223372036854775807), hz, hh⟩, (by show 3 = f.kind; omega)⟩

theorem putV_0 (f : FieldV) (h : f.kind = 0) : putV f = Wire.num f.n := by unfold putV; rw [if_pos h]
theorem putV_1 (f : FieldV) (h : f.kind = 1) : putV f = Wire.num (Wire.zig f.i) := by unfold putV; rw [if_neg (by omega), if_pos h]
theorem putV_2 (f : FieldV) (h : f.kind = 2) : putV f = Wire.num f.s.size ++ f.s.data.toList := by unfold putV; rw [if_neg (by omega), if_neg (by omega), if_pos h]
theorem putV_3 (f : FieldV) (h : f.kind = 3) : putV f = f.h := by unfold putV; rw [if_neg (by omega), if_neg (by omega), if_neg (by omega)]

/-- What is read to its end was written so. -/
theorem getV_end (f : FieldV) (l : List UInt8) (h1 : (getV f l 0).2.1 = []) (h2 : (getV f l 0).2.2 = 0) : putV (getV f l 0).1 = l := by
  unfold getV at h1 h2 ⊢
  split at h1
  · rename_i k
    rw [if_pos k] at h2 ⊢
    have := Wire.rdNum_end h1 h2
    exact (putV_0 _ rfl).trans this
  · rename_i k0
    split at h1
    · rename_i k1
      rw [if_neg k0, if_pos k1] at h2 ⊢
      have := Wire.rdNum_end h1 h2
      refine (putV_1 _ rfl).trans ?_
      show Wire.num (Wire.zig (Wire.unzig _)) = l
      rw [Wire.zig_unzig]; exact this
    · rename_i k1
      split at h1
      · rename_i k2
        rw [if_neg k0, if_neg k1, if_pos k2] at h2 ⊢
        have := Wire.rdText_end h1 h2
        refine (putV_2 _ rfl).trans ?_
        show Wire.num (strOf _).size ++ (strOf _).data.toList = l
        rw [strOf_size, strOf_list]; exact this
      · rename_i k2
        rw [if_neg k0, if_neg k1, if_neg k2] at h2 ⊢
        have := Wire.rdHash_end h1 h2
        exact (putV_3 _ rfl).trans this

theorem str_beq (a b : List UInt8) : ((strOf a).toList == (strOf b).toList) = (a == b) := by rw [strOf_toList, strOf_toList]

set_option maxRecDepth 100000 in
set_option maxHeartbeats 1000000 in
theorem one_walk (w : World) (l : List UInt8) (hl : l.length ≤ 140737488351232) (f : FieldV) (hf : f.ok) :
    Calls Try.prog 10 #[.string (strOf l), .agg f.cells.toArray] w fun e w' => e = .returned (.bool true) ∧ Below w.heap.size w w' := by
  have hs := strOf_size l
  obtain ⟨fs, hfs⟩ := Try.under_field
  have HFS := Lib.hid hfs; clear hfs
  have hsz := field_size hf.h1
  have HSZ := Lib.hid hsz; clear hsz
  obtain ⟨W, hW⟩ : ∃ W, W = w.alloc (.cells f.cells.toArray 47) := ⟨_, rfl⟩
  have hF : W.heap[w.heap.size]? = some (.cells f.cells.toArray 47 (0, 0)) := by rw [hW]; exact heap_alloc_new w _
  have bW : Below w.heap.size w W := by rw [hW]; exact (Below.refl _ _).alloc (Nat.le_refl _) _
  have sW : W.heap.size = w.heap.size + 1 := by rw [hW]; simp
  have HF := Lib.hid hF; clear hF
  have HW := Lib.hid hW; clear hW
  have SW := Lib.hid sW; clear sW
  go_enter Try.func10, Try.ntmps10
  go_wp2_with fail
  rw [← HW.out]
  clear HW
  refine (newIn_use _ _).mono ?_
  rintro e w1 ⟨rfl, i1, b1, s1⟩
  go_wp2_with fail
  refine (newOut_use _).mono ?_
  rintro e w2 ⟨rfl, n2, b2, s2⟩
  replace i1 := i1.below b2
  go_wp2_with fail
  refine (awake_any _).mono ?_
  rintro e w3 ⟨rfl, b3⟩
  replace i1 := i1.below b3
  replace n2 := n2.below b3
  have s3 := b3.size
  have hs1 := SW.out
  have hF3 : w3.heap[w.heap.size]? = some (.cells f.cells.toArray 47 (0, 0)) := by
    rw [b3.block _ (by omega), b2.block _ (by omega), b1.block _ (by omega)]; exact HF.out
  have B3 : Below w.heap.size w w3 := bW.trans ((b1.mono (by omega)).trans ((b2.mono (by omega)).trans (b3.mono (by omega))))
  obtain ⟨c0, c1, c2, c3, c4, c5⟩ := field_cell hF3
  have hlt1 : w.heap.size < W.heap.size := by omega
  have hlt2 : w.heap.size + 3 ≤ w3.heap.size := by omega
  have H3 := Lib.hid hF3; clear hF3 hs1 SW HF c5 b1 b2 b3 bW
  by_cases hg : l.length ≤ 300 ∧ 0 ≤ f.kind ∧ f.kind ≤ 3
  · obtain ⟨g1, g2, g3⟩ := hg
    have hok := getV_ok f ⟨g2, g3⟩ l (by unfold maxLen; omega) 0
    have HOK := Lib.hid hok; clear hok
    go_wp2_with (refine wpList_load_row (o := ⟨some 38, _, _, _, _, _⟩) rfl _ _ rfl _ rfl _ f.cells.toArray _ _ H3.out HFS.out rfl (by rw [HSZ.out]; exact Try.size_field) ?_)
    refine (get_any f hf _ l 0 (by unfold maxLen; omega) w3 i1).mono ?_
    rintro x w4 ⟨rfl, i4, b4⟩
    obtain ⟨G, hG⟩ : ∃ G : FieldV, G = (getV f l 0).1 := ⟨_, rfl⟩
    rw [← hG]
    rw [← hG] at HOK
    have n4 := n2.but b4 (by omega)
    have s4 := b4.size
    have B4 := Below.more B3 b4 (by omega) (by omega)
    have hsG := field_size HOK.out.1.h1
    have HSG := Lib.hid hsG; clear hsG
    have HGA := Lib.hid (field_all G)
    have HG := Lib.hid hG; clear hG
    have HI := Lib.hid i4; clear i4
    clear c0 c1 c2 c3 c4 b4 B3 i1 n2
    go_wp2_with (refine wpList_store_row (o := ⟨none, .store 47 _ _, _, _, _, _⟩) rfl _ _ _ rfl w4.heap.size G.cells.toArray rfl rfl _ zeroField.cells.toArray (heap_alloc_new w4 (.cells zeroField.cells.toArray 47)) (by rw [HSG.out]; exact Try.size_field) (by rw [HSG.out]; rfl) HGA.out ?_)
    change Calls _ _ _ ((w4.alloc (.cells zeroField.cells.toArray 47)).setRow w4.heap.size G.cells.toArray) _
    obtain ⟨w5, h5⟩ : ∃ w5, w5 = (w4.alloc (.cells zeroField.cells.toArray 47)).setRow w4.heap.size G.cells.toArray := ⟨_, rfl⟩
    rw [← h5]
    have b5 : Below w4.heap.size w4 w5 := by rw [h5]; exact below_setRow ((Below.refl _ _).alloc (Nat.le_refl _) _) (Nat.le_refl _) _
    have x5 : w5.heap[w4.heap.size]? = some (.cells G.cells.toArray 47 (0, 0)) := by rw [h5]; exact setRow_heap _ _ _ _ _ _ (heap_alloc_new w4 _)
    have s5 : w5.heap.size = w4.heap.size + 1 := by rw [h5]; simp [World.setRow]
    have i5 := HI.out.below b5
    have n5 := n4.below b5
    have B5 := B4.trans (b5.mono (by omega))
    have S5 := Lib.hid s5
    clear h5 b5 B4 n4 HI s5
    refine (inEnd_any _ _ _ _ i5).mono ?_
    rintro x w' ⟨rfl, rfl⟩
    by_cases hend : (getV f l 0).2.2 = 0 ∧ (getV f l 0).2.1 = []
    · have hput := getV_end f l hend.2 hend.1
      rw [← HG.out] at hput
      have he : endErr (getV f l 0).2.1 ((getV f l 0).2.2 : Int) = 0 := by rw [hend.1, hend.2]; rfl
      rw [he]
      have hsl : G.s.size ≤ 300 := by
        have hk := HOK.out.2
        rw [HG.out]
        unfold getV
        split
        · show 0 ≤ 300; omega
        · split
          · show 0 ≤ 300; omega
          · split
            · show (strOf _).size ≤ 300
              rw [strOf_size]; have := Wire.rdText_len f.most l 0; omega
            · show 0 ≤ 300; omega
      have HP := Lib.hid hput; clear hput
      have HX := Lib.hid x5; clear x5
      have s5 := S5.out
      clear hend he i5 HG
      go_wp2_with (refine wpList_load_row (o := ⟨some 44, _, _, _, _, _⟩) rfl _ _ rfl _ rfl _ G.cells.toArray _ _ HX.out HFS.out rfl (by rw [HSG.out]; exact Try.size_field) ?_)
      refine (put_any G HOK.out.1 (by omega) w5.heap.size _ [] w5 (n5.is _) (Nat.le_refl _) (by simp; omega)).mono ?_
      rintro x w6 ⟨rfl, o6, b6⟩
      rw [HP.out, List.nil_append] at o6
      have B6 := Below.more B5 b6 (by omega) (by omega)
      clear b6 B5
      go_wp2_with fail
      refine (outDone_str _ _ _ _ o6).mono ?_
      rintro x w' ⟨rfl, rfl⟩
      go_wp2_with fail
      go_ret
      exact ⟨rfl, B6⟩
    · have he : (endErr (getV f l 0).2.1 ((getV f l 0).2.2 : Int) != 0) = true := by
        rw [bne_iff_ne]
        unfold endErr
        split
        · decide
        · rename_i hh
          intro h0
          by_cases hl0 : (getV f l 0).2.1 = []
          · exact hend ⟨by omega, hl0⟩
          · exact hh ⟨h0, hl0⟩
      clear x5 i5
      go_wp2_with fail
      go_ret
      exact ⟨rfl, B5⟩
  · have hg2 : 300 < l.length ∨ (l.length ≤ 300 ∧ f.kind < 0) ∨ (l.length ≤ 300 ∧ 0 ≤ f.kind ∧ 3 < f.kind) := by omega
    clear hg
    rcases hg2 with hg | ⟨hg, hg2⟩ | ⟨hg, hg2, hg3⟩
    all_goals
      go_wp2_with fail
      refine (awake_any _).mono ?_
      rintro x w4 ⟨rfl, b4⟩
      go_wp2_with fail
      go_ret
      exact ⟨rfl, B3.trans (b4.mono (by omega))⟩

theorem one_law (w : World) (a0 : ByteArray) (w0 : a0.size ≤ 140737488351232) (f : FieldV) (hf : f.ok) :
    Calls Try.prog 10 #[.string a0, .agg f.cells.toArray] w fun e w' => e = .returned (.bool true) ∧ Below w.heap.size w w' := by
  obtain ⟨l, rfl⟩ := str_eta a0
  rw [strOf_size] at w0
  exact one_walk w l w0 f hf
end Go.Proofs.Ytnohbamjcadfaaa
