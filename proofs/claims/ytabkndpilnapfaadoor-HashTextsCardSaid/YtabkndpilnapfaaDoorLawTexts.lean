/- The walk of the law HashTexts. -/
import Derived.Test.YtabkndpilnapfaaDoorAwakeH
import Derived.Test.YtabkndpilnapfaaDoorRefText
namespace Go.Proofs.YtabkndpilnapfaaDoor
open Go.RowKit
set_option linter.unusedSimpArgs false
set_option linter.unusedVariables false

set_option maxRecDepth 100000 in
set_option maxHeartbeats 2000000 in
theorem texts_law (w : World) (l : List UInt8) (hl : l.length = 32) (hL : Laid w) :
    Calls Tryd.prog 5 #[.agg (byteCells l).toArray] w fun e w' => e = .returned (.bool true) ∧ Below w.heap.size w w' := by
  obtain ⟨W0, hW0⟩ : ∃ W0, W0 = w.alloc (.cells (byteCells l).toArray 25) := ⟨_, rfl⟩
  have x0 : W0.heap[w.heap.size]? = some (.cells (byteCells l).toArray 25 (0, 0)) := by rw [hW0]; exact heap_alloc_new w _
  have b0 : Below w.heap.size w W0 := by rw [hW0]; exact (Below.refl _ _).alloc (Nat.le_refl _) _
  have hLW := Lib.hid (hL.below b0); clear hL
  have HW0 := Lib.hid hW0; clear hW0
  have X0 := Lib.hid x0; clear x0
  have hrd := rd_hex l hl
  have hhl : (Sha.hex l).length ≤ 9223372036854775807 := by rw [Sha.hex_len, hl]; decide
  have HSL := Lib.hid hl; clear hl
  have HRD := Lib.hid hrd; clear hrd
  have HSA : Hid ((byteCells l).toArray.all (·.oneCell') = true) := Lib.hid (all_oneCell_toArray (byteCells_one _))
  have HSS : Hid ((Tryd.prog.info? 25).map (·.size) = some (byteCells l).toArray.size) := Lib.hid (by rw [Tryd.infoH]; simp [byteCells_length, HSL.out])
  have HZS : Hid (zero32.size = (byteCells l).toArray.size) := Lib.hid (by simp [zero32, byteCells_length, HSL.out])
  go_enter Tryd.func5, Tryd.ntmps5
  go_wp2_with (first | ((with_reducible show wpList _ _ _ (⟨some 6, _, _, _, _, _⟩ :: _) _ _); change wpList _ _ _ _ _ (w.alloc (.cells (byteCells l).toArray 25)); rw [← HW0.out]; refine wpList_load_hash (op := ⟨some 6, _, _, _, _, _⟩) rfl _ rfl w.heap.size rfl l HSL.out _ _ X0.out ?_))
  refine (hashText_any l HSL.out W0).mono ?_
  rintro e w1 ⟨rfl, b1⟩
  go_wp2_with fail
  refine (read_any (Sha.hex l) hhl w1).mono ?_
  rintro e w2 ⟨rfl, b2⟩
  rw [HRD.out]
  have b02 : Below W0.heap.size W0 w2 := b1.trans (b2.mono b1.size)
  have x2 := (b02.block _ (lt_of_block X0.out)).trans X0.out
  obtain ⟨W3, hW3⟩ : ∃ W3, W3 = (w2.alloc (.cells zero32 25)).setRow w2.heap.size (byteCells l).toArray := ⟨_, rfl⟩
  have z3 : (w2.alloc (.cells zero32 25)).heap[w2.heap.size]? = some (.cells zero32 25 (0, 0)) := heap_alloc_new w2 _
  have y3 : W3.heap[w2.heap.size]? = some (.cells (byteCells l).toArray 25 (0, 0)) := by rw [hW3]; exact setRow_heap _ _ _ _ _ _ z3
  have b23 : Below w2.heap.size w2 W3 := by rw [hW3]; exact below_setRow' ((Below.refl _ _).alloc (Nat.le_refl _) _) (Nat.le_refl _)
  have x3 := (b23.block _ (lt_of_block x2)).trans x2
  have b03 : Below W0.heap.size W0 W3 := b02.trans (b23.mono b02.size)
  have HW3 := Lib.hid hW3; clear hW3
  have Z3 := Lib.hid z3; clear z3
  have hL3 := hLW.out.below b03
  go_wp2_with (first | ((with_reducible show wpList _ _ _ (⟨none, .store 25 (.tmp 4) (.tmp 11), _, _, _, _⟩ :: _) _ _); change wpList _ _ _ _ _ (w2.alloc (.cells zero32 25)); refine wpList_store_row (o := ⟨none, .store 25 _ _, _, _, _, _⟩) rfl _ _ _ rfl w2.heap.size (byteCells l).toArray rfl rfl _ zero32 Z3.out HSS.out HZS.out HSA.out ?_; change wpList _ _ _ _ _ ((w2.alloc (.cells zero32 25)).setRow w2.heap.size (byteCells l).toArray); rw [← HW3.out]))
  refine (awake_any W3 hL3).mono ?_
  rintro e w4 ⟨rfl, b4⟩
  have x4 := (b4.block _ (lt_of_block x3)).trans x3
  have y4 := (b4.block _ (lt_of_block y3)).trans y3
  have b04 : Below W0.heap.size W0 w4 := b03.trans (b4.mono b03.size)
  have X4 := Lib.hid x4; clear x4 x3 x2
  have Y4 := Lib.hid y4; clear y4 y3 b03 b23 b02
  go_wp2_with (first | ((with_reducible show wpList _ _ _ (⟨some 16, _, _, _, _, _⟩ :: _) _ _); refine wpList_load_hash (op := ⟨some 16, _, _, _, _, _⟩) (by kernel_rfl) _ rfl w.heap.size rfl l HSL.out _ _ X4.out ?_))
  refine (text_any l HSL.out w4).mono ?_
  rintro e w5 ⟨rfl, b5⟩
  go_wp2_with fail
  refine (refHex_any l (by rw [HSL.out]; decide) w5).mono ?_
  rintro e w6 ⟨rfl, b6⟩
  have b46 : Below w4.heap.size w4 w6 := b5.trans (b6.mono b5.size)
  have X6 := Lib.hid ((b46.block _ (lt_of_block X4.out)).trans X4.out)
  have Y6 := Lib.hid ((b46.block _ (lt_of_block Y4.out)).trans Y4.out)
  have b06 : Below w.heap.size w w6 := b0.trans ((b04.trans (b46.mono b04.size)).mono b0.size)
  clear b46 b04 b0
  have hss : (l == l) = true := beq_self_eq_true l
  go_wp2_with (first | ((with_reducible show wpList _ _ _ (⟨some 22, _, _, _, _, _⟩ :: _) _ _); refine wpList_load_hash (op := ⟨some 22, _, _, _, _, _⟩) (by kernel_rfl) _ rfl w2.heap.size rfl l HSL.out _ _ Y6.out ?_) | ((with_reducible show wpList _ _ _ (⟨some 23, _, _, _, _, _⟩ :: _) _ _); refine wpList_load_hash (op := ⟨some 23, _, _, _, _, _⟩) (by kernel_rfl) _ rfl w.heap.size rfl l HSL.out _ _ X6.out ?_) | ((with_reducible show wpList _ _ _ (⟨some 24, _, _, _, _, _⟩ :: _) _ _); refine wpList_eql_hash (op := ⟨some 24, _, _, _, _, _⟩) (by kernel_rfl) _ _ rfl l l HSL.out HSL.out rfl rfl ?_; rw [hss]))
  go_ret
  exact ⟨rfl, b06⟩

end Go.Proofs.YtabkndpilnapfaaDoor
