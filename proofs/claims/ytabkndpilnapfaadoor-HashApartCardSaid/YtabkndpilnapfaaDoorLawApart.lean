/- The walk of the law HashApart. -/
import Derived.Test.YtabkndpilnapfaaDoorAwakeH
import Derived.Test.YtabkndpilnapfaaDoorUp
import Derived.Test.YtabkndpilnapfaaDoorOrder
namespace Go.Proofs.YtabkndpilnapfaaDoor
open Go.RowKit
set_option linter.unusedSimpArgs false
set_option linter.unusedVariables false

set_option maxRecDepth 100000 in
set_option maxHeartbeats 2000000 in
theorem apartH_law (w : World) (a b : List UInt8) (ha : a.length = 32) (hb : b.length = 32) (hL : Laid w) :
    Calls Tryd.prog 9 #[.agg (byteCells a).toArray, .agg (byteCells b).toArray] w fun e w' => e = .returned (.bool true) ∧ Below w.heap.size w w' := by
  obtain ⟨W0, hW0⟩ : ∃ W0, W0 = (w.alloc (.cells (byteCells a).toArray 25)).alloc (.cells (byteCells b).toArray 25) := ⟨_, rfl⟩
  have x0 : W0.heap[w.heap.size]? = some (.cells (byteCells a).toArray 25 (0, 0)) := by
    rw [hW0, Below.heap_alloc _ _ _ (by simp)]; exact heap_alloc_new w _
  have y0 : W0.heap[w.heap.size + 1]? = some (.cells (byteCells b).toArray 25 (0, 0)) := by
    rw [hW0]; have := heap_alloc_new (w.alloc (.cells (byteCells a).toArray 25)) (.cells (byteCells b).toArray 25); simpa using this
  have b0 : Below w.heap.size w W0 := by rw [hW0]; exact ((Below.refl _ _).alloc (Nat.le_refl _) _).alloc (by simp) _
  have hLW := Lib.hid (hL.below b0); clear hL
  have HW0 := Lib.hid hW0; clear hW0
  have X0 := Lib.hid x0; clear x0
  have Y0 := Lib.hid y0; clear y0
  have HA := Lib.hid ha; clear ha
  have HB := Lib.hid hb; clear hb
  go_enter Tryd.func9, Tryd.ntmps9
  go_wp2_with fail
  change Code.wp _ _ _ _ ((w.alloc (.cells (byteCells a).toArray 25)).alloc (.cells (byteCells b).toArray 25))
  rw [← HW0.out]
  refine wp_region_up (by kernel_rfl) (by kernel_rfl) ?_
  repeat (first | go_big_quiet_skip | ((with_reducible show wpQuiet _ _ _ _ (⟨some 7, _, _, _, _, _⟩ :: _) _); refine quiet_up_load (o := ⟨some 7, _, _, _, _, _⟩) rfl _ rfl w.heap.size rfl a HA.out _ _ X0.out ?_; go_frame) | ((with_reducible show wpQuiet _ _ _ _ (⟨some 9, _, _, _, _, _⟩ :: _) _); refine quiet_up_load (o := ⟨some 9, _, _, _, _, _⟩) rfl _ rfl (w.heap.size + 1) rfl b HB.out _ _ Y0.out ?_; go_frame) | ((with_reducible show wpQuiet _ _ _ _ (⟨some 8, _, _, _, _, _⟩ :: _) _); go_big_quiet_step (exact Calls.up_of (hashText_any a HA.out _))) | ((with_reducible show wpQuiet _ _ _ _ (⟨some 10, _, _, _, _, _⟩ :: _) _); go_big_quiet_step (exact Calls.up_of (hashText_any b HB.out _))) | go_big_quiet_step (fail))
  refine wpQuiet_nil ?_
  rintro w1 ⟨p1, hp1⟩
  have h1 : Below W0.heap.size W0 w1 := hp1 ▸ p1.h
  clear hp1 p1
  have hL1 := hLW.out.below h1

  go_wp2_with fail
  refine (awake_any w1 hL1).mono ?_
  rintro e w2 ⟨rfl, b2⟩
  have b02 : Below W0.heap.size W0 w2 := h1.trans (b2.mono h1.size)
  have X2 := Lib.hid ((b02.block _ (lt_of_block X0.out)).trans X0.out)
  have Y2 := Lib.hid ((b02.block _ (lt_of_block Y0.out)).trans Y0.out)
  obtain ⟨t, ht⟩ : ∃ t, t = (a == b) := ⟨_, rfl⟩
  have hse : ((strOf (Sha.hex a)).toList == (strOf (Sha.hex b)).toList) = t := by rw [strOf_toList, strOf_toList, hex_eq, ht]
  obtain ⟨u, hu⟩ : ∃ u, u = lessB a b := ⟨_, rfl⟩
  have hsl : Op.bytesLess (strOf (Sha.hex a)).toList (strOf (Sha.hex b)).toList = u := by rw [strOf_toList, strOf_toList, less_hex, hu]
  have hsz : (strOf (Sha.hex a)).size = 64 := by rw [strOf_size, Sha.hex_len, HA.out]
  have HT := Lib.hid ht; clear ht
  have HU := Lib.hid hu; clear hu
  have b002 := b0.trans (b02.mono b0.size)
  clear b02 b0 h1 b2
  go_wp2_with (first | ((with_reducible show wpList _ _ _ (⟨some 16, _, _, _, _, _⟩ :: _) _ _); refine wpList_load_hash (op := ⟨some 16, _, _, _, _, _⟩) (by kernel_rfl) _ rfl w.heap.size rfl a HA.out _ _ X2.out ?_) | ((with_reducible show wpList _ _ _ (⟨some 17, _, _, _, _, _⟩ :: _) _ _); refine wpList_load_hash (op := ⟨some 17, _, _, _, _, _⟩) (by kernel_rfl) _ rfl (w.heap.size + 1) rfl b HB.out _ _ Y2.out ?_) | ((with_reducible show wpList _ _ _ (⟨some 22, _, _, _, _, _⟩ :: _) _ _); refine wpList_load_hash (op := ⟨some 22, _, _, _, _, _⟩) (by kernel_rfl) _ rfl w.heap.size rfl a HA.out _ _ X2.out ?_) | ((with_reducible show wpList _ _ _ (⟨some 23, _, _, _, _, _⟩ :: _) _ _); refine wpList_load_hash (op := ⟨some 23, _, _, _, _, _⟩) (by kernel_rfl) _ rfl (w.heap.size + 1) rfl b HB.out _ _ Y2.out ?_) | ((with_reducible show wpList _ _ _ (⟨some 18, _, _, _, _, _⟩ :: _) _ _); refine wpList_eql_hash (op := ⟨some 18, _, _, _, _, _⟩) (by kernel_rfl) _ _ rfl a b HA.out HB.out rfl rfl ?_; rw [← HT.out]))
  refine (less_any a b HA.out HB.out w2).mono ?_
  rintro e w3 ⟨rfl, b3⟩
  rw [← HU.out]
  go_wp2_with fail
  go_ret
  exact ⟨rfl, b002.trans (b3.mono b002.size)⟩

theorem apart_card (w : World) (a : List UInt8) (ha : a.length = 32) (b : List UInt8) (hb : b.length = 32) (hL : Laid w) :
    Calls Tryd.prog 9 #[.agg (byteCells a).toArray, .agg (byteCells b).toArray] w fun e w' => e = .returned (.bool true) ∧ Below w.heap.size w w' :=
  apartH_law w a b ha hb hL

end Go.Proofs.YtabkndpilnapfaaDoor
