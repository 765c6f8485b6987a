/- The walk of the law StatePuts. -/
import Derived.Test.YtaihojahccplcaaDoorKG6b
import Derived.Test.YtaihojahccplcaaDoorKG6c
namespace Go.Proofs.YtaihojahccplcaaDoor
open Go.RowKit
set_option linter.unusedSimpArgs false
set_option linter.unusedVariables false

set_option maxRecDepth 100000 in
set_option maxHeartbeats 4000000 in
theorem sputs_law (w : World) (x : St.V) (hx : x.ok) (hL : Laid w) :
    Calls Tryd.prog 4 #[.agg (VertexV.cells x).toArray] w fun e w' => e = .returned (.bool true) ∧ Below w.heap.size w w' := by
  obtain ⟨W, hW⟩ : ∃ W, W = w.alloc (.cells (VertexV.cells x).toArray 36) := ⟨_, rfl⟩
  have X0 := Lib.hid (vertex_box w x W hW)
  have B0 : Below w.heap.size w W := by rw [hW]; exact (Below.refl _ _).alloc (Nat.le_refl _) _
  have HL0 := Lib.hid (hL.below B0); clear hL
  have HW := Lib.hid hW; clear hW
  obtain ⟨p, hp⟩ : ∃ p, p = St.put x := ⟨_, rfl⟩
  have hst := strOf_size p
  rcases hr : St.right x with _ | _
  · have hnil : p = [] := by rw [hp, St.put, hr]; rfl
    have hse : ((strOf []).toList == []) = true := by rw [strOf_toList]; rfl
    subst hnil
    have hc := stPut_any W x
    rw [← hp] at hc
    have hc2 := fun w => refPut10_any w x
    rw [← hp] at hc2
    clear hp
    have HRP := Lib.hid hc2; clear hc2
    have HC := Lib.hid hc; clear hc
    have HR := Lib.hid hr; clear hr
    go_enter Tryd.func4, Tryd.ntmps4
    go_wp2_with (first | ((with_reducible show wpList _ _ _ (⟨some 6, _, _, _, _, _⟩ :: _) _ _); change wpList _ _ _ _ _ (w.alloc (.cells (VertexV.cells x).toArray 36)); rw [← HW.out]; refine wpList_load_vx (by kernel_rfl) _ rfl w.heap.size rfl x X0.out ?_))
    refine HC.out.mono ?_
    rintro e w1 ⟨rfl, b1⟩
    clear HC
    have X1 := Lib.hid ((b1.block _ (lt_of_block X0.out)).trans X0.out)
    have HL1 := Lib.hid (HL0.out.below b1)
    have B1 := B0.trans (b1.mono B0.size)
    clear X0 HL0 b1
    have hc := awake10_any w1 HL1.out
    have HC := Lib.hid hc; clear hc
    go_wp2_with fail
    refine HC.out.mono ?_
    rintro e w2 ⟨rfl, b2⟩
    clear HC
    have X2 := Lib.hid ((b2.block _ (lt_of_block X1.out)).trans X1.out)
    have HL2 := Lib.hid (HL1.out.below b2)
    have B2 := B1.trans (b2.mono B1.size)
    clear X1 HL1 b2
    have hc := HRP.out w2
    have HC := Lib.hid hc; clear hc
    go_wp2_with (first | ((with_reducible show wpList _ _ _ (⟨some 12, _, _, _, _, _⟩ :: _) _ _); refine wpList_load_vx (by kernel_rfl) _ rfl w.heap.size rfl x X2.out ?_))
    refine HC.out.mono ?_
    rintro e w3 ⟨rfl, b3⟩
    clear HC
    have X3 := Lib.hid ((b3.block _ (lt_of_block X2.out)).trans X2.out)
    have HL3 := Lib.hid (HL2.out.below b3)
    have B3 := B2.trans (b3.mono B2.size)
    clear X2 HL2 b3
    have hc := refRight_any w3 x
    rw [HR.out] at hc
    have HC := Lib.hid hc; clear hc
    go_wp2_with (first | ((with_reducible show wpList _ _ _ (⟨some 16, _, _, _, _, _⟩ :: _) _ _); refine wpList_load_vx (by kernel_rfl) _ rfl w.heap.size rfl x X3.out ?_))
    refine HC.out.mono ?_
    rintro e w4 ⟨rfl, b4⟩
    clear HC
    have X4 := Lib.hid ((b4.block _ (lt_of_block X3.out)).trans X3.out)
    have HL4 := Lib.hid (HL3.out.below b4)
    have B4 := B3.trans (b4.mono B3.size)
    clear X3 HL3 b4
    have hc := stCheck_any w4 x
    rw [HR.out] at hc
    have HC := Lib.hid hc; clear hc
    go_wp2_with (first | ((with_reducible show wpList _ _ _ (⟨some 22, _, _, _, _, _⟩ :: _) _ _); refine wpList_load_vx (by kernel_rfl) _ rfl w.heap.size rfl x X4.out ?_))
    refine HC.out.mono ?_
    rintro e w5 ⟨rfl, b5⟩
    clear HC
    have X5 := Lib.hid ((b5.block _ (lt_of_block X4.out)).trans X4.out)
    have HL5 := Lib.hid (HL4.out.below b5)
    have B5 := B4.trans (b5.mono B4.size)
    clear X4 HL4 b5
    go_wp2_with fail
    go_ret
    exact ⟨rfl, B5⟩
  · have hlen := St.put_len hr
    have hget : St.get 100 p = (x, 0) := by rw [hp, St.put, hr, if_pos rfl]; exact St.bytes_get hr 100
    rw [← hp] at hlen
    have HGET := Lib.hid hget; clear hget
    have hc := stPut_any W x
    rw [← hp] at hc
    have hc2 := fun w => refPut10_any w x
    rw [← hp] at hc2
    clear hp
    have HRP := Lib.hid hc2; clear hc2
    have HC := Lib.hid hc; clear hc
    have HR := Lib.hid hr; clear hr
    go_enter Tryd.func4, Tryd.ntmps4
    go_wp2_with (first | ((with_reducible show wpList _ _ _ (⟨some 6, _, _, _, _, _⟩ :: _) _ _); change wpList _ _ _ _ _ (w.alloc (.cells (VertexV.cells x).toArray 36)); rw [← HW.out]; refine wpList_load_vx (by kernel_rfl) _ rfl w.heap.size rfl x X0.out ?_))
    refine HC.out.mono ?_
    rintro e w1 ⟨rfl, b1⟩
    clear HC
    have X1 := Lib.hid ((b1.block _ (lt_of_block X0.out)).trans X0.out)
    have HL1 := Lib.hid (HL0.out.below b1)
    have B1 := B0.trans (b1.mono B0.size)
    clear X0 HL0 b1
    have hc := awake10_any w1 HL1.out
    have HC := Lib.hid hc; clear hc
    go_wp2_with fail
    refine HC.out.mono ?_
    rintro e w2 ⟨rfl, b2⟩
    clear HC
    have X2 := Lib.hid ((b2.block _ (lt_of_block X1.out)).trans X1.out)
    have HL2 := Lib.hid (HL1.out.below b2)
    have B2 := B1.trans (b2.mono B1.size)
    clear X1 HL1 b2
    have hc := HRP.out w2
    have HC := Lib.hid hc; clear hc
    go_wp2_with (first | ((with_reducible show wpList _ _ _ (⟨some 12, _, _, _, _, _⟩ :: _) _ _); refine wpList_load_vx (by kernel_rfl) _ rfl w.heap.size rfl x X2.out ?_))
    refine HC.out.mono ?_
    rintro e w3 ⟨rfl, b3⟩
    clear HC
    have X3 := Lib.hid ((b3.block _ (lt_of_block X2.out)).trans X2.out)
    have HL3 := Lib.hid (HL2.out.below b3)
    have B3 := B2.trans (b3.mono B2.size)
    clear X2 HL2 b3
    have hc := refRight_any w3 x
    rw [HR.out] at hc
    have HC := Lib.hid hc; clear hc
    go_wp2_with (first | ((with_reducible show wpList _ _ _ (⟨some 16, _, _, _, _, _⟩ :: _) _ _); refine wpList_load_vx (by kernel_rfl) _ rfl w.heap.size rfl x X3.out ?_))
    refine HC.out.mono ?_
    rintro e w4 ⟨rfl, b4⟩
    clear HC
    have X4 := Lib.hid ((b4.block _ (lt_of_block X3.out)).trans X3.out)
    have HL4 := Lib.hid (HL3.out.below b4)
    have B4 := B3.trans (b4.mono B3.size)
    clear X3 HL3 b4
    have hc := stGet_any w4 p (by unfold maxLen; omega)
    rw [HGET.out] at hc
    have HC := Lib.hid hc; clear hc
    go_wp2_with fail
    refine HC.out.mono ?_
    rintro e w5 ⟨rfl, b5⟩
    clear HC
    have X5 := Lib.hid ((b5.block _ (lt_of_block X4.out)).trans X4.out)
    have HL5 := Lib.hid (HL4.out.below b5)
    have B5 := B4.trans (b5.mono B4.size)
    clear X4 HL4 b5
    obtain ⟨Z6, hZ6⟩ : ∃ Z6, Z6 = w5.alloc (.cells zeroVx 36) := ⟨_, rfl⟩
    have z6 : Z6.heap[w5.heap.size]? = some (.cells zeroVx 36 (0, 0)) := by rw [hZ6]; exact heap_alloc_new w5 _
    have bz6 : Below w5.heap.size w5 Z6 := by rw [hZ6]; exact (Below.refl _ _).alloc (Nat.le_refl _) _
    obtain ⟨w6, hW6⟩ : ∃ w6, w6 = Z6.setRow w5.heap.size (VertexV.cells x).toArray := ⟨_, rfl⟩
    have y6 : w6.heap[w5.heap.size]? = some (.cells (VertexV.cells x).toArray 36 (0, 0)) := by rw [hW6]; exact vset_heap x z6
    have b6 : Below w5.heap.size w5 w6 := by rw [hW6]; exact below_setRow' bz6 (Nat.le_refl _)
    have Z6F := Lib.hid z6; clear z6
    have Y6 := Lib.hid y6; clear y6
    have HZ6 := Lib.hid hZ6; clear hZ6
    have HW6 := Lib.hid hW6; clear hW6
    clear bz6
    have X6 := Lib.hid ((b6.block _ (lt_of_block X5.out)).trans X5.out)
    have HL6 := Lib.hid (HL5.out.below b6)
    have B6 := B5.trans (b6.mono B5.size)
    clear X5 HL5 b6
    have hc := stCheck_any w6 x
    rw [HR.out] at hc
    have HC := Lib.hid hc; clear hc
    go_wp2_with (first | ((with_reducible show wpList _ _ _ (⟨none, .store _ (.tmp 4) (.tmp 29), _, _, _, _⟩ :: _) _ _); change wpList _ _ _ _ _ (w5.alloc (.cells zeroVx 36)); rw [← HZ6.out]; refine wpList_store_vx rfl _ _ rfl w5.heap.size x rfl rfl zeroVx Z6F.out rfl ?_; rw [← HW6.out]) | ((with_reducible show wpList _ _ _ (⟨some 31, _, _, _, _, _⟩ :: _) _ _); refine wpList_load_vx (by kernel_rfl) _ rfl w5.heap.size rfl x Y6.out ?_) | ((with_reducible show wpList _ _ _ (⟨some 32, _, _, _, _, _⟩ :: _) _ _); refine wpList_load_vx (by kernel_rfl) _ rfl w.heap.size rfl x X6.out ?_) | ((with_reducible show wpList _ _ _ (⟨some 33, _, _, _, _, _⟩ :: _) _ _); refine wpList_eql_vx (by kernel_rfl) _ _ rfl x x rfl rfl ?_; rw [show decide (x = x) = true from decide_eq_true rfl]) | ((with_reducible show wpList _ _ _ (⟨some 39, _, _, _, _, _⟩ :: _) _ _); refine wpList_load_vx (by kernel_rfl) _ rfl w.heap.size rfl x X6.out ?_))
    refine HC.out.mono ?_
    rintro e w7 ⟨rfl, b7⟩
    clear HC
    have X7 := Lib.hid ((b7.block _ (lt_of_block X6.out)).trans X6.out)
    have HL7 := Lib.hid (HL6.out.below b7)
    have B7 := B6.trans (b7.mono B6.size)
    clear X6 HL6 b7
    go_wp2_with fail
    go_ret
    exact ⟨rfl, B7⟩

end Go.Proofs.YtaihojahccplcaaDoor
