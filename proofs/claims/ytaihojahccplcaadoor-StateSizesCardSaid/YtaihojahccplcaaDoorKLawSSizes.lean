/- The walk of the law StateSizes. -/
import Derived.Test.YtaihojahccplcaaDoorKG6b
namespace Go.Proofs.YtaihojahccplcaaDoor
open Go.RowKit
set_option linter.unusedSimpArgs false
set_option linter.unusedVariables false

set_option maxRecDepth 100000 in
set_option maxHeartbeats 2000000 in
theorem ssizes_law (w : World) (x : St.V) (hx : x.ok) (hL : Laid w) :
    Calls Tryd.prog 8 #[.agg (VertexV.cells x).toArray] w fun e w' => e = .returned (.bool true) ∧ Below w.heap.size w w' := by
  obtain ⟨W, hW⟩ : ∃ W, W = w.alloc (.cells (VertexV.cells x).toArray 36) := ⟨_, rfl⟩
  have X0 := Lib.hid (vertex_box w x W hW)
  have B0 : Below w.heap.size w W := by rw [hW]; exact (Below.refl _ _).alloc (Nat.le_refl _) _
  have HL0 := Lib.hid (hL.below B0); clear hL
  have HW := Lib.hid hW; clear hW
  obtain ⟨p, hp⟩ : ∃ p, p = St.put x := ⟨_, rfl⟩
  have hst := strOf_size p
  rcases hr : St.right x with _ | _
  · have hnil : p = [] := by rw [hp, St.put, hr]; rfl
    subst hnil
    have hse : ((strOf []).toList == []) = true := by rw [strOf_toList]; rfl
    have hc := stPut_any W x
    rw [← hp] at hc
    clear hp
    have HC := Lib.hid hc; clear hc
    have HR := Lib.hid hr; clear hr
    go_enter Tryd.func8, Tryd.ntmps8
    go_wp2_with (first | ((with_reducible show wpList _ _ _ (⟨some 4, _, _, _, _, _⟩ :: _) _ _); change wpList _ _ _ _ _ (w.alloc (.cells (VertexV.cells x).toArray 36)); rw [← HW.out]; refine wpList_load_vx (by kernel_rfl) _ rfl w.heap.size rfl x X0.out ?_))
    refine HC.out.mono ?_
    rintro e w1 ⟨rfl, b1⟩
    clear HC
    have X1 := Lib.hid ((b1.block _ (lt_of_block X0.out)).trans X0.out)
    have HL1 := Lib.hid (HL0.out.below b1)
    have B1 := B0.trans (b1.mono B0.size)
    clear X0 HL0 b1
    have hc := stCheck_any w1 x
    rw [HR.out] at hc
    have HC := Lib.hid hc; clear hc
    go_wp2_with (first | ((with_reducible show wpList _ _ _ (⟨some 6, _, _, _, _, _⟩ :: _) _ _); refine wpList_load_vx (by kernel_rfl) _ rfl w.heap.size rfl x X1.out ?_))
    refine HC.out.mono ?_
    rintro e w2 ⟨rfl, b2⟩
    clear HC
    have X2 := Lib.hid ((b2.block _ (lt_of_block X1.out)).trans X1.out)
    have HL2 := Lib.hid (HL1.out.below b2)
    have B2 := B1.trans (b2.mono B1.size)
    clear X1 HL1 b2
    have hc := awake10_any w2 HL2.out
    have HC := Lib.hid hc; clear hc
    go_wp2_with fail
    refine HC.out.mono ?_
    rintro e w3 ⟨rfl, b3⟩
    clear HC
    have X3 := Lib.hid ((b3.block _ (lt_of_block X2.out)).trans X2.out)
    have HL3 := Lib.hid (HL2.out.below b3)
    have B3 := B2.trans (b3.mono B2.size)
    clear X2 HL2 b3
    go_wp2_with fail
    go_ret
    exact ⟨rfl, B3⟩
  · have hlen := St.put_len hr
    rw [← hp] at hlen
    have t1 : decide ((5 : Int) ≤ (p.length : Int)) = true := decide_eq_true (by omega)
    have t1' : decide (5 ≤ p.length) = true := decide_eq_true (by omega)
    have t2 : decide ((p.length : Int) ≤ (19 : Int)) = true := decide_eq_true (by omega)
    have t2' : decide (p.length ≤ 19) = true := decide_eq_true (by omega)
    have hc := stPut_any W x
    rw [← hp] at hc
    clear hp
    have HC := Lib.hid hc; clear hc
    have HR := Lib.hid hr; clear hr
    go_enter Tryd.func8, Tryd.ntmps8
    go_wp2_with (first | ((with_reducible show wpList _ _ _ (⟨some 4, _, _, _, _, _⟩ :: _) _ _); change wpList _ _ _ _ _ (w.alloc (.cells (VertexV.cells x).toArray 36)); rw [← HW.out]; refine wpList_load_vx (by kernel_rfl) _ rfl w.heap.size rfl x X0.out ?_))
    refine HC.out.mono ?_
    rintro e w1 ⟨rfl, b1⟩
    clear HC
    have X1 := Lib.hid ((b1.block _ (lt_of_block X0.out)).trans X0.out)
    have HL1 := Lib.hid (HL0.out.below b1)
    have B1 := B0.trans (b1.mono B0.size)
    clear X0 HL0 b1
    have hc := stCheck_any w1 x
    rw [HR.out] at hc
    have HC := Lib.hid hc; clear hc
    go_wp2_with (first | ((with_reducible show wpList _ _ _ (⟨some 6, _, _, _, _, _⟩ :: _) _ _); refine wpList_load_vx (by kernel_rfl) _ rfl w.heap.size rfl x X1.out ?_))
    refine HC.out.mono ?_
    rintro e w2 ⟨rfl, b2⟩
    clear HC
    have X2 := Lib.hid ((b2.block _ (lt_of_block X1.out)).trans X1.out)
    have HL2 := Lib.hid (HL1.out.below b2)
    have B2 := B1.trans (b2.mono B1.size)
    clear X1 HL1 b2
    have hc := awake10_any w2 HL2.out
    have HC := Lib.hid hc; clear hc
    go_wp2_with fail
    refine HC.out.mono ?_
    rintro e w3 ⟨rfl, b3⟩
    clear HC
    have X3 := Lib.hid ((b3.block _ (lt_of_block X2.out)).trans X2.out)
    have HL3 := Lib.hid (HL2.out.below b3)
    have B3 := B2.trans (b3.mono B2.size)
    clear X2 HL2 b3
    go_wp2_with fail
    go_ret
    exact ⟨rfl, B3⟩

end Go.Proofs.YtaihojahccplcaaDoor
