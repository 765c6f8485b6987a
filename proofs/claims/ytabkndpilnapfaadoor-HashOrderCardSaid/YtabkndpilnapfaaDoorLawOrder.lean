/- The walk of the law HashOrder. -/
import Derived.Test.YtabkndpilnapfaaDoorAwakeH
import Derived.Test.YtabkndpilnapfaaDoorUp
import Derived.Test.YtabkndpilnapfaaDoorOrder
namespace Go.Proofs.YtabkndpilnapfaaDoor
open Go.RowKit
set_option linter.unusedSimpArgs false
set_option linter.unusedVariables false

set_option maxRecDepth 100000 in
set_option maxHeartbeats 4000000 in
theorem order_law (w : World) (a b c : List UInt8) (ha : a.length = 32) (hb : b.length = 32) (hc : c.length = 32) (hL : Laid w) :
    Calls Tryd.prog 7 #[.agg (byteCells a).toArray, .agg (byteCells b).toArray, .agg (byteCells c).toArray] w fun e w' => e = .returned (.bool true) ∧ Below w.heap.size w w' := by
  obtain ⟨W0, hW0⟩ : ∃ W0, W0 = (((w.alloc (.cells (byteCells a).toArray 25)).alloc (.cells (byteCells b).toArray 25)).alloc (.cells (byteCells c).toArray 25)) := ⟨_, rfl⟩
  have x0 : W0.heap[w.heap.size]? = some (.cells (byteCells a).toArray 25 (0, 0)) := by
    rw [hW0, Below.heap_alloc _ _ _ (by simp; omega), Below.heap_alloc _ _ _ (by simp)]; exact heap_alloc_new w _
  have y0 : W0.heap[w.heap.size + 1]? = some (.cells (byteCells b).toArray 25 (0, 0)) := by
    rw [hW0, Below.heap_alloc _ _ _ (by simp)]; have := heap_alloc_new (w.alloc (.cells (byteCells a).toArray 25)) (.cells (byteCells b).toArray 25); simpa using this
  have z0 : W0.heap[w.heap.size + 2]? = some (.cells (byteCells c).toArray 25 (0, 0)) := by
    rw [hW0]; have := heap_alloc_new ((w.alloc (.cells (byteCells a).toArray 25)).alloc (.cells (byteCells b).toArray 25)) (.cells (byteCells c).toArray 25); simpa using this
  have b0 : Below w.heap.size w W0 := by rw [hW0]; exact (((Below.refl _ _).alloc (Nat.le_refl _) _).alloc (by simp) _).alloc (by simp; omega) _
  have hLW := Lib.hid (hL.below b0); clear hL
  have HW0 := Lib.hid hW0; clear hW0
  have XA := Lib.hid x0; clear x0
  have XB := Lib.hid y0; clear y0
  have XC := Lib.hid z0; clear z0
  have HA := Lib.hid ha; clear ha
  have HB := Lib.hid hb; clear hb
  have HC := Lib.hid hc; clear hc
  obtain ⟨x, hx⟩ : ∃ x, lessB a b = x := ⟨_, rfl⟩
  obtain ⟨z, hz⟩ : ∃ x, lessB b a = x := ⟨_, rfl⟩
  obtain ⟨y, hy⟩ : ∃ x, lessB b c = x := ⟨_, rfl⟩
  obtain ⟨v, hv⟩ : ∃ x, lessB a c = x := ⟨_, rfl⟩
  obtain ⟨q, hq⟩ : ∃ x, (a == b) = x := ⟨_, rfl⟩
  have h1 := less_total a b
  have h2 := less_trans a b c
  rw [hx, hz, hq] at h1
  rw [hx, hy, hv] at h2
  have hsl : Op.bytesLess (strOf a).toList (strOf b).toList = x := by rw [strOf_toList, strOf_toList, ← lessB_eq, hx]
  have Hab := Lib.hid (fun w => less_any a b HA.out HB.out w)
  have Hba := Lib.hid (fun w => less_any b a HB.out HA.out w)
  have Hbc := Lib.hid (fun w => less_any b c HB.out HC.out w)
  have Hac := Lib.hid (fun w => less_any a c HA.out HC.out w)
  have Haa := Lib.hid (fun w => less_any a a HA.out HA.out w)
  rw [hx] at Hab
  rw [hz] at Hba
  rw [hy] at Hbc
  rw [hv] at Hac
  rw [less_self] at Haa
  have HE := Lib.hid hq
  clear hx hz hy hv hq
  go_enter Tryd.func7, Tryd.ntmps7
  go_wp2_with fail
  change Code.wp _ _ _ _ (((w.alloc (.cells (byteCells a).toArray 25)).alloc (.cells (byteCells b).toArray 25)).alloc (.cells (byteCells c).toArray 25))
  rw [← HW0.out]
  refine wp_region_up (by kernel_rfl) (by kernel_rfl) ?_
  repeat (first | go_big_quiet_skip | ((with_reducible show wpQuiet _ _ _ _ (⟨some 9, _, _, _, _, _⟩ :: _) _); refine quiet_up_load (o := ⟨some 9, _, _, _, _, _⟩) (by kernel_rfl) _ rfl w.heap.size rfl a HA.out _ _ XA.out ?_; go_frame) | ((with_reducible show wpQuiet _ _ _ _ (⟨some 10, _, _, _, _, _⟩ :: _) _); refine quiet_up_load (o := ⟨some 10, _, _, _, _, _⟩) (by kernel_rfl) _ rfl (w.heap.size + 1) rfl b HB.out _ _ XB.out ?_; go_frame) | ((with_reducible show wpQuiet _ _ _ _ (⟨some 12, _, _, _, _, _⟩ :: _) _); refine quiet_up_load (o := ⟨some 12, _, _, _, _, _⟩) (by kernel_rfl) _ rfl (w.heap.size + 1) rfl b HB.out _ _ XB.out ?_; go_frame) | ((with_reducible show wpQuiet _ _ _ _ (⟨some 13, _, _, _, _, _⟩ :: _) _); refine quiet_up_load (o := ⟨some 13, _, _, _, _, _⟩) (by kernel_rfl) _ rfl (w.heap.size + 2) rfl c HC.out _ _ XC.out ?_; go_frame) | ((with_reducible show wpQuiet _ _ _ _ (⟨some 11, _, _, _, _, _⟩ :: _) _); go_big_quiet_step (exact Calls.up_of (Hab.out _))) | ((with_reducible show wpQuiet _ _ _ _ (⟨some 14, _, _, _, _, _⟩ :: _) _); go_big_quiet_step (exact Calls.up_of (Hbc.out _))) | go_big_quiet_step (fail))
  refine wpQuiet_nil ?_
  rintro w1 ⟨p1, hp1⟩
  have g1 : Below W0.heap.size W0 w1 := hp1 ▸ p1.h
  clear hp1 p1
  have hL1 := hLW.out.below g1
  have YA := Lib.hid ((g1.block _ (lt_of_block XA.out)).trans XA.out)
  have YB := Lib.hid ((g1.block _ (lt_of_block XB.out)).trans XB.out)
  have YC := Lib.hid ((g1.block _ (lt_of_block XC.out)).trans XC.out)
  have b1 : Below w.heap.size w w1 := b0.trans (g1.mono b0.size)
  clear XA XB XC g1 b0 hLW HW0
  go_wp2_with fail
  refine wp_region_up (by kernel_rfl) (by kernel_rfl) ?_
  have hfin : ∀ w', (∃ p : UpFrom w1, w' = p.w) → Below w.heap.size w w' := by
    rintro w' ⟨p, rfl⟩
    exact b1.trans (p.h.mono b1.size)
  clear b1
  cases x <;> cases z <;> cases y
  all_goals
    simp only [Bool.not_true, Bool.not_false, Bool.or_true, Bool.true_or, Bool.or_false, Bool.false_or] at h1 h2
    try subst h1
    try subst h2
    repeat (first | go_big_quiet_skip | ((with_reducible show wpQuiet _ _ _ _ (⟨some 15, _, _, _, _, _⟩ :: _) _); go_big_quiet_step (exact Calls.up_of (awake_any _ (hL1.below (UpFrom.h _))))) | ((with_reducible show wpQuiet _ _ _ _ (⟨some 18, _, _, _, _, _⟩ :: _) _); refine quiet_up_load (o := ⟨some 18, _, _, _, _, _⟩) (by kernel_rfl) _ rfl w.heap.size rfl a HA.out _ _ YA.out ?_; go_frame) | ((with_reducible show wpQuiet _ _ _ _ (⟨some 19, _, _, _, _, _⟩ :: _) _); go_big_quiet_step (exact Calls.up_of (text_any a HA.out _))) | ((with_reducible show wpQuiet _ _ _ _ (⟨some 20, _, _, _, _, _⟩ :: _) _); refine quiet_up_load (o := ⟨some 20, _, _, _, _, _⟩) (by kernel_rfl) _ rfl (w.heap.size + 1) rfl b HB.out _ _ YB.out ?_; go_frame) | ((with_reducible show wpQuiet _ _ _ _ (⟨some 21, _, _, _, _, _⟩ :: _) _); go_big_quiet_step (exact Calls.up_of (text_any b HB.out _))) | ((with_reducible show wpQuiet _ _ _ _ (⟨some 26, _, _, _, _, _⟩ :: _) _); refine quiet_up_load (o := ⟨some 26, _, _, _, _, _⟩) (by kernel_rfl) _ rfl w.heap.size rfl a HA.out _ _ YA.out ?_; go_frame) | ((with_reducible show wpQuiet _ _ _ _ (⟨some 27, _, _, _, _, _⟩ :: _) _); refine quiet_up_load (o := ⟨some 27, _, _, _, _, _⟩) (by kernel_rfl) _ rfl w.heap.size rfl a HA.out _ _ YA.out ?_; go_frame) | ((with_reducible show wpQuiet _ _ _ _ (⟨some 28, _, _, _, _, _⟩ :: _) _); go_big_quiet_step (exact Calls.up_of (Haa.out _))) | ((with_reducible show wpQuiet _ _ _ _ (⟨some 34, _, _, _, _, _⟩ :: _) _); refine quiet_up_load (o := ⟨some 34, _, _, _, _, _⟩) (by kernel_rfl) _ rfl (w.heap.size + 1) rfl b HB.out _ _ YB.out ?_; go_frame) | ((with_reducible show wpQuiet _ _ _ _ (⟨some 35, _, _, _, _, _⟩ :: _) _); refine quiet_up_load (o := ⟨some 35, _, _, _, _, _⟩) (by kernel_rfl) _ rfl w.heap.size rfl a HA.out _ _ YA.out ?_; go_frame) | ((with_reducible show wpQuiet _ _ _ _ (⟨some 36, _, _, _, _, _⟩ :: _) _); go_big_quiet_step (exact Calls.up_of (Hba.out _))) | ((with_reducible show wpQuiet _ _ _ _ (⟨some 39, _, _, _, _, _⟩ :: _) _); refine quiet_up_load (o := ⟨some 39, _, _, _, _, _⟩) (by kernel_rfl) _ rfl w.heap.size rfl a HA.out _ _ YA.out ?_; go_frame) | ((with_reducible show wpQuiet _ _ _ _ (⟨some 40, _, _, _, _, _⟩ :: _) _); refine quiet_up_load (o := ⟨some 40, _, _, _, _, _⟩) (by kernel_rfl) _ rfl (w.heap.size + 1) rfl b HB.out _ _ YB.out ?_; go_frame) | ((with_reducible show wpQuiet _ _ _ _ (⟨some 41, _, _, _, _, _⟩ :: _) _); refine quiet_up_eql (o := ⟨some 41, _, _, _, _, _⟩) (by kernel_rfl) _ _ rfl a b HA.out HB.out rfl rfl ?_; rw [HE.out]; go_frame) | ((with_reducible show wpQuiet _ _ _ _ (⟨some 52, _, _, _, _, _⟩ :: _) _); refine quiet_up_load (o := ⟨some 52, _, _, _, _, _⟩) (by kernel_rfl) _ rfl w.heap.size rfl a HA.out _ _ YA.out ?_; go_frame) | ((with_reducible show wpQuiet _ _ _ _ (⟨some 53, _, _, _, _, _⟩ :: _) _); refine quiet_up_load (o := ⟨some 53, _, _, _, _, _⟩) (by kernel_rfl) _ rfl (w.heap.size + 2) rfl c HC.out _ _ YC.out ?_; go_frame) | ((with_reducible show wpQuiet _ _ _ _ (⟨some 54, _, _, _, _, _⟩ :: _) _); go_big_quiet_step (exact Calls.up_of (Hac.out _))) | go_big_quiet_step (fail))
    refine wpQuiet_nil ?_
    intro w' hw'
    have hb' := hfin w' hw'
    clear hw' hfin
    go_wp2_with fail
    go_ret
    exact ⟨rfl, hb'⟩

theorem order_card (w : World) (a : List UInt8) (ha : a.length = 32) (b : List UInt8) (hb : b.length = 32) (c : List UInt8) (hc : c.length = 32) (hL : Laid w) :
    Calls Tryd.prog 7 #[.agg (byteCells a).toArray, .agg (byteCells b).toArray, .agg (byteCells c).toArray] w fun e w' => e = .returned (.bool true) ∧ Below w.heap.size w w' :=
  order_law w a b c ha hb hc hL

end Go.Proofs.YtabkndpilnapfaaDoor
