/- The walk of the law StateGets. -/
import Derived.Test.YtaihojahccplcaaDoorKG6b
import Derived.Test.YtaihojahccplcaaDoorKG6d
namespace Go.Proofs.YtaihojahccplcaaDoor
open Go.RowKit
set_option linter.unusedSimpArgs false
set_option linter.unusedVariables false

set_option maxRecDepth 100000 in
set_option maxHeartbeats 2000000 in
theorem sgets_walk (w : World) (l : List UInt8) (hl : l.length ≤ 140737488351232) (hL : Laid w) :
    Calls Tryd.prog 5 #[.string (strOf l)] w fun e w' => e = .returned (.bool true) ∧ Below w.heap.size w w' := by
  have hst := strOf_size l
  have HL := Lib.hid hL; clear hL
  go_enter Tryd.func5, Tryd.ntmps5
  go_wp2_with fail
  refine (awake10_any w HL.out).mono ?_
  rintro e w1 ⟨rfl, b1⟩
  have HL1 := Lib.hid (HL.out.below b1)
  by_cases h200 : 200 < l.length
  · have t1 : decide ((200 : Int) < (l.length : Int)) = true := decide_eq_true (by omega)
    have t1' : decide (200 < l.length) = true := decide_eq_true h200
    go_wp2_with fail
    refine (awake10_any _ HL1.out).mono ?_
    rintro e w2 ⟨rfl, b2⟩
    go_wp2_with fail
    go_ret
    exact ⟨rfl, b1.trans (b2.mono b1.size)⟩
  · have t1 : decide ((200 : Int) < (l.length : Int)) = false := decide_eq_false (by omega)
    have t1' : decide (200 < l.length) = false := decide_eq_false h200
    have hg1 := fun w => stGet_any w l (by unfold maxLen; omega)
    have hg2 := fun w => refGet10_any w l (by omega)
    have hgp := fun x h => St.get_put (er := 100) (l := l) (x := x) (by decide) h
    obtain ⟨r, hr⟩ : ∃ r, r = St.get 100 l := ⟨_, rfl⟩
    rw [← hr] at hg1 hg2 hgp
    clear hr
    obtain ⟨x, er⟩ := r
    simp only at hg1 hg2
    have HG1 := Lib.hid hg1; clear hg1
    have HG2 := Lib.hid hg2; clear hg2
    go_wp2_with fail
    refine (HG1.out w1).mono ?_
    rintro e w2 ⟨rfl, b2⟩
    have B2 := b1.trans (b2.mono b1.size)
    obtain ⟨Z3, hZ3⟩ : ∃ Z, Z = w2.alloc (.cells zeroVx 36) := ⟨_, rfl⟩
    have z3 : Z3.heap[w2.heap.size]? = some (.cells zeroVx 36 (0, 0)) := by rw [hZ3]; exact heap_alloc_new w2 _
    have bz3 : Below w2.heap.size w2 Z3 := by rw [hZ3]; exact (Below.refl _ _).alloc (Nat.le_refl _) _
    obtain ⟨w3, hW3⟩ : ∃ W, W = Z3.setRow w2.heap.size (VertexV.cells x).toArray := ⟨_, rfl⟩
    have y3 : w3.heap[w2.heap.size]? = some (.cells (VertexV.cells x).toArray 36 (0, 0)) := by rw [hW3]; exact vset_heap x z3
    have b3 : Below w2.heap.size w2 w3 := by rw [hW3]; exact below_setRow' bz3 (Nat.le_refl _)
    have B3 := B2.trans (b3.mono B2.size)
    have Z3F := Lib.hid z3; clear z3
    have Y3 := Lib.hid y3; clear y3
    have HZ3 := Lib.hid hZ3; clear hZ3
    have HW3 := Lib.hid hW3; clear hW3 bz3
    go_wp2_with (first | ((with_reducible show wpList _ _ _ (⟨none, .store _ (.tmp 3) (.tmp 18), _, _, _, _⟩ :: _) _ _); change wpList _ _ _ _ _ (w2.alloc (.cells zeroVx 36)); rw [← HZ3.out]; refine wpList_store_vx rfl _ _ rfl w2.heap.size x rfl rfl zeroVx Z3F.out rfl ?_; rw [← HW3.out]))
    refine (HG2.out w3).mono ?_
    rintro e w4 ⟨rfl, b4⟩
    have B4 := B3.trans (b4.mono B3.size)
    have Y4 := Lib.hid ((b4.block _ (lt_of_block Y3.out)).trans Y3.out)
    obtain ⟨Z5, hZ5⟩ : ∃ Z, Z = w4.alloc (.cells zeroVx 36) := ⟨_, rfl⟩
    have z5 : Z5.heap[w4.heap.size]? = some (.cells zeroVx 36 (0, 0)) := by rw [hZ5]; exact heap_alloc_new w4 _
    have bz5 : Below w4.heap.size w4 Z5 := by rw [hZ5]; exact (Below.refl _ _).alloc (Nat.le_refl _) _
    obtain ⟨w5, hW5⟩ : ∃ W, W = Z5.setRow w4.heap.size (VertexV.cells x).toArray := ⟨_, rfl⟩
    have y5 : w5.heap[w4.heap.size]? = some (.cells (VertexV.cells x).toArray 36 (0, 0)) := by rw [hW5]; exact vset_heap x z5
    have b5 : Below w4.heap.size w4 w5 := by rw [hW5]; exact below_setRow' bz5 (Nat.le_refl _)
    have B5 := B4.trans (b5.mono B4.size)
    have Z5F := Lib.hid z5; clear z5
    have Y5 := Lib.hid y5; clear y5
    have HZ5 := Lib.hid hZ5; clear hZ5
    have HW5 := Lib.hid hW5; clear hW5 bz5
    have Y6 := Lib.hid ((b5.block _ (lt_of_block Y4.out)).trans Y4.out)
    by_cases he : er = 0
    · subst he
      have hpx := hgp x rfl
      have hp := stPut_any w5 x
      rw [hpx] at hp
      have HP := Lib.hid hp; clear hp hpx hgp
      go_wp2_with (first | ((with_reducible show wpList _ _ _ (⟨none, .store _ (.tmp 5) (.tmp 23), _, _, _, _⟩ :: _) _ _); change wpList _ _ _ _ _ (w4.alloc (.cells zeroVx 36)); rw [← HZ5.out]; refine wpList_store_vx rfl _ _ rfl w4.heap.size x rfl rfl zeroVx Z5F.out rfl ?_; rw [← HW5.out]) | ((with_reducible show wpList _ _ _ (⟨some 25, _, _, _, _, _⟩ :: _) _ _); refine wpList_load_vx (by kernel_rfl) _ rfl w2.heap.size rfl x Y6.out ?_) | ((with_reducible show wpList _ _ _ (⟨some 26, _, _, _, _, _⟩ :: _) _ _); refine wpList_load_vx (by kernel_rfl) _ rfl w4.heap.size rfl x Y5.out ?_) | ((with_reducible show wpList _ _ _ (⟨some 27, _, _, _, _, _⟩ :: _) _ _); refine wpList_eql_vx (by kernel_rfl) _ _ rfl x x rfl rfl ?_; rw [show decide (x = x) = true from decide_eq_true rfl]) | ((with_reducible show wpList _ _ _ (⟨some 37, _, _, _, _, _⟩ :: _) _ _); refine wpList_load_vx (by kernel_rfl) _ rfl w2.heap.size rfl x Y6.out ?_))
      refine HP.out.mono ?_
      rintro e w6 ⟨rfl, b6⟩
      go_wp2_with fail
      go_ret
      exact ⟨rfl, B5.trans (b6.mono B5.size)⟩
    · have te : ((er : Int) != 0) = true := by simp only [bne_iff_ne, ne_eq]; omega
      have te' : ((er : Int) == 0) = false := by simp only [beq_eq_false_iff_ne, ne_eq]; omega
      clear hgp
      have HE := Lib.hid he; clear he
      go_wp2_with (first | ((with_reducible show wpList _ _ _ (⟨none, .store _ (.tmp 5) (.tmp 23), _, _, _, _⟩ :: _) _ _); change wpList _ _ _ _ _ (w4.alloc (.cells zeroVx 36)); rw [← HZ5.out]; refine wpList_store_vx rfl _ _ rfl w4.heap.size x rfl rfl zeroVx Z5F.out rfl ?_; rw [← HW5.out]) | ((with_reducible show wpList _ _ _ (⟨some 25, _, _, _, _, _⟩ :: _) _ _); refine wpList_load_vx (by kernel_rfl) _ rfl w2.heap.size rfl x Y6.out ?_) | ((with_reducible show wpList _ _ _ (⟨some 26, _, _, _, _, _⟩ :: _) _ _); refine wpList_load_vx (by kernel_rfl) _ rfl w4.heap.size rfl x Y5.out ?_) | ((with_reducible show wpList _ _ _ (⟨some 27, _, _, _, _, _⟩ :: _) _ _); refine wpList_eql_vx (by kernel_rfl) _ _ rfl x x rfl rfl ?_; rw [show decide (x = x) = true from decide_eq_true rfl]))
      go_ret
      exact ⟨rfl, B5⟩

theorem sgets_law (w : World) (s : ByteArray) (hs : s.size ≤ 140737488351232) (hL : Laid w) :
    Calls Tryd.prog 5 #[.string s] w fun e w' => e = .returned (.bool true) ∧ Below w.heap.size w w' := by
  have h := sgets_walk w s.data.toList (by rw [← strOf_size, strOf_data]; exact hs) hL
  rwa [strOf_data] at h

end Go.Proofs.YtaihojahccplcaaDoor
