/- The walk of the law HashReads. -/
import Derived.Test.YtabkndpilnapfaaDoorAwakeH
import Derived.Test.YtabkndpilnapfaaDoorRefText
namespace Go.Proofs.YtabkndpilnapfaaDoor
open Go.RowKit
set_option linter.unusedSimpArgs false
set_option linter.unusedVariables false

theorem reads_cases (l : List UInt8) : (∃ r : List UInt8, r.length = 32 ∧ rdSum l = (r, 0) ∧ refRd l = (r, true) ∧ Sha.hex r = l) ∨ (rdSum l = (List.replicate 32 0, 10) ∧ ∃ q, refRd l = (q, false)) := by
  unfold rdSum refRd
  by_cases h : l.length = 64
  · rw [if_pos h]
    cases hu : Sha.unhex l with
    | none => right; exact ⟨rfl, _, rfl⟩
    | some r =>
      left
      obtain ⟨h1, h2⟩ := Sha.hex_unhex 32 l r (by omega) hu
      exact ⟨r, h2, rfl, by simp [h], h1⟩
  · right
    rw [if_neg h]
    cases hu : Sha.unhex l with
    | none => exact ⟨rfl, _, rfl⟩
    | some r => exact ⟨rfl, r, by simp [h]⟩

set_option maxRecDepth 100000 in
set_option maxHeartbeats 2000000 in
theorem reads_list (w : World) (l : List UInt8) (hl : l.length ≤ 140737488351232) (hL : Laid w) :
    Calls Tryd.prog 6 #[.string (strOf l)] w fun e w' => e = .returned (.bool true) ∧ Below w.heap.size w w' := by
  have hst := strOf_size l
  have HL := Lib.hid hL; clear hL
  go_enter Tryd.func6, Tryd.ntmps6
  go_wp2_with fail
  refine (awake_any w HL.out).mono ?_
  rintro e w1 ⟨rfl, b1⟩
  have HL1 := Lib.hid (HL.out.below b1)
  by_cases h200 : 200 < l.length
  · have ht : decide ((200 : Int) < (l.length : Int)) = true := decide_eq_true (by omega)
    go_wp2_with fail
    refine (awake_any w1 HL1.out).mono ?_
    rintro e w2 ⟨rfl, b2⟩
    go_wp2_with fail
    go_ret
    exact ⟨rfl, b1.trans (b2.mono b1.size)⟩
  · have ht : decide ((200 : Int) < (l.length : Int)) = false := decide_eq_false (by omega)
    go_wp2_with fail
    refine (read_any l (by omega) w1).mono ?_
    rintro e w2 ⟨rfl, b2⟩
    have b02 : Below w.heap.size w w2 := b1.trans (b2.mono b1.size)
    clear b1 b2 HL HL1 ht
    obtain ⟨W3, hW3⟩ : ∃ W3, W3 = (w2.alloc (.cells zero32 25)).setRow w2.heap.size (byteCells (rdSum l).1).toArray := ⟨_, rfl⟩
    have z3 : (w2.alloc (.cells zero32 25)).heap[w2.heap.size]? = some (.cells zero32 25 (0, 0)) := heap_alloc_new w2 _
    have y3 : W3.heap[w2.heap.size]? = some (.cells (byteCells (rdSum l).1).toArray 25 (0, 0)) := by rw [hW3]; exact setRow_heap _ _ _ _ _ _ z3
    have b23 : Below w2.heap.size w2 W3 := by rw [hW3]; exact below_setRow' ((Below.refl _ _).alloc (Nat.le_refl _) _) (Nat.le_refl _)
    have b03 : Below w.heap.size w W3 := b02.trans (b23.mono b02.size)
    have hr := refRead_any l (by omega) W3
    clear b23 b02
    rcases reads_cases l with ⟨r, hrl, h1, h2, h3⟩ | ⟨h1, q, h2⟩
    all_goals
      rw [h1] at hW3 y3 ⊢
      rw [h2] at hr
      simp only [] at hW3 y3 hr ⊢
      have HW3 := Lib.hid hW3; clear hW3
      have Z3 := Lib.hid z3; clear z3
      have Y3 := Lib.hid y3; clear y3
      have HR := Lib.hid hr; clear hr
      clear h1 h2
    · have HSL := Lib.hid hrl; clear hrl
      have HSA : Hid ((byteCells r).toArray.all (·.oneCell') = true) := Lib.hid (all_oneCell_toArray (byteCells_one _))
      have HSS : Hid ((Tryd.prog.info? 25).map (·.size) = some (byteCells r).toArray.size) := Lib.hid (by rw [Tryd.infoH]; simp [byteCells_length, HSL.out])
      have HZS : Hid (zero32.size = (byteCells r).toArray.size) := Lib.hid (by simp [zero32, byteCells_length, HSL.out])
      go_wp2_with (first | ((with_reducible show wpList _ _ _ (⟨none, .store 25 (.tmp 3) (.tmp 18), _, _, _, _⟩ :: _) _ _); change wpList _ _ _ _ _ (w2.alloc (.cells zero32 25)); refine wpList_store_row (o := ⟨none, .store 25 _ _, _, _, _, _⟩) rfl _ _ _ rfl w2.heap.size (byteCells r).toArray rfl rfl _ zero32 Z3.out HSS.out HZS.out HSA.out ?_; change wpList _ _ _ _ _ ((w2.alloc (.cells zero32 25)).setRow w2.heap.size (byteCells r).toArray); rw [← HW3.out]))
      refine HR.out.mono ?_
      rintro e w4 ⟨rfl, b4⟩
      have Y4 := Lib.hid ((b4.block _ (lt_of_block Y3.out)).trans Y3.out)
      have b04 : Below w.heap.size w w4 := b03.trans (b4.mono b03.size)
      clear b03 b4
      go_wp2_with (first | ((with_reducible show wpList _ _ _ (⟨some 34, _, _, _, _, _⟩ :: _) _ _); refine wpList_load_hash (op := ⟨some 34, _, _, _, _, _⟩) (by kernel_rfl) _ rfl w2.heap.size rfl r HSL.out _ _ Y4.out ?_))
      refine (text_any r HSL.out w4).mono ?_
      rintro e w5 ⟨rfl, b5⟩
      have Y5 := Lib.hid ((b5.block _ (lt_of_block Y4.out)).trans Y4.out)
      have b05 : Below w.heap.size w w5 := b04.trans (b5.mono b04.size)
      clear b04 b5
      go_wp2_with (first | ((with_reducible show wpList _ _ _ (⟨some 43, _, _, _, _, _⟩ :: _) _ _); refine wpList_load_hash (op := ⟨some 43, _, _, _, _, _⟩) (by kernel_rfl) _ rfl w2.heap.size rfl r HSL.out _ _ Y5.out ?_))
      refine (hashText_any r HSL.out w5).mono ?_
      rintro e w6 ⟨rfl, b6⟩
      rw [h3]
      go_wp2_with fail
      go_ret
      exact ⟨rfl, b05.trans (b6.mono b05.size)⟩
    · have HSA : Hid ((byteCells (List.replicate 32 0)).toArray.all (·.oneCell') = true) := Lib.hid (all_oneCell_toArray (byteCells_one _))
      have hz0 : (List.replicate 32 (0 : UInt8)).length = 32 := by simp
      obtain ⟨Z, hZ⟩ : ∃ Z, Z = List.replicate 32 (0 : UInt8) := ⟨_, rfl⟩
      rw [← hZ] at HW3 Y3 HSA hz0 ⊢
      have HZ := Lib.hid hZ; clear hZ
      have HSL := Lib.hid hz0; clear hz0
      have HSS : Hid ((Tryd.prog.info? 25).map (·.size) = some (byteCells Z).toArray.size) := Lib.hid (by rw [Tryd.infoH]; simp [byteCells_length, HSL.out])
      have HZS : Hid (zero32.size = (byteCells Z).toArray.size) := Lib.hid (by simp [zero32, byteCells_length, HSL.out])
      have hzz : (Z == Z) = true := beq_self_eq_true Z
      go_wp2_with (first | ((with_reducible show wpList _ _ _ (⟨none, .store 25 (.tmp 3) (.tmp 18), _, _, _, _⟩ :: _) _ _); change wpList _ _ _ _ _ (w2.alloc (.cells zero32 25)); refine wpList_store_row (o := ⟨none, .store 25 _ _, _, _, _, _⟩) rfl _ _ _ rfl w2.heap.size (byteCells Z).toArray rfl rfl _ zero32 Z3.out HSS.out HZS.out HSA.out ?_; change wpList _ _ _ _ _ ((w2.alloc (.cells zero32 25)).setRow w2.heap.size (byteCells Z).toArray); rw [← HW3.out]))
      refine HR.out.mono ?_
      rintro e w4 ⟨rfl, b4⟩
      have Y4 := Lib.hid ((b4.block _ (lt_of_block Y3.out)).trans Y3.out)
      have b04 : Below w.heap.size w w4 := b03.trans (b4.mono b03.size)
      clear b03 b4
      go_wp2_with (first | ((with_reducible show wpList _ _ _ (⟨some 27, _, _, _, _, _⟩ :: _) _ _); refine wpList_load_hash (op := ⟨some 27, _, _, _, _, _⟩) (by kernel_rfl) _ rfl w2.heap.size rfl Z HSL.out _ _ Y4.out ?_) | ((with_reducible show wpList _ _ _ (⟨some 28, _, _, _, _, _⟩ :: _) _ _); refine wpList_zero_hash (op := ⟨some 28, _, _, _, _, _⟩) (by kernel_rfl) rfl ?_; rw [← HZ.out]) | ((with_reducible show wpList _ _ _ (⟨some 29, _, _, _, _, _⟩ :: _) _ _); refine wpList_eql_hash (op := ⟨some 29, _, _, _, _, _⟩) (by kernel_rfl) _ _ rfl Z Z HSL.out HSL.out rfl rfl ?_; rw [hzz]))
      go_ret
      exact ⟨rfl, b04⟩

theorem reads_law (w : World) (s : ByteArray) (hs : s.size ≤ 140737488351232) (hL : Laid w) :
    Calls Tryd.prog 6 #[.string s] w fun e w' => e = .returned (.bool true) ∧ Below w.heap.size w w' := by
  have h := reads_list w s.data.toList (by rw [← strOf_size, strOf_data]; exact hs) hL
  rwa [strOf_data] at h

end Go.Proofs.YtabkndpilnapfaaDoor
