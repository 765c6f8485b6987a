/- LaidH, in one text. -/
import Derived.Test.YtaihojahccplcaaDoorRows
import Derived.Test.YtaihojahccplcaaDoorKStep
import Derived.ProofKit
import Derived.LaidMore
import Derived.OpenShut
import Derived.Stop.Joined
import Derived.Lib.LaidTab
import Derived.Stop.LaidErr
/- The two tables that hash.Of reads, out of what the row lists; a world that holds them. -/
namespace Go.Proofs.YtaihojahccplcaaDoor
open Go.ChangeShapes Go.WideShapes Go.ChangeAt Go.RowKit

abbrev laidL : List (String × DataW Unit) := [("modillion/hash.constants", Rows.laid_modillion_hash_constants), ("modillion/hash.start", Rows.laid_modillion_hash_start)]

theorem door_met (os : Os) (args : Array Value) : laidMetH Tryd.prog laidL ((World.doorLaid Tryd.prog 19 os).forCall (fun _ _ => 0) ⟨#[], args, []⟩).memory :=
  laidMetH_of_parts3 (fuel := 8) (laidMet_of_run' 8 (by kernel_rfl) (by kernel_rfl)) (by kernel_rfl) (by kernel_rfl)

theorem tab_K : (Rows.laid_modillion_hash_constants : DataW Unit) = Lib.tabData .u32 (Sha.K.map fun n : Nat => (n : Int)) := by kernel_rfl
theorem tab_H : (Rows.laid_modillion_hash_start : DataW Unit) = Lib.tabData .u32 (Sha.H0.map fun n : Nat => (n : Int)) := by kernel_rfl

theorem range_of_tab {W : World} {name : String} {g : Nat} {ns : List Nat} (h : Lib.TabIs Tryd.prog W name .u32 (ns.map fun n : Nat => (n : Int))) (hg : Tryd.prog.globalNamed name = some g) : W.rangeAt g 0 (wCells ns) := by
  intro j u hu
  have hj : j < ns.length := by have := (List.getElem?_eq_some_iff.1 hu).1; simpa [wCells] using this
  have h1 := h.cell hg j (by rw [List.length_map]; exact hj)
  rw [Nat.zero_add, h1]
  rw [← hu]
  simp [wCells, List.getElem?_eq_getElem hj, List.getD_eq_getElem?_getD]

theorem laid_of {W : World} (h : laidMetH Tryd.prog laidL W) : Laid W := by
  have h1 : laidMet Tryd.prog laidL W := h
  have h2 := laidMet.tail h1
  rw [show laidL = ("modillion/hash.constants", Lib.tabData .u32 (Sha.K.map fun n : Nat => (n : Int))) :: [("modillion/hash.start", Rows.laid_modillion_hash_start)] by rw [← tab_K]] at h1
  rw [tab_H] at h2
  refine ⟨range_of_tab (Lib.tabIs_of_head (g := 1) (t := 107) (e := 92) (n := 64) (by kernel_rfl) (by kernel_rfl) (by kernel_rfl) (by kernel_rfl) (by kernel_rfl) (by kernel_rfl) h1) (by kernel_rfl),
    range_of_tab (Lib.tabIs_of_head (g := 0) (t := 98) (e := 92) (n := 8) (by kernel_rfl) (by kernel_rfl) (by kernel_rfl) (by kernel_rfl) (by kernel_rfl) (by kernel_rfl) h2) (by kernel_rfl)⟩

end Go.Proofs.YtaihojahccplcaaDoor
