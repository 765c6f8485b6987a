/- The walk of wire.Out's Hash. (A part of XOut2, for the seats that lack the rest.) -/
import Derived.Test.YteljlnkjdajkgaaDoorNumT
import Derived.Deep.AppendLies
namespace Go.Proofs.YteljlnkjdajkgaaDoor
open Go.RowKit
set_option linter.unusedSimpArgs false
set_option linter.unusedVariables false

set_option maxRecDepth 100000 in
set_option maxHeartbeats 400000 in
theorem outHash_any (hs : List UInt8) (hl32 : hs.length = 32) (base b : Nat) (bs : List UInt8) (w : World) (h : OutIs w base b bs) (hbase : base ≤ w.heap.size) (hl : bs.length + 32 ≤ 140737488355328) :
    Calls Tryd.prog 24 #[.pointer (some ⟨b, 0, none⟩), .agg (byteCells hs).toArray] w fun e w' => e = .returned (.tuple #[]) ∧ OutIs w' base b (bs ++ hs) ∧ BelowBut base b w w' := by
  obtain ⟨i0, hi, hz0, hz1, hz2⟩ := info_parts Tryd.info_byte
  obtain ⟨v, hb, hown⟩ := h
  obtain ⟨a0, c0, rfl⟩ := ownsRow_slice hown
  have hc := cell_of_one hb
  have hf := free_of_one hb
  have hca : ∀ o, (w.alloc o).cell? ⟨b, 0, none⟩ = some (.slice a0 bs.length c0) := fun o => cell_of_one ((Below.heap_alloc w o b (lt_of_block hb)).trans hb)
  have hfa : ∀ o, (w.alloc o).frozen? ⟨b, 0, none⟩ = false := fun o => free_of_one ((Below.heap_alloc w o b (lt_of_block hb)).trans hb)
  go_enter Tryd.func24, Tryd.ntmps24
  go_wp2
  have hcells : ∀ j u, (byteCells hs)[j]? = some u → ((w.alloc (.cells (byteCells hs).toArray 39)).drew).cell? ((⟨w.heap.size, 0, none⟩ : Addr).add j) = some u := by
    intro j u hj
    have e : (⟨w.heap.size, 0, none⟩ : Addr).add j = ⟨w.heap.size, j, none⟩ := by unfold Addr.add; split <;> simp_all
    rw [e]
    show (w.alloc _).cell? _ = _
    rw [World.cell?_alloc_mark]; simpa using hj
  have HC := Lib.hid hcells; clear hcells
  have h0 : Below w.heap.size w (w.alloc (.cells (byteCells hs).toArray 39)).drew := ((Below.refl _ _).alloc (Nat.le_refl _) _).drew
  go_region_law (refine step_append_lies _ rfl _ _ 42 rfl base 5 i0 (.int .u8 0) 1 1 Tryd.under_bytes hi hz0 hz1 hz2 rfl (by decide) _ _ _ rfl (hown.alloc _).drew ⟨w.heap.size, 0, none⟩ 32 32 (byteCells hs) rfl (by rw [byteCells_length, hl32]) HC.out (byteCells_one _) (by decide) (by unfold maxLen; omega) (by omega) (by simp; omega) (w.heap.size + 1) (by simp) ?_; intro g cap w1 hown' hgrow _ _; obtain ⟨hc1, hf1⟩ := out_cell hb hown h0 hgrow; have HR := Lib.hid (out_store (news := hs) hb hown h0 hbase hown' hgrow (by rw [hl32]) rfl); clear hown' hgrow)
  go_end0
  exact ⟨rfl, HR.out.1, HR.out.2⟩

end Go.Proofs.YteljlnkjdajkgaaDoor
