/- The walk of wire.In.Hash. -/
import Derived.Test.YtnohbamjcadfaaaIn3
namespace Go.Proofs.Ytnohbamjcadfaaa
open Go.RowKit

/-- The cells of a sum that is all 0. -/
def zero32 : Array Value := (byteCells (List.replicate 32 0)).toArray

theorem bytes_all (l : List UInt8) : (byteCells l).toArray.all (·.oneCell') = true := by
  rw [Array.all_eq_true_iff_forall_mem]
  intro v hv
  exact byteCells_one l v (by simpa using hv)

theorem Try.under_hash : Try.prog.underlying 45 = some (.array 32 5) := by kernel_rfl
theorem Try.size_hash : (Try.prog.info? 45).map (·.size) = some 32 := by kernel_rfl

set_option maxRecDepth 100000 in
set_option maxHeartbeats 400000 in
theorem inHash_any (b : Nat) (l : List UInt8) (e : Nat) (hl : l.length ≤ maxLen) (w : World) (h : InIs w b l e) :
    Calls Try.prog 35 #[.pointer (some ⟨b, 0, none⟩)] w fun x w' => x = .returned (.agg (byteCells (Wire.rdHash l e).1).toArray) ∧ InIs w' b (Wire.rdHash l e).2.1 (Wire.rdHash l e).2.2 ∧ BelowBut w.heap.size b w w' := by
  have hlt := h.lt
  obtain ⟨W, hW⟩ : ∃ W, W = (w.alloc (.cells zero32 45)).alloc (.cells zero32 45) := ⟨_, rfl⟩
  have hq : W.heap[w.heap.size]? = some (.cells zero32 45 (0, 0)) := by
    rw [hW, Below.heap_alloc _ _ _ (by simp)]; exact heap_alloc_new w _
  have hp : W.heap[w.heap.size + 1]? = some (.cells zero32 45 (0, 0)) := by
    rw [hW]; have := heap_alloc_new (w.alloc (.cells zero32 45)) (.cells zero32 45); simpa using this
  have hbW : InIs W b l e := by
    refine h.kept ?_
    rw [hW, Below.heap_alloc _ _ _ (by simp; omega), Below.heap_alloc _ _ _ hlt]
  have hbl : Below w.heap.size w W := by rw [hW]; exact ((Below.refl _ _).alloc (Nat.le_refl _) _).alloc (by simp) _
  have hWs : W.heap.size = w.heap.size + 2 := by rw [hW]; simp
  -- what the call leaves
  have hcall : ∀ fv, fv = Value.func (.func 39) #[] #[.pointer (some ⟨w.heap.size + 1, 0, none⟩)] →
      Calls Try.prog 29 #[.pointer (some ⟨b, 0, none⟩), fv] W fun x w' => (∃ t, x = .returned (.bool t)) ∧
        w'.heap[w.heap.size + 1]? = some (.cells (byteCells (Wire.rdHash l e).1).toArray 45 (0, 0)) ∧ w'.heap[w.heap.size]? = some (.cells zero32 45 (0, 0)) ∧
        InIs w' b (Wire.rdHash l e).2.1 (Wire.rdHash l e).2.2 ∧ BelowBut w.heap.size b w w' ∧ w.heap.size + 2 ≤ w'.heap.size := by
    rintro fv rfl
    by_cases he : e = 0
    · subst he
      refine (read_go b l 39 #[.pointer (some ⟨w.heap.size + 1, 0, none⟩)] W hbW
        (fun n er w1 => (l.length < 32 ∧ w1 = W ∧ n = 0 ∧ er = 20) ∨ (32 ≤ l.length ∧ w1 = W.setRow (w.heap.size + 1) (byteCells (l.take 32)).toArray ∧ n = 32 ∧ er = 0)) Try.callHash1
        ((hash1_any l hl (w.heap.size + 1) zero32 rfl W hp).mono ?_)).mono ?_
      · intro x w1 hx
        rcases hx with ⟨h1, rfl, rfl⟩ | ⟨h1, rfl, rfl⟩
        · exact ⟨0, 20, rfl, hbW, by omega, .inl ⟨h1, rfl, rfl, rfl⟩⟩
        · exact ⟨32, 0, rfl, hbW.kept (setRow_other W _ _ _ (by omega)), by omega, .inr ⟨h1, rfl, rfl, rfl⟩⟩
      · rintro x w' ⟨n, er, w1, hr, hin, hbb, rfl⟩
        refine ⟨⟨_, rfl⟩, ?_⟩
        rcases hr with ⟨h1, rfl, rfl, rfl⟩ | ⟨h1, rfl, rfl, rfl⟩
        · have e1 : Wire.rdHash l 0 = (List.replicate 32 0, l, 20) := by simp [Wire.rdHash, h1]
          rw [e1]
          exact ⟨(hbb.block _ (by omega) (by omega)).trans hp, (hbb.block _ (by omega) (by omega)).trans hq, hin, BelowBut.trans (.of hbl) (hbb.mono (by omega)), by have := hbb.size; omega⟩
        · have e1 : Wire.rdHash l 0 = (l.take 32, l.drop 32, 0) := by simp [Wire.rdHash]; omega
          rw [e1]
          have hz : (W.setRow (w.heap.size + 1) (byteCells (l.take 32)).toArray).heap.size = w.heap.size + 2 := by simp [World.setRow, hWs]
          have hb2 : Below w.heap.size W (W.setRow (w.heap.size + 1) (byteCells (l.take 32)).toArray) := below_setRow (Below.refl _ _) (by omega) _
          exact ⟨(hbb.block _ (by omega) (by omega)).trans (setRow_heap W _ _ _ _ _ hp), (hbb.block _ (by omega) (by omega)).trans ((setRow_other W _ _ _ (by omega)).trans hq), hin,
            BelowBut.trans (.of (hbl.trans hb2)) (hbb.mono (by omega)), by have := hbb.size; omega⟩
    · refine (read_stop b l e (by omega) _ _ hbW).mono ?_
      rintro x w' ⟨rfl, rfl⟩
      have e1 : Wire.rdHash l e = (List.replicate 32 0, l, e) := by simp [Wire.rdHash, he]
      rw [e1]
      exact ⟨⟨_, rfl⟩, hp, hq, hbW, .of hbl, by omega⟩
  have HC := Lib.hid (hcall _ rfl); clear hcall
  have HW := Lib.hid hW; clear hW
  have hlen : (byteCells (Wire.rdHash l e).1).toArray.size = 32 := by
    rw [List.size_toArray, byteCells_length, Wire.rdHash_len]
  have hall := bytes_all (Wire.rdHash l e).1
  generalize (byteCells (Wire.rdHash l e).1).toArray = R at *

  clear hq hp hbW hbl hWs
  go_enter Try.func35, Try.ntmps35
  go_wp2_with fail
  change Calls _ _ _ ((w.alloc (.cells zero32 45)).alloc (.cells zero32 45)) _
  rw [← HW.out]
  refine HC.out.mono ?_
  rintro x w' ⟨⟨t, rfl⟩, h1, h2, hin, hbb, hsz⟩
  have HI := Lib.hid hin
  have HL := Lib.hid hlen
  clear hin HC HW hlen
  go_wp2_with (first | (refine wpList_load_row (o := ⟨some 7, _, _, _, _, _⟩) rfl _ _ rfl _ rfl _ R _ _ h1 Try.under_hash rfl (by rw [HL.out]; exact Try.size_hash) ?_) | (refine wpList_store_row (o := ⟨none, _, _, _, _, _⟩) rfl _ _ _ rfl _ R rfl rfl _ zero32 h2 (by rw [HL.out]; exact Try.size_hash) (by rw [HL.out]; rfl) hall ?_))

  refine bodyPost_ret (results_cell_row rfl _ _ _ _ R _ _ rfl (setRow_heap w' _ _ _ _ _ h2) Try.under_hash rfl (by rw [HL.out]; exact Try.size_hash)) rfl ⟨rfl, ?_, ?_⟩
  · exact HI.out.kept (setRow_other w' _ _ _ (by omega))
  · exact hbb.trans (.of (below_setRow (Below.refl _ _) (Nat.le_refl _) _))
end Go.Proofs.Ytnohbamjcadfaaa
