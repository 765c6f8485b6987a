/- The walk of tree.Prove and of the function it makes. -/
import Derived.Test.YteljlnkjdajkgaaDoorTree5
import Derived.Test.YteljlnkjdajkgaaDoorRelTail
import Derived.Laws.EntriesVeiled
namespace Go.Proofs.YteljlnkjdajkgaaDoor
open Go.RowKit
set_option linter.unusedSimpArgs false
set_option linter.unusedVariables false

def hashCells (d : List (List UInt8)) : List Value := (d.map byteCells).flatten
theorem hashCells_app (a b : List (List UInt8)) : hashCells (a ++ b) = hashCells a ++ hashCells b := by simp [hashCells]
theorem hashCells_one (a : List UInt8) : hashCells [a] = byteCells a := by simp [hashCells]
theorem Tryd.under_hs : Tryd.prog.underlying 22 = some (.slice 39) := by kernel_rfl
theorem Tryd.info_hs : (Tryd.prog.info? 39).map (fun i => (i.zero, i.size, i.bytes)) = some (some (.agg zero32), 32, 32) := by kernel_rfl

theorem Tree.prove_len (N : Nat) : ∀ (l : List (List UInt8)) (i : Nat), l.length = N → (Tree.prove l i).length ≤ N := by
  induction N using Nat.strongRecOn with
  | ind N ih =>
    intro l i hl
    by_cases h : 2 ≤ l.length
    · have h1 := Tree.half_pos h
      have h2 := Tree.half_lt h
      by_cases hi : i < Tree.half l.length
      · rw [Tree.prove_left h hi, List.length_append]
        have := ih (Tree.half l.length) (by omega) (l.take (Tree.half l.length)) i (by rw [List.length_take]; omega)
        simp only [List.length_cons, List.length_nil]; omega
      · rw [Tree.prove_right h hi, List.length_append]
        have := ih (l.length - Tree.half l.length) (by omega) (l.drop (Tree.half l.length)) (i - Tree.half l.length) (by rw [List.length_drop])
        simp only [List.length_cons, List.length_nil]; omega
    · rw [Tree.prove_small h]; simp

theorem fold_zip (xs : List Value) : ∀ (k : Nat) (a : Array Value), a.size = k + xs.length → (xs.zipIdx k).foldl (fun cs x => cs.setIfInBounds x.2 x.1) a = (a.toList.take k ++ xs).toArray := by
  induction xs with
  | nil =>
    intro k a h
    simp only [List.zipIdx_nil, List.foldl_nil, List.append_nil, List.length_nil, Nat.add_zero] at h ⊢
    rw [List.take_of_length_le (by rw [Array.length_toList]; omega)]
  | cons x xs ih =>
    intro k a h
    simp only [List.zipIdx_cons, List.foldl_cons, List.length_cons] at h ⊢
    rw [ih (k + 1) _ (by simp; omega)]
    congr 1
    rw [Array.toList_setIfInBounds, List.take_add_one, List.getElem?_set_self (by rw [Array.length_toList]; omega), List.take_set_of_le (by omega)]
    simp

/-- A row of one sum that a call's own argument makes. -/
theorem alloc_built (w : World) {h : List UInt8} {t : TypeId} (hl : (byteCells h).length = 32) :
    (w.alloc (.cells (List.foldl (fun (cs : Array Value) (x : Value × Nat) => cs.setIfInBounds x.2 x.1) zero32 (byteCells h).zipIdx) t)).heap[w.heap.size]? = some (.cells (byteCells h).toArray t (0, 0)) := by
  rw [fold_zip (byteCells h) 0 zero32 (by rw [zero32_size, hl])]
  exact heap_alloc_new w _

theorem hash_one (h : List UInt8) : ∀ u ∈ byteCells h, u.oneCell' = true := byteCells_one h

theorem cells_row_at {w : World} {g : Nat} {cs : List Value} {t : TypeId} {fr : Nat × Nat} (h : w.heap[g]? = some (.cells cs.toArray t fr)) : ∀ j u, cs[j]? = some u → w.cell? ((⟨g, 0, none⟩ : Addr).add j) = some u := by
  intro j u hu
  rw [Addr.add_mid, Nat.zero_add]
  have := range_row h j u hu
  rwa [Nat.zero_add] at this

/-- What the region's operations leave. -/
def poL (vo : Value) (b off n cap k : Nat) (L : List (List UInt8)) (ix : Nat) (w : World) (v : Value) : Prop :=
  match ix with
  | 0 => v = vo
  | 1 => v = .slice (some ⟨b, off, none⟩) n cap
  | 2 => v = .int .i64 (k : Int)
  | 3 => v = .slice (some ⟨b, off + k, none⟩) (n - k) (cap - k)
  | 4 => v = .agg (byteCells (Tree.top (L.drop k))).toArray
  | 5 => ∃ g, v = .slice (some ⟨g, 0, none⟩) 1 1 ∧ w.heap[g]? = some (.cells (byteCells (Tree.top (L.drop k))).toArray 39 (0, 0))
  | _ => True

theorem poL_mono (vo : Value) (b off n cap k : Nat) (L : List (List UInt8)) (j : Nat) (w w' : World) (v : Value) (hb : Below w.heap.size w w') (h : poL vo b off n cap k L j w v) : poL vo b off n cap k L j w' v := by
  match j, h with
  | 0, h => exact h
  | 1, h => exact h
  | 2, h => exact h
  | 3, h => exact h
  | 4, h => exact h
  | 5, h => exact (let ⟨g, h1, h2⟩ := h; ⟨g, h1, (hb.block g (lt_of_block h2)).trans h2⟩)
  | _ + 6, h => exact trivial

/-- What the region's operations leave. -/
def poR (vo : Value) (b off n cap k : Nat) (L : List (List UInt8)) (ix : Nat) (w : World) (v : Value) : Prop :=
  match ix with
  | 0 => v = vo
  | 1 => v = .slice (some ⟨b, off, none⟩) n cap
  | 2 => v = .int .i64 (k : Int)
  | 3 => v = .int .i64 (k : Int)
  | 4 => v = .slice (some ⟨b, off, none⟩) k k
  | 5 => v = .agg (byteCells (Tree.top (L.take k))).toArray
  | 6 => ∃ g, v = .slice (some ⟨g, 0, none⟩) 1 1 ∧ w.heap[g]? = some (.cells (byteCells (Tree.top (L.take k))).toArray 39 (0, 0))
  | _ => True

theorem poR_mono (vo : Value) (b off n cap k : Nat) (L : List (List UInt8)) (j : Nat) (w w' : World) (v : Value) (hb : Below w.heap.size w w') (h : poR vo b off n cap k L j w v) : poR vo b off n cap k L j w' v := by
  match j, h with
  | 0, h => exact h
  | 1, h => exact h
  | 2, h => exact h
  | 3, h => exact h
  | 4, h => exact h
  | 5, h => exact h
  | 6, h => exact (let ⟨g, h1, h2⟩ := h; ⟨g, h1, (hb.block g (lt_of_block h2)).trans h2⟩)
  | _ + 7, h => exact trivial

end Go.Proofs.YteljlnkjdajkgaaDoor
