/- The walks of tree.Top, root, Root. -/
import Derived.Test.YteljlnkjdajkgaaDoorTree1
import Derived.Test.YteljlnkjdajkgaaDoorNumT
import Derived.Test.YteljlnkjdajkgaaDoorOpenC
namespace Go.Proofs.YteljlnkjdajkgaaDoor
open Go.RowKit
set_option linter.unusedSimpArgs false
set_option linter.unusedVariables false

def sCell (l : List UInt8) : List Value := [.string (strOf l)]

/-- Texts in a row that came in. -/
def StrsAt (w : World) (o : Option Addr) (n cap : Nat) (L : List (List UInt8)) : Prop := RowsAt w o n cap 1 sCell L

theorem StrsAt.of_rows {w : World} {o : Option Addr} {n cap : Nat} {F : List ByteArray} (h : RowsAt w o n cap 1 strCell F) : StrsAt w o n cap (F.map fun s => s.data.toList) := by
  obtain ⟨h1, h2, h3, h4⟩ := h
  refine ⟨by rw [List.length_map]; exact h1, h2, h3, fun h0 => ?_⟩
  obtain ⟨b, off, h5, h6, h7⟩ := h4 h0
  refine ⟨b, off, h5, h6, fun i l hl => ?_⟩
  rw [List.getElem?_map] at hl
  obtain ⟨f, hf, rfl⟩ := Option.map_eq_some_iff.1 hl
  have := h7 i f hf
  show w.rangeAt b (off + i * 1) [.string (strOf f.data.toList)]
  rw [strOf_data]; exact this

theorem StrsAt.len {w : World} {o : Option Addr} {n cap : Nat} {L : List (List UInt8)} (h : StrsAt w o n cap L) : L.length = n := h.1
theorem StrsAt.cap {w : World} {o : Option Addr} {n cap : Nat} {L : List (List UInt8)} (h : StrsAt w o n cap L) : n ≤ cap := h.2.1
theorem StrsAt.max {w : World} {o : Option Addr} {n cap : Nat} {L : List (List UInt8)} (h : StrsAt w o n cap L) : cap ≤ 9223372036854775807 := h.2.2.1

theorem StrsAt.below {w w' : World} {B : Nat} {o : Option Addr} {n cap : Nat} {L : List (List UInt8)} (h : StrsAt w o n cap L) (hB : w.heap.size ≤ B) (hb : Below B w w') : StrsAt w' o n cap L := by
  refine ⟨h.1, h.2.1, h.2.2.1, fun h0 => ?_⟩
  obtain ⟨b, off, h5, h6, h7⟩ := h.2.2.2 h0
  exact ⟨b, off, h5, Nat.lt_of_lt_of_le h6 hb.size, fun i l hl j v hv => (hb.cell (p := ⟨b, _, none⟩) (by simp only; omega)).trans (h7 i l hl j v hv)⟩

theorem StrsAt.take {w : World} {o : Option Addr} {n cap : Nat} {L : List (List UInt8)} (h : StrsAt w o n cap L) (k c : Nat) (hk : k ≤ n) (hc : k ≤ c) (hm : c ≤ 9223372036854775807) : StrsAt w o k c (L.take k) := by
  refine ⟨by rw [List.length_take, h.1]; omega, hc, hm, fun h0 => ?_⟩
  obtain ⟨b, off, h5, h6, h7⟩ := h.2.2.2 (by omega)
  refine ⟨b, off, h5, h6, fun i l hl => h7 i l ?_⟩
  rw [List.getElem?_take] at hl
  split at hl
  · exact hl
  · cases hl

theorem StrsAt.drop {w : World} {b off n cap : Nat} {L : List (List UInt8)} (h : StrsAt w (some ⟨b, off, none⟩) n cap L) (k : Nat) (hk : k ≤ n) : StrsAt w (some ⟨b, off + k, none⟩) (n - k) (cap - k) (L.drop k) := by
  have h8 := h.2.1
  have h9 := h.2.2.1
  refine ⟨by rw [List.length_drop, h.1], by omega, by omega, fun h0 => ?_⟩
  obtain ⟨b', off', h5, h6, h7⟩ := h.2.2.2 (by omega)
  cases h5
  refine ⟨b, off + k, rfl, h6, fun i l hl => ?_⟩
  rw [List.getElem?_drop] at hl
  have := h7 (k + i) l hl
  rwa [show off + (k + i) * 1 = off + k + i * 1 by omega] at this

theorem StrsAt.form {w : World} {o : Option Addr} {n cap : Nat} {L : List (List UInt8)} (h : StrsAt w o n cap L) (h0 : 0 < n) : ∃ b off, o = some ⟨b, off, none⟩ := by
  obtain ⟨b, off, h5, _⟩ := h.2.2.2 h0
  exact ⟨b, off, h5⟩

theorem StrsAt.get {w : World} {b off n cap : Nat} {L : List (List UInt8)} (h : StrsAt w (some ⟨b, off, none⟩) n cap L) {i : Nat} {l : List UInt8} (hl : L[i]? = some l) : w.cell? ⟨b, off + i, none⟩ = some (.string (strOf l)) := by
  have hi := (List.getElem?_eq_some_iff.1 hl).1
  rw [h.1] at hi
  obtain ⟨b', off', h5, h6, h7⟩ := h.2.2.2 (by omega)
  cases h5
  have := h7 i l hl 0 _ rfl
  simpa using this

/-- A part of one byte. -/
theorem part_b1 (w : World) (b : UInt8) : PartsV ((w.alloc (.cells #[.int .u8 (b.toNat : Int)] 5)).alloc (.cells #[.slice (some ⟨w.heap.size, 0, none⟩) 1 1] 42)) (.slice (some ⟨w.heap.size + 1, 0, none⟩) 1 1) [[b]] := by
  have := parts_new (w.alloc (.cells #[.int .u8 (b.toNat : Int)] 5)) 42 [.slice (some ⟨w.heap.size, 0, none⟩) 1 1] [[b]] 1 rfl rfl (parts_1 (holds_one w _ b))
  rwa [show (w.alloc (.cells #[.int .u8 (b.toNat : Int)] 5)).heap.size = w.heap.size + 1 by simp] at this

/-- What the region's operations leave. -/
def topV (b off n cap k : Nat) (L : List (List UInt8)) (i : Nat) (w : World) (v : Value) : Prop :=
  match i with
  | 0 => v = .slice (some ⟨b, off, none⟩) n cap
  | 1 => v = .int .i64 (k : Int)
  | 2 => v = .int .i64 (k : Int)
  | 3 => v = .slice (some ⟨b, off, none⟩) k k
  | 4 => v = .agg (byteCells (Tree.top (L.take k))).toArray
  | 5 => v = .slice (some ⟨b, off, none⟩) n cap
  | 6 => v = .int .i64 (k : Int)
  | 7 => v = .slice (some ⟨b, off + k, none⟩) (n - k) (cap - k)
  | 8 => v = .agg (byteCells (Tree.top (L.drop k))).toArray
  | 9 => v = .agg (byteCells (Tree.node (Tree.top (L.take k)) (Tree.top (L.drop k)))).toArray
  | _ => True

theorem topV_mono (b off n cap k : Nat) (L : List (List UInt8)) (j : Nat) (w w' : World) (v : Value) (hb : Below w.heap.size w w') (h : topV b off n cap k L j w v) : topV b off n cap k L j w' v := by
  match j, h with
  | 0, h => exact h
  | 1, h => exact h
  | 2, h => exact h
  | 3, h => exact h
  | 4, h => exact h
  | 5, h => exact h
  | 6, h => exact h
  | 7, h => exact h
  | 8, h => exact h
  | 9, h => exact h
  | _ + 10, h => exact trivial

end Go.Proofs.YteljlnkjdajkgaaDoor
