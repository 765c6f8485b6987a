/- The walks of the reference's Leaf, Node, top, Top, root, Root. -/
import Derived.Test.YteljlnkjdajkgaaDoorTreeR1
namespace Go.Proofs.YteljlnkjdajkgaaDoor
open Go.RowKit
set_option linter.unusedSimpArgs false
set_option linter.unusedVariables false

/-- 'string(h[:])'. -/
theorem hash_str {w : World} {b : Nat} {S : List UInt8} {t : TypeId} {fr : Nat × Nat} (hS : S.length = 32) (h : w.heap[b]? = some (.cells (byteCells S).toArray t fr)) :
    (convert 42 9 (.slice (some ⟨b, 0, none⟩) 32 32)).run Tryd.prog w = .ok (.string (strOf S)) w := by
  have hr := run_convert_bytes_back (P := Tryd.prog) w 42 9 5 ⟨b, 0, none⟩ 32 S Tryd.under_bytes Tryd.under_byte Tryd.under_string (fun j hj => cells_row_at h j _ (by simp [byteCells, hj]))
  rw [hS] at hr
  exact hr

/-- What the region's operations leave. -/
def refNodeV (B : Nat) (a b : List UInt8) (ix : Nat) (w : World) (v : Value) : Prop :=
  match ix with
  | 0 => v = .slice (some ⟨B, 0, none⟩) 32 32
  | 1 => v = .string (strOf a)
  | 2 => v = .slice (some ⟨B + 1, 0, none⟩) 32 32
  | 3 => v = .string (strOf b)
  | 4 => v = .string (strOf (Tree.node a b))
  | 5 => v = .agg (byteCells (Tree.node a b)).toArray
  | _ => True

theorem refNodeV_mono (B : Nat) (a b : List UInt8) (j : Nat) (w w' : World) (v : Value) (hb : Below w.heap.size w w') (h : refNodeV B a b j w v) : refNodeV B a b j w' v := by
  match j, h with
  | 0, h => exact h
  | 1, h => exact h
  | 2, h => exact h
  | 3, h => exact h
  | 4, h => exact h
  | 5, h => exact h
  | _ + 6, h => exact trivial

/-- What the region's operations leave. -/
def refTopV (b off n cap k : Nat) (L : List (List UInt8)) (ix : Nat) (w : World) (v : Value) : Prop :=
  match ix with
  | 0 => v = .slice (some ⟨b, off, none⟩) n cap
  | 1 => v = .int .i64 (k : Int)
  | 2 => v = .slice (some ⟨b, off, none⟩) k cap
  | 3 => v = .string (strOf (Tree.top (L.take k)))
  | 4 => v = .slice (some ⟨b, off, none⟩) n cap
  | 5 => v = .int .i64 (k : Int)
  | 6 => v = .slice (some ⟨b, off + k, none⟩) (n - k) (cap - k)
  | 7 => v = .string (strOf (Tree.top (L.drop k)))
  | 8 => v = .string (strOf (Tree.top L))
  | 9 => v = .string (strOf (Tree.top L))
  | _ => True

theorem refTopV_mono (b off n cap k : Nat) (L : List (List UInt8)) (j : Nat) (w w' : World) (v : Value) (hb : Below w.heap.size w w') (h : refTopV b off n cap k L j w v) : refTopV b off n cap k L j w' v := by
  match j, h with
  | 0, h => exact h
  | 1, h => exact h
  | 2, h => exact h
  | 3, h => exact h
  | 4, h => exact h
  | 5, h => exact h
  | 6, h => exact h
  | 7, h => exact h
  | 8, h => exact h
  | 9, h => exact h
  | _ + 10, h => exact trivial

end Go.Proofs.YteljlnkjdajkgaaDoor
