/- Tree1, Tree2, Tree3, Tree4, Tree5, Tree6, in one text. -/
import Derived.Test.YtjlaoijmcenahaaDoorG3a
import Derived.Test.YtjlaoijmcenahaaDoorG0b
import Derived.Test.YtjlaoijmcenahaaDoorRefOf0
import Derived.Laws.EntriesVeiled
/- The walks of tree.Leaf, Node, Half. -/
namespace Go.Proofs.YtjlaoijmcenahaaDoor
open Go.RowKit
set_option linter.unusedSimpArgs false
set_option linter.unusedVariables false

/-- What the region's operations leave. -/
def nodeV (B : Nat) (a b : List UInt8) (i : Nat) (w : World) (v : Value) : Prop :=
  match i with
  | 0 => Lib.HoldsBytes w v ([1])
  | 1 => v = .slice (some ⟨B, 0, none⟩) 32 32
  | 2 => v = .slice (some ⟨B + 1, 0, none⟩) 32 32
  | 3 => PartsV w v ([[1], a, b])
  | 4 => v = .agg (byteCells (Tree.node a b)).toArray
  | _ => True

theorem nodeV_mono (B : Nat) (a b : List UInt8) (j : Nat) (w w' : World) (v : Value) (hb : Below w.heap.size w w') (h : nodeV B a b j w v) : nodeV B a b j w' v := by
  match j, h with
  | 0, h => exact holds_below h hb
  | 1, h => exact h
  | 2, h => exact h
  | 3, h => exact PartsV.below h hb
  | 4, h => exact h
  | _ + 5, h => exact trivial

end Go.Proofs.YtjlaoijmcenahaaDoor

/- The walks of tree.Top, root, Root. -/
namespace Go.Proofs.YtjlaoijmcenahaaDoor
open Go.RowKit
set_option linter.unusedSimpArgs false
set_option linter.unusedVariables false

def sCell (l : List UInt8) : List Value := [.string (strOf l)]

/-- Texts in a row that came in. -/
def StrsAt (w : World) (o : Option Addr) (n cap : Nat) (L : List (List UInt8)) : Prop := RowsAt w o n cap 1 sCell L

theorem StrsAt.of_rows {w : World} {o : Option Addr} {n cap : Nat} {F : List ByteArray} (h : RowsAt w o n cap 1 strCell F) : StrsAt w o n cap (F.map fun s => s.data.toList) := by
  obtain ⟨h1, h2, h3, h4⟩ := h
  refine ⟨by rw [List.length_map]; exact h1, h2, h3, fun h0 => ?_⟩
  obtain ⟨b, off, h5, h6, h7⟩ := h4 h0
  refine ⟨b, off, h5, h6, fun i l hl => ?_⟩
  rw [List.getElem?_map] at hl
  obtain ⟨f, hf, rfl⟩ := Option.map_eq_some_iff.1 hl
  have := h7 i f hf
  show w.rangeAt b (off + i * 1) [.string (strOf f.data.toList)]
  rw [strOf_data]; exact this

theorem StrsAt.len {w : World} {o : Option Addr} {n cap : Nat} {L : List (List UInt8)} (h : StrsAt w o n cap L) : L.length = n := h.1
theorem StrsAt.cap {w : World} {o : Option Addr} {n cap : Nat} {L : List (List UInt8)} (h : StrsAt w o n cap L) : n ≤ cap := h.2.1
theorem StrsAt.max {w : World} {o : Option Addr} {n cap : Nat} {L : List (List UInt8)} (h : StrsAt w o n cap L) : cap ≤ 9223372036854775807 := h.2.2.1

theorem StrsAt.below {w w' : World} {B : Nat} {o : Option Addr} {n cap : Nat} {L : List (List UInt8)} (h : StrsAt w o n cap L) (hB : w.heap.size ≤ B) (hb : Below B w w') : StrsAt w' o n cap L := by
  refine ⟨h.1, h.2.1, h.2.2.1, fun h0 => ?_⟩
  obtain ⟨b, off, h5, h6, h7⟩ := h.2.2.2 h0
  exact ⟨b, off, h5, Nat.lt_of_lt_of_le h6 hb.size, fun i l hl j v hv => (hb.cell (p := ⟨b, _, none⟩) (by simp only; omega)).trans (h7 i l hl j v hv)⟩

theorem StrsAt.take {w : World} {o : Option Addr} {n cap : Nat} {L : List (List UInt8)} (h : StrsAt w o n cap L) (k c : Nat) (hk : k ≤ n) (hc : k ≤ c) (hm : c ≤ 9223372036854775807) : StrsAt w o k c (L.take k) := by
  refine ⟨by rw [List.length_take, h.1]; omega, hc, hm, fun h0 => ?_⟩
  obtain ⟨b, off, h5, h6, h7⟩ := h.2.2.2 (by omega)
  refine ⟨b, off, h5, h6, fun i l hl => h7 i l ?_⟩
  rw [List.getElem?_take] at hl
  split at hl
  · exact hl
  · cases hl

theorem StrsAt.drop {w : World} {b off n cap : Nat} {L : List (List UInt8)} (h : StrsAt w (some ⟨b, off, none⟩) n cap L) (k : Nat) (hk : k ≤ n) : StrsAt w (some ⟨b, off + k, none⟩) (n - k) (cap - k) (L.drop k) := by
  have h8 := h.2.1
  have h9 := h.2.2.1
  refine ⟨by rw [List.length_drop, h.1], by omega, by omega, fun h0 => ?_⟩
  obtain ⟨b', off', h5, h6, h7⟩ := h.2.2.2 (by omega)
  cases h5
  refine ⟨b, off + k, rfl, h6, fun i l hl => ?_⟩
  rw [List.getElem?_drop] at hl
  have := h7 (k + i) l hl
  rwa [show off + (k + i) * 1 = off + k + i * 1 by omega] at this

theorem StrsAt.form {w : World} {o : Option Addr} {n cap : Nat} {L : List (List UInt8)} (h : StrsAt w o n cap L) (h0 : 0 < n) : ∃ b off, o = some ⟨b, off, none⟩ := by
  obtain ⟨b, off, h5, _⟩ := h.2.2.2 h0
  exact ⟨b, off, h5⟩

theorem StrsAt.get {w : World} {b off n cap : Nat} {L : List (List UInt8)} (h : StrsAt w (some ⟨b, off, none⟩) n cap L) {i : Nat} {l : List UInt8} (hl : L[i]? = some l) : w.cell? ⟨b, off + i, none⟩ = some (.string (strOf l)) := by
  have hi := (List.getElem?_eq_some_iff.1 hl).1
  rw [h.1] at hi
  obtain ⟨b', off', h5, h6, h7⟩ := h.2.2.2 (by omega)
  cases h5
  have := h7 i l hl 0 _ rfl
  simpa using this

/-- A part of one byte. -/
theorem part_b1 (w : World) (b : UInt8) : PartsV ((w.alloc (.cells #[.int .u8 (b.toNat : Int)] 5)).alloc (.cells #[.slice (some ⟨w.heap.size, 0, none⟩) 1 1] 44)) (.slice (some ⟨w.heap.size + 1, 0, none⟩) 1 1) [[b]] := by
  have := parts_new (w.alloc (.cells #[.int .u8 (b.toNat : Int)] 5)) 44 [.slice (some ⟨w.heap.size, 0, none⟩) 1 1] [[b]] 1 rfl rfl (parts_1 (holds_one w _ b))
  rwa [show (w.alloc (.cells #[.int .u8 (b.toNat : Int)] 5)).heap.size = w.heap.size + 1 by simp] at this

/-- What the region's operations leave. -/
def topV (b off n cap k : Nat) (L : List (List UInt8)) (i : Nat) (w : World) (v : Value) : Prop :=
  match i with
  | 0 => v = .slice (some ⟨b, off, none⟩) n cap
  | 1 => v = .int .i64 (k : Int)
  | 2 => v = .int .i64 (k : Int)
  | 3 => v = .slice (some ⟨b, off, none⟩) k k
  | 4 => v = .agg (byteCells (Tree.top (L.take k))).toArray
  | 5 => v = .slice (some ⟨b, off, none⟩) n cap
  | 6 => v = .int .i64 (k : Int)
  | 7 => v = .slice (some ⟨b, off + k, none⟩) (n - k) (cap - k)
  | 8 => v = .agg (byteCells (Tree.top (L.drop k))).toArray
  | 9 => v = .agg (byteCells (Tree.node (Tree.top (L.take k)) (Tree.top (L.drop k)))).toArray
  | _ => True

theorem topV_mono (b off n cap k : Nat) (L : List (List UInt8)) (j : Nat) (w w' : World) (v : Value) (hb : Below w.heap.size w w') (h : topV b off n cap k L j w v) : topV b off n cap k L j w' v := by
  match j, h with
  | 0, h => exact h
  | 1, h => exact h
  | 2, h => exact h
  | 3, h => exact h
  | 4, h => exact h
  | 5, h => exact h
  | 6, h => exact h
  | 7, h => exact h
  | 8, h => exact h
  | 9, h => exact h
  | _ + 10, h => exact trivial

end Go.Proofs.YtjlaoijmcenahaaDoor

/- The walks of tree.root, Root. -/
namespace Go.Proofs.YtjlaoijmcenahaaDoor
open Go.RowKit
set_option linter.unusedSimpArgs false
set_option linter.unusedVariables false

/-- What the region's operations leave. -/
def rootV (bx bo n : Nat) (t : List UInt8) (i : Nat) (w : World) (v : Value) : Prop :=
  match i with
  | 0 => Lib.HoldsBytes w v ([3])
  | 1 => v = .pointer (some ⟨bo, 0, none⟩)
  | 2 => v = .string (strOf (Wire.num n))
  | 3 => Lib.HoldsBytes w v (Wire.num n)
  | 4 => v = .slice (some ⟨bx, 0, none⟩) 32 32
  | 5 => PartsV w v ([[3], Wire.num n, t])
  | 6 => v = .agg (byteCells (Tree.root n t)).toArray
  | _ => True

theorem rootV_mono (bx bo n : Nat) (t : List UInt8) (j : Nat) (w w' : World) (v : Value) (hb : Below w.heap.size w w') (h : rootV bx bo n t j w v) : rootV bx bo n t j w' v := by
  match j, h with
  | 0, h => exact holds_below h hb
  | 1, h => exact h
  | 2, h => exact h
  | 3, h => exact holds_below h hb
  | 4, h => exact h
  | 5, h => exact PartsV.below h hb
  | 6, h => exact h
  | _ + 7, h => exact trivial

end Go.Proofs.YtjlaoijmcenahaaDoor

/- The walks of tree.sides, Deep. -/
namespace Go.Proofs.YtjlaoijmcenahaaDoor
open Go.RowKit
set_option linter.unusedSimpArgs false
set_option linter.unusedVariables false

def boolCells (l : List Bool) : List Value := l.map Value.bool
theorem boolCells_app (a b : List Bool) : boolCells (a ++ b) = boolCells a ++ boolCells b := by simp [boolCells]
theorem boolCells_len (l : List Bool) : (boolCells l).length = l.length := by simp [boolCells]
theorem boolCells_get {l : List Bool} {i : Nat} {x : Bool} (h : l[i]? = some x) : (boolCells l)[i]? = some (.bool x) := by simp [boolCells, h]
theorem one_bool (x : Bool) : ∀ u ∈ [Value.bool x], u.oneCell' = true := by
  intro u hu
  obtain rfl := List.mem_singleton.1 hu
  rfl
theorem Tryd.info_bool : (Tryd.prog.info? 4).map (fun i => (i.zero, i.size, i.bytes)) = some (some (.bool false), 1, 1) := by kernel_rfl

theorem grown_below {w w' : World} {row : Option Nat} {B : Nat} (h : w.grownBy w' row) (hr : ∀ g, row = some g → B ≤ g) (hB : B ≤ w.heap.size) : Below B w w' :=
  ⟨h.os, h.tape, h.output, h.size, fun k hk => h.block k (by omega) (fun e => by have := hr k e.symm; omega)⟩

theorem slice_cell {w : World} {base n g cap : Nat} {e : TypeId} {xs : List Value} {u : Value} {j : Nat} (h : w.ownsRow base e 1 (.slice (some ⟨g, 0, none⟩) n cap) n xs) (hj : xs[j]? = some u) : w.cell? ⟨g, j, none⟩ = some u := by
  have := h.cells (g := g) rfl j u hj
  rw [Addr.add_mid, Nat.zero_add] at this
  exact this

theorem owns_below {w w' : World} {base : Nat} {e size : Nat} {v : Value} {n : Nat} {xs : List Value} (h : w.ownsRow base e size v n xs) (hb : Below w.heap.size w w') : w'.ownsRow base e size v n xs :=
  ownsRow_below h fun k hk => hb.block k (h.lt k hk).2

/-- There is no such leaf. -/
def badSide (n i : Int) : Bool := decide (1073741824 < n) || decide (i < 0) || decide (n ≤ i)

end Go.Proofs.YtjlaoijmcenahaaDoor

/- The walk of tree.Check. -/
namespace Go.Proofs.YtjlaoijmcenahaaDoor
open Go.RowKit
set_option linter.unusedSimpArgs false
set_option linter.unusedVariables false

/-- Sums in a row that came in. -/
def HashesAt (w : World) (o : Option Addr) (n cap : Nat) (P : List (List UInt8)) : Prop := RowsAt w o n cap 32 byteCells P ∧ ∀ p ∈ P, p.length = 32

theorem HashesAt.below {w w' : World} {B : Nat} {o : Option Addr} {n cap : Nat} {L : List (List UInt8)} (h : HashesAt w o n cap L) (hB : w.heap.size ≤ B) (hb : Below B w w') : HashesAt w' o n cap L := by
  refine ⟨⟨h.1.1, h.1.2.1, h.1.2.2.1, fun h0 => ?_⟩, h.2⟩
  obtain ⟨b, off, h5, h6, h7⟩ := h.1.2.2.2 h0
  exact ⟨b, off, h5, Nat.lt_of_lt_of_le h6 hb.size, fun i l hl j v hv => (hb.cell (p := ⟨b, _, none⟩) (by simp only; omega)).trans (h7 i l hl j v hv)⟩

theorem HashesAt.form {w : World} {o : Option Addr} {n cap : Nat} {L : List (List UInt8)} (h : HashesAt w o n cap L) (h0 : 0 < n) : ∃ b off, o = some ⟨b, off, none⟩ := by
  obtain ⟨b, off, h5, _⟩ := h.1.2.2.2 h0
  exact ⟨b, off, h5⟩

theorem HashesAt.get {w : World} {b off n cap : Nat} {L : List (List UInt8)} (h : HashesAt w (some ⟨b, off, none⟩) n cap L) {i : Nat} {l : List UInt8} (hl : L[i]? = some l) : b < w.heap.size ∧ w.rangeAt b (off + i * 32) (byteCells l) := by
  have hi := (List.getElem?_eq_some_iff.1 hl).1
  rw [h.1.1] at hi
  obtain ⟨b', off', h5, h6, h7⟩ := h.1.2.2.2 (by omega)
  cases h5
  exact ⟨h6, h7 i l hl⟩

theorem range_under {w w' : World} {b o B : Nat} {cs : List Value} (h : w.rangeAt b o cs) (hb : b < B) (hw : Below B w w') : w'.rangeAt b o cs :=
  fun j v hv => (hw.cell (p := ⟨b, _, none⟩) hb).trans (h j v hv)

/-- A sum loaded out of a row. -/
theorem wpList_load_hashAt {ops : Array Oper} {rest : List Oper} {op : Oper} {a : Act} {w : World} {Q : Exit → Act → World → Prop} (hgd : op.guard = none) (x : Operand) (ho : op.op = .load 31 x)
    (g off : Nat) (hx : a.eval x = .pointer (some ⟨g, off, none⟩)) (l : List UInt8) (hl : l.length = 32) (hg : w.rangeAt g off (byteCells l))
    (h : wpList Tryd.prog ops Q rest (a.put op.dst (.agg (byteCells l).toArray)) w) : wpList Tryd.prog ops Q (op :: rest) a w :=
  wpList_load_mid hgd 31 x ho g off hx (byteCells l) _ hg Tryd.under_hh rfl (by rw [Tryd.infoH, byteCells_length, hl]) h

def climbTo (t : List UInt8) (z : List (Bool × List UInt8)) (j : Nat) : List UInt8 := (z.take j).foldl Tree.step t
theorem climbTo_zero (t : List UInt8) (z : List (Bool × List UInt8)) : climbTo t z 0 = t := by simp [climbTo]
theorem climbTo_succ {t : List UInt8} {z : List (Bool × List UInt8)} {j : Nat} {b : Bool} {p : List UInt8} (h : z[j]? = some (b, p)) : climbTo t z (j + 1) = Tree.step (climbTo t z j) (b, p) := by
  unfold climbTo
  rw [List.take_add_one, h]
  simp [List.foldl_append]
theorem climbTo_len (t : List UInt8) (ht : t.length = 32) (z : List (Bool × List UInt8)) (j : Nat) : (climbTo t z j).length = 32 := by
  unfold climbTo
  generalize z.take j = y
  induction y generalizing t with
  | nil => exact ht
  | cons x z ih => exact ih _ (Tree.step_len _ _)
theorem climbTo_all {t : List UInt8} {sd : List Bool} {P : List (List UInt8)} (h : sd.length = P.length) : climbTo t (sd.reverse.zip P) P.length = Tree.climb t sd P := by
  unfold climbTo Tree.climb
  rw [List.take_of_length_le (by rw [List.length_zip, List.length_reverse]; omega)]

/-- What the region's operations leave. -/
def checkV (want t : List UInt8) (n : Nat) (i : Nat) (w : World) (v : Value) : Prop :=
  match i with
  | 0 => v = .int .i64 (n : Int)
  | 1 => v = .agg (byteCells t).toArray
  | 2 => v = .agg (byteCells (Tree.root n t)).toArray
  | 3 => v = .agg (byteCells want).toArray
  | 4 => v = .bool (Tree.root n t == want)
  | 5 => v = .bool (Tree.root n t == want)
  | _ => True

theorem checkV_mono (want t : List UInt8) (n : Nat) (j : Nat) (w w' : World) (v : Value) (hb : Below w.heap.size w w') (h : checkV want t n j w v) : checkV want t n j w' v := by
  match j, h with
  | 0, h => exact h
  | 1, h => exact h
  | 2, h => exact h
  | 3, h => exact h
  | 4, h => exact h
  | 5, h => exact h
  | _ + 6, h => exact trivial

end Go.Proofs.YtjlaoijmcenahaaDoor

/- The walk of tree.Prove and of the function it makes. -/
namespace Go.Proofs.YtjlaoijmcenahaaDoor
open Go.RowKit
set_option linter.unusedSimpArgs false
set_option linter.unusedVariables false

def hashCells (d : List (List UInt8)) : List Value := (d.map byteCells).flatten
theorem hashCells_app (a b : List (List UInt8)) : hashCells (a ++ b) = hashCells a ++ hashCells b := by simp [hashCells]
theorem hashCells_one (a : List UInt8) : hashCells [a] = byteCells a := by simp [hashCells]
theorem Tryd.info_hs : (Tryd.prog.info? 31).map (fun i => (i.zero, i.size, i.bytes)) = some (some (.agg zero32), 32, 32) := by kernel_rfl

theorem Tree.prove_len (N : Nat) : ∀ (l : List (List UInt8)) (i : Nat), l.length = N → (Tree.prove l i).length ≤ N := by
  induction N using Nat.strongRecOn with
  | ind N ih =>
    intro l i hl
    by_cases h : 2 ≤ l.length
    · have h1 := Tree.half_pos h
      have h2 := Tree.half_lt h
      by_cases hi : i < Tree.half l.length
      · rw [Tree.prove_left h hi, List.length_append]
        have := ih (Tree.half l.length) (by omega) (l.take (Tree.half l.length)) i (by rw [List.length_take]; omega)
        simp only [List.length_cons, List.length_nil]; omega
      · rw [Tree.prove_right h hi, List.length_append]
        have := ih (l.length - Tree.half l.length) (by omega) (l.drop (Tree.half l.length)) (i - Tree.half l.length) (by rw [List.length_drop])
        simp only [List.length_cons, List.length_nil]; omega
    · rw [Tree.prove_small h]; simp

theorem fold_zip (xs : List Value) : ∀ (k : Nat) (a : Array Value), a.size = k + xs.length → (xs.zipIdx k).foldl (fun cs x => cs.setIfInBounds x.2 x.1) a = (a.toList.take k ++ xs).toArray := by
  induction xs with
  | nil =>
    intro k a h
    simp only [List.zipIdx_nil, List.foldl_nil, List.append_nil, List.length_nil, Nat.add_zero] at h ⊢
    rw [List.take_of_length_le (by rw [Array.length_toList]; omega)]
  | cons x xs ih =>
    intro k a h
    simp only [List.zipIdx_cons, List.foldl_cons, List.length_cons] at h ⊢
    rw [ih (k + 1) _ (by simp; omega)]
    congr 1
    rw [Array.toList_setIfInBounds, List.take_add_one, List.getElem?_set_self (by rw [Array.length_toList]; omega), List.take_set_of_le (by omega)]
    simp

/-- A row of one sum that a call's own argument makes. -/
theorem alloc_built (w : World) {h : List UInt8} {t : TypeId} (hl : (byteCells h).length = 32) :
    (w.alloc (.cells (List.foldl (fun (cs : Array Value) (x : Value × Nat) => cs.setIfInBounds x.2 x.1) zero32 (byteCells h).zipIdx) t)).heap[w.heap.size]? = some (.cells (byteCells h).toArray t (0, 0)) := by
  rw [fold_zip (byteCells h) 0 zero32 (by rw [zero32_size, hl])]
  exact heap_alloc_new w _

theorem hash_one (h : List UInt8) : ∀ u ∈ byteCells h, u.oneCell' = true := byteCells_one h

theorem cells_row_at {w : World} {g : Nat} {cs : List Value} {t : TypeId} {fr : Nat × Nat} (h : w.heap[g]? = some (.cells cs.toArray t fr)) : ∀ j u, cs[j]? = some u → w.cell? ((⟨g, 0, none⟩ : Addr).add j) = some u := by
  intro j u hu
  rw [Addr.add_mid, Nat.zero_add]
  have := range_row h j u hu
  rwa [Nat.zero_add] at this

/-- What the region's operations leave. -/
def poL (vo : Value) (b off n cap k : Nat) (L : List (List UInt8)) (ix : Nat) (w : World) (v : Value) : Prop :=
  match ix with
  | 0 => v = vo
  | 1 => v = .slice (some ⟨b, off, none⟩) n cap
  | 2 => v = .int .i64 (k : Int)
  | 3 => v = .slice (some ⟨b, off + k, none⟩) (n - k) (cap - k)
  | 4 => v = .agg (byteCells (Tree.top (L.drop k))).toArray
  | 5 => ∃ g, v = .slice (some ⟨g, 0, none⟩) 1 1 ∧ w.heap[g]? = some (.cells (byteCells (Tree.top (L.drop k))).toArray 31 (0, 0))
  | _ => True

theorem poL_mono (vo : Value) (b off n cap k : Nat) (L : List (List UInt8)) (j : Nat) (w w' : World) (v : Value) (hb : Below w.heap.size w w') (h : poL vo b off n cap k L j w v) : poL vo b off n cap k L j w' v := by
  match j, h with
  | 0, h => exact h
  | 1, h => exact h
  | 2, h => exact h
  | 3, h => exact h
  | 4, h => exact h
  | 5, h => exact (let ⟨g, h1, h2⟩ := h; ⟨g, h1, (hb.block g (lt_of_block h2)).trans h2⟩)
  | _ + 6, h => exact trivial

/-- What the region's operations leave. -/
def poR (vo : Value) (b off n cap k : Nat) (L : List (List UInt8)) (ix : Nat) (w : World) (v : Value) : Prop :=
  match ix with
  | 0 => v = vo
  | 1 => v = .slice (some ⟨b, off, none⟩) n cap
  | 2 => v = .int .i64 (k : Int)
  | 3 => v = .int .i64 (k : Int)
  | 4 => v = .slice (some ⟨b, off, none⟩) k k
  | 5 => v = .agg (byteCells (Tree.top (L.take k))).toArray
  | 6 => ∃ g, v = .slice (some ⟨g, 0, none⟩) 1 1 ∧ w.heap[g]? = some (.cells (byteCells (Tree.top (L.take k))).toArray 31 (0, 0))
  | _ => True

theorem poR_mono (vo : Value) (b off n cap k : Nat) (L : List (List UInt8)) (j : Nat) (w w' : World) (v : Value) (hb : Below w.heap.size w w') (h : poR vo b off n cap k L j w v) : poR vo b off n cap k L j w' v := by
  match j, h with
  | 0, h => exact h
  | 1, h => exact h
  | 2, h => exact h
  | 3, h => exact h
  | 4, h => exact h
  | 5, h => exact h
  | 6, h => exact (let ⟨g, h1, h2⟩ := h; ⟨g, h1, (hb.block g (lt_of_block h2)).trans h2⟩)
  | _ + 7, h => exact trivial

end Go.Proofs.YtjlaoijmcenahaaDoor
