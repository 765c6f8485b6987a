/- A sum stored into its place, and handed back out of it. -/
import Derived.Test.YteljlnkjdajkgaaDoorHashEq
import Derived.Test.YteljlnkjdajkgaaDoorUp
namespace Go.Proofs.YteljlnkjdajkgaaDoor
open Go.RowKit
set_option linter.unusedSimpArgs false
set_option linter.unusedVariables false

/-- The world with a sum in block b. -/
def hset (w : World) (b : Nat) (S : List UInt8) : World := w.setRow b (byteCells S).toArray

theorem hset_heap {w : World} {b : Nat} {cs : Array Value} {t : TypeId} (S : List UInt8) (h : w.heap[b]? = some (.cells cs t (0, 0))) : (hset w b S).heap[b]? = some (.cells (byteCells S).toArray t (0, 0)) := setRow_heap _ _ _ _ _ _ h
theorem hset_other {w : World} {b c : Nat} (S : List UInt8) (h : c ≠ b) : (hset w b S).heap[c]? = w.heap[c]? := setRow_other _ _ _ _ h
theorem hset_size (w : World) (b : Nat) (S : List UInt8) : (hset w b S).heap.size = w.heap.size := by simp [hset, World.setRow]
theorem hset_below {B b : Nat} {w w' : World} (S : List UInt8) (h : Below B w w') (hb : B ≤ b) : Below B w (hset w' b S) := below_setRow' h hb

theorem zero32_size : zero32.size = 32 := by decide
theorem hash_cells_size (S : List UInt8) (hS : S.length = 32) : (byteCells S).toArray.size = 32 := by rw [List.size_toArray, byteCells_length, hS]

theorem wpList_put_hash {ops : Array Oper} {rest : List Oper} {o : Oper} {a : Act} {w : World} {Q : Exit → Act → World → Prop} (hgd : o.guard = none) (x y : Operand) (ho : o.op = .store 39 x y)
    (g : Nat) (hx : a.eval x = .pointer (some ⟨g, 0, none⟩)) (S : List UInt8) (hS : S.length = 32) (hy : a.eval y = .agg (byteCells S).toArray)
    (t : TypeId) (old : Array Value) (hg : w.heap[g]? = some (.cells old t (0, 0))) (hold : old.size = 32)
    (h : wpList Tryd.prog ops Q rest (a.put o.dst undef) (hset w g S)) : wpList Tryd.prog ops Q (o :: rest) a w :=
  wpList_store_row hgd 39 x y ho g _ hx hy t old hg (by rw [hash_cells_size S hS]; exact Tryd.infoH) (by rw [hash_cells_size S hS, hold]) (all_oneCell_toArray (byteCells_one S)) h

theorem results_hash {fn : Func} {p : Tmp} (h : fn.results = #[.cell p 39]) (tmps : Array Value) (w : World) (g : Nat) (t : TypeId) (S : List UInt8) (fr : Nat × Nat)
    (hp : tmps.getD p undef = .pointer (some ⟨g, 0, none⟩)) (hS : S.length = 32) (hg : w.heap[g]? = some (.cells (byteCells S).toArray t fr)) :
    (results fn tmps).run Tryd.prog w = .ok (.agg (byteCells S).toArray) w :=
  results_cell_row h tmps w g t _ fr _ hp hg Tryd.under_hh rfl (by rw [hash_cells_size S hS]; exact Tryd.infoH)

/-- A sum's bytes, out of its block. -/
theorem holds_hash {w : World} {b : Nat} {S : List UInt8} {t : TypeId} {fr : Nat × Nat} (hS : S.length = 32) (h : w.heap[b]? = some (.cells (byteCells S).toArray t fr)) : Lib.HoldsBytes w (.slice (some ⟨b, 0, none⟩) 32 32) S := by
  refine ⟨_, 32, by rw [hS], (by intro h; cases h), fun a ha i x hx => ?_⟩
  cases ha
  have := range_row h i _ (byteCells_get hx)
  rw [Addr.add_lit]; exact this

theorem holds_below {w w' : World} {v : Value} {l : List UInt8} (h : Lib.HoldsBytes w v l) (hb : Below w.heap.size w w') : Lib.HoldsBytes w' v l := by
  obtain ⟨p, cap, h1, h2, h3⟩ := h
  exact ⟨p, cap, h1, h2, fun a ha j x hx => Lib.Below.cellOf hb (h3 a ha j x hx) (Nat.le_refl _)⟩

theorem cell_one_new' (w : World) (v : Value) (t : TypeId) : (w.alloc (.cells #[v] t)).cell? ⟨w.heap.size, 0, none⟩ = some v := by
  have := heap_alloc_new w (.cells #[v] t)
  unfold World.cell?
  simp only [this]
  rfl

theorem holds_one (w : World) (t : TypeId) (b : UInt8) : Lib.HoldsBytes (w.alloc (.cells #[.int .u8 (b.toNat : Int)] t)) (.slice (some ⟨w.heap.size, 0, none⟩) 1 1) [b] := by
  refine ⟨some ⟨w.heap.size, 0, none⟩, 1, rfl, (by intro h; cases h), fun a ha i x hx => ?_⟩
  cases ha
  rw [Addr.add_lit]
  match i, hx with
  | 0, hx =>
    simp only [List.getElem?_cons_zero, Option.some.injEq] at hx
    subst hx
    exact cell_one_new' _ _ _

theorem parts_three {w : World} {v1 v2 v3 : Value} {l1 l2 l3 : List UInt8} (h1 : Lib.HoldsBytes w v1 l1) (h2 : Lib.HoldsBytes w v2 l2) (h3 : Lib.HoldsBytes w v3 l3) : ∀ (i : Nat) v l, [v1, v2, v3][i]? = some v → [l1, l2, l3][i]? = some l → Lib.HoldsBytes w v l := by
  intro i v l hv hl
  match i, hv, hl with
  | 0, hv, hl =>
    simp only [List.getElem?_cons_zero, Option.some.injEq] at hv hl
    subst hv; subst hl; exact h1
  | 1, hv, hl =>
    simp only [List.getElem?_cons_succ, List.getElem?_cons_zero, Option.some.injEq] at hv hl
    subst hv; subst hl; exact h2
  | 2, hv, hl =>
    simp only [List.getElem?_cons_succ, List.getElem?_cons_zero, Option.some.injEq] at hv hl
    subst hv; subst hl; exact h3
theorem parts_two {w : World} {v1 v2 : Value} {l1 l2 : List UInt8} (h1 : Lib.HoldsBytes w v1 l1) (h2 : Lib.HoldsBytes w v2 l2) : ∀ (i : Nat) v l, [v1, v2][i]? = some v → [l1, l2][i]? = some l → Lib.HoldsBytes w v l := by
  intro i v l hv hl
  match i, hv, hl with
  | 0, hv, hl =>
    simp only [List.getElem?_cons_zero, Option.some.injEq] at hv hl
    subst hv; subst hl; exact h1
  | 1, hv, hl =>
    simp only [List.getElem?_cons_succ, List.getElem?_cons_zero, Option.some.injEq] at hv hl
    subst hv; subst hl; exact h2
theorem parts_1 {w : World} {v1 : Value} {l1 : List UInt8} (h1 : Lib.HoldsBytes w v1 l1) : ∀ (i : Nat) v l, [v1][i]? = some v → [l1][i]? = some l → Lib.HoldsBytes w v l := by
  intro i v l hv hl
  match i, hv, hl with
  | 0, hv, hl =>
    simp only [List.getElem?_cons_zero, Option.some.injEq] at hv hl
    subst hv; subst hl; exact h1

theorem holds_nil (w : World) : Lib.HoldsBytes w (.slice none 0 0) [] := ⟨none, 0, rfl, fun _ => rfl, fun a h => by cases h⟩
theorem holds_empty (w : World) (p : Option Addr) (c : Nat) : Lib.HoldsBytes w (.slice p 0 c) [] := ⟨p, c, rfl, fun _ => rfl, fun a h i x hx => by simp at hx⟩

/-- A byte that is built, and '[]byte(s)' of a text: two parts behind one another. -/
theorem part_two (w : World) (b : UInt8) (l : List UInt8) (hl : l.length ≤ 1000000000) (hs : (Tryd.prog.underlying 9) = some .string) (hd : Tryd.prog.underlying 42 = some (.slice 5)) :
    ∃ cap W, (convert 9 42 (.string (strOf l))).run Tryd.prog (w.alloc (.cells #[.int .u8 (b.toNat : Int)] 5)) = .ok (.slice (some ⟨w.heap.size + 1, 0, none⟩) l.length cap) W ∧ Below w.heap.size w W ∧
      PartsV (W.alloc (.cells #[.slice (some ⟨w.heap.size, 0, none⟩) 1 1, .slice (some ⟨w.heap.size + 1, 0, none⟩) l.length cap] 42)) (.slice (some ⟨W.heap.size, 0, none⟩) 2 2) [[b], l] := by
  have h0 := holds_one w 5 b
  have b0 : Below w.heap.size w (w.alloc (.cells #[.int .u8 (b.toNat : Int)] 5)) := (Below.refl _ _).alloc (Nat.le_refl _) _
  obtain ⟨cap, W, h1, h2, h3, h4⟩ := str_bytes hs hd Tryd.under_bb (w.alloc (.cells #[.int .u8 (b.toNat : Int)] 5)) l (by omega)
  have hsz : (w.alloc (.cells #[.int .u8 (b.toNat : Int)] 5)).heap.size = w.heap.size + 1 := by simp
  rw [hsz] at h1 h2
  refine ⟨cap, W, h1, b0.trans (h3.mono (by simp)), parts_new W 42 [.slice (some ⟨w.heap.size, 0, none⟩) 1 1, .slice (some ⟨w.heap.size + 1, 0, none⟩) l.length cap] [[b], l] 2 rfl rfl (parts_two (holds_below h0 h3) h2.holds)⟩

end Go.Proofs.YteljlnkjdajkgaaDoor
