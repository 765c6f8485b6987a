/- HashEq, Up, PutH, in one text. -/
import Derived.Test.YtaihojahccplcaaDoorKOf
import Derived.Stop.BytesEq
import Derived.Laws.Tables
import Derived.Deep.QuietTactic
import Derived.BigQuiet
/- Two sums compared; rows loaded and built under a guard that holds; the parts that hash.Of takes. -/
namespace Go.Proofs.YtaihojahccplcaaDoor
open Go.RowKit

theorem Tryd.under_hh : Tryd.prog.underlying 27 = some (.array 32 5) := by kernel_rfl
theorem Tryd.under_bb : Tryd.prog.underlying 5 = some (.int .u8) := by kernel_rfl
theorem Tryd.size_bb (w : World) : (sizeOf 5).run Tryd.prog w = .ok 1 w := by kernel_rfl
theorem Tryd.eqg_hh : Tryd.prog.eqGuardType Tryd.prog.depth 27 = false := by kernel_rfl
theorem Tryd.infoH : (Tryd.prog.info? 27).map (·.size) = some 32 := by kernel_rfl

theorem hash_eql (w : World) (a b : List UInt8) (ha : a.length = 32) (hb : b.length = 32) :
    (binOp .eql 27 (.agg (byteCells a).toArray) (.agg (byteCells b).toArray)).run Tryd.prog w = .ok (.bool (a == b)) w :=
  run_eql_bytes w _ _ 32 Tryd.under_hh Tryd.under_bb Tryd.size_bb a b ha hb

theorem wpList_eql_hash {ops : Array Oper} {rest : List Oper} {op : Oper} {a : Act} {w : World} {Q : Exit → Act → World → Prop} (hgd : Region.wanted op (yielded ops a.tmps) = true) (x y : Operand) (ho : op.op = .binOp .eql 27 x y 27)
    (u v : List UInt8) (hu : u.length = 32) (hv : v.length = 32) (hx : a.eval x = .agg (byteCells u).toArray) (hy : a.eval y = .agg (byteCells v).toArray)
    (h : wpList Tryd.prog ops Q rest (a.put op.dst (.bool (u == v))) w) : wpList Tryd.prog ops Q (op :: rest) a w :=
  wpList_step fun K hK => by
    rw [if_pos hgd]
    have hg := run_eqGuard_agg (P := Tryd.prog) w .eql 27 x y (byteCells u).toArray (byteCells v).toArray Tryd.eqg_hh
    have he := hash_eql w u v hu hv
    unfold Oper.wp execOp
    simp only [ho, hx, hy, Sem.run_bind, hg, he, Result.andThen_ok, Sem.run_pure]
    exact hK _ _ h

/-- A sum loaded out of its own block, under a guard that holds or none. -/
theorem wpList_load_hash {ops : Array Oper} {rest : List Oper} {op : Oper} {a : Act} {w : World} {Q : Exit → Act → World → Prop} (hgd : Region.wanted op (yielded ops a.tmps) = true) (x : Operand) (ho : op.op = .load 27 x)
    (g : Nat) (hx : a.eval x = .pointer (some ⟨g, 0, none⟩)) (l : List UInt8) (hl : l.length = 32) (t : TypeId) (fr : Nat × Nat) (hg : w.heap[g]? = some (.cells (byteCells l).toArray t fr))
    (h : wpList Tryd.prog ops Q rest (a.put op.dst (.agg (byteCells l).toArray)) w) : wpList Tryd.prog ops Q (op :: rest) a w :=
  wpList_step fun _ hK => by
    rw [if_pos hgd]
    exact wp_load_row 27 x ho g hx t _ fr _ hg Tryd.under_hh rfl (by rw [Tryd.infoH]; simp [byteCells_length, hl]) (hK _ _ h)

/-- A sum of zeros, under a guard that holds or none. -/
theorem wpList_zero_hash {ops : Array Oper} {rest : List Oper} {op : Oper} {a : Act} {w : World} {Q : Exit → Act → World → Prop} (hgd : Region.wanted op (yielded ops a.tmps) = true) (ho : op.op = .build 27 #[])
    (h : wpList Tryd.prog ops Q rest (a.put op.dst (.agg (byteCells (List.replicate 32 0)).toArray)) w) : wpList Tryd.prog ops Q (op :: rest) a w :=
  wpList_step fun K hK => by
    rw [if_pos hgd]
    have hb : Tryd.prog.built 27 [] = some (byteCells (List.replicate 32 0)).toArray := by kernel_rfl
    have e : ((#[] : Array (Nat × Operand)).map fun (p : Nat × Operand) => (p.1, a.eval p.2)).toList = [] := by simp
    refine wp_build 27 #[] ho ?_ ?_
    · show (Tryd.prog.built 27 ((#[] : Array (Nat × Operand)).map fun (p : Nat × Operand) => (p.1, a.eval p.2)).toList).isSome = true
      rw [e, hb]; rfl
    · show K (a.put op.dst (.agg ((Tryd.prog.built 27 ((#[] : Array (Nat × Operand)).map fun (p : Nat × Operand) => (p.1, a.eval p.2)).toList).getD #[]))) w
      rw [e, hb]; exact hK _ _ h

theorem Mine.holds {w : World} {B : Nat} {v : Value} {l : List UInt8} (h : Mine w B v l) : Lib.HoldsBytes w v l := by
  rcases h with ⟨rfl, rfl⟩ | ⟨g, cap, rfl, _, _, _, _, h, _⟩
  · exact ⟨none, 0, rfl, fun _ => rfl, fun a ha => by cases ha⟩
  · refine ⟨some ⟨g, 0, none⟩, cap, rfl, (by intro h; cases h), fun a ha i x hx => ?_⟩
    cases ha
    have := h i _ (byteCells_get hx)
    rw [Addr.add_lit]; exact this

/-- The slice of parts that a call's own arguments make. -/
theorem parts_new (w : World) (ty : TypeId) (vs : List Value) (ls : List (List UInt8)) (n : Nat) (hv : vs.length = n) (hl : ls.length = n) (h : ∀ (i : Nat) v l, vs[i]? = some v → ls[i]? = some l → Lib.HoldsBytes w v l) :
    PartsV (w.alloc (.cells vs.toArray ty)) (.slice (some ⟨w.heap.size, 0, none⟩) n n) ls := by
  refine ⟨_, n, by rw [hl], by omega, fun _ => ⟨_, _, vs, rfl, by omega, fun i v hi => ?_, fun i v l hi hj => ?_⟩⟩
  · have := range_row (heap_alloc_new w (.cells vs.toArray ty)) i v hi
    rw [Addr.add_lit]; exact this
  · obtain ⟨p, cap, h1, h2, h3⟩ := h i v l hi hj
    refine ⟨p, cap, h1, h2, fun a ha j x hx => ?_⟩
    exact Lib.Below.cellOf ((Below.refl _ w).alloc (Nat.le_refl _) _) (h3 a ha j x hx) (Nat.le_refl _)

/-- No parts at all. -/
theorem parts_none (w : World) : PartsV w (.slice none 0 0) [] := ⟨none, 0, rfl, Nat.le_refl _, fun h => by cases h⟩

end Go.Proofs.YtaihojahccplcaaDoor

/- A region that draws its order and whose calls lay new blocks: one walk in the order of the text, in every world above the one at its start. -/
namespace Go.Proofs.YtaihojahccplcaaDoor
open Go.RowKit

/-- A world above w0: w0's blocks as they were. -/
structure UpFrom (w0 : World) where
  w : World
  h : Below w0.heap.size w0 w

instance (w0 : World) : Nonempty (UpFrom w0) := ⟨⟨w0, Below.refl _ _⟩⟩

theorem wp_region_up {P : Program} {id : Nat} {Q : Exit → Act → World → Prop} {a : Act} {w : World} {l : List Oper} (hm : P.follows .mixedOrders = true) (hB : Region.lexB .any l.toArray = true)
    (h : wpQuiet P l.toArray (fun w' => ∃ p : UpFrom w, w' = p.w) (fun a' => ∀ w', (∃ p : UpFrom w, w' = p.w) → Q .normal a' w') l a) : (Code.region id l.toArray true).wp P Q a w :=
  wp_region_quiet (C := fun w' => ∃ p : UpFrom w, w' = p.w) hm hB ⟨⟨{ w with drawn := w.drawn + 1 }, (Below.refl _ w).drew⟩, rfl⟩ (by simpa using h)

theorem Calls.up_of {P : Program} {f : FuncId} {args : Array Value} {w0 : World} {p : UpFrom w0} {v : Value}
    (h : Calls P f args p.w fun e w' => e = .returned v ∧ Below p.w.heap.size p.w w') : Calls P f args p.w fun e w'' => e = .returned v ∧ ∃ q : UpFrom w0, w'' = q.w :=
  h.mono fun _ w'' ⟨he, hb⟩ => ⟨he, ⟨w'', p.h.trans (hb.mono p.h.size)⟩, rfl⟩

theorem quiet_up_load {ops : Array Oper} {w0 : World} {Q : Act → Prop} {a : Act} {o : Oper} {rest : List Oper} (hw : Region.wanted o (yielded ops a.tmps) = true) (x : Operand) (ho : o.op = .load 27 x)
    (g : Nat) (hx : a.eval x = .pointer (some ⟨g, 0, none⟩)) (l : List UInt8) (hl : l.length = 32) (t : TypeId) (fr : Nat × Nat) (hg : w0.heap[g]? = some (.cells (byteCells l).toArray t fr))
    (hk : wpQuiet Tryd.prog ops (fun w' => ∃ p : UpFrom w0, w' = p.w) Q rest (a.put o.dst (.agg (byteCells l).toArray))) : wpQuiet Tryd.prog ops (fun w' => ∃ p : UpFrom w0, w' = p.w) Q (o :: rest) a := by
  refine BigFrame.wpQuiet_want hw fun K hK => ⟨_, ?_, hK _ hk⟩
  rintro _ ⟨p, rfl⟩
  unfold Oper.quietAt execOp
  have hg' := (p.h.block g (lt_of_block hg)).trans hg
  simp only [ho, hx, Instr.loadAt, Instr.sureAddr, Sem.run_bind, Sem.run_pure, Result.andThen_ok, run_loadVar_row p.w g t 27 (byteCells l).toArray fr _ hg' Tryd.under_hh rfl (by rw [Tryd.infoH]; simp [byteCells_length, hl])]
  exact ⟨rfl, rfl⟩

theorem quiet_up_eql {ops : Array Oper} {w0 : World} {Q : Act → Prop} {a : Act} {o : Oper} {rest : List Oper} (hw : Region.wanted o (yielded ops a.tmps) = true) (x y : Operand) (ho : o.op = .binOp .eql 27 x y 27)
    (u v : List UInt8) (hu : u.length = 32) (hv : v.length = 32) (hx : a.eval x = .agg (byteCells u).toArray) (hy : a.eval y = .agg (byteCells v).toArray)
    (hk : wpQuiet Tryd.prog ops (fun w' => ∃ p : UpFrom w0, w' = p.w) Q rest (a.put o.dst (.bool (u == v)))) : wpQuiet Tryd.prog ops (fun w' => ∃ p : UpFrom w0, w' = p.w) Q (o :: rest) a := by
  refine BigFrame.wpQuiet_want hw fun K hK => ⟨_, ?_, hK _ hk⟩
  rintro _ ⟨p, rfl⟩
  have hg := run_eqGuard_agg (P := Tryd.prog) p.w .eql 27 x y (byteCells u).toArray (byteCells v).toArray Tryd.eqg_hh
  have he := hash_eql p.w u v hu hv
  unfold Oper.quietAt execOp
  simp only [ho, hx, hy, Sem.run_bind, hg, he, Result.andThen_ok, Sem.run_pure]
  exact ⟨rfl, rfl⟩

end Go.Proofs.YtaihojahccplcaaDoor

/- A sum stored into its place, and handed back out of it. -/
namespace Go.Proofs.YtaihojahccplcaaDoor
open Go.RowKit
set_option linter.unusedSimpArgs false
set_option linter.unusedVariables false

/-- The world with a sum in block b. -/
def hset (w : World) (b : Nat) (S : List UInt8) : World := w.setRow b (byteCells S).toArray

theorem hset_heap {w : World} {b : Nat} {cs : Array Value} {t : TypeId} (S : List UInt8) (h : w.heap[b]? = some (.cells cs t (0, 0))) : (hset w b S).heap[b]? = some (.cells (byteCells S).toArray t (0, 0)) := setRow_heap _ _ _ _ _ _ h
theorem hset_other {w : World} {b c : Nat} (S : List UInt8) (h : c ≠ b) : (hset w b S).heap[c]? = w.heap[c]? := setRow_other _ _ _ _ h
theorem hset_size (w : World) (b : Nat) (S : List UInt8) : (hset w b S).heap.size = w.heap.size := by simp [hset, World.setRow]
theorem hset_below {B b : Nat} {w w' : World} (S : List UInt8) (h : Below B w w') (hb : B ≤ b) : Below B w (hset w' b S) := below_setRow' h hb

theorem zero32_size : zero32.size = 32 := by decide
theorem hash_cells_size (S : List UInt8) (hS : S.length = 32) : (byteCells S).toArray.size = 32 := by rw [List.size_toArray, byteCells_length, hS]

theorem wpList_put_hash {ops : Array Oper} {rest : List Oper} {o : Oper} {a : Act} {w : World} {Q : Exit → Act → World → Prop} (hgd : o.guard = none) (x y : Operand) (ho : o.op = .store 27 x y)
    (g : Nat) (hx : a.eval x = .pointer (some ⟨g, 0, none⟩)) (S : List UInt8) (hS : S.length = 32) (hy : a.eval y = .agg (byteCells S).toArray)
    (t : TypeId) (old : Array Value) (hg : w.heap[g]? = some (.cells old t (0, 0))) (hold : old.size = 32)
    (h : wpList Tryd.prog ops Q rest (a.put o.dst undef) (hset w g S)) : wpList Tryd.prog ops Q (o :: rest) a w :=
  wpList_store_row hgd 27 x y ho g _ hx hy t old hg (by rw [hash_cells_size S hS]; exact Tryd.infoH) (by rw [hash_cells_size S hS, hold]) (all_oneCell_toArray (byteCells_one S)) h

theorem results_hash {fn : Func} {p : Tmp} (h : fn.results = #[.cell p 27]) (tmps : Array Value) (w : World) (g : Nat) (t : TypeId) (S : List UInt8) (fr : Nat × Nat)
    (hp : tmps.getD p undef = .pointer (some ⟨g, 0, none⟩)) (hS : S.length = 32) (hg : w.heap[g]? = some (.cells (byteCells S).toArray t fr)) :
    (results fn tmps).run Tryd.prog w = .ok (.agg (byteCells S).toArray) w :=
  results_cell_row h tmps w g t _ fr _ hp hg Tryd.under_hh rfl (by rw [hash_cells_size S hS]; exact Tryd.infoH)

/-- A sum's bytes, out of its block. -/
theorem holds_hash {w : World} {b : Nat} {S : List UInt8} {t : TypeId} {fr : Nat × Nat} (hS : S.length = 32) (h : w.heap[b]? = some (.cells (byteCells S).toArray t fr)) : Lib.HoldsBytes w (.slice (some ⟨b, 0, none⟩) 32 32) S := by
  refine ⟨_, 32, by rw [hS], (by intro h; cases h), fun a ha i x hx => ?_⟩
  cases ha
  have := range_row h i _ (byteCells_get hx)
  rw [Addr.add_lit]; exact this

theorem holds_below {w w' : World} {v : Value} {l : List UInt8} (h : Lib.HoldsBytes w v l) (hb : Below w.heap.size w w') : Lib.HoldsBytes w' v l := by
  obtain ⟨p, cap, h1, h2, h3⟩ := h
  exact ⟨p, cap, h1, h2, fun a ha j x hx => Lib.Below.cellOf hb (h3 a ha j x hx) (Nat.le_refl _)⟩

theorem cell_one_new' (w : World) (v : Value) (t : TypeId) : (w.alloc (.cells #[v] t)).cell? ⟨w.heap.size, 0, none⟩ = some v := by
  have := heap_alloc_new w (.cells #[v] t)
  unfold World.cell?
  simp only [this]
  rfl

theorem holds_one (w : World) (t : TypeId) (b : UInt8) : Lib.HoldsBytes (w.alloc (.cells #[.int .u8 (b.toNat : Int)] t)) (.slice (some ⟨w.heap.size, 0, none⟩) 1 1) [b] := by
  refine ⟨some ⟨w.heap.size, 0, none⟩, 1, rfl, (by intro h; cases h), fun a ha i x hx => ?_⟩
  cases ha
  rw [Addr.add_lit]
  match i, hx with
  | 0, hx =>
    simp only [List.getElem?_cons_zero, Option.some.injEq] at hx
    subst hx
    exact cell_one_new' _ _ _

theorem parts_three {w : World} {v1 v2 v3 : Value} {l1 l2 l3 : List UInt8} (h1 : Lib.HoldsBytes w v1 l1) (h2 : Lib.HoldsBytes w v2 l2) (h3 : Lib.HoldsBytes w v3 l3) : ∀ (i : Nat) v l, [v1, v2, v3][i]? = some v → [l1, l2, l3][i]? = some l → Lib.HoldsBytes w v l := by
  intro i v l hv hl
  match i, hv, hl with
  | 0, hv, hl =>
    simp only [List.getElem?_cons_zero, Option.some.injEq] at hv hl
    subst hv; subst hl; exact h1
  | 1, hv, hl =>
    simp only [List.getElem?_cons_succ, List.getElem?_cons_zero, Option.some.injEq] at hv hl
    subst hv; subst hl; exact h2
  | 2, hv, hl =>
    simp only [List.getElem?_cons_succ, List.getElem?_cons_zero, Option.some.injEq] at hv hl
    subst hv; subst hl; exact h3
theorem parts_two {w : World} {v1 v2 : Value} {l1 l2 : List UInt8} (h1 : Lib.HoldsBytes w v1 l1) (h2 : Lib.HoldsBytes w v2 l2) : ∀ (i : Nat) v l, [v1, v2][i]? = some v → [l1, l2][i]? = some l → Lib.HoldsBytes w v l := by
  intro i v l hv hl
  match i, hv, hl with
  | 0, hv, hl =>
    simp only [List.getElem?_cons_zero, Option.some.injEq] at hv hl
    subst hv; subst hl; exact h1
  | 1, hv, hl =>
    simp only [List.getElem?_cons_succ, List.getElem?_cons_zero, Option.some.injEq] at hv hl
    subst hv; subst hl; exact h2
theorem parts_1 {w : World} {v1 : Value} {l1 : List UInt8} (h1 : Lib.HoldsBytes w v1 l1) : ∀ (i : Nat) v l, [v1][i]? = some v → [l1][i]? = some l → Lib.HoldsBytes w v l := by
  intro i v l hv hl
  match i, hv, hl with
  | 0, hv, hl =>
    simp only [List.getElem?_cons_zero, Option.some.injEq] at hv hl
    subst hv; subst hl; exact h1

theorem holds_nil (w : World) : Lib.HoldsBytes w (.slice none 0 0) [] := ⟨none, 0, rfl, fun _ => rfl, fun a h => by cases h⟩
theorem holds_empty (w : World) (p : Option Addr) (c : Nat) : Lib.HoldsBytes w (.slice p 0 c) [] := ⟨p, c, rfl, fun _ => rfl, fun a h i x hx => by simp at hx⟩

/-- A byte that is built, and '[]byte(s)' of a text: two parts behind one another. -/
theorem part_two (w : World) (b : UInt8) (l : List UInt8) (hl : l.length ≤ 1000000000) (hs : (Tryd.prog.underlying 9) = some .string) (hd : Tryd.prog.underlying 82 = some (.slice 5)) :
    ∃ cap W, (convert 9 82 (.string (strOf l))).run Tryd.prog (w.alloc (.cells #[.int .u8 (b.toNat : Int)] 5)) = .ok (.slice (some ⟨w.heap.size + 1, 0, none⟩) l.length cap) W ∧ Below w.heap.size w W ∧
      PartsV (W.alloc (.cells #[.slice (some ⟨w.heap.size, 0, none⟩) 1 1, .slice (some ⟨w.heap.size + 1, 0, none⟩) l.length cap] 82)) (.slice (some ⟨W.heap.size, 0, none⟩) 2 2) [[b], l] := by
  have h0 := holds_one w 5 b
  have b0 : Below w.heap.size w (w.alloc (.cells #[.int .u8 (b.toNat : Int)] 5)) := (Below.refl _ _).alloc (Nat.le_refl _) _
  obtain ⟨cap, W, h1, h2, h3, h4⟩ := str_bytes hs hd Tryd.under_bb (w.alloc (.cells #[.int .u8 (b.toNat : Int)] 5)) l (by omega)
  have hsz : (w.alloc (.cells #[.int .u8 (b.toNat : Int)] 5)).heap.size = w.heap.size + 1 := by simp
  rw [hsz] at h1 h2
  refine ⟨cap, W, h1, b0.trans (h3.mono (by simp)), parts_new W 82 [.slice (some ⟨w.heap.size, 0, none⟩) 1 1, .slice (some ⟨w.heap.size + 1, 0, none⟩) l.length cap] [[b], l] 2 rfl rfl (parts_two (holds_below h0 h3) h2.holds)⟩

end Go.Proofs.YtaihojahccplcaaDoor
