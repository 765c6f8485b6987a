/- HashEq, Up, PutH, Field, Put, Get, One, Few, Eq, in one text. -/
import Derived.Test.YtjlaoijmcenahaaDoorOf
import Derived.Stop.BytesEq
import Derived.Laws.Tables
import Derived.Deep.QuietTactic
import Derived.BigQuiet
import Derived.Test.YtjlaoijmcenahaaDoorG0b
/- Two sums compared; rows loaded and built under a guard that holds; the parts that hash.Of takes. -/
namespace Go.Proofs.YtjlaoijmcenahaaDoor
open Go.RowKit

theorem Tryd.under_hh : Tryd.prog.underlying 31 = some (.array 32 5) := by kernel_rfl
theorem Tryd.under_bb : Tryd.prog.underlying 5 = some (.int .u8) := by kernel_rfl
theorem Tryd.size_bb (w : World) : (sizeOf 5).run Tryd.prog w = .ok 1 w := by kernel_rfl
theorem Tryd.eqg_hh : Tryd.prog.eqGuardType Tryd.prog.depth 31 = false := by kernel_rfl
theorem Tryd.infoH : (Tryd.prog.info? 31).map (·.size) = some 32 := by kernel_rfl

theorem hash_eql (w : World) (a b : List UInt8) (ha : a.length = 32) (hb : b.length = 32) :
    (binOp .eql 31 (.agg (byteCells a).toArray) (.agg (byteCells b).toArray)).run Tryd.prog w = .ok (.bool (a == b)) w :=
  run_eql_bytes w _ _ 32 Tryd.under_hh Tryd.under_bb Tryd.size_bb a b ha hb

theorem wpList_eql_hash {ops : Array Oper} {rest : List Oper} {op : Oper} {a : Act} {w : World} {Q : Exit → Act → World → Prop} (hgd : Region.wanted op (yielded ops a.tmps) = true) (x y : Operand) (ho : op.op = .binOp .eql 31 x y 31)
    (u v : List UInt8) (hu : u.length = 32) (hv : v.length = 32) (hx : a.eval x = .agg (byteCells u).toArray) (hy : a.eval y = .agg (byteCells v).toArray)
    (h : wpList Tryd.prog ops Q rest (a.put op.dst (.bool (u == v))) w) : wpList Tryd.prog ops Q (op :: rest) a w :=
  wpList_step fun K hK => by
    rw [if_pos hgd]
    have hg := run_eqGuard_agg (P := Tryd.prog) w .eql 31 x y (byteCells u).toArray (byteCells v).toArray Tryd.eqg_hh
    have he := hash_eql w u v hu hv
    unfold Oper.wp execOp
    simp only [ho, hx, hy, Sem.run_bind, hg, he, Result.andThen_ok, Sem.run_pure]
    exact hK _ _ h

/-- A sum loaded out of its own block, under a guard that holds or none. -/
theorem wpList_load_hash {ops : Array Oper} {rest : List Oper} {op : Oper} {a : Act} {w : World} {Q : Exit → Act → World → Prop} (hgd : Region.wanted op (yielded ops a.tmps) = true) (x : Operand) (ho : op.op = .load 31 x)
    (g : Nat) (hx : a.eval x = .pointer (some ⟨g, 0, none⟩)) (l : List UInt8) (hl : l.length = 32) (t : TypeId) (fr : Nat × Nat) (hg : w.heap[g]? = some (.cells (byteCells l).toArray t fr))
    (h : wpList Tryd.prog ops Q rest (a.put op.dst (.agg (byteCells l).toArray)) w) : wpList Tryd.prog ops Q (op :: rest) a w :=
  wpList_step fun _ hK => by
    rw [if_pos hgd]
    exact wp_load_row 31 x ho g hx t _ fr _ hg Tryd.under_hh rfl (by rw [Tryd.infoH]; simp [byteCells_length, hl]) (hK _ _ h)

/-- A sum of zeros, under a guard that holds or none. -/
theorem wpList_zero_hash {ops : Array Oper} {rest : List Oper} {op : Oper} {a : Act} {w : World} {Q : Exit → Act → World → Prop} (hgd : Region.wanted op (yielded ops a.tmps) = true) (ho : op.op = .build 31 #[])
    (h : wpList Tryd.prog ops Q rest (a.put op.dst (.agg (byteCells (List.replicate 32 0)).toArray)) w) : wpList Tryd.prog ops Q (op :: rest) a w :=
  wpList_step fun K hK => by
    rw [if_pos hgd]
    have hb : Tryd.prog.built 31 [] = some (byteCells (List.replicate 32 0)).toArray := by kernel_rfl
    have e : ((#[] : Array (Nat × Operand)).map fun (p : Nat × Operand) => (p.1, a.eval p.2)).toList = [] := by simp
    refine wp_build 31 #[] ho ?_ ?_
    · show (Tryd.prog.built 31 ((#[] : Array (Nat × Operand)).map fun (p : Nat × Operand) => (p.1, a.eval p.2)).toList).isSome = true
      rw [e, hb]; rfl
    · show K (a.put op.dst (.agg ((Tryd.prog.built 31 ((#[] : Array (Nat × Operand)).map fun (p : Nat × Operand) => (p.1, a.eval p.2)).toList).getD #[]))) w
      rw [e, hb]; exact hK _ _ h

theorem Mine.holds {w : World} {B : Nat} {v : Value} {l : List UInt8} (h : Mine w B v l) : Lib.HoldsBytes w v l := by
  rcases h with ⟨rfl, rfl⟩ | ⟨g, cap, rfl, _, _, _, _, h, _⟩
  · exact ⟨none, 0, rfl, fun _ => rfl, fun a ha => by cases ha⟩
  · refine ⟨some ⟨g, 0, none⟩, cap, rfl, (by intro h; cases h), fun a ha i x hx => ?_⟩
    cases ha
    have := h i _ (byteCells_get hx)
    rw [Addr.add_lit]; exact this

/-- The slice of parts that a call's own arguments make. -/
theorem parts_new (w : World) (ty : TypeId) (vs : List Value) (ls : List (List UInt8)) (n : Nat) (hv : vs.length = n) (hl : ls.length = n) (h : ∀ (i : Nat) v l, vs[i]? = some v → ls[i]? = some l → Lib.HoldsBytes w v l) :
    PartsV (w.alloc (.cells vs.toArray ty)) (.slice (some ⟨w.heap.size, 0, none⟩) n n) ls := by
  refine ⟨_, n, by rw [hl], by omega, fun _ => ⟨_, _, vs, rfl, by omega, fun i v hi => ?_, fun i v l hi hj => ?_⟩⟩
  · have := range_row (heap_alloc_new w (.cells vs.toArray ty)) i v hi
    rw [Addr.add_lit]; exact this
  · obtain ⟨p, cap, h1, h2, h3⟩ := h i v l hi hj
    refine ⟨p, cap, h1, h2, fun a ha j x hx => ?_⟩
    exact Lib.Below.cellOf ((Below.refl _ w).alloc (Nat.le_refl _) _) (h3 a ha j x hx) (Nat.le_refl _)

/-- No parts at all. -/
theorem parts_none (w : World) : PartsV w (.slice none 0 0) [] := ⟨none, 0, rfl, Nat.le_refl _, fun h => by cases h⟩

end Go.Proofs.YtjlaoijmcenahaaDoor

/- A region that draws its order and whose calls lay new blocks: one walk in the order of the text, in every world above the one at its start. -/
namespace Go.Proofs.YtjlaoijmcenahaaDoor
open Go.RowKit

/-- A world above w0: w0's blocks as they were. -/
structure UpFrom (w0 : World) where
  w : World
  h : Below w0.heap.size w0 w

instance (w0 : World) : Nonempty (UpFrom w0) := ⟨⟨w0, Below.refl _ _⟩⟩

theorem wp_region_up {P : Program} {id : Nat} {Q : Exit → Act → World → Prop} {a : Act} {w : World} {l : List Oper} (hm : P.follows .mixedOrders = true) (hB : Region.lexB .any l.toArray = true)
    (h : wpQuiet P l.toArray (fun w' => ∃ p : UpFrom w, w' = p.w) (fun a' => ∀ w', (∃ p : UpFrom w, w' = p.w) → Q .normal a' w') l a) : (Code.region id l.toArray true).wp P Q a w :=
  wp_region_quiet (C := fun w' => ∃ p : UpFrom w, w' = p.w) hm hB ⟨⟨{ w with drawn := w.drawn + 1 }, (Below.refl _ w).drew⟩, rfl⟩ (by simpa using h)

theorem Calls.up_of {P : Program} {f : FuncId} {args : Array Value} {w0 : World} {p : UpFrom w0} {v : Value}
    (h : Calls P f args p.w fun e w' => e = .returned v ∧ Below p.w.heap.size p.w w') : Calls P f args p.w fun e w'' => e = .returned v ∧ ∃ q : UpFrom w0, w'' = q.w :=
  h.mono fun _ w'' ⟨he, hb⟩ => ⟨he, ⟨w'', p.h.trans (hb.mono p.h.size)⟩, rfl⟩

theorem quiet_up_load {ops : Array Oper} {w0 : World} {Q : Act → Prop} {a : Act} {o : Oper} {rest : List Oper} (hw : Region.wanted o (yielded ops a.tmps) = true) (x : Operand) (ho : o.op = .load 31 x)
    (g : Nat) (hx : a.eval x = .pointer (some ⟨g, 0, none⟩)) (l : List UInt8) (hl : l.length = 32) (t : TypeId) (fr : Nat × Nat) (hg : w0.heap[g]? = some (.cells (byteCells l).toArray t fr))
    (hk : wpQuiet Tryd.prog ops (fun w' => ∃ p : UpFrom w0, w' = p.w) Q rest (a.put o.dst (.agg (byteCells l).toArray))) : wpQuiet Tryd.prog ops (fun w' => ∃ p : UpFrom w0, w' = p.w) Q (o :: rest) a := by
  refine BigFrame.wpQuiet_want hw fun K hK => ⟨_, ?_, hK _ hk⟩
  rintro _ ⟨p, rfl⟩
  unfold Oper.quietAt execOp
  have hg' := (p.h.block g (lt_of_block hg)).trans hg
  simp only [ho, hx, Instr.loadAt, Instr.sureAddr, Sem.run_bind, Sem.run_pure, Result.andThen_ok, run_loadVar_row p.w g t 31 (byteCells l).toArray fr _ hg' Tryd.under_hh rfl (by rw [Tryd.infoH]; simp [byteCells_length, hl])]
  exact ⟨rfl, rfl⟩

theorem quiet_up_eql {ops : Array Oper} {w0 : World} {Q : Act → Prop} {a : Act} {o : Oper} {rest : List Oper} (hw : Region.wanted o (yielded ops a.tmps) = true) (x y : Operand) (ho : o.op = .binOp .eql 31 x y 31)
    (u v : List UInt8) (hu : u.length = 32) (hv : v.length = 32) (hx : a.eval x = .agg (byteCells u).toArray) (hy : a.eval y = .agg (byteCells v).toArray)
    (hk : wpQuiet Tryd.prog ops (fun w' => ∃ p : UpFrom w0, w' = p.w) Q rest (a.put o.dst (.bool (u == v)))) : wpQuiet Tryd.prog ops (fun w' => ∃ p : UpFrom w0, w' = p.w) Q (o :: rest) a := by
  refine BigFrame.wpQuiet_want hw fun K hK => ⟨_, ?_, hK _ hk⟩
  rintro _ ⟨p, rfl⟩
  have hg := run_eqGuard_agg (P := Tryd.prog) p.w .eql 31 x y (byteCells u).toArray (byteCells v).toArray Tryd.eqg_hh
  have he := hash_eql p.w u v hu hv
  unfold Oper.quietAt execOp
  simp only [ho, hx, hy, Sem.run_bind, hg, he, Result.andThen_ok, Sem.run_pure]
  exact ⟨rfl, rfl⟩

end Go.Proofs.YtjlaoijmcenahaaDoor

/- A sum stored into its place, and handed back out of it. -/
namespace Go.Proofs.YtjlaoijmcenahaaDoor
open Go.RowKit
set_option linter.unusedSimpArgs false
set_option linter.unusedVariables false

/-- The world with a sum in block b. -/
def hset (w : World) (b : Nat) (S : List UInt8) : World := w.setRow b (byteCells S).toArray

theorem hset_heap {w : World} {b : Nat} {cs : Array Value} {t : TypeId} (S : List UInt8) (h : w.heap[b]? = some (.cells cs t (0, 0))) : (hset w b S).heap[b]? = some (.cells (byteCells S).toArray t (0, 0)) := setRow_heap _ _ _ _ _ _ h
theorem hset_other {w : World} {b c : Nat} (S : List UInt8) (h : c ≠ b) : (hset w b S).heap[c]? = w.heap[c]? := setRow_other _ _ _ _ h
theorem hset_size (w : World) (b : Nat) (S : List UInt8) : (hset w b S).heap.size = w.heap.size := by simp [hset, World.setRow]
theorem hset_below {B b : Nat} {w w' : World} (S : List UInt8) (h : Below B w w') (hb : B ≤ b) : Below B w (hset w' b S) := below_setRow' h hb

theorem zero32_size : zero32.size = 32 := by decide
theorem hash_cells_size (S : List UInt8) (hS : S.length = 32) : (byteCells S).toArray.size = 32 := by rw [List.size_toArray, byteCells_length, hS]

theorem wpList_put_hash {ops : Array Oper} {rest : List Oper} {o : Oper} {a : Act} {w : World} {Q : Exit → Act → World → Prop} (hgd : o.guard = none) (x y : Operand) (ho : o.op = .store 31 x y)
    (g : Nat) (hx : a.eval x = .pointer (some ⟨g, 0, none⟩)) (S : List UInt8) (hS : S.length = 32) (hy : a.eval y = .agg (byteCells S).toArray)
    (t : TypeId) (old : Array Value) (hg : w.heap[g]? = some (.cells old t (0, 0))) (hold : old.size = 32)
    (h : wpList Tryd.prog ops Q rest (a.put o.dst undef) (hset w g S)) : wpList Tryd.prog ops Q (o :: rest) a w :=
  wpList_store_row hgd 31 x y ho g _ hx hy t old hg (by rw [hash_cells_size S hS]; exact Tryd.infoH) (by rw [hash_cells_size S hS, hold]) (all_oneCell_toArray (byteCells_one S)) h

theorem results_hash {fn : Func} {p : Tmp} (h : fn.results = #[.cell p 31]) (tmps : Array Value) (w : World) (g : Nat) (t : TypeId) (S : List UInt8) (fr : Nat × Nat)
    (hp : tmps.getD p undef = .pointer (some ⟨g, 0, none⟩)) (hS : S.length = 32) (hg : w.heap[g]? = some (.cells (byteCells S).toArray t fr)) :
    (results fn tmps).run Tryd.prog w = .ok (.agg (byteCells S).toArray) w :=
  results_cell_row h tmps w g t _ fr _ hp hg Tryd.under_hh rfl (by rw [hash_cells_size S hS]; exact Tryd.infoH)

/-- A sum's bytes, out of its block. -/
theorem holds_hash {w : World} {b : Nat} {S : List UInt8} {t : TypeId} {fr : Nat × Nat} (hS : S.length = 32) (h : w.heap[b]? = some (.cells (byteCells S).toArray t fr)) : Lib.HoldsBytes w (.slice (some ⟨b, 0, none⟩) 32 32) S := by
  refine ⟨_, 32, by rw [hS], (by intro h; cases h), fun a ha i x hx => ?_⟩
  cases ha
  have := range_row h i _ (byteCells_get hx)
  rw [Addr.add_lit]; exact this

theorem holds_below {w w' : World} {v : Value} {l : List UInt8} (h : Lib.HoldsBytes w v l) (hb : Below w.heap.size w w') : Lib.HoldsBytes w' v l := by
  obtain ⟨p, cap, h1, h2, h3⟩ := h
  exact ⟨p, cap, h1, h2, fun a ha j x hx => Lib.Below.cellOf hb (h3 a ha j x hx) (Nat.le_refl _)⟩

theorem cell_one_new' (w : World) (v : Value) (t : TypeId) : (w.alloc (.cells #[v] t)).cell? ⟨w.heap.size, 0, none⟩ = some v := by
  have := heap_alloc_new w (.cells #[v] t)
  unfold World.cell?
  simp only [this]
  rfl

theorem holds_one (w : World) (t : TypeId) (b : UInt8) : Lib.HoldsBytes (w.alloc (.cells #[.int .u8 (b.toNat : Int)] t)) (.slice (some ⟨w.heap.size, 0, none⟩) 1 1) [b] := by
  refine ⟨some ⟨w.heap.size, 0, none⟩, 1, rfl, (by intro h; cases h), fun a ha i x hx => ?_⟩
  cases ha
  rw [Addr.add_lit]
  match i, hx with
  | 0, hx =>
    simp only [List.getElem?_cons_zero, Option.some.injEq] at hx
    subst hx
    exact cell_one_new' _ _ _

theorem parts_three {w : World} {v1 v2 v3 : Value} {l1 l2 l3 : List UInt8} (h1 : Lib.HoldsBytes w v1 l1) (h2 : Lib.HoldsBytes w v2 l2) (h3 : Lib.HoldsBytes w v3 l3) : ∀ (i : Nat) v l, [v1, v2, v3][i]? = some v → [l1, l2, l3][i]? = some l → Lib.HoldsBytes w v l := by
  intro i v l hv hl
  match i, hv, hl with
  | 0, hv, hl =>
    simp only [List.getElem?_cons_zero, Option.some.injEq] at hv hl
    subst hv; subst hl; exact h1
  | 1, hv, hl =>
    simp only [List.getElem?_cons_succ, List.getElem?_cons_zero, Option.some.injEq] at hv hl
    subst hv; subst hl; exact h2
  | 2, hv, hl =>
    simp only [List.getElem?_cons_succ, List.getElem?_cons_zero, Option.some.injEq] at hv hl
    subst hv; subst hl; exact h3
theorem parts_two {w : World} {v1 v2 : Value} {l1 l2 : List UInt8} (h1 : Lib.HoldsBytes w v1 l1) (h2 : Lib.HoldsBytes w v2 l2) : ∀ (i : Nat) v l, [v1, v2][i]? = some v → [l1, l2][i]? = some l → Lib.HoldsBytes w v l := by
  intro i v l hv hl
  match i, hv, hl with
  | 0, hv, hl =>
    simp only [List.getElem?_cons_zero, Option.some.injEq] at hv hl
    subst hv; subst hl; exact h1
  | 1, hv, hl =>
    simp only [List.getElem?_cons_succ, List.getElem?_cons_zero, Option.some.injEq] at hv hl
    subst hv; subst hl; exact h2
theorem parts_1 {w : World} {v1 : Value} {l1 : List UInt8} (h1 : Lib.HoldsBytes w v1 l1) : ∀ (i : Nat) v l, [v1][i]? = some v → [l1][i]? = some l → Lib.HoldsBytes w v l := by
  intro i v l hv hl
  match i, hv, hl with
  | 0, hv, hl =>
    simp only [List.getElem?_cons_zero, Option.some.injEq] at hv hl
    subst hv; subst hl; exact h1

theorem holds_nil (w : World) : Lib.HoldsBytes w (.slice none 0 0) [] := ⟨none, 0, rfl, fun _ => rfl, fun a h => by cases h⟩
theorem holds_empty (w : World) (p : Option Addr) (c : Nat) : Lib.HoldsBytes w (.slice p 0 c) [] := ⟨p, c, rfl, fun _ => rfl, fun a h i x hx => by simp at hx⟩

/-- A byte that is built, and '[]byte(s)' of a text: two parts behind one another. -/
theorem part_two (w : World) (b : UInt8) (l : List UInt8) (hl : l.length ≤ 1000000000) (hs : (Tryd.prog.underlying 9) = some .string) (hd : Tryd.prog.underlying 44 = some (.slice 5)) :
    ∃ cap W, (convert 9 44 (.string (strOf l))).run Tryd.prog (w.alloc (.cells #[.int .u8 (b.toNat : Int)] 5)) = .ok (.slice (some ⟨w.heap.size + 1, 0, none⟩) l.length cap) W ∧ Below w.heap.size w W ∧
      PartsV (W.alloc (.cells #[.slice (some ⟨w.heap.size, 0, none⟩) 1 1, .slice (some ⟨w.heap.size + 1, 0, none⟩) l.length cap] 44)) (.slice (some ⟨W.heap.size, 0, none⟩) 2 2) [[b], l] := by
  have h0 := holds_one w 5 b
  have b0 : Below w.heap.size w (w.alloc (.cells #[.int .u8 (b.toNat : Int)] 5)) := (Below.refl _ _).alloc (Nat.le_refl _) _
  obtain ⟨cap, W, h1, h2, h3, h4⟩ := str_bytes hs hd Tryd.under_bb (w.alloc (.cells #[.int .u8 (b.toNat : Int)] 5)) l (by omega)
  have hsz : (w.alloc (.cells #[.int .u8 (b.toNat : Int)] 5)).heap.size = w.heap.size + 1 := by simp
  rw [hsz] at h1 h2
  refine ⟨cap, W, h1, b0.trans (h3.mono (by simp)), parts_new W 44 [.slice (some ⟨w.heap.size, 0, none⟩) 1 1, .slice (some ⟨w.heap.size + 1, 0, none⟩) l.length cap] [[b], l] 2 rfl rfl (parts_two (holds_below h0 h3) h2.holds)⟩

end Go.Proofs.YtjlaoijmcenahaaDoor

/- Fields: what is put, what is got, and when two are the same. -/
namespace Go.Proofs.YtjlaoijmcenahaaDoor
open Go.RowKit

theorem Tryd.size_byte (w : World) : (sizeOf 5).run Tryd.prog w = .ok 1 w := by kernel_rfl

theorem hash_equal (w : World) (d : Nat) (a b : List UInt8) (ha : a.length = 32) (hb : b.length = 32) :
    (Op.equalIn (d + 2) 31 (.agg (byteCells a).toArray) (.agg (byteCells b).toArray)).run Tryd.prog w = .ok (a == b) w :=
  run_equalIn_bytes w d _ _ 32 Tryd.under_hash Tryd.under_byte Tryd.size_byte a b ha hb

theorem FieldV.built0 (n : Nat) : Tryd.prog.built 52 [(2, .int .u64 n)] = some (FieldV.mk 0 0 n 0 ⟨#[]⟩ (List.replicate 32 0)).cells.toArray := by kernel_rfl
theorem FieldV.built1 (i : Int) : Tryd.prog.built 52 [(0, .int .i64 1), (3, .int .i64 i)] = some (FieldV.mk 1 0 0 i ⟨#[]⟩ (List.replicate 32 0)).cells.toArray := by kernel_rfl
theorem FieldV.built2 (s : ByteArray) : Tryd.prog.built 52 [(0, .int .i64 2), (4, .string s)] = some (FieldV.mk 2 0 0 0 s (List.replicate 32 0)).cells.toArray := by kernel_rfl
theorem FieldV.builtK (k : Int) : Tryd.prog.built 52 [(0, .int .i64 k)] = some (FieldV.mk k 0 0 0 ⟨#[]⟩ (List.replicate 32 0)).cells.toArray := by kernel_rfl

theorem FieldV.built3' (a0 a1 a2 a3 a4 a5 a6 a7 a8 a9 a10 a11 a12 a13 a14 a15 a16 a17 a18 a19 a20 a21 a22 a23 a24 a25 a26 a27 a28 a29 a30 a31 : Value) : Tryd.prog.built 52 [(0, .int .i64 3), (5, .agg #[a0, a1, a2, a3, a4, a5, a6, a7, a8, a9, a10, a11, a12, a13, a14, a15, a16, a17, a18, a19, a20, a21, a22, a23, a24, a25, a26, a27, a28, a29, a30, a31])] = some #[.int .i64 3, .int .i64 0, .int .u64 0, .int .i64 0, .string ⟨#[]⟩, a0, a1, a2, a3, a4, a5, a6, a7, a8, a9, a10, a11, a12, a13, a14, a15, a16, a17, a18, a19, a20, a21, a22, a23, a24, a25, a26, a27, a28, a29, a30, a31] := by kernel_rfl

theorem FieldV.built3 (h : List UInt8) (hl : h.length = 32) : Tryd.prog.built 52 [(0, .int .i64 3), (5, .agg (byteCells h).toArray)] = some (FieldV.mk 3 0 0 0 ⟨#[]⟩ h).cells.toArray := by
  have h32 : (byteCells h).length = 32 := by rw [byteCells_length, hl]
  have e : ∀ xs : List Value, xs.length = 32 → Tryd.prog.built 52 [(0, .int .i64 3), (5, .agg xs.toArray)] = some ([Value.int .i64 3, Value.int .i64 0, Value.int .u64 0, Value.int .i64 0, Value.string ⟨#[]⟩] ++ xs).toArray := by
    intro xs hx
    match xs, hx with
    | [a0, a1, a2, a3, a4, a5, a6, a7, a8, a9, a10, a11, a12, a13, a14, a15, a16, a17, a18, a19, a20, a21, a22, a23, a24, a25, a26, a27, a28, a29, a30, a31], _ => exact FieldV.built3' a0 a1 a2 a3 a4 a5 a6 a7 a8 a9 a10 a11 a12 a13 a14 a15 a16 a17 a18 a19 a20 a21 a22 a23 a24 a25 a26 a27 a28 a29 a30 a31
  exact e _ h32

/-- A load of a row out of the middle of a block, under a guard that holds. -/
theorem wpList_load_mid_g {P : Program} {ops : Array Oper} {rest : List Oper} {op : Oper} {a : Act} {w : World} {Q : Exit → Act → World → Prop} (hgd : Region.wanted op (yielded ops a.tmps) = true) (ty : TypeId) (x : Operand) (ho : op.op = .load ty x)
    (b o : Nat) (hx : a.eval x = .pointer (some ⟨b, o, none⟩)) (cs : List Value) (d : TypeDesc) (hc : w.rangeAt b o cs)
    (hu : P.underlying ty = some d) (hd : d.isRow = true) (hi : (P.info? ty).map (·.size) = some cs.length)
    (h : wpList P ops Q rest (a.put op.dst (.agg cs.toArray)) w) : wpList P ops Q (op :: rest) a w :=
  wpList_step fun _ hK => by rw [if_pos hgd]; exact wp_load_mid ty x ho b o hx cs d hc hu hd hi (hK _ _ h)

theorem Tryd.eqg_hash : Tryd.prog.eqGuardType Tryd.prog.depth 31 = false := by kernel_rfl

end Go.Proofs.YtjlaoijmcenahaaDoor

/- The walks of the laws' put and get. -/
namespace Go.Proofs.YtjlaoijmcenahaaDoor
open Go.RowKit

/-- The bytes of a field. -/
def putV (f : FieldV) : List UInt8 :=
  if f.kind = 0 then Wire.num f.n else if f.kind = 1 then Wire.num (Wire.zig f.i) else if f.kind = 2 then Wire.num f.s.size ++ f.s.data.toList else f.h

theorem field_cell {w : World} {b : Nat} {f : FieldV} {t : TypeId} (h : w.heap[b]? = some (.cells f.cells.toArray t (0, 0))) :
    w.cell? ⟨b, 0, none⟩ = some (.int .i64 f.kind) ∧ w.cell? ⟨b, 1, none⟩ = some (.int .i64 f.most) ∧ w.cell? ⟨b, 2, none⟩ = some (.int .u64 f.n) ∧
      w.cell? ⟨b, 3, none⟩ = some (.int .i64 f.i) ∧ w.cell? ⟨b, 4, none⟩ = some (.string f.s) ∧ w.rangeAt b 5 (byteCells f.h) := by
  refine ⟨?_, ?_, ?_, ?_, ?_, ?_⟩
  · simp [World.cell?, h, FieldV.cells]
  · simp [World.cell?, h, FieldV.cells]
  · simp [World.cell?, h, FieldV.cells]
  · simp [World.cell?, h, FieldV.cells]
  · simp [World.cell?, h, FieldV.cells]
  · intro j v hv
    have e : (f.cells.toArray)[5 + j]? = some v := by
      rw [List.getElem?_toArray]
      unfold FieldV.cells
      rw [List.getElem?_append_right (by simp)]
      simpa using hv
    simp [World.cell?, h, e]

theorem OutIs.alloc {w : World} {base b : Nat} {bs : List UInt8} (h : OutIs w base b bs) (o : Obj) : OutIs (w.alloc o) base b bs :=
  h.below ((Below.refl _ _).alloc (Nat.le_refl _) o)

theorem FieldV.get (f : FieldV) : f.cells[0]? = some (.int .i64 f.kind) ∧ f.cells[1]? = some (.int .i64 f.most) ∧ f.cells[2]? = some (.int .u64 f.n) ∧ f.cells[3]? = some (.int .i64 f.i) ∧ f.cells[4]? = some (.string f.s) :=
  ⟨rfl, rfl, rfl, rfl, rfl⟩

end Go.Proofs.YtjlaoijmcenahaaDoor

/- The walk of the laws' get. -/
namespace Go.Proofs.YtjlaoijmcenahaaDoor
open Go.RowKit

def zeroField : FieldV := ⟨0, 0, 0, 0, ⟨#[]⟩, List.replicate 32 0⟩

/-- A field got: it, what is left, the error. -/
def getV (f : FieldV) (l : List UInt8) (e : Nat) : FieldV × List UInt8 × Nat :=
  if f.kind = 0 then ({ zeroField with n := (Wire.rdNum l e).1 }, (Wire.rdNum l e).2)
  else if f.kind = 1 then ({ zeroField with kind := 1, i := Wire.unzig (Wire.rdNum l e).1 }, (Wire.rdNum l e).2)
  else if f.kind = 2 then ({ zeroField with kind := 2, s := strOf (Wire.rdText f.most l e).1 }, (Wire.rdText f.most l e).2)
  else ({ zeroField with kind := 3, h := (Wire.rdHash l e).1 }, (Wire.rdHash l e).2)

theorem field_all (f : FieldV) : f.cells.toArray.all (·.oneCell') = true := by
  rw [Array.all_eq_true_iff_forall_mem]
  intro v hv
  have hv : v ∈ f.cells := by simpa using hv
  unfold FieldV.cells at hv
  rcases List.mem_append.1 hv with hv | hv
  · simp only [List.mem_cons, List.not_mem_nil, or_false] at hv
    rcases hv with rfl | rfl | rfl | rfl | rfl <;> rfl
  · exact byteCells_one _ v hv

theorem field_size {f : FieldV} (h : f.h.length = 32) : f.cells.toArray.size = 37 := by
  rw [List.size_toArray]; simp [FieldV.cells, byteCells, h]

theorem Tryd.under_field : ∃ fs, Tryd.prog.underlying 52 = some (.struct fs) := ⟨_, Tryd.underlying52⟩
theorem Tryd.size_field : (Tryd.prog.info? 52).map (·.size) = some 37 := by kernel_rfl

/-- What a call on an In leaves of two blocks that lie there. -/
theorem two_kept {w W w' : World} {b : Nat} {A Z : Obj} (hb : b < w.heap.size) (hW : W = (w.alloc A).alloc Z) (h : BelowBut W.heap.size b W w') :
    w'.heap[w.heap.size + 1]? = some Z ∧ BelowBut w.heap.size b w w' ∧ w.heap.size + 2 ≤ w'.heap.size := by
  subst hW
  have hs := h.size
  have hz := heap_alloc_new (w.alloc A) Z
  have e : (w.alloc A).heap.size = w.heap.size + 1 := by simp
  rw [e] at hz
  have e2 : ((w.alloc A).alloc Z).heap.size = w.heap.size + 2 := by simp
  refine ⟨(h.block _ (by omega) (by omega)).trans hz, BelowBut.trans (.of (((Below.refl _ _).alloc (Nat.le_refl _) _).alloc (by omega) _)) (h.mono (by omega)), by omega⟩

/-- A composite of two parts. -/
theorem wpList_build2 {P : Program} {ops : Array Oper} {rest : List Oper} {o : Oper} {a : Act} {w : World} {Q : Exit → Act → World → Prop} (hg : o.guard = none) (t : TypeId) (i j : Nat) (x y : Operand) (ho : o.op = .build t #[(i, x), (j, y)])
    (u v : Value) (hx : a.eval x = u) (hy : a.eval y = v) (cs : Array Value) (hb : P.built t [(i, u), (j, v)] = some cs)
    (h : wpList P ops Q rest (a.put o.dst (.agg cs)) w) : wpList P ops Q (o :: rest) a w := by
  have e : ((#[(i, x), (j, y)] : Array (Nat × Operand)).map fun (p : Nat × Operand) => (p.1, a.eval p.2)).toList = [(i, u), (j, v)] := by
    simp [hx, hy]
  refine wpList_build hg t #[(i, x), (j, y)] ho ?_ ?_
  · show (P.built t ((#[(i, x), (j, y)] : Array (Nat × Operand)).map fun (p : Nat × Operand) => (p.1, a.eval p.2)).toList).isSome = true
    rw [e, hb]; rfl
  · show wpList P ops Q rest (a.put o.dst (.agg ((P.built t ((#[(i, x), (j, y)] : Array (Nat × Operand)).map fun (p : Nat × Operand) => (p.1, a.eval p.2)).toList).getD #[]))) w
    rw [e, hb]; exact h

end Go.Proofs.YtjlaoijmcenahaaDoor

/- WireOne: what is read to its end was written so. The walk of the law. -/
namespace Go.Proofs.YtjlaoijmcenahaaDoor
open Go.RowKit

theorem getV_ok (f : FieldV) (hk : 0 ≤ f.kind ∧ f.kind ≤ 3) (l : List UInt8) (hl : l.length ≤ maxLen) (e : Nat) : (getV f l e).1.ok ∧ (getV f l e).1.kind = f.kind := by
  have hr := Wire.rdNum_lt l e
  have hu := Wire.unzig_bounds _ hr
  have ht := Wire.rdText_len f.most l e
  have hh := Wire.rdHash_len l e
  have hz : (0 : Nat) ≤ maxLen := Nat.zero_le _
  unfold getV
  split
  · rename_i k; exact ⟨⟨(by decide : (-9223372036854775808 : Int) ≤ 0), (by decide : (0 : Int) ≤ 9223372036854775807), (by decide : (-9223372036854775808 : Int) ≤ 0), (by decide : (0 : Int) ≤ 9223372036854775807), hr, (by decide : (-9223372036854775808 : Int) ≤ 0), (by decide : (0 : Int) ≤ 9223372036854775807), hz, rfl⟩, k.symm⟩
  · split
    · rename_i k; exact ⟨⟨(by decide : (-9223372036854775808 : Int) ≤ 1), (by decide : (1 : Int) ≤ 9223372036854775807), (by decide : (-9223372036854775808 : Int) ≤ 0), (by decide : (0 : Int) ≤ 9223372036854775807), (by decide : (0 : Nat) < 18446744073709551616), hu.1, hu.2, hz, rfl⟩, k.symm⟩
    · split
      · rename_i k; exact ⟨⟨(by decide : (-9223372036854775808 : Int) ≤ 2), (by decide : (2 : Int) ≤ 9223372036854775807), (by decide : (-9223372036854775808 : Int) ≤ 0), (by decide : (0 : Int) ≤ 9223372036854775807), (by decide : (0 : Nat) < 18446744073709551616), (by decide : (-9223372036854775808 : Int) ≤ 0), (by decide : (0 : Int) ≤ 9223372036854775807), (by show (strOf _).size ≤ _; rw [strOf_size]; omega), rfl⟩, k.symm⟩
      · exact ⟨⟨(by decide : (-9223372036854775808 : Int) ≤ 3), (by decide : (3 : Int) ≤ 9223372036854775807), (by decide : (-9223372036854775808 : Int) ≤ 0), (by decide : (0 : Int) ≤ 9223372036854775807), (by decide : (0 : Nat) < 18446744073709551616), (by decide : (-9223372036854775808 : Int) ≤ 0), (by decide : (0 : Int) ≤ 9223372036854775807), hz, hh⟩, (by show 3 = f.kind; omega)⟩

theorem putV_0 (f : FieldV) (h : f.kind = 0) : putV f = Wire.num f.n := by unfold putV; rw [if_pos h]
theorem putV_1 (f : FieldV) (h : f.kind = 1) : putV f = Wire.num (Wire.zig f.i) := by unfold putV; rw [if_neg (by omega), if_pos h]
theorem putV_2 (f : FieldV) (h : f.kind = 2) : putV f = Wire.num f.s.size ++ f.s.data.toList := by unfold putV; rw [if_neg (by omega), if_neg (by omega), if_pos h]
theorem putV_3 (f : FieldV) (h : f.kind = 3) : putV f = f.h := by unfold putV; rw [if_neg (by omega), if_neg (by omega), if_neg (by omega)]

/-- What is read to its end was written so. -/
theorem getV_end (f : FieldV) (l : List UInt8) (h1 : (getV f l 0).2.1 = []) (h2 : (getV f l 0).2.2 = 0) : putV (getV f l 0).1 = l := by
  unfold getV at h1 h2 ⊢
  split at h1
  · rename_i k
    rw [if_pos k] at h2 ⊢
    have := Wire.rdNum_end h1 h2
    exact (putV_0 _ rfl).trans this
  · rename_i k0
    split at h1
    · rename_i k1
      rw [if_neg k0, if_pos k1] at h2 ⊢
      have := Wire.rdNum_end h1 h2
      refine (putV_1 _ rfl).trans ?_
      show Wire.num (Wire.zig (Wire.unzig _)) = l
      rw [Wire.zig_unzig]; exact this
    · rename_i k1
      split at h1
      · rename_i k2
        rw [if_neg k0, if_neg k1, if_pos k2] at h2 ⊢
        have := Wire.rdText_end h1 h2
        refine (putV_2 _ rfl).trans ?_
        show Wire.num (strOf _).size ++ (strOf _).data.toList = l
        rw [strOf_size, strOf_list]; exact this
      · rename_i k2
        rw [if_neg k0, if_neg k1, if_neg k2] at h2 ⊢
        have := Wire.rdHash_end h1 h2
        exact (putV_3 _ rfl).trans this

theorem str_beq (a b : List UInt8) : ((strOf a).toList == (strOf b).toList) = (a == b) := by rw [strOf_toList, strOf_toList]

end Go.Proofs.YtjlaoijmcenahaaDoor

/- The walk of modillionref02.Few. -/
namespace Go.Proofs.YtjlaoijmcenahaaDoor
open Go.RowKit

def fewOne (f : FieldV) : Bool := decide (f.s.size ≤ 300 ∧ 0 ≤ f.kind ∧ f.kind ≤ 3)
def fewB (F : List FieldV) : Bool := F.all fewOne && decide (F.length ≤ 40)

theorem rows_cell {w : World} {b o : Nat} {f : FieldV} (h : w.rangeAt b o f.cells) :
    w.cell? ⟨b, o, none⟩ = some (.int .i64 f.kind) ∧ w.cell? ⟨b, o + 1, none⟩ = some (.int .i64 f.most) ∧ w.cell? ⟨b, o + 2, none⟩ = some (.int .u64 f.n) ∧
      w.cell? ⟨b, o + 3, none⟩ = some (.int .i64 f.i) ∧ w.cell? ⟨b, o + 4, none⟩ = some (.string f.s) :=
  ⟨h 0 _ rfl, h 1 _ rfl, h 2 _ rfl, h 3 _ rfl, h 4 _ rfl⟩

theorem take_all {α : Type} {p : α → Bool} {F : List α} {k : Nat} {f : α} (hf : F[k]? = some f) (h : (F.take k).all p = true) (hp : p f = true) : (F.take (k + 1)).all p = true := by
  obtain ⟨hlt, rfl⟩ := List.getElem?_eq_some_iff.1 hf
  rw [List.take_succ_eq_append_getElem hlt, List.all_append, h, List.all_cons, hp]
  rfl

theorem few_one {F : List FieldV} {k : Nat} {f : FieldV} (h : fewB F = true) (hf : F[k]? = some f) : f.s.size ≤ 300 ∧ 0 ≤ f.kind ∧ f.kind ≤ 3 := by
  unfold fewB at h
  rw [Bool.and_eq_true] at h
  have := List.all_eq_true.1 h.1 f (List.mem_of_getElem? hf)
  unfold fewOne at this
  exact of_decide_eq_true this

theorem few_len {F : List FieldV} (h : fewB F = true) : F.length ≤ 40 := by
  unfold fewB at h
  rw [Bool.and_eq_true] at h
  exact of_decide_eq_true h.2

/-- Rows that came in stand in every later world. -/
theorem RowsAt.below {α : Type} {w w' : World} {a0 : Option Addr} {len cap c : Nat} {cells : α → List Value} {F : List α} (h : RowsAt w a0 len cap c cells F) (hb : Below w.heap.size w w') : RowsAt w' a0 len cap c cells F := by
  refine ⟨h.1, h.2.1, h.2.2.1, fun h0 => ?_⟩
  obtain ⟨b, off, h1, h2, h3⟩ := h.2.2.2 h0
  exact ⟨b, off, h1, Nat.lt_of_lt_of_le h2 hb.size, fun i f hf j v hv => (hb.cell (p := ⟨b, _, none⟩) h2).trans (h3 i f hf j v hv)⟩

theorem BelowBut.cellAt {B b c o : Nat} {w w' : World} (h : BelowBut B b w w') (hc : c < B) (hne : c ≠ b) : w'.cell? ⟨c, o, none⟩ = w.cell? ⟨c, o, none⟩ :=
  World.cell?_of_block (a := ⟨c, o, none⟩) (h.block c hc hne)

theorem range_below {w w' : World} {b o : Nat} {cs : List Value} (h : w.rangeAt b o cs) (hb : b < w.heap.size) (hw : Below w.heap.size w w') : w'.rangeAt b o cs :=
  fun j v hv => (hw.cell (p := ⟨b, _, none⟩) hb).trans (h j v hv)


end Go.Proofs.YtjlaoijmcenahaaDoor

/- When two fields are the same. -/
namespace Go.Proofs.YtjlaoijmcenahaaDoor
open Go.RowKit

def fieldEq (f g : FieldV) : Bool := f.kind == g.kind && (f.most == g.most && (((f.n : Int) == (g.n : Int)) && (f.i == g.i && (f.s.toList == g.s.toList && f.h == g.h))))

theorem cells_get (f : FieldV) : f.cells.toArray[0]? = some (.int .i64 f.kind) ∧ f.cells.toArray[1]? = some (.int .i64 f.most) ∧ f.cells.toArray[2]? = some (.int .u64 f.n) ∧ f.cells.toArray[3]? = some (.int .i64 f.i) ∧ f.cells.toArray[4]? = some (.string f.s) :=
  ⟨rfl, rfl, rfl, rfl, rfl⟩

theorem part_int (w : World) (t : TypeId) (k : IntKind) (ht : Tryd.prog.underlying t = some (.int k)) (xs : Array Value) (o : Nat) (v : Value) (h : xs[o]? = some v) : (part t xs o).run Tryd.prog w = .ok v w := by
  simp [part, isAgg, run_underlying ht, h]
theorem part_str (w : World) (t : TypeId) (ht : Tryd.prog.underlying t = some .string) (xs : Array Value) (o : Nat) (v : Value) (h : xs[o]? = some v) : (part t xs o).run Tryd.prog w = .ok v w := by
  simp [part, isAgg, run_underlying ht, h]
theorem cells_tail (f : FieldV) (hf : f.ok) : List.take 32 (List.drop 5 f.cells) = byteCells f.h := by
  have e : List.drop 5 f.cells = byteCells f.h := rfl
  rw [e]
  exact List.take_of_length_le (by rw [byteCells_length, hf.h1]; exact Nat.le_refl _)

theorem part_hash (w : World) (f : FieldV) (hf : f.ok) : (part 31 f.cells.toArray 5).run Tryd.prog w = .ok (.agg (byteCells f.h).toArray) w := by
  simp [part, isAgg, run_underlying Tryd.under_hash, cells_tail f hf]

theorem bool_if (x y : Bool) (w : World) : (if (!x) = true then (Result.ok false w : Result Bool) else .ok y w) = .ok (x && y) w := by
  cases x <;> simp

theorem Tryd.stood_field : Tryd.prog.stoodInHeld 52 = false := by kernel_rfl

theorem field_parts (d : Nat) (w : World) (xs ys : Array Value) : (Op.equalIn (d + 1) 52 (.agg xs) (.agg ys)).run Tryd.prog w =
    (Op.eqFields d xs ys [⟨ "Kind", 3, 0, false, "", "", 0⟩, ⟨ "Most", 3, 1, false, "", "", 8⟩, ⟨ "N", 50, 2, false, "", "", 16⟩, ⟨ "I", 2, 3, false, "", "", 24⟩, ⟨ "S", 9, 4, false, "", "", 32⟩, ⟨ "H", 31, 5, false, "", "", 48⟩]).run Tryd.prog w := by
  have h : Tryd.prog.fieldsOf 52 = #[⟨ "Kind", 3, 0, false, "", "", 0⟩, ⟨ "Most", 3, 1, false, "", "", 8⟩, ⟨ "N", 50, 2, false, "", "", 16⟩, ⟨ "I", 2, 3, false, "", "", 24⟩, ⟨ "S", 9, 4, false, "", "", 32⟩, ⟨ "H", 31, 5, false, "", "", 48⟩] := by
    unfold Program.fieldsOf
    rw [Tryd.underlying52]
  rw [run_equalIn_agg w d _ _ _ (by rw [h]; exact Tryd.underlying52) Tryd.stood_field, h]

theorem eq_step {P : Program} {w : World} {d : Nat} {xs ys : Array Value} {f : Field} {fs : List Field} {a b : Value} {r s : Bool} (hn : f.name ≠ "_") (ha : (part f.type xs f.offset).run P w = .ok a w)
    (hb : (part f.type ys f.offset).run P w = .ok b w) (he : (Op.equalIn d f.type a b).run P w = .ok r w) (hs : (Op.eqFields d xs ys fs).run P w = .ok s w) : (Op.eqFields d xs ys (f :: fs)).run P w = .ok (r && s) w := by
  rw [Op.eqFields, if_pos hn]
  rw [Sem.run_bind, ha, Result.andThen_ok, Sem.run_bind, hb, Result.andThen_ok, Sem.run_bind, he, Result.andThen_ok]
  cases r
  · rfl
  · simpa using hs

theorem field_equal (w : World) (f g : FieldV) (hf : f.ok) (hg : g.ok) (d : Nat) : (Op.equalIn (d + 4) 52 (.agg f.cells.toArray) (.agg g.cells.toArray)).run Tryd.prog w = .ok (fieldEq f g) w := by
  obtain ⟨f0, f1, f2, f3, f4⟩ := cells_get f
  obtain ⟨g0, g1, g2, g3, g4⟩ := cells_get g
  rw [field_parts (d + 3)]
  have h6 : (Op.eqFields (d + 3) f.cells.toArray g.cells.toArray []).run Tryd.prog w = .ok true w := rfl
  have h5 := eq_step (f := ⟨ "H", 31, 5, false, "", "", 48⟩) (by decide) (part_hash w f hf) (part_hash w g hg) (hash_equal w (d + 1) f.h g.h hf.h1 hg.h1) h6
  have h4 := eq_step (f := ⟨ "S", 9, 4, false, "", "", 32⟩) (by decide) (part_str w _ Tryd.under_string _ _ _ f4) (part_str w _ Tryd.under_string _ _ _ g4) (run_equalIn_string w _ _ _ _ Tryd.under_string) h5
  have h3 := eq_step (f := ⟨ "I", 2, 3, false, "", "", 24⟩) (by decide) (part_int w _ _ Tryd.under_i64 _ _ _ f3) (part_int w _ _ Tryd.under_i64 _ _ _ g3) (run_equalIn_int w _ _ _ _ _ _ Tryd.under_i64) h4
  have h2 := eq_step (f := ⟨ "N", 50, 2, false, "", "", 16⟩) (by decide) (part_int w _ _ Tryd.under_u64 _ _ _ f2) (part_int w _ _ Tryd.under_u64 _ _ _ g2) (run_equalIn_int w _ _ _ _ _ _ Tryd.under_u64) h3
  have h1 := eq_step (f := ⟨ "Most", 3, 1, false, "", "", 8⟩) (by decide) (part_int w _ _ Tryd.under_int _ _ _ f1) (part_int w _ _ Tryd.under_int _ _ _ g1) (run_equalIn_int w _ _ _ _ _ _ Tryd.under_int) h2
  have h0 := eq_step (f := ⟨ "Kind", 3, 0, false, "", "", 0⟩) (by decide) (part_int w _ _ Tryd.under_int _ _ _ f0) (part_int w _ _ Tryd.under_int _ _ _ g0) (run_equalIn_int w _ _ _ _ _ _ Tryd.under_int) h1
  rw [h0]
  simp only [fieldEq, Bool.and_true]

theorem field_neq (w : World) (f g : FieldV) (hf : f.ok) (hg : g.ok) : (binOp .neq 52 (.agg f.cells.toArray) (.agg g.cells.toArray)).run Tryd.prog w = .ok (.bool (!fieldEq f g)) w := by
  rw [run_neq_struct, field_equal w f g hf hg 9996]
  rfl

theorem zeroKind_ok (k : Int) (h0 : -9223372036854775808 ≤ k) (h1 : k ≤ 9223372036854775807) : ({ zeroField with kind := k } : FieldV).ok :=
  ⟨h0, h1, (by decide : (-9223372036854775808 : Int) ≤ 0), (by decide : (0 : Int) ≤ 9223372036854775807), (by decide : (0 : Nat) < 18446744073709551616), (by decide : (-9223372036854775808 : Int) ≤ 0), (by decide : (0 : Int) ≤ 9223372036854775807), Nat.zero_le _, rfl⟩

theorem fieldEq_self (f : FieldV) : fieldEq f f = true := by simp [fieldEq]
theorem _root_.Go.RowKit.Below.drewN {B : Nat} {w w' : World} (h : Below B w w') (n : Nat) : Below B w (w'.drewN n) := ⟨h.os, h.tape, h.output, h.size, h.block⟩

section
variable {P : Program} {ops : Array Oper} {w : World} {Q : Act → Prop} {a : Act} {o : Oper} {rest : List Oper}

/-- One operation of a region that draws its order and only reads: its value, whatever has been drawn. -/
theorem quiet_op (v : Value) (hw : Region.wanted o (yielded ops a.tmps) = true) (h : ∀ n, (execOp a.eval o).run P (w.drewN n) = .ok (.value v) (w.drewN n))
    (hk : wpQuiet P ops (fun w' => ∃ n, w' = w.drewN n) Q rest (a.put o.dst v)) : wpQuiet P ops (fun w' => ∃ n, w' = w.drewN n) Q (o :: rest) a := by
  refine BigFrame.wpQuiet_want hw fun K hK => ⟨v, ?_, hK _ hk⟩
  rintro _ ⟨n, rfl⟩
  unfold Oper.quietAt
  rw [h n]
  exact ⟨rfl, rfl⟩

theorem quiet_load (hw : Region.wanted o (yielded ops a.tmps) = true) (ty : TypeId) (x : Operand) (ho : o.op = .load ty x)
    (b off : Nat) (hx : a.eval x = .pointer (some ⟨b, off, none⟩)) (cs : List Value) (d : TypeDesc) (hc : w.rangeAt b off cs)
    (hu : P.underlying ty = some d) (hd : d.isRow = true) (hi : (P.info? ty).map (·.size) = some cs.length)
    (hk : wpQuiet P ops (fun w' => ∃ n, w' = w.drewN n) Q rest (a.put o.dst (.agg cs.toArray))) : wpQuiet P ops (fun w' => ∃ n, w' = w.drewN n) Q (o :: rest) a :=
  quiet_op _ hw (fun n => by
    have := run_loadVar_mid (P := P) (w.drewN n) b off ty cs d hc hu hd hi
    unfold execOp
    simp only [ho, hx, Instr.loadAt, Instr.sureAddr, Sem.run_bind, Sem.run_pure, Result.andThen_ok, this]) hk

theorem quiet_build1 (hw : Region.wanted o (yielded ops a.tmps) = true) (t : TypeId) (i : Nat) (x : Operand) (ho : o.op = .build t #[(i, x)]) (u : Value) (hx : a.eval x = u) (cs : Array Value) (hb : P.built t [(i, u)] = some cs)
    (hk : wpQuiet P ops (fun w' => ∃ n, w' = w.drewN n) Q rest (a.put o.dst (.agg cs))) : wpQuiet P ops (fun w' => ∃ n, w' = w.drewN n) Q (o :: rest) a :=
  quiet_op _ hw (fun n => by
    have e : ((#[(i, x)] : Array (Nat × Operand)).map fun (p : Nat × Operand) => (p.1, a.eval p.2)).toList = [(i, u)] := by simp [hx]
    have := run_build (P := P) (w.drewN n) t ((#[(i, x)] : Array (Nat × Operand)).map fun (p : Nat × Operand) => (p.1, a.eval p.2)) cs (by rw [e]; exact hb)
    unfold execOp
    simp only [ho]
    rw [Sem.run_bind, this]
    rfl) hk
end

theorem Tryd.eqg_field : Tryd.prog.eqGuardType Tryd.prog.depth 52 = false := by kernel_rfl

theorem quiet_neq_field {ops : Array Oper} {w : World} {Q : Act → Prop} {a : Act} {o : Oper} {rest : List Oper} (hw : Region.wanted o (yielded ops a.tmps) = true) (x y : Operand)
    (ho : o.op = .binOp .neq 52 x y 52) (f g : FieldV) (hf : f.ok) (hg : g.ok) (hx : a.eval x = .agg f.cells.toArray) (hy : a.eval y = .agg g.cells.toArray)
    (hk : wpQuiet Tryd.prog ops (fun w' => ∃ n, w' = w.drewN n) Q rest (a.put o.dst (.bool (!fieldEq f g)))) : wpQuiet Tryd.prog ops (fun w' => ∃ n, w' = w.drewN n) Q (o :: rest) a :=
  quiet_op _ hw (fun n => by
    have hgd := run_eqGuard_agg (P := Tryd.prog) (w.drewN n) .neq 52 x y f.cells.toArray g.cells.toArray Tryd.eqg_field
    have he := field_neq (w.drewN n) f g hf hg
    unfold execOp
    simp only [ho, hx, hy, Sem.run_bind, hgd, he, Result.andThen_ok, Sem.run_pure]) hk

/-- .. and outside such a region. -/
theorem wpList_neq_field {ops : Array Oper} {rest : List Oper} {op : Oper} {a : Act} {w : World} {Q : Exit → Act → World → Prop} (hgd : Region.wanted op (yielded ops a.tmps) = true) (x y : Operand) (ho : op.op = .binOp .neq 52 x y 52)
    (f g : FieldV) (hf : f.ok) (hg : g.ok) (hx : a.eval x = .agg f.cells.toArray) (hy : a.eval y = .agg g.cells.toArray)
    (h : wpList Tryd.prog ops Q rest (a.put op.dst (.bool (!fieldEq f g))) w) : wpList Tryd.prog ops Q (op :: rest) a w :=
  wpList_step fun K hK => by
    rw [if_pos hgd]
    have hg1 := run_eqGuard_agg (P := Tryd.prog) w .neq 52 x y f.cells.toArray g.cells.toArray Tryd.eqg_field
    have he := field_neq w f g hf hg
    unfold Oper.wp execOp
    simp only [ho, hx, hy, Sem.run_bind, hg1, he, Result.andThen_ok, Sem.run_pure]
    exact hK _ _ h
end Go.Proofs.YtjlaoijmcenahaaDoor
