/- Two sums compared; rows loaded and built under a guard that holds; the parts that hash.Of takes. -/
import Derived.Test.YteljlnkjdajkgaaDoorOf
import Derived.Stop.BytesEq
import Derived.Laws.Tables
namespace Go.Proofs.YteljlnkjdajkgaaDoor
open Go.RowKit

theorem Tryd.under_hh : Tryd.prog.underlying 39 = some (.array 32 5) := by kernel_rfl
theorem Tryd.under_bb : Tryd.prog.underlying 5 = some (.int .u8) := by kernel_rfl
theorem Tryd.size_bb (w : World) : (sizeOf 5).run Tryd.prog w = .ok 1 w := by kernel_rfl
theorem Tryd.eqg_hh : Tryd.prog.eqGuardType Tryd.prog.depth 39 = false := by kernel_rfl
theorem Tryd.infoH : (Tryd.prog.info? 39).map (·.size) = some 32 := by kernel_rfl

theorem hash_eql (w : World) (a b : List UInt8) (ha : a.length = 32) (hb : b.length = 32) :
    (binOp .eql 39 (.agg (byteCells a).toArray) (.agg (byteCells b).toArray)).run Tryd.prog w = .ok (.bool (a == b)) w :=
  run_eql_bytes w _ _ 32 Tryd.under_hh Tryd.under_bb Tryd.size_bb a b ha hb

theorem wpList_eql_hash {ops : Array Oper} {rest : List Oper} {op : Oper} {a : Act} {w : World} {Q : Exit → Act → World → Prop} (hgd : Region.wanted op (yielded ops a.tmps) = true) (x y : Operand) (ho : op.op = .binOp .eql 39 x y 39)
    (u v : List UInt8) (hu : u.length = 32) (hv : v.length = 32) (hx : a.eval x = .agg (byteCells u).toArray) (hy : a.eval y = .agg (byteCells v).toArray)
    (h : wpList Tryd.prog ops Q rest (a.put op.dst (.bool (u == v))) w) : wpList Tryd.prog ops Q (op :: rest) a w :=
  wpList_step fun K hK => by
    rw [if_pos hgd]
    have hg := run_eqGuard_agg (P := Tryd.prog) w .eql 39 x y (byteCells u).toArray (byteCells v).toArray Tryd.eqg_hh
    have he := hash_eql w u v hu hv
    unfold Oper.wp execOp
    simp only [ho, hx, hy, Sem.run_bind, hg, he, Result.andThen_ok, Sem.run_pure]
    exact hK _ _ h

/-- A sum loaded out of its own block, under a guard that holds or none. -/
theorem wpList_load_hash {ops : Array Oper} {rest : List Oper} {op : Oper} {a : Act} {w : World} {Q : Exit → Act → World → Prop} (hgd : Region.wanted op (yielded ops a.tmps) = true) (x : Operand) (ho : op.op = .load 39 x)
    (g : Nat) (hx : a.eval x = .pointer (some ⟨g, 0, none⟩)) (l : List UInt8) (hl : l.length = 32) (t : TypeId) (fr : Nat × Nat) (hg : w.heap[g]? = some (.cells (byteCells l).toArray t fr))
    (h : wpList Tryd.prog ops Q rest (a.put op.dst (.agg (byteCells l).toArray)) w) : wpList Tryd.prog ops Q (op :: rest) a w :=
  wpList_step fun _ hK => by
    rw [if_pos hgd]
    exact wp_load_row 39 x ho g hx t _ fr _ hg Tryd.under_hh rfl (by rw [Tryd.infoH]; simp [byteCells_length, hl]) (hK _ _ h)

/-- A sum of zeros, under a guard that holds or none. -/
theorem wpList_zero_hash {ops : Array Oper} {rest : List Oper} {op : Oper} {a : Act} {w : World} {Q : Exit → Act → World → Prop} (hgd : Region.wanted op (yielded ops a.tmps) = true) (ho : op.op = .build 39 #[])
    (h : wpList Tryd.prog ops Q rest (a.put op.dst (.agg (byteCells (List.replicate 32 0)).toArray)) w) : wpList Tryd.prog ops Q (op :: rest) a w :=
  wpList_step fun K hK => by
    rw [if_pos hgd]
    have hb : Tryd.prog.built 39 [] = some (byteCells (List.replicate 32 0)).toArray := by kernel_rfl
    have e : ((#[] : Array (Nat × Operand)).map fun (p : Nat × Operand) => (p.1, a.eval p.2)).toList = [] := by simp
    refine wp_build 39 #[] ho ?_ ?_
    · show (Tryd.prog.built 39 ((#[] : Array (Nat × Operand)).map fun (p : Nat × Operand) => (p.1, a.eval p.2)).toList).isSome = true
      rw [e, hb]; rfl
    · show K (a.put op.dst (.agg ((Tryd.prog.built 39 ((#[] : Array (Nat × Operand)).map fun (p : Nat × Operand) => (p.1, a.eval p.2)).toList).getD #[]))) w
      rw [e, hb]; exact hK _ _ h

theorem Mine.holds {w : World} {B : Nat} {v : Value} {l : List UInt8} (h : Mine w B v l) : Lib.HoldsBytes w v l := by
  rcases h with ⟨rfl, rfl⟩ | ⟨g, cap, rfl, _, _, _, _, h, _⟩
  · exact ⟨none, 0, rfl, fun _ => rfl, fun a ha => by cases ha⟩
  · refine ⟨some ⟨g, 0, none⟩, cap, rfl, (by intro h; cases h), fun a ha i x hx => ?_⟩
    cases ha
    have := h i _ (byteCells_get hx)
    rw [Addr.add_lit]; exact this

/-- The slice of parts that a call's own arguments make. -/
theorem parts_new (w : World) (ty : TypeId) (vs : List Value) (ls : List (List UInt8)) (n : Nat) (hv : vs.length = n) (hl : ls.length = n) (h : ∀ (i : Nat) v l, vs[i]? = some v → ls[i]? = some l → Lib.HoldsBytes w v l) :
    PartsV (w.alloc (.cells vs.toArray ty)) (.slice (some ⟨w.heap.size, 0, none⟩) n n) ls := by
  refine ⟨_, n, by rw [hl], by omega, fun _ => ⟨_, _, vs, rfl, by omega, fun i v hi => ?_, fun i v l hi hj => ?_⟩⟩
  · have := range_row (heap_alloc_new w (.cells vs.toArray ty)) i v hi
    rw [Addr.add_lit]; exact this
  · obtain ⟨p, cap, h1, h2, h3⟩ := h i v l hi hj
    refine ⟨p, cap, h1, h2, fun a ha j x hx => ?_⟩
    exact Lib.Below.cellOf ((Below.refl _ w).alloc (Nat.le_refl _) _) (h3 a ha j x hx) (Nat.le_refl _)

/-- No parts at all. -/
theorem parts_none (w : World) : PartsV w (.slice none 0 0) [] := ⟨none, 0, rfl, Nat.le_refl _, fun h => by cases h⟩

end Go.Proofs.YteljlnkjdajkgaaDoor
