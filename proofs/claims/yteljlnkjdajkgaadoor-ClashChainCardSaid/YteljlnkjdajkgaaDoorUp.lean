/- A region that draws its order and whose calls lay new blocks: one walk in the order of the text, in every world above the one at its start. -/
import Derived.Test.YteljlnkjdajkgaaDoorHashEq
import Derived.Deep.QuietTactic
import Derived.BigQuiet
namespace Go.Proofs.YteljlnkjdajkgaaDoor
open Go.RowKit

/-- A world above w0: w0's blocks as they were. -/
structure UpFrom (w0 : World) where
  w : World
  h : Below w0.heap.size w0 w

instance (w0 : World) : Nonempty (UpFrom w0) := ⟨⟨w0, Below.refl _ _⟩⟩

theorem wp_region_up {P : Program} {id : Nat} {Q : Exit → Act → World → Prop} {a : Act} {w : World} {l : List Oper} (hm : P.follows .mixedOrders = true) (hB : Region.lexB .any l.toArray = true)
    (h : wpQuiet P l.toArray (fun w' => ∃ p : UpFrom w, w' = p.w) (fun a' => ∀ w', (∃ p : UpFrom w, w' = p.w) → Q .normal a' w') l a) : (Code.region id l.toArray true).wp P Q a w :=
  wp_region_quiet (C := fun w' => ∃ p : UpFrom w, w' = p.w) hm hB ⟨⟨{ w with drawn := w.drawn + 1 }, (Below.refl _ w).drew⟩, rfl⟩ (by simpa using h)

theorem Calls.up_of {P : Program} {f : FuncId} {args : Array Value} {w0 : World} {p : UpFrom w0} {v : Value}
    (h : Calls P f args p.w fun e w' => e = .returned v ∧ Below p.w.heap.size p.w w') : Calls P f args p.w fun e w'' => e = .returned v ∧ ∃ q : UpFrom w0, w'' = q.w :=
  h.mono fun _ w'' ⟨he, hb⟩ => ⟨he, ⟨w'', p.h.trans (hb.mono p.h.size)⟩, rfl⟩

theorem quiet_up_load {ops : Array Oper} {w0 : World} {Q : Act → Prop} {a : Act} {o : Oper} {rest : List Oper} (hw : Region.wanted o (yielded ops a.tmps) = true) (x : Operand) (ho : o.op = .load 39 x)
    (g : Nat) (hx : a.eval x = .pointer (some ⟨g, 0, none⟩)) (l : List UInt8) (hl : l.length = 32) (t : TypeId) (fr : Nat × Nat) (hg : w0.heap[g]? = some (.cells (byteCells l).toArray t fr))
    (hk : wpQuiet Tryd.prog ops (fun w' => ∃ p : UpFrom w0, w' = p.w) Q rest (a.put o.dst (.agg (byteCells l).toArray))) : wpQuiet Tryd.prog ops (fun w' => ∃ p : UpFrom w0, w' = p.w) Q (o :: rest) a := by
  refine BigFrame.wpQuiet_want hw fun K hK => ⟨_, ?_, hK _ hk⟩
  rintro _ ⟨p, rfl⟩
  unfold Oper.quietAt execOp
  have hg' := (p.h.block g (lt_of_block hg)).trans hg
  simp only [ho, hx, Instr.loadAt, Instr.sureAddr, Sem.run_bind, Sem.run_pure, Result.andThen_ok, run_loadVar_row p.w g t 39 (byteCells l).toArray fr _ hg' Tryd.under_hh rfl (by rw [Tryd.infoH]; simp [byteCells_length, hl])]
  exact ⟨rfl, rfl⟩

theorem quiet_up_eql {ops : Array Oper} {w0 : World} {Q : Act → Prop} {a : Act} {o : Oper} {rest : List Oper} (hw : Region.wanted o (yielded ops a.tmps) = true) (x y : Operand) (ho : o.op = .binOp .eql 39 x y 39)
    (u v : List UInt8) (hu : u.length = 32) (hv : v.length = 32) (hx : a.eval x = .agg (byteCells u).toArray) (hy : a.eval y = .agg (byteCells v).toArray)
    (hk : wpQuiet Tryd.prog ops (fun w' => ∃ p : UpFrom w0, w' = p.w) Q rest (a.put o.dst (.bool (u == v)))) : wpQuiet Tryd.prog ops (fun w' => ∃ p : UpFrom w0, w' = p.w) Q (o :: rest) a := by
  refine BigFrame.wpQuiet_want hw fun K hK => ⟨_, ?_, hK _ hk⟩
  rintro _ ⟨p, rfl⟩
  have hg := run_eqGuard_agg (P := Tryd.prog) p.w .eql 39 x y (byteCells u).toArray (byteCells v).toArray Tryd.eqg_hh
  have he := hash_eql p.w u v hu hv
  unfold Oper.quietAt execOp
  simp only [ho, hx, hy, Sem.run_bind, hg, he, Result.andThen_ok, Sem.run_pure]
  exact ⟨rfl, rfl⟩

end Go.Proofs.YteljlnkjdajkgaaDoor
