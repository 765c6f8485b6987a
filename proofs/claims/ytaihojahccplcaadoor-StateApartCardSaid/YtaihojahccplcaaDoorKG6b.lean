/- Eq, SE, S3, S4, S6, S7, S8, S9, Ref, in one text. -/
import Derived.Test.YtaihojahccplcaaDoorKG6a
import Derived.Deep.QuietTactic
import Derived.BigQuiet
import Derived.Test.YtaihojahccplcaaDoorKG0b
import Derived.Test.YtaihojahccplcaaDoorKG3a
import Derived.Laws.Closers25b
import Derived.Test.YtaihojahccplcaaDoorKG0a
import Derived.Test.YtaihojahccplcaaDoorKG4a
import Derived.OwnWalk
import Derived.Deep.RegionWith
/- When two fields are the same. -/
namespace Go.Proofs.YtaihojahccplcaaDoor
open Go.RowKit

def fieldEq (f g : FieldV) : Bool := f.kind == g.kind && (f.most == g.most && (((f.n : Int) == (g.n : Int)) && (f.i == g.i && (f.s.toList == g.s.toList && f.h == g.h))))

theorem cells_get (f : FieldV) : f.cells.toArray[0]? = some (.int .i64 f.kind) ∧ f.cells.toArray[1]? = some (.int .i64 f.most) ∧ f.cells.toArray[2]? = some (.int .u64 f.n) ∧ f.cells.toArray[3]? = some (.int .i64 f.i) ∧ f.cells.toArray[4]? = some (.string f.s) :=
  ⟨rfl, rfl, rfl, rfl, rfl⟩

theorem part_int (w : World) (t : TypeId) (k : IntKind) (ht : Tryd.prog.underlying t = some (.int k)) (xs : Array Value) (o : Nat) (v : Value) (h : xs[o]? = some v) : (part t xs o).run Tryd.prog w = .ok v w := by
  simp [part, isAgg, run_underlying ht, h]
theorem part_str (w : World) (t : TypeId) (ht : Tryd.prog.underlying t = some .string) (xs : Array Value) (o : Nat) (v : Value) (h : xs[o]? = some v) : (part t xs o).run Tryd.prog w = .ok v w := by
  simp [part, isAgg, run_underlying ht, h]
theorem cells_tail (f : FieldV) (hf : f.ok) : List.take 32 (List.drop 5 f.cells) = byteCells f.h := by
  have e : List.drop 5 f.cells = byteCells f.h := rfl
  rw [e]
  exact List.take_of_length_le (by rw [byteCells_length, hf.h1]; exact Nat.le_refl _)

theorem part_hash (w : World) (f : FieldV) (hf : f.ok) : (part 27 f.cells.toArray 5).run Tryd.prog w = .ok (.agg (byteCells f.h).toArray) w := by
  simp [part, isAgg, run_underlying Tryd.under_hash, cells_tail f hf]

theorem bool_if (x y : Bool) (w : World) : (if (!x) = true then (Result.ok false w : Result Bool) else .ok y w) = .ok (x && y) w := by
  cases x <;> simp

theorem Tryd.stood_field : Tryd.prog.stoodInHeld 75 = false := by kernel_rfl

theorem field_parts (d : Nat) (w : World) (xs ys : Array Value) : (Op.equalIn (d + 1) 75 (.agg xs) (.agg ys)).run Tryd.prog w =
    (Op.eqFields d xs ys [⟨ "Kind", 3, 0, false, "", "", 0⟩, ⟨ "Most", 3, 1, false, "", "", 8⟩, ⟨ "N", 53, 2, false, "", "", 16⟩, ⟨ "I", 2, 3, false, "", "", 24⟩, ⟨ "S", 9, 4, false, "", "", 32⟩, ⟨ "H", 27, 5, false, "", "", 48⟩]).run Tryd.prog w := by
  have h : Tryd.prog.fieldsOf 75 = #[⟨ "Kind", 3, 0, false, "", "", 0⟩, ⟨ "Most", 3, 1, false, "", "", 8⟩, ⟨ "N", 53, 2, false, "", "", 16⟩, ⟨ "I", 2, 3, false, "", "", 24⟩, ⟨ "S", 9, 4, false, "", "", 32⟩, ⟨ "H", 27, 5, false, "", "", 48⟩] := by
    unfold Program.fieldsOf
    rw [Tryd.underlying75]
  rw [run_equalIn_agg w d _ _ _ (by rw [h]; exact Tryd.underlying75) Tryd.stood_field, h]

theorem eq_step {P : Program} {w : World} {d : Nat} {xs ys : Array Value} {f : Field} {fs : List Field} {a b : Value} {r s : Bool} (hn : f.name ≠ "_") (ha : (part f.type xs f.offset).run P w = .ok a w)
    (hb : (part f.type ys f.offset).run P w = .ok b w) (he : (Op.equalIn d f.type a b).run P w = .ok r w) (hs : (Op.eqFields d xs ys fs).run P w = .ok s w) : (Op.eqFields d xs ys (f :: fs)).run P w = .ok (r && s) w := by
  rw [Op.eqFields, if_pos hn]
  rw [Sem.run_bind, ha, Result.andThen_ok, Sem.run_bind, hb, Result.andThen_ok, Sem.run_bind, he, Result.andThen_ok]
  cases r
  · rfl
  · simpa using hs

theorem field_equal (w : World) (f g : FieldV) (hf : f.ok) (hg : g.ok) (d : Nat) : (Op.equalIn (d + 4) 75 (.agg f.cells.toArray) (.agg g.cells.toArray)).run Tryd.prog w = .ok (fieldEq f g) w := by
  obtain ⟨f0, f1, f2, f3, f4⟩ := cells_get f
  obtain ⟨g0, g1, g2, g3, g4⟩ := cells_get g
  rw [field_parts (d + 3)]
  have h6 : (Op.eqFields (d + 3) f.cells.toArray g.cells.toArray []).run Tryd.prog w = .ok true w := rfl
  have h5 := eq_step (f := ⟨ "H", 27, 5, false, "", "", 48⟩) (by decide) (part_hash w f hf) (part_hash w g hg) (hash_equal w (d + 1) f.h g.h hf.h1 hg.h1) h6
  have h4 := eq_step (f := ⟨ "S", 9, 4, false, "", "", 32⟩) (by decide) (part_str w _ Tryd.under_string _ _ _ f4) (part_str w _ Tryd.under_string _ _ _ g4) (run_equalIn_string w _ _ _ _ Tryd.under_string) h5
  have h3 := eq_step (f := ⟨ "I", 2, 3, false, "", "", 24⟩) (by decide) (part_int w _ _ Tryd.under_i64 _ _ _ f3) (part_int w _ _ Tryd.under_i64 _ _ _ g3) (run_equalIn_int w _ _ _ _ _ _ Tryd.under_i64) h4
  have h2 := eq_step (f := ⟨ "N", 53, 2, false, "", "", 16⟩) (by decide) (part_int w _ _ Tryd.under_u64 _ _ _ f2) (part_int w _ _ Tryd.under_u64 _ _ _ g2) (run_equalIn_int w _ _ _ _ _ _ Tryd.under_u64) h3
  have h1 := eq_step (f := ⟨ "Most", 3, 1, false, "", "", 8⟩) (by decide) (part_int w _ _ Tryd.under_int _ _ _ f1) (part_int w _ _ Tryd.under_int _ _ _ g1) (run_equalIn_int w _ _ _ _ _ _ Tryd.under_int) h2
  have h0 := eq_step (f := ⟨ "Kind", 3, 0, false, "", "", 0⟩) (by decide) (part_int w _ _ Tryd.under_int _ _ _ f0) (part_int w _ _ Tryd.under_int _ _ _ g0) (run_equalIn_int w _ _ _ _ _ _ Tryd.under_int) h1
  rw [h0]
  simp only [fieldEq, Bool.and_true]

theorem field_neq (w : World) (f g : FieldV) (hf : f.ok) (hg : g.ok) : (binOp .neq 75 (.agg f.cells.toArray) (.agg g.cells.toArray)).run Tryd.prog w = .ok (.bool (!fieldEq f g)) w := by
  rw [run_neq_struct, field_equal w f g hf hg 9996]
  rfl

theorem zeroKind_ok (k : Int) (h0 : -9223372036854775808 ≤ k) (h1 : k ≤ 9223372036854775807) : ({ zeroField with kind := k } : FieldV).ok :=
  ⟨h0, h1, (by decide : (-9223372036854775808 : Int) ≤ 0), (by decide : (0 : Int) ≤ 9223372036854775807), (by decide : (0 : Nat) < 18446744073709551616), (by decide : (-9223372036854775808 : Int) ≤ 0), (by decide : (0 : Int) ≤ 9223372036854775807), Nat.zero_le _, rfl⟩

theorem fieldEq_self (f : FieldV) : fieldEq f f = true := by simp [fieldEq]
theorem _root_.Go.RowKit.Below.drewN {B : Nat} {w w' : World} (h : Below B w w') (n : Nat) : Below B w (w'.drewN n) := ⟨h.os, h.tape, h.output, h.size, h.block⟩

section
variable {P : Program} {ops : Array Oper} {w : World} {Q : Act → Prop} {a : Act} {o : Oper} {rest : List Oper}

/-- One operation of a region that draws its order and only reads: its value, whatever has been drawn. -/
theorem quiet_op (v : Value) (hw : Region.wanted o (yielded ops a.tmps) = true) (h : ∀ n, (execOp a.eval o).run P (w.drewN n) = .ok (.value v) (w.drewN n))
    (hk : wpQuiet P ops (fun w' => ∃ n, w' = w.drewN n) Q rest (a.put o.dst v)) : wpQuiet P ops (fun w' => ∃ n, w' = w.drewN n) Q (o :: rest) a := by
  refine BigFrame.wpQuiet_want hw fun K hK => ⟨v, ?_, hK _ hk⟩
  rintro _ ⟨n, rfl⟩
  unfold Oper.quietAt
  rw [h n]
  exact ⟨rfl, rfl⟩

theorem quiet_load (hw : Region.wanted o (yielded ops a.tmps) = true) (ty : TypeId) (x : Operand) (ho : o.op = .load ty x)
    (b off : Nat) (hx : a.eval x = .pointer (some ⟨b, off, none⟩)) (cs : List Value) (d : TypeDesc) (hc : w.rangeAt b off cs)
    (hu : P.underlying ty = some d) (hd : d.isRow = true) (hi : (P.info? ty).map (·.size) = some cs.length)
    (hk : wpQuiet P ops (fun w' => ∃ n, w' = w.drewN n) Q rest (a.put o.dst (.agg cs.toArray))) : wpQuiet P ops (fun w' => ∃ n, w' = w.drewN n) Q (o :: rest) a :=
  quiet_op _ hw (fun n => by
    have := run_loadVar_mid (P := P) (w.drewN n) b off ty cs d hc hu hd hi
    unfold execOp
    simp only [ho, hx, Instr.loadAt, Instr.sureAddr, Sem.run_bind, Sem.run_pure, Result.andThen_ok, this]) hk

theorem quiet_build1 (hw : Region.wanted o (yielded ops a.tmps) = true) (t : TypeId) (i : Nat) (x : Operand) (ho : o.op = .build t #[(i, x)]) (u : Value) (hx : a.eval x = u) (cs : Array Value) (hb : P.built t [(i, u)] = some cs)
    (hk : wpQuiet P ops (fun w' => ∃ n, w' = w.drewN n) Q rest (a.put o.dst (.agg cs))) : wpQuiet P ops (fun w' => ∃ n, w' = w.drewN n) Q (o :: rest) a :=
  quiet_op _ hw (fun n => by
    have e : ((#[(i, x)] : Array (Nat × Operand)).map fun (p : Nat × Operand) => (p.1, a.eval p.2)).toList = [(i, u)] := by simp [hx]
    have := run_build (P := P) (w.drewN n) t ((#[(i, x)] : Array (Nat × Operand)).map fun (p : Nat × Operand) => (p.1, a.eval p.2)) cs (by rw [e]; exact hb)
    unfold execOp
    simp only [ho]
    rw [Sem.run_bind, this]
    rfl) hk
end

theorem Tryd.eqg_field : Tryd.prog.eqGuardType Tryd.prog.depth 75 = false := by kernel_rfl

theorem quiet_neq_field {ops : Array Oper} {w : World} {Q : Act → Prop} {a : Act} {o : Oper} {rest : List Oper} (hw : Region.wanted o (yielded ops a.tmps) = true) (x y : Operand)
    (ho : o.op = .binOp .neq 75 x y 75) (f g : FieldV) (hf : f.ok) (hg : g.ok) (hx : a.eval x = .agg f.cells.toArray) (hy : a.eval y = .agg g.cells.toArray)
    (hk : wpQuiet Tryd.prog ops (fun w' => ∃ n, w' = w.drewN n) Q rest (a.put o.dst (.bool (!fieldEq f g)))) : wpQuiet Tryd.prog ops (fun w' => ∃ n, w' = w.drewN n) Q (o :: rest) a :=
  quiet_op _ hw (fun n => by
    have hgd := run_eqGuard_agg (P := Tryd.prog) (w.drewN n) .neq 75 x y f.cells.toArray g.cells.toArray Tryd.eqg_field
    have he := field_neq (w.drewN n) f g hf hg
    unfold execOp
    simp only [ho, hx, hy, Sem.run_bind, hgd, he, Result.andThen_ok, Sem.run_pure]) hk

/-- .. and outside such a region. -/
theorem wpList_neq_field {ops : Array Oper} {rest : List Oper} {op : Oper} {a : Act} {w : World} {Q : Exit → Act → World → Prop} (hgd : Region.wanted op (yielded ops a.tmps) = true) (x y : Operand) (ho : op.op = .binOp .neq 75 x y 75)
    (f g : FieldV) (hf : f.ok) (hg : g.ok) (hx : a.eval x = .agg f.cells.toArray) (hy : a.eval y = .agg g.cells.toArray)
    (h : wpList Tryd.prog ops Q rest (a.put op.dst (.bool (!fieldEq f g))) w) : wpList Tryd.prog ops Q (op :: rest) a w :=
  wpList_step fun K hK => by
    rw [if_pos hgd]
    have hg1 := run_eqGuard_agg (P := Tryd.prog) w .neq 75 x y f.cells.toArray g.cells.toArray Tryd.eqg_field
    have he := field_neq w f g hf hg
    unfold Oper.wp execOp
    simp only [ho, hx, hy, Sem.run_bind, hg1, he, Result.andThen_ok, Sem.run_pure]
    exact hK _ _ h
end Go.Proofs.YtaihojahccplcaaDoor

/- Vertices: loaded, stored, built, compared. -/
namespace Go.Proofs.YtaihojahccplcaaDoor
open Go.RowKit
set_option linter.unusedSimpArgs false
set_option linter.unusedVariables false

theorem Tryd.stood_vx : Tryd.prog.stoodInHeld 36 = false := by kernel_rfl
theorem Tryd.eqg_vx : Tryd.prog.eqGuardType Tryd.prog.depth 36 = false := by kernel_rfl

theorem part_bool (w : World) (t : TypeId) (ht : Tryd.prog.underlying t = some .bool) (xs : Array Value) (o : Nat) (v : Value) (h : xs[o]? = some v) : (part t xs o).run Tryd.prog w = .ok v w := by
  simp [part, isAgg, run_underlying ht, h]

theorem vertex_parts (d : Nat) (w : World) (xs ys : Array Value) : (Op.equalIn (d + 1) 36 (.agg xs) (.agg ys)).run Tryd.prog w =
    (Op.eqFields d xs ys [⟨ "ID", 3, 0, false, "", "", 0⟩, ⟨ "Value", 2, 1, false, "", "", 8⟩, ⟨ "Active", 4, 2, false, "", "", 16⟩, ⟨ "Has", 4, 3, false, "", "", 17⟩, ⟨ "In", 2, 4, false, "", "", 24⟩]).run Tryd.prog w := by
  have h : Tryd.prog.fieldsOf 36 = #[⟨ "ID", 3, 0, false, "", "", 0⟩, ⟨ "Value", 2, 1, false, "", "", 8⟩, ⟨ "Active", 4, 2, false, "", "", 16⟩, ⟨ "Has", 4, 3, false, "", "", 17⟩, ⟨ "In", 2, 4, false, "", "", 24⟩] := by
    unfold Program.fieldsOf
    rw [Tryd.underlying36]
  rw [run_equalIn_agg w d _ _ _ (by rw [h]; exact Tryd.underlying36) Tryd.stood_vx, h]

theorem vertex_eq_iff (f g : St.V) : (f.id == g.id && (f.value == g.value && (f.active == g.active && (f.has == g.has && f.inn == g.inn)))) = decide (f = g) := by
  obtain ⟨a, b, c, d, e⟩ := f
  obtain ⟨a', b', c', d', e'⟩ := g
  rw [Bool.eq_iff_iff]
  simp only [Bool.and_eq_true, beq_iff_eq, decide_eq_true_eq, St.V.mk.injEq]

theorem vertex_equal (w : World) (f g : St.V) (d : Nat) : (Op.equalIn (d + 4) 36 (.agg (VertexV.cells f).toArray) (.agg (VertexV.cells g).toArray)).run Tryd.prog w = .ok (decide (f = g)) w := by
  rw [vertex_parts (d + 3)]
  have h5 : (Op.eqFields (d + 3) (VertexV.cells f).toArray (VertexV.cells g).toArray []).run Tryd.prog w = .ok true w := rfl
  have h4 := eq_step (f := ⟨ "In", 2, 4, false, "", "", 24⟩) (by decide) (part_int w _ _ Tryd.under_i64 (VertexV.cells f).toArray 4 (.int .i64 f.inn) rfl) (part_int w _ _ Tryd.under_i64 (VertexV.cells g).toArray 4 (.int .i64 g.inn) rfl) (run_equalIn_int w _ _ _ _ _ _ Tryd.under_i64) h5
  have h3 := eq_step (f := ⟨ "Has", 4, 3, false, "", "", 17⟩) (by decide) (part_bool w _ Tryd.under_bool (VertexV.cells f).toArray 3 (.bool f.has) rfl) (part_bool w _ Tryd.under_bool (VertexV.cells g).toArray 3 (.bool g.has) rfl) (run_equalIn_bool w _ _ _ _ Tryd.under_bool) h4
  have h2 := eq_step (f := ⟨ "Active", 4, 2, false, "", "", 16⟩) (by decide) (part_bool w _ Tryd.under_bool (VertexV.cells f).toArray 2 (.bool f.active) rfl) (part_bool w _ Tryd.under_bool (VertexV.cells g).toArray 2 (.bool g.active) rfl) (run_equalIn_bool w _ _ _ _ Tryd.under_bool) h3
  have h1 := eq_step (f := ⟨ "Value", 2, 1, false, "", "", 8⟩) (by decide) (part_int w _ _ Tryd.under_i64 (VertexV.cells f).toArray 1 (.int .i64 f.value) rfl) (part_int w _ _ Tryd.under_i64 (VertexV.cells g).toArray 1 (.int .i64 g.value) rfl) (run_equalIn_int w _ _ _ _ _ _ Tryd.under_i64) h2
  have h0 := eq_step (f := ⟨ "ID", 3, 0, false, "", "", 0⟩) (by decide) (part_int w _ _ Tryd.under_int (VertexV.cells f).toArray 0 (.int .i64 f.id) rfl) (part_int w _ _ Tryd.under_int (VertexV.cells g).toArray 0 (.int .i64 g.id) rfl) (run_equalIn_int w _ _ _ _ _ _ Tryd.under_int) h1
  rw [h0, ← vertex_eq_iff, Bool.and_true]

theorem vertex_eql (w : World) (f g : St.V) : (binOp .eql 36 (.agg (VertexV.cells f).toArray) (.agg (VertexV.cells g).toArray)).run Tryd.prog w = .ok (.bool (decide (f = g))) w := by
  rw [run_eql_struct, vertex_equal w f g 9996]
  rfl

theorem wpList_eql_vx {ops : Array Oper} {rest : List Oper} {op : Oper} {a : Act} {w : World} {Q : Exit → Act → World → Prop} (hgd : Region.wanted op (yielded ops a.tmps) = true) (x y : Operand) (ho : op.op = .binOp .eql 36 x y 36)
    (f g : St.V) (hx : a.eval x = .agg (VertexV.cells f).toArray) (hy : a.eval y = .agg (VertexV.cells g).toArray)
    (h : wpList Tryd.prog ops Q rest (a.put op.dst (.bool (decide (f = g)))) w) : wpList Tryd.prog ops Q (op :: rest) a w :=
  wpList_step fun K hK => by
    rw [if_pos hgd]
    have hg1 := run_eqGuard_agg (P := Tryd.prog) w .eql 36 x y (VertexV.cells f).toArray (VertexV.cells g).toArray Tryd.eqg_vx
    have he := vertex_eql w f g
    unfold Oper.wp execOp
    simp only [ho, hx, hy, Sem.run_bind, hg1, he, Result.andThen_ok, Sem.run_pure]
    exact hK _ _ h

/-- A vertex loaded out of its own block, under a guard that holds or none. -/
theorem wpList_load_vx {ops : Array Oper} {rest : List Oper} {op : Oper} {a : Act} {w : World} {Q : Exit → Act → World → Prop} (hgd : Region.wanted op (yielded ops a.tmps) = true) (x : Operand) (ho : op.op = .load 36 x)
    (g : Nat) (hx : a.eval x = .pointer (some ⟨g, 0, none⟩)) (l : St.V) (hg : w.heap[g]? = some (.cells (VertexV.cells l).toArray 36 (0, 0)))
    (h : wpList Tryd.prog ops Q rest (a.put op.dst (.agg (VertexV.cells l).toArray)) w) : wpList Tryd.prog ops Q (op :: rest) a w :=
  wpList_step fun _ hK => by
    obtain ⟨fs, hfs⟩ := Tryd.under_vx
    rw [if_pos hgd]
    exact wp_load_row 36 x ho g hx _ _ _ _ hg hfs rfl (by rw [Tryd.size_vx]; rfl) (hK _ _ h)

/-- A vertex loaded out of a row, under a guard that holds or none. -/
theorem wpList_load_vRow {ops : Array Oper} {rest : List Oper} {op : Oper} {a : Act} {w : World} {Q : Exit → Act → World → Prop} (hgd : Region.wanted op (yielded ops a.tmps) = true) (x : Operand) (ho : op.op = .load 36 x)
    (g off : Nat) (hx : a.eval x = .pointer (some ⟨g, off, none⟩)) (l : St.V) (hg : w.rangeAt g off (VertexV.cells l))
    (h : wpList Tryd.prog ops Q rest (a.put op.dst (.agg (VertexV.cells l).toArray)) w) : wpList Tryd.prog ops Q (op :: rest) a w := by
  obtain ⟨fs, hfs⟩ := Tryd.under_vx
  exact wpList_load_mid_g hgd 36 x ho g off hx (VertexV.cells l) _ hg hfs rfl (by rw [Tryd.size_vx]; rfl) h

/-- A vertex stored in its own block. -/
theorem wpList_store_vx {ops : Array Oper} {rest : List Oper} {o : Oper} {a : Act} {w : World} {Q : Exit → Act → World → Prop} (hgd : o.guard = none) (x y : Operand) (ho : o.op = .store 36 x y)
    (g : Nat) (l : St.V) (hx : a.eval x = .pointer (some ⟨g, 0, none⟩)) (hy : a.eval y = .agg (VertexV.cells l).toArray)
    (old : Array Value) (hg : w.heap[g]? = some (.cells old 36 (0, 0))) (hold : old.size = 5)
    (h : wpList Tryd.prog ops Q rest (a.put o.dst undef) (w.setRow g (VertexV.cells l).toArray)) : wpList Tryd.prog ops Q (o :: rest) a w :=
  wpList_store_row hgd _ x y ho g (VertexV.cells l).toArray hx hy _ old hg (by rw [Tryd.size_vx]; rfl) (by rw [hold]; rfl) (by
    rw [Array.all_eq_true_iff_forall_mem]
    intro v hv
    exact VertexV.one l v (by simpa using hv)) h

theorem vset_heap {w : World} {g : Nat} {old : Array Value} (l : St.V) (hg : w.heap[g]? = some (.cells old 36 (0, 0))) : (w.setRow g (VertexV.cells l).toArray).heap[g]? = some (.cells (VertexV.cells l).toArray 36 (0, 0)) :=
  setRow_heap w g old (VertexV.cells l).toArray 36 (0, 0) hg

theorem VertexV.size (l : St.V) : (VertexV.cells l).toArray.size = 5 := rfl

theorem vertex_built0 : Tryd.prog.built 36 [] = some (VertexV.cells St.none).toArray := by kernel_rfl
theorem vertex_built5 (x : St.V) : Tryd.prog.built 36 [(0, .int .i64 x.id), (1, .int .i64 x.value), (2, .bool x.active), (3, .bool x.has), (4, .int .i64 x.inn)] = some (VertexV.cells x).toArray := by
  obtain ⟨a, b, c, d, e⟩ := x
  kernel_rfl

/-- A vertex built of five. -/
theorem wpList_build_vx5 {ops : Array Oper} {rest : List Oper} {o : Oper} {a : Act} {w : World} {Q : Exit → Act → World → Prop} (hg : o.guard = none) (x0 x1 x2 x3 x4 : Operand) (ho : o.op = .build 36 #[(0, x0), (1, x1), (2, x2), (3, x3), (4, x4)])
    (x : St.V) (h0 : a.eval x0 = .int .i64 x.id) (h1 : a.eval x1 = .int .i64 x.value) (h2 : a.eval x2 = .bool x.active) (h3 : a.eval x3 = .bool x.has) (h4 : a.eval x4 = .int .i64 x.inn)
    (h : wpList Tryd.prog ops Q rest (a.put o.dst (.agg (VertexV.cells x).toArray)) w) : wpList Tryd.prog ops Q (o :: rest) a w := by
  have e : ((#[(0, x0), (1, x1), (2, x2), (3, x3), (4, x4)] : Array (Nat × Operand)).map fun (p : Nat × Operand) => (p.1, a.eval p.2)).toList = [(0, .int .i64 x.id), (1, .int .i64 x.value), (2, .bool x.active), (3, .bool x.has), (4, .int .i64 x.inn)] := by
    simp [h0, h1, h2, h3, h4]
  refine wpList_build hg 36 #[(0, x0), (1, x1), (2, x2), (3, x3), (4, x4)] ho ?_ ?_
  · show (Tryd.prog.built 36 ((#[(0, x0), (1, x1), (2, x2), (3, x3), (4, x4)] : Array (Nat × Operand)).map fun (p : Nat × Operand) => (p.1, a.eval p.2)).toList).isSome = true
    rw [e, vertex_built5]; rfl
  · show wpList Tryd.prog ops Q rest (a.put o.dst (.agg ((Tryd.prog.built 36 ((#[(0, x0), (1, x1), (2, x2), (3, x3), (4, x4)] : Array (Nat × Operand)).map fun (p : Nat × Operand) => (p.1, a.eval p.2)).toList).getD #[]))) w
    rw [e, vertex_built5]; exact h

end Go.Proofs.YtaihojahccplcaaDoor

/- Vertices: state.Put. -/
namespace Go.Proofs.YtaihojahccplcaaDoor
open Go.RowKit
set_option linter.unusedSimpArgs false
set_option linter.unusedVariables false

theorem St.right_ok {x : St.V} (h : St.right x = true) : x.ok := by
  obtain ⟨h1, h2, h3, h4, h5⟩ := St.right_iff.1 h
  obtain ⟨v1, v2⟩ := St.great_iff.1 h3
  obtain ⟨n1, n2⟩ := St.great_iff.1 h4
  exact ⟨⟨by omega, by omega⟩, ⟨by omega, by omega⟩, ⟨by omega, by omega⟩⟩

theorem vertex_box (w : World) (x : St.V) (W : World) (hW : W = w.alloc (.cells (VertexV.cells x).toArray 36)) :
    W.heap[w.heap.size]? = some (.cells (VertexV.cells x).toArray 36 (0, 0)) := by rw [hW]; exact heap_alloc_new w _

theorem vertex_at {w : World} {g : Nat} {x : St.V} (h : w.heap[g]? = some (.cells (VertexV.cells x).toArray 36 (0, 0))) :
    w.cell? ⟨g, 0, none⟩ = some (.int .i64 x.id) ∧ w.cell? ⟨g, 1, none⟩ = some (.int .i64 x.value) ∧ w.cell? ⟨g, 2, none⟩ = some (.bool x.active) ∧ w.cell? ⟨g, 3, none⟩ = some (.bool x.has) ∧ w.cell? ⟨g, 4, none⟩ = some (.int .i64 x.inn) := by
  refine ⟨?_, ?_, ?_, ?_, ?_⟩ <;> simp [World.cell?, h, VertexV.cells]

set_option maxRecDepth 100000 in
set_option maxHeartbeats 2000000 in
theorem stPut_any (w : World) (x : St.V) : Calls Tryd.prog 14 #[.agg (VertexV.cells x).toArray] w fun e w' => e = .returned (.string (strOf (St.put x))) ∧ Below w.heap.size w w' := by
  obtain ⟨e0, he0⟩ : ∃ e0 : Value, e0 = .string (strOf (St.put x)) := ⟨_, rfl⟩
  rw [← he0]
  have HE := Lib.hid he0; clear he0
  obtain ⟨W, hW⟩ : ∃ W, W = w.alloc (.cells (VertexV.cells x).toArray 36) := ⟨_, rfl⟩
  have X0 := Lib.hid (vertex_box w x W hW)
  have bw : Below w.heap.size w W := by rw [hW]; exact (Below.refl _ _).alloc (Nat.le_refl _) _
  have sw : W.heap.size = w.heap.size + 1 := by rw [hW]; simp
  have HW := Lib.hid hW; clear hW
  have hck := stCheck_any W x
  rcases hr : St.right x with _ | _
  · rw [hr] at hck
    have HC := Lib.hid hck; clear hck
    have HR := Lib.hid hr; clear hr
    go_enter Tryd.func14, Tryd.ntmps14
    go_wp2_with (first | ((with_reducible show wpList _ _ _ (⟨some 4, _, _, _, _, _⟩ :: _) _ _); change wpList _ _ _ _ _ (w.alloc (.cells (VertexV.cells x).toArray 36)); rw [← HW.out]; refine wpList_load_vx (by kernel_rfl) _ rfl w.heap.size rfl x X0.out ?_))
    refine HC.out.mono ?_
    rintro e w1 ⟨rfl, b1⟩
    go_wp2_with fail
    go_ret
    exact ⟨by rw [HE.out, St.put, HR.out]; rfl, bw.trans (b1.mono bw.size)⟩
  · rw [hr] at hck
    obtain ⟨h1, h2, h3, h4, h5⟩ := St.right_iff.1 hr
    obtain ⟨v1, v2⟩ := St.great_iff.1 h3
    obtain ⟨n1, n2⟩ := St.great_iff.1 h4
    clear h3 h4 h5
    have HC := Lib.hid hck; clear hck
    have hput : St.put x = Wire.num x.id.toNat ++ (Wire.num (Wire.zig x.value) ++ (Wire.num (St.bit x.active) ++ (Wire.num (St.bit x.has) ++ Wire.num (Wire.zig x.inn)))) := by rw [St.put, hr, if_pos rfl, St.bytes]; simp only [List.append_assoc]
    have HR := Lib.hid hr; clear hr
    have l1 := Wire.num_length x.id.toNat (by omega)
    have l2 := Wire.num_length (Wire.zig x.value) (Wire.zig_lt _ (by omega) (by omega))
    have l3 := Wire.num_length (St.bit x.active) (by have := St.bit_lt x.active; omega)
    have l4 := Wire.num_length (St.bit x.has) (by have := St.bit_lt x.has; omega)
    have ba := St.bit_lt x.active
    have bh := St.bit_lt x.has
    obtain ⟨id, value, active, has, inn⟩ := x
    simp only at h1 h2 v1 v2 n1 n2 l1 l2 l3 l4 ba bh hput
    obtain ⟨n, rfl⟩ : ∃ n : Nat, id = (n : Int) := ⟨id.toNat, by omega⟩
    rw [Int.toNat_natCast] at l1 hput
    have hu : IntKind.u64.wrap (n : Int) = (n : Int) := by rw [IntKind.wrap_u64]; omega
    have HPUT := Lib.hid hput; clear hput
    go_enter Tryd.func14, Tryd.ntmps14
    go_wp2_with (first | ((with_reducible show wpList _ _ _ (⟨some 4, _, _, _, _, _⟩ :: _) _ _); change wpList _ _ _ _ _ (w.alloc (.cells (VertexV.cells ⟨(n : Int), value, active, has, inn⟩).toArray 36)); rw [← HW.out]; refine wpList_load_vx (by kernel_rfl) _ rfl w.heap.size rfl _ X0.out ?_))
    refine HC.out.mono ?_
    rintro e w1 ⟨rfl, b1⟩
    have x1 := (b1.block _ (lt_of_block X0.out)).trans X0.out
    have hlt := lt_of_block x1
    clear X0 HC
    have X1 := Lib.hid x1; clear x1
    have bw1 := bw.trans (b1.mono bw.size)
    clear b1 bw
    go_wp2_with fail
    refine (newOut_any w1).mono ?_
    rintro e w2 ⟨rfl, hw2⟩
    have o2 := OutIs.fresh w1 w1.heap.size
    rw [← hw2] at o2
    have d2 : Below w1.heap.size w1 w2 := by rw [hw2]; exact (Below.refl _ _).alloc (Nat.le_refl _) _
    clear hw2
    have O2 := Lib.hid o2; clear o2
    obtain ⟨k0, -, -, -, -⟩ := vertex_at ((d2.block _ hlt).trans X1.out)
    go_wp2_with fail
    refine (outNum_any n (by omega) _ _ _ w2 O2.out d2.size (by simp)).mono ?_
    rintro e w3 ⟨rfl, o3, b3⟩
    clear k0 O2
    have d3 := d2.trans ((b3.below (Nat.le_refl _)).mono (Nat.le_refl _))
    clear d2 b3
    have O3 := Lib.hid o3; clear o3
    obtain ⟨-, k1, -, -, -⟩ := vertex_at ((d3.block _ hlt).trans X1.out)
    go_wp2_with fail
    refine (outInt_any value (by omega) (by omega) _ _ _ w3 O3.out d3.size (by simp only [List.length_append, List.length_nil]; omega)).mono ?_
    rintro e w4 ⟨rfl, o4, b4⟩
    clear k1 O3
    have d4 := d3.trans ((b4.below (Nat.le_refl _)).mono (Nat.le_refl _))
    clear d3 b4
    have O4 := Lib.hid o4; clear o4
    obtain ⟨-, -, k2, -, -⟩ := vertex_at ((d4.block _ hlt).trans X1.out)
    go_wp2_with fail
    refine (stBit_any w4 active).mono ?_
    rintro e w' ⟨rfl, rfl⟩
    go_wp2_with fail
    refine (outNum_any _ (by omega) _ _ _ w4 O4.out d4.size (by simp only [List.length_append, List.length_nil]; omega)).mono ?_
    rintro e w5 ⟨rfl, o5, b5⟩
    clear k2 O4
    have d5 := d4.trans ((b5.below (Nat.le_refl _)).mono (Nat.le_refl _))
    clear d4 b5
    have O5 := Lib.hid o5; clear o5
    obtain ⟨-, -, -, k3, -⟩ := vertex_at ((d5.block _ hlt).trans X1.out)
    go_wp2_with fail
    refine (stBit_any w5 has).mono ?_
    rintro e w' ⟨rfl, rfl⟩
    go_wp2_with fail
    refine (outNum_any _ (by omega) _ _ _ w5 O5.out d5.size (by simp only [List.length_append, List.length_nil]; omega)).mono ?_
    rintro e w6 ⟨rfl, o6, b6⟩
    clear k3 O5
    have d6 := d5.trans ((b6.below (Nat.le_refl _)).mono (Nat.le_refl _))
    clear d5 b6
    have O6 := Lib.hid o6; clear o6
    obtain ⟨-, -, -, -, k4⟩ := vertex_at ((d6.block _ hlt).trans X1.out)
    go_wp2_with fail
    refine (outInt_any inn (by omega) (by omega) _ _ _ w6 O6.out d6.size (by simp only [List.length_append, List.length_nil]; omega)).mono ?_
    rintro e w7 ⟨rfl, o7, b7⟩
    clear k4 O6
    have d7 := d6.trans ((b7.below (Nat.le_refl _)).mono (Nat.le_refl _))
    clear d6 b7
    have O7 := Lib.hid o7; clear o7
    go_wp2_with fail
    refine (outDone_any _ _ _ w7 O7.out).mono ?_
    rintro e w' ⟨rfl, rfl⟩
    go_wp2_with fail
    go_ret
    exact ⟨by rw [HE.out, HPUT.out]; rfl, bw1.trans (d7.mono bw1.size)⟩

end Go.Proofs.YtaihojahccplcaaDoor

/- Vertices: state.Get. -/
namespace Go.Proofs.YtaihojahccplcaaDoor
open Go.RowKit
set_option linter.unusedSimpArgs false
set_option linter.unusedVariables false

theorem rdNum_len (l : List UInt8) (e : Nat) : (Wire.rdNum l e).2.1.length ≤ l.length := by
  unfold Wire.rdNum
  split
  · exact Nat.le_refl _
  · split
    · exact Nat.le_refl _
    · show (List.drop _ l).length ≤ _
      rw [List.length_drop]; omega

/-- What is returned: the vertex in its cell, and a number. -/
theorem results_vx {fn : Func} {p u : Tmp} (h : fn.results = #[.cell p 36, .tmp u]) (tmps : Array Value) (w : World) (g : Nat) (x : St.V)
    (hp : tmps.getD p undef = .pointer (some ⟨g, 0, none⟩)) (hg : w.heap[g]? = some (.cells (VertexV.cells x).toArray 36 (0, 0))) :
    (results fn tmps).run Tryd.prog w = .ok (.tuple #[.agg (VertexV.cells x).toArray, tmps.getD u undef]) w := by
  obtain ⟨fs, hfs⟩ := Tryd.under_vx
  exact results_row2 h tmps w g _ _ _ _ hp hg hfs rfl (by rw [Tryd.size_vx]; rfl)

set_option maxRecDepth 100000 in
set_option maxHeartbeats 4000000 in
theorem stGet_any (w : World) (l : List UInt8) (hl : l.length ≤ maxLen) : Calls Tryd.prog 19 #[.string (strOf l)] w fun e w' => e = .returned (.tuple #[.agg (VertexV.cells (St.get 100 l).1).toArray, .int .i64 ((St.get 100 l).2 : Int)]) ∧ Below w.heap.size w w' := by
  obtain ⟨r0, hr0⟩ : ∃ r0, r0 = St.get 100 l := ⟨_, rfl⟩
  rw [← hr0]
  obtain ⟨a, ha⟩ : ∃ a, a = Wire.rdNum l 0 := ⟨_, rfl⟩
  obtain ⟨b, hb⟩ : ∃ b, b = Wire.rdNum a.2.1 a.2.2 := ⟨_, rfl⟩
  obtain ⟨c, hc⟩ : ∃ c, c = Wire.rdNum b.2.1 b.2.2 := ⟨_, rfl⟩
  obtain ⟨d, hd⟩ : ∃ d, d = Wire.rdNum c.2.1 c.2.2 := ⟨_, rfl⟩
  obtain ⟨e, he⟩ : ∃ e, e = Wire.rdNum d.2.1 d.2.2 := ⟨_, rfl⟩
  have la : a.2.1.length ≤ maxLen := by rw [ha]; exact Nat.le_trans (rdNum_len _ _) hl
  have lb : b.2.1.length ≤ maxLen := by rw [hb]; exact Nat.le_trans (rdNum_len _ _) la
  have lc : c.2.1.length ≤ maxLen := by rw [hc]; exact Nat.le_trans (rdNum_len _ _) lb
  have ld : d.2.1.length ≤ maxLen := by rw [hd]; exact Nat.le_trans (rdNum_len _ _) lc
  have hg : r0 = (if e.2.2 ≠ 0 then (St.none, e.2.2) else if e.2.1 ≠ [] then (St.none, 22) else if 1 < c.1 ∨ 1 < d.1 ∨ St.right (St.made a.1 b.1 c.1 d.1 e.1) = false then (St.none, 100) else (St.made a.1 b.1 c.1 d.1 e.1, 0)) := by
    rw [hr0, he, hd, hc, hb, ha]; rfl
  obtain ⟨W0, hW0⟩ : ∃ W0, W0 = w.alloc (.cells zeroVx 36) := ⟨_, rfl⟩
  have z0 : W0.heap[w.heap.size]? = some (.cells zeroVx 36 (0, 0)) := by rw [hW0]; exact heap_alloc_new w _
  have bw : Below w.heap.size w W0 := by rw [hW0]; exact (Below.refl _ _).alloc (Nat.le_refl _) _
  have hlt := lt_of_block z0
  have Z0 := Lib.hid z0; clear z0
  have HG := Lib.hid hg; clear hg hr0
  have HA := Lib.hid ha; clear ha
  have HB := Lib.hid hb; clear hb
  have HC := Lib.hid hc; clear hc
  have HD := Lib.hid hd; clear hd
  have HE := Lib.hid he; clear he
  have HW0 := Lib.hid hW0; clear hW0
  have tc : ((c.1 : Int) == 1) = (c.1 == 1) := by rw [Bool.eq_iff_iff]; simp only [beq_iff_eq]; omega
  have td : ((d.1 : Int) == 1) = (d.1 == 1) := by rw [Bool.eq_iff_iff]; simp only [beq_iff_eq]; omega
  go_enter Tryd.func19, Tryd.ntmps19
  go_wp2_with fail
  change Calls _ _ _ (w.alloc (.cells zeroVx 36)) _
  rw [← HW0.out]
  refine (newIn_any (strOf l) W0).mono ?_
  rintro x w1 ⟨rfl, hw1⟩
  have i1 := InIs.fresh W0 l
  rw [← hw1] at i1
  have d1 : Below W0.heap.size W0 w1 := by rw [hw1]; exact (Below.refl _ _).alloc (Nat.le_refl _) _
  clear hw1
  have I1 := Lib.hid i1; clear i1
  have hq := inNum_any W0.heap.size l 0 hl w1 I1.out
  rw [← HA.out] at hq
  have HQ := Lib.hid hq; clear hq
  go_wp2_with fail
  refine HQ.out.mono ?_
  rintro x w2 ⟨rfl, i2, b2⟩
  clear HQ I1
  have d2 := d1.trans ((b2.mono d1.size).below (Nat.le_refl _))
  clear d1 b2
  have I2 := Lib.hid i2; clear i2
  have hq := inInt_any W0.heap.size a.2.1 a.2.2 la w2 I2.out
  rw [← HB.out] at hq
  have HQ := Lib.hid hq; clear hq
  go_wp2_with fail
  refine HQ.out.mono ?_
  rintro x w3 ⟨rfl, i3, b3⟩
  clear HQ I2
  have d3 := d2.trans ((b3.mono d2.size).below (Nat.le_refl _))
  clear d2 b3
  have I3 := Lib.hid i3; clear i3
  have hq := inNum_any W0.heap.size b.2.1 b.2.2 lb w3 I3.out
  rw [← HC.out] at hq
  have HQ := Lib.hid hq; clear hq
  go_wp2_with fail
  refine HQ.out.mono ?_
  rintro x w4 ⟨rfl, i4, b4⟩
  clear HQ I3
  have d4 := d3.trans ((b4.mono d3.size).below (Nat.le_refl _))
  clear d3 b4
  have I4 := Lib.hid i4; clear i4
  have hq := inNum_any W0.heap.size c.2.1 c.2.2 lc w4 I4.out
  rw [← HD.out] at hq
  have HQ := Lib.hid hq; clear hq
  go_wp2_with fail
  refine HQ.out.mono ?_
  rintro x w5 ⟨rfl, i5, b5⟩
  clear HQ I4
  have d5 := d4.trans ((b5.mono d4.size).below (Nat.le_refl _))
  clear d4 b5
  have I5 := Lib.hid i5; clear i5
  have hq := inInt_any W0.heap.size d.2.1 d.2.2 ld w5 I5.out
  rw [← HE.out] at hq
  have HQ := Lib.hid hq; clear hq
  go_wp2_with fail
  refine HQ.out.mono ?_
  rintro x w6 ⟨rfl, i6, b6⟩
  clear HQ I5
  have d6 := d5.trans ((b6.mono d5.size).below (Nat.le_refl _))
  clear d5 b6
  have I6 := Lib.hid i6; clear i6
  have z6 := (d6.block _ hlt).trans Z0.out
  have B6 := bw.trans (d6.mono bw.size)
  have Z6 := Lib.hid z6; clear z6
  clear Z0 d6 bw
  have hq := inEnd_any W0.heap.size _ _ w6 I6.out
  rcases Nat.eq_zero_or_pos e.2.2 with h0 | h0
  · by_cases h1 : e.2.1 = []
    · have hend : endErr e.2.1 (e.2.2 : Int) = 0 := by unfold endErr; rw [h0, h1]; rfl
      rw [hend] at hq
      have HQ := Lib.hid hq; clear hq hend
      have H0 := Lib.hid h0; clear h0
      have H1 := Lib.hid h1; clear h1
      have hX : (St.made a.1 b.1 c.1 d.1 e.1).id = min (a.1 : Int) 64 := by show ((min a.1 64 : Nat) : Int) = _; omega
      obtain ⟨X, hXX⟩ : ∃ X, X = St.made a.1 b.1 c.1 d.1 e.1 := ⟨_, rfl⟩
      have x1 : X.value = Wire.unzig b.1 := by rw [hXX]; rfl
      have x2 : X.active = (c.1 == 1) := by rw [hXX]; rfl
      have x3 : X.has = (d.1 == 1) := by rw [hXX]; rfl
      have x4 : X.inn = Wire.unzig e.1 := by rw [hXX]; rfl
      rw [← hXX] at hX HG
      have HX0 := Lib.hid hX; clear hX
      have HX1 := Lib.hid x1; clear x1
      have HX2 := Lib.hid x2; clear x2
      have HX3 := Lib.hid x3; clear x3
      have HX4 := Lib.hid x4; clear x4
      have HXX := Lib.hid hXX; clear hXX
      obtain ⟨W7, hW7⟩ : ∃ W7, W7 = w6.alloc (.cells zeroVx 36) := ⟨_, rfl⟩
      have z7 : W7.heap[w6.heap.size]? = some (.cells zeroVx 36 (0, 0)) := by rw [hW7]; exact heap_alloc_new w6 _
      have b7 : Below w6.heap.size w6 W7 := by rw [hW7]; exact (Below.refl _ _).alloc (Nat.le_refl _) _
      obtain ⟨W8, hW8⟩ : ∃ W8, W8 = W7.setRow w6.heap.size (VertexV.cells X).toArray := ⟨_, rfl⟩
      have z8 : W8.heap[w6.heap.size]? = some (.cells (VertexV.cells X).toArray 36 (0, 0)) := by rw [hW8]; exact vset_heap X z7
      have b8 : Below w6.heap.size w6 W8 := by rw [hW8]; exact below_setRow' b7 (Nat.le_refl _)
      have y8 := (b8.block _ (lt_of_block Z6.out)).trans Z6.out
      have B8 := B6.trans (b8.mono B6.size)
      have Z7 := Lib.hid z7; clear z7
      have Z8 := Lib.hid z8; clear z8
      have Y8 := Lib.hid y8; clear y8
      have HW7 := Lib.hid hW7; clear hW7
      have HW8 := Lib.hid hW8; clear hW8
      clear b7 Z6 I6
      have hck := stCheck_any W8 X
      go_wp2_with fail
      refine HQ.out.mono ?_
      rintro x w' ⟨rfl, rfl⟩
      by_cases h2 : 1 < c.1
      · have t2 : decide ((1 : Int) < (c.1 : Int)) = true := decide_eq_true (by omega)
        have hg := HG.out
        rw [if_neg (fun h => h H0.out), if_neg (fun h => h H1.out), if_pos (.inl h2)] at hg
        subst hg
        go_wp2_with (first | ((with_reducible show wpList _ _ _ (⟨some 58, _, _, _, _, _⟩ :: _) _ _); refine wpList_build0 rfl _ rfl _ vertex_built0 ?_) | ((with_reducible show wpList _ _ _ (⟨none, .store _ (.tmp 2) (.tmp 58), _, _, _, _⟩ :: _) _ _); refine wpList_store_vx rfl _ _ rfl w.heap.size St.none rfl rfl zeroVx Y8.out rfl ?_) | ((with_reducible show wpList _ _ _ (⟨some 46, _, _, _, _, _⟩ :: _) _ _); refine wpList_build_vx5 rfl _ _ _ _ _ rfl X (by rw [HX0.out]; rfl) (by rw [HX1.out]; rfl) (by rw [HX2.out]; rfl) (by rw [HX3.out]; rfl) (by rw [HX4.out]; rfl) ?_) | ((with_reducible show wpList _ _ _ (⟨none, .store _ (.tmp 13) (.tmp 46), _, _, _, _⟩ :: _) _ _); change wpList _ _ _ _ _ (w6.alloc (.cells zeroVx 36)); rw [← HW7.out]; refine wpList_store_vx rfl _ _ rfl w6.heap.size X rfl rfl zeroVx Z7.out rfl ?_; rw [← HW8.out]))
        refine bodyPost_ret (results_vx rfl _ _ w.heap.size St.none rfl (vset_heap St.none Y8.out)) rfl ⟨rfl, below_setRow' B8 (Nat.le_refl _)⟩
      · have t2 : decide ((1 : Int) < (c.1 : Int)) = false := decide_eq_false (by omega)
        by_cases h3 : 1 < d.1
        · have t3 : decide ((1 : Int) < (d.1 : Int)) = true := decide_eq_true (by omega)
          have hg := HG.out
          rw [if_neg (fun h => h H0.out), if_neg (fun h => h H1.out), if_pos (.inr (.inl h3))] at hg
          subst hg
          go_wp2_with (first | ((with_reducible show wpList _ _ _ (⟨some 58, _, _, _, _, _⟩ :: _) _ _); refine wpList_build0 rfl _ rfl _ vertex_built0 ?_) | ((with_reducible show wpList _ _ _ (⟨none, .store _ (.tmp 2) (.tmp 58), _, _, _, _⟩ :: _) _ _); refine wpList_store_vx rfl _ _ rfl w.heap.size St.none rfl rfl zeroVx Y8.out rfl ?_) | ((with_reducible show wpList _ _ _ (⟨some 46, _, _, _, _, _⟩ :: _) _ _); refine wpList_build_vx5 rfl _ _ _ _ _ rfl X (by rw [HX0.out]; rfl) (by rw [HX1.out]; rfl) (by rw [HX2.out]; rfl) (by rw [HX3.out]; rfl) (by rw [HX4.out]; rfl) ?_) | ((with_reducible show wpList _ _ _ (⟨none, .store _ (.tmp 13) (.tmp 46), _, _, _, _⟩ :: _) _ _); change wpList _ _ _ _ _ (w6.alloc (.cells zeroVx 36)); rw [← HW7.out]; refine wpList_store_vx rfl _ _ rfl w6.heap.size X rfl rfl zeroVx Z7.out rfl ?_; rw [← HW8.out]))
          refine bodyPost_ret (results_vx rfl _ _ w.heap.size St.none rfl (vset_heap St.none Y8.out)) rfl ⟨rfl, below_setRow' B8 (Nat.le_refl _)⟩
        · have t3 : decide ((1 : Int) < (d.1 : Int)) = false := decide_eq_false (by omega)
          rcases hr : St.right X with _ | _
          · have hg := HG.out
            rw [if_neg (fun h => h H0.out), if_neg (fun h => h H1.out), if_pos (.inr (.inr hr))] at hg
            rw [hr] at hck
            have HK := Lib.hid hck; clear hck
            subst hg
            go_wp2_with (first | ((with_reducible show wpList _ _ _ (⟨some 46, _, _, _, _, _⟩ :: _) _ _); refine wpList_build_vx5 rfl _ _ _ _ _ rfl X (by rw [HX0.out]; rfl) (by rw [HX1.out]; rfl) (by rw [HX2.out]; rfl) (by rw [HX3.out]; rfl) (by rw [HX4.out]; rfl) ?_) | ((with_reducible show wpList _ _ _ (⟨none, .store _ (.tmp 13) (.tmp 46), _, _, _, _⟩ :: _) _ _); change wpList _ _ _ _ _ (w6.alloc (.cells zeroVx 36)); rw [← HW7.out]; refine wpList_store_vx rfl _ _ rfl w6.heap.size X rfl rfl zeroVx Z7.out rfl ?_; rw [← HW8.out]) | ((with_reducible show wpList _ _ _ (⟨some 54, _, _, _, _, _⟩ :: _) _ _); refine wpList_load_vx (by kernel_rfl) _ rfl w6.heap.size rfl X Z8.out ?_))
            refine HK.out.mono ?_
            rintro x w9 ⟨rfl, b9⟩
            have y9 := (b9.block _ (lt_of_block Y8.out)).trans Y8.out
            have B9 := B8.trans (b9.mono B8.size)
            have Y9 := Lib.hid y9; clear y9
            go_wp2_with (first | ((with_reducible show wpList _ _ _ (⟨some 58, _, _, _, _, _⟩ :: _) _ _); refine wpList_build0 rfl _ rfl _ vertex_built0 ?_) | ((with_reducible show wpList _ _ _ (⟨none, .store _ (.tmp 2) (.tmp 58), _, _, _, _⟩ :: _) _ _); refine wpList_store_vx rfl _ _ rfl w.heap.size St.none rfl rfl zeroVx Y9.out rfl ?_))
            refine bodyPost_ret (results_vx rfl _ _ w.heap.size St.none rfl (vset_heap St.none Y9.out)) rfl ⟨rfl, below_setRow' B9 (Nat.le_refl _)⟩
          · have hg := HG.out
            rw [if_neg (fun h => h H0.out), if_neg (fun h => h H1.out), if_neg (by rw [hr]; simp only [not_or]; exact ⟨h2, h3, by simp⟩)] at hg
            rw [hr] at hck
            have HK := Lib.hid hck; clear hck
            subst hg
            go_wp2_with (first | ((with_reducible show wpList _ _ _ (⟨some 46, _, _, _, _, _⟩ :: _) _ _); refine wpList_build_vx5 rfl _ _ _ _ _ rfl X (by rw [HX0.out]; rfl) (by rw [HX1.out]; rfl) (by rw [HX2.out]; rfl) (by rw [HX3.out]; rfl) (by rw [HX4.out]; rfl) ?_) | ((with_reducible show wpList _ _ _ (⟨none, .store _ (.tmp 13) (.tmp 46), _, _, _, _⟩ :: _) _ _); change wpList _ _ _ _ _ (w6.alloc (.cells zeroVx 36)); rw [← HW7.out]; refine wpList_store_vx rfl _ _ rfl w6.heap.size X rfl rfl zeroVx Z7.out rfl ?_; rw [← HW8.out]) | ((with_reducible show wpList _ _ _ (⟨some 54, _, _, _, _, _⟩ :: _) _ _); refine wpList_load_vx (by kernel_rfl) _ rfl w6.heap.size rfl X Z8.out ?_))
            refine HK.out.mono ?_
            rintro x w9 ⟨rfl, b9⟩
            have y9 := (b9.block _ (lt_of_block Y8.out)).trans Y8.out
            have z9 := (b9.block _ (lt_of_block Z8.out)).trans Z8.out
            have B9 := B8.trans (b9.mono B8.size)
            have Y9 := Lib.hid y9; clear y9
            have Z9 := Lib.hid z9; clear z9
            go_wp2_with (first | ((with_reducible show wpList _ _ _ (⟨some 59, _, _, _, _, _⟩ :: _) _ _); refine wpList_load_vx (by kernel_rfl) _ rfl w6.heap.size rfl X Z9.out ?_) | ((with_reducible show wpList _ _ _ (⟨none, .store _ (.tmp 2) (.tmp 59), _, _, _, _⟩ :: _) _ _); refine wpList_store_vx rfl _ _ rfl w.heap.size X rfl rfl zeroVx Y9.out rfl ?_))
            refine bodyPost_ret (results_vx rfl _ _ w.heap.size X rfl (vset_heap X Y9.out)) rfl ⟨rfl, below_setRow' B9 (Nat.le_refl _)⟩
    · have hend : endErr e.2.1 (e.2.2 : Int) = 22 := by unfold endErr; rw [h0, if_pos ⟨rfl, h1⟩]
      rw [hend] at hq
      have HQ := Lib.hid hq; clear hq hend
      have hg := HG.out
      rw [if_neg (fun h => h h0), if_pos h1] at hg
      have H0 := Lib.hid h0; clear h0
      have H1 := Lib.hid h1; clear h1
      go_wp2_with fail
      refine HQ.out.mono ?_
      rintro x w' ⟨rfl, rfl⟩
      subst hg
      go_wp2_with (first | ((with_reducible show wpList _ _ _ (⟨some 35, _, _, _, _, _⟩ :: _) _ _); refine wpList_build0 rfl _ rfl _ vertex_built0 ?_) | ((with_reducible show wpList _ _ _ (⟨none, .store _ (.tmp 2) (.tmp 35), _, _, _, _⟩ :: _) _ _); refine wpList_store_vx rfl _ _ rfl w.heap.size St.none rfl rfl zeroVx Z6.out rfl ?_))
      refine bodyPost_ret (results_vx rfl _ _ w.heap.size St.none rfl (vset_heap St.none Z6.out)) rfl ⟨rfl, below_setRow' B6 (Nat.le_refl _)⟩
  · have hend : endErr e.2.1 (e.2.2 : Int) = (e.2.2 : Int) := by unfold endErr; rw [if_neg (by rintro ⟨h, _⟩; omega)]
    rw [hend] at hq
    have HQ := Lib.hid hq; clear hq hend
    have hg := HG.out
    rw [if_pos (by omega)] at hg
    have te : ((e.2.2 : Int) != 0) = true := by simp only [bne_iff_ne, ne_eq]; omega
    go_wp2_with fail
    refine HQ.out.mono ?_
    rintro x w' ⟨rfl, rfl⟩
    subst hg
    go_wp2_with (first | ((with_reducible show wpList _ _ _ (⟨some 35, _, _, _, _, _⟩ :: _) _ _); refine wpList_build0 rfl _ rfl _ vertex_built0 ?_) | ((with_reducible show wpList _ _ _ (⟨none, .store _ (.tmp 2) (.tmp 35), _, _, _, _⟩ :: _) _ _); refine wpList_store_vx rfl _ _ rfl w.heap.size St.none rfl rfl zeroVx Z6.out rfl ?_))
    refine bodyPost_ret (results_vx rfl _ _ w.heap.size St.none rfl (vset_heap St.none Z6.out)) rfl ⟨rfl, below_setRow' B6 (Nat.le_refl _)⟩

end Go.Proofs.YtaihojahccplcaaDoor

/- The owner of a vertex: part.Mix, part.Owner. -/
namespace Go.Proofs.YtaihojahccplcaaDoor
open Go.RowKit
set_option linter.unusedSimpArgs false
set_option linter.unusedVariables false

def mixA (v : Int) : Int := v * 2654435761 % 4294967296
def mixB (v : Int) : Int := bits .xor .u32 (mixA v) (mixA v / 32768)
def mixC (v : Int) : Int := mixB v * 2246822519 % 4294967296
def mixV (v : Int) : Int := bits .xor .u32 (mixC v) (mixC v / 8192)

theorem mix_any (w : World) (v : Int) : Calls Tryd.prog 54 #[.int .u32 v] w fun e w' => w = w' ∧ e = .returned (.int .u32 (mixV v)) := by
  go_enter Tryd.func54, Tryd.ntmps54
  go_wp2_with fail
  go_ret
  exact ⟨rfl, rfl⟩

theorem mixV_nonneg (v : Int) : 0 ≤ mixV v := by
  have := (bits_within .xor .u32 (mixC v) (mixC v / 8192)).1
  exact this
theorem mixV_le (v : Int) : mixV v ≤ 4294967295 := by
  have := (bits_within .xor .u32 (mixC v) (mixC v / 8192)).2
  exact this

/-- The worker of a vertex. -/
def ownerV (k v : Int) : Int := if v < 0 ∨ k < 1 ∨ 64 < k then -1 else mixV (v % 4294967296) % k

theorem ownerV_neg {k v : Int} (h : v < 0) : ownerV k v = -1 := if_pos (.inl h)
theorem ownerV_range {k v : Int} (h1 : 1 ≤ k) (h2 : k ≤ 64) (h : 0 ≤ v) : 0 ≤ ownerV k v ∧ ownerV k v < k := by
  unfold ownerV
  rw [if_neg (by omega)]
  exact ⟨Int.emod_nonneg _ (by omega), Int.emod_lt_of_pos _ (by omega)⟩

set_option maxRecDepth 100000 in
theorem owner_any (w : World) (v k : Int) : Calls Tryd.prog 46 #[.int .i64 v, .int .i64 k] w fun e w' => w = w' ∧ e = .returned (.int .i64 (ownerV k v)) := by
  obtain ⟨r, hr⟩ : ∃ r, r = ownerV k v := ⟨_, rfl⟩
  rw [← hr]
  have HR := Lib.hid hr; clear hr
  by_cases h1 : v < 0
  · have t1 : decide (v < 0) = true := decide_eq_true h1
    go_enter Tryd.func46, Tryd.ntmps46
    go_wp2_with fail
    go_ret
    exact ⟨rfl, by rw [HR.out, ownerV, if_pos (.inl h1)]; rfl⟩
  · have t1 : decide (v < 0) = false := decide_eq_false h1
    by_cases h2 : k < 1
    · have t2 : decide (k < 1) = true := decide_eq_true h2
      go_enter Tryd.func46, Tryd.ntmps46
      go_wp2_with fail
      go_ret
      exact ⟨rfl, by rw [HR.out, ownerV, if_pos (.inr (.inl h2))]; rfl⟩
    · have t2 : decide (k < 1) = false := decide_eq_false h2
      by_cases h3 : 64 < k
      · have t3 : decide (64 < k) = true := decide_eq_true h3
        go_enter Tryd.func46, Tryd.ntmps46
        go_wp2_with fail
        go_ret
        exact ⟨rfl, by rw [HR.out, ownerV, if_pos (.inr (.inr h3))]; rfl⟩
      · have t3 : decide (64 < k) = false := decide_eq_false h3
        have hv := mixV_nonneg (v % 4294967296)
        have hv2 := mixV_le (v % 4294967296)
        have hk : ((mixV (v % 4294967296)) % k) < k := Int.emod_lt_of_pos _ (by omega)
        have hk2 : 0 ≤ (mixV (v % 4294967296)) % k := Int.emod_nonneg _ (by omega)
        have hkk : k % 4294967296 = k := by omega
        have htm : (mixV (v % 4294967296)).tmod k = (mixV (v % 4294967296)) % k := Int.tmod_eq_emod_of_nonneg hv
        have hwk : IntKind.u32.wrap k = k := by rw [IntKind.wrap_u32]; omega
        have hwv : IntKind.u32.wrap v = v % 4294967296 := by rw [IntKind.wrap_u32]
        have hk0 : (k == 0) = false := by rw [beq_eq_false_iff_ne]; omega
        have hr : r = mixV (v % 4294967296) % k := by rw [HR.out, ownerV, if_neg (by omega)]
        have HR := Lib.hid hr; clear hr
        go_enter Tryd.func46, Tryd.ntmps46
        go_wp2_with fail
        refine (mix_any w (v % 4294967296)).mono ?_
        rintro e w' ⟨rfl, rfl⟩
        go_wp2_with fail
        go_ret
        exact ⟨rfl, by rw [HR.out]; rfl⟩

end Go.Proofs.YtaihojahccplcaaDoor

/- Vertices: state.Own and the function that it makes. -/
namespace Go.Proofs.YtaihojahccplcaaDoor
open Go.RowKit
set_option linter.unusedSimpArgs false
set_option linter.unusedVariables false

/-- What the region's operations leave. -/
def ownV (B : Nat) (id k wk : Int) (ix : Nat) (w : World) (v : Value) : Prop :=
  match ix with
  | 0 => v = .pointer (some ⟨B, 0, none⟩)
  | 1 => v = .int .i64 (id)
  | 2 => v = .int .i64 (k)
  | 3 => v = .int .i64 (ownerV k id)
  | 4 => v = .int .i64 (wk)
  | 5 => v = .bool (ownerV k id == wk)
  | 6 => v = .bool (ownerV k id == wk)
  | _ => True

theorem ownV_mono (B : Nat) (id k wk : Int) (jx : Nat) (w w' : World) (v : Value) (hb : Below w.heap.size w w') (h : ownV B id k wk jx w v) : ownV B id k wk jx w' v := by
  match jx, h with
  | 0, h => exact h
  | 1, h => exact h
  | 2, h => exact h
  | 3, h => exact h
  | 4, h => exact h
  | 5, h => exact h
  | 6, h => exact h
  | _ + 7, h => exact trivial

set_option maxRecDepth 100000 in
set_option maxHeartbeats 2000000 in
theorem own1_any (w : World) (x : St.V) (p q : Nat) (k wk : Int) (hp : w.heap[p]? = some (.cells #[.int .i64 k] 3 (0, 0))) (hq : w.heap[q]? = some (.cells #[.int .i64 wk] 3 (0, 0))) :
    Calls Tryd.prog 45 #[.agg (VertexV.cells x).toArray, .pointer (some ⟨p, 0, none⟩), .pointer (some ⟨q, 0, none⟩)] w fun e w' => e = .returned (.bool (ownerV k x.id == wk)) ∧ Below w.heap.size w w' := by
  obtain ⟨W, hW⟩ : ∃ W, W = w.alloc (.cells (VertexV.cells x).toArray 36) := ⟨_, rfl⟩
  have X0 := Lib.hid (vertex_box w x W hW)
  have bw : Below w.heap.size w W := by rw [hW]; exact (Below.refl _ _).alloc (Nat.le_refl _) _
  have XP := Lib.hid ((bw.block _ (lt_of_block hp)).trans hp); clear hp
  have XQ := Lib.hid ((bw.block _ (lt_of_block hq)).trans hq); clear hq
  have HW := Lib.hid hW; clear hW
  obtain ⟨id, value, active, has, inn⟩ := x
  go_enter Tryd.func45, Tryd.ntmps45
  go_wp2_with fail
  change Code.wp _ _ _ _ (w.alloc (.cells (VertexV.cells ⟨id, value, active, has, inn⟩).toArray 36))
  rw [← HW.out]
  refine wp_region_rel [[], [0], [], [1, 2], [], [3, 4], [5]] (ownV w.heap.size id k wk) 11 (by kernel_rfl) (by kernel_rfl) (by kernel_rfl) (ownV_mono w.heap.size id k wk) ?_ ?_
  · intro ix op hi w2 b2 vs hv
    have him : ix < 7 := (List.getElem?_eq_some_iff.1 hi).1
    have hx1 := X0.out
    match ix, him, hi with
    | 0, _, hi =>
      obtain rfl := Option.some.inj hi
      simp only [relF, List.getD_cons_zero, List.getD_cons_succ, List.foldl_cons, List.foldl_nil, dstAt, List.getElem?_cons_zero, List.getElem?_cons_succ, Option.bind_some]
      go_wp2_with fail
      exact ⟨rfl, Below.refl _ _, rfl, rfl⟩
    | 1, _, hi =>
      obtain rfl := Option.some.inj hi
      have h0 : vs 0 = _ := hv 0 (by decide)
      obtain ⟨k0, -, -, -, -⟩ := vertex_at ((b2.block _ (lt_of_block X0.out)).trans X0.out)
      simp only [relF, List.getD_cons_zero, List.getD_cons_succ, List.foldl_cons, List.foldl_nil, dstAt, List.getElem?_cons_zero, List.getElem?_cons_succ, Option.bind_some]
      go_frame
      rw [h0]
      go_wp2_with fail
      exact ⟨rfl, Below.refl _ _, rfl, rfl⟩
    | 2, _, hi =>
      obtain rfl := Option.some.inj hi
      have k1 := cell_of_one ((b2.block _ (lt_of_block XP.out)).trans XP.out)
      simp only [relF, List.getD_cons_zero, List.getD_cons_succ, List.foldl_cons, List.foldl_nil, dstAt, List.getElem?_cons_zero, List.getElem?_cons_succ, Option.bind_some]
      go_wp2_with fail
      exact ⟨rfl, Below.refl _ _, rfl, rfl⟩
    | 3, _, hi =>
      obtain rfl := Option.some.inj hi
      have h1 : vs 1 = _ := hv 1 (by decide)
      have h2 : vs 2 = _ := hv 2 (by decide)
      simp only [relF, List.getD_cons_zero, List.getD_cons_succ, List.foldl_cons, List.foldl_nil, dstAt, List.getElem?_cons_zero, List.getElem?_cons_succ, Option.bind_some]
      go_frame
      rw [h1, h2]
      go_wp2_with fail
      refine (owner_any w2 id k).mono ?_
      rintro e w3 ⟨rfl, rfl⟩
      go_wp2_with fail
      exact ⟨rfl, Below.refl _ _, rfl, rfl⟩
    | 4, _, hi =>
      obtain rfl := Option.some.inj hi
      have k2 := cell_of_one ((b2.block _ (lt_of_block XQ.out)).trans XQ.out)
      simp only [relF, List.getD_cons_zero, List.getD_cons_succ, List.foldl_cons, List.foldl_nil, dstAt, List.getElem?_cons_zero, List.getElem?_cons_succ, Option.bind_some]
      go_wp2_with fail
      exact ⟨rfl, Below.refl _ _, rfl, rfl⟩
    | 5, _, hi =>
      obtain rfl := Option.some.inj hi
      have h3 : vs 3 = _ := hv 3 (by decide)
      have h4 : vs 4 = _ := hv 4 (by decide)
      simp only [relF, List.getD_cons_zero, List.getD_cons_succ, List.foldl_cons, List.foldl_nil, dstAt, List.getElem?_cons_zero, List.getElem?_cons_succ, Option.bind_some]
      go_frame
      rw [h3, h4]
      go_wp2_with fail
      exact ⟨rfl, Below.refl _ _, rfl, by first | rfl | (show slotOf _ _ = _; simp [slotOf]; done) | (show slotOf _ _ = _; simp [slotOf]; omega)⟩
    | 6, _, hi =>
      obtain rfl := Option.some.inj hi
      have h5 : vs 5 = _ := hv 5 (by decide)
      simp only [relF, List.getD_cons_zero, List.getD_cons_succ, List.foldl_cons, List.foldl_nil, dstAt, List.getElem?_cons_zero, List.getElem?_cons_succ, Option.bind_some]
      go_frame
      rw [h5]
      go_wp2_with fail
      exact ⟨rfl, Below.refl _ _, rfl, rfl⟩
    | nx + 7, him, _ => exact absurd him (by omega)
  · intro w2 b2 vs hv
    have hx1 := X0.out
    have h6 : vs 6 = _ := hv 6 (by decide)
    simp only [relF, List.drop_succ_cons, List.drop_zero, List.length_cons, List.length_nil, Nat.zero_add, Nat.reduceAdd, List.range, List.range.loop, List.foldl_cons, List.foldl_nil, dstAt, List.getElem?_cons_zero, List.getElem?_cons_succ, Option.bind_some]
    go_frame
    rw [h6]
    go_wp2_with fail
    go_ret
    exact ⟨rfl, bw.trans (b2.mono bw.size)⟩

/-- A worker's, among the first j. -/
def ownT (k wk : Int) (L : List St.V) (j : Nat) : List St.V := St.own (fun x => ownerV k x.id) wk (L.take j)
theorem ownT_zero (k wk : Int) (L : List St.V) : ownT k wk L 0 = [] := rfl
theorem ownT_all (k wk : Int) (L : List St.V) (j : Nat) (h : L.length ≤ j) : ownT k wk L j = St.own (fun x => ownerV k x.id) wk L := by
  unfold ownT; rw [List.take_of_length_le h]
theorem ownT_succ {k wk : Int} {L : List St.V} {j : Nat} {x : St.V} (h : L[j]? = some x) : ownT k wk L (j + 1) = ownT k wk L j ++ if ownerV k x.id == wk then [x] else [] := by
  unfold ownT
  rw [St.take_snoc' h, St.own_snoc]
theorem ownT_len (k wk : Int) (L : List St.V) (j : Nat) : (ownT k wk L j).length ≤ L.length := by
  have := St.own_le (fun x => ownerV k x.id) wk (L.take j)
  unfold ownT
  rw [List.length_take] at this
  omega

set_option maxRecDepth 100000 in
set_option maxHeartbeats 4000000 in
theorem stOwn_any (w : World) (o : Option Addr) (n cap : Nat) (L : List St.V) (hS : VsAt w o n cap L) (hn : n ≤ 900000) (k wk : Int) :
    Calls Tryd.prog 21 #[.slice o n cap, .int .i64 k, .int .i64 wk] w fun e w' => ∃ (q : Option Addr) (c : Nat), e = .returned (.slice q (St.own (fun x => ownerV k x.id) wk L).length c) ∧ VsAt w' q (St.own (fun x => ownerV k x.id) wk L).length c (St.own (fun x => ownerV k x.id) wk L) ∧ Below w.heap.size w w' := by
  obtain ⟨W0, hW0⟩ : ∃ W0, W0 = (w.alloc (.cells #[.int .i64 k] 3)).alloc (.cells #[.int .i64 wk] 3) := ⟨_, rfl⟩
  have p0 : W0.heap[w.heap.size]? = some (.cells #[.int .i64 k] 3 (0, 0)) := by
    rw [hW0, Below.heap_alloc _ _ _ (by simp)]; exact heap_alloc_new w _
  have q0 : W0.heap[w.heap.size + 1]? = some (.cells #[.int .i64 wk] 3 (0, 0)) := by
    rw [hW0]; have := heap_alloc_new (w.alloc (.cells #[.int .i64 k] 3)) (.cells #[.int .i64 wk] 3); simpa using this
  have b0 : Below w.heap.size w W0 := by rw [hW0]; exact ((Below.refl _ _).alloc (Nat.le_refl _) _).alloc (by simp) _
  have hlen := hS.len
  have hcap := hS.cap
  have hmax := hS.max
  have HS := Lib.hid (hS.below (Nat.le_refl _) b0); clear hS
  have P0 := Lib.hid p0; clear p0
  have Q0 := Lib.hid q0; clear q0
  have HW0 := Lib.hid hW0; clear hW0
  have HLEN := Lib.hid hlen; clear hlen
  obtain ⟨R, hR⟩ : ∃ R, R = St.own (fun x => ownerV k x.id) wk L := ⟨_, rfl⟩
  rw [← hR]
  have HR := Lib.hid hR; clear hR
  go_enter Tryd.func21, Tryd.ntmps21
  go_wp2_with fail
  change Code.wp _ _ _ _ ((w.alloc (.cells #[.int .i64 k] 3)).alloc (.cells #[.int .i64 wk] 3))
  rw [← HW0.out]
  go_loopw [8, 14] (fun v u wr => ∃ (j m : Nat) (qo : Option Addr) (co : Nat), j ≤ n ∧ u = .int .i64 (j : Int) ∧ v = .slice qo m co ∧ Hid (m = (ownT k wk L j).length) ∧ Hid (wr.ownsRow W0.heap.size 36 5 (.slice qo m co) m (vCells (ownT k wk L j))) ∧ Below W0.heap.size W0 wr) (fun _ u _ => n - (intOf u).toNat)
  case atStart => exact ⟨0, 0, none, 0, by omega, rfl, rfl, Lib.hid rfl, Lib.hid (World.ownsRow_nil _ _ _ _), Below.refl _ _⟩
  case round =>
    obtain ⟨j, m, qo, co, hj, rfl, rfl, HM, HOW, Bw⟩ := hrel
    by_cases hlt : j < n
    · obtain ⟨b, off, rfl⟩ := HS.out.form (by omega)
      obtain ⟨x, hx⟩ : ∃ x, L[j]? = some x := ⟨_, List.getElem?_eq_getElem (by rw [HLEN.out]; exact hlt)⟩
      have hsucc := ownT_succ (k := k) (wk := wk) hx
      have hml : m ≤ n := by have := ownT_len k wk L j; rw [HM.out, ← HLEN.out]; exact this
      obtain ⟨hxb, hxr⟩ := HS.out.get hx
      have hxr := range_under hxr hxb Bw
      obtain ⟨d, hd⟩ : ∃ d, d = ownT k wk L j := ⟨_, rfl⟩
      rw [← hd] at HM HOW hsucc
      clear hd hx hxb
      have HXR := Lib.hid hxr; clear hxr
      have HSU := Lib.hid hsucc; clear hsucc
      obtain ⟨W3, hW3⟩ : ∃ W3, W3 = wr.alloc (.cells zeroVx 36) := ⟨_, rfl⟩
      have z3 : W3.heap[wr.heap.size]? = some (.cells zeroVx 36 (0, 0)) := by rw [hW3]; exact heap_alloc_new wr _
      have b3 : Below wr.heap.size wr W3 := by rw [hW3]; exact (Below.refl _ _).alloc (Nat.le_refl _) _
      obtain ⟨W4, hW4⟩ : ∃ W4, W4 = W3.setRow wr.heap.size (VertexV.cells x).toArray := ⟨_, rfl⟩
      have x4 : W4.heap[wr.heap.size]? = some (.cells (VertexV.cells x).toArray 36 (0, 0)) := by rw [hW4]; exact vset_heap x z3
      have b4 : Below wr.heap.size wr W4 := by rw [hW4]; exact below_setRow' b3 (Nat.le_refl _)
      have B4 := Bw.trans (b4.mono Bw.size)
      have Z3 := Lib.hid z3; clear z3
      have X4 := Lib.hid x4; clear x4
      have HW3 := Lib.hid hW3; clear hW3
      have HW4 := Lib.hid hW4; clear hW4
      clear b3
      have hcall := own1_any W4 x w.heap.size (w.heap.size + 1) k wk ((B4.block _ (lt_of_block P0.out)).trans P0.out) ((B4.block _ (lt_of_block Q0.out)).trans Q0.out)
      have t1 : decide ((j : Int) < (n : Int)) = true := decide_eq_true (by omega)
      have t1' : decide (j < n) = true := decide_eq_true hlt
      rcases hown : (ownerV k x.id == wk) with _ | _
      · rw [hown] at hcall
        have hsu := HSU.out
        rw [hown, if_neg (by decide), List.append_nil] at hsu
        have HSU := Lib.hid hsu; clear hsu hown
        have HC := Lib.hid hcall; clear hcall
        go_wp2_with (first | ((with_reducible show wpList _ _ _ (⟨some 17, _, _, _, _, _⟩ :: _) _ _); refine wpList_load_vRow (by kernel_rfl) _ rfl b (off + j * 5) (by first | rfl | (simp; done)) x HXR.out ?_) | ((with_reducible show wpList _ _ _ (⟨none, .store _ (.tmp 10) (.tmp 17), _, _, _, _⟩ :: _) _ _); change wpList _ _ _ _ _ (wr.alloc (.cells zeroVx 36)); rw [← HW3.out]; refine wpList_store_vx rfl _ _ rfl wr.heap.size x rfl rfl zeroVx Z3.out rfl ?_; rw [← HW4.out]) | ((with_reducible show wpList _ _ _ (⟨some 19, _, _, _, _, _⟩ :: _) _ _); refine wpList_load_vx (by kernel_rfl) _ rfl wr.heap.size rfl x X4.out ?_))
        refine HC.out.mono ?_
        rintro e w5 ⟨rfl, b5⟩
        have b45 := b4.trans (b5.mono b4.size)
        have B5 := Bw.trans (b45.mono Bw.size)
        have ho5 := ownsRow_below HOW.out fun i hi => b45.block i (HOW.out.lt i hi).2
        have HO5 := Lib.hid ho5; clear ho5
        go_wp2_with fail
        go_roundw
        case rel => exact ⟨j + 1, m, qo, co, by omega, by go_num, rfl, by rw [HSU.out]; exact HM, by rw [HSU.out]; exact HO5, B5⟩
        case measure => simp [intOf]; omega
      · rw [hown] at hcall
        have hsu := HSU.out
        rw [hown, if_pos rfl] at hsu
        have HSU := Lib.hid hsu; clear hsu hown
        have HC := Lib.hid hcall; clear hcall
        go_wp2_with (first | ((with_reducible show wpList _ _ _ (⟨some 17, _, _, _, _, _⟩ :: _) _ _); refine wpList_load_vRow (by kernel_rfl) _ rfl b (off + j * 5) (by first | rfl | (simp; done)) x HXR.out ?_) | ((with_reducible show wpList _ _ _ (⟨none, .store _ (.tmp 10) (.tmp 17), _, _, _, _⟩ :: _) _ _); change wpList _ _ _ _ _ (wr.alloc (.cells zeroVx 36)); rw [← HW3.out]; refine wpList_store_vx rfl _ _ rfl wr.heap.size x rfl rfl zeroVx Z3.out rfl ?_; rw [← HW4.out]) | ((with_reducible show wpList _ _ _ (⟨some 19, _, _, _, _, _⟩ :: _) _ _); refine wpList_load_vx (by kernel_rfl) _ rfl wr.heap.size rfl x X4.out ?_))
        refine HC.out.mono ?_
        rintro e w5 ⟨rfl, b5⟩
        have b45 := b4.trans (b5.mono b4.size)
        have B5 := Bw.trans (b45.mono Bw.size)
        have ho5 := ownsRow_below HOW.out fun i hi => b45.block i (HOW.out.lt i hi).2
        have x5 := (b5.block _ (lt_of_block X4.out)).trans X4.out
        obtain ⟨W6, hW6⟩ : ∃ W6, W6 = w5.alloc (.cells (VertexV.cells x).toArray 36) := ⟨_, rfl⟩
        have b6 : Below w5.heap.size w5 W6 := by rw [hW6]; exact (Below.refl _ _).alloc (Nat.le_refl _) _
        have g6 := vertex_box w5 x W6 hW6
        have ho6 := ownsRow_below ho5 fun i hi => b6.block i (ho5.lt i hi).2
        have B6 := B5.trans (b6.mono B5.size)
        have hm := HM.out
        subst hm
        obtain ⟨q7, c7, w7, hrun, ho7, hgr⟩ := vs_push ho6 (by omega) g6 B6.size
        have b7 := grown_below hgr (fun i hi => (ho6.lt i hi).1) B6.size
        have B7 := B6.trans b7
        have HW6 := Lib.hid hW6; clear hW6
        have X5 := Lib.hid x5; clear x5
        have HO7 := Lib.hid ho7; clear ho7
        clear ho5 ho6 b6 g6 b7 hgr
        have hvl := VertexV.len x
        go_wp2_with (first | ((with_reducible show wpList _ _ _ (⟨some 22, _, _, _, _, _⟩ :: _) _ _); refine wpList_load_vx (by kernel_rfl) _ rfl wr.heap.size rfl x X5.out ?_) | ((with_reducible show wpList _ _ _ (⟨some 24, _, _, _, _, _⟩ :: _) _ _); change wpList _ _ _ _ _ (w5.alloc (.cells (VertexV.cells x).toArray 36)); rw [← HW6.out]; refine wpList_append_ran (by kernel_rfl) _ _ _ rfl _ _ rfl rfl hrun ?_))
        go_roundw
        case rel => exact ⟨j + 1, d.length + 1, q7, c7, by omega, by go_num, rfl, Lib.hid (by rw [HSU.out, List.length_append]; rfl), by rw [HSU.out]; exact HO7, B7⟩
        case measure => simp [intOf]; omega
    · have t1 : decide ((j : Int) < (n : Int)) = false := decide_eq_false (by omega)
      have t1' : decide (j < n) = false := decide_eq_false hlt
      have hall := ownT_all k wk L j (by rw [HLEN.out]; omega)
      rw [← HR.out] at hall
      rw [hall] at HM HOW
      have hm := HM.out
      subst hm
      clear hall
      have hv := VsAt.of_owns rfl HOW.out
      have HV := Lib.hid hv; clear hv
      go_wp2_with fail
      go_ret
      exact ⟨qo, co, rfl, HV.out, b0.trans (Bw.mono b0.size)⟩

end Go.Proofs.YtaihojahccplcaaDoor

/- Vertices: state.Rows, state.Root. -/
namespace Go.Proofs.YtaihojahccplcaaDoor
open Go.RowKit
set_option linter.unusedSimpArgs false
set_option linter.unusedVariables false

theorem put_le (x : St.V) : (St.put x).length ≤ 19 := by
  rcases hr : St.right x with _ | _
  · rw [St.put, hr]; exact Nat.zero_le _
  · exact (St.put_len hr).2

/-- The rows, when j are written. -/
def rowT (n : Nat) (L : List St.V) (j : Nat) : List (List UInt8) := (L.take j).map St.put ++ List.replicate (n - j) []
theorem rowT_zero (n : Nat) (L : List St.V) : rowT n L 0 = List.replicate n [] := rfl
theorem rowT_all {n : Nat} {L : List St.V} (h : L.length = n) : rowT n L n = L.map St.put := by
  unfold rowT
  rw [List.take_of_length_le (by omega), Nat.sub_self, List.replicate_zero, List.append_nil]
theorem rowT_len {n : Nat} {L : List St.V} (h : L.length = n) (j : Nat) (hj : j ≤ n) : (rowT n L j).length = n := by
  unfold rowT
  rw [List.length_append, List.length_map, List.length_take, List.length_replicate]; omega
theorem rowT_set {n : Nat} {L : List St.V} {j : Nat} {x : St.V} (h : L.length = n) (hx : L[j]? = some x) : (rowT n L j).set j (St.put x) = rowT n L (j + 1) := by
  have hj : j < L.length := (List.getElem?_eq_some_iff.1 hx).1
  have hl : ((L.take j).map St.put).length = j := by rw [List.length_map, List.length_take]; omega
  unfold rowT
  rw [List.set_append_right _ _ (by omega), hl, Nat.sub_self, show n - j = (n - (j + 1)) + 1 by omega, List.replicate_succ, List.set_cons_zero, List.take_add_one, hx, List.map_append, List.append_assoc]
  rfl

def strsC (d : List (List UInt8)) : List Value := d.map fun l => .string (strOf l)
theorem strsC_get {d : List (List UInt8)} {i : Nat} {l : List UInt8} (h : d[i]? = some l) : (strsC d)[i]? = some (.string (strOf l)) := by simp [strsC, h]
theorem strsC_set (d : List (List UInt8)) (i : Nat) (l : List UInt8) : (strsC d).toArray.setIfInBounds i (.string (strOf l)) = (strsC (d.set i l)).toArray := by simp [strsC, List.map_set]

theorem made_strs (n : Nat) : (madeCells (Value.cells (.string ⟨#[]⟩)) (n * 1)).toList = strsC (List.replicate n []) := by
  apply List.ext_getElem
  · simp [madeCells, strsC]
  · intro i h1 h2
    simp [madeCells, strsC, Value.cells, Nat.mod_one]
    rfl

theorem Tryd.under_strs' : Tryd.prog.underlying 24 = some (.slice 9) := by kernel_rfl
theorem Tryd.info_string' : (Tryd.prog.info? 9).map (fun i => (i.zero, i.size, i.bytes)) = some (some (.string ⟨#[]⟩), 1, 16) := by kernel_rfl

set_option maxRecDepth 100000 in
set_option maxHeartbeats 4000000 in
theorem stRows_any (w : World) (o : Option Addr) (n cap : Nat) (L : List St.V) (hS : VsAt w o n cap L) (hn : n ≤ 900000) :
    Calls Tryd.prog 10 #[.slice o n cap] w fun e w' => ∃ (q : Option Addr) (c : Nat), e = .returned (.slice q n c) ∧ StrsAt w' q n c (L.map St.put) ∧ Below w.heap.size w w' := by
  have hlen := hS.len
  have hcap := hS.cap
  have hmax := hS.max
  have HS := Lib.hid hS; clear hS
  have HLEN := Lib.hid hlen; clear hlen
  obtain ⟨i0, hi, hz0, hz1, hz2⟩ := info_parts Tryd.info_string'
  go_enter Tryd.func10, Tryd.ntmps10
  go_wp2_with ((with_reducible show wpList _ _ _ (⟨some 8, _, _, _, _, _⟩ :: _) _ _); refine wpList_make_full (o := ⟨some 8, _, _, _, _, _⟩) w rfl _ _ 24 rfl w.heap.size 9 i0 (.string ⟨#[]⟩) 1 Tryd.under_strs' hi hz0 hz1 .i64 .i64 (n : Int) (n : Int) n rfl rfl rfl rfl (by rw [hz2]; omega) (by unfold maxLen; omega) (Nat.le_refl _) ?_)
  intro w2 hown hg2
  have b2 := grown_below hg2 (fun k hk => by cases hk) (Nat.le_refl _)
  have x2 : w2.heap[w.heap.size]? = some (.cells (strsC (rowT n L 0)).toArray 9 (0, 0)) := by
    rcases hown.2 with ⟨h0, _⟩ | ⟨g, cap, cur, hv, _, hgg, _, _, hcs, htk⟩
    · cases h0
    · simp only [Value.slice.injEq, Option.some.injEq, Addr.mk.injEq, true_and, and_true] at hv
      obtain ⟨rfl, rfl⟩ := hv
      have h4 := made_strs n
      rw [Nat.mul_one] at h4
      rw [show (madeCells #[Value.string { data := #[] }] n).toList = strsC (List.replicate n []) from h4, List.take_of_length_le (by rw [Array.length_toList, hcs]; exact Nat.le_refl _)] at htk
      rw [hgg, rowT_zero, ← htk]
  have X2 := Lib.hid x2; clear x2 hown hg2 hi hz0 hz1 hz2
  have hlt2 := lt_of_block X2.out
  go_wp2_with fail
  go_loopw [11] (fun v wr => ∃ j : Nat, j ≤ n ∧ v = .int .i64 (j : Int) ∧ Hid (wr.heap[w.heap.size]? = some (.cells (strsC (rowT n L j)).toArray 9 (0, 0))) ∧ Below w.heap.size w wr) (fun v _ => n - (intOf v).toNat)
  case atStart => exact ⟨0, by omega, rfl, X2, b2⟩
  case round =>
    clear X2 b2 hlt2
    obtain ⟨j, hj, rfl, XR, Bw⟩ := hrel
    by_cases hlt : j < n
    · obtain ⟨b, off, rfl⟩ := HS.out.form (by omega)
      obtain ⟨x, hx⟩ : ∃ x, L[j]? = some x := ⟨_, List.getElem?_eq_getElem (by rw [HLEN.out]; exact hlt)⟩
      obtain ⟨hxb, hxr⟩ := HS.out.get hx
      have HXR := Lib.hid (range_under hxr hxb Bw); clear hxr hxb
      have HSET := Lib.hid (rowT_set HLEN.out hx)
      obtain ⟨old, hold⟩ : ∃ old, (rowT n L j)[j]? = some old := ⟨_, List.getElem?_eq_getElem (by rw [rowT_len HLEN.out j (by omega)]; exact hlt)⟩
      obtain ⟨T, hT⟩ : ∃ T, T = rowT n L j := ⟨_, rfl⟩
      rw [← hT] at XR HSET hold
      clear hT hx
      have HOLD := Lib.hid hold; clear hold
      have hltr := lt_of_block XR.out
      obtain ⟨W3, hW3⟩ : ∃ W3, W3 = wr.alloc (.cells zeroVx 36) := ⟨_, rfl⟩
      have z3 : W3.heap[wr.heap.size]? = some (.cells zeroVx 36 (0, 0)) := by rw [hW3]; exact heap_alloc_new wr _
      have b3 : Below wr.heap.size wr W3 := by rw [hW3]; exact (Below.refl _ _).alloc (Nat.le_refl _) _
      obtain ⟨W4, hW4⟩ : ∃ W4, W4 = W3.setRow wr.heap.size (VertexV.cells x).toArray := ⟨_, rfl⟩
      have x4 : W4.heap[wr.heap.size]? = some (.cells (VertexV.cells x).toArray 36 (0, 0)) := by rw [hW4]; exact vset_heap x z3
      have b4 : Below wr.heap.size wr W4 := by rw [hW4]; exact below_setRow' b3 (Nat.le_refl _)
      have Z3 := Lib.hid z3; clear z3
      have X4 := Lib.hid x4; clear x4
      have HW3 := Lib.hid hW3; clear hW3
      have HW4 := Lib.hid hW4; clear hW4
      clear b3
      have HC := Lib.hid (stPut_any W4 x)
      have t1 : decide ((j : Int) < (n : Int)) = true := decide_eq_true (by omega)
      have t1' : decide (j < n) = true := decide_eq_true hlt
      go_wp2_with (first | ((with_reducible show wpList _ _ _ (⟨some 15, _, _, _, _, _⟩ :: _) _ _); refine wpList_load_vRow (by kernel_rfl) _ rfl b (off + j * 5) (by first | rfl | (simp; done)) x HXR.out ?_) | ((with_reducible show wpList _ _ _ (⟨none, .store _ (.tmp 5) (.tmp 15), _, _, _, _⟩ :: _) _ _); change wpList _ _ _ _ _ (wr.alloc (.cells zeroVx 36)); rw [← HW3.out]; refine wpList_store_vx rfl _ _ rfl wr.heap.size x rfl rfl zeroVx Z3.out rfl ?_; rw [← HW4.out]) | ((with_reducible show wpList _ _ _ (⟨some 18, _, _, _, _, _⟩ :: _) _ _); refine wpList_load_vx (by kernel_rfl) _ rfl wr.heap.size rfl x X4.out ?_))
      refine HC.out.mono ?_
      rintro e w5 ⟨rfl, b5⟩
      have b45 := b4.trans (b5.mono b4.size)
      have B5 := Bw.trans (b45.mono Bw.size)
      have xr5 := (b45.block _ hltr).trans XR.out
      have hc2 : w5.cell? ⟨w.heap.size, j, none⟩ = some (.string (strOf old)) := by
        have := range_row xr5 j _ (strsC_get HOLD.out)
        rwa [Nat.zero_add] at this
      have hf := wfree xr5 j
      have hlt5 := lt_of_block xr5
      have XR5 := Lib.hid xr5; clear xr5
      go_wp2_with fail
      go_roundw
      case rel => exact ⟨j + 1, by omega, by go_num, Lib.hid (by rw [heap_setCell_same _ _ _ _ _ _ XR5.out, strsC_set, HSET.out]), B5.setCell (p := ⟨w.heap.size, j, none⟩) (Nat.le_refl _) _⟩
      case measure => simp [intOf]; omega
    · obtain rfl : j = n := by omega
      have t1 : decide ((j : Int) < (j : Int)) = false := decide_eq_false (by omega)
      have xr := XR.out
      rw [rowT_all HLEN.out] at xr
      have XE := Lib.hid xr; clear xr XR
      go_wp2_with fail
      go_ret
      refine ⟨_, _, rfl, ⟨by rw [List.length_map]; exact HLEN.out, Nat.le_refl _, by unfold maxLen; omega, fun _ => ⟨w.heap.size, 0, rfl, lt_of_block XE.out, fun i l hl => ?_⟩⟩, Bw⟩
      intro k u hu
      match k, hu with
      | 0, hu =>
        obtain rfl := Option.some.inj hu
        have := range_row XE.out i _ (strsC_get hl)
        rw [Nat.zero_add] at this
        rwa [Nat.mul_one, Nat.zero_add]

set_option maxRecDepth 100000 in
set_option maxHeartbeats 1000000 in
theorem stRoot_any (w : World) (o : Option Addr) (n cap : Nat) (L : List St.V) (hS : VsAt w o n cap L) (hn : n ≤ 900000) (hL : Laid w) :
    Calls Tryd.prog 11 #[.slice o n cap] w fun e w' => e = .returned (.agg (byteCells (Tree.root n (Tree.top (L.map St.put)))).toArray) ∧ Below w.heap.size w w' := by
  obtain ⟨W0, hW0⟩ : ∃ W0, W0 = w.alloc (.cells zero32 27) := ⟨_, rfl⟩
  have x0 : W0.heap[w.heap.size]? = some (.cells zero32 27 (0, 0)) := by rw [hW0]; exact heap_alloc_new w _
  have b0 : Below w.heap.size w W0 := by rw [hW0]; exact (Below.refl _ _).alloc (Nat.le_refl _) _
  have hcap := hS.cap
  have hmax := hS.max
  have HC := Lib.hid (stRows_any W0 o n cap L (hS.below (Nat.le_refl _) b0) hn)
  have HL0 := Lib.hid (hL.below b0); clear hL
  have hsl := Tree.root_len n (Tree.top (L.map St.put))
  have HSL := Lib.hid hsl; clear hsl
  have HW0 := Lib.hid hW0; clear hW0 hS
  have X0 := Lib.hid x0; clear x0
  go_enter Tryd.func11, Tryd.ntmps11
  go_wp2_with fail
  change Calls _ _ _ (w.alloc (.cells zero32 27)) _
  rw [← HW0.out]
  refine HC.out.mono ?_
  rintro e w1 ⟨q, c, rfl, hs, b1⟩
  have x1 := (b1.block _ (lt_of_block X0.out)).trans X0.out
  have B1 := b0.trans (b1.mono b0.size)
  have hr := treeRoot_any w1 q n c _ hs (by omega) (fun l hl => by
    obtain ⟨x, _, rfl⟩ := List.mem_map.1 hl
    have := put_le x; omega) (HL0.out.below b1)
  have HRT := Lib.hid hr; clear hr
  have hqc := hs.cap
  have hqm := hs.max
  have HQ := Lib.hid hs; clear hs
  have X1 := Lib.hid x1; clear x1
  go_wp2_with fail
  refine HRT.out.mono ?_
  rintro e w2 ⟨rfl, b2⟩
  have x2 := (b2.block _ (lt_of_block X1.out)).trans X1.out
  have B2 := B1.trans (b2.mono B1.size)
  go_wp2_with ((with_reducible show wpList _ _ _ (⟨none, .store 27 (.tmp 2) (.tmp 5), _, _, _, _⟩ :: _) _ _); refine wpList_put_hash (o := ⟨none, .store _ _ _, _, _, _, _⟩) rfl _ _ rfl w.heap.size rfl (Tree.root n (Tree.top (L.map St.put))) HSL.out rfl _ _ x2 zero32_size ?_)
  refine bodyPost_ret (results_hash rfl _ _ _ _ _ _ rfl HSL.out (hset_heap _ x2)) rfl ⟨rfl, hset_below _ B2 (Nat.le_refl _)⟩

end Go.Proofs.YtaihojahccplcaaDoor

/- The walk of the state laws' awake: it returns true. -/
namespace Go.Proofs.YtaihojahccplcaaDoor
open Go.RowKit
set_option linter.unusedSimpArgs false
set_option linter.unusedVariables false

/-- The vertex of the chapter's example. -/
def exV : St.V := ⟨1, -1, true, false, 0⟩
theorem ex_right : St.right exV = true := by decide
theorem ex_bytes : St.bytes exV = [1, 1, 1, 0, 0] := by
  unfold St.bytes
  rw [Wire.num_small, Wire.num_small, Wire.num_small, Wire.num_small, Wire.num_small] <;> first | rfl | decide
theorem ex_put : St.put exV = [1, 1, 1, 0, 0] := by rw [St.put, ex_right, if_pos rfl, ex_bytes]
theorem ex_get : St.get 100 [1, 1, 1, 0, 0] = (exV, 0) := by rw [← ex_bytes, St.bytes_get ex_right]
theorem ex_own : St.own (fun x => ownerV 1 x.id) 0 [exV] = [exV] := by
  have h : ownerV 1 exV.id = 0 := by
    have := ownerV_range (k := 1) (v := exV.id) (by decide) (by decide) (by decide)
    omega
  unfold St.own
  rw [List.filter_cons, if_pos (by show (ownerV 1 exV.id == 0) = true; rw [h]; rfl)]; rfl

theorem vs_new (w : World) (x : St.V) (W : World) (hW : W = w.alloc (.cells (VertexV.cells x).toArray 36)) : VsAt W (some ⟨w.heap.size, 0, none⟩) 1 1 [x] := by
  have h := vertex_box w x W hW
  refine ⟨rfl, Nat.le_refl _, by decide, fun _ => ⟨_, _, rfl, lt_of_block h, fun i f hf => ?_⟩⟩
  match i, hf with
  | 0, hf =>
    obtain rfl := Option.some.inj hf
    exact range_row h

theorem str1_new (w : World) (l : List UInt8) (W : World) (hW : W = w.alloc (.cells #[.string (strOf l)] 9)) : StrsAt W (some ⟨w.heap.size, 0, none⟩) 1 1 [l] := by
  have h : W.heap[w.heap.size]? = some (.cells #[.string (strOf l)] 9 (0, 0)) := by rw [hW]; exact heap_alloc_new w _
  refine ⟨rfl, Nat.le_refl _, by decide, fun _ => ⟨_, _, rfl, lt_of_block h, fun i f hf => ?_⟩⟩
  match i, hf with
  | 0, hf =>
    obtain rfl := Option.some.inj hf
    intro j u hu
    match j, hu with
    | 0, hu =>
      obtain rfl := Option.some.inj hu
      simp [World.cell?, h]

set_option maxRecDepth 100000 in
set_option maxHeartbeats 4000000 in
theorem awake10_any (w : World) (hL : Laid w) :
    Calls Tryd.prog 9 #[] w fun e w' => e = .returned (.bool true) ∧ Below w.heap.size w w' := by
  obtain ⟨x, hx⟩ : ∃ x, x = exV := ⟨_, rfl⟩
  have hright := ex_right
  have hput := ex_put
  have hget := ex_get
  have hown := ex_own
  rw [← hx] at hright hput hget hown
  have hid : (VertexV.cells x).toArray = #[.int .i64 1, .int .i64 (-1), .bool true, .bool false, .int .i64 0] := by rw [hx]; rfl
  have HID := Lib.hid hid; clear hid
  have HX := Lib.hid hx; clear hx
  have HRI := Lib.hid hright; clear hright
  have HPU := Lib.hid hput; clear hput
  have HGE := Lib.hid hget; clear hget
  have HOW := Lib.hid hown; clear hown
  have hvl := VertexV.len x
  have hst : ((strOf [1, 1, 1, 0, 0]).toList == [1, 1, 1, 0, 0]) = true := by rw [strOf_toList]; rfl
  obtain ⟨W1, hW1⟩ : ∃ W1, W1 = w.alloc (.cells (VertexV.cells x).toArray 36) := ⟨_, rfl⟩
  have X1 := Lib.hid (vertex_box w x W1 hW1)
  have b1 : Below w.heap.size w W1 := by rw [hW1]; exact (Below.refl _ _).alloc (Nat.le_refl _) _
  have HL1 := Lib.hid (hL.below b1); clear hL
  have HW1 := Lib.hid hW1; clear hW1
  have hg := stGet_any W1 [1, 1, 1, 0, 0] (by decide)
  rw [HGE.out] at hg
  have HG := Lib.hid hg; clear hg
  go_enter Tryd.func9, Tryd.ntmps9
  go_wp2_with fail
  first
    | (change Calls _ _ _ (w.alloc (.cells #[.int .i64 1, .int .i64 (-1), .bool true, .bool false, .int .i64 0] 36)) _
       rw [← HID.out, ← HW1.out])
    | (trace_state; fail)
  refine HG.out.mono ?_
  rintro e w2 ⟨rfl, b2⟩
  have x2 := (b2.block _ (lt_of_block X1.out)).trans X1.out
  have B2 := b1.trans (b2.mono b1.size)
  have hl2 := HL1.out.below b2
  obtain ⟨Z3, hZ3⟩ : ∃ Z3, Z3 = w2.alloc (.cells zeroVx 36) := ⟨_, rfl⟩
  have z3 : Z3.heap[w2.heap.size]? = some (.cells zeroVx 36 (0, 0)) := by rw [hZ3]; exact heap_alloc_new w2 _
  have bz3 : Below w2.heap.size w2 Z3 := by rw [hZ3]; exact (Below.refl _ _).alloc (Nat.le_refl _) _
  obtain ⟨W3, hW3⟩ : ∃ W3, W3 = Z3.setRow w2.heap.size (VertexV.cells x).toArray := ⟨_, rfl⟩
  have y3 : W3.heap[w2.heap.size]? = some (.cells (VertexV.cells x).toArray 36 (0, 0)) := by rw [hW3]; exact vset_heap x z3
  have b3 : Below w2.heap.size w2 W3 := by rw [hW3]; exact below_setRow' bz3 (Nat.le_refl _)
  have x3 := (b3.block _ (lt_of_block x2)).trans x2
  have B3 := B2.trans (b3.mono B2.size)
  have hl3 := hl2.below b3
  have Z3F := Lib.hid z3; clear z3
  have X3 := Lib.hid x3; clear x3
  have Y3 := Lib.hid y3; clear y3
  have HL3 := Lib.hid hl3; clear hl3 hl2
  have HZ3 := Lib.hid hZ3; clear hZ3
  have HW3 := Lib.hid hW3; clear hW3
  clear bz3 b3 x2 b2 HL1 X1
  have hp := stPut_any W3 x
  rw [HPU.out] at hp
  have HP := Lib.hid hp; clear hp
  go_wp2_with (first | ((with_reducible show wpList _ _ _ (⟨none, .store _ (.tmp 2) (.tmp 7), _, _, _, _⟩ :: _) _ _); change wpList _ _ _ _ _ (w2.alloc (.cells zeroVx 36)); rw [← HZ3.out]; refine wpList_store_vx rfl _ _ rfl w2.heap.size x rfl rfl zeroVx Z3F.out rfl ?_; rw [← HW3.out]) | ((with_reducible show wpList _ _ _ (⟨some 9, _, _, _, _, _⟩ :: _) _ _); refine wpList_load_vx (by kernel_rfl) _ rfl w.heap.size rfl x X3.out ?_))
  refine HP.out.mono ?_
  rintro e w4 ⟨rfl, b4⟩
  have x4 := (b4.block _ (lt_of_block X3.out)).trans X3.out
  have X4 := Lib.hid x4; clear x4
  have HL4 := Lib.hid (HL3.out.below b4)
  have B4 := B3.trans (b4.mono B3.size)
  have y4 := (b4.block _ (lt_of_block Y3.out)).trans Y3.out
  have Y4 := Lib.hid y4; clear y4
  have hc := stCheck_any w4 x
  rw [HRI.out] at hc
  have HC := Lib.hid hc; clear hc
  go_wp2_with (first | ((with_reducible show wpList _ _ _ (⟨some 13, _, _, _, _, _⟩ :: _) _ _); refine wpList_load_vx (by kernel_rfl) _ rfl w2.heap.size rfl x Y4.out ?_) | ((with_reducible show wpList _ _ _ (⟨some 14, _, _, _, _, _⟩ :: _) _ _); refine wpList_load_vx (by kernel_rfl) _ rfl w.heap.size rfl x X4.out ?_) | ((with_reducible show wpList _ _ _ (⟨some 15, _, _, _, _, _⟩ :: _) _ _); refine wpList_eql_vx (by kernel_rfl) _ _ rfl x x rfl rfl ?_; rw [show decide (x = x) = true from decide_eq_true rfl]) | ((with_reducible show wpList _ _ _ (⟨some 22, _, _, _, _, _⟩ :: _) _ _); refine wpList_load_vx (by kernel_rfl) _ rfl w.heap.size rfl x X4.out ?_))
  refine HC.out.mono ?_
  rintro e w5 ⟨rfl, b5⟩
  have x5 := (b5.block _ (lt_of_block X4.out)).trans X4.out
  have X5 := Lib.hid x5; clear x5
  have HL5 := Lib.hid (HL4.out.below b5)
  have B5 := B4.trans (b5.mono B4.size)
  obtain ⟨W6, hW6⟩ : ∃ W6, W6 = w5.alloc (.cells (VertexV.cells x).toArray 36) := ⟨_, rfl⟩
  have V6 := Lib.hid (vs_new w5 x W6 hW6)
  have b6 : Below w5.heap.size w5 W6 := by rw [hW6]; exact (Below.refl _ _).alloc (Nat.le_refl _) _
  have HW6 := Lib.hid hW6; clear hW6
  have x6 := (b6.block _ (lt_of_block X5.out)).trans X5.out
  have X6 := Lib.hid x6; clear x6
  have HL6 := Lib.hid (HL5.out.below b6)
  have B6 := B5.trans (b6.mono B5.size)
  have hr := stRoot_any W6 _ 1 1 [x] V6.out (by decide) HL6.out
  rw [show List.map St.put [x] = [[1, 1, 1, 0, 0]] by rw [List.map_cons, HPU.out]; rfl] at hr
  have hRl := Tree.root_len 1 (Tree.top [[1, 1, 1, 0, 0]])
  obtain ⟨R, hR⟩ : ∃ R, R = Tree.root 1 (Tree.top [[1, 1, 1, 0, 0]]) := ⟨_, rfl⟩
  rw [← hR] at hr hRl
  have HRT := Lib.hid hr; clear hr
  have HRL := Lib.hid hRl; clear hRl
  have HR := Lib.hid hR; clear hR
  go_wp2_with (first | ((with_reducible show wpList _ _ _ (⟨some 27, _, _, _, _, _⟩ :: _) _ _); refine wpList_load_vx (by kernel_rfl) _ rfl w.heap.size rfl x X5.out ?_))
  change Calls _ _ _ (w5.alloc (.cells (VertexV.cells x).toArray 36)) _
  rw [← HW6.out]
  refine HRT.out.mono ?_
  rintro e w7 ⟨rfl, b7⟩
  have x7 := (b7.block _ (lt_of_block X6.out)).trans X6.out
  have X7 := Lib.hid x7; clear x7
  have HL7 := Lib.hid (HL6.out.below b7)
  have B7 := B6.trans (b7.mono B6.size)
  obtain ⟨W8, hW8⟩ : ∃ W8, W8 = w7.alloc (.cells #[.string (strOf [1, 1, 1, 0, 0])] 9) := ⟨_, rfl⟩
  have V8 := Lib.hid (str1_new w7 [1, 1, 1, 0, 0] W8 hW8)
  have b8 : Below w7.heap.size w7 W8 := by rw [hW8]; exact (Below.refl _ _).alloc (Nat.le_refl _) _
  have HW8 := Lib.hid hW8; clear hW8
  have x8 := (b8.block _ (lt_of_block X7.out)).trans X7.out
  have X8 := Lib.hid x8; clear x8
  have HL8 := Lib.hid (HL7.out.below b8)
  have B8 := B7.trans (b8.mono B7.size)
  have hr := refRoot_any W8 _ 1 1 [[1, 1, 1, 0, 0]] V8.out (by decide) (by simp)
  rw [← HR.out] at hr
  have HRR := Lib.hid hr; clear hr
  go_wp2_with fail
  change Calls _ _ _ (w7.alloc (.cells #[.string (strOf [1, 1, 1, 0, 0])] 9)) _
  rw [← HW8.out]
  refine HRR.out.mono ?_
  rintro e w9 ⟨rfl, b9⟩
  have x9 := (b9.block _ (lt_of_block X8.out)).trans X8.out
  have X9 := Lib.hid x9; clear x9
  have HL9 := Lib.hid (HL8.out.below b9)
  have B9 := B8.trans (b9.mono B8.size)
  obtain ⟨W10, hW10⟩ : ∃ W10, W10 = w9.alloc (.cells (VertexV.cells x).toArray 36) := ⟨_, rfl⟩
  have V10 := Lib.hid (vs_new w9 x W10 hW10)
  have b10 : Below w9.heap.size w9 W10 := by rw [hW10]; exact (Below.refl _ _).alloc (Nat.le_refl _) _
  have HW10 := Lib.hid hW10; clear hW10
  have x10 := (b10.block _ (lt_of_block X9.out)).trans X9.out
  have X10 := Lib.hid x10; clear x10
  have HL10 := Lib.hid (HL9.out.below b10)
  have B10 := B9.trans (b10.mono B9.size)
  have hr := stOwn_any W10 _ 1 1 [x] V10.out (by decide) 1 0
  rw [HOW.out] at hr
  have HO := Lib.hid hr; clear hr
  go_wp2_with (first | ((with_reducible show wpList _ _ _ (⟨some 35, _, _, _, _, _⟩ :: _) _ _); refine wpList_load_vx (by kernel_rfl) _ rfl w.heap.size rfl x X9.out ?_) | ((with_reducible show wpList _ _ _ (⟨some 32, _, _, _, _, _⟩ :: _) _ _); refine wpList_eql_hash (op := ⟨some 32, _, _, _, _, _⟩) (by kernel_rfl) _ _ rfl R R HRL.out HRL.out rfl rfl ?_; rw [beq_self_eq_true]))
  change Calls _ _ _ (w9.alloc (.cells (VertexV.cells x).toArray 36)) _
  rw [← HW10.out]
  refine HO.out.mono ?_
  rintro e w11 ⟨q11, c11, rfl, s11, b11⟩
  clear s11
  have x11 := (b11.block _ (lt_of_block X10.out)).trans X10.out
  have X11 := Lib.hid x11; clear x11
  have HL11 := Lib.hid (HL10.out.below b11)
  have B11 := B10.trans (b11.mono B10.size)
  obtain ⟨W12, hW12⟩ : ∃ W12, W12 = w11.alloc (.cells (VertexV.cells x).toArray 36) := ⟨_, rfl⟩
  have V12 := Lib.hid (vs_new w11 x W12 hW12)
  have b12 : Below w11.heap.size w11 W12 := by rw [hW12]; exact (Below.refl _ _).alloc (Nat.le_refl _) _
  have HW12 := Lib.hid hW12; clear hW12
  have x12 := (b12.block _ (lt_of_block X11.out)).trans X11.out
  have X12 := Lib.hid x12; clear x12
  have HL12 := Lib.hid (HL11.out.below b12)
  have B12 := B11.trans (b12.mono B11.size)
  have hr := stRows_any W12 _ 1 1 [x] V12.out (by decide)
  have HRO := Lib.hid hr; clear hr
  have hl1 : ([x] : List St.V).length = 1 := rfl
  go_wp2_with (first | ((with_reducible show wpList _ _ _ (⟨some 42, _, _, _, _, _⟩ :: _) _ _); refine wpList_load_vx (by kernel_rfl) _ rfl w.heap.size rfl x X11.out ?_))
  change Calls _ _ _ (w11.alloc (.cells (VertexV.cells x).toArray 36)) _
  rw [← HW12.out]
  refine HRO.out.mono ?_
  rintro e w13 ⟨q13, c13, rfl, s13, b13⟩
  clear s13
  have B13 := B12.trans (b13.mono B12.size)
  go_wp2_with fail
  go_ret
  exact ⟨rfl, B13⟩

end Go.Proofs.YtaihojahccplcaaDoor

/- The walks of the reference: numbers and texts as bytes. -/
namespace Go.Proofs.YtaihojahccplcaaDoor
open Go.RowKit
set_option linter.unusedSimpArgs false

set_option maxRecDepth 100000 in
set_option maxHeartbeats 1000000 in
theorem refInt_any (i : Int) (h0 : -9223372036854775808 ≤ i) (h1 : i ≤ 9223372036854775807) (w : World) :
    Calls Tryd.prog 36 #[.int .i64 i] w fun e w' => e = .returned (.string (strOf (Wire.num (Wire.zig i)))) ∧ Below w.heap.size w w' := by
  have hlt := Wire.zig_lt i h0 h1
  have hn := fun w => refNum_any (Wire.zig i) hlt w
  have HN := Lib.hid hn; clear hn hlt
  by_cases h : 0 ≤ i
  · have hz : Wire.zig i = (2 * i).toNat := by unfold Wire.zig; rw [if_pos h]
    have HZ := Lib.hid hz; clear hz
    go_enter Tryd.func36, Tryd.ntmps36
    go_wp2_with fail
    rw [show (2 * i) = ((Wire.zig i : Nat) : Int) by rw [HZ.out]; omega]
    refine (HN.out _).mono ?_
    rintro e w1 ⟨rfl, b1⟩
    go_wp2_with fail
    go_ret
    exact ⟨rfl, b1⟩
  · have hz : Wire.zig i = (2 * (-1 - i) + 1).toNat := by unfold Wire.zig; rw [if_neg h]
    have HZ := Lib.hid hz; clear hz
    go_enter Tryd.func36, Tryd.ntmps36
    go_wp2_with fail
    rw [show (2 * (-1 - i) + 1) = ((Wire.zig i : Nat) : Int) by rw [HZ.out]; omega]
    refine (HN.out _).mono ?_
    rintro e w1 ⟨rfl, b1⟩
    go_wp2_with fail
    go_ret
    exact ⟨rfl, b1⟩

set_option maxRecDepth 100000 in
set_option maxHeartbeats 400000 in
theorem refNumber_any (s : ByteArray) (w : World) (hs : s.size ≤ maxLen) :
    Calls Tryd.prog 53 #[.string s] w fun e w' => w = w' ∧
      e = .returned (.tuple #[.int .u64 (Wire.dec 0 0 s.data.toList).1, .int .i64 (Wire.dec 0 0 s.data.toList).2.1, .int .i64 (Wire.dec 0 0 s.data.toList).2.2]) := by
  unfold maxLen at hs
  go_enter Tryd.func53, Tryd.ntmps53
  go_wp2
  go_loop [5, 6, 7] (fun v m i => ∃ k : Nat, ∃ n : Nat, ∃ p : Nat, k ≤ s.size ∧ (k < s.size → k ≤ 9) ∧ n < 128 ^ k ∧ i = .int .i64 k ∧ v = .int .u64 n ∧ m = .int .u64 p ∧ Hid (k ≤ 9 → p = 128 ^ k) ∧ Hid (Wire.dec 0 0 s.data.toList = Wire.dec k n (s.data.toList.drop k))) (fun _ _ i => s.size - (intOf i).toNat)
  case atStart => exact ⟨0, 0, 1, by omega, by omega, by decide, rfl, rfl, rfl, fun _ => rfl, rfl⟩
  case round =>
    obtain ⟨k, n, p, hk, hk9, hn, rfl, rfl, rfl, hp, hd⟩ := hrel
    have Hn := Lib.hid hn; clear hn
    by_cases hlt : k < s.size
    · have hd' := drop_cons s k hlt
      replace hk9 := hk9 hlt
      have HD : Hid (List.drop k s.data.toList = s[k] :: List.drop (k + 1) s.data.toList) := hd'; clear hd'
      have hc256 := s[k].toNat_lt
      rcases (show k < 9 ∨ k = 9 by omega) with h9 | h9
      · have h9' : ((k : Int) == 9) = false := by simp only [beq_eq_false_iff_ne, ne_eq]; omega
        obtain ⟨q, hq1, hq2⟩ := ref_weight k p hp.out
        have HQ1 := Lib.hid hq1; clear hq1
        have HQ2 := Lib.hid hq2; clear hq2
        go_wp2
        all_goals (try simp only [beq_iff_eq, beq_eq_false_iff_ne, ne_eq] at *)
        all_goals first
          | (rw [ref_step n k p s[k] hk9 Hn.out (by omega) (hp.out hk9), HQ1.out]
             exact ⟨⟨k + 1, _, q, by omega, by omega, number_lt n k s[k] Hn.out, by go_num, rfl, rfl, HQ2.out, by rw [hd.out, HD.out]; exact Wire.dec_more (by omega) (by omega)⟩, by simp [intOf]; omega⟩)
          | (go_ret3
             refine ⟨rfl, ?_⟩
             rw [hd.out, HD.out]
             first | (rw [Wire.dec_stop (by omega)]; rfl) | (rw [ref_step n k p s[k] hk9 Hn.out (by omega) (hp.out hk9), Wire.dec_last (by omega) (by omega)]; rfl))
      · subst h9
        by_cases hc0 : s[9].toNat = 0
        · have hc0' : ((s[9].toNat : Int) == 0) = true := by simpa using hc0
          clear hc0
          go_wp2
          go_ret3
          refine ⟨rfl, ?_⟩
          rw [hd.out, HD.out]
          simp only [beq_iff_eq] at hc0'
          rw [Wire.dec_stop (by omega)]; rfl
        · have hc0' : ((s[9].toNat : Int) == 0) = false := by rw [beq_eq_false_iff_ne]; omega
          by_cases hc1 : s[9].toNat ≤ 1
          · go_wp2
            go_ret3
            refine ⟨rfl, ?_⟩
            rw [hd.out, HD.out]
            rw [ref_step n 9 p s[9] (by omega) Hn.out (by omega) (hp.out (by omega)), Wire.dec_last (by omega) (by omega)]; rfl
          · go_wp2
            go_ret3
            refine ⟨rfl, ?_⟩
            rw [hd.out, HD.out]
            rw [Wire.dec_stop (by omega)]; rfl
    · go_wp2
      go_ret3
      have : List.drop k s.data.toList = [] := List.drop_of_length_le (by simp; omega)
      rw [hd.out, this]
      exact ⟨rfl, rfl⟩
end Go.Proofs.YtaihojahccplcaaDoor
