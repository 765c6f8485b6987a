/- When two fields are the same. -/
import Derived.Test.YtnohbamjcadfaaaFew
import Derived.Deep.QuietTactic
import Derived.BigQuiet
namespace Go.Proofs.Ytnohbamjcadfaaa
open Go.RowKit

def fieldEq (f g : FieldV) : Bool := f.kind == g.kind && (f.most == g.most && (((f.n : Int) == (g.n : Int)) && (f.i == g.i && (f.s.toList == g.s.toList && f.h == g.h))))

theorem cells_get (f : FieldV) : f.cells.toArray[0]? = some (.int .i64 f.kind) ∧ f.cells.toArray[1]? = some (.int .i64 f.most) ∧ f.cells.toArray[2]? = some (.int .u64 f.n) ∧ f.cells.toArray[3]? = some (.int .i64 f.i) ∧ f.cells.toArray[4]? = some (.string f.s) :=
  ⟨rfl, rfl, rfl, rfl, rfl⟩

theorem part_int (w : World) (t : TypeId) (k : IntKind) (ht : Try.prog.underlying t = some (.int k)) (xs : Array Value) (o : Nat) (v : Value) (h : xs[o]? = some v) : (part t xs o).run Try.prog w = .ok v w := by
  simp [part, isAgg, run_underlying ht, h]
theorem part_str (w : World) (t : TypeId) (ht : Try.prog.underlying t = some .string) (xs : Array Value) (o : Nat) (v : Value) (h : xs[o]? = some v) : (part t xs o).run Try.prog w = .ok v w := by
  simp [part, isAgg, run_underlying ht, h]
theorem cells_tail (f : FieldV) (hf : f.ok) : List.take 32 (List.drop 5 f.cells) = byteCells f.h := by
  have e : List.drop 5 f.cells = byteCells f.h := rfl
  rw [e]
  exact List.take_of_length_le (by rw [byteCells_length, hf.h1]; exact Nat.le_refl _)

theorem part_hash (w : World) (f : FieldV) (hf : f.ok) : (part 45 f.cells.toArray 5).run Try.prog w = .ok (.agg (byteCells f.h).toArray) w := by
  simp [part, isAgg, run_underlying Try.under_hash, cells_tail f hf]

theorem bool_if (x y : Bool) (w : World) : (if (!x) = true then (Result.ok false w : Result Bool) else .ok y w) = .ok (x && y) w := by
  cases x <;> simp

theorem Try.stood_field : Try.prog.stoodInHeld 47 = false := by kernel_rfl

theorem field_parts (d : Nat) (w : World) (xs ys : Array Value) : (Op.equalIn (d + 1) 47 (.agg xs) (.agg ys)).run Try.prog w =
    (Op.eqFields d xs ys [⟨ "Kind", 3, 0, false, "", "", 0⟩, ⟨ "Most", 3, 1, false, "", "", 8⟩, ⟨ "N", 29, 2, false, "", "", 16⟩, ⟨ "I", 2, 3, false, "", "", 24⟩, ⟨ "S", 9, 4, false, "", "", 32⟩, ⟨ "H", 45, 5, false, "", "", 48⟩]).run Try.prog w := by
  have h : Try.prog.fieldsOf 47 = #[⟨ "Kind", 3, 0, false, "", "", 0⟩, ⟨ "Most", 3, 1, false, "", "", 8⟩, ⟨ "N", 29, 2, false, "", "", 16⟩, ⟨ "I", 2, 3, false, "", "", 24⟩, ⟨ "S", 9, 4, false, "", "", 32⟩, ⟨ "H", 45, 5, false, "", "", 48⟩] := by
    unfold Program.fieldsOf
    rw [Try.underlying47]
  rw [run_equalIn_agg w d _ _ _ (by rw [h]; exact Try.underlying47) Try.stood_field, h]

theorem eq_step {P : Program} {w : World} {d : Nat} {xs ys : Array Value} {f : Field} {fs : List Field} {a b : Value} {r s : Bool} (hn : f.name ≠ "_") (ha : (part f.type xs f.offset).run P w = .ok a w)
    (hb : (part f.type ys f.offset).run P w = .ok b w) (he : (Op.equalIn d f.type a b).run P w = .ok r w) (hs : (Op.eqFields d xs ys fs).run P w = .ok s w) : (Op.eqFields d xs ys (f :: fs)).run P w = .ok (r && s) w := by
  rw [Op.eqFields, if_pos hn]
  rw [Sem.run_bind, ha, Result.andThen_ok, Sem.run_bind, hb, Result.andThen_ok, Sem.run_bind, he, Result.andThen_ok]
  cases r
  · rfl
  · simpa using hs

theorem field_equal (w : World) (f g : FieldV) (hf : f.ok) (hg : g.ok) (d : Nat) : (Op.equalIn (d + 4) 47 (.agg f.cells.toArray) (.agg g.cells.toArray)).run Try.prog w = .ok (fieldEq f g) w := by
  obtain ⟨f0, f1, f2, f3, f4⟩ := cells_get f
  obtain ⟨g0, g1, g2, g3, g4⟩ := cells_get g
  rw [field_parts (d + 3)]
  have h6 : (Op.eqFields (d + 3) f.cells.toArray g.cells.toArray []).run Try.prog w = .ok true w := rfl
  have h5 := eq_step (f := ⟨ "H", 45, 5, false, "", "", 48⟩) (by decide) (part_hash w f hf) (part_hash w g hg) (hash_equal w (d + 1) f.h g.h hf.h1 hg.h1) h6
  have h4 := eq_step (f := ⟨ "S", 9, 4, false, "", "", 32⟩) (by decide) (part_str w _ Try.under_string _ _ _ f4) (part_str w _ Try.under_string _ _ _ g4) (run_equalIn_string w _ _ _ _ Try.under_string) h5
  have h3 := eq_step (f := ⟨ "I", 2, 3, false, "", "", 24⟩) (by decide) (part_int w _ _ Try.under_i64 _ _ _ f3) (part_int w _ _ Try.under_i64 _ _ _ g3) (run_equalIn_int w _ _ _ _ _ _ Try.under_i64) h4
  have h2 := eq_step (f := ⟨ "N", 29, 2, false, "", "", 16⟩) (by decide) (part_int w _ _ Try.under_u64 _ _ _ f2) (part_int w _ _ Try.under_u64 _ _ _ g2) (run_equalIn_int w _ _ _ _ _ _ Try.under_u64) h3
  have h1 := eq_step (f := ⟨ "Most", 3, 1, false, "", "", 8⟩) (by decide) (part_int w _ _ Try.under_int _ _ _ f1) (part_int w _ _ Try.under_int _ _ _ g1) (run_equalIn_int w _ _ _ _ _ _ Try.under_int) h2
  have h0 := eq_step (f := ⟨ "Kind", 3, 0, false, "", "", 0⟩) (by decide) (part_int w _ _ Try.under_int _ _ _ f0) (part_int w _ _ Try.under_int _ _ _ g0) (run_equalIn_int w _ _ _ _ _ _ Try.under_int) h1
  rw [h0]
  simp only [fieldEq, Bool.and_true]

theorem field_neq (w : World) (f g : FieldV) (hf : f.ok) (hg : g.ok) : (binOp .neq 47 (.agg f.cells.toArray) (.agg g.cells.toArray)).run Try.prog w = .ok (.bool (!fieldEq f g)) w := by
  rw [run_neq_struct, field_equal w f g hf hg 9996]
  rfl

theorem zeroKind_ok (k : Int) (h0 : -9223372036854775808 ≤ k) (h1 : k ≤ 9223372036854775807) : ({ zeroField with kind := k } : FieldV).ok :=
  ⟨h0, h1, (by decide : (-9223372036854775808 : Int) ≤ 0), (by decide : (0 : Int) ≤ 9223372036854775807), (by decide : (0 : Nat) < 18446744073709551616), (by decide : (-9223372036854775808 : Int) ≤ 0), (by decide : (0 : Int) ≤ 9223372036854775807), Nat.zero_le _, rfl⟩

theorem fieldEq_self (f : FieldV) : fieldEq f f = true := by simp [fieldEq]
theorem _root_.Go.RowKit.Below.drewN {B : Nat} {w w' : World} (h : Below B w w') (n : Nat) : Below B w (w'.drewN n) := ⟨h.os, h.tape, h.output, h.size, h.block⟩

section
variable {P : Program} {ops : Array Oper} {w : World} {Q : Act → Prop} {a : Act} {o : Oper} {rest : List Oper}

/-- One operation of a region that draws its order and only reads: its value, whatever has been drawn. -/
theorem quiet_op (v : Value) (hw : Region.wanted o (yielded ops a.tmps) = true) (h : ∀ n, (execOp a.eval o).run P (w.drewN n) = .ok (.value v) (w.drewN n))
    (hk : wpQuiet P ops (fun w' => ∃ n, w' = w.drewN n) Q rest (a.put o.dst v)) : wpQuiet P ops (fun w' => ∃ n, w' = w.drewN n) Q (o :: rest) a := by
  refine BigFrame.wpQuiet_want hw fun K hK => ⟨v, ?_, hK _ hk⟩
  rintro _ ⟨n, rfl⟩
  unfold Oper.quietAt
  rw [h n]
  exact ⟨rfl, rfl⟩

theorem quiet_load (hw : Region.wanted o (yielded ops a.tmps) = true) (ty : TypeId) (x : Operand) (ho : o.op = .load ty x)
    (b off : Nat) (hx : a.eval x = .pointer (some ⟨b, off, none⟩)) (cs : List Value) (d : TypeDesc) (hc : w.rangeAt b off cs)
    (hu : P.underlying ty = some d) (hd : d.isRow = true) (hi : (P.info? ty).map (·.size) = some cs.length)
    (hk : wpQuiet P ops (fun w' => ∃ n, w' = w.drewN n) Q rest (a.put o.dst (.agg cs.toArray))) : wpQuiet P ops (fun w' => ∃ n, w' = w.drewN n) Q (o :: rest) a :=
  quiet_op _ hw (fun n => by
    have := run_loadVar_mid (P := P) (w.drewN n) b off ty cs d hc hu hd hi
    unfold execOp
    simp only [ho, hx, Instr.loadAt, Instr.sureAddr, Sem.run_bind, Sem.run_pure, Result.andThen_ok, this]) hk

theorem quiet_build1 (hw : Region.wanted o (yielded ops a.tmps) = true) (t : TypeId) (i : Nat) (x : Operand) (ho : o.op = .build t #[(i, x)]) (u : Value) (hx : a.eval x = u) (cs : Array Value) (hb : P.built t [(i, u)] = some cs)
    (hk : wpQuiet P ops (fun w' => ∃ n, w' = w.drewN n) Q rest (a.put o.dst (.agg cs))) : wpQuiet P ops (fun w' => ∃ n, w' = w.drewN n) Q (o :: rest) a :=
  quiet_op _ hw (fun n => by
    have e : ((#[(i, x)] : Array (Nat × Operand)).map fun (p : Nat × Operand) => (p.1, a.eval p.2)).toList = [(i, u)] := by simp [hx]
    have := run_build (P := P) (w.drewN n) t ((#[(i, x)] : Array (Nat × Operand)).map fun (p : Nat × Operand) => (p.1, a.eval p.2)) cs (by rw [e]; exact hb)
    unfold execOp
    simp only [ho]
    rw [Sem.run_bind, this]
    rfl) hk
end

theorem Try.eqg_field : Try.prog.eqGuardType Try.prog.depth 47 = false := by kernel_rfl

theorem quiet_neq_field {ops : Array Oper} {w : World} {Q : Act → Prop} {a : Act} {o : Oper} {rest : List Oper} (hw : Region.wanted o (yielded ops a.tmps) = true) (x y : Operand)
    (ho : o.op = .binOp .neq 47 x y 47) (f g : FieldV) (hf : f.ok) (hg : g.ok) (hx : a.eval x = .agg f.cells.toArray) (hy : a.eval y = .agg g.cells.toArray)
    (hk : wpQuiet Try.prog ops (fun w' => ∃ n, w' = w.drewN n) Q rest (a.put o.dst (.bool (!fieldEq f g)))) : wpQuiet Try.prog ops (fun w' => ∃ n, w' = w.drewN n) Q (o :: rest) a :=
  quiet_op _ hw (fun n => by
    have hgd := run_eqGuard_agg (P := Try.prog) (w.drewN n) .neq 47 x y f.cells.toArray g.cells.toArray Try.eqg_field
    have he := field_neq (w.drewN n) f g hf hg
    unfold execOp
    simp only [ho, hx, hy, Sem.run_bind, hgd, he, Result.andThen_ok, Sem.run_pure]) hk

/-- .. and outside such a region. -/
theorem wpList_neq_field {ops : Array Oper} {rest : List Oper} {op : Oper} {a : Act} {w : World} {Q : Exit → Act → World → Prop} (hgd : Region.wanted op (yielded ops a.tmps) = true) (x y : Operand) (ho : op.op = .binOp .neq 47 x y 47)
    (f g : FieldV) (hf : f.ok) (hg : g.ok) (hx : a.eval x = .agg f.cells.toArray) (hy : a.eval y = .agg g.cells.toArray)
    (h : wpList Try.prog ops Q rest (a.put op.dst (.bool (!fieldEq f g))) w) : wpList Try.prog ops Q (op :: rest) a w :=
  wpList_step fun K hK => by
    rw [if_pos hgd]
    have hg1 := run_eqGuard_agg (P := Try.prog) w .neq 47 x y f.cells.toArray g.cells.toArray Try.eqg_field
    have he := field_neq w f g hf hg
    unfold Oper.wp execOp
    simp only [ho, hx, hy, Sem.run_bind, hg1, he, Result.andThen_ok, Sem.run_pure]
    exact hK _ _ h
end Go.Proofs.Ytnohbamjcadfaaa
