/- Fields: what is put, what is got, and when two are the same. -/
import Derived.Test.YtnohbamjcadfaaaUse
import Derived.Stop.BytesEq
import Derived.Laws.Tables
namespace Go.Proofs.Ytnohbamjcadfaaa
open Go.RowKit

theorem Try.size_byte (w : World) : (sizeOf 5).run Try.prog w = .ok 1 w := by kernel_rfl

theorem hash_eql (w : World) (a b : List UInt8) (ha : a.length = 32) (hb : b.length = 32) :
    (binOp .eql 45 (.agg (byteCells a).toArray) (.agg (byteCells b).toArray)).run Try.prog w = .ok (.bool (a == b)) w :=
  run_eql_bytes w _ _ 32 Try.under_hash Try.under_byte Try.size_byte a b ha hb

theorem hash_equal (w : World) (d : Nat) (a b : List UInt8) (ha : a.length = 32) (hb : b.length = 32) :
    (Op.equalIn (d + 2) 45 (.agg (byteCells a).toArray) (.agg (byteCells b).toArray)).run Try.prog w = .ok (a == b) w :=
  run_equalIn_bytes w d _ _ 32 Try.under_hash Try.under_byte Try.size_byte a b ha hb

theorem FieldV.built0 (n : Nat) : Try.prog.built 47 [(2, .int .u64 n)] = some (FieldV.mk 0 0 n 0 ⟨#[]⟩ (List.replicate 32 0)).cells.toArray := by kernel_rfl
theorem FieldV.built1 (i : Int) : Try.prog.built 47 [(0, .int .i64 1), (3, .int .i64 i)] = some (FieldV.mk 1 0 0 i ⟨#[]⟩ (List.replicate 32 0)).cells.toArray := by kernel_rfl
theorem FieldV.built2 (s : ByteArray) : Try.prog.built 47 [(0, .int .i64 2), (4, .string s)] = some (FieldV.mk 2 0 0 0 s (List.replicate 32 0)).cells.toArray := by kernel_rfl
theorem FieldV.builtK (k : Int) : Try.prog.built 47 [(0, .int .i64 k)] = some (FieldV.mk k 0 0 0 ⟨#[]⟩ (List.replicate 32 0)).cells.toArray := by kernel_rfl

theorem FieldV.built3' (a0 a1 a2 a3 a4 a5 a6 a7 a8 a9 a10 a11 a12 a13 a14 a15 a16 a17 a18 a19 a20 a21 a22 a23 a24 a25 a26 a27 a28 a29 a30 a31 : Value) : Try.prog.built 47 [(0, .int .i64 3), (5, .agg #[a0, a1, a2, a3, a4, a5, a6, a7, a8, a9, a10, a11, a12, a13, a14, a15, a16, a17, a18, a19, a20, a21, a22, a23, a24, a25, a26, a27, a28, a29, a30, a31])] = some #[.int .i64 3, .int .i64 0, .int .u64 0, .int .i64 0, .string ⟨#[]⟩, a0, a1, a2, a3, a4, a5, a6, a7, a8, a9, a10, a11, a12, a13, a14, a15, a16, a17, a18, a19, a20, a21, a22, a23, a24, a25, a26, a27, a28, a29, a30, a31] := by kernel_rfl

theorem FieldV.built3 (h : List UInt8) (hl : h.length = 32) : Try.prog.built 47 [(0, .int .i64 3), (5, .agg (byteCells h).toArray)] = some (FieldV.mk 3 0 0 0 ⟨#[]⟩ h).cells.toArray := by
  have h32 : (byteCells h).length = 32 := by rw [byteCells_length, hl]
  have e : ∀ xs : List Value, xs.length = 32 → Try.prog.built 47 [(0, .int .i64 3), (5, .agg xs.toArray)] = some ([Value.int .i64 3, Value.int .i64 0, Value.int .u64 0, Value.int .i64 0, Value.string ⟨#[]⟩] ++ xs).toArray := by
    intro xs hx
    match xs, hx with
    | [a0, a1, a2, a3, a4, a5, a6, a7, a8, a9, a10, a11, a12, a13, a14, a15, a16, a17, a18, a19, a20, a21, a22, a23, a24, a25, a26, a27, a28, a29, a30, a31], _ => exact FieldV.built3' a0 a1 a2 a3 a4 a5 a6 a7 a8 a9 a10 a11 a12 a13 a14 a15 a16 a17 a18 a19 a20 a21 a22 a23 a24 a25 a26 a27 a28 a29 a30 a31
  exact e _ h32

/-- A load of a row out of the middle of a block, under a guard that holds. -/
theorem wpList_load_mid_g {P : Program} {ops : Array Oper} {rest : List Oper} {op : Oper} {a : Act} {w : World} {Q : Exit → Act → World → Prop} (hgd : Region.wanted op (yielded ops a.tmps) = true) (ty : TypeId) (x : Operand) (ho : op.op = .load ty x)
    (b o : Nat) (hx : a.eval x = .pointer (some ⟨b, o, none⟩)) (cs : List Value) (d : TypeDesc) (hc : w.rangeAt b o cs)
    (hu : P.underlying ty = some d) (hd : d.isRow = true) (hi : (P.info? ty).map (·.size) = some cs.length)
    (h : wpList P ops Q rest (a.put op.dst (.agg cs.toArray)) w) : wpList P ops Q (op :: rest) a w :=
  wpList_step fun _ hK => by rw [if_pos hgd]; exact wp_load_mid ty x ho b o hx cs d hc hu hd hi (hK _ _ h)

theorem Try.eqg_hash : Try.prog.eqGuardType Try.prog.depth 45 = false := by kernel_rfl

/-- Two sums compared, under a guard that holds or none. -/
theorem wpList_eql_hash {ops : Array Oper} {rest : List Oper} {op : Oper} {a : Act} {w : World} {Q : Exit → Act → World → Prop} (hgd : Region.wanted op (yielded ops a.tmps) = true) (x y : Operand) (ho : op.op = .binOp .eql 45 x y 45)
    (u v : List UInt8) (hu : u.length = 32) (hv : v.length = 32) (hx : a.eval x = .agg (byteCells u).toArray) (hy : a.eval y = .agg (byteCells v).toArray)
    (h : wpList Try.prog ops Q rest (a.put op.dst (.bool (u == v))) w) : wpList Try.prog ops Q (op :: rest) a w :=
  wpList_step fun K hK => by
    rw [if_pos hgd]
    have hg := run_eqGuard_agg (P := Try.prog) w .eql 45 x y (byteCells u).toArray (byteCells v).toArray Try.eqg_hash
    have he := hash_eql w u v hu hv
    unfold Oper.wp execOp
    simp only [ho, hx, hy, Sem.run_bind, hg, he, Result.andThen_ok, Sem.run_pure]
    exact hK _ _ h

end Go.Proofs.Ytnohbamjcadfaaa
