/- The walks of the laws' put and get. -/
import Derived.Test.YtnohbamjcadfaaaField
namespace Go.Proofs.Ytnohbamjcadfaaa
open Go.RowKit

/-- The bytes of a field. -/
def putV (f : FieldV) : List UInt8 :=
  if f.kind = 0 then Wire.num f.n else if f.kind = 1 then Wire.num (Wire.zig f.i) else if f.kind = 2 then Wire.num f.s.size ++ f.s.data.toList else f.h

theorem field_cell {w : World} {b : Nat} {f : FieldV} {t : TypeId} (h : w.heap[b]? = some (.cells f.cells.toArray t (0, 0))) :
    w.cell? ⟨b, 0, none⟩ = some (.int .i64 f.kind) ∧ w.cell? ⟨b, 1, none⟩ = some (.int .i64 f.most) ∧ w.cell? ⟨b, 2, none⟩ = some (.int .u64 f.n) ∧
      w.cell? ⟨b, 3, none⟩ = some (.int .i64 f.i) ∧ w.cell? ⟨b, 4, none⟩ = some (.string f.s) ∧ w.rangeAt b 5 (byteCells f.h) := by
  refine ⟨?_, ?_, ?_, ?_, ?_, ?_⟩
  · simp [World.cell?, h, FieldV.cells]
  · simp [World.cell?, h, FieldV.cells]
  · simp [World.cell?, h, FieldV.cells]
  · simp [World.cell?, h, FieldV.cells]
  · simp [World.cell?, h, FieldV.cells]
  · intro j v hv
    have e : (f.cells.toArray)[5 + j]? = some v := by
      rw [List.getElem?_toArray]
      unfold FieldV.cells
      rw [List.getElem?_append_right (by simp)]
      simpa using hv
    simp [World.cell?, h, e]

theorem OutIs.alloc {w : World} {base b : Nat} {bs : List UInt8} (h : OutIs w base b bs) (o : Obj) : OutIs (w.alloc o) base b bs :=
  h.below ((Below.refl _ _).alloc (Nat.le_refl _) o)

theorem FieldV.get (f : FieldV) : f.cells[0]? = some (.int .i64 f.kind) ∧ f.cells[1]? = some (.int .i64 f.most) ∧ f.cells[2]? = some (.int .u64 f.n) ∧ f.cells[3]? = some (.int .i64 f.i) ∧ f.cells[4]? = some (.string f.s) :=
  ⟨rfl, rfl, rfl, rfl, rfl⟩

set_option maxRecDepth 100000 in
set_option maxHeartbeats 1000000 in
theorem put_any (f : FieldV) (hf : f.ok) (hs : f.s.size ≤ 140737488351232) (base b : Nat) (bs : List UInt8) (w : World) (h : OutIs w base b bs) (hbase : base ≤ w.heap.size) (hl : bs.length + 42 + f.s.size ≤ 140737488355328) :
    Calls Try.prog 23 #[.pointer (some ⟨b, 0, none⟩), .agg f.cells.toArray] w fun e w' => e = .returned (.tuple #[]) ∧ OutIs w' base b (bs ++ putV f) ∧ BelowBut base b w w' := by
  obtain ⟨g0, g1, g2, g3, g4⟩ := f.get
  have hrange := (field_cell (heap_alloc_new w (.cells f.cells.toArray 47))).2.2.2.2.2
  have ho := h.alloc (.cells f.cells.toArray 47)
  have hbl : BelowBut base b w (w.alloc (.cells f.cells.toArray 47)) := .of ((Below.refl _ _).alloc hbase _)
  have hsW : base ≤ (w.alloc (.cells f.cells.toArray 47)).heap.size := by simp; omega
  have HO := Lib.hid ho; clear ho
  have HB := Lib.hid hbl; clear hbl
  have HS := Lib.hid hsW; clear hsW
  have HR := Lib.hid hrange; clear hrange
  clear h
  have hn1 := hf.n1
  have hi0 := hf.i0
  have hi1 := hf.i1
  have hh1 := hf.h1
  have hlen : (byteCells f.h).length = 32 := by rw [byteCells_length, hh1]
  have HL := Lib.hid hlen; clear hlen
  by_cases k0 : f.kind = 0
  · have e0 : (f.kind == 0) = true := by simpa using k0
    have hp : putV f = Wire.num f.n := by simp [putV, k0]
    have HP := Lib.hid hp; clear hp k0
    go_enter Try.func23, Try.ntmps23
    go_wp2_with fail
    refine (outNum_any f.n hn1 base b bs _ HO.out HS.out (by omega)).mono ?_
    rintro e w' ⟨rfl, ho, hb⟩
    go_wp2_with fail
    go_end0
    rw [HP.out]
    exact ⟨rfl, ho, HB.out.trans hb⟩
  · have e0 : (f.kind == 0) = false := by simpa using k0
    by_cases k1 : f.kind = 1
    · have e1 : (f.kind == 1) = true := by simpa using k1
      have hp : putV f = Wire.num (Wire.zig f.i) := by simp [putV, k1]
      have HP := Lib.hid hp; clear hp k0 k1
      go_enter Try.func23, Try.ntmps23
      go_wp2_with fail
      refine (outInt_any f.i hi0 hi1 base b bs _ HO.out HS.out (by omega)).mono ?_
      rintro e w' ⟨rfl, ho, hb⟩
      go_wp2_with fail
      go_end0
      rw [HP.out]
      exact ⟨rfl, ho, HB.out.trans hb⟩
    · have e1 : (f.kind == 1) = false := by simpa using k1
      by_cases k2 : f.kind = 2
      · have e2 : (f.kind == 2) = true := by simpa using k2
        have hp : putV f = Wire.num f.s.size ++ f.s.data.toList := by simp [putV, k2]
        have HP := Lib.hid hp; clear hp k0 k1 k2
        go_enter Try.func23, Try.ntmps23
        go_wp2_with fail
        refine (outText_any f.s hs base b bs _ HO.out HS.out (by omega)).mono ?_
        rintro e w' ⟨rfl, ho, hb⟩
        go_wp2_with fail
        go_end0
        rw [HP.out, ← List.append_assoc]
        exact ⟨rfl, ho, HB.out.trans hb⟩
      · have e2 : (f.kind == 2) = false := by simpa using k2
        have hp : putV f = f.h := by simp [putV, k0, k1, k2]
        have HP := Lib.hid hp; clear hp k0 k1 k2
        go_enter Try.func23, Try.ntmps23
        go_wp2_with (refine wpList_load_mid (op := ⟨some 8, _, _, _, _, _⟩) rfl _ _ rfl w.heap.size 5 rfl (byteCells f.h) _ HR.out Try.under_hash rfl (by rw [HL.out]; exact Try.size_hash) ?_)
        refine (outHash_any f.h hh1 base b bs _ HO.out HS.out (by omega)).mono ?_
        rintro e w' ⟨rfl, ho, hb⟩
        go_wp2_with fail
        go_end0
        rw [HP.out]
        exact ⟨rfl, ho, HB.out.trans hb⟩

end Go.Proofs.Ytnohbamjcadfaaa
