/- The walk of the laws' get. -/
import Derived.Test.YtnohbamjcadfaaaPut
namespace Go.Proofs.Ytnohbamjcadfaaa
open Go.RowKit

def zeroField : FieldV := ⟨0, 0, 0, 0, ⟨#[]⟩, List.replicate 32 0⟩

/-- A field got: it, what is left, the error. -/
def getV (f : FieldV) (l : List UInt8) (e : Nat) : FieldV × List UInt8 × Nat :=
  if f.kind = 0 then ({ zeroField with n := (Wire.rdNum l e).1 }, (Wire.rdNum l e).2)
  else if f.kind = 1 then ({ zeroField with kind := 1, i := Wire.unzig (Wire.rdNum l e).1 }, (Wire.rdNum l e).2)
  else if f.kind = 2 then ({ zeroField with kind := 2, s := strOf (Wire.rdText f.most l e).1 }, (Wire.rdText f.most l e).2)
  else ({ zeroField with kind := 3, h := (Wire.rdHash l e).1 }, (Wire.rdHash l e).2)

theorem field_all (f : FieldV) : f.cells.toArray.all (·.oneCell') = true := by
  rw [Array.all_eq_true_iff_forall_mem]
  intro v hv
  have hv : v ∈ f.cells := by simpa using hv
  unfold FieldV.cells at hv
  rcases List.mem_append.1 hv with hv | hv
  · simp only [List.mem_cons, List.not_mem_nil, or_false] at hv
    rcases hv with rfl | rfl | rfl | rfl | rfl <;> rfl
  · exact byteCells_one _ v hv

theorem field_size {f : FieldV} (h : f.h.length = 32) : f.cells.toArray.size = 37 := by
  rw [List.size_toArray]; simp [FieldV.cells, byteCells, h]

theorem Try.under_field : ∃ fs, Try.prog.underlying 47 = some (.struct fs) := ⟨_, Try.underlying47⟩
theorem Try.size_field : (Try.prog.info? 47).map (·.size) = some 37 := by kernel_rfl

/-- What a call on an In leaves of two blocks that lie there. -/
theorem two_kept {w W w' : World} {b : Nat} {A Z : Obj} (hb : b < w.heap.size) (hW : W = (w.alloc A).alloc Z) (h : BelowBut W.heap.size b W w') :
    w'.heap[w.heap.size + 1]? = some Z ∧ BelowBut w.heap.size b w w' ∧ w.heap.size + 2 ≤ w'.heap.size := by
  subst hW
  have hs := h.size
  have hz := heap_alloc_new (w.alloc A) Z
  have e : (w.alloc A).heap.size = w.heap.size + 1 := by simp
  rw [e] at hz
  have e2 : ((w.alloc A).alloc Z).heap.size = w.heap.size + 2 := by simp
  refine ⟨(h.block _ (by omega) (by omega)).trans hz, BelowBut.trans (.of (((Below.refl _ _).alloc (Nat.le_refl _) _).alloc (by omega) _)) (h.mono (by omega)), by omega⟩

/-- A composite of two parts. -/
theorem wpList_build2 {P : Program} {ops : Array Oper} {rest : List Oper} {o : Oper} {a : Act} {w : World} {Q : Exit → Act → World → Prop} (hg : o.guard = none) (t : TypeId) (i j : Nat) (x y : Operand) (ho : o.op = .build t #[(i, x), (j, y)])
    (u v : Value) (hx : a.eval x = u) (hy : a.eval y = v) (cs : Array Value) (hb : P.built t [(i, u), (j, v)] = some cs)
    (h : wpList P ops Q rest (a.put o.dst (.agg cs)) w) : wpList P ops Q (o :: rest) a w := by
  have e : ((#[(i, x), (j, y)] : Array (Nat × Operand)).map fun (p : Nat × Operand) => (p.1, a.eval p.2)).toList = [(i, u), (j, v)] := by
    simp [hx, hy]
  refine wpList_build hg t #[(i, x), (j, y)] ho ?_ ?_
  · show (P.built t ((#[(i, x), (j, y)] : Array (Nat × Operand)).map fun (p : Nat × Operand) => (p.1, a.eval p.2)).toList).isSome = true
    rw [e, hb]; rfl
  · show wpList P ops Q rest (a.put o.dst (.agg ((P.built t ((#[(i, x), (j, y)] : Array (Nat × Operand)).map fun (p : Nat × Operand) => (p.1, a.eval p.2)).toList).getD #[]))) w
    rw [e, hb]; exact h

set_option maxRecDepth 100000 in
set_option maxHeartbeats 1000000 in
theorem get_any (f : FieldV) (hf : f.ok) (b : Nat) (l : List UInt8) (e : Nat) (hl : l.length ≤ maxLen) (w : World) (h : InIs w b l e) :
    Calls Try.prog 26 #[.pointer (some ⟨b, 0, none⟩), .agg f.cells.toArray] w fun x w' => x = .returned (.agg (getV f l e).1.cells.toArray) ∧ InIs w' b (getV f l e).2.1 (getV f l e).2.2 ∧ BelowBut w.heap.size b w w' := by
  obtain ⟨g0, g1, g2, g3, g4⟩ := f.get
  have hlt := h.lt
  obtain ⟨fs, hfs⟩ := Try.under_field
  obtain ⟨W, hW⟩ : ∃ W, W = (w.alloc (.cells f.cells.toArray 47)).alloc (.cells zeroField.cells.toArray 47) := ⟨_, rfl⟩
  have hi : InIs W b l e := by rw [hW]; exact (h.kept (Below.heap_alloc _ _ _ hlt)).kept (Below.heap_alloc _ _ _ (by simp; omega))
  have HI := Lib.hid hi; clear hi h
  have hk := fun w' => two_kept (w' := w') hlt hW
  have HK := Lib.hid hk; clear hk
  have HW := Lib.hid hW; clear hW
  have hm1 := hf.most1
  have HF := Lib.hid hfs; clear hfs
  by_cases k0 : f.kind = 0
  · have e0 : (f.kind == 0) = true := by simpa using k0
    have hp : getV f l e = ({ zeroField with n := (Wire.rdNum l e).1 }, (Wire.rdNum l e).2) := by simp [getV, k0]
    have HP := Lib.hid hp; clear hp k0
    go_enter Try.func26, Try.ntmps26
    go_wp2_with fail
    change Calls _ _ _ ((w.alloc (.cells f.cells.toArray 47)).alloc (.cells zeroField.cells.toArray 47)) _
    rw [← HW.out]
    refine (inNum_any b l e hl W HI.out).mono ?_
    rintro x w' ⟨rfl, hin, hb⟩
    obtain ⟨hz, hbb, hs⟩ := HK.out w' hb
    obtain ⟨G, hG⟩ : ∃ G : FieldV, G = { zeroField with n := (Wire.rdNum l e).1 } := ⟨_, rfl⟩
    have hGh : G.h.length = 32 := by rw [hG]; exact rfl
    have hGs := field_size hGh
    have hGa := field_all G
    have HIN := Lib.hid hin; clear hin
    have HZ := Lib.hid hz; clear hz
    have HG := Lib.hid hG; clear hG
    have HGS := Lib.hid hGs; clear hGs
    have HGA := Lib.hid hGa; clear hGa
    clear hb HW HK HI hGh
    go_wp2_with (first | (refine wpList_store_row (o := ⟨none, .store 47 _ _, _, _, _, _⟩) rfl _ _ _ rfl (w.heap.size + 1) G.cells.toArray rfl (by rw [HG.out]; rfl) _ zeroField.cells.toArray HZ.out (by rw [HGS.out]; exact Try.size_field) (by rw [HGS.out]; rfl) HGA.out ?_))
    refine bodyPost_ret (results_cell_row rfl _ _ _ _ G.cells.toArray _ _ rfl (setRow_heap w' _ _ _ _ _ HZ.out) HF.out rfl (by rw [HGS.out]; exact Try.size_field)) rfl ⟨by rw [HP.out, HG.out], ?_, ?_⟩
    · rw [HP.out]; exact HIN.out.kept (setRow_other w' _ _ _ (by omega))
    · exact hbb.trans (.of (below_setRow (Below.refl _ _) (by omega) _))
  · have e0 : (f.kind == 0) = false := by simpa using k0
    by_cases k1 : f.kind = 1
    · have e1 : (f.kind == 1) = true := by simpa using k1
      have hp : getV f l e = ({ zeroField with kind := 1, i := Wire.unzig (Wire.rdNum l e).1 }, (Wire.rdNum l e).2) := by simp [getV, k1]
      have HP := Lib.hid hp; clear hp k0 k1
      go_enter Try.func26, Try.ntmps26
      go_wp2_with fail
      change Calls _ _ _ ((w.alloc (.cells f.cells.toArray 47)).alloc (.cells zeroField.cells.toArray 47)) _
      rw [← HW.out]
      refine (inInt_any b l e hl W HI.out).mono ?_
      rintro x w' ⟨rfl, hin, hb⟩
      obtain ⟨hz, hbb, hs⟩ := HK.out w' hb
      obtain ⟨G, hG⟩ : ∃ G : FieldV, G = { zeroField with kind := 1, i := Wire.unzig (Wire.rdNum l e).1 } := ⟨_, rfl⟩
      have hGh : G.h.length = 32 := by rw [hG]; exact rfl
      have hGs := field_size hGh
      have hGa := field_all G
      have HIN := Lib.hid hin; clear hin
      have HZ := Lib.hid hz; clear hz
      have HG := Lib.hid hG; clear hG
      have HGS := Lib.hid hGs; clear hGs
      have HGA := Lib.hid hGa; clear hGa
      clear hb HW HK HI hGh
      go_wp2_with (first | (refine wpList_store_row (o := ⟨none, .store 47 _ _, _, _, _, _⟩) rfl _ _ _ rfl (w.heap.size + 1) G.cells.toArray rfl (by rw [HG.out]; rfl) _ zeroField.cells.toArray HZ.out (by rw [HGS.out]; exact Try.size_field) (by rw [HGS.out]; rfl) HGA.out ?_))
      refine bodyPost_ret (results_cell_row rfl _ _ _ _ G.cells.toArray _ _ rfl (setRow_heap w' _ _ _ _ _ HZ.out) HF.out rfl (by rw [HGS.out]; exact Try.size_field)) rfl ⟨by rw [HP.out, HG.out], ?_, ?_⟩
      · rw [HP.out]; exact HIN.out.kept (setRow_other w' _ _ _ (by omega))
      · exact hbb.trans (.of (below_setRow (Below.refl _ _) (by omega) _))
    · have e1 : (f.kind == 1) = false := by simpa using k1
      by_cases k2 : f.kind = 2
      · have e2 : (f.kind == 2) = true := by simpa using k2
        have hp : getV f l e = ({ zeroField with kind := 2, s := strOf (Wire.rdText f.most l e).1 }, (Wire.rdText f.most l e).2) := by simp [getV, k2]
        have HP := Lib.hid hp; clear hp k0 k1 k2
        go_enter Try.func26, Try.ntmps26
        go_wp2_with fail
        change Calls _ _ _ ((w.alloc (.cells f.cells.toArray 47)).alloc (.cells zeroField.cells.toArray 47)) _
        rw [← HW.out]
        refine (inText_any b l e f.most hm1 hl W HI.out).mono ?_
        rintro x w' ⟨rfl, hin, hb⟩
        obtain ⟨hz, hbb, hs⟩ := HK.out w' hb
        obtain ⟨G, hG⟩ : ∃ G : FieldV, G = { zeroField with kind := 2, s := strOf (Wire.rdText f.most l e).1 } := ⟨_, rfl⟩
        have hGh : G.h.length = 32 := by rw [hG]; exact rfl
        have hGs := field_size hGh
        have hGa := field_all G
        have HIN := Lib.hid hin; clear hin
        have HZ := Lib.hid hz; clear hz
        have HG := Lib.hid hG; clear hG
        have HGS := Lib.hid hGs; clear hGs
        have HGA := Lib.hid hGa; clear hGa
        clear hb HW HK HI hGh
        go_wp2_with (first | (refine wpList_store_row (o := ⟨none, .store 47 _ _, _, _, _, _⟩) rfl _ _ _ rfl (w.heap.size + 1) G.cells.toArray rfl (by rw [HG.out]; rfl) _ zeroField.cells.toArray HZ.out (by rw [HGS.out]; exact Try.size_field) (by rw [HGS.out]; rfl) HGA.out ?_))
        refine bodyPost_ret (results_cell_row rfl _ _ _ _ G.cells.toArray _ _ rfl (setRow_heap w' _ _ _ _ _ HZ.out) HF.out rfl (by rw [HGS.out]; exact Try.size_field)) rfl ⟨by rw [HP.out, HG.out], ?_, ?_⟩
        · rw [HP.out]; exact HIN.out.kept (setRow_other w' _ _ _ (by omega))
        · exact hbb.trans (.of (below_setRow (Below.refl _ _) (by omega) _))
      · have e2 : (f.kind == 2) = false := by simpa using k2
        have hp : getV f l e = ({ zeroField with kind := 3, h := (Wire.rdHash l e).1 }, (Wire.rdHash l e).2) := by simp [getV, k0, k1, k2]
        have HP := Lib.hid hp; clear hp k0 k1 k2
        have hh32 := Wire.rdHash_len l e
        have hbt := FieldV.built3 _ hh32
        have HBT := Lib.hid hbt; clear hbt
        go_enter Try.func26, Try.ntmps26
        go_wp2_with fail
        change Calls _ _ _ ((w.alloc (.cells f.cells.toArray 47)).alloc (.cells zeroField.cells.toArray 47)) _
        rw [← HW.out]
        refine (inHash_any b l e hl W HI.out).mono ?_
        rintro x w' ⟨rfl, hin, hb⟩
        obtain ⟨hz, hbb, hs⟩ := HK.out w' hb
        obtain ⟨G, hG⟩ : ∃ G : FieldV, G = { zeroField with kind := 3, h := (Wire.rdHash l e).1 } := ⟨_, rfl⟩
        have hGh : G.h.length = 32 := by rw [hG]; exact hh32
        have hGs := field_size hGh
        have hGa := field_all G
        have HIN := Lib.hid hin; clear hin
        have HZ := Lib.hid hz; clear hz
        have HGS := Lib.hid hGs; clear hGs
        have HGA := Lib.hid hGa; clear hGa
        have hBT : Try.prog.built 47 [(0, .int .i64 3), (5, .agg (byteCells (Wire.rdHash l e).1).toArray)] = some G.cells.toArray := by rw [hG]; exact HBT.out
        have HBT2 := Lib.hid hBT; clear hBT HBT
        have HG := Lib.hid hG; clear hG
        clear hb HW HK HI hGh hh32
        go_wp2_with (first | (refine wpList_build2 (o := ⟨some 26, _, _, _, _, _⟩) rfl _ _ _ _ _ rfl _ _ rfl rfl G.cells.toArray HBT2.out ?_) | (refine wpList_store_row (o := ⟨none, .store 47 _ _, _, _, _, _⟩) rfl _ _ _ rfl (w.heap.size + 1) G.cells.toArray rfl rfl _ zeroField.cells.toArray HZ.out (by rw [HGS.out]; exact Try.size_field) (by rw [HGS.out]; rfl) HGA.out ?_))
        refine bodyPost_ret (results_cell_row rfl _ _ _ _ G.cells.toArray _ _ rfl (setRow_heap w' _ _ _ _ _ HZ.out) HF.out rfl (by rw [HGS.out]; exact Try.size_field)) rfl ⟨by rw [HP.out, HG.out], ?_, ?_⟩
        · rw [HP.out]; exact HIN.out.kept (setRow_other w' _ _ _ (by omega))
        · exact hbb.trans (.of (below_setRow (Below.refl _ _) (by omega) _))
end Go.Proofs.Ytnohbamjcadfaaa
