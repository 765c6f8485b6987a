/- The walks of wire.In: Text, Hash. -/
import Derived.Test.YtnohbamjcadfaaaIn2
import Derived.Lib.BufferWrite
namespace Go.Proofs.Ytnohbamjcadfaaa
open Go.RowKit

theorem wnew (w : World) (o : Obj) : (w.alloc o).heap[w.heap.size]? = some o := heap_alloc_new w o

set_option maxRecDepth 100000 in
set_option maxHeartbeats 400000 in
theorem inText_any (b : Nat) (l : List UInt8) (e : Nat) (most : Int) (hm : most ≤ 9223372036854775807) (hl : l.length ≤ maxLen) (w : World) (h : InIs w b l e) :
    Calls Try.prog 21 #[.pointer (some ⟨b, 0, none⟩), .int .i64 most] w fun x w' => x = .returned (.string (strOf (Wire.rdText most l e).1)) ∧ InIs w' b (Wire.rdText most l e).2.1 (Wire.rdText most l e).2.2 ∧ BelowBut w.heap.size b w w' := by
  have hlt := h.lt
  obtain ⟨W, hW⟩ : ∃ W, W = (w.alloc (.cells #[.int .i64 most] 3 (0, 0))).alloc (.cells #[.string ⟨#[]⟩] 9 (0, 0)) := ⟨_, rfl⟩
  have hq : W.heap[w.heap.size]? = some (.cells #[.int .i64 most] 3 (0, 0)) := by
    rw [hW, Below.heap_alloc _ _ _ (by simp)]; exact heap_alloc_new w _
  have hp : W.heap[w.heap.size + 1]? = some (.cells #[.string ⟨#[]⟩] 9 (0, 0)) := by
    rw [hW]; have := heap_alloc_new (w.alloc (.cells #[.int .i64 most] 3 (0, 0))) (.cells #[.string ⟨#[]⟩] 9 (0, 0)); simpa using this
  have hbW : InIs W b l e := by
    refine h.kept ?_
    rw [hW, Below.heap_alloc _ _ _ (by simp; omega), Below.heap_alloc _ _ _ hlt]
  have hbl : Below w.heap.size w W := by rw [hW]; exact ((Below.refl _ _).alloc (Nat.le_refl _) _).alloc (by simp) _
  have hWs : W.heap.size = w.heap.size + 2 := by rw [hW]; simp
  by_cases he : e = 0
  · subst he
    have hcall := read_go b l 32 #[.pointer (some ⟨w.heap.size, 0, none⟩), .pointer (some ⟨w.heap.size + 1, 0, none⟩)] W hbW
      (fun n er w1 => n = (Wire.txt most l).2.1 ∧ er = (Wire.txt most l).2.2 ∧ w1 = textEnd (w.heap.size + 1) (Wire.txt most l).1 W) Try.callText1
      ((text1_any l hl most hm w.heap.size (w.heap.size + 1) _ W hq hp).mono fun x w1 ⟨hw, hx⟩ => ⟨_, _, hx, by subst hw; unfold textEnd; split; exact hbW.kept (Below.heap_setCell _ _ _ _ (by simp; omega)); exact hbW, Wire.txt_len most l, rfl, rfl, hw⟩)
    have HC := Lib.hid hcall; clear hcall
    have HW := Lib.hid hW; clear hW
    go_enter Try.func21, Try.ntmps21
    go_wp2_with fail
    rw [← HW.out]
    refine HC.out.mono ?_
    rintro x w' ⟨n, er, w1, ⟨rfl, rfl, rfl⟩, hin, hbb, rfl⟩
    have hw1 : ∃ t, (textEnd (w.heap.size + 1) (Wire.txt most l).1 W).heap[w.heap.size + 1]? = some (.cells #[.string (strOf t)] 9 (0, 0)) ∧ t = (Wire.rdText most l 0).1 ∧
        (if ((Wire.txt most l).2.2 : Int) = 0 then l.drop (Wire.txt most l).2.1 else l) = (Wire.rdText most l 0).2.1 ∧ (Wire.txt most l).2.2 = (Wire.rdText most l 0).2.2 := by
      have hf := Wire.txt_facts most l
      unfold Wire.rdText
      rw [if_neg (by simp)]
      cases hx : Wire.txt most l with
      | mk o r =>
        obtain ⟨n, er⟩ := r
        rw [hx] at hf
        cases o with
        | some t => exact ⟨t, one_setCell hp, rfl, by simp [show er = 0 from hf.1 t rfl], hf.1 t rfl⟩
        | none => exact ⟨[], hp, rfl, by simp only; rw [if_neg (by have := hf.2 rfl; simpa using this)], rfl⟩
    obtain ⟨t, hw1, ht, hl', her⟩ := hw1
    have hsz1 : (textEnd (w.heap.size + 1) (Wire.txt most l).1 W).heap.size = w.heap.size + 2 := by
      unfold textEnd; split <;> simp [hWs]
    have hb1 : Below w.heap.size W (textEnd (w.heap.size + 1) (Wire.txt most l).1 W) := by
      unfold textEnd; split
      · exact (Below.refl _ _).setCell (p := ⟨w.heap.size + 1, 0, none⟩) (by simp) _
      · exact Below.refl _ _
    have hcell : w'.cell? ⟨w.heap.size + 1, 0, none⟩ = some (.string (strOf t)) := cell_of_one ((hbb.block _ (by omega) (by omega)).trans hw1)
    have hbb2 : BelowBut w.heap.size b w w' := BelowBut.trans (.of (hbl.trans hb1)) (hbb.mono (by omega))
    rw [hl', her] at hin
    have HI := Lib.hid hin; clear hin
    have HT := Lib.hid ht; clear ht
    clear hbb HC hw1 hsz1 hb1 hl' her HW hq hp hbW hbl hWs
    go_wp2_with fail
    go_ret
    exact ⟨congrArg (fun t => Ending.returned (.string (strOf t))) HT.out, HI.out, hbb2⟩
  · have hstop := fun fv => read_stop b l e (by omega) fv _ hbW
    have HS := Lib.hid hstop; clear hstop
    have hr : Wire.rdText most l e = ([], l, e) := by simp [Wire.rdText, he]
    have HR := Lib.hid hr; clear hr
    have HI := Lib.hid hbW; clear hbW
    have HW := Lib.hid hW; clear hW
    have hcell := cell_of_one hp
    clear hq hp
    go_enter Try.func21, Try.ntmps21
    go_wp2_with fail
    rw [← HW.out]
    refine (HS.out _).mono ?_
    rintro x w' ⟨rfl, rfl⟩
    go_wp2_with fail
    go_ret
    rw [HR.out]
    exact ⟨rfl, HI.out, .of hbl⟩

theorem lib_byteCells (l : List UInt8) : Lib.byteCells l = byteCells l := rfl

/-- 'copy(row, s)' where s is no shorter than the row. -/
theorem run_copy_string_full {P : Program} (w : World) (dT sT ty elem : TypeId) (g dLen dCap : Nat) (l : List UInt8) (cur : Array Value) (t : TypeId)
    (hu : P.underlying dT = some (.slice elem)) (hs : (P.info? elem).map (·.size) = some 1) (hg : w.heap[g]? = some (.cells cur t (0, 0))) (hle : dLen ≤ l.length) (hfit : cur.size = dLen) :
    (Builtin.copy_ #[dT, sT] ty #[.slice (some ⟨g, 0, none⟩) dLen dCap, .string (strOf l)]).run P w =
      .ok (goInt dLen) (w.setRow g (byteCells (l.take dLen)).toArray) := by
  have hlen : (byteCells (l.take dLen)).length = dLen := by rw [byteCells_length, List.length_take]; omega
  have hst := run_storeCells_at P g 0 t (byteCells (l.take dLen)) 0 cur w hg (by rw [hlen]; omega) (byteCells_one _)
  have hmin : Nat.min (strOf l).size dLen = dLen := Nat.min_eq_right (by rw [strOf_size]; exact hle)
  have htk : List.take dLen (List.map (fun b : UInt8 => Value.int IntKind.u8 (b.toNat : Int)) (strOf l).data.toList) = byteCells (l.take dLen) := by
    rw [strOf_list, ← List.map_take]; rfl
  have hrow : List.take 0 cur.toList ++ byteCells (List.take dLen l) ++ List.drop (0 + (byteCells (List.take dLen l)).length) cur.toList = byteCells (l.take dLen) := by
    rw [hlen, List.drop_of_length_le (by simp [hfit])]; simp
  simp only [Nat.add_zero] at hst
  rw [hrow] at hst
  cases hq : P.info? elem with
  | none => simp [hq] at hs
  | some i =>
    simp [Builtin.copy_, run_underlying hu, Builtin.lenOf, Builtin.firstCells, sizeOf, typeInfo, hq, hmin]
    rw [htk, hst]
    simp [Result.andThen]

theorem wpList_copy_string_full {P : Program} {w : World} {ops : Array Oper} {rest : List Oper} {o : Oper} {a : Act} {Q : Exit → Act → World → Prop} (hgd : o.guard = none) (d s : Operand) (dT sT : TypeId)
    (ho : o.op = .call { callee := .builtin .copy, args := #[d, s], argTypes := #[dT, sT] }) (elem : TypeId) (hu : P.underlying dT = some (.slice elem)) (hsz : (P.info? elem).map (·.size) = some 1)
    (g dLen dCap : Nat) (l : List UInt8) (hd : a.eval d = .slice (some ⟨g, 0, none⟩) dLen dCap) (hs : a.eval s = .string (strOf l))
    (cur : Array Value) (t : TypeId) (hg : w.heap[g]? = some (.cells cur t (0, 0))) (hle : dLen ≤ l.length) (hfit : cur.size = dLen)
    (h : wpList P ops Q rest (a.put o.dst (goInt dLen)) (w.setRow g (byteCells (l.take dLen)).toArray)) :
    wpList P ops Q (o :: rest) a w := by
  refine wpList_plain hgd fun K hK => ?_
  have hrun := run_copy_string_full (P := P) w dT sT o.type elem g dLen dCap l cur t hu hsz hg hle hfit
  unfold Oper.wp execOp
  simp only [ho, resolve, invoke, builtin, Sem.run_bind, Sem.run_pure, Result.andThen_ok, List.map_toArray, List.map_cons, List.map_nil, hs, hd, hrun]
  exact hK _ _ h

set_option maxRecDepth 100000 in
set_option maxHeartbeats 400000 in
theorem hash1_any (l : List UInt8) (hl : l.length ≤ maxLen) (p : Nat) (cur : Array Value) (hcur : cur.size = 32) (w : World) (hp : w.heap[p]? = some (.cells cur 45 (0, 0))) :
    Calls Try.prog 39 #[.string (strOf l), .pointer (some ⟨p, 0, none⟩)] w fun e w' =>
      (l.length < 32 ∧ w' = w ∧ e = .returned (.tuple #[.int .i64 0, .int .i64 20])) ∨
      (32 ≤ l.length ∧ w' = w.setRow p (byteCells (l.take 32)).toArray ∧ e = .returned (.tuple #[.int .i64 32, .int .i64 0])) := by
  have hs := strOf_size l
  unfold maxLen at hl
  by_cases h : l.length < 32
  · go_enter Try.func39, Try.ntmps39
    go_wp2
    go_ret2
    exact .inl ⟨h, rfl, rfl⟩
  · go_enter Try.func39, Try.ntmps39
    go_wp2_with (with_reducible refine wpList_copy_string_full (o := ⟨some 10, _, _, _, _, _⟩) rfl _ _ 59 9 rfl 5 Try.under_bytes (by kernel_rfl) p 32 32 l rfl rfl cur _ hp (by omega) hcur ?_)
    go_ret2
    exact .inr ⟨by omega, rfl, rfl⟩

end Go.Proofs.Ytnohbamjcadfaaa
