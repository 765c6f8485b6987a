/- The walk of the law StateApart. -/
import Derived.Test.YtaihojahccplcaaDoorKG6b
import Derived.Test.YtaihojahccplcaaDoorKG0a
namespace Go.Proofs.YtaihojahccplcaaDoor
open Go.RowKit
set_option linter.unusedSimpArgs false
set_option linter.unusedVariables false

/-- What the region's operations leave. -/
def sapV (a b : St.V) (pa pb : List UInt8) (ix : Nat) (w : World) (v : Value) : Prop :=
  match ix with
  | 0 => v = .bool true
  | 1 => v = .bool true
  | 2 => v = .agg (VertexV.cells a).toArray
  | 3 => v = .string (strOf pa)
  | 4 => v = .agg (VertexV.cells b).toArray
  | 5 => v = .string (strOf pb)
  | 6 => v = .bool (decide (a = b))
  | 7 => v = .agg (VertexV.cells a).toArray
  | 8 => v = .agg (VertexV.cells b).toArray
  | 9 => v = .bool (decide (a = b))
  | 10 => v = .bool true
  | 11 => v = .bool true
  | 12 => v = .bool true
  | _ => True

theorem sapV_mono (a b : St.V) (pa pb : List UInt8) (jx : Nat) (w w' : World) (v : Value) (hb : Below w.heap.size w w') (h : sapV a b pa pb jx w v) : sapV a b pa pb jx w' v := by
  match jx, h with
  | 0, h => exact h
  | 1, h => exact h
  | 2, h => exact h
  | 3, h => exact h
  | 4, h => exact h
  | 5, h => exact h
  | 6, h => exact h
  | 7, h => exact h
  | 8, h => exact h
  | 9, h => exact h
  | 10, h => exact h
  | 11, h => exact h
  | 12, h => exact h
  | _ + 13, h => exact trivial

set_option maxRecDepth 100000 in
set_option maxHeartbeats 4000000 in
theorem sapart_law (w : World) (a : St.V) (ha : a.ok) (b : St.V) (hb : b.ok) (hL : Laid w) :
    Calls Tryd.prog 6 #[.agg (VertexV.cells a).toArray, .agg (VertexV.cells b).toArray] w fun e w' => e = .returned (.bool true) ∧ Below w.heap.size w w' := by
  obtain ⟨W, hW⟩ : ∃ W, W = (w.alloc (.cells (VertexV.cells a).toArray 36)).alloc (.cells (VertexV.cells b).toArray 36) := ⟨_, rfl⟩
  have xa0 : W.heap[w.heap.size]? = some (.cells (VertexV.cells a).toArray 36 (0, 0)) := by
    rw [hW, Below.heap_alloc _ _ _ (by simp)]; exact heap_alloc_new w _
  have xb0 : W.heap[w.heap.size + 1]? = some (.cells (VertexV.cells b).toArray 36 (0, 0)) := by
    rw [hW]; have := heap_alloc_new (w.alloc (.cells (VertexV.cells a).toArray 36)) (.cells (VertexV.cells b).toArray 36); simpa using this
  have B0 : Below w.heap.size w W := by rw [hW]; exact ((Below.refl _ _).alloc (Nat.le_refl _) _).alloc (by simp) _
  have HL0 := Lib.hid (hL.below B0); clear hL
  have HW := Lib.hid hW; clear hW
  have XA0 := Lib.hid xa0; clear xa0
  have XB0 := Lib.hid xb0; clear xb0
  have hc := stCheck_any W a
  rcases hra : St.right a with _ | _
  · rw [hra] at hc
    have HC := Lib.hid hc; clear hc
    have HRA := Lib.hid hra; clear hra
    go_enter Tryd.func6, Tryd.ntmps6
    go_wp2_with (first | ((with_reducible show wpList _ _ _ (⟨some 5, _, _, _, _, _⟩ :: _) _ _); change wpList _ _ _ _ _ ((w.alloc (.cells (VertexV.cells a).toArray 36)).alloc (.cells (VertexV.cells b).toArray 36)); rw [← HW.out]; refine wpList_load_vx (by kernel_rfl) _ rfl w.heap.size rfl a XA0.out ?_))
    refine HC.out.mono ?_
    rintro e w1 ⟨rfl, b1⟩
    clear HC
    have XA1 := Lib.hid ((b1.block _ (lt_of_block XA0.out)).trans XA0.out)
    have XB1 := Lib.hid ((b1.block _ (lt_of_block XB0.out)).trans XB0.out)
    have HL1 := Lib.hid (HL0.out.below b1)
    have B1 := B0.trans (b1.mono B0.size)
    clear XA0 XB0 HL0 b1
    go_wp2_with fail
    refine (awake10_any _ HL1.out).mono ?_
    rintro e w2 ⟨rfl, b2⟩
    go_wp2_with fail
    go_ret
    exact ⟨rfl, B1.trans (b2.mono B1.size)⟩
  · rw [hra] at hc
    have HC := Lib.hid hc; clear hc
    have HRA := Lib.hid hra; clear hra
    go_enter Tryd.func6, Tryd.ntmps6
    go_wp2_with (first | ((with_reducible show wpList _ _ _ (⟨some 5, _, _, _, _, _⟩ :: _) _ _); change wpList _ _ _ _ _ ((w.alloc (.cells (VertexV.cells a).toArray 36)).alloc (.cells (VertexV.cells b).toArray 36)); rw [← HW.out]; refine wpList_load_vx (by kernel_rfl) _ rfl w.heap.size rfl a XA0.out ?_))
    refine HC.out.mono ?_
    rintro e w1 ⟨rfl, b1⟩
    clear HC
    have XA1 := Lib.hid ((b1.block _ (lt_of_block XA0.out)).trans XA0.out)
    have XB1 := Lib.hid ((b1.block _ (lt_of_block XB0.out)).trans XB0.out)
    have HL1 := Lib.hid (HL0.out.below b1)
    have B1 := B0.trans (b1.mono B0.size)
    clear XA0 XB0 HL0 b1
    have hc := stCheck_any w1 b
    rcases hrb : St.right b with _ | _
    · rw [hrb] at hc
      have HC := Lib.hid hc; clear hc
      go_wp2_with (first | ((with_reducible show wpList _ _ _ (⟨some 9, _, _, _, _, _⟩ :: _) _ _); refine wpList_load_vx (by kernel_rfl) _ rfl (w.heap.size + 1) rfl b XB1.out ?_))
      refine HC.out.mono ?_
      rintro e w2 ⟨rfl, b2⟩
      clear HC
      have XA2 := Lib.hid ((b2.block _ (lt_of_block XA1.out)).trans XA1.out)
      have XB2 := Lib.hid ((b2.block _ (lt_of_block XB1.out)).trans XB1.out)
      have HL2 := Lib.hid (HL1.out.below b2)
      have B2 := B1.trans (b2.mono B1.size)
      clear XA1 XB1 HL1 b2
      go_wp2_with fail
      refine (awake10_any _ HL2.out).mono ?_
      rintro e w3 ⟨rfl, b3⟩
      go_wp2_with fail
      go_ret
      exact ⟨rfl, B2.trans (b3.mono B2.size)⟩
    · rw [hrb] at hc
      have HC := Lib.hid hc; clear hc
      go_wp2_with (first | ((with_reducible show wpList _ _ _ (⟨some 9, _, _, _, _, _⟩ :: _) _ _); refine wpList_load_vx (by kernel_rfl) _ rfl (w.heap.size + 1) rfl b XB1.out ?_))
      refine HC.out.mono ?_
      rintro e w2 ⟨rfl, b2⟩
      clear HC
      have XA2 := Lib.hid ((b2.block _ (lt_of_block XA1.out)).trans XA1.out)
      have XB2 := Lib.hid ((b2.block _ (lt_of_block XB1.out)).trans XB1.out)
      have HL2 := Lib.hid (HL1.out.below b2)
      have B2 := B1.trans (b2.mono B1.size)
      clear XA1 XB1 HL1 b2
      obtain ⟨pa, hpa⟩ : ∃ p, p = St.put a := ⟨_, rfl⟩
      obtain ⟨pb, hpb⟩ : ∃ p, p = St.put b := ⟨_, rfl⟩
      have hPA := fun w => stPut_any w a
      have hPB := fun w => stPut_any w b
      rw [← hpa] at hPA
      rw [← hpb] at hPB
      have heq : ((strOf pa).toList == (strOf pb).toList) = decide (a = b) := by
        rw [strOf_toList, strOf_toList, hpa, hpb, Bool.eq_iff_iff, beq_iff_eq, decide_eq_true_eq]
        exact ⟨fun h => St.put_inj HRA.out hrb h, fun h => by rw [h]⟩
      have HEQ := Lib.hid heq; clear heq hpa hpb hrb
      have HPA := Lib.hid hPA; clear hPA
      have HPB := Lib.hid hPB; clear hPB
      go_wp2_with fail
      refine wp_region_rel [[], [0], [1], [1, 2], [1], [1, 4], [1, 3, 5], [1], [1], [1, 7, 8], [1, 6, 9], [1, 10], [11]] (sapV a b pa pb) 26 (by kernel_rfl) (by kernel_rfl) (by kernel_rfl) (sapV_mono a b pa pb) ?_ ?_
      · intro ix op hi w5 b2 vs hv
        have him : ix < 13 := (List.getElem?_eq_some_iff.1 hi).1
        have hL2 := HL2.out.below b2
        match ix, him, hi with
        | 0, _, hi =>
          obtain rfl := Option.some.inj hi
          simp only [relF, List.getD_cons_zero, List.getD_cons_succ, List.foldl_cons, List.foldl_nil, dstAt, List.getElem?_cons_zero, List.getElem?_cons_succ, Option.bind_some]
          go_wp2_with fail
          refine (awake10_any w5 hL2).mono ?_
          rintro e w3 ⟨rfl, b3⟩
          go_wp2_with fail
          exact ⟨rfl, b3, rfl, rfl⟩
        | 1, _, hi =>
          obtain rfl := Option.some.inj hi
          have h0 : vs 0 = _ := hv 0 (by decide)
          simp only [relF, List.getD_cons_zero, List.getD_cons_succ, List.foldl_cons, List.foldl_nil, dstAt, List.getElem?_cons_zero, List.getElem?_cons_succ, Option.bind_some]
          go_frame
          rw [h0]
          go_wp2_with fail
          exact ⟨rfl, Below.refl _ _, rfl, rfl⟩
        | 2, _, hi =>
          obtain rfl := Option.some.inj hi
          have h1 : vs 1 = _ := hv 1 (by decide)
          simp only [relF, List.getD_cons_zero, List.getD_cons_succ, List.foldl_cons, List.foldl_nil, dstAt, List.getElem?_cons_zero, List.getElem?_cons_succ, Option.bind_some]
          go_frame
          rw [h1]
          go_wp2_with ((with_reducible show wpList _ _ _ (⟨some 16, _, _, _, _, _⟩ :: _) _ _); refine wpList_load_vx (op := ⟨some 16, _, _, _, _, _⟩) (by kernel_rfl) _ rfl (w.heap.size) rfl a ((b2.block _ (lt_of_block XA2.out)).trans XA2.out) ?_)
          exact ⟨rfl, Below.refl _ _, rfl, rfl⟩
        | 3, _, hi =>
          obtain rfl := Option.some.inj hi
          have h1 : vs 1 = _ := hv 1 (by decide)
          have h2 : vs 2 = _ := hv 2 (by decide)
          simp only [relF, List.getD_cons_zero, List.getD_cons_succ, List.foldl_cons, List.foldl_nil, dstAt, List.getElem?_cons_zero, List.getElem?_cons_succ, Option.bind_some]
          go_frame
          rw [h1, h2]
          go_wp2_with fail
          refine (HPA.out w5).mono ?_
          rintro e w3 ⟨rfl, b3⟩
          go_wp2_with fail
          exact ⟨rfl, b3, rfl, rfl⟩
        | 4, _, hi =>
          obtain rfl := Option.some.inj hi
          have h1 : vs 1 = _ := hv 1 (by decide)
          simp only [relF, List.getD_cons_zero, List.getD_cons_succ, List.foldl_cons, List.foldl_nil, dstAt, List.getElem?_cons_zero, List.getElem?_cons_succ, Option.bind_some]
          go_frame
          rw [h1]
          go_wp2_with ((with_reducible show wpList _ _ _ (⟨some 18, _, _, _, _, _⟩ :: _) _ _); refine wpList_load_vx (op := ⟨some 18, _, _, _, _, _⟩) (by kernel_rfl) _ rfl (w.heap.size + 1) rfl b ((b2.block _ (lt_of_block XB2.out)).trans XB2.out) ?_)
          exact ⟨rfl, Below.refl _ _, rfl, rfl⟩
        | 5, _, hi =>
          obtain rfl := Option.some.inj hi
          have h1 : vs 1 = _ := hv 1 (by decide)
          have h4 : vs 4 = _ := hv 4 (by decide)
          simp only [relF, List.getD_cons_zero, List.getD_cons_succ, List.foldl_cons, List.foldl_nil, dstAt, List.getElem?_cons_zero, List.getElem?_cons_succ, Option.bind_some]
          go_frame
          rw [h1, h4]
          go_wp2_with fail
          refine (HPB.out w5).mono ?_
          rintro e w3 ⟨rfl, b3⟩
          go_wp2_with fail
          exact ⟨rfl, b3, rfl, rfl⟩
        | 6, _, hi =>
          obtain rfl := Option.some.inj hi
          have h1 : vs 1 = _ := hv 1 (by decide)
          have h3 : vs 3 = _ := hv 3 (by decide)
          have h5 : vs 5 = _ := hv 5 (by decide)
          have hse := HEQ.out
          simp only [relF, List.getD_cons_zero, List.getD_cons_succ, List.foldl_cons, List.foldl_nil, dstAt, List.getElem?_cons_zero, List.getElem?_cons_succ, Option.bind_some]
          go_frame
          rw [h1, h3, h5]
          go_wp2_with fail
          exact ⟨rfl, Below.refl _ _, rfl, rfl⟩
        | 7, _, hi =>
          obtain rfl := Option.some.inj hi
          have h1 : vs 1 = _ := hv 1 (by decide)
          simp only [relF, List.getD_cons_zero, List.getD_cons_succ, List.foldl_cons, List.foldl_nil, dstAt, List.getElem?_cons_zero, List.getElem?_cons_succ, Option.bind_some]
          go_frame
          rw [h1]
          go_wp2_with ((with_reducible show wpList _ _ _ (⟨some 21, _, _, _, _, _⟩ :: _) _ _); refine wpList_load_vx (op := ⟨some 21, _, _, _, _, _⟩) (by kernel_rfl) _ rfl (w.heap.size) rfl a ((b2.block _ (lt_of_block XA2.out)).trans XA2.out) ?_)
          exact ⟨rfl, Below.refl _ _, rfl, rfl⟩
        | 8, _, hi =>
          obtain rfl := Option.some.inj hi
          have h1 : vs 1 = _ := hv 1 (by decide)
          simp only [relF, List.getD_cons_zero, List.getD_cons_succ, List.foldl_cons, List.foldl_nil, dstAt, List.getElem?_cons_zero, List.getElem?_cons_succ, Option.bind_some]
          go_frame
          rw [h1]
          go_wp2_with ((with_reducible show wpList _ _ _ (⟨some 22, _, _, _, _, _⟩ :: _) _ _); refine wpList_load_vx (op := ⟨some 22, _, _, _, _, _⟩) (by kernel_rfl) _ rfl (w.heap.size + 1) rfl b ((b2.block _ (lt_of_block XB2.out)).trans XB2.out) ?_)
          exact ⟨rfl, Below.refl _ _, rfl, rfl⟩
        | 9, _, hi =>
          obtain rfl := Option.some.inj hi
          have h1 : vs 1 = _ := hv 1 (by decide)
          have h7 : vs 7 = _ := hv 7 (by decide)
          have h8 : vs 8 = _ := hv 8 (by decide)
          simp only [relF, List.getD_cons_zero, List.getD_cons_succ, List.foldl_cons, List.foldl_nil, dstAt, List.getElem?_cons_zero, List.getElem?_cons_succ, Option.bind_some]
          go_frame
          rw [h1, h7, h8]
          go_wp2_with ((with_reducible show wpList _ _ _ (⟨some 23, _, _, _, _, _⟩ :: _) _ _); refine wpList_eql_vx (op := ⟨some 23, _, _, _, _, _⟩) (by kernel_rfl) _ _ rfl a b rfl rfl ?_)
          exact ⟨rfl, Below.refl _ _, rfl, rfl⟩
        | 10, _, hi =>
          obtain rfl := Option.some.inj hi
          have h1 : vs 1 = _ := hv 1 (by decide)
          have h6 : vs 6 = _ := hv 6 (by decide)
          have h9 : vs 9 = _ := hv 9 (by decide)
          simp only [relF, List.getD_cons_zero, List.getD_cons_succ, List.foldl_cons, List.foldl_nil, dstAt, List.getElem?_cons_zero, List.getElem?_cons_succ, Option.bind_some]
          go_frame
          rw [h1, h6, h9]
          go_wp2_with fail
          exact ⟨rfl, Below.refl _ _, rfl, by first | rfl | (show slotOf _ _ = _; simp [slotOf])⟩
        | 11, _, hi =>
          obtain rfl := Option.some.inj hi
          have h1 : vs 1 = _ := hv 1 (by decide)
          have h10 : vs 10 = _ := hv 10 (by decide)
          simp only [relF, List.getD_cons_zero, List.getD_cons_succ, List.foldl_cons, List.foldl_nil, dstAt, List.getElem?_cons_zero, List.getElem?_cons_succ, Option.bind_some]
          go_frame
          rw [h1, h10]
          go_wp2_with fail
          exact ⟨rfl, Below.refl _ _, rfl, rfl⟩
        | 12, _, hi =>
          obtain rfl := Option.some.inj hi
          have h11 : vs 11 = _ := hv 11 (by decide)
          simp only [relF, List.getD_cons_zero, List.getD_cons_succ, List.foldl_cons, List.foldl_nil, dstAt, List.getElem?_cons_zero, List.getElem?_cons_succ, Option.bind_some]
          go_frame
          rw [h11]
          go_wp2_with fail
          exact ⟨rfl, Below.refl _ _, rfl, rfl⟩
        | nx + 13, him, _ => exact absurd him (by omega)
      · intro w5 b2 vs hv
        have hL2 := HL2.out.below b2
        have h12 : vs 12 = _ := hv 12 (by decide)
        simp only [relF, List.drop_succ_cons, List.drop_zero, List.length_cons, List.length_nil, Nat.zero_add, Nat.reduceAdd, List.range, List.range.loop, List.foldl_cons, List.foldl_nil, dstAt, List.getElem?_cons_zero, List.getElem?_cons_succ, Option.bind_some]
        go_frame
        rw [h12]
        go_wp2_with fail
        go_ret
        exact ⟨rfl, B2.trans (b2.mono B2.size)⟩

end Go.Proofs.YtaihojahccplcaaDoor
