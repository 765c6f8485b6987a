/- The walk of the law TreeParts. -/
import Derived.Test.YtbgahpbnlogdnaaDoorLawTreeA
namespace Go.Proofs.YtbgahpbnlogdnaaDoor
open Go.RowKit
set_option linter.unusedSimpArgs false
set_option linter.unusedVariables false

/-- What the region's operations leave. -/
def partsV (B n : Nat) (l a b : List UInt8) (ix : Nat) (w : World) (v : Value) : Prop :=
  match ix with
  | 0 => v = .string (strOf l)
  | 1 => v = .agg (byteCells (Tree.leaf l)).toArray
  | 2 => v = .string (strOf l)
  | 3 => v = .agg (byteCells (Tree.leaf l)).toArray
  | 4 => v = .bool true
  | 5 => v = .bool true
  | 6 => v = .agg (byteCells a).toArray
  | 7 => v = .agg (byteCells b).toArray
  | 8 => v = .agg (byteCells (Tree.node a b)).toArray
  | 9 => v = .agg (byteCells a).toArray
  | 10 => v = .agg (byteCells b).toArray
  | 11 => v = .agg (byteCells (Tree.node a b)).toArray
  | 12 => v = .bool true
  | 13 => v = .bool true
  | 14 => v = .bool true
  | 15 => v = .int .i64 (n : Int)
  | 16 => v = .int .i64 ((Tree.half n : Int))
  | 17 => v = .int .i64 (n : Int)
  | 18 => v = .int .i64 ((Tree.half n : Int))
  | 19 => v = .bool true
  | 20 => v = .bool true
  | 21 => v = .bool true
  | _ => True

theorem partsV_mono (B n : Nat) (l a b : List UInt8) (jx : Nat) (w w' : World) (v : Value) (hb : Below w.heap.size w w') (h : partsV w.heap.size n l a b jx w v) : partsV w.heap.size n l a b jx w' v := by
  match jx, h with
  | 0, h => exact h
  | 1, h => exact h
  | 2, h => exact h
  | 3, h => exact h
  | 4, h => exact h
  | 5, h => exact h
  | 6, h => exact h
  | 7, h => exact h
  | 8, h => exact h
  | 9, h => exact h
  | 10, h => exact h
  | 11, h => exact h
  | 12, h => exact h
  | 13, h => exact h
  | 14, h => exact h
  | 15, h => exact h
  | 16, h => exact h
  | 17, h => exact h
  | 18, h => exact h
  | 19, h => exact h
  | 20, h => exact h
  | 21, h => exact h
  | _ + 22, h => exact trivial

/-- What the region's operations leave. -/
def partsV2 (B : Nat) (n : Int) (l a b : List UInt8) (ix : Nat) (w : World) (v : Value) : Prop :=
  match ix with
  | 0 => v = .string (strOf l)
  | 1 => v = .agg (byteCells (Tree.leaf l)).toArray
  | 2 => v = .string (strOf l)
  | 3 => v = .agg (byteCells (Tree.leaf l)).toArray
  | 4 => v = .bool true
  | 5 => v = .bool true
  | 6 => v = .agg (byteCells a).toArray
  | 7 => v = .agg (byteCells b).toArray
  | 8 => v = .agg (byteCells (Tree.node a b)).toArray
  | 9 => v = .agg (byteCells a).toArray
  | 10 => v = .agg (byteCells b).toArray
  | 11 => v = .agg (byteCells (Tree.node a b)).toArray
  | 12 => v = .bool true
  | 13 => v = .bool true
  | 14 => v = .bool true
  | 15 => v = .int .i64 (n)
  | 16 => v = .int .i64 (0)
  | 17 => v = .int .i64 (n)
  | 18 => v = .int .i64 (0)
  | 19 => v = .bool true
  | 20 => v = .bool true
  | 21 => v = .bool true
  | _ => True

theorem partsV2_mono (B : Nat) (n : Int) (l a b : List UInt8) (jx : Nat) (w w' : World) (v : Value) (hb : Below w.heap.size w w') (h : partsV2 w.heap.size n l a b jx w v) : partsV2 w.heap.size n l a b jx w' v := by
  match jx, h with
  | 0, h => exact h
  | 1, h => exact h
  | 2, h => exact h
  | 3, h => exact h
  | 4, h => exact h
  | 5, h => exact h
  | 6, h => exact h
  | 7, h => exact h
  | 8, h => exact h
  | 9, h => exact h
  | 10, h => exact h
  | 11, h => exact h
  | 12, h => exact h
  | 13, h => exact h
  | 14, h => exact h
  | 15, h => exact h
  | 16, h => exact h
  | 17, h => exact h
  | 18, h => exact h
  | 19, h => exact h
  | 20, h => exact h
  | 21, h => exact h
  | _ + 22, h => exact trivial

set_option maxRecDepth 100000 in
set_option maxHeartbeats 4000000 in
theorem parts_list (w : World) (l a b : List UInt8) (hl : l.length ≤ 140737488351232) (ha : a.length = 32) (hb : b.length = 32) (n : Int) (hn : (Lit.int .i64 n).wf = true) (hL : Laid w) :
    Calls Tryd.prog 4 #[.string (strOf l), .agg (byteCells a).toArray, .agg (byteCells b).toArray, .int .i64 n] w fun e w' => e = .returned (.bool true) ∧ Below w.heap.size w w' := by
  have hnb := wf_i64' hn
  clear hn
  have hst := strOf_size l
  obtain ⟨W0, hW0⟩ : ∃ W0, W0 = (w.alloc (.cells (byteCells a).toArray 26)).alloc (.cells (byteCells b).toArray 26) := ⟨_, rfl⟩
  have x5 : W0.heap[w.heap.size]? = some (.cells (byteCells a).toArray 26 (0, 0)) := by
    rw [hW0, Below.heap_alloc _ _ _ (by simp)]; exact heap_alloc_new w _
  have x6 : W0.heap[w.heap.size + 1]? = some (.cells (byteCells b).toArray 26 (0, 0)) := by
    rw [hW0]; have := heap_alloc_new (w.alloc (.cells (byteCells a).toArray 26)) (.cells (byteCells b).toArray 26); simpa using this
  have b0 : Below w.heap.size w W0 := by rw [hW0]; exact ((Below.refl _ _).alloc (Nat.le_refl _) _).alloc (by simp) _
  have HL := Lib.hid (hL.below b0); clear hL
  have HW0 := Lib.hid hW0; clear hW0
  have HA := Lib.hid ha; clear ha
  have HB := Lib.hid hb; clear hb
  by_cases hbad : 200 < l.length ∨ 1073741824 < n
  · go_enter Tryd.func4, Tryd.ntmps4
    go_wp2_with fail
    rw [← HW0.out]
    refine (awake_any W0 HL.out).mono ?_
    rintro e w1 ⟨rfl, b1'⟩
    have HL1 := Lib.hid (HL.out.below b1')
    have b1 := b0.trans (b1'.mono b0.size)
    by_cases h200 : 200 < l.length
    · have ht : decide ((200 : Int) < (l.length : Int)) = true := decide_eq_true (by omega)
      go_wp2_with fail
      refine (awake_any w1 HL1.out).mono ?_
      rintro e w2 ⟨rfl, b2⟩
      go_wp2_with fail
      go_ret
      exact ⟨rfl, b1.trans (b2.mono b1.size)⟩
    · have ht : decide ((200 : Int) < (l.length : Int)) = false := decide_eq_false (by omega)
      have ht2 : decide ((1073741824 : Int) < n) = true := decide_eq_true (by omega)
      go_wp2_with fail
      refine (awake_any w1 HL1.out).mono ?_
      rintro e w2 ⟨rfl, b2⟩
      go_wp2_with fail
      go_ret
      exact ⟨rfl, b1.trans (b2.mono b1.size)⟩
  · have h200 : ¬ 200 < l.length := fun h => hbad (.inl h)
    have h30 : ¬ 1073741824 < n := fun h => hbad (.inr h)
    clear hbad
    have ht : decide ((200 : Int) < (l.length : Int)) = false := decide_eq_false (by omega)
    have ht2 : decide ((1073741824 : Int) < n) = false := decide_eq_false h30
    go_enter Tryd.func4, Tryd.ntmps4
    go_wp2_with fail
    rw [← HW0.out]
    refine (awake_any W0 HL.out).mono ?_
    rintro e w1 ⟨rfl, b1'⟩
    have b1 := b0.trans (b1'.mono b0.size)
    have HL1 := Lib.hid (HL.out.below b1')
    have X5 := Lib.hid ((b1'.block _ (lt_of_block x5)).trans x5)
    have X6 := Lib.hid ((b1'.block _ (lt_of_block x6)).trans x6)
    clear x5 x6 HW0 HL b0 b1'
    go_wp2_with fail
    by_cases hn2 : n < 2
    · have hn0 : -9223372036854775808 ≤ n := hnb.1
      refine wp_region_rel [[], [0], [], [2], [1, 3], [4], [5], [5], [5, 6, 7], [5], [5], [5, 9, 10], [5, 8, 11], [5, 12], [13], [14], [14, 15], [14], [14, 17], [14, 16, 18], [14, 19], [20]] (partsV2 w.heap.size n l a b) 42 (by kernel_rfl) (by kernel_rfl) (by kernel_rfl) (partsV2_mono w.heap.size n l a b) ?_ ?_
      · intro ix op hi w2 b2 vs hv
        have him : ix < 22 := (List.getElem?_eq_some_iff.1 hi).1
        have hL2 := HL1.out.below b2
        match ix, him, hi with
        | 0, _, hi =>
          obtain rfl := Option.some.inj hi
          simp only [relF, List.getD_cons_zero, List.getD_cons_succ, List.foldl_cons, List.foldl_nil, dstAt, List.getElem?_cons_zero, List.getElem?_cons_succ, Option.bind_some]
          go_wp2_with fail
          exact ⟨rfl, Below.refl _ _, rfl, rfl⟩
        | 1, _, hi =>
          obtain rfl := Option.some.inj hi
          have h0 : vs 0 = _ := hv 0 (by decide)
          simp only [relF, List.getD_cons_zero, List.getD_cons_succ, List.foldl_cons, List.foldl_nil, dstAt, List.getElem?_cons_zero, List.getElem?_cons_succ, Option.bind_some]
          go_frame
          rw [h0]
          go_wp2_with fail
          refine (treeLeaf_any w2 l (by omega) hL2).mono ?_
          rintro e w3 ⟨rfl, b3⟩
          go_wp2_with fail
          exact ⟨rfl, b3, rfl, rfl⟩
        | 2, _, hi =>
          obtain rfl := Option.some.inj hi
          simp only [relF, List.getD_cons_zero, List.getD_cons_succ, List.foldl_cons, List.foldl_nil, dstAt, List.getElem?_cons_zero, List.getElem?_cons_succ, Option.bind_some]
          go_wp2_with fail
          exact ⟨rfl, Below.refl _ _, rfl, rfl⟩
        | 3, _, hi =>
          obtain rfl := Option.some.inj hi
          have h2 : vs 2 = _ := hv 2 (by decide)
          simp only [relF, List.getD_cons_zero, List.getD_cons_succ, List.foldl_cons, List.foldl_nil, dstAt, List.getElem?_cons_zero, List.getElem?_cons_succ, Option.bind_some]
          go_frame
          rw [h2]
          go_wp2_with fail
          refine (refLeaf_any w2 l (by omega)).mono ?_
          rintro e w3 ⟨rfl, b3⟩
          go_wp2_with fail
          exact ⟨rfl, b3, rfl, rfl⟩
        | 4, _, hi =>
          obtain rfl := Option.some.inj hi
          have h1 : vs 1 = _ := hv 1 (by decide)
          have h3 : vs 3 = _ := hv 3 (by decide)
          simp only [relF, List.getD_cons_zero, List.getD_cons_succ, List.foldl_cons, List.foldl_nil, dstAt, List.getElem?_cons_zero, List.getElem?_cons_succ, Option.bind_some]
          go_frame
          rw [h1, h3]
          go_wp2_with ((with_reducible show wpList _ _ _ (⟨some 25, _, _, _, _, _⟩ :: _) _ _); refine wpList_eql_hash (op := ⟨some 25, _, _, _, _, _⟩) (by kernel_rfl) _ _ rfl (Tree.leaf l) (Tree.leaf l) (Tree.leaf_len _) (Tree.leaf_len _) rfl rfl ?_; rw [beq_self_eq_true])
          exact ⟨rfl, Below.refl _ _, rfl, rfl⟩
        | 5, _, hi =>
          obtain rfl := Option.some.inj hi
          have h4 : vs 4 = _ := hv 4 (by decide)
          simp only [relF, List.getD_cons_zero, List.getD_cons_succ, List.foldl_cons, List.foldl_nil, dstAt, List.getElem?_cons_zero, List.getElem?_cons_succ, Option.bind_some]
          go_frame
          rw [h4]
          go_wp2_with fail
          exact ⟨rfl, Below.refl _ _, rfl, rfl⟩
        | 6, _, hi =>
          obtain rfl := Option.some.inj hi
          have h5 : vs 5 = _ := hv 5 (by decide)
          simp only [relF, List.getD_cons_zero, List.getD_cons_succ, List.foldl_cons, List.foldl_nil, dstAt, List.getElem?_cons_zero, List.getElem?_cons_succ, Option.bind_some]
          go_frame
          rw [h5]
          go_wp2_with ((with_reducible show wpList _ _ _ (⟨some 27, _, _, _, _, _⟩ :: _) _ _); refine wpList_load_hash (op := ⟨some 27, _, _, _, _, _⟩) (by kernel_rfl) _ rfl w.heap.size rfl a HA.out _ _ ((b2.block _ (lt_of_block X5.out)).trans X5.out) ?_)
          exact ⟨rfl, Below.refl _ _, rfl, rfl⟩
        | 7, _, hi =>
          obtain rfl := Option.some.inj hi
          have h5 : vs 5 = _ := hv 5 (by decide)
          simp only [relF, List.getD_cons_zero, List.getD_cons_succ, List.foldl_cons, List.foldl_nil, dstAt, List.getElem?_cons_zero, List.getElem?_cons_succ, Option.bind_some]
          go_frame
          rw [h5]
          go_wp2_with ((with_reducible show wpList _ _ _ (⟨some 28, _, _, _, _, _⟩ :: _) _ _); refine wpList_load_hash (op := ⟨some 28, _, _, _, _, _⟩) (by kernel_rfl) _ rfl (w.heap.size + 1) rfl b HB.out _ _ ((b2.block _ (lt_of_block X6.out)).trans X6.out) ?_)
          exact ⟨rfl, Below.refl _ _, rfl, rfl⟩
        | 8, _, hi =>
          obtain rfl := Option.some.inj hi
          have h5 : vs 5 = _ := hv 5 (by decide)
          have h6 : vs 6 = _ := hv 6 (by decide)
          have h7 : vs 7 = _ := hv 7 (by decide)
          simp only [relF, List.getD_cons_zero, List.getD_cons_succ, List.foldl_cons, List.foldl_nil, dstAt, List.getElem?_cons_zero, List.getElem?_cons_succ, Option.bind_some]
          go_frame
          rw [h5, h6, h7]
          go_wp2_with fail
          refine (treeNode_any w2 a b HA.out HB.out hL2).mono ?_
          rintro e w3 ⟨rfl, b3⟩
          go_wp2_with fail
          exact ⟨rfl, b3, rfl, rfl⟩
        | 9, _, hi =>
          obtain rfl := Option.some.inj hi
          have h5 : vs 5 = _ := hv 5 (by decide)
          simp only [relF, List.getD_cons_zero, List.getD_cons_succ, List.foldl_cons, List.foldl_nil, dstAt, List.getElem?_cons_zero, List.getElem?_cons_succ, Option.bind_some]
          go_frame
          rw [h5]
          go_wp2_with ((with_reducible show wpList _ _ _ (⟨some 30, _, _, _, _, _⟩ :: _) _ _); refine wpList_load_hash (op := ⟨some 30, _, _, _, _, _⟩) (by kernel_rfl) _ rfl w.heap.size rfl a HA.out _ _ ((b2.block _ (lt_of_block X5.out)).trans X5.out) ?_)
          exact ⟨rfl, Below.refl _ _, rfl, rfl⟩
        | 10, _, hi =>
          obtain rfl := Option.some.inj hi
          have h5 : vs 5 = _ := hv 5 (by decide)
          simp only [relF, List.getD_cons_zero, List.getD_cons_succ, List.foldl_cons, List.foldl_nil, dstAt, List.getElem?_cons_zero, List.getElem?_cons_succ, Option.bind_some]
          go_frame
          rw [h5]
          go_wp2_with ((with_reducible show wpList _ _ _ (⟨some 31, _, _, _, _, _⟩ :: _) _ _); refine wpList_load_hash (op := ⟨some 31, _, _, _, _, _⟩) (by kernel_rfl) _ rfl (w.heap.size + 1) rfl b HB.out _ _ ((b2.block _ (lt_of_block X6.out)).trans X6.out) ?_)
          exact ⟨rfl, Below.refl _ _, rfl, rfl⟩
        | 11, _, hi =>
          obtain rfl := Option.some.inj hi
          have h5 : vs 5 = _ := hv 5 (by decide)
          have h9 : vs 9 = _ := hv 9 (by decide)
          have h10 : vs 10 = _ := hv 10 (by decide)
          simp only [relF, List.getD_cons_zero, List.getD_cons_succ, List.foldl_cons, List.foldl_nil, dstAt, List.getElem?_cons_zero, List.getElem?_cons_succ, Option.bind_some]
          go_frame
          rw [h5, h9, h10]
          go_wp2_with fail
          refine (refNode_any w2 a b HA.out HB.out).mono ?_
          rintro e w3 ⟨rfl, b3⟩
          go_wp2_with fail
          exact ⟨rfl, b3, rfl, rfl⟩
        | 12, _, hi =>
          obtain rfl := Option.some.inj hi
          have h5 : vs 5 = _ := hv 5 (by decide)
          have h8 : vs 8 = _ := hv 8 (by decide)
          have h11 : vs 11 = _ := hv 11 (by decide)
          simp only [relF, List.getD_cons_zero, List.getD_cons_succ, List.foldl_cons, List.foldl_nil, dstAt, List.getElem?_cons_zero, List.getElem?_cons_succ, Option.bind_some]
          go_frame
          rw [h5, h8, h11]
          go_wp2_with ((with_reducible show wpList _ _ _ (⟨some 33, _, _, _, _, _⟩ :: _) _ _); refine wpList_eql_hash (op := ⟨some 33, _, _, _, _, _⟩) (by kernel_rfl) _ _ rfl (Tree.node a b) (Tree.node a b) (Tree.node_len _ _) (Tree.node_len _ _) rfl rfl ?_; rw [beq_self_eq_true])
          exact ⟨rfl, Below.refl _ _, rfl, rfl⟩
        | 13, _, hi =>
          obtain rfl := Option.some.inj hi
          have h5 : vs 5 = _ := hv 5 (by decide)
          have h12 : vs 12 = _ := hv 12 (by decide)
          simp only [relF, List.getD_cons_zero, List.getD_cons_succ, List.foldl_cons, List.foldl_nil, dstAt, List.getElem?_cons_zero, List.getElem?_cons_succ, Option.bind_some]
          go_frame
          rw [h5, h12]
          go_wp2_with fail
          exact ⟨rfl, Below.refl _ _, rfl, rfl⟩
        | 14, _, hi =>
          obtain rfl := Option.some.inj hi
          have h13 : vs 13 = _ := hv 13 (by decide)
          simp only [relF, List.getD_cons_zero, List.getD_cons_succ, List.foldl_cons, List.foldl_nil, dstAt, List.getElem?_cons_zero, List.getElem?_cons_succ, Option.bind_some]
          go_frame
          rw [h13]
          go_wp2_with fail
          exact ⟨rfl, Below.refl _ _, rfl, rfl⟩
        | 15, _, hi =>
          obtain rfl := Option.some.inj hi
          have h14 : vs 14 = _ := hv 14 (by decide)
          simp only [relF, List.getD_cons_zero, List.getD_cons_succ, List.foldl_cons, List.foldl_nil, dstAt, List.getElem?_cons_zero, List.getElem?_cons_succ, Option.bind_some]
          go_frame
          rw [h14]
          go_wp2_with fail
          exact ⟨rfl, Below.refl _ _, rfl, rfl⟩
        | 16, _, hi =>
          obtain rfl := Option.some.inj hi
          have h14 : vs 14 = _ := hv 14 (by decide)
          have h15 : vs 15 = _ := hv 15 (by decide)
          simp only [relF, List.getD_cons_zero, List.getD_cons_succ, List.foldl_cons, List.foldl_nil, dstAt, List.getElem?_cons_zero, List.getElem?_cons_succ, Option.bind_some]
          go_frame
          rw [h14, h15]
          go_wp2_with fail
          refine (treeHalf_neg w2 _ hn2 hn0).mono ?_
          rintro e w3 ⟨rfl, rfl⟩
          go_wp2_with fail
          exact ⟨rfl, Below.refl _ _, rfl, rfl⟩
        | 17, _, hi =>
          obtain rfl := Option.some.inj hi
          have h14 : vs 14 = _ := hv 14 (by decide)
          simp only [relF, List.getD_cons_zero, List.getD_cons_succ, List.foldl_cons, List.foldl_nil, dstAt, List.getElem?_cons_zero, List.getElem?_cons_succ, Option.bind_some]
          go_frame
          rw [h14]
          go_wp2_with fail
          exact ⟨rfl, Below.refl _ _, rfl, rfl⟩
        | 18, _, hi =>
          obtain rfl := Option.some.inj hi
          have h14 : vs 14 = _ := hv 14 (by decide)
          have h17 : vs 17 = _ := hv 17 (by decide)
          simp only [relF, List.getD_cons_zero, List.getD_cons_succ, List.foldl_cons, List.foldl_nil, dstAt, List.getElem?_cons_zero, List.getElem?_cons_succ, Option.bind_some]
          go_frame
          rw [h14, h17]
          go_wp2_with fail
          refine (refHalf_neg w2 _ hn2 hn0).mono ?_
          rintro e w3 ⟨rfl, rfl⟩
          go_wp2_with fail
          exact ⟨rfl, Below.refl _ _, rfl, rfl⟩
        | 19, _, hi =>
          obtain rfl := Option.some.inj hi
          have h14 : vs 14 = _ := hv 14 (by decide)
          have h16 : vs 16 = _ := hv 16 (by decide)
          have h18 : vs 18 = _ := hv 18 (by decide)
          simp only [relF, List.getD_cons_zero, List.getD_cons_succ, List.foldl_cons, List.foldl_nil, dstAt, List.getElem?_cons_zero, List.getElem?_cons_succ, Option.bind_some]
          go_frame
          rw [h14, h16, h18]
          go_wp2_with fail
          exact ⟨rfl, Below.refl _ _, rfl, by first | rfl | (show slotOf _ _ = _; simp [slotOf])⟩
        | 20, _, hi =>
          obtain rfl := Option.some.inj hi
          have h14 : vs 14 = _ := hv 14 (by decide)
          have h19 : vs 19 = _ := hv 19 (by decide)
          simp only [relF, List.getD_cons_zero, List.getD_cons_succ, List.foldl_cons, List.foldl_nil, dstAt, List.getElem?_cons_zero, List.getElem?_cons_succ, Option.bind_some]
          go_frame
          rw [h14, h19]
          go_wp2_with fail
          exact ⟨rfl, Below.refl _ _, rfl, rfl⟩
        | 21, _, hi =>
          obtain rfl := Option.some.inj hi
          have h20 : vs 20 = _ := hv 20 (by decide)
          simp only [relF, List.getD_cons_zero, List.getD_cons_succ, List.foldl_cons, List.foldl_nil, dstAt, List.getElem?_cons_zero, List.getElem?_cons_succ, Option.bind_some]
          go_frame
          rw [h20]
          go_wp2_with fail
          exact ⟨rfl, Below.refl _ _, rfl, rfl⟩
        | nx + 22, him, _ => exact absurd him (by omega)
      · intro w2 b2 vs hv
        have hL2 := HL1.out.below b2
        have h21 : vs 21 = _ := hv 21 (by decide)
        simp only [relF, List.drop_succ_cons, List.drop_zero, List.length_cons, List.length_nil, Nat.zero_add, Nat.reduceAdd, List.range, List.range.loop, List.foldl_cons, List.foldl_nil, dstAt, List.getElem?_cons_zero, List.getElem?_cons_succ, Option.bind_some]
        go_frame
        rw [h21]
        go_wp2_with fail
        go_ret
        exact ⟨rfl, b1.trans (b2.mono b1.size)⟩
    · obtain ⟨n, rfl⟩ : ∃ m : Nat, n = (m : Int) := ⟨n.toNat, by omega⟩
      refine wp_region_rel [[], [0], [], [2], [1, 3], [4], [5], [5], [5, 6, 7], [5], [5], [5, 9, 10], [5, 8, 11], [5, 12], [13], [14], [14, 15], [14], [14, 17], [14, 16, 18], [14, 19], [20]] (partsV w.heap.size n l a b) 42 (by kernel_rfl) (by kernel_rfl) (by kernel_rfl) (partsV_mono w.heap.size n l a b) ?_ ?_
      · intro ix op hi w2 b2 vs hv
        have him : ix < 22 := (List.getElem?_eq_some_iff.1 hi).1
        have hL2 := HL1.out.below b2
        match ix, him, hi with
        | 0, _, hi =>
          obtain rfl := Option.some.inj hi
          simp only [relF, List.getD_cons_zero, List.getD_cons_succ, List.foldl_cons, List.foldl_nil, dstAt, List.getElem?_cons_zero, List.getElem?_cons_succ, Option.bind_some]
          go_wp2_with fail
          exact ⟨rfl, Below.refl _ _, rfl, rfl⟩
        | 1, _, hi =>
          obtain rfl := Option.some.inj hi
          have h0 : vs 0 = _ := hv 0 (by decide)
          simp only [relF, List.getD_cons_zero, List.getD_cons_succ, List.foldl_cons, List.foldl_nil, dstAt, List.getElem?_cons_zero, List.getElem?_cons_succ, Option.bind_some]
          go_frame
          rw [h0]
          go_wp2_with fail
          refine (treeLeaf_any w2 l (by omega) hL2).mono ?_
          rintro e w3 ⟨rfl, b3⟩
          go_wp2_with fail
          exact ⟨rfl, b3, rfl, rfl⟩
        | 2, _, hi =>
          obtain rfl := Option.some.inj hi
          simp only [relF, List.getD_cons_zero, List.getD_cons_succ, List.foldl_cons, List.foldl_nil, dstAt, List.getElem?_cons_zero, List.getElem?_cons_succ, Option.bind_some]
          go_wp2_with fail
          exact ⟨rfl, Below.refl _ _, rfl, rfl⟩
        | 3, _, hi =>
          obtain rfl := Option.some.inj hi
          have h2 : vs 2 = _ := hv 2 (by decide)
          simp only [relF, List.getD_cons_zero, List.getD_cons_succ, List.foldl_cons, List.foldl_nil, dstAt, List.getElem?_cons_zero, List.getElem?_cons_succ, Option.bind_some]
          go_frame
          rw [h2]
          go_wp2_with fail
          refine (refLeaf_any w2 l (by omega)).mono ?_
          rintro e w3 ⟨rfl, b3⟩
          go_wp2_with fail
          exact ⟨rfl, b3, rfl, rfl⟩
        | 4, _, hi =>
          obtain rfl := Option.some.inj hi
          have h1 : vs 1 = _ := hv 1 (by decide)
          have h3 : vs 3 = _ := hv 3 (by decide)
          simp only [relF, List.getD_cons_zero, List.getD_cons_succ, List.foldl_cons, List.foldl_nil, dstAt, List.getElem?_cons_zero, List.getElem?_cons_succ, Option.bind_some]
          go_frame
          rw [h1, h3]
          go_wp2_with ((with_reducible show wpList _ _ _ (⟨some 25, _, _, _, _, _⟩ :: _) _ _); refine wpList_eql_hash (op := ⟨some 25, _, _, _, _, _⟩) (by kernel_rfl) _ _ rfl (Tree.leaf l) (Tree.leaf l) (Tree.leaf_len _) (Tree.leaf_len _) rfl rfl ?_; rw [beq_self_eq_true])
          exact ⟨rfl, Below.refl _ _, rfl, rfl⟩
        | 5, _, hi =>
          obtain rfl := Option.some.inj hi
          have h4 : vs 4 = _ := hv 4 (by decide)
          simp only [relF, List.getD_cons_zero, List.getD_cons_succ, List.foldl_cons, List.foldl_nil, dstAt, List.getElem?_cons_zero, List.getElem?_cons_succ, Option.bind_some]
          go_frame
          rw [h4]
          go_wp2_with fail
          exact ⟨rfl, Below.refl _ _, rfl, rfl⟩
        | 6, _, hi =>
          obtain rfl := Option.some.inj hi
          have h5 : vs 5 = _ := hv 5 (by decide)
          simp only [relF, List.getD_cons_zero, List.getD_cons_succ, List.foldl_cons, List.foldl_nil, dstAt, List.getElem?_cons_zero, List.getElem?_cons_succ, Option.bind_some]
          go_frame
          rw [h5]
          go_wp2_with ((with_reducible show wpList _ _ _ (⟨some 27, _, _, _, _, _⟩ :: _) _ _); refine wpList_load_hash (op := ⟨some 27, _, _, _, _, _⟩) (by kernel_rfl) _ rfl w.heap.size rfl a HA.out _ _ ((b2.block _ (lt_of_block X5.out)).trans X5.out) ?_)
          exact ⟨rfl, Below.refl _ _, rfl, rfl⟩
        | 7, _, hi =>
          obtain rfl := Option.some.inj hi
          have h5 : vs 5 = _ := hv 5 (by decide)
          simp only [relF, List.getD_cons_zero, List.getD_cons_succ, List.foldl_cons, List.foldl_nil, dstAt, List.getElem?_cons_zero, List.getElem?_cons_succ, Option.bind_some]
          go_frame
          rw [h5]
          go_wp2_with ((with_reducible show wpList _ _ _ (⟨some 28, _, _, _, _, _⟩ :: _) _ _); refine wpList_load_hash (op := ⟨some 28, _, _, _, _, _⟩) (by kernel_rfl) _ rfl (w.heap.size + 1) rfl b HB.out _ _ ((b2.block _ (lt_of_block X6.out)).trans X6.out) ?_)
          exact ⟨rfl, Below.refl _ _, rfl, rfl⟩
        | 8, _, hi =>
          obtain rfl := Option.some.inj hi
          have h5 : vs 5 = _ := hv 5 (by decide)
          have h6 : vs 6 = _ := hv 6 (by decide)
          have h7 : vs 7 = _ := hv 7 (by decide)
          simp only [relF, List.getD_cons_zero, List.getD_cons_succ, List.foldl_cons, List.foldl_nil, dstAt, List.getElem?_cons_zero, List.getElem?_cons_succ, Option.bind_some]
          go_frame
          rw [h5, h6, h7]
          go_wp2_with fail
          refine (treeNode_any w2 a b HA.out HB.out hL2).mono ?_
          rintro e w3 ⟨rfl, b3⟩
          go_wp2_with fail
          exact ⟨rfl, b3, rfl, rfl⟩
        | 9, _, hi =>
          obtain rfl := Option.some.inj hi
          have h5 : vs 5 = _ := hv 5 (by decide)
          simp only [relF, List.getD_cons_zero, List.getD_cons_succ, List.foldl_cons, List.foldl_nil, dstAt, List.getElem?_cons_zero, List.getElem?_cons_succ, Option.bind_some]
          go_frame
          rw [h5]
          go_wp2_with ((with_reducible show wpList _ _ _ (⟨some 30, _, _, _, _, _⟩ :: _) _ _); refine wpList_load_hash (op := ⟨some 30, _, _, _, _, _⟩) (by kernel_rfl) _ rfl w.heap.size rfl a HA.out _ _ ((b2.block _ (lt_of_block X5.out)).trans X5.out) ?_)
          exact ⟨rfl, Below.refl _ _, rfl, rfl⟩
        | 10, _, hi =>
          obtain rfl := Option.some.inj hi
          have h5 : vs 5 = _ := hv 5 (by decide)
          simp only [relF, List.getD_cons_zero, List.getD_cons_succ, List.foldl_cons, List.foldl_nil, dstAt, List.getElem?_cons_zero, List.getElem?_cons_succ, Option.bind_some]
          go_frame
          rw [h5]
          go_wp2_with ((with_reducible show wpList _ _ _ (⟨some 31, _, _, _, _, _⟩ :: _) _ _); refine wpList_load_hash (op := ⟨some 31, _, _, _, _, _⟩) (by kernel_rfl) _ rfl (w.heap.size + 1) rfl b HB.out _ _ ((b2.block _ (lt_of_block X6.out)).trans X6.out) ?_)
          exact ⟨rfl, Below.refl _ _, rfl, rfl⟩
        | 11, _, hi =>
          obtain rfl := Option.some.inj hi
          have h5 : vs 5 = _ := hv 5 (by decide)
          have h9 : vs 9 = _ := hv 9 (by decide)
          have h10 : vs 10 = _ := hv 10 (by decide)
          simp only [relF, List.getD_cons_zero, List.getD_cons_succ, List.foldl_cons, List.foldl_nil, dstAt, List.getElem?_cons_zero, List.getElem?_cons_succ, Option.bind_some]
          go_frame
          rw [h5, h9, h10]
          go_wp2_with fail
          refine (refNode_any w2 a b HA.out HB.out).mono ?_
          rintro e w3 ⟨rfl, b3⟩
          go_wp2_with fail
          exact ⟨rfl, b3, rfl, rfl⟩
        | 12, _, hi =>
          obtain rfl := Option.some.inj hi
          have h5 : vs 5 = _ := hv 5 (by decide)
          have h8 : vs 8 = _ := hv 8 (by decide)
          have h11 : vs 11 = _ := hv 11 (by decide)
          simp only [relF, List.getD_cons_zero, List.getD_cons_succ, List.foldl_cons, List.foldl_nil, dstAt, List.getElem?_cons_zero, List.getElem?_cons_succ, Option.bind_some]
          go_frame
          rw [h5, h8, h11]
          go_wp2_with ((with_reducible show wpList _ _ _ (⟨some 33, _, _, _, _, _⟩ :: _) _ _); refine wpList_eql_hash (op := ⟨some 33, _, _, _, _, _⟩) (by kernel_rfl) _ _ rfl (Tree.node a b) (Tree.node a b) (Tree.node_len _ _) (Tree.node_len _ _) rfl rfl ?_; rw [beq_self_eq_true])
          exact ⟨rfl, Below.refl _ _, rfl, rfl⟩
        | 13, _, hi =>
          obtain rfl := Option.some.inj hi
          have h5 : vs 5 = _ := hv 5 (by decide)
          have h12 : vs 12 = _ := hv 12 (by decide)
          simp only [relF, List.getD_cons_zero, List.getD_cons_succ, List.foldl_cons, List.foldl_nil, dstAt, List.getElem?_cons_zero, List.getElem?_cons_succ, Option.bind_some]
          go_frame
          rw [h5, h12]
          go_wp2_with fail
          exact ⟨rfl, Below.refl _ _, rfl, rfl⟩
        | 14, _, hi =>
          obtain rfl := Option.some.inj hi
          have h13 : vs 13 = _ := hv 13 (by decide)
          simp only [relF, List.getD_cons_zero, List.getD_cons_succ, List.foldl_cons, List.foldl_nil, dstAt, List.getElem?_cons_zero, List.getElem?_cons_succ, Option.bind_some]
          go_frame
          rw [h13]
          go_wp2_with fail
          exact ⟨rfl, Below.refl _ _, rfl, rfl⟩
        | 15, _, hi =>
          obtain rfl := Option.some.inj hi
          have h14 : vs 14 = _ := hv 14 (by decide)
          simp only [relF, List.getD_cons_zero, List.getD_cons_succ, List.foldl_cons, List.foldl_nil, dstAt, List.getElem?_cons_zero, List.getElem?_cons_succ, Option.bind_some]
          go_frame
          rw [h14]
          go_wp2_with fail
          exact ⟨rfl, Below.refl _ _, rfl, rfl⟩
        | 16, _, hi =>
          obtain rfl := Option.some.inj hi
          have h14 : vs 14 = _ := hv 14 (by decide)
          have h15 : vs 15 = _ := hv 15 (by decide)
          simp only [relF, List.getD_cons_zero, List.getD_cons_succ, List.foldl_cons, List.foldl_nil, dstAt, List.getElem?_cons_zero, List.getElem?_cons_succ, Option.bind_some]
          go_frame
          rw [h14, h15]
          go_wp2_with fail
          refine (treeHalf_nat w2 n (by omega)).mono ?_
          rintro e w3 ⟨rfl, rfl⟩
          go_wp2_with fail
          exact ⟨rfl, Below.refl _ _, rfl, rfl⟩
        | 17, _, hi =>
          obtain rfl := Option.some.inj hi
          have h14 : vs 14 = _ := hv 14 (by decide)
          simp only [relF, List.getD_cons_zero, List.getD_cons_succ, List.foldl_cons, List.foldl_nil, dstAt, List.getElem?_cons_zero, List.getElem?_cons_succ, Option.bind_some]
          go_frame
          rw [h14]
          go_wp2_with fail
          exact ⟨rfl, Below.refl _ _, rfl, rfl⟩
        | 18, _, hi =>
          obtain rfl := Option.some.inj hi
          have h14 : vs 14 = _ := hv 14 (by decide)
          have h17 : vs 17 = _ := hv 17 (by decide)
          simp only [relF, List.getD_cons_zero, List.getD_cons_succ, List.foldl_cons, List.foldl_nil, dstAt, List.getElem?_cons_zero, List.getElem?_cons_succ, Option.bind_some]
          go_frame
          rw [h14, h17]
          go_wp2_with fail
          refine (refHalf_nat w2 n (by omega)).mono ?_
          rintro e w3 ⟨rfl, rfl⟩
          go_wp2_with fail
          exact ⟨rfl, Below.refl _ _, rfl, rfl⟩
        | 19, _, hi =>
          obtain rfl := Option.some.inj hi
          have h14 : vs 14 = _ := hv 14 (by decide)
          have h16 : vs 16 = _ := hv 16 (by decide)
          have h18 : vs 18 = _ := hv 18 (by decide)
          simp only [relF, List.getD_cons_zero, List.getD_cons_succ, List.foldl_cons, List.foldl_nil, dstAt, List.getElem?_cons_zero, List.getElem?_cons_succ, Option.bind_some]
          go_frame
          rw [h14, h16, h18]
          go_wp2_with fail
          exact ⟨rfl, Below.refl _ _, rfl, by first | rfl | (show slotOf _ _ = _; simp [slotOf])⟩
        | 20, _, hi =>
          obtain rfl := Option.some.inj hi
          have h14 : vs 14 = _ := hv 14 (by decide)
          have h19 : vs 19 = _ := hv 19 (by decide)
          simp only [relF, List.getD_cons_zero, List.getD_cons_succ, List.foldl_cons, List.foldl_nil, dstAt, List.getElem?_cons_zero, List.getElem?_cons_succ, Option.bind_some]
          go_frame
          rw [h14, h19]
          go_wp2_with fail
          exact ⟨rfl, Below.refl _ _, rfl, rfl⟩
        | 21, _, hi =>
          obtain rfl := Option.some.inj hi
          have h20 : vs 20 = _ := hv 20 (by decide)
          simp only [relF, List.getD_cons_zero, List.getD_cons_succ, List.foldl_cons, List.foldl_nil, dstAt, List.getElem?_cons_zero, List.getElem?_cons_succ, Option.bind_some]
          go_frame
          rw [h20]
          go_wp2_with fail
          exact ⟨rfl, Below.refl _ _, rfl, rfl⟩
        | nx + 22, him, _ => exact absurd him (by omega)
      · intro w2 b2 vs hv
        have hL2 := HL1.out.below b2
        have h21 : vs 21 = _ := hv 21 (by decide)
        simp only [relF, List.drop_succ_cons, List.drop_zero, List.length_cons, List.length_nil, Nat.zero_add, Nat.reduceAdd, List.range, List.range.loop, List.foldl_cons, List.foldl_nil, dstAt, List.getElem?_cons_zero, List.getElem?_cons_succ, Option.bind_some]
        go_frame
        rw [h21]
        go_wp2_with fail
        go_ret
        exact ⟨rfl, b1.trans (b2.mono b1.size)⟩

theorem parts_card (w : World) (s : ByteArray) (hs : s.size ≤ 140737488351232) (a : List UInt8) (ha : a.length = 32) (b : List UInt8) (hb : b.length = 32) (n : Int) (hn : (Lit.int .i64 n).wf = true) (hL : Laid w) :
    Calls Tryd.prog 4 #[.string s, .agg (byteCells a).toArray, .agg (byteCells b).toArray, .int .i64 n] w fun e w' => e = .returned (.bool true) ∧ Below w.heap.size w w' := by
  have h := parts_list w s.data.toList a b (by rw [← strOf_size, strOf_data]; exact hs) ha hb n hn hL
  rwa [strOf_data] at h

end Go.Proofs.YtbgahpbnlogdnaaDoor
