/- The walks of tree.Leaf, Node, Half. -/
import Derived.Test.YteljlnkjdajkgaaDoorPutH
import Derived.Test.YteljlnkjdajkgaaDoorRelLast
import Derived.Test.YteljlnkjdajkgaaDoorTreeSpec
import Derived.Test.YteljlnkjdajkgaaDoorRefOf0
namespace Go.Proofs.YteljlnkjdajkgaaDoor
open Go.RowKit
set_option linter.unusedSimpArgs false
set_option linter.unusedVariables false

set_option maxRecDepth 100000 in
set_option maxHeartbeats 2000000 in
theorem treeLeaf_any (w : World) (l : List UInt8) (hl : l.length ≤ 100000) (hL : Laid w) :
    Calls Tryd.prog 34 #[.string (strOf l)] w fun e w' => e = .returned (.agg (byteCells (Tree.leaf l)).toArray) ∧ Below w.heap.size w w' := by
  obtain ⟨W0, hW0⟩ : ∃ W0, W0 = w.alloc (.cells zero32 39) := ⟨_, rfl⟩
  have x0 : W0.heap[w.heap.size]? = some (.cells zero32 39 (0, 0)) := by rw [hW0]; exact heap_alloc_new w _
  have b0 : Below w.heap.size w W0 := by rw [hW0]; exact (Below.refl _ _).alloc (Nat.le_refl _) _
  have s0 : W0.heap.size = w.heap.size + 1 := by rw [hW0]; simp
  obtain ⟨cap, W, hcv, bW, hp⟩ := part_two W0 0 l (by omega) Tryd.under_str Tryd.under_u8s
  obtain ⟨W2, hW2⟩ : ∃ W2, W2 = W.alloc (.cells #[.slice (some ⟨w.heap.size + 1, 0, none⟩) 1 1, .slice (some ⟨w.heap.size + 1 + 1, 0, none⟩) l.length cap] 42) := ⟨_, rfl⟩
  rw [s0] at hp hcv
  rw [← hW2] at hp
  have b2 : Below W0.heap.size W0 W2 := by rw [hW2]; exact bW.alloc bW.size _
  have b02 := b0.trans (b2.mono b0.size)
  have hof := of_any W2 _ _ hp (by simp) (by simp; omega) (hL.below b02)
  have hfl : [[0], l].flatten = 0 :: l := by simp
  rw [hfl, show Sha.of (0 :: l) = Tree.leaf l from rfl] at hof
  have x2 := (b2.block w.heap.size (by omega)).trans x0
  have HOF := Lib.hid hof; clear hof hp hL
  have HW2 := Lib.hid hW2; clear hW2
  have X2 := Lib.hid x2; clear x2 x0
  have hsl := Tree.leaf_len l
  have HSL := Lib.hid hsl; clear hsl
  have HW0 := Lib.hid hW0; clear hW0
  have hcv' : (convert 9 42 (.string (strOf l))).run Tryd.prog (W0.alloc (.cells #[.int .u8 0] 5)) = .ok (.slice (some ⟨w.heap.size + 1 + 1, 0, none⟩) l.length cap) W := hcv
  clear hcv
  go_enter Tryd.func34, Tryd.ntmps34
  go_wp2_with ((with_reducible show wpList _ _ _ (⟨some 3, _, _, _, _, _⟩ :: _) _ _); change wpList _ _ _ _ _ (w.alloc (.cells zero32 39)); rw [← HW0.out])
  rw [← HW2.out]
  refine HOF.out.mono ?_
  rintro e w3 ⟨rfl, b3⟩
  have X3 := (b3.block _ (lt_of_block X2.out)).trans X2.out
  have B3 := b02.trans (b3.mono b02.size)
  go_wp2_with ((with_reducible show wpList _ _ _ (⟨none, .store 39 (.tmp 2) (.tmp 7), _, _, _, _⟩ :: _) _ _); refine wpList_put_hash (o := ⟨none, .store _ _ _, _, _, _, _⟩) rfl _ _ rfl w.heap.size rfl (Tree.leaf l) HSL.out rfl _ _ X3 zero32_size ?_)
  refine bodyPost_ret (results_hash rfl _ _ _ _ _ _ rfl HSL.out (hset_heap _ X3)) rfl ⟨rfl, hset_below _ B3 (Nat.le_refl _)⟩

/-- What the region's operations leave. -/
def nodeV (B : Nat) (a b : List UInt8) (i : Nat) (w : World) (v : Value) : Prop :=
  match i with
  | 0 => Lib.HoldsBytes w v ([1])
  | 1 => v = .slice (some ⟨B, 0, none⟩) 32 32
  | 2 => v = .slice (some ⟨B + 1, 0, none⟩) 32 32
  | 3 => PartsV w v ([[1], a, b])
  | 4 => v = .agg (byteCells (Tree.node a b)).toArray
  | _ => True

theorem nodeV_mono (B : Nat) (a b : List UInt8) (j : Nat) (w w' : World) (v : Value) (hb : Below w.heap.size w w') (h : nodeV B a b j w v) : nodeV B a b j w' v := by
  match j, h with
  | 0, h => exact holds_below h hb
  | 1, h => exact h
  | 2, h => exact h
  | 3, h => exact PartsV.below h hb
  | 4, h => exact h
  | _ + 5, h => exact trivial

set_option maxRecDepth 100000 in
set_option maxHeartbeats 2000000 in
theorem treeNode_any (w : World) (a b : List UInt8) (ha : a.length = 32) (hb : b.length = 32) (hL : Laid w) :
    Calls Tryd.prog 35 #[.agg (byteCells a).toArray, .agg (byteCells b).toArray] w fun e w' => e = .returned (.agg (byteCells (Tree.node a b)).toArray) ∧ Below w.heap.size w w' := by
  obtain ⟨W0, hW0⟩ : ∃ W0, W0 = ((w.alloc (.cells (byteCells a).toArray 39)).alloc (.cells (byteCells b).toArray 39)).alloc (.cells zero32 39) := ⟨_, rfl⟩
  have x0 : W0.heap[w.heap.size]? = some (.cells (byteCells a).toArray 39 (0, 0)) := by
    rw [hW0, Below.heap_alloc _ _ _ (by simp; omega), Below.heap_alloc _ _ _ (by simp)]; exact heap_alloc_new w _
  have x1 : W0.heap[w.heap.size + 1]? = some (.cells (byteCells b).toArray 39 (0, 0)) := by
    rw [hW0, Below.heap_alloc _ _ _ (by simp)]; have := heap_alloc_new (w.alloc (.cells (byteCells a).toArray 39)) (.cells (byteCells b).toArray 39); simpa using this
  have x2 : W0.heap[w.heap.size + 2]? = some (.cells zero32 39 (0, 0)) := by
    rw [hW0]; have := heap_alloc_new ((w.alloc (.cells (byteCells a).toArray 39)).alloc (.cells (byteCells b).toArray 39)) (.cells zero32 39); simpa using this
  have b0 : Below w.heap.size w W0 := by rw [hW0]; exact (((Below.refl _ _).alloc (Nat.le_refl _) _).alloc (by simp) _).alloc (by simp; omega) _
  have X0 := Lib.hid x0; clear x0
  have X1 := Lib.hid x1; clear x1
  have X2 := Lib.hid x2; clear x2
  have HA := Lib.hid ha; clear ha
  have HB := Lib.hid hb; clear hb
  have HL := Lib.hid (hL.below b0); clear hL
  have HW0 := Lib.hid hW0; clear hW0
  have hsl := Tree.node_len a b
  go_enter Tryd.func35, Tryd.ntmps35
  go_wp2_with fail
  change Code.wp _ _ _ _ (((w.alloc (.cells (byteCells a).toArray 39)).alloc (.cells (byteCells b).toArray 39)).alloc (.cells zero32 39))
  rw [← HW0.out]
  refine wp_region_rel_last [[], [], [], [0, 1, 2], [3], [4]] (nodeV w.heap.size a b) 10 5 _ (by kernel_rfl) (by kernel_rfl) (by kernel_rfl) (by kernel_rfl) rfl rfl (nodeV_mono w.heap.size a b) ?_ ?_
  · intro i o him hi w2 b2 vs hv
    have hL2 := HL.out.below b2
    match i, him, hi with
    | 0, _, hi =>
      obtain rfl := Option.some.inj hi
      simp only [relF, List.getD_cons_zero, List.getD_cons_succ, List.foldl_cons, List.foldl_nil, dstAt, List.getElem?_cons_zero, List.getElem?_cons_succ, Option.bind_some]
      go_wp2_with fail
      exact ⟨rfl, (Below.refl _ _).alloc (Nat.le_refl _) _, rfl, holds_one w2 _ 1⟩
    | 1, _, hi =>
      obtain rfl := Option.some.inj hi
      simp only [relF, List.getD_cons_zero, List.getD_cons_succ, List.foldl_cons, List.foldl_nil, dstAt, List.getElem?_cons_zero, List.getElem?_cons_succ, Option.bind_some]
      go_wp2_with fail
      exact ⟨rfl, Below.refl _ _, rfl, rfl⟩
    | 2, _, hi =>
      obtain rfl := Option.some.inj hi
      simp only [relF, List.getD_cons_zero, List.getD_cons_succ, List.foldl_cons, List.foldl_nil, dstAt, List.getElem?_cons_zero, List.getElem?_cons_succ, Option.bind_some]
      go_wp2_with fail
      exact ⟨rfl, Below.refl _ _, rfl, rfl⟩
    | 3, _, hi =>
      obtain rfl := Option.some.inj hi
      have k0 : Lib.HoldsBytes w2 (vs 0) ([1]) := hv 0 (by decide)
      have h1 : vs 1 = _ := hv 1 (by decide)
      have h2 : vs 2 = _ := hv 2 (by decide)
      have hp := parts_new w2 42 [vs 0, vs 1, vs 2] [[1], a, b] 3 rfl rfl (parts_three k0 (by rw [h1]; exact holds_hash HA.out ((b2.block _ (lt_of_block X0.out)).trans X0.out)) (by rw [h2]; exact holds_hash HB.out ((b2.block _ (lt_of_block X1.out)).trans X1.out)))
      rw [h1, h2] at hp
      obtain ⟨p0, c0, e0, _⟩ := k0
      rw [e0] at hp
      simp only [relF, List.getD_cons_zero, List.getD_cons_succ, List.foldl_cons, List.foldl_nil, dstAt, List.getElem?_cons_zero, List.getElem?_cons_succ, Option.bind_some]
      go_frame
      rw [h1, h2, e0]
      go_wp2_with fail
      exact ⟨rfl, (Below.refl _ _).alloc (Nat.le_refl _) _, rfl, hp⟩
    | 4, _, hi =>
      obtain rfl := Option.some.inj hi
      have k3 : PartsV w2 (vs 3) ([[1], a, b]) := hv 3 (by decide)
      have hof := of_any w2 (vs 3) [[1], a, b] k3 (by simp) (by simp; have := HA.out; have := HB.out; omega) hL2
      rw [show [[1], a, b].flatten = 1 :: (a ++ b) by simp] at hof
      simp only [relF, List.getD_cons_zero, List.getD_cons_succ, List.foldl_cons, List.foldl_nil, dstAt, List.getElem?_cons_zero, List.getElem?_cons_succ, Option.bind_some]
      go_frame
      go_wp2_with fail
      refine (hof).mono ?_
      rintro e w3 ⟨rfl, b3⟩
      go_wp2_with fail
      exact ⟨rfl, b3, rfl, rfl⟩
    | n + 5, him, _ => exact absurd him (by omega)
  · intro w2 b2 vs hv
    have hL2 := HL.out.below b2
    have h4 : vs 4 = _ := hv 4 (by decide)
    rw [show List.range 5 = [0, 1, 2, 3, 4] from rfl]
    simp only [relF, List.getD_cons_zero, List.getD_cons_succ, List.foldl_cons, List.foldl_nil, dstAt, List.getElem?_cons_zero, List.getElem?_cons_succ, Option.bind_some]
    go_frame
    rw [h4]
    have X4 := (b2.block _ (lt_of_block X2.out)).trans X2.out
    have B4 := b0.trans (b2.mono b0.size)
    go_wp2_with ((with_reducible show wpList _ _ _ (⟨none, .store 39 (.tmp 4) (.tmp 9), _, _, _, _⟩ :: _) _ _); refine wpList_put_hash (o := ⟨none, .store _ _ _, _, _, _, _⟩) rfl _ _ rfl (w.heap.size + 2) rfl (Tree.node a b) hsl rfl _ _ X4 zero32_size ?_)
    refine bodyPost_ret (results_hash rfl _ _ _ _ _ _ rfl hsl (hset_heap _ X4)) rfl ⟨rfl, hset_below _ B4 (by omega)⟩

/-- tree.Half. -/
theorem treeHalf_nat (w : World) (n : Nat) (hn : n ≤ 4611686018427387904) : Calls Tryd.prog 21 #[.int .i64 (n : Int)] w fun e w' => w = w' ∧ e = .returned (.int .i64 (Tree.half n : Int)) := by
  by_cases h : n < 2
  · have ht : decide ((n : Int) < 2) = true := decide_eq_true (by omega)
    have hz := Tree.half_zero h
    go_enter Tryd.func21, Tryd.ntmps21
    go_wp2_with fail
    go_ret
    exact ⟨rfl, by rw [hz]; rfl⟩
  · have ht : decide ((n : Int) < 2) = false := decide_eq_false (by omega)
    go_enter Tryd.func21, Tryd.ntmps21
    go_wp2_with fail
    go_loopw [3] (fun v wr => Hid (w = wr) ∧ ∃ k i : Nat, v = .int .i64 (k : Int) ∧ Hid (k = 2 ^ i) ∧ k < n ∧ 1 ≤ k) (fun v _ => n - (intOf v).toNat)
    case atStart => exact ⟨Lib.hid rfl, 1, 0, rfl, Lib.hid rfl, by omega, by omega⟩
    case round =>
      obtain ⟨hw, k, i, rfl, hk, hkn, hk1⟩ := hrel
      by_cases hlt : 2 * k < n
      · have ht2 : decide ((k : Int) < (n : Int) - (k : Int)) = true := decide_eq_true (by omega)
        go_wp2_with fail
        go_roundw
        case rel => exact ⟨hw, 2 * k, i + 1, by go_num, Lib.hid (by rw [hk.out, Nat.pow_succ]; omega), hlt, by omega⟩
        case measure => simp [intOf]; omega
      · have ht2 : decide ((k : Int) < (n : Int) - (k : Int)) = false := decide_eq_false (by omega)
        have hh := Tree.half_of (n := n) (i := i) (by rw [← hk.out]; exact hkn) (by rw [← hk.out]; omega)
        go_wp2_with fail
        go_ret
        exact ⟨hw.out, by rw [hh, hk.out]; rfl⟩

theorem treeHalf_neg (w : World) (n : Int) (hn : n < 2) (h0 : -9223372036854775808 ≤ n) : Calls Tryd.prog 21 #[.int .i64 n] w fun e w' => w = w' ∧ e = .returned (.int .i64 0) := by
  have ht : decide (n < 2) = true := decide_eq_true hn
  go_enter Tryd.func21, Tryd.ntmps21
  go_wp2_with fail
  go_ret
  exact ⟨rfl, rfl⟩

end Go.Proofs.YteljlnkjdajkgaaDoor
