/- The walks of tree.root, Root. -/
import Derived.Test.YteljlnkjdajkgaaDoorTree2
namespace Go.Proofs.YteljlnkjdajkgaaDoor
open Go.RowKit
set_option linter.unusedSimpArgs false
set_option linter.unusedVariables false

/-- What the region's operations leave. -/
def rootV (bx bo n : Nat) (t : List UInt8) (i : Nat) (w : World) (v : Value) : Prop :=
  match i with
  | 0 => Lib.HoldsBytes w v ([3])
  | 1 => v = .pointer (some ⟨bo, 0, none⟩)
  | 2 => v = .string (strOf (Wire.num n))
  | 3 => Lib.HoldsBytes w v (Wire.num n)
  | 4 => v = .slice (some ⟨bx, 0, none⟩) 32 32
  | 5 => PartsV w v ([[3], Wire.num n, t])
  | 6 => v = .agg (byteCells (Tree.root n t)).toArray
  | _ => True

theorem rootV_mono (bx bo n : Nat) (t : List UInt8) (j : Nat) (w w' : World) (v : Value) (hb : Below w.heap.size w w') (h : rootV bx bo n t j w v) : rootV bx bo n t j w' v := by
  match j, h with
  | 0, h => exact holds_below h hb
  | 1, h => exact h
  | 2, h => exact h
  | 3, h => exact holds_below h hb
  | 4, h => exact h
  | 5, h => exact PartsV.below h hb
  | 6, h => exact h
  | _ + 7, h => exact trivial

set_option maxRecDepth 100000 in
set_option maxHeartbeats 2000000 in
theorem treeRootOf_any (w : World) (n : Nat) (hn : n ≤ 9223372036854775807) (t : List UInt8) (ht : t.length = 32) (hL : Laid w) :
    Calls Tryd.prog 36 #[.int .i64 (n : Int), .agg (byteCells t).toArray] w fun e w' => e = .returned (.agg (byteCells (Tree.root n t)).toArray) ∧ Below w.heap.size w w' := by
  obtain ⟨W0, hW0⟩ : ∃ W0, W0 = (w.alloc (.cells (byteCells t).toArray 39)).alloc (.cells zero32 39) := ⟨_, rfl⟩
  have x0 : W0.heap[w.heap.size]? = some (.cells (byteCells t).toArray 39 (0, 0)) := by
    rw [hW0, Below.heap_alloc _ _ _ (by simp)]; exact heap_alloc_new w _
  have x1 : W0.heap[w.heap.size + 1]? = some (.cells zero32 39 (0, 0)) := by
    rw [hW0]; have := heap_alloc_new (w.alloc (.cells (byteCells t).toArray 39)) (.cells zero32 39); simpa using this
  have b0 : Below w.heap.size w W0 := by rw [hW0]; exact ((Below.refl _ _).alloc (Nat.le_refl _) _).alloc (by simp) _
  have s0 : W0.heap.size = w.heap.size + 2 := by rw [hW0]; simp
  obtain ⟨W1, hW1⟩ : ∃ W1, W1 = W0.alloc (.cells #[.slice none 0 0] 72 (0, 0)) := ⟨_, rfl⟩
  have b1 : Below W0.heap.size W0 W1 := by rw [hW1]; exact (Below.refl _ _).alloc (Nat.le_refl _) _
  have o1 : OutIs W1 (w.heap.size + 2) (w.heap.size + 2) [] := by rw [hW1, ← s0]; exact OutIs.fresh W0 _
  have s1 : W1.heap.size = W0.heap.size + 1 := by rw [hW1]; simp
  have hnl := Wire.num_length n (by omega)
  have HNL := Lib.hid hnl; clear hnl
  have X0 := Lib.hid x0; clear x0
  have X1 := Lib.hid x1; clear x1
  have HT := Lib.hid ht; clear ht
  have O1 := Lib.hid o1; clear o1
  have HL := Lib.hid hL; clear hL
  have HW0 := Lib.hid hW0; clear hW0
  have HW1 := Lib.hid hW1; clear hW1
  have HSL := Lib.hid (Tree.root_len n t)
  have hu : IntKind.u64.wrap (n : Int) = (n : Int) := by rw [IntKind.wrap_u64]; omega
  go_enter Tryd.func36, Tryd.ntmps36
  go_wp2_with fail
  change Calls _ _ _ ((w.alloc (.cells (byteCells t).toArray 39)).alloc (.cells zero32 39)) _
  rw [← HW0.out]
  refine (newOut_any W0).mono ?_
  rintro e w' ⟨rfl, rfl⟩
  rw [← HW1.out]
  go_wp2_with fail
  refine (outNum_any n (by omega) _ _ _ W1 O1.out (by omega) (by simp)).mono ?_
  rintro e w4 ⟨rfl, o4, b4⟩
  rw [List.nil_append] at o4
  have B4 : Below w.heap.size w w4 := (b0.trans (b1.mono b0.size)).trans ((b4.below (Nat.le_refl _)).mono (by omega))
  have x40 := (((b4.below (Nat.le_refl _)).block _ (by omega)).trans (b1.block _ (lt_of_block X0.out))).trans X0.out
  have x41 := (((b4.below (Nat.le_refl _)).block _ (by omega)).trans (b1.block _ (lt_of_block X1.out))).trans X1.out
  have HL := Lib.hid (HL.out.below B4)
  clear X0 X1 b4 b1 b0 HW0 HW1 O1
  have X0 := Lib.hid x40; clear x40
  have X1 := Lib.hid x41; clear x41
  have HO := Lib.hid o4; clear o4
  go_wp2_with fail

  refine wp_region_rel_last [[], [], [1], [2], [], [0, 3, 4], [5], [6]] (rootV w.heap.size (w.heap.size + 2) n t) 18 7 _ (by kernel_rfl) (by kernel_rfl) (by kernel_rfl) (by kernel_rfl) rfl rfl (rootV_mono w.heap.size (w.heap.size + 2) n t) ?_ ?_
  · intro i o him hi w2 b2 vs hv
    have hL2 := HL.out.below b2
    match i, him, hi with
    | 0, _, hi =>
      obtain rfl := Option.some.inj hi
      simp only [relF, List.getD_cons_zero, List.getD_cons_succ, List.foldl_cons, List.foldl_nil, dstAt, List.getElem?_cons_zero, List.getElem?_cons_succ, Option.bind_some]
      go_wp2_with fail
      exact ⟨rfl, (Below.refl _ _).alloc (Nat.le_refl _) _, rfl, holds_one w2 _ 3⟩
    | 1, _, hi =>
      obtain rfl := Option.some.inj hi
      simp only [relF, List.getD_cons_zero, List.getD_cons_succ, List.foldl_cons, List.foldl_nil, dstAt, List.getElem?_cons_zero, List.getElem?_cons_succ, Option.bind_some]
      go_wp2_with fail
      exact ⟨rfl, Below.refl _ _, rfl, rfl⟩
    | 2, _, hi =>
      obtain rfl := Option.some.inj hi
      have h1 : vs 1 = _ := hv 1 (by decide)
      have ho2 := HO.out.kept (w' := w2) fun k hk => b2.block k hk
      have hdn := outDone_any _ _ _ _ ho2
      replace hdn : Calls Tryd.prog 25 #[.pointer (some ⟨w.heap.size + 2, 0, none⟩)] w2 fun e w' => w2 = w' ∧ e = .returned (.string (strOf (Wire.num n))) := hdn
      simp only [relF, List.getD_cons_zero, List.getD_cons_succ, List.foldl_cons, List.foldl_nil, dstAt, List.getElem?_cons_zero, List.getElem?_cons_succ, Option.bind_some]
      go_frame
      rw [h1]
      go_wp2_with fail
      refine hdn.mono ?_
      rintro e w3 ⟨rfl, rfl⟩
      go_wp2_with fail
      exact ⟨rfl, Below.refl _ _, rfl, rfl⟩
    | 3, _, hi =>
      obtain rfl := Option.some.inj hi
      have h2 : vs 2 = _ := hv 2 (by decide)
      have hnl := HNL.out
      obtain ⟨cap', W, hcv, m, bb, ss⟩ := str_bytes Tryd.under_str Tryd.under_u8s Tryd.under_b8 w2 (Wire.num n) (by omega)
      simp only [relF, List.getD_cons_zero, List.getD_cons_succ, List.foldl_cons, List.foldl_nil, dstAt, List.getElem?_cons_zero, List.getElem?_cons_succ, Option.bind_some]
      go_frame
      rw [h2]
      go_wp2_with fail
      exact ⟨rfl, bb, rfl, m.holds⟩
    | 4, _, hi =>
      obtain rfl := Option.some.inj hi
      simp only [relF, List.getD_cons_zero, List.getD_cons_succ, List.foldl_cons, List.foldl_nil, dstAt, List.getElem?_cons_zero, List.getElem?_cons_succ, Option.bind_some]
      go_wp2_with fail
      exact ⟨rfl, Below.refl _ _, rfl, rfl⟩
    | 5, _, hi =>
      obtain rfl := Option.some.inj hi
      have k0 : Lib.HoldsBytes w2 (vs 0) ([3]) := hv 0 (by decide)
      have k3 : Lib.HoldsBytes w2 (vs 3) (Wire.num n) := hv 3 (by decide)
      have h4 : vs 4 = _ := hv 4 (by decide)
      have hp := parts_new w2 42 [vs 0, vs 3, vs 4] [[3], Wire.num n, t] 3 rfl rfl (parts_three k0 k3 (by rw [h4]; exact holds_hash HT.out ((b2.block _ (lt_of_block X0.out)).trans X0.out)))
      rw [h4] at hp
      obtain ⟨p0, c0, e0, _⟩ := k0
      obtain ⟨p3, c3, e3, _⟩ := k3
      rw [e0, e3] at hp
      simp only [relF, List.getD_cons_zero, List.getD_cons_succ, List.foldl_cons, List.foldl_nil, dstAt, List.getElem?_cons_zero, List.getElem?_cons_succ, Option.bind_some]
      go_frame
      rw [h4, e0, e3]
      go_wp2_with fail
      exact ⟨rfl, (Below.refl _ _).alloc (Nat.le_refl _) _, rfl, hp⟩
    | 6, _, hi =>
      obtain rfl := Option.some.inj hi
      have k5 : PartsV w2 (vs 5) ([[3], Wire.num n, t]) := hv 5 (by decide)
      have hnl := HNL.out
      have hof := of_any w2 (vs 5) [[3], Wire.num n, t] k5 (by simp) (by simp; have := HT.out; omega) hL2
      rw [show [[3], Wire.num n, t].flatten = 3 :: (Wire.num n ++ t) by simp] at hof
      simp only [relF, List.getD_cons_zero, List.getD_cons_succ, List.foldl_cons, List.foldl_nil, dstAt, List.getElem?_cons_zero, List.getElem?_cons_succ, Option.bind_some]
      go_frame
      go_wp2_with fail
      refine (hof).mono ?_
      rintro e w3 ⟨rfl, b3⟩
      go_wp2_with fail
      exact ⟨rfl, b3, rfl, rfl⟩
    | n + 7, him, _ => exact absurd him (by omega)
  · intro w2 b2 vs hv
    have hL2 := HL.out.below b2
    have h6 : vs 6 = _ := hv 6 (by decide)
    rw [show List.range 7 = [0, 1, 2, 3, 4, 5, 6] from rfl]
    simp only [relF, List.getD_cons_zero, List.getD_cons_succ, List.foldl_cons, List.foldl_nil, dstAt, List.getElem?_cons_zero, List.getElem?_cons_succ, Option.bind_some]
    go_frame
    rw [h6]
    have X4 := (b2.block _ (lt_of_block X1.out)).trans X1.out
    have B5 := B4.trans (b2.mono B4.size)
    go_wp2_with ((with_reducible show wpList _ _ _ (⟨none, .store 39 (.tmp 4) (.tmp 17), _, _, _, _⟩ :: _) _ _); refine wpList_put_hash (o := ⟨none, .store _ _ _, _, _, _, _⟩) rfl _ _ rfl (w.heap.size + 1) rfl (Tree.root n t) HSL.out rfl _ _ X4 zero32_size ?_)
    refine bodyPost_ret (results_hash rfl _ _ _ _ _ _ rfl HSL.out (hset_heap _ X4)) rfl ⟨rfl, hset_below _ B5 (by omega)⟩

end Go.Proofs.YteljlnkjdajkgaaDoor
