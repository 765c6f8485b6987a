/- TreeR1, TreeR2, TreeR3, TreeR4, TreeLaw, TreeAwake, in one text. -/
import Derived.Test.YtgheacegjgaobaaDoorKG4a
import Derived.Test.YtgheacegjgaobaaDoorKRefOf
import Derived.ArgAppend
/- The walks of the reference's half, leaf, node, sum, and their kin. -/
namespace Go.Proofs.YtgheacegjgaobaaDoor
open Go.RowKit
set_option linter.unusedSimpArgs false
set_option linter.unusedVariables false

set_option maxRecDepth 100000 in
theorem refHalfOf_any (w : World) (n : Nat) (h2 : 2 ≤ n) (hn : n ≤ 4611686018427387904) : Calls Tryd.prog 59 #[.int .i64 (n : Int)] w fun e w' => w = w' ∧ e = .returned (.int .i64 (Tree.half n : Int)) := by
  go_enter Tryd.func59, Tryd.ntmps59
  go_wp2_with fail
  go_loopw [3] (fun v wr => Hid (w = wr) ∧ ∃ k i : Nat, v = .int .i64 (k : Int) ∧ Hid (k = 2 ^ i) ∧ k < n ∧ 1 ≤ k) (fun v _ => n - (intOf v).toNat)
  case atStart => exact ⟨Lib.hid rfl, 1, 0, rfl, Lib.hid rfl, by omega, by omega⟩
  case round =>
    obtain ⟨hw, k, i, rfl, hk, hkn, hk1⟩ := hrel
    by_cases hlt : 2 * k < n
    · have ht2 : decide (2 * (k : Int) < (n : Int)) = true := decide_eq_true (by omega)
      go_wp2_with fail
      go_roundw
      case rel => exact ⟨hw, 2 * k, i + 1, by go_num, Lib.hid (by rw [hk.out, Nat.pow_succ]; omega), hlt, by omega⟩
      case measure => simp [intOf]; omega
    · have ht2 : decide (2 * (k : Int) < (n : Int)) = false := decide_eq_false (by omega)
      have hh := Tree.half_of (n := n) (i := i) (by rw [← hk.out]; exact hkn) (by rw [← hk.out]; omega)
      go_wp2_with fail
      go_ret
      exact ⟨hw.out, by rw [hh, hk.out]; rfl⟩

set_option maxRecDepth 100000 in
theorem refHalf_nat (w : World) (n : Nat) (hn : n ≤ 4611686018427387904) : Calls Tryd.prog 64 #[.int .i64 (n : Int)] w fun e w' => w = w' ∧ e = .returned (.int .i64 (Tree.half n : Int)) := by
  by_cases h : n < 2
  · have ht : decide ((n : Int) < 2) = true := decide_eq_true (by omega)
    have hz := Tree.half_zero h
    go_enter Tryd.func64, Tryd.ntmps64
    go_wp2_with fail
    go_ret
    exact ⟨rfl, by rw [hz]; rfl⟩
  · have ht : decide ((n : Int) < 2) = false := decide_eq_false (by omega)
    have hc := refHalfOf_any w n (by omega) hn
    have HC := Lib.hid hc; clear hc
    go_enter Tryd.func64, Tryd.ntmps64
    go_wp2_with fail
    refine HC.out.mono ?_
    rintro e w' ⟨rfl, rfl⟩
    go_wp2_with fail
    go_ret
    exact ⟨rfl, rfl⟩

set_option maxRecDepth 100000 in
theorem refHalf_neg (w : World) (n : Int) (hn : n < 2) (h0 : -9223372036854775808 ≤ n) : Calls Tryd.prog 64 #[.int .i64 n] w fun e w' => w = w' ∧ e = .returned (.int .i64 0) := by
  have ht : decide (n < 2) = true := decide_eq_true hn
  go_enter Tryd.func64, Tryd.ntmps64
  go_wp2_with fail
  go_ret
  exact ⟨rfl, rfl⟩

set_option maxRecDepth 100000 in
theorem refLeafOf_any (w : World) (l : List UInt8) (hl : l.length ≤ 100000) : Calls Tryd.prog 57 #[.string (strOf l)] w fun e w' => e = .returned (.string (strOf (Tree.leaf l))) ∧ Below w.heap.size w w' := by
  have hadd : (⟨#[0]⟩ : ByteArray) ++ strOf l = strOf (0 :: l) := add_str [0] l
  have hst := strOf_size l
  have hs0 : (⟨#[0]⟩ : ByteArray).size = 1 := rfl
  have hc := refOf_any w (0 :: l) (by simp; omega)
  have HC := Lib.hid hc; clear hc
  go_enter Tryd.func57, Tryd.ntmps57
  go_wp2_with fail
  refine HC.out.mono ?_
  rintro e w' ⟨rfl, b⟩
  go_wp2_with fail
  go_ret
  exact ⟨rfl, b⟩

set_option maxRecDepth 100000 in
theorem refNodeOf_any (w : World) (a b : List UInt8) (ha : a.length ≤ 32) (hb : b.length ≤ 32) : Calls Tryd.prog 60 #[.string (strOf a), .string (strOf b)] w fun e w' => e = .returned (.string (strOf (Tree.node a b))) ∧ Below w.heap.size w w' := by
  have hadd : (⟨#[1]⟩ : ByteArray) ++ strOf a = strOf (1 :: a) := add_str [1] a
  have hadd2 : strOf (1 :: a) ++ strOf b = strOf (1 :: (a ++ b)) := add_str (1 :: a) b
  have hst := strOf_size a
  have hst1 : (strOf (1 :: a)).size = a.length + 1 := strOf_size _
  have hstb := strOf_size b
  have hs0 : (⟨#[1]⟩ : ByteArray).size = 1 := rfl
  have hc := refOf_any w (1 :: (a ++ b)) (by simp; omega)
  have HC := Lib.hid hc; clear hc
  go_enter Tryd.func60, Tryd.ntmps60
  go_wp2_with fail
  refine HC.out.mono ?_
  rintro e w' ⟨rfl, b⟩
  go_wp2_with fail
  go_ret
  exact ⟨rfl, b⟩

set_option maxRecDepth 100000 in
set_option maxHeartbeats 2000000 in
theorem refSum_any (w : World) (S : List UInt8) (hS : S.length = 32) : Calls Tryd.prog 56 #[.string (strOf S)] w fun e w' => e = .returned (.agg (byteCells S).toArray) ∧ Below w.heap.size w w' := by
  obtain ⟨W0, hW0⟩ : ∃ W0, W0 = w.alloc (.cells zero32 23) := ⟨_, rfl⟩
  have x0 : W0.heap[w.heap.size]? = some (.cells zero32 23 (0, 0)) := by rw [hW0]; exact heap_alloc_new w _
  have b0 : Below w.heap.size w W0 := by rw [hW0]; exact (Below.refl _ _).alloc (Nat.le_refl _) _
  have s0 : W0.heap.size = w.heap.size + 1 := by rw [hW0]; simp
  obtain ⟨W1, hW1⟩ : ∃ W1, W1 = hset (W0.alloc (.cells zero32 23)) W0.heap.size (List.replicate 32 0) := ⟨_, rfl⟩
  have x1 : W1.heap[W0.heap.size]? = some (.cells (byteCells (List.replicate 32 0)).toArray 23 (0, 0)) := by rw [hW1]; exact hset_heap _ (heap_alloc_new W0 _)
  have b1 : Below W0.heap.size W0 W1 := by rw [hW1]; exact hset_below _ ((Below.refl _ _).alloc (Nat.le_refl _) _) (Nat.le_refl _)
  have x01 := (b1.block _ (by omega)).trans x0
  have B1 := b0.trans (b1.mono b0.size)
  rw [s0] at x1 hW1
  have hst := strOf_size S
  have hrl : (List.replicate 32 (0 : UInt8)).length = 32 := List.length_replicate ..
  have HRL := Lib.hid hrl; clear hrl
  have HS := Lib.hid hS
  have X1 := Lib.hid x1; clear x1
  have X0 := Lib.hid x01; clear x01 x0
  have hW1' : W1 = hset ((w.alloc (.cells zero32 23)).alloc (.cells zero32 23)) (w.heap.size + 1) (List.replicate 32 0) := by rw [hW1, hW0]
  have HW1 := Lib.hid hW1'; clear hW1' hW1 hW0
  have xn : ((w.alloc (.cells zero32 23)).alloc (.cells zero32 23)).heap[w.heap.size + 1]? = some (.cells zero32 23 (0, 0)) := by
    have := heap_alloc_new (w.alloc (.cells zero32 23)) (.cells zero32 23)
    simpa using this
  have XN := Lib.hid xn; clear xn b0 b1 s0
  go_enter Tryd.func56, Tryd.ntmps56
  go_wp2_with (first | ((with_reducible show wpList _ _ _ (⟨some 5, _, _, _, _, _⟩ :: _) _ _); refine wpList_zero_hash (op := ⟨some 5, _, _, _, _, _⟩) (by kernel_rfl) rfl ?_) | ((with_reducible show wpList _ _ _ (⟨none, .store 23 (.tmp 3) (.tmp 5), _, _, _, _⟩ :: _) _ _); change wpList _ _ _ _ _ ((w.alloc (.cells zero32 23)).alloc (.cells zero32 23)); refine wpList_put_hash (o := ⟨none, .store _ _ _, _, _, _, _⟩) rfl _ _ rfl (w.heap.size + 1) rfl (List.replicate 32 0) HRL.out rfl _ _ XN.out zero32_size ?_; rw [← HW1.out]))
  go_loopw [4] (fun i wr => ∃ t : Nat, t ≤ 32 ∧ i = .int .i64 (t : Int) ∧ Hid (wr.heap[w.heap.size + 1]? = some (.cells (byteCells (S.take t ++ List.replicate (32 - t) 0)).toArray 23 (0, 0))) ∧ Hid (wr.heap[w.heap.size]? = some (.cells zero32 23 (0, 0))) ∧ Below w.heap.size w wr) (fun i _ => 32 - (intOf i).toNat)
  case atStart => exact ⟨0, by omega, rfl, X1, X0, B1⟩
  case round =>
    clear X1 X0 B1 HW1 XN
    obtain ⟨t, ht, rfl, x1, x2, Br⟩ := hrel
    by_cases hlt : t < 32
    · have ht1 : decide ((t : Int) < 32) = true := decide_eq_true (by omega)
      have ht2 : decide ((t : Int) < (S.length : Int)) = true := decide_eq_true (by omega)
      have ht3 : decide (t < S.length) = true := decide_eq_true (by omega)
      obtain ⟨x, hx⟩ : ∃ x, S[t]? = some x := ⟨_, List.getElem?_eq_getElem (by rw [HS.out]; exact hlt)⟩
      have hsx : (strOf S)[t]'(by rw [hst]; omega) = x := by
        have := (List.getElem?_eq_some_iff.1 hx).2
        rw [← this]; simp [strOf, ByteArray.getElem_eq_getElem_data]
      have hz : (S.take t ++ List.replicate (32 - t) 0)[t]? = some 0 := by
        rw [List.getElem?_append_right (by rw [List.length_take]; omega), List.length_take, HS.out, List.getElem?_replicate]
        rw [if_pos (by omega)]
      have hc2 : wr.cell? ⟨w.heap.size + 1, t, none⟩ = some (.int .u8 0) := by
        have := range_row x1.out t _ (byteCells_get hz)
        rwa [Nat.zero_add] at this
      have hf := wfree x1.out t
      have HX := Lib.hid hx; clear hx hz
      go_wp2_with fail
      go_roundw
      case rel =>
        refine ⟨t + 1, by omega, by go_num, Lib.hid ?_, Lib.hid ?_, Br.setCell (p := ⟨w.heap.size + 1, t, none⟩) (by simp only; omega) _⟩
        · rw [heap_setCell_same _ _ _ _ _ _ x1.out, byteCells_set, take_set S t x HS.out HX.out]
        · rw [heap_setCell_other _ _ _ _ (by simp only; omega)]; exact x2.out
      case measure => simp [intOf]; omega
    · obtain rfl : t = 32 := by omega
      have y1 : wr.heap[w.heap.size + 1]? = some (.cells (byteCells S).toArray 23 (0, 0)) := by
        rw [x1.out, List.take_of_length_le (by rw [HS.out]; exact Nat.le_refl _), Nat.sub_self, List.replicate_zero, List.append_nil]
      have Y1 := Lib.hid y1; clear y1 x1
      go_wp2_with (first | ((with_reducible show wpList _ _ _ (⟨some 21, _, _, _, _, _⟩ :: _) _ _); refine wpList_load_hash (op := ⟨some 21, _, _, _, _, _⟩) (by kernel_rfl) _ rfl (w.heap.size + 1) rfl S HS.out _ _ Y1.out ?_) | ((with_reducible show wpList _ _ _ (⟨none, .store 23 (.tmp 2) (.tmp 21), _, _, _, _⟩ :: _) _ _); refine wpList_put_hash (o := ⟨none, .store _ _ _, _, _, _, _⟩) rfl _ _ rfl w.heap.size rfl S HS.out rfl _ _ x2.out zero32_size ?_))
      refine bodyPost_ret (results_hash rfl _ _ _ _ _ _ rfl HS.out (hset_heap _ x2.out)) rfl ⟨rfl, hset_below _ Br (Nat.le_refl _)⟩

end Go.Proofs.YtgheacegjgaobaaDoor

/- The walks of the reference's Leaf, Node, top, Top, root, Root. -/
namespace Go.Proofs.YtgheacegjgaobaaDoor
open Go.RowKit
set_option linter.unusedSimpArgs false
set_option linter.unusedVariables false

/-- 'string(h[:])'. -/
theorem hash_str {w : World} {b : Nat} {S : List UInt8} {t : TypeId} {fr : Nat × Nat} (hS : S.length = 32) (h : w.heap[b]? = some (.cells (byteCells S).toArray t fr)) :
    (convert 64 9 (.slice (some ⟨b, 0, none⟩) 32 32)).run Tryd.prog w = .ok (.string (strOf S)) w := by
  have hr := run_convert_bytes_back (P := Tryd.prog) w 64 9 5 ⟨b, 0, none⟩ 32 S Tryd.under_bytes Tryd.under_byte Tryd.under_string (fun j hj => cells_row_at h j _ (by simp [byteCells, hj]))
  rw [hS] at hr
  exact hr

set_option maxRecDepth 100000 in
theorem refLeaf_any (w : World) (l : List UInt8) (hl : l.length ≤ 100000) : Calls Tryd.prog 30 #[.string (strOf l)] w fun e w' => e = .returned (.agg (byteCells (Tree.leaf l)).toArray) ∧ Below w.heap.size w w' := by
  obtain ⟨W0, hW0⟩ : ∃ W0, W0 = w.alloc (.cells zero32 23) := ⟨_, rfl⟩
  have x0 : W0.heap[w.heap.size]? = some (.cells zero32 23 (0, 0)) := by rw [hW0]; exact heap_alloc_new w _
  have b0 : Below w.heap.size w W0 := by rw [hW0]; exact (Below.refl _ _).alloc (Nat.le_refl _) _
  have hc := refLeafOf_any W0 l hl
  have HC := Lib.hid hc; clear hc
  have hsl := Tree.leaf_len l
  have HSL := Lib.hid hsl; clear hsl
  have HW0 := Lib.hid hW0; clear hW0
  go_enter Tryd.func30, Tryd.ntmps30
  go_wp2_with fail
  change Calls _ _ _ (w.alloc (.cells zero32 23)) _
  rw [← HW0.out]
  refine HC.out.mono ?_
  rintro e w1 ⟨rfl, b1⟩
  have x1 := (b1.block _ (lt_of_block x0)).trans x0
  have B1 := b0.trans (b1.mono b0.size)
  have hs := refSum_any w1 _ HSL.out
  have HS := Lib.hid hs; clear hs
  go_wp2_with fail
  refine HS.out.mono ?_
  rintro e w2 ⟨rfl, b2⟩
  have x2 := (b2.block _ (lt_of_block x1)).trans x1
  have B2 := B1.trans (b2.mono B1.size)
  go_wp2_with ((with_reducible show wpList _ _ _ (⟨none, .store 23 (.tmp 2) (.tmp 5), _, _, _, _⟩ :: _) _ _); refine wpList_put_hash (o := ⟨none, .store _ _ _, _, _, _, _⟩) rfl _ _ rfl w.heap.size rfl (Tree.leaf l) HSL.out rfl _ _ x2 zero32_size ?_)
  refine bodyPost_ret (results_hash rfl _ _ _ _ _ _ rfl HSL.out (hset_heap _ x2)) rfl ⟨rfl, hset_below _ B2 (Nat.le_refl _)⟩

/-- What the region's operations leave. -/
def refNodeV (B : Nat) (a b : List UInt8) (ix : Nat) (w : World) (v : Value) : Prop :=
  match ix with
  | 0 => v = .slice (some ⟨B, 0, none⟩) 32 32
  | 1 => v = .string (strOf a)
  | 2 => v = .slice (some ⟨B + 1, 0, none⟩) 32 32
  | 3 => v = .string (strOf b)
  | 4 => v = .string (strOf (Tree.node a b))
  | 5 => v = .agg (byteCells (Tree.node a b)).toArray
  | _ => True

theorem refNodeV_mono (B : Nat) (a b : List UInt8) (j : Nat) (w w' : World) (v : Value) (hb : Below w.heap.size w w') (h : refNodeV B a b j w v) : refNodeV B a b j w' v := by
  match j, h with
  | 0, h => exact h
  | 1, h => exact h
  | 2, h => exact h
  | 3, h => exact h
  | 4, h => exact h
  | 5, h => exact h
  | _ + 6, h => exact trivial

set_option maxRecDepth 100000 in
set_option maxHeartbeats 2000000 in
theorem refNode_any (w : World) (a b : List UInt8) (ha : a.length = 32) (hb : b.length = 32) :
    Calls Tryd.prog 65 #[.agg (byteCells a).toArray, .agg (byteCells b).toArray] w fun e w' => e = .returned (.agg (byteCells (Tree.node a b)).toArray) ∧ Below w.heap.size w w' := by
  obtain ⟨W0, hW0⟩ : ∃ W0, W0 = ((w.alloc (.cells (byteCells a).toArray 23)).alloc (.cells (byteCells b).toArray 23)).alloc (.cells zero32 23) := ⟨_, rfl⟩
  have x0 : W0.heap[w.heap.size]? = some (.cells (byteCells a).toArray 23 (0, 0)) := by
    rw [hW0, Below.heap_alloc _ _ _ (by simp; omega), Below.heap_alloc _ _ _ (by simp)]; exact heap_alloc_new w _
  have x1 : W0.heap[w.heap.size + 1]? = some (.cells (byteCells b).toArray 23 (0, 0)) := by
    rw [hW0, Below.heap_alloc _ _ _ (by simp)]; have := heap_alloc_new (w.alloc (.cells (byteCells a).toArray 23)) (.cells (byteCells b).toArray 23); simpa using this
  have x2 : W0.heap[w.heap.size + 2]? = some (.cells zero32 23 (0, 0)) := by
    rw [hW0]; have := heap_alloc_new ((w.alloc (.cells (byteCells a).toArray 23)).alloc (.cells (byteCells b).toArray 23)) (.cells zero32 23); simpa using this
  have b0 : Below w.heap.size w W0 := by rw [hW0]; exact (((Below.refl _ _).alloc (Nat.le_refl _) _).alloc (by simp) _).alloc (by simp; omega) _
  have X0 := Lib.hid x0; clear x0
  have X1 := Lib.hid x1; clear x1
  have X2 := Lib.hid x2; clear x2
  have HA := Lib.hid ha; clear ha
  have HB := Lib.hid hb; clear hb
  have HW0 := Lib.hid hW0; clear hW0
  have hsl := Tree.node_len a b
  have HSL := Lib.hid hsl; clear hsl
  go_enter Tryd.func65, Tryd.ntmps65
  go_wp2_with fail
  change Code.wp _ _ _ _ (((w.alloc (.cells (byteCells a).toArray 23)).alloc (.cells (byteCells b).toArray 23)).alloc (.cells zero32 23))
  rw [← HW0.out]
  refine wp_region_rel_last [[], [0], [], [2], [1, 3], [4], [5]] (refNodeV w.heap.size a b) 11 6 _ (by kernel_rfl) (by kernel_rfl) (by kernel_rfl) (by kernel_rfl) rfl rfl (refNodeV_mono w.heap.size a b) ?_ ?_
  · intro ix op him hi w2 b2 vs hv
    have hb0 := b2
    match ix, him, hi with
    | 0, _, hi =>
      obtain rfl := Option.some.inj hi
      simp only [relF, List.getD_cons_zero, List.getD_cons_succ, List.foldl_cons, List.foldl_nil, dstAt, List.getElem?_cons_zero, List.getElem?_cons_succ, Option.bind_some]
      go_wp2_with fail
      exact ⟨rfl, Below.refl _ _, rfl, rfl⟩
    | 1, _, hi =>
      obtain rfl := Option.some.inj hi
      have h0 : vs 0 = _ := hv 0 (by decide)
      have hcv := hash_str HA.out ((b2.block _ (lt_of_block X0.out)).trans X0.out)
      simp only [relF, List.getD_cons_zero, List.getD_cons_succ, List.foldl_cons, List.foldl_nil, dstAt, List.getElem?_cons_zero, List.getElem?_cons_succ, Option.bind_some]
      go_frame
      rw [h0]
      go_wp2_with fail
      exact ⟨rfl, Below.refl _ _, rfl, rfl⟩
    | 2, _, hi =>
      obtain rfl := Option.some.inj hi
      simp only [relF, List.getD_cons_zero, List.getD_cons_succ, List.foldl_cons, List.foldl_nil, dstAt, List.getElem?_cons_zero, List.getElem?_cons_succ, Option.bind_some]
      go_wp2_with fail
      exact ⟨rfl, Below.refl _ _, rfl, rfl⟩
    | 3, _, hi =>
      obtain rfl := Option.some.inj hi
      have h2 : vs 2 = _ := hv 2 (by decide)
      have hcv := hash_str HB.out ((b2.block _ (lt_of_block X1.out)).trans X1.out)
      simp only [relF, List.getD_cons_zero, List.getD_cons_succ, List.foldl_cons, List.foldl_nil, dstAt, List.getElem?_cons_zero, List.getElem?_cons_succ, Option.bind_some]
      go_frame
      rw [h2]
      go_wp2_with fail
      exact ⟨rfl, Below.refl _ _, rfl, rfl⟩
    | 4, _, hi =>
      obtain rfl := Option.some.inj hi
      have h1 : vs 1 = _ := hv 1 (by decide)
      have h3 : vs 3 = _ := hv 3 (by decide)
      have hn := refNodeOf_any w2 a b (by have := HA.out; omega) (by have := HB.out; omega)
      simp only [relF, List.getD_cons_zero, List.getD_cons_succ, List.foldl_cons, List.foldl_nil, dstAt, List.getElem?_cons_zero, List.getElem?_cons_succ, Option.bind_some]
      go_frame
      rw [h1, h3]
      go_wp2_with fail
      refine (hn).mono ?_
      rintro e w3 ⟨rfl, b3⟩
      go_wp2_with fail
      exact ⟨rfl, b3, rfl, rfl⟩
    | 5, _, hi =>
      obtain rfl := Option.some.inj hi
      have h4 : vs 4 = _ := hv 4 (by decide)
      have hn := refSum_any w2 _ (Tree.node_len a b)
      simp only [relF, List.getD_cons_zero, List.getD_cons_succ, List.foldl_cons, List.foldl_nil, dstAt, List.getElem?_cons_zero, List.getElem?_cons_succ, Option.bind_some]
      go_frame
      rw [h4]
      go_wp2_with fail
      refine (hn).mono ?_
      rintro e w3 ⟨rfl, b3⟩
      go_wp2_with fail
      exact ⟨rfl, b3, rfl, rfl⟩
    | nx + 6, him, _ => exact absurd him (by omega)
  · intro w2 b2 vs hv
    have hb0 := b2
    have h5 : vs 5 = _ := hv 5 (by decide)
    rw [show List.range 6 = [0, 1, 2, 3, 4, 5] from rfl]
    simp only [relF, List.getD_cons_zero, List.getD_cons_succ, List.foldl_cons, List.foldl_nil, dstAt, List.getElem?_cons_zero, List.getElem?_cons_succ, Option.bind_some]
    go_frame
    rw [h5]
    have X4 := (b2.block _ (lt_of_block X2.out)).trans X2.out
    have B4 := b0.trans (b2.mono b0.size)
    go_wp2_with ((with_reducible show wpList _ _ _ (⟨none, .store 23 (.tmp 4) (.tmp 10), _, _, _, _⟩ :: _) _ _); refine wpList_put_hash (o := ⟨none, .store _ _ _, _, _, _, _⟩) rfl _ _ rfl (w.heap.size + 2) rfl (Tree.node a b) HSL.out rfl _ _ X4 zero32_size ?_)
    refine bodyPost_ret (results_hash rfl _ _ _ _ _ _ rfl HSL.out (hset_heap _ X4)) rfl ⟨rfl, hset_below _ B4 (by omega)⟩
/-- What the region's operations leave. -/
def refTopV (b off n cap k : Nat) (L : List (List UInt8)) (ix : Nat) (w : World) (v : Value) : Prop :=
  match ix with
  | 0 => v = .slice (some ⟨b, off, none⟩) n cap
  | 1 => v = .int .i64 (k : Int)
  | 2 => v = .slice (some ⟨b, off, none⟩) k cap
  | 3 => v = .string (strOf (Tree.top (L.take k)))
  | 4 => v = .slice (some ⟨b, off, none⟩) n cap
  | 5 => v = .int .i64 (k : Int)
  | 6 => v = .slice (some ⟨b, off + k, none⟩) (n - k) (cap - k)
  | 7 => v = .string (strOf (Tree.top (L.drop k)))
  | 8 => v = .string (strOf (Tree.top L))
  | 9 => v = .string (strOf (Tree.top L))
  | _ => True

theorem refTopV_mono (b off n cap k : Nat) (L : List (List UInt8)) (j : Nat) (w w' : World) (v : Value) (hb : Below w.heap.size w w') (h : refTopV b off n cap k L j w v) : refTopV b off n cap k L j w' v := by
  match j, h with
  | 0, h => exact h
  | 1, h => exact h
  | 2, h => exact h
  | 3, h => exact h
  | 4, h => exact h
  | 5, h => exact h
  | 6, h => exact h
  | 7, h => exact h
  | 8, h => exact h
  | 9, h => exact h
  | _ + 10, h => exact trivial

set_option maxRecDepth 100000 in
set_option maxHeartbeats 2000000 in
theorem refTopOf_any (N : Nat) : ∀ (w : World) (o : Option Addr) (n cap : Nat) (L : List (List UInt8)), n = N → StrsAt w o n cap L → n ≤ 1000000 → (∀ l ∈ L, l.length ≤ 100000) →
    Calls Tryd.prog 37 #[.slice o n cap] w fun e w' => e = .returned (.string (strOf (Tree.top L))) ∧ Below w.heap.size w w' := by
  induction N using Nat.strongRecOn with
  | ind N ih =>
  intro w o n cap L hN hS hn hl
  subst hN
  have IH := Lib.hid ih; clear ih
  have hlen := hS.len
  have hcap := hS.cap
  have hmax := hS.max
  have S0 := Lib.hid hS; clear hS
  have HLE := Lib.hid hl; clear hl
  rcases (show n = 0 ∨ n = 1 ∨ 2 ≤ n by omega) with rfl | rfl | h2
  · obtain rfl := List.eq_nil_of_length_eq_zero hlen
    have hc := refOf_any w [2] (by simp)
    have hc' : Calls Tryd.prog 53 #[.string ⟨#[2]⟩] w fun e w' => e = .returned (.string (strOf (Sha.of [2]))) ∧ Below w.heap.size w w' := hc
    rw [← Tree.top_nil] at hc'
    have HC := Lib.hid hc'; clear hc' hc
    go_enter Tryd.func37, Tryd.ntmps37
    go_wp2_with fail
    refine HC.out.mono ?_
    rintro e w1 ⟨rfl, b1⟩
    go_wp2_with fail
    go_ret
    exact ⟨rfl, b1⟩
  · obtain ⟨l, rfl⟩ : ∃ l, L = [l] := List.length_eq_one_iff.1 hlen
    obtain ⟨b, off, rfl⟩ := S0.out.form (by omega)
    have hcell : w.cell? ⟨b, off, none⟩ = some (.string (strOf l)) := by simpa using S0.out.get (i := 0) rfl
    have hc := refLeafOf_any w l (HLE.out l (by simp))
    rw [← Tree.top_one] at hc
    have HC := Lib.hid hc; clear hc
    go_enter Tryd.func37, Tryd.ntmps37
    go_wp2_with fail
    refine HC.out.mono ?_
    rintro e w1 ⟨rfl, b1⟩
    go_wp2_with fail
    go_ret
    exact ⟨rfl, b1⟩
  · obtain ⟨b, off, rfl⟩ := S0.out.form (by omega)
    have ht0 : ((n : Int) == 0) = false := by rw [beq_eq_false_iff_ne]; omega
    have ht1 : ((n : Int) == 1) = false := by rw [beq_eq_false_iff_ne]; omega
    obtain ⟨k, hk⟩ : ∃ k, k = Tree.half n := ⟨_, rfl⟩
    have hk1 : 1 ≤ k := by rw [hk]; exact Tree.half_pos (by omega)
    have hkn : k < n := by rw [hk]; exact Tree.half_lt (by omega)
    have hhalf := refHalfOf_any w n h2 (by omega)
    rw [← hk] at hhalf
    have htop : Tree.top L = Tree.node (Tree.top (L.take k)) (Tree.top (L.drop k)) := by rw [Tree.top_two (by omega), hlen, ← hk]
    have HH := Lib.hid hhalf; clear hhalf hk
    have HTOP := Lib.hid htop; clear htop
    have HT := Lib.hid (S0.out.take k cap (by omega) (by omega) (by omega))
    have HD := Lib.hid (S0.out.drop k (by omega))
    have HIH1 : Hid (∀ w', StrsAt w' (some ⟨b, off, none⟩) k cap (L.take k) → _) := Lib.hid fun w' h1 => IH.out k (by omega) w' _ k cap _ rfl h1 (by omega) (fun l hl => HLE.out l (List.mem_of_mem_take hl))
    have HIH2 : Hid (∀ w', StrsAt w' (some ⟨b, off + k, none⟩) (n - k) (cap - k) (L.drop k) → _) := Lib.hid fun w' h1 => IH.out (n - k) (by omega) w' _ _ _ _ rfl h1 (by omega) (fun l hl => HLE.out l (List.mem_of_mem_drop hl))
    go_enter Tryd.func37, Tryd.ntmps37
    go_wp2_with fail
    refine HH.out.mono ?_
    rintro e w' ⟨rfl, rfl⟩
    go_wp2_with fail

    refine wp_region_rel [[], [], [0, 1], [2], [], [], [4, 5], [6], [3, 7], [8]] (refTopV b off n cap k L) 27 (by kernel_rfl) (by kernel_rfl) (by kernel_rfl) (refTopV_mono b off n cap k L) ?_ ?_
    · intro ix op hi w2 b2 vs hv
      have him : ix < 10 := (List.getElem?_eq_some_iff.1 hi).1
      have hb0 := b2
      match ix, him, hi with
      | 0, _, hi =>
        obtain rfl := Option.some.inj hi
        simp only [relF, List.getD_cons_zero, List.getD_cons_succ, List.foldl_cons, List.foldl_nil, dstAt, List.getElem?_cons_zero, List.getElem?_cons_succ, Option.bind_some]
        go_wp2_with fail
        exact ⟨rfl, Below.refl _ _, rfl, rfl⟩
      | 1, _, hi =>
        obtain rfl := Option.some.inj hi
        simp only [relF, List.getD_cons_zero, List.getD_cons_succ, List.foldl_cons, List.foldl_nil, dstAt, List.getElem?_cons_zero, List.getElem?_cons_succ, Option.bind_some]
        go_wp2_with fail
        exact ⟨rfl, Below.refl _ _, rfl, rfl⟩
      | 2, _, hi =>
        obtain rfl := Option.some.inj hi
        have h0 : vs 0 = _ := hv 0 (by decide)
        have h1 : vs 1 = _ := hv 1 (by decide)
        simp only [relF, List.getD_cons_zero, List.getD_cons_succ, List.foldl_cons, List.foldl_nil, dstAt, List.getElem?_cons_zero, List.getElem?_cons_succ, Option.bind_some]
        go_frame
        rw [h0, h1]
        go_wp2_with fail
        exact ⟨rfl, Below.refl _ _, rfl, rfl⟩
      | 3, _, hi =>
        obtain rfl := Option.some.inj hi
        have h2 : vs 2 = _ := hv 2 (by decide)
        have hct := HT.out.below (Nat.le_refl _) b2
        simp only [relF, List.getD_cons_zero, List.getD_cons_succ, List.foldl_cons, List.foldl_nil, dstAt, List.getElem?_cons_zero, List.getElem?_cons_succ, Option.bind_some]
        go_frame
        rw [h2]
        go_wp2_with fail
        refine (HIH1.out w2 hct).mono ?_
        rintro e w3 ⟨rfl, b3⟩
        go_wp2_with fail
        exact ⟨rfl, b3, rfl, rfl⟩
      | 4, _, hi =>
        obtain rfl := Option.some.inj hi
        simp only [relF, List.getD_cons_zero, List.getD_cons_succ, List.foldl_cons, List.foldl_nil, dstAt, List.getElem?_cons_zero, List.getElem?_cons_succ, Option.bind_some]
        go_wp2_with fail
        exact ⟨rfl, Below.refl _ _, rfl, rfl⟩
      | 5, _, hi =>
        obtain rfl := Option.some.inj hi
        simp only [relF, List.getD_cons_zero, List.getD_cons_succ, List.foldl_cons, List.foldl_nil, dstAt, List.getElem?_cons_zero, List.getElem?_cons_succ, Option.bind_some]
        go_wp2_with fail
        exact ⟨rfl, Below.refl _ _, rfl, rfl⟩
      | 6, _, hi =>
        obtain rfl := Option.some.inj hi
        have h4 : vs 4 = _ := hv 4 (by decide)
        have h5 : vs 5 = _ := hv 5 (by decide)
        simp only [relF, List.getD_cons_zero, List.getD_cons_succ, List.foldl_cons, List.foldl_nil, dstAt, List.getElem?_cons_zero, List.getElem?_cons_succ, Option.bind_some]
        go_frame
        rw [h4, h5]
        go_wp2_with fail
        exact ⟨rfl, Below.refl _ _, rfl, rfl⟩
      | 7, _, hi =>
        obtain rfl := Option.some.inj hi
        have h6 : vs 6 = _ := hv 6 (by decide)
        have hcd := HD.out.below (Nat.le_refl _) b2
        simp only [relF, List.getD_cons_zero, List.getD_cons_succ, List.foldl_cons, List.foldl_nil, dstAt, List.getElem?_cons_zero, List.getElem?_cons_succ, Option.bind_some]
        go_frame
        rw [h6]
        go_wp2_with fail
        refine (HIH2.out w2 hcd).mono ?_
        rintro e w3 ⟨rfl, b3⟩
        go_wp2_with fail
        exact ⟨rfl, b3, rfl, rfl⟩
      | 8, _, hi =>
        obtain rfl := Option.some.inj hi
        have h3 : vs 3 = _ := hv 3 (by decide)
        have h7 : vs 7 = _ := hv 7 (by decide)
        have htn := refNodeOf_any w2 (Tree.top (L.take k)) (Tree.top (L.drop k)) (by rw [Tree.top_len]; omega) (by rw [Tree.top_len]; omega)
        rw [← HTOP.out] at htn
        simp only [relF, List.getD_cons_zero, List.getD_cons_succ, List.foldl_cons, List.foldl_nil, dstAt, List.getElem?_cons_zero, List.getElem?_cons_succ, Option.bind_some]
        go_frame
        rw [h3, h7]
        go_wp2_with fail
        refine (htn).mono ?_
        rintro e w3 ⟨rfl, b3⟩
        go_wp2_with fail
        exact ⟨rfl, b3, rfl, rfl⟩
      | 9, _, hi =>
        obtain rfl := Option.some.inj hi
        have h8 : vs 8 = _ := hv 8 (by decide)
        simp only [relF, List.getD_cons_zero, List.getD_cons_succ, List.foldl_cons, List.foldl_nil, dstAt, List.getElem?_cons_zero, List.getElem?_cons_succ, Option.bind_some]
        go_frame
        rw [h8]
        go_wp2_with fail
        exact ⟨rfl, Below.refl _ _, rfl, rfl⟩
      | nx + 10, him, _ => exact absurd him (by omega)
    · intro w2 b2 vs hv
      have hb0 := b2
      have h9 : vs 9 = _ := hv 9 (by decide)
      simp only [relF, List.length_cons, List.length_nil, Nat.zero_add, Nat.reduceAdd, List.range, List.range.loop, List.foldl_cons, List.foldl_nil, dstAt, List.getElem?_cons_zero, List.getElem?_cons_succ, Option.bind_some]
      go_frame
      rw [h9]
      go_wp2_with fail
      go_ret
      exact ⟨rfl, b2⟩

set_option maxRecDepth 100000 in
theorem refTop_any (w : World) (o : Option Addr) (n cap : Nat) (L : List (List UInt8)) (hS : StrsAt w o n cap L) (hn : n ≤ 1000000) (hl : ∀ l ∈ L, l.length ≤ 100000) :
    Calls Tryd.prog 51 #[.slice o n cap] w fun e w' => e = .returned (.agg (byteCells (Tree.top L)).toArray) ∧ Below w.heap.size w w' := by
  obtain ⟨W0, hW0⟩ : ∃ W0, W0 = w.alloc (.cells zero32 23) := ⟨_, rfl⟩
  have x0 : W0.heap[w.heap.size]? = some (.cells zero32 23 (0, 0)) := by rw [hW0]; exact heap_alloc_new w _
  have b0 : Below w.heap.size w W0 := by rw [hW0]; exact (Below.refl _ _).alloc (Nat.le_refl _) _
  have hc := refTopOf_any n W0 o n cap L rfl (hS.below (Nat.le_refl _) b0) hn hl
  have HC := Lib.hid hc; clear hc
  have hsl := Tree.top_len L
  have HSL := Lib.hid hsl; clear hsl
  have HW0 := Lib.hid hW0; clear hW0 hS
  go_enter Tryd.func51, Tryd.ntmps51
  go_wp2_with fail
  change Calls _ _ _ (w.alloc (.cells zero32 23)) _
  rw [← HW0.out]
  refine HC.out.mono ?_
  rintro e w1 ⟨rfl, b1⟩
  have x1 := (b1.block _ (lt_of_block x0)).trans x0
  have B1 := b0.trans (b1.mono b0.size)
  have hs := refSum_any w1 _ HSL.out
  have HS := Lib.hid hs; clear hs
  go_wp2_with fail
  refine HS.out.mono ?_
  rintro e w2 ⟨rfl, b2⟩
  have x2 := (b2.block _ (lt_of_block x1)).trans x1
  have B2 := B1.trans (b2.mono B1.size)
  go_wp2_with ((with_reducible show wpList _ _ _ (⟨none, .store 23 (.tmp 2) (.tmp 5), _, _, _, _⟩ :: _) _ _); refine wpList_put_hash (o := ⟨none, .store _ _ _, _, _, _, _⟩) rfl _ _ rfl w.heap.size rfl (Tree.top L) HSL.out rfl _ _ x2 zero32_size ?_)
  refine bodyPost_ret (results_hash rfl _ _ _ _ _ _ rfl HSL.out (hset_heap _ x2)) rfl ⟨rfl, hset_below _ B2 (Nat.le_refl _)⟩

set_option maxRecDepth 100000 in
theorem refRootOf_any (w : World) (n : Nat) (hn : n ≤ 9223372036854775807) (t : List UInt8) (ht : t.length = 32) :
    Calls Tryd.prog 36 #[.int .i64 (n : Int), .string (strOf t)] w fun e w' => e = .returned (.agg (byteCells (Tree.root n t)).toArray) ∧ Below w.heap.size w w' := by
  obtain ⟨W0, hW0⟩ : ∃ W0, W0 = w.alloc (.cells zero32 23) := ⟨_, rfl⟩
  have x0 : W0.heap[w.heap.size]? = some (.cells zero32 23 (0, 0)) := by rw [hW0]; exact heap_alloc_new w _
  have b0 : Below w.heap.size w W0 := by rw [hW0]; exact (Below.refl _ _).alloc (Nat.le_refl _) _
  have hu : IntKind.u64.wrap (n : Int) = (n : Int) := by rw [IntKind.wrap_u64]; omega
  have hnl := Wire.num_length n (by omega)
  have hadd : (⟨#[3]⟩ : ByteArray) ++ strOf (Wire.num n) = strOf (3 :: Wire.num n) := add_str [3] _
  have hadd2 : strOf (3 :: Wire.num n) ++ strOf t = strOf (3 :: (Wire.num n ++ t)) := add_str (3 :: Wire.num n) t
  have hst := strOf_size (Wire.num n)
  have hst1 : (strOf (3 :: Wire.num n)).size = (Wire.num n).length + 1 := strOf_size _
  have hstb := strOf_size t
  have hs0 : (⟨#[3]⟩ : ByteArray).size = 1 := rfl
  have hc := refNum_any n (by omega) W0
  have HC := Lib.hid hc; clear hc
  have hsl := Tree.root_len n t
  have HSL := Lib.hid hsl; clear hsl
  have HW0 := Lib.hid hW0; clear hW0
  go_enter Tryd.func36, Tryd.ntmps36
  go_wp2_with fail
  change Calls _ _ _ (w.alloc (.cells zero32 23)) _
  rw [← HW0.out]
  refine HC.out.mono ?_
  rintro e w1 ⟨rfl, b1⟩
  have x1 := (b1.block _ (lt_of_block x0)).trans x0
  have B1 := b0.trans (b1.mono b0.size)
  have hc := refOf_any w1 (3 :: (Wire.num n ++ t)) (by simp; omega)
  rw [show Sha.of (3 :: (Wire.num n ++ t)) = Tree.root n t from rfl] at hc
  have HC2 := Lib.hid hc; clear hc
  go_wp2_with fail
  refine HC2.out.mono ?_
  rintro e w2 ⟨rfl, b2⟩
  have x2 := (b2.block _ (lt_of_block x1)).trans x1
  have B2 := B1.trans (b2.mono B1.size)
  have hs := refSum_any w2 _ HSL.out
  have HS := Lib.hid hs; clear hs
  go_wp2_with fail
  refine HS.out.mono ?_
  rintro e w3 ⟨rfl, b3⟩
  have x3 := (b3.block _ (lt_of_block x2)).trans x2
  have B3 := B2.trans (b3.mono B2.size)
  go_wp2_with ((with_reducible show wpList _ _ _ (⟨none, .store 23 (.tmp 4) (.tmp 12), _, _, _, _⟩ :: _) _ _); refine wpList_put_hash (o := ⟨none, .store _ _ _, _, _, _, _⟩) rfl _ _ rfl w.heap.size rfl (Tree.root n t) HSL.out rfl _ _ x3 zero32_size ?_)
  refine bodyPost_ret (results_hash rfl _ _ _ _ _ _ rfl HSL.out (hset_heap _ x3)) rfl ⟨rfl, hset_below _ B3 (Nat.le_refl _)⟩

set_option maxRecDepth 100000 in
theorem refRoot_any (w : World) (o : Option Addr) (n cap : Nat) (L : List (List UInt8)) (hS : StrsAt w o n cap L) (hn : n ≤ 1000000) (hl : ∀ l ∈ L, l.length ≤ 100000) :
    Calls Tryd.prog 14 #[.slice o n cap] w fun e w' => e = .returned (.agg (byteCells (Tree.root n (Tree.top L))).toArray) ∧ Below w.heap.size w w' := by
  obtain ⟨W0, hW0⟩ : ∃ W0, W0 = w.alloc (.cells zero32 23) := ⟨_, rfl⟩
  have x0 : W0.heap[w.heap.size]? = some (.cells zero32 23 (0, 0)) := by rw [hW0]; exact heap_alloc_new w _
  have b0 : Below w.heap.size w W0 := by rw [hW0]; exact (Below.refl _ _).alloc (Nat.le_refl _) _
  have hc := refTopOf_any n W0 o n cap L rfl (hS.below (Nat.le_refl _) b0) hn hl
  have HC := Lib.hid hc; clear hc
  have hcap := hS.cap
  have hmax := hS.max
  have hsl := Tree.root_len n (Tree.top L)
  have HSL := Lib.hid hsl; clear hsl
  have HW0 := Lib.hid hW0; clear hW0 hS
  go_enter Tryd.func14, Tryd.ntmps14
  go_wp2_with fail
  change Calls _ _ _ (w.alloc (.cells zero32 23)) _
  rw [← HW0.out]
  refine HC.out.mono ?_
  rintro e w1 ⟨rfl, b1⟩
  have x1 := (b1.block _ (lt_of_block x0)).trans x0
  have B1 := b0.trans (b1.mono b0.size)
  have hs := refRootOf_any w1 n (by omega) _ (Tree.top_len L)
  have HS := Lib.hid hs; clear hs
  go_wp2_with fail
  refine HS.out.mono ?_
  rintro e w2 ⟨rfl, b2⟩
  have x2 := (b2.block _ (lt_of_block x1)).trans x1
  have B2 := B1.trans (b2.mono B1.size)
  go_wp2_with ((with_reducible show wpList _ _ _ (⟨none, .store 23 (.tmp 2) (.tmp 7), _, _, _, _⟩ :: _) _ _); refine wpList_put_hash (o := ⟨none, .store _ _ _, _, _, _, _⟩) rfl _ _ rfl w.heap.size rfl (Tree.root n (Tree.top L)) HSL.out rfl _ _ x2 zero32_size ?_)
  refine bodyPost_ret (results_hash rfl _ _ _ _ _ _ rfl HSL.out (hset_heap _ x2)) rfl ⟨rfl, hset_below _ B2 (Nat.le_refl _)⟩

end Go.Proofs.YtgheacegjgaobaaDoor

/- The walks of the reference's Deep, up, Check. -/
namespace Go.Proofs.YtgheacegjgaobaaDoor
open Go.RowKit
set_option linter.unusedSimpArgs false
set_option linter.unusedVariables false

theorem HashesAt.take {w : World} {o : Option Addr} {n cap : Nat} {P : List (List UInt8)} (h : HashesAt w o n cap P) (k c : Nat) (hk : k ≤ n) (hc : k ≤ c) (hm : c ≤ 9223372036854775807) : HashesAt w o k c (P.take k) := by
  refine ⟨⟨by rw [List.length_take, h.1.1]; omega, hc, hm, fun h0 => ?_⟩, fun p hp => h.2 p (List.mem_of_mem_take hp)⟩
  obtain ⟨b, off, h5, h6, h7⟩ := h.1.2.2.2 (by omega)
  refine ⟨b, off, h5, h6, fun i l hl => h7 i l ?_⟩
  rw [List.getElem?_take] at hl
  split at hl
  · exact hl
  · cases hl

/-- The reference's Deep: bad and good. -/
def badDeep (n i : Int) : Bool := badSide n i

theorem climb_snoc {t x : List UInt8} {b : Bool} {sd : List Bool} {p : List (List UInt8)} (h : sd.length = p.length) : Tree.climb t (b :: sd) (p ++ [x]) = Tree.step (Tree.climb t sd p) (b, x) := by
  unfold Tree.climb
  rw [List.reverse_cons, List.zip_append (by rw [List.length_reverse, h]), List.foldl_append]
  rfl

theorem take_last {P : List (List UInt8)} {m : Nat} {x : List UInt8} (hl : P.length = m + 1) (hx : P[m]? = some x) : P = P.take m ++ [x] := by
  have := List.take_add_one (l := P) (i := m)
  rw [hx, List.take_of_length_le (by omega)] at this
  exact this

set_option maxRecDepth 100000 in
set_option maxHeartbeats 2000000 in
theorem refUp_any (N : Nat) : ∀ (w : World) (n i : Nat) (l : List UInt8) (o : Option Addr) (m cap : Nat) (P : List (List UInt8)), n = N → i < n → n ≤ 1073741824 → l.length ≤ 100000 → HashesAt w o m cap P →
    Calls Tryd.prog 55 #[.int .i64 (n : Int), .int .i64 (i : Int), .string (strOf l), .slice o m cap] w fun e w' => ∃ T, e = .returned (.tuple #[.string (strOf T), .bool (decide ((Tree.sides n i).length = P.length))]) ∧ T.length ≤ 32 ∧ ((Tree.sides n i).length = P.length → T = Tree.climb (Tree.leaf l) (Tree.sides n i) P) ∧ Below w.heap.size w w' := by
  induction N using Nat.strongRecOn with
  | ind N ih =>
  intro w n i l o m cap P hN h1 h2 hl hP
  subst hN
  have IH := Lib.hid ih; clear ih
  have hPm : P.length = m := hP.1.1
  have hcap : m ≤ cap := hP.1.2.1
  have hmax : cap ≤ 9223372036854775807 := hP.1.2.2.1
  have HP := Lib.hid hP; clear hP
  by_cases h : 2 ≤ n
  · have ht1 : ((n : Int) == 1) = false := by rw [beq_eq_false_iff_ne]; omega
    have hs1 : 1 ≤ (Tree.sides n i).length := by
      by_cases hl : i < Tree.half n
      · rw [Tree.sides_left h hl]; simp
      · rw [Tree.sides_right h hl]; simp
    rcases m with _ | m
    · have hf : decide ((Tree.sides n i).length = P.length) = false := decide_eq_false (by omega)
      have hne : ¬ (Tree.sides n i).length = P.length := by omega
      rw [hf]
      have HNE := Lib.hid hne; clear hne
      clear hf
      go_enter Tryd.func55, Tryd.ntmps55
      go_wp2_with fail
      go_ret2
      exact ⟨[], rfl, by simp, fun hh => absurd hh HNE.out, Below.refl _ _⟩
    · obtain ⟨b, off, rfl⟩ := HP.out.form (by omega)
      have ht3 : (((m + 1 : Nat) : Int) == 0) = false := by rw [beq_eq_false_iff_ne]; omega
      have ht3' : ((m : Int) + 1 == 0) = false := by rw [beq_eq_false_iff_ne]; omega
      obtain ⟨x, hx⟩ : ∃ x, P[m]? = some x := ⟨_, List.getElem?_eq_getElem (by omega)⟩
      have hxl := HP.out.2 x (List.mem_of_getElem? hx)
      have hxr := HP.out.get hx
      have hPt := take_last hPm hx
      have HXL := Lib.hid hxl; clear hxl
      have HXR := Lib.hid hxr.2
      have hbw := hxr.1
      clear hxr
      obtain ⟨P', hP'⟩ : ∃ P', P' = P.take m := ⟨_, rfl⟩
      rw [← hP'] at hPt
      have hPl' : P'.length = m := by rw [hP', List.length_take]; omega
      have HP' := Lib.hid (HP.out.take m cap (by omega) (by omega) hmax)
      rw [← hP'] at HP'
      have HPT := Lib.hid hPt; clear hPt hP'
      obtain ⟨k, hk⟩ : ∃ k, k = Tree.half n := ⟨_, rfl⟩
      have hk1 : 1 ≤ k := by rw [hk]; exact Tree.half_pos h
      have hkn : k < n := by rw [hk]; exact Tree.half_lt h
      have hhalf := refHalfOf_any w n h (by omega)
      rw [← hk] at hhalf
      have HH := Lib.hid hhalf; clear hhalf
      obtain ⟨W1, hW1⟩ : ∃ W1, W1 = hset (w.alloc (.cells zero32 23)) w.heap.size x := ⟨_, rfl⟩
      have x1 : W1.heap[w.heap.size]? = some (.cells (byteCells x).toArray 23 (0, 0)) := by rw [hW1]; exact hset_heap _ (heap_alloc_new w _)
      have b1 : Below w.heap.size w W1 := by rw [hW1]; exact hset_below _ ((Below.refl _ _).alloc (Nat.le_refl _) _) (Nat.le_refl _)
      have HW1 := Lib.hid hW1; clear hW1
      have X1 := Lib.hid x1; clear x1
      have hP1 := HP'.out.below (Nat.le_refl _) b1
      have HP1 := Lib.hid hP1; clear hP1
      have HK := Lib.hid hk; clear hk
      have HPL' := Lib.hid hPl'; clear hPl'
      have HX := Lib.hid hx; clear hx
      clear hs1
      have htm : ((m : Int) + 1 - 1) = (m : Int) := by omega
      by_cases hlt : i < k
      · have hsd := Tree.sides_left h (by rw [← HK.out]; exact hlt)
        rw [← HK.out] at hsd
        have ht2 : decide ((i : Int) < (k : Int)) = true := decide_eq_true (by omega)
        have ht2' : decide (i < k) = true := decide_eq_true (by omega)
        obtain ⟨sd, hsd'⟩ : ∃ sd, sd = Tree.sides k i := ⟨_, rfl⟩
        have hc := IH.out k (by omega) W1 k i l _ m cap P' rfl (by omega) (by omega) hl HP1.out
        rw [← hsd'] at hc hsd
        have hde : decide ((Tree.sides n i).length = P.length) = decide (sd.length = P'.length) := by rw [hsd, HPT.out, List.length_append, List.length_cons, List.length_cons, List.length_nil]; congr 1; simp
        have hcl : (Tree.sides n i).length = P.length → sd.length = P'.length ∧ Tree.climb (Tree.leaf l) (Tree.sides n i) P = Tree.step (Tree.climb (Tree.leaf l) sd P') (true, x) := fun hh => by
          have hq : sd.length = P'.length := by rw [hsd, HPT.out, List.length_append, List.length_cons, List.length_cons, List.length_nil] at hh; omega
          exact ⟨hq, by rw [hsd, HPT.out]; exact climb_snoc hq⟩
        rw [hde]
        have HC := Lib.hid hc; clear hc
        have HCL := Lib.hid hcl; clear hcl hde hsd hsd'
        go_enter Tryd.func55, Tryd.ntmps55
        go_wp2_with fail
        refine HH.out.mono ?_
        rintro e w' ⟨rfl, rfl⟩
        go_wp2_with (first | ((with_reducible show wpList _ _ _ (⟨some 33, _, _, _, _, _⟩ :: _) _ _); refine wpList_load_hashAt (op := ⟨some 33, _, _, _, _, _⟩) rfl _ rfl b (off + m * 32) rfl x HXL.out HXR.out ?_) | ((with_reducible show wpList _ _ _ (⟨none, .store 23 (.tmp 11) (.tmp 33), _, _, _, _⟩ :: _) _ _); change wpList _ _ _ _ _ (World.alloc w (.cells zero32 23)); refine wpList_put_hash (o := ⟨none, .store _ _ _, _, _, _, _⟩) rfl _ _ rfl _ rfl x HXL.out rfl _ _ (heap_alloc_new _ _) zero32_size ?_; rw [← HW1.out]))
        refine HC.out.mono ?_
        rintro e w2 ⟨T, rfl, hT, hT2, b2⟩
        have x2 := (b2.block _ (lt_of_block X1.out)).trans X1.out
        have B2 := b1.trans (b2.mono b1.size)
        have hcv := hash_str HXL.out x2
        have hn := refNodeOf_any w2 T x hT (by have := HXL.out; omega)
        have HN := Lib.hid hn; clear hn
        have HT2 := Lib.hid hT2; clear hT2
        obtain ⟨R, hR⟩ : ∃ R, R = decide (sd.length = P'.length) := ⟨_, rfl⟩
        rw [← hR]
        have HR := Lib.hid hR; clear hR
        go_wp2_with fail
        refine HN.out.mono ?_
        rintro e w3 ⟨rfl, b3⟩
        go_wp2_with fail
        go_ret2
        exact ⟨Tree.node T x, by rw [← HR.out]; rfl, by rw [Tree.node_len]; omega, fun hh => by rw [(HCL.out hh).2, ← HT2.out (HCL.out hh).1]; rfl, B2.trans (b3.mono B2.size)⟩
      · have hsd := Tree.sides_right h (by rw [← HK.out]; exact hlt)
        rw [← HK.out] at hsd
        have ht2 : decide ((i : Int) < (k : Int)) = false := decide_eq_false (by omega)
        have ht2' : decide (i < k) = false := decide_eq_false (by omega)
        obtain ⟨sd, hsd'⟩ : ∃ sd, sd = Tree.sides (n - k) (i - k) := ⟨_, rfl⟩
        have hc := IH.out (n - k) (by omega) W1 (n - k) (i - k) l _ m cap P' rfl (by omega) (by omega) hl HP1.out
        have e1 : ((n - k : Nat) : Int) = (n : Int) - k := by omega
        have e2 : ((i - k : Nat) : Int) = (i : Int) - k := by omega
        rw [e1, e2] at hc
        rw [← hsd'] at hc hsd
        have hde : decide ((Tree.sides n i).length = P.length) = decide (sd.length = P'.length) := by rw [hsd, HPT.out, List.length_append, List.length_cons, List.length_cons, List.length_nil]; congr 1; simp
        have hcl : (Tree.sides n i).length = P.length → sd.length = P'.length ∧ Tree.climb (Tree.leaf l) (Tree.sides n i) P = Tree.step (Tree.climb (Tree.leaf l) sd P') (false, x) := fun hh => by
          have hq : sd.length = P'.length := by rw [hsd, HPT.out, List.length_append, List.length_cons, List.length_cons, List.length_nil] at hh; omega
          exact ⟨hq, by rw [hsd, HPT.out]; exact climb_snoc hq⟩
        rw [hde]
        have HC := Lib.hid hc; clear hc
        have HCL := Lib.hid hcl; clear hcl hde hsd hsd'
        go_enter Tryd.func55, Tryd.ntmps55
        go_wp2_with fail
        refine HH.out.mono ?_
        rintro e w' ⟨rfl, rfl⟩
        go_wp2_with (first | ((with_reducible show wpList _ _ _ (⟨some 33, _, _, _, _, _⟩ :: _) _ _); refine wpList_load_hashAt (op := ⟨some 33, _, _, _, _, _⟩) rfl _ rfl b (off + m * 32) rfl x HXL.out HXR.out ?_) | ((with_reducible show wpList _ _ _ (⟨none, .store 23 (.tmp 11) (.tmp 33), _, _, _, _⟩ :: _) _ _); change wpList _ _ _ _ _ (World.alloc w (.cells zero32 23)); refine wpList_put_hash (o := ⟨none, .store _ _ _, _, _, _, _⟩) rfl _ _ rfl _ rfl x HXL.out rfl _ _ (heap_alloc_new _ _) zero32_size ?_; rw [← HW1.out]))
        refine HC.out.mono ?_
        rintro e w2 ⟨T, rfl, hT, hT2, b2⟩
        have x2 := (b2.block _ (lt_of_block X1.out)).trans X1.out
        have B2 := b1.trans (b2.mono b1.size)
        have hcv := hash_str HXL.out x2
        have hn := refNodeOf_any w2 x T (by have := HXL.out; omega) hT
        have HN := Lib.hid hn; clear hn
        have HT2 := Lib.hid hT2; clear hT2
        obtain ⟨R, hR⟩ : ∃ R, R = decide (sd.length = P'.length) := ⟨_, rfl⟩
        rw [← hR]
        have HR := Lib.hid hR; clear hR
        go_wp2_with fail
        refine HN.out.mono ?_
        rintro e w3 ⟨rfl, b3⟩
        go_wp2_with fail
        go_ret2
        exact ⟨Tree.node x T, by rw [← HR.out]; rfl, by rw [Tree.node_len]; omega, fun hh => by rw [(HCL.out hh).2, ← HT2.out (HCL.out hh).1]; rfl, B2.trans (b3.mono B2.size)⟩
  · obtain rfl : n = 1 := by omega
    have hsd := Tree.sides_small (n := 1) h i
    rw [hsd]
    have hlf := refLeafOf_any w l hl
    have HLF := Lib.hid hlf; clear hlf
    have hde : decide (([] : List Bool).length = P.length) = ((m : Int) == 0) := by
      rw [hPm]
      rcases m with _ | m
      · simp
      · simp; omega
    rw [hde]
    have hcl : ([] : List Bool).length = P.length → Tree.leaf l = Tree.climb (Tree.leaf l) [] P := fun _ => by simp [Tree.climb]
    have HCL := Lib.hid hcl; clear hcl hde hsd
    go_enter Tryd.func55, Tryd.ntmps55
    go_wp2_with fail
    refine HLF.out.mono ?_
    rintro e w1 ⟨rfl, b1⟩
    rcases m with _ | m
    · go_wp2_with fail
      go_ret2
      exact ⟨_, rfl, by rw [Tree.leaf_len]; omega, HCL.out, b1⟩
    · have ht4 : (((m + 1 : Nat) : Int) == 0) = false := by rw [beq_eq_false_iff_ne]; omega
      have ht4' : ((m : Int) + 1 == 0) = false := by rw [beq_eq_false_iff_ne]; omega
      go_wp2_with fail
      go_ret2
      exact ⟨_, rfl, by rw [Tree.leaf_len]; omega, HCL.out, b1⟩

set_option maxRecDepth 100000 in
set_option maxHeartbeats 1000000 in
theorem refCheck_bad (w : World) (want : List UInt8) (n i : Int) (hb : badSide n i = true) (s : ByteArray) (o : Option Addr) (m cap : Nat) :
    Calls Tryd.prog 29 #[.agg (byteCells want).toArray, .int .i64 n, .int .i64 i, .string s, .slice o m cap] w fun e w' => e = .returned (.bool false) ∧ Below w.heap.size w w' := by
  unfold badSide at hb
  rcases hx : decide ((1073741824 : Int) < n) with _ | _
  · rcases hy : decide (i < 0) with _ | _
    · have hz : decide (n ≤ i) = true := by rw [hx, hy] at hb; simpa using hb
      clear hb
      go_enter Tryd.func29, Tryd.ntmps29
      go_wp2_with fail
      go_ret
      exact ⟨rfl, (Below.refl _ _).alloc (Nat.le_refl _) _⟩
    · clear hb
      go_enter Tryd.func29, Tryd.ntmps29
      go_wp2_with fail
      go_ret
      exact ⟨rfl, (Below.refl _ _).alloc (Nat.le_refl _) _⟩
  · clear hb
    go_enter Tryd.func29, Tryd.ntmps29
    go_wp2_with fail
    go_ret
    exact ⟨rfl, (Below.refl _ _).alloc (Nat.le_refl _) _⟩

/-- What the region's operations leave. -/
def rcheckV (want t : List UInt8) (n : Nat) (ix : Nat) (w : World) (v : Value) : Prop :=
  match ix with
  | 0 => v = .bool true
  | 1 => v = .bool true
  | 2 => v = .int .i64 (n : Int)
  | 3 => v = .string (strOf t)
  | 4 => v = .agg (byteCells (Tree.root n t)).toArray
  | 5 => v = .agg (byteCells want).toArray
  | 6 => v = .bool (Tree.root n t == want)
  | 7 => v = .bool (Tree.root n t == want)
  | 8 => v = .bool (Tree.root n t == want)
  | _ => True

theorem rcheckV_mono (want t : List UInt8) (n : Nat) (j : Nat) (w w' : World) (v : Value) (hb : Below w.heap.size w w') (h : rcheckV want t n j w v) : rcheckV want t n j w' v := by
  match j, h with
  | 0, h => exact h
  | 1, h => exact h
  | 2, h => exact h
  | 3, h => exact h
  | 4, h => exact h
  | 5, h => exact h
  | 6, h => exact h
  | 7, h => exact h
  | 8, h => exact h
  | _ + 9, h => exact trivial

/-- What the region's operations leave. -/
def rcheckV0 (want t : List UInt8) (n : Nat) (ix : Nat) (w : World) (v : Value) : Prop :=
  match ix with
  | 0 => v = .bool false
  | 1 => v = .bool false
  | 2 => True
  | 3 => True
  | 4 => True
  | 5 => True
  | 6 => True
  | 7 => v = .bool false
  | 8 => v = .bool false
  | _ => True

theorem rcheckV0_mono (want t : List UInt8) (n : Nat) (j : Nat) (w w' : World) (v : Value) (hb : Below w.heap.size w w') (h : rcheckV0 want t n j w v) : rcheckV0 want t n j w' v := by
  match j, h with
  | 0, h => exact h
  | 1, h => exact h
  | 2, h => exact trivial
  | 3, h => exact trivial
  | 4, h => exact trivial
  | 5, h => exact trivial
  | 6, h => exact trivial
  | 7, h => exact h
  | 8, h => exact h
  | _ + 9, h => exact trivial

set_option maxRecDepth 100000 in
set_option maxHeartbeats 2000000 in
theorem refCheck_any (w : World) (want : List UInt8) (hw : want.length = 32) (n i : Nat) (h1 : i < n) (h2 : n ≤ 1073741824) (l : List UInt8) (hl : l.length ≤ 100000) (o : Option Addr) (m cap : Nat) (P : List (List UInt8)) (hP : HashesAt w o m cap P) :
    Calls Tryd.prog 29 #[.agg (byteCells want).toArray, .int .i64 (n : Int), .int .i64 (i : Int), .string (strOf l), .slice o m cap] w fun e w' => e = .returned (.bool (Tree.check want n i l P)) ∧ Below w.heap.size w w' := by
  have hx : decide ((1073741824 : Int) < (n : Int)) = false := decide_eq_false (by omega)
  have hy : decide ((i : Int) < 0) = false := decide_eq_false (by omega)
  have hz : decide ((n : Int) ≤ (i : Int)) = false := decide_eq_false (by omega)
  have hz' : decide (n ≤ i) = false := decide_eq_false (by omega)
  have hPm : P.length = m := hP.1.1
  have hcap : m ≤ cap := hP.1.2.1
  have hmax : cap ≤ 9223372036854775807 := hP.1.2.2.1
  have hlen := Tree.sides_len 30 n i h1 h2
  obtain ⟨R, hR⟩ : ∃ R, R = Tree.check want n i l P := ⟨_, rfl⟩
  rw [← hR]
  have hR2 : R = (decide ((Tree.sides n i).length = P.length) && (Tree.root n (Tree.climb (Tree.leaf l) (Tree.sides n i) P) == want)) := by rw [hR]; rfl
  clear hR
  have HR := Lib.hid hR2; clear hR2
  by_cases h40 : 40 < m
  · have ht : decide ((40 : Int) < (m : Int)) = true := decide_eq_true (by omega)
    have hRf : R = false := by rw [HR.out, decide_eq_false (by omega), Bool.false_and]
    have HRF := Lib.hid hRf; clear hRf
    go_enter Tryd.func29, Tryd.ntmps29
    go_wp2_with fail
    go_ret
    exact ⟨by rw [HRF.out]; rfl, (Below.refl _ _).alloc (Nat.le_refl _) _⟩
  · have ht : decide ((40 : Int) < (m : Int)) = false := decide_eq_false (by omega)
    obtain ⟨W0, hW0⟩ : ∃ W0, W0 = w.alloc (.cells (byteCells want).toArray 23) := ⟨_, rfl⟩
    have xw : W0.heap[w.heap.size]? = some (.cells (byteCells want).toArray 23 (0, 0)) := by rw [hW0]; exact heap_alloc_new w _
    have b0 : Below w.heap.size w W0 := by rw [hW0]; exact (Below.refl _ _).alloc (Nat.le_refl _) _
    have hc := refUp_any n W0 n i l o m cap P rfl h1 h2 hl (hP.below (Nat.le_refl _) b0)
    have HC := Lib.hid hc; clear hc hP
    have HWL := Lib.hid hw; clear hw
    have HW0 := Lib.hid hW0; clear hW0
    go_enter Tryd.func29, Tryd.ntmps29
    go_wp2_with fail
    rw [← HW0.out]
    refine HC.out.mono ?_
    rintro e w1 ⟨t, rfl, htl, ht2, b1⟩
    have XW := Lib.hid ((b1.block _ (lt_of_block xw)).trans xw)
    have B1 := b0.trans (b1.mono b0.size)
    clear xw
    by_cases hq : (Tree.sides n i).length = P.length
    · have hde : decide ((Tree.sides n i).length = P.length) = true := decide_eq_true hq
      have htc := ht2 hq
      have htl' : t.length = 32 := by rw [htc]; exact Tree.climb_len _ (Tree.leaf_len _) _ _
      have hRt : R = (Tree.root n t == want) := by rw [HR.out, hde, Bool.true_and, ← htc]
      rw [hde]
      have HTL := Lib.hid htl'; clear htl'
      have HRT := Lib.hid hRt; clear hRt
      clear htc ht2 hde hq
      go_wp2_with fail

      refine wp_region_rel [[], [0], [1], [1], [1, 2, 3], [1], [1, 4, 5], [1, 6], [7]] (rcheckV want t n) 45 (by kernel_rfl) (by kernel_rfl) (by kernel_rfl) (rcheckV_mono want t n) ?_ ?_
      · intro ix op hi w2 b2 vs hv
        have him : ix < 9 := (List.getElem?_eq_some_iff.1 hi).1
        have hb0 := b2
        match ix, him, hi with
        | 0, _, hi =>
          obtain rfl := Option.some.inj hi
          simp only [relF, List.getD_cons_zero, List.getD_cons_succ, List.foldl_cons, List.foldl_nil, dstAt, List.getElem?_cons_zero, List.getElem?_cons_succ, Option.bind_some]
          go_wp2_with fail
          exact ⟨rfl, Below.refl _ _, rfl, rfl⟩
        | 1, _, hi =>
          obtain rfl := Option.some.inj hi
          have h0 : vs 0 = _ := hv 0 (by decide)
          simp only [relF, List.getD_cons_zero, List.getD_cons_succ, List.foldl_cons, List.foldl_nil, dstAt, List.getElem?_cons_zero, List.getElem?_cons_succ, Option.bind_some]
          go_frame
          rw [h0]
          go_wp2_with fail
          exact ⟨rfl, Below.refl _ _, rfl, rfl⟩
        | 2, _, hi =>
          obtain rfl := Option.some.inj hi
          have h1 : vs 1 = _ := hv 1 (by decide)
          simp only [relF, List.getD_cons_zero, List.getD_cons_succ, List.foldl_cons, List.foldl_nil, dstAt, List.getElem?_cons_zero, List.getElem?_cons_succ, Option.bind_some]
          go_frame
          rw [h1]
          go_wp2_with fail
          exact ⟨rfl, Below.refl _ _, rfl, rfl⟩
        | 3, _, hi =>
          obtain rfl := Option.some.inj hi
          have h1 : vs 1 = _ := hv 1 (by decide)
          simp only [relF, List.getD_cons_zero, List.getD_cons_succ, List.foldl_cons, List.foldl_nil, dstAt, List.getElem?_cons_zero, List.getElem?_cons_succ, Option.bind_some]
          go_frame
          rw [h1]
          go_wp2_with fail
          exact ⟨rfl, Below.refl _ _, rfl, rfl⟩
        | 4, _, hi =>
          obtain rfl := Option.some.inj hi
          have h1 : vs 1 = _ := hv 1 (by decide)
          have h2 : vs 2 = _ := hv 2 (by decide)
          have h3 : vs 3 = _ := hv 3 (by decide)
          have hr := refRootOf_any w2 n (by omega) t HTL.out
          simp only [relF, List.getD_cons_zero, List.getD_cons_succ, List.foldl_cons, List.foldl_nil, dstAt, List.getElem?_cons_zero, List.getElem?_cons_succ, Option.bind_some]
          go_frame
          rw [h1, h2, h3]
          go_wp2_with fail
          refine (hr).mono ?_
          rintro e w3 ⟨rfl, b3⟩
          go_wp2_with fail
          exact ⟨rfl, b3, rfl, rfl⟩
        | 5, _, hi =>
          obtain rfl := Option.some.inj hi
          have h1 : vs 1 = _ := hv 1 (by decide)
          simp only [relF, List.getD_cons_zero, List.getD_cons_succ, List.foldl_cons, List.foldl_nil, dstAt, List.getElem?_cons_zero, List.getElem?_cons_succ, Option.bind_some]
          go_frame
          rw [h1]
          go_wp2_with ((with_reducible show wpList _ _ _ (⟨some 42, _, _, _, _, _⟩ :: _) _ _); refine wpList_load_hash (op := ⟨some 42, _, _, _, _, _⟩) (by kernel_rfl) _ rfl w.heap.size rfl want HWL.out _ _ ((b2.block _ (lt_of_block XW.out)).trans XW.out) ?_)
          exact ⟨rfl, Below.refl _ _, rfl, rfl⟩
        | 6, _, hi =>
          obtain rfl := Option.some.inj hi
          have h1 : vs 1 = _ := hv 1 (by decide)
          have h4 : vs 4 = _ := hv 4 (by decide)
          have h5 : vs 5 = _ := hv 5 (by decide)
          simp only [relF, List.getD_cons_zero, List.getD_cons_succ, List.foldl_cons, List.foldl_nil, dstAt, List.getElem?_cons_zero, List.getElem?_cons_succ, Option.bind_some]
          go_frame
          rw [h1, h4, h5]
          go_wp2_with ((with_reducible show wpList _ _ _ (⟨some 43, _, _, _, _, _⟩ :: _) _ _); refine wpList_eql_hash (op := ⟨some 43, _, _, _, _, _⟩) (by kernel_rfl) _ _ rfl (Tree.root n t) want (Tree.root_len n t) HWL.out rfl rfl ?_)
          exact ⟨rfl, Below.refl _ _, rfl, rfl⟩
        | 7, _, hi =>
          obtain rfl := Option.some.inj hi
          have h1 : vs 1 = _ := hv 1 (by decide)
          have h6 : vs 6 = _ := hv 6 (by decide)
          simp only [relF, List.getD_cons_zero, List.getD_cons_succ, List.foldl_cons, List.foldl_nil, dstAt, List.getElem?_cons_zero, List.getElem?_cons_succ, Option.bind_some]
          go_frame
          rw [h1, h6]
          go_wp2_with fail
          exact ⟨rfl, Below.refl _ _, rfl, rfl⟩
        | 8, _, hi =>
          obtain rfl := Option.some.inj hi
          have h7 : vs 7 = _ := hv 7 (by decide)
          simp only [relF, List.getD_cons_zero, List.getD_cons_succ, List.foldl_cons, List.foldl_nil, dstAt, List.getElem?_cons_zero, List.getElem?_cons_succ, Option.bind_some]
          go_frame
          rw [h7]
          go_wp2_with fail
          exact ⟨rfl, Below.refl _ _, rfl, rfl⟩
        | nx + 9, him, _ => exact absurd him (by omega)
      · intro w2 b2 vs hv
        have hb0 := b2
        have h8 : vs 8 = _ := hv 8 (by decide)
        simp only [relF, List.length_cons, List.length_nil, Nat.zero_add, Nat.reduceAdd, List.range, List.range.loop, List.foldl_cons, List.foldl_nil, dstAt, List.getElem?_cons_zero, List.getElem?_cons_succ, Option.bind_some]
        go_frame
        rw [h8]
        go_wp2_with fail
        go_ret
        exact ⟨by rw [HRT.out]; rfl, B1.trans (b2.mono B1.size)⟩
    · have hde : decide ((Tree.sides n i).length = P.length) = false := decide_eq_false hq
      have hRf : R = false := by rw [HR.out, hde, Bool.false_and]
      rw [hde]
      have HRF := Lib.hid hRf; clear hRf
      clear ht2 hde hq
      go_wp2_with fail

      refine wp_region_rel [[], [0], [1], [1], [1, 2, 3], [1], [1, 4, 5], [1, 6], [7]] (rcheckV0 want t n) 45 (by kernel_rfl) (by kernel_rfl) (by kernel_rfl) (rcheckV0_mono want t n) ?_ ?_
      · intro ix op hi w2 b2 vs hv
        have him : ix < 9 := (List.getElem?_eq_some_iff.1 hi).1
        have hb0 := b2
        match ix, him, hi with
        | 0, _, hi =>
          obtain rfl := Option.some.inj hi
          simp only [relF, List.getD_cons_zero, List.getD_cons_succ, List.foldl_cons, List.foldl_nil, dstAt, List.getElem?_cons_zero, List.getElem?_cons_succ, Option.bind_some]
          go_wp2_with fail
          exact ⟨rfl, Below.refl _ _, rfl, rfl⟩
        | 1, _, hi =>
          obtain rfl := Option.some.inj hi
          have h0 : vs 0 = _ := hv 0 (by decide)
          simp only [relF, List.getD_cons_zero, List.getD_cons_succ, List.foldl_cons, List.foldl_nil, dstAt, List.getElem?_cons_zero, List.getElem?_cons_succ, Option.bind_some]
          go_frame
          rw [h0]
          go_wp2_with fail
          exact ⟨rfl, Below.refl _ _, rfl, rfl⟩
        | 2, _, hi =>
          obtain rfl := Option.some.inj hi
          have h1 : vs 1 = _ := hv 1 (by decide)
          simp only [relF, List.getD_cons_zero, List.getD_cons_succ, List.foldl_cons, List.foldl_nil, dstAt, List.getElem?_cons_zero, List.getElem?_cons_succ, Option.bind_some]
          go_frame
          rw [h1]
          go_wp2_with fail
          exact ⟨rfl, Below.refl _ _, rfl, trivial⟩
        | 3, _, hi =>
          obtain rfl := Option.some.inj hi
          have h1 : vs 1 = _ := hv 1 (by decide)
          simp only [relF, List.getD_cons_zero, List.getD_cons_succ, List.foldl_cons, List.foldl_nil, dstAt, List.getElem?_cons_zero, List.getElem?_cons_succ, Option.bind_some]
          go_frame
          rw [h1]
          go_wp2_with fail
          exact ⟨rfl, Below.refl _ _, rfl, trivial⟩
        | 4, _, hi =>
          obtain rfl := Option.some.inj hi
          have h1 : vs 1 = _ := hv 1 (by decide)
          simp only [relF, List.getD_cons_zero, List.getD_cons_succ, List.foldl_cons, List.foldl_nil, dstAt, List.getElem?_cons_zero, List.getElem?_cons_succ, Option.bind_some]
          go_frame
          rw [h1]
          go_wp2_with fail
          exact ⟨rfl, Below.refl _ _, rfl, trivial⟩
        | 5, _, hi =>
          obtain rfl := Option.some.inj hi
          have h1 : vs 1 = _ := hv 1 (by decide)
          simp only [relF, List.getD_cons_zero, List.getD_cons_succ, List.foldl_cons, List.foldl_nil, dstAt, List.getElem?_cons_zero, List.getElem?_cons_succ, Option.bind_some]
          go_frame
          rw [h1]
          go_wp2_with fail
          exact ⟨rfl, Below.refl _ _, rfl, trivial⟩
        | 6, _, hi =>
          obtain rfl := Option.some.inj hi
          have h1 : vs 1 = _ := hv 1 (by decide)
          simp only [relF, List.getD_cons_zero, List.getD_cons_succ, List.foldl_cons, List.foldl_nil, dstAt, List.getElem?_cons_zero, List.getElem?_cons_succ, Option.bind_some]
          go_frame
          rw [h1]
          go_wp2_with fail
          exact ⟨rfl, Below.refl _ _, rfl, trivial⟩
        | 7, _, hi =>
          obtain rfl := Option.some.inj hi
          have h1 : vs 1 = _ := hv 1 (by decide)
          simp only [relF, List.getD_cons_zero, List.getD_cons_succ, List.foldl_cons, List.foldl_nil, dstAt, List.getElem?_cons_zero, List.getElem?_cons_succ, Option.bind_some]
          go_frame
          rw [h1]
          go_wp2_with fail
          exact ⟨rfl, Below.refl _ _, rfl, rfl⟩
        | 8, _, hi =>
          obtain rfl := Option.some.inj hi
          have h7 : vs 7 = _ := hv 7 (by decide)
          simp only [relF, List.getD_cons_zero, List.getD_cons_succ, List.foldl_cons, List.foldl_nil, dstAt, List.getElem?_cons_zero, List.getElem?_cons_succ, Option.bind_some]
          go_frame
          rw [h7]
          go_wp2_with fail
          exact ⟨rfl, Below.refl _ _, rfl, rfl⟩
        | nx + 9, him, _ => exact absurd him (by omega)
      · intro w2 b2 vs hv
        have hb0 := b2
        have h8 : vs 8 = _ := hv 8 (by decide)
        simp only [relF, List.length_cons, List.length_nil, Nat.zero_add, Nat.reduceAdd, List.range, List.range.loop, List.foldl_cons, List.foldl_nil, dstAt, List.getElem?_cons_zero, List.getElem?_cons_succ, Option.bind_some]
        go_frame
        rw [h8]
        go_wp2_with fail
        go_ret
        exact ⟨by rw [HRF.out]; rfl, B1.trans (b2.mono B1.size)⟩

end Go.Proofs.YtgheacegjgaobaaDoor

/- Rows copied; the walks of the reference's Prove, Same, Few. -/
namespace Go.Proofs.YtgheacegjgaobaaDoor
open Go.RowKit
set_option linter.unusedSimpArgs false
set_option linter.unusedVariables false

/-- 'append(x, ..)' of nothing to nothing. -/
theorem run_append_zero {P : Program} (w : World) (t ty e : TypeId) (i : TypeInfo) (z : Value) (ht : P.underlying t = some (.slice e)) (hi : P.info? e = some i) (hz : i.zero = some z) (b : Addr) (o : Option Addr) (c : Nat) :
    (Builtin.append_ #[t, t] ty #[.slice (some b) 0 0, .slice o 0 c]).run P w = .ok (.slice (some b) 0 0) w := by
  rcases o with _ | a
  · have hf := run_firstCells_none (P := P) w i.size
    simp [Builtin.append_, run_underlying ht, sizeOf, typeInfo, hi, hz, Builtin.lenOf, Builtin.firstCells, storeCells]
  · have hf := run_firstCells_some (P := P) w i.size 0 a 0 c [] (by simp) (by simp)
    simp [Builtin.append_, run_underlying ht, sizeOf, typeInfo, hi, hz, Builtin.lenOf, hf, storeCells]

/-- 'append([]T{}, row...)': the row anew. -/
theorem run_copy_row {P : Program} (w : World) (t ty e : TypeId) (i : TypeInfo) (z : Value) (size bytes : Nat) (ht : P.underlying t = some (.slice e)) (hi : P.info? e = some i) (hz : i.zero = some z) (hsize : i.size = size) (hby : i.bytes = bytes) (hzs : z.cells.size = size) (hsz : 0 < size)
    (b : Addr) (o : Option Addr) (m c : Nat) (news : List Value) (hl : news.length = m * size) (hnews : 0 < m → ∃ a, o = some a ∧ ∀ j u, news[j]? = some u → w.cell? (a.add j) = some u) (b1 : m ≤ maxLen) (b2 : m * bytes ≤ 140737488355328) :
    ∃ q cc w', (Builtin.append_ #[t, t] ty #[.slice (some b) 0 0, .slice o m c]).run P w = .ok (.slice (some q) m cc) w' ∧ m ≤ cc ∧ cc ≤ maxLen ∧ Below w.heap.size w w' ∧ (0 < m → ∃ g, q = ⟨g, 0, none⟩ ∧ g < w'.heap.size ∧ w'.rangeAt g 0 news) := by
  rcases Nat.eq_zero_or_pos m with rfl | hm
  · exact ⟨b, 0, w, run_append_zero w t ty e i z ht hi hz b o c, Nat.le_refl _, by decide, Below.refl _ _, fun h => absurd h (by decide)⟩
  · obtain ⟨a, rfl, hn⟩ := hnews hm
    obtain ⟨v', w', h1, h2, h3⟩ := run_append_arg_grows w t ty e i z size bytes ht hi hz hsize hby hzs hsz b 0 0 [] (by simp) (by simp) a m c news hl hn (by omega) (by omega) (by rw [Nat.zero_add]; exact b2)
    rw [Nat.zero_add, List.nil_append] at h2
    have hcell := fun g hg => h2.cells (g := g) hg
    rcases h2.2 with ⟨_, h0⟩ | ⟨g, cap, cur, rfl, hb, hg, hnc, hcm, _⟩
    · omega
    · refine ⟨⟨g, 0, none⟩, cap, w', h1, hnc, hcm, grown_below h3 (fun k hk => by cases hk) (Nat.le_refl _), fun _ => ⟨g, rfl, lt_of_block hg, fun j u hu => ?_⟩⟩
      have := hcell g rfl j u hu
      rw [Addr.add_mid] at this; exact this

theorem sCells_get (L : List (List UInt8)) (i : Nat) (l : List UInt8) (h : L[i]? = some l) : (L.map fun l => Value.string (strOf l))[i]? = some (.string (strOf l)) := by simp [h]

theorem Tryd.under_strs : Tryd.prog.underlying 24 = some (.slice 9) := by kernel_rfl
theorem Tryd.info_string : (Tryd.prog.info? 9).map (fun i => (i.zero, i.size, i.bytes)) = some (some (.string ⟨#[]⟩), 1, 16) := by kernel_rfl

theorem StrsAt.copy {w : World} {o : Option Addr} {m c : Nat} {L : List (List UInt8)} (h : StrsAt w o m c L) (hm : m ≤ 1000000) (b : Addr) :
    ∃ q cc w', (Builtin.append_ #[24, 24] 24 #[.slice (some b) 0 0, .slice o m c]).run Tryd.prog w = .ok (.slice (some q) m cc) w' ∧ StrsAt w' (some q) m cc L ∧ Below w.heap.size w w' := by
  obtain ⟨i, hi, hz0, hz1, hz2⟩ := info_parts Tryd.info_string
  have hlen := h.len
  obtain ⟨q, cc, w', h1, h2, h3, h4, h5⟩ := run_copy_row (P := Tryd.prog) w 24 24 9 i (.string ⟨#[]⟩) 1 16 Tryd.under_strs hi hz0 hz1 hz2 rfl (by decide) b o m c (L.map fun l => .string (strOf l)) (by rw [List.length_map, hlen, Nat.mul_one]) (fun h0 => by
    obtain ⟨b', off, rfl⟩ := h.form h0
    refine ⟨_, rfl, fun j u hu => ?_⟩
    rw [List.getElem?_map] at hu
    obtain ⟨l, hl, rfl⟩ := Option.map_eq_some_iff.1 hu
    rw [Addr.add_mid]
    exact h.get hl) (by unfold maxLen; omega) (by omega)
  refine ⟨q, cc, w', h1, ⟨hlen, h2, h3, fun h0 => ?_⟩, h4⟩
  obtain ⟨g, rfl, hg, hr⟩ := h5 h0
  refine ⟨g, 0, rfl, hg, fun i l hl => ?_⟩
  intro j u hu
  match j, hu with
  | 0, hu =>
    obtain rfl := Option.some.inj hu
    have := hr i _ (sCells_get L i l hl)
    simpa using this

theorem hashCells_len {d : List (List UInt8)} (h : ∀ p ∈ d, p.length = 32) : (hashCells d).length = d.length * 32 := by
  induction d with
  | nil => rfl
  | cons a d ih =>
    have h1 := h a (by simp)
    have h2 := ih fun p hp => h p (by simp [hp])
    rw [show a :: d = [a] ++ d from rfl, hashCells_app, hashCells_one, List.length_append, h2, byteCells_length, h1]
    simp; omega

theorem hashCells_get {d : List (List UInt8)} (h : ∀ p ∈ d, p.length = 32) {i : Nat} {p : List UInt8} (hp : d[i]? = some p) : ∀ j u, (byteCells p)[j]? = some u → (hashCells d)[i * 32 + j]? = some u := by
  induction d generalizing i with
  | nil => simp at hp
  | cons a d ih =>
    intro j u hu
    have h1 := h a (by simp)
    rw [show a :: d = [a] ++ d from rfl, hashCells_app, hashCells_one]
    have hj := (List.getElem?_eq_some_iff.1 hu).1
    rw [byteCells_length] at hj
    rcases i with _ | i
    · rw [List.getElem?_cons_zero, Option.some.injEq] at hp
      subst hp
      rw [List.getElem?_append_left (by rw [byteCells_length]; omega)]
      simpa using hu
    · rw [List.getElem?_cons_succ] at hp
      rw [List.getElem?_append_right (by rw [byteCells_length]; omega), byteCells_length, h1]
      have := ih (fun p hp => h p (by simp [hp])) hp j u hu
      rwa [show (i + 1) * 32 + j - 32 = i * 32 + j by omega]

theorem hashCells_at {w : World} {b off : Nat} {d : List (List UInt8)} (h : ∀ i p, d[i]? = some p → w.rangeAt b (off + i * 32) (byteCells p)) (h32 : ∀ p ∈ d, p.length = 32) : ∀ j u, (hashCells d)[j]? = some u → w.cell? ⟨b, off + j, none⟩ = some u := by
  intro j u hu
  have hj := (List.getElem?_eq_some_iff.1 hu).1
  rw [hashCells_len h32] at hj
  obtain ⟨p, hp⟩ : ∃ p, d[j / 32]? = some p := ⟨_, List.getElem?_eq_getElem (by omega)⟩
  have hpl := h32 p (List.mem_of_getElem? hp)
  obtain ⟨v, hv⟩ : ∃ v, (byteCells p)[j % 32]? = some v := ⟨_, List.getElem?_eq_getElem (by rw [byteCells_length]; omega)⟩
  have h1 := hashCells_get h32 hp (j % 32) v hv
  rw [show j / 32 * 32 + j % 32 = j by omega] at h1
  obtain rfl := Option.some.inj (h1.symm.trans hu)
  have := h _ p hp (j % 32) v hv
  rwa [show off + j / 32 * 32 + j % 32 = off + j by omega] at this

theorem HashesAt.copy {w : World} {o : Option Addr} {m c : Nat} {L : List (List UInt8)} (h : HashesAt w o m c L) (hm : m ≤ 1000000) (b : Addr) :
    ∃ q cc w', (Builtin.append_ #[27, 27] 27 #[.slice (some b) 0 0, .slice o m c]).run Tryd.prog w = .ok (.slice (some q) m cc) w' ∧ HashesAt w' (some q) m cc L ∧ Below w.heap.size w w' := by
  obtain ⟨i, hi, hz0, hz1, hz2⟩ := info_parts Tryd.info_hs
  have hlen := h.1.1
  obtain ⟨q, cc, w', h1, h2, h3, h4, h5⟩ := run_copy_row (P := Tryd.prog) w 27 27 23 i (.agg zero32) 32 32 Tryd.under_hs hi hz0 hz1 hz2 zero32_size (by decide) b o m c (hashCells L) (by rw [hashCells_len h.2, hlen]) (fun h0 => by
    obtain ⟨b', off, rfl⟩ := h.form h0
    refine ⟨_, rfl, fun j u hu => ?_⟩
    rw [Addr.add_mid]
    exact hashCells_at (fun i p hp => (h.get hp).2) h.2 j u hu) (by unfold maxLen; omega) (by omega)
  refine ⟨q, cc, w', h1, ⟨⟨hlen, h2, h3, fun h0 => ?_⟩, h.2⟩, h4⟩
  obtain ⟨g, rfl, hg, hr⟩ := h5 h0
  refine ⟨g, 0, rfl, hg, fun i p hp j u hu => ?_⟩
  have := hr _ _ (hashCells_get h.2 hp j u hu)
  rwa [show 0 + (i * 32 + j) = 0 + i * 32 + j by omega] at this

/-- A row of the call's own, as one that came in. -/
theorem HashesAt.of_owns {w : World} {base c : Nat} {q : Option Addr} {d : List (List UInt8)} (h : w.ownsRow base 23 32 (.slice q d.length c) d.length (hashCells d)) (h32 : ∀ p ∈ d, p.length = 32) : HashesAt w q d.length c d := by
  have hcell := fun g hg => h.cells (g := g) hg
  rcases h.2 with ⟨hv, h0⟩ | ⟨g, cap, cur, hv, hb, hg, hnc, hcm, _⟩
  · simp only [Value.slice.injEq] at hv
    obtain ⟨rfl, h1, rfl⟩ := hv
    exact ⟨⟨rfl, by omega, by decide, fun h => by omega⟩, h32⟩
  · simp only [Value.slice.injEq, true_and] at hv
    obtain ⟨rfl, rfl⟩ := hv
    refine ⟨⟨rfl, hnc, hcm, fun _ => ⟨g, 0, rfl, lt_of_block hg, fun i p hp j u hu => ?_⟩⟩, h32⟩
    have := hcell g rfl _ u (hashCells_get h32 hp j u hu)
    rw [Addr.add_mid] at this
    rwa [show 0 + (i * 32 + j) = 0 + i * 32 + j by omega] at this

theorem Tree.prove_32 (N : Nat) : ∀ (l : List (List UInt8)) (i : Nat), l.length = N → ∀ p ∈ Tree.prove l i, p.length = 32 := by
  induction N using Nat.strongRecOn with
  | ind N ih =>
    intro l i hl p hp
    by_cases h : 2 ≤ l.length
    · have h1 := Tree.half_pos h
      have h2 := Tree.half_lt h
      by_cases hi : i < Tree.half l.length
      · rw [Tree.prove_left h hi] at hp
        rcases List.mem_append.1 hp with hp | hp
        · exact ih (Tree.half l.length) (by omega) (l.take (Tree.half l.length)) i (by rw [List.length_take]; omega) p hp
        · obtain rfl := List.mem_singleton.1 hp; exact Tree.top_len _
      · rw [Tree.prove_right h hi] at hp
        rcases List.mem_append.1 hp with hp | hp
        · exact ih (l.length - Tree.half l.length) (by omega) (l.drop (Tree.half l.length)) (i - Tree.half l.length) (by rw [List.length_drop]) p hp
        · obtain rfl := List.mem_singleton.1 hp; exact Tree.top_len _
    · rw [Tree.prove_small h] at hp; cases hp

theorem owns_mono {w : World} {B B' : Nat} {e size : Nat} {v : Value} {n : Nat} {xs : List Value} (h : w.ownsRow B e size v n xs) (hB : B' ≤ B) : w.ownsRow B' e size v n xs :=
  ⟨h.1, h.2.imp id fun ⟨g, cap, cur, h1, h2, h3⟩ => ⟨g, cap, cur, h1, Nat.le_trans hB h2, h3⟩⟩

/-- What the region's operations leave. -/
def rpL (B b off n cap k i : Nat) (L R : List (List UInt8)) (ix : Nat) (w : World) (v : Value) : Prop :=
  match ix with
  | 0 => v = .slice (some ⟨b, off, none⟩) n cap
  | 1 => v = .int .i64 (k : Int)
  | 2 => v = (.slice (some ⟨b, off, none⟩) k cap)
  | 3 => v = .int .i64 (i : Int)
  | 4 => ∃ q c, v = .slice q R.length c ∧ w.ownsRow B 23 32 (.slice q R.length c) R.length (hashCells R)
  | 5 => v = .slice (some ⟨b, off, none⟩) n cap
  | 6 => v = .int .i64 (k : Int)
  | 7 => v = (.slice (some ⟨b, off + k, none⟩) (n - k) (cap - k))
  | 8 => v = .agg (byteCells (Tree.top (L.drop k))).toArray
  | 9 => ∃ g, v = .slice (some ⟨g, 0, none⟩) 1 1 ∧ w.heap[g]? = some (.cells (byteCells (Tree.top (L.drop k))).toArray 23 (0, 0))
  | _ => True

theorem rpL_mono (B b off n cap k i : Nat) (L R : List (List UInt8)) (jx : Nat) (w w' : World) (v : Value) (hb : Below w.heap.size w w') (h : rpL B b off n cap k i L R jx w v) : rpL B b off n cap k i L R jx w' v := by
  match jx, h with
  | 0, h => exact h
  | 1, h => exact h
  | 2, h => exact h
  | 3, h => exact h
  | 4, h => exact (let ⟨q, c, h1, h2⟩ := h; ⟨q, c, h1, owns_below h2 hb⟩)
  | 5, h => exact h
  | 6, h => exact h
  | 7, h => exact h
  | 8, h => exact h
  | 9, h => exact (let ⟨g, h1, h2⟩ := h; ⟨g, h1, (hb.block g (lt_of_block h2)).trans h2⟩)
  | _ + 10, h => exact trivial

/-- What the region's operations leave. -/
def rpR (B b off n cap k i : Nat) (L R : List (List UInt8)) (ix : Nat) (w : World) (v : Value) : Prop :=
  match ix with
  | 0 => v = .slice (some ⟨b, off, none⟩) n cap
  | 1 => v = .int .i64 (k : Int)
  | 2 => v = (.slice (some ⟨b, off + k, none⟩) (n - k) (cap - k))
  | 3 => v = .int .i64 (i : Int)
  | 4 => v = .int .i64 (k : Int)
  | 5 => v = .int .i64 ((i - k : Nat) : Int)
  | 6 => ∃ q c, v = .slice q R.length c ∧ w.ownsRow B 23 32 (.slice q R.length c) R.length (hashCells R)
  | 7 => v = .slice (some ⟨b, off, none⟩) n cap
  | 8 => v = .int .i64 (k : Int)
  | 9 => v = (.slice (some ⟨b, off, none⟩) k cap)
  | 10 => v = .agg (byteCells (Tree.top (L.take k))).toArray
  | 11 => ∃ g, v = .slice (some ⟨g, 0, none⟩) 1 1 ∧ w.heap[g]? = some (.cells (byteCells (Tree.top (L.take k))).toArray 23 (0, 0))
  | _ => True

theorem rpR_mono (B b off n cap k i : Nat) (L R : List (List UInt8)) (jx : Nat) (w w' : World) (v : Value) (hb : Below w.heap.size w w') (h : rpR B b off n cap k i L R jx w v) : rpR B b off n cap k i L R jx w' v := by
  match jx, h with
  | 0, h => exact h
  | 1, h => exact h
  | 2, h => exact h
  | 3, h => exact h
  | 4, h => exact h
  | 5, h => exact h
  | 6, h => exact (let ⟨q, c, h1, h2⟩ := h; ⟨q, c, h1, owns_below h2 hb⟩)
  | 7, h => exact h
  | 8, h => exact h
  | 9, h => exact h
  | 10, h => exact h
  | 11, h => exact (let ⟨g, h1, h2⟩ := h; ⟨g, h1, (hb.block g (lt_of_block h2)).trans h2⟩)
  | _ + 12, h => exact trivial

theorem hash_neq (w : World) (a b : List UInt8) (ha : a.length = 32) (hb : b.length = 32) :
    (binOp .neq 23 (.agg (byteCells a).toArray) (.agg (byteCells b).toArray)).run Tryd.prog w = .ok (.bool (!(a == b))) w := by
  have h := run_equalIn_bytes (P := Tryd.prog) w 9998 23 5 32 Tryd.under_hh Tryd.under_bb Tryd.size_bb a b ha hb
  rw [run_neq_struct]
  exact (congrArg (fun r => Result.andThen r fun b w' => Result.ok (Value.bool (!b)) w') h).trans rfl

theorem wpList_neq_hash {ops : Array Oper} {rest : List Oper} {op : Oper} {a : Act} {w : World} {Q : Exit → Act → World → Prop} (hgd : Region.wanted op (yielded ops a.tmps) = true) (x y : Operand) (ho : op.op = .binOp .neq 23 x y 23)
    (u v : List UInt8) (hu : u.length = 32) (hv : v.length = 32) (hx : a.eval x = .agg (byteCells u).toArray) (hy : a.eval y = .agg (byteCells v).toArray)
    (h : wpList Tryd.prog ops Q rest (a.put op.dst (.bool (!(u == v)))) w) : wpList Tryd.prog ops Q (op :: rest) a w :=
  wpList_step fun K hK => by
    rw [if_pos hgd]
    have hg := run_eqGuard_agg (P := Tryd.prog) w .neq 23 x y (byteCells u).toArray (byteCells v).toArray Tryd.eqg_hh
    have he := hash_neq w u v hu hv
    unfold Oper.wp execOp
    simp only [ho, hx, hy, Sem.run_bind, hg, he, Result.andThen_ok, Sem.run_pure]
    exact hK _ _ h

/-- What the region's operations leave. -/
def sameV (b off n cap b' off' cap' j : Nat) (p q : List UInt8) (ix : Nat) (w : World) (v : Value) : Prop :=
  match ix with
  | 0 => v = .slice (some ⟨b, off, none⟩) n cap
  | 1 => v = .int .i64 (j : Int)
  | 2 => v = .pointer (some ⟨b, off + j * 32, none⟩)
  | 3 => v = .agg (byteCells p).toArray
  | 4 => v = .slice (some ⟨b', off', none⟩) n cap'
  | 5 => v = .int .i64 (j : Int)
  | 6 => v = .pointer (some ⟨b', off' + j * 32, none⟩)
  | 7 => v = .agg (byteCells q).toArray
  | 8 => v = .bool (!(p == q))
  | _ => True

theorem sameV_mono (b off n cap b' off' cap' j : Nat) (p q : List UInt8) (jx : Nat) (w w' : World) (v : Value) (hb : Below w.heap.size w w') (h : sameV b off n cap b' off' cap' j p q jx w v) : sameV b off n cap b' off' cap' j p q jx w' v := by
  match jx, h with
  | 0, h => exact h
  | 1, h => exact h
  | 2, h => exact h
  | 3, h => exact h
  | 4, h => exact h
  | 5, h => exact h
  | 6, h => exact h
  | 7, h => exact h
  | 8, h => exact h
  | _ + 9, h => exact trivial

set_option maxRecDepth 100000 in
set_option maxHeartbeats 2000000 in
theorem refSame_any (w : World) (o o' : Option Addr) (n cap n' cap' : Nat) (A B : List (List UInt8)) (hA : HashesAt w o n cap A) (hB : HashesAt w o' n' cap' B) :
    Calls Tryd.prog 20 #[.slice o n cap, .slice o' n' cap'] w fun e w' => e = .returned (.bool (decide (A = B))) ∧ Below w.heap.size w w' := by
  have hAl : A.length = n := hA.1.1
  have hBl : B.length = n' := hB.1.1
  have hcA : n ≤ cap := hA.1.2.1
  have hcB : n' ≤ cap' := hB.1.2.1
  have hmA : cap ≤ 9223372036854775807 := hA.1.2.2.1
  have hmB : cap' ≤ 9223372036854775807 := hB.1.2.2.1
  have HA := Lib.hid hA; clear hA
  have HB := Lib.hid hB; clear hB
  have HAL := Lib.hid hAl; clear hAl
  have HBL := Lib.hid hBl; clear hBl
  obtain ⟨R, hR⟩ : ∃ R, R = decide (A = B) := ⟨_, rfl⟩
  rw [← hR]
  have HR := Lib.hid hR; clear hR
  by_cases hn : n = n'
  · subst hn
    have ht : ((n : Int) != (n : Int)) = false := by simp
    go_enter Tryd.func20, Tryd.ntmps20
    go_wp2_with fail
    go_loopw [5] (fun v wr => ∃ j : Nat, j ≤ n ∧ v = .int .i64 (j : Int) ∧ Hid (A.take j = B.take j) ∧ Below w.heap.size w wr) (fun v _ => n - (intOf v).toNat)
    case atStart => exact ⟨0, by omega, rfl, Lib.hid rfl, Below.refl _ _⟩
    case round =>
      obtain ⟨j, hj, rfl, heq, Br⟩ := hrel
      by_cases hlt : j < n
      · obtain ⟨b, off, rfl⟩ := HA.out.form (by omega)
        obtain ⟨b', off', rfl⟩ := HB.out.form (by omega)
        obtain ⟨p, hp⟩ : ∃ p, A[j]? = some p := ⟨_, List.getElem?_eq_getElem (by rw [HAL.out]; exact hlt)⟩
        obtain ⟨q, hq⟩ : ∃ q, B[j]? = some q := ⟨_, List.getElem?_eq_getElem (by rw [HBL.out]; exact hlt)⟩
        have HPL := Lib.hid (HA.out.2 p (List.mem_of_getElem? hp))
        have HQL := Lib.hid (HB.out.2 q (List.mem_of_getElem? hq))
        have hpr := HA.out.get hp
        have hqr := HB.out.get hq
        have HPR := Lib.hid (range_under hpr.2 hpr.1 Br)
        have HQR := Lib.hid (range_under hqr.2 hqr.1 Br)
        have hbp : b < wr.heap.size := Nat.lt_of_lt_of_le hpr.1 Br.size
        have hbq : b' < wr.heap.size := Nat.lt_of_lt_of_le hqr.1 Br.size
        clear hpr hqr
        have HP := Lib.hid hp; clear hp
        have HQ := Lib.hid hq; clear hq
        go_wp2_with fail

        refine wp_region_rel [[], [], [0, 1], [2], [], [], [4, 5], [6], [3, 7]] (sameV b off n cap b' off' cap' j p q) 26 (by kernel_rfl) (by kernel_rfl) (by kernel_rfl) (sameV_mono b off n cap b' off' cap' j p q) ?_ ?_
        · intro ix op hi w2 b2 vs hv
          have him : ix < 9 := (List.getElem?_eq_some_iff.1 hi).1
          have hb0 := b2
          match ix, him, hi with
          | 0, _, hi =>
            obtain rfl := Option.some.inj hi
            simp only [relF, List.getD_cons_zero, List.getD_cons_succ, List.foldl_cons, List.foldl_nil, dstAt, List.getElem?_cons_zero, List.getElem?_cons_succ, Option.bind_some]
            go_wp2_with fail
            exact ⟨rfl, Below.refl _ _, rfl, rfl⟩
          | 1, _, hi =>
            obtain rfl := Option.some.inj hi
            simp only [relF, List.getD_cons_zero, List.getD_cons_succ, List.foldl_cons, List.foldl_nil, dstAt, List.getElem?_cons_zero, List.getElem?_cons_succ, Option.bind_some]
            go_wp2_with fail
            exact ⟨rfl, Below.refl _ _, rfl, rfl⟩
          | 2, _, hi =>
            obtain rfl := Option.some.inj hi
            have h0 : vs 0 = _ := hv 0 (by decide)
            have h1 : vs 1 = _ := hv 1 (by decide)
            simp only [relF, List.getD_cons_zero, List.getD_cons_succ, List.foldl_cons, List.foldl_nil, dstAt, List.getElem?_cons_zero, List.getElem?_cons_succ, Option.bind_some]
            go_frame
            rw [h0, h1]
            go_wp2_with fail
            exact ⟨rfl, Below.refl _ _, rfl, rfl⟩
          | 3, _, hi =>
            obtain rfl := Option.some.inj hi
            have h2 : vs 2 = _ := hv 2 (by decide)
            have hpr := range_under HPR.out hbp (b2.mono (Nat.le_refl _))
            simp only [relF, List.getD_cons_zero, List.getD_cons_succ, List.foldl_cons, List.foldl_nil, dstAt, List.getElem?_cons_zero, List.getElem?_cons_succ, Option.bind_some]
            go_frame
            rw [h2]
            go_wp2_with ((with_reducible show wpList _ _ _ (⟨some 20, _, _, _, _, _⟩ :: _) _ _); refine wpList_load_hashAt (op := ⟨some 20, _, _, _, _, _⟩) rfl _ rfl b (off + j * 32) rfl p HPL.out hpr ?_)
            exact ⟨rfl, Below.refl _ _, rfl, rfl⟩
          | 4, _, hi =>
            obtain rfl := Option.some.inj hi
            simp only [relF, List.getD_cons_zero, List.getD_cons_succ, List.foldl_cons, List.foldl_nil, dstAt, List.getElem?_cons_zero, List.getElem?_cons_succ, Option.bind_some]
            go_wp2_with fail
            exact ⟨rfl, Below.refl _ _, rfl, rfl⟩
          | 5, _, hi =>
            obtain rfl := Option.some.inj hi
            simp only [relF, List.getD_cons_zero, List.getD_cons_succ, List.foldl_cons, List.foldl_nil, dstAt, List.getElem?_cons_zero, List.getElem?_cons_succ, Option.bind_some]
            go_wp2_with fail
            exact ⟨rfl, Below.refl _ _, rfl, rfl⟩
          | 6, _, hi =>
            obtain rfl := Option.some.inj hi
            have h4 : vs 4 = _ := hv 4 (by decide)
            have h5 : vs 5 = _ := hv 5 (by decide)
            simp only [relF, List.getD_cons_zero, List.getD_cons_succ, List.foldl_cons, List.foldl_nil, dstAt, List.getElem?_cons_zero, List.getElem?_cons_succ, Option.bind_some]
            go_frame
            rw [h4, h5]
            go_wp2_with fail
            exact ⟨rfl, Below.refl _ _, rfl, rfl⟩
          | 7, _, hi =>
            obtain rfl := Option.some.inj hi
            have h6 : vs 6 = _ := hv 6 (by decide)
            have hqr := range_under HQR.out hbq (b2.mono (Nat.le_refl _))
            simp only [relF, List.getD_cons_zero, List.getD_cons_succ, List.foldl_cons, List.foldl_nil, dstAt, List.getElem?_cons_zero, List.getElem?_cons_succ, Option.bind_some]
            go_frame
            rw [h6]
            go_wp2_with ((with_reducible show wpList _ _ _ (⟨some 24, _, _, _, _, _⟩ :: _) _ _); refine wpList_load_hashAt (op := ⟨some 24, _, _, _, _, _⟩) rfl _ rfl b' (off' + j * 32) rfl q HQL.out hqr ?_)
            exact ⟨rfl, Below.refl _ _, rfl, rfl⟩
          | 8, _, hi =>
            obtain rfl := Option.some.inj hi
            have h3 : vs 3 = _ := hv 3 (by decide)
            have h7 : vs 7 = _ := hv 7 (by decide)
            simp only [relF, List.getD_cons_zero, List.getD_cons_succ, List.foldl_cons, List.foldl_nil, dstAt, List.getElem?_cons_zero, List.getElem?_cons_succ, Option.bind_some]
            go_frame
            rw [h3, h7]
            go_wp2_with ((with_reducible show wpList _ _ _ (⟨some 25, _, _, _, _, _⟩ :: _) _ _); refine wpList_neq_hash (op := ⟨some 25, _, _, _, _, _⟩) (by kernel_rfl) _ _ rfl p q HPL.out HQL.out rfl rfl ?_)
            exact ⟨rfl, Below.refl _ _, rfl, rfl⟩
          | nx + 9, him, _ => exact absurd him (by omega)
        · intro w2 b2 vs hv
          have hb0 := b2
          have h8 : vs 8 = _ := hv 8 (by decide)
          simp only [relF, List.length_cons, List.length_nil, Nat.zero_add, Nat.reduceAdd, List.range, List.range.loop, List.foldl_cons, List.foldl_nil, dstAt, List.getElem?_cons_zero, List.getElem?_cons_succ, Option.bind_some]
          go_frame
          rw [h8]
          have B2 := Br.trans (b2.mono Br.size)
          by_cases hpq : p = q
          · have hpq' : (p == q) = true := by rw [hpq]; exact beq_self_eq_true q
            rw [hpq']
            have hnext : A.take (j + 1) = B.take (j + 1) := by rw [List.take_add_one, List.take_add_one, heq.out, HP.out, HQ.out, hpq]
            have HNX := Lib.hid hnext; clear hnext
            go_wp2_with fail
            go_roundw
            case rel => exact ⟨j + 1, by omega, by go_num, HNX, B2⟩
            case measure => simp [intOf]; omega
          · have hpq' : (p == q) = false := by rw [beq_eq_false_iff_ne]; exact hpq
            rw [hpq']
            have hRf : R = false := by
              rw [HR.out]
              refine decide_eq_false fun hAB => hpq ?_
              have h1 := HP.out
              rw [hAB, HQ.out] at h1
              exact (Option.some.inj h1).symm
            have HRF := Lib.hid hRf; clear hRf
            go_wp2_with fail
            go_ret
            exact ⟨by rw [HRF.out]; rfl, B2⟩
      · obtain rfl : j = n := by omega
        have hRt : R = true := by
          rw [HR.out]
          have h := heq.out
          rw [List.take_of_length_le (by rw [HAL.out]; exact Nat.le_refl _), List.take_of_length_le (by rw [HBL.out]; exact Nat.le_refl _)] at h
          exact decide_eq_true h
        have HRT := Lib.hid hRt; clear hRt
        go_wp2_with fail
        go_ret
        exact ⟨by rw [HRT.out]; rfl, Br⟩
  · have ht : ((n : Int) != (n' : Int)) = true := by rw [bne_iff_ne]; omega
    have hRf : R = false := by
      rw [HR.out]
      refine decide_eq_false fun hAB => hn ?_
      have h1 := HAL.out
      rw [hAB, HBL.out] at h1
      exact h1.symm
    have HRF := Lib.hid hRf; clear hRf
    go_enter Tryd.func20, Tryd.ntmps20
    go_wp2_with fail
    go_ret
    exact ⟨by rw [HRF.out]; rfl, Below.refl _ _⟩

/-- The leaves aren't too many or long. -/
def few (L : List (List UInt8)) : Bool := L.all (fun l => decide (l.length ≤ 200)) && decide (L.length ≤ 20)

theorem few_spec {L : List (List UInt8)} (h : few L = true) : L.length ≤ 20 ∧ ∀ l ∈ L, l.length ≤ 200 := by
  unfold few at h
  rw [Bool.and_eq_true, List.all_eq_true] at h
  exact ⟨of_decide_eq_true h.2, fun l hl => of_decide_eq_true (h.1 l hl)⟩

set_option maxRecDepth 100000 in
theorem refFew_any (w : World) (o : Option Addr) (n cap : Nat) (L : List (List UInt8)) (hS : StrsAt w o n cap L) (hmx : ∀ l ∈ L, l.length ≤ 9223372036854775807) :
    Calls Tryd.prog 11 #[.slice o n cap] w fun e w' => w = w' ∧ e = .returned (.bool (few L)) := by
  have hlen := hS.len
  have hcap := hS.cap
  have hmax := hS.max
  have HS := Lib.hid hS; clear hS
  have HLEN := Lib.hid hlen; clear hlen
  obtain ⟨R, hR⟩ : ∃ R, R = few L := ⟨_, rfl⟩
  rw [← hR]
  have HR := Lib.hid hR; clear hR
  go_enter Tryd.func11, Tryd.ntmps11
  go_wp2_with fail
  go_loopw [3] (fun v wr => Hid (w = wr) ∧ ∃ j : Nat, j ≤ n ∧ v = .int .i64 (j : Int) ∧ Hid ((L.take j).all (fun l => decide (l.length ≤ 200)) = true)) (fun v _ => n - (intOf v).toNat)
  case atStart => exact ⟨Lib.hid rfl, 0, by omega, rfl, Lib.hid rfl⟩
  case round =>
    obtain ⟨hw, j, hj, rfl, hall⟩ := hrel
    by_cases hlt : j < n
    · obtain ⟨b, off, rfl⟩ := HS.out.form (by omega)
      obtain ⟨l, hl⟩ : ∃ l, L[j]? = some l := ⟨_, List.getElem?_eq_getElem (by rw [HLEN.out]; exact hlt)⟩
      have hcell := HS.out.get hl
      rw [hw.out] at hcell
      have hst := strOf_size l
      have hmx' := hmx l (List.mem_of_getElem? hl)
      have HLJ := Lib.hid hl; clear hl
      by_cases h200 : 200 < l.length
      · have ht : decide ((200 : Int) < (l.length : Int)) = true := decide_eq_true (by omega)
        have hRf : R = false := by
          rw [HR.out]
          unfold few
          rw [Bool.and_eq_false_iff]
          left
          rw [List.all_eq_false]
          exact ⟨l, List.mem_of_getElem? HLJ.out, by simp; omega⟩
        have HRF := Lib.hid hRf; clear hRf
        go_wp2_with fail
        go_ret
        exact ⟨hw.out, by rw [HRF.out]; rfl⟩
      · have ht : decide ((200 : Int) < (l.length : Int)) = false := decide_eq_false (by omega)
        go_wp2_with fail
        go_roundw
        case rel => exact ⟨hw, j + 1, by omega, by go_num, Lib.hid (by rw [List.take_add_one, HLJ.out, List.all_append, hall.out]; simp; omega)⟩
        case measure => simp [intOf]; omega
    · obtain rfl : j = n := by omega
      have hRt : R = decide ((j : Int) ≤ 20) := by
        rw [HR.out]
        unfold few
        have h := hall.out
        rw [List.take_of_length_le (by rw [HLEN.out]; exact Nat.le_refl _)] at h
        rw [h, Bool.true_and, HLEN.out]
        congr 1
        simp; omega
      have HRT := Lib.hid hRt; clear hRt
      go_wp2_with fail
      go_ret
      exact ⟨hw.out, by rw [HRT.out]; rfl⟩

end Go.Proofs.YtgheacegjgaobaaDoor

/- What the tree's laws ask, plain. -/
namespace Go.Proofs.YtgheacegjgaobaaDoor
open Go.RowKit
set_option linter.unusedSimpArgs false
set_option linter.unusedVariables false

theorem Tree.sides_prove (N : Nat) : ∀ (L : List (List UInt8)) (i : Nat), L.length = N → i < N → (Tree.sides N i).length = (Tree.prove L i).length := by
  induction N using Nat.strongRecOn with
  | ind N ih =>
    intro L i hL hi
    by_cases h : 2 ≤ N
    · have h1 := Tree.half_pos h
      have h2 := Tree.half_lt h
      by_cases hl : i < Tree.half N
      · rw [Tree.sides_left h hl, Tree.prove_left (by omega) (by rw [hL]; exact hl), List.length_append, List.length_cons, hL]
        rw [ih (Tree.half N) h2 (L.take (Tree.half N)) i (by rw [List.length_take]; omega) hl]
        rfl
      · rw [Tree.sides_right h hl, Tree.prove_right (by omega) (by rw [hL]; exact hl), List.length_append, List.length_cons, hL]
        rw [ih (N - Tree.half N) (by omega) (L.drop (Tree.half N)) (i - Tree.half N) (by rw [List.length_drop, hL]) (by omega)]
        rfl
    · rw [Tree.sides_small h, Tree.prove_small (by omega)]; rfl

theorem Tree.climb_prove (N : Nat) : ∀ (L : List (List UInt8)) (i : Nat) (l : List UInt8), L.length = N → L[i]? = some l → Tree.climb (Tree.leaf l) (Tree.sides N i) (Tree.prove L i) = Tree.top L := by
  induction N using Nat.strongRecOn with
  | ind N ih =>
    intro L i l hL hl
    have hi : i < N := by have := (List.getElem?_eq_some_iff.1 hl).1; omega
    by_cases h : 2 ≤ N
    · have h1 := Tree.half_pos h
      have h2 := Tree.half_lt h
      by_cases hlt : i < Tree.half N
      · have hs := Tree.sides_prove (Tree.half N) (L.take (Tree.half N)) i (by rw [List.length_take]; omega) hlt
        rw [Tree.sides_left h hlt, Tree.prove_left (by omega) (by rw [hL]; exact hlt), hL, climb_snoc hs,
          ih (Tree.half N) h2 (L.take (Tree.half N)) i l (by rw [List.length_take]; omega) (by rw [List.getElem?_take, if_pos hlt]; exact hl), Tree.top_two (l := L) (by omega), hL]
        rfl
      · have hs := Tree.sides_prove (N - Tree.half N) (L.drop (Tree.half N)) (i - Tree.half N) (by rw [List.length_drop, hL]) (by omega)
        rw [Tree.sides_right h hlt, Tree.prove_right (by omega) (by rw [hL]; exact hlt), hL, climb_snoc hs,
          ih (N - Tree.half N) (by omega) (L.drop (Tree.half N)) (i - Tree.half N) l (by rw [List.length_drop, hL]) (by rw [List.getElem?_drop]; rw [show Tree.half N + (i - Tree.half N) = i by omega]; exact hl), Tree.top_two (l := L) (by omega), hL]
        rfl
    · obtain rfl : N = 1 := by omega
      obtain rfl : i = 0 := by omega
      obtain ⟨a, rfl⟩ := List.length_eq_one_iff.1 hL
      rw [Tree.sides_small h, Tree.prove_small (by simp), Tree.top_one]
      simp only [List.getElem?_cons_zero, Option.some.injEq] at hl
      subst hl
      simp [Tree.climb]

theorem Tree.check_prove {L : List (List UInt8)} {i : Nat} {l : List UInt8} (hl : L[i]? = some l) : Tree.check (Tree.root L.length (Tree.top L)) L.length i l (Tree.prove L i) = true := by
  have hi := (List.getElem?_eq_some_iff.1 hl).1
  unfold Tree.check
  rw [Tree.climb_prove L.length L i l rfl hl, Tree.sides_prove L.length L i rfl hi]
  simp

theorem Tree.check_len {want : List UInt8} {n i : Nat} {l : List UInt8} {P : List (List UInt8)} (h : (Tree.sides n i).length ≠ P.length) : Tree.check want n i l P = false := by
  unfold Tree.check
  rw [decide_eq_false h, Bool.false_and]

theorem Tree.half_3 : Tree.half 3 = 2 := Tree.half_of (i := 1) (by decide) (by decide)
theorem Tree.half_2 : Tree.half 2 = 1 := Tree.half_of (i := 0) (by decide) (by decide)

/-- The chapter's example. -/
theorem Tree.ex_prove : Tree.prove [[97], [98], [99]] 2 = [Tree.node (Tree.leaf [97]) (Tree.leaf [98])] := by
  rw [Tree.prove_right (by decide) (by rw [show ([[97], [98], [99]] : List (List UInt8)).length = 3 from rfl, Tree.half_3]; decide)]
  rw [show ([[97], [98], [99]] : List (List UInt8)).length = 3 from rfl, Tree.half_3]
  rw [show (([[97], [98], [99]] : List (List UInt8)).drop 2) = [[99]] from rfl, show (([[97], [98], [99]] : List (List UInt8)).take 2) = [[97], [98]] from rfl, Tree.prove_small (by decide)]
  rw [Tree.top_two (by decide), show ([[97], [98]] : List (List UInt8)).length = 2 from rfl, Tree.half_2]
  rw [show (([[97], [98]] : List (List UInt8)).take 1) = [[97]] from rfl, show (([[97], [98]] : List (List UInt8)).drop 1) = [[98]] from rfl, Tree.top_one, Tree.top_one]
  rfl

theorem Tree.ex_top : Tree.top [[97], [98], [99]] = Tree.node (Tree.node (Tree.leaf [97]) (Tree.leaf [98])) (Tree.leaf [99]) := by
  rw [Tree.top_two (by decide), show ([[97], [98], [99]] : List (List UInt8)).length = 3 from rfl, Tree.half_3]
  rw [show (([[97], [98], [99]] : List (List UInt8)).drop 2) = [[99]] from rfl, show (([[97], [98], [99]] : List (List UInt8)).take 2) = [[97], [98]] from rfl, Tree.top_one]
  rw [Tree.top_two (by decide), show ([[97], [98]] : List (List UInt8)).length = 2 from rfl, Tree.half_2]
  rw [show (([[97], [98]] : List (List UInt8)).take 1) = [[97]] from rfl, show (([[97], [98]] : List (List UInt8)).drop 1) = [[98]] from rfl, Tree.top_one, Tree.top_one]

theorem Tree.ex_sides2 : Tree.sides 3 2 = [false] := by
  rw [Tree.sides_right (by decide) (by rw [Tree.half_3]; decide), Tree.half_3, Tree.sides_small (by decide)]
theorem Tree.ex_sides0 : Tree.sides 3 0 = [true, true] := by
  rw [Tree.sides_left (by decide) (by rw [Tree.half_3]; decide), Tree.half_3, Tree.sides_left (by decide) (by rw [Tree.half_2]; decide), Tree.half_2, Tree.sides_small (by decide)]

theorem Tree.num_3 : Wire.num 3 = [3] := Wire.num_small 3 (by decide)

set_option maxRecDepth 100000 in
theorem Tree.ex_apart : (Sha.of (3 :: ([3] ++ Sha.of (1 :: (Sha.of (1 :: (Sha.of [0, 97] ++ Sha.of [0, 98])) ++ Sha.of [0, 100])))) == Sha.of (3 :: ([3] ++ Sha.of (1 :: (Sha.of (1 :: (Sha.of [0, 97] ++ Sha.of [0, 98])) ++ Sha.of [0, 99]))))) = false := by decide +kernel

theorem Tree.ex_check : Tree.check (Tree.root 3 (Tree.top [[97], [98], [99]])) 3 2 [99] (Tree.prove [[97], [98], [99]] 2) = true :=
  Tree.check_prove (L := [[97], [98], [99]]) (i := 2) rfl

theorem Tree.ex_not : Tree.check (Tree.root 3 (Tree.top [[97], [98], [99]])) 3 2 [100] (Tree.prove [[97], [98], [99]] 2) = false := by
  unfold Tree.check
  rw [Tree.ex_sides2, Tree.ex_prove, Tree.ex_top]
  have : ∀ t x : List UInt8, Tree.climb t [false] [x] = Tree.node x t := fun t x => by simp [Tree.climb, Tree.step]
  rw [this]
  have h := Tree.ex_apart
  unfold Tree.root
  rw [Tree.num_3]
  rw [Bool.and_eq_false_iff]
  right
  exact h

/-- At a power of two all proofs are as long. -/
theorem Tree.sides_pow (d : Nat) : ∀ (i : Nat), i < 2 ^ d → (Tree.sides (2 ^ d) i).length = d := by
  induction d with
  | zero => intro i hi; rw [Tree.sides_small (by decide)]; rfl
  | succ d ih =>
    intro i hi
    have hp := Nat.two_pow_pos d
    have h2 : 2 ≤ 2 ^ (d + 1) := by rw [Nat.pow_succ]; omega
    have hh : Tree.half (2 ^ (d + 1)) = 2 ^ d := Tree.half_of (by rw [Nat.pow_succ]; omega) (by rw [Nat.pow_succ]; omega)
    by_cases hl : i < 2 ^ d
    · rw [Tree.sides_left h2 (by rw [hh]; exact hl), hh, List.length_cons, ih i hl]
    · rw [Tree.sides_right h2 (by rw [hh]; exact hl), hh, List.length_cons, show 2 ^ (d + 1) - 2 ^ d = 2 ^ d by rw [Nat.pow_succ]; omega, ih (i - 2 ^ d) (by rw [Nat.pow_succ] at hi; omega)]

theorem Tree.sides_zero {n i : Nat} (hi : i < n) : (Tree.sides n i).length = 0 ↔ n = 1 := by
  by_cases h : 2 ≤ n
  · constructor
    · intro h0
      by_cases hl : i < Tree.half n
      · rw [Tree.sides_left h hl] at h0; simp at h0
      · rw [Tree.sides_right h hl] at h0; simp at h0
    · omega
  · rw [Tree.sides_small h]
    constructor
    · intro _; omega
    · intro _; rfl

end Go.Proofs.YtgheacegjgaobaaDoor

/- The walk of the tree laws' awake: it returns true. -/
namespace Go.Proofs.YtgheacegjgaobaaDoor
open Go.RowKit
set_option linter.unusedSimpArgs false
set_option linter.unusedVariables false

theorem wpList_append_ran {P : Program} {ops : Array Oper} {rest : List Oper} {o : Oper} {a : Act} {w : World} {Q : Exit → Act → World → Prop} (hgd : Region.wanted o (yielded ops a.tmps) = true) (x y : Operand) (t : TypeId) (ho : o.op = .call { callee := .builtin .append, args := #[x, y], argTypes := #[t, t] })
    (vx vy : Value) (hx : a.eval x = vx) (hy : a.eval y = vy) {v : Value} {w' : World} (hr : (Builtin.append_ #[t, t] o.type #[vx, vy]).run P w = .ok v w')
    (h : wpList P ops Q rest (a.put o.dst v) w') : wpList P ops Q (o :: rest) a w :=
  wpList_step fun _ hK => by
    rw [if_pos hgd]
    exact Lib.wp_append_run_sl w x y t ho vx vy hx hy hr (hK _ _ h)

set_option maxRecDepth 100000 in
set_option maxHeartbeats 4000000 in
theorem awake_any (w : World) (hL : Laid w) :
    Calls Tryd.prog 28 #[] w fun e w' => e = .returned (.bool true) ∧ Below w.heap.size w w' := by
  obtain ⟨W1, hW1⟩ : ∃ W1, W1 = w.alloc (.cells #[.string ⟨#[97]⟩, .string ⟨#[98]⟩, .string ⟨#[99]⟩] 9) := ⟨_, rfl⟩
  have x1 : W1.heap[w.heap.size]? = some (.cells #[.string ⟨#[97]⟩, .string ⟨#[98]⟩, .string ⟨#[99]⟩] 9 (0, 0)) := by rw [hW1]; exact heap_alloc_new w _
  have b1 : Below w.heap.size w W1 := by rw [hW1]; exact (Below.refl _ _).alloc (Nat.le_refl _) _
  have s1 : StrsAt W1 (some ⟨w.heap.size, 0, none⟩) 3 3 [[97], [98], [99]] := by
    refine ⟨rfl, Nat.le_refl _, by decide, fun _ => ⟨_, _, rfl, lt_of_block x1, fun i l hl => ?_⟩⟩
    intro j v hv
    match j, hv with
    | 0, hv =>
      obtain rfl := Option.some.inj hv
      match i, hl with
      | 0, hl => obtain rfl := Option.some.inj hl; simp [World.cell?, x1]; rfl
      | 1, hl => obtain rfl := Option.some.inj hl; simp [World.cell?, x1]; rfl
      | 2, hl => obtain rfl := Option.some.inj hl; simp [World.cell?, x1]; rfl
  have S1 := Lib.hid s1; clear s1 x1
  have HL1 := Lib.hid (hL.below b1); clear hL
  have HW1 := Lib.hid hW1; clear hW1
  have hp := treeProve_any W1 _ 3 3 2 _ S1.out (by decide) (by decide) (by simp) HL1.out
  rw [Tree.ex_prove] at hp
  have HP := Lib.hid hp; clear hp
  obtain ⟨N, hN⟩ : ∃ N, N = Tree.node (Tree.leaf [97]) (Tree.leaf [98]) := ⟨_, rfl⟩
  have hNl : N.length = 32 := by rw [hN]; exact Tree.node_len _ _
  have hck := Tree.ex_check
  have hnot := Tree.ex_not
  have htop := Tree.ex_top
  rw [Tree.ex_prove] at hck hnot
  rw [← hN] at HP hck hnot htop
  have HCK := Lib.hid hck; clear hck
  have HNOT := Lib.hid hnot; clear hnot
  have HTOP := Lib.hid htop; clear htop
  have HN := Lib.hid hN; clear hN
  have HNL := Lib.hid hNl; clear hNl
  have hle : ∀ l ∈ [[(97 : UInt8)], [98], [99]], l.length ≤ 100000 := by simp
  have HLE := Lib.hid hle; clear hle
  go_enter Tryd.func28, Tryd.ntmps28
  go_wp2_with fail
  rw [← HW1.out]
  refine HP.out.mono ?_
  rintro e w2 ⟨q, c, rfl, ho, b2⟩
  have P2 := Lib.hid (HashesAt.of_owns (d := [N]) ho (by intro p hp; obtain rfl := List.mem_singleton.1 hp; exact HNL.out)); clear ho
  have hq1 : ([N] : List (List UInt8)).length = 1 := rfl
  have B2 := b1.trans (b2.mono b1.size)
  have hr := treeRoot_any w2 _ 3 3 _ (S1.out.below (Nat.le_refl _) b2) (by decide) HLE.out (HL1.out.below b2)
  have HR := Lib.hid hr; clear hr
  obtain ⟨R, hR⟩ : ∃ R, R = Tree.root 3 (Tree.top [[97], [98], [99]]) := ⟨_, rfl⟩
  have hRl : R.length = 32 := by rw [hR]; exact Tree.root_len _ _
  rw [← hR] at HR HCK HNOT
  have HRL := Lib.hid hRl; clear hRl
  have HRE := Lib.hid hR; clear hR
  go_wp2_with fail
  refine HR.out.mono ?_
  rintro e w3 ⟨rfl, b3⟩
  have B3 := B2.trans (b3.mono B2.size)
  have b13 : Below W1.heap.size W1 w3 := b2.trans (b3.mono b2.size)
  have hc := treeCheck_any w3 R HRL.out 3 2 (by decide) (by decide) [99] (by decide) q 1 c [N] (P2.out.below (Nat.le_refl _) b3) (HL1.out.below b13)
  rw [HCK.out] at hc
  have HC := Lib.hid hc; clear hc
  go_wp2_with fail
  refine HC.out.mono ?_
  rintro e w4 ⟨rfl, b4⟩
  have B4 := B3.trans (b4.mono B3.size)
  have b14 : Below W1.heap.size W1 w4 := b13.trans (b4.mono b13.size)
  have hr := treeRoot_any w4 _ 3 3 _ (S1.out.below (Nat.le_refl _) b14) (by decide) HLE.out (HL1.out.below b14)
  rw [← HRE.out] at hr
  have HR2 := Lib.hid hr; clear hr
  go_wp2_with fail
  refine HR2.out.mono ?_
  rintro e w5 ⟨rfl, b5⟩
  have B5 := B4.trans (b5.mono B4.size)
  have b15 : Below W1.heap.size W1 w5 := b14.trans (b5.mono b14.size)
  have hc := treeCheck_any w5 R HRL.out 3 2 (by decide) (by decide) [100] (by decide) q 1 c [N] (P2.out.below (Nat.le_refl _) (b3.trans ((b4.trans (b5.mono b4.size)).mono b3.size))) (HL1.out.below b15)
  rw [HNOT.out] at hc
  have HC2 := Lib.hid hc; clear hc
  go_wp2_with fail
  refine HC2.out.mono ?_
  rintro e w6 ⟨rfl, b6⟩
  have B6 := B5.trans (b6.mono B5.size)
  have b16 : Below W1.heap.size W1 w6 := b15.trans (b6.mono b15.size)
  have hh := treeHalf_nat w6 3 (by decide)
  rw [Tree.half_3] at hh
  have HH := Lib.hid hh; clear hh
  go_wp2_with fail
  refine HH.out.mono ?_
  rintro e w' ⟨rfl, rfl⟩
  have hd := treeDeep_any w6 3 0 (by decide) (by decide)
  rw [Tree.ex_sides0] at hd
  have HD := Lib.hid hd; clear hd
  go_wp2_with fail
  refine HD.out.mono ?_
  rintro e w7 ⟨rfl, b7⟩
  have B7 := B6.trans (b7.mono B6.size)
  have b17 : Below W1.heap.size W1 w7 := b16.trans (b7.mono b16.size)
  have hl2 : ([true, true] : List Bool).length = 2 := rfl
  have ht := treeTop_any 3 w7 _ 3 3 _ rfl (S1.out.below (Nat.le_refl _) b17) (by decide) HLE.out (HL1.out.below b17)
  rw [HTOP.out] at ht
  have HT := Lib.hid ht; clear ht
  go_wp2_with fail
  refine HT.out.mono ?_
  rintro e w8 ⟨rfl, b8⟩
  have B8 := B7.trans (b8.mono B7.size)
  have b18 : Below W1.heap.size W1 w8 := b17.trans (b8.mono b17.size)
  have h := treeLeaf_any w8 [97] (by decide) (HL1.out.below b18)
  have HA := Lib.hid h; clear h
  go_wp2_with fail
  refine HA.out.mono ?_
  rintro e w9 ⟨rfl, b9⟩
  have B9 := B8.trans (b9.mono B8.size)
  have b19 : Below W1.heap.size W1 w9 := b18.trans (b9.mono b18.size)
  have h := treeLeaf_any w9 [98] (by decide) (HL1.out.below b19)
  have HB := Lib.hid h; clear h
  go_wp2_with fail
  refine HB.out.mono ?_
  rintro e v1 ⟨rfl, d1⟩
  have D1 := B9.trans (d1.mono B9.size)
  have e1 : Below W1.heap.size W1 v1 := b19.trans (d1.mono b19.size)
  have h := treeNode_any v1 (Tree.leaf [97]) (Tree.leaf [98]) (Tree.leaf_len _) (Tree.leaf_len _) (HL1.out.below e1)
  rw [← HN.out] at h
  have HC3 := Lib.hid h; clear h
  go_wp2_with fail
  refine HC3.out.mono ?_
  rintro e v2 ⟨rfl, d2⟩
  have D2 := D1.trans (d2.mono D1.size)
  have e2 : Below W1.heap.size W1 v2 := e1.trans (d2.mono e1.size)
  have h := treeLeaf_any v2 [99] (by decide) (HL1.out.below e2)
  have HD3 := Lib.hid h; clear h
  go_wp2_with fail
  refine HD3.out.mono ?_
  rintro e v3 ⟨rfl, d3⟩
  have D3 := D2.trans (d3.mono D2.size)
  have e3 : Below W1.heap.size W1 v3 := e2.trans (d3.mono e2.size)
  have h := treeNode_any v3 N (Tree.leaf [99]) HNL.out (Tree.leaf_len _) (HL1.out.below e3)
  have HE3 := Lib.hid h; clear h
  have hnn := Tree.node_len N (Tree.leaf [99])
  go_wp2_with fail
  refine HE3.out.mono ?_
  rintro e v4 ⟨rfl, d4⟩
  have D4 := D3.trans (d4.mono D3.size)
  go_wp2_with ((with_reducible show wpList _ _ _ (⟨some 46, _, _, _, _, _⟩ :: _) _ _); refine wpList_eql_hash (op := ⟨some 46, _, _, _, _, _⟩) (by kernel_rfl) _ _ rfl (Tree.node N (Tree.leaf [99])) (Tree.node N (Tree.leaf [99])) hnn hnn rfl rfl ?_; rw [beq_self_eq_true])
  go_ret
  exact ⟨rfl, D4⟩

end Go.Proofs.YtgheacegjgaobaaDoor
