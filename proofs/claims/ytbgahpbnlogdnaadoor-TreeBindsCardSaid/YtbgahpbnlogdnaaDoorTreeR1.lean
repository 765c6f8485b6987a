/- The walks of the reference's half, leaf, node, sum, and their kin. -/
import Derived.Test.YtbgahpbnlogdnaaDoorTree6
import Derived.Test.YtbgahpbnlogdnaaDoorRefOf
namespace Go.Proofs.YtbgahpbnlogdnaaDoor
open Go.RowKit
set_option linter.unusedSimpArgs false
set_option linter.unusedVariables false

set_option maxRecDepth 100000 in
theorem refHalfOf_any (w : World) (n : Nat) (h2 : 2 ≤ n) (hn : n ≤ 4611686018427387904) : Calls Tryd.prog 39 #[.int .i64 (n : Int)] w fun e w' => w = w' ∧ e = .returned (.int .i64 (Tree.half n : Int)) := by
  go_enter Tryd.func39, Tryd.ntmps39
  go_wp2_with fail
  go_loopw [3] (fun v wr => Hid (w = wr) ∧ ∃ k i : Nat, v = .int .i64 (k : Int) ∧ Hid (k = 2 ^ i) ∧ k < n ∧ 1 ≤ k) (fun v _ => n - (intOf v).toNat)
  case atStart => exact ⟨Lib.hid rfl, 1, 0, rfl, Lib.hid rfl, by omega, by omega⟩
  case round =>
    obtain ⟨hw, k, i, rfl, hk, hkn, hk1⟩ := hrel
    by_cases hlt : 2 * k < n
    · have ht2 : decide (2 * (k : Int) < (n : Int)) = true := decide_eq_true (by omega)
      go_wp2_with fail
      go_roundw
      case rel => exact ⟨hw, 2 * k, i + 1, by go_num, Lib.hid (by rw [hk.out, Nat.pow_succ]; omega), hlt, by omega⟩
      case measure => simp [intOf]; omega
    · have ht2 : decide (2 * (k : Int) < (n : Int)) = false := decide_eq_false (by omega)
      have hh := Tree.half_of (n := n) (i := i) (by rw [← hk.out]; exact hkn) (by rw [← hk.out]; omega)
      go_wp2_with fail
      go_ret
      exact ⟨hw.out, by rw [hh, hk.out]; rfl⟩

set_option maxRecDepth 100000 in
theorem refHalf_nat (w : World) (n : Nat) (hn : n ≤ 4611686018427387904) : Calls Tryd.prog 23 #[.int .i64 (n : Int)] w fun e w' => w = w' ∧ e = .returned (.int .i64 (Tree.half n : Int)) := by
  by_cases h : n < 2
  · have ht : decide ((n : Int) < 2) = true := decide_eq_true (by omega)
    have hz := Tree.half_zero h
    go_enter Tryd.func23, Tryd.ntmps23
    go_wp2_with fail
    go_ret
    exact ⟨rfl, by rw [hz]; rfl⟩
  · have ht : decide ((n : Int) < 2) = false := decide_eq_false (by omega)
    have hc := refHalfOf_any w n (by omega) hn
    have HC := Lib.hid hc; clear hc
    go_enter Tryd.func23, Tryd.ntmps23
    go_wp2_with fail
    refine HC.out.mono ?_
    rintro e w' ⟨rfl, rfl⟩
    go_wp2_with fail
    go_ret
    exact ⟨rfl, rfl⟩

set_option maxRecDepth 100000 in
theorem refHalf_neg (w : World) (n : Int) (hn : n < 2) (h0 : -9223372036854775808 ≤ n) : Calls Tryd.prog 23 #[.int .i64 n] w fun e w' => w = w' ∧ e = .returned (.int .i64 0) := by
  have ht : decide (n < 2) = true := decide_eq_true hn
  go_enter Tryd.func23, Tryd.ntmps23
  go_wp2_with fail
  go_ret
  exact ⟨rfl, rfl⟩

set_option maxRecDepth 100000 in
theorem refLeafOf_any (w : World) (l : List UInt8) (hl : l.length ≤ 100000) : Calls Tryd.prog 37 #[.string (strOf l)] w fun e w' => e = .returned (.string (strOf (Tree.leaf l))) ∧ Below w.heap.size w w' := by
  have hadd : (⟨#[0]⟩ : ByteArray) ++ strOf l = strOf (0 :: l) := add_str [0] l
  have hst := strOf_size l
  have hs0 : (⟨#[0]⟩ : ByteArray).size = 1 := rfl
  have hc := refOf_any w (0 :: l) (by simp; omega)
  have HC := Lib.hid hc; clear hc
  go_enter Tryd.func37, Tryd.ntmps37
  go_wp2_with fail
  refine HC.out.mono ?_
  rintro e w' ⟨rfl, b⟩
  go_wp2_with fail
  go_ret
  exact ⟨rfl, b⟩

set_option maxRecDepth 100000 in
theorem refNodeOf_any (w : World) (a b : List UInt8) (ha : a.length ≤ 32) (hb : b.length ≤ 32) : Calls Tryd.prog 38 #[.string (strOf a), .string (strOf b)] w fun e w' => e = .returned (.string (strOf (Tree.node a b))) ∧ Below w.heap.size w w' := by
  have hadd : (⟨#[1]⟩ : ByteArray) ++ strOf a = strOf (1 :: a) := add_str [1] a
  have hadd2 : strOf (1 :: a) ++ strOf b = strOf (1 :: (a ++ b)) := add_str (1 :: a) b
  have hst := strOf_size a
  have hst1 : (strOf (1 :: a)).size = a.length + 1 := strOf_size _
  have hstb := strOf_size b
  have hs0 : (⟨#[1]⟩ : ByteArray).size = 1 := rfl
  have hc := refOf_any w (1 :: (a ++ b)) (by simp; omega)
  have HC := Lib.hid hc; clear hc
  go_enter Tryd.func38, Tryd.ntmps38
  go_wp2_with fail
  refine HC.out.mono ?_
  rintro e w' ⟨rfl, b⟩
  go_wp2_with fail
  go_ret
  exact ⟨rfl, b⟩

set_option maxRecDepth 100000 in
set_option maxHeartbeats 2000000 in
theorem refSum_any (w : World) (S : List UInt8) (hS : S.length = 32) : Calls Tryd.prog 33 #[.string (strOf S)] w fun e w' => e = .returned (.agg (byteCells S).toArray) ∧ Below w.heap.size w w' := by
  obtain ⟨W0, hW0⟩ : ∃ W0, W0 = w.alloc (.cells zero32 26) := ⟨_, rfl⟩
  have x0 : W0.heap[w.heap.size]? = some (.cells zero32 26 (0, 0)) := by rw [hW0]; exact heap_alloc_new w _
  have b0 : Below w.heap.size w W0 := by rw [hW0]; exact (Below.refl _ _).alloc (Nat.le_refl _) _
  have s0 : W0.heap.size = w.heap.size + 1 := by rw [hW0]; simp
  obtain ⟨W1, hW1⟩ : ∃ W1, W1 = hset (W0.alloc (.cells zero32 26)) W0.heap.size (List.replicate 32 0) := ⟨_, rfl⟩
  have x1 : W1.heap[W0.heap.size]? = some (.cells (byteCells (List.replicate 32 0)).toArray 26 (0, 0)) := by rw [hW1]; exact hset_heap _ (heap_alloc_new W0 _)
  have b1 : Below W0.heap.size W0 W1 := by rw [hW1]; exact hset_below _ ((Below.refl _ _).alloc (Nat.le_refl _) _) (Nat.le_refl _)
  have x01 := (b1.block _ (by omega)).trans x0
  have B1 := b0.trans (b1.mono b0.size)
  rw [s0] at x1 hW1
  have hst := strOf_size S
  have hrl : (List.replicate 32 (0 : UInt8)).length = 32 := List.length_replicate ..
  have HRL := Lib.hid hrl; clear hrl
  have HS := Lib.hid hS
  have X1 := Lib.hid x1; clear x1
  have X0 := Lib.hid x01; clear x01 x0
  have hW1' : W1 = hset ((w.alloc (.cells zero32 26)).alloc (.cells zero32 26)) (w.heap.size + 1) (List.replicate 32 0) := by rw [hW1, hW0]
  have HW1 := Lib.hid hW1'; clear hW1' hW1 hW0
  have xn : ((w.alloc (.cells zero32 26)).alloc (.cells zero32 26)).heap[w.heap.size + 1]? = some (.cells zero32 26 (0, 0)) := by
    have := heap_alloc_new (w.alloc (.cells zero32 26)) (.cells zero32 26)
    simpa using this
  have XN := Lib.hid xn; clear xn b0 b1 s0
  go_enter Tryd.func33, Tryd.ntmps33
  go_wp2_with (first | ((with_reducible show wpList _ _ _ (⟨some 5, _, _, _, _, _⟩ :: _) _ _); refine wpList_zero_hash (op := ⟨some 5, _, _, _, _, _⟩) (by kernel_rfl) rfl ?_) | ((with_reducible show wpList _ _ _ (⟨none, .store 26 (.tmp 3) (.tmp 5), _, _, _, _⟩ :: _) _ _); change wpList _ _ _ _ _ ((w.alloc (.cells zero32 26)).alloc (.cells zero32 26)); refine wpList_put_hash (o := ⟨none, .store _ _ _, _, _, _, _⟩) rfl _ _ rfl (w.heap.size + 1) rfl (List.replicate 32 0) HRL.out rfl _ _ XN.out zero32_size ?_; rw [← HW1.out]))
  go_loopw [4] (fun i wr => ∃ t : Nat, t ≤ 32 ∧ i = .int .i64 (t : Int) ∧ Hid (wr.heap[w.heap.size + 1]? = some (.cells (byteCells (S.take t ++ List.replicate (32 - t) 0)).toArray 26 (0, 0))) ∧ Hid (wr.heap[w.heap.size]? = some (.cells zero32 26 (0, 0))) ∧ Below w.heap.size w wr) (fun i _ => 32 - (intOf i).toNat)
  case atStart => exact ⟨0, by omega, rfl, X1, X0, B1⟩
  case round =>
    clear X1 X0 B1 HW1 XN
    obtain ⟨t, ht, rfl, x1, x2, Br⟩ := hrel
    by_cases hlt : t < 32
    · have ht1 : decide ((t : Int) < 32) = true := decide_eq_true (by omega)
      have ht2 : decide ((t : Int) < (S.length : Int)) = true := decide_eq_true (by omega)
      have ht3 : decide (t < S.length) = true := decide_eq_true (by omega)
      obtain ⟨x, hx⟩ : ∃ x, S[t]? = some x := ⟨_, List.getElem?_eq_getElem (by rw [HS.out]; exact hlt)⟩
      have hsx : (strOf S)[t]'(by rw [hst]; omega) = x := by
        have := (List.getElem?_eq_some_iff.1 hx).2
        rw [← this]; simp [strOf, ByteArray.getElem_eq_getElem_data]
      have hz : (S.take t ++ List.replicate (32 - t) 0)[t]? = some 0 := by
        rw [List.getElem?_append_right (by rw [List.length_take]; omega), List.length_take, HS.out, List.getElem?_replicate]
        rw [if_pos (by omega)]
      have hc2 : wr.cell? ⟨w.heap.size + 1, t, none⟩ = some (.int .u8 0) := by
        have := range_row x1.out t _ (byteCells_get hz)
        rwa [Nat.zero_add] at this
      have hf := wfree x1.out t
      have HX := Lib.hid hx; clear hx hz
      go_wp2_with fail
      go_roundw
      case rel =>
        refine ⟨t + 1, by omega, by go_num, Lib.hid ?_, Lib.hid ?_, Br.setCell (p := ⟨w.heap.size + 1, t, none⟩) (by simp only; omega) _⟩
        · rw [heap_setCell_same _ _ _ _ _ _ x1.out, byteCells_set, take_set S t x HS.out HX.out]
        · rw [heap_setCell_other _ _ _ _ (by simp only; omega)]; exact x2.out
      case measure => simp [intOf]; omega
    · obtain rfl : t = 32 := by omega
      have y1 : wr.heap[w.heap.size + 1]? = some (.cells (byteCells S).toArray 26 (0, 0)) := by
        rw [x1.out, List.take_of_length_le (by rw [HS.out]; exact Nat.le_refl _), Nat.sub_self, List.replicate_zero, List.append_nil]
      have Y1 := Lib.hid y1; clear y1 x1
      go_wp2_with (first | ((with_reducible show wpList _ _ _ (⟨some 21, _, _, _, _, _⟩ :: _) _ _); refine wpList_load_hash (op := ⟨some 21, _, _, _, _, _⟩) (by kernel_rfl) _ rfl (w.heap.size + 1) rfl S HS.out _ _ Y1.out ?_) | ((with_reducible show wpList _ _ _ (⟨none, .store 26 (.tmp 2) (.tmp 21), _, _, _, _⟩ :: _) _ _); refine wpList_put_hash (o := ⟨none, .store _ _ _, _, _, _, _⟩) rfl _ _ rfl w.heap.size rfl S HS.out rfl _ _ x2.out zero32_size ?_))
      refine bodyPost_ret (results_hash rfl _ _ _ _ _ _ rfl HS.out (hset_heap _ x2.out)) rfl ⟨rfl, hset_below _ Br (Nat.le_refl _)⟩

end Go.Proofs.YtbgahpbnlogdnaaDoor
