/- Tree1, Tree2, Tree3, Tree4, Tree5, Tree6, in one text. -/
import Derived.Test.YtaihojahccplcaaDoorKG3a
import Derived.Test.YtaihojahccplcaaDoorKG0a
import Derived.Test.YtaihojahccplcaaDoorKG0b
import Derived.Test.YtaihojahccplcaaDoorKRefOf0
import Derived.Laws.EntriesVeiled
/- The walks of tree.Leaf, Node, Half. -/
namespace Go.Proofs.YtaihojahccplcaaDoor
open Go.RowKit
set_option linter.unusedSimpArgs false
set_option linter.unusedVariables false

set_option maxRecDepth 100000 in
set_option maxHeartbeats 2000000 in
theorem treeLeaf_any (w : World) (l : List UInt8) (hl : l.length ≤ 100000) (hL : Laid w) :
    Calls Tryd.prog 33 #[.string (strOf l)] w fun e w' => e = .returned (.agg (byteCells (Tree.leaf l)).toArray) ∧ Below w.heap.size w w' := by
  obtain ⟨W0, hW0⟩ : ∃ W0, W0 = w.alloc (.cells zero32 27) := ⟨_, rfl⟩
  have x0 : W0.heap[w.heap.size]? = some (.cells zero32 27 (0, 0)) := by rw [hW0]; exact heap_alloc_new w _
  have b0 : Below w.heap.size w W0 := by rw [hW0]; exact (Below.refl _ _).alloc (Nat.le_refl _) _
  have s0 : W0.heap.size = w.heap.size + 1 := by rw [hW0]; simp
  obtain ⟨cap, W, hcv, bW, hp⟩ := part_two W0 0 l (by omega) Tryd.under_str Tryd.under_u8s
  obtain ⟨W2, hW2⟩ : ∃ W2, W2 = W.alloc (.cells #[.slice (some ⟨w.heap.size + 1, 0, none⟩) 1 1, .slice (some ⟨w.heap.size + 1 + 1, 0, none⟩) l.length cap] 82) := ⟨_, rfl⟩
  rw [s0] at hp hcv
  rw [← hW2] at hp
  have b2 : Below W0.heap.size W0 W2 := by rw [hW2]; exact bW.alloc bW.size _
  have b02 := b0.trans (b2.mono b0.size)
  have hof := of_any W2 _ _ hp (by simp) (by simp; omega) (hL.below b02)
  have hfl : [[0], l].flatten = 0 :: l := by simp
  rw [hfl, show Sha.of (0 :: l) = Tree.leaf l from rfl] at hof
  have x2 := (b2.block w.heap.size (by omega)).trans x0
  have HOF := Lib.hid hof; clear hof hp hL
  have HW2 := Lib.hid hW2; clear hW2
  have X2 := Lib.hid x2; clear x2 x0
  have hsl := Tree.leaf_len l
  have HSL := Lib.hid hsl; clear hsl
  have HW0 := Lib.hid hW0; clear hW0
  have hcv' : (convert 9 82 (.string (strOf l))).run Tryd.prog (W0.alloc (.cells #[.int .u8 0] 5)) = .ok (.slice (some ⟨w.heap.size + 1 + 1, 0, none⟩) l.length cap) W := hcv
  clear hcv
  go_enter Tryd.func33, Tryd.ntmps33
  go_wp2_with ((with_reducible show wpList _ _ _ (⟨some 3, _, _, _, _, _⟩ :: _) _ _); change wpList _ _ _ _ _ (w.alloc (.cells zero32 27)); rw [← HW0.out])
  rw [← HW2.out]
  refine HOF.out.mono ?_
  rintro e w3 ⟨rfl, b3⟩
  have X3 := (b3.block _ (lt_of_block X2.out)).trans X2.out
  have B3 := b02.trans (b3.mono b02.size)
  go_wp2_with ((with_reducible show wpList _ _ _ (⟨none, .store 27 (.tmp 2) (.tmp 7), _, _, _, _⟩ :: _) _ _); refine wpList_put_hash (o := ⟨none, .store _ _ _, _, _, _, _⟩) rfl _ _ rfl w.heap.size rfl (Tree.leaf l) HSL.out rfl _ _ X3 zero32_size ?_)
  refine bodyPost_ret (results_hash rfl _ _ _ _ _ _ rfl HSL.out (hset_heap _ X3)) rfl ⟨rfl, hset_below _ B3 (Nat.le_refl _)⟩

/-- What the region's operations leave. -/
def nodeV (B : Nat) (a b : List UInt8) (i : Nat) (w : World) (v : Value) : Prop :=
  match i with
  | 0 => Lib.HoldsBytes w v ([1])
  | 1 => v = .slice (some ⟨B, 0, none⟩) 32 32
  | 2 => v = .slice (some ⟨B + 1, 0, none⟩) 32 32
  | 3 => PartsV w v ([[1], a, b])
  | 4 => v = .agg (byteCells (Tree.node a b)).toArray
  | _ => True

theorem nodeV_mono (B : Nat) (a b : List UInt8) (j : Nat) (w w' : World) (v : Value) (hb : Below w.heap.size w w') (h : nodeV B a b j w v) : nodeV B a b j w' v := by
  match j, h with
  | 0, h => exact holds_below h hb
  | 1, h => exact h
  | 2, h => exact h
  | 3, h => exact PartsV.below h hb
  | 4, h => exact h
  | _ + 5, h => exact trivial

set_option maxRecDepth 100000 in
set_option maxHeartbeats 2000000 in
theorem treeNode_any (w : World) (a b : List UInt8) (ha : a.length = 32) (hb : b.length = 32) (hL : Laid w) :
    Calls Tryd.prog 34 #[.agg (byteCells a).toArray, .agg (byteCells b).toArray] w fun e w' => e = .returned (.agg (byteCells (Tree.node a b)).toArray) ∧ Below w.heap.size w w' := by
  obtain ⟨W0, hW0⟩ : ∃ W0, W0 = ((w.alloc (.cells (byteCells a).toArray 27)).alloc (.cells (byteCells b).toArray 27)).alloc (.cells zero32 27) := ⟨_, rfl⟩
  have x0 : W0.heap[w.heap.size]? = some (.cells (byteCells a).toArray 27 (0, 0)) := by
    rw [hW0, Below.heap_alloc _ _ _ (by simp; omega), Below.heap_alloc _ _ _ (by simp)]; exact heap_alloc_new w _
  have x1 : W0.heap[w.heap.size + 1]? = some (.cells (byteCells b).toArray 27 (0, 0)) := by
    rw [hW0, Below.heap_alloc _ _ _ (by simp)]; have := heap_alloc_new (w.alloc (.cells (byteCells a).toArray 27)) (.cells (byteCells b).toArray 27); simpa using this
  have x2 : W0.heap[w.heap.size + 2]? = some (.cells zero32 27 (0, 0)) := by
    rw [hW0]; have := heap_alloc_new ((w.alloc (.cells (byteCells a).toArray 27)).alloc (.cells (byteCells b).toArray 27)) (.cells zero32 27); simpa using this
  have b0 : Below w.heap.size w W0 := by rw [hW0]; exact (((Below.refl _ _).alloc (Nat.le_refl _) _).alloc (by simp) _).alloc (by simp; omega) _
  have X0 := Lib.hid x0; clear x0
  have X1 := Lib.hid x1; clear x1
  have X2 := Lib.hid x2; clear x2
  have HA := Lib.hid ha; clear ha
  have HB := Lib.hid hb; clear hb
  have HL := Lib.hid (hL.below b0); clear hL
  have HW0 := Lib.hid hW0; clear hW0
  have hsl := Tree.node_len a b
  go_enter Tryd.func34, Tryd.ntmps34
  go_wp2_with fail
  change Code.wp _ _ _ _ (((w.alloc (.cells (byteCells a).toArray 27)).alloc (.cells (byteCells b).toArray 27)).alloc (.cells zero32 27))
  rw [← HW0.out]
  refine wp_region_rel_last [[], [], [], [0, 1, 2], [3], [4]] (nodeV w.heap.size a b) 10 5 _ (by kernel_rfl) (by kernel_rfl) (by kernel_rfl) (by kernel_rfl) rfl rfl (nodeV_mono w.heap.size a b) ?_ ?_
  · intro i o him hi w2 b2 vs hv
    have hL2 := HL.out.below b2
    match i, him, hi with
    | 0, _, hi =>
      obtain rfl := Option.some.inj hi
      simp only [relF, List.getD_cons_zero, List.getD_cons_succ, List.foldl_cons, List.foldl_nil, dstAt, List.getElem?_cons_zero, List.getElem?_cons_succ, Option.bind_some]
      go_wp2_with fail
      exact ⟨rfl, (Below.refl _ _).alloc (Nat.le_refl _) _, rfl, holds_one w2 _ 1⟩
    | 1, _, hi =>
      obtain rfl := Option.some.inj hi
      simp only [relF, List.getD_cons_zero, List.getD_cons_succ, List.foldl_cons, List.foldl_nil, dstAt, List.getElem?_cons_zero, List.getElem?_cons_succ, Option.bind_some]
      go_wp2_with fail
      exact ⟨rfl, Below.refl _ _, rfl, rfl⟩
    | 2, _, hi =>
      obtain rfl := Option.some.inj hi
      simp only [relF, List.getD_cons_zero, List.getD_cons_succ, List.foldl_cons, List.foldl_nil, dstAt, List.getElem?_cons_zero, List.getElem?_cons_succ, Option.bind_some]
      go_wp2_with fail
      exact ⟨rfl, Below.refl _ _, rfl, rfl⟩
    | 3, _, hi =>
      obtain rfl := Option.some.inj hi
      have k0 : Lib.HoldsBytes w2 (vs 0) ([1]) := hv 0 (by decide)
      have h1 : vs 1 = _ := hv 1 (by decide)
      have h2 : vs 2 = _ := hv 2 (by decide)
      have hp := parts_new w2 82 [vs 0, vs 1, vs 2] [[1], a, b] 3 rfl rfl (parts_three k0 (by rw [h1]; exact holds_hash HA.out ((b2.block _ (lt_of_block X0.out)).trans X0.out)) (by rw [h2]; exact holds_hash HB.out ((b2.block _ (lt_of_block X1.out)).trans X1.out)))
      rw [h1, h2] at hp
      obtain ⟨p0, c0, e0, _⟩ := k0
      rw [e0] at hp
      simp only [relF, List.getD_cons_zero, List.getD_cons_succ, List.foldl_cons, List.foldl_nil, dstAt, List.getElem?_cons_zero, List.getElem?_cons_succ, Option.bind_some]
      go_frame
      rw [h1, h2, e0]
      go_wp2_with fail
      exact ⟨rfl, (Below.refl _ _).alloc (Nat.le_refl _) _, rfl, hp⟩
    | 4, _, hi =>
      obtain rfl := Option.some.inj hi
      have k3 : PartsV w2 (vs 3) ([[1], a, b]) := hv 3 (by decide)
      have hof := of_any w2 (vs 3) [[1], a, b] k3 (by simp) (by simp; have := HA.out; have := HB.out; omega) hL2
      rw [show [[1], a, b].flatten = 1 :: (a ++ b) by simp] at hof
      simp only [relF, List.getD_cons_zero, List.getD_cons_succ, List.foldl_cons, List.foldl_nil, dstAt, List.getElem?_cons_zero, List.getElem?_cons_succ, Option.bind_some]
      go_frame
      go_wp2_with fail
      refine (hof).mono ?_
      rintro e w3 ⟨rfl, b3⟩
      go_wp2_with fail
      exact ⟨rfl, b3, rfl, rfl⟩
    | n + 5, him, _ => exact absurd him (by omega)
  · intro w2 b2 vs hv
    have hL2 := HL.out.below b2
    have h4 : vs 4 = _ := hv 4 (by decide)
    rw [show List.range 5 = [0, 1, 2, 3, 4] from rfl]
    simp only [relF, List.getD_cons_zero, List.getD_cons_succ, List.foldl_cons, List.foldl_nil, dstAt, List.getElem?_cons_zero, List.getElem?_cons_succ, Option.bind_some]
    go_frame
    rw [h4]
    have X4 := (b2.block _ (lt_of_block X2.out)).trans X2.out
    have B4 := b0.trans (b2.mono b0.size)
    go_wp2_with ((with_reducible show wpList _ _ _ (⟨none, .store 27 (.tmp 4) (.tmp 9), _, _, _, _⟩ :: _) _ _); refine wpList_put_hash (o := ⟨none, .store _ _ _, _, _, _, _⟩) rfl _ _ rfl (w.heap.size + 2) rfl (Tree.node a b) hsl rfl _ _ X4 zero32_size ?_)
    refine bodyPost_ret (results_hash rfl _ _ _ _ _ _ rfl hsl (hset_heap _ X4)) rfl ⟨rfl, hset_below _ B4 (by omega)⟩

/-- tree.Half. -/
theorem treeHalf_nat (w : World) (n : Nat) (hn : n ≤ 4611686018427387904) : Calls Tryd.prog 26 #[.int .i64 (n : Int)] w fun e w' => w = w' ∧ e = .returned (.int .i64 (Tree.half n : Int)) := by
  by_cases h : n < 2
  · have ht : decide ((n : Int) < 2) = true := decide_eq_true (by omega)
    have hz := Tree.half_zero h
    go_enter Tryd.func26, Tryd.ntmps26
    go_wp2_with fail
    go_ret
    exact ⟨rfl, by rw [hz]; rfl⟩
  · have ht : decide ((n : Int) < 2) = false := decide_eq_false (by omega)
    go_enter Tryd.func26, Tryd.ntmps26
    go_wp2_with fail
    go_loopw [3] (fun v wr => Hid (w = wr) ∧ ∃ k i : Nat, v = .int .i64 (k : Int) ∧ Hid (k = 2 ^ i) ∧ k < n ∧ 1 ≤ k) (fun v _ => n - (intOf v).toNat)
    case atStart => exact ⟨Lib.hid rfl, 1, 0, rfl, Lib.hid rfl, by omega, by omega⟩
    case round =>
      obtain ⟨hw, k, i, rfl, hk, hkn, hk1⟩ := hrel
      by_cases hlt : 2 * k < n
      · have ht2 : decide ((k : Int) < (n : Int) - (k : Int)) = true := decide_eq_true (by omega)
        go_wp2_with fail
        go_roundw
        case rel => exact ⟨hw, 2 * k, i + 1, by go_num, Lib.hid (by rw [hk.out, Nat.pow_succ]; omega), hlt, by omega⟩
        case measure => simp [intOf]; omega
      · have ht2 : decide ((k : Int) < (n : Int) - (k : Int)) = false := decide_eq_false (by omega)
        have hh := Tree.half_of (n := n) (i := i) (by rw [← hk.out]; exact hkn) (by rw [← hk.out]; omega)
        go_wp2_with fail
        go_ret
        exact ⟨hw.out, by rw [hh, hk.out]; rfl⟩

theorem treeHalf_neg (w : World) (n : Int) (hn : n < 2) (h0 : -9223372036854775808 ≤ n) : Calls Tryd.prog 26 #[.int .i64 n] w fun e w' => w = w' ∧ e = .returned (.int .i64 0) := by
  have ht : decide (n < 2) = true := decide_eq_true hn
  go_enter Tryd.func26, Tryd.ntmps26
  go_wp2_with fail
  go_ret
  exact ⟨rfl, rfl⟩

end Go.Proofs.YtaihojahccplcaaDoor

/- The walks of tree.Top, root, Root. -/
namespace Go.Proofs.YtaihojahccplcaaDoor
open Go.RowKit
set_option linter.unusedSimpArgs false
set_option linter.unusedVariables false

def sCell (l : List UInt8) : List Value := [.string (strOf l)]

/-- Texts in a row that came in. -/
def StrsAt (w : World) (o : Option Addr) (n cap : Nat) (L : List (List UInt8)) : Prop := RowsAt w o n cap 1 sCell L

theorem StrsAt.of_rows {w : World} {o : Option Addr} {n cap : Nat} {F : List ByteArray} (h : RowsAt w o n cap 1 strCell F) : StrsAt w o n cap (F.map fun s => s.data.toList) := by
  obtain ⟨h1, h2, h3, h4⟩ := h
  refine ⟨by rw [List.length_map]; exact h1, h2, h3, fun h0 => ?_⟩
  obtain ⟨b, off, h5, h6, h7⟩ := h4 h0
  refine ⟨b, off, h5, h6, fun i l hl => ?_⟩
  rw [List.getElem?_map] at hl
  obtain ⟨f, hf, rfl⟩ := Option.map_eq_some_iff.1 hl
  have := h7 i f hf
  show w.rangeAt b (off + i * 1) [.string (strOf f.data.toList)]
  rw [strOf_data]; exact this

theorem StrsAt.len {w : World} {o : Option Addr} {n cap : Nat} {L : List (List UInt8)} (h : StrsAt w o n cap L) : L.length = n := h.1
theorem StrsAt.cap {w : World} {o : Option Addr} {n cap : Nat} {L : List (List UInt8)} (h : StrsAt w o n cap L) : n ≤ cap := h.2.1
theorem StrsAt.max {w : World} {o : Option Addr} {n cap : Nat} {L : List (List UInt8)} (h : StrsAt w o n cap L) : cap ≤ 9223372036854775807 := h.2.2.1

theorem StrsAt.below {w w' : World} {B : Nat} {o : Option Addr} {n cap : Nat} {L : List (List UInt8)} (h : StrsAt w o n cap L) (hB : w.heap.size ≤ B) (hb : Below B w w') : StrsAt w' o n cap L := by
  refine ⟨h.1, h.2.1, h.2.2.1, fun h0 => ?_⟩
  obtain ⟨b, off, h5, h6, h7⟩ := h.2.2.2 h0
  exact ⟨b, off, h5, Nat.lt_of_lt_of_le h6 hb.size, fun i l hl j v hv => (hb.cell (p := ⟨b, _, none⟩) (by simp only; omega)).trans (h7 i l hl j v hv)⟩

theorem StrsAt.take {w : World} {o : Option Addr} {n cap : Nat} {L : List (List UInt8)} (h : StrsAt w o n cap L) (k c : Nat) (hk : k ≤ n) (hc : k ≤ c) (hm : c ≤ 9223372036854775807) : StrsAt w o k c (L.take k) := by
  refine ⟨by rw [List.length_take, h.1]; omega, hc, hm, fun h0 => ?_⟩
  obtain ⟨b, off, h5, h6, h7⟩ := h.2.2.2 (by omega)
  refine ⟨b, off, h5, h6, fun i l hl => h7 i l ?_⟩
  rw [List.getElem?_take] at hl
  split at hl
  · exact hl
  · cases hl

theorem StrsAt.drop {w : World} {b off n cap : Nat} {L : List (List UInt8)} (h : StrsAt w (some ⟨b, off, none⟩) n cap L) (k : Nat) (hk : k ≤ n) : StrsAt w (some ⟨b, off + k, none⟩) (n - k) (cap - k) (L.drop k) := by
  have h8 := h.2.1
  have h9 := h.2.2.1
  refine ⟨by rw [List.length_drop, h.1], by omega, by omega, fun h0 => ?_⟩
  obtain ⟨b', off', h5, h6, h7⟩ := h.2.2.2 (by omega)
  cases h5
  refine ⟨b, off + k, rfl, h6, fun i l hl => ?_⟩
  rw [List.getElem?_drop] at hl
  have := h7 (k + i) l hl
  rwa [show off + (k + i) * 1 = off + k + i * 1 by omega] at this

theorem StrsAt.form {w : World} {o : Option Addr} {n cap : Nat} {L : List (List UInt8)} (h : StrsAt w o n cap L) (h0 : 0 < n) : ∃ b off, o = some ⟨b, off, none⟩ := by
  obtain ⟨b, off, h5, _⟩ := h.2.2.2 h0
  exact ⟨b, off, h5⟩

theorem StrsAt.get {w : World} {b off n cap : Nat} {L : List (List UInt8)} (h : StrsAt w (some ⟨b, off, none⟩) n cap L) {i : Nat} {l : List UInt8} (hl : L[i]? = some l) : w.cell? ⟨b, off + i, none⟩ = some (.string (strOf l)) := by
  have hi := (List.getElem?_eq_some_iff.1 hl).1
  rw [h.1] at hi
  obtain ⟨b', off', h5, h6, h7⟩ := h.2.2.2 (by omega)
  cases h5
  have := h7 i l hl 0 _ rfl
  simpa using this

/-- A part of one byte. -/
theorem part_b1 (w : World) (b : UInt8) : PartsV ((w.alloc (.cells #[.int .u8 (b.toNat : Int)] 5)).alloc (.cells #[.slice (some ⟨w.heap.size, 0, none⟩) 1 1] 82)) (.slice (some ⟨w.heap.size + 1, 0, none⟩) 1 1) [[b]] := by
  have := parts_new (w.alloc (.cells #[.int .u8 (b.toNat : Int)] 5)) 82 [.slice (some ⟨w.heap.size, 0, none⟩) 1 1] [[b]] 1 rfl rfl (parts_1 (holds_one w _ b))
  rwa [show (w.alloc (.cells #[.int .u8 (b.toNat : Int)] 5)).heap.size = w.heap.size + 1 by simp] at this

/-- What the region's operations leave. -/
def topV (b off n cap k : Nat) (L : List (List UInt8)) (i : Nat) (w : World) (v : Value) : Prop :=
  match i with
  | 0 => v = .slice (some ⟨b, off, none⟩) n cap
  | 1 => v = .int .i64 (k : Int)
  | 2 => v = .int .i64 (k : Int)
  | 3 => v = .slice (some ⟨b, off, none⟩) k k
  | 4 => v = .agg (byteCells (Tree.top (L.take k))).toArray
  | 5 => v = .slice (some ⟨b, off, none⟩) n cap
  | 6 => v = .int .i64 (k : Int)
  | 7 => v = .slice (some ⟨b, off + k, none⟩) (n - k) (cap - k)
  | 8 => v = .agg (byteCells (Tree.top (L.drop k))).toArray
  | 9 => v = .agg (byteCells (Tree.node (Tree.top (L.take k)) (Tree.top (L.drop k)))).toArray
  | _ => True

theorem topV_mono (b off n cap k : Nat) (L : List (List UInt8)) (j : Nat) (w w' : World) (v : Value) (hb : Below w.heap.size w w') (h : topV b off n cap k L j w v) : topV b off n cap k L j w' v := by
  match j, h with
  | 0, h => exact h
  | 1, h => exact h
  | 2, h => exact h
  | 3, h => exact h
  | 4, h => exact h
  | 5, h => exact h
  | 6, h => exact h
  | 7, h => exact h
  | 8, h => exact h
  | 9, h => exact h
  | _ + 10, h => exact trivial

set_option maxRecDepth 100000 in
set_option maxHeartbeats 2000000 in
theorem treeTop_any (N : Nat) : ∀ (w : World) (o : Option Addr) (n cap : Nat) (L : List (List UInt8)), n = N → StrsAt w o n cap L → n ≤ 1000000 → (∀ l ∈ L, l.length ≤ 100000) → Laid w →
    Calls Tryd.prog 24 #[.slice o n cap] w fun e w' => e = .returned (.agg (byteCells (Tree.top L)).toArray) ∧ Below w.heap.size w w' := by
  induction N using Nat.strongRecOn with
  | ind N ih =>
  intro w o n cap L hN hS hn hl hL
  subst hN
  have IH := Lib.hid ih; clear ih
  have hlen := hS.len
  have hcap := hS.cap
  have hmax := hS.max
  obtain ⟨W0, hW0⟩ : ∃ W0, W0 = w.alloc (.cells zero32 27) := ⟨_, rfl⟩
  have x0 : W0.heap[w.heap.size]? = some (.cells zero32 27 (0, 0)) := by rw [hW0]; exact heap_alloc_new w _
  have b0 : Below w.heap.size w W0 := by rw [hW0]; exact (Below.refl _ _).alloc (Nat.le_refl _) _
  have s0 : W0.heap.size = w.heap.size + 1 := by rw [hW0]; simp
  have X0 := Lib.hid x0; clear x0
  have HW0 := Lib.hid hW0; clear hW0
  have HL := Lib.hid (hL.below b0); clear hL
  have S0 := Lib.hid (hS.below (Nat.le_refl _) b0); clear hS
  have hsl := Tree.top_len L
  have HSL := Lib.hid hsl; clear hsl
  have HLE := Lib.hid hl; clear hl
  rcases (show n = 0 ∨ n = 1 ∨ 2 ≤ n by omega) with rfl | rfl | h2
  · obtain rfl := List.eq_nil_of_length_eq_zero hlen
    have hp := part_b1 W0 2
    obtain ⟨W2, hW2⟩ : ∃ W2, W2 = (W0.alloc (.cells #[.int .u8 2] 5)).alloc (.cells #[.slice (some ⟨W0.heap.size, 0, none⟩) 1 1] 82) := ⟨_, rfl⟩
    have b2 : Below W0.heap.size W0 W2 := by rw [hW2]; exact ((Below.refl _ _).alloc (Nat.le_refl _) _).alloc (by simp) _
    have hof := of_any W2 _ _ (by rw [hW2]; exact hp) (by simp) (by simp) (HL.out.below b2)
    rw [show [[(2 : UInt8)]].flatten = [2] from rfl, ← Tree.top_nil] at hof
    rw [s0] at hW2 hof
    have x2 := (b2.block w.heap.size (by omega)).trans X0.out
    have b02 := b0.trans (b2.mono b0.size)
    have HOF := Lib.hid hof; clear hof hp
    have HW2 := Lib.hid hW2; clear hW2
    go_enter Tryd.func24, Tryd.ntmps24
    go_wp2_with ((with_reducible show wpList _ _ _ (⟨some 8, _, _, _, _, _⟩ :: _) _ _); change wpList _ _ _ _ _ (w.alloc (.cells zero32 27)); rw [← HW0.out])
    rw [← HW2.out]
    refine HOF.out.mono ?_
    rintro e w3 ⟨rfl, b3⟩
    have X3 := (b3.block _ (lt_of_block x2)).trans x2
    have B3 := b02.trans (b3.mono b02.size)
    go_wp2_with ((with_reducible show wpList _ _ _ (⟨none, .store 27 (.tmp 2) (.tmp 10), _, _, _, _⟩ :: _) _ _); refine wpList_put_hash (o := ⟨none, .store _ _ _, _, _, _, _⟩) rfl _ _ rfl w.heap.size rfl (Tree.top []) HSL.out rfl _ _ X3 zero32_size ?_)
    refine bodyPost_ret (results_hash rfl _ _ _ _ _ _ rfl HSL.out (hset_heap _ X3)) rfl ⟨rfl, hset_below _ B3 (Nat.le_refl _)⟩
  · obtain ⟨l, rfl⟩ : ∃ l, L = [l] := List.length_eq_one_iff.1 hlen
    obtain ⟨b, off, rfl⟩ := S0.out.form (by omega)
    have hcell : W0.cell? ⟨b, off, none⟩ = some (.string (strOf l)) := by simpa using S0.out.get (i := 0) rfl
    have hle := HLE.out l (by simp)
    go_enter Tryd.func24, Tryd.ntmps24
    go_wp2_with ((with_reducible show wpList _ _ _ (⟨some 15, _, _, _, _, _⟩ :: _) _ _); change wpList _ _ _ _ _ (w.alloc (.cells zero32 27)); rw [← HW0.out])
    refine (treeLeaf_any W0 l (by omega) HL.out).mono ?_
    rintro e w3 ⟨rfl, b3⟩
    rw [← Tree.top_one]
    have X3 := (b3.block _ (lt_of_block X0.out)).trans X0.out
    have B3 := b0.trans (b3.mono b0.size)
    go_wp2_with ((with_reducible show wpList _ _ _ (⟨none, .store 27 (.tmp 2) (.tmp 16), _, _, _, _⟩ :: _) _ _); refine wpList_put_hash (o := ⟨none, .store _ _ _, _, _, _, _⟩) rfl _ _ rfl w.heap.size rfl (Tree.top [l]) HSL.out rfl _ _ X3 zero32_size ?_)
    refine bodyPost_ret (results_hash rfl _ _ _ _ _ _ rfl HSL.out (hset_heap _ X3)) rfl ⟨rfl, hset_below _ B3 (Nat.le_refl _)⟩
  · obtain ⟨b, off, rfl⟩ := S0.out.form (by omega)
    have ht0 : ((n : Int) == 0) = false := by rw [beq_eq_false_iff_ne]; omega
    have ht1 : ((n : Int) == 1) = false := by rw [beq_eq_false_iff_ne]; omega
    obtain ⟨k, hk⟩ : ∃ k, k = Tree.half n := ⟨_, rfl⟩
    have hk1 : 1 ≤ k := by rw [hk]; exact Tree.half_pos (by omega)
    have hkn : k < n := by rw [hk]; exact Tree.half_lt (by omega)
    have hhalf := fun w => treeHalf_nat w n (by omega)
    rw [← hk] at hhalf
    have htop : Tree.top L = Tree.node (Tree.top (L.take k)) (Tree.top (L.drop k)) := by rw [Tree.top_two (by omega), hlen, ← hk]
    have HH := Lib.hid hhalf; clear hhalf hk
    have HT := Lib.hid (S0.out.take k k (by omega) (Nat.le_refl _) (by omega))
    have HD := Lib.hid (S0.out.drop k (by omega))
    have HIH1 : Hid (∀ w', StrsAt w' (some ⟨b, off, none⟩) k k (L.take k) → Laid w' → _) := Lib.hid fun w' h1 h2 => IH.out k (by omega) w' _ k k _ rfl h1 (by omega) (fun l hl => HLE.out l (List.mem_of_mem_take hl)) h2
    have HIH2 : Hid (∀ w', StrsAt w' (some ⟨b, off + k, none⟩) (n - k) (cap - k) (L.drop k) → Laid w' → _) := Lib.hid fun w' h1 h2 => IH.out (n - k) (by omega) w' _ _ _ _ rfl h1 (by omega) (fun l hl => HLE.out l (List.mem_of_mem_drop hl)) h2
    rw [htop] at HSL ⊢
    clear htop
    go_enter Tryd.func24, Tryd.ntmps24
    go_wp2_with fail
    change Calls _ _ _ (w.alloc (.cells zero32 27)) _
    rw [← HW0.out]
    refine (HH.out W0).mono ?_
    rintro e w' ⟨rfl, rfl⟩
    go_wp2_with fail

    refine wp_region_rel_last [[], [], [], [0, 1, 2], [3], [], [], [5, 6], [7], [4, 8], [9]] (topV b off n cap k L) 30 10 _ (by kernel_rfl) (by kernel_rfl) (by kernel_rfl) (by kernel_rfl) rfl rfl (topV_mono b off n cap k L) ?_ ?_
    · intro i o him hi w2 b2 vs hv
      have hL2 := HL.out.below b2
      match i, him, hi with
      | 0, _, hi =>
        obtain rfl := Option.some.inj hi
        simp only [relF, List.getD_cons_zero, List.getD_cons_succ, List.foldl_cons, List.foldl_nil, dstAt, List.getElem?_cons_zero, List.getElem?_cons_succ, Option.bind_some]
        go_wp2_with fail
        exact ⟨rfl, Below.refl _ _, rfl, rfl⟩
      | 1, _, hi =>
        obtain rfl := Option.some.inj hi
        simp only [relF, List.getD_cons_zero, List.getD_cons_succ, List.foldl_cons, List.foldl_nil, dstAt, List.getElem?_cons_zero, List.getElem?_cons_succ, Option.bind_some]
        go_wp2_with fail
        exact ⟨rfl, Below.refl _ _, rfl, rfl⟩
      | 2, _, hi =>
        obtain rfl := Option.some.inj hi
        simp only [relF, List.getD_cons_zero, List.getD_cons_succ, List.foldl_cons, List.foldl_nil, dstAt, List.getElem?_cons_zero, List.getElem?_cons_succ, Option.bind_some]
        go_wp2_with fail
        exact ⟨rfl, Below.refl _ _, rfl, rfl⟩
      | 3, _, hi =>
        obtain rfl := Option.some.inj hi
        have h0 : vs 0 = _ := hv 0 (by decide)
        have h1 : vs 1 = _ := hv 1 (by decide)
        have h2 : vs 2 = _ := hv 2 (by decide)
        simp only [relF, List.getD_cons_zero, List.getD_cons_succ, List.foldl_cons, List.foldl_nil, dstAt, List.getElem?_cons_zero, List.getElem?_cons_succ, Option.bind_some]
        go_frame
        rw [h0, h1, h2]
        go_wp2_with fail
        exact ⟨rfl, Below.refl _ _, rfl, rfl⟩
      | 4, _, hi =>
        obtain rfl := Option.some.inj hi
        have h3 : vs 3 = _ := hv 3 (by decide)
        have hct := HT.out.below (by omega) b2
        simp only [relF, List.getD_cons_zero, List.getD_cons_succ, List.foldl_cons, List.foldl_nil, dstAt, List.getElem?_cons_zero, List.getElem?_cons_succ, Option.bind_some]
        go_frame
        rw [h3]
        go_wp2_with fail
        refine (HIH1.out w2 hct hL2).mono ?_
        rintro e w3 ⟨rfl, b3⟩
        go_wp2_with fail
        exact ⟨rfl, b3, rfl, rfl⟩
      | 5, _, hi =>
        obtain rfl := Option.some.inj hi
        simp only [relF, List.getD_cons_zero, List.getD_cons_succ, List.foldl_cons, List.foldl_nil, dstAt, List.getElem?_cons_zero, List.getElem?_cons_succ, Option.bind_some]
        go_wp2_with fail
        exact ⟨rfl, Below.refl _ _, rfl, rfl⟩
      | 6, _, hi =>
        obtain rfl := Option.some.inj hi
        simp only [relF, List.getD_cons_zero, List.getD_cons_succ, List.foldl_cons, List.foldl_nil, dstAt, List.getElem?_cons_zero, List.getElem?_cons_succ, Option.bind_some]
        go_wp2_with fail
        exact ⟨rfl, Below.refl _ _, rfl, rfl⟩
      | 7, _, hi =>
        obtain rfl := Option.some.inj hi
        have h5 : vs 5 = _ := hv 5 (by decide)
        have h6 : vs 6 = _ := hv 6 (by decide)
        simp only [relF, List.getD_cons_zero, List.getD_cons_succ, List.foldl_cons, List.foldl_nil, dstAt, List.getElem?_cons_zero, List.getElem?_cons_succ, Option.bind_some]
        go_frame
        rw [h5, h6]
        go_wp2_with fail
        exact ⟨rfl, Below.refl _ _, rfl, rfl⟩
      | 8, _, hi =>
        obtain rfl := Option.some.inj hi
        have h7 : vs 7 = _ := hv 7 (by decide)
        have hcd := HD.out.below (by omega) b2
        simp only [relF, List.getD_cons_zero, List.getD_cons_succ, List.foldl_cons, List.foldl_nil, dstAt, List.getElem?_cons_zero, List.getElem?_cons_succ, Option.bind_some]
        go_frame
        rw [h7]
        go_wp2_with fail
        refine (HIH2.out w2 hcd hL2).mono ?_
        rintro e w3 ⟨rfl, b3⟩
        go_wp2_with fail
        exact ⟨rfl, b3, rfl, rfl⟩
      | 9, _, hi =>
        obtain rfl := Option.some.inj hi
        have h4 : vs 4 = _ := hv 4 (by decide)
        have h8 : vs 8 = _ := hv 8 (by decide)
        have htn := treeNode_any w2 _ _ (Tree.top_len (L.take k)) (Tree.top_len (L.drop k)) hL2
        simp only [relF, List.getD_cons_zero, List.getD_cons_succ, List.foldl_cons, List.foldl_nil, dstAt, List.getElem?_cons_zero, List.getElem?_cons_succ, Option.bind_some]
        go_frame
        rw [h4, h8]
        go_wp2_with fail
        refine (htn).mono ?_
        rintro e w3 ⟨rfl, b3⟩
        go_wp2_with fail
        exact ⟨rfl, b3, rfl, rfl⟩
      | n + 10, him, _ => exact absurd him (by omega)
    · intro w2 b2 vs hv
      have hL2 := HL.out.below b2
      have h9 : vs 9 = _ := hv 9 (by decide)
      rw [show List.range 10 = [0, 1, 2, 3, 4, 5, 6, 7, 8, 9] from rfl]
      simp only [relF, List.getD_cons_zero, List.getD_cons_succ, List.foldl_cons, List.foldl_nil, dstAt, List.getElem?_cons_zero, List.getElem?_cons_succ, Option.bind_some]
      go_frame
      rw [h9]
      have X4 := (b2.block _ (lt_of_block X0.out)).trans X0.out
      have B4 := b0.trans (b2.mono b0.size)
      go_wp2_with ((with_reducible show wpList _ _ _ (⟨none, .store 27 (.tmp 2) (.tmp 29), _, _, _, _⟩ :: _) _ _); refine wpList_put_hash (o := ⟨none, .store _ _ _, _, _, _, _⟩) rfl _ _ rfl w.heap.size rfl (Tree.node (Tree.top (L.take k)) (Tree.top (L.drop k))) HSL.out rfl _ _ X4 zero32_size ?_)
      refine bodyPost_ret (results_hash rfl _ _ _ _ _ _ rfl HSL.out (hset_heap _ X4)) rfl ⟨rfl, hset_below _ B4 (Nat.le_refl _)⟩

end Go.Proofs.YtaihojahccplcaaDoor

/- The walks of tree.root, Root. -/
namespace Go.Proofs.YtaihojahccplcaaDoor
open Go.RowKit
set_option linter.unusedSimpArgs false
set_option linter.unusedVariables false

/-- What the region's operations leave. -/
def rootV (bx bo n : Nat) (t : List UInt8) (i : Nat) (w : World) (v : Value) : Prop :=
  match i with
  | 0 => Lib.HoldsBytes w v ([3])
  | 1 => v = .pointer (some ⟨bo, 0, none⟩)
  | 2 => v = .string (strOf (Wire.num n))
  | 3 => Lib.HoldsBytes w v (Wire.num n)
  | 4 => v = .slice (some ⟨bx, 0, none⟩) 32 32
  | 5 => PartsV w v ([[3], Wire.num n, t])
  | 6 => v = .agg (byteCells (Tree.root n t)).toArray
  | _ => True

theorem rootV_mono (bx bo n : Nat) (t : List UInt8) (j : Nat) (w w' : World) (v : Value) (hb : Below w.heap.size w w') (h : rootV bx bo n t j w v) : rootV bx bo n t j w' v := by
  match j, h with
  | 0, h => exact holds_below h hb
  | 1, h => exact h
  | 2, h => exact h
  | 3, h => exact holds_below h hb
  | 4, h => exact h
  | 5, h => exact PartsV.below h hb
  | 6, h => exact h
  | _ + 7, h => exact trivial

set_option maxRecDepth 100000 in
set_option maxHeartbeats 2000000 in
theorem treeRootOf_any (w : World) (n : Nat) (hn : n ≤ 9223372036854775807) (t : List UInt8) (ht : t.length = 32) (hL : Laid w) :
    Calls Tryd.prog 23 #[.int .i64 (n : Int), .agg (byteCells t).toArray] w fun e w' => e = .returned (.agg (byteCells (Tree.root n t)).toArray) ∧ Below w.heap.size w w' := by
  obtain ⟨W0, hW0⟩ : ∃ W0, W0 = (w.alloc (.cells (byteCells t).toArray 27)).alloc (.cells zero32 27) := ⟨_, rfl⟩
  have x0 : W0.heap[w.heap.size]? = some (.cells (byteCells t).toArray 27 (0, 0)) := by
    rw [hW0, Below.heap_alloc _ _ _ (by simp)]; exact heap_alloc_new w _
  have x1 : W0.heap[w.heap.size + 1]? = some (.cells zero32 27 (0, 0)) := by
    rw [hW0]; have := heap_alloc_new (w.alloc (.cells (byteCells t).toArray 27)) (.cells zero32 27); simpa using this
  have b0 : Below w.heap.size w W0 := by rw [hW0]; exact ((Below.refl _ _).alloc (Nat.le_refl _) _).alloc (by simp) _
  have s0 : W0.heap.size = w.heap.size + 2 := by rw [hW0]; simp
  obtain ⟨W1, hW1⟩ : ∃ W1, W1 = W0.alloc (.cells #[.slice none 0 0] 84 (0, 0)) := ⟨_, rfl⟩
  have b1 : Below W0.heap.size W0 W1 := by rw [hW1]; exact (Below.refl _ _).alloc (Nat.le_refl _) _
  have o1 : OutIs W1 (w.heap.size + 2) (w.heap.size + 2) [] := by rw [hW1, ← s0]; exact OutIs.fresh W0 _
  have s1 : W1.heap.size = W0.heap.size + 1 := by rw [hW1]; simp
  have hnl := Wire.num_length n (by omega)
  have HNL := Lib.hid hnl; clear hnl
  have X0 := Lib.hid x0; clear x0
  have X1 := Lib.hid x1; clear x1
  have HT := Lib.hid ht; clear ht
  have O1 := Lib.hid o1; clear o1
  have HL := Lib.hid hL; clear hL
  have HW0 := Lib.hid hW0; clear hW0
  have HW1 := Lib.hid hW1; clear hW1
  have HSL := Lib.hid (Tree.root_len n t)
  have hu : IntKind.u64.wrap (n : Int) = (n : Int) := by rw [IntKind.wrap_u64]; omega
  go_enter Tryd.func23, Tryd.ntmps23
  go_wp2_with fail
  change Calls _ _ _ ((w.alloc (.cells (byteCells t).toArray 27)).alloc (.cells zero32 27)) _
  rw [← HW0.out]
  refine (newOut_any W0).mono ?_
  rintro e w' ⟨rfl, rfl⟩
  rw [← HW1.out]
  go_wp2_with fail
  refine (outNum_any n (by omega) _ _ _ W1 O1.out (by omega) (by simp)).mono ?_
  rintro e w4 ⟨rfl, o4, b4⟩
  rw [List.nil_append] at o4
  have B4 : Below w.heap.size w w4 := (b0.trans (b1.mono b0.size)).trans ((b4.below (Nat.le_refl _)).mono (by omega))
  have x40 := (((b4.below (Nat.le_refl _)).block _ (by omega)).trans (b1.block _ (lt_of_block X0.out))).trans X0.out
  have x41 := (((b4.below (Nat.le_refl _)).block _ (by omega)).trans (b1.block _ (lt_of_block X1.out))).trans X1.out
  have HL := Lib.hid (HL.out.below B4)
  clear X0 X1 b4 b1 b0 HW0 HW1 O1
  have X0 := Lib.hid x40; clear x40
  have X1 := Lib.hid x41; clear x41
  have HO := Lib.hid o4; clear o4
  go_wp2_with fail

  refine wp_region_rel_last [[], [], [1], [2], [], [0, 3, 4], [5], [6]] (rootV w.heap.size (w.heap.size + 2) n t) 18 7 _ (by kernel_rfl) (by kernel_rfl) (by kernel_rfl) (by kernel_rfl) rfl rfl (rootV_mono w.heap.size (w.heap.size + 2) n t) ?_ ?_
  · intro i o him hi w2 b2 vs hv
    have hL2 := HL.out.below b2
    match i, him, hi with
    | 0, _, hi =>
      obtain rfl := Option.some.inj hi
      simp only [relF, List.getD_cons_zero, List.getD_cons_succ, List.foldl_cons, List.foldl_nil, dstAt, List.getElem?_cons_zero, List.getElem?_cons_succ, Option.bind_some]
      go_wp2_with fail
      exact ⟨rfl, (Below.refl _ _).alloc (Nat.le_refl _) _, rfl, holds_one w2 _ 3⟩
    | 1, _, hi =>
      obtain rfl := Option.some.inj hi
      simp only [relF, List.getD_cons_zero, List.getD_cons_succ, List.foldl_cons, List.foldl_nil, dstAt, List.getElem?_cons_zero, List.getElem?_cons_succ, Option.bind_some]
      go_wp2_with fail
      exact ⟨rfl, Below.refl _ _, rfl, rfl⟩
    | 2, _, hi =>
      obtain rfl := Option.some.inj hi
      have h1 : vs 1 = _ := hv 1 (by decide)
      have ho2 := HO.out.kept (w' := w2) fun k hk => b2.block k hk
      have hdn := outDone_any _ _ _ _ ho2
      replace hdn : Calls Tryd.prog 31 #[.pointer (some ⟨w.heap.size + 2, 0, none⟩)] w2 fun e w' => w2 = w' ∧ e = .returned (.string (strOf (Wire.num n))) := hdn
      simp only [relF, List.getD_cons_zero, List.getD_cons_succ, List.foldl_cons, List.foldl_nil, dstAt, List.getElem?_cons_zero, List.getElem?_cons_succ, Option.bind_some]
      go_frame
      rw [h1]
      go_wp2_with fail
      refine hdn.mono ?_
      rintro e w3 ⟨rfl, rfl⟩
      go_wp2_with fail
      exact ⟨rfl, Below.refl _ _, rfl, rfl⟩
    | 3, _, hi =>
      obtain rfl := Option.some.inj hi
      have h2 : vs 2 = _ := hv 2 (by decide)
      have hnl := HNL.out
      obtain ⟨cap', W, hcv, m, bb, ss⟩ := str_bytes Tryd.under_str Tryd.under_u8s Tryd.under_b8 w2 (Wire.num n) (by omega)
      simp only [relF, List.getD_cons_zero, List.getD_cons_succ, List.foldl_cons, List.foldl_nil, dstAt, List.getElem?_cons_zero, List.getElem?_cons_succ, Option.bind_some]
      go_frame
      rw [h2]
      go_wp2_with fail
      exact ⟨rfl, bb, rfl, m.holds⟩
    | 4, _, hi =>
      obtain rfl := Option.some.inj hi
      simp only [relF, List.getD_cons_zero, List.getD_cons_succ, List.foldl_cons, List.foldl_nil, dstAt, List.getElem?_cons_zero, List.getElem?_cons_succ, Option.bind_some]
      go_wp2_with fail
      exact ⟨rfl, Below.refl _ _, rfl, rfl⟩
    | 5, _, hi =>
      obtain rfl := Option.some.inj hi
      have k0 : Lib.HoldsBytes w2 (vs 0) ([3]) := hv 0 (by decide)
      have k3 : Lib.HoldsBytes w2 (vs 3) (Wire.num n) := hv 3 (by decide)
      have h4 : vs 4 = _ := hv 4 (by decide)
      have hp := parts_new w2 82 [vs 0, vs 3, vs 4] [[3], Wire.num n, t] 3 rfl rfl (parts_three k0 k3 (by rw [h4]; exact holds_hash HT.out ((b2.block _ (lt_of_block X0.out)).trans X0.out)))
      rw [h4] at hp
      obtain ⟨p0, c0, e0, _⟩ := k0
      obtain ⟨p3, c3, e3, _⟩ := k3
      rw [e0, e3] at hp
      simp only [relF, List.getD_cons_zero, List.getD_cons_succ, List.foldl_cons, List.foldl_nil, dstAt, List.getElem?_cons_zero, List.getElem?_cons_succ, Option.bind_some]
      go_frame
      rw [h4, e0, e3]
      go_wp2_with fail
      exact ⟨rfl, (Below.refl _ _).alloc (Nat.le_refl _) _, rfl, hp⟩
    | 6, _, hi =>
      obtain rfl := Option.some.inj hi
      have k5 : PartsV w2 (vs 5) ([[3], Wire.num n, t]) := hv 5 (by decide)
      have hnl := HNL.out
      have hof := of_any w2 (vs 5) [[3], Wire.num n, t] k5 (by simp) (by simp; have := HT.out; omega) hL2
      rw [show [[3], Wire.num n, t].flatten = 3 :: (Wire.num n ++ t) by simp] at hof
      simp only [relF, List.getD_cons_zero, List.getD_cons_succ, List.foldl_cons, List.foldl_nil, dstAt, List.getElem?_cons_zero, List.getElem?_cons_succ, Option.bind_some]
      go_frame
      go_wp2_with fail
      refine (hof).mono ?_
      rintro e w3 ⟨rfl, b3⟩
      go_wp2_with fail
      exact ⟨rfl, b3, rfl, rfl⟩
    | n + 7, him, _ => exact absurd him (by omega)
  · intro w2 b2 vs hv
    have hL2 := HL.out.below b2
    have h6 : vs 6 = _ := hv 6 (by decide)
    rw [show List.range 7 = [0, 1, 2, 3, 4, 5, 6] from rfl]
    simp only [relF, List.getD_cons_zero, List.getD_cons_succ, List.foldl_cons, List.foldl_nil, dstAt, List.getElem?_cons_zero, List.getElem?_cons_succ, Option.bind_some]
    go_frame
    rw [h6]
    have X4 := (b2.block _ (lt_of_block X1.out)).trans X1.out
    have B5 := B4.trans (b2.mono B4.size)
    go_wp2_with ((with_reducible show wpList _ _ _ (⟨none, .store 27 (.tmp 4) (.tmp 17), _, _, _, _⟩ :: _) _ _); refine wpList_put_hash (o := ⟨none, .store _ _ _, _, _, _, _⟩) rfl _ _ rfl (w.heap.size + 1) rfl (Tree.root n t) HSL.out rfl _ _ X4 zero32_size ?_)
    refine bodyPost_ret (results_hash rfl _ _ _ _ _ _ rfl HSL.out (hset_heap _ X4)) rfl ⟨rfl, hset_below _ B5 (by omega)⟩

set_option maxRecDepth 100000 in
set_option maxHeartbeats 2000000 in
theorem treeRoot_any (w : World) (o : Option Addr) (n cap : Nat) (L : List (List UInt8)) (hS : StrsAt w o n cap L) (hn : n ≤ 1000000) (hl : ∀ l ∈ L, l.length ≤ 100000) (hL : Laid w) :
    Calls Tryd.prog 12 #[.slice o n cap] w fun e w' => e = .returned (.agg (byteCells (Tree.root n (Tree.top L))).toArray) ∧ Below w.heap.size w w' := by
  have hcap := hS.cap
  have hmax := hS.max
  obtain ⟨W0, hW0⟩ : ∃ W0, W0 = w.alloc (.cells zero32 27) := ⟨_, rfl⟩
  have x0 : W0.heap[w.heap.size]? = some (.cells zero32 27 (0, 0)) := by rw [hW0]; exact heap_alloc_new w _
  have b0 : Below w.heap.size w W0 := by rw [hW0]; exact (Below.refl _ _).alloc (Nat.le_refl _) _
  have htop := treeTop_any n W0 o n cap L rfl (hS.below (Nat.le_refl _) b0) hn hl (hL.below b0)
  have HTOP := Lib.hid htop; clear htop
  have hsl := Tree.root_len n (Tree.top L)
  have HSL := Lib.hid hsl; clear hsl
  have HL := Lib.hid (hL.below b0)
  have HW0 := Lib.hid hW0; clear hW0 hS
  go_enter Tryd.func12, Tryd.ntmps12
  go_wp2_with fail
  change Calls _ _ _ (w.alloc (.cells zero32 27)) _
  rw [← HW0.out]
  refine HTOP.out.mono ?_
  rintro e w1 ⟨rfl, b1⟩
  have hr := treeRootOf_any w1 n (by omega) (Tree.top L) (Tree.top_len L) (HL.out.below b1)
  have HR := Lib.hid hr; clear hr
  have x1 := (b1.block _ (lt_of_block x0)).trans x0
  have B1 := b0.trans (b1.mono b0.size)
  go_wp2_with fail
  refine HR.out.mono ?_
  rintro e w2 ⟨rfl, b2⟩
  have x2 := (b2.block _ (lt_of_block x1)).trans x1
  have B2 := B1.trans (b2.mono B1.size)
  go_wp2_with ((with_reducible show wpList _ _ _ (⟨none, .store 27 (.tmp 2) (.tmp 7), _, _, _, _⟩ :: _) _ _); refine wpList_put_hash (o := ⟨none, .store _ _ _, _, _, _, _⟩) rfl _ _ rfl w.heap.size rfl (Tree.root n (Tree.top L)) HSL.out rfl _ _ x2 zero32_size ?_)
  refine bodyPost_ret (results_hash rfl _ _ _ _ _ _ rfl HSL.out (hset_heap _ x2)) rfl ⟨rfl, hset_below _ B2 (Nat.le_refl _)⟩

end Go.Proofs.YtaihojahccplcaaDoor

/- The walks of tree.sides, Deep. -/
namespace Go.Proofs.YtaihojahccplcaaDoor
open Go.RowKit
set_option linter.unusedSimpArgs false
set_option linter.unusedVariables false

def boolCells (l : List Bool) : List Value := l.map Value.bool
theorem boolCells_app (a b : List Bool) : boolCells (a ++ b) = boolCells a ++ boolCells b := by simp [boolCells]
theorem boolCells_len (l : List Bool) : (boolCells l).length = l.length := by simp [boolCells]
theorem boolCells_get {l : List Bool} {i : Nat} {x : Bool} (h : l[i]? = some x) : (boolCells l)[i]? = some (.bool x) := by simp [boolCells, h]
theorem one_bool (x : Bool) : ∀ u ∈ [Value.bool x], u.oneCell' = true := by
  intro u hu
  obtain rfl := List.mem_singleton.1 hu
  rfl
theorem Tryd.under_bools : Tryd.prog.underlying 57 = some (.slice 4) := by kernel_rfl
theorem Tryd.info_bool : (Tryd.prog.info? 4).map (fun i => (i.zero, i.size, i.bytes)) = some (some (.bool false), 1, 1) := by kernel_rfl

theorem grown_below {w w' : World} {row : Option Nat} {B : Nat} (h : w.grownBy w' row) (hr : ∀ g, row = some g → B ≤ g) (hB : B ≤ w.heap.size) : Below B w w' :=
  ⟨h.os, h.tape, h.output, h.size, fun k hk => h.block k (by omega) (fun e => by have := hr k e.symm; omega)⟩

theorem slice_cell {w : World} {base n g cap : Nat} {e : TypeId} {xs : List Value} {u : Value} {j : Nat} (h : w.ownsRow base e 1 (.slice (some ⟨g, 0, none⟩) n cap) n xs) (hj : xs[j]? = some u) : w.cell? ⟨g, j, none⟩ = some u := by
  have := h.cells (g := g) rfl j u hj
  rw [Addr.add_mid, Nat.zero_add] at this
  exact this

theorem owns_below {w w' : World} {base : Nat} {e size : Nat} {v : Value} {n : Nat} {xs : List Value} (h : w.ownsRow base e size v n xs) (hb : Below w.heap.size w w') : w'.ownsRow base e size v n xs :=
  ownsRow_below h fun k hk => hb.block k (h.lt k hk).2

/-- There is no such leaf. -/
def badSide (n i : Int) : Bool := decide (1073741824 < n) || decide (i < 0) || decide (n ≤ i)

set_option maxRecDepth 100000 in
set_option maxHeartbeats 2000000 in
theorem treeSides_bad (w : World) (n i : Int) (hb : badSide n i = true) :
    Calls Tryd.prog 32 #[.int .i64 n, .int .i64 i] w fun e w' => w = w' ∧ e = .returned (.tuple #[.slice none 0 0, .bool false]) := by
  unfold badSide at hb
  rcases hx : decide ((1073741824 : Int) < n) with _ | _
  · rcases hy : decide (i < 0) with _ | _
    · have hz : decide (n ≤ i) = true := by rw [hx, hy] at hb; simpa using hb
      clear hb
      go_enter Tryd.func32, Tryd.ntmps32
      go_wp2_with fail
      go_ret2
      exact ⟨rfl, rfl⟩
    · clear hb
      go_enter Tryd.func32, Tryd.ntmps32
      go_wp2_with fail
      go_ret2
      exact ⟨rfl, rfl⟩
  · clear hb
    go_enter Tryd.func32, Tryd.ntmps32
    go_wp2_with fail
    go_ret2
    exact ⟨rfl, rfl⟩

set_option maxRecDepth 100000 in
set_option maxHeartbeats 2000000 in
theorem treeSides_any (w : World) (n i : Nat) (h1 : i < n) (h2 : n ≤ 1073741824) :
    Calls Tryd.prog 32 #[.int .i64 (n : Int), .int .i64 (i : Int)] w fun e w' => ∃ q c, e = .returned (.tuple #[.slice q (Tree.sides n i).length c, .bool true]) ∧ w'.ownsRow w.heap.size 4 1 (.slice q (Tree.sides n i).length c) (Tree.sides n i).length (boolCells (Tree.sides n i)) ∧ Below w.heap.size w w' := by
  obtain ⟨i0, hi, hz0, hz1, hz2⟩ := info_parts Tryd.info_bool
  have HI0 := Lib.hid hi; clear hi
  have HZ0 := Lib.hid hz0; clear hz0
  have HZ1 := Lib.hid hz1; clear hz1
  have HZ2 := Lib.hid hz2; clear hz2
  have hx : decide ((1073741824 : Int) < (n : Int)) = false := decide_eq_false (by omega)
  have hy : decide ((i : Int) < 0) = false := decide_eq_false (by omega)
  have hz : decide ((n : Int) ≤ (i : Int)) = false := decide_eq_false (by omega)
  have hz' : decide (n ≤ i) = false := decide_eq_false (by omega)
  obtain ⟨T, hT⟩ : ∃ T, T = Tree.sides n i := ⟨_, rfl⟩
  have hlen : T.length ≤ 30 := by rw [hT]; exact Tree.sides_len 30 n i h1 h2
  rw [← hT]
  have HT := Lib.hid hT; clear hT
  go_enter Tryd.func32, Tryd.ntmps32
  go_wp2_with fail
  go_loopw [0, 1, 6] (fun vn vi vo wr => ∃ m j : Nat, ∃ d : List Bool, ∃ q c, vn = .int .i64 (m : Int) ∧ vi = .int .i64 (j : Int) ∧ vo = .slice q d.length c ∧ j < m ∧ m ≤ n ∧ Hid (d ++ Tree.sides m j = T) ∧ Hid (wr.ownsRow w.heap.size 4 1 (.slice q d.length c) d.length (boolCells d)) ∧ d.length ≤ 30 ∧ Below w.heap.size w wr) (fun vn _ _ _ => (intOf vn).toNat)
  case atStart => exact ⟨n, i, [], none, 0, rfl, rfl, rfl, h1, Nat.le_refl _, Lib.hid (by rw [HT.out]; rfl), Lib.hid (World.ownsRow_nil _ _ _ _), by simp, Below.refl _ _⟩
  case round =>
    obtain ⟨m, j, d, q, c, rfl, rfl, rfl, hj, hm, HD, HX, hd, Br⟩ := hrel
    by_cases hlt : 2 ≤ m
    · have ht : decide ((1 : Int) < (m : Int)) = true := decide_eq_true (by omega)
      obtain ⟨k, hk⟩ : ∃ k, k = Tree.half m := ⟨_, rfl⟩
      have hk1 : 1 ≤ k := by rw [hk]; exact Tree.half_pos hlt
      have hkm : k < m := by rw [hk]; exact Tree.half_lt hlt
      have hhalf := treeHalf_nat wr m (by omega)
      rw [← hk] at hhalf
      have HK := Lib.hid hk; clear hk
      have HH := Lib.hid hhalf; clear hhalf
      have sr := Br.size
      have hd30 : d.length < 30 := by
        have h3 := congrArg List.length HD.out
        rw [List.length_append] at h3
        have h4 : 1 ≤ (Tree.sides m j).length := by
          by_cases hl : j < Tree.half m
          · rw [Tree.sides_left hlt hl]; simp
          · rw [Tree.sides_right hlt hl]; simp
        omega
      by_cases hl : j < k
      · go_wp2_with fail
        refine HH.out.mono ?_
        rintro e w' ⟨rfl, rfl⟩
        have ht2 : decide ((j : Int) < (k : Int)) = true := decide_eq_true (by omega)
        have hsd := Tree.sides_left (by omega) (by rw [← HK.out]; exact hl)
        rw [← HK.out] at hsd
        have HSD := Lib.hid hsd; clear hsd
        go_wp2_with (at_builtin; refine wpList_append_own _ rfl _ _ 57 rfl w.heap.size 4 i0 (.bool false) 1 1 Tryd.under_bools HI0.out HZ0.out HZ1.out HZ2.out rfl (by decide) _ _ _ rfl (HX.out.alloc _) ⟨wr.heap.size, 0, none⟩ 1 1 [.bool true] rfl rfl (cell_one_new _ _ _) (one_bool _) (by unfold maxLen; omega) (by omega) (by simp; omega) ?_)
        intro v' w5 hown' hgrow _
        have B5 : Below w.heap.size w w5 := (Br.alloc (by omega) _).trans (grown_below hgrow (fun g' hg' => (HX.out.lt g' hg').1) (by simp; omega))
        have hx5 : w5.ownsRow w.heap.size 4 1 v' (d.length + 1) (boolCells (d ++ [true])) := by rw [boolCells_app]; exact hown'
        have s5 := hgrow.size
        simp at s5
        have HX5 := Lib.hid hx5; clear hx5 hown' hgrow
        obtain ⟨q', c', rfl⟩ := ownsRow_slice HX5.out
        go_wp2_with fail
        go_roundw
        case rel => exact ⟨k, j, d ++ [true], q', c', rfl, rfl, by rw [List.length_append]; rfl, by omega, by omega, Lib.hid (by rw [List.append_assoc]; rw [← HD.out, HSD.out]; rfl), Lib.hid (by rw [List.length_append]; exact HX5.out), by simp only [List.length_append, List.length_cons, List.length_nil]; omega, B5⟩
        case measure => simp [intOf]; omega
      · go_wp2_with fail
        refine HH.out.mono ?_
        rintro e w' ⟨rfl, rfl⟩
        have ht2 : decide ((j : Int) < (k : Int)) = false := decide_eq_false (by omega)
        have hsd := Tree.sides_right (by omega) (by rw [← HK.out]; exact hl)
        rw [← HK.out] at hsd
        have HSD := Lib.hid hsd; clear hsd
        go_wp2_with (at_builtin; refine wpList_append_own _ rfl _ _ 57 rfl w.heap.size 4 i0 (.bool false) 1 1 Tryd.under_bools HI0.out HZ0.out HZ1.out HZ2.out rfl (by decide) _ _ _ rfl (HX.out.alloc _) ⟨wr.heap.size, 0, none⟩ 1 1 [.bool false] rfl rfl (cell_one_new _ _ _) (one_bool _) (by unfold maxLen; omega) (by omega) (by simp; omega) ?_)
        intro v' w5 hown' hgrow _
        have B5 : Below w.heap.size w w5 := (Br.alloc (by omega) _).trans (grown_below hgrow (fun g' hg' => (HX.out.lt g' hg').1) (by simp; omega))
        have hx5 : w5.ownsRow w.heap.size 4 1 v' (d.length + 1) (boolCells (d ++ [false])) := by rw [boolCells_app]; exact hown'
        have s5 := hgrow.size
        simp at s5
        have HX5 := Lib.hid hx5; clear hx5 hown' hgrow
        obtain ⟨q', c', rfl⟩ := ownsRow_slice HX5.out
        go_wp2_with fail
        go_roundw
        case rel => exact ⟨m - k, j - k, d ++ [false], q', c', by go_num, by go_num, by rw [List.length_append]; rfl, by omega, by omega, Lib.hid (by rw [List.append_assoc]; rw [← HD.out, HSD.out]; rfl), Lib.hid (by rw [List.length_append]; exact HX5.out), by simp only [List.length_append, List.length_cons, List.length_nil]; omega, B5⟩
        case measure => simp [intOf]; omega
    · have ht : decide ((1 : Int) < (m : Int)) = false := decide_eq_false (by omega)
      have hdT : d = T := by have := HD.out; rw [Tree.sides_small hlt, List.append_nil] at this; exact this
      subst hdT
      go_wp2_with fail
      go_ret2
      exact ⟨q, c, rfl, HX.out, Br⟩

end Go.Proofs.YtaihojahccplcaaDoor

/- The walk of tree.Check. -/
namespace Go.Proofs.YtaihojahccplcaaDoor
open Go.RowKit
set_option linter.unusedSimpArgs false
set_option linter.unusedVariables false

/-- Sums in a row that came in. -/
def HashesAt (w : World) (o : Option Addr) (n cap : Nat) (P : List (List UInt8)) : Prop := RowsAt w o n cap 32 byteCells P ∧ ∀ p ∈ P, p.length = 32

theorem HashesAt.below {w w' : World} {B : Nat} {o : Option Addr} {n cap : Nat} {L : List (List UInt8)} (h : HashesAt w o n cap L) (hB : w.heap.size ≤ B) (hb : Below B w w') : HashesAt w' o n cap L := by
  refine ⟨⟨h.1.1, h.1.2.1, h.1.2.2.1, fun h0 => ?_⟩, h.2⟩
  obtain ⟨b, off, h5, h6, h7⟩ := h.1.2.2.2 h0
  exact ⟨b, off, h5, Nat.lt_of_lt_of_le h6 hb.size, fun i l hl j v hv => (hb.cell (p := ⟨b, _, none⟩) (by simp only; omega)).trans (h7 i l hl j v hv)⟩

theorem HashesAt.form {w : World} {o : Option Addr} {n cap : Nat} {L : List (List UInt8)} (h : HashesAt w o n cap L) (h0 : 0 < n) : ∃ b off, o = some ⟨b, off, none⟩ := by
  obtain ⟨b, off, h5, _⟩ := h.1.2.2.2 h0
  exact ⟨b, off, h5⟩

theorem HashesAt.get {w : World} {b off n cap : Nat} {L : List (List UInt8)} (h : HashesAt w (some ⟨b, off, none⟩) n cap L) {i : Nat} {l : List UInt8} (hl : L[i]? = some l) : b < w.heap.size ∧ w.rangeAt b (off + i * 32) (byteCells l) := by
  have hi := (List.getElem?_eq_some_iff.1 hl).1
  rw [h.1.1] at hi
  obtain ⟨b', off', h5, h6, h7⟩ := h.1.2.2.2 (by omega)
  cases h5
  exact ⟨h6, h7 i l hl⟩

theorem range_under {w w' : World} {b o B : Nat} {cs : List Value} (h : w.rangeAt b o cs) (hb : b < B) (hw : Below B w w') : w'.rangeAt b o cs :=
  fun j v hv => (hw.cell (p := ⟨b, _, none⟩) hb).trans (h j v hv)

/-- A sum loaded out of a row. -/
theorem wpList_load_hashAt {ops : Array Oper} {rest : List Oper} {op : Oper} {a : Act} {w : World} {Q : Exit → Act → World → Prop} (hgd : op.guard = none) (x : Operand) (ho : op.op = .load 27 x)
    (g off : Nat) (hx : a.eval x = .pointer (some ⟨g, off, none⟩)) (l : List UInt8) (hl : l.length = 32) (hg : w.rangeAt g off (byteCells l))
    (h : wpList Tryd.prog ops Q rest (a.put op.dst (.agg (byteCells l).toArray)) w) : wpList Tryd.prog ops Q (op :: rest) a w :=
  wpList_load_mid hgd 27 x ho g off hx (byteCells l) _ hg Tryd.under_hh rfl (by rw [Tryd.infoH, byteCells_length, hl]) h

def climbTo (t : List UInt8) (z : List (Bool × List UInt8)) (j : Nat) : List UInt8 := (z.take j).foldl Tree.step t
theorem climbTo_zero (t : List UInt8) (z : List (Bool × List UInt8)) : climbTo t z 0 = t := by simp [climbTo]
theorem climbTo_succ {t : List UInt8} {z : List (Bool × List UInt8)} {j : Nat} {b : Bool} {p : List UInt8} (h : z[j]? = some (b, p)) : climbTo t z (j + 1) = Tree.step (climbTo t z j) (b, p) := by
  unfold climbTo
  rw [List.take_add_one, h]
  simp [List.foldl_append]
theorem climbTo_len (t : List UInt8) (ht : t.length = 32) (z : List (Bool × List UInt8)) (j : Nat) : (climbTo t z j).length = 32 := by
  unfold climbTo
  generalize z.take j = y
  induction y generalizing t with
  | nil => exact ht
  | cons x z ih => exact ih _ (Tree.step_len _ _)
theorem climbTo_all {t : List UInt8} {sd : List Bool} {P : List (List UInt8)} (h : sd.length = P.length) : climbTo t (sd.reverse.zip P) P.length = Tree.climb t sd P := by
  unfold climbTo Tree.climb
  rw [List.take_of_length_le (by rw [List.length_zip, List.length_reverse]; omega)]

set_option maxRecDepth 100000 in
set_option maxHeartbeats 2000000 in
theorem treeCheck_bad (w : World) (want : List UInt8) (hw : want.length = 32) (n i : Int) (hb : badSide n i = true) (s : ByteArray) (o : Option Addr) (m cap : Nat) :
    Calls Tryd.prog 15 #[.agg (byteCells want).toArray, .int .i64 n, .int .i64 i, .string s, .slice o m cap] w fun e w' => e = .returned (.bool false) ∧ Below w.heap.size w w' := by
  go_enter Tryd.func15, Tryd.ntmps15
  go_wp2_with fail
  refine (treeSides_bad _ n i hb).mono ?_
  rintro e w' ⟨rfl, rfl⟩
  go_wp2_with fail
  go_ret
  exact ⟨rfl, (Below.refl _ _).alloc (Nat.le_refl _) _⟩

/-- What the region's operations leave. -/
def checkV (want t : List UInt8) (n : Nat) (i : Nat) (w : World) (v : Value) : Prop :=
  match i with
  | 0 => v = .int .i64 (n : Int)
  | 1 => v = .agg (byteCells t).toArray
  | 2 => v = .agg (byteCells (Tree.root n t)).toArray
  | 3 => v = .agg (byteCells want).toArray
  | 4 => v = .bool (Tree.root n t == want)
  | 5 => v = .bool (Tree.root n t == want)
  | _ => True

theorem checkV_mono (want t : List UInt8) (n : Nat) (j : Nat) (w w' : World) (v : Value) (hb : Below w.heap.size w w') (h : checkV want t n j w v) : checkV want t n j w' v := by
  match j, h with
  | 0, h => exact h
  | 1, h => exact h
  | 2, h => exact h
  | 3, h => exact h
  | 4, h => exact h
  | 5, h => exact h
  | _ + 6, h => exact trivial

set_option maxRecDepth 100000 in
set_option maxHeartbeats 4000000 in
theorem treeCheck_any (w : World) (want : List UInt8) (hw : want.length = 32) (n i : Nat) (h1 : i < n) (h2 : n ≤ 1073741824) (l : List UInt8) (hl : l.length ≤ 100000) (o : Option Addr) (m cap : Nat) (P : List (List UInt8)) (hP : HashesAt w o m cap P) (hL : Laid w) :
    Calls Tryd.prog 15 #[.agg (byteCells want).toArray, .int .i64 (n : Int), .int .i64 (i : Int), .string (strOf l), .slice o m cap] w fun e w' => e = .returned (.bool (Tree.check want n i l P)) ∧ Below w.heap.size w w' := by
  obtain ⟨sd, hsd⟩ : ∃ sd, sd = Tree.sides n i := ⟨_, rfl⟩
  have hs30 : sd.length ≤ 30 := by rw [hsd]; exact Tree.sides_len 30 n i h1 h2
  obtain ⟨W0, hW0⟩ : ∃ W0, W0 = w.alloc (.cells (byteCells want).toArray 27) := ⟨_, rfl⟩
  have xw : W0.heap[w.heap.size]? = some (.cells (byteCells want).toArray 27 (0, 0)) := by rw [hW0]; exact heap_alloc_new w _
  have b0 : Below w.heap.size w W0 := by rw [hW0]; exact (Below.refl _ _).alloc (Nat.le_refl _) _
  have s0 : W0.heap.size = w.heap.size + 1 := by rw [hW0]; simp
  have hsides := treeSides_any W0 n i h1 h2
  have hchk : Tree.check want n i l P = (decide (sd.length = P.length) && (Tree.root n (Tree.climb (Tree.leaf l) sd P) == want)) := by rw [hsd]; rfl
  rw [← hsd] at hsides
  rw [hchk]
  obtain ⟨R, hR⟩ : ∃ R, R = (decide (sd.length = P.length) && (Tree.root n (Tree.climb (Tree.leaf l) sd P) == want)) := ⟨_, rfl⟩
  rw [← hR]
  have HR := Lib.hid hR; clear hR
  have hPm : P.length = m := hP.1.1
  have hcap : m ≤ cap := hP.1.2.1
  have hmax : cap ≤ 9223372036854775807 := hP.1.2.2.1
  have HP := Lib.hid hP; clear hP
  have HS := Lib.hid hsides; clear hsides hsd hchk
  have HWL := Lib.hid hw; clear hw
  have HL0 := Lib.hid hL; clear hL
  have HPM := Lib.hid hPm; clear hPm
  go_enter Tryd.func15, Tryd.ntmps15
  go_wp2_with fail
  rw [← hW0]
  have HW0 := Lib.hid hW0; clear hW0
  refine HS.out.mono ?_
  rintro e w1 ⟨q, c, rfl, hown, b1⟩
  have B1 := b0.trans (b1.mono b0.size)
  have xw1 := (b1.block _ (lt_of_block xw)).trans xw
  clear HS
  by_cases hne : sd.length = m
  · have htn : ((sd.length : Int) != (m : Int)) = false := by rw [hne]; simp
    have hde : decide (sd.length = P.length) = true := decide_eq_true (by rw [hne, HPM.out])
    have hleaf := treeLeaf_any w1 l hl (HL0.out.below B1)
    have HLF := Lib.hid hleaf; clear hleaf
    have HO := Lib.hid hown; clear hown
    have HNE := Lib.hid hne
    go_wp2_with fail
    refine HLF.out.mono ?_
    rintro e w2 ⟨rfl, b2⟩
    have B2 := B1.trans (b2.mono B1.size)
    have xw2 := (b2.block _ (lt_of_block xw1)).trans xw1
    have ho2 := owns_below HO.out b2
    have HO2 := Lib.hid ho2; clear ho2 HO
    obtain ⟨W3, hW3⟩ : ∃ W3, W3 = hset (w2.alloc (.cells zero32 27)) w2.heap.size (Tree.leaf l) := ⟨_, rfl⟩
    have x3 : W3.heap[w2.heap.size]? = some (.cells (byteCells (Tree.leaf l)).toArray 27 (0, 0)) := by rw [hW3]; exact hset_heap _ (heap_alloc_new w2 _)
    have b3 : Below w2.heap.size w2 W3 := by rw [hW3]; exact hset_below _ ((Below.refl _ _).alloc (Nat.le_refl _) _) (Nat.le_refl _)
    have s3 : W3.heap.size = w2.heap.size + 1 := by rw [hW3, hset_size]; simp
    have HW3 := Lib.hid hW3; clear hW3
    have X3 := Lib.hid x3; clear x3
    obtain ⟨Z, hZ⟩ : ∃ Z, Z = sd.reverse.zip P := ⟨_, rfl⟩
    have HZd := Lib.hid hZ; clear hZ
    have hleafl := Tree.leaf_len l
    have HLL := Lib.hid hleafl; clear hleafl
    go_wp2_with ((with_reducible show wpList _ _ _ (⟨none, .store 27 (.tmp 13) (.tmp 32), _, _, _, _⟩ :: _) _ _); change wpList _ _ _ _ _ (World.alloc w2 (.cells zero32 27)); refine wpList_put_hash (o := ⟨none, .store _ _ _, _, _, _, _⟩) rfl _ _ rfl _ rfl (Tree.leaf l) HLL.out rfl _ _ (heap_alloc_new _ _) zero32_size ?_; rw [← HW3.out])
    go_loopw [35] (fun v wr => ∃ j : Nat, j ≤ m ∧ v = .int .i64 (j : Int) ∧ Hid (wr.heap[w2.heap.size]? = some (.cells (byteCells (climbTo (Tree.leaf l) Z j)).toArray 27 (0, 0))) ∧ w2.heap.size < wr.heap.size ∧ Below w2.heap.size w2 wr) (fun v _ => m - (intOf v).toNat)
    case atStart => exact ⟨0, by omega, rfl, Lib.hid (by rw [climbTo_zero]; exact X3.out), by omega, b3⟩
    case round =>
      obtain ⟨j, hj, rfl, hx, sr, Br⟩ := hrel
      have hcl := climbTo_len (Tree.leaf l) (Tree.leaf_len l) Z j
      have HCL := Lib.hid hcl; clear hcl
      have Bwr : Below w.heap.size w wr := B2.trans (Br.mono (by have := B2.size; omega))
      clear X3 b3 s3 HW3 HLF b2 b1 b0
      by_cases hlt : j < m
      · obtain ⟨b, off, rfl⟩ := HP.out.form (by omega)
        obtain ⟨p, hp⟩ : ∃ p, P[j]? = some p := ⟨_, List.getElem?_eq_getElem (by rw [HPM.out]; exact hlt)⟩
        obtain ⟨x, hx'⟩ : ∃ x, sd.reverse[j]? = some x := ⟨_, List.getElem?_eq_getElem (by rw [List.length_reverse, HNE.out]; exact hlt)⟩
        have hz : Z[j]? = some (x, p) := by
          rw [HZd.out, List.getElem?_zip_eq_some]
          exact ⟨hx', hp⟩
        have hpl := HP.out.2 p (List.mem_of_getElem? hp)
        have hpr0 := HP.out.get hp
        have hpr : wr.rangeAt b (off + j * 32) (byteCells p) := range_under hpr0.2 hpr0.1 Bwr
        have hsx : sd[sd.length - 1 - j]? = some x := by
          rw [List.getElem?_reverse (by rw [HNE.out]; exact hlt)] at hx'
          exact hx'
        have HZ := Lib.hid hz; clear hz
        have HPL := Lib.hid hpl; clear hpl
        have HPR := Lib.hid hpr; clear hpr hpr0 hp hx'
        obtain ⟨W4, hW4⟩ : ∃ W4, W4 = hset (wr.alloc (.cells zero32 27)) wr.heap.size p := ⟨_, rfl⟩
        have p4 : W4.heap[wr.heap.size]? = some (.cells (byteCells p).toArray 27 (0, 0)) := by rw [hW4]; exact hset_heap _ (heap_alloc_new wr _)
        have bq4 : Below wr.heap.size wr W4 := by rw [hW4]; exact hset_below _ ((Below.refl _ _).alloc (Nat.le_refl _) _) (Nat.le_refl _)
        have y4 := (bq4.block _ sr).trans hx.out
        have s4 : W4.heap.size = wr.heap.size + 1 := by rw [hW4, hset_size]; simp
        have B4 : Below w2.heap.size w2 W4 := Br.trans (bq4.mono (by omega))
        have hL4 := HL0.out.below (B2.trans (B4.mono (by have := B2.size; omega)))
        have ho4 := owns_below HO2.out B4
        rcases q with _ | ⟨qb, qo, qs⟩
        · exfalso
          rcases HO2.out.2 with ⟨_, h0⟩ | ⟨g, cp, cur, hc, _⟩
          · have := HNE.out; omega
          · cases hc
        obtain ⟨rfl, rfl⟩ : qo = 0 ∧ qs = none := by
          rcases HO2.out.2 with ⟨hc, _⟩ | ⟨g, cp, cur, hc, _⟩
          · cases hc
          · simp only [Value.slice.injEq, Option.some.injEq, Addr.mk.injEq] at hc
            exact ⟨hc.1.2.1, hc.1.2.2⟩
        have hcell := slice_cell ho4 (boolCells_get hsx)
        have hti : ((m : Int) - 1 - (j : Int)).toNat = m - 1 - j := by omega
        rw [HNE.out] at hcell
        have hc30 : sd.length ≤ c := by
          rcases HO2.out.2 with ⟨_, h0⟩ | ⟨g, cp, cur, hc, _, _, hle, _⟩
          · have := HNE.out; omega
          · simp only [Value.slice.injEq] at hc
            omega
        have HW4 := Lib.hid hW4; clear hW4
        have P4 := Lib.hid p4; clear p4
        have Y4 := Lib.hid y4; clear y4
        have HL4 := Lib.hid hL4; clear hL4
        clear ho4 bq4 hsx hx
        rcases x with _ | _
        · have hnode := treeNode_any W4 p (climbTo (Tree.leaf l) Z j) HPL.out HCL.out HL4.out
          have hst : climbTo (Tree.leaf l) Z (j + 1) = Tree.node p (climbTo (Tree.leaf l) Z j) := by rw [climbTo_succ HZ.out]; rfl
          rw [← hst] at hnode
          have HN := Lib.hid hnode; clear hnode
          have HST := Lib.hid hst; clear hst
          have hcl1 := climbTo_len (Tree.leaf l) (Tree.leaf_len l) Z (j + 1)
          have HCL1 := Lib.hid hcl1; clear hcl1
          go_wp2_with (first | ((with_reducible show wpList _ _ _ (⟨some 39, _, _, _, _, _⟩ :: _) _ _); refine wpList_load_hashAt (op := ⟨some 39, _, _, _, _, _⟩) rfl _ rfl b (off + j * 32) rfl p HPL.out HPR.out ?_) | ((with_reducible show wpList _ _ _ (⟨none, .store 27 (.tmp 15) (.tmp 39), _, _, _, _⟩ :: _) _ _); change wpList _ _ _ _ _ (World.alloc wr (.cells zero32 27)); refine wpList_put_hash (o := ⟨none, .store _ _ _, _, _, _, _⟩) rfl _ _ rfl _ rfl p HPL.out rfl _ _ (heap_alloc_new _ _) zero32_size ?_; rw [← HW4.out]) | ((with_reducible show wpList _ _ _ (⟨some 52, _, _, _, _, _⟩ :: _) _ _); refine wpList_load_hash (op := ⟨some 52, _, _, _, _, _⟩) (by kernel_rfl) _ rfl w2.heap.size rfl (climbTo (Tree.leaf l) Z j) HCL.out _ _ Y4.out ?_) | ((with_reducible show wpList _ _ _ (⟨some 51, _, _, _, _, _⟩ :: _) _ _); refine wpList_load_hash (op := ⟨some 51, _, _, _, _, _⟩) (by kernel_rfl) _ rfl wr.heap.size rfl p HPL.out _ _ P4.out ?_))
          refine HN.out.mono ?_
          rintro e w5 ⟨rfl, b5⟩
          have y5 := (b5.block _ (lt_of_block Y4.out)).trans Y4.out
          have B5 := B4.trans (b5.mono B4.size)
          go_wp2_with ((with_reducible show wpList _ _ _ (⟨none, .store 27 (.tmp 13) (.tmp 53), _, _, _, _⟩ :: _) _ _); refine wpList_put_hash (o := ⟨none, .store _ _ _, _, _, _, _⟩) rfl _ _ rfl w2.heap.size rfl (climbTo (Tree.leaf l) Z (j + 1)) HCL1.out rfl _ _ y5 (hash_cells_size _ HCL.out) ?_)
          go_roundw
          case rel => exact ⟨j + 1, by omega, by go_num, Lib.hid (hset_heap _ y5), by rw [hset_size]; have := b5.size; omega, hset_below _ B5 (by omega)⟩
          case measure => simp [intOf]; omega
        · have hnode := treeNode_any W4 (climbTo (Tree.leaf l) Z j) p HCL.out HPL.out HL4.out
          have hst : climbTo (Tree.leaf l) Z (j + 1) = Tree.node (climbTo (Tree.leaf l) Z j) p := by rw [climbTo_succ HZ.out]; rfl
          rw [← hst] at hnode
          have HN := Lib.hid hnode; clear hnode
          have HST := Lib.hid hst; clear hst
          have hcl1 := climbTo_len (Tree.leaf l) (Tree.leaf_len l) Z (j + 1)
          have HCL1 := Lib.hid hcl1; clear hcl1
          go_wp2_with (first | ((with_reducible show wpList _ _ _ (⟨some 39, _, _, _, _, _⟩ :: _) _ _); refine wpList_load_hashAt (op := ⟨some 39, _, _, _, _, _⟩) rfl _ rfl b (off + j * 32) rfl p HPL.out HPR.out ?_) | ((with_reducible show wpList _ _ _ (⟨none, .store 27 (.tmp 15) (.tmp 39), _, _, _, _⟩ :: _) _ _); change wpList _ _ _ _ _ (World.alloc wr (.cells zero32 27)); refine wpList_put_hash (o := ⟨none, .store _ _ _, _, _, _, _⟩) rfl _ _ rfl _ rfl p HPL.out rfl _ _ (heap_alloc_new _ _) zero32_size ?_; rw [← HW4.out]) | ((with_reducible show wpList _ _ _ (⟨some 48, _, _, _, _, _⟩ :: _) _ _); refine wpList_load_hash (op := ⟨some 48, _, _, _, _, _⟩) (by kernel_rfl) _ rfl w2.heap.size rfl (climbTo (Tree.leaf l) Z j) HCL.out _ _ Y4.out ?_) | ((with_reducible show wpList _ _ _ (⟨some 49, _, _, _, _, _⟩ :: _) _ _); refine wpList_load_hash (op := ⟨some 49, _, _, _, _, _⟩) (by kernel_rfl) _ rfl wr.heap.size rfl p HPL.out _ _ P4.out ?_))
          refine HN.out.mono ?_
          rintro e w5 ⟨rfl, b5⟩
          have y5 := (b5.block _ (lt_of_block Y4.out)).trans Y4.out
          have B5 := B4.trans (b5.mono B4.size)
          go_wp2_with ((with_reducible show wpList _ _ _ (⟨none, .store 27 (.tmp 13) (.tmp 50), _, _, _, _⟩ :: _) _ _); refine wpList_put_hash (o := ⟨none, .store _ _ _, _, _, _, _⟩) rfl _ _ rfl w2.heap.size rfl (climbTo (Tree.leaf l) Z (j + 1)) HCL1.out rfl _ _ y5 (hash_cells_size _ HCL.out) ?_)
          go_roundw
          case rel => exact ⟨j + 1, by omega, by go_num, Lib.hid (hset_heap _ y5), by rw [hset_size]; have := b5.size; omega, hset_below _ B5 (by omega)⟩
          case measure => simp [intOf]; omega
      · obtain rfl : j = m := by omega
        obtain ⟨t, ht⟩ : ∃ t, t = climbTo (Tree.leaf l) Z j := ⟨_, rfl⟩
        rw [← ht] at HCL hx
        have htc : Tree.climb (Tree.leaf l) sd P = t := by rw [ht, HZd.out, ← HPM.out]; exact (climbTo_all (by rw [HNE.out, HPM.out])).symm
        have hRt : R = (Tree.root n t == want) := by rw [HR.out, hde, Bool.true_and, htc]
        have HRT := Lib.hid hRt; clear hRt
        have HTL := HCL
        have XT := hx
        have XW := Lib.hid ((Br.block w.heap.size (by have := lt_of_block xw2; omega)).trans xw2)
        have HLR := Lib.hid (HL0.out.below Bwr)
        clear ht htc
        go_wp2_with fail

        refine wp_region_rel [[], [], [0, 1], [], [2, 3], [4]] (checkV want t n) 60 (by kernel_rfl) (by kernel_rfl) (by kernel_rfl) (checkV_mono want t n) ?_ ?_
        · intro i o hi wz b2 vs hv
          have him : i < 6 := (List.getElem?_eq_some_iff.1 hi).1
          have hL2 := HLR.out.below b2
          match i, him, hi with
          | 0, _, hi =>
            obtain rfl := Option.some.inj hi
            simp only [relF, List.getD_cons_zero, List.getD_cons_succ, List.foldl_cons, List.foldl_nil, dstAt, List.getElem?_cons_zero, List.getElem?_cons_succ, Option.bind_some]
            go_wp2_with fail
            exact ⟨rfl, Below.refl _ _, rfl, rfl⟩
          | 1, _, hi =>
            obtain rfl := Option.some.inj hi
            simp only [relF, List.getD_cons_zero, List.getD_cons_succ, List.foldl_cons, List.foldl_nil, dstAt, List.getElem?_cons_zero, List.getElem?_cons_succ, Option.bind_some]
            go_wp2_with ((with_reducible show wpList _ _ _ (⟨some 56, _, _, _, _, _⟩ :: _) _ _); refine wpList_load_hash (op := ⟨some 56, _, _, _, _, _⟩) (by kernel_rfl) _ rfl w2.heap.size rfl t HTL.out _ _ ((b2.block _ (lt_of_block XT.out)).trans XT.out) ?_)
            exact ⟨rfl, Below.refl _ _, rfl, rfl⟩
          | 2, _, hi =>
            obtain rfl := Option.some.inj hi
            have h0 : vs 0 = _ := hv 0 (by decide)
            have h1 : vs 1 = _ := hv 1 (by decide)
            have hr := treeRootOf_any wz n (by omega) t HTL.out hL2
            simp only [relF, List.getD_cons_zero, List.getD_cons_succ, List.foldl_cons, List.foldl_nil, dstAt, List.getElem?_cons_zero, List.getElem?_cons_succ, Option.bind_some]
            go_frame
            rw [h0, h1]
            go_wp2_with fail
            refine (hr).mono ?_
            rintro e w3 ⟨rfl, b3⟩
            go_wp2_with fail
            exact ⟨rfl, b3, rfl, rfl⟩
          | 3, _, hi =>
            obtain rfl := Option.some.inj hi
            simp only [relF, List.getD_cons_zero, List.getD_cons_succ, List.foldl_cons, List.foldl_nil, dstAt, List.getElem?_cons_zero, List.getElem?_cons_succ, Option.bind_some]
            go_wp2_with ((with_reducible show wpList _ _ _ (⟨some 58, _, _, _, _, _⟩ :: _) _ _); refine wpList_load_hash (op := ⟨some 58, _, _, _, _, _⟩) (by kernel_rfl) _ rfl w.heap.size rfl want HWL.out _ _ ((b2.block _ (lt_of_block XW.out)).trans XW.out) ?_)
            exact ⟨rfl, Below.refl _ _, rfl, rfl⟩
          | 4, _, hi =>
            obtain rfl := Option.some.inj hi
            have h2 : vs 2 = _ := hv 2 (by decide)
            have h3 : vs 3 = _ := hv 3 (by decide)
            simp only [relF, List.getD_cons_zero, List.getD_cons_succ, List.foldl_cons, List.foldl_nil, dstAt, List.getElem?_cons_zero, List.getElem?_cons_succ, Option.bind_some]
            go_frame
            rw [h2, h3]
            go_wp2_with ((with_reducible show wpList _ _ _ (⟨some 59, _, _, _, _, _⟩ :: _) _ _); refine wpList_eql_hash (op := ⟨some 59, _, _, _, _, _⟩) (by kernel_rfl) _ _ rfl (Tree.root n t) want (Tree.root_len n t) HWL.out rfl rfl ?_)
            exact ⟨rfl, Below.refl _ _, rfl, rfl⟩
          | 5, _, hi =>
            obtain rfl := Option.some.inj hi
            have h4 : vs 4 = _ := hv 4 (by decide)
            simp only [relF, List.getD_cons_zero, List.getD_cons_succ, List.foldl_cons, List.foldl_nil, dstAt, List.getElem?_cons_zero, List.getElem?_cons_succ, Option.bind_some]
            go_frame
            rw [h4]
            go_wp2_with fail
            exact ⟨rfl, Below.refl _ _, rfl, rfl⟩
          | n + 6, him, _ => exact absurd him (by omega)
        · intro wz b2 vs hv
          have hL2 := HLR.out.below b2
          have h5 : vs 5 = _ := hv 5 (by decide)
          simp only [relF, List.length_cons, List.length_nil, Nat.zero_add, Nat.reduceAdd, List.range, List.range.loop, List.foldl_cons, List.foldl_nil, dstAt, List.getElem?_cons_zero, List.getElem?_cons_succ, Option.bind_some]
          go_frame
          rw [h5]
          go_wp2_with fail
          go_ret
          exact ⟨by rw [HRT.out]; rfl, Bwr.trans (b2.mono Bwr.size)⟩
  · have htn : ((sd.length : Int) != (m : Int)) = true := by rw [bne_iff_ne]; omega
    have hde : decide (sd.length = P.length) = false := decide_eq_false (by rw [HPM.out]; exact hne)
    have hRf : R = false := by rw [HR.out, hde, Bool.false_and]
    have HRF := Lib.hid hRf; clear hRf
    go_wp2_with fail
    go_ret
    exact ⟨by rw [HRF.out]; rfl, B1⟩

end Go.Proofs.YtaihojahccplcaaDoor

/- The walk of tree.Prove and of the function it makes. -/
namespace Go.Proofs.YtaihojahccplcaaDoor
open Go.RowKit
set_option linter.unusedSimpArgs false
set_option linter.unusedVariables false

def hashCells (d : List (List UInt8)) : List Value := (d.map byteCells).flatten
theorem hashCells_app (a b : List (List UInt8)) : hashCells (a ++ b) = hashCells a ++ hashCells b := by simp [hashCells]
theorem hashCells_one (a : List UInt8) : hashCells [a] = byteCells a := by simp [hashCells]
theorem Tryd.under_hs : Tryd.prog.underlying 30 = some (.slice 27) := by kernel_rfl
theorem Tryd.info_hs : (Tryd.prog.info? 27).map (fun i => (i.zero, i.size, i.bytes)) = some (some (.agg zero32), 32, 32) := by kernel_rfl

theorem Tree.prove_len (N : Nat) : ∀ (l : List (List UInt8)) (i : Nat), l.length = N → (Tree.prove l i).length ≤ N := by
  induction N using Nat.strongRecOn with
  | ind N ih =>
    intro l i hl
    by_cases h : 2 ≤ l.length
    · have h1 := Tree.half_pos h
      have h2 := Tree.half_lt h
      by_cases hi : i < Tree.half l.length
      · rw [Tree.prove_left h hi, List.length_append]
        have := ih (Tree.half l.length) (by omega) (l.take (Tree.half l.length)) i (by rw [List.length_take]; omega)
        simp only [List.length_cons, List.length_nil]; omega
      · rw [Tree.prove_right h hi, List.length_append]
        have := ih (l.length - Tree.half l.length) (by omega) (l.drop (Tree.half l.length)) (i - Tree.half l.length) (by rw [List.length_drop])
        simp only [List.length_cons, List.length_nil]; omega
    · rw [Tree.prove_small h]; simp

theorem fold_zip (xs : List Value) : ∀ (k : Nat) (a : Array Value), a.size = k + xs.length → (xs.zipIdx k).foldl (fun cs x => cs.setIfInBounds x.2 x.1) a = (a.toList.take k ++ xs).toArray := by
  induction xs with
  | nil =>
    intro k a h
    simp only [List.zipIdx_nil, List.foldl_nil, List.append_nil, List.length_nil, Nat.add_zero] at h ⊢
    rw [List.take_of_length_le (by rw [Array.length_toList]; omega)]
  | cons x xs ih =>
    intro k a h
    simp only [List.zipIdx_cons, List.foldl_cons, List.length_cons] at h ⊢
    rw [ih (k + 1) _ (by simp; omega)]
    congr 1
    rw [Array.toList_setIfInBounds, List.take_add_one, List.getElem?_set_self (by rw [Array.length_toList]; omega), List.take_set_of_le (by omega)]
    simp

/-- A row of one sum that a call's own argument makes. -/
theorem alloc_built (w : World) {h : List UInt8} {t : TypeId} (hl : (byteCells h).length = 32) :
    (w.alloc (.cells (List.foldl (fun (cs : Array Value) (x : Value × Nat) => cs.setIfInBounds x.2 x.1) zero32 (byteCells h).zipIdx) t)).heap[w.heap.size]? = some (.cells (byteCells h).toArray t (0, 0)) := by
  rw [fold_zip (byteCells h) 0 zero32 (by rw [zero32_size, hl])]
  exact heap_alloc_new w _

/-- The two variables that the function captures: the sums so far, and the function itself. -/
def ProveInv (w : World) (B : Nat) (d : List (List UInt8)) : Prop :=
  (∃ v, w.heap[B]? = some (.cells #[v] 30 (0, 0)) ∧ w.ownsRow (B + 2) 27 32 v d.length (hashCells d)) ∧
  w.heap[B + 1]? = some (.cells #[.func (.func 25) #[] #[.pointer (some ⟨B + 1, 0, none⟩), .pointer (some ⟨B, 0, none⟩)]] 48 (0, 0))

theorem hash_one (h : List UInt8) : ∀ u ∈ byteCells h, u.oneCell' = true := byteCells_one h

theorem cells_row_at {w : World} {g : Nat} {cs : List Value} {t : TypeId} {fr : Nat × Nat} (h : w.heap[g]? = some (.cells cs.toArray t fr)) : ∀ j u, cs[j]? = some u → w.cell? ((⟨g, 0, none⟩ : Addr).add j) = some u := by
  intro j u hu
  rw [Addr.add_mid, Nat.zero_add]
  have := range_row h j u hu
  rwa [Nat.zero_add] at this

/-- What an append and the store of it leave. -/
theorem prove_store {w w1 : World} {B m : Nat} {v v' : Value} {d : List (List UInt8)} {h : List UInt8} (hd : d.length = m) (hw : w.heap[B]? = some (.cells #[v] 30 (0, 0))) (hown : w.ownsRow (B + 2) 27 32 v m (hashCells d))
    (hf : w.heap[B + 1]? = some (.cells #[.func (.func 25) #[] #[.pointer (some ⟨B + 1, 0, none⟩), .pointer (some ⟨B, 0, none⟩)]] 48 (0, 0)))
    (hg : w.grownBy w1 v.ownBlock) (hown' : w1.ownsRow (B + 2) 27 32 v' (m + 1) (hashCells d ++ byteCells h)) :
    (w1.cell? ⟨B, 0, none⟩ = some v ∧ w1.frozen? ⟨B, 0, none⟩ = false) ∧ ProveInv (w1.setCell ⟨B, 0, none⟩ v') B (d ++ [h]) ∧ Below B w (w1.setCell ⟨B, 0, none⟩ v') := by
  have l0 := lt_of_block hw
  have l1 := lt_of_block hf
  have hne : ∀ k, k < B + 2 → v.ownBlock ≠ some k := fun k hk e => by have := (hown.lt k e).1; omega
  have x0 : w1.heap[B]? = some (.cells #[v] 30 (0, 0)) := (hg.block B l0 (fun e => hne B (by omega) e.symm)).trans hw
  have x1 := (hg.block (B + 1) l1 (fun e => hne (B + 1) (by omega) e.symm)).trans hf
  refine ⟨⟨cell_of_one x0, free_of_one x0⟩, ⟨⟨v', one_setCell x0, ?_⟩, ?_⟩, ?_⟩
  · rw [List.length_append, hashCells_app, hashCells_one, hd]
    refine ownsRow_below hown' fun k hk => ?_
    have := (hown'.lt k hk).1
    rw [Below.heap_setCell _ _ _ _ (by simp only; omega)]
  · rw [Below.heap_setCell _ _ _ _ (by simp only; omega)]; exact x1
  · refine ⟨hg.os, hg.tape, hg.output, ?_, fun k hk => ?_⟩
    · have := hg.size; simp; omega
    · rw [Below.heap_setCell _ _ _ _ (by simp only; omega), hg.block k (by omega) (fun e => hne k (by omega) e.symm)]

/-- What the region's operations leave. -/
def pcL (B b off n cap k i : Nat) (ix : Nat) (w : World) (v : Value) : Prop :=
  match ix with
  | 0 => v = .func (.func 25) #[] #[.pointer (some ⟨B + 1, 0, none⟩), .pointer (some ⟨B, 0, none⟩)]
  | 1 => v = .slice (some ⟨b, off, none⟩) n cap
  | 2 => v = .int .i64 (k : Int)
  | 3 => v = .int .i64 (k : Int)
  | 4 => v = .slice (some ⟨b, off, none⟩) k k
  | 5 => v = .int .i64 (i : Int)
  | _ => True

theorem pcL_mono (B b off n cap k i : Nat) (j : Nat) (w w' : World) (v : Value) (hb : Below w.heap.size w w') (h : pcL B b off n cap k i j w v) : pcL B b off n cap k i j w' v := by
  match j, h with
  | 0, h => exact h
  | 1, h => exact h
  | 2, h => exact h
  | 3, h => exact h
  | 4, h => exact h
  | 5, h => exact h
  | _ + 6, h => exact trivial

/-- What the region's operations leave. -/
def pcR (B b off n cap k i : Nat) (ix : Nat) (w : World) (v : Value) : Prop :=
  match ix with
  | 0 => v = .func (.func 25) #[] #[.pointer (some ⟨B + 1, 0, none⟩), .pointer (some ⟨B, 0, none⟩)]
  | 1 => v = .slice (some ⟨b, off, none⟩) n cap
  | 2 => v = .int .i64 (k : Int)
  | 3 => v = .slice (some ⟨b, off + k, none⟩) (n - k) (cap - k)
  | 4 => v = .int .i64 (i : Int)
  | 5 => v = .int .i64 (k : Int)
  | 6 => v = .int .i64 ((i - k : Nat) : Int)
  | _ => True

theorem pcR_mono (B b off n cap k i : Nat) (j : Nat) (w w' : World) (v : Value) (hb : Below w.heap.size w w') (h : pcR B b off n cap k i j w v) : pcR B b off n cap k i j w' v := by
  match j, h with
  | 0, h => exact h
  | 1, h => exact h
  | 2, h => exact h
  | 3, h => exact h
  | 4, h => exact h
  | 5, h => exact h
  | 6, h => exact h
  | _ + 7, h => exact trivial

/-- What the region's operations leave. -/
def poL (vo : Value) (b off n cap k : Nat) (L : List (List UInt8)) (ix : Nat) (w : World) (v : Value) : Prop :=
  match ix with
  | 0 => v = vo
  | 1 => v = .slice (some ⟨b, off, none⟩) n cap
  | 2 => v = .int .i64 (k : Int)
  | 3 => v = .slice (some ⟨b, off + k, none⟩) (n - k) (cap - k)
  | 4 => v = .agg (byteCells (Tree.top (L.drop k))).toArray
  | 5 => ∃ g, v = .slice (some ⟨g, 0, none⟩) 1 1 ∧ w.heap[g]? = some (.cells (byteCells (Tree.top (L.drop k))).toArray 27 (0, 0))
  | _ => True

theorem poL_mono (vo : Value) (b off n cap k : Nat) (L : List (List UInt8)) (j : Nat) (w w' : World) (v : Value) (hb : Below w.heap.size w w') (h : poL vo b off n cap k L j w v) : poL vo b off n cap k L j w' v := by
  match j, h with
  | 0, h => exact h
  | 1, h => exact h
  | 2, h => exact h
  | 3, h => exact h
  | 4, h => exact h
  | 5, h => exact (let ⟨g, h1, h2⟩ := h; ⟨g, h1, (hb.block g (lt_of_block h2)).trans h2⟩)
  | _ + 6, h => exact trivial

/-- What the region's operations leave. -/
def poR (vo : Value) (b off n cap k : Nat) (L : List (List UInt8)) (ix : Nat) (w : World) (v : Value) : Prop :=
  match ix with
  | 0 => v = vo
  | 1 => v = .slice (some ⟨b, off, none⟩) n cap
  | 2 => v = .int .i64 (k : Int)
  | 3 => v = .int .i64 (k : Int)
  | 4 => v = .slice (some ⟨b, off, none⟩) k k
  | 5 => v = .agg (byteCells (Tree.top (L.take k))).toArray
  | 6 => ∃ g, v = .slice (some ⟨g, 0, none⟩) 1 1 ∧ w.heap[g]? = some (.cells (byteCells (Tree.top (L.take k))).toArray 27 (0, 0))
  | _ => True

theorem poR_mono (vo : Value) (b off n cap k : Nat) (L : List (List UInt8)) (j : Nat) (w w' : World) (v : Value) (hb : Below w.heap.size w w') (h : poR vo b off n cap k L j w v) : poR vo b off n cap k L j w' v := by
  match j, h with
  | 0, h => exact h
  | 1, h => exact h
  | 2, h => exact h
  | 3, h => exact h
  | 4, h => exact h
  | 5, h => exact h
  | 6, h => exact (let ⟨g, h1, h2⟩ := h; ⟨g, h1, (hb.block g (lt_of_block h2)).trans h2⟩)
  | _ + 7, h => exact trivial

set_option maxRecDepth 100000 in
set_option maxHeartbeats 1000000 in
theorem proveRec_any (w0 : World) (hL : Laid w0) (N : Nat) : ∀ (w : World) (o : Option Addr) (n cap i : Nat) (L : List (List UInt8)) (d : List (List UInt8)), n = N → StrsAt w0 o n cap L → Below w0.heap.size w0 w → ProveInv w w0.heap.size d → i < n → n ≤ 1000000 → d.length + n ≤ 1000000 → (∀ l ∈ L, l.length ≤ 100000) →
    Calls Tryd.prog 25 #[.slice o n cap, .int .i64 (i : Int), .pointer (some ⟨w0.heap.size + 1, 0, none⟩), .pointer (some ⟨w0.heap.size, 0, none⟩)] w fun e w' => e = .returned (.tuple #[]) ∧ ProveInv w' w0.heap.size (d ++ Tree.prove L i) ∧ Below w0.heap.size w0 w' := by
  induction N using Nat.strongRecOn with
  | ind N ih =>
  intro w o n cap i L d hN hS Bw hI hi hn hdn hl
  subst hN
  have IH := Lib.hid ih; clear ih
  have hlen := hS.len
  have hcap := hS.cap
  have hmax := hS.max
  have HL := Lib.hid hL; clear hL
  have HLE := Lib.hid hl; clear hl
  by_cases h2 : 2 ≤ n
  · obtain ⟨b, off, rfl⟩ := hS.form (by omega)
    have ht1 : ((n : Int) == 1) = false := by rw [beq_eq_false_iff_ne]; omega
    obtain ⟨k, hk⟩ : ∃ k, k = Tree.half n := ⟨_, rfl⟩
    have hk1 : 1 ≤ k := by rw [hk]; exact Tree.half_pos h2
    have hkn : k < n := by rw [hk]; exact Tree.half_lt h2
    have hhalf := treeHalf_nat w n (by omega)
    rw [← hk] at hhalf
    have HH := Lib.hid hhalf; clear hhalf
    have HK := Lib.hid hk; clear hk
    have HT := Lib.hid (hS.take k k (by omega) (Nat.le_refl _) (by omega))
    have HD := Lib.hid (hS.drop k (by omega))
    have HI := Lib.hid hI; clear hI
    have FW := Lib.hid HI.out.2
    clear hS
    obtain ⟨i0, hi0, hz0, hz1, hz2⟩ := info_parts Tryd.info_hs
    have HI0 := Lib.hid hi0; clear hi0
    have HZ0 := Lib.hid hz0; clear hz0
    have HZ1 := Lib.hid hz1; clear hz1
    have HZ2 := Lib.hid hz2; clear hz2
    by_cases hlt : i < k
    · have ht2 : decide ((i : Int) < (k : Int)) = true := decide_eq_true (by omega)
      have ht2' : decide (i < k) = true := decide_eq_true hlt
      have hpl := Tree.prove_left (l := L) (i := i) (by omega) (by rw [hlen, ← HK.out]; exact hlt)
      rw [hlen, ← HK.out] at hpl
      have HPL := Lib.hid hpl; clear hpl
      go_enter Tryd.func25, Tryd.ntmps25
      go_wp2_with fail
      refine HH.out.mono ?_
      rintro e w' ⟨rfl, rfl⟩
      go_wp2_with fail

      refine wp_region_rel_tail [[], [], [], [], [1, 2, 3], [], [0, 4, 5]] (pcL w0.heap.size b off n cap k i) 46 6 (by kernel_rfl) (by kernel_rfl) (by kernel_rfl) (by kernel_rfl) (of_decide_eq_true (by kernel_rfl)) (pcL_mono w0.heap.size b off n cap k i) ?_ ?_
      · intro ix op him hi w2 b2 vs hv
        have hbb := b2
        match ix, him, hi with
        | 0, _, hi =>
          obtain rfl := Option.some.inj hi
          have hcf := cell_of_one ((b2.block _ (lt_of_block FW.out)).trans FW.out)
          simp only [relF, List.getD_cons_zero, List.getD_cons_succ, List.foldl_cons, List.foldl_nil, dstAt, List.getElem?_cons_zero, List.getElem?_cons_succ, Option.bind_some]
          go_wp2_with fail
          exact ⟨rfl, Below.refl _ _, rfl, rfl⟩
        | 1, _, hi =>
          obtain rfl := Option.some.inj hi
          simp only [relF, List.getD_cons_zero, List.getD_cons_succ, List.foldl_cons, List.foldl_nil, dstAt, List.getElem?_cons_zero, List.getElem?_cons_succ, Option.bind_some]
          go_wp2_with fail
          exact ⟨rfl, Below.refl _ _, rfl, rfl⟩
        | 2, _, hi =>
          obtain rfl := Option.some.inj hi
          simp only [relF, List.getD_cons_zero, List.getD_cons_succ, List.foldl_cons, List.foldl_nil, dstAt, List.getElem?_cons_zero, List.getElem?_cons_succ, Option.bind_some]
          go_wp2_with fail
          exact ⟨rfl, Below.refl _ _, rfl, rfl⟩
        | 3, _, hi =>
          obtain rfl := Option.some.inj hi
          simp only [relF, List.getD_cons_zero, List.getD_cons_succ, List.foldl_cons, List.foldl_nil, dstAt, List.getElem?_cons_zero, List.getElem?_cons_succ, Option.bind_some]
          go_wp2_with fail
          exact ⟨rfl, Below.refl _ _, rfl, rfl⟩
        | 4, _, hi =>
          obtain rfl := Option.some.inj hi
          have h1 : vs 1 = _ := hv 1 (by decide)
          have h2 : vs 2 = _ := hv 2 (by decide)
          have h3 : vs 3 = _ := hv 3 (by decide)
          simp only [relF, List.getD_cons_zero, List.getD_cons_succ, List.foldl_cons, List.foldl_nil, dstAt, List.getElem?_cons_zero, List.getElem?_cons_succ, Option.bind_some]
          go_frame
          rw [h1, h2, h3]
          go_wp2_with fail
          exact ⟨rfl, Below.refl _ _, rfl, rfl⟩
        | 5, _, hi =>
          obtain rfl := Option.some.inj hi
          simp only [relF, List.getD_cons_zero, List.getD_cons_succ, List.foldl_cons, List.foldl_nil, dstAt, List.getElem?_cons_zero, List.getElem?_cons_succ, Option.bind_some]
          go_wp2_with fail
          exact ⟨rfl, Below.refl _ _, rfl, rfl⟩
        | nx + 6, him, _ => exact absurd him (by omega)
      · intro w2 b2 vs hv
        have hbb := b2
        have h0 : vs 0 = _ := hv 0 (by decide)
        have h1 : vs 1 = _ := hv 1 (by decide)
        have h2 : vs 2 = _ := hv 2 (by decide)
        have h3 : vs 3 = _ := hv 3 (by decide)
        have h4 : vs 4 = _ := hv 4 (by decide)
        have h5 : vs 5 = _ := hv 5 (by decide)
        simp only [relF, List.drop_succ_cons, List.drop_zero, List.length_cons, List.length_nil, Nat.zero_add, Nat.reduceAdd, List.range, List.range.loop, List.foldl_cons, List.foldl_nil, dstAt, List.getElem?_cons_zero, List.getElem?_cons_succ, Option.bind_some]
        go_frame
        rw [h0, h1, h2, h3, h4, h5]
        go_wp2_with fail
        have hI2 : ProveInv w2 w0.heap.size d := by
          obtain ⟨⟨v, x1, x2⟩, x3⟩ := HI.out
          exact ⟨⟨v, (b2.block _ (lt_of_block x1)).trans x1, owns_below x2 b2⟩, (b2.block _ (lt_of_block x3)).trans x3⟩
        have Bw2 : Below w0.heap.size w0 w2 := Bw.trans (b2.mono Bw.size)
        refine (IH.out k (by omega) w2 _ k k i (L.take k) d rfl HT.out Bw2 hI2 hlt (by omega) (by omega) (fun l hl => HLE.out l (List.mem_of_mem_take hl))).mono ?_
        rintro e wr ⟨rfl, hI3, Br0⟩
        have hpn := Tree.prove_len k (L.take k) i (by rw [List.length_take]; omega)
        obtain ⟨d', hd'⟩ : ∃ d', d' = d ++ Tree.prove (L.take k) i := ⟨_, rfl⟩
        have hdl : d'.length ≤ d.length + k := by rw [hd', List.length_append]; omega
        rw [← hd'] at hI3
        have HD' := Lib.hid hd'; clear hd' hI2 hpn
        obtain ⟨⟨v, x1, x2⟩, x3⟩ := hI3
        obtain ⟨p, c, rfl⟩ := ownsRow_slice x2
        have VW := Lib.hid x1; clear x1
        have OW := Lib.hid x2; clear x2
        have FW3 := Lib.hid x3; clear x3
        have HLr := Lib.hid (HL.out.below Br0)
        go_wp2_with fail
        refine wp_region_rel_tail [[], [], [], [1, 2], [3], [4], [0, 5], [6]] (poL (.slice p d'.length c) b off n cap k L) 46 6 (by kernel_rfl) (by kernel_rfl) (by kernel_rfl) (by kernel_rfl) (of_decide_eq_true (by kernel_rfl)) (poL_mono (.slice p d'.length c) b off n cap k L) ?_ ?_
        · intro ix op him hi w2 b2 vs hv
          have hL2 := HLr.out.below b2
          match ix, him, hi with
          | 0, _, hi =>
            obtain rfl := Option.some.inj hi
            have hcv := cell_of_one ((b2.block _ (lt_of_block VW.out)).trans VW.out)
            simp only [relF, List.getD_cons_zero, List.getD_cons_succ, List.foldl_cons, List.foldl_nil, dstAt, List.getElem?_cons_zero, List.getElem?_cons_succ, Option.bind_some]
            go_wp2_with fail
            exact ⟨rfl, Below.refl _ _, rfl, rfl⟩
          | 1, _, hi =>
            obtain rfl := Option.some.inj hi
            simp only [relF, List.getD_cons_zero, List.getD_cons_succ, List.foldl_cons, List.foldl_nil, dstAt, List.getElem?_cons_zero, List.getElem?_cons_succ, Option.bind_some]
            go_wp2_with fail
            exact ⟨rfl, Below.refl _ _, rfl, rfl⟩
          | 2, _, hi =>
            obtain rfl := Option.some.inj hi
            simp only [relF, List.getD_cons_zero, List.getD_cons_succ, List.foldl_cons, List.foldl_nil, dstAt, List.getElem?_cons_zero, List.getElem?_cons_succ, Option.bind_some]
            go_wp2_with fail
            exact ⟨rfl, Below.refl _ _, rfl, rfl⟩
          | 3, _, hi =>
            obtain rfl := Option.some.inj hi
            have h1 : vs 1 = _ := hv 1 (by decide)
            have h2 : vs 2 = _ := hv 2 (by decide)
            simp only [relF, List.getD_cons_zero, List.getD_cons_succ, List.foldl_cons, List.foldl_nil, dstAt, List.getElem?_cons_zero, List.getElem?_cons_succ, Option.bind_some]
            go_frame
            rw [h1, h2]
            go_wp2_with fail
            exact ⟨rfl, Below.refl _ _, rfl, rfl⟩
          | 4, _, hi =>
            obtain rfl := Option.some.inj hi
            have h3 : vs 3 = _ := hv 3 (by decide)
            have hcd := HD.out.below (Nat.le_refl _) (Br0.trans (b2.mono Br0.size))
            simp only [relF, List.getD_cons_zero, List.getD_cons_succ, List.foldl_cons, List.foldl_nil, dstAt, List.getElem?_cons_zero, List.getElem?_cons_succ, Option.bind_some]
            go_frame
            rw [h3]
            go_wp2_with fail
            refine (treeTop_any (n - k) w2 _ _ _ _ rfl hcd (by omega) (fun l hl => HLE.out l (List.mem_of_mem_drop hl)) hL2).mono ?_
            rintro e w3 ⟨rfl, b3⟩
            go_wp2_with fail
            exact ⟨rfl, b3, rfl, rfl⟩
          | 5, _, hi =>
            obtain rfl := Option.some.inj hi
            have h4 : vs 4 = _ := hv 4 (by decide)
            have hbc : (byteCells (Tree.top (L.drop k))).length = 32 := by rw [byteCells_length, Tree.top_len]
            simp only [relF, List.getD_cons_zero, List.getD_cons_succ, List.foldl_cons, List.foldl_nil, dstAt, List.getElem?_cons_zero, List.getElem?_cons_succ, Option.bind_some]
            go_frame
            rw [h4]
            go_wp2_with fail
            exact ⟨rfl, (Below.refl _ _).alloc (Nat.le_refl _) _, rfl, w2.heap.size, rfl, alloc_built w2 hbc⟩
          | nx + 6, him, _ => exact absurd him (by omega)
        · intro w2 b2 vs hv
          have hL2 := HLr.out.below b2
          have h0 : vs 0 = _ := hv 0 (by decide)
          have h1 : vs 1 = _ := hv 1 (by decide)
          have h2 : vs 2 = _ := hv 2 (by decide)
          have h3 : vs 3 = _ := hv 3 (by decide)
          have h4 : vs 4 = _ := hv 4 (by decide)
          simp only [relF, List.drop_succ_cons, List.drop_zero, List.length_cons, List.length_nil, Nat.zero_add, Nat.reduceAdd, List.range, List.range.loop, List.foldl_cons, List.foldl_nil, dstAt, List.getElem?_cons_zero, List.getElem?_cons_succ, Option.bind_some]
          go_frame
          rw [h0, h1, h2, h3, h4]
          obtain ⟨g, hg1, hg2⟩ := hv 5 (by decide)
          rw [hg1]
          have ho2 := owns_below OW.out b2
          have hv2 := (b2.block _ (lt_of_block VW.out)).trans VW.out
          have hf2 := (b2.block _ (lt_of_block FW3.out)).trans FW3.out
          have HO2 := Lib.hid ho2; clear ho2
          have HG2 := Lib.hid hg2; clear hg2
          have hB2 : w0.heap.size + 2 ≤ w2.heap.size := by have := lt_of_block hf2; omega
          have htl : ((Tree.top (L.drop k))).length = 32 := Tree.top_len _
          go_wp2_with (at_builtin; refine wpList_append_own _ rfl _ _ 30 rfl (w0.heap.size + 2) 27 i0 (.agg zero32) 32 32 Tryd.under_hs HI0.out HZ0.out HZ1.out HZ2.out zero32_size (by decide) _ _ _ rfl HO2.out ⟨g, 0, none⟩ 1 1 (byteCells (Tree.top (L.drop k))) rfl (by rw [byteCells_length, htl]) (cells_row_at HG2.out) (byteCells_one _) (by unfold maxLen; omega) (by omega) hB2 ?_)
          intro v' w5 hown' hgrow _
          obtain ⟨⟨hc5, hf5⟩, hI5, B5⟩ := prove_store (h := (Tree.top (L.drop k))) rfl hv2 HO2.out hf2 hgrow hown'
          obtain ⟨p', c', rfl⟩ := ownsRow_slice hown'
          have HI5 := Lib.hid hI5; clear hI5 hown' hgrow
          go_wp2_with fail
          go_end0
          refine ⟨rfl, ?_, (Br0.trans (b2.mono Br0.size)).trans B5⟩
          have hh : d' ++ [(Tree.top (L.drop k))] = d ++ Tree.prove L i := by rw [HD'.out, List.append_assoc, HPL.out]
          rw [← hh]
          exact HI5.out
    · have ht2 : decide ((i : Int) < (k : Int)) = false := decide_eq_false (by omega)
      have ht2' : decide (i < k) = false := decide_eq_false hlt
      have hpl := Tree.prove_right (l := L) (i := i) (by omega) (by rw [hlen, ← HK.out]; exact hlt)
      rw [hlen, ← HK.out] at hpl
      have HPL := Lib.hid hpl; clear hpl
      go_enter Tryd.func25, Tryd.ntmps25
      go_wp2_with fail
      refine HH.out.mono ?_
      rintro e w' ⟨rfl, rfl⟩
      go_wp2_with fail

      refine wp_region_rel_tail [[], [], [], [1, 2], [], [], [4, 5], [0, 3, 6]] (pcR w0.heap.size b off n cap k i) 46 7 (by kernel_rfl) (by kernel_rfl) (by kernel_rfl) (by kernel_rfl) (of_decide_eq_true (by kernel_rfl)) (pcR_mono w0.heap.size b off n cap k i) ?_ ?_
      · intro ix op him hi w2 b2 vs hv
        have hbb := b2
        match ix, him, hi with
        | 0, _, hi =>
          obtain rfl := Option.some.inj hi
          have hcf := cell_of_one ((b2.block _ (lt_of_block FW.out)).trans FW.out)
          simp only [relF, List.getD_cons_zero, List.getD_cons_succ, List.foldl_cons, List.foldl_nil, dstAt, List.getElem?_cons_zero, List.getElem?_cons_succ, Option.bind_some]
          go_wp2_with fail
          exact ⟨rfl, Below.refl _ _, rfl, rfl⟩
        | 1, _, hi =>
          obtain rfl := Option.some.inj hi
          simp only [relF, List.getD_cons_zero, List.getD_cons_succ, List.foldl_cons, List.foldl_nil, dstAt, List.getElem?_cons_zero, List.getElem?_cons_succ, Option.bind_some]
          go_wp2_with fail
          exact ⟨rfl, Below.refl _ _, rfl, rfl⟩
        | 2, _, hi =>
          obtain rfl := Option.some.inj hi
          simp only [relF, List.getD_cons_zero, List.getD_cons_succ, List.foldl_cons, List.foldl_nil, dstAt, List.getElem?_cons_zero, List.getElem?_cons_succ, Option.bind_some]
          go_wp2_with fail
          exact ⟨rfl, Below.refl _ _, rfl, rfl⟩
        | 3, _, hi =>
          obtain rfl := Option.some.inj hi
          have h1 : vs 1 = _ := hv 1 (by decide)
          have h2 : vs 2 = _ := hv 2 (by decide)
          simp only [relF, List.getD_cons_zero, List.getD_cons_succ, List.foldl_cons, List.foldl_nil, dstAt, List.getElem?_cons_zero, List.getElem?_cons_succ, Option.bind_some]
          go_frame
          rw [h1, h2]
          go_wp2_with fail
          exact ⟨rfl, Below.refl _ _, rfl, rfl⟩
        | 4, _, hi =>
          obtain rfl := Option.some.inj hi
          simp only [relF, List.getD_cons_zero, List.getD_cons_succ, List.foldl_cons, List.foldl_nil, dstAt, List.getElem?_cons_zero, List.getElem?_cons_succ, Option.bind_some]
          go_wp2_with fail
          exact ⟨rfl, Below.refl _ _, rfl, rfl⟩
        | 5, _, hi =>
          obtain rfl := Option.some.inj hi
          simp only [relF, List.getD_cons_zero, List.getD_cons_succ, List.foldl_cons, List.foldl_nil, dstAt, List.getElem?_cons_zero, List.getElem?_cons_succ, Option.bind_some]
          go_wp2_with fail
          exact ⟨rfl, Below.refl _ _, rfl, rfl⟩
        | 6, _, hi =>
          obtain rfl := Option.some.inj hi
          have h4 : vs 4 = _ := hv 4 (by decide)
          have h5 : vs 5 = _ := hv 5 (by decide)
          simp only [relF, List.getD_cons_zero, List.getD_cons_succ, List.foldl_cons, List.foldl_nil, dstAt, List.getElem?_cons_zero, List.getElem?_cons_succ, Option.bind_some]
          go_frame
          rw [h4, h5]
          go_wp2_with fail
          exact ⟨rfl, Below.refl _ _, rfl, by show slotOf _ _ = _; simp [slotOf]; omega⟩
        | nx + 7, him, _ => exact absurd him (by omega)
      · intro w2 b2 vs hv
        have hbb := b2
        have h0 : vs 0 = _ := hv 0 (by decide)
        have h1 : vs 1 = _ := hv 1 (by decide)
        have h2 : vs 2 = _ := hv 2 (by decide)
        have h3 : vs 3 = _ := hv 3 (by decide)
        have h4 : vs 4 = _ := hv 4 (by decide)
        have h5 : vs 5 = _ := hv 5 (by decide)
        have h6 : vs 6 = _ := hv 6 (by decide)
        simp only [relF, List.drop_succ_cons, List.drop_zero, List.length_cons, List.length_nil, Nat.zero_add, Nat.reduceAdd, List.range, List.range.loop, List.foldl_cons, List.foldl_nil, dstAt, List.getElem?_cons_zero, List.getElem?_cons_succ, Option.bind_some]
        go_frame
        rw [h0, h1, h2, h3, h4, h5, h6]
        go_wp2_with fail
        have hI2 : ProveInv w2 w0.heap.size d := by
          obtain ⟨⟨v, x1, x2⟩, x3⟩ := HI.out
          exact ⟨⟨v, (b2.block _ (lt_of_block x1)).trans x1, owns_below x2 b2⟩, (b2.block _ (lt_of_block x3)).trans x3⟩
        have Bw2 : Below w0.heap.size w0 w2 := Bw.trans (b2.mono Bw.size)
        refine (IH.out (n - k) (by omega) w2 _ _ _ (i - k) (L.drop k) d rfl HD.out Bw2 hI2 (by omega) (by omega) (by omega) (fun l hl => HLE.out l (List.mem_of_mem_drop hl))).mono ?_
        rintro e wr ⟨rfl, hI3, Br0⟩
        have hpn := Tree.prove_len (n - k) (L.drop k) (i - k) (by rw [List.length_drop]; omega)
        obtain ⟨d', hd'⟩ : ∃ d', d' = d ++ Tree.prove (L.drop k) (i - k) := ⟨_, rfl⟩
        have hdl : d'.length ≤ d.length + (n - k) := by rw [hd', List.length_append]; omega
        rw [← hd'] at hI3
        have HD' := Lib.hid hd'; clear hd' hI2 hpn
        obtain ⟨⟨v, x1, x2⟩, x3⟩ := hI3
        obtain ⟨p, c, rfl⟩ := ownsRow_slice x2
        have VW := Lib.hid x1; clear x1
        have OW := Lib.hid x2; clear x2
        have FW3 := Lib.hid x3; clear x3
        have HLr := Lib.hid (HL.out.below Br0)
        go_wp2_with fail
        refine wp_region_rel_tail [[], [], [], [], [1, 2, 3], [4], [5], [0, 6], [7]] (poR (.slice p d'.length c) b off n cap k L) 46 7 (by kernel_rfl) (by kernel_rfl) (by kernel_rfl) (by kernel_rfl) (of_decide_eq_true (by kernel_rfl)) (poR_mono (.slice p d'.length c) b off n cap k L) ?_ ?_
        · intro ix op him hi w2 b2 vs hv
          have hL2 := HLr.out.below b2
          match ix, him, hi with
          | 0, _, hi =>
            obtain rfl := Option.some.inj hi
            have hcv := cell_of_one ((b2.block _ (lt_of_block VW.out)).trans VW.out)
            simp only [relF, List.getD_cons_zero, List.getD_cons_succ, List.foldl_cons, List.foldl_nil, dstAt, List.getElem?_cons_zero, List.getElem?_cons_succ, Option.bind_some]
            go_wp2_with fail
            exact ⟨rfl, Below.refl _ _, rfl, rfl⟩
          | 1, _, hi =>
            obtain rfl := Option.some.inj hi
            simp only [relF, List.getD_cons_zero, List.getD_cons_succ, List.foldl_cons, List.foldl_nil, dstAt, List.getElem?_cons_zero, List.getElem?_cons_succ, Option.bind_some]
            go_wp2_with fail
            exact ⟨rfl, Below.refl _ _, rfl, rfl⟩
          | 2, _, hi =>
            obtain rfl := Option.some.inj hi
            simp only [relF, List.getD_cons_zero, List.getD_cons_succ, List.foldl_cons, List.foldl_nil, dstAt, List.getElem?_cons_zero, List.getElem?_cons_succ, Option.bind_some]
            go_wp2_with fail
            exact ⟨rfl, Below.refl _ _, rfl, rfl⟩
          | 3, _, hi =>
            obtain rfl := Option.some.inj hi
            simp only [relF, List.getD_cons_zero, List.getD_cons_succ, List.foldl_cons, List.foldl_nil, dstAt, List.getElem?_cons_zero, List.getElem?_cons_succ, Option.bind_some]
            go_wp2_with fail
            exact ⟨rfl, Below.refl _ _, rfl, rfl⟩
          | 4, _, hi =>
            obtain rfl := Option.some.inj hi
            have h1 : vs 1 = _ := hv 1 (by decide)
            have h2 : vs 2 = _ := hv 2 (by decide)
            have h3 : vs 3 = _ := hv 3 (by decide)
            simp only [relF, List.getD_cons_zero, List.getD_cons_succ, List.foldl_cons, List.foldl_nil, dstAt, List.getElem?_cons_zero, List.getElem?_cons_succ, Option.bind_some]
            go_frame
            rw [h1, h2, h3]
            go_wp2_with fail
            exact ⟨rfl, Below.refl _ _, rfl, rfl⟩
          | 5, _, hi =>
            obtain rfl := Option.some.inj hi
            have h4 : vs 4 = _ := hv 4 (by decide)
            have hct := HT.out.below (Nat.le_refl _) (Br0.trans (b2.mono Br0.size))
            simp only [relF, List.getD_cons_zero, List.getD_cons_succ, List.foldl_cons, List.foldl_nil, dstAt, List.getElem?_cons_zero, List.getElem?_cons_succ, Option.bind_some]
            go_frame
            rw [h4]
            go_wp2_with fail
            refine (treeTop_any k w2 _ k k _ rfl hct (by omega) (fun l hl => HLE.out l (List.mem_of_mem_take hl)) hL2).mono ?_
            rintro e w3 ⟨rfl, b3⟩
            go_wp2_with fail
            exact ⟨rfl, b3, rfl, rfl⟩
          | 6, _, hi =>
            obtain rfl := Option.some.inj hi
            have h5 : vs 5 = _ := hv 5 (by decide)
            have hbc : (byteCells (Tree.top (L.take k))).length = 32 := by rw [byteCells_length, Tree.top_len]
            simp only [relF, List.getD_cons_zero, List.getD_cons_succ, List.foldl_cons, List.foldl_nil, dstAt, List.getElem?_cons_zero, List.getElem?_cons_succ, Option.bind_some]
            go_frame
            rw [h5]
            go_wp2_with fail
            exact ⟨rfl, (Below.refl _ _).alloc (Nat.le_refl _) _, rfl, w2.heap.size, rfl, alloc_built w2 hbc⟩
          | nx + 7, him, _ => exact absurd him (by omega)
        · intro w2 b2 vs hv
          have hL2 := HLr.out.below b2
          have h0 : vs 0 = _ := hv 0 (by decide)
          have h1 : vs 1 = _ := hv 1 (by decide)
          have h2 : vs 2 = _ := hv 2 (by decide)
          have h3 : vs 3 = _ := hv 3 (by decide)
          have h4 : vs 4 = _ := hv 4 (by decide)
          have h5 : vs 5 = _ := hv 5 (by decide)
          simp only [relF, List.drop_succ_cons, List.drop_zero, List.length_cons, List.length_nil, Nat.zero_add, Nat.reduceAdd, List.range, List.range.loop, List.foldl_cons, List.foldl_nil, dstAt, List.getElem?_cons_zero, List.getElem?_cons_succ, Option.bind_some]
          go_frame
          rw [h0, h1, h2, h3, h4, h5]
          obtain ⟨g, hg1, hg2⟩ := hv 6 (by decide)
          rw [hg1]
          have ho2 := owns_below OW.out b2
          have hv2 := (b2.block _ (lt_of_block VW.out)).trans VW.out
          have hf2 := (b2.block _ (lt_of_block FW3.out)).trans FW3.out
          have HO2 := Lib.hid ho2; clear ho2
          have HG2 := Lib.hid hg2; clear hg2
          have hB2 : w0.heap.size + 2 ≤ w2.heap.size := by have := lt_of_block hf2; omega
          have htl : ((Tree.top (L.take k))).length = 32 := Tree.top_len _
          go_wp2_with (at_builtin; refine wpList_append_own _ rfl _ _ 30 rfl (w0.heap.size + 2) 27 i0 (.agg zero32) 32 32 Tryd.under_hs HI0.out HZ0.out HZ1.out HZ2.out zero32_size (by decide) _ _ _ rfl HO2.out ⟨g, 0, none⟩ 1 1 (byteCells (Tree.top (L.take k))) rfl (by rw [byteCells_length, htl]) (cells_row_at HG2.out) (byteCells_one _) (by unfold maxLen; omega) (by omega) hB2 ?_)
          intro v' w5 hown' hgrow _
          obtain ⟨⟨hc5, hf5⟩, hI5, B5⟩ := prove_store (h := (Tree.top (L.take k))) rfl hv2 HO2.out hf2 hgrow hown'
          obtain ⟨p', c', rfl⟩ := ownsRow_slice hown'
          have HI5 := Lib.hid hI5; clear hI5 hown' hgrow
          go_wp2_with fail
          go_end0
          refine ⟨rfl, ?_, (Br0.trans (b2.mono Br0.size)).trans B5⟩
          have hh : d' ++ [(Tree.top (L.take k))] = d ++ Tree.prove L i := by rw [HD'.out, List.append_assoc, HPL.out]
          rw [← hh]
          exact HI5.out
  · obtain rfl : n = 1 := by omega
    have hps := Tree.prove_small (l := L) (by rw [hlen]; omega) i
    have HPS := Lib.hid hps; clear hps
    go_enter Tryd.func25, Tryd.ntmps25
    go_wp2_with fail
    refine bodyPost_ret (results_none rfl _ _ _) rfl ?_
    exact ⟨rfl, by rw [HPS.out, List.append_nil]; exact hI, Bw⟩

set_option maxRecDepth 100000 in
set_option maxHeartbeats 1000000 in
theorem treeProve_any (w : World) (o : Option Addr) (n cap i : Nat) (L : List (List UInt8)) (hS : StrsAt w o n cap L) (hi : i < n) (hn : n ≤ 500000) (hl : ∀ l ∈ L, l.length ≤ 100000) (hL : Laid w) :
    Calls Tryd.prog 13 #[.slice o n cap, .int .i64 (i : Int)] w fun e w' => ∃ q c, e = .returned (.tuple #[.slice q (Tree.prove L i).length c, .int .i64 0]) ∧ w'.ownsRow (w.heap.size + 2) 27 32 (.slice q (Tree.prove L i).length c) (Tree.prove L i).length (hashCells (Tree.prove L i)) ∧ Below w.heap.size w w' := by
  have hmf : ∀ (fn : Fn) (first cap : Array Value) (w : World), (Instr.makeFunc fn first cap).run Tryd.prog w = .ok (.func fn first cap) w := fun _ _ _ _ => rfl
  have hlen := hS.len
  have hcap := hS.cap
  have hmax := hS.max
  have ht1 : decide ((i : Int) < 0) = false := decide_eq_false (by omega)
  have ht2 : decide ((n : Int) ≤ (i : Int)) = false := decide_eq_false (by omega)
  have ht3 : decide (n ≤ i) = false := decide_eq_false (by omega)
  obtain ⟨R, hR⟩ : ∃ R, R = Tree.prove L i := ⟨_, rfl⟩
  rw [← hR]
  have HR := Lib.hid hR; clear hR
  have HREC := Lib.hid fun w1 h1 h2 => proveRec_any w hL n w1 o n cap i L [] rfl hS h1 h2 hi (by omega) (by simp; omega) hl
  clear hS hL hl
  have xf : ((w.alloc (.cells #[.slice none 0 0] 30)).alloc (.cells #[.nilFunc] 48)).heap[w.heap.size + 1]? = some (.cells #[.nilFunc] 48 (0, 0)) := by
    have := heap_alloc_new (w.alloc (.cells #[.slice none 0 0] 30)) (.cells #[.nilFunc] 48)
    simpa using this
  have hcf := cell_of_one xf
  have hff := free_of_one xf
  have hcg := cell_of_one (one_setCell (u := .func (.func 25) #[] #[.pointer (some ⟨w.heap.size + 1, 0, none⟩), .pointer (some ⟨w.heap.size, 0, none⟩)]) xf)
  have XF := Lib.hid xf; clear xf
  go_enter Tryd.func13, Tryd.ntmps13
  go_wp2_with fail
  refine (HREC.out _ ?_ ?_).mono ?_
  · exact ((Below.refl _ _).alloc (Nat.le_refl _) _).alloc (by simp) _
  · refine ⟨⟨.slice none 0 0, ?_, World.ownsRow_nil _ _ _ _⟩, ?_⟩
    · rw [Below.heap_alloc _ _ _ (by simp)]; exact heap_alloc_new w _
    · have := heap_alloc_new (w.alloc (.cells #[.slice none 0 0] 30)) (.cells #[.func (.func 25) #[] #[.pointer (some ⟨w.heap.size + 1, 0, none⟩), .pointer (some ⟨w.heap.size, 0, none⟩)]] 48)
      simpa using this
  rintro e w1 ⟨rfl, hI, B1⟩
  rw [List.nil_append, ← HR.out] at hI
  obtain ⟨⟨v, x1, x2⟩, x3⟩ := hI
  obtain ⟨q, c, rfl⟩ := ownsRow_slice x2
  have hc1 := cell_of_one x1
  have X2 := Lib.hid x2; clear x2
  clear x3 x1
  go_wp2_with fail
  go_ret2
  exact ⟨q, c, rfl, X2.out, B1⟩

set_option maxRecDepth 100000 in
theorem treeProve_bad (w : World) (o : Option Addr) (n cap : Nat) (i : Int) (hi : i < 0 ∨ (n : Int) ≤ i) (hn : n ≤ 9223372036854775807) (h1 : -9223372036854775808 ≤ i) :
    Calls Tryd.prog 13 #[.slice o n cap, .int .i64 i] w fun e w' => w = w' ∧ e = .returned (.tuple #[.slice none 0 0, .int .i64 30]) := by
  rcases hx : decide (i < 0) with _ | _
  · have ht2 : decide ((n : Int) ≤ i) = true := decide_eq_true (by have := of_decide_eq_false hx; omega)
    go_enter Tryd.func13, Tryd.ntmps13
    go_wp2_with fail
    go_ret2
    exact ⟨rfl, rfl⟩
  · go_enter Tryd.func13, Tryd.ntmps13
    go_wp2_with fail
    go_ret2
    exact ⟨rfl, rfl⟩

end Go.Proofs.YtaihojahccplcaaDoor
