/- TreeR1, J1, TreeR2, J2, TreeR3, TreeR4, TreeLaw, TreeClash, Clash1, Clash2, J3, in one text. -/
import Derived.Test.YtjlaoijmcenahaaDoorG4a
import Derived.Test.YtjlaoijmcenahaaDoorRefOf
import Derived.Test.YtjlaoijmcenahaaDoorG0a
import Derived.Test.YtjlaoijmcenahaaDoorG0b
import Derived.OwnWalk
import Derived.ArgAppend
/- The walks of the reference's half, leaf, node, sum, and their kin. -/
namespace Go.Proofs.YtjlaoijmcenahaaDoor
open Go.RowKit
set_option linter.unusedSimpArgs false
set_option linter.unusedVariables false

end Go.Proofs.YtjlaoijmcenahaaDoor

/- The walks of journal.Sum and of the reference's sums. -/
namespace Go.Proofs.YtjlaoijmcenahaaDoor
open Go.RowKit
set_option linter.unusedSimpArgs false
set_option linter.unusedVariables false

set_option maxRecDepth 100000 in
set_option maxHeartbeats 2000000 in
theorem jSum_any (w : World) (a r : List UInt8) (ha : a.length = 32) (hr : r.length ≤ 100000) (hL : Laid w) :
    Calls Tryd.prog 17 #[.agg (byteCells a).toArray, .string (strOf r)] w fun e w' => e = .returned (.agg (byteCells (J.sum a r)).toArray) ∧ Below w.heap.size w w' := by
  obtain ⟨W0, hW0⟩ : ∃ W0, W0 = (w.alloc (.cells (byteCells a).toArray 31)).alloc (.cells zero32 31) := ⟨_, rfl⟩
  have xa : W0.heap[w.heap.size]? = some (.cells (byteCells a).toArray 31 (0, 0)) := by
    rw [hW0, Below.heap_alloc _ _ _ (by simp)]; exact heap_alloc_new w _
  have xz : W0.heap[w.heap.size + 1]? = some (.cells zero32 31 (0, 0)) := by
    rw [hW0]; have := heap_alloc_new (w.alloc (.cells (byteCells a).toArray 31)) (.cells zero32 31); simpa using this
  have b0 : Below w.heap.size w W0 := by rw [hW0]; exact ((Below.refl _ _).alloc (Nat.le_refl _) _).alloc (by simp) _
  have s0 : W0.heap.size = w.heap.size + 2 := by rw [hW0]; simp
  obtain ⟨cap, W, hcv, hM, bW, sW⟩ := str_bytes Tryd.under_str Tryd.under_u8s Tryd.under_b8 (W0.alloc (.cells #[.int .u8 4] 5)) r (by omega)
  have hs1 : (W0.alloc (.cells #[.int .u8 4] 5)).heap.size = w.heap.size + 2 + 1 := by simp [s0]
  have bW1 : Below W0.heap.size W0 W := ((Below.refl _ _).alloc (Nat.le_refl _) _).trans (bW.mono (by simp))
  have k1 : Lib.HoldsBytes (W0.alloc (.cells #[.int .u8 4] 5)) (.slice (some ⟨W0.heap.size, 0, none⟩) 1 1) [4] := holds_one W0 5 4
  have k2 : Lib.HoldsBytes W (.slice (some ⟨w.heap.size, 0, none⟩) 32 32) a := holds_hash ha ((bW1.block _ (by omega)).trans xa)
  have hp := parts_new W 44 [_, _, _] [[4], a, r] 3 rfl rfl (parts_three (holds_below k1 bW) k2 hM.holds)
  rw [hs1] at hcv hp
  rw [s0] at hp
  obtain ⟨W2, hW2⟩ : ∃ W2, W2 = W.alloc (.cells #[.slice (some ⟨w.heap.size + 2, 0, none⟩) 1 1, .slice (some ⟨w.heap.size, 0, none⟩) 32 32, .slice (some ⟨w.heap.size + 2 + 1, 0, none⟩) r.length cap] 44) := ⟨_, rfl⟩
  have hp2 : PartsV W2 (.slice (some ⟨W.heap.size, 0, none⟩) 3 3) [[4], a, r] := by rw [hW2]; exact hp
  have b2 : Below W0.heap.size W0 W2 := by rw [hW2]; exact bW1.alloc bW1.size _
  have b02 := b0.trans (b2.mono b0.size)
  have hof := of_any W2 _ _ hp2 (by simp) (by simp; omega) (hL.below b02)
  rw [show [[4], a, r].flatten = 4 :: (a ++ r) by simp, show Sha.of (4 :: (a ++ r)) = J.sum a r from rfl] at hof
  have x2 := (b2.block (w.heap.size + 1) (by omega)).trans xz
  have HOF := Lib.hid hof; clear hof hp hp2 hL k1 k2 hM
  have HW2 := Lib.hid hW2; clear hW2
  have X2 := Lib.hid x2; clear x2 xa xz
  have hsl := J.sum_len a r
  have HSL := Lib.hid hsl; clear hsl
  have HW0 := Lib.hid hW0; clear hW0
  clear sW hs1 bW bW1
  go_enter Tryd.func17, Tryd.ntmps17
  go_wp2_with ((with_reducible show wpList _ _ _ (⟨some 5, _, _, _, _, _⟩ :: _) _ _); change wpList _ _ _ _ _ ((w.alloc (.cells (byteCells a).toArray 31)).alloc (.cells zero32 31)); rw [← HW0.out])
  rw [← HW2.out]
  refine HOF.out.mono ?_
  rintro e w3 ⟨rfl, b3⟩
  have X3 := (b3.block _ (lt_of_block X2.out)).trans X2.out
  have B3 := b02.trans (b3.mono b02.size)
  go_wp2_with ((with_reducible show wpList _ _ _ (⟨none, .store 31 (.tmp 4) (.tmp 10), _, _, _, _⟩ :: _) _ _); refine wpList_put_hash (o := ⟨none, .store _ _ _, _, _, _, _⟩) rfl _ _ rfl (w.heap.size + 1) rfl (J.sum a r) HSL.out rfl _ _ X3 zero32_size ?_)
  refine bodyPost_ret (results_hash rfl _ _ _ _ _ _ rfl HSL.out (hset_heap _ X3)) rfl ⟨rfl, hset_below _ B3 (by omega)⟩

set_option maxRecDepth 100000 in
set_option maxHeartbeats 1000000 in
theorem refJsum_any (w : World) (a r : List UInt8) (ha : a.length ≤ 100000) (hr : r.length ≤ 100000) :
    Calls Tryd.prog 26 #[.string (strOf a), .string (strOf r)] w fun e w' => e = .returned (.string (strOf (J.sum a r))) ∧ Below w.heap.size w w' := by
  have h1 : (⟨#[4]⟩ : ByteArray) ++ strOf a = strOf (4 :: a) := add_str [4] a
  have h2 : strOf (4 :: a) ++ strOf r = strOf (4 :: (a ++ r)) := add_str (4 :: a) r
  have s0 : (⟨#[4]⟩ : ByteArray).size = 1 := rfl
  have s1 := strOf_size a
  have s2 := strOf_size r
  have s3 : (strOf (4 :: a)).size = a.length + 1 := strOf_size _
  have hc := refOf_any w (4 :: (a ++ r)) (by simp; omega)
  rw [show Sha.of (4 :: (a ++ r)) = J.sum a r from rfl] at hc
  have HC := Lib.hid hc; clear hc
  go_enter Tryd.func26, Tryd.ntmps26
  go_wp2_with fail
  refine HC.out.mono ?_
  rintro e w' ⟨rfl, b⟩
  go_wp2_with fail
  go_ret
  exact ⟨rfl, b⟩

end Go.Proofs.YtjlaoijmcenahaaDoor

/- The walks of the reference's Leaf, Node, top, Top, root, Root. -/
namespace Go.Proofs.YtjlaoijmcenahaaDoor
open Go.RowKit
set_option linter.unusedSimpArgs false
set_option linter.unusedVariables false

/-- 'string(h[:])'. -/
theorem hash_str {w : World} {b : Nat} {S : List UInt8} {t : TypeId} {fr : Nat × Nat} (hS : S.length = 32) (h : w.heap[b]? = some (.cells (byteCells S).toArray t fr)) :
    (convert 44 9 (.slice (some ⟨b, 0, none⟩) 32 32)).run Tryd.prog w = .ok (.string (strOf S)) w := by
  have hr := run_convert_bytes_back (P := Tryd.prog) w 44 9 5 ⟨b, 0, none⟩ 32 S Tryd.under_bytes Tryd.under_byte Tryd.under_string (fun j hj => cells_row_at h j _ (by simp [byteCells, hj]))
  rw [hS] at hr
  exact hr

/-- What the region's operations leave. -/
def refNodeV (B : Nat) (a b : List UInt8) (ix : Nat) (w : World) (v : Value) : Prop :=
  match ix with
  | 0 => v = .slice (some ⟨B, 0, none⟩) 32 32
  | 1 => v = .string (strOf a)
  | 2 => v = .slice (some ⟨B + 1, 0, none⟩) 32 32
  | 3 => v = .string (strOf b)
  | 4 => v = .string (strOf (Tree.node a b))
  | 5 => v = .agg (byteCells (Tree.node a b)).toArray
  | _ => True

theorem refNodeV_mono (B : Nat) (a b : List UInt8) (j : Nat) (w w' : World) (v : Value) (hb : Below w.heap.size w w') (h : refNodeV B a b j w v) : refNodeV B a b j w' v := by
  match j, h with
  | 0, h => exact h
  | 1, h => exact h
  | 2, h => exact h
  | 3, h => exact h
  | 4, h => exact h
  | 5, h => exact h
  | _ + 6, h => exact trivial

/-- What the region's operations leave. -/
def refTopV (b off n cap k : Nat) (L : List (List UInt8)) (ix : Nat) (w : World) (v : Value) : Prop :=
  match ix with
  | 0 => v = .slice (some ⟨b, off, none⟩) n cap
  | 1 => v = .int .i64 (k : Int)
  | 2 => v = .slice (some ⟨b, off, none⟩) k cap
  | 3 => v = .string (strOf (Tree.top (L.take k)))
  | 4 => v = .slice (some ⟨b, off, none⟩) n cap
  | 5 => v = .int .i64 (k : Int)
  | 6 => v = .slice (some ⟨b, off + k, none⟩) (n - k) (cap - k)
  | 7 => v = .string (strOf (Tree.top (L.drop k)))
  | 8 => v = .string (strOf (Tree.top L))
  | 9 => v = .string (strOf (Tree.top L))
  | _ => True

theorem refTopV_mono (b off n cap k : Nat) (L : List (List UInt8)) (j : Nat) (w w' : World) (v : Value) (hb : Below w.heap.size w w') (h : refTopV b off n cap k L j w v) : refTopV b off n cap k L j w' v := by
  match j, h with
  | 0, h => exact h
  | 1, h => exact h
  | 2, h => exact h
  | 3, h => exact h
  | 4, h => exact h
  | 5, h => exact h
  | 6, h => exact h
  | 7, h => exact h
  | 8, h => exact h
  | 9, h => exact h
  | _ + 10, h => exact trivial

end Go.Proofs.YtjlaoijmcenahaaDoor

/- The walks of the reference's begin and Sum. -/
namespace Go.Proofs.YtjlaoijmcenahaaDoor
open Go.RowKit
set_option linter.unusedSimpArgs false
set_option linter.unusedVariables false

theorem made_zero (n : Nat) : (madeCells (Value.cells (.int .u8 0)) (n * 1)).toList = byteCells (List.replicate n 0) := by
  apply List.ext_getElem
  · simp [madeCells, byteCells]
  · intro i h1 h2
    simp [madeCells, byteCells, Value.cells, Nat.mod_one]

set_option maxRecDepth 100000 in
set_option maxHeartbeats 1000000 in
theorem refBegin_any (w : World) :
    Calls Tryd.prog 24 #[] w fun e w' => e = .returned (.string (strOf J.zero)) ∧ Below w.heap.size w w' := by
  obtain ⟨i0, hi, hz0, hz1, hz2⟩ := info_parts Tryd.info_byte
  go_enter Tryd.func24, Tryd.ntmps24
  go_wp2_with ((with_reducible show wpList _ _ _ (⟨some 1, _, _, _, _, _⟩ :: _) _ _); refine wpList_make_full (o := ⟨some 1, _, _, _, _, _⟩) w rfl _ _ 44 rfl w.heap.size 5 i0 (.int .u8 0) 1 Tryd.under_bytes hi hz0 hz1 .i64 .i64 32 32 32 rfl rfl rfl rfl (by rw [hz2]; decide) (by decide) (Nat.le_refl _) ?_)
  intro w' hown hg
  have hown2 : w'.ownsRow w.heap.size 5 1 (.slice (some ⟨w.heap.size, 0, none⟩) 32 32) 32 (byteCells (List.replicate 32 0)) := by rw [← made_zero 32]; exact hown
  have hcv := out_string (bs := List.replicate 32 0) (by rw [List.length_replicate]; exact hown2)
  have b := grown_below hg (fun k hk => by cases hk) (Nat.le_refl _)
  go_wp2_with fail
  go_ret
  exact ⟨rfl, b⟩


set_option maxRecDepth 100000 in
set_option maxHeartbeats 2000000 in
theorem refSumH_any (w : World) (a r : List UInt8) (ha : a.length = 32) (hr : r.length ≤ 100000) :
    Calls Tryd.prog 18 #[.agg (byteCells a).toArray, .string (strOf r)] w fun e w' => e = .returned (.agg (byteCells (J.sum a r)).toArray) ∧ Below w.heap.size w w' := by
  obtain ⟨W0, hW0⟩ : ∃ W0, W0 = (w.alloc (.cells (byteCells a).toArray 31)).alloc (.cells zero32 31) := ⟨_, rfl⟩
  have xa : W0.heap[w.heap.size]? = some (.cells (byteCells a).toArray 31 (0, 0)) := by
    rw [hW0, Below.heap_alloc _ _ _ (by simp)]; exact heap_alloc_new w _
  have xz : W0.heap[w.heap.size + 1]? = some (.cells zero32 31 (0, 0)) := by
    rw [hW0]; have := heap_alloc_new (w.alloc (.cells (byteCells a).toArray 31)) (.cells zero32 31); simpa using this
  have b0 : Below w.heap.size w W0 := by rw [hW0]; exact ((Below.refl _ _).alloc (Nat.le_refl _) _).alloc (by simp) _
  have s0 : W0.heap.size = w.heap.size + 2 := by rw [hW0]; simp
  have hcv := hash_str ha xa
  have hc := refJsum_any W0 a r (by omega) hr
  obtain ⟨S, hSe⟩ : ∃ S, S = J.sum a r := ⟨_, rfl⟩
  have hS : S.length = 32 := by rw [hSe]; exact J.sum_len a r
  rw [← hSe] at hc ⊢
  clear hSe
  have HC := Lib.hid hc; clear hc
  have XZ := Lib.hid xz; clear xz
  have HW0 := Lib.hid hW0; clear hW0
  have hst := strOf_size S
  have hrl : (List.replicate 32 (0 : UInt8)).length = 32 := List.length_replicate ..
  have HRL := Lib.hid hrl; clear hrl
  have HS := Lib.hid hS
  clear xa
  go_enter Tryd.func18, Tryd.ntmps18
  go_wp2_with ((with_reducible show wpList _ _ _ (⟨some 8, _, _, _, _, _⟩ :: _) _ _); change wpList _ _ _ _ _ ((w.alloc (.cells (byteCells a).toArray 31)).alloc (.cells zero32 31)); rw [← HW0.out])
  refine HC.out.mono ?_
  rintro e w1 ⟨rfl, b1⟩
  obtain ⟨W2, hW2⟩ : ∃ W2, W2 = hset (w1.alloc (.cells zero32 31)) w1.heap.size (List.replicate 32 0) := ⟨_, rfl⟩
  have x1 : W2.heap[w1.heap.size]? = some (.cells (byteCells (List.replicate 32 0)).toArray 31 (0, 0)) := by rw [hW2]; exact hset_heap _ (heap_alloc_new w1 _)
  have b2 : Below w1.heap.size w1 W2 := by rw [hW2]; exact hset_below _ ((Below.refl _ _).alloc (Nat.le_refl _) _) (Nat.le_refl _)
  have z1 := (b1.block _ (lt_of_block XZ.out)).trans XZ.out
  have z2 := (b2.block _ (lt_of_block z1)).trans z1
  have B1 := b0.trans ((b1.trans (b2.mono b1.size)).mono b0.size)
  have X1 := Lib.hid x1; clear x1
  have X0 := Lib.hid z2; clear z1 z2
  have hlt1 := b1.size
  have hlt1' : w.heap.size + 2 ≤ w1.heap.size := by omega
  have HW2 := Lib.hid hW2; clear hW2 b2 b1 hcv
  go_wp2_with (first | ((with_reducible show wpList _ _ _ (⟨some 12, _, _, _, _, _⟩ :: _) _ _); refine wpList_zero_hash (op := ⟨some 12, _, _, _, _, _⟩) (by kernel_rfl) rfl ?_) | ((with_reducible show wpList _ _ _ (⟨none, .store 31 (.tmp 6) (.tmp 12), _, _, _, _⟩ :: _) _ _); change wpList _ _ _ _ _ (World.alloc w1 (.cells zero32 31)); refine wpList_put_hash (o := ⟨none, .store _ _ _, _, _, _, _⟩) rfl _ _ rfl _ rfl (List.replicate 32 0) HRL.out rfl _ _ (heap_alloc_new _ _) zero32_size ?_; rw [← HW2.out]))
  go_loopw [7] (fun i wr => ∃ t : Nat, t ≤ 32 ∧ i = .int .i64 (t : Int) ∧ Hid (wr.heap[w1.heap.size]? = some (.cells (byteCells (S.take t ++ List.replicate (32 - t) 0)).toArray 31 (0, 0))) ∧ Hid (wr.heap[w.heap.size + 1]? = some (.cells zero32 31 (0, 0))) ∧ Below w.heap.size w wr) (fun i _ => 32 - (intOf i).toNat)
  case atStart => exact ⟨0, by omega, rfl, X1, X0, B1⟩
  case round =>
    clear X1 X0 B1 HW2
    obtain ⟨t, ht, rfl, x1, x2, Br⟩ := hrel
    by_cases hlt : t < 32
    · have ht1 : decide ((t : Int) < 32) = true := decide_eq_true (by omega)
      have ht2 : decide ((t : Int) < (S.length : Int)) = true := decide_eq_true (by omega)
      have ht3 : decide (t < S.length) = true := decide_eq_true (by omega)
      obtain ⟨x, hx⟩ : ∃ x, S[t]? = some x := ⟨_, List.getElem?_eq_getElem (by rw [HS.out]; exact hlt)⟩
      have hsx : (strOf S)[t]'(by rw [hst]; omega) = x := by
        have := (List.getElem?_eq_some_iff.1 hx).2
        rw [← this]; simp [strOf, ByteArray.getElem_eq_getElem_data]
      have hz : (S.take t ++ List.replicate (32 - t) 0)[t]? = some 0 := by
        rw [List.getElem?_append_right (by rw [List.length_take]; omega), List.length_take, HS.out, List.getElem?_replicate]
        rw [if_pos (by omega)]
      have hc2 : wr.cell? ⟨w1.heap.size, t, none⟩ = some (.int .u8 0) := by
        have := range_row x1.out t _ (byteCells_get hz)
        rwa [Nat.zero_add] at this
      have hf := wfree x1.out t
      have HX := Lib.hid hx; clear hx hz
      go_wp2_with fail
      go_roundw
      case rel =>
        refine ⟨t + 1, by omega, by go_num, Lib.hid ?_, Lib.hid ?_, Br.setCell (p := ⟨w1.heap.size, t, none⟩) (by simp only; omega) _⟩
        · rw [heap_setCell_same _ _ _ _ _ _ x1.out, byteCells_set, take_set S t x HS.out HX.out]
        · rw [heap_setCell_other _ _ _ _ (by simp only; omega)]; exact x2.out
      case measure => simp [intOf]; omega
    · obtain rfl : t = 32 := by omega
      have y1 : wr.heap[w1.heap.size]? = some (.cells (byteCells S).toArray 31 (0, 0)) := by
        rw [x1.out, List.take_of_length_le (by rw [HS.out]; exact Nat.le_refl _), Nat.sub_self, List.replicate_zero, List.append_nil]
      have Y1 := Lib.hid y1; clear y1 x1
      go_wp2_with (first | ((with_reducible show wpList _ _ _ (⟨some 22, _, _, _, _, _⟩ :: _) _ _); refine wpList_load_hash (op := ⟨some 22, _, _, _, _, _⟩) (by kernel_rfl) _ rfl w1.heap.size rfl S HS.out _ _ Y1.out ?_) | ((with_reducible show wpList _ _ _ (⟨none, .store 31 (.tmp 4) (.tmp 22), _, _, _, _⟩ :: _) _ _); refine wpList_put_hash (o := ⟨none, .store _ _ _, _, _, _, _⟩) rfl _ _ rfl (w.heap.size + 1) rfl S HS.out rfl _ _ x2.out zero32_size ?_))
      refine bodyPost_ret (results_hash rfl _ _ _ _ _ _ rfl HS.out (hset_heap _ x2.out)) rfl ⟨rfl, hset_below _ Br (by omega)⟩

end Go.Proofs.YtjlaoijmcenahaaDoor

/- The walks of the reference's Deep, up, Check. -/
namespace Go.Proofs.YtjlaoijmcenahaaDoor
open Go.RowKit
set_option linter.unusedSimpArgs false
set_option linter.unusedVariables false

theorem HashesAt.take {w : World} {o : Option Addr} {n cap : Nat} {P : List (List UInt8)} (h : HashesAt w o n cap P) (k c : Nat) (hk : k ≤ n) (hc : k ≤ c) (hm : c ≤ 9223372036854775807) : HashesAt w o k c (P.take k) := by
  refine ⟨⟨by rw [List.length_take, h.1.1]; omega, hc, hm, fun h0 => ?_⟩, fun p hp => h.2 p (List.mem_of_mem_take hp)⟩
  obtain ⟨b, off, h5, h6, h7⟩ := h.1.2.2.2 (by omega)
  refine ⟨b, off, h5, h6, fun i l hl => h7 i l ?_⟩
  rw [List.getElem?_take] at hl
  split at hl
  · exact hl
  · cases hl

/-- The reference's Deep: bad and good. -/
def badDeep (n i : Int) : Bool := badSide n i

theorem climb_snoc {t x : List UInt8} {b : Bool} {sd : List Bool} {p : List (List UInt8)} (h : sd.length = p.length) : Tree.climb t (b :: sd) (p ++ [x]) = Tree.step (Tree.climb t sd p) (b, x) := by
  unfold Tree.climb
  rw [List.reverse_cons, List.zip_append (by rw [List.length_reverse, h]), List.foldl_append]
  rfl

theorem take_last {P : List (List UInt8)} {m : Nat} {x : List UInt8} (hl : P.length = m + 1) (hx : P[m]? = some x) : P = P.take m ++ [x] := by
  have := List.take_add_one (l := P) (i := m)
  rw [hx, List.take_of_length_le (by omega)] at this
  exact this

/-- What the region's operations leave. -/
def rcheckV (want t : List UInt8) (n : Nat) (ix : Nat) (w : World) (v : Value) : Prop :=
  match ix with
  | 0 => v = .bool true
  | 1 => v = .bool true
  | 2 => v = .int .i64 (n : Int)
  | 3 => v = .string (strOf t)
  | 4 => v = .agg (byteCells (Tree.root n t)).toArray
  | 5 => v = .agg (byteCells want).toArray
  | 6 => v = .bool (Tree.root n t == want)
  | 7 => v = .bool (Tree.root n t == want)
  | 8 => v = .bool (Tree.root n t == want)
  | _ => True

theorem rcheckV_mono (want t : List UInt8) (n : Nat) (j : Nat) (w w' : World) (v : Value) (hb : Below w.heap.size w w') (h : rcheckV want t n j w v) : rcheckV want t n j w' v := by
  match j, h with
  | 0, h => exact h
  | 1, h => exact h
  | 2, h => exact h
  | 3, h => exact h
  | 4, h => exact h
  | 5, h => exact h
  | 6, h => exact h
  | 7, h => exact h
  | 8, h => exact h
  | _ + 9, h => exact trivial

/-- What the region's operations leave. -/
def rcheckV0 (want t : List UInt8) (n : Nat) (ix : Nat) (w : World) (v : Value) : Prop :=
  match ix with
  | 0 => v = .bool false
  | 1 => v = .bool false
  | 2 => True
  | 3 => True
  | 4 => True
  | 5 => True
  | 6 => True
  | 7 => v = .bool false
  | 8 => v = .bool false
  | _ => True

theorem rcheckV0_mono (want t : List UInt8) (n : Nat) (j : Nat) (w w' : World) (v : Value) (hb : Below w.heap.size w w') (h : rcheckV0 want t n j w v) : rcheckV0 want t n j w' v := by
  match j, h with
  | 0, h => exact h
  | 1, h => exact h
  | 2, h => exact trivial
  | 3, h => exact trivial
  | 4, h => exact trivial
  | 5, h => exact trivial
  | 6, h => exact trivial
  | 7, h => exact h
  | 8, h => exact h
  | _ + 9, h => exact trivial

end Go.Proofs.YtjlaoijmcenahaaDoor

/- Rows copied; the walks of the reference's Prove, Same, Few. -/
namespace Go.Proofs.YtjlaoijmcenahaaDoor
open Go.RowKit
set_option linter.unusedSimpArgs false
set_option linter.unusedVariables false

/-- 'append(x, ..)' of nothing to nothing. -/
theorem run_append_zero {P : Program} (w : World) (t ty e : TypeId) (i : TypeInfo) (z : Value) (ht : P.underlying t = some (.slice e)) (hi : P.info? e = some i) (hz : i.zero = some z) (b : Addr) (o : Option Addr) (c : Nat) :
    (Builtin.append_ #[t, t] ty #[.slice (some b) 0 0, .slice o 0 c]).run P w = .ok (.slice (some b) 0 0) w := by
  rcases o with _ | a
  · have hf := run_firstCells_none (P := P) w i.size
    simp [Builtin.append_, run_underlying ht, sizeOf, typeInfo, hi, hz, Builtin.lenOf, Builtin.firstCells, storeCells]
  · have hf := run_firstCells_some (P := P) w i.size 0 a 0 c [] (by simp) (by simp)
    simp [Builtin.append_, run_underlying ht, sizeOf, typeInfo, hi, hz, Builtin.lenOf, hf, storeCells]

/-- 'append([]T{}, row...)': the row anew. -/
theorem run_copy_row {P : Program} (w : World) (t ty e : TypeId) (i : TypeInfo) (z : Value) (size bytes : Nat) (ht : P.underlying t = some (.slice e)) (hi : P.info? e = some i) (hz : i.zero = some z) (hsize : i.size = size) (hby : i.bytes = bytes) (hzs : z.cells.size = size) (hsz : 0 < size)
    (b : Addr) (o : Option Addr) (m c : Nat) (news : List Value) (hl : news.length = m * size) (hnews : 0 < m → ∃ a, o = some a ∧ ∀ j u, news[j]? = some u → w.cell? (a.add j) = some u) (b1 : m ≤ maxLen) (b2 : m * bytes ≤ 140737488355328) :
    ∃ q cc w', (Builtin.append_ #[t, t] ty #[.slice (some b) 0 0, .slice o m c]).run P w = .ok (.slice (some q) m cc) w' ∧ m ≤ cc ∧ cc ≤ maxLen ∧ Below w.heap.size w w' ∧ (0 < m → ∃ g, q = ⟨g, 0, none⟩ ∧ g < w'.heap.size ∧ w'.rangeAt g 0 news) := by
  rcases Nat.eq_zero_or_pos m with rfl | hm
  · exact ⟨b, 0, w, run_append_zero w t ty e i z ht hi hz b o c, Nat.le_refl _, by decide, Below.refl _ _, fun h => absurd h (by decide)⟩
  · obtain ⟨a, rfl, hn⟩ := hnews hm
    obtain ⟨v', w', h1, h2, h3⟩ := run_append_arg_grows w t ty e i z size bytes ht hi hz hsize hby hzs hsz b 0 0 [] (by simp) (by simp) a m c news hl hn (by omega) (by omega) (by rw [Nat.zero_add]; exact b2)
    rw [Nat.zero_add, List.nil_append] at h2
    have hcell := fun g hg => h2.cells (g := g) hg
    rcases h2.2 with ⟨_, h0⟩ | ⟨g, cap, cur, rfl, hb, hg, hnc, hcm, _⟩
    · omega
    · refine ⟨⟨g, 0, none⟩, cap, w', h1, hnc, hcm, grown_below h3 (fun k hk => by cases hk) (Nat.le_refl _), fun _ => ⟨g, rfl, lt_of_block hg, fun j u hu => ?_⟩⟩
      have := hcell g rfl j u hu
      rw [Addr.add_mid] at this; exact this

theorem sCells_get (L : List (List UInt8)) (i : Nat) (l : List UInt8) (h : L[i]? = some l) : (L.map fun l => Value.string (strOf l))[i]? = some (.string (strOf l)) := by simp [h]

theorem Tryd.under_strs : Tryd.prog.underlying 23 = some (.slice 9) := by kernel_rfl
theorem Tryd.info_string : (Tryd.prog.info? 9).map (fun i => (i.zero, i.size, i.bytes)) = some (some (.string ⟨#[]⟩), 1, 16) := by kernel_rfl

theorem StrsAt.copy {w : World} {o : Option Addr} {m c : Nat} {L : List (List UInt8)} (h : StrsAt w o m c L) (hm : m ≤ 1000000) (b : Addr) :
    ∃ q cc w', (Builtin.append_ #[23, 23] 23 #[.slice (some b) 0 0, .slice o m c]).run Tryd.prog w = .ok (.slice (some q) m cc) w' ∧ StrsAt w' (some q) m cc L ∧ Below w.heap.size w w' := by
  obtain ⟨i, hi, hz0, hz1, hz2⟩ := info_parts Tryd.info_string
  have hlen := h.len
  obtain ⟨q, cc, w', h1, h2, h3, h4, h5⟩ := run_copy_row (P := Tryd.prog) w 23 23 9 i (.string ⟨#[]⟩) 1 16 Tryd.under_strs hi hz0 hz1 hz2 rfl (by decide) b o m c (L.map fun l => .string (strOf l)) (by rw [List.length_map, hlen, Nat.mul_one]) (fun h0 => by
    obtain ⟨b', off, rfl⟩ := h.form h0
    refine ⟨_, rfl, fun j u hu => ?_⟩
    rw [List.getElem?_map] at hu
    obtain ⟨l, hl, rfl⟩ := Option.map_eq_some_iff.1 hu
    rw [Addr.add_mid]
    exact h.get hl) (by unfold maxLen; omega) (by omega)
  refine ⟨q, cc, w', h1, ⟨hlen, h2, h3, fun h0 => ?_⟩, h4⟩
  obtain ⟨g, rfl, hg, hr⟩ := h5 h0
  refine ⟨g, 0, rfl, hg, fun i l hl => ?_⟩
  intro j u hu
  match j, hu with
  | 0, hu =>
    obtain rfl := Option.some.inj hu
    have := hr i _ (sCells_get L i l hl)
    simpa using this

theorem hashCells_len {d : List (List UInt8)} (h : ∀ p ∈ d, p.length = 32) : (hashCells d).length = d.length * 32 := by
  induction d with
  | nil => rfl
  | cons a d ih =>
    have h1 := h a (by simp)
    have h2 := ih fun p hp => h p (by simp [hp])
    rw [show a :: d = [a] ++ d from rfl, hashCells_app, hashCells_one, List.length_append, h2, byteCells_length, h1]
    simp; omega

theorem hashCells_get {d : List (List UInt8)} (h : ∀ p ∈ d, p.length = 32) {i : Nat} {p : List UInt8} (hp : d[i]? = some p) : ∀ j u, (byteCells p)[j]? = some u → (hashCells d)[i * 32 + j]? = some u := by
  induction d generalizing i with
  | nil => simp at hp
  | cons a d ih =>
    intro j u hu
    have h1 := h a (by simp)
    rw [show a :: d = [a] ++ d from rfl, hashCells_app, hashCells_one]
    have hj := (List.getElem?_eq_some_iff.1 hu).1
    rw [byteCells_length] at hj
    rcases i with _ | i
    · rw [List.getElem?_cons_zero, Option.some.injEq] at hp
      subst hp
      rw [List.getElem?_append_left (by rw [byteCells_length]; omega)]
      simpa using hu
    · rw [List.getElem?_cons_succ] at hp
      rw [List.getElem?_append_right (by rw [byteCells_length]; omega), byteCells_length, h1]
      have := ih (fun p hp => h p (by simp [hp])) hp j u hu
      rwa [show (i + 1) * 32 + j - 32 = i * 32 + j by omega]

theorem hashCells_at {w : World} {b off : Nat} {d : List (List UInt8)} (h : ∀ i p, d[i]? = some p → w.rangeAt b (off + i * 32) (byteCells p)) (h32 : ∀ p ∈ d, p.length = 32) : ∀ j u, (hashCells d)[j]? = some u → w.cell? ⟨b, off + j, none⟩ = some u := by
  intro j u hu
  have hj := (List.getElem?_eq_some_iff.1 hu).1
  rw [hashCells_len h32] at hj
  obtain ⟨p, hp⟩ : ∃ p, d[j / 32]? = some p := ⟨_, List.getElem?_eq_getElem (by omega)⟩
  have hpl := h32 p (List.mem_of_getElem? hp)
  obtain ⟨v, hv⟩ : ∃ v, (byteCells p)[j % 32]? = some v := ⟨_, List.getElem?_eq_getElem (by rw [byteCells_length]; omega)⟩
  have h1 := hashCells_get h32 hp (j % 32) v hv
  rw [show j / 32 * 32 + j % 32 = j by omega] at h1
  obtain rfl := Option.some.inj (h1.symm.trans hu)
  have := h _ p hp (j % 32) v hv
  rwa [show off + j / 32 * 32 + j % 32 = off + j by omega] at this

/-- A row of the call's own, as one that came in. -/
theorem HashesAt.of_owns {w : World} {base c : Nat} {q : Option Addr} {d : List (List UInt8)} (h : w.ownsRow base 31 32 (.slice q d.length c) d.length (hashCells d)) (h32 : ∀ p ∈ d, p.length = 32) : HashesAt w q d.length c d := by
  have hcell := fun g hg => h.cells (g := g) hg
  rcases h.2 with ⟨hv, h0⟩ | ⟨g, cap, cur, hv, hb, hg, hnc, hcm, _⟩
  · simp only [Value.slice.injEq] at hv
    obtain ⟨rfl, h1, rfl⟩ := hv
    exact ⟨⟨rfl, by omega, by decide, fun h => by omega⟩, h32⟩
  · simp only [Value.slice.injEq, true_and] at hv
    obtain ⟨rfl, rfl⟩ := hv
    refine ⟨⟨rfl, hnc, hcm, fun _ => ⟨g, 0, rfl, lt_of_block hg, fun i p hp j u hu => ?_⟩⟩, h32⟩
    have := hcell g rfl _ u (hashCells_get h32 hp j u hu)
    rw [Addr.add_mid] at this
    rwa [show 0 + (i * 32 + j) = 0 + i * 32 + j by omega] at this

theorem Tree.prove_32 (N : Nat) : ∀ (l : List (List UInt8)) (i : Nat), l.length = N → ∀ p ∈ Tree.prove l i, p.length = 32 := by
  induction N using Nat.strongRecOn with
  | ind N ih =>
    intro l i hl p hp
    by_cases h : 2 ≤ l.length
    · have h1 := Tree.half_pos h
      have h2 := Tree.half_lt h
      by_cases hi : i < Tree.half l.length
      · rw [Tree.prove_left h hi] at hp
        rcases List.mem_append.1 hp with hp | hp
        · exact ih (Tree.half l.length) (by omega) (l.take (Tree.half l.length)) i (by rw [List.length_take]; omega) p hp
        · obtain rfl := List.mem_singleton.1 hp; exact Tree.top_len _
      · rw [Tree.prove_right h hi] at hp
        rcases List.mem_append.1 hp with hp | hp
        · exact ih (l.length - Tree.half l.length) (by omega) (l.drop (Tree.half l.length)) (i - Tree.half l.length) (by rw [List.length_drop]) p hp
        · obtain rfl := List.mem_singleton.1 hp; exact Tree.top_len _
    · rw [Tree.prove_small h] at hp; cases hp

theorem owns_mono {w : World} {B B' : Nat} {e size : Nat} {v : Value} {n : Nat} {xs : List Value} (h : w.ownsRow B e size v n xs) (hB : B' ≤ B) : w.ownsRow B' e size v n xs :=
  ⟨h.1, h.2.imp id fun ⟨g, cap, cur, h1, h2, h3⟩ => ⟨g, cap, cur, h1, Nat.le_trans hB h2, h3⟩⟩

/-- What the region's operations leave. -/
def rpL (B b off n cap k i : Nat) (L R : List (List UInt8)) (ix : Nat) (w : World) (v : Value) : Prop :=
  match ix with
  | 0 => v = .slice (some ⟨b, off, none⟩) n cap
  | 1 => v = .int .i64 (k : Int)
  | 2 => v = (.slice (some ⟨b, off, none⟩) k cap)
  | 3 => v = .int .i64 (i : Int)
  | 4 => ∃ q c, v = .slice q R.length c ∧ w.ownsRow B 31 32 (.slice q R.length c) R.length (hashCells R)
  | 5 => v = .slice (some ⟨b, off, none⟩) n cap
  | 6 => v = .int .i64 (k : Int)
  | 7 => v = (.slice (some ⟨b, off + k, none⟩) (n - k) (cap - k))
  | 8 => v = .agg (byteCells (Tree.top (L.drop k))).toArray
  | 9 => ∃ g, v = .slice (some ⟨g, 0, none⟩) 1 1 ∧ w.heap[g]? = some (.cells (byteCells (Tree.top (L.drop k))).toArray 31 (0, 0))
  | _ => True

theorem rpL_mono (B b off n cap k i : Nat) (L R : List (List UInt8)) (jx : Nat) (w w' : World) (v : Value) (hb : Below w.heap.size w w') (h : rpL B b off n cap k i L R jx w v) : rpL B b off n cap k i L R jx w' v := by
  match jx, h with
  | 0, h => exact h
  | 1, h => exact h
  | 2, h => exact h
  | 3, h => exact h
  | 4, h => exact (let ⟨q, c, h1, h2⟩ := h; ⟨q, c, h1, owns_below h2 hb⟩)
  | 5, h => exact h
  | 6, h => exact h
  | 7, h => exact h
  | 8, h => exact h
  | 9, h => exact (let ⟨g, h1, h2⟩ := h; ⟨g, h1, (hb.block g (lt_of_block h2)).trans h2⟩)
  | _ + 10, h => exact trivial

/-- What the region's operations leave. -/
def rpR (B b off n cap k i : Nat) (L R : List (List UInt8)) (ix : Nat) (w : World) (v : Value) : Prop :=
  match ix with
  | 0 => v = .slice (some ⟨b, off, none⟩) n cap
  | 1 => v = .int .i64 (k : Int)
  | 2 => v = (.slice (some ⟨b, off + k, none⟩) (n - k) (cap - k))
  | 3 => v = .int .i64 (i : Int)
  | 4 => v = .int .i64 (k : Int)
  | 5 => v = .int .i64 ((i - k : Nat) : Int)
  | 6 => ∃ q c, v = .slice q R.length c ∧ w.ownsRow B 31 32 (.slice q R.length c) R.length (hashCells R)
  | 7 => v = .slice (some ⟨b, off, none⟩) n cap
  | 8 => v = .int .i64 (k : Int)
  | 9 => v = (.slice (some ⟨b, off, none⟩) k cap)
  | 10 => v = .agg (byteCells (Tree.top (L.take k))).toArray
  | 11 => ∃ g, v = .slice (some ⟨g, 0, none⟩) 1 1 ∧ w.heap[g]? = some (.cells (byteCells (Tree.top (L.take k))).toArray 31 (0, 0))
  | _ => True

theorem rpR_mono (B b off n cap k i : Nat) (L R : List (List UInt8)) (jx : Nat) (w w' : World) (v : Value) (hb : Below w.heap.size w w') (h : rpR B b off n cap k i L R jx w v) : rpR B b off n cap k i L R jx w' v := by
  match jx, h with
  | 0, h => exact h
  | 1, h => exact h
  | 2, h => exact h
  | 3, h => exact h
  | 4, h => exact h
  | 5, h => exact h
  | 6, h => exact (let ⟨q, c, h1, h2⟩ := h; ⟨q, c, h1, owns_below h2 hb⟩)
  | 7, h => exact h
  | 8, h => exact h
  | 9, h => exact h
  | 10, h => exact h
  | 11, h => exact (let ⟨g, h1, h2⟩ := h; ⟨g, h1, (hb.block g (lt_of_block h2)).trans h2⟩)
  | _ + 12, h => exact trivial

theorem hash_neq (w : World) (a b : List UInt8) (ha : a.length = 32) (hb : b.length = 32) :
    (binOp .neq 31 (.agg (byteCells a).toArray) (.agg (byteCells b).toArray)).run Tryd.prog w = .ok (.bool (!(a == b))) w := by
  have h := run_equalIn_bytes (P := Tryd.prog) w 9998 31 5 32 Tryd.under_hh Tryd.under_bb Tryd.size_bb a b ha hb
  rw [run_neq_struct]
  exact (congrArg (fun r => Result.andThen r fun b w' => Result.ok (Value.bool (!b)) w') h).trans rfl

theorem wpList_neq_hash {ops : Array Oper} {rest : List Oper} {op : Oper} {a : Act} {w : World} {Q : Exit → Act → World → Prop} (hgd : Region.wanted op (yielded ops a.tmps) = true) (x y : Operand) (ho : op.op = .binOp .neq 31 x y 31)
    (u v : List UInt8) (hu : u.length = 32) (hv : v.length = 32) (hx : a.eval x = .agg (byteCells u).toArray) (hy : a.eval y = .agg (byteCells v).toArray)
    (h : wpList Tryd.prog ops Q rest (a.put op.dst (.bool (!(u == v)))) w) : wpList Tryd.prog ops Q (op :: rest) a w :=
  wpList_step fun K hK => by
    rw [if_pos hgd]
    have hg := run_eqGuard_agg (P := Tryd.prog) w .neq 31 x y (byteCells u).toArray (byteCells v).toArray Tryd.eqg_hh
    have he := hash_neq w u v hu hv
    unfold Oper.wp execOp
    simp only [ho, hx, hy, Sem.run_bind, hg, he, Result.andThen_ok, Sem.run_pure]
    exact hK _ _ h

/-- What the region's operations leave. -/
def sameV (b off n cap b' off' cap' j : Nat) (p q : List UInt8) (ix : Nat) (w : World) (v : Value) : Prop :=
  match ix with
  | 0 => v = .slice (some ⟨b, off, none⟩) n cap
  | 1 => v = .int .i64 (j : Int)
  | 2 => v = .pointer (some ⟨b, off + j * 32, none⟩)
  | 3 => v = .agg (byteCells p).toArray
  | 4 => v = .slice (some ⟨b', off', none⟩) n cap'
  | 5 => v = .int .i64 (j : Int)
  | 6 => v = .pointer (some ⟨b', off' + j * 32, none⟩)
  | 7 => v = .agg (byteCells q).toArray
  | 8 => v = .bool (!(p == q))
  | _ => True

theorem sameV_mono (b off n cap b' off' cap' j : Nat) (p q : List UInt8) (jx : Nat) (w w' : World) (v : Value) (hb : Below w.heap.size w w') (h : sameV b off n cap b' off' cap' j p q jx w v) : sameV b off n cap b' off' cap' j p q jx w' v := by
  match jx, h with
  | 0, h => exact h
  | 1, h => exact h
  | 2, h => exact h
  | 3, h => exact h
  | 4, h => exact h
  | 5, h => exact h
  | 6, h => exact h
  | 7, h => exact h
  | 8, h => exact h
  | _ + 9, h => exact trivial

/-- The leaves aren't too many or long. -/
def few (L : List (List UInt8)) : Bool := L.all (fun l => decide (l.length ≤ 200)) && decide (L.length ≤ 20)

theorem few_spec {L : List (List UInt8)} (h : few L = true) : L.length ≤ 20 ∧ ∀ l ∈ L, l.length ≤ 200 := by
  unfold few at h
  rw [Bool.and_eq_true, List.all_eq_true] at h
  exact ⟨of_decide_eq_true h.2, fun l hl => of_decide_eq_true (h.1 l hl)⟩

end Go.Proofs.YtjlaoijmcenahaaDoor

/- What the tree's laws ask, plain. -/
namespace Go.Proofs.YtjlaoijmcenahaaDoor
open Go.RowKit
set_option linter.unusedSimpArgs false
set_option linter.unusedVariables false

theorem Tree.sides_prove (N : Nat) : ∀ (L : List (List UInt8)) (i : Nat), L.length = N → i < N → (Tree.sides N i).length = (Tree.prove L i).length := by
  induction N using Nat.strongRecOn with
  | ind N ih =>
    intro L i hL hi
    by_cases h : 2 ≤ N
    · have h1 := Tree.half_pos h
      have h2 := Tree.half_lt h
      by_cases hl : i < Tree.half N
      · rw [Tree.sides_left h hl, Tree.prove_left (by omega) (by rw [hL]; exact hl), List.length_append, List.length_cons, hL]
        rw [ih (Tree.half N) h2 (L.take (Tree.half N)) i (by rw [List.length_take]; omega) hl]
        rfl
      · rw [Tree.sides_right h hl, Tree.prove_right (by omega) (by rw [hL]; exact hl), List.length_append, List.length_cons, hL]
        rw [ih (N - Tree.half N) (by omega) (L.drop (Tree.half N)) (i - Tree.half N) (by rw [List.length_drop, hL]) (by omega)]
        rfl
    · rw [Tree.sides_small h, Tree.prove_small (by omega)]; rfl

theorem Tree.climb_prove (N : Nat) : ∀ (L : List (List UInt8)) (i : Nat) (l : List UInt8), L.length = N → L[i]? = some l → Tree.climb (Tree.leaf l) (Tree.sides N i) (Tree.prove L i) = Tree.top L := by
  induction N using Nat.strongRecOn with
  | ind N ih =>
    intro L i l hL hl
    have hi : i < N := by have := (List.getElem?_eq_some_iff.1 hl).1; omega
    by_cases h : 2 ≤ N
    · have h1 := Tree.half_pos h
      have h2 := Tree.half_lt h
      by_cases hlt : i < Tree.half N
      · have hs := Tree.sides_prove (Tree.half N) (L.take (Tree.half N)) i (by rw [List.length_take]; omega) hlt
        rw [Tree.sides_left h hlt, Tree.prove_left (by omega) (by rw [hL]; exact hlt), hL, climb_snoc hs,
          ih (Tree.half N) h2 (L.take (Tree.half N)) i l (by rw [List.length_take]; omega) (by rw [List.getElem?_take, if_pos hlt]; exact hl), Tree.top_two (l := L) (by omega), hL]
        rfl
      · have hs := Tree.sides_prove (N - Tree.half N) (L.drop (Tree.half N)) (i - Tree.half N) (by rw [List.length_drop, hL]) (by omega)
        rw [Tree.sides_right h hlt, Tree.prove_right (by omega) (by rw [hL]; exact hlt), hL, climb_snoc hs,
          ih (N - Tree.half N) (by omega) (L.drop (Tree.half N)) (i - Tree.half N) l (by rw [List.length_drop, hL]) (by rw [List.getElem?_drop]; rw [show Tree.half N + (i - Tree.half N) = i by omega]; exact hl), Tree.top_two (l := L) (by omega), hL]
        rfl
    · obtain rfl : N = 1 := by omega
      obtain rfl : i = 0 := by omega
      obtain ⟨a, rfl⟩ := List.length_eq_one_iff.1 hL
      rw [Tree.sides_small h, Tree.prove_small (by simp), Tree.top_one]
      simp only [List.getElem?_cons_zero, Option.some.injEq] at hl
      subst hl
      simp [Tree.climb]

theorem Tree.check_prove {L : List (List UInt8)} {i : Nat} {l : List UInt8} (hl : L[i]? = some l) : Tree.check (Tree.root L.length (Tree.top L)) L.length i l (Tree.prove L i) = true := by
  have hi := (List.getElem?_eq_some_iff.1 hl).1
  unfold Tree.check
  rw [Tree.climb_prove L.length L i l rfl hl, Tree.sides_prove L.length L i rfl hi]
  simp

theorem Tree.check_len {want : List UInt8} {n i : Nat} {l : List UInt8} {P : List (List UInt8)} (h : (Tree.sides n i).length ≠ P.length) : Tree.check want n i l P = false := by
  unfold Tree.check
  rw [decide_eq_false h, Bool.false_and]

theorem Tree.half_3 : Tree.half 3 = 2 := Tree.half_of (i := 1) (by decide) (by decide)
theorem Tree.half_2 : Tree.half 2 = 1 := Tree.half_of (i := 0) (by decide) (by decide)

/-- The chapter's example. -/
theorem Tree.ex_prove : Tree.prove [[97], [98], [99]] 2 = [Tree.node (Tree.leaf [97]) (Tree.leaf [98])] := by
  rw [Tree.prove_right (by decide) (by rw [show ([[97], [98], [99]] : List (List UInt8)).length = 3 from rfl, Tree.half_3]; decide)]
  rw [show ([[97], [98], [99]] : List (List UInt8)).length = 3 from rfl, Tree.half_3]
  rw [show (([[97], [98], [99]] : List (List UInt8)).drop 2) = [[99]] from rfl, show (([[97], [98], [99]] : List (List UInt8)).take 2) = [[97], [98]] from rfl, Tree.prove_small (by decide)]
  rw [Tree.top_two (by decide), show ([[97], [98]] : List (List UInt8)).length = 2 from rfl, Tree.half_2]
  rw [show (([[97], [98]] : List (List UInt8)).take 1) = [[97]] from rfl, show (([[97], [98]] : List (List UInt8)).drop 1) = [[98]] from rfl, Tree.top_one, Tree.top_one]
  rfl

theorem Tree.ex_top : Tree.top [[97], [98], [99]] = Tree.node (Tree.node (Tree.leaf [97]) (Tree.leaf [98])) (Tree.leaf [99]) := by
  rw [Tree.top_two (by decide), show ([[97], [98], [99]] : List (List UInt8)).length = 3 from rfl, Tree.half_3]
  rw [show (([[97], [98], [99]] : List (List UInt8)).drop 2) = [[99]] from rfl, show (([[97], [98], [99]] : List (List UInt8)).take 2) = [[97], [98]] from rfl, Tree.top_one]
  rw [Tree.top_two (by decide), show ([[97], [98]] : List (List UInt8)).length = 2 from rfl, Tree.half_2]
  rw [show (([[97], [98]] : List (List UInt8)).take 1) = [[97]] from rfl, show (([[97], [98]] : List (List UInt8)).drop 1) = [[98]] from rfl, Tree.top_one, Tree.top_one]

theorem Tree.ex_sides2 : Tree.sides 3 2 = [false] := by
  rw [Tree.sides_right (by decide) (by rw [Tree.half_3]; decide), Tree.half_3, Tree.sides_small (by decide)]
theorem Tree.ex_sides0 : Tree.sides 3 0 = [true, true] := by
  rw [Tree.sides_left (by decide) (by rw [Tree.half_3]; decide), Tree.half_3, Tree.sides_left (by decide) (by rw [Tree.half_2]; decide), Tree.half_2, Tree.sides_small (by decide)]

theorem Tree.num_3 : Wire.num 3 = [3] := Wire.num_small 3 (by decide)

set_option maxRecDepth 100000 in
theorem Tree.ex_apart : (Sha.of (3 :: ([3] ++ Sha.of (1 :: (Sha.of (1 :: (Sha.of [0, 97] ++ Sha.of [0, 98])) ++ Sha.of [0, 100])))) == Sha.of (3 :: ([3] ++ Sha.of (1 :: (Sha.of (1 :: (Sha.of [0, 97] ++ Sha.of [0, 98])) ++ Sha.of [0, 99]))))) = false := by decide +kernel

theorem Tree.ex_check : Tree.check (Tree.root 3 (Tree.top [[97], [98], [99]])) 3 2 [99] (Tree.prove [[97], [98], [99]] 2) = true :=
  Tree.check_prove (L := [[97], [98], [99]]) (i := 2) rfl

theorem Tree.ex_not : Tree.check (Tree.root 3 (Tree.top [[97], [98], [99]])) 3 2 [100] (Tree.prove [[97], [98], [99]] 2) = false := by
  unfold Tree.check
  rw [Tree.ex_sides2, Tree.ex_prove, Tree.ex_top]
  have : ∀ t x : List UInt8, Tree.climb t [false] [x] = Tree.node x t := fun t x => by simp [Tree.climb, Tree.step]
  rw [this]
  have h := Tree.ex_apart
  unfold Tree.root
  rw [Tree.num_3]
  rw [Bool.and_eq_false_iff]
  right
  exact h

/-- At a power of two all proofs are as long. -/
theorem Tree.sides_pow (d : Nat) : ∀ (i : Nat), i < 2 ^ d → (Tree.sides (2 ^ d) i).length = d := by
  induction d with
  | zero => intro i hi; rw [Tree.sides_small (by decide)]; rfl
  | succ d ih =>
    intro i hi
    have hp := Nat.two_pow_pos d
    have h2 : 2 ≤ 2 ^ (d + 1) := by rw [Nat.pow_succ]; omega
    have hh : Tree.half (2 ^ (d + 1)) = 2 ^ d := Tree.half_of (by rw [Nat.pow_succ]; omega) (by rw [Nat.pow_succ]; omega)
    by_cases hl : i < 2 ^ d
    · rw [Tree.sides_left h2 (by rw [hh]; exact hl), hh, List.length_cons, ih i hl]
    · rw [Tree.sides_right h2 (by rw [hh]; exact hl), hh, List.length_cons, show 2 ^ (d + 1) - 2 ^ d = 2 ^ d by rw [Nat.pow_succ]; omega, ih (i - 2 ^ d) (by rw [Nat.pow_succ] at hi; omega)]

theorem Tree.sides_zero {n i : Nat} (hi : i < n) : (Tree.sides n i).length = 0 ↔ n = 1 := by
  by_cases h : 2 ≤ n
  · constructor
    · intro h0
      by_cases hl : i < Tree.half n
      · rw [Tree.sides_left h hl] at h0; simp at h0
      · rw [Tree.sides_right h hl] at h0; simp at h0
    · omega
  · rw [Tree.sides_small h]
    constructor
    · intro _; omega
    · intro _; rfl

end Go.Proofs.YtjlaoijmcenahaaDoor

/- Rows of what is summed up, and two that clash: plain. -/
namespace Go.Proofs.YtjlaoijmcenahaaDoor
open Go.RowKit
set_option linter.unusedSimpArgs false
set_option linter.unusedVariables false
namespace Tree

/-- One step's row. -/
def rowOf (b : Bool) (s x : List UInt8) : List UInt8 := if b then 1 :: (s ++ x) else 1 :: (x ++ s)

/-- What is summed up on the way, from the top on down. -/
def rowsS : List Bool → List UInt8 → List (List UInt8) → List (List UInt8)
  | [], l, _ => [0 :: l]
  | b :: sd, l, P => rowOf b (Sha.of ((rowsS sd l P.dropLast).headD [])) ((P.getLast?).getD []) :: rowsS sd l P.dropLast

theorem rowsS_len (sd : List Bool) (l : List UInt8) : ∀ P, (rowsS sd l P).length = sd.length + 1 := by
  induction sd with
  | nil => intro P; rfl
  | cons b sd ih => intro P; simp only [rowsS, List.length_cons, ih]

theorem rowsS_snoc (b : Bool) (sd : List Bool) (l x : List UInt8) (P : List (List UInt8)) : rowsS (b :: sd) l (P ++ [x]) = rowOf b (Sha.of ((rowsS sd l P).headD [])) x :: rowsS sd l P := by
  simp only [rowsS, List.dropLast_concat, List.getLast?_concat, Option.getD_some]

theorem snoc_form {α : Type} {P : List α} {n : Nat} (h : P.length = n + 1) : ∃ P' x, P = P' ++ [x] ∧ P'.length = n := by
  have hne : P ≠ [] := by intro e; rw [e] at h; simp at h
  refine ⟨P.dropLast, P.getLast hne, (List.dropLast_concat_getLast hne).symm, by rw [List.length_dropLast, h]; rfl⟩

theorem rows_climb (sd : List Bool) (l : List UInt8) : ∀ P, sd.length = P.length → Sha.of ((rowsS sd l P).headD []) = climb (leaf l) sd P := by
  induction sd with
  | nil => intro P h; obtain rfl := List.eq_nil_of_length_eq_zero h.symm; rfl
  | cons b sd ih =>
    intro P h
    obtain ⟨P', x, rfl, hl⟩ := snoc_form (n := sd.length) (by simpa using h.symm)
    rw [rowsS_snoc, climb_snoc hl.symm, List.headD_cons, ih P' hl.symm]
    unfold rowOf step
    cases b <;> rfl

theorem rows_bound (sd : List Bool) (l : List UInt8) : ∀ P, sd.length = P.length → (∀ p ∈ P, p.length = 32) → l.length ≤ 100000 → ∀ r ∈ rowsS sd l P, r.length ≤ 100001 := by
  induction sd with
  | nil => intro P h _ hl r hr; simp only [rowsS, List.mem_singleton] at hr; subst hr; simp; omega
  | cons b sd ih =>
    intro P h h32 hl r hr
    obtain ⟨P', x, rfl, hl'⟩ := snoc_form (n := sd.length) (by simpa using h.symm)
    rw [rowsS_snoc] at hr
    rcases List.mem_cons.1 hr with rfl | hr
    · have h1 := h32 x (by simp)
      have h2 := Sha.of_len ((rowsS sd l P').headD [])
      unfold rowOf
      split <;> simp only [List.length_cons, List.length_append] <;> omega
    · exact ih P' hl'.symm (fun p hp => h32 p (by simp [hp])) hl r hr

/-- Two rows at one place that aren't the same and have one sum. -/
def Clash (X Y : List (List UInt8)) : Prop := ∃ (k : Nat) (x y : List UInt8), X[k]? = some x ∧ Y[k]? = some y ∧ x ≠ y ∧ Sha.of x = Sha.of y

theorem Clash.cons {X Y : List (List UInt8)} (x y : List UInt8) (h : Clash X Y) : Clash (x :: X) (y :: Y) := by
  obtain ⟨k, a, b, h1, h2, h3, h4⟩ := h
  exact ⟨k + 1, a, b, by simpa using h1, by simpa using h2, h3, h4⟩

theorem clash_rows (sd : List Bool) (a b : List UInt8) (hab : a ≠ b) : ∀ P Q, sd.length = P.length → sd.length = Q.length → Sha.of ((rowsS sd a P).headD []) = Sha.of ((rowsS sd b Q).headD []) → Clash (rowsS sd a P) (rowsS sd b Q) := by
  induction sd with
  | nil =>
    intro P Q _ _ h
    refine ⟨0, 0 :: a, 0 :: b, rfl, rfl, ?_, h⟩
    intro e
    exact hab (List.cons.inj e).2
  | cons s sd ih =>
    intro P Q hP hQ h
    obtain ⟨P', x, rfl, hl⟩ := snoc_form (n := sd.length) (by simpa using hP.symm)
    obtain ⟨Q', y, rfl, hm⟩ := snoc_form (n := sd.length) (by simpa using hQ.symm)
    rw [rowsS_snoc, rowsS_snoc] at h ⊢
    rw [List.headD_cons, List.headD_cons] at h
    by_cases he : rowOf s (Sha.of ((rowsS sd a P').headD [])) x = rowOf s (Sha.of ((rowsS sd b Q').headD [])) y
    · refine Clash.cons _ _ (ih P' Q' hl.symm hm.symm ?_)
      have l1 := Sha.of_len ((rowsS sd a P').headD [])
      have l2 := Sha.of_len ((rowsS sd b Q').headD [])
      unfold rowOf at he
      cases s
      · simp only [Bool.false_eq_true, if_false, List.cons.injEq, true_and] at he
        exact (List.append_inj' he (l1.trans l2.symm)).2
      · simp only [if_true, List.cons.injEq, true_and] at he
        exact (List.append_inj he (l1.trans l2.symm)).1
    · exact ⟨0, _, _, rfl, rfl, he, h⟩

/-- With the root's row ahead. -/
def rowsAll (n : Nat) (X : List (List UInt8)) : List (List UInt8) := (3 :: (Wire.num n ++ Sha.of (X.headD []))) :: X

theorem clash_all (n : Nat) {X Y : List (List UInt8)} (h : root n (Sha.of (X.headD [])) = root n (Sha.of (Y.headD []))) (hc : Sha.of (X.headD []) = Sha.of (Y.headD []) → Clash X Y) : Clash (rowsAll n X) (rowsAll n Y) := by
  by_cases he : (3 :: (Wire.num n ++ Sha.of (X.headD [])) : List UInt8) = 3 :: (Wire.num n ++ Sha.of (Y.headD []))
  · refine Clash.cons _ _ (hc ?_)
    have := (List.cons.inj he).2
    exact List.append_cancel_left this
  · exact ⟨0, _, _, rfl, rfl, he, h⟩

/-- Two leaves at one place of one root. -/
theorem clash_found {want : List UInt8} {n i : Nat} {a b : List UInt8} {P Q : List (List UInt8)} (h1 : check want n i a P = true) (h2 : check want n i b Q = true) (hab : a ≠ b) :
    (sides n i).length = P.length ∧ (sides n i).length = Q.length ∧ Clash (rowsAll n (rowsS (sides n i) a P)) (rowsAll n (rowsS (sides n i) b Q)) := by
  unfold check at h1 h2
  rw [Bool.and_eq_true] at h1 h2
  have l1 := of_decide_eq_true h1.1
  have l2 := of_decide_eq_true h2.1
  have r1 := beq_iff_eq.1 h1.2
  have r2 := beq_iff_eq.1 h2.2
  refine ⟨l1, l2, clash_all n ?_ fun h => clash_rows _ a b hab P Q l1 l2 h⟩
  rw [rows_climb _ a P l1, rows_climb _ b Q l2, r1, r2]

end Tree
end Go.Proofs.YtjlaoijmcenahaaDoor

/- The first two rows that clash: plain; and the walk of clash.Is. -/
namespace Go.Proofs.YtjlaoijmcenahaaDoor
open Go.RowKit
set_option linter.unusedSimpArgs false
set_option linter.unusedVariables false

theorem wpList_append_ran {P : Program} {ops : Array Oper} {rest : List Oper} {o : Oper} {a : Act} {w : World} {Q : Exit → Act → World → Prop} (hgd : Region.wanted o (yielded ops a.tmps) = true) (x y : Operand) (t : TypeId) (ho : o.op = .call { callee := .builtin .append, args := #[x, y], argTypes := #[t, t] })
    (vx vy : Value) (hx : a.eval x = vx) (hy : a.eval y = vy) {v : Value} {w' : World} (hr : (Builtin.append_ #[t, t] o.type #[vx, vy]).run P w = .ok v w')
    (h : wpList P ops Q rest (a.put o.dst v) w') : wpList P ops Q (o :: rest) a w :=
  wpList_step fun _ hK => by
    rw [if_pos hgd]
    exact Lib.wp_append_run_sl w x y t ho vx vy hx hy hr (hK _ _ h)

/-- 'append([]string{x}, l...)' of a row that isn't empty. -/
theorem StrsAt.cons {w : World} {o : Option Addr} {m c g : Nat} {L : List (List UInt8)} {x : List UInt8} (h : StrsAt w o m c L) (h0 : 0 < m) (hm : m ≤ 1000000) (hg : w.heap[g]? = some (.cells #[.string (strOf x)] 9 (0, 0))) :
    ∃ q cc w', (Builtin.append_ #[23, 23] 23 #[.slice (some ⟨g, 0, none⟩) 1 1, .slice o m c]).run Tryd.prog w = .ok (.slice (some q) (1 + m) cc) w' ∧ StrsAt w' (some q) (1 + m) cc (x :: L) ∧ Below w.heap.size w w' := by
  obtain ⟨i, hi, hz0, hz1, hz2⟩ := info_parts Tryd.info_string
  have hlen := h.len
  obtain ⟨b', off, rfl⟩ := h.form h0
  obtain ⟨v', w', h1, h2, h3⟩ := run_append_arg_grows (P := Tryd.prog) w 23 23 9 i (.string ⟨#[]⟩) 1 16 Tryd.under_strs hi hz0 hz1 hz2 rfl (by decide) ⟨g, 0, none⟩ 1 1 [.string (strOf x)] rfl (cells_row_at hg) ⟨b', off, none⟩ m c (L.map fun l => .string (strOf l)) (by rw [List.length_map, hlen, Nat.mul_one]) (fun j u hu => by
    rw [List.getElem?_map] at hu
    obtain ⟨l, hl, rfl⟩ := Option.map_eq_some_iff.1 hu
    rw [Addr.add_mid]
    exact h.get hl) (by omega) (by unfold maxLen; omega) (by omega)
  have hcell := fun g hg => h2.cells (g := g) hg
  rcases h2.2 with ⟨_, h0⟩ | ⟨g', cap, cur, rfl, hb, hg', hnc, hcm, _⟩
  · omega
  · refine ⟨⟨g', 0, none⟩, cap, w', h1, ⟨by rw [List.length_cons, hlen, Nat.add_comm], hnc, hcm, fun _ => ⟨g', 0, rfl, lt_of_block hg', fun i l hl => ?_⟩⟩, grown_below h3 (fun k hk => by cases hk) (Nat.le_refl _)⟩
    intro j u hu
    match j, hu with
    | 0, hu =>
      obtain rfl := Option.some.inj hu
      have := hcell g' rfl i (.string (strOf l)) (by
        have := sCells_get (x :: L) i l hl
        simpa using this)
      rw [Addr.add_mid] at this
      simpa using this

/-- A row of texts of the call's own, as one that came in. -/
theorem StrsAt.of_owns {w : World} {base n c : Nat} {q : Option Addr} {d : List (List UInt8)} (hn : d.length = n) (h : w.ownsRow base 9 1 (.slice q n c) n (d.map fun l => Value.string (strOf l))) : StrsAt w q n c d := by
  have hcell := fun g hg => h.cells (g := g) hg
  rcases h.2 with ⟨hv, h0⟩ | ⟨g, cap, cur, hv, hb, hg, hnc, hcm, _⟩
  · simp only [Value.slice.injEq] at hv
    obtain ⟨rfl, h1, rfl⟩ := hv
    exact ⟨hn, by omega, by decide, fun h => by omega⟩
  · simp only [Value.slice.injEq, true_and] at hv
    obtain ⟨rfl, rfl⟩ := hv
    refine ⟨hn, hnc, hcm, fun _ => ⟨g, 0, rfl, lt_of_block hg, fun i p hp => ?_⟩⟩
    intro j u hu
    match j, hu with
    | 0, hu =>
      obtain rfl := Option.some.inj hu
      have := hcell g rfl i (.string (strOf p)) (by simp [hp])
      rw [Addr.add_mid] at this
      simpa using this

/-- Two rows that aren't the same and have one sum. -/
def isC (x y : List UInt8) : Bool := !(x == y) && (Sha.of x == Sha.of y)

/-- The first two. -/
def findC : List (List UInt8) → List (List UInt8) → List UInt8 × List UInt8 × Bool
  | x :: X, y :: Y => if isC x y then (x, y, true) else findC X Y
  | _, _ => ([], [], false)

theorem isC_self (x : List UInt8) : isC x x = false := by simp [isC]

theorem findC_self (X : List (List UInt8)) : findC X X = ([], [], false) := by
  induction X with
  | nil => rfl
  | cons x X ih => rw [findC, isC_self]; exact ih

theorem findC_spec (X : List (List UInt8)) : ∀ Y, ((findC X Y).2.2 = true → isC (findC X Y).1 (findC X Y).2.1 = true ∧ (findC X Y).1 ∈ X ∧ (findC X Y).2.1 ∈ Y) ∧ ((findC X Y).2.2 = false → (findC X Y).1 = [] ∧ (findC X Y).2.1 = []) := by
  induction X with
  | nil => intro Y; simp [findC]
  | cons x X ih =>
    intro Y
    cases Y with
    | nil => simp [findC]
    | cons y Y =>
      rw [findC]
      by_cases h : isC x y = true
      · rw [if_pos h]
        exact ⟨fun _ => ⟨h, by simp, by simp⟩, fun h => by cases h⟩
      · rw [if_neg h]
        obtain ⟨h1, h2⟩ := ih Y
        exact ⟨fun h3 => ⟨(h1 h3).1, List.mem_cons_of_mem _ (h1 h3).2.1, List.mem_cons_of_mem _ (h1 h3).2.2⟩, h2⟩

theorem findC_drop {X Y : List (List UInt8)} {j : Nat} {x y : List UInt8} (hx : X[j]? = some x) (hy : Y[j]? = some y) : findC (X.drop j) (Y.drop j) = if isC x y then (x, y, true) else findC (X.drop (j + 1)) (Y.drop (j + 1)) := by
  have e1 : X.drop j = x :: X.drop (j + 1) := by
    obtain ⟨h, rfl⟩ := List.getElem?_eq_some_iff.1 hx
    exact List.drop_eq_getElem_cons h
  have e2 : Y.drop j = y :: Y.drop (j + 1) := by
    obtain ⟨h, rfl⟩ := List.getElem?_eq_some_iff.1 hy
    exact List.drop_eq_getElem_cons h
  rw [e1, e2, findC]

theorem findC_clash {X Y : List (List UInt8)} (h : Tree.Clash X Y) : (findC X Y).2.2 = true := by
  obtain ⟨k, x, y, h1, h2, h3, h4⟩ := h
  induction k generalizing X Y with
  | zero =>
    cases X with
    | nil => cases h1
    | cons a X =>
      cases Y with
      | nil => cases h2
      | cons b Y =>
        obtain rfl := Option.some.inj h1
        obtain rfl := Option.some.inj h2
        have : isC a b = true := by unfold isC; rw [beq_eq_false_iff_ne.2 h3, h4]; simp
        rw [findC, if_pos this]
  | succ k ih =>
    cases X with
    | nil => cases h1
    | cons a X =>
      cases Y with
      | nil => cases h2
      | cons b Y =>
        rw [findC]
        split
        · rfl
        · exact ih (by simpa using h1) (by simpa using h2)

/-- hash.Of of one text's bytes: the parts, as a call's own argument lays them. -/
theorem part_one (w : World) (l : List UInt8) (hl : l.length ≤ 1000000000) :
    ∃ cap W, (convert 9 44 (.string (strOf l))).run Tryd.prog w = .ok (.slice (some ⟨w.heap.size, 0, none⟩) l.length cap) W ∧ Below w.heap.size w W ∧
      PartsV (W.alloc (.cells #[.slice (some ⟨w.heap.size, 0, none⟩) l.length cap] 44)) (.slice (some ⟨W.heap.size, 0, none⟩) 1 1) [l] := by
  obtain ⟨cap, W, h1, h2, h3, h4⟩ := str_bytes Tryd.under_str Tryd.under_u8s Tryd.under_b8 w l (by omega)
  exact ⟨cap, W, h1, h3, parts_new W 44 [.slice (some ⟨w.heap.size, 0, none⟩) l.length cap] [l] 1 rfl rfl (parts_1 h2.holds)⟩

/-- The sum of one text, from the convert on. -/
theorem of_one (w : World) (l : List UInt8) (hl : l.length ≤ 1000000) (hL : Laid w) :
    ∃ cap W, (convert 9 44 (.string (strOf l))).run Tryd.prog w = .ok (.slice (some ⟨w.heap.size, 0, none⟩) l.length cap) W ∧
      Below w.heap.size w (W.alloc (.cells #[.slice (some ⟨w.heap.size, 0, none⟩) l.length cap] 44)) ∧
      Calls Tryd.prog 32 #[.slice (some ⟨W.heap.size, 0, none⟩) 1 1] (W.alloc (.cells #[.slice (some ⟨w.heap.size, 0, none⟩) l.length cap] 44)) fun e w' => e = .returned (.agg (byteCells (Sha.of l)).toArray) ∧ Below w.heap.size w w' := by
  obtain ⟨cap, W, h1, h2, h3⟩ := part_one w l (by omega)
  have b : Below w.heap.size w (W.alloc (.cells #[.slice (some ⟨w.heap.size, 0, none⟩) l.length cap] 44)) := h2.alloc h2.size _
  have h := of_any _ _ [l] h3 (by simp) (by simp; omega) (hL.below b)
  rw [show [l].flatten = l by simp] at h
  exact ⟨cap, W, h1, b, h.mono fun _ _ ⟨he, hb⟩ => ⟨he, b.trans (hb.mono b.size)⟩⟩

end Go.Proofs.YtjlaoijmcenahaaDoor

/- The walks of the reference's rows, Rows, Same. -/
namespace Go.Proofs.YtjlaoijmcenahaaDoor
open Go.RowKit
set_option linter.unusedSimpArgs false
set_option linter.unusedVariables false

/-- What the region's operations leave. -/
def rowL (B b' off' n' c' : Nat) (r0 x : List UInt8) (R' : List (List UInt8)) (ix : Nat) (w : World) (v : Value) : Prop :=
  match ix with
  | 0 => v = .slice (some ⟨b', off', none⟩) n' c'
  | 1 => v = .pointer (some ⟨b', off', none⟩)
  | 2 => v = .string (strOf r0)
  | 3 => v = .string (strOf (Sha.of r0))
  | 4 => v = .string (strOf (1 :: (Sha.of r0)))
  | 5 => v = .slice (some ⟨B, 0, none⟩) 32 32
  | 6 => v = .string (strOf x)
  | 7 => v = .string (strOf (1 :: ((Sha.of r0) ++ x)))
  | 8 => ∃ g, v = .slice (some ⟨g, 0, none⟩) 1 1 ∧ w.heap[g]? = some (.cells #[.string (strOf (1 :: ((Sha.of r0) ++ x)))] 9 (0, 0))
  | 9 => v = .slice (some ⟨b', off', none⟩) n' c'
  | 10 => ∃ (q : Addr) (c : Nat), v = .slice (some q) (1 + n') c ∧ StrsAt w (some q) (1 + n') c ((1 :: ((Sha.of r0) ++ x)) :: R')
  | 11 => ∃ (q : Addr) (c : Nat), v = .slice (some q) (1 + n') c ∧ StrsAt w (some q) (1 + n') c ((1 :: ((Sha.of r0) ++ x)) :: R')
  | _ => True

theorem rowL_mono (B b' off' n' c' : Nat) (r0 x : List UInt8) (R' : List (List UInt8)) (jx : Nat) (w w' : World) (v : Value) (hb : Below w.heap.size w w') (h : rowL B b' off' n' c' r0 x R' jx w v) : rowL B b' off' n' c' r0 x R' jx w' v := by
  match jx, h with
  | 0, h => exact h
  | 1, h => exact h
  | 2, h => exact h
  | 3, h => exact h
  | 4, h => exact h
  | 5, h => exact h
  | 6, h => exact h
  | 7, h => exact h
  | 8, h => exact (let ⟨g, h1, h2⟩ := h; ⟨g, h1, (hb.block g (lt_of_block h2)).trans h2⟩)
  | 9, h => exact h
  | 10, h => exact (let ⟨q, c, h1, h2⟩ := h; ⟨q, c, h1, h2.below (Nat.le_refl _) hb⟩)
  | 11, h => exact (let ⟨q, c, h1, h2⟩ := h; ⟨q, c, h1, h2.below (Nat.le_refl _) hb⟩)
  | _ + 12, h => exact trivial

/-- What the region's operations leave. -/
def rowR (B b' off' n' c' : Nat) (r0 x : List UInt8) (R' : List (List UInt8)) (ix : Nat) (w : World) (v : Value) : Prop :=
  match ix with
  | 0 => v = .slice (some ⟨B, 0, none⟩) 32 32
  | 1 => v = .string (strOf x)
  | 2 => v = .string (strOf (1 :: x))
  | 3 => v = .slice (some ⟨b', off', none⟩) n' c'
  | 4 => v = .pointer (some ⟨b', off', none⟩)
  | 5 => v = .string (strOf r0)
  | 6 => v = .string (strOf (Sha.of r0))
  | 7 => v = .string (strOf (1 :: (x ++ (Sha.of r0))))
  | 8 => ∃ g, v = .slice (some ⟨g, 0, none⟩) 1 1 ∧ w.heap[g]? = some (.cells #[.string (strOf (1 :: (x ++ (Sha.of r0))))] 9 (0, 0))
  | 9 => v = .slice (some ⟨b', off', none⟩) n' c'
  | 10 => ∃ (q : Addr) (c : Nat), v = .slice (some q) (1 + n') c ∧ StrsAt w (some q) (1 + n') c ((1 :: (x ++ (Sha.of r0))) :: R')
  | 11 => ∃ (q : Addr) (c : Nat), v = .slice (some q) (1 + n') c ∧ StrsAt w (some q) (1 + n') c ((1 :: (x ++ (Sha.of r0))) :: R')
  | _ => True

theorem rowR_mono (B b' off' n' c' : Nat) (r0 x : List UInt8) (R' : List (List UInt8)) (jx : Nat) (w w' : World) (v : Value) (hb : Below w.heap.size w w') (h : rowR B b' off' n' c' r0 x R' jx w v) : rowR B b' off' n' c' r0 x R' jx w' v := by
  match jx, h with
  | 0, h => exact h
  | 1, h => exact h
  | 2, h => exact h
  | 3, h => exact h
  | 4, h => exact h
  | 5, h => exact h
  | 6, h => exact h
  | 7, h => exact h
  | 8, h => exact (let ⟨g, h1, h2⟩ := h; ⟨g, h1, (hb.block g (lt_of_block h2)).trans h2⟩)
  | 9, h => exact h
  | 10, h => exact (let ⟨q, c, h1, h2⟩ := h; ⟨q, c, h1, h2.below (Nat.le_refl _) hb⟩)
  | 11, h => exact (let ⟨q, c, h1, h2⟩ := h; ⟨q, c, h1, h2.below (Nat.le_refl _) hb⟩)
  | _ + 12, h => exact trivial

/-- What the region's operations leave. -/
def sameA (b off n cap b' off' cap' j : Nat) (p q : List UInt8) (ix : Nat) (w : World) (v : Value) : Prop :=
  match ix with
  | 0 => v = .slice (some ⟨b, off, none⟩) n cap
  | 1 => v = .int .i64 (j : Int)
  | 2 => v = .pointer (some ⟨b, off + j, none⟩)
  | 3 => v = .string (strOf p)
  | 4 => v = .slice (some ⟨b', off', none⟩) n cap'
  | 5 => v = .int .i64 (j : Int)
  | 6 => v = .pointer (some ⟨b', off' + j, none⟩)
  | 7 => v = .string (strOf q)
  | 8 => v = .bool false
  | _ => True

theorem sameA_mono (b off n cap b' off' cap' j : Nat) (p q : List UInt8) (jx : Nat) (w w' : World) (v : Value) (hb : Below w.heap.size w w') (h : sameA b off n cap b' off' cap' j p q jx w v) : sameA b off n cap b' off' cap' j p q jx w' v := by
  match jx, h with
  | 0, h => exact h
  | 1, h => exact h
  | 2, h => exact h
  | 3, h => exact h
  | 4, h => exact h
  | 5, h => exact h
  | 6, h => exact h
  | 7, h => exact h
  | 8, h => exact h
  | _ + 9, h => exact trivial

/-- What the region's operations leave. -/
def sameB (b off n cap b' off' cap' j : Nat) (p q : List UInt8) (ix : Nat) (w : World) (v : Value) : Prop :=
  match ix with
  | 0 => v = .slice (some ⟨b, off, none⟩) n cap
  | 1 => v = .int .i64 (j : Int)
  | 2 => v = .pointer (some ⟨b, off + j, none⟩)
  | 3 => v = .string (strOf p)
  | 4 => v = .slice (some ⟨b', off', none⟩) n cap'
  | 5 => v = .int .i64 (j : Int)
  | 6 => v = .pointer (some ⟨b', off' + j, none⟩)
  | 7 => v = .string (strOf q)
  | 8 => v = .bool true
  | _ => True

theorem sameB_mono (b off n cap b' off' cap' j : Nat) (p q : List UInt8) (jx : Nat) (w w' : World) (v : Value) (hb : Below w.heap.size w w') (h : sameB b off n cap b' off' cap' j p q jx w v) : sameB b off n cap b' off' cap' j p q jx w' v := by
  match jx, h with
  | 0, h => exact h
  | 1, h => exact h
  | 2, h => exact h
  | 3, h => exact h
  | 4, h => exact h
  | 5, h => exact h
  | 6, h => exact h
  | 7, h => exact h
  | 8, h => exact h
  | _ + 9, h => exact trivial

set_option maxRecDepth 100000 in
set_option maxHeartbeats 2000000 in
theorem refSame_any (w : World) (o o' : Option Addr) (n cap n' cap' : Nat) (A B : List (List UInt8)) (hA : StrsAt w o n cap A) (hB : StrsAt w o' n' cap' B) :
    Calls Tryd.prog 14 #[.slice o n cap, .slice o' n' cap'] w fun e w' => e = .returned (.bool (decide (A = B))) ∧ Below w.heap.size w w' := by
  have hAl := hA.len
  have hBl := hB.len
  have hcA := hA.cap
  have hcB := hB.cap
  have hmA := hA.max
  have hmB := hB.max
  have HA := Lib.hid hA; clear hA
  have HB := Lib.hid hB; clear hB
  have HAL := Lib.hid hAl; clear hAl
  have HBL := Lib.hid hBl; clear hBl
  obtain ⟨R, hR⟩ : ∃ R, R = decide (A = B) := ⟨_, rfl⟩
  rw [← hR]
  have HR := Lib.hid hR; clear hR
  by_cases hn : n = n'
  · subst hn
    have ht : ((n : Int) != (n : Int)) = false := by simp
    go_enter Tryd.func14, Tryd.ntmps14
    go_wp2_with fail
    go_loopw [5] (fun v wr => ∃ j : Nat, j ≤ n ∧ v = .int .i64 (j : Int) ∧ Hid (A.take j = B.take j) ∧ Below w.heap.size w wr) (fun v _ => n - (intOf v).toNat)
    case atStart => exact ⟨0, by omega, rfl, Lib.hid rfl, Below.refl _ _⟩
    case round =>
      obtain ⟨j, hj, rfl, heq, Br⟩ := hrel
      by_cases hlt : j < n
      · obtain ⟨b, off, rfl⟩ := HA.out.form (by omega)
        obtain ⟨b', off', rfl⟩ := HB.out.form (by omega)
        obtain ⟨p, hp⟩ : ∃ p, A[j]? = some p := ⟨_, List.getElem?_eq_getElem (by rw [HAL.out]; exact hlt)⟩
        obtain ⟨q, hq⟩ : ∃ q, B[j]? = some q := ⟨_, List.getElem?_eq_getElem (by rw [HBL.out]; exact hlt)⟩
        have HA2 := Lib.hid (HA.out.below (Nat.le_refl _) Br)
        have HB2 := Lib.hid (HB.out.below (Nat.le_refl _) Br)
        have HP := Lib.hid hp; clear hp
        have HQ := Lib.hid hq; clear hq
        go_wp2_with fail
        by_cases hpq : p = q
        · have hse : ((strOf p).toList == (strOf q).toList) = true := by rw [hpq]; simp
          have HSE := Lib.hid hse; clear hse
          have hnext : A.take (j + 1) = B.take (j + 1) := by rw [List.take_add_one, List.take_add_one, heq.out, HP.out, HQ.out, hpq]
          have HNX := Lib.hid hnext; clear hnext hpq
          refine wp_region_rel [[], [], [0, 1], [2], [], [], [4, 5], [6], [3, 7]] (sameA b off n cap b' off' cap' j p q) 26 (by kernel_rfl) (by kernel_rfl) (by kernel_rfl) (sameA_mono b off n cap b' off' cap' j p q) ?_ ?_
          · intro ix op hi w2 b2 vs hv
            have him : ix < 9 := (List.getElem?_eq_some_iff.1 hi).1
            have hb0 := b2
            match ix, him, hi with
            | 0, _, hi =>
              obtain rfl := Option.some.inj hi
              simp only [relF, List.getD_cons_zero, List.getD_cons_succ, List.foldl_cons, List.foldl_nil, dstAt, List.getElem?_cons_zero, List.getElem?_cons_succ, Option.bind_some]
              go_wp2_with fail
              exact ⟨rfl, Below.refl _ _, rfl, rfl⟩
            | 1, _, hi =>
              obtain rfl := Option.some.inj hi
              simp only [relF, List.getD_cons_zero, List.getD_cons_succ, List.foldl_cons, List.foldl_nil, dstAt, List.getElem?_cons_zero, List.getElem?_cons_succ, Option.bind_some]
              go_wp2_with fail
              exact ⟨rfl, Below.refl _ _, rfl, rfl⟩
            | 2, _, hi =>
              obtain rfl := Option.some.inj hi
              have h0 : vs 0 = _ := hv 0 (by decide)
              have h1 : vs 1 = _ := hv 1 (by decide)
              simp only [relF, List.getD_cons_zero, List.getD_cons_succ, List.foldl_cons, List.foldl_nil, dstAt, List.getElem?_cons_zero, List.getElem?_cons_succ, Option.bind_some]
              go_frame
              rw [h0, h1]
              go_wp2_with fail
              exact ⟨rfl, Below.refl _ _, rfl, rfl⟩
            | 3, _, hi =>
              obtain rfl := Option.some.inj hi
              have h2 : vs 2 = _ := hv 2 (by decide)
              have hcell := (HA2.out.below (Nat.le_refl _) b2).get HP.out
              simp only [relF, List.getD_cons_zero, List.getD_cons_succ, List.foldl_cons, List.foldl_nil, dstAt, List.getElem?_cons_zero, List.getElem?_cons_succ, Option.bind_some]
              go_frame
              rw [h2]
              go_wp2_with fail
              exact ⟨rfl, Below.refl _ _, rfl, rfl⟩
            | 4, _, hi =>
              obtain rfl := Option.some.inj hi
              simp only [relF, List.getD_cons_zero, List.getD_cons_succ, List.foldl_cons, List.foldl_nil, dstAt, List.getElem?_cons_zero, List.getElem?_cons_succ, Option.bind_some]
              go_wp2_with fail
              exact ⟨rfl, Below.refl _ _, rfl, rfl⟩
            | 5, _, hi =>
              obtain rfl := Option.some.inj hi
              simp only [relF, List.getD_cons_zero, List.getD_cons_succ, List.foldl_cons, List.foldl_nil, dstAt, List.getElem?_cons_zero, List.getElem?_cons_succ, Option.bind_some]
              go_wp2_with fail
              exact ⟨rfl, Below.refl _ _, rfl, rfl⟩
            | 6, _, hi =>
              obtain rfl := Option.some.inj hi
              have h4 : vs 4 = _ := hv 4 (by decide)
              have h5 : vs 5 = _ := hv 5 (by decide)
              simp only [relF, List.getD_cons_zero, List.getD_cons_succ, List.foldl_cons, List.foldl_nil, dstAt, List.getElem?_cons_zero, List.getElem?_cons_succ, Option.bind_some]
              go_frame
              rw [h4, h5]
              go_wp2_with fail
              exact ⟨rfl, Below.refl _ _, rfl, rfl⟩
            | 7, _, hi =>
              obtain rfl := Option.some.inj hi
              have h6 : vs 6 = _ := hv 6 (by decide)
              have hcell := (HB2.out.below (Nat.le_refl _) b2).get HQ.out
              simp only [relF, List.getD_cons_zero, List.getD_cons_succ, List.foldl_cons, List.foldl_nil, dstAt, List.getElem?_cons_zero, List.getElem?_cons_succ, Option.bind_some]
              go_frame
              rw [h6]
              go_wp2_with fail
              exact ⟨rfl, Below.refl _ _, rfl, rfl⟩
            | 8, _, hi =>
              obtain rfl := Option.some.inj hi
              have h3 : vs 3 = _ := hv 3 (by decide)
              have h7 : vs 7 = _ := hv 7 (by decide)
              have hse := HSE.out
              simp only [relF, List.getD_cons_zero, List.getD_cons_succ, List.foldl_cons, List.foldl_nil, dstAt, List.getElem?_cons_zero, List.getElem?_cons_succ, Option.bind_some]
              go_frame
              rw [h3, h7]
              go_wp2_with fail
              exact ⟨rfl, Below.refl _ _, rfl, rfl⟩
            | nx + 9, him, _ => exact absurd him (by omega)
          · intro w2 b2 vs hv
            have hb0 := b2
            have h8 : vs 8 = _ := hv 8 (by decide)
            simp only [relF, List.drop_succ_cons, List.drop_zero, List.length_cons, List.length_nil, Nat.zero_add, Nat.reduceAdd, List.range, List.range.loop, List.foldl_cons, List.foldl_nil, dstAt, List.getElem?_cons_zero, List.getElem?_cons_succ, Option.bind_some]
            go_frame
            rw [h8]
            have B2 := Br.trans (b2.mono Br.size)
            go_wp2_with fail
            go_roundw
            case rel => exact ⟨j + 1, by omega, by go_num, HNX, B2⟩
            case measure => simp [intOf]; omega
        · have hse : ((strOf p).toList == (strOf q).toList) = false := by rw [strOf_toList, strOf_toList, beq_eq_false_iff_ne]; exact hpq
          have HSE := Lib.hid hse; clear hse
          have hRf : R = false := by
            rw [HR.out]
            refine decide_eq_false fun hAB => hpq ?_
            have h1 := HP.out
            rw [hAB, HQ.out] at h1
            exact (Option.some.inj h1).symm
          have HRF := Lib.hid hRf; clear hRf hpq
          refine wp_region_rel [[], [], [0, 1], [2], [], [], [4, 5], [6], [3, 7]] (sameB b off n cap b' off' cap' j p q) 26 (by kernel_rfl) (by kernel_rfl) (by kernel_rfl) (sameB_mono b off n cap b' off' cap' j p q) ?_ ?_
          · intro ix op hi w2 b2 vs hv
            have him : ix < 9 := (List.getElem?_eq_some_iff.1 hi).1
            have hb0 := b2
            match ix, him, hi with
            | 0, _, hi =>
              obtain rfl := Option.some.inj hi
              simp only [relF, List.getD_cons_zero, List.getD_cons_succ, List.foldl_cons, List.foldl_nil, dstAt, List.getElem?_cons_zero, List.getElem?_cons_succ, Option.bind_some]
              go_wp2_with fail
              exact ⟨rfl, Below.refl _ _, rfl, rfl⟩
            | 1, _, hi =>
              obtain rfl := Option.some.inj hi
              simp only [relF, List.getD_cons_zero, List.getD_cons_succ, List.foldl_cons, List.foldl_nil, dstAt, List.getElem?_cons_zero, List.getElem?_cons_succ, Option.bind_some]
              go_wp2_with fail
              exact ⟨rfl, Below.refl _ _, rfl, rfl⟩
            | 2, _, hi =>
              obtain rfl := Option.some.inj hi
              have h0 : vs 0 = _ := hv 0 (by decide)
              have h1 : vs 1 = _ := hv 1 (by decide)
              simp only [relF, List.getD_cons_zero, List.getD_cons_succ, List.foldl_cons, List.foldl_nil, dstAt, List.getElem?_cons_zero, List.getElem?_cons_succ, Option.bind_some]
              go_frame
              rw [h0, h1]
              go_wp2_with fail
              exact ⟨rfl, Below.refl _ _, rfl, rfl⟩
            | 3, _, hi =>
              obtain rfl := Option.some.inj hi
              have h2 : vs 2 = _ := hv 2 (by decide)
              have hcell := (HA2.out.below (Nat.le_refl _) b2).get HP.out
              simp only [relF, List.getD_cons_zero, List.getD_cons_succ, List.foldl_cons, List.foldl_nil, dstAt, List.getElem?_cons_zero, List.getElem?_cons_succ, Option.bind_some]
              go_frame
              rw [h2]
              go_wp2_with fail
              exact ⟨rfl, Below.refl _ _, rfl, rfl⟩
            | 4, _, hi =>
              obtain rfl := Option.some.inj hi
              simp only [relF, List.getD_cons_zero, List.getD_cons_succ, List.foldl_cons, List.foldl_nil, dstAt, List.getElem?_cons_zero, List.getElem?_cons_succ, Option.bind_some]
              go_wp2_with fail
              exact ⟨rfl, Below.refl _ _, rfl, rfl⟩
            | 5, _, hi =>
              obtain rfl := Option.some.inj hi
              simp only [relF, List.getD_cons_zero, List.getD_cons_succ, List.foldl_cons, List.foldl_nil, dstAt, List.getElem?_cons_zero, List.getElem?_cons_succ, Option.bind_some]
              go_wp2_with fail
              exact ⟨rfl, Below.refl _ _, rfl, rfl⟩
            | 6, _, hi =>
              obtain rfl := Option.some.inj hi
              have h4 : vs 4 = _ := hv 4 (by decide)
              have h5 : vs 5 = _ := hv 5 (by decide)
              simp only [relF, List.getD_cons_zero, List.getD_cons_succ, List.foldl_cons, List.foldl_nil, dstAt, List.getElem?_cons_zero, List.getElem?_cons_succ, Option.bind_some]
              go_frame
              rw [h4, h5]
              go_wp2_with fail
              exact ⟨rfl, Below.refl _ _, rfl, rfl⟩
            | 7, _, hi =>
              obtain rfl := Option.some.inj hi
              have h6 : vs 6 = _ := hv 6 (by decide)
              have hcell := (HB2.out.below (Nat.le_refl _) b2).get HQ.out
              simp only [relF, List.getD_cons_zero, List.getD_cons_succ, List.foldl_cons, List.foldl_nil, dstAt, List.getElem?_cons_zero, List.getElem?_cons_succ, Option.bind_some]
              go_frame
              rw [h6]
              go_wp2_with fail
              exact ⟨rfl, Below.refl _ _, rfl, rfl⟩
            | 8, _, hi =>
              obtain rfl := Option.some.inj hi
              have h3 : vs 3 = _ := hv 3 (by decide)
              have h7 : vs 7 = _ := hv 7 (by decide)
              have hse := HSE.out
              simp only [relF, List.getD_cons_zero, List.getD_cons_succ, List.foldl_cons, List.foldl_nil, dstAt, List.getElem?_cons_zero, List.getElem?_cons_succ, Option.bind_some]
              go_frame
              rw [h3, h7]
              go_wp2_with fail
              exact ⟨rfl, Below.refl _ _, rfl, rfl⟩
            | nx + 9, him, _ => exact absurd him (by omega)
          · intro w2 b2 vs hv
            have hb0 := b2
            have h8 : vs 8 = _ := hv 8 (by decide)
            simp only [relF, List.drop_succ_cons, List.drop_zero, List.length_cons, List.length_nil, Nat.zero_add, Nat.reduceAdd, List.range, List.range.loop, List.foldl_cons, List.foldl_nil, dstAt, List.getElem?_cons_zero, List.getElem?_cons_succ, Option.bind_some]
            go_frame
            rw [h8]
            have B2 := Br.trans (b2.mono Br.size)
            go_wp2_with fail
            go_ret
            exact ⟨by rw [HRF.out]; rfl, B2⟩
      · obtain rfl : j = n := by omega
        have hRt : R = true := by
          rw [HR.out]
          have h := heq.out
          rw [List.take_of_length_le (by rw [HAL.out]; exact Nat.le_refl _), List.take_of_length_le (by rw [HBL.out]; exact Nat.le_refl _)] at h
          exact decide_eq_true h
        have HRT := Lib.hid hRt; clear hRt
        go_wp2_with fail
        go_ret
        exact ⟨by rw [HRT.out]; rfl, Br⟩
  · have ht : ((n : Int) != (n' : Int)) = true := by rw [bne_iff_ne]; omega
    have hRf : R = false := by
      rw [HR.out]
      refine decide_eq_false fun hAB => hn ?_
      have h1 := HAL.out
      rw [hAB, HBL.out] at h1
      exact h1.symm
    have HRF := Lib.hid hRf; clear hRf
    go_enter Tryd.func14, Tryd.ntmps14
    go_wp2_with fail
    go_ret
    exact ⟨by rw [HRF.out]; rfl, Below.refl _ _⟩

/-- What the region's operations leave. -/
def rrV (n b' off' n' c' : Nat) (r0 : List UInt8) (R' : List (List UInt8)) (ix : Nat) (w : World) (v : Value) : Prop :=
  match ix with
  | 0 => v = .int .i64 (n : Int)
  | 1 => v = .int .u64 (n : Int)
  | 2 => v = .string (strOf (Wire.num n))
  | 3 => v = .string (strOf (3 :: (Wire.num n)))
  | 4 => v = .slice (some ⟨b', off', none⟩) n' c'
  | 5 => v = .pointer (some ⟨b', off', none⟩)
  | 6 => v = .string (strOf r0)
  | 7 => v = .string (strOf (Sha.of r0))
  | 8 => v = .string (strOf (3 :: ((Wire.num n) ++ (Sha.of r0))))
  | 9 => ∃ g, v = .slice (some ⟨g, 0, none⟩) 1 1 ∧ w.heap[g]? = some (.cells #[.string (strOf (3 :: ((Wire.num n) ++ (Sha.of r0))))] 9 (0, 0))
  | 10 => v = .slice (some ⟨b', off', none⟩) n' c'
  | 11 => ∃ (q : Addr) (c : Nat), v = .slice (some q) (1 + n') c ∧ StrsAt w (some q) (1 + n') c ((3 :: ((Wire.num n) ++ (Sha.of r0))) :: R')
  | 12 => ∃ (q : Addr) (c : Nat), v = .slice (some q) (1 + n') c ∧ StrsAt w (some q) (1 + n') c ((3 :: ((Wire.num n) ++ (Sha.of r0))) :: R')
  | 13 => v = .bool true
  | _ => True

theorem rrV_mono (n b' off' n' c' : Nat) (r0 : List UInt8) (R' : List (List UInt8)) (jx : Nat) (w w' : World) (v : Value) (hb : Below w.heap.size w w') (h : rrV n b' off' n' c' r0 R' jx w v) : rrV n b' off' n' c' r0 R' jx w' v := by
  match jx, h with
  | 0, h => exact h
  | 1, h => exact h
  | 2, h => exact h
  | 3, h => exact h
  | 4, h => exact h
  | 5, h => exact h
  | 6, h => exact h
  | 7, h => exact h
  | 8, h => exact h
  | 9, h => exact (let ⟨g, h1, h2⟩ := h; ⟨g, h1, (hb.block g (lt_of_block h2)).trans h2⟩)
  | 10, h => exact h
  | 11, h => exact (let ⟨q, c, h1, h2⟩ := h; ⟨q, c, h1, h2.below (Nat.le_refl _) hb⟩)
  | 12, h => exact (let ⟨q, c, h1, h2⟩ := h; ⟨q, c, h1, h2.below (Nat.le_refl _) hb⟩)
  | 13, h => exact h
  | _ + 14, h => exact trivial

end Go.Proofs.YtjlaoijmcenahaaDoor

/- The walks of the two functions that journal.walk tells its records to. -/
namespace Go.Proofs.YtjlaoijmcenahaaDoor
open Go.RowKit
set_option linter.unusedSimpArgs false
set_option linter.unusedVariables false

def strCells (d : List (List UInt8)) : List Value := d.map fun l => Value.string (strOf l)
theorem strCells_app (a b : List (List UInt8)) : strCells (a ++ b) = strCells a ++ strCells b := by simp [strCells]

theorem one_str (x : ByteArray) : ∀ u ∈ [Value.string x], u.oneCell' = true := by
  intro u hu
  obtain rfl := List.mem_singleton.1 hu
  rfl

/-- The variable that the records are told to: a row of its own. -/
def TellIs (w : World) (B p : Nat) (d : List (List UInt8)) : Prop :=
  ∃ v, w.heap[p]? = some (.cells #[v] 23 (0, 0)) ∧ w.ownsRow B 9 1 v d.length (strCells d)

theorem TellIs.kept {w w' : World} {B p : Nat} {d : List (List UInt8)} (h : TellIs w B p d) (hs : ∀ k, k < w.heap.size → (k = p ∨ B ≤ k) → w'.heap[k]? = w.heap[k]?) : TellIs w' B p d := by
  obtain ⟨v, h1, h2⟩ := h
  exact ⟨v, (hs p (lt_of_block h1) (.inl rfl)).trans h1, ownsRow_below h2 fun k hk => hs k (h2.lt k hk).2 (.inr (h2.lt k hk).1)⟩

set_option maxRecDepth 100000 in
set_option maxHeartbeats 1000000 in
theorem tell_any (B p : Nat) (d : List (List UInt8)) (t : List UInt8) (w0 w1 : World) (h : TellIs w0 B p d) (hb : Below w0.heap.size w0 w1) (hB : B ≤ w0.heap.size) (hpB : p < B) (hd : d.length ≤ 1000000) :
    Calls Tryd.prog 23 #[.string (strOf t), .pointer (some ⟨p, 0, none⟩)] w1 fun e w2 => e = .returned (.tuple #[]) ∧ TellIs w2 B p (d ++ [t]) ∧ BelowBut B p w1 w2 ∧ ∀ k, w0.heap.size ≤ k → k < w1.heap.size → w2.heap[k]? = w1.heap[k]? := by
  obtain ⟨v, hv0, ho0⟩ := h
  have hltv := fun k hk => (ho0.lt k hk)
  have hv : w1.heap[p]? = some (.cells #[v] 23 (0, 0)) := (hb.block _ (lt_of_block hv0)).trans hv0
  have ho : w1.ownsRow B 9 1 v d.length (strCells d) := ownsRow_below ho0 fun k hk => hb.block k (hltv k hk).2
  obtain ⟨i0, hi, hz0, hz1, hz2⟩ := info_parts Tryd.info_string
  obtain ⟨a0, c0, rfl⟩ := ownsRow_slice ho
  have hc := cell_of_one hv
  have hc1 : ∀ o, (w1.alloc o).cell? ⟨p, 0, none⟩ = some (.slice a0 d.length c0) := fun o => cell_of_one ((Below.heap_alloc w1 o p (lt_of_block hv)).trans hv)
  have hbs := hb.size
  have HO := Lib.hid ho; clear ho ho0
  have HV := Lib.hid hv; clear hv hv0
  have HLT := Lib.hid hltv; clear hltv
  have HI0 := Lib.hid hi; clear hi
  have HZ0 := Lib.hid hz0; clear hz0
  have HZ1 := Lib.hid hz1; clear hz1
  have HZ2 := Lib.hid hz2; clear hz2
  go_enter Tryd.func23, Tryd.ntmps23
  go_wp2_with (at_builtin; refine wpList_append_own _ rfl _ _ 23 rfl B 9 i0 (.string ⟨#[]⟩) 1 16 Tryd.under_strs HI0.out HZ0.out HZ1.out HZ2.out rfl (by decide) _ _ _ rfl (HO.out.alloc _) ⟨w1.heap.size, 0, none⟩ 1 1 [.string (strOf t)] rfl rfl (cell_one_new _ _ _) (one_str _) (by unfold maxLen; omega) (by omega) (by simp; omega) ?_)
  intro v' w5 hown' hgrow _
  obtain ⟨p', c', rfl⟩ := ownsRow_slice hown'
  have hpl := lt_of_block HV.out
  have hne : ∀ k, (Value.slice a0 d.length c0).ownBlock = some k → B ≤ k ∧ k < w0.heap.size := fun k hk => HLT.out k hk
  have hsz := hgrow.size
  have x0 : w5.heap[p]? = some (.cells #[.slice a0 d.length c0] 23 (0, 0)) := (hgrow.block p (by simp; omega) (fun e => by have := (hne p e.symm).1; omega)).trans ((Below.heap_alloc _ _ _ hpl).trans HV.out)
  have hc5 := cell_of_one x0
  have hf5 := free_of_one x0
  have hres : TellIs (w5.setCell ⟨p, 0, none⟩ (.slice p' (d.length + 1) c')) B p (d ++ [t]) := by
    refine ⟨_, one_setCell x0, ?_⟩
    rw [List.length_append, strCells_app]
    refine ownsRow_below hown' fun k hk => Below.heap_setCell _ _ _ _ (fun e => ?_)
    have := (hown'.lt k hk).1
    simp only at e; omega
  have hbut : BelowBut B p w1 (w5.setCell ⟨p, 0, none⟩ (.slice p' (d.length + 1) c')) := by
    refine ⟨hgrow.os, hgrow.tape, hgrow.output, ?_, fun k hk hkp => ?_⟩
    · have := hgrow.size; simp at this ⊢; omega
    · rw [Below.heap_setCell _ _ _ _ (by simp only; omega), hgrow.block k (by simp; omega) (fun e => by have := (hne k e.symm).1; omega)]
      exact Below.heap_alloc _ _ _ (by omega)
  have hkeep : ∀ k, w0.heap.size ≤ k → k < w1.heap.size → (w5.setCell ⟨p, 0, none⟩ (.slice p' (d.length + 1) c')).heap[k]? = w1.heap[k]? := fun k hk1 hk2 => by
    rw [Below.heap_setCell _ _ _ _ (by simp only; omega), hgrow.block k (by simp; omega) (fun e => by have := (hne k e.symm).2; omega)]
    exact Below.heap_alloc _ _ _ hk2
  have HR := Lib.hid hres; clear hres
  have HBB := Lib.hid hbut; clear hbut
  have HKK := Lib.hid hkeep; clear hkeep
  clear hown' hgrow x0 hne hsz hc hc1
  go_wp2_with fail
  go_end0
  exact ⟨rfl, HR.out, HBB.out, HKK.out⟩

set_option maxRecDepth 100000 in
theorem tellNone_any (s : ByteArray) (w : World) :
    Calls Tryd.prog 27 #[.string s] w fun e w' => w = w' ∧ e = .returned (.tuple #[]) := by
  go_enter Tryd.func27, Tryd.ntmps27
  go_wp2_with fail
  go_end0
  exact ⟨rfl, rfl⟩

theorem Tryd.callTell (args : Array Value) (w : World) : Sem.run Tryd.prog (callFunc 23 args) w = .ok (.enter 23 args) w := by kernel_rfl
theorem Tryd.callTellNone (args : Array Value) (w : World) : Sem.run Tryd.prog (callFunc 27 args) w = .ok (.enter 27 args) w := by kernel_rfl

end Go.Proofs.YtjlaoijmcenahaaDoor
