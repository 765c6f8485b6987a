/- The walks of clash.Rows and of the function it makes. -/
import Derived.Test.YteljlnkjdajkgaaDoorClash2
import Derived.Test.YteljlnkjdajkgaaDoorRelTail
import Derived.Laws.EntriesVeiled
namespace Go.Proofs.YteljlnkjdajkgaaDoor
open Go.RowKit
set_option linter.unusedSimpArgs false
set_option linter.unusedVariables false

def strCells (d : List (List UInt8)) : List Value := d.map fun l => Value.string (strOf l)
theorem strCells_app (a b : List (List UInt8)) : strCells (a ++ b) = strCells a ++ strCells b := by simp [strCells]

/-- The three variables that the function captures: the rows so far, the function itself; the proof's lies below. -/
def LayInv (w : World) (B pb : Nat) (d : List (List UInt8)) : Prop :=
  (∃ v, w.heap[B + 1]? = some (.cells #[v] 24 (0, 0)) ∧ w.ownsRow B 9 1 v d.length (strCells d)) ∧
  w.heap[B + 2]? = some (.cells #[.func (.func 20) #[] #[.pointer (some ⟨B + 2, 0, none⟩), .pointer (some ⟨B + 1, 0, none⟩), .pointer (some ⟨pb, 0, none⟩)]] 44 (0, 0))

theorem row_ne {w : World} {B b n : Nat} {v u : Value} {xs : List Value} (h : w.ownsRow B 9 1 v n xs) (hb : w.heap[b]? = some (.cells #[u] 24 (0, 0)) ∨ w.heap[b]? = some (.cells #[u] 44 (0, 0))) : v.ownBlock ≠ some b := by
  intro e
  rcases h.2 with ⟨rfl, _⟩ | ⟨g, cap, cur, rfl, _, hgg, _⟩
  · simp [Value.ownBlock] at e
  · simp [Value.ownBlock] at e
    subst e
    rw [hgg] at hb
    simp at hb

/-- What an append and the store of it leave. -/
theorem lay_store {w w1 : World} {B pb m : Nat} {v v' : Value} {d : List (List UInt8)} {h : List UInt8} (hd : d.length = m) (hw : w.heap[B + 1]? = some (.cells #[v] 24 (0, 0))) (hown : w.ownsRow B 9 1 v m (strCells d))
    (hf : w.heap[B + 2]? = some (.cells #[.func (.func 20) #[] #[.pointer (some ⟨B + 2, 0, none⟩), .pointer (some ⟨B + 1, 0, none⟩), .pointer (some ⟨pb, 0, none⟩)]] 44 (0, 0)))
    (hg : w.grownBy w1 v.ownBlock) (hown' : w1.ownsRow B 9 1 v' (m + 1) (strCells d ++ [.string (strOf h)])) :
    (w1.cell? ⟨B + 1, 0, none⟩ = some v ∧ w1.frozen? ⟨B + 1, 0, none⟩ = false) ∧ LayInv (w1.setCell ⟨B + 1, 0, none⟩ v') B pb (d ++ [h]) ∧ Below B w (w1.setCell ⟨B + 1, 0, none⟩ v') := by
  have l0 := lt_of_block hw
  have l1 := lt_of_block hf
  have n1 := row_ne hown (.inl hw)
  have n2 := row_ne hown (.inr hf)
  have x0 : w1.heap[B + 1]? = some (.cells #[v] 24 (0, 0)) := (hg.block _ l0 (fun e => n1 e.symm)).trans hw
  have x1 := (hg.block (B + 2) l1 (fun e => n2 e.symm)).trans hf
  have m1 := row_ne hown' (.inl x0)
  refine ⟨⟨cell_of_one x0, free_of_one x0⟩, ⟨⟨v', one_setCell x0, ?_⟩, ?_⟩, ?_⟩
  · rw [List.length_append, strCells_app, hd]
    refine ownsRow_below hown' fun k hk => ?_
    rw [Below.heap_setCell _ _ _ _ (fun e => m1 (by rw [hk, e]))]
  · rw [Below.heap_setCell _ _ _ _ (by simp only; omega)]; exact x1
  · refine ⟨hg.os, hg.tape, hg.output, ?_, fun k hk => ?_⟩
    · have := hg.size; simp; omega
    · rw [Below.heap_setCell _ _ _ _ (by simp only; omega), hg.block k (by omega) (fun e => by have := (hown.lt k e.symm).1; omega)]

theorem LayInv.below {w w' : World} {B pb : Nat} {d : List (List UInt8)} (h : LayInv w B pb d) (hb : Below w.heap.size w w') : LayInv w' B pb d := by
  obtain ⟨⟨v, h1, h2⟩, h3⟩ := h
  exact ⟨⟨v, (hb.block _ (lt_of_block h1)).trans h1, owns_below h2 hb⟩, (hb.block _ (lt_of_block h3)).trans h3⟩

/-- What the region's operations leave. -/
def layL (B k c bx by' : Nat) (q : Option Addr) (r0 y : List UInt8) (ix : Nat) (w : World) (v : Value) : Prop :=
  match ix with
  | 0 => v = .slice q k c
  | 1 => v = .slice (some ⟨bx, 0, none⟩) 32 32
  | 2 => v = .string (strOf (Sha.of r0))
  | 3 => v = .string (strOf (1 :: (Sha.of r0)))
  | 4 => v = .slice (some ⟨by', 0, none⟩) 32 32
  | 5 => v = .string (strOf y)
  | 6 => v = .string (strOf (1 :: ((Sha.of r0) ++ y)))
  | 7 => ∃ g, v = .slice (some ⟨g, 0, none⟩) 1 1 ∧ w.heap[g]? = some (.cells #[.string (strOf (1 :: ((Sha.of r0) ++ y)))] 9 (0, 0))
  | _ => True

theorem layL_mono (B k c bx by' : Nat) (q : Option Addr) (r0 y : List UInt8) (jx : Nat) (w w' : World) (v : Value) (hb : Below w.heap.size w w') (h : layL B k c bx by' q r0 y jx w v) : layL B k c bx by' q r0 y jx w' v := by
  match jx, h with
  | 0, h => exact h
  | 1, h => exact h
  | 2, h => exact h
  | 3, h => exact h
  | 4, h => exact h
  | 5, h => exact h
  | 6, h => exact h
  | 7, h => exact (let ⟨g, h1, h2⟩ := h; ⟨g, h1, (hb.block g (lt_of_block h2)).trans h2⟩)
  | _ + 8, h => exact trivial

/-- What the region's operations leave. -/
def layR (B k c bx by' : Nat) (q : Option Addr) (r0 y : List UInt8) (ix : Nat) (w : World) (v : Value) : Prop :=
  match ix with
  | 0 => v = .slice q k c
  | 1 => v = .slice (some ⟨by', 0, none⟩) 32 32
  | 2 => v = .string (strOf y)
  | 3 => v = .string (strOf (1 :: y))
  | 4 => v = .slice (some ⟨bx, 0, none⟩) 32 32
  | 5 => v = .string (strOf (Sha.of r0))
  | 6 => v = .string (strOf (1 :: (y ++ (Sha.of r0))))
  | 7 => ∃ g, v = .slice (some ⟨g, 0, none⟩) 1 1 ∧ w.heap[g]? = some (.cells #[.string (strOf (1 :: (y ++ (Sha.of r0))))] 9 (0, 0))
  | _ => True

theorem layR_mono (B k c bx by' : Nat) (q : Option Addr) (r0 y : List UInt8) (jx : Nat) (w w' : World) (v : Value) (hb : Below w.heap.size w w') (h : layR B k c bx by' q r0 y jx w v) : layR B k c bx by' q r0 y jx w' v := by
  match jx, h with
  | 0, h => exact h
  | 1, h => exact h
  | 2, h => exact h
  | 3, h => exact h
  | 4, h => exact h
  | 5, h => exact h
  | 6, h => exact h
  | 7, h => exact (let ⟨g, h1, h2⟩ := h; ⟨g, h1, (hb.block g (lt_of_block h2)).trans h2⟩)
  | _ + 8, h => exact trivial

theorem one_str (x : ByteArray) : ∀ u ∈ [Value.string x], u.oneCell' = true := by
  intro u hu
  obtain rfl := List.mem_singleton.1 hu
  rfl

theorem rev_last {R : List (List UInt8)} {k : Nat} {r : List UInt8} (hk : R.length = k + 1) (h0 : R[0]? = some r) : R.reverse[k]? = some r := by
  rw [List.getElem?_reverse (by omega), hk]
  rw [show k + 1 - 1 - k = 0 by omega]; exact h0

set_option maxRecDepth 100000 in
set_option maxHeartbeats 4000000 in
theorem layRec_any (w0 : World) (hL : Laid w0) (pb : Nat) (oP : Option Addr) (mP cP : Nat) (P : List (List UInt8)) (hP : HashesAt w0 oP mP cP P) (hpb : w0.heap[pb]? = some (.cells #[.slice oP mP cP] 22 (0, 0))) (hPB : P.length ≤ 1000000) (l : List UInt8) (hl : l.length ≤ 100000) (N : Nat) : ∀ (w : World) (n i deep : Nat), n = N → i < n → n ≤ 1073741824 → Below w0.heap.size w0 w → LayInv w w0.heap.size pb [0 :: l] → (Tree.sides n i).length + deep = P.length →
    Calls Tryd.prog 20 #[.int .i64 (n : Int), .int .i64 (i : Int), .int .i64 (deep : Int), .pointer (some ⟨w0.heap.size + 2, 0, none⟩), .pointer (some ⟨w0.heap.size + 1, 0, none⟩), .pointer (some ⟨pb, 0, none⟩)] w fun e w' => e = .returned (.tuple #[]) ∧ LayInv w' w0.heap.size pb ((Tree.rowsS (Tree.sides n i) l (P.take (P.length - deep))).reverse) ∧ Below w0.heap.size w0 w' := by
  induction N using Nat.strongRecOn with
  | ind N ih =>
  intro w n i deep hN h1 h2 Bw hI hsp
  subst hN
  have IH := Lib.hid ih; clear ih
  have hPm : P.length = mP := hP.1.1
  have hcapP : mP ≤ cP := hP.1.2.1
  have hmaxP : cP ≤ 9223372036854775807 := hP.1.2.2.1
  by_cases h : 2 ≤ n
  · have ht1 : ((n : Int) == 1) = false := by rw [beq_eq_false_iff_ne]; omega
    obtain ⟨k0, hk0⟩ : ∃ k, k = Tree.half n := ⟨_, rfl⟩
    have hk1 : 1 ≤ k0 := by rw [hk0]; exact Tree.half_pos h
    have hkn : k0 < n := by rw [hk0]; exact Tree.half_lt h
    have hhalf := treeHalf_nat w n (by omega)
    rw [← hk0] at hhalf
    have HH := Lib.hid hhalf; clear hhalf
    have HK := Lib.hid hk0; clear hk0
    have hdp : deep ≤ 9223372036854775800 := by omega
    obtain ⟨i0, hi0, hz0, hz1, hz2⟩ := info_parts Tryd.info_string
    have HI0 := Lib.hid hi0; clear hi0
    have HZ0 := Lib.hid hz0; clear hz0
    have HZ1 := Lib.hid hz1; clear hz1
    have HZ2 := Lib.hid hz2; clear hz2
    by_cases hlt : i < k0
    · have hsd := Tree.sides_left h (by rw [← HK.out]; exact hlt)
      rw [← HK.out] at hsd
      have ht2 : decide ((i : Int) < (k0 : Int)) = true := decide_eq_true (by omega)
      have ht2' : decide (i < k0) = true := decide_eq_true (by omega)
      obtain ⟨sd, hsd'⟩ : ∃ sd, sd = Tree.sides k0 i := ⟨_, rfl⟩
      rw [← hsd'] at hsd
      have hsl : sd.length + (deep + 1) = P.length := by rw [hsd, List.length_cons] at hsp; omega
      have hs30 : sd.length ≤ 30 := by rw [hsd']; exact Tree.sides_len 30 _ _ (by omega) (by omega)
      obtain ⟨y, hy⟩ : ∃ y, P[P.length - 1 - deep]? = some y := ⟨_, List.getElem?_eq_getElem (by omega)⟩
      have hyl := hP.2 y (List.mem_of_getElem? hy)
      obtain ⟨bp, op, rfl⟩ := hP.form (by omega)
      have hyr := hP.get hy
      have hPt : P.take (P.length - deep) = P.take (P.length - (deep + 1)) ++ [y] := by
        rw [show P.length - deep = (P.length - (deep + 1)) + 1 by omega, List.take_add_one]
        rw [show P.length - (deep + 1) = P.length - 1 - deep by omega, hy]; rfl
      obtain ⟨R', hR'⟩ : ∃ R', R' = Tree.rowsS sd l (P.take (P.length - (deep + 1))) := ⟨_, rfl⟩
      have hRl : R'.length = sd.length + 1 := by rw [hR', Tree.rowsS_len]
      obtain ⟨r0, hr0⟩ : ∃ r0, R'[0]? = some r0 := ⟨_, List.getElem?_eq_getElem (by omega)⟩
      have hr0h : R'.headD [] = r0 := by rw [List.headD_eq_head?_getD, List.head?_eq_getElem?, hr0]; rfl
      have htl : (P.take (P.length - (deep + 1))).length = sd.length := by rw [List.length_take]; omega
      have hrb : r0.length ≤ 100001 := Tree.rows_bound sd l _ htl.symm (fun p hp => hP.2 p (List.mem_of_mem_take hp)) hl r0 (by rw [← hR']; exact List.mem_of_getElem? hr0)
      have hfin : (Tree.rowsS (Tree.sides n i) l (P.take (P.length - deep))).reverse = R'.reverse ++ [(1 :: (Sha.of r0 ++ y))] := by
        rw [hsd, hPt, Tree.rowsS_snoc, ← hR', hr0h, List.reverse_cons]; rfl
      have hc := fun w1 h1 h2 => IH.out k0 (by omega) w1 k0 i (deep + 1) rfl (by omega) (by omega) h1 h2 (by rw [← hsd']; exact hsl)
      rw [← hsd', ← hR'] at hc
      obtain ⟨FF, hFF⟩ : ∃ FF, FF = (Tree.rowsS (Tree.sides n i) l (P.take (P.length - deep))).reverse := ⟨_, rfl⟩
      rw [← hFF] at hfin ⊢
      have HFIN := Lib.hid hfin; clear hfin hFF hPt hr0h
      have HC := Lib.hid hc; clear hc hsd hsd' hR'
      have HR0 := Lib.hid hr0; clear hr0
      have HYL := Lib.hid hyl; clear hyl
      have hfi : (((deep + 1 : Nat) : Int)) = (deep : Int) + 1 := by omega
      have hcf := cell_of_one hI.2
      go_enter Tryd.func20, Tryd.ntmps20
      go_wp2_with fail
      refine HH.out.mono ?_
      rintro e w' ⟨rfl, rfl⟩
      go_wp2_with fail
      refine (HC.out _ Bw hI).mono ?_
      rintro e wr ⟨rfl, hI3, Br0⟩
      obtain ⟨⟨v, x1, x2⟩, x3⟩ := hI3
      rw [List.length_reverse, hRl] at x2
      obtain ⟨q, c, rfl⟩ := ownsRow_slice x2
      obtain ⟨k, hk⟩ : ∃ k, k = sd.length + 1 := ⟨_, rfl⟩
      rw [← hk] at x1 x2
      have hk1 : 1 ≤ k := by omega
      have hk31 : k ≤ 31 := by omega
      have hsr := StrsAt.of_owns (d := R'.reverse) (by rw [List.length_reverse, hRl, hk]) x2
      have hcap := hsr.cap
      have hcmx := hsr.max
      obtain ⟨bq, oq, rfl⟩ := hsr.form (by omega)
      have hcell := hsr.get (rev_last (k := k - 1) (by rw [hRl, hk]; rfl) HR0.out)
      have hcu := cell_of_one x1
      have hti : ((k : Int) - 1).toNat = k - 1 := by omega
      have VW := Lib.hid x1; clear x1
      have OW := Lib.hid x2; clear x2
      have FW := Lib.hid x3; clear x3
      have hDL : R'.reverse.length = k := by rw [List.length_reverse, hRl, hk]
      have HDL := Lib.hid hDL; clear hDL hsr hk
      have hLr := hL.below Br0
      obtain ⟨c1, W1, hcv1, d1, hof⟩ := of_one wr r0 (by omega) hLr
      have HOF := Lib.hid hof; clear hof d1
      have hsz0 := strOf_size r0
      have hsrl := Sha.of_len r0
      have HSR := Lib.hid hsrl; clear hsrl
      go_wp2_with fail
      refine HOF.out.mono ?_
      rintro e w2 ⟨rfl, b2⟩
      clear HOF hcell hcu hcv1
      obtain ⟨W3, hW3⟩ : ∃ W3, W3 = hset (w2.alloc (.cells zero32 39)) w2.heap.size (Sha.of r0) := ⟨_, rfl⟩
      have x3 : W3.heap[w2.heap.size]? = some (.cells (byteCells (Sha.of r0)).toArray 39 (0, 0)) := by rw [hW3]; exact hset_heap _ (heap_alloc_new w2 _)
      have d3 : Below w2.heap.size w2 W3 := by rw [hW3]; exact hset_below _ ((Below.refl _ _).alloc (Nat.le_refl _) _) (Nat.le_refl _)
      have HW3 := Lib.hid hW3; clear hW3
      obtain ⟨W4, hW4⟩ : ∃ W4, W4 = hset (W3.alloc (.cells zero32 39)) W3.heap.size y := ⟨_, rfl⟩
      have x4 : W4.heap[W3.heap.size]? = some (.cells (byteCells y).toArray 39 (0, 0)) := by rw [hW4]; exact hset_heap _ (heap_alloc_new W3 _)
      have d4 : Below W3.heap.size W3 W4 := by rw [hW4]; exact hset_below _ ((Below.refl _ _).alloc (Nat.le_refl _) _) (Nat.le_refl _)
      have HW4 := Lib.hid hW4; clear hW4
      have b23 : Below wr.heap.size wr W3 := b2.trans (d3.mono b2.size)
      have b24 : Below wr.heap.size wr W4 := b23.trans (d4.mono b23.size)
      have hpb3 := cell_of_one ((b23.block _ (Nat.lt_of_lt_of_le (lt_of_block hpb) Br0.size)).trans ((Br0.block _ (lt_of_block hpb)).trans hpb))
      have hyr3 : W3.rangeAt bp (op + (P.length - 1 - deep) * 32) (byteCells y) := range_under hyr.2 hyr.1 (Br0.trans (b23.mono Br0.size))
      have HYR := Lib.hid hyr3; clear hyr3 hyr
      have htj : ((mP : Int) - 1 - (deep : Int)).toNat = mP - 1 - deep := by omega
      have hmj : mP - 1 - deep = P.length - 1 - deep := by omega
      have XX := Lib.hid ((d4.block _ (lt_of_block x3)).trans x3)
      have XY := Lib.hid x4; clear x4 x3
      replace VW := Lib.hid ((b24.block _ (lt_of_block VW.out)).trans VW.out)
      replace FW := Lib.hid ((b24.block _ (lt_of_block FW.out)).trans FW.out)
      replace OW := Lib.hid (owns_below OW.out b24)
      have Brr := Br0.trans (b24.mono Br0.size)
      rw [← hPm] at *
      go_wp2_with (first | ((with_reducible show wpList _ _ _ (⟨none, .store 39 (.tmp 11) (.tmp 45), _, _, _, _⟩ :: _) _ _); change wpList _ _ _ _ _ (World.alloc w2 (.cells zero32 39)); refine wpList_put_hash (o := ⟨none, .store _ _ _, _, _, _, _⟩) rfl _ _ rfl _ rfl (Sha.of r0) HSR.out rfl _ _ (heap_alloc_new _ _) zero32_size ?_; rw [← HW3.out]) | ((with_reducible show wpList _ _ _ (⟨some 53, _, _, _, _, _⟩ :: _) _ _); refine wpList_load_hashAt (op := ⟨some 53, _, _, _, _, _⟩) rfl _ rfl bp (op + (P.length - 1 - deep) * 32) rfl y HYL.out HYR.out ?_) | ((with_reducible show wpList _ _ _ (⟨none, .store 39 (.tmp 12) (.tmp 53), _, _, _, _⟩ :: _) _ _); change wpList _ _ _ _ _ (World.alloc W3 (.cells zero32 39)); refine wpList_put_hash (o := ⟨none, .store _ _ _, _, _, _, _⟩) rfl _ _ rfl _ rfl y HYL.out rfl _ _ (heap_alloc_new _ _) zero32_size ?_; rw [← HW4.out]))
      refine wp_region_rel_tail [[], [], [1], [2], [], [4], [3, 5], [6], [0, 7], [8]] (layL w0.heap.size k c w2.heap.size W3.heap.size (some ⟨bq, oq, none⟩) r0 y) 73 8 (by kernel_rfl) (by kernel_rfl) (by kernel_rfl) (by kernel_rfl) (of_decide_eq_true (by kernel_rfl)) (layL_mono w0.heap.size k c w2.heap.size W3.heap.size (some ⟨bq, oq, none⟩) r0 y) ?_ ?_
      · intro ix op him hi w2 b2 vs hv
        have hb0 := b2
        match ix, him, hi with
        | 0, _, hi =>
          obtain rfl := Option.some.inj hi
          have hcv := cell_of_one ((b2.block _ (lt_of_block VW.out)).trans VW.out)
          simp only [relF, List.getD_cons_zero, List.getD_cons_succ, List.foldl_cons, List.foldl_nil, dstAt, List.getElem?_cons_zero, List.getElem?_cons_succ, Option.bind_some]
          go_wp2_with fail
          exact ⟨rfl, Below.refl _ _, rfl, rfl⟩
        | 1, _, hi =>
          obtain rfl := Option.some.inj hi
          simp only [relF, List.getD_cons_zero, List.getD_cons_succ, List.foldl_cons, List.foldl_nil, dstAt, List.getElem?_cons_zero, List.getElem?_cons_succ, Option.bind_some]
          go_wp2_with fail
          exact ⟨rfl, Below.refl _ _, rfl, rfl⟩
        | 2, _, hi =>
          obtain rfl := Option.some.inj hi
          have h1 : vs 1 = _ := hv 1 (by decide)
          have hcv := hash_str HSR.out ((b2.block _ (lt_of_block XX.out)).trans XX.out)
          simp only [relF, List.getD_cons_zero, List.getD_cons_succ, List.foldl_cons, List.foldl_nil, dstAt, List.getElem?_cons_zero, List.getElem?_cons_succ, Option.bind_some]
          go_frame
          rw [h1]
          go_wp2_with fail
          exact ⟨rfl, Below.refl _ _, rfl, rfl⟩
        | 3, _, hi =>
          obtain rfl := Option.some.inj hi
          have h2 : vs 2 = _ := hv 2 (by decide)
          have hlen0 := Sha.of_len r0
          have hz1 : (⟨#[1]⟩ : ByteArray).size = [1].length := by first | rfl | exact strOf_size _
          have hz2 : ((strOf (Sha.of r0)) : ByteArray).size = (Sha.of r0).length := by first | rfl | exact strOf_size _
          simp only [List.length_cons, List.length_append, List.length_nil] at hz1 hz2
          have hadd : (⟨#[1]⟩ : ByteArray) ++ (strOf (Sha.of r0)) = strOf (1 :: (Sha.of r0)) := add_str [1] (Sha.of r0)
          simp only [relF, List.getD_cons_zero, List.getD_cons_succ, List.foldl_cons, List.foldl_nil, dstAt, List.getElem?_cons_zero, List.getElem?_cons_succ, Option.bind_some]
          go_frame
          rw [h2]
          go_wp2_with fail
          exact ⟨rfl, Below.refl _ _, rfl, rfl⟩
        | 4, _, hi =>
          obtain rfl := Option.some.inj hi
          simp only [relF, List.getD_cons_zero, List.getD_cons_succ, List.foldl_cons, List.foldl_nil, dstAt, List.getElem?_cons_zero, List.getElem?_cons_succ, Option.bind_some]
          go_wp2_with fail
          exact ⟨rfl, Below.refl _ _, rfl, rfl⟩
        | 5, _, hi =>
          obtain rfl := Option.some.inj hi
          have h4 : vs 4 = _ := hv 4 (by decide)
          have hcv := hash_str HYL.out ((b2.block _ (lt_of_block XY.out)).trans XY.out)
          simp only [relF, List.getD_cons_zero, List.getD_cons_succ, List.foldl_cons, List.foldl_nil, dstAt, List.getElem?_cons_zero, List.getElem?_cons_succ, Option.bind_some]
          go_frame
          rw [h4]
          go_wp2_with fail
          exact ⟨rfl, Below.refl _ _, rfl, rfl⟩
        | 6, _, hi =>
          obtain rfl := Option.some.inj hi
          have h3 : vs 3 = _ := hv 3 (by decide)
          have h5 : vs 5 = _ := hv 5 (by decide)
          have hlen0 := Sha.of_len r0
          have hlen1 := HYL.out
          have hz1 : ((strOf (1 :: (Sha.of r0))) : ByteArray).size = (1 :: (Sha.of r0)).length := by first | rfl | exact strOf_size _
          have hz2 : ((strOf y) : ByteArray).size = y.length := by first | rfl | exact strOf_size _
          simp only [List.length_cons, List.length_append, List.length_nil] at hz1 hz2
          have hadd : ((strOf (1 :: (Sha.of r0))) : ByteArray) ++ (strOf y) = strOf (1 :: ((Sha.of r0) ++ y)) := add_str (1 :: (Sha.of r0)) y
          simp only [relF, List.getD_cons_zero, List.getD_cons_succ, List.foldl_cons, List.foldl_nil, dstAt, List.getElem?_cons_zero, List.getElem?_cons_succ, Option.bind_some]
          go_frame
          rw [h3, h5]
          go_wp2_with fail
          exact ⟨rfl, Below.refl _ _, rfl, rfl⟩
        | 7, _, hi =>
          obtain rfl := Option.some.inj hi
          have h6 : vs 6 = _ := hv 6 (by decide)
          simp only [relF, List.getD_cons_zero, List.getD_cons_succ, List.foldl_cons, List.foldl_nil, dstAt, List.getElem?_cons_zero, List.getElem?_cons_succ, Option.bind_some]
          go_frame
          rw [h6]
          go_wp2_with fail
          exact ⟨rfl, (Below.refl _ _).alloc (Nat.le_refl _) _, rfl, w2.heap.size, rfl, heap_alloc_new _ _⟩
        | nx + 8, him, _ => exact absurd him (by omega)
      · intro w2 b2 vs hv
        have hb0 := b2
        have h0 : vs 0 = _ := hv 0 (by decide)
        have h1 : vs 1 = _ := hv 1 (by decide)
        have h2 : vs 2 = _ := hv 2 (by decide)
        have h3 : vs 3 = _ := hv 3 (by decide)
        have h4 : vs 4 = _ := hv 4 (by decide)
        have h5 : vs 5 = _ := hv 5 (by decide)
        have h6 : vs 6 = _ := hv 6 (by decide)
        simp only [relF, List.drop_succ_cons, List.drop_zero, List.length_cons, List.length_nil, Nat.zero_add, Nat.reduceAdd, List.range, List.range.loop, List.foldl_cons, List.foldl_nil, dstAt, List.getElem?_cons_zero, List.getElem?_cons_succ, Option.bind_some]
        go_frame
        rw [h0, h1, h2, h3, h4, h5, h6]
        obtain ⟨g, hg1, hg2⟩ := hv 7 (by decide)
        rw [hg1]
        have ho2 := owns_below OW.out b2
        have hv2 := (b2.block _ (lt_of_block VW.out)).trans VW.out
        have hf2 := (b2.block _ (lt_of_block FW.out)).trans FW.out
        have HO2 := Lib.hid ho2; clear ho2
        have HG2 := Lib.hid hg2; clear hg2
        have hB2 : w0.heap.size ≤ w2.heap.size := by have := lt_of_block hf2; omega
        go_wp2_with (at_builtin; refine wpList_append_own _ rfl _ _ 24 rfl w0.heap.size 9 i0 (.string ⟨#[]⟩) 1 16 Tryd.under_strs HI0.out HZ0.out HZ1.out HZ2.out rfl (by decide) _ _ _ rfl HO2.out ⟨g, 0, none⟩ 1 1 [.string (strOf (1 :: (Sha.of r0 ++ y)))] rfl rfl (cells_row_at HG2.out) (one_str _) (by unfold maxLen; omega) (by omega) hB2 ?_)
        intro v' w5 hown' hgrow _
        obtain ⟨⟨hc5, hf5⟩, hI5, B5⟩ := lay_store (pb := pb) (h := (1 :: (Sha.of r0 ++ y))) HDL.out hv2 HO2.out hf2 hgrow hown'
        obtain ⟨p', c', rfl⟩ := ownsRow_slice hown'
        have HI5 := Lib.hid hI5; clear hI5 hown' hgrow
        go_wp2_with fail
        go_end0
        refine ⟨rfl, ?_, (Brr.trans (b2.mono Brr.size)).trans B5⟩
        rw [HFIN.out]
        exact HI5.out
    · have hsd := Tree.sides_right h (by rw [← HK.out]; exact hlt)
      rw [← HK.out] at hsd
      have ht2 : decide ((i : Int) < (k0 : Int)) = false := decide_eq_false (by omega)
      have ht2' : decide (i < k0) = false := decide_eq_false (by omega)
      obtain ⟨sd, hsd'⟩ : ∃ sd, sd = Tree.sides (n - k0) (i - k0) := ⟨_, rfl⟩
      rw [← hsd'] at hsd
      have hsl : sd.length + (deep + 1) = P.length := by rw [hsd, List.length_cons] at hsp; omega
      have hs30 : sd.length ≤ 30 := by rw [hsd']; exact Tree.sides_len 30 _ _ (by omega) (by omega)
      obtain ⟨y, hy⟩ : ∃ y, P[P.length - 1 - deep]? = some y := ⟨_, List.getElem?_eq_getElem (by omega)⟩
      have hyl := hP.2 y (List.mem_of_getElem? hy)
      obtain ⟨bp, op, rfl⟩ := hP.form (by omega)
      have hyr := hP.get hy
      have hPt : P.take (P.length - deep) = P.take (P.length - (deep + 1)) ++ [y] := by
        rw [show P.length - deep = (P.length - (deep + 1)) + 1 by omega, List.take_add_one]
        rw [show P.length - (deep + 1) = P.length - 1 - deep by omega, hy]; rfl
      obtain ⟨R', hR'⟩ : ∃ R', R' = Tree.rowsS sd l (P.take (P.length - (deep + 1))) := ⟨_, rfl⟩
      have hRl : R'.length = sd.length + 1 := by rw [hR', Tree.rowsS_len]
      obtain ⟨r0, hr0⟩ : ∃ r0, R'[0]? = some r0 := ⟨_, List.getElem?_eq_getElem (by omega)⟩
      have hr0h : R'.headD [] = r0 := by rw [List.headD_eq_head?_getD, List.head?_eq_getElem?, hr0]; rfl
      have htl : (P.take (P.length - (deep + 1))).length = sd.length := by rw [List.length_take]; omega
      have hrb : r0.length ≤ 100001 := Tree.rows_bound sd l _ htl.symm (fun p hp => hP.2 p (List.mem_of_mem_take hp)) hl r0 (by rw [← hR']; exact List.mem_of_getElem? hr0)
      have hfin : (Tree.rowsS (Tree.sides n i) l (P.take (P.length - deep))).reverse = R'.reverse ++ [(1 :: (y ++ Sha.of r0))] := by
        rw [hsd, hPt, Tree.rowsS_snoc, ← hR', hr0h, List.reverse_cons]; rfl
      have hc := fun w1 h1 h2 => IH.out (n - k0) (by omega) w1 (n - k0) (i - k0) (deep + 1) rfl (by omega) (by omega) h1 h2 (by rw [← hsd']; exact hsl)
      have e1 : ((n - k0 : Nat) : Int) = (n : Int) - k0 := by omega
      have e2 : ((i - k0 : Nat) : Int) = (i : Int) - k0 := by omega
      rw [e1, e2] at hc
      rw [← hsd', ← hR'] at hc
      obtain ⟨FF, hFF⟩ : ∃ FF, FF = (Tree.rowsS (Tree.sides n i) l (P.take (P.length - deep))).reverse := ⟨_, rfl⟩
      rw [← hFF] at hfin ⊢
      have HFIN := Lib.hid hfin; clear hfin hFF hPt hr0h
      have HC := Lib.hid hc; clear hc hsd hsd' hR'
      have HR0 := Lib.hid hr0; clear hr0
      have HYL := Lib.hid hyl; clear hyl
      have hfi : (((deep + 1 : Nat) : Int)) = (deep : Int) + 1 := by omega
      have hcf := cell_of_one hI.2
      go_enter Tryd.func20, Tryd.ntmps20
      go_wp2_with fail
      refine HH.out.mono ?_
      rintro e w' ⟨rfl, rfl⟩
      go_wp2_with fail
      refine (HC.out _ Bw hI).mono ?_
      rintro e wr ⟨rfl, hI3, Br0⟩
      obtain ⟨⟨v, x1, x2⟩, x3⟩ := hI3
      rw [List.length_reverse, hRl] at x2
      obtain ⟨q, c, rfl⟩ := ownsRow_slice x2
      obtain ⟨k, hk⟩ : ∃ k, k = sd.length + 1 := ⟨_, rfl⟩
      rw [← hk] at x1 x2
      have hk1 : 1 ≤ k := by omega
      have hk31 : k ≤ 31 := by omega
      have hsr := StrsAt.of_owns (d := R'.reverse) (by rw [List.length_reverse, hRl, hk]) x2
      have hcap := hsr.cap
      have hcmx := hsr.max
      obtain ⟨bq, oq, rfl⟩ := hsr.form (by omega)
      have hcell := hsr.get (rev_last (k := k - 1) (by rw [hRl, hk]; rfl) HR0.out)
      have hcu := cell_of_one x1
      have hti : ((k : Int) - 1).toNat = k - 1 := by omega
      have VW := Lib.hid x1; clear x1
      have OW := Lib.hid x2; clear x2
      have FW := Lib.hid x3; clear x3
      have hDL : R'.reverse.length = k := by rw [List.length_reverse, hRl, hk]
      have HDL := Lib.hid hDL; clear hDL hsr hk
      have hLr := hL.below Br0
      obtain ⟨c1, W1, hcv1, d1, hof⟩ := of_one wr r0 (by omega) hLr
      have HOF := Lib.hid hof; clear hof d1
      have hsz0 := strOf_size r0
      have hsrl := Sha.of_len r0
      have HSR := Lib.hid hsrl; clear hsrl
      go_wp2_with fail
      refine HOF.out.mono ?_
      rintro e w2 ⟨rfl, b2⟩
      clear HOF hcell hcu hcv1
      obtain ⟨W3, hW3⟩ : ∃ W3, W3 = hset (w2.alloc (.cells zero32 39)) w2.heap.size (Sha.of r0) := ⟨_, rfl⟩
      have x3 : W3.heap[w2.heap.size]? = some (.cells (byteCells (Sha.of r0)).toArray 39 (0, 0)) := by rw [hW3]; exact hset_heap _ (heap_alloc_new w2 _)
      have d3 : Below w2.heap.size w2 W3 := by rw [hW3]; exact hset_below _ ((Below.refl _ _).alloc (Nat.le_refl _) _) (Nat.le_refl _)
      have HW3 := Lib.hid hW3; clear hW3
      obtain ⟨W4, hW4⟩ : ∃ W4, W4 = hset (W3.alloc (.cells zero32 39)) W3.heap.size y := ⟨_, rfl⟩
      have x4 : W4.heap[W3.heap.size]? = some (.cells (byteCells y).toArray 39 (0, 0)) := by rw [hW4]; exact hset_heap _ (heap_alloc_new W3 _)
      have d4 : Below W3.heap.size W3 W4 := by rw [hW4]; exact hset_below _ ((Below.refl _ _).alloc (Nat.le_refl _) _) (Nat.le_refl _)
      have HW4 := Lib.hid hW4; clear hW4
      have b23 : Below wr.heap.size wr W3 := b2.trans (d3.mono b2.size)
      have b24 : Below wr.heap.size wr W4 := b23.trans (d4.mono b23.size)
      have hpb3 := cell_of_one ((b23.block _ (Nat.lt_of_lt_of_le (lt_of_block hpb) Br0.size)).trans ((Br0.block _ (lt_of_block hpb)).trans hpb))
      have hyr3 : W3.rangeAt bp (op + (P.length - 1 - deep) * 32) (byteCells y) := range_under hyr.2 hyr.1 (Br0.trans (b23.mono Br0.size))
      have HYR := Lib.hid hyr3; clear hyr3 hyr
      have htj : ((mP : Int) - 1 - (deep : Int)).toNat = mP - 1 - deep := by omega
      have hmj : mP - 1 - deep = P.length - 1 - deep := by omega
      have XX := Lib.hid ((d4.block _ (lt_of_block x3)).trans x3)
      have XY := Lib.hid x4; clear x4 x3
      replace VW := Lib.hid ((b24.block _ (lt_of_block VW.out)).trans VW.out)
      replace FW := Lib.hid ((b24.block _ (lt_of_block FW.out)).trans FW.out)
      replace OW := Lib.hid (owns_below OW.out b24)
      have Brr := Br0.trans (b24.mono Br0.size)
      rw [← hPm] at *
      go_wp2_with (first | ((with_reducible show wpList _ _ _ (⟨none, .store 39 (.tmp 11) (.tmp 45), _, _, _, _⟩ :: _) _ _); change wpList _ _ _ _ _ (World.alloc w2 (.cells zero32 39)); refine wpList_put_hash (o := ⟨none, .store _ _ _, _, _, _, _⟩) rfl _ _ rfl _ rfl (Sha.of r0) HSR.out rfl _ _ (heap_alloc_new _ _) zero32_size ?_; rw [← HW3.out]) | ((with_reducible show wpList _ _ _ (⟨some 53, _, _, _, _, _⟩ :: _) _ _); refine wpList_load_hashAt (op := ⟨some 53, _, _, _, _, _⟩) rfl _ rfl bp (op + (P.length - 1 - deep) * 32) rfl y HYL.out HYR.out ?_) | ((with_reducible show wpList _ _ _ (⟨none, .store 39 (.tmp 12) (.tmp 53), _, _, _, _⟩ :: _) _ _); change wpList _ _ _ _ _ (World.alloc W3 (.cells zero32 39)); refine wpList_put_hash (o := ⟨none, .store _ _ _, _, _, _, _⟩) rfl _ _ rfl _ rfl y HYL.out rfl _ _ (heap_alloc_new _ _) zero32_size ?_; rw [← HW4.out]))
      refine wp_region_rel_tail [[], [], [1], [2], [], [4], [3, 5], [6], [0, 7], [8]] (layR w0.heap.size k c w2.heap.size W3.heap.size (some ⟨bq, oq, none⟩) r0 y) 73 8 (by kernel_rfl) (by kernel_rfl) (by kernel_rfl) (by kernel_rfl) (of_decide_eq_true (by kernel_rfl)) (layR_mono w0.heap.size k c w2.heap.size W3.heap.size (some ⟨bq, oq, none⟩) r0 y) ?_ ?_
      · intro ix op him hi w2 b2 vs hv
        have hb0 := b2
        match ix, him, hi with
        | 0, _, hi =>
          obtain rfl := Option.some.inj hi
          have hcv := cell_of_one ((b2.block _ (lt_of_block VW.out)).trans VW.out)
          simp only [relF, List.getD_cons_zero, List.getD_cons_succ, List.foldl_cons, List.foldl_nil, dstAt, List.getElem?_cons_zero, List.getElem?_cons_succ, Option.bind_some]
          go_wp2_with fail
          exact ⟨rfl, Below.refl _ _, rfl, rfl⟩
        | 1, _, hi =>
          obtain rfl := Option.some.inj hi
          simp only [relF, List.getD_cons_zero, List.getD_cons_succ, List.foldl_cons, List.foldl_nil, dstAt, List.getElem?_cons_zero, List.getElem?_cons_succ, Option.bind_some]
          go_wp2_with fail
          exact ⟨rfl, Below.refl _ _, rfl, rfl⟩
        | 2, _, hi =>
          obtain rfl := Option.some.inj hi
          have h1 : vs 1 = _ := hv 1 (by decide)
          have hcv := hash_str HYL.out ((b2.block _ (lt_of_block XY.out)).trans XY.out)
          simp only [relF, List.getD_cons_zero, List.getD_cons_succ, List.foldl_cons, List.foldl_nil, dstAt, List.getElem?_cons_zero, List.getElem?_cons_succ, Option.bind_some]
          go_frame
          rw [h1]
          go_wp2_with fail
          exact ⟨rfl, Below.refl _ _, rfl, rfl⟩
        | 3, _, hi =>
          obtain rfl := Option.some.inj hi
          have h2 : vs 2 = _ := hv 2 (by decide)
          have hlen0 := HYL.out
          have hz1 : (⟨#[1]⟩ : ByteArray).size = [1].length := by first | rfl | exact strOf_size _
          have hz2 : ((strOf y) : ByteArray).size = y.length := by first | rfl | exact strOf_size _
          simp only [List.length_cons, List.length_append, List.length_nil] at hz1 hz2
          have hadd : (⟨#[1]⟩ : ByteArray) ++ (strOf y) = strOf (1 :: y) := add_str [1] y
          simp only [relF, List.getD_cons_zero, List.getD_cons_succ, List.foldl_cons, List.foldl_nil, dstAt, List.getElem?_cons_zero, List.getElem?_cons_succ, Option.bind_some]
          go_frame
          rw [h2]
          go_wp2_with fail
          exact ⟨rfl, Below.refl _ _, rfl, rfl⟩
        | 4, _, hi =>
          obtain rfl := Option.some.inj hi
          simp only [relF, List.getD_cons_zero, List.getD_cons_succ, List.foldl_cons, List.foldl_nil, dstAt, List.getElem?_cons_zero, List.getElem?_cons_succ, Option.bind_some]
          go_wp2_with fail
          exact ⟨rfl, Below.refl _ _, rfl, rfl⟩
        | 5, _, hi =>
          obtain rfl := Option.some.inj hi
          have h4 : vs 4 = _ := hv 4 (by decide)
          have hcv := hash_str HSR.out ((b2.block _ (lt_of_block XX.out)).trans XX.out)
          simp only [relF, List.getD_cons_zero, List.getD_cons_succ, List.foldl_cons, List.foldl_nil, dstAt, List.getElem?_cons_zero, List.getElem?_cons_succ, Option.bind_some]
          go_frame
          rw [h4]
          go_wp2_with fail
          exact ⟨rfl, Below.refl _ _, rfl, rfl⟩
        | 6, _, hi =>
          obtain rfl := Option.some.inj hi
          have h3 : vs 3 = _ := hv 3 (by decide)
          have h5 : vs 5 = _ := hv 5 (by decide)
          have hlen0 := HYL.out
          have hlen1 := Sha.of_len r0
          have hz1 : ((strOf (1 :: y)) : ByteArray).size = (1 :: y).length := by first | rfl | exact strOf_size _
          have hz2 : ((strOf (Sha.of r0)) : ByteArray).size = (Sha.of r0).length := by first | rfl | exact strOf_size _
          simp only [List.length_cons, List.length_append, List.length_nil] at hz1 hz2
          have hadd : ((strOf (1 :: y)) : ByteArray) ++ (strOf (Sha.of r0)) = strOf (1 :: (y ++ (Sha.of r0))) := add_str (1 :: y) (Sha.of r0)
          simp only [relF, List.getD_cons_zero, List.getD_cons_succ, List.foldl_cons, List.foldl_nil, dstAt, List.getElem?_cons_zero, List.getElem?_cons_succ, Option.bind_some]
          go_frame
          rw [h3, h5]
          go_wp2_with fail
          exact ⟨rfl, Below.refl _ _, rfl, rfl⟩
        | 7, _, hi =>
          obtain rfl := Option.some.inj hi
          have h6 : vs 6 = _ := hv 6 (by decide)
          simp only [relF, List.getD_cons_zero, List.getD_cons_succ, List.foldl_cons, List.foldl_nil, dstAt, List.getElem?_cons_zero, List.getElem?_cons_succ, Option.bind_some]
          go_frame
          rw [h6]
          go_wp2_with fail
          exact ⟨rfl, (Below.refl _ _).alloc (Nat.le_refl _) _, rfl, w2.heap.size, rfl, heap_alloc_new _ _⟩
        | nx + 8, him, _ => exact absurd him (by omega)
      · intro w2 b2 vs hv
        have hb0 := b2
        have h0 : vs 0 = _ := hv 0 (by decide)
        have h1 : vs 1 = _ := hv 1 (by decide)
        have h2 : vs 2 = _ := hv 2 (by decide)
        have h3 : vs 3 = _ := hv 3 (by decide)
        have h4 : vs 4 = _ := hv 4 (by decide)
        have h5 : vs 5 = _ := hv 5 (by decide)
        have h6 : vs 6 = _ := hv 6 (by decide)
        simp only [relF, List.drop_succ_cons, List.drop_zero, List.length_cons, List.length_nil, Nat.zero_add, Nat.reduceAdd, List.range, List.range.loop, List.foldl_cons, List.foldl_nil, dstAt, List.getElem?_cons_zero, List.getElem?_cons_succ, Option.bind_some]
        go_frame
        rw [h0, h1, h2, h3, h4, h5, h6]
        obtain ⟨g, hg1, hg2⟩ := hv 7 (by decide)
        rw [hg1]
        have ho2 := owns_below OW.out b2
        have hv2 := (b2.block _ (lt_of_block VW.out)).trans VW.out
        have hf2 := (b2.block _ (lt_of_block FW.out)).trans FW.out
        have HO2 := Lib.hid ho2; clear ho2
        have HG2 := Lib.hid hg2; clear hg2
        have hB2 : w0.heap.size ≤ w2.heap.size := by have := lt_of_block hf2; omega
        go_wp2_with (at_builtin; refine wpList_append_own _ rfl _ _ 24 rfl w0.heap.size 9 i0 (.string ⟨#[]⟩) 1 16 Tryd.under_strs HI0.out HZ0.out HZ1.out HZ2.out rfl (by decide) _ _ _ rfl HO2.out ⟨g, 0, none⟩ 1 1 [.string (strOf (1 :: (y ++ Sha.of r0)))] rfl rfl (cells_row_at HG2.out) (one_str _) (by unfold maxLen; omega) (by omega) hB2 ?_)
        intro v' w5 hown' hgrow _
        obtain ⟨⟨hc5, hf5⟩, hI5, B5⟩ := lay_store (pb := pb) (h := (1 :: (y ++ Sha.of r0))) HDL.out hv2 HO2.out hf2 hgrow hown'
        obtain ⟨p', c', rfl⟩ := ownsRow_slice hown'
        have HI5 := Lib.hid hI5; clear hI5 hown' hgrow
        go_wp2_with fail
        go_end0
        refine ⟨rfl, ?_, (Brr.trans (b2.mono Brr.size)).trans B5⟩
        rw [HFIN.out]
        exact HI5.out
  · obtain rfl : n = 1 := by omega
    have hsd := Tree.sides_small (n := 1) h i
    rw [hsd] at hsp ⊢
    have hrr : (Tree.rowsS [] l (P.take (P.length - deep))).reverse = [0 :: l] := rfl
    rw [hrr]
    clear hrr hsd
    go_enter Tryd.func20, Tryd.ntmps20
    go_wp2_with fail
    refine bodyPost_ret (results_none rfl _ _ _) rfl ?_
    exact ⟨rfl, hI, Bw⟩

end Go.Proofs.YteljlnkjdajkgaaDoor
