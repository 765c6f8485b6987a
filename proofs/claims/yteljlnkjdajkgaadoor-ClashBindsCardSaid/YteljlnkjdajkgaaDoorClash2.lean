/- The walks of the reference's rows, Rows, Same. -/
import Derived.Test.YteljlnkjdajkgaaDoorClash1
namespace Go.Proofs.YteljlnkjdajkgaaDoor
open Go.RowKit
set_option linter.unusedSimpArgs false
set_option linter.unusedVariables false

/-- What the region's operations leave. -/
def rowL (B b' off' n' c' : Nat) (r0 x : List UInt8) (R' : List (List UInt8)) (ix : Nat) (w : World) (v : Value) : Prop :=
  match ix with
  | 0 => v = .slice (some ⟨b', off', none⟩) n' c'
  | 1 => v = .pointer (some ⟨b', off', none⟩)
  | 2 => v = .string (strOf r0)
  | 3 => v = .string (strOf (Sha.of r0))
  | 4 => v = .string (strOf (1 :: (Sha.of r0)))
  | 5 => v = .slice (some ⟨B, 0, none⟩) 32 32
  | 6 => v = .string (strOf x)
  | 7 => v = .string (strOf (1 :: ((Sha.of r0) ++ x)))
  | 8 => ∃ g, v = .slice (some ⟨g, 0, none⟩) 1 1 ∧ w.heap[g]? = some (.cells #[.string (strOf (1 :: ((Sha.of r0) ++ x)))] 9 (0, 0))
  | 9 => v = .slice (some ⟨b', off', none⟩) n' c'
  | 10 => ∃ (q : Addr) (c : Nat), v = .slice (some q) (1 + n') c ∧ StrsAt w (some q) (1 + n') c ((1 :: ((Sha.of r0) ++ x)) :: R')
  | 11 => ∃ (q : Addr) (c : Nat), v = .slice (some q) (1 + n') c ∧ StrsAt w (some q) (1 + n') c ((1 :: ((Sha.of r0) ++ x)) :: R')
  | _ => True

theorem rowL_mono (B b' off' n' c' : Nat) (r0 x : List UInt8) (R' : List (List UInt8)) (jx : Nat) (w w' : World) (v : Value) (hb : Below w.heap.size w w') (h : rowL B b' off' n' c' r0 x R' jx w v) : rowL B b' off' n' c' r0 x R' jx w' v := by
  match jx, h with
  | 0, h => exact h
  | 1, h => exact h
  | 2, h => exact h
  | 3, h => exact h
  | 4, h => exact h
  | 5, h => exact h
  | 6, h => exact h
  | 7, h => exact h
  | 8, h => exact (let ⟨g, h1, h2⟩ := h; ⟨g, h1, (hb.block g (lt_of_block h2)).trans h2⟩)
  | 9, h => exact h
  | 10, h => exact (let ⟨q, c, h1, h2⟩ := h; ⟨q, c, h1, h2.below (Nat.le_refl _) hb⟩)
  | 11, h => exact (let ⟨q, c, h1, h2⟩ := h; ⟨q, c, h1, h2.below (Nat.le_refl _) hb⟩)
  | _ + 12, h => exact trivial

/-- What the region's operations leave. -/
def rowR (B b' off' n' c' : Nat) (r0 x : List UInt8) (R' : List (List UInt8)) (ix : Nat) (w : World) (v : Value) : Prop :=
  match ix with
  | 0 => v = .slice (some ⟨B, 0, none⟩) 32 32
  | 1 => v = .string (strOf x)
  | 2 => v = .string (strOf (1 :: x))
  | 3 => v = .slice (some ⟨b', off', none⟩) n' c'
  | 4 => v = .pointer (some ⟨b', off', none⟩)
  | 5 => v = .string (strOf r0)
  | 6 => v = .string (strOf (Sha.of r0))
  | 7 => v = .string (strOf (1 :: (x ++ (Sha.of r0))))
  | 8 => ∃ g, v = .slice (some ⟨g, 0, none⟩) 1 1 ∧ w.heap[g]? = some (.cells #[.string (strOf (1 :: (x ++ (Sha.of r0))))] 9 (0, 0))
  | 9 => v = .slice (some ⟨b', off', none⟩) n' c'
  | 10 => ∃ (q : Addr) (c : Nat), v = .slice (some q) (1 + n') c ∧ StrsAt w (some q) (1 + n') c ((1 :: (x ++ (Sha.of r0))) :: R')
  | 11 => ∃ (q : Addr) (c : Nat), v = .slice (some q) (1 + n') c ∧ StrsAt w (some q) (1 + n') c ((1 :: (x ++ (Sha.of r0))) :: R')
  | _ => True

theorem rowR_mono (B b' off' n' c' : Nat) (r0 x : List UInt8) (R' : List (List UInt8)) (jx : Nat) (w w' : World) (v : Value) (hb : Below w.heap.size w w') (h : rowR B b' off' n' c' r0 x R' jx w v) : rowR B b' off' n' c' r0 x R' jx w' v := by
  match jx, h with
  | 0, h => exact h
  | 1, h => exact h
  | 2, h => exact h
  | 3, h => exact h
  | 4, h => exact h
  | 5, h => exact h
  | 6, h => exact h
  | 7, h => exact h
  | 8, h => exact (let ⟨g, h1, h2⟩ := h; ⟨g, h1, (hb.block g (lt_of_block h2)).trans h2⟩)
  | 9, h => exact h
  | 10, h => exact (let ⟨q, c, h1, h2⟩ := h; ⟨q, c, h1, h2.below (Nat.le_refl _) hb⟩)
  | 11, h => exact (let ⟨q, c, h1, h2⟩ := h; ⟨q, c, h1, h2.below (Nat.le_refl _) hb⟩)
  | _ + 12, h => exact trivial

set_option maxRecDepth 100000 in
set_option maxHeartbeats 2000000 in
theorem refRows_any (N : Nat) : ∀ (w : World) (n i : Nat) (l : List UInt8) (o : Option Addr) (m cap : Nat) (P : List (List UInt8)), n = N → i < n → n ≤ 1073741824 → l.length ≤ 100000 → HashesAt w o m cap P → (Tree.sides n i).length = P.length →
    Calls Tryd.prog 27 #[.int .i64 (n : Int), .int .i64 (i : Int), .string (strOf l), .slice o m cap] w fun e w' => ∃ q c k, e = .returned (.slice q k c) ∧ StrsAt w' q k c (Tree.rowsS (Tree.sides n i) l P) ∧ Below w.heap.size w w' := by
  induction N using Nat.strongRecOn with
  | ind N ih =>
  intro w n i l o m cap P hN h1 h2 hl hP hsp
  subst hN
  have IH := Lib.hid ih; clear ih
  have hPm : P.length = m := hP.1.1
  have hcap : m ≤ cap := hP.1.2.1
  have hmax : cap ≤ 9223372036854775807 := hP.1.2.2.1
  have HP := Lib.hid hP; clear hP
  have hst := strOf_size l
  by_cases h : 2 ≤ n
  · have ht1 : ((n : Int) == 1) = false := by rw [beq_eq_false_iff_ne]; omega
    have hs1 : 1 ≤ (Tree.sides n i).length := by
      by_cases hl : i < Tree.half n
      · rw [Tree.sides_left h hl]; simp
      · rw [Tree.sides_right h hl]; simp
    rcases m with _ | m
    · omega
    · obtain ⟨b, off, rfl⟩ := HP.out.form (by omega)
      have ht3 : (((m + 1 : Nat) : Int) == 0) = false := by rw [beq_eq_false_iff_ne]; omega
      have ht3' : ((m : Int) + 1 == 0) = false := by rw [beq_eq_false_iff_ne]; omega
      obtain ⟨x, hx⟩ : ∃ x, P[m]? = some x := ⟨_, List.getElem?_eq_getElem (by omega)⟩
      have hxl := HP.out.2 x (List.mem_of_getElem? hx)
      have hxr := HP.out.get hx
      have hPt := take_last hPm hx
      have HXL := Lib.hid hxl; clear hxl
      have HXR := Lib.hid hxr.2
      have hbw := hxr.1
      clear hxr
      obtain ⟨P', hP'⟩ : ∃ P', P' = P.take m := ⟨_, rfl⟩
      rw [← hP'] at hPt
      have hPl' : P'.length = m := by rw [hP', List.length_take]; omega
      have HP' := Lib.hid (HP.out.take m cap (by omega) (by omega) hmax)
      rw [← hP'] at HP'
      have HPT := Lib.hid hPt; clear hPt hP'
      obtain ⟨k, hk⟩ : ∃ k, k = Tree.half n := ⟨_, rfl⟩
      have hk1 : 1 ≤ k := by rw [hk]; exact Tree.half_pos h
      have hkn : k < n := by rw [hk]; exact Tree.half_lt h
      have hhalf := refHalf_nat w n (by omega)
      rw [← hk] at hhalf
      have HH := Lib.hid hhalf; clear hhalf
      obtain ⟨W1, hW1⟩ : ∃ W1, W1 = hset (w.alloc (.cells zero32 39)) w.heap.size x := ⟨_, rfl⟩
      have x1 : W1.heap[w.heap.size]? = some (.cells (byteCells x).toArray 39 (0, 0)) := by rw [hW1]; exact hset_heap _ (heap_alloc_new w _)
      have b1 : Below w.heap.size w W1 := by rw [hW1]; exact hset_below _ ((Below.refl _ _).alloc (Nat.le_refl _) _) (Nat.le_refl _)
      have HW1 := Lib.hid hW1; clear hW1
      have X1 := Lib.hid x1; clear x1
      have hP1 := HP'.out.below (Nat.le_refl _) b1
      have HP1 := Lib.hid hP1; clear hP1
      have HK := Lib.hid hk; clear hk
      have HX := Lib.hid hx; clear hx
      clear hs1
      have htm : ((m : Int) + 1 - 1) = (m : Int) := by omega
      by_cases hlt : i < k
      · have hsd := Tree.sides_left h (by rw [← HK.out]; exact hlt)
        rw [← HK.out] at hsd
        have ht2 : decide ((i : Int) < (k : Int)) = true := decide_eq_true (by omega)
        have ht2' : decide (i < k) = true := decide_eq_true (by omega)
        obtain ⟨sd, hsd'⟩ : ∃ sd, sd = Tree.sides k i := ⟨_, rfl⟩
        have hsl : sd.length = P'.length := by rw [← hsd'] at hsd; rw [hsd, HPT.out, List.length_append, List.length_cons, List.length_cons, List.length_nil] at hsp; omega
        have hs30 : sd.length ≤ 30 := by rw [hsd']; exact Tree.sides_len 30 _ _ (by omega) (by omega)
        have hc := IH.out k (by omega) W1 k i l _ m cap P' rfl (by omega) (by omega) hl HP1.out (by rw [← hsd']; exact hsl)
        rw [← hsd'] at hc hsd
        obtain ⟨R', hR'⟩ : ∃ R', R' = Tree.rowsS sd l P' := ⟨_, rfl⟩
        have hRl : R'.length = sd.length + 1 := by rw [hR', Tree.rowsS_len]
        obtain ⟨r0, hr0⟩ : ∃ r0, R'[0]? = some r0 := ⟨_, List.getElem?_eq_getElem (by omega)⟩
        have hr0h : R'.headD [] = r0 := by rw [List.headD_eq_head?_getD, List.head?_eq_getElem?, hr0]; rfl
        have hrb : r0.length ≤ 100001 := Tree.rows_bound sd l P' hsl HP1.out.2 hl r0 (by rw [← hR']; exact List.mem_of_getElem? hr0)
        have hre : Tree.rowsS (Tree.sides n i) l P = (1 :: (Sha.of r0 ++ x)) :: R' := by rw [hsd, HPT.out, Tree.rowsS_snoc, ← hR', hr0h]; rfl
        rw [← hR'] at hc
        obtain ⟨RR, hRR⟩ : ∃ RR, RR = Tree.rowsS (Tree.sides n i) l P := ⟨_, rfl⟩
        rw [← hRR] at hre ⊢
        have HRE := Lib.hid hre; clear hre hRR hR' hr0h
        have HC := Lib.hid hc; clear hc hsd hsd'
        have HR0 := Lib.hid hr0; clear hr0
        have HB0 := Lib.hid hrb; clear hrb
        go_enter Tryd.func27, Tryd.ntmps27
        go_wp2_with fail
        refine HH.out.mono ?_
        rintro e w' ⟨rfl, rfl⟩
        go_wp2_with (first | ((with_reducible show wpList _ _ _ (⟨some 25, _, _, _, _, _⟩ :: _) _ _); refine wpList_load_hashAt (op := ⟨some 25, _, _, _, _, _⟩) rfl _ rfl b (off + m * 32) rfl x HXL.out HXR.out ?_) | ((with_reducible show wpList _ _ _ (⟨none, .store 39 (.tmp 10) (.tmp 25), _, _, _, _⟩ :: _) _ _); change wpList _ _ _ _ _ (World.alloc w (.cells zero32 39)); refine wpList_put_hash (o := ⟨none, .store _ _ _, _, _, _, _⟩) rfl _ _ rfl _ rfl x HXL.out rfl _ _ (heap_alloc_new _ _) zero32_size ?_; rw [← HW1.out]))
        refine HC.out.mono ?_
        rintro e w2 ⟨q', c', n', rfl, hr2, d2⟩
        have X2 := Lib.hid ((d2.block _ (lt_of_block X1.out)).trans X1.out)
        have B2 := b1.trans (d2.mono b1.size)
        have hn' : R'.length = n' := hr2.len
        have hcn := hr2.cap
        have hcm := hr2.max
        obtain ⟨b', off', rfl⟩ := hr2.form (by omega)
        have HR2 := Lib.hid hr2; clear hr2
        have hn0 : 0 < n' := by omega
        have hn31 : n' ≤ 31 := by omega
        have tz : ((n' : Int) == 0) = false := by rw [beq_eq_false_iff_ne]; omega
        go_wp2_with fail
        refine wp_region_rel [[], [0], [1], [2], [3], [], [5], [4, 6], [7], [], [8, 9], [10]] (rowL w.heap.size b' off' n' c' r0 x R') 73 (by kernel_rfl) (by kernel_rfl) (by kernel_rfl) (rowL_mono w.heap.size b' off' n' c' r0 x R') ?_ ?_
        · intro ix op hi w2 b2 vs hv
          have him : ix < 12 := (List.getElem?_eq_some_iff.1 hi).1
          have hr0b := HB0.out
          match ix, him, hi with
          | 0, _, hi =>
            obtain rfl := Option.some.inj hi
            simp only [relF, List.getD_cons_zero, List.getD_cons_succ, List.foldl_cons, List.foldl_nil, dstAt, List.getElem?_cons_zero, List.getElem?_cons_succ, Option.bind_some]
            go_wp2_with fail
            exact ⟨rfl, Below.refl _ _, rfl, rfl⟩
          | 1, _, hi =>
            obtain rfl := Option.some.inj hi
            have h0 : vs 0 = _ := hv 0 (by decide)
            simp only [relF, List.getD_cons_zero, List.getD_cons_succ, List.foldl_cons, List.foldl_nil, dstAt, List.getElem?_cons_zero, List.getElem?_cons_succ, Option.bind_some]
            go_frame
            rw [h0]
            go_wp2_with fail
            exact ⟨rfl, Below.refl _ _, rfl, rfl⟩
          | 2, _, hi =>
            obtain rfl := Option.some.inj hi
            have h1 : vs 1 = _ := hv 1 (by decide)
            have hcell := (HR2.out.below (Nat.le_refl _) b2).get HR0.out
            rw [Nat.add_zero] at hcell
            simp only [relF, List.getD_cons_zero, List.getD_cons_succ, List.foldl_cons, List.foldl_nil, dstAt, List.getElem?_cons_zero, List.getElem?_cons_succ, Option.bind_some]
            go_frame
            rw [h1]
            go_wp2_with fail
            exact ⟨rfl, Below.refl _ _, rfl, rfl⟩
          | 3, _, hi =>
            obtain rfl := Option.some.inj hi
            have h2 : vs 2 = _ := hv 2 (by decide)
            simp only [relF, List.getD_cons_zero, List.getD_cons_succ, List.foldl_cons, List.foldl_nil, dstAt, List.getElem?_cons_zero, List.getElem?_cons_succ, Option.bind_some]
            go_frame
            rw [h2]
            go_wp2_with fail
            refine (refOf_any w2 r0 (by omega)).mono ?_
            rintro e w3 ⟨rfl, b3⟩
            go_wp2_with fail
            exact ⟨rfl, b3, rfl, rfl⟩
          | 4, _, hi =>
            obtain rfl := Option.some.inj hi
            have h3 : vs 3 = _ := hv 3 (by decide)
            have hlen0 := Sha.of_len r0
            have hz1 : (⟨#[1]⟩ : ByteArray).size = [1].length := by first | rfl | exact strOf_size _
            have hz2 : ((strOf (Sha.of r0)) : ByteArray).size = (Sha.of r0).length := by first | rfl | exact strOf_size _
            simp only [List.length_cons, List.length_append, List.length_nil] at hz1 hz2
            have hadd : (⟨#[1]⟩ : ByteArray) ++ (strOf (Sha.of r0)) = strOf (1 :: (Sha.of r0)) := add_str [1] (Sha.of r0)
            simp only [relF, List.getD_cons_zero, List.getD_cons_succ, List.foldl_cons, List.foldl_nil, dstAt, List.getElem?_cons_zero, List.getElem?_cons_succ, Option.bind_some]
            go_frame
            rw [h3]
            go_wp2_with fail
            exact ⟨rfl, Below.refl _ _, rfl, rfl⟩
          | 5, _, hi =>
            obtain rfl := Option.some.inj hi
            simp only [relF, List.getD_cons_zero, List.getD_cons_succ, List.foldl_cons, List.foldl_nil, dstAt, List.getElem?_cons_zero, List.getElem?_cons_succ, Option.bind_some]
            go_wp2_with fail
            exact ⟨rfl, Below.refl _ _, rfl, rfl⟩
          | 6, _, hi =>
            obtain rfl := Option.some.inj hi
            have h5 : vs 5 = _ := hv 5 (by decide)
            have hcv := hash_str HXL.out ((b2.block _ (lt_of_block X2.out)).trans X2.out)
            simp only [relF, List.getD_cons_zero, List.getD_cons_succ, List.foldl_cons, List.foldl_nil, dstAt, List.getElem?_cons_zero, List.getElem?_cons_succ, Option.bind_some]
            go_frame
            rw [h5]
            go_wp2_with fail
            exact ⟨rfl, Below.refl _ _, rfl, rfl⟩
          | 7, _, hi =>
            obtain rfl := Option.some.inj hi
            have h4 : vs 4 = _ := hv 4 (by decide)
            have h6 : vs 6 = _ := hv 6 (by decide)
            have hlen0 := Sha.of_len r0
            have hlen1 := HXL.out
            have hz1 : ((strOf (1 :: (Sha.of r0))) : ByteArray).size = (1 :: (Sha.of r0)).length := by first | rfl | exact strOf_size _
            have hz2 : ((strOf x) : ByteArray).size = x.length := by first | rfl | exact strOf_size _
            simp only [List.length_cons, List.length_append, List.length_nil] at hz1 hz2
            have hadd : ((strOf (1 :: (Sha.of r0))) : ByteArray) ++ (strOf x) = strOf (1 :: ((Sha.of r0) ++ x)) := add_str (1 :: (Sha.of r0)) x
            simp only [relF, List.getD_cons_zero, List.getD_cons_succ, List.foldl_cons, List.foldl_nil, dstAt, List.getElem?_cons_zero, List.getElem?_cons_succ, Option.bind_some]
            go_frame
            rw [h4, h6]
            go_wp2_with fail
            exact ⟨rfl, Below.refl _ _, rfl, rfl⟩
          | 8, _, hi =>
            obtain rfl := Option.some.inj hi
            have h7 : vs 7 = _ := hv 7 (by decide)
            simp only [relF, List.getD_cons_zero, List.getD_cons_succ, List.foldl_cons, List.foldl_nil, dstAt, List.getElem?_cons_zero, List.getElem?_cons_succ, Option.bind_some]
            go_frame
            rw [h7]
            go_wp2_with fail
            exact ⟨rfl, (Below.refl _ _).alloc (Nat.le_refl _) _, rfl, w2.heap.size, rfl, heap_alloc_new _ _⟩
          | 9, _, hi =>
            obtain rfl := Option.some.inj hi
            simp only [relF, List.getD_cons_zero, List.getD_cons_succ, List.foldl_cons, List.foldl_nil, dstAt, List.getElem?_cons_zero, List.getElem?_cons_succ, Option.bind_some]
            go_wp2_with fail
            exact ⟨rfl, Below.refl _ _, rfl, rfl⟩
          | 10, _, hi =>
            obtain rfl := Option.some.inj hi
            obtain ⟨g8, e8, s8⟩ := hv 8 (by decide)
            have h9 : vs 9 = _ := hv 9 (by decide)
            obtain ⟨q, cc, W, hrun, hs, hbb⟩ := StrsAt.cons (HR2.out.below (Nat.le_refl _) b2) (by omega) (by omega) s8
            simp only [relF, List.getD_cons_zero, List.getD_cons_succ, List.foldl_cons, List.foldl_nil, dstAt, List.getElem?_cons_zero, List.getElem?_cons_succ, Option.bind_some]
            go_frame
            rw [e8, h9]
            go_wp2_with ((with_reducible show wpList _ _ _ (⟨some 48, _, _, _, _, _⟩ :: _) _ _); refine wpList_append_ran (by kernel_rfl) _ _ _ rfl _ _ rfl rfl hrun ?_)
            exact ⟨rfl, hbb, rfl, q, cc, rfl, hs⟩
          | 11, _, hi =>
            obtain rfl := Option.some.inj hi
            obtain ⟨q10, c10, e10, s10⟩ := hv 10 (by decide)
            simp only [relF, List.getD_cons_zero, List.getD_cons_succ, List.foldl_cons, List.foldl_nil, dstAt, List.getElem?_cons_zero, List.getElem?_cons_succ, Option.bind_some]
            go_frame
            rw [e10]
            go_wp2_with fail
            exact ⟨rfl, Below.refl _ _, rfl, q10, c10, rfl, s10⟩
          | nx + 12, him, _ => exact absurd him (by omega)
        · intro w2 b2 vs hv
          have hr0b := HB0.out
          obtain ⟨q11, c11, e11, s11⟩ := hv 11 (by decide)
          simp only [relF, List.drop_succ_cons, List.drop_zero, List.length_cons, List.length_nil, Nat.zero_add, Nat.reduceAdd, List.range, List.range.loop, List.foldl_cons, List.foldl_nil, dstAt, List.getElem?_cons_zero, List.getElem?_cons_succ, Option.bind_some]
          go_frame
          rw [e11]
          go_wp2_with fail
          go_ret
          refine ⟨some q11, c11, 1 + n', rfl, ?_, B2.trans (b2.mono B2.size)⟩
          rw [HRE.out]
          exact s11
      · have hsd := Tree.sides_right h (by rw [← HK.out]; exact hlt)
        rw [← HK.out] at hsd
        have ht2 : decide ((i : Int) < (k : Int)) = false := decide_eq_false (by omega)
        have ht2' : decide (i < k) = false := decide_eq_false (by omega)
        obtain ⟨sd, hsd'⟩ : ∃ sd, sd = Tree.sides (n - k) (i - k) := ⟨_, rfl⟩
        have hsl : sd.length = P'.length := by rw [← hsd'] at hsd; rw [hsd, HPT.out, List.length_append, List.length_cons, List.length_cons, List.length_nil] at hsp; omega
        have hs30 : sd.length ≤ 30 := by rw [hsd']; exact Tree.sides_len 30 _ _ (by omega) (by omega)
        have hc := IH.out (n - k) (by omega) W1 (n - k) (i - k) l _ m cap P' rfl (by omega) (by omega) hl HP1.out (by rw [← hsd']; exact hsl)
        have e1 : ((n - k : Nat) : Int) = (n : Int) - k := by omega
        have e2 : ((i - k : Nat) : Int) = (i : Int) - k := by omega
        rw [e1, e2] at hc
        rw [← hsd'] at hc hsd
        obtain ⟨R', hR'⟩ : ∃ R', R' = Tree.rowsS sd l P' := ⟨_, rfl⟩
        have hRl : R'.length = sd.length + 1 := by rw [hR', Tree.rowsS_len]
        obtain ⟨r0, hr0⟩ : ∃ r0, R'[0]? = some r0 := ⟨_, List.getElem?_eq_getElem (by omega)⟩
        have hr0h : R'.headD [] = r0 := by rw [List.headD_eq_head?_getD, List.head?_eq_getElem?, hr0]; rfl
        have hrb : r0.length ≤ 100001 := Tree.rows_bound sd l P' hsl HP1.out.2 hl r0 (by rw [← hR']; exact List.mem_of_getElem? hr0)
        have hre : Tree.rowsS (Tree.sides n i) l P = (1 :: (x ++ Sha.of r0)) :: R' := by rw [hsd, HPT.out, Tree.rowsS_snoc, ← hR', hr0h]; rfl
        rw [← hR'] at hc
        obtain ⟨RR, hRR⟩ : ∃ RR, RR = Tree.rowsS (Tree.sides n i) l P := ⟨_, rfl⟩
        rw [← hRR] at hre ⊢
        have HRE := Lib.hid hre; clear hre hRR hR' hr0h
        have HC := Lib.hid hc; clear hc hsd hsd'
        have HR0 := Lib.hid hr0; clear hr0
        have HB0 := Lib.hid hrb; clear hrb
        go_enter Tryd.func27, Tryd.ntmps27
        go_wp2_with fail
        refine HH.out.mono ?_
        rintro e w' ⟨rfl, rfl⟩
        go_wp2_with (first | ((with_reducible show wpList _ _ _ (⟨some 25, _, _, _, _, _⟩ :: _) _ _); refine wpList_load_hashAt (op := ⟨some 25, _, _, _, _, _⟩) rfl _ rfl b (off + m * 32) rfl x HXL.out HXR.out ?_) | ((with_reducible show wpList _ _ _ (⟨none, .store 39 (.tmp 10) (.tmp 25), _, _, _, _⟩ :: _) _ _); change wpList _ _ _ _ _ (World.alloc w (.cells zero32 39)); refine wpList_put_hash (o := ⟨none, .store _ _ _, _, _, _, _⟩) rfl _ _ rfl _ rfl x HXL.out rfl _ _ (heap_alloc_new _ _) zero32_size ?_; rw [← HW1.out]))
        refine HC.out.mono ?_
        rintro e w2 ⟨q', c', n', rfl, hr2, d2⟩
        have X2 := Lib.hid ((d2.block _ (lt_of_block X1.out)).trans X1.out)
        have B2 := b1.trans (d2.mono b1.size)
        have hn' : R'.length = n' := hr2.len
        have hcn := hr2.cap
        have hcm := hr2.max
        obtain ⟨b', off', rfl⟩ := hr2.form (by omega)
        have HR2 := Lib.hid hr2; clear hr2
        have hn0 : 0 < n' := by omega
        have hn31 : n' ≤ 31 := by omega
        have tz : ((n' : Int) == 0) = false := by rw [beq_eq_false_iff_ne]; omega
        go_wp2_with fail
        refine wp_region_rel [[], [0], [1], [], [3], [4], [5], [2, 6], [7], [], [8, 9], [10]] (rowR w.heap.size b' off' n' c' r0 x R') 73 (by kernel_rfl) (by kernel_rfl) (by kernel_rfl) (rowR_mono w.heap.size b' off' n' c' r0 x R') ?_ ?_
        · intro ix op hi w2 b2 vs hv
          have him : ix < 12 := (List.getElem?_eq_some_iff.1 hi).1
          have hr0b := HB0.out
          match ix, him, hi with
          | 0, _, hi =>
            obtain rfl := Option.some.inj hi
            simp only [relF, List.getD_cons_zero, List.getD_cons_succ, List.foldl_cons, List.foldl_nil, dstAt, List.getElem?_cons_zero, List.getElem?_cons_succ, Option.bind_some]
            go_wp2_with fail
            exact ⟨rfl, Below.refl _ _, rfl, rfl⟩
          | 1, _, hi =>
            obtain rfl := Option.some.inj hi
            have h0 : vs 0 = _ := hv 0 (by decide)
            have hcv := hash_str HXL.out ((b2.block _ (lt_of_block X2.out)).trans X2.out)
            simp only [relF, List.getD_cons_zero, List.getD_cons_succ, List.foldl_cons, List.foldl_nil, dstAt, List.getElem?_cons_zero, List.getElem?_cons_succ, Option.bind_some]
            go_frame
            rw [h0]
            go_wp2_with fail
            exact ⟨rfl, Below.refl _ _, rfl, rfl⟩
          | 2, _, hi =>
            obtain rfl := Option.some.inj hi
            have h1 : vs 1 = _ := hv 1 (by decide)
            have hlen0 := HXL.out
            have hz1 : (⟨#[1]⟩ : ByteArray).size = [1].length := by first | rfl | exact strOf_size _
            have hz2 : ((strOf x) : ByteArray).size = x.length := by first | rfl | exact strOf_size _
            simp only [List.length_cons, List.length_append, List.length_nil] at hz1 hz2
            have hadd : (⟨#[1]⟩ : ByteArray) ++ (strOf x) = strOf (1 :: x) := add_str [1] x
            simp only [relF, List.getD_cons_zero, List.getD_cons_succ, List.foldl_cons, List.foldl_nil, dstAt, List.getElem?_cons_zero, List.getElem?_cons_succ, Option.bind_some]
            go_frame
            rw [h1]
            go_wp2_with fail
            exact ⟨rfl, Below.refl _ _, rfl, rfl⟩
          | 3, _, hi =>
            obtain rfl := Option.some.inj hi
            simp only [relF, List.getD_cons_zero, List.getD_cons_succ, List.foldl_cons, List.foldl_nil, dstAt, List.getElem?_cons_zero, List.getElem?_cons_succ, Option.bind_some]
            go_wp2_with fail
            exact ⟨rfl, Below.refl _ _, rfl, rfl⟩
          | 4, _, hi =>
            obtain rfl := Option.some.inj hi
            have h3 : vs 3 = _ := hv 3 (by decide)
            simp only [relF, List.getD_cons_zero, List.getD_cons_succ, List.foldl_cons, List.foldl_nil, dstAt, List.getElem?_cons_zero, List.getElem?_cons_succ, Option.bind_some]
            go_frame
            rw [h3]
            go_wp2_with fail
            exact ⟨rfl, Below.refl _ _, rfl, rfl⟩
          | 5, _, hi =>
            obtain rfl := Option.some.inj hi
            have h4 : vs 4 = _ := hv 4 (by decide)
            have hcell := (HR2.out.below (Nat.le_refl _) b2).get HR0.out
            rw [Nat.add_zero] at hcell
            simp only [relF, List.getD_cons_zero, List.getD_cons_succ, List.foldl_cons, List.foldl_nil, dstAt, List.getElem?_cons_zero, List.getElem?_cons_succ, Option.bind_some]
            go_frame
            rw [h4]
            go_wp2_with fail
            exact ⟨rfl, Below.refl _ _, rfl, rfl⟩
          | 6, _, hi =>
            obtain rfl := Option.some.inj hi
            have h5 : vs 5 = _ := hv 5 (by decide)
            simp only [relF, List.getD_cons_zero, List.getD_cons_succ, List.foldl_cons, List.foldl_nil, dstAt, List.getElem?_cons_zero, List.getElem?_cons_succ, Option.bind_some]
            go_frame
            rw [h5]
            go_wp2_with fail
            refine (refOf_any w2 r0 (by omega)).mono ?_
            rintro e w3 ⟨rfl, b3⟩
            go_wp2_with fail
            exact ⟨rfl, b3, rfl, rfl⟩
          | 7, _, hi =>
            obtain rfl := Option.some.inj hi
            have h2 : vs 2 = _ := hv 2 (by decide)
            have h6 : vs 6 = _ := hv 6 (by decide)
            have hlen0 := HXL.out
            have hlen1 := Sha.of_len r0
            have hz1 : ((strOf (1 :: x)) : ByteArray).size = (1 :: x).length := by first | rfl | exact strOf_size _
            have hz2 : ((strOf (Sha.of r0)) : ByteArray).size = (Sha.of r0).length := by first | rfl | exact strOf_size _
            simp only [List.length_cons, List.length_append, List.length_nil] at hz1 hz2
            have hadd : ((strOf (1 :: x)) : ByteArray) ++ (strOf (Sha.of r0)) = strOf (1 :: (x ++ (Sha.of r0))) := add_str (1 :: x) (Sha.of r0)
            simp only [relF, List.getD_cons_zero, List.getD_cons_succ, List.foldl_cons, List.foldl_nil, dstAt, List.getElem?_cons_zero, List.getElem?_cons_succ, Option.bind_some]
            go_frame
            rw [h2, h6]
            go_wp2_with fail
            exact ⟨rfl, Below.refl _ _, rfl, rfl⟩
          | 8, _, hi =>
            obtain rfl := Option.some.inj hi
            have h7 : vs 7 = _ := hv 7 (by decide)
            simp only [relF, List.getD_cons_zero, List.getD_cons_succ, List.foldl_cons, List.foldl_nil, dstAt, List.getElem?_cons_zero, List.getElem?_cons_succ, Option.bind_some]
            go_frame
            rw [h7]
            go_wp2_with fail
            exact ⟨rfl, (Below.refl _ _).alloc (Nat.le_refl _) _, rfl, w2.heap.size, rfl, heap_alloc_new _ _⟩
          | 9, _, hi =>
            obtain rfl := Option.some.inj hi
            simp only [relF, List.getD_cons_zero, List.getD_cons_succ, List.foldl_cons, List.foldl_nil, dstAt, List.getElem?_cons_zero, List.getElem?_cons_succ, Option.bind_some]
            go_wp2_with fail
            exact ⟨rfl, Below.refl _ _, rfl, rfl⟩
          | 10, _, hi =>
            obtain rfl := Option.some.inj hi
            obtain ⟨g8, e8, s8⟩ := hv 8 (by decide)
            have h9 : vs 9 = _ := hv 9 (by decide)
            obtain ⟨q, cc, W, hrun, hs, hbb⟩ := StrsAt.cons (HR2.out.below (Nat.le_refl _) b2) (by omega) (by omega) s8
            simp only [relF, List.getD_cons_zero, List.getD_cons_succ, List.foldl_cons, List.foldl_nil, dstAt, List.getElem?_cons_zero, List.getElem?_cons_succ, Option.bind_some]
            go_frame
            rw [e8, h9]
            go_wp2_with ((with_reducible show wpList _ _ _ (⟨some 72, _, _, _, _, _⟩ :: _) _ _); refine wpList_append_ran (by kernel_rfl) _ _ _ rfl _ _ rfl rfl hrun ?_)
            exact ⟨rfl, hbb, rfl, q, cc, rfl, hs⟩
          | 11, _, hi =>
            obtain rfl := Option.some.inj hi
            obtain ⟨q10, c10, e10, s10⟩ := hv 10 (by decide)
            simp only [relF, List.getD_cons_zero, List.getD_cons_succ, List.foldl_cons, List.foldl_nil, dstAt, List.getElem?_cons_zero, List.getElem?_cons_succ, Option.bind_some]
            go_frame
            rw [e10]
            go_wp2_with fail
            exact ⟨rfl, Below.refl _ _, rfl, q10, c10, rfl, s10⟩
          | nx + 12, him, _ => exact absurd him (by omega)
        · intro w2 b2 vs hv
          have hr0b := HB0.out
          obtain ⟨q11, c11, e11, s11⟩ := hv 11 (by decide)
          simp only [relF, List.drop_succ_cons, List.drop_zero, List.length_cons, List.length_nil, Nat.zero_add, Nat.reduceAdd, List.range, List.range.loop, List.foldl_cons, List.foldl_nil, dstAt, List.getElem?_cons_zero, List.getElem?_cons_succ, Option.bind_some]
          go_frame
          rw [e11]
          go_wp2_with fail
          go_ret
          refine ⟨some q11, c11, 1 + n', rfl, ?_, B2.trans (b2.mono B2.size)⟩
          rw [HRE.out]
          exact s11
  · obtain rfl : n = 1 := by omega
    have hsd := Tree.sides_small (n := 1) h i
    rw [hsd]
    clear hsd
    have hadd : (⟨#[0]⟩ : ByteArray) ++ strOf l = strOf (0 :: l) := add_str [0] l
    have hs0 : (⟨#[0]⟩ : ByteArray).size = 1 := rfl
    go_enter Tryd.func27, Tryd.ntmps27
    go_wp2_with fail
    go_ret
    refine ⟨_, 1, 1, rfl, ⟨rfl, Nat.le_refl _, by decide, fun _ => ⟨_, 0, rfl, by simp, fun j r hr => ?_⟩⟩, (Below.refl _ _).alloc (Nat.le_refl _) _⟩
    match j, hr with
    | 0, hr =>
      obtain rfl := Option.some.inj hr
      exact range_row (heap_alloc_new w (.cells [Value.string (strOf (0 :: l))].toArray 9))

/-- What the region's operations leave. -/
def sameA (b off n cap b' off' cap' j : Nat) (p q : List UInt8) (ix : Nat) (w : World) (v : Value) : Prop :=
  match ix with
  | 0 => v = .slice (some ⟨b, off, none⟩) n cap
  | 1 => v = .int .i64 (j : Int)
  | 2 => v = .pointer (some ⟨b, off + j, none⟩)
  | 3 => v = .string (strOf p)
  | 4 => v = .slice (some ⟨b', off', none⟩) n cap'
  | 5 => v = .int .i64 (j : Int)
  | 6 => v = .pointer (some ⟨b', off' + j, none⟩)
  | 7 => v = .string (strOf q)
  | 8 => v = .bool false
  | _ => True

theorem sameA_mono (b off n cap b' off' cap' j : Nat) (p q : List UInt8) (jx : Nat) (w w' : World) (v : Value) (hb : Below w.heap.size w w') (h : sameA b off n cap b' off' cap' j p q jx w v) : sameA b off n cap b' off' cap' j p q jx w' v := by
  match jx, h with
  | 0, h => exact h
  | 1, h => exact h
  | 2, h => exact h
  | 3, h => exact h
  | 4, h => exact h
  | 5, h => exact h
  | 6, h => exact h
  | 7, h => exact h
  | 8, h => exact h
  | _ + 9, h => exact trivial

/-- What the region's operations leave. -/
def sameB (b off n cap b' off' cap' j : Nat) (p q : List UInt8) (ix : Nat) (w : World) (v : Value) : Prop :=
  match ix with
  | 0 => v = .slice (some ⟨b, off, none⟩) n cap
  | 1 => v = .int .i64 (j : Int)
  | 2 => v = .pointer (some ⟨b, off + j, none⟩)
  | 3 => v = .string (strOf p)
  | 4 => v = .slice (some ⟨b', off', none⟩) n cap'
  | 5 => v = .int .i64 (j : Int)
  | 6 => v = .pointer (some ⟨b', off' + j, none⟩)
  | 7 => v = .string (strOf q)
  | 8 => v = .bool true
  | _ => True

theorem sameB_mono (b off n cap b' off' cap' j : Nat) (p q : List UInt8) (jx : Nat) (w w' : World) (v : Value) (hb : Below w.heap.size w w') (h : sameB b off n cap b' off' cap' j p q jx w v) : sameB b off n cap b' off' cap' j p q jx w' v := by
  match jx, h with
  | 0, h => exact h
  | 1, h => exact h
  | 2, h => exact h
  | 3, h => exact h
  | 4, h => exact h
  | 5, h => exact h
  | 6, h => exact h
  | 7, h => exact h
  | 8, h => exact h
  | _ + 9, h => exact trivial

set_option maxRecDepth 100000 in
set_option maxHeartbeats 2000000 in
theorem refSame_any (w : World) (o o' : Option Addr) (n cap n' cap' : Nat) (A B : List (List UInt8)) (hA : StrsAt w o n cap A) (hB : StrsAt w o' n' cap' B) :
    Calls Tryd.prog 12 #[.slice o n cap, .slice o' n' cap'] w fun e w' => e = .returned (.bool (decide (A = B))) ∧ Below w.heap.size w w' := by
  have hAl := hA.len
  have hBl := hB.len
  have hcA := hA.cap
  have hcB := hB.cap
  have hmA := hA.max
  have hmB := hB.max
  have HA := Lib.hid hA; clear hA
  have HB := Lib.hid hB; clear hB
  have HAL := Lib.hid hAl; clear hAl
  have HBL := Lib.hid hBl; clear hBl
  obtain ⟨R, hR⟩ : ∃ R, R = decide (A = B) := ⟨_, rfl⟩
  rw [← hR]
  have HR := Lib.hid hR; clear hR
  by_cases hn : n = n'
  · subst hn
    have ht : ((n : Int) != (n : Int)) = false := by simp
    go_enter Tryd.func12, Tryd.ntmps12
    go_wp2_with fail
    go_loopw [5] (fun v wr => ∃ j : Nat, j ≤ n ∧ v = .int .i64 (j : Int) ∧ Hid (A.take j = B.take j) ∧ Below w.heap.size w wr) (fun v _ => n - (intOf v).toNat)
    case atStart => exact ⟨0, by omega, rfl, Lib.hid rfl, Below.refl _ _⟩
    case round =>
      obtain ⟨j, hj, rfl, heq, Br⟩ := hrel
      by_cases hlt : j < n
      · obtain ⟨b, off, rfl⟩ := HA.out.form (by omega)
        obtain ⟨b', off', rfl⟩ := HB.out.form (by omega)
        obtain ⟨p, hp⟩ : ∃ p, A[j]? = some p := ⟨_, List.getElem?_eq_getElem (by rw [HAL.out]; exact hlt)⟩
        obtain ⟨q, hq⟩ : ∃ q, B[j]? = some q := ⟨_, List.getElem?_eq_getElem (by rw [HBL.out]; exact hlt)⟩
        have HA2 := Lib.hid (HA.out.below (Nat.le_refl _) Br)
        have HB2 := Lib.hid (HB.out.below (Nat.le_refl _) Br)
        have HP := Lib.hid hp; clear hp
        have HQ := Lib.hid hq; clear hq
        go_wp2_with fail
        by_cases hpq : p = q
        · have hse : ((strOf p).toList == (strOf q).toList) = true := by rw [hpq]; simp
          have HSE := Lib.hid hse; clear hse
          have hnext : A.take (j + 1) = B.take (j + 1) := by rw [List.take_add_one, List.take_add_one, heq.out, HP.out, HQ.out, hpq]
          have HNX := Lib.hid hnext; clear hnext hpq
          refine wp_region_rel [[], [], [0, 1], [2], [], [], [4, 5], [6], [3, 7]] (sameA b off n cap b' off' cap' j p q) 26 (by kernel_rfl) (by kernel_rfl) (by kernel_rfl) (sameA_mono b off n cap b' off' cap' j p q) ?_ ?_
          · intro ix op hi w2 b2 vs hv
            have him : ix < 9 := (List.getElem?_eq_some_iff.1 hi).1
            have hb0 := b2
            match ix, him, hi with
            | 0, _, hi =>
              obtain rfl := Option.some.inj hi
              simp only [relF, List.getD_cons_zero, List.getD_cons_succ, List.foldl_cons, List.foldl_nil, dstAt, List.getElem?_cons_zero, List.getElem?_cons_succ, Option.bind_some]
              go_wp2_with fail
              exact ⟨rfl, Below.refl _ _, rfl, rfl⟩
            | 1, _, hi =>
              obtain rfl := Option.some.inj hi
              simp only [relF, List.getD_cons_zero, List.getD_cons_succ, List.foldl_cons, List.foldl_nil, dstAt, List.getElem?_cons_zero, List.getElem?_cons_succ, Option.bind_some]
              go_wp2_with fail
              exact ⟨rfl, Below.refl _ _, rfl, rfl⟩
            | 2, _, hi =>
              obtain rfl := Option.some.inj hi
              have h0 : vs 0 = _ := hv 0 (by decide)
              have h1 : vs 1 = _ := hv 1 (by decide)
              simp only [relF, List.getD_cons_zero, List.getD_cons_succ, List.foldl_cons, List.foldl_nil, dstAt, List.getElem?_cons_zero, List.getElem?_cons_succ, Option.bind_some]
              go_frame
              rw [h0, h1]
              go_wp2_with fail
              exact ⟨rfl, Below.refl _ _, rfl, rfl⟩
            | 3, _, hi =>
              obtain rfl := Option.some.inj hi
              have h2 : vs 2 = _ := hv 2 (by decide)
              have hcell := (HA2.out.below (Nat.le_refl _) b2).get HP.out
              simp only [relF, List.getD_cons_zero, List.getD_cons_succ, List.foldl_cons, List.foldl_nil, dstAt, List.getElem?_cons_zero, List.getElem?_cons_succ, Option.bind_some]
              go_frame
              rw [h2]
              go_wp2_with fail
              exact ⟨rfl, Below.refl _ _, rfl, rfl⟩
            | 4, _, hi =>
              obtain rfl := Option.some.inj hi
              simp only [relF, List.getD_cons_zero, List.getD_cons_succ, List.foldl_cons, List.foldl_nil, dstAt, List.getElem?_cons_zero, List.getElem?_cons_succ, Option.bind_some]
              go_wp2_with fail
              exact ⟨rfl, Below.refl _ _, rfl, rfl⟩
            | 5, _, hi =>
              obtain rfl := Option.some.inj hi
              simp only [relF, List.getD_cons_zero, List.getD_cons_succ, List.foldl_cons, List.foldl_nil, dstAt, List.getElem?_cons_zero, List.getElem?_cons_succ, Option.bind_some]
              go_wp2_with fail
              exact ⟨rfl, Below.refl _ _, rfl, rfl⟩
            | 6, _, hi =>
              obtain rfl := Option.some.inj hi
              have h4 : vs 4 = _ := hv 4 (by decide)
              have h5 : vs 5 = _ := hv 5 (by decide)
              simp only [relF, List.getD_cons_zero, List.getD_cons_succ, List.foldl_cons, List.foldl_nil, dstAt, List.getElem?_cons_zero, List.getElem?_cons_succ, Option.bind_some]
              go_frame
              rw [h4, h5]
              go_wp2_with fail
              exact ⟨rfl, Below.refl _ _, rfl, rfl⟩
            | 7, _, hi =>
              obtain rfl := Option.some.inj hi
              have h6 : vs 6 = _ := hv 6 (by decide)
              have hcell := (HB2.out.below (Nat.le_refl _) b2).get HQ.out
              simp only [relF, List.getD_cons_zero, List.getD_cons_succ, List.foldl_cons, List.foldl_nil, dstAt, List.getElem?_cons_zero, List.getElem?_cons_succ, Option.bind_some]
              go_frame
              rw [h6]
              go_wp2_with fail
              exact ⟨rfl, Below.refl _ _, rfl, rfl⟩
            | 8, _, hi =>
              obtain rfl := Option.some.inj hi
              have h3 : vs 3 = _ := hv 3 (by decide)
              have h7 : vs 7 = _ := hv 7 (by decide)
              have hse := HSE.out
              simp only [relF, List.getD_cons_zero, List.getD_cons_succ, List.foldl_cons, List.foldl_nil, dstAt, List.getElem?_cons_zero, List.getElem?_cons_succ, Option.bind_some]
              go_frame
              rw [h3, h7]
              go_wp2_with fail
              exact ⟨rfl, Below.refl _ _, rfl, rfl⟩
            | nx + 9, him, _ => exact absurd him (by omega)
          · intro w2 b2 vs hv
            have hb0 := b2
            have h8 : vs 8 = _ := hv 8 (by decide)
            simp only [relF, List.drop_succ_cons, List.drop_zero, List.length_cons, List.length_nil, Nat.zero_add, Nat.reduceAdd, List.range, List.range.loop, List.foldl_cons, List.foldl_nil, dstAt, List.getElem?_cons_zero, List.getElem?_cons_succ, Option.bind_some]
            go_frame
            rw [h8]
            have B2 := Br.trans (b2.mono Br.size)
            go_wp2_with fail
            go_roundw
            case rel => exact ⟨j + 1, by omega, by go_num, HNX, B2⟩
            case measure => simp [intOf]; omega
        · have hse : ((strOf p).toList == (strOf q).toList) = false := by rw [strOf_toList, strOf_toList, beq_eq_false_iff_ne]; exact hpq
          have HSE := Lib.hid hse; clear hse
          have hRf : R = false := by
            rw [HR.out]
            refine decide_eq_false fun hAB => hpq ?_
            have h1 := HP.out
            rw [hAB, HQ.out] at h1
            exact (Option.some.inj h1).symm
          have HRF := Lib.hid hRf; clear hRf hpq
          refine wp_region_rel [[], [], [0, 1], [2], [], [], [4, 5], [6], [3, 7]] (sameB b off n cap b' off' cap' j p q) 26 (by kernel_rfl) (by kernel_rfl) (by kernel_rfl) (sameB_mono b off n cap b' off' cap' j p q) ?_ ?_
          · intro ix op hi w2 b2 vs hv
            have him : ix < 9 := (List.getElem?_eq_some_iff.1 hi).1
            have hb0 := b2
            match ix, him, hi with
            | 0, _, hi =>
              obtain rfl := Option.some.inj hi
              simp only [relF, List.getD_cons_zero, List.getD_cons_succ, List.foldl_cons, List.foldl_nil, dstAt, List.getElem?_cons_zero, List.getElem?_cons_succ, Option.bind_some]
              go_wp2_with fail
              exact ⟨rfl, Below.refl _ _, rfl, rfl⟩
            | 1, _, hi =>
              obtain rfl := Option.some.inj hi
              simp only [relF, List.getD_cons_zero, List.getD_cons_succ, List.foldl_cons, List.foldl_nil, dstAt, List.getElem?_cons_zero, List.getElem?_cons_succ, Option.bind_some]
              go_wp2_with fail
              exact ⟨rfl, Below.refl _ _, rfl, rfl⟩
            | 2, _, hi =>
              obtain rfl := Option.some.inj hi
              have h0 : vs 0 = _ := hv 0 (by decide)
              have h1 : vs 1 = _ := hv 1 (by decide)
              simp only [relF, List.getD_cons_zero, List.getD_cons_succ, List.foldl_cons, List.foldl_nil, dstAt, List.getElem?_cons_zero, List.getElem?_cons_succ, Option.bind_some]
              go_frame
              rw [h0, h1]
              go_wp2_with fail
              exact ⟨rfl, Below.refl _ _, rfl, rfl⟩
            | 3, _, hi =>
              obtain rfl := Option.some.inj hi
              have h2 : vs 2 = _ := hv 2 (by decide)
              have hcell := (HA2.out.below (Nat.le_refl _) b2).get HP.out
              simp only [relF, List.getD_cons_zero, List.getD_cons_succ, List.foldl_cons, List.foldl_nil, dstAt, List.getElem?_cons_zero, List.getElem?_cons_succ, Option.bind_some]
              go_frame
              rw [h2]
              go_wp2_with fail
              exact ⟨rfl, Below.refl _ _, rfl, rfl⟩
            | 4, _, hi =>
              obtain rfl := Option.some.inj hi
              simp only [relF, List.getD_cons_zero, List.getD_cons_succ, List.foldl_cons, List.foldl_nil, dstAt, List.getElem?_cons_zero, List.getElem?_cons_succ, Option.bind_some]
              go_wp2_with fail
              exact ⟨rfl, Below.refl _ _, rfl, rfl⟩
            | 5, _, hi =>
              obtain rfl := Option.some.inj hi
              simp only [relF, List.getD_cons_zero, List.getD_cons_succ, List.foldl_cons, List.foldl_nil, dstAt, List.getElem?_cons_zero, List.getElem?_cons_succ, Option.bind_some]
              go_wp2_with fail
              exact ⟨rfl, Below.refl _ _, rfl, rfl⟩
            | 6, _, hi =>
              obtain rfl := Option.some.inj hi
              have h4 : vs 4 = _ := hv 4 (by decide)
              have h5 : vs 5 = _ := hv 5 (by decide)
              simp only [relF, List.getD_cons_zero, List.getD_cons_succ, List.foldl_cons, List.foldl_nil, dstAt, List.getElem?_cons_zero, List.getElem?_cons_succ, Option.bind_some]
              go_frame
              rw [h4, h5]
              go_wp2_with fail
              exact ⟨rfl, Below.refl _ _, rfl, rfl⟩
            | 7, _, hi =>
              obtain rfl := Option.some.inj hi
              have h6 : vs 6 = _ := hv 6 (by decide)
              have hcell := (HB2.out.below (Nat.le_refl _) b2).get HQ.out
              simp only [relF, List.getD_cons_zero, List.getD_cons_succ, List.foldl_cons, List.foldl_nil, dstAt, List.getElem?_cons_zero, List.getElem?_cons_succ, Option.bind_some]
              go_frame
              rw [h6]
              go_wp2_with fail
              exact ⟨rfl, Below.refl _ _, rfl, rfl⟩
            | 8, _, hi =>
              obtain rfl := Option.some.inj hi
              have h3 : vs 3 = _ := hv 3 (by decide)
              have h7 : vs 7 = _ := hv 7 (by decide)
              have hse := HSE.out
              simp only [relF, List.getD_cons_zero, List.getD_cons_succ, List.foldl_cons, List.foldl_nil, dstAt, List.getElem?_cons_zero, List.getElem?_cons_succ, Option.bind_some]
              go_frame
              rw [h3, h7]
              go_wp2_with fail
              exact ⟨rfl, Below.refl _ _, rfl, rfl⟩
            | nx + 9, him, _ => exact absurd him (by omega)
          · intro w2 b2 vs hv
            have hb0 := b2
            have h8 : vs 8 = _ := hv 8 (by decide)
            simp only [relF, List.drop_succ_cons, List.drop_zero, List.length_cons, List.length_nil, Nat.zero_add, Nat.reduceAdd, List.range, List.range.loop, List.foldl_cons, List.foldl_nil, dstAt, List.getElem?_cons_zero, List.getElem?_cons_succ, Option.bind_some]
            go_frame
            rw [h8]
            have B2 := Br.trans (b2.mono Br.size)
            go_wp2_with fail
            go_ret
            exact ⟨by rw [HRF.out]; rfl, B2⟩
      · obtain rfl : j = n := by omega
        have hRt : R = true := by
          rw [HR.out]
          have h := heq.out
          rw [List.take_of_length_le (by rw [HAL.out]; exact Nat.le_refl _), List.take_of_length_le (by rw [HBL.out]; exact Nat.le_refl _)] at h
          exact decide_eq_true h
        have HRT := Lib.hid hRt; clear hRt
        go_wp2_with fail
        go_ret
        exact ⟨by rw [HRT.out]; rfl, Br⟩
  · have ht : ((n : Int) != (n' : Int)) = true := by rw [bne_iff_ne]; omega
    have hRf : R = false := by
      rw [HR.out]
      refine decide_eq_false fun hAB => hn ?_
      have h1 := HAL.out
      rw [hAB, HBL.out] at h1
      exact h1.symm
    have HRF := Lib.hid hRf; clear hRf
    go_enter Tryd.func12, Tryd.ntmps12
    go_wp2_with fail
    go_ret
    exact ⟨by rw [HRF.out]; rfl, Below.refl _ _⟩

/-- What the region's operations leave. -/
def rrV (n b' off' n' c' : Nat) (r0 : List UInt8) (R' : List (List UInt8)) (ix : Nat) (w : World) (v : Value) : Prop :=
  match ix with
  | 0 => v = .int .i64 (n : Int)
  | 1 => v = .int .u64 (n : Int)
  | 2 => v = .string (strOf (Wire.num n))
  | 3 => v = .string (strOf (3 :: (Wire.num n)))
  | 4 => v = .slice (some ⟨b', off', none⟩) n' c'
  | 5 => v = .pointer (some ⟨b', off', none⟩)
  | 6 => v = .string (strOf r0)
  | 7 => v = .string (strOf (Sha.of r0))
  | 8 => v = .string (strOf (3 :: ((Wire.num n) ++ (Sha.of r0))))
  | 9 => ∃ g, v = .slice (some ⟨g, 0, none⟩) 1 1 ∧ w.heap[g]? = some (.cells #[.string (strOf (3 :: ((Wire.num n) ++ (Sha.of r0))))] 9 (0, 0))
  | 10 => v = .slice (some ⟨b', off', none⟩) n' c'
  | 11 => ∃ (q : Addr) (c : Nat), v = .slice (some q) (1 + n') c ∧ StrsAt w (some q) (1 + n') c ((3 :: ((Wire.num n) ++ (Sha.of r0))) :: R')
  | 12 => ∃ (q : Addr) (c : Nat), v = .slice (some q) (1 + n') c ∧ StrsAt w (some q) (1 + n') c ((3 :: ((Wire.num n) ++ (Sha.of r0))) :: R')
  | 13 => v = .bool true
  | _ => True

theorem rrV_mono (n b' off' n' c' : Nat) (r0 : List UInt8) (R' : List (List UInt8)) (jx : Nat) (w w' : World) (v : Value) (hb : Below w.heap.size w w') (h : rrV n b' off' n' c' r0 R' jx w v) : rrV n b' off' n' c' r0 R' jx w' v := by
  match jx, h with
  | 0, h => exact h
  | 1, h => exact h
  | 2, h => exact h
  | 3, h => exact h
  | 4, h => exact h
  | 5, h => exact h
  | 6, h => exact h
  | 7, h => exact h
  | 8, h => exact h
  | 9, h => exact (let ⟨g, h1, h2⟩ := h; ⟨g, h1, (hb.block g (lt_of_block h2)).trans h2⟩)
  | 10, h => exact h
  | 11, h => exact (let ⟨q, c, h1, h2⟩ := h; ⟨q, c, h1, h2.below (Nat.le_refl _) hb⟩)
  | 12, h => exact (let ⟨q, c, h1, h2⟩ := h; ⟨q, c, h1, h2.below (Nat.le_refl _) hb⟩)
  | 13, h => exact h
  | _ + 14, h => exact trivial

set_option maxRecDepth 100000 in
theorem refRowsAll_bad (w : World) (n i : Int) (hb : badSide n i = true) (s : ByteArray) (o : Option Addr) (m cap : Nat) :
    Calls Tryd.prog 11 #[.int .i64 n, .int .i64 i, .string s, .slice o m cap] w fun e w' => w = w' ∧ e = .returned (.tuple #[.slice none 0 0, .bool false]) := by
  unfold badSide at hb
  rcases hx : decide ((1073741824 : Int) < n) with _ | _
  · rcases hy : decide (i < 0) with _ | _
    · have hz : decide (n ≤ i) = true := by rw [hx, hy] at hb; simpa using hb
      clear hb
      go_enter Tryd.func11, Tryd.ntmps11
      go_wp2_with fail
      go_ret2
      exact ⟨rfl, rfl⟩
    · clear hb
      go_enter Tryd.func11, Tryd.ntmps11
      go_wp2_with fail
      go_ret2
      exact ⟨rfl, rfl⟩
  · clear hb
    go_enter Tryd.func11, Tryd.ntmps11
    go_wp2_with fail
    go_ret2
    exact ⟨rfl, rfl⟩

set_option maxRecDepth 100000 in
theorem refRowsAll_short (w : World) (n i : Nat) (h1 : i < n) (h2 : n ≤ 1073741824) (s : ByteArray) (o : Option Addr) (m cap : Nat) (hm : m ≤ 9223372036854775807) (hne : ¬ (Tree.sides n i).length = m) :
    Calls Tryd.prog 11 #[.int .i64 (n : Int), .int .i64 (i : Int), .string s, .slice o m cap] w fun e w' => w = w' ∧ e = .returned (.tuple #[.slice none 0 0, .bool false]) := by
  have hx : decide ((1073741824 : Int) < (n : Int)) = false := decide_eq_false (by omega)
  have hy : decide ((i : Int) < 0) = false := decide_eq_false (by omega)
  have hz : decide ((n : Int) ≤ (i : Int)) = false := decide_eq_false (by omega)
  have hz' : decide (n ≤ i) = false := decide_eq_false (by omega)
  have hc := refDeep_any n w n i rfl h1 h2
  obtain ⟨d, hd⟩ : ∃ d, d = (Tree.sides n i).length := ⟨_, rfl⟩
  rw [← hd] at hc hne
  have ht : ((m : Int) != (d : Int)) = true := by rw [bne_iff_ne]; omega
  have HC := Lib.hid hc; clear hc hd
  go_enter Tryd.func11, Tryd.ntmps11
  go_wp2_with fail
  refine HC.out.mono ?_
  rintro e w' ⟨rfl, rfl⟩
  go_wp2_with fail
  go_ret2
  exact ⟨rfl, rfl⟩

set_option maxRecDepth 100000 in
set_option maxHeartbeats 2000000 in
theorem refRowsAll_any (w : World) (n i : Nat) (h1 : i < n) (h2 : n ≤ 1073741824) (l : List UInt8) (hl : l.length ≤ 100000) (o : Option Addr) (m cap : Nat) (P : List (List UInt8)) (hP : HashesAt w o m cap P) (hsp : (Tree.sides n i).length = P.length) :
    Calls Tryd.prog 11 #[.int .i64 (n : Int), .int .i64 (i : Int), .string (strOf l), .slice o m cap] w fun e w' => ∃ q c k, e = .returned (.tuple #[.slice q k c, .bool true]) ∧ StrsAt w' q k c (Tree.rowsAll n (Tree.rowsS (Tree.sides n i) l P)) ∧ Below w.heap.size w w' := by
  have hx : decide ((1073741824 : Int) < (n : Int)) = false := decide_eq_false (by omega)
  have hy : decide ((i : Int) < 0) = false := decide_eq_false (by omega)
  have hz : decide ((n : Int) ≤ (i : Int)) = false := decide_eq_false (by omega)
  have hz' : decide (n ≤ i) = false := decide_eq_false (by omega)
  have hPm : P.length = m := hP.1.1
  have hcap : m ≤ cap := hP.1.2.1
  have hmax : cap ≤ 9223372036854775807 := hP.1.2.2.1
  have hs30 := Tree.sides_len 30 n i h1 h2
  have hd0 := refDeep_any n w n i rfl h1 h2
  have hr0 := refRows_any n w n i l o m cap P rfl h1 h2 hl hP hsp
  have hbd := Tree.rows_bound (Tree.sides n i) l P hsp hP.2 hl
  have hrl := Tree.rowsS_len (Tree.sides n i) l P
  obtain ⟨R', hR'⟩ : ∃ R', R' = Tree.rowsS (Tree.sides n i) l P := ⟨_, rfl⟩
  rw [← hR'] at hr0 hbd hrl
  have hdm : (Tree.sides n i).length = m := by omega
  rw [hdm] at hd0 hrl hs30
  obtain ⟨r0, hr00⟩ : ∃ r0, R'[0]? = some r0 := ⟨_, List.getElem?_eq_getElem (by omega)⟩
  have hr0h : R'.headD [] = r0 := by rw [List.headD_eq_head?_getD, List.head?_eq_getElem?, hr00]; rfl
  have hrb := hbd r0 (List.mem_of_getElem? hr00)
  have hre : Tree.rowsAll n (Tree.rowsS (Tree.sides n i) l P) = (3 :: (Wire.num n ++ Sha.of r0)) :: R' := by unfold Tree.rowsAll; rw [← hR', hr0h]
  obtain ⟨RR, hRR⟩ : ∃ RR, RR = Tree.rowsAll n (Tree.rowsS (Tree.sides n i) l P) := ⟨_, rfl⟩
  rw [← hRR] at hre ⊢
  have ht : ((m : Int) != (m : Int)) = false := by simp
  have HRE := Lib.hid hre; clear hre hRR hR' hr0h
  have HD := Lib.hid hd0; clear hd0
  have HC := Lib.hid hr0; clear hr0
  have HR0 := Lib.hid hr00; clear hr00
  have HB0 := Lib.hid hrb; clear hrb
  clear hP hbd hsp
  go_enter Tryd.func11, Tryd.ntmps11
  go_wp2_with fail
  refine HD.out.mono ?_
  rintro e w' ⟨rfl, rfl⟩
  go_wp2_with fail
  refine HC.out.mono ?_
  rintro e w2 ⟨q', c', n', rfl, hr2, B2⟩
  have hn' : R'.length = n' := hr2.len
  have hcn := hr2.cap
  have hcm := hr2.max
  obtain ⟨b', off', rfl⟩ := hr2.form (by omega)
  have HR2 := Lib.hid hr2; clear hr2
  have hn0 : 0 < n' := by omega
  have hn31 : n' ≤ 31 := by omega
  go_wp2_with fail
  refine wp_region_rel [[], [0], [1], [2], [], [4], [5], [6], [3, 7], [8], [], [9, 10], [11], []] (rrV n b' off' n' c' r0 R') 47 (by kernel_rfl) (by kernel_rfl) (by kernel_rfl) (rrV_mono n b' off' n' c' r0 R') ?_ ?_
  · intro ix op hi w2 b2 vs hv
    have him : ix < 14 := (List.getElem?_eq_some_iff.1 hi).1
    have hr0b := HB0.out
    have hnl := Wire.num_length n (by omega)
    match ix, him, hi with
    | 0, _, hi =>
      obtain rfl := Option.some.inj hi
      simp only [relF, List.getD_cons_zero, List.getD_cons_succ, List.foldl_cons, List.foldl_nil, dstAt, List.getElem?_cons_zero, List.getElem?_cons_succ, Option.bind_some]
      go_wp2_with fail
      exact ⟨rfl, Below.refl _ _, rfl, rfl⟩
    | 1, _, hi =>
      obtain rfl := Option.some.inj hi
      have h0 : vs 0 = _ := hv 0 (by decide)
      have hu : IntKind.u64.wrap (n : Int) = (n : Int) := by rw [IntKind.wrap_u64]; omega
      simp only [relF, List.getD_cons_zero, List.getD_cons_succ, List.foldl_cons, List.foldl_nil, dstAt, List.getElem?_cons_zero, List.getElem?_cons_succ, Option.bind_some]
      go_frame
      rw [h0]
      go_wp2_with fail
      exact ⟨rfl, Below.refl _ _, rfl, rfl⟩
    | 2, _, hi =>
      obtain rfl := Option.some.inj hi
      have h1 : vs 1 = _ := hv 1 (by decide)
      simp only [relF, List.getD_cons_zero, List.getD_cons_succ, List.foldl_cons, List.foldl_nil, dstAt, List.getElem?_cons_zero, List.getElem?_cons_succ, Option.bind_some]
      go_frame
      rw [h1]
      go_wp2_with fail
      refine (refNum_any n (by omega) w2).mono ?_
      rintro e w3 ⟨rfl, b3⟩
      go_wp2_with fail
      exact ⟨rfl, b3, rfl, rfl⟩
    | 3, _, hi =>
      obtain rfl := Option.some.inj hi
      have h2 : vs 2 = _ := hv 2 (by decide)
      have hlen0 := Wire.num_length n (by omega)
      have hz1 : (⟨#[3]⟩ : ByteArray).size = [3].length := by first | rfl | exact strOf_size _
      have hz2 : ((strOf (Wire.num n)) : ByteArray).size = (Wire.num n).length := by first | rfl | exact strOf_size _
      simp only [List.length_cons, List.length_append, List.length_nil] at hz1 hz2
      have hadd : (⟨#[3]⟩ : ByteArray) ++ (strOf (Wire.num n)) = strOf (3 :: (Wire.num n)) := add_str [3] (Wire.num n)
      simp only [relF, List.getD_cons_zero, List.getD_cons_succ, List.foldl_cons, List.foldl_nil, dstAt, List.getElem?_cons_zero, List.getElem?_cons_succ, Option.bind_some]
      go_frame
      rw [h2]
      go_wp2_with fail
      exact ⟨rfl, Below.refl _ _, rfl, rfl⟩
    | 4, _, hi =>
      obtain rfl := Option.some.inj hi
      simp only [relF, List.getD_cons_zero, List.getD_cons_succ, List.foldl_cons, List.foldl_nil, dstAt, List.getElem?_cons_zero, List.getElem?_cons_succ, Option.bind_some]
      go_wp2_with fail
      exact ⟨rfl, Below.refl _ _, rfl, rfl⟩
    | 5, _, hi =>
      obtain rfl := Option.some.inj hi
      have h4 : vs 4 = _ := hv 4 (by decide)
      simp only [relF, List.getD_cons_zero, List.getD_cons_succ, List.foldl_cons, List.foldl_nil, dstAt, List.getElem?_cons_zero, List.getElem?_cons_succ, Option.bind_some]
      go_frame
      rw [h4]
      go_wp2_with fail
      exact ⟨rfl, Below.refl _ _, rfl, rfl⟩
    | 6, _, hi =>
      obtain rfl := Option.some.inj hi
      have h5 : vs 5 = _ := hv 5 (by decide)
      have hcell := (HR2.out.below (Nat.le_refl _) b2).get HR0.out
      rw [Nat.add_zero] at hcell
      simp only [relF, List.getD_cons_zero, List.getD_cons_succ, List.foldl_cons, List.foldl_nil, dstAt, List.getElem?_cons_zero, List.getElem?_cons_succ, Option.bind_some]
      go_frame
      rw [h5]
      go_wp2_with fail
      exact ⟨rfl, Below.refl _ _, rfl, rfl⟩
    | 7, _, hi =>
      obtain rfl := Option.some.inj hi
      have h6 : vs 6 = _ := hv 6 (by decide)
      simp only [relF, List.getD_cons_zero, List.getD_cons_succ, List.foldl_cons, List.foldl_nil, dstAt, List.getElem?_cons_zero, List.getElem?_cons_succ, Option.bind_some]
      go_frame
      rw [h6]
      go_wp2_with fail
      refine (refOf_any w2 r0 (by omega)).mono ?_
      rintro e w3 ⟨rfl, b3⟩
      go_wp2_with fail
      exact ⟨rfl, b3, rfl, rfl⟩
    | 8, _, hi =>
      obtain rfl := Option.some.inj hi
      have h3 : vs 3 = _ := hv 3 (by decide)
      have h7 : vs 7 = _ := hv 7 (by decide)
      have hlen0 := Wire.num_length n (by omega)
      have hlen1 := Sha.of_len r0
      have hz1 : ((strOf (3 :: (Wire.num n))) : ByteArray).size = (3 :: (Wire.num n)).length := by first | rfl | exact strOf_size _
      have hz2 : ((strOf (Sha.of r0)) : ByteArray).size = (Sha.of r0).length := by first | rfl | exact strOf_size _
      simp only [List.length_cons, List.length_append, List.length_nil] at hz1 hz2
      have hadd : ((strOf (3 :: (Wire.num n))) : ByteArray) ++ (strOf (Sha.of r0)) = strOf (3 :: ((Wire.num n) ++ (Sha.of r0))) := add_str (3 :: (Wire.num n)) (Sha.of r0)
      simp only [relF, List.getD_cons_zero, List.getD_cons_succ, List.foldl_cons, List.foldl_nil, dstAt, List.getElem?_cons_zero, List.getElem?_cons_succ, Option.bind_some]
      go_frame
      rw [h3, h7]
      go_wp2_with fail
      exact ⟨rfl, Below.refl _ _, rfl, rfl⟩
    | 9, _, hi =>
      obtain rfl := Option.some.inj hi
      have h8 : vs 8 = _ := hv 8 (by decide)
      simp only [relF, List.getD_cons_zero, List.getD_cons_succ, List.foldl_cons, List.foldl_nil, dstAt, List.getElem?_cons_zero, List.getElem?_cons_succ, Option.bind_some]
      go_frame
      rw [h8]
      go_wp2_with fail
      exact ⟨rfl, (Below.refl _ _).alloc (Nat.le_refl _) _, rfl, w2.heap.size, rfl, heap_alloc_new _ _⟩
    | 10, _, hi =>
      obtain rfl := Option.some.inj hi
      simp only [relF, List.getD_cons_zero, List.getD_cons_succ, List.foldl_cons, List.foldl_nil, dstAt, List.getElem?_cons_zero, List.getElem?_cons_succ, Option.bind_some]
      go_wp2_with fail
      exact ⟨rfl, Below.refl _ _, rfl, rfl⟩
    | 11, _, hi =>
      obtain rfl := Option.some.inj hi
      obtain ⟨g9, e9, s9⟩ := hv 9 (by decide)
      have h10 : vs 10 = _ := hv 10 (by decide)
      obtain ⟨q, cc, W, hrun, hs, hbb⟩ := StrsAt.cons (HR2.out.below (Nat.le_refl _) b2) (by omega) (by omega) s9
      simp only [relF, List.getD_cons_zero, List.getD_cons_succ, List.foldl_cons, List.foldl_nil, dstAt, List.getElem?_cons_zero, List.getElem?_cons_succ, Option.bind_some]
      go_frame
      rw [e9, h10]
      go_wp2_with ((with_reducible show wpList _ _ _ (⟨some 46, _, _, _, _, _⟩ :: _) _ _); refine wpList_append_ran (by kernel_rfl) _ _ _ rfl _ _ rfl rfl hrun ?_)
      exact ⟨rfl, hbb, rfl, q, cc, rfl, hs⟩
    | 12, _, hi =>
      obtain rfl := Option.some.inj hi
      obtain ⟨q11, c11, e11, s11⟩ := hv 11 (by decide)
      simp only [relF, List.getD_cons_zero, List.getD_cons_succ, List.foldl_cons, List.foldl_nil, dstAt, List.getElem?_cons_zero, List.getElem?_cons_succ, Option.bind_some]
      go_frame
      rw [e11]
      go_wp2_with fail
      exact ⟨rfl, Below.refl _ _, rfl, q11, c11, rfl, s11⟩
    | 13, _, hi =>
      obtain rfl := Option.some.inj hi
      simp only [relF, List.getD_cons_zero, List.getD_cons_succ, List.foldl_cons, List.foldl_nil, dstAt, List.getElem?_cons_zero, List.getElem?_cons_succ, Option.bind_some]
      go_wp2_with fail
      exact ⟨rfl, Below.refl _ _, rfl, rfl⟩
    | nx + 14, him, _ => exact absurd him (by omega)
  · intro w2 b2 vs hv
    have hr0b := HB0.out
    have hnl := Wire.num_length n (by omega)
    obtain ⟨q12, c12, e12, s12⟩ := hv 12 (by decide)
    have h13 : vs 13 = _ := hv 13 (by decide)
    simp only [relF, List.drop_succ_cons, List.drop_zero, List.length_cons, List.length_nil, Nat.zero_add, Nat.reduceAdd, List.range, List.range.loop, List.foldl_cons, List.foldl_nil, dstAt, List.getElem?_cons_zero, List.getElem?_cons_succ, Option.bind_some]
    go_frame
    rw [e12, h13]
    go_wp2_with fail
    go_ret2
    refine ⟨some q12, c12, 1 + n', rfl, ?_, B2.trans (b2.mono B2.size)⟩
    rw [HRE.out]
    exact s12

end Go.Proofs.YteljlnkjdajkgaaDoor
