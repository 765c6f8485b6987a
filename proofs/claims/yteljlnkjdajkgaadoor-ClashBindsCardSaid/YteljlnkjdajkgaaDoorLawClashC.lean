/- The walk of the law ClashRoot. -/
import Derived.Test.YteljlnkjdajkgaaDoorLawClashB
namespace Go.Proofs.YteljlnkjdajkgaaDoor
open Go.RowKit
set_option linter.unusedSimpArgs false
set_option linter.unusedVariables false

/-- What the region's operations leave. -/
def rootA (B : Nat) (n i : Int) (mP cP : Nat) (oP : Option Addr) (l a : List UInt8) (P : List (List UInt8)) (ix : Nat) (w : World) (v : Value) : Prop :=
  match ix with
  | 0 => v = .agg (byteCells a).toArray
  | 1 => v = .int .i64 (n)
  | 2 => v = .int .i64 (i)
  | 3 => v = .string (strOf l)
  | 4 => ∃ g : Nat, v = .slice (some ⟨g, 0, none⟩) 0 0
  | 5 => v = .slice oP mP cP
  | 6 => ∃ (q : Addr) (c : Nat), v = .slice (some q) mP c ∧ HashesAt w (some q) mP c P
  | 7 => v = .bool false
  | 8 => v = .bool false
  | _ => True

theorem rootA_mono (B : Nat) (n i : Int) (mP cP : Nat) (oP : Option Addr) (l a : List UInt8) (P : List (List UInt8)) (jx : Nat) (w w' : World) (v : Value) (hb : Below w.heap.size w w') (h : rootA B n i mP cP oP l a P jx w v) : rootA B n i mP cP oP l a P jx w' v := by
  match jx, h with
  | 0, h => exact h
  | 1, h => exact h
  | 2, h => exact h
  | 3, h => exact h
  | 4, h => exact h
  | 5, h => exact h
  | 6, h => exact (let ⟨q, c, h1, h2⟩ := h; ⟨q, c, h1, h2.below (Nat.le_refl _) hb⟩)
  | 7, h => exact h
  | 8, h => exact h
  | _ + 9, h => exact trivial

/-- What the region's operations leave. -/
def rootB (B n i mP cP : Nat) (oP : Option Addr) (l a : List UInt8) (P : List (List UInt8)) (ix : Nat) (w : World) (v : Value) : Prop :=
  match ix with
  | 0 => v = .agg (byteCells a).toArray
  | 1 => v = .int .i64 (n : Int)
  | 2 => v = .int .i64 (i : Int)
  | 3 => v = .string (strOf l)
  | 4 => ∃ g : Nat, v = .slice (some ⟨g, 0, none⟩) 0 0
  | 5 => v = .slice oP mP cP
  | 6 => ∃ (q : Addr) (c : Nat), v = .slice (some q) mP c ∧ HashesAt w (some q) mP c P
  | 7 => v = .bool false
  | 8 => v = .bool false
  | _ => True

theorem rootB_mono (B n i mP cP : Nat) (oP : Option Addr) (l a : List UInt8) (P : List (List UInt8)) (jx : Nat) (w w' : World) (v : Value) (hb : Below w.heap.size w w') (h : rootB B n i mP cP oP l a P jx w v) : rootB B n i mP cP oP l a P jx w' v := by
  match jx, h with
  | 0, h => exact h
  | 1, h => exact h
  | 2, h => exact h
  | 3, h => exact h
  | 4, h => exact h
  | 5, h => exact h
  | 6, h => exact (let ⟨q, c, h1, h2⟩ := h; ⟨q, c, h1, h2.below (Nat.le_refl _) hb⟩)
  | 7, h => exact h
  | 8, h => exact h
  | _ + 9, h => exact trivial

/-- What the region's operations leave. -/
def rootC (B n i mP cP : Nat) (oP : Option Addr) (l a : List UInt8) (P : List (List UInt8)) (x0 : List UInt8) (ix : Nat) (w : World) (v : Value) : Prop :=
  match ix with
  | 0 => v = .agg (byteCells a).toArray
  | 1 => v = .int .i64 (n : Int)
  | 2 => v = .int .i64 (i : Int)
  | 3 => v = .string (strOf l)
  | 4 => ∃ g : Nat, v = .slice (some ⟨g, 0, none⟩) 0 0
  | 5 => v = .slice oP mP cP
  | 6 => ∃ (q : Addr) (c : Nat), v = .slice (some q) mP c ∧ HashesAt w (some q) mP c P
  | 7 => v = .bool ((Sha.of x0) == a)
  | 8 => v = .bool ((Sha.of x0) == a)
  | _ => True

theorem rootC_mono (B n i mP cP : Nat) (oP : Option Addr) (l a : List UInt8) (P : List (List UInt8)) (x0 : List UInt8) (jx : Nat) (w w' : World) (v : Value) (hb : Below w.heap.size w w') (h : rootC B n i mP cP oP l a P x0 jx w v) : rootC B n i mP cP oP l a P x0 jx w' v := by
  match jx, h with
  | 0, h => exact h
  | 1, h => exact h
  | 2, h => exact h
  | 3, h => exact h
  | 4, h => exact h
  | 5, h => exact h
  | 6, h => exact (let ⟨q, c, h1, h2⟩ := h; ⟨q, c, h1, h2.below (Nat.le_refl _) hb⟩)
  | 7, h => exact h
  | 8, h => exact h
  | _ + 9, h => exact trivial

/-- What the region's operations leave. -/
def rootD (B bx ox cx k : Nat) (X : List (List UInt8)) (a x0 : List UInt8) (ix : Nat) (w : World) (v : Value) : Prop :=
  match ix with
  | 0 => v = .slice (some ⟨bx, ox, none⟩) k cx
  | 1 => v = .int .i64 (k : Int)
  | 2 => v = .bool true
  | 3 => v = .bool true
  | 4 => v = .bool ((Sha.of x0) == a)
  | 5 => v = .slice (some ⟨bx, ox, none⟩) k cx
  | 6 => v = .pointer (some ⟨bx, ox, none⟩)
  | 7 => v = .string (strOf x0)
  | 8 => ∃ (g c : Nat), v = .slice (some ⟨g, 0, none⟩) x0.length c ∧ Lib.HoldsBytes w (.slice (some ⟨g, 0, none⟩) x0.length c) x0
  | 9 => ∃ g : Nat, v = .slice (some ⟨g, 0, none⟩) 1 1 ∧ PartsV w (.slice (some ⟨g, 0, none⟩) 1 1) [x0]
  | 10 => v = .agg (byteCells (Sha.of x0)).toArray
  | 11 => v = .agg (byteCells a).toArray
  | 12 => v = .bool ((Sha.of x0) == a)
  | 13 => v = .bool true
  | 14 => v = .bool true
  | 15 => v = .bool true
  | _ => True

theorem rootD_mono (B bx ox cx k : Nat) (X : List (List UInt8)) (a x0 : List UInt8) (jx : Nat) (w w' : World) (v : Value) (hb : Below w.heap.size w w') (h : rootD B bx ox cx k X a x0 jx w v) : rootD B bx ox cx k X a x0 jx w' v := by
  match jx, h with
  | 0, h => exact h
  | 1, h => exact h
  | 2, h => exact h
  | 3, h => exact h
  | 4, h => exact h
  | 5, h => exact h
  | 6, h => exact h
  | 7, h => exact h
  | 8, h => exact (let ⟨g, c, h1, h2⟩ := h; ⟨g, c, h1, holds_below h2 hb⟩)
  | 9, h => exact (let ⟨g, h1, h2⟩ := h; ⟨g, h1, PartsV.below h2 hb⟩)
  | 10, h => exact h
  | 11, h => exact h
  | 12, h => exact h
  | 13, h => exact h
  | 14, h => exact h
  | 15, h => exact h
  | _ + 16, h => exact trivial

set_option maxRecDepth 100000 in
set_option maxHeartbeats 4000000 in
theorem croot_list (w : World) (a : List UInt8) (ha : a.length = 32) (n : Int) (hn : (Lit.int .i64 n).wf = true) (i : Int) (hi : (Lit.int .i64 i).wf = true) (l : List UInt8) (hl : l.length ≤ 140737488351232) (oP : Option Addr) (mP cP : Nat) (P : List (List UInt8)) (hP : HashesAt w oP mP cP P) (hL : Laid w) :
    Calls Tryd.prog 8 #[.agg (byteCells a).toArray, .int .i64 n, .int .i64 i, .string (strOf l), .slice oP mP cP] w fun e w' => e = .returned (.bool true) ∧ Below w.heap.size w w' := by
  have hstl := strOf_size l
  have hmP : P.length = mP := hP.1.1
  have hcP : mP ≤ cP := hP.1.2.1
  have hxP : cP ≤ 9223372036854775807 := hP.1.2.2.1
  have HP := Lib.hid hP; clear hP
  have HL := Lib.hid hL; clear hL
  obtain ⟨W0, hW0⟩ : ∃ W0, W0 = w.alloc (.cells (byteCells a).toArray 39) := ⟨_, rfl⟩
  have x7 : W0.heap[w.heap.size]? = some (.cells (byteCells a).toArray 39 (0, 0)) := by rw [hW0]; exact heap_alloc_new w _
  have b0 : Below w.heap.size w W0 := by rw [hW0]; exact (Below.refl _ _).alloc (Nat.le_refl _) _
  replace HL := Lib.hid (HL.out.below b0)
  replace HP := Lib.hid (HP.out.below (Nat.le_refl _) b0)
  have X7 := Lib.hid x7; clear x7
  have HW0 := Lib.hid hW0; clear hW0
  have HA := Lib.hid ha; clear ha
  go_enter Tryd.func8, Tryd.ntmps8
  go_wp2_with fail
  rw [← HW0.out]
  refine (awake_any _ HL.out).mono ?_
  rintro e w1 ⟨rfl, b1⟩
  replace HP := Lib.hid (HP.out.below (Nat.le_refl _) b1)
  replace HL := Lib.hid (HL.out.below b1)
  replace X7 := Lib.hid ((b1.block _ (lt_of_block X7.out)).trans X7.out)
  replace b1 := b0.trans (b1.mono b0.size)
  clear b0
  by_cases hg : 200 < l.length
  · have ht : decide ((200 : Int) < (l.length : Int)) = true := decide_eq_true (by omega)
    go_wp2_with fail
    refine (awake_any _ HL.out).mono ?_
    rintro e w2 ⟨rfl, b2⟩
    go_wp2_with fail
    go_ret
    exact ⟨rfl, b1.trans (b2.mono b1.size)⟩
  · have ht : decide ((200 : Int) < (l.length : Int)) = false := decide_eq_false (by omega)
    by_cases hg : 40 < mP
    · have ht : decide ((40 : Int) < (mP : Int)) = true := decide_eq_true (by omega)
      go_wp2_with fail
      refine (awake_any _ HL.out).mono ?_
      rintro e w2 ⟨rfl, b2⟩
      go_wp2_with fail
      go_ret
      exact ⟨rfl, b1.trans (b2.mono b1.size)⟩
    · have ht : decide ((40 : Int) < (mP : Int)) = false := decide_eq_false (by omega)
      obtain ⟨q2, c2, v2, hrun, hs, dd⟩ := HashesAt.copy (HP.out.below (Nat.le_refl _) ((Below.refl w1.heap.size w1).alloc (Nat.le_refl _) (.cells #[] 39))) (by omega) ⟨w1.heap.size, 0, none⟩
      have d2 : Below w1.heap.size w1 v2 := ((Below.refl _ _).alloc (Nat.le_refl _) _).trans (dd.mono (by simp))
      have hrun2 := hrun; clear hrun dd
      have C2 := Lib.hid hs; clear hs
      replace HP := Lib.hid (HP.out.below (Nat.le_refl _) d2)
      replace HL := Lib.hid (HL.out.below d2)
      replace X7 := Lib.hid ((d2.block _ (lt_of_block X7.out)).trans X7.out)
      replace b1 := b1.trans (d2.mono b1.size)
      have hra := clashRows_all v2 n i l (by omega) _ _ _ P C2.out HL.out
      rcases hb : badSide n i with _ | _
      · obtain ⟨n, i, rfl, rfl, h1, h2⟩ := badSide_nat hb
        have hs30 := Tree.sides_len 30 n i h1 h2
        by_cases he : (Tree.sides n i).length = P.length
        · rw [rowsR_ok (l := l) hb he] at hra
          have hrc := Tree.rows_climb (Tree.sides n i) l P he
          have hnl := Wire.num_length n (by omega)
          obtain ⟨Y, hY⟩ : ∃ Y, Y = Tree.rowsS (Tree.sides n i) l P := ⟨_, rfl⟩
          rw [← hY] at hra hrc
          obtain ⟨x0, hx0⟩ : ∃ x0, x0 = (3 :: (Wire.num n ++ Sha.of (Y.headD [])) : List UInt8) := ⟨_, rfl⟩
          have hc1 : Tree.check a n i l P = (Sha.of x0 == a) := by
            unfold Tree.check Tree.root
            rw [decide_eq_true he, ← hrc, ← hx0, Bool.true_and]
          have hx0l : x0.length ≤ 100000 := by
            have := Sha.of_len (Y.headD [])
            rw [hx0]; simp only [List.length_cons, List.length_append]; omega
          obtain ⟨X, hX⟩ : ∃ X, X = Tree.rowsAll n Y := ⟨_, rfl⟩
          rw [← hX] at hra
          have hxx : X[0]? = some x0 := by rw [hX, hx0]; rfl
          have hX0 : 0 < X.length := by rw [hX]; exact Nat.succ_pos _
          have HC1 := Lib.hid hc1; clear hc1
          have HX0 := Lib.hid hxx; clear hxx
          have HXL := Lib.hid hX0; clear hX0 hX hx0 hrc hY he
          simp only [Bool.false_eq_true, if_false, if_true] at hra
          have HRA := Lib.hid hra; clear hra
          go_wp2_with ((with_reducible show wpList _ _ _ (⟨some 33, _, _, _, _, _⟩ :: _) _ _); refine wpList_append_ran (by kernel_rfl) _ _ _ rfl _ _ rfl rfl hrun2 ?_)
          refine HRA.out.mono ?_
          rintro e w3 ⟨q3, cx, k, rfl, s3, b3⟩
          have HX := Lib.hid s3; clear s3 HRA hrun2
          replace HP := Lib.hid (HP.out.below (Nat.le_refl _) b3)
          replace HL := Lib.hid (HL.out.below b3)
          replace X7 := Lib.hid ((b3.block _ (lt_of_block X7.out)).trans X7.out)
          replace b1 := b1.trans (b3.mono b1.size)
          have hkx := HX.out.len
          have hk0 : 0 < k := by have := HXL.out; omega
          clear hkx
          have hkc := HX.out.cap
          have hkm := HX.out.max
          obtain ⟨bx, ox, rfl⟩ := HX.out.form hk0
          have tk : decide ((0 : Int) < (k : Int)) = true := decide_eq_true (by omega)
          have tk' : decide (0 < k) = true := decide_eq_true (by omega)
          go_wp2_with fail
          refine wp_region_rel [[], [], [], [], [], [], [4, 5], [0, 1, 2, 3, 6], [7]] (rootC w.heap.size n i mP cP oP l a P x0) 64 (by kernel_rfl) (by kernel_rfl) (by kernel_rfl) (rootC_mono w.heap.size n i mP cP oP l a P x0) ?_ ?_
          · intro ix op hi w2 b2 vs hv
            have him : ix < 9 := (List.getElem?_eq_some_iff.1 hi).1
            have hL2 := HL.out.below b2
            match ix, him, hi with
            | 0, _, hi =>
              obtain rfl := Option.some.inj hi
              simp only [relF, List.getD_cons_zero, List.getD_cons_succ, List.foldl_cons, List.foldl_nil, dstAt, List.getElem?_cons_zero, List.getElem?_cons_succ, Option.bind_some]
              go_wp2_with ((with_reducible show wpList _ _ _ (⟨some 37, _, _, _, _, _⟩ :: _) _ _); refine wpList_load_hash (op := ⟨some 37, _, _, _, _, _⟩) (by kernel_rfl) _ rfl w.heap.size rfl a HA.out _ _ ((b2.block _ (lt_of_block X7.out)).trans X7.out) ?_)
              exact ⟨rfl, Below.refl _ _, rfl, rfl⟩
            | 1, _, hi =>
              obtain rfl := Option.some.inj hi
              simp only [relF, List.getD_cons_zero, List.getD_cons_succ, List.foldl_cons, List.foldl_nil, dstAt, List.getElem?_cons_zero, List.getElem?_cons_succ, Option.bind_some]
              go_wp2_with fail
              exact ⟨rfl, Below.refl _ _, rfl, rfl⟩
            | 2, _, hi =>
              obtain rfl := Option.some.inj hi
              simp only [relF, List.getD_cons_zero, List.getD_cons_succ, List.foldl_cons, List.foldl_nil, dstAt, List.getElem?_cons_zero, List.getElem?_cons_succ, Option.bind_some]
              go_wp2_with fail
              exact ⟨rfl, Below.refl _ _, rfl, rfl⟩
            | 3, _, hi =>
              obtain rfl := Option.some.inj hi
              simp only [relF, List.getD_cons_zero, List.getD_cons_succ, List.foldl_cons, List.foldl_nil, dstAt, List.getElem?_cons_zero, List.getElem?_cons_succ, Option.bind_some]
              go_wp2_with fail
              exact ⟨rfl, Below.refl _ _, rfl, rfl⟩
            | 4, _, hi =>
              obtain rfl := Option.some.inj hi
              simp only [relF, List.getD_cons_zero, List.getD_cons_succ, List.foldl_cons, List.foldl_nil, dstAt, List.getElem?_cons_zero, List.getElem?_cons_succ, Option.bind_some]
              go_wp2_with fail
              exact ⟨rfl, (Below.refl _ _).alloc (Nat.le_refl _) _, rfl, w2.heap.size, rfl⟩
            | 5, _, hi =>
              obtain rfl := Option.some.inj hi
              simp only [relF, List.getD_cons_zero, List.getD_cons_succ, List.foldl_cons, List.foldl_nil, dstAt, List.getElem?_cons_zero, List.getElem?_cons_succ, Option.bind_some]
              go_wp2_with fail
              exact ⟨rfl, Below.refl _ _, rfl, rfl⟩
            | 6, _, hi =>
              obtain rfl := Option.some.inj hi
              obtain ⟨g4, e4⟩ := hv 4 (by decide)
              have h5 : vs 5 = _ := hv 5 (by decide)
              obtain ⟨q, cc, W, hrun, hs, hbb⟩ := HashesAt.copy (HP.out.below (Nat.le_refl _) b2) (by omega) ⟨g4, 0, none⟩
              simp only [relF, List.getD_cons_zero, List.getD_cons_succ, List.foldl_cons, List.foldl_nil, dstAt, List.getElem?_cons_zero, List.getElem?_cons_succ, Option.bind_some]
              go_frame
              rw [e4, h5]
              go_wp2_with ((with_reducible show wpList _ _ _ (⟨some 43, _, _, _, _, _⟩ :: _) _ _); refine wpList_append_ran (by kernel_rfl) _ _ _ rfl _ _ rfl rfl hrun ?_)
              exact ⟨rfl, hbb, rfl, q, cc, rfl, hs⟩
            | 7, _, hi =>
              obtain rfl := Option.some.inj hi
              have h0 : vs 0 = _ := hv 0 (by decide)
              have h1 : vs 1 = _ := hv 1 (by decide)
              have h2 : vs 2 = _ := hv 2 (by decide)
              have h3 : vs 3 = _ := hv 3 (by decide)
              obtain ⟨q6, c6, e6, s6⟩ := hv 6 (by decide)
              have hrn := treeCheck_any w2 a HA.out n i (by omega) (by omega) l (by omega) _ _ _ P s6 hL2
              rw [HC1.out] at hrn
              simp only [relF, List.getD_cons_zero, List.getD_cons_succ, List.foldl_cons, List.foldl_nil, dstAt, List.getElem?_cons_zero, List.getElem?_cons_succ, Option.bind_some]
              go_frame
              rw [h0, h1, h2, h3, e6]
              go_wp2_with fail
              refine (hrn).mono ?_
              rintro e w3 ⟨rfl, b3⟩
              go_wp2_with fail
              exact ⟨rfl, b3, rfl, rfl⟩
            | 8, _, hi =>
              obtain rfl := Option.some.inj hi
              have h7 : vs 7 = _ := hv 7 (by decide)
              simp only [relF, List.getD_cons_zero, List.getD_cons_succ, List.foldl_cons, List.foldl_nil, dstAt, List.getElem?_cons_zero, List.getElem?_cons_succ, Option.bind_some]
              go_frame
              rw [h7]
              go_wp2_with fail
              exact ⟨rfl, Below.refl _ _, rfl, rfl⟩
            | nx + 9, him, _ => exact absurd him (by omega)
          · intro w2 b2 vs hv
            have hL2 := HL.out.below b2
            have h8 : vs 8 = _ := hv 8 (by decide)
            simp only [relF, List.drop_succ_cons, List.drop_zero, List.length_cons, List.length_nil, Nat.zero_add, Nat.reduceAdd, List.range, List.range.loop, List.foldl_cons, List.foldl_nil, dstAt, List.getElem?_cons_zero, List.getElem?_cons_succ, Option.bind_some]
            go_frame
            rw [h8]
            have B2 := b1.trans (b2.mono b1.size)
            have HX2 := Lib.hid (HX.out.below (Nat.le_refl _) b2)
            have X72 := Lib.hid ((b2.block _ (lt_of_block X7.out)).trans X7.out)
            have HL2 := Lib.hid hL2; clear hL2
            clear hv
            go_wp2_with fail
            refine wp_region_rel [[], [0], [1], [2], [3], [3], [3, 5], [3, 6], [3, 7], [3, 8], [3, 9], [3], [3, 10, 11], [3, 4, 12], [3, 13], [14]] (rootD w.heap.size bx ox cx k X a x0) 64 (by kernel_rfl) (by kernel_rfl) (by kernel_rfl) (rootD_mono w.heap.size bx ox cx k X a x0) ?_ ?_
            · intro ix op hi w4 b2 vs hv
              have him : ix < 16 := (List.getElem?_eq_some_iff.1 hi).1
              have hL2 := HL2.out.below b2
              match ix, him, hi with
              | 0, _, hi =>
                obtain rfl := Option.some.inj hi
                simp only [relF, List.getD_cons_zero, List.getD_cons_succ, List.foldl_cons, List.foldl_nil, dstAt, List.getElem?_cons_zero, List.getElem?_cons_succ, Option.bind_some]
                go_wp2_with fail
                exact ⟨rfl, Below.refl _ _, rfl, rfl⟩
              | 1, _, hi =>
                obtain rfl := Option.some.inj hi
                have h0 : vs 0 = _ := hv 0 (by decide)
                simp only [relF, List.getD_cons_zero, List.getD_cons_succ, List.foldl_cons, List.foldl_nil, dstAt, List.getElem?_cons_zero, List.getElem?_cons_succ, Option.bind_some]
                go_frame
                rw [h0]
                go_wp2_with fail
                exact ⟨rfl, Below.refl _ _, rfl, rfl⟩
              | 2, _, hi =>
                obtain rfl := Option.some.inj hi
                have h1 : vs 1 = _ := hv 1 (by decide)
                simp only [relF, List.getD_cons_zero, List.getD_cons_succ, List.foldl_cons, List.foldl_nil, dstAt, List.getElem?_cons_zero, List.getElem?_cons_succ, Option.bind_some]
                go_frame
                rw [h1]
                go_wp2_with fail
                exact ⟨rfl, Below.refl _ _, rfl, by first | rfl | (show slotOf _ _ = _; simp [slotOf]; done) | (show slotOf _ _ = _; simp [slotOf]; omega)⟩
              | 3, _, hi =>
                obtain rfl := Option.some.inj hi
                have h2 : vs 2 = _ := hv 2 (by decide)
                simp only [relF, List.getD_cons_zero, List.getD_cons_succ, List.foldl_cons, List.foldl_nil, dstAt, List.getElem?_cons_zero, List.getElem?_cons_succ, Option.bind_some]
                go_frame
                rw [h2]
                go_wp2_with fail
                exact ⟨rfl, Below.refl _ _, rfl, rfl⟩
              | 4, _, hi =>
                obtain rfl := Option.some.inj hi
                have h3 : vs 3 = _ := hv 3 (by decide)
                simp only [relF, List.getD_cons_zero, List.getD_cons_succ, List.foldl_cons, List.foldl_nil, dstAt, List.getElem?_cons_zero, List.getElem?_cons_succ, Option.bind_some]
                go_frame
                rw [h3]
                go_wp2_with fail
                exact ⟨rfl, Below.refl _ _, rfl, rfl⟩
              | 5, _, hi =>
                obtain rfl := Option.some.inj hi
                have h3 : vs 3 = _ := hv 3 (by decide)
                simp only [relF, List.getD_cons_zero, List.getD_cons_succ, List.foldl_cons, List.foldl_nil, dstAt, List.getElem?_cons_zero, List.getElem?_cons_succ, Option.bind_some]
                go_frame
                rw [h3]
                go_wp2_with fail
                exact ⟨rfl, Below.refl _ _, rfl, rfl⟩
              | 6, _, hi =>
                obtain rfl := Option.some.inj hi
                have h3 : vs 3 = _ := hv 3 (by decide)
                have h5 : vs 5 = _ := hv 5 (by decide)
                simp only [relF, List.getD_cons_zero, List.getD_cons_succ, List.foldl_cons, List.foldl_nil, dstAt, List.getElem?_cons_zero, List.getElem?_cons_succ, Option.bind_some]
                go_frame
                rw [h3, h5]
                go_wp2_with fail
                exact ⟨rfl, Below.refl _ _, rfl, rfl⟩
              | 7, _, hi =>
                obtain rfl := Option.some.inj hi
                have h3 : vs 3 = _ := hv 3 (by decide)
                have h6 : vs 6 = _ := hv 6 (by decide)
                have hcell := (HX2.out.below (Nat.le_refl _) b2).get HX0.out
                rw [Nat.add_zero] at hcell
                simp only [relF, List.getD_cons_zero, List.getD_cons_succ, List.foldl_cons, List.foldl_nil, dstAt, List.getElem?_cons_zero, List.getElem?_cons_succ, Option.bind_some]
                go_frame
                rw [h3, h6]
                go_wp2_with fail
                exact ⟨rfl, Below.refl _ _, rfl, rfl⟩
              | 8, _, hi =>
                obtain rfl := Option.some.inj hi
                have h3 : vs 3 = _ := hv 3 (by decide)
                have h7 : vs 7 = _ := hv 7 (by decide)
                obtain ⟨cap0, W0, hcv, hM0, hbb, _⟩ := str_bytes Tryd.under_str Tryd.under_u8s Tryd.under_b8 w4 x0 (by omega)
                simp only [relF, List.getD_cons_zero, List.getD_cons_succ, List.foldl_cons, List.foldl_nil, dstAt, List.getElem?_cons_zero, List.getElem?_cons_succ, Option.bind_some]
                go_frame
                rw [h3, h7]
                go_wp2_with fail
                exact ⟨rfl, hbb, rfl, _, _, rfl, hM0.holds⟩
              | 9, _, hi =>
                obtain rfl := Option.some.inj hi
                have h3 : vs 3 = _ := hv 3 (by decide)
                obtain ⟨g8, c8, e8, k8⟩ := hv 8 (by decide)
                have hpn := parts_new w4 42 [(.slice (some ⟨g8, 0, none⟩) x0.length c8)] [x0] 1 rfl rfl (parts_1 k8)
                simp only [relF, List.getD_cons_zero, List.getD_cons_succ, List.foldl_cons, List.foldl_nil, dstAt, List.getElem?_cons_zero, List.getElem?_cons_succ, Option.bind_some]
                go_frame
                rw [h3, e8]
                go_wp2_with fail
                exact ⟨rfl, (Below.refl _ _).alloc (Nat.le_refl _) _, rfl, _, rfl, hpn⟩
              | 10, _, hi =>
                obtain rfl := Option.some.inj hi
                have h3 : vs 3 = _ := hv 3 (by decide)
                obtain ⟨g9, e9, k9⟩ := hv 9 (by decide)
                have hof := of_any w4 _ [x0] k9 (by simp) (by simp; omega) hL2
                rw [show [x0].flatten = x0 by simp] at hof
                simp only [relF, List.getD_cons_zero, List.getD_cons_succ, List.foldl_cons, List.foldl_nil, dstAt, List.getElem?_cons_zero, List.getElem?_cons_succ, Option.bind_some]
                go_frame
                rw [h3, e9]
                go_wp2_with fail
                refine (hof).mono ?_
                rintro e w3 ⟨rfl, b3⟩
                go_wp2_with fail
                exact ⟨rfl, b3, rfl, rfl⟩
              | 11, _, hi =>
                obtain rfl := Option.some.inj hi
                have h3 : vs 3 = _ := hv 3 (by decide)
                simp only [relF, List.getD_cons_zero, List.getD_cons_succ, List.foldl_cons, List.foldl_nil, dstAt, List.getElem?_cons_zero, List.getElem?_cons_succ, Option.bind_some]
                go_frame
                rw [h3]
                go_wp2_with ((with_reducible show wpList _ _ _ (⟨some 60, _, _, _, _, _⟩ :: _) _ _); refine wpList_load_hash (op := ⟨some 60, _, _, _, _, _⟩) (by kernel_rfl) _ rfl w.heap.size rfl a HA.out _ _ ((b2.block _ (lt_of_block X72.out)).trans X72.out) ?_)
                exact ⟨rfl, Below.refl _ _, rfl, rfl⟩
              | 12, _, hi =>
                obtain rfl := Option.some.inj hi
                have h3 : vs 3 = _ := hv 3 (by decide)
                have h10 : vs 10 = _ := hv 10 (by decide)
                have h11 : vs 11 = _ := hv 11 (by decide)
                simp only [relF, List.getD_cons_zero, List.getD_cons_succ, List.foldl_cons, List.foldl_nil, dstAt, List.getElem?_cons_zero, List.getElem?_cons_succ, Option.bind_some]
                go_frame
                rw [h3, h10, h11]
                go_wp2_with ((with_reducible show wpList _ _ _ (⟨some 61, _, _, _, _, _⟩ :: _) _ _); refine wpList_eql_hash (op := ⟨some 61, _, _, _, _, _⟩) (by kernel_rfl) _ _ rfl (Sha.of x0) a (Sha.of_len _) HA.out rfl rfl ?_)
                exact ⟨rfl, Below.refl _ _, rfl, rfl⟩
              | 13, _, hi =>
                obtain rfl := Option.some.inj hi
                have h3 : vs 3 = _ := hv 3 (by decide)
                have h4 : vs 4 = _ := hv 4 (by decide)
                have h12 : vs 12 = _ := hv 12 (by decide)
                simp only [relF, List.getD_cons_zero, List.getD_cons_succ, List.foldl_cons, List.foldl_nil, dstAt, List.getElem?_cons_zero, List.getElem?_cons_succ, Option.bind_some]
                go_frame
                rw [h3, h4, h12]
                go_wp2_with fail
                exact ⟨rfl, Below.refl _ _, rfl, by first | rfl | (show slotOf _ _ = _; simp [slotOf])⟩
              | 14, _, hi =>
                obtain rfl := Option.some.inj hi
                have h3 : vs 3 = _ := hv 3 (by decide)
                have h13 : vs 13 = _ := hv 13 (by decide)
                simp only [relF, List.getD_cons_zero, List.getD_cons_succ, List.foldl_cons, List.foldl_nil, dstAt, List.getElem?_cons_zero, List.getElem?_cons_succ, Option.bind_some]
                go_frame
                rw [h3, h13]
                go_wp2_with fail
                exact ⟨rfl, Below.refl _ _, rfl, rfl⟩
              | 15, _, hi =>
                obtain rfl := Option.some.inj hi
                have h14 : vs 14 = _ := hv 14 (by decide)
                simp only [relF, List.getD_cons_zero, List.getD_cons_succ, List.foldl_cons, List.foldl_nil, dstAt, List.getElem?_cons_zero, List.getElem?_cons_succ, Option.bind_some]
                go_frame
                rw [h14]
                go_wp2_with fail
                exact ⟨rfl, Below.refl _ _, rfl, rfl⟩
              | nx + 16, him, _ => exact absurd him (by omega)
            · intro w4 b2 vs hv
              have hL2 := HL2.out.below b2
              have h15 : vs 15 = _ := hv 15 (by decide)
              simp only [relF, List.drop_succ_cons, List.drop_zero, List.length_cons, List.length_nil, Nat.zero_add, Nat.reduceAdd, List.range, List.range.loop, List.foldl_cons, List.foldl_nil, dstAt, List.getElem?_cons_zero, List.getElem?_cons_succ, Option.bind_some]
              go_frame
              rw [h15]
              go_wp2_with fail
              go_ret
              exact ⟨rfl, B2.trans (b2.mono B2.size)⟩
        · rw [rowsR_short (l := l) hb he] at hra
          have hc1 := Tree.check_len (want := a) (l := l) he
          have HC1 := Lib.hid hc1; clear hc1
          simp only [Bool.false_eq_true, if_false, if_true] at hra
          have HRA := Lib.hid hra; clear hra
          go_wp2_with ((with_reducible show wpList _ _ _ (⟨some 33, _, _, _, _, _⟩ :: _) _ _); refine wpList_append_ran (by kernel_rfl) _ _ _ rfl _ _ rfl rfl hrun2 ?_)
          refine HRA.out.mono ?_
          rintro e w3 ⟨q3, cx, k, rfl, s3, b3⟩
          have HX := Lib.hid s3; clear s3 HRA hrun2
          replace HP := Lib.hid (HP.out.below (Nat.le_refl _) b3)
          replace HL := Lib.hid (HL.out.below b3)
          replace X7 := Lib.hid ((b3.block _ (lt_of_block X7.out)).trans X7.out)
          replace b1 := b1.trans (b3.mono b1.size)
          go_wp2_with fail
          refine wp_region_rel [[], [], [], [], [], [], [4, 5], [0, 1, 2, 3, 6], [7]] (rootB w.heap.size n i mP cP oP l a P) 64 (by kernel_rfl) (by kernel_rfl) (by kernel_rfl) (rootB_mono w.heap.size n i mP cP oP l a P) ?_ ?_
          · intro ix op hi w2 b2 vs hv
            have him : ix < 9 := (List.getElem?_eq_some_iff.1 hi).1
            have hL2 := HL.out.below b2
            match ix, him, hi with
            | 0, _, hi =>
              obtain rfl := Option.some.inj hi
              simp only [relF, List.getD_cons_zero, List.getD_cons_succ, List.foldl_cons, List.foldl_nil, dstAt, List.getElem?_cons_zero, List.getElem?_cons_succ, Option.bind_some]
              go_wp2_with ((with_reducible show wpList _ _ _ (⟨some 37, _, _, _, _, _⟩ :: _) _ _); refine wpList_load_hash (op := ⟨some 37, _, _, _, _, _⟩) (by kernel_rfl) _ rfl w.heap.size rfl a HA.out _ _ ((b2.block _ (lt_of_block X7.out)).trans X7.out) ?_)
              exact ⟨rfl, Below.refl _ _, rfl, rfl⟩
            | 1, _, hi =>
              obtain rfl := Option.some.inj hi
              simp only [relF, List.getD_cons_zero, List.getD_cons_succ, List.foldl_cons, List.foldl_nil, dstAt, List.getElem?_cons_zero, List.getElem?_cons_succ, Option.bind_some]
              go_wp2_with fail
              exact ⟨rfl, Below.refl _ _, rfl, rfl⟩
            | 2, _, hi =>
              obtain rfl := Option.some.inj hi
              simp only [relF, List.getD_cons_zero, List.getD_cons_succ, List.foldl_cons, List.foldl_nil, dstAt, List.getElem?_cons_zero, List.getElem?_cons_succ, Option.bind_some]
              go_wp2_with fail
              exact ⟨rfl, Below.refl _ _, rfl, rfl⟩
            | 3, _, hi =>
              obtain rfl := Option.some.inj hi
              simp only [relF, List.getD_cons_zero, List.getD_cons_succ, List.foldl_cons, List.foldl_nil, dstAt, List.getElem?_cons_zero, List.getElem?_cons_succ, Option.bind_some]
              go_wp2_with fail
              exact ⟨rfl, Below.refl _ _, rfl, rfl⟩
            | 4, _, hi =>
              obtain rfl := Option.some.inj hi
              simp only [relF, List.getD_cons_zero, List.getD_cons_succ, List.foldl_cons, List.foldl_nil, dstAt, List.getElem?_cons_zero, List.getElem?_cons_succ, Option.bind_some]
              go_wp2_with fail
              exact ⟨rfl, (Below.refl _ _).alloc (Nat.le_refl _) _, rfl, w2.heap.size, rfl⟩
            | 5, _, hi =>
              obtain rfl := Option.some.inj hi
              simp only [relF, List.getD_cons_zero, List.getD_cons_succ, List.foldl_cons, List.foldl_nil, dstAt, List.getElem?_cons_zero, List.getElem?_cons_succ, Option.bind_some]
              go_wp2_with fail
              exact ⟨rfl, Below.refl _ _, rfl, rfl⟩
            | 6, _, hi =>
              obtain rfl := Option.some.inj hi
              obtain ⟨g4, e4⟩ := hv 4 (by decide)
              have h5 : vs 5 = _ := hv 5 (by decide)
              obtain ⟨q, cc, W, hrun, hs, hbb⟩ := HashesAt.copy (HP.out.below (Nat.le_refl _) b2) (by omega) ⟨g4, 0, none⟩
              simp only [relF, List.getD_cons_zero, List.getD_cons_succ, List.foldl_cons, List.foldl_nil, dstAt, List.getElem?_cons_zero, List.getElem?_cons_succ, Option.bind_some]
              go_frame
              rw [e4, h5]
              go_wp2_with ((with_reducible show wpList _ _ _ (⟨some 43, _, _, _, _, _⟩ :: _) _ _); refine wpList_append_ran (by kernel_rfl) _ _ _ rfl _ _ rfl rfl hrun ?_)
              exact ⟨rfl, hbb, rfl, q, cc, rfl, hs⟩
            | 7, _, hi =>
              obtain rfl := Option.some.inj hi
              have h0 : vs 0 = _ := hv 0 (by decide)
              have h1 : vs 1 = _ := hv 1 (by decide)
              have h2 : vs 2 = _ := hv 2 (by decide)
              have h3 : vs 3 = _ := hv 3 (by decide)
              obtain ⟨q6, c6, e6, s6⟩ := hv 6 (by decide)
              have hrn := treeCheck_any w2 a HA.out n i (by omega) (by omega) l (by omega) _ _ _ P s6 hL2
              rw [HC1.out] at hrn
              simp only [relF, List.getD_cons_zero, List.getD_cons_succ, List.foldl_cons, List.foldl_nil, dstAt, List.getElem?_cons_zero, List.getElem?_cons_succ, Option.bind_some]
              go_frame
              rw [h0, h1, h2, h3, e6]
              go_wp2_with fail
              refine (hrn).mono ?_
              rintro e w3 ⟨rfl, b3⟩
              go_wp2_with fail
              exact ⟨rfl, b3, rfl, rfl⟩
            | 8, _, hi =>
              obtain rfl := Option.some.inj hi
              have h7 : vs 7 = _ := hv 7 (by decide)
              simp only [relF, List.getD_cons_zero, List.getD_cons_succ, List.foldl_cons, List.foldl_nil, dstAt, List.getElem?_cons_zero, List.getElem?_cons_succ, Option.bind_some]
              go_frame
              rw [h7]
              go_wp2_with fail
              exact ⟨rfl, Below.refl _ _, rfl, rfl⟩
            | nx + 9, him, _ => exact absurd him (by omega)
          · intro w2 b2 vs hv
            have hL2 := HL.out.below b2
            have h8 : vs 8 = _ := hv 8 (by decide)
            simp only [relF, List.drop_succ_cons, List.drop_zero, List.length_cons, List.length_nil, Nat.zero_add, Nat.reduceAdd, List.range, List.range.loop, List.foldl_cons, List.foldl_nil, dstAt, List.getElem?_cons_zero, List.getElem?_cons_succ, Option.bind_some]
            go_frame
            rw [h8]
            go_wp2_with fail
            go_ret
            exact ⟨rfl, b1.trans (b2.mono b1.size)⟩
      · have hbad := hb
        rw [rowsR_bad (l := l) (P := P) hb] at hra
        clear hb
        simp only [Bool.false_eq_true, if_false, if_true] at hra
        have HRA := Lib.hid hra; clear hra
        go_wp2_with ((with_reducible show wpList _ _ _ (⟨some 33, _, _, _, _, _⟩ :: _) _ _); refine wpList_append_ran (by kernel_rfl) _ _ _ rfl _ _ rfl rfl hrun2 ?_)
        refine HRA.out.mono ?_
        rintro e w3 ⟨q3, cx, k, rfl, s3, b3⟩
        have HX := Lib.hid s3; clear s3 HRA hrun2
        replace HP := Lib.hid (HP.out.below (Nat.le_refl _) b3)
        replace HL := Lib.hid (HL.out.below b3)
        replace X7 := Lib.hid ((b3.block _ (lt_of_block X7.out)).trans X7.out)
        replace b1 := b1.trans (b3.mono b1.size)
        go_wp2_with fail
        refine wp_region_rel [[], [], [], [], [], [], [4, 5], [0, 1, 2, 3, 6], [7]] (rootA w.heap.size n i mP cP oP l a P) 64 (by kernel_rfl) (by kernel_rfl) (by kernel_rfl) (rootA_mono w.heap.size n i mP cP oP l a P) ?_ ?_
        · intro ix op hi w2 b2 vs hv
          have him : ix < 9 := (List.getElem?_eq_some_iff.1 hi).1
          have hL2 := HL.out.below b2
          match ix, him, hi with
          | 0, _, hi =>
            obtain rfl := Option.some.inj hi
            simp only [relF, List.getD_cons_zero, List.getD_cons_succ, List.foldl_cons, List.foldl_nil, dstAt, List.getElem?_cons_zero, List.getElem?_cons_succ, Option.bind_some]
            go_wp2_with ((with_reducible show wpList _ _ _ (⟨some 37, _, _, _, _, _⟩ :: _) _ _); refine wpList_load_hash (op := ⟨some 37, _, _, _, _, _⟩) (by kernel_rfl) _ rfl w.heap.size rfl a HA.out _ _ ((b2.block _ (lt_of_block X7.out)).trans X7.out) ?_)
            exact ⟨rfl, Below.refl _ _, rfl, rfl⟩
          | 1, _, hi =>
            obtain rfl := Option.some.inj hi
            simp only [relF, List.getD_cons_zero, List.getD_cons_succ, List.foldl_cons, List.foldl_nil, dstAt, List.getElem?_cons_zero, List.getElem?_cons_succ, Option.bind_some]
            go_wp2_with fail
            exact ⟨rfl, Below.refl _ _, rfl, rfl⟩
          | 2, _, hi =>
            obtain rfl := Option.some.inj hi
            simp only [relF, List.getD_cons_zero, List.getD_cons_succ, List.foldl_cons, List.foldl_nil, dstAt, List.getElem?_cons_zero, List.getElem?_cons_succ, Option.bind_some]
            go_wp2_with fail
            exact ⟨rfl, Below.refl _ _, rfl, rfl⟩
          | 3, _, hi =>
            obtain rfl := Option.some.inj hi
            simp only [relF, List.getD_cons_zero, List.getD_cons_succ, List.foldl_cons, List.foldl_nil, dstAt, List.getElem?_cons_zero, List.getElem?_cons_succ, Option.bind_some]
            go_wp2_with fail
            exact ⟨rfl, Below.refl _ _, rfl, rfl⟩
          | 4, _, hi =>
            obtain rfl := Option.some.inj hi
            simp only [relF, List.getD_cons_zero, List.getD_cons_succ, List.foldl_cons, List.foldl_nil, dstAt, List.getElem?_cons_zero, List.getElem?_cons_succ, Option.bind_some]
            go_wp2_with fail
            exact ⟨rfl, (Below.refl _ _).alloc (Nat.le_refl _) _, rfl, w2.heap.size, rfl⟩
          | 5, _, hi =>
            obtain rfl := Option.some.inj hi
            simp only [relF, List.getD_cons_zero, List.getD_cons_succ, List.foldl_cons, List.foldl_nil, dstAt, List.getElem?_cons_zero, List.getElem?_cons_succ, Option.bind_some]
            go_wp2_with fail
            exact ⟨rfl, Below.refl _ _, rfl, rfl⟩
          | 6, _, hi =>
            obtain rfl := Option.some.inj hi
            obtain ⟨g4, e4⟩ := hv 4 (by decide)
            have h5 : vs 5 = _ := hv 5 (by decide)
            obtain ⟨q, cc, W, hrun, hs, hbb⟩ := HashesAt.copy (HP.out.below (Nat.le_refl _) b2) (by omega) ⟨g4, 0, none⟩
            simp only [relF, List.getD_cons_zero, List.getD_cons_succ, List.foldl_cons, List.foldl_nil, dstAt, List.getElem?_cons_zero, List.getElem?_cons_succ, Option.bind_some]
            go_frame
            rw [e4, h5]
            go_wp2_with ((with_reducible show wpList _ _ _ (⟨some 43, _, _, _, _, _⟩ :: _) _ _); refine wpList_append_ran (by kernel_rfl) _ _ _ rfl _ _ rfl rfl hrun ?_)
            exact ⟨rfl, hbb, rfl, q, cc, rfl, hs⟩
          | 7, _, hi =>
            obtain rfl := Option.some.inj hi
            have h0 : vs 0 = _ := hv 0 (by decide)
            have h1 : vs 1 = _ := hv 1 (by decide)
            have h2 : vs 2 = _ := hv 2 (by decide)
            have h3 : vs 3 = _ := hv 3 (by decide)
            obtain ⟨q6, c6, e6, s6⟩ := hv 6 (by decide)
            simp only [relF, List.getD_cons_zero, List.getD_cons_succ, List.foldl_cons, List.foldl_nil, dstAt, List.getElem?_cons_zero, List.getElem?_cons_succ, Option.bind_some]
            go_frame
            rw [h0, h1, h2, h3, e6]
            go_wp2_with fail
            refine (treeCheck_bad w2 a HA.out _ _ hbad _ _ _ _).mono ?_
            rintro e w3 ⟨rfl, b3⟩
            go_wp2_with fail
            exact ⟨rfl, b3, rfl, rfl⟩
          | 8, _, hi =>
            obtain rfl := Option.some.inj hi
            have h7 : vs 7 = _ := hv 7 (by decide)
            simp only [relF, List.getD_cons_zero, List.getD_cons_succ, List.foldl_cons, List.foldl_nil, dstAt, List.getElem?_cons_zero, List.getElem?_cons_succ, Option.bind_some]
            go_frame
            rw [h7]
            go_wp2_with fail
            exact ⟨rfl, Below.refl _ _, rfl, rfl⟩
          | nx + 9, him, _ => exact absurd him (by omega)
        · intro w2 b2 vs hv
          have hL2 := HL.out.below b2
          have h8 : vs 8 = _ := hv 8 (by decide)
          simp only [relF, List.drop_succ_cons, List.drop_zero, List.length_cons, List.length_nil, Nat.zero_add, Nat.reduceAdd, List.range, List.range.loop, List.foldl_cons, List.foldl_nil, dstAt, List.getElem?_cons_zero, List.getElem?_cons_succ, Option.bind_some]
          go_frame
          rw [h8]
          go_wp2_with fail
          go_ret
          exact ⟨rfl, b1.trans (b2.mono b1.size)⟩

theorem croot_law (w : World) (a : List UInt8) (ha : a.length = 32) (n : Int) (hn : (Lit.int .i64 n).wf = true) (i : Int) (hi : (Lit.int .i64 i).wf = true) (l : ByteArray) (hl : l.size ≤ 140737488351232) (oP : Option Addr) (mP cP : Nat) (P : List (List UInt8)) (hP : RowsAt w oP mP cP 32 byteCells P) (h32P : ∀ p ∈ P, p.length = 32) (hL : Laid w) :
    Calls Tryd.prog 8 #[.agg (byteCells a).toArray, .int .i64 n, .int .i64 i, .string l, .slice oP mP cP] w fun e w' => e = .returned (.bool true) ∧ Below w.heap.size w w' := by
  have h := croot_list w a ha n hn i hi l.data.toList (by rw [← strOf_size, strOf_data]; exact hl) oP mP cP P ⟨hP, h32P⟩ hL
  rwa [strOf_data] at h

end Go.Proofs.YteljlnkjdajkgaaDoor
