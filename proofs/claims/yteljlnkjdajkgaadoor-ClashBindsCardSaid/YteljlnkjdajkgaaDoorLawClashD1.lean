/- The walk of the law ClashBinds (first part). -/
import Derived.Test.YteljlnkjdajkgaaDoorLawClashC
namespace Go.Proofs.YteljlnkjdajkgaaDoor
open Go.RowKit
set_option linter.unusedSimpArgs false
set_option linter.unusedVariables false

theorem isC_true {x y : List UInt8} (h : isC x y = true) : x ≠ y ∧ Sha.of x = Sha.of y := by
  unfold isC at h
  rw [Bool.and_eq_true] at h
  refine ⟨fun e => ?_, beq_iff_eq.1 h.2⟩
  rw [e] at h
  simp at h

theorem badSide_false {n i : Nat} (h1 : i < n) (h2 : n ≤ 1073741824) : badSide (n : Int) (i : Int) = false := by
  unfold badSide
  simp only [Bool.or_eq_false_iff, decide_eq_false_iff_not]
  omega

theorem found_any {r : List UInt8} {n i : Nat} {l u : List UInt8} {P Q : List (List UInt8)} (h1 : i < n) (h2 : n ≤ 1073741824) (c1 : Tree.check r n i l P = true) (c2 : Tree.check r n i u Q = true) (hlu : l ≠ u) : (findR n i l P u Q).2.2 = true := by
  obtain ⟨s1, s2, hcl⟩ := Tree.clash_found c1 c2 hlu
  have hb := badSide_false h1 h2
  unfold findR
  rw [rowsR_ok hb s1, rowsR_ok hb s2]
  simp only [Bool.and_self, if_true]
  exact findC_clash hcl

/-- What the region's operations leave. -/
def cbindA (B : Nat) (n i : Int) (mP cP mQ cQ : Nat) (oP oQ : Option Addr) (l u r : List UInt8) (P Q : List (List UInt8)) (ix : Nat) (w : World) (v : Value) : Prop :=
  match ix with
  | 0 => v = .agg (byteCells r).toArray
  | 1 => v = .int .i64 (n)
  | 2 => v = .int .i64 (i)
  | 3 => v = .string (strOf l)
  | 4 => ∃ g : Nat, v = .slice (some ⟨g, 0, none⟩) 0 0
  | 5 => v = .slice oP mP cP
  | 6 => ∃ (q : Addr) (c : Nat), v = .slice (some q) mP c ∧ HashesAt w (some q) mP c P
  | 7 => v = .bool false
  | 8 => v = .bool true
  | 9 => v = .bool true
  | 10 => True
  | 11 => True
  | 12 => True
  | 13 => True
  | 14 => True
  | 15 => True
  | 16 => True
  | 17 => True
  | 18 => True
  | 19 => v = .bool true
  | 20 => v = .bool true
  | 21 => True
  | 22 => True
  | 23 => True
  | 24 => v = .bool true
  | _ => True

theorem cbindA_mono (B : Nat) (n i : Int) (mP cP mQ cQ : Nat) (oP oQ : Option Addr) (l u r : List UInt8) (P Q : List (List UInt8)) (jx : Nat) (w w' : World) (v : Value) (hb : Below w.heap.size w w') (h : cbindA B n i mP cP mQ cQ oP oQ l u r P Q jx w v) : cbindA B n i mP cP mQ cQ oP oQ l u r P Q jx w' v := by
  match jx, h with
  | 0, h => exact h
  | 1, h => exact h
  | 2, h => exact h
  | 3, h => exact h
  | 4, h => exact h
  | 5, h => exact h
  | 6, h => exact (let ⟨q, c, h1, h2⟩ := h; ⟨q, c, h1, h2.below (Nat.le_refl _) hb⟩)
  | 7, h => exact h
  | 8, h => exact h
  | 9, h => exact h
  | 10, h => exact trivial
  | 11, h => exact trivial
  | 12, h => exact trivial
  | 13, h => exact trivial
  | 14, h => exact trivial
  | 15, h => exact trivial
  | 16, h => exact trivial
  | 17, h => exact trivial
  | 18, h => exact trivial
  | 19, h => exact h
  | 20, h => exact h
  | 21, h => exact trivial
  | 22, h => exact trivial
  | 23, h => exact trivial
  | 24, h => exact h
  | _ + 25, h => exact trivial

/-- What the region's operations leave. -/
def cbindB (B n i mP cP mQ cQ : Nat) (oP oQ : Option Addr) (l u r : List UInt8) (P Q : List (List UInt8)) (ix : Nat) (w : World) (v : Value) : Prop :=
  match ix with
  | 0 => v = .agg (byteCells r).toArray
  | 1 => v = .int .i64 (n : Int)
  | 2 => v = .int .i64 (i : Int)
  | 3 => v = .string (strOf l)
  | 4 => ∃ g : Nat, v = .slice (some ⟨g, 0, none⟩) 0 0
  | 5 => v = .slice oP mP cP
  | 6 => ∃ (q : Addr) (c : Nat), v = .slice (some q) mP c ∧ HashesAt w (some q) mP c P
  | 7 => v = .bool false
  | 8 => v = .bool true
  | 9 => v = .bool true
  | 10 => True
  | 11 => True
  | 12 => True
  | 13 => True
  | 14 => True
  | 15 => True
  | 16 => True
  | 17 => True
  | 18 => True
  | 19 => v = .bool true
  | 20 => v = .bool true
  | 21 => True
  | 22 => True
  | 23 => True
  | 24 => v = .bool true
  | _ => True

theorem cbindB_mono (B n i mP cP mQ cQ : Nat) (oP oQ : Option Addr) (l u r : List UInt8) (P Q : List (List UInt8)) (jx : Nat) (w w' : World) (v : Value) (hb : Below w.heap.size w w') (h : cbindB B n i mP cP mQ cQ oP oQ l u r P Q jx w v) : cbindB B n i mP cP mQ cQ oP oQ l u r P Q jx w' v := by
  match jx, h with
  | 0, h => exact h
  | 1, h => exact h
  | 2, h => exact h
  | 3, h => exact h
  | 4, h => exact h
  | 5, h => exact h
  | 6, h => exact (let ⟨q, c, h1, h2⟩ := h; ⟨q, c, h1, h2.below (Nat.le_refl _) hb⟩)
  | 7, h => exact h
  | 8, h => exact h
  | 9, h => exact h
  | 10, h => exact trivial
  | 11, h => exact trivial
  | 12, h => exact trivial
  | 13, h => exact trivial
  | 14, h => exact trivial
  | 15, h => exact trivial
  | 16, h => exact trivial
  | 17, h => exact trivial
  | 18, h => exact trivial
  | 19, h => exact h
  | 20, h => exact h
  | 21, h => exact trivial
  | 22, h => exact trivial
  | 23, h => exact trivial
  | 24, h => exact h
  | _ + 25, h => exact trivial

/-- What the region's operations leave. -/
def cbindC (B n i mP cP mQ cQ : Nat) (oP oQ : Option Addr) (l u r : List UInt8) (P Q : List (List UInt8)) (ix : Nat) (w : World) (v : Value) : Prop :=
  match ix with
  | 0 => v = .agg (byteCells r).toArray
  | 1 => v = .int .i64 (n : Int)
  | 2 => v = .int .i64 (i : Int)
  | 3 => v = .string (strOf l)
  | 4 => ∃ g : Nat, v = .slice (some ⟨g, 0, none⟩) 0 0
  | 5 => v = .slice oP mP cP
  | 6 => ∃ (q : Addr) (c : Nat), v = .slice (some q) mP c ∧ HashesAt w (some q) mP c P
  | 7 => v = .bool true
  | 8 => v = .bool false
  | 9 => v = .bool false
  | 10 => v = .agg (byteCells r).toArray
  | 11 => v = .int .i64 (n : Int)
  | 12 => v = .int .i64 (i : Int)
  | 13 => v = .string (strOf u)
  | 14 => ∃ g : Nat, v = .slice (some ⟨g, 0, none⟩) 0 0
  | 15 => v = .slice oQ mQ cQ
  | 16 => ∃ (q : Addr) (c : Nat), v = .slice (some q) mQ c ∧ HashesAt w (some q) mQ c Q
  | 17 => v = .bool false
  | 18 => v = .bool true
  | 19 => v = .bool true
  | 20 => v = .bool true
  | 21 => True
  | 22 => True
  | 23 => True
  | 24 => v = .bool true
  | _ => True

theorem cbindC_mono (B n i mP cP mQ cQ : Nat) (oP oQ : Option Addr) (l u r : List UInt8) (P Q : List (List UInt8)) (jx : Nat) (w w' : World) (v : Value) (hb : Below w.heap.size w w') (h : cbindC B n i mP cP mQ cQ oP oQ l u r P Q jx w v) : cbindC B n i mP cP mQ cQ oP oQ l u r P Q jx w' v := by
  match jx, h with
  | 0, h => exact h
  | 1, h => exact h
  | 2, h => exact h
  | 3, h => exact h
  | 4, h => exact h
  | 5, h => exact h
  | 6, h => exact (let ⟨q, c, h1, h2⟩ := h; ⟨q, c, h1, h2.below (Nat.le_refl _) hb⟩)
  | 7, h => exact h
  | 8, h => exact h
  | 9, h => exact h
  | 10, h => exact h
  | 11, h => exact h
  | 12, h => exact h
  | 13, h => exact h
  | 14, h => exact h
  | 15, h => exact h
  | 16, h => exact (let ⟨q, c, h1, h2⟩ := h; ⟨q, c, h1, h2.below (Nat.le_refl _) hb⟩)
  | 17, h => exact h
  | 18, h => exact h
  | 19, h => exact h
  | 20, h => exact h
  | 21, h => exact trivial
  | 22, h => exact trivial
  | 23, h => exact trivial
  | 24, h => exact h
  | _ + 25, h => exact trivial

set_option maxRecDepth 100000 in
set_option maxHeartbeats 4000000 in
theorem cbinds_bad (w : World) (r : List UInt8) (hr : r.length = 32) (n : Int) (hn : (Lit.int .i64 n).wf = true) (i : Int) (hi : (Lit.int .i64 i).wf = true) (l : List UInt8) (hl : l.length ≤ 140737488351232) (u : List UInt8) (hu : u.length ≤ 140737488351232) (oP : Option Addr) (mP cP : Nat) (P : List (List UInt8)) (hP : HashesAt w oP mP cP P) (oQ : Option Addr) (mQ cQ : Nat) (Q : List (List UInt8)) (hQ : HashesAt w oQ mQ cQ Q) (hL : Laid w) (h200 : ¬ 200 < l.length) (h201 : ¬ 200 < u.length) (h40 : ¬ 40 < mP) (h41 : ¬ 40 < mQ) (hbad : badSide n i = true) :
    Calls Tryd.prog 6 #[.agg (byteCells r).toArray, .int .i64 n, .int .i64 i, .string (strOf l), .string (strOf u), .slice oP mP cP, .slice oQ mQ cQ] w fun e w' => e = .returned (.bool true) ∧ Below w.heap.size w w' := by
  have hstl := strOf_size l
  have hstu := strOf_size u
  have hmP : P.length = mP := hP.1.1
  have hcP : mP ≤ cP := hP.1.2.1
  have hxP : cP ≤ 9223372036854775807 := hP.1.2.2.1
  have HP := Lib.hid hP; clear hP
  have hmQ : Q.length = mQ := hQ.1.1
  have hcQ : mQ ≤ cQ := hQ.1.2.1
  have hxQ : cQ ≤ 9223372036854775807 := hQ.1.2.2.1
  have HQ := Lib.hid hQ; clear hQ
  have HL := Lib.hid hL; clear hL
  obtain ⟨W0, hW0⟩ : ∃ W0, W0 = w.alloc (.cells (byteCells r).toArray 39) := ⟨_, rfl⟩
  have x7 : W0.heap[w.heap.size]? = some (.cells (byteCells r).toArray 39 (0, 0)) := by rw [hW0]; exact heap_alloc_new w _
  have b0 : Below w.heap.size w W0 := by rw [hW0]; exact (Below.refl _ _).alloc (Nat.le_refl _) _
  replace HL := Lib.hid (HL.out.below b0)
  replace HP := Lib.hid (HP.out.below (Nat.le_refl _) b0)
  replace HQ := Lib.hid (HQ.out.below (Nat.le_refl _) b0)
  have X7 := Lib.hid x7; clear x7
  have HW0 := Lib.hid hW0; clear hW0
  have HA := Lib.hid hr; clear hr
  go_enter Tryd.func6, Tryd.ntmps6
  go_wp2_with fail
  rw [← HW0.out]
  refine (awake_any _ HL.out).mono ?_
  rintro e w1 ⟨rfl, b1⟩
  replace HP := Lib.hid (HP.out.below (Nat.le_refl _) b1)
  replace HQ := Lib.hid (HQ.out.below (Nat.le_refl _) b1)
  replace HL := Lib.hid (HL.out.below b1)
  replace X7 := Lib.hid ((b1.block _ (lt_of_block X7.out)).trans X7.out)
  replace b1 := b0.trans (b1.mono b0.size)
  clear b0
  have ht : decide ((200 : Int) < (l.length : Int)) = false := decide_eq_false (by omega)
  have ht2 : decide ((200 : Int) < (u.length : Int)) = false := decide_eq_false (by omega)
  have ht3 : decide ((40 : Int) < (mP : Int)) = false := decide_eq_false (by omega)
  have ht4 : decide ((40 : Int) < (mQ : Int)) = false := decide_eq_false (by omega)
  go_wp2_with fail
  refine wp_region_rel [[], [], [], [], [], [], [4, 5], [0, 1, 2, 3, 6], [7], [8], [9], [9], [9], [9], [9], [9], [9, 14, 15], [9, 10, 11, 12, 13, 16], [9, 17], [9, 18], [19], [20], [20], [20, 21, 22], [20, 23]] (cbindA w.heap.size n i mP cP mQ cQ oP oQ l u r P Q) 98 (by kernel_rfl) (by kernel_rfl) (by kernel_rfl) (cbindA_mono w.heap.size n i mP cP mQ cQ oP oQ l u r P Q) ?_ ?_
  · intro ix op hi w2 b2 vs hv
    have him : ix < 25 := (List.getElem?_eq_some_iff.1 hi).1
    have hL2 := HL.out.below b2
    match ix, him, hi with
    | 0, _, hi =>
      obtain rfl := Option.some.inj hi
      simp only [relF, List.getD_cons_zero, List.getD_cons_succ, List.foldl_cons, List.foldl_nil, dstAt, List.getElem?_cons_zero, List.getElem?_cons_succ, Option.bind_some]
      go_wp2_with ((with_reducible show wpList _ _ _ (⟨some 41, _, _, _, _, _⟩ :: _) _ _); refine wpList_load_hash (op := ⟨some 41, _, _, _, _, _⟩) (by kernel_rfl) _ rfl w.heap.size rfl r HA.out _ _ ((b2.block _ (lt_of_block X7.out)).trans X7.out) ?_)
      exact ⟨rfl, Below.refl _ _, rfl, rfl⟩
    | 1, _, hi =>
      obtain rfl := Option.some.inj hi
      simp only [relF, List.getD_cons_zero, List.getD_cons_succ, List.foldl_cons, List.foldl_nil, dstAt, List.getElem?_cons_zero, List.getElem?_cons_succ, Option.bind_some]
      go_wp2_with fail
      exact ⟨rfl, Below.refl _ _, rfl, rfl⟩
    | 2, _, hi =>
      obtain rfl := Option.some.inj hi
      simp only [relF, List.getD_cons_zero, List.getD_cons_succ, List.foldl_cons, List.foldl_nil, dstAt, List.getElem?_cons_zero, List.getElem?_cons_succ, Option.bind_some]
      go_wp2_with fail
      exact ⟨rfl, Below.refl _ _, rfl, rfl⟩
    | 3, _, hi =>
      obtain rfl := Option.some.inj hi
      simp only [relF, List.getD_cons_zero, List.getD_cons_succ, List.foldl_cons, List.foldl_nil, dstAt, List.getElem?_cons_zero, List.getElem?_cons_succ, Option.bind_some]
      go_wp2_with fail
      exact ⟨rfl, Below.refl _ _, rfl, rfl⟩
    | 4, _, hi =>
      obtain rfl := Option.some.inj hi
      simp only [relF, List.getD_cons_zero, List.getD_cons_succ, List.foldl_cons, List.foldl_nil, dstAt, List.getElem?_cons_zero, List.getElem?_cons_succ, Option.bind_some]
      go_wp2_with fail
      exact ⟨rfl, (Below.refl _ _).alloc (Nat.le_refl _) _, rfl, w2.heap.size, rfl⟩
    | 5, _, hi =>
      obtain rfl := Option.some.inj hi
      simp only [relF, List.getD_cons_zero, List.getD_cons_succ, List.foldl_cons, List.foldl_nil, dstAt, List.getElem?_cons_zero, List.getElem?_cons_succ, Option.bind_some]
      go_wp2_with fail
      exact ⟨rfl, Below.refl _ _, rfl, rfl⟩
    | 6, _, hi =>
      obtain rfl := Option.some.inj hi
      obtain ⟨g4, e4⟩ := hv 4 (by decide)
      have h5 : vs 5 = _ := hv 5 (by decide)
      obtain ⟨q, cc, W, hrun, hs, hbb⟩ := HashesAt.copy (HP.out.below (Nat.le_refl _) b2) (by omega) ⟨g4, 0, none⟩
      simp only [relF, List.getD_cons_zero, List.getD_cons_succ, List.foldl_cons, List.foldl_nil, dstAt, List.getElem?_cons_zero, List.getElem?_cons_succ, Option.bind_some]
      go_frame
      rw [e4, h5]
      go_wp2_with ((with_reducible show wpList _ _ _ (⟨some 47, _, _, _, _, _⟩ :: _) _ _); refine wpList_append_ran (by kernel_rfl) _ _ _ rfl _ _ rfl rfl hrun ?_)
      exact ⟨rfl, hbb, rfl, q, cc, rfl, hs⟩
    | 7, _, hi =>
      obtain rfl := Option.some.inj hi
      have h0 : vs 0 = _ := hv 0 (by decide)
      have h1 : vs 1 = _ := hv 1 (by decide)
      have h2 : vs 2 = _ := hv 2 (by decide)
      have h3 : vs 3 = _ := hv 3 (by decide)
      obtain ⟨q6, c6, e6, s6⟩ := hv 6 (by decide)
      simp only [relF, List.getD_cons_zero, List.getD_cons_succ, List.foldl_cons, List.foldl_nil, dstAt, List.getElem?_cons_zero, List.getElem?_cons_succ, Option.bind_some]
      go_frame
      rw [h0, h1, h2, h3, e6]
      go_wp2_with fail
      refine (treeCheck_bad w2 r HA.out _ _ hbad _ _ _ _).mono ?_
      rintro e w3 ⟨rfl, b3⟩
      go_wp2_with fail
      exact ⟨rfl, b3, rfl, rfl⟩
    | 8, _, hi =>
      obtain rfl := Option.some.inj hi
      have h7 : vs 7 = _ := hv 7 (by decide)
      simp only [relF, List.getD_cons_zero, List.getD_cons_succ, List.foldl_cons, List.foldl_nil, dstAt, List.getElem?_cons_zero, List.getElem?_cons_succ, Option.bind_some]
      go_frame
      rw [h7]
      go_wp2_with fail
      exact ⟨rfl, Below.refl _ _, rfl, rfl⟩
    | 9, _, hi =>
      obtain rfl := Option.some.inj hi
      have h8 : vs 8 = _ := hv 8 (by decide)
      simp only [relF, List.getD_cons_zero, List.getD_cons_succ, List.foldl_cons, List.foldl_nil, dstAt, List.getElem?_cons_zero, List.getElem?_cons_succ, Option.bind_some]
      go_frame
      rw [h8]
      go_wp2_with fail
      exact ⟨rfl, Below.refl _ _, rfl, rfl⟩
    | 10, _, hi =>
      obtain rfl := Option.some.inj hi
      have h9 : vs 9 = _ := hv 9 (by decide)
      simp only [relF, List.getD_cons_zero, List.getD_cons_succ, List.foldl_cons, List.foldl_nil, dstAt, List.getElem?_cons_zero, List.getElem?_cons_succ, Option.bind_some]
      go_frame
      rw [h9]
      go_wp2_with fail
      exact ⟨rfl, Below.refl _ _, rfl, trivial⟩
    | 11, _, hi =>
      obtain rfl := Option.some.inj hi
      have h9 : vs 9 = _ := hv 9 (by decide)
      simp only [relF, List.getD_cons_zero, List.getD_cons_succ, List.foldl_cons, List.foldl_nil, dstAt, List.getElem?_cons_zero, List.getElem?_cons_succ, Option.bind_some]
      go_frame
      rw [h9]
      go_wp2_with fail
      exact ⟨rfl, Below.refl _ _, rfl, trivial⟩
    | 12, _, hi =>
      obtain rfl := Option.some.inj hi
      have h9 : vs 9 = _ := hv 9 (by decide)
      simp only [relF, List.getD_cons_zero, List.getD_cons_succ, List.foldl_cons, List.foldl_nil, dstAt, List.getElem?_cons_zero, List.getElem?_cons_succ, Option.bind_some]
      go_frame
      rw [h9]
      go_wp2_with fail
      exact ⟨rfl, Below.refl _ _, rfl, trivial⟩
    | 13, _, hi =>
      obtain rfl := Option.some.inj hi
      have h9 : vs 9 = _ := hv 9 (by decide)
      simp only [relF, List.getD_cons_zero, List.getD_cons_succ, List.foldl_cons, List.foldl_nil, dstAt, List.getElem?_cons_zero, List.getElem?_cons_succ, Option.bind_some]
      go_frame
      rw [h9]
      go_wp2_with fail
      exact ⟨rfl, Below.refl _ _, rfl, trivial⟩
    | 14, _, hi =>
      obtain rfl := Option.some.inj hi
      have h9 : vs 9 = _ := hv 9 (by decide)
      simp only [relF, List.getD_cons_zero, List.getD_cons_succ, List.foldl_cons, List.foldl_nil, dstAt, List.getElem?_cons_zero, List.getElem?_cons_succ, Option.bind_some]
      go_frame
      rw [h9]
      go_wp2_with fail
      exact ⟨rfl, Below.refl _ _, rfl, trivial⟩
    | 15, _, hi =>
      obtain rfl := Option.some.inj hi
      have h9 : vs 9 = _ := hv 9 (by decide)
      simp only [relF, List.getD_cons_zero, List.getD_cons_succ, List.foldl_cons, List.foldl_nil, dstAt, List.getElem?_cons_zero, List.getElem?_cons_succ, Option.bind_some]
      go_frame
      rw [h9]
      go_wp2_with fail
      exact ⟨rfl, Below.refl _ _, rfl, trivial⟩
    | 16, _, hi =>
      obtain rfl := Option.some.inj hi
      have h9 : vs 9 = _ := hv 9 (by decide)
      simp only [relF, List.getD_cons_zero, List.getD_cons_succ, List.foldl_cons, List.foldl_nil, dstAt, List.getElem?_cons_zero, List.getElem?_cons_succ, Option.bind_some]
      go_frame
      rw [h9]
      go_wp2_with fail
      exact ⟨rfl, Below.refl _ _, rfl, trivial⟩
    | 17, _, hi =>
      obtain rfl := Option.some.inj hi
      have h9 : vs 9 = _ := hv 9 (by decide)
      simp only [relF, List.getD_cons_zero, List.getD_cons_succ, List.foldl_cons, List.foldl_nil, dstAt, List.getElem?_cons_zero, List.getElem?_cons_succ, Option.bind_some]
      go_frame
      rw [h9]
      go_wp2_with fail
      exact ⟨rfl, Below.refl _ _, rfl, trivial⟩
    | 18, _, hi =>
      obtain rfl := Option.some.inj hi
      have h9 : vs 9 = _ := hv 9 (by decide)
      simp only [relF, List.getD_cons_zero, List.getD_cons_succ, List.foldl_cons, List.foldl_nil, dstAt, List.getElem?_cons_zero, List.getElem?_cons_succ, Option.bind_some]
      go_frame
      rw [h9]
      go_wp2_with fail
      exact ⟨rfl, Below.refl _ _, rfl, trivial⟩
    | 19, _, hi =>
      obtain rfl := Option.some.inj hi
      have h9 : vs 9 = _ := hv 9 (by decide)
      simp only [relF, List.getD_cons_zero, List.getD_cons_succ, List.foldl_cons, List.foldl_nil, dstAt, List.getElem?_cons_zero, List.getElem?_cons_succ, Option.bind_some]
      go_frame
      rw [h9]
      go_wp2_with fail
      exact ⟨rfl, Below.refl _ _, rfl, rfl⟩
    | 20, _, hi =>
      obtain rfl := Option.some.inj hi
      have h19 : vs 19 = _ := hv 19 (by decide)
      simp only [relF, List.getD_cons_zero, List.getD_cons_succ, List.foldl_cons, List.foldl_nil, dstAt, List.getElem?_cons_zero, List.getElem?_cons_succ, Option.bind_some]
      go_frame
      rw [h19]
      go_wp2_with fail
      exact ⟨rfl, Below.refl _ _, rfl, rfl⟩
    | 21, _, hi =>
      obtain rfl := Option.some.inj hi
      have h20 : vs 20 = _ := hv 20 (by decide)
      simp only [relF, List.getD_cons_zero, List.getD_cons_succ, List.foldl_cons, List.foldl_nil, dstAt, List.getElem?_cons_zero, List.getElem?_cons_succ, Option.bind_some]
      go_frame
      rw [h20]
      go_wp2_with fail
      exact ⟨rfl, Below.refl _ _, rfl, trivial⟩
    | 22, _, hi =>
      obtain rfl := Option.some.inj hi
      have h20 : vs 20 = _ := hv 20 (by decide)
      simp only [relF, List.getD_cons_zero, List.getD_cons_succ, List.foldl_cons, List.foldl_nil, dstAt, List.getElem?_cons_zero, List.getElem?_cons_succ, Option.bind_some]
      go_frame
      rw [h20]
      go_wp2_with fail
      exact ⟨rfl, Below.refl _ _, rfl, trivial⟩
    | 23, _, hi =>
      obtain rfl := Option.some.inj hi
      have h20 : vs 20 = _ := hv 20 (by decide)
      simp only [relF, List.getD_cons_zero, List.getD_cons_succ, List.foldl_cons, List.foldl_nil, dstAt, List.getElem?_cons_zero, List.getElem?_cons_succ, Option.bind_some]
      go_frame
      rw [h20]
      go_wp2_with fail
      exact ⟨rfl, Below.refl _ _, rfl, trivial⟩
    | 24, _, hi =>
      obtain rfl := Option.some.inj hi
      have h20 : vs 20 = _ := hv 20 (by decide)
      simp only [relF, List.getD_cons_zero, List.getD_cons_succ, List.foldl_cons, List.foldl_nil, dstAt, List.getElem?_cons_zero, List.getElem?_cons_succ, Option.bind_some]
      go_frame
      rw [h20]
      go_wp2_with fail
      exact ⟨rfl, Below.refl _ _, rfl, rfl⟩
    | nx + 25, him, _ => exact absurd him (by omega)
  · intro w2 b2 vs hv
    have hL2 := HL.out.below b2
    have h24 : vs 24 = _ := hv 24 (by decide)
    simp only [relF, List.drop_succ_cons, List.drop_zero, List.length_cons, List.length_nil, Nat.zero_add, Nat.reduceAdd, List.range, List.range.loop, List.foldl_cons, List.foldl_nil, dstAt, List.getElem?_cons_zero, List.getElem?_cons_succ, Option.bind_some]
    go_frame
    rw [h24]
    go_wp2_with fail
    go_ret
    exact ⟨rfl, b1.trans (b2.mono b1.size)⟩

set_option maxRecDepth 100000 in
set_option maxHeartbeats 4000000 in
theorem cbinds_one (w : World) (r : List UInt8) (hr : r.length = 32) (n i : Nat) (hin : i < n) (hn30 : n ≤ 1073741824) (l : List UInt8) (hl : l.length ≤ 140737488351232) (u : List UInt8) (hu : u.length ≤ 140737488351232) (oP : Option Addr) (mP cP : Nat) (P : List (List UInt8)) (hP : HashesAt w oP mP cP P) (oQ : Option Addr) (mQ cQ : Nat) (Q : List (List UInt8)) (hQ : HashesAt w oQ mQ cQ Q) (hL : Laid w) (h200 : ¬ 200 < l.length) (h201 : ¬ 200 < u.length) (h40 : ¬ 40 < mP) (h41 : ¬ 40 < mQ) (hc1 : Tree.check r n i l P = false) :
    Calls Tryd.prog 6 #[.agg (byteCells r).toArray, .int .i64 (n : Int), .int .i64 (i : Int), .string (strOf l), .string (strOf u), .slice oP mP cP, .slice oQ mQ cQ] w fun e w' => e = .returned (.bool true) ∧ Below w.heap.size w w' := by
  have hstl := strOf_size l
  have hstu := strOf_size u
  have hmP : P.length = mP := hP.1.1
  have hcP : mP ≤ cP := hP.1.2.1
  have hxP : cP ≤ 9223372036854775807 := hP.1.2.2.1
  have HP := Lib.hid hP; clear hP
  have hmQ : Q.length = mQ := hQ.1.1
  have hcQ : mQ ≤ cQ := hQ.1.2.1
  have hxQ : cQ ≤ 9223372036854775807 := hQ.1.2.2.1
  have HQ := Lib.hid hQ; clear hQ
  have HL := Lib.hid hL; clear hL
  have HC1 := Lib.hid hc1; clear hc1
  obtain ⟨W0, hW0⟩ : ∃ W0, W0 = w.alloc (.cells (byteCells r).toArray 39) := ⟨_, rfl⟩
  have x7 : W0.heap[w.heap.size]? = some (.cells (byteCells r).toArray 39 (0, 0)) := by rw [hW0]; exact heap_alloc_new w _
  have b0 : Below w.heap.size w W0 := by rw [hW0]; exact (Below.refl _ _).alloc (Nat.le_refl _) _
  replace HL := Lib.hid (HL.out.below b0)
  replace HP := Lib.hid (HP.out.below (Nat.le_refl _) b0)
  replace HQ := Lib.hid (HQ.out.below (Nat.le_refl _) b0)
  have X7 := Lib.hid x7; clear x7
  have HW0 := Lib.hid hW0; clear hW0
  have HA := Lib.hid hr; clear hr
  go_enter Tryd.func6, Tryd.ntmps6
  go_wp2_with fail
  rw [← HW0.out]
  refine (awake_any _ HL.out).mono ?_
  rintro e w1 ⟨rfl, b1⟩
  replace HP := Lib.hid (HP.out.below (Nat.le_refl _) b1)
  replace HQ := Lib.hid (HQ.out.below (Nat.le_refl _) b1)
  replace HL := Lib.hid (HL.out.below b1)
  replace X7 := Lib.hid ((b1.block _ (lt_of_block X7.out)).trans X7.out)
  replace b1 := b0.trans (b1.mono b0.size)
  clear b0
  have ht : decide ((200 : Int) < (l.length : Int)) = false := decide_eq_false (by omega)
  have ht2 : decide ((200 : Int) < (u.length : Int)) = false := decide_eq_false (by omega)
  have ht3 : decide ((40 : Int) < (mP : Int)) = false := decide_eq_false (by omega)
  have ht4 : decide ((40 : Int) < (mQ : Int)) = false := decide_eq_false (by omega)
  go_wp2_with fail
  refine wp_region_rel [[], [], [], [], [], [], [4, 5], [0, 1, 2, 3, 6], [7], [8], [9], [9], [9], [9], [9], [9], [9, 14, 15], [9, 10, 11, 12, 13, 16], [9, 17], [9, 18], [19], [20], [20], [20, 21, 22], [20, 23]] (cbindB w.heap.size n i mP cP mQ cQ oP oQ l u r P Q) 98 (by kernel_rfl) (by kernel_rfl) (by kernel_rfl) (cbindB_mono w.heap.size n i mP cP mQ cQ oP oQ l u r P Q) ?_ ?_
  · intro ix op hi w2 b2 vs hv
    have him : ix < 25 := (List.getElem?_eq_some_iff.1 hi).1
    have hL2 := HL.out.below b2
    match ix, him, hi with
    | 0, _, hi =>
      obtain rfl := Option.some.inj hi
      simp only [relF, List.getD_cons_zero, List.getD_cons_succ, List.foldl_cons, List.foldl_nil, dstAt, List.getElem?_cons_zero, List.getElem?_cons_succ, Option.bind_some]
      go_wp2_with ((with_reducible show wpList _ _ _ (⟨some 41, _, _, _, _, _⟩ :: _) _ _); refine wpList_load_hash (op := ⟨some 41, _, _, _, _, _⟩) (by kernel_rfl) _ rfl w.heap.size rfl r HA.out _ _ ((b2.block _ (lt_of_block X7.out)).trans X7.out) ?_)
      exact ⟨rfl, Below.refl _ _, rfl, rfl⟩
    | 1, _, hi =>
      obtain rfl := Option.some.inj hi
      simp only [relF, List.getD_cons_zero, List.getD_cons_succ, List.foldl_cons, List.foldl_nil, dstAt, List.getElem?_cons_zero, List.getElem?_cons_succ, Option.bind_some]
      go_wp2_with fail
      exact ⟨rfl, Below.refl _ _, rfl, rfl⟩
    | 2, _, hi =>
      obtain rfl := Option.some.inj hi
      simp only [relF, List.getD_cons_zero, List.getD_cons_succ, List.foldl_cons, List.foldl_nil, dstAt, List.getElem?_cons_zero, List.getElem?_cons_succ, Option.bind_some]
      go_wp2_with fail
      exact ⟨rfl, Below.refl _ _, rfl, rfl⟩
    | 3, _, hi =>
      obtain rfl := Option.some.inj hi
      simp only [relF, List.getD_cons_zero, List.getD_cons_succ, List.foldl_cons, List.foldl_nil, dstAt, List.getElem?_cons_zero, List.getElem?_cons_succ, Option.bind_some]
      go_wp2_with fail
      exact ⟨rfl, Below.refl _ _, rfl, rfl⟩
    | 4, _, hi =>
      obtain rfl := Option.some.inj hi
      simp only [relF, List.getD_cons_zero, List.getD_cons_succ, List.foldl_cons, List.foldl_nil, dstAt, List.getElem?_cons_zero, List.getElem?_cons_succ, Option.bind_some]
      go_wp2_with fail
      exact ⟨rfl, (Below.refl _ _).alloc (Nat.le_refl _) _, rfl, w2.heap.size, rfl⟩
    | 5, _, hi =>
      obtain rfl := Option.some.inj hi
      simp only [relF, List.getD_cons_zero, List.getD_cons_succ, List.foldl_cons, List.foldl_nil, dstAt, List.getElem?_cons_zero, List.getElem?_cons_succ, Option.bind_some]
      go_wp2_with fail
      exact ⟨rfl, Below.refl _ _, rfl, rfl⟩
    | 6, _, hi =>
      obtain rfl := Option.some.inj hi
      obtain ⟨g4, e4⟩ := hv 4 (by decide)
      have h5 : vs 5 = _ := hv 5 (by decide)
      obtain ⟨q, cc, W, hrun, hs, hbb⟩ := HashesAt.copy (HP.out.below (Nat.le_refl _) b2) (by omega) ⟨g4, 0, none⟩
      simp only [relF, List.getD_cons_zero, List.getD_cons_succ, List.foldl_cons, List.foldl_nil, dstAt, List.getElem?_cons_zero, List.getElem?_cons_succ, Option.bind_some]
      go_frame
      rw [e4, h5]
      go_wp2_with ((with_reducible show wpList _ _ _ (⟨some 47, _, _, _, _, _⟩ :: _) _ _); refine wpList_append_ran (by kernel_rfl) _ _ _ rfl _ _ rfl rfl hrun ?_)
      exact ⟨rfl, hbb, rfl, q, cc, rfl, hs⟩
    | 7, _, hi =>
      obtain rfl := Option.some.inj hi
      have h0 : vs 0 = _ := hv 0 (by decide)
      have h1 : vs 1 = _ := hv 1 (by decide)
      have h2 : vs 2 = _ := hv 2 (by decide)
      have h3 : vs 3 = _ := hv 3 (by decide)
      obtain ⟨q6, c6, e6, s6⟩ := hv 6 (by decide)
      have hrn := treeCheck_any w2 r HA.out n i (by omega) (by omega) l (by omega) _ _ _ P s6 hL2
      rw [HC1.out] at hrn
      simp only [relF, List.getD_cons_zero, List.getD_cons_succ, List.foldl_cons, List.foldl_nil, dstAt, List.getElem?_cons_zero, List.getElem?_cons_succ, Option.bind_some]
      go_frame
      rw [h0, h1, h2, h3, e6]
      go_wp2_with fail
      refine (hrn).mono ?_
      rintro e w3 ⟨rfl, b3⟩
      go_wp2_with fail
      exact ⟨rfl, b3, rfl, rfl⟩
    | 8, _, hi =>
      obtain rfl := Option.some.inj hi
      have h7 : vs 7 = _ := hv 7 (by decide)
      simp only [relF, List.getD_cons_zero, List.getD_cons_succ, List.foldl_cons, List.foldl_nil, dstAt, List.getElem?_cons_zero, List.getElem?_cons_succ, Option.bind_some]
      go_frame
      rw [h7]
      go_wp2_with fail
      exact ⟨rfl, Below.refl _ _, rfl, rfl⟩
    | 9, _, hi =>
      obtain rfl := Option.some.inj hi
      have h8 : vs 8 = _ := hv 8 (by decide)
      simp only [relF, List.getD_cons_zero, List.getD_cons_succ, List.foldl_cons, List.foldl_nil, dstAt, List.getElem?_cons_zero, List.getElem?_cons_succ, Option.bind_some]
      go_frame
      rw [h8]
      go_wp2_with fail
      exact ⟨rfl, Below.refl _ _, rfl, rfl⟩
    | 10, _, hi =>
      obtain rfl := Option.some.inj hi
      have h9 : vs 9 = _ := hv 9 (by decide)
      simp only [relF, List.getD_cons_zero, List.getD_cons_succ, List.foldl_cons, List.foldl_nil, dstAt, List.getElem?_cons_zero, List.getElem?_cons_succ, Option.bind_some]
      go_frame
      rw [h9]
      go_wp2_with fail
      exact ⟨rfl, Below.refl _ _, rfl, trivial⟩
    | 11, _, hi =>
      obtain rfl := Option.some.inj hi
      have h9 : vs 9 = _ := hv 9 (by decide)
      simp only [relF, List.getD_cons_zero, List.getD_cons_succ, List.foldl_cons, List.foldl_nil, dstAt, List.getElem?_cons_zero, List.getElem?_cons_succ, Option.bind_some]
      go_frame
      rw [h9]
      go_wp2_with fail
      exact ⟨rfl, Below.refl _ _, rfl, trivial⟩
    | 12, _, hi =>
      obtain rfl := Option.some.inj hi
      have h9 : vs 9 = _ := hv 9 (by decide)
      simp only [relF, List.getD_cons_zero, List.getD_cons_succ, List.foldl_cons, List.foldl_nil, dstAt, List.getElem?_cons_zero, List.getElem?_cons_succ, Option.bind_some]
      go_frame
      rw [h9]
      go_wp2_with fail
      exact ⟨rfl, Below.refl _ _, rfl, trivial⟩
    | 13, _, hi =>
      obtain rfl := Option.some.inj hi
      have h9 : vs 9 = _ := hv 9 (by decide)
      simp only [relF, List.getD_cons_zero, List.getD_cons_succ, List.foldl_cons, List.foldl_nil, dstAt, List.getElem?_cons_zero, List.getElem?_cons_succ, Option.bind_some]
      go_frame
      rw [h9]
      go_wp2_with fail
      exact ⟨rfl, Below.refl _ _, rfl, trivial⟩
    | 14, _, hi =>
      obtain rfl := Option.some.inj hi
      have h9 : vs 9 = _ := hv 9 (by decide)
      simp only [relF, List.getD_cons_zero, List.getD_cons_succ, List.foldl_cons, List.foldl_nil, dstAt, List.getElem?_cons_zero, List.getElem?_cons_succ, Option.bind_some]
      go_frame
      rw [h9]
      go_wp2_with fail
      exact ⟨rfl, Below.refl _ _, rfl, trivial⟩
    | 15, _, hi =>
      obtain rfl := Option.some.inj hi
      have h9 : vs 9 = _ := hv 9 (by decide)
      simp only [relF, List.getD_cons_zero, List.getD_cons_succ, List.foldl_cons, List.foldl_nil, dstAt, List.getElem?_cons_zero, List.getElem?_cons_succ, Option.bind_some]
      go_frame
      rw [h9]
      go_wp2_with fail
      exact ⟨rfl, Below.refl _ _, rfl, trivial⟩
    | 16, _, hi =>
      obtain rfl := Option.some.inj hi
      have h9 : vs 9 = _ := hv 9 (by decide)
      simp only [relF, List.getD_cons_zero, List.getD_cons_succ, List.foldl_cons, List.foldl_nil, dstAt, List.getElem?_cons_zero, List.getElem?_cons_succ, Option.bind_some]
      go_frame
      rw [h9]
      go_wp2_with fail
      exact ⟨rfl, Below.refl _ _, rfl, trivial⟩
    | 17, _, hi =>
      obtain rfl := Option.some.inj hi
      have h9 : vs 9 = _ := hv 9 (by decide)
      simp only [relF, List.getD_cons_zero, List.getD_cons_succ, List.foldl_cons, List.foldl_nil, dstAt, List.getElem?_cons_zero, List.getElem?_cons_succ, Option.bind_some]
      go_frame
      rw [h9]
      go_wp2_with fail
      exact ⟨rfl, Below.refl _ _, rfl, trivial⟩
    | 18, _, hi =>
      obtain rfl := Option.some.inj hi
      have h9 : vs 9 = _ := hv 9 (by decide)
      simp only [relF, List.getD_cons_zero, List.getD_cons_succ, List.foldl_cons, List.foldl_nil, dstAt, List.getElem?_cons_zero, List.getElem?_cons_succ, Option.bind_some]
      go_frame
      rw [h9]
      go_wp2_with fail
      exact ⟨rfl, Below.refl _ _, rfl, trivial⟩
    | 19, _, hi =>
      obtain rfl := Option.some.inj hi
      have h9 : vs 9 = _ := hv 9 (by decide)
      simp only [relF, List.getD_cons_zero, List.getD_cons_succ, List.foldl_cons, List.foldl_nil, dstAt, List.getElem?_cons_zero, List.getElem?_cons_succ, Option.bind_some]
      go_frame
      rw [h9]
      go_wp2_with fail
      exact ⟨rfl, Below.refl _ _, rfl, rfl⟩
    | 20, _, hi =>
      obtain rfl := Option.some.inj hi
      have h19 : vs 19 = _ := hv 19 (by decide)
      simp only [relF, List.getD_cons_zero, List.getD_cons_succ, List.foldl_cons, List.foldl_nil, dstAt, List.getElem?_cons_zero, List.getElem?_cons_succ, Option.bind_some]
      go_frame
      rw [h19]
      go_wp2_with fail
      exact ⟨rfl, Below.refl _ _, rfl, rfl⟩
    | 21, _, hi =>
      obtain rfl := Option.some.inj hi
      have h20 : vs 20 = _ := hv 20 (by decide)
      simp only [relF, List.getD_cons_zero, List.getD_cons_succ, List.foldl_cons, List.foldl_nil, dstAt, List.getElem?_cons_zero, List.getElem?_cons_succ, Option.bind_some]
      go_frame
      rw [h20]
      go_wp2_with fail
      exact ⟨rfl, Below.refl _ _, rfl, trivial⟩
    | 22, _, hi =>
      obtain rfl := Option.some.inj hi
      have h20 : vs 20 = _ := hv 20 (by decide)
      simp only [relF, List.getD_cons_zero, List.getD_cons_succ, List.foldl_cons, List.foldl_nil, dstAt, List.getElem?_cons_zero, List.getElem?_cons_succ, Option.bind_some]
      go_frame
      rw [h20]
      go_wp2_with fail
      exact ⟨rfl, Below.refl _ _, rfl, trivial⟩
    | 23, _, hi =>
      obtain rfl := Option.some.inj hi
      have h20 : vs 20 = _ := hv 20 (by decide)
      simp only [relF, List.getD_cons_zero, List.getD_cons_succ, List.foldl_cons, List.foldl_nil, dstAt, List.getElem?_cons_zero, List.getElem?_cons_succ, Option.bind_some]
      go_frame
      rw [h20]
      go_wp2_with fail
      exact ⟨rfl, Below.refl _ _, rfl, trivial⟩
    | 24, _, hi =>
      obtain rfl := Option.some.inj hi
      have h20 : vs 20 = _ := hv 20 (by decide)
      simp only [relF, List.getD_cons_zero, List.getD_cons_succ, List.foldl_cons, List.foldl_nil, dstAt, List.getElem?_cons_zero, List.getElem?_cons_succ, Option.bind_some]
      go_frame
      rw [h20]
      go_wp2_with fail
      exact ⟨rfl, Below.refl _ _, rfl, rfl⟩
    | nx + 25, him, _ => exact absurd him (by omega)
  · intro w2 b2 vs hv
    have hL2 := HL.out.below b2
    have h24 : vs 24 = _ := hv 24 (by decide)
    simp only [relF, List.drop_succ_cons, List.drop_zero, List.length_cons, List.length_nil, Nat.zero_add, Nat.reduceAdd, List.range, List.range.loop, List.foldl_cons, List.foldl_nil, dstAt, List.getElem?_cons_zero, List.getElem?_cons_succ, Option.bind_some]
    go_frame
    rw [h24]
    go_wp2_with fail
    go_ret
    exact ⟨rfl, b1.trans (b2.mono b1.size)⟩

set_option maxRecDepth 100000 in
set_option maxHeartbeats 4000000 in
theorem cbinds_two (w : World) (r : List UInt8) (hr : r.length = 32) (n i : Nat) (hin : i < n) (hn30 : n ≤ 1073741824) (l : List UInt8) (hl : l.length ≤ 140737488351232) (u : List UInt8) (hu : u.length ≤ 140737488351232) (oP : Option Addr) (mP cP : Nat) (P : List (List UInt8)) (hP : HashesAt w oP mP cP P) (oQ : Option Addr) (mQ cQ : Nat) (Q : List (List UInt8)) (hQ : HashesAt w oQ mQ cQ Q) (hL : Laid w) (h200 : ¬ 200 < l.length) (h201 : ¬ 200 < u.length) (h40 : ¬ 40 < mP) (h41 : ¬ 40 < mQ) (hc1 : Tree.check r n i l P = true) (hc2 : Tree.check r n i u Q = false) :
    Calls Tryd.prog 6 #[.agg (byteCells r).toArray, .int .i64 (n : Int), .int .i64 (i : Int), .string (strOf l), .string (strOf u), .slice oP mP cP, .slice oQ mQ cQ] w fun e w' => e = .returned (.bool true) ∧ Below w.heap.size w w' := by
  have hstl := strOf_size l
  have hstu := strOf_size u
  have hmP : P.length = mP := hP.1.1
  have hcP : mP ≤ cP := hP.1.2.1
  have hxP : cP ≤ 9223372036854775807 := hP.1.2.2.1
  have HP := Lib.hid hP; clear hP
  have hmQ : Q.length = mQ := hQ.1.1
  have hcQ : mQ ≤ cQ := hQ.1.2.1
  have hxQ : cQ ≤ 9223372036854775807 := hQ.1.2.2.1
  have HQ := Lib.hid hQ; clear hQ
  have HL := Lib.hid hL; clear hL
  have HC1 := Lib.hid hc1; clear hc1
  have HC2 := Lib.hid hc2; clear hc2
  obtain ⟨W0, hW0⟩ : ∃ W0, W0 = w.alloc (.cells (byteCells r).toArray 39) := ⟨_, rfl⟩
  have x7 : W0.heap[w.heap.size]? = some (.cells (byteCells r).toArray 39 (0, 0)) := by rw [hW0]; exact heap_alloc_new w _
  have b0 : Below w.heap.size w W0 := by rw [hW0]; exact (Below.refl _ _).alloc (Nat.le_refl _) _
  replace HL := Lib.hid (HL.out.below b0)
  replace HP := Lib.hid (HP.out.below (Nat.le_refl _) b0)
  replace HQ := Lib.hid (HQ.out.below (Nat.le_refl _) b0)
  have X7 := Lib.hid x7; clear x7
  have HW0 := Lib.hid hW0; clear hW0
  have HA := Lib.hid hr; clear hr
  go_enter Tryd.func6, Tryd.ntmps6
  go_wp2_with fail
  rw [← HW0.out]
  refine (awake_any _ HL.out).mono ?_
  rintro e w1 ⟨rfl, b1⟩
  replace HP := Lib.hid (HP.out.below (Nat.le_refl _) b1)
  replace HQ := Lib.hid (HQ.out.below (Nat.le_refl _) b1)
  replace HL := Lib.hid (HL.out.below b1)
  replace X7 := Lib.hid ((b1.block _ (lt_of_block X7.out)).trans X7.out)
  replace b1 := b0.trans (b1.mono b0.size)
  clear b0
  have ht : decide ((200 : Int) < (l.length : Int)) = false := decide_eq_false (by omega)
  have ht2 : decide ((200 : Int) < (u.length : Int)) = false := decide_eq_false (by omega)
  have ht3 : decide ((40 : Int) < (mP : Int)) = false := decide_eq_false (by omega)
  have ht4 : decide ((40 : Int) < (mQ : Int)) = false := decide_eq_false (by omega)
  go_wp2_with fail
  refine wp_region_rel [[], [], [], [], [], [], [4, 5], [0, 1, 2, 3, 6], [7], [8], [9], [9], [9], [9], [9], [9], [9, 14, 15], [9, 10, 11, 12, 13, 16], [9, 17], [9, 18], [19], [20], [20], [20, 21, 22], [20, 23]] (cbindC w.heap.size n i mP cP mQ cQ oP oQ l u r P Q) 98 (by kernel_rfl) (by kernel_rfl) (by kernel_rfl) (cbindC_mono w.heap.size n i mP cP mQ cQ oP oQ l u r P Q) ?_ ?_
  · intro ix op hi w2 b2 vs hv
    have him : ix < 25 := (List.getElem?_eq_some_iff.1 hi).1
    have hL2 := HL.out.below b2
    match ix, him, hi with
    | 0, _, hi =>
      obtain rfl := Option.some.inj hi
      simp only [relF, List.getD_cons_zero, List.getD_cons_succ, List.foldl_cons, List.foldl_nil, dstAt, List.getElem?_cons_zero, List.getElem?_cons_succ, Option.bind_some]
      go_wp2_with ((with_reducible show wpList _ _ _ (⟨some 41, _, _, _, _, _⟩ :: _) _ _); refine wpList_load_hash (op := ⟨some 41, _, _, _, _, _⟩) (by kernel_rfl) _ rfl w.heap.size rfl r HA.out _ _ ((b2.block _ (lt_of_block X7.out)).trans X7.out) ?_)
      exact ⟨rfl, Below.refl _ _, rfl, rfl⟩
    | 1, _, hi =>
      obtain rfl := Option.some.inj hi
      simp only [relF, List.getD_cons_zero, List.getD_cons_succ, List.foldl_cons, List.foldl_nil, dstAt, List.getElem?_cons_zero, List.getElem?_cons_succ, Option.bind_some]
      go_wp2_with fail
      exact ⟨rfl, Below.refl _ _, rfl, rfl⟩
    | 2, _, hi =>
      obtain rfl := Option.some.inj hi
      simp only [relF, List.getD_cons_zero, List.getD_cons_succ, List.foldl_cons, List.foldl_nil, dstAt, List.getElem?_cons_zero, List.getElem?_cons_succ, Option.bind_some]
      go_wp2_with fail
      exact ⟨rfl, Below.refl _ _, rfl, rfl⟩
    | 3, _, hi =>
      obtain rfl := Option.some.inj hi
      simp only [relF, List.getD_cons_zero, List.getD_cons_succ, List.foldl_cons, List.foldl_nil, dstAt, List.getElem?_cons_zero, List.getElem?_cons_succ, Option.bind_some]
      go_wp2_with fail
      exact ⟨rfl, Below.refl _ _, rfl, rfl⟩
    | 4, _, hi =>
      obtain rfl := Option.some.inj hi
      simp only [relF, List.getD_cons_zero, List.getD_cons_succ, List.foldl_cons, List.foldl_nil, dstAt, List.getElem?_cons_zero, List.getElem?_cons_succ, Option.bind_some]
      go_wp2_with fail
      exact ⟨rfl, (Below.refl _ _).alloc (Nat.le_refl _) _, rfl, w2.heap.size, rfl⟩
    | 5, _, hi =>
      obtain rfl := Option.some.inj hi
      simp only [relF, List.getD_cons_zero, List.getD_cons_succ, List.foldl_cons, List.foldl_nil, dstAt, List.getElem?_cons_zero, List.getElem?_cons_succ, Option.bind_some]
      go_wp2_with fail
      exact ⟨rfl, Below.refl _ _, rfl, rfl⟩
    | 6, _, hi =>
      obtain rfl := Option.some.inj hi
      obtain ⟨g4, e4⟩ := hv 4 (by decide)
      have h5 : vs 5 = _ := hv 5 (by decide)
      obtain ⟨q, cc, W, hrun, hs, hbb⟩ := HashesAt.copy (HP.out.below (Nat.le_refl _) b2) (by omega) ⟨g4, 0, none⟩
      simp only [relF, List.getD_cons_zero, List.getD_cons_succ, List.foldl_cons, List.foldl_nil, dstAt, List.getElem?_cons_zero, List.getElem?_cons_succ, Option.bind_some]
      go_frame
      rw [e4, h5]
      go_wp2_with ((with_reducible show wpList _ _ _ (⟨some 47, _, _, _, _, _⟩ :: _) _ _); refine wpList_append_ran (by kernel_rfl) _ _ _ rfl _ _ rfl rfl hrun ?_)
      exact ⟨rfl, hbb, rfl, q, cc, rfl, hs⟩
    | 7, _, hi =>
      obtain rfl := Option.some.inj hi
      have h0 : vs 0 = _ := hv 0 (by decide)
      have h1 : vs 1 = _ := hv 1 (by decide)
      have h2 : vs 2 = _ := hv 2 (by decide)
      have h3 : vs 3 = _ := hv 3 (by decide)
      obtain ⟨q6, c6, e6, s6⟩ := hv 6 (by decide)
      have hrn := treeCheck_any w2 r HA.out n i (by omega) (by omega) l (by omega) _ _ _ P s6 hL2
      rw [HC1.out] at hrn
      simp only [relF, List.getD_cons_zero, List.getD_cons_succ, List.foldl_cons, List.foldl_nil, dstAt, List.getElem?_cons_zero, List.getElem?_cons_succ, Option.bind_some]
      go_frame
      rw [h0, h1, h2, h3, e6]
      go_wp2_with fail
      refine (hrn).mono ?_
      rintro e w3 ⟨rfl, b3⟩
      go_wp2_with fail
      exact ⟨rfl, b3, rfl, rfl⟩
    | 8, _, hi =>
      obtain rfl := Option.some.inj hi
      have h7 : vs 7 = _ := hv 7 (by decide)
      simp only [relF, List.getD_cons_zero, List.getD_cons_succ, List.foldl_cons, List.foldl_nil, dstAt, List.getElem?_cons_zero, List.getElem?_cons_succ, Option.bind_some]
      go_frame
      rw [h7]
      go_wp2_with fail
      exact ⟨rfl, Below.refl _ _, rfl, rfl⟩
    | 9, _, hi =>
      obtain rfl := Option.some.inj hi
      have h8 : vs 8 = _ := hv 8 (by decide)
      simp only [relF, List.getD_cons_zero, List.getD_cons_succ, List.foldl_cons, List.foldl_nil, dstAt, List.getElem?_cons_zero, List.getElem?_cons_succ, Option.bind_some]
      go_frame
      rw [h8]
      go_wp2_with fail
      exact ⟨rfl, Below.refl _ _, rfl, rfl⟩
    | 10, _, hi =>
      obtain rfl := Option.some.inj hi
      have h9 : vs 9 = _ := hv 9 (by decide)
      simp only [relF, List.getD_cons_zero, List.getD_cons_succ, List.foldl_cons, List.foldl_nil, dstAt, List.getElem?_cons_zero, List.getElem?_cons_succ, Option.bind_some]
      go_frame
      rw [h9]
      go_wp2_with ((with_reducible show wpList _ _ _ (⟨some 51, _, _, _, _, _⟩ :: _) _ _); refine wpList_load_hash (op := ⟨some 51, _, _, _, _, _⟩) (by kernel_rfl) _ rfl w.heap.size rfl r HA.out _ _ ((b2.block _ (lt_of_block X7.out)).trans X7.out) ?_)
      exact ⟨rfl, Below.refl _ _, rfl, rfl⟩
    | 11, _, hi =>
      obtain rfl := Option.some.inj hi
      have h9 : vs 9 = _ := hv 9 (by decide)
      simp only [relF, List.getD_cons_zero, List.getD_cons_succ, List.foldl_cons, List.foldl_nil, dstAt, List.getElem?_cons_zero, List.getElem?_cons_succ, Option.bind_some]
      go_frame
      rw [h9]
      go_wp2_with fail
      exact ⟨rfl, Below.refl _ _, rfl, rfl⟩
    | 12, _, hi =>
      obtain rfl := Option.some.inj hi
      have h9 : vs 9 = _ := hv 9 (by decide)
      simp only [relF, List.getD_cons_zero, List.getD_cons_succ, List.foldl_cons, List.foldl_nil, dstAt, List.getElem?_cons_zero, List.getElem?_cons_succ, Option.bind_some]
      go_frame
      rw [h9]
      go_wp2_with fail
      exact ⟨rfl, Below.refl _ _, rfl, rfl⟩
    | 13, _, hi =>
      obtain rfl := Option.some.inj hi
      have h9 : vs 9 = _ := hv 9 (by decide)
      simp only [relF, List.getD_cons_zero, List.getD_cons_succ, List.foldl_cons, List.foldl_nil, dstAt, List.getElem?_cons_zero, List.getElem?_cons_succ, Option.bind_some]
      go_frame
      rw [h9]
      go_wp2_with fail
      exact ⟨rfl, Below.refl _ _, rfl, rfl⟩
    | 14, _, hi =>
      obtain rfl := Option.some.inj hi
      have h9 : vs 9 = _ := hv 9 (by decide)
      simp only [relF, List.getD_cons_zero, List.getD_cons_succ, List.foldl_cons, List.foldl_nil, dstAt, List.getElem?_cons_zero, List.getElem?_cons_succ, Option.bind_some]
      go_frame
      rw [h9]
      go_wp2_with fail
      exact ⟨rfl, (Below.refl _ _).alloc (Nat.le_refl _) _, rfl, w2.heap.size, rfl⟩
    | 15, _, hi =>
      obtain rfl := Option.some.inj hi
      have h9 : vs 9 = _ := hv 9 (by decide)
      simp only [relF, List.getD_cons_zero, List.getD_cons_succ, List.foldl_cons, List.foldl_nil, dstAt, List.getElem?_cons_zero, List.getElem?_cons_succ, Option.bind_some]
      go_frame
      rw [h9]
      go_wp2_with fail
      exact ⟨rfl, Below.refl _ _, rfl, rfl⟩
    | 16, _, hi =>
      obtain rfl := Option.some.inj hi
      have h9 : vs 9 = _ := hv 9 (by decide)
      obtain ⟨g14, e14⟩ := hv 14 (by decide)
      have h15 : vs 15 = _ := hv 15 (by decide)
      obtain ⟨q, cc, W, hrun, hs, hbb⟩ := HashesAt.copy (HQ.out.below (Nat.le_refl _) b2) (by omega) ⟨g14, 0, none⟩
      simp only [relF, List.getD_cons_zero, List.getD_cons_succ, List.foldl_cons, List.foldl_nil, dstAt, List.getElem?_cons_zero, List.getElem?_cons_succ, Option.bind_some]
      go_frame
      rw [h9, e14, h15]
      go_wp2_with ((with_reducible show wpList _ _ _ (⟨some 57, _, _, _, _, _⟩ :: _) _ _); refine wpList_append_ran (by kernel_rfl) _ _ _ rfl _ _ rfl rfl hrun ?_)
      exact ⟨rfl, hbb, rfl, q, cc, rfl, hs⟩
    | 17, _, hi =>
      obtain rfl := Option.some.inj hi
      have h9 : vs 9 = _ := hv 9 (by decide)
      have h10 : vs 10 = _ := hv 10 (by decide)
      have h11 : vs 11 = _ := hv 11 (by decide)
      have h12 : vs 12 = _ := hv 12 (by decide)
      have h13 : vs 13 = _ := hv 13 (by decide)
      obtain ⟨q16, c16, e16, s16⟩ := hv 16 (by decide)
      have hrn := treeCheck_any w2 r HA.out n i (by omega) (by omega) u (by omega) _ _ _ Q s16 hL2
      rw [HC2.out] at hrn
      simp only [relF, List.getD_cons_zero, List.getD_cons_succ, List.foldl_cons, List.foldl_nil, dstAt, List.getElem?_cons_zero, List.getElem?_cons_succ, Option.bind_some]
      go_frame
      rw [h9, h10, h11, h12, h13, e16]
      go_wp2_with fail
      refine (hrn).mono ?_
      rintro e w3 ⟨rfl, b3⟩
      go_wp2_with fail
      exact ⟨rfl, b3, rfl, rfl⟩
    | 18, _, hi =>
      obtain rfl := Option.some.inj hi
      have h9 : vs 9 = _ := hv 9 (by decide)
      have h17 : vs 17 = _ := hv 17 (by decide)
      simp only [relF, List.getD_cons_zero, List.getD_cons_succ, List.foldl_cons, List.foldl_nil, dstAt, List.getElem?_cons_zero, List.getElem?_cons_succ, Option.bind_some]
      go_frame
      rw [h9, h17]
      go_wp2_with fail
      exact ⟨rfl, Below.refl _ _, rfl, rfl⟩
    | 19, _, hi =>
      obtain rfl := Option.some.inj hi
      have h9 : vs 9 = _ := hv 9 (by decide)
      have h18 : vs 18 = _ := hv 18 (by decide)
      simp only [relF, List.getD_cons_zero, List.getD_cons_succ, List.foldl_cons, List.foldl_nil, dstAt, List.getElem?_cons_zero, List.getElem?_cons_succ, Option.bind_some]
      go_frame
      rw [h9, h18]
      go_wp2_with fail
      exact ⟨rfl, Below.refl _ _, rfl, rfl⟩
    | 20, _, hi =>
      obtain rfl := Option.some.inj hi
      have h19 : vs 19 = _ := hv 19 (by decide)
      simp only [relF, List.getD_cons_zero, List.getD_cons_succ, List.foldl_cons, List.foldl_nil, dstAt, List.getElem?_cons_zero, List.getElem?_cons_succ, Option.bind_some]
      go_frame
      rw [h19]
      go_wp2_with fail
      exact ⟨rfl, Below.refl _ _, rfl, rfl⟩
    | 21, _, hi =>
      obtain rfl := Option.some.inj hi
      have h20 : vs 20 = _ := hv 20 (by decide)
      simp only [relF, List.getD_cons_zero, List.getD_cons_succ, List.foldl_cons, List.foldl_nil, dstAt, List.getElem?_cons_zero, List.getElem?_cons_succ, Option.bind_some]
      go_frame
      rw [h20]
      go_wp2_with fail
      exact ⟨rfl, Below.refl _ _, rfl, trivial⟩
    | 22, _, hi =>
      obtain rfl := Option.some.inj hi
      have h20 : vs 20 = _ := hv 20 (by decide)
      simp only [relF, List.getD_cons_zero, List.getD_cons_succ, List.foldl_cons, List.foldl_nil, dstAt, List.getElem?_cons_zero, List.getElem?_cons_succ, Option.bind_some]
      go_frame
      rw [h20]
      go_wp2_with fail
      exact ⟨rfl, Below.refl _ _, rfl, trivial⟩
    | 23, _, hi =>
      obtain rfl := Option.some.inj hi
      have h20 : vs 20 = _ := hv 20 (by decide)
      simp only [relF, List.getD_cons_zero, List.getD_cons_succ, List.foldl_cons, List.foldl_nil, dstAt, List.getElem?_cons_zero, List.getElem?_cons_succ, Option.bind_some]
      go_frame
      rw [h20]
      go_wp2_with fail
      exact ⟨rfl, Below.refl _ _, rfl, trivial⟩
    | 24, _, hi =>
      obtain rfl := Option.some.inj hi
      have h20 : vs 20 = _ := hv 20 (by decide)
      simp only [relF, List.getD_cons_zero, List.getD_cons_succ, List.foldl_cons, List.foldl_nil, dstAt, List.getElem?_cons_zero, List.getElem?_cons_succ, Option.bind_some]
      go_frame
      rw [h20]
      go_wp2_with fail
      exact ⟨rfl, Below.refl _ _, rfl, rfl⟩
    | nx + 25, him, _ => exact absurd him (by omega)
  · intro w2 b2 vs hv
    have hL2 := HL.out.below b2
    have h24 : vs 24 = _ := hv 24 (by decide)
    simp only [relF, List.drop_succ_cons, List.drop_zero, List.length_cons, List.length_nil, Nat.zero_add, Nat.reduceAdd, List.range, List.range.loop, List.foldl_cons, List.foldl_nil, dstAt, List.getElem?_cons_zero, List.getElem?_cons_succ, Option.bind_some]
    go_frame
    rw [h24]
    go_wp2_with fail
    go_ret
    exact ⟨rfl, b1.trans (b2.mono b1.size)⟩

end Go.Proofs.YteljlnkjdajkgaaDoor
