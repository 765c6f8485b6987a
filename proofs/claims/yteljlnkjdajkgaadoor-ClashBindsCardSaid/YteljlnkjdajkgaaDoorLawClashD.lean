/- The walk of the law ClashBinds. -/
import Derived.Test.YteljlnkjdajkgaaDoorLawClashD1
namespace Go.Proofs.YteljlnkjdajkgaaDoor
open Go.RowKit
set_option linter.unusedSimpArgs false
set_option linter.unusedVariables false

/-- What the region's operations leave. -/
def cbindD (B n i mP cP mQ cQ : Nat) (oP oQ : Option Addr) (l u r : List UInt8) (P Q : List (List UInt8)) (ix : Nat) (w : World) (v : Value) : Prop :=
  match ix with
  | 0 => v = .agg (byteCells r).toArray
  | 1 => v = .int .i64 (n : Int)
  | 2 => v = .int .i64 (i : Int)
  | 3 => v = .string (strOf l)
  | 4 => ∃ g : Nat, v = .slice (some ⟨g, 0, none⟩) 0 0
  | 5 => v = .slice oP mP cP
  | 6 => ∃ (q : Addr) (c : Nat), v = .slice (some q) mP c ∧ HashesAt w (some q) mP c P
  | 7 => v = .bool true
  | 8 => v = .bool false
  | 9 => v = .bool false
  | 10 => v = .agg (byteCells r).toArray
  | 11 => v = .int .i64 (n : Int)
  | 12 => v = .int .i64 (i : Int)
  | 13 => v = .string (strOf u)
  | 14 => ∃ g : Nat, v = .slice (some ⟨g, 0, none⟩) 0 0
  | 15 => v = .slice oQ mQ cQ
  | 16 => ∃ (q : Addr) (c : Nat), v = .slice (some q) mQ c ∧ HashesAt w (some q) mQ c Q
  | 17 => v = .bool true
  | 18 => v = .bool false
  | 19 => v = .bool false
  | 20 => v = .bool false
  | 21 => v = .string (strOf l)
  | 22 => v = .string (strOf u)
  | 23 => v = .bool true
  | 24 => v = .bool true
  | _ => True

theorem cbindD_mono (B n i mP cP mQ cQ : Nat) (oP oQ : Option Addr) (l u r : List UInt8) (P Q : List (List UInt8)) (jx : Nat) (w w' : World) (v : Value) (hb : Below w.heap.size w w') (h : cbindD B n i mP cP mQ cQ oP oQ l u r P Q jx w v) : cbindD B n i mP cP mQ cQ oP oQ l u r P Q jx w' v := by
  match jx, h with
  | 0, h => exact h
  | 1, h => exact h
  | 2, h => exact h
  | 3, h => exact h
  | 4, h => exact h
  | 5, h => exact h
  | 6, h => exact (let ⟨q, c, h1, h2⟩ := h; ⟨q, c, h1, h2.below (Nat.le_refl _) hb⟩)
  | 7, h => exact h
  | 8, h => exact h
  | 9, h => exact h
  | 10, h => exact h
  | 11, h => exact h
  | 12, h => exact h
  | 13, h => exact h
  | 14, h => exact h
  | 15, h => exact h
  | 16, h => exact (let ⟨q, c, h1, h2⟩ := h; ⟨q, c, h1, h2.below (Nat.le_refl _) hb⟩)
  | 17, h => exact h
  | 18, h => exact h
  | 19, h => exact h
  | 20, h => exact h
  | 21, h => exact h
  | 22, h => exact h
  | 23, h => exact h
  | 24, h => exact h
  | _ + 25, h => exact trivial

/-- What the region's operations leave. -/
def cbindE (B n i mP cP mQ cQ : Nat) (oP oQ : Option Addr) (l u r : List UInt8) (P Q : List (List UInt8)) (ix : Nat) (w : World) (v : Value) : Prop :=
  match ix with
  | 0 => v = .agg (byteCells r).toArray
  | 1 => v = .int .i64 (n : Int)
  | 2 => v = .int .i64 (i : Int)
  | 3 => v = .string (strOf l)
  | 4 => ∃ g : Nat, v = .slice (some ⟨g, 0, none⟩) 0 0
  | 5 => v = .slice oP mP cP
  | 6 => ∃ (q : Addr) (c : Nat), v = .slice (some q) mP c ∧ HashesAt w (some q) mP c P
  | 7 => v = .bool true
  | 8 => v = .bool false
  | 9 => v = .bool false
  | 10 => v = .agg (byteCells r).toArray
  | 11 => v = .int .i64 (n : Int)
  | 12 => v = .int .i64 (i : Int)
  | 13 => v = .string (strOf u)
  | 14 => ∃ g : Nat, v = .slice (some ⟨g, 0, none⟩) 0 0
  | 15 => v = .slice oQ mQ cQ
  | 16 => ∃ (q : Addr) (c : Nat), v = .slice (some q) mQ c ∧ HashesAt w (some q) mQ c Q
  | 17 => v = .bool true
  | 18 => v = .bool false
  | 19 => v = .bool false
  | 20 => v = .bool false
  | 21 => v = .string (strOf l)
  | 22 => v = .string (strOf u)
  | 23 => v = .bool false
  | 24 => v = .bool false
  | _ => True

theorem cbindE_mono (B n i mP cP mQ cQ : Nat) (oP oQ : Option Addr) (l u r : List UInt8) (P Q : List (List UInt8)) (jx : Nat) (w w' : World) (v : Value) (hb : Below w.heap.size w w') (h : cbindE B n i mP cP mQ cQ oP oQ l u r P Q jx w v) : cbindE B n i mP cP mQ cQ oP oQ l u r P Q jx w' v := by
  match jx, h with
  | 0, h => exact h
  | 1, h => exact h
  | 2, h => exact h
  | 3, h => exact h
  | 4, h => exact h
  | 5, h => exact h
  | 6, h => exact (let ⟨q, c, h1, h2⟩ := h; ⟨q, c, h1, h2.below (Nat.le_refl _) hb⟩)
  | 7, h => exact h
  | 8, h => exact h
  | 9, h => exact h
  | 10, h => exact h
  | 11, h => exact h
  | 12, h => exact h
  | 13, h => exact h
  | 14, h => exact h
  | 15, h => exact h
  | 16, h => exact (let ⟨q, c, h1, h2⟩ := h; ⟨q, c, h1, h2.below (Nat.le_refl _) hb⟩)
  | 17, h => exact h
  | 18, h => exact h
  | 19, h => exact h
  | 20, h => exact h
  | 21, h => exact h
  | 22, h => exact h
  | 23, h => exact h
  | 24, h => exact h
  | _ + 25, h => exact trivial

set_option maxRecDepth 100000 in
set_option maxHeartbeats 4000000 in
theorem cbinds_same (w : World) (r : List UInt8) (hr : r.length = 32) (n i : Nat) (hin : i < n) (hn30 : n ≤ 1073741824) (l : List UInt8) (hl : l.length ≤ 140737488351232) (u : List UInt8) (hu : u.length ≤ 140737488351232) (oP : Option Addr) (mP cP : Nat) (P : List (List UInt8)) (hP : HashesAt w oP mP cP P) (oQ : Option Addr) (mQ cQ : Nat) (Q : List (List UInt8)) (hQ : HashesAt w oQ mQ cQ Q) (hL : Laid w) (h200 : ¬ 200 < l.length) (h201 : ¬ 200 < u.length) (h40 : ¬ 40 < mP) (h41 : ¬ 40 < mQ) (hc1 : Tree.check r n i l P = true) (hc2 : Tree.check r n i u Q = true) (hll : l = u) :
    Calls Tryd.prog 6 #[.agg (byteCells r).toArray, .int .i64 (n : Int), .int .i64 (i : Int), .string (strOf l), .string (strOf u), .slice oP mP cP, .slice oQ mQ cQ] w fun e w' => e = .returned (.bool true) ∧ Below w.heap.size w w' := by
  have hstl := strOf_size l
  have hstu := strOf_size u
  have hmP : P.length = mP := hP.1.1
  have hcP : mP ≤ cP := hP.1.2.1
  have hxP : cP ≤ 9223372036854775807 := hP.1.2.2.1
  have HP := Lib.hid hP; clear hP
  have hmQ : Q.length = mQ := hQ.1.1
  have hcQ : mQ ≤ cQ := hQ.1.2.1
  have hxQ : cQ ≤ 9223372036854775807 := hQ.1.2.2.1
  have HQ := Lib.hid hQ; clear hQ
  have HL := Lib.hid hL; clear hL
  have hne : ((strOf l).toList == (strOf u).toList) = true := by rw [hll]; simp
  have HLL := Lib.hid hne; clear hne hll
  have HC1 := Lib.hid hc1; clear hc1
  have HC2 := Lib.hid hc2; clear hc2
  obtain ⟨W0, hW0⟩ : ∃ W0, W0 = w.alloc (.cells (byteCells r).toArray 39) := ⟨_, rfl⟩
  have x7 : W0.heap[w.heap.size]? = some (.cells (byteCells r).toArray 39 (0, 0)) := by rw [hW0]; exact heap_alloc_new w _
  have b0 : Below w.heap.size w W0 := by rw [hW0]; exact (Below.refl _ _).alloc (Nat.le_refl _) _
  replace HL := Lib.hid (HL.out.below b0)
  replace HP := Lib.hid (HP.out.below (Nat.le_refl _) b0)
  replace HQ := Lib.hid (HQ.out.below (Nat.le_refl _) b0)
  have X7 := Lib.hid x7; clear x7
  have HW0 := Lib.hid hW0; clear hW0
  have HA := Lib.hid hr; clear hr
  go_enter Tryd.func6, Tryd.ntmps6
  go_wp2_with fail
  rw [← HW0.out]
  refine (awake_any _ HL.out).mono ?_
  rintro e w1 ⟨rfl, b1⟩
  replace HP := Lib.hid (HP.out.below (Nat.le_refl _) b1)
  replace HQ := Lib.hid (HQ.out.below (Nat.le_refl _) b1)
  replace HL := Lib.hid (HL.out.below b1)
  replace X7 := Lib.hid ((b1.block _ (lt_of_block X7.out)).trans X7.out)
  replace b1 := b0.trans (b1.mono b0.size)
  clear b0
  have ht : decide ((200 : Int) < (l.length : Int)) = false := decide_eq_false (by omega)
  have ht2 : decide ((200 : Int) < (u.length : Int)) = false := decide_eq_false (by omega)
  have ht3 : decide ((40 : Int) < (mP : Int)) = false := decide_eq_false (by omega)
  have ht4 : decide ((40 : Int) < (mQ : Int)) = false := decide_eq_false (by omega)
  go_wp2_with fail
  refine wp_region_rel [[], [], [], [], [], [], [4, 5], [0, 1, 2, 3, 6], [7], [8], [9], [9], [9], [9], [9], [9], [9, 14, 15], [9, 10, 11, 12, 13, 16], [9, 17], [9, 18], [19], [20], [20], [20, 21, 22], [20, 23]] (cbindD w.heap.size n i mP cP mQ cQ oP oQ l u r P Q) 98 (by kernel_rfl) (by kernel_rfl) (by kernel_rfl) (cbindD_mono w.heap.size n i mP cP mQ cQ oP oQ l u r P Q) ?_ ?_
  · intro ix op hi w2 b2 vs hv
    have him : ix < 25 := (List.getElem?_eq_some_iff.1 hi).1
    have hL2 := HL.out.below b2
    match ix, him, hi with
    | 0, _, hi =>
      obtain rfl := Option.some.inj hi
      simp only [relF, List.getD_cons_zero, List.getD_cons_succ, List.foldl_cons, List.foldl_nil, dstAt, List.getElem?_cons_zero, List.getElem?_cons_succ, Option.bind_some]
      go_wp2_with ((with_reducible show wpList _ _ _ (⟨some 41, _, _, _, _, _⟩ :: _) _ _); refine wpList_load_hash (op := ⟨some 41, _, _, _, _, _⟩) (by kernel_rfl) _ rfl w.heap.size rfl r HA.out _ _ ((b2.block _ (lt_of_block X7.out)).trans X7.out) ?_)
      exact ⟨rfl, Below.refl _ _, rfl, rfl⟩
    | 1, _, hi =>
      obtain rfl := Option.some.inj hi
      simp only [relF, List.getD_cons_zero, List.getD_cons_succ, List.foldl_cons, List.foldl_nil, dstAt, List.getElem?_cons_zero, List.getElem?_cons_succ, Option.bind_some]
      go_wp2_with fail
      exact ⟨rfl, Below.refl _ _, rfl, rfl⟩
    | 2, _, hi =>
      obtain rfl := Option.some.inj hi
      simp only [relF, List.getD_cons_zero, List.getD_cons_succ, List.foldl_cons, List.foldl_nil, dstAt, List.getElem?_cons_zero, List.getElem?_cons_succ, Option.bind_some]
      go_wp2_with fail
      exact ⟨rfl, Below.refl _ _, rfl, rfl⟩
    | 3, _, hi =>
      obtain rfl := Option.some.inj hi
      simp only [relF, List.getD_cons_zero, List.getD_cons_succ, List.foldl_cons, List.foldl_nil, dstAt, List.getElem?_cons_zero, List.getElem?_cons_succ, Option.bind_some]
      go_wp2_with fail
      exact ⟨rfl, Below.refl _ _, rfl, rfl⟩
    | 4, _, hi =>
      obtain rfl := Option.some.inj hi
      simp only [relF, List.getD_cons_zero, List.getD_cons_succ, List.foldl_cons, List.foldl_nil, dstAt, List.getElem?_cons_zero, List.getElem?_cons_succ, Option.bind_some]
      go_wp2_with fail
      exact ⟨rfl, (Below.refl _ _).alloc (Nat.le_refl _) _, rfl, w2.heap.size, rfl⟩
    | 5, _, hi =>
      obtain rfl := Option.some.inj hi
      simp only [relF, List.getD_cons_zero, List.getD_cons_succ, List.foldl_cons, List.foldl_nil, dstAt, List.getElem?_cons_zero, List.getElem?_cons_succ, Option.bind_some]
      go_wp2_with fail
      exact ⟨rfl, Below.refl _ _, rfl, rfl⟩
    | 6, _, hi =>
      obtain rfl := Option.some.inj hi
      obtain ⟨g4, e4⟩ := hv 4 (by decide)
      have h5 : vs 5 = _ := hv 5 (by decide)
      obtain ⟨q, cc, W, hrun, hs, hbb⟩ := HashesAt.copy (HP.out.below (Nat.le_refl _) b2) (by omega) ⟨g4, 0, none⟩
      simp only [relF, List.getD_cons_zero, List.getD_cons_succ, List.foldl_cons, List.foldl_nil, dstAt, List.getElem?_cons_zero, List.getElem?_cons_succ, Option.bind_some]
      go_frame
      rw [e4, h5]
      go_wp2_with ((with_reducible show wpList _ _ _ (⟨some 47, _, _, _, _, _⟩ :: _) _ _); refine wpList_append_ran (by kernel_rfl) _ _ _ rfl _ _ rfl rfl hrun ?_)
      exact ⟨rfl, hbb, rfl, q, cc, rfl, hs⟩
    | 7, _, hi =>
      obtain rfl := Option.some.inj hi
      have h0 : vs 0 = _ := hv 0 (by decide)
      have h1 : vs 1 = _ := hv 1 (by decide)
      have h2 : vs 2 = _ := hv 2 (by decide)
      have h3 : vs 3 = _ := hv 3 (by decide)
      obtain ⟨q6, c6, e6, s6⟩ := hv 6 (by decide)
      have hrn := treeCheck_any w2 r HA.out n i (by omega) (by omega) l (by omega) _ _ _ P s6 hL2
      rw [HC1.out] at hrn
      simp only [relF, List.getD_cons_zero, List.getD_cons_succ, List.foldl_cons, List.foldl_nil, dstAt, List.getElem?_cons_zero, List.getElem?_cons_succ, Option.bind_some]
      go_frame
      rw [h0, h1, h2, h3, e6]
      go_wp2_with fail
      refine (hrn).mono ?_
      rintro e w3 ⟨rfl, b3⟩
      go_wp2_with fail
      exact ⟨rfl, b3, rfl, rfl⟩
    | 8, _, hi =>
      obtain rfl := Option.some.inj hi
      have h7 : vs 7 = _ := hv 7 (by decide)
      simp only [relF, List.getD_cons_zero, List.getD_cons_succ, List.foldl_cons, List.foldl_nil, dstAt, List.getElem?_cons_zero, List.getElem?_cons_succ, Option.bind_some]
      go_frame
      rw [h7]
      go_wp2_with fail
      exact ⟨rfl, Below.refl _ _, rfl, rfl⟩
    | 9, _, hi =>
      obtain rfl := Option.some.inj hi
      have h8 : vs 8 = _ := hv 8 (by decide)
      simp only [relF, List.getD_cons_zero, List.getD_cons_succ, List.foldl_cons, List.foldl_nil, dstAt, List.getElem?_cons_zero, List.getElem?_cons_succ, Option.bind_some]
      go_frame
      rw [h8]
      go_wp2_with fail
      exact ⟨rfl, Below.refl _ _, rfl, rfl⟩
    | 10, _, hi =>
      obtain rfl := Option.some.inj hi
      have h9 : vs 9 = _ := hv 9 (by decide)
      simp only [relF, List.getD_cons_zero, List.getD_cons_succ, List.foldl_cons, List.foldl_nil, dstAt, List.getElem?_cons_zero, List.getElem?_cons_succ, Option.bind_some]
      go_frame
      rw [h9]
      go_wp2_with ((with_reducible show wpList _ _ _ (⟨some 51, _, _, _, _, _⟩ :: _) _ _); refine wpList_load_hash (op := ⟨some 51, _, _, _, _, _⟩) (by kernel_rfl) _ rfl w.heap.size rfl r HA.out _ _ ((b2.block _ (lt_of_block X7.out)).trans X7.out) ?_)
      exact ⟨rfl, Below.refl _ _, rfl, rfl⟩
    | 11, _, hi =>
      obtain rfl := Option.some.inj hi
      have h9 : vs 9 = _ := hv 9 (by decide)
      simp only [relF, List.getD_cons_zero, List.getD_cons_succ, List.foldl_cons, List.foldl_nil, dstAt, List.getElem?_cons_zero, List.getElem?_cons_succ, Option.bind_some]
      go_frame
      rw [h9]
      go_wp2_with fail
      exact ⟨rfl, Below.refl _ _, rfl, rfl⟩
    | 12, _, hi =>
      obtain rfl := Option.some.inj hi
      have h9 : vs 9 = _ := hv 9 (by decide)
      simp only [relF, List.getD_cons_zero, List.getD_cons_succ, List.foldl_cons, List.foldl_nil, dstAt, List.getElem?_cons_zero, List.getElem?_cons_succ, Option.bind_some]
      go_frame
      rw [h9]
      go_wp2_with fail
      exact ⟨rfl, Below.refl _ _, rfl, rfl⟩
    | 13, _, hi =>
      obtain rfl := Option.some.inj hi
      have h9 : vs 9 = _ := hv 9 (by decide)
      simp only [relF, List.getD_cons_zero, List.getD_cons_succ, List.foldl_cons, List.foldl_nil, dstAt, List.getElem?_cons_zero, List.getElem?_cons_succ, Option.bind_some]
      go_frame
      rw [h9]
      go_wp2_with fail
      exact ⟨rfl, Below.refl _ _, rfl, rfl⟩
    | 14, _, hi =>
      obtain rfl := Option.some.inj hi
      have h9 : vs 9 = _ := hv 9 (by decide)
      simp only [relF, List.getD_cons_zero, List.getD_cons_succ, List.foldl_cons, List.foldl_nil, dstAt, List.getElem?_cons_zero, List.getElem?_cons_succ, Option.bind_some]
      go_frame
      rw [h9]
      go_wp2_with fail
      exact ⟨rfl, (Below.refl _ _).alloc (Nat.le_refl _) _, rfl, w2.heap.size, rfl⟩
    | 15, _, hi =>
      obtain rfl := Option.some.inj hi
      have h9 : vs 9 = _ := hv 9 (by decide)
      simp only [relF, List.getD_cons_zero, List.getD_cons_succ, List.foldl_cons, List.foldl_nil, dstAt, List.getElem?_cons_zero, List.getElem?_cons_succ, Option.bind_some]
      go_frame
      rw [h9]
      go_wp2_with fail
      exact ⟨rfl, Below.refl _ _, rfl, rfl⟩
    | 16, _, hi =>
      obtain rfl := Option.some.inj hi
      have h9 : vs 9 = _ := hv 9 (by decide)
      obtain ⟨g14, e14⟩ := hv 14 (by decide)
      have h15 : vs 15 = _ := hv 15 (by decide)
      obtain ⟨q, cc, W, hrun, hs, hbb⟩ := HashesAt.copy (HQ.out.below (Nat.le_refl _) b2) (by omega) ⟨g14, 0, none⟩
      simp only [relF, List.getD_cons_zero, List.getD_cons_succ, List.foldl_cons, List.foldl_nil, dstAt, List.getElem?_cons_zero, List.getElem?_cons_succ, Option.bind_some]
      go_frame
      rw [h9, e14, h15]
      go_wp2_with ((with_reducible show wpList _ _ _ (⟨some 57, _, _, _, _, _⟩ :: _) _ _); refine wpList_append_ran (by kernel_rfl) _ _ _ rfl _ _ rfl rfl hrun ?_)
      exact ⟨rfl, hbb, rfl, q, cc, rfl, hs⟩
    | 17, _, hi =>
      obtain rfl := Option.some.inj hi
      have h9 : vs 9 = _ := hv 9 (by decide)
      have h10 : vs 10 = _ := hv 10 (by decide)
      have h11 : vs 11 = _ := hv 11 (by decide)
      have h12 : vs 12 = _ := hv 12 (by decide)
      have h13 : vs 13 = _ := hv 13 (by decide)
      obtain ⟨q16, c16, e16, s16⟩ := hv 16 (by decide)
      have hrn := treeCheck_any w2 r HA.out n i (by omega) (by omega) u (by omega) _ _ _ Q s16 hL2
      rw [HC2.out] at hrn
      simp only [relF, List.getD_cons_zero, List.getD_cons_succ, List.foldl_cons, List.foldl_nil, dstAt, List.getElem?_cons_zero, List.getElem?_cons_succ, Option.bind_some]
      go_frame
      rw [h9, h10, h11, h12, h13, e16]
      go_wp2_with fail
      refine (hrn).mono ?_
      rintro e w3 ⟨rfl, b3⟩
      go_wp2_with fail
      exact ⟨rfl, b3, rfl, rfl⟩
    | 18, _, hi =>
      obtain rfl := Option.some.inj hi
      have h9 : vs 9 = _ := hv 9 (by decide)
      have h17 : vs 17 = _ := hv 17 (by decide)
      simp only [relF, List.getD_cons_zero, List.getD_cons_succ, List.foldl_cons, List.foldl_nil, dstAt, List.getElem?_cons_zero, List.getElem?_cons_succ, Option.bind_some]
      go_frame
      rw [h9, h17]
      go_wp2_with fail
      exact ⟨rfl, Below.refl _ _, rfl, rfl⟩
    | 19, _, hi =>
      obtain rfl := Option.some.inj hi
      have h9 : vs 9 = _ := hv 9 (by decide)
      have h18 : vs 18 = _ := hv 18 (by decide)
      simp only [relF, List.getD_cons_zero, List.getD_cons_succ, List.foldl_cons, List.foldl_nil, dstAt, List.getElem?_cons_zero, List.getElem?_cons_succ, Option.bind_some]
      go_frame
      rw [h9, h18]
      go_wp2_with fail
      exact ⟨rfl, Below.refl _ _, rfl, rfl⟩
    | 20, _, hi =>
      obtain rfl := Option.some.inj hi
      have h19 : vs 19 = _ := hv 19 (by decide)
      simp only [relF, List.getD_cons_zero, List.getD_cons_succ, List.foldl_cons, List.foldl_nil, dstAt, List.getElem?_cons_zero, List.getElem?_cons_succ, Option.bind_some]
      go_frame
      rw [h19]
      go_wp2_with fail
      exact ⟨rfl, Below.refl _ _, rfl, rfl⟩
    | 21, _, hi =>
      obtain rfl := Option.some.inj hi
      have h20 : vs 20 = _ := hv 20 (by decide)
      simp only [relF, List.getD_cons_zero, List.getD_cons_succ, List.foldl_cons, List.foldl_nil, dstAt, List.getElem?_cons_zero, List.getElem?_cons_succ, Option.bind_some]
      go_frame
      rw [h20]
      go_wp2_with fail
      exact ⟨rfl, Below.refl _ _, rfl, rfl⟩
    | 22, _, hi =>
      obtain rfl := Option.some.inj hi
      have h20 : vs 20 = _ := hv 20 (by decide)
      simp only [relF, List.getD_cons_zero, List.getD_cons_succ, List.foldl_cons, List.foldl_nil, dstAt, List.getElem?_cons_zero, List.getElem?_cons_succ, Option.bind_some]
      go_frame
      rw [h20]
      go_wp2_with fail
      exact ⟨rfl, Below.refl _ _, rfl, rfl⟩
    | 23, _, hi =>
      obtain rfl := Option.some.inj hi
      have h20 : vs 20 = _ := hv 20 (by decide)
      have h21 : vs 21 = _ := hv 21 (by decide)
      have h22 : vs 22 = _ := hv 22 (by decide)
      have hse := HLL.out
      simp only [relF, List.getD_cons_zero, List.getD_cons_succ, List.foldl_cons, List.foldl_nil, dstAt, List.getElem?_cons_zero, List.getElem?_cons_succ, Option.bind_some]
      go_frame
      rw [h20, h21, h22]
      go_wp2_with fail
      exact ⟨rfl, Below.refl _ _, rfl, rfl⟩
    | 24, _, hi =>
      obtain rfl := Option.some.inj hi
      have h20 : vs 20 = _ := hv 20 (by decide)
      have h23 : vs 23 = _ := hv 23 (by decide)
      simp only [relF, List.getD_cons_zero, List.getD_cons_succ, List.foldl_cons, List.foldl_nil, dstAt, List.getElem?_cons_zero, List.getElem?_cons_succ, Option.bind_some]
      go_frame
      rw [h20, h23]
      go_wp2_with fail
      exact ⟨rfl, Below.refl _ _, rfl, rfl⟩
    | nx + 25, him, _ => exact absurd him (by omega)
  · intro w2 b2 vs hv
    have hL2 := HL.out.below b2
    have h24 : vs 24 = _ := hv 24 (by decide)
    simp only [relF, List.drop_succ_cons, List.drop_zero, List.length_cons, List.length_nil, Nat.zero_add, Nat.reduceAdd, List.range, List.range.loop, List.foldl_cons, List.foldl_nil, dstAt, List.getElem?_cons_zero, List.getElem?_cons_succ, Option.bind_some]
    go_frame
    rw [h24]
    go_wp2_with fail
    go_ret
    exact ⟨rfl, b1.trans (b2.mono b1.size)⟩

set_option maxRecDepth 100000 in
set_option maxHeartbeats 4000000 in
theorem cbinds_found (w : World) (r : List UInt8) (hr : r.length = 32) (n i : Nat) (hin : i < n) (hn30 : n ≤ 1073741824) (l : List UInt8) (hl : l.length ≤ 140737488351232) (u : List UInt8) (hu : u.length ≤ 140737488351232) (oP : Option Addr) (mP cP : Nat) (P : List (List UInt8)) (hP : HashesAt w oP mP cP P) (oQ : Option Addr) (mQ cQ : Nat) (Q : List (List UInt8)) (hQ : HashesAt w oQ mQ cQ Q) (hL : Laid w) (h200 : ¬ 200 < l.length) (h201 : ¬ 200 < u.length) (h40 : ¬ 40 < mP) (h41 : ¬ 40 < mQ) (hc1 : Tree.check r n i l P = true) (hc2 : Tree.check r n i u Q = true) (hll : ¬ l = u) :
    Calls Tryd.prog 6 #[.agg (byteCells r).toArray, .int .i64 (n : Int), .int .i64 (i : Int), .string (strOf l), .string (strOf u), .slice oP mP cP, .slice oQ mQ cQ] w fun e w' => e = .returned (.bool true) ∧ Below w.heap.size w w' := by
  have hstl := strOf_size l
  have hstu := strOf_size u
  have hmP : P.length = mP := hP.1.1
  have hcP : mP ≤ cP := hP.1.2.1
  have hxP : cP ≤ 9223372036854775807 := hP.1.2.2.1
  have HP := Lib.hid hP; clear hP
  have hmQ : Q.length = mQ := hQ.1.1
  have hcQ : mQ ≤ cQ := hQ.1.2.1
  have hxQ : cQ ≤ 9223372036854775807 := hQ.1.2.2.1
  have HQ := Lib.hid hQ; clear hQ
  have HL := Lib.hid hL; clear hL
  have hne : ((strOf l).toList == (strOf u).toList) = false := by rw [strOf_toList, strOf_toList, beq_eq_false_iff_ne]; exact hll
  have HLL := Lib.hid hne; clear hne
  have HNE : Hid (l ≠ u) := Lib.hid hll
  clear hll
  have HC1 := Lib.hid hc1; clear hc1
  have HC2 := Lib.hid hc2; clear hc2
  obtain ⟨W0, hW0⟩ : ∃ W0, W0 = w.alloc (.cells (byteCells r).toArray 39) := ⟨_, rfl⟩
  have x7 : W0.heap[w.heap.size]? = some (.cells (byteCells r).toArray 39 (0, 0)) := by rw [hW0]; exact heap_alloc_new w _
  have b0 : Below w.heap.size w W0 := by rw [hW0]; exact (Below.refl _ _).alloc (Nat.le_refl _) _
  replace HL := Lib.hid (HL.out.below b0)
  replace HP := Lib.hid (HP.out.below (Nat.le_refl _) b0)
  replace HQ := Lib.hid (HQ.out.below (Nat.le_refl _) b0)
  have X7 := Lib.hid x7; clear x7
  have HW0 := Lib.hid hW0; clear hW0
  have HA := Lib.hid hr; clear hr
  go_enter Tryd.func6, Tryd.ntmps6
  go_wp2_with fail
  rw [← HW0.out]
  refine (awake_any _ HL.out).mono ?_
  rintro e w1 ⟨rfl, b1⟩
  replace HP := Lib.hid (HP.out.below (Nat.le_refl _) b1)
  replace HQ := Lib.hid (HQ.out.below (Nat.le_refl _) b1)
  replace HL := Lib.hid (HL.out.below b1)
  replace X7 := Lib.hid ((b1.block _ (lt_of_block X7.out)).trans X7.out)
  replace b1 := b0.trans (b1.mono b0.size)
  clear b0
  have ht : decide ((200 : Int) < (l.length : Int)) = false := decide_eq_false (by omega)
  have ht2 : decide ((200 : Int) < (u.length : Int)) = false := decide_eq_false (by omega)
  have ht3 : decide ((40 : Int) < (mP : Int)) = false := decide_eq_false (by omega)
  have ht4 : decide ((40 : Int) < (mQ : Int)) = false := decide_eq_false (by omega)
  go_wp2_with fail
  refine wp_region_rel [[], [], [], [], [], [], [4, 5], [0, 1, 2, 3, 6], [7], [8], [9], [9], [9], [9], [9], [9], [9, 14, 15], [9, 10, 11, 12, 13, 16], [9, 17], [9, 18], [19], [20], [20], [20, 21, 22], [20, 23]] (cbindE w.heap.size n i mP cP mQ cQ oP oQ l u r P Q) 98 (by kernel_rfl) (by kernel_rfl) (by kernel_rfl) (cbindE_mono w.heap.size n i mP cP mQ cQ oP oQ l u r P Q) ?_ ?_
  · intro ix op hi w2 b2 vs hv
    have him : ix < 25 := (List.getElem?_eq_some_iff.1 hi).1
    have hL2 := HL.out.below b2
    match ix, him, hi with
    | 0, _, hi =>
      obtain rfl := Option.some.inj hi
      simp only [relF, List.getD_cons_zero, List.getD_cons_succ, List.foldl_cons, List.foldl_nil, dstAt, List.getElem?_cons_zero, List.getElem?_cons_succ, Option.bind_some]
      go_wp2_with ((with_reducible show wpList _ _ _ (⟨some 41, _, _, _, _, _⟩ :: _) _ _); refine wpList_load_hash (op := ⟨some 41, _, _, _, _, _⟩) (by kernel_rfl) _ rfl w.heap.size rfl r HA.out _ _ ((b2.block _ (lt_of_block X7.out)).trans X7.out) ?_)
      exact ⟨rfl, Below.refl _ _, rfl, rfl⟩
    | 1, _, hi =>
      obtain rfl := Option.some.inj hi
      simp only [relF, List.getD_cons_zero, List.getD_cons_succ, List.foldl_cons, List.foldl_nil, dstAt, List.getElem?_cons_zero, List.getElem?_cons_succ, Option.bind_some]
      go_wp2_with fail
      exact ⟨rfl, Below.refl _ _, rfl, rfl⟩
    | 2, _, hi =>
      obtain rfl := Option.some.inj hi
      simp only [relF, List.getD_cons_zero, List.getD_cons_succ, List.foldl_cons, List.foldl_nil, dstAt, List.getElem?_cons_zero, List.getElem?_cons_succ, Option.bind_some]
      go_wp2_with fail
      exact ⟨rfl, Below.refl _ _, rfl, rfl⟩
    | 3, _, hi =>
      obtain rfl := Option.some.inj hi
      simp only [relF, List.getD_cons_zero, List.getD_cons_succ, List.foldl_cons, List.foldl_nil, dstAt, List.getElem?_cons_zero, List.getElem?_cons_succ, Option.bind_some]
      go_wp2_with fail
      exact ⟨rfl, Below.refl _ _, rfl, rfl⟩
    | 4, _, hi =>
      obtain rfl := Option.some.inj hi
      simp only [relF, List.getD_cons_zero, List.getD_cons_succ, List.foldl_cons, List.foldl_nil, dstAt, List.getElem?_cons_zero, List.getElem?_cons_succ, Option.bind_some]
      go_wp2_with fail
      exact ⟨rfl, (Below.refl _ _).alloc (Nat.le_refl _) _, rfl, w2.heap.size, rfl⟩
    | 5, _, hi =>
      obtain rfl := Option.some.inj hi
      simp only [relF, List.getD_cons_zero, List.getD_cons_succ, List.foldl_cons, List.foldl_nil, dstAt, List.getElem?_cons_zero, List.getElem?_cons_succ, Option.bind_some]
      go_wp2_with fail
      exact ⟨rfl, Below.refl _ _, rfl, rfl⟩
    | 6, _, hi =>
      obtain rfl := Option.some.inj hi
      obtain ⟨g4, e4⟩ := hv 4 (by decide)
      have h5 : vs 5 = _ := hv 5 (by decide)
      obtain ⟨q, cc, W, hrun, hs, hbb⟩ := HashesAt.copy (HP.out.below (Nat.le_refl _) b2) (by omega) ⟨g4, 0, none⟩
      simp only [relF, List.getD_cons_zero, List.getD_cons_succ, List.foldl_cons, List.foldl_nil, dstAt, List.getElem?_cons_zero, List.getElem?_cons_succ, Option.bind_some]
      go_frame
      rw [e4, h5]
      go_wp2_with ((with_reducible show wpList _ _ _ (⟨some 47, _, _, _, _, _⟩ :: _) _ _); refine wpList_append_ran (by kernel_rfl) _ _ _ rfl _ _ rfl rfl hrun ?_)
      exact ⟨rfl, hbb, rfl, q, cc, rfl, hs⟩
    | 7, _, hi =>
      obtain rfl := Option.some.inj hi
      have h0 : vs 0 = _ := hv 0 (by decide)
      have h1 : vs 1 = _ := hv 1 (by decide)
      have h2 : vs 2 = _ := hv 2 (by decide)
      have h3 : vs 3 = _ := hv 3 (by decide)
      obtain ⟨q6, c6, e6, s6⟩ := hv 6 (by decide)
      have hrn := treeCheck_any w2 r HA.out n i (by omega) (by omega) l (by omega) _ _ _ P s6 hL2
      rw [HC1.out] at hrn
      simp only [relF, List.getD_cons_zero, List.getD_cons_succ, List.foldl_cons, List.foldl_nil, dstAt, List.getElem?_cons_zero, List.getElem?_cons_succ, Option.bind_some]
      go_frame
      rw [h0, h1, h2, h3, e6]
      go_wp2_with fail
      refine (hrn).mono ?_
      rintro e w3 ⟨rfl, b3⟩
      go_wp2_with fail
      exact ⟨rfl, b3, rfl, rfl⟩
    | 8, _, hi =>
      obtain rfl := Option.some.inj hi
      have h7 : vs 7 = _ := hv 7 (by decide)
      simp only [relF, List.getD_cons_zero, List.getD_cons_succ, List.foldl_cons, List.foldl_nil, dstAt, List.getElem?_cons_zero, List.getElem?_cons_succ, Option.bind_some]
      go_frame
      rw [h7]
      go_wp2_with fail
      exact ⟨rfl, Below.refl _ _, rfl, rfl⟩
    | 9, _, hi =>
      obtain rfl := Option.some.inj hi
      have h8 : vs 8 = _ := hv 8 (by decide)
      simp only [relF, List.getD_cons_zero, List.getD_cons_succ, List.foldl_cons, List.foldl_nil, dstAt, List.getElem?_cons_zero, List.getElem?_cons_succ, Option.bind_some]
      go_frame
      rw [h8]
      go_wp2_with fail
      exact ⟨rfl, Below.refl _ _, rfl, rfl⟩
    | 10, _, hi =>
      obtain rfl := Option.some.inj hi
      have h9 : vs 9 = _ := hv 9 (by decide)
      simp only [relF, List.getD_cons_zero, List.getD_cons_succ, List.foldl_cons, List.foldl_nil, dstAt, List.getElem?_cons_zero, List.getElem?_cons_succ, Option.bind_some]
      go_frame
      rw [h9]
      go_wp2_with ((with_reducible show wpList _ _ _ (⟨some 51, _, _, _, _, _⟩ :: _) _ _); refine wpList_load_hash (op := ⟨some 51, _, _, _, _, _⟩) (by kernel_rfl) _ rfl w.heap.size rfl r HA.out _ _ ((b2.block _ (lt_of_block X7.out)).trans X7.out) ?_)
      exact ⟨rfl, Below.refl _ _, rfl, rfl⟩
    | 11, _, hi =>
      obtain rfl := Option.some.inj hi
      have h9 : vs 9 = _ := hv 9 (by decide)
      simp only [relF, List.getD_cons_zero, List.getD_cons_succ, List.foldl_cons, List.foldl_nil, dstAt, List.getElem?_cons_zero, List.getElem?_cons_succ, Option.bind_some]
      go_frame
      rw [h9]
      go_wp2_with fail
      exact ⟨rfl, Below.refl _ _, rfl, rfl⟩
    | 12, _, hi =>
      obtain rfl := Option.some.inj hi
      have h9 : vs 9 = _ := hv 9 (by decide)
      simp only [relF, List.getD_cons_zero, List.getD_cons_succ, List.foldl_cons, List.foldl_nil, dstAt, List.getElem?_cons_zero, List.getElem?_cons_succ, Option.bind_some]
      go_frame
      rw [h9]
      go_wp2_with fail
      exact ⟨rfl, Below.refl _ _, rfl, rfl⟩
    | 13, _, hi =>
      obtain rfl := Option.some.inj hi
      have h9 : vs 9 = _ := hv 9 (by decide)
      simp only [relF, List.getD_cons_zero, List.getD_cons_succ, List.foldl_cons, List.foldl_nil, dstAt, List.getElem?_cons_zero, List.getElem?_cons_succ, Option.bind_some]
      go_frame
      rw [h9]
      go_wp2_with fail
      exact ⟨rfl, Below.refl _ _, rfl, rfl⟩
    | 14, _, hi =>
      obtain rfl := Option.some.inj hi
      have h9 : vs 9 = _ := hv 9 (by decide)
      simp only [relF, List.getD_cons_zero, List.getD_cons_succ, List.foldl_cons, List.foldl_nil, dstAt, List.getElem?_cons_zero, List.getElem?_cons_succ, Option.bind_some]
      go_frame
      rw [h9]
      go_wp2_with fail
      exact ⟨rfl, (Below.refl _ _).alloc (Nat.le_refl _) _, rfl, w2.heap.size, rfl⟩
    | 15, _, hi =>
      obtain rfl := Option.some.inj hi
      have h9 : vs 9 = _ := hv 9 (by decide)
      simp only [relF, List.getD_cons_zero, List.getD_cons_succ, List.foldl_cons, List.foldl_nil, dstAt, List.getElem?_cons_zero, List.getElem?_cons_succ, Option.bind_some]
      go_frame
      rw [h9]
      go_wp2_with fail
      exact ⟨rfl, Below.refl _ _, rfl, rfl⟩
    | 16, _, hi =>
      obtain rfl := Option.some.inj hi
      have h9 : vs 9 = _ := hv 9 (by decide)
      obtain ⟨g14, e14⟩ := hv 14 (by decide)
      have h15 : vs 15 = _ := hv 15 (by decide)
      obtain ⟨q, cc, W, hrun, hs, hbb⟩ := HashesAt.copy (HQ.out.below (Nat.le_refl _) b2) (by omega) ⟨g14, 0, none⟩
      simp only [relF, List.getD_cons_zero, List.getD_cons_succ, List.foldl_cons, List.foldl_nil, dstAt, List.getElem?_cons_zero, List.getElem?_cons_succ, Option.bind_some]
      go_frame
      rw [h9, e14, h15]
      go_wp2_with ((with_reducible show wpList _ _ _ (⟨some 57, _, _, _, _, _⟩ :: _) _ _); refine wpList_append_ran (by kernel_rfl) _ _ _ rfl _ _ rfl rfl hrun ?_)
      exact ⟨rfl, hbb, rfl, q, cc, rfl, hs⟩
    | 17, _, hi =>
      obtain rfl := Option.some.inj hi
      have h9 : vs 9 = _ := hv 9 (by decide)
      have h10 : vs 10 = _ := hv 10 (by decide)
      have h11 : vs 11 = _ := hv 11 (by decide)
      have h12 : vs 12 = _ := hv 12 (by decide)
      have h13 : vs 13 = _ := hv 13 (by decide)
      obtain ⟨q16, c16, e16, s16⟩ := hv 16 (by decide)
      have hrn := treeCheck_any w2 r HA.out n i (by omega) (by omega) u (by omega) _ _ _ Q s16 hL2
      rw [HC2.out] at hrn
      simp only [relF, List.getD_cons_zero, List.getD_cons_succ, List.foldl_cons, List.foldl_nil, dstAt, List.getElem?_cons_zero, List.getElem?_cons_succ, Option.bind_some]
      go_frame
      rw [h9, h10, h11, h12, h13, e16]
      go_wp2_with fail
      refine (hrn).mono ?_
      rintro e w3 ⟨rfl, b3⟩
      go_wp2_with fail
      exact ⟨rfl, b3, rfl, rfl⟩
    | 18, _, hi =>
      obtain rfl := Option.some.inj hi
      have h9 : vs 9 = _ := hv 9 (by decide)
      have h17 : vs 17 = _ := hv 17 (by decide)
      simp only [relF, List.getD_cons_zero, List.getD_cons_succ, List.foldl_cons, List.foldl_nil, dstAt, List.getElem?_cons_zero, List.getElem?_cons_succ, Option.bind_some]
      go_frame
      rw [h9, h17]
      go_wp2_with fail
      exact ⟨rfl, Below.refl _ _, rfl, rfl⟩
    | 19, _, hi =>
      obtain rfl := Option.some.inj hi
      have h9 : vs 9 = _ := hv 9 (by decide)
      have h18 : vs 18 = _ := hv 18 (by decide)
      simp only [relF, List.getD_cons_zero, List.getD_cons_succ, List.foldl_cons, List.foldl_nil, dstAt, List.getElem?_cons_zero, List.getElem?_cons_succ, Option.bind_some]
      go_frame
      rw [h9, h18]
      go_wp2_with fail
      exact ⟨rfl, Below.refl _ _, rfl, rfl⟩
    | 20, _, hi =>
      obtain rfl := Option.some.inj hi
      have h19 : vs 19 = _ := hv 19 (by decide)
      simp only [relF, List.getD_cons_zero, List.getD_cons_succ, List.foldl_cons, List.foldl_nil, dstAt, List.getElem?_cons_zero, List.getElem?_cons_succ, Option.bind_some]
      go_frame
      rw [h19]
      go_wp2_with fail
      exact ⟨rfl, Below.refl _ _, rfl, rfl⟩
    | 21, _, hi =>
      obtain rfl := Option.some.inj hi
      have h20 : vs 20 = _ := hv 20 (by decide)
      simp only [relF, List.getD_cons_zero, List.getD_cons_succ, List.foldl_cons, List.foldl_nil, dstAt, List.getElem?_cons_zero, List.getElem?_cons_succ, Option.bind_some]
      go_frame
      rw [h20]
      go_wp2_with fail
      exact ⟨rfl, Below.refl _ _, rfl, rfl⟩
    | 22, _, hi =>
      obtain rfl := Option.some.inj hi
      have h20 : vs 20 = _ := hv 20 (by decide)
      simp only [relF, List.getD_cons_zero, List.getD_cons_succ, List.foldl_cons, List.foldl_nil, dstAt, List.getElem?_cons_zero, List.getElem?_cons_succ, Option.bind_some]
      go_frame
      rw [h20]
      go_wp2_with fail
      exact ⟨rfl, Below.refl _ _, rfl, rfl⟩
    | 23, _, hi =>
      obtain rfl := Option.some.inj hi
      have h20 : vs 20 = _ := hv 20 (by decide)
      have h21 : vs 21 = _ := hv 21 (by decide)
      have h22 : vs 22 = _ := hv 22 (by decide)
      have hse := HLL.out
      simp only [relF, List.getD_cons_zero, List.getD_cons_succ, List.foldl_cons, List.foldl_nil, dstAt, List.getElem?_cons_zero, List.getElem?_cons_succ, Option.bind_some]
      go_frame
      rw [h20, h21, h22]
      go_wp2_with fail
      exact ⟨rfl, Below.refl _ _, rfl, rfl⟩
    | 24, _, hi =>
      obtain rfl := Option.some.inj hi
      have h20 : vs 20 = _ := hv 20 (by decide)
      have h23 : vs 23 = _ := hv 23 (by decide)
      simp only [relF, List.getD_cons_zero, List.getD_cons_succ, List.foldl_cons, List.foldl_nil, dstAt, List.getElem?_cons_zero, List.getElem?_cons_succ, Option.bind_some]
      go_frame
      rw [h20, h23]
      go_wp2_with fail
      exact ⟨rfl, Below.refl _ _, rfl, rfl⟩
    | nx + 25, him, _ => exact absurd him (by omega)
  · intro w2 b2 vs hv
    have hL2 := HL.out.below b2
    have h24 : vs 24 = _ := hv 24 (by decide)
    simp only [relF, List.drop_succ_cons, List.drop_zero, List.length_cons, List.length_nil, Nat.zero_add, Nat.reduceAdd, List.range, List.range.loop, List.foldl_cons, List.foldl_nil, dstAt, List.getElem?_cons_zero, List.getElem?_cons_succ, Option.bind_some]
    go_frame
    rw [h24]
    have B2 := b1.trans (b2.mono b1.size)
    have hP2 := HP.out.below (Nat.le_refl _) b2
    have hQ2 := HQ.out.below (Nat.le_refl _) b2
    have HP2 := Lib.hid hP2; clear hP2
    have HQ2 := Lib.hid hQ2; clear hQ2
    have HL2 := Lib.hid hL2; clear hL2
    clear hv b2 HP HQ HL
    obtain ⟨q5, c5, v5, hrun, hs, dd⟩ := HashesAt.copy (HP2.out.below (Nat.le_refl _) ((Below.refl w2.heap.size w2).alloc (Nat.le_refl _) (.cells #[] 39))) (by omega) ⟨w2.heap.size, 0, none⟩
    have d5 : Below w2.heap.size w2 v5 := ((Below.refl _ _).alloc (Nat.le_refl _) _).trans (dd.mono (by simp))
    have hrun5 := hrun; clear hrun dd
    have C5 := Lib.hid hs; clear hs
    replace HQ2 := Lib.hid (HQ2.out.below (Nat.le_refl _) d5)
    replace HL2 := Lib.hid (HL2.out.below d5)
    replace B2 := B2.trans (d5.mono B2.size)
    obtain ⟨q6, c6, v6, hrun, hs, dd⟩ := HashesAt.copy (HQ2.out.below (Nat.le_refl _) ((Below.refl v5.heap.size v5).alloc (Nat.le_refl _) (.cells #[] 39))) (by omega) ⟨v5.heap.size, 0, none⟩
    have d6 : Below v5.heap.size v5 v6 := ((Below.refl _ _).alloc (Nat.le_refl _) _).trans (dd.mono (by simp))
    have hrun6 := hrun; clear hrun dd
    have C6 := Lib.hid hs; clear hs
    replace C5 := Lib.hid (C5.out.below (Nat.le_refl _) d6)
    replace HL2 := Lib.hid (HL2.out.below d6)
    replace B2 := B2.trans (d6.mono B2.size)
    have hfa := clashFind_any v6 n i l u (by omega) (by omega) _ _ _ _ _ _ P Q C5.out C6.out HL2.out
    have hff := findR_facts (n := (n : Int)) (i := (i : Int)) (a := l) (b := u) (P := P) (Q := Q) (by omega) (by omega) C5.out.2 C6.out.2
    have hft := found_any hin hn30 HC1.out HC2.out HNE.out
    obtain ⟨F, hF⟩ : ∃ F, F = findR n i l P u Q := ⟨_, rfl⟩
    rw [← hF] at hfa hff hft
    clear hF
    obtain ⟨x, y, is⟩ := F
    simp only at hfa hff hft
    subst hft
    obtain ⟨hxy, hxl, hyl⟩ := hff
    obtain ⟨hne1, hse⟩ := isC_true hxy
    have hne : ((strOf x).toList == (strOf y).toList) = false := by rw [strOf_toList, strOf_toList, beq_eq_false_iff_ne]; exact hne1
    have HSE := Lib.hid hse; clear hse hxy hne1
    have HFA := Lib.hid hfa; clear hfa
    go_wp2_with (first | ((with_reducible show wpList _ _ _ (⟨some 72, _, _, _, _, _⟩ :: _) _ _); refine wpList_append_ran (by kernel_rfl) _ _ _ rfl _ _ rfl rfl hrun5 ?_) | ((with_reducible show wpList _ _ _ (⟨some 76, _, _, _, _, _⟩ :: _) _ _); refine wpList_append_ran (by kernel_rfl) _ _ _ rfl _ _ rfl rfl hrun6 ?_))
    refine HFA.out.mono ?_
    rintro e w3 ⟨rfl, b3⟩
    have B3 := B2.trans (b3.mono B2.size)
    clear hrun5 hrun6 HFA
    obtain ⟨c1, W1, hcv1, d1, hof⟩ := of_one w3 x (by omega) (HL2.out.below b3)
    have HOF := Lib.hid hof; clear hof
    have hsx := strOf_size x
    have hsy := strOf_size y
    have hlx := Sha.of_len x
    go_wp2_with fail
    refine HOF.out.mono ?_
    rintro e w4 ⟨rfl, b4⟩
    have B4 := B3.trans (b4.mono B3.size)
    obtain ⟨c2, W3, hcv2, d3, hof⟩ := of_one w4 y (by omega) ((HL2.out.below b3).below b4)
    rw [← HSE.out] at hof
    have HOF2 := Lib.hid hof; clear hof HOF d1
    go_wp2_with fail
    refine HOF2.out.mono ?_
    rintro e w5 ⟨rfl, b5⟩
    go_wp2_with ((with_reducible show wpList _ _ _ (⟨some 96, _, _, _, _, _⟩ :: _) _ _); refine wpList_eql_hash (op := ⟨some 96, _, _, _, _, _⟩) (by kernel_rfl) _ _ rfl (Sha.of x) (Sha.of x) hlx hlx rfl rfl ?_; rw [beq_self_eq_true])
    go_ret
    exact ⟨rfl, B4.trans (b5.mono B4.size)⟩

set_option maxRecDepth 100000 in
set_option maxHeartbeats 4000000 in
theorem cbinds_long (w : World) (r : List UInt8) (hr : r.length = 32) (n : Int) (hn : (Lit.int .i64 n).wf = true) (i : Int) (hi : (Lit.int .i64 i).wf = true) (l : List UInt8) (hl : l.length ≤ 140737488351232) (u : List UInt8) (hu : u.length ≤ 140737488351232) (oP : Option Addr) (mP cP : Nat) (P : List (List UInt8)) (hP : HashesAt w oP mP cP P) (oQ : Option Addr) (mQ cQ : Nat) (Q : List (List UInt8)) (hQ : HashesAt w oQ mQ cQ Q) (hL : Laid w) (hlong : 200 < l.length ∨ 200 < u.length ∨ 40 < mP ∨ 40 < mQ) :
    Calls Tryd.prog 6 #[.agg (byteCells r).toArray, .int .i64 n, .int .i64 i, .string (strOf l), .string (strOf u), .slice oP mP cP, .slice oQ mQ cQ] w fun e w' => e = .returned (.bool true) ∧ Below w.heap.size w w' := by
  have hstl := strOf_size l
  have hstu := strOf_size u
  have hmP : P.length = mP := hP.1.1
  have hcP : mP ≤ cP := hP.1.2.1
  have hxP : cP ≤ 9223372036854775807 := hP.1.2.2.1
  have HP := Lib.hid hP; clear hP
  have hmQ : Q.length = mQ := hQ.1.1
  have hcQ : mQ ≤ cQ := hQ.1.2.1
  have hxQ : cQ ≤ 9223372036854775807 := hQ.1.2.2.1
  have HQ := Lib.hid hQ; clear hQ
  have HL := Lib.hid hL; clear hL
  obtain ⟨W0, hW0⟩ : ∃ W0, W0 = w.alloc (.cells (byteCells r).toArray 39) := ⟨_, rfl⟩
  have x7 : W0.heap[w.heap.size]? = some (.cells (byteCells r).toArray 39 (0, 0)) := by rw [hW0]; exact heap_alloc_new w _
  have b0 : Below w.heap.size w W0 := by rw [hW0]; exact (Below.refl _ _).alloc (Nat.le_refl _) _
  replace HL := Lib.hid (HL.out.below b0)
  replace HP := Lib.hid (HP.out.below (Nat.le_refl _) b0)
  replace HQ := Lib.hid (HQ.out.below (Nat.le_refl _) b0)
  have X7 := Lib.hid x7; clear x7
  have HW0 := Lib.hid hW0; clear hW0
  have HA := Lib.hid hr; clear hr
  go_enter Tryd.func6, Tryd.ntmps6
  go_wp2_with fail
  rw [← HW0.out]
  refine (awake_any _ HL.out).mono ?_
  rintro e w1 ⟨rfl, b1⟩
  replace HP := Lib.hid (HP.out.below (Nat.le_refl _) b1)
  replace HQ := Lib.hid (HQ.out.below (Nat.le_refl _) b1)
  replace HL := Lib.hid (HL.out.below b1)
  replace X7 := Lib.hid ((b1.block _ (lt_of_block X7.out)).trans X7.out)
  replace b1 := b0.trans (b1.mono b0.size)
  clear b0
  by_cases hg : 200 < l.length
  · have ht : decide ((200 : Int) < (l.length : Int)) = true := decide_eq_true (by omega)
    go_wp2_with fail
    refine (awake_any _ HL.out).mono ?_
    rintro e w2 ⟨rfl, b2⟩
    go_wp2_with fail
    go_ret
    exact ⟨rfl, b1.trans (b2.mono b1.size)⟩
  · have ht : decide ((200 : Int) < (l.length : Int)) = false := decide_eq_false (by omega)
    by_cases hg : 200 < u.length
    · have ht : decide ((200 : Int) < (u.length : Int)) = true := decide_eq_true (by omega)
      go_wp2_with fail
      refine (awake_any _ HL.out).mono ?_
      rintro e w2 ⟨rfl, b2⟩
      go_wp2_with fail
      go_ret
      exact ⟨rfl, b1.trans (b2.mono b1.size)⟩
    · have ht : decide ((200 : Int) < (u.length : Int)) = false := decide_eq_false (by omega)
      by_cases hg : 40 < mP
      · have ht : decide ((40 : Int) < (mP : Int)) = true := decide_eq_true (by omega)
        go_wp2_with fail
        refine (awake_any _ HL.out).mono ?_
        rintro e w2 ⟨rfl, b2⟩
        go_wp2_with fail
        go_ret
        exact ⟨rfl, b1.trans (b2.mono b1.size)⟩
      · have ht : decide ((40 : Int) < (mP : Int)) = false := decide_eq_false (by omega)
        by_cases hg : 40 < mQ
        · have ht : decide ((40 : Int) < (mQ : Int)) = true := decide_eq_true (by omega)
          go_wp2_with fail
          refine (awake_any _ HL.out).mono ?_
          rintro e w2 ⟨rfl, b2⟩
          go_wp2_with fail
          go_ret
          exact ⟨rfl, b1.trans (b2.mono b1.size)⟩
        · have ht : decide ((40 : Int) < (mQ : Int)) = false := decide_eq_false (by omega)
          omega

theorem cbinds_list (w : World) (r : List UInt8) (hr : r.length = 32) (n : Int) (hn : (Lit.int .i64 n).wf = true) (i : Int) (hi : (Lit.int .i64 i).wf = true) (l : List UInt8) (hl : l.length ≤ 140737488351232) (u : List UInt8) (hu : u.length ≤ 140737488351232) (oP : Option Addr) (mP cP : Nat) (P : List (List UInt8)) (hP : HashesAt w oP mP cP P) (oQ : Option Addr) (mQ cQ : Nat) (Q : List (List UInt8)) (hQ : HashesAt w oQ mQ cQ Q) (hL : Laid w) :
    Calls Tryd.prog 6 #[.agg (byteCells r).toArray, .int .i64 n, .int .i64 i, .string (strOf l), .string (strOf u), .slice oP mP cP, .slice oQ mQ cQ] w fun e w' => e = .returned (.bool true) ∧ Below w.heap.size w w' := by
  by_cases hg1 : 200 < l.length
  · exact cbinds_long w r hr n hn i hi l hl u hu oP mP cP P hP oQ mQ cQ Q hQ hL (Or.inl hg1)
  · by_cases hg2 : 200 < u.length
    · exact cbinds_long w r hr n hn i hi l hl u hu oP mP cP P hP oQ mQ cQ Q hQ hL (Or.inr (Or.inl hg2))
    · by_cases hg3 : 40 < mP
      · exact cbinds_long w r hr n hn i hi l hl u hu oP mP cP P hP oQ mQ cQ Q hQ hL (Or.inr (Or.inr (Or.inl hg3)))
      · by_cases hg4 : 40 < mQ
        · exact cbinds_long w r hr n hn i hi l hl u hu oP mP cP P hP oQ mQ cQ Q hQ hL (Or.inr (Or.inr (Or.inr hg4)))
        · rcases hb : badSide n i with _ | _
          · obtain ⟨n, i, rfl, rfl, hin, hn30⟩ := badSide_nat hb
            rcases hc1 : Tree.check r n i l P with _ | _
            · exact cbinds_one w r hr n i hin hn30 l hl u hu oP mP cP P hP oQ mQ cQ Q hQ hL hg1 hg2 hg3 hg4 hc1
            · rcases hc2 : Tree.check r n i u Q with _ | _
              · exact cbinds_two w r hr n i hin hn30 l hl u hu oP mP cP P hP oQ mQ cQ Q hQ hL hg1 hg2 hg3 hg4 hc1 hc2
              · by_cases hll : l = u
                · exact cbinds_same w r hr n i hin hn30 l hl u hu oP mP cP P hP oQ mQ cQ Q hQ hL hg1 hg2 hg3 hg4 hc1 hc2 hll
                · exact cbinds_found w r hr n i hin hn30 l hl u hu oP mP cP P hP oQ mQ cQ Q hQ hL hg1 hg2 hg3 hg4 hc1 hc2 hll
          · exact cbinds_bad w r hr n hn i hi l hl u hu oP mP cP P hP oQ mQ cQ Q hQ hL hg1 hg2 hg3 hg4 hb

theorem cbinds_law (w : World) (r : List UInt8) (hr : r.length = 32) (n : Int) (hn : (Lit.int .i64 n).wf = true) (i : Int) (hi : (Lit.int .i64 i).wf = true) (l : ByteArray) (hl : l.size ≤ 140737488351232) (u : ByteArray) (hu : u.size ≤ 140737488351232) (oP : Option Addr) (mP cP : Nat) (P : List (List UInt8)) (hP : RowsAt w oP mP cP 32 byteCells P) (h32P : ∀ p ∈ P, p.length = 32) (oQ : Option Addr) (mQ cQ : Nat) (Q : List (List UInt8)) (hQ : RowsAt w oQ mQ cQ 32 byteCells Q) (h32Q : ∀ p ∈ Q, p.length = 32) (hL : Laid w) :
    Calls Tryd.prog 6 #[.agg (byteCells r).toArray, .int .i64 n, .int .i64 i, .string l, .string u, .slice oP mP cP, .slice oQ mQ cQ] w fun e w' => e = .returned (.bool true) ∧ Below w.heap.size w w' := by
  have h := cbinds_list w r hr n hn i hi l.data.toList (by rw [← strOf_size, strOf_data]; exact hl) u.data.toList (by rw [← strOf_size, strOf_data]; exact hu) oP mP cP P ⟨hP, h32P⟩ oQ mQ cQ Q ⟨hQ, h32Q⟩ hL
  rwa [strOf_data, strOf_data] at h

end Go.Proofs.YteljlnkjdajkgaaDoor
