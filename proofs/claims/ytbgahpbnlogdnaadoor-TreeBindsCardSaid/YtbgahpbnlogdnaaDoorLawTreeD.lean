/- The walks of the laws TreeChecks, TreeProves. -/
import Derived.Test.YtbgahpbnlogdnaaDoorLawTreeC
namespace Go.Proofs.YtbgahpbnlogdnaaDoor
open Go.RowKit
set_option linter.unusedSimpArgs false
set_option linter.unusedVariables false

/-- What the region's operations leave. -/
def checksV (B n i m cap : Nat) (o : Option Addr) (l a : List UInt8) (P : List (List UInt8)) (ix : Nat) (w : World) (v : Value) : Prop :=
  match ix with
  | 0 => v = .agg (byteCells a).toArray
  | 1 => v = .int .i64 (n : Int)
  | 2 => v = .int .i64 (i : Int)
  | 3 => v = .string (strOf l)
  | 4 => ∃ g : Nat, v = .slice (some ⟨g, 0, none⟩) 0 0
  | 5 => v = .slice o m cap
  | 6 => ∃ (q : Addr) (c : Nat), v = .slice (some q) m c ∧ HashesAt w (some q) m c P
  | 7 => v = .bool (Tree.check a n i l P)
  | 8 => v = .agg (byteCells a).toArray
  | 9 => v = .int .i64 (n : Int)
  | 10 => v = .int .i64 (i : Int)
  | 11 => v = .string (strOf l)
  | 12 => v = .slice o m cap
  | 13 => v = .bool (Tree.check a n i l P)
  | 14 => v = .bool true
  | 15 => v = .bool true
  | 16 => v = .int .i64 (n : Int)
  | 17 => v = .int .i64 (i : Int)
  | 18 => v = .int .i64 (((Tree.sides n i).length : Int))
  | 19 => v = .int .i64 (n : Int)
  | 20 => v = .int .i64 (i : Int)
  | 21 => v = .int .i64 (((Tree.sides n i).length : Int))
  | 22 => v = .bool true
  | 23 => v = .bool true
  | 24 => v = .bool true
  | _ => True

theorem checksV_mono (B n i m cap : Nat) (o : Option Addr) (l a : List UInt8) (P : List (List UInt8)) (jx : Nat) (w w' : World) (v : Value) (hb : Below w.heap.size w w') (h : checksV w.heap.size n i m cap o l a P jx w v) : checksV w.heap.size n i m cap o l a P jx w' v := by
  match jx, h with
  | 0, h => exact h
  | 1, h => exact h
  | 2, h => exact h
  | 3, h => exact h
  | 4, h => exact h
  | 5, h => exact h
  | 6, h => exact (let ⟨q, c, h1, h2⟩ := h; ⟨q, c, h1, h2.below (Nat.le_refl _) hb⟩)
  | 7, h => exact h
  | 8, h => exact h
  | 9, h => exact h
  | 10, h => exact h
  | 11, h => exact h
  | 12, h => exact h
  | 13, h => exact h
  | 14, h => exact h
  | 15, h => exact h
  | 16, h => exact h
  | 17, h => exact h
  | 18, h => exact h
  | 19, h => exact h
  | 20, h => exact h
  | 21, h => exact h
  | 22, h => exact h
  | 23, h => exact h
  | 24, h => exact h
  | _ + 25, h => exact trivial

/-- What the region's operations leave. -/
def checksV2 (B : Nat) (n i : Int) (m cap : Nat) (o : Option Addr) (l a : List UInt8) (P : List (List UInt8)) (ix : Nat) (w : World) (v : Value) : Prop :=
  match ix with
  | 0 => v = .agg (byteCells a).toArray
  | 1 => v = .int .i64 (n)
  | 2 => v = .int .i64 (i)
  | 3 => v = .string (strOf l)
  | 4 => ∃ g : Nat, v = .slice (some ⟨g, 0, none⟩) 0 0
  | 5 => v = .slice o m cap
  | 6 => ∃ (q : Addr) (c : Nat), v = .slice (some q) m c ∧ HashesAt w (some q) m c P
  | 7 => v = .bool false
  | 8 => v = .agg (byteCells a).toArray
  | 9 => v = .int .i64 (n)
  | 10 => v = .int .i64 (i)
  | 11 => v = .string (strOf l)
  | 12 => v = .slice o m cap
  | 13 => v = .bool false
  | 14 => v = .bool true
  | 15 => v = .bool true
  | 16 => v = .int .i64 (n)
  | 17 => v = .int .i64 (i)
  | 18 => v = .int .i64 (0)
  | 19 => v = .int .i64 (n)
  | 20 => v = .int .i64 (i)
  | 21 => v = .int .i64 (0)
  | 22 => v = .bool true
  | 23 => v = .bool true
  | 24 => v = .bool true
  | _ => True

theorem checksV2_mono (B : Nat) (n i : Int) (m cap : Nat) (o : Option Addr) (l a : List UInt8) (P : List (List UInt8)) (jx : Nat) (w w' : World) (v : Value) (hb : Below w.heap.size w w') (h : checksV2 w.heap.size n i m cap o l a P jx w v) : checksV2 w.heap.size n i m cap o l a P jx w' v := by
  match jx, h with
  | 0, h => exact h
  | 1, h => exact h
  | 2, h => exact h
  | 3, h => exact h
  | 4, h => exact h
  | 5, h => exact h
  | 6, h => exact (let ⟨q, c, h1, h2⟩ := h; ⟨q, c, h1, h2.below (Nat.le_refl _) hb⟩)
  | 7, h => exact h
  | 8, h => exact h
  | 9, h => exact h
  | 10, h => exact h
  | 11, h => exact h
  | 12, h => exact h
  | 13, h => exact h
  | 14, h => exact h
  | 15, h => exact h
  | 16, h => exact h
  | 17, h => exact h
  | 18, h => exact h
  | 19, h => exact h
  | 20, h => exact h
  | 21, h => exact h
  | 22, h => exact h
  | 23, h => exact h
  | 24, h => exact h
  | _ + 25, h => exact trivial

set_option maxRecDepth 100000 in
set_option maxHeartbeats 4000000 in
theorem checks_list (w : World) (a : List UInt8) (ha : a.length = 32) (n : Int) (hn : (Lit.int .i64 n).wf = true) (i : Int) (hi : (Lit.int .i64 i).wf = true) (l : List UInt8) (hl : l.length ≤ 140737488351232) (o : Option Addr) (m cap : Nat) (P : List (List UInt8)) (hP : HashesAt w o m cap P) (hL : Laid w) :
    Calls Tryd.prog 6 #[.agg (byteCells a).toArray, .int .i64 n, .int .i64 i, .string (strOf l), .slice o m cap] w fun e w' => e = .returned (.bool true) ∧ Below w.heap.size w w' := by
  have hnb := wf_i64' hn
  have hib := wf_i64' hi
  clear hn hi
  have hst := strOf_size l
  have hPm : P.length = m := hP.1.1
  have hcap : m ≤ cap := hP.1.2.1
  have hmax : cap ≤ 9223372036854775807 := hP.1.2.2.1
  obtain ⟨W0, hW0⟩ : ∃ W0, W0 = w.alloc (.cells (byteCells a).toArray 26) := ⟨_, rfl⟩
  have x5 : W0.heap[w.heap.size]? = some (.cells (byteCells a).toArray 26 (0, 0)) := by rw [hW0]; exact heap_alloc_new w _
  have b0 : Below w.heap.size w W0 := by rw [hW0]; exact (Below.refl _ _).alloc (Nat.le_refl _) _
  have HL := Lib.hid (hL.below b0); clear hL
  have HP0 := Lib.hid (hP.below (Nat.le_refl _) b0); clear hP
  have HW0 := Lib.hid hW0; clear hW0
  have HA := Lib.hid ha; clear ha
  by_cases hg : 200 < l.length ∨ 40 < m
  · go_enter Tryd.func6, Tryd.ntmps6
    go_wp2_with fail
    rw [← HW0.out]
    refine (awake_any W0 HL.out).mono ?_
    rintro e w1 ⟨rfl, b1'⟩
    have HL1 := Lib.hid (HL.out.below b1')
    have b1 := b0.trans (b1'.mono b0.size)
    by_cases h200 : 200 < l.length
    · have ht : decide ((200 : Int) < (l.length : Int)) = true := decide_eq_true (by omega)
      go_wp2_with fail
      refine (awake_any w1 HL1.out).mono ?_
      rintro e w2 ⟨rfl, b2⟩
      go_wp2_with fail
      go_ret
      exact ⟨rfl, b1.trans (b2.mono b1.size)⟩
    · have ht : decide ((200 : Int) < (l.length : Int)) = false := decide_eq_false (by omega)
      have ht2 : decide ((40 : Int) < (m : Int)) = true := decide_eq_true (by omega)
      go_wp2_with fail
      refine (awake_any w1 HL1.out).mono ?_
      rintro e w2 ⟨rfl, b2⟩
      go_wp2_with fail
      go_ret
      exact ⟨rfl, b1.trans (b2.mono b1.size)⟩
  · have h200 : ¬ 200 < l.length := fun h => hg (.inl h)
    have h40 : ¬ 40 < m := fun h => hg (.inr h)
    clear hg
    have ht : decide ((200 : Int) < (l.length : Int)) = false := decide_eq_false (by omega)
    have ht2 : decide ((40 : Int) < (m : Int)) = false := decide_eq_false (by omega)
    go_enter Tryd.func6, Tryd.ntmps6
    go_wp2_with fail
    rw [← HW0.out]
    refine (awake_any W0 HL.out).mono ?_
    rintro e w1 ⟨rfl, b1'⟩
    have b1 := b0.trans (b1'.mono b0.size)
    have HL1 := Lib.hid (HL.out.below b1')
    have X5 := Lib.hid ((b1'.block _ (lt_of_block x5)).trans x5)
    have HP := Lib.hid (HP0.out.below (Nat.le_refl _) b1')
    clear x5 HW0 HL b0 b1' HP0
    go_wp2_with fail
    rcases hbad : badSide n i with _ | _
    · have hb3 : n ≤ 1073741824 ∧ 0 ≤ i ∧ i < n := by
        unfold badSide at hbad
        simp only [Bool.or_eq_false_iff, decide_eq_false_iff_not] at hbad
        omega
      obtain ⟨n, rfl⟩ : ∃ k : Nat, n = (k : Int) := ⟨n.toNat, by omega⟩
      obtain ⟨i, rfl⟩ : ∃ k : Nat, i = (k : Int) := ⟨i.toNat, by omega⟩
      have hin : i < n := by omega
      have hn30 : n ≤ 1073741824 := by omega
      clear hbad hb3 hnb hib
      refine wp_region_rel [[], [], [], [], [], [], [4, 5], [0, 1, 2, 3, 6], [], [], [], [], [], [8, 9, 10, 11, 12], [7, 13], [14], [15], [15], [15, 16, 17], [15], [15], [15, 19, 20], [15, 18, 21], [15, 22], [23]] (checksV w.heap.size n i m cap o l a P) 48 (by kernel_rfl) (by kernel_rfl) (by kernel_rfl) (checksV_mono w.heap.size n i m cap o l a P) ?_ ?_
      · intro ix op hi w2 b2 vs hv
        have him : ix < 25 := (List.getElem?_eq_some_iff.1 hi).1
        have hL2 := HL1.out.below b2
        match ix, him, hi with
        | 0, _, hi =>
          obtain rfl := Option.some.inj hi
          simp only [relF, List.getD_cons_zero, List.getD_cons_succ, List.foldl_cons, List.foldl_nil, dstAt, List.getElem?_cons_zero, List.getElem?_cons_succ, Option.bind_some]
          go_wp2_with ((with_reducible show wpList _ _ _ (⟨some 24, _, _, _, _, _⟩ :: _) _ _); refine wpList_load_hash (op := ⟨some 24, _, _, _, _, _⟩) (by kernel_rfl) _ rfl w.heap.size rfl a HA.out _ _ ((b2.block _ (lt_of_block X5.out)).trans X5.out) ?_)
          exact ⟨rfl, Below.refl _ _, rfl, rfl⟩
        | 1, _, hi =>
          obtain rfl := Option.some.inj hi
          simp only [relF, List.getD_cons_zero, List.getD_cons_succ, List.foldl_cons, List.foldl_nil, dstAt, List.getElem?_cons_zero, List.getElem?_cons_succ, Option.bind_some]
          go_wp2_with fail
          exact ⟨rfl, Below.refl _ _, rfl, rfl⟩
        | 2, _, hi =>
          obtain rfl := Option.some.inj hi
          simp only [relF, List.getD_cons_zero, List.getD_cons_succ, List.foldl_cons, List.foldl_nil, dstAt, List.getElem?_cons_zero, List.getElem?_cons_succ, Option.bind_some]
          go_wp2_with fail
          exact ⟨rfl, Below.refl _ _, rfl, rfl⟩
        | 3, _, hi =>
          obtain rfl := Option.some.inj hi
          simp only [relF, List.getD_cons_zero, List.getD_cons_succ, List.foldl_cons, List.foldl_nil, dstAt, List.getElem?_cons_zero, List.getElem?_cons_succ, Option.bind_some]
          go_wp2_with fail
          exact ⟨rfl, Below.refl _ _, rfl, rfl⟩
        | 4, _, hi =>
          obtain rfl := Option.some.inj hi
          simp only [relF, List.getD_cons_zero, List.getD_cons_succ, List.foldl_cons, List.foldl_nil, dstAt, List.getElem?_cons_zero, List.getElem?_cons_succ, Option.bind_some]
          go_wp2_with fail
          exact ⟨rfl, (Below.refl _ _).alloc (Nat.le_refl _) _, rfl, w2.heap.size, rfl⟩
        | 5, _, hi =>
          obtain rfl := Option.some.inj hi
          simp only [relF, List.getD_cons_zero, List.getD_cons_succ, List.foldl_cons, List.foldl_nil, dstAt, List.getElem?_cons_zero, List.getElem?_cons_succ, Option.bind_some]
          go_wp2_with fail
          exact ⟨rfl, Below.refl _ _, rfl, rfl⟩
        | 6, _, hi =>
          obtain rfl := Option.some.inj hi
          obtain ⟨g4, e4⟩ := hv 4 (by decide)
          have h5 : vs 5 = _ := hv 5 (by decide)
          obtain ⟨q, cc, W, hrun, hs, hbb⟩ := HashesAt.copy (HP.out.below (Nat.le_refl _) b2) (by omega) ⟨g4, 0, none⟩
          simp only [relF, List.getD_cons_zero, List.getD_cons_succ, List.foldl_cons, List.foldl_nil, dstAt, List.getElem?_cons_zero, List.getElem?_cons_succ, Option.bind_some]
          go_frame
          rw [e4, h5]
          go_wp2_with ((with_reducible show wpList _ _ _ (⟨some 30, _, _, _, _, _⟩ :: _) _ _); refine wpList_append_ran (by kernel_rfl) _ _ _ rfl _ _ rfl rfl hrun ?_)
          exact ⟨rfl, hbb, rfl, q, cc, rfl, hs⟩
        | 7, _, hi =>
          obtain rfl := Option.some.inj hi
          have h0 : vs 0 = _ := hv 0 (by decide)
          have h1 : vs 1 = _ := hv 1 (by decide)
          have h2 : vs 2 = _ := hv 2 (by decide)
          have h3 : vs 3 = _ := hv 3 (by decide)
          obtain ⟨q6, c6, e6, s6⟩ := hv 6 (by decide)
          simp only [relF, List.getD_cons_zero, List.getD_cons_succ, List.foldl_cons, List.foldl_nil, dstAt, List.getElem?_cons_zero, List.getElem?_cons_succ, Option.bind_some]
          go_frame
          rw [h0, h1, h2, h3, e6]
          go_wp2_with fail
          refine (treeCheck_any w2 a HA.out n i (by omega) (by omega) l (by omega) _ _ _ P s6 hL2).mono ?_
          rintro e w3 ⟨rfl, b3⟩
          go_wp2_with fail
          exact ⟨rfl, b3, rfl, rfl⟩
        | 8, _, hi =>
          obtain rfl := Option.some.inj hi
          simp only [relF, List.getD_cons_zero, List.getD_cons_succ, List.foldl_cons, List.foldl_nil, dstAt, List.getElem?_cons_zero, List.getElem?_cons_succ, Option.bind_some]
          go_wp2_with ((with_reducible show wpList _ _ _ (⟨some 32, _, _, _, _, _⟩ :: _) _ _); refine wpList_load_hash (op := ⟨some 32, _, _, _, _, _⟩) (by kernel_rfl) _ rfl w.heap.size rfl a HA.out _ _ ((b2.block _ (lt_of_block X5.out)).trans X5.out) ?_)
          exact ⟨rfl, Below.refl _ _, rfl, rfl⟩
        | 9, _, hi =>
          obtain rfl := Option.some.inj hi
          simp only [relF, List.getD_cons_zero, List.getD_cons_succ, List.foldl_cons, List.foldl_nil, dstAt, List.getElem?_cons_zero, List.getElem?_cons_succ, Option.bind_some]
          go_wp2_with fail
          exact ⟨rfl, Below.refl _ _, rfl, rfl⟩
        | 10, _, hi =>
          obtain rfl := Option.some.inj hi
          simp only [relF, List.getD_cons_zero, List.getD_cons_succ, List.foldl_cons, List.foldl_nil, dstAt, List.getElem?_cons_zero, List.getElem?_cons_succ, Option.bind_some]
          go_wp2_with fail
          exact ⟨rfl, Below.refl _ _, rfl, rfl⟩
        | 11, _, hi =>
          obtain rfl := Option.some.inj hi
          simp only [relF, List.getD_cons_zero, List.getD_cons_succ, List.foldl_cons, List.foldl_nil, dstAt, List.getElem?_cons_zero, List.getElem?_cons_succ, Option.bind_some]
          go_wp2_with fail
          exact ⟨rfl, Below.refl _ _, rfl, rfl⟩
        | 12, _, hi =>
          obtain rfl := Option.some.inj hi
          simp only [relF, List.getD_cons_zero, List.getD_cons_succ, List.foldl_cons, List.foldl_nil, dstAt, List.getElem?_cons_zero, List.getElem?_cons_succ, Option.bind_some]
          go_wp2_with fail
          exact ⟨rfl, Below.refl _ _, rfl, rfl⟩
        | 13, _, hi =>
          obtain rfl := Option.some.inj hi
          have h8 : vs 8 = _ := hv 8 (by decide)
          have h9 : vs 9 = _ := hv 9 (by decide)
          have h10 : vs 10 = _ := hv 10 (by decide)
          have h11 : vs 11 = _ := hv 11 (by decide)
          have h12 : vs 12 = _ := hv 12 (by decide)
          simp only [relF, List.getD_cons_zero, List.getD_cons_succ, List.foldl_cons, List.foldl_nil, dstAt, List.getElem?_cons_zero, List.getElem?_cons_succ, Option.bind_some]
          go_frame
          rw [h8, h9, h10, h11, h12]
          go_wp2_with fail
          refine (refCheck_any w2 a HA.out n i (by omega) (by omega) l (by omega) _ _ _ P (HP.out.below (Nat.le_refl _) b2)).mono ?_
          rintro e w3 ⟨rfl, b3⟩
          go_wp2_with fail
          exact ⟨rfl, b3, rfl, rfl⟩
        | 14, _, hi =>
          obtain rfl := Option.some.inj hi
          have h7 : vs 7 = _ := hv 7 (by decide)
          have h13 : vs 13 = _ := hv 13 (by decide)
          simp only [relF, List.getD_cons_zero, List.getD_cons_succ, List.foldl_cons, List.foldl_nil, dstAt, List.getElem?_cons_zero, List.getElem?_cons_succ, Option.bind_some]
          go_frame
          rw [h7, h13]
          go_wp2_with fail
          exact ⟨rfl, Below.refl _ _, rfl, by first | rfl | (show slotOf _ _ = _; simp [slotOf])⟩
        | 15, _, hi =>
          obtain rfl := Option.some.inj hi
          have h14 : vs 14 = _ := hv 14 (by decide)
          simp only [relF, List.getD_cons_zero, List.getD_cons_succ, List.foldl_cons, List.foldl_nil, dstAt, List.getElem?_cons_zero, List.getElem?_cons_succ, Option.bind_some]
          go_frame
          rw [h14]
          go_wp2_with fail
          exact ⟨rfl, Below.refl _ _, rfl, rfl⟩
        | 16, _, hi =>
          obtain rfl := Option.some.inj hi
          have h15 : vs 15 = _ := hv 15 (by decide)
          simp only [relF, List.getD_cons_zero, List.getD_cons_succ, List.foldl_cons, List.foldl_nil, dstAt, List.getElem?_cons_zero, List.getElem?_cons_succ, Option.bind_some]
          go_frame
          rw [h15]
          go_wp2_with fail
          exact ⟨rfl, Below.refl _ _, rfl, rfl⟩
        | 17, _, hi =>
          obtain rfl := Option.some.inj hi
          have h15 : vs 15 = _ := hv 15 (by decide)
          simp only [relF, List.getD_cons_zero, List.getD_cons_succ, List.foldl_cons, List.foldl_nil, dstAt, List.getElem?_cons_zero, List.getElem?_cons_succ, Option.bind_some]
          go_frame
          rw [h15]
          go_wp2_with fail
          exact ⟨rfl, Below.refl _ _, rfl, rfl⟩
        | 18, _, hi =>
          obtain rfl := Option.some.inj hi
          have h15 : vs 15 = _ := hv 15 (by decide)
          have h16 : vs 16 = _ := hv 16 (by decide)
          have h17 : vs 17 = _ := hv 17 (by decide)
          simp only [relF, List.getD_cons_zero, List.getD_cons_succ, List.foldl_cons, List.foldl_nil, dstAt, List.getElem?_cons_zero, List.getElem?_cons_succ, Option.bind_some]
          go_frame
          rw [h15, h16, h17]
          go_wp2_with fail
          refine (treeDeep_any w2 n i (by omega) (by omega)).mono ?_
          rintro e w3 ⟨rfl, b3⟩
          go_wp2_with fail
          exact ⟨rfl, b3, rfl, rfl⟩
        | 19, _, hi =>
          obtain rfl := Option.some.inj hi
          have h15 : vs 15 = _ := hv 15 (by decide)
          simp only [relF, List.getD_cons_zero, List.getD_cons_succ, List.foldl_cons, List.foldl_nil, dstAt, List.getElem?_cons_zero, List.getElem?_cons_succ, Option.bind_some]
          go_frame
          rw [h15]
          go_wp2_with fail
          exact ⟨rfl, Below.refl _ _, rfl, rfl⟩
        | 20, _, hi =>
          obtain rfl := Option.some.inj hi
          have h15 : vs 15 = _ := hv 15 (by decide)
          simp only [relF, List.getD_cons_zero, List.getD_cons_succ, List.foldl_cons, List.foldl_nil, dstAt, List.getElem?_cons_zero, List.getElem?_cons_succ, Option.bind_some]
          go_frame
          rw [h15]
          go_wp2_with fail
          exact ⟨rfl, Below.refl _ _, rfl, rfl⟩
        | 21, _, hi =>
          obtain rfl := Option.some.inj hi
          have h15 : vs 15 = _ := hv 15 (by decide)
          have h19 : vs 19 = _ := hv 19 (by decide)
          have h20 : vs 20 = _ := hv 20 (by decide)
          simp only [relF, List.getD_cons_zero, List.getD_cons_succ, List.foldl_cons, List.foldl_nil, dstAt, List.getElem?_cons_zero, List.getElem?_cons_succ, Option.bind_some]
          go_frame
          rw [h15, h19, h20]
          go_wp2_with fail
          refine (refDeep_any n w2 n i rfl (by omega) (by omega)).mono ?_
          rintro e w3 ⟨rfl, rfl⟩
          go_wp2_with fail
          exact ⟨rfl, Below.refl _ _, rfl, rfl⟩
        | 22, _, hi =>
          obtain rfl := Option.some.inj hi
          have h15 : vs 15 = _ := hv 15 (by decide)
          have h18 : vs 18 = _ := hv 18 (by decide)
          have h21 : vs 21 = _ := hv 21 (by decide)
          simp only [relF, List.getD_cons_zero, List.getD_cons_succ, List.foldl_cons, List.foldl_nil, dstAt, List.getElem?_cons_zero, List.getElem?_cons_succ, Option.bind_some]
          go_frame
          rw [h15, h18, h21]
          go_wp2_with fail
          exact ⟨rfl, Below.refl _ _, rfl, by first | rfl | (show slotOf _ _ = _; simp [slotOf])⟩
        | 23, _, hi =>
          obtain rfl := Option.some.inj hi
          have h15 : vs 15 = _ := hv 15 (by decide)
          have h22 : vs 22 = _ := hv 22 (by decide)
          simp only [relF, List.getD_cons_zero, List.getD_cons_succ, List.foldl_cons, List.foldl_nil, dstAt, List.getElem?_cons_zero, List.getElem?_cons_succ, Option.bind_some]
          go_frame
          rw [h15, h22]
          go_wp2_with fail
          exact ⟨rfl, Below.refl _ _, rfl, rfl⟩
        | 24, _, hi =>
          obtain rfl := Option.some.inj hi
          have h23 : vs 23 = _ := hv 23 (by decide)
          simp only [relF, List.getD_cons_zero, List.getD_cons_succ, List.foldl_cons, List.foldl_nil, dstAt, List.getElem?_cons_zero, List.getElem?_cons_succ, Option.bind_some]
          go_frame
          rw [h23]
          go_wp2_with fail
          exact ⟨rfl, Below.refl _ _, rfl, rfl⟩
        | nx + 25, him, _ => exact absurd him (by omega)
      · intro w2 b2 vs hv
        have hL2 := HL1.out.below b2
        have h24 : vs 24 = _ := hv 24 (by decide)
        simp only [relF, List.drop_succ_cons, List.drop_zero, List.length_cons, List.length_nil, Nat.zero_add, Nat.reduceAdd, List.range, List.range.loop, List.foldl_cons, List.foldl_nil, dstAt, List.getElem?_cons_zero, List.getElem?_cons_succ, Option.bind_some]
        go_frame
        rw [h24]
        go_wp2_with fail
        go_ret
        exact ⟨rfl, b1.trans (b2.mono b1.size)⟩
    · refine wp_region_rel [[], [], [], [], [], [], [4, 5], [0, 1, 2, 3, 6], [], [], [], [], [], [8, 9, 10, 11, 12], [7, 13], [14], [15], [15], [15, 16, 17], [15], [15], [15, 19, 20], [15, 18, 21], [15, 22], [23]] (checksV2 w.heap.size n i m cap o l a P) 48 (by kernel_rfl) (by kernel_rfl) (by kernel_rfl) (checksV2_mono w.heap.size n i m cap o l a P) ?_ ?_
      · intro ix op hi w2 b2 vs hv
        have him : ix < 25 := (List.getElem?_eq_some_iff.1 hi).1
        have hL2 := HL1.out.below b2
        match ix, him, hi with
        | 0, _, hi =>
          obtain rfl := Option.some.inj hi
          simp only [relF, List.getD_cons_zero, List.getD_cons_succ, List.foldl_cons, List.foldl_nil, dstAt, List.getElem?_cons_zero, List.getElem?_cons_succ, Option.bind_some]
          go_wp2_with ((with_reducible show wpList _ _ _ (⟨some 24, _, _, _, _, _⟩ :: _) _ _); refine wpList_load_hash (op := ⟨some 24, _, _, _, _, _⟩) (by kernel_rfl) _ rfl w.heap.size rfl a HA.out _ _ ((b2.block _ (lt_of_block X5.out)).trans X5.out) ?_)
          exact ⟨rfl, Below.refl _ _, rfl, rfl⟩
        | 1, _, hi =>
          obtain rfl := Option.some.inj hi
          simp only [relF, List.getD_cons_zero, List.getD_cons_succ, List.foldl_cons, List.foldl_nil, dstAt, List.getElem?_cons_zero, List.getElem?_cons_succ, Option.bind_some]
          go_wp2_with fail
          exact ⟨rfl, Below.refl _ _, rfl, rfl⟩
        | 2, _, hi =>
          obtain rfl := Option.some.inj hi
          simp only [relF, List.getD_cons_zero, List.getD_cons_succ, List.foldl_cons, List.foldl_nil, dstAt, List.getElem?_cons_zero, List.getElem?_cons_succ, Option.bind_some]
          go_wp2_with fail
          exact ⟨rfl, Below.refl _ _, rfl, rfl⟩
        | 3, _, hi =>
          obtain rfl := Option.some.inj hi
          simp only [relF, List.getD_cons_zero, List.getD_cons_succ, List.foldl_cons, List.foldl_nil, dstAt, List.getElem?_cons_zero, List.getElem?_cons_succ, Option.bind_some]
          go_wp2_with fail
          exact ⟨rfl, Below.refl _ _, rfl, rfl⟩
        | 4, _, hi =>
          obtain rfl := Option.some.inj hi
          simp only [relF, List.getD_cons_zero, List.getD_cons_succ, List.foldl_cons, List.foldl_nil, dstAt, List.getElem?_cons_zero, List.getElem?_cons_succ, Option.bind_some]
          go_wp2_with fail
          exact ⟨rfl, (Below.refl _ _).alloc (Nat.le_refl _) _, rfl, w2.heap.size, rfl⟩
        | 5, _, hi =>
          obtain rfl := Option.some.inj hi
          simp only [relF, List.getD_cons_zero, List.getD_cons_succ, List.foldl_cons, List.foldl_nil, dstAt, List.getElem?_cons_zero, List.getElem?_cons_succ, Option.bind_some]
          go_wp2_with fail
          exact ⟨rfl, Below.refl _ _, rfl, rfl⟩
        | 6, _, hi =>
          obtain rfl := Option.some.inj hi
          obtain ⟨g4, e4⟩ := hv 4 (by decide)
          have h5 : vs 5 = _ := hv 5 (by decide)
          obtain ⟨q, cc, W, hrun, hs, hbb⟩ := HashesAt.copy (HP.out.below (Nat.le_refl _) b2) (by omega) ⟨g4, 0, none⟩
          simp only [relF, List.getD_cons_zero, List.getD_cons_succ, List.foldl_cons, List.foldl_nil, dstAt, List.getElem?_cons_zero, List.getElem?_cons_succ, Option.bind_some]
          go_frame
          rw [e4, h5]
          go_wp2_with ((with_reducible show wpList _ _ _ (⟨some 30, _, _, _, _, _⟩ :: _) _ _); refine wpList_append_ran (by kernel_rfl) _ _ _ rfl _ _ rfl rfl hrun ?_)
          exact ⟨rfl, hbb, rfl, q, cc, rfl, hs⟩
        | 7, _, hi =>
          obtain rfl := Option.some.inj hi
          have h0 : vs 0 = _ := hv 0 (by decide)
          have h1 : vs 1 = _ := hv 1 (by decide)
          have h2 : vs 2 = _ := hv 2 (by decide)
          have h3 : vs 3 = _ := hv 3 (by decide)
          obtain ⟨q6, c6, e6, s6⟩ := hv 6 (by decide)
          simp only [relF, List.getD_cons_zero, List.getD_cons_succ, List.foldl_cons, List.foldl_nil, dstAt, List.getElem?_cons_zero, List.getElem?_cons_succ, Option.bind_some]
          go_frame
          rw [h0, h1, h2, h3, e6]
          go_wp2_with fail
          refine (treeCheck_bad w2 a HA.out _ _ hbad _ _ _ _).mono ?_
          rintro e w3 ⟨rfl, b3⟩
          go_wp2_with fail
          exact ⟨rfl, b3, rfl, rfl⟩
        | 8, _, hi =>
          obtain rfl := Option.some.inj hi
          simp only [relF, List.getD_cons_zero, List.getD_cons_succ, List.foldl_cons, List.foldl_nil, dstAt, List.getElem?_cons_zero, List.getElem?_cons_succ, Option.bind_some]
          go_wp2_with ((with_reducible show wpList _ _ _ (⟨some 32, _, _, _, _, _⟩ :: _) _ _); refine wpList_load_hash (op := ⟨some 32, _, _, _, _, _⟩) (by kernel_rfl) _ rfl w.heap.size rfl a HA.out _ _ ((b2.block _ (lt_of_block X5.out)).trans X5.out) ?_)
          exact ⟨rfl, Below.refl _ _, rfl, rfl⟩
        | 9, _, hi =>
          obtain rfl := Option.some.inj hi
          simp only [relF, List.getD_cons_zero, List.getD_cons_succ, List.foldl_cons, List.foldl_nil, dstAt, List.getElem?_cons_zero, List.getElem?_cons_succ, Option.bind_some]
          go_wp2_with fail
          exact ⟨rfl, Below.refl _ _, rfl, rfl⟩
        | 10, _, hi =>
          obtain rfl := Option.some.inj hi
          simp only [relF, List.getD_cons_zero, List.getD_cons_succ, List.foldl_cons, List.foldl_nil, dstAt, List.getElem?_cons_zero, List.getElem?_cons_succ, Option.bind_some]
          go_wp2_with fail
          exact ⟨rfl, Below.refl _ _, rfl, rfl⟩
        | 11, _, hi =>
          obtain rfl := Option.some.inj hi
          simp only [relF, List.getD_cons_zero, List.getD_cons_succ, List.foldl_cons, List.foldl_nil, dstAt, List.getElem?_cons_zero, List.getElem?_cons_succ, Option.bind_some]
          go_wp2_with fail
          exact ⟨rfl, Below.refl _ _, rfl, rfl⟩
        | 12, _, hi =>
          obtain rfl := Option.some.inj hi
          simp only [relF, List.getD_cons_zero, List.getD_cons_succ, List.foldl_cons, List.foldl_nil, dstAt, List.getElem?_cons_zero, List.getElem?_cons_succ, Option.bind_some]
          go_wp2_with fail
          exact ⟨rfl, Below.refl _ _, rfl, rfl⟩
        | 13, _, hi =>
          obtain rfl := Option.some.inj hi
          have h8 : vs 8 = _ := hv 8 (by decide)
          have h9 : vs 9 = _ := hv 9 (by decide)
          have h10 : vs 10 = _ := hv 10 (by decide)
          have h11 : vs 11 = _ := hv 11 (by decide)
          have h12 : vs 12 = _ := hv 12 (by decide)
          simp only [relF, List.getD_cons_zero, List.getD_cons_succ, List.foldl_cons, List.foldl_nil, dstAt, List.getElem?_cons_zero, List.getElem?_cons_succ, Option.bind_some]
          go_frame
          rw [h8, h9, h10, h11, h12]
          go_wp2_with fail
          refine (refCheck_bad w2 a _ _ hbad _ _ _ _).mono ?_
          rintro e w3 ⟨rfl, b3⟩
          go_wp2_with fail
          exact ⟨rfl, b3, rfl, rfl⟩
        | 14, _, hi =>
          obtain rfl := Option.some.inj hi
          have h7 : vs 7 = _ := hv 7 (by decide)
          have h13 : vs 13 = _ := hv 13 (by decide)
          simp only [relF, List.getD_cons_zero, List.getD_cons_succ, List.foldl_cons, List.foldl_nil, dstAt, List.getElem?_cons_zero, List.getElem?_cons_succ, Option.bind_some]
          go_frame
          rw [h7, h13]
          go_wp2_with fail
          exact ⟨rfl, Below.refl _ _, rfl, by first | rfl | (show slotOf _ _ = _; simp [slotOf])⟩
        | 15, _, hi =>
          obtain rfl := Option.some.inj hi
          have h14 : vs 14 = _ := hv 14 (by decide)
          simp only [relF, List.getD_cons_zero, List.getD_cons_succ, List.foldl_cons, List.foldl_nil, dstAt, List.getElem?_cons_zero, List.getElem?_cons_succ, Option.bind_some]
          go_frame
          rw [h14]
          go_wp2_with fail
          exact ⟨rfl, Below.refl _ _, rfl, rfl⟩
        | 16, _, hi =>
          obtain rfl := Option.some.inj hi
          have h15 : vs 15 = _ := hv 15 (by decide)
          simp only [relF, List.getD_cons_zero, List.getD_cons_succ, List.foldl_cons, List.foldl_nil, dstAt, List.getElem?_cons_zero, List.getElem?_cons_succ, Option.bind_some]
          go_frame
          rw [h15]
          go_wp2_with fail
          exact ⟨rfl, Below.refl _ _, rfl, rfl⟩
        | 17, _, hi =>
          obtain rfl := Option.some.inj hi
          have h15 : vs 15 = _ := hv 15 (by decide)
          simp only [relF, List.getD_cons_zero, List.getD_cons_succ, List.foldl_cons, List.foldl_nil, dstAt, List.getElem?_cons_zero, List.getElem?_cons_succ, Option.bind_some]
          go_frame
          rw [h15]
          go_wp2_with fail
          exact ⟨rfl, Below.refl _ _, rfl, rfl⟩
        | 18, _, hi =>
          obtain rfl := Option.some.inj hi
          have h15 : vs 15 = _ := hv 15 (by decide)
          have h16 : vs 16 = _ := hv 16 (by decide)
          have h17 : vs 17 = _ := hv 17 (by decide)
          simp only [relF, List.getD_cons_zero, List.getD_cons_succ, List.foldl_cons, List.foldl_nil, dstAt, List.getElem?_cons_zero, List.getElem?_cons_succ, Option.bind_some]
          go_frame
          rw [h15, h16, h17]
          go_wp2_with fail
          refine (treeDeep_bad w2 _ _ hbad).mono ?_
          rintro e w3 ⟨rfl, b3⟩
          go_wp2_with fail
          exact ⟨rfl, b3, rfl, rfl⟩
        | 19, _, hi =>
          obtain rfl := Option.some.inj hi
          have h15 : vs 15 = _ := hv 15 (by decide)
          simp only [relF, List.getD_cons_zero, List.getD_cons_succ, List.foldl_cons, List.foldl_nil, dstAt, List.getElem?_cons_zero, List.getElem?_cons_succ, Option.bind_some]
          go_frame
          rw [h15]
          go_wp2_with fail
          exact ⟨rfl, Below.refl _ _, rfl, rfl⟩
        | 20, _, hi =>
          obtain rfl := Option.some.inj hi
          have h15 : vs 15 = _ := hv 15 (by decide)
          simp only [relF, List.getD_cons_zero, List.getD_cons_succ, List.foldl_cons, List.foldl_nil, dstAt, List.getElem?_cons_zero, List.getElem?_cons_succ, Option.bind_some]
          go_frame
          rw [h15]
          go_wp2_with fail
          exact ⟨rfl, Below.refl _ _, rfl, rfl⟩
        | 21, _, hi =>
          obtain rfl := Option.some.inj hi
          have h15 : vs 15 = _ := hv 15 (by decide)
          have h19 : vs 19 = _ := hv 19 (by decide)
          have h20 : vs 20 = _ := hv 20 (by decide)
          simp only [relF, List.getD_cons_zero, List.getD_cons_succ, List.foldl_cons, List.foldl_nil, dstAt, List.getElem?_cons_zero, List.getElem?_cons_succ, Option.bind_some]
          go_frame
          rw [h15, h19, h20]
          go_wp2_with fail
          refine (refDeep_bad w2 _ _ hbad).mono ?_
          rintro e w3 ⟨rfl, rfl⟩
          go_wp2_with fail
          exact ⟨rfl, Below.refl _ _, rfl, rfl⟩
        | 22, _, hi =>
          obtain rfl := Option.some.inj hi
          have h15 : vs 15 = _ := hv 15 (by decide)
          have h18 : vs 18 = _ := hv 18 (by decide)
          have h21 : vs 21 = _ := hv 21 (by decide)
          simp only [relF, List.getD_cons_zero, List.getD_cons_succ, List.foldl_cons, List.foldl_nil, dstAt, List.getElem?_cons_zero, List.getElem?_cons_succ, Option.bind_some]
          go_frame
          rw [h15, h18, h21]
          go_wp2_with fail
          exact ⟨rfl, Below.refl _ _, rfl, by first | rfl | (show slotOf _ _ = _; simp [slotOf])⟩
        | 23, _, hi =>
          obtain rfl := Option.some.inj hi
          have h15 : vs 15 = _ := hv 15 (by decide)
          have h22 : vs 22 = _ := hv 22 (by decide)
          simp only [relF, List.getD_cons_zero, List.getD_cons_succ, List.foldl_cons, List.foldl_nil, dstAt, List.getElem?_cons_zero, List.getElem?_cons_succ, Option.bind_some]
          go_frame
          rw [h15, h22]
          go_wp2_with fail
          exact ⟨rfl, Below.refl _ _, rfl, rfl⟩
        | 24, _, hi =>
          obtain rfl := Option.some.inj hi
          have h23 : vs 23 = _ := hv 23 (by decide)
          simp only [relF, List.getD_cons_zero, List.getD_cons_succ, List.foldl_cons, List.foldl_nil, dstAt, List.getElem?_cons_zero, List.getElem?_cons_succ, Option.bind_some]
          go_frame
          rw [h23]
          go_wp2_with fail
          exact ⟨rfl, Below.refl _ _, rfl, rfl⟩
        | nx + 25, him, _ => exact absurd him (by omega)
      · intro w2 b2 vs hv
        have hL2 := HL1.out.below b2
        have h24 : vs 24 = _ := hv 24 (by decide)
        simp only [relF, List.drop_succ_cons, List.drop_zero, List.length_cons, List.length_nil, Nat.zero_add, Nat.reduceAdd, List.range, List.range.loop, List.foldl_cons, List.foldl_nil, dstAt, List.getElem?_cons_zero, List.getElem?_cons_succ, Option.bind_some]
        go_frame
        rw [h24]
        go_wp2_with fail
        go_ret
        exact ⟨rfl, b1.trans (b2.mono b1.size)⟩

theorem checks_law (w : World) (a : List UInt8) (ha : a.length = 32) (n : Int) (hn : (Lit.int .i64 n).wf = true) (i : Int) (hi : (Lit.int .i64 i).wf = true) (s : ByteArray) (hs : s.size ≤ 140737488351232) (o : Option Addr) (m cap : Nat) (P : List (List UInt8)) (hP : RowsAt w o m cap 32 byteCells P) (h32 : ∀ p ∈ P, p.length = 32) (hL : Laid w) :
    Calls Tryd.prog 6 #[.agg (byteCells a).toArray, .int .i64 n, .int .i64 i, .string s, .slice o m cap] w fun e w' => e = .returned (.bool true) ∧ Below w.heap.size w w' := by
  have h := checks_list w a ha n hn i hi s.data.toList (by rw [← strOf_size, strOf_data]; exact hs) o m cap P ⟨hP, h32⟩ hL
  rwa [strOf_data] at h

end Go.Proofs.YtbgahpbnlogdnaaDoor
