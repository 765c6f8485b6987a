/- The walk of the law ManyFewer. -/
import Derived.Test.YtgheacegjgaobaaDoorKG14a
namespace Go.Proofs.YtgheacegjgaobaaDoor
open Go.RowKit
set_option linter.unusedSimpArgs false
set_option linter.unusedVariables false

/-- As many sums as for one of each, so far. -/
def sumK (n : Nat) (B : List Nat) (j : Nat) : Nat := ((B.take j).map fun a => (Tree.sides n a).length).sum
theorem sumK_zero (n : Nat) (B : List Nat) : sumK n B 0 = 0 := rfl
theorem sumK_succ {n : Nat} {B : List Nat} {j a : Nat} (h : B[j]? = some a) : sumK n B (j + 1) = sumK n B j + (Tree.sides n a).length := by
  unfold sumK
  rw [List.take_add_one, h, List.map_append, List.sum_append]
  simp
theorem sumK_all {n : Nat} {B : List Nat} {j : Nat} (h : B.length = j) : sumK n B j = (B.map fun a => (Tree.sides n a).length).sum := by
  unfold sumK
  rw [List.take_of_length_le (by omega)]
theorem size_single {n a : Nat} (hn : n ≤ 65536) (h : a < n) : sizeI (n : Int) [(a : Int)] = (Tree.sides n a).length := by
  have := sizeI_nat (k := n) (B := [a]) hn (by simp) (by simpa using h)
  rw [show ([a].map Int.ofNat) = [(a : Int)] from rfl] at this
  rw [this, Many.tops_single a n 0 (Nat.zero_le _) (by omega), Nat.sub_zero]
theorem fewer_fact {n : Nat} {B : List Nat} (h1 : B.Pairwise (· < ·)) (h2 : ∀ a ∈ B, a < n) : (Many.tops B 0 n).length ≤ (B.map fun a => (Tree.sides n a).length).sum ∨ B.length = 0 ∧ (Many.tops B 0 n).length = 1 := by
  by_cases hB : B = []
  · subst hB
    right
    rw [Many.tops_none rfl]
    exact ⟨rfl, rfl⟩
  · left
    have h := Many.tops_fewer h1 n 0 (by rw [Nat.zero_add, Many.inr_all h2]; exact hB)
    rw [Nat.zero_add, Many.inr_all h2] at h
    simpa using h

/-- What the region's operations leave. -/
def mfwV (bA off k j a mA cA : Nat) (ix : Nat) (w : World) (v : Value) : Prop :=
  match ix with
  | 0 => v = .int .i64 (k : Int)
  | 1 => v = .slice (some ⟨bA, off, none⟩) mA cA
  | 2 => v = .int .i64 (j : Int)
  | 3 => v = .pointer (some ⟨bA, off + j, none⟩)
  | 4 => v = .int .i64 (a : Int)
  | 5 => ∃ g : Nat, v = .slice (some ⟨g, 0, none⟩) 1 1 ∧ IntsAt w (some ⟨g, 0, none⟩) 1 1 [(a : Int)]
  | 6 => v = .int .i64 ((Tree.sides k a).length : Int)
  | 7 => v = .int .i64 (k : Int)
  | 8 => v = .slice (some ⟨bA, off, none⟩) mA cA
  | 9 => v = .int .i64 (j : Int)
  | 10 => v = .pointer (some ⟨bA, off + j, none⟩)
  | 11 => v = .int .i64 (a : Int)
  | 12 => v = .int .i64 (((Tree.sides k a).length : Int))
  | 13 => v = .bool false
  | _ => True

theorem mfwV_mono (bA off k j a mA cA : Nat) (jx : Nat) (w w' : World) (v : Value) (hb : Below w.heap.size w w') (h : mfwV bA off k j a mA cA jx w v) : mfwV bA off k j a mA cA jx w' v := by
  match jx, h with
  | 0, h => exact h
  | 1, h => exact h
  | 2, h => exact h
  | 3, h => exact h
  | 4, h => exact h
  | 5, h => exact (let ⟨g, h1, h2⟩ := h; ⟨g, h1, h2.below (Nat.le_refl _) hb⟩)
  | 6, h => exact h
  | 7, h => exact h
  | 8, h => exact h
  | 9, h => exact h
  | 10, h => exact h
  | 11, h => exact h
  | 12, h => exact h
  | 13, h => exact h
  | _ + 14, h => exact trivial

set_option maxRecDepth 100000 in
set_option maxHeartbeats 4000000 in
theorem mfewer_list (w : World) (n : Int) (hn : (Lit.int .i64 n).wf = true) (oA : Option Addr) (mA cA : Nat) (A : List Int) (hA : IntsAt w oA mA cA A) (hL : Laid w) :
    Calls Tryd.prog 8 #[.int .i64 n, .slice oA mA cA] w fun e w' => e = .returned (.bool true) ∧ Below w.heap.size w w' := by
  have hbn := wf_i64' hn
  have hmA : A.length = mA := hA.len
  have hcA := hA.cap
  have hyA := hA.max
  have HA := Lib.hid hA; clear hA
  have HL := Lib.hid hL; clear hL
  go_enter Tryd.func8, Tryd.ntmps8
  go_wp2_with fail
  refine (awake4_any _ HL.out).mono ?_
  rintro e w1 ⟨rfl, b1⟩
  replace HA := Lib.hid (HA.out.below (Nat.le_refl _) b1)
  replace HL := Lib.hid (HL.out.below b1)
  by_cases hg : n < 1
  · have ht : decide ((n : Int) < (1 : Int)) = true := decide_eq_true (by omega)
    go_wp2_with fail
    refine (awake4_any _ HL.out).mono ?_
    rintro e w2 ⟨rfl, b2⟩
    go_wp2_with fail
    go_ret
    exact ⟨rfl, b1.trans (b2.mono b1.size)⟩
  · have ht : decide ((n : Int) < (1 : Int)) = false := decide_eq_false (by omega)
    by_cases hg : 100 < n
    · have ht : decide ((100 : Int) < (n : Int)) = true := decide_eq_true (by omega)
      go_wp2_with fail
      refine (awake4_any _ HL.out).mono ?_
      rintro e w2 ⟨rfl, b2⟩
      go_wp2_with fail
      go_ret
      exact ⟨rfl, b1.trans (b2.mono b1.size)⟩
    · have ht : decide ((100 : Int) < (n : Int)) = false := decide_eq_false (by omega)
      by_cases hg : 30 < mA
      · have ht : decide ((30 : Int) < (mA : Int)) = true := decide_eq_true (by omega)
        go_wp2_with fail
        refine (awake4_any _ HL.out).mono ?_
        rintro e w2 ⟨rfl, b2⟩
        go_wp2_with fail
        go_ret
        exact ⟨rfl, b1.trans (b2.mono b1.size)⟩
      · have ht : decide ((30 : Int) < (mA : Int)) = false := decide_eq_false (by omega)
        obtain ⟨q2, c2, v2, hrun, hs, dd⟩ := IntsAt.copy (HA.out.below (Nat.le_refl _) ((Below.refl w1.heap.size w1).alloc (Nat.le_refl _) (.cells #[] 3))) (by omega) ⟨w1.heap.size, 0, none⟩
        have d2 : Below w1.heap.size w1 v2 := ((Below.refl _ _).alloc (Nat.le_refl _) _).trans (dd.mono (by simp))
        have hrun2 := hrun; clear hrun dd
        have C2 := Lib.hid hs; clear hs
        replace HA := Lib.hid (HA.out.below (Nat.le_refl _) d2)
        replace HL := Lib.hid (HL.out.below d2)
        replace b1 := b1.trans (d2.mono b1.size)
        rcases hr : risesB n A with _ | _
        · have hc := manyRises_any v2 n _ _ _ A C2.out
          rw [hr] at hc
          have HC := Lib.hid hc; clear hc hr
          go_wp2_with ((with_reducible show wpList _ _ _ (⟨some 27, _, _, _, _, _⟩ :: _) _ _); refine wpList_append_ran (by kernel_rfl) _ _ _ rfl _ _ rfl rfl hrun2 ?_)
          refine HC.out.mono ?_
          rintro e w3 ⟨rfl, d3⟩
          replace HL := Lib.hid (HL.out.below d3)
          replace b1 := b1.trans (d3.mono b1.size)
          go_wp2_with fail
          refine (awake4_any _ HL.out).mono ?_
          rintro e w4 ⟨rfl, b4⟩
          go_wp2_with fail
          go_ret
          exact ⟨rfl, b1.trans (b4.mono b1.size)⟩
        · have hc := manyRises_any v2 n _ _ _ A C2.out
          rw [hr] at hc
          have HC := Lib.hid hc; clear hc
          obtain ⟨B, hAB, hBP, hBn⟩ := rises_form hr
          clear hr
          obtain ⟨k, rfl⟩ : ∃ k : Nat, n = (k : Int) := ⟨n.toNat, by omega⟩
          have HAB := Lib.hid hAB
          have HBP := Lib.hid hBP; clear hBP
          have HBN : Hid (∀ a ∈ B, a < k) := Lib.hid fun a ha => by have := hBn a ha; omega
          have HBL : Hid (B.length = mA) := Lib.hid (by rw [← hmA, hAB, List.length_map])
          clear hAB hBn
          go_wp2_with ((with_reducible show wpList _ _ _ (⟨some 27, _, _, _, _, _⟩ :: _) _ _); refine wpList_append_ran (by kernel_rfl) _ _ _ rfl _ _ rfl rfl hrun2 ?_)
          refine HC.out.mono ?_
          rintro e w3 ⟨rfl, d3⟩
          clear HC
          go_wp2_with fail
          go_loopw [5, 6] (fun v u wr => ∃ (j S : Nat), j ≤ mA ∧ v = .int .i64 (S : Int) ∧ u = .int .i64 (j : Int) ∧ Hid (S = sumK k B j) ∧ S ≤ 30 * j ∧ Below v2.heap.size v2 wr) (fun _ u _ => mA - (intOf u).toNat)
          case atStart => exact ⟨0, 0, by omega, rfl, rfl, Lib.hid (sumK_zero k B).symm, by omega, d3⟩
          obtain ⟨j, S, hj, rfl, rfl, HS, hSb, Br⟩ := hrel
          by_cases hlt : j < mA
          · obtain ⟨a, ha⟩ : ∃ a, B[j]? = some a := ⟨_, List.getElem?_eq_getElem (by rw [HBL.out]; exact hlt)⟩
            have hak := HBN.out a (List.mem_of_getElem? ha)
            obtain ⟨bA, off, rfl⟩ := HA.out.form (by omega)
            have haj : A[j]? = some (a : Int) := by rw [HAB.out, List.getElem?_map, ha]; rfl
            have HAJ := Lib.hid haj; clear haj
            have hcell := (HA.out.below (Nat.le_refl _) Br).get HAJ.out
            have hsu := sumK_succ (n := k) ha
            have hsz := size_single (by omega) hak
            have hs30 := Tree.sides_len 30 k a hak (by omega)
            have hdp := treeDeep_any wr k a hak (by omega)
            obtain ⟨f, hf⟩ : ∃ f, f = (Tree.sides k a).length := ⟨_, rfl⟩
            have hfb : f ≤ 30 := by omega
            rw [← hf] at hsu hdp
            have HSU := Lib.hid hsu; clear hsu ha
            have HSZ := Lib.hid hsz; clear hsz hs30
            have HDP := Lib.hid hdp; clear hdp
            have t1 : decide ((j : Int) < (mA : Int)) = true := decide_eq_true (by omega)
            have t1' : decide (j < mA) = true := decide_eq_true hlt
            have HS2 : Hid (S + f = sumK k B (j + 1)) := Lib.hid (by rw [HSU.out, ← HS.out])
            clear HS
            go_wp2_with fail
            refine HDP.out.mono ?_
            rintro e w5 ⟨rfl, d5⟩
            have B2 := Br.trans (d5.mono Br.size)
            have HA2 := Lib.hid (HA.out.below (Nat.le_refl _) B2)
            have HL2 := Lib.hid (HL.out.below B2)
            clear HDP
            have hadd : (S : Int) + (f : Int) = ((S + f : Nat) : Int) := by omega
            have HADD := Lib.hid hadd; clear hadd
            have HF := Lib.hid hf; clear hf
            go_wp2_with fail
            have HSC : Hid (S + f ≤ 30 * (j + 1)) := Lib.hid (by omega)
            refine wp_region_rel [[], [], [], [1, 2], [3], [4], [0, 5], [], [], [], [8, 9], [10], [7, 11], [6, 12]] (mfwV bA off k j a mA cA) 77 (by kernel_rfl) (by kernel_rfl) (by kernel_rfl) (mfwV_mono bA off k j a mA cA) ?_ ?_
            · intro ix op hi w2 b2 vs hv
              have him : ix < 14 := (List.getElem?_eq_some_iff.1 hi).1
              have hL2 := HL2.out.below b2
              match ix, him, hi with
              | 0, _, hi =>
                obtain rfl := Option.some.inj hi
                simp only [relF, List.getD_cons_zero, List.getD_cons_succ, List.foldl_cons, List.foldl_nil, dstAt, List.getElem?_cons_zero, List.getElem?_cons_succ, Option.bind_some]
                go_wp2_with fail
                exact ⟨rfl, Below.refl _ _, rfl, rfl⟩
              | 1, _, hi =>
                obtain rfl := Option.some.inj hi
                simp only [relF, List.getD_cons_zero, List.getD_cons_succ, List.foldl_cons, List.foldl_nil, dstAt, List.getElem?_cons_zero, List.getElem?_cons_succ, Option.bind_some]
                go_wp2_with fail
                exact ⟨rfl, Below.refl _ _, rfl, rfl⟩
              | 2, _, hi =>
                obtain rfl := Option.some.inj hi
                simp only [relF, List.getD_cons_zero, List.getD_cons_succ, List.foldl_cons, List.foldl_nil, dstAt, List.getElem?_cons_zero, List.getElem?_cons_succ, Option.bind_some]
                go_wp2_with fail
                exact ⟨rfl, Below.refl _ _, rfl, rfl⟩
              | 3, _, hi =>
                obtain rfl := Option.some.inj hi
                have h1 : vs 1 = _ := hv 1 (by decide)
                have h2 : vs 2 = _ := hv 2 (by decide)
                simp only [relF, List.getD_cons_zero, List.getD_cons_succ, List.foldl_cons, List.foldl_nil, dstAt, List.getElem?_cons_zero, List.getElem?_cons_succ, Option.bind_some]
                go_frame
                rw [h1, h2]
                go_wp2_with fail
                exact ⟨rfl, Below.refl _ _, rfl, rfl⟩
              | 4, _, hi =>
                obtain rfl := Option.some.inj hi
                have h3 : vs 3 = _ := hv 3 (by decide)
                have hcell := (HA2.out.below (Nat.le_refl _) b2).get (i := j) HAJ.out
                simp only [relF, List.getD_cons_zero, List.getD_cons_succ, List.foldl_cons, List.foldl_nil, dstAt, List.getElem?_cons_zero, List.getElem?_cons_succ, Option.bind_some]
                go_frame
                rw [h3]
                go_wp2_with fail
                exact ⟨rfl, Below.refl _ _, rfl, rfl⟩
              | 5, _, hi =>
                obtain rfl := Option.some.inj hi
                have h4 : vs 4 = _ := hv 4 (by decide)
                simp only [relF, List.getD_cons_zero, List.getD_cons_succ, List.foldl_cons, List.foldl_nil, dstAt, List.getElem?_cons_zero, List.getElem?_cons_succ, Option.bind_some]
                go_frame
                rw [h4]
                go_wp2_with fail
                exact ⟨rfl, (Below.refl _ _).alloc (Nat.le_refl _) _, rfl, w2.heap.size, rfl, ints_new w2 [(a : Int)] 1 rfl (by decide)⟩
              | 6, _, hi =>
                obtain rfl := Option.some.inj hi
                have h0 : vs 0 = _ := hv 0 (by decide)
                obtain ⟨g5, e5, s5⟩ := hv 5 (by decide)
                have hrn := manySize_all w2 (k : Int) _ _ _ [(a : Int)] s5 (by decide) hL2
                rw [HSZ.out] at hrn
                simp only [relF, List.getD_cons_zero, List.getD_cons_succ, List.foldl_cons, List.foldl_nil, dstAt, List.getElem?_cons_zero, List.getElem?_cons_succ, Option.bind_some]
                go_frame
                rw [h0, e5]
                go_wp2_with fail
                refine (hrn).mono ?_
                rintro e w3 ⟨rfl, b3⟩
                go_wp2_with fail
                exact ⟨rfl, b3, rfl, rfl⟩
              | 7, _, hi =>
                obtain rfl := Option.some.inj hi
                simp only [relF, List.getD_cons_zero, List.getD_cons_succ, List.foldl_cons, List.foldl_nil, dstAt, List.getElem?_cons_zero, List.getElem?_cons_succ, Option.bind_some]
                go_wp2_with fail
                exact ⟨rfl, Below.refl _ _, rfl, rfl⟩
              | 8, _, hi =>
                obtain rfl := Option.some.inj hi
                simp only [relF, List.getD_cons_zero, List.getD_cons_succ, List.foldl_cons, List.foldl_nil, dstAt, List.getElem?_cons_zero, List.getElem?_cons_succ, Option.bind_some]
                go_wp2_with fail
                exact ⟨rfl, Below.refl _ _, rfl, rfl⟩
              | 9, _, hi =>
                obtain rfl := Option.some.inj hi
                simp only [relF, List.getD_cons_zero, List.getD_cons_succ, List.foldl_cons, List.foldl_nil, dstAt, List.getElem?_cons_zero, List.getElem?_cons_succ, Option.bind_some]
                go_wp2_with fail
                exact ⟨rfl, Below.refl _ _, rfl, rfl⟩
              | 10, _, hi =>
                obtain rfl := Option.some.inj hi
                have h8 : vs 8 = _ := hv 8 (by decide)
                have h9 : vs 9 = _ := hv 9 (by decide)
                simp only [relF, List.getD_cons_zero, List.getD_cons_succ, List.foldl_cons, List.foldl_nil, dstAt, List.getElem?_cons_zero, List.getElem?_cons_succ, Option.bind_some]
                go_frame
                rw [h8, h9]
                go_wp2_with fail
                exact ⟨rfl, Below.refl _ _, rfl, rfl⟩
              | 11, _, hi =>
                obtain rfl := Option.some.inj hi
                have h10 : vs 10 = _ := hv 10 (by decide)
                have hcell := (HA2.out.below (Nat.le_refl _) b2).get (i := j) HAJ.out
                simp only [relF, List.getD_cons_zero, List.getD_cons_succ, List.foldl_cons, List.foldl_nil, dstAt, List.getElem?_cons_zero, List.getElem?_cons_succ, Option.bind_some]
                go_frame
                rw [h10]
                go_wp2_with fail
                exact ⟨rfl, Below.refl _ _, rfl, rfl⟩
              | 12, _, hi =>
                obtain rfl := Option.some.inj hi
                have h7 : vs 7 = _ := hv 7 (by decide)
                have h11 : vs 11 = _ := hv 11 (by decide)
                simp only [relF, List.getD_cons_zero, List.getD_cons_succ, List.foldl_cons, List.foldl_nil, dstAt, List.getElem?_cons_zero, List.getElem?_cons_succ, Option.bind_some]
                go_frame
                rw [h7, h11]
                go_wp2_with fail
                refine (treeDeep_any w2 k a (by omega) (by omega)).mono ?_
                rintro e w3 ⟨rfl, b3⟩
                go_wp2_with fail
                exact ⟨rfl, b3, rfl, rfl⟩
              | 13, _, hi =>
                obtain rfl := Option.some.inj hi
                have h6 : vs 6 = _ := hv 6 (by decide)
                have h12 : vs 12 = _ := hv 12 (by decide)
                simp only [relF, List.getD_cons_zero, List.getD_cons_succ, List.foldl_cons, List.foldl_nil, dstAt, List.getElem?_cons_zero, List.getElem?_cons_succ, Option.bind_some]
                go_frame
                rw [h6, h12]
                go_wp2_with fail
                exact ⟨rfl, Below.refl _ _, rfl, by first | rfl | (show slotOf _ _ = _; simp [slotOf]; done) | (show slotOf _ _ = _; simp [slotOf]; omega)⟩
              | nx + 14, him, _ => exact absurd him (by omega)
            · intro w2 b2 vs hv
              have hL2 := HL2.out.below b2
              have h13 : vs 13 = _ := hv 13 (by decide)
              simp only [relF, List.drop_succ_cons, List.drop_zero, List.length_cons, List.length_nil, Nat.zero_add, Nat.reduceAdd, List.range, List.range.loop, List.foldl_cons, List.foldl_nil, dstAt, List.getElem?_cons_zero, List.getElem?_cons_succ, Option.bind_some]
              go_frame
              rw [h13]
              go_wp2_with fail
              go_roundw
              case rel => exact ⟨j + 1, _, by omega, rfl, by go_num, HS2, by have := HSC.out; omega, B2.trans (b2.mono B2.size)⟩
              case measure => simp [intOf]; omega
          · obtain rfl : j = mA := by omega
            have t1 : decide ((j : Int) < (j : Int)) = false := decide_eq_false (by omega)
            have hS := HS.out
            rw [sumK_all HBL.out] at hS
            have hfe := fewer_fact HBP.out HBN.out
            rw [← hS, HBL.out] at hfe
            replace HA := Lib.hid (HA.out.below (Nat.le_refl _) Br)
            replace HL := Lib.hid (HL.out.below Br)
            replace b1 := b1.trans (Br.mono b1.size)
            obtain ⟨q6, c6, v6, hrun, hs, dd⟩ := IntsAt.copy (HA.out.below (Nat.le_refl _) ((Below.refl wr.heap.size wr).alloc (Nat.le_refl _) (.cells #[] 3))) (by omega) ⟨wr.heap.size, 0, none⟩
            have d6 : Below wr.heap.size wr v6 := ((Below.refl _ _).alloc (Nat.le_refl _) _).trans (dd.mono (by simp))
            have hrun6 := hrun; clear hrun dd
            have C6 := Lib.hid hs; clear hs
            replace HA := Lib.hid (HA.out.below (Nat.le_refl _) d6)
            replace HL := Lib.hid (HL.out.below d6)
            replace b1 := b1.trans (d6.mono b1.size)
            have hc := manySize_all v6 (k : Int) _ _ _ A C6.out (by omega) HL.out
            rw [HAB.out, sizeI_nat (by omega) HBP.out HBN.out] at hc
            have htl : (Many.tops B 0 k).length ≤ k + 1 := (Many.tops_len B k 0).1
            obtain ⟨T, hT⟩ : ∃ T, T = (Many.tops B 0 k).length := ⟨_, rfl⟩
            rw [← hT] at hc hfe htl
            have HC := Lib.hid hc; clear hc hT hS HS
            go_wp2_with ((with_reducible show wpList _ _ _ (⟨some 63, _, _, _, _, _⟩ :: _) _ _); refine wpList_append_ran (by kernel_rfl) _ _ _ rfl _ _ rfl rfl hrun6 ?_)
            refine HC.out.mono ?_
            rintro e w7 ⟨rfl, d7⟩
            replace b1 := b1.trans (d7.mono b1.size)
            clear HC
            by_cases hts : T ≤ S
            · have t2 : decide ((T : Int) ≤ (S : Int)) = true := decide_eq_true (by omega)
              have t2' : decide (T ≤ S) = true := decide_eq_true hts
              go_wp2_with fail
              go_ret
              exact ⟨rfl, b1⟩
            · have t2 : decide ((T : Int) ≤ (S : Int)) = false := decide_eq_false (by omega)
              have t2' : decide (T ≤ S) = false := decide_eq_false hts
              obtain ⟨rfl, rfl⟩ : j = 0 ∧ T = 1 := by omega
              go_wp2_with fail
              go_ret
              exact ⟨rfl, b1⟩

theorem mfewer_law (w : World) (n : Int) (hn : (Lit.int .i64 n).wf = true) (oA : Option Addr) (mA cA : Nat) (A : List Int) (hA : RowsAt w oA mA cA 1 (intCell .i64) A) (hwA : ∀ x ∈ A, (Lit.int .i64 x).wf = true) (hL : Laid w) :
    Calls Tryd.prog 8 #[.int .i64 n, .slice oA mA cA] w fun e w' => e = .returned (.bool true) ∧ Below w.heap.size w w' := by
  have h := mfewer_list w n hn oA mA cA A hA hL
  exact h

end Go.Proofs.YtgheacegjgaobaaDoor
