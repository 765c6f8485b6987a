/- The walk of the law HashNone. -/
import Derived.Test.YtabkndpilnapfaaDoorLawBits
namespace Go.Proofs.YtabkndpilnapfaaDoor
open Go.RowKit
set_option linter.unusedSimpArgs false
set_option linter.unusedVariables false

/-- What region 5's operations leave. -/
def noneV (l : List UInt8) (k : Nat) (i : Nat) (w : World) (v : Value) : Prop :=
  match i with
  | 0 => v = .string (strOf l)
  | 1 => Lib.HoldsBytes w v l
  | 2 => Lib.HoldsBytes w v []
  | 3 => PartsV w v [[], l, []]
  | 4 => v = .agg (byteCells (Sha.of l)).toArray
  | 5 => v = .agg (byteCells (Sha.of l)).toArray
  | 6 => v = .bool true
  | 7 => v = .bool true
  | 8 => v = .string (strOf l)
  | 9 => v = .int .i64 (k : Int)
  | 10 => v = .string (strOf (l.take k))
  | 11 => Lib.HoldsBytes w v (l.take k)
  | 12 => v = .string (strOf l)
  | 13 => v = .int .i64 (k : Int)
  | 14 => v = .string (strOf (l.drop k))
  | 15 => Lib.HoldsBytes w v (l.drop k)
  | 16 => PartsV w v [l.take k, [], l.drop k]
  | 17 => v = .agg (byteCells (Sha.of l)).toArray
  | 18 => v = .agg (byteCells (Sha.of l)).toArray
  | 19 => v = .bool true
  | 20 => v = .bool true
  | 21 => v = .bool true
  | 22 => v = .agg (byteCells (Sha.of [])).toArray
  | 23 => Lib.HoldsBytes w v []
  | 24 => PartsV w v [[]]
  | 25 => v = .agg (byteCells (Sha.of [])).toArray
  | 26 => v = .bool true
  | 27 => v = .bool true
  | _ => v = .bool true

theorem noneV_mono (l : List UInt8) (k : Nat) (j : Nat) (w w' : World) (v : Value) (hb : Below w.heap.size w w') (h : noneV l k j w v) : noneV l k j w' v := by
  match j, h with
  | 0, h => exact h
  | 1, h => exact holds_below h hb
  | 2, h => exact holds_below h hb
  | 3, h => exact PartsV.below h hb
  | 4, h => exact h
  | 5, h => exact h
  | 6, h => exact h
  | 7, h => exact h
  | 8, h => exact h
  | 9, h => exact h
  | 10, h => exact h
  | 11, h => exact holds_below h hb
  | 12, h => exact h
  | 13, h => exact h
  | 14, h => exact h
  | 15, h => exact holds_below h hb
  | 16, h => exact PartsV.below h hb
  | 17, h => exact h
  | 18, h => exact h
  | 19, h => exact h
  | 20, h => exact h
  | 21, h => exact h
  | 22, h => exact h
  | 23, h => exact holds_below h hb
  | 24, h => exact PartsV.below h hb
  | 25, h => exact h
  | 26, h => exact h
  | 27, h => exact h
  | _ + 28, h => exact h

theorem parts_three {w : World} {v1 v2 v3 : Value} {l1 l2 l3 : List UInt8} (h1 : Lib.HoldsBytes w v1 l1) (h2 : Lib.HoldsBytes w v2 l2) (h3 : Lib.HoldsBytes w v3 l3) : ∀ (i : Nat) v l, [v1, v2, v3][i]? = some v → [l1, l2, l3][i]? = some l → Lib.HoldsBytes w v l := by
  intro i v l hv hl
  match i, hv, hl with
  | 0, hv, hl =>
    simp only [List.getElem?_cons_zero, Option.some.injEq] at hv hl
    subst hv; subst hl; exact h1
  | 1, hv, hl =>
    simp only [List.getElem?_cons_succ, List.getElem?_cons_zero, Option.some.injEq] at hv hl
    subst hv; subst hl; exact h2
  | 2, hv, hl =>
    simp only [List.getElem?_cons_succ, List.getElem?_cons_zero, Option.some.injEq] at hv hl
    subst hv; subst hl; exact h3

theorem parts_1 {w : World} {v1 : Value} {l1 : List UInt8} (h1 : Lib.HoldsBytes w v1 l1) : ∀ (i : Nat) v l, [v1][i]? = some v → [l1][i]? = some l → Lib.HoldsBytes w v l := by
  intro i v l hv hl
  match i, hv, hl with
  | 0, hv, hl =>
    simp only [List.getElem?_cons_zero, Option.some.injEq] at hv hl
    subst hv; subst hl; exact h1

theorem holds_nil (w : World) : Lib.HoldsBytes w (.slice none 0 0) [] := ⟨none, 0, rfl, fun _ => rfl, fun a h => by cases h⟩
theorem holds_empty (w : World) (p : Option Addr) (c : Nat) : Lib.HoldsBytes w (.slice p 0 c) [] := ⟨p, c, rfl, fun _ => rfl, fun a h i x hx => by simp at hx⟩

set_option maxRecDepth 100000 in
set_option maxHeartbeats 4000000 in
theorem none_list (w : World) (l : List UInt8) (x : Nat) (hx : x < 256) (hl : l.length ≤ 140737488351232) (hL : Laid w) :
    Calls Tryd.prog 8 #[.string (strOf l), .int .u8 (x : Int)] w fun e w' => e = .returned (.bool true) ∧ Below w.heap.size w w' := by
  have hst := strOf_size l
  have HL := Lib.hid hL; clear hL
  have hLw := HL
  go_enter Tryd.func8, Tryd.ntmps8
  go_wp2_with fail
  refine (awake_any w HL.out).mono ?_
  rintro e w1 ⟨rfl, b1⟩
  have HL1 := Lib.hid (HL.out.below b1)
  by_cases h200 : 200 < l.length
  · have ht : decide ((200 : Int) < (l.length : Int)) = true := decide_eq_true (by omega)
    go_wp2_with fail
    refine (awake_any w1 HL1.out).mono ?_
    rintro e w2 ⟨rfl, b2⟩
    go_wp2_with fail
    go_ret
    exact ⟨rfl, b1.trans (b2.mono b1.size)⟩
  · have ht : decide ((200 : Int) < (l.length : Int)) = false := decide_eq_false (by omega)
    obtain ⟨k, hk⟩ : ∃ k, k = x % (l.length + 1) := ⟨_, rfl⟩
    have hkl : k ≤ l.length := by rw [hk]; have := Nat.mod_lt x (show 0 < l.length + 1 by omega); omega
    have hrem : (x : Int).tmod ((l.length : Int) + 1) = (k : Int) := by
      rw [Int.tmod_eq_emod_of_nonneg (by omega), hk]; push_cast; rfl
    have hne : ((l.length : Int) + 1 == 0) = false := by rw [beq_eq_false_iff_ne]; omega
    obtain ⟨cap, W2, hcv, m2, b2, s2, hp⟩ := part_one w1 l (by omega)
    have b02 := b1.trans (b2.mono b1.size)
    obtain ⟨W3, hW3⟩ : ∃ W3, W3 = W2.alloc (.cells #[.slice (some ⟨w1.heap.size, 0, none⟩) l.length cap] 27) := ⟨_, rfl⟩
    rw [← hW3] at hp
    have b03 : Below w.heap.size w W3 := by rw [hW3]; exact b02.alloc b02.size _
    have hof := of_any W3 _ [l] hp (by simp) (by simp; omega) (HL.out.below b03)
    have hfl : [l].flatten = l := by simp
    rw [hfl] at hof
    have HOF := Lib.hid hof; clear hof hp m2 b2 s2 b1
    have HW3 := Lib.hid hW3; clear hW3
    have HK := Lib.hid hk; clear hk
    go_wp2_with fail
    rw [← HW3.out]
    refine HOF.out.mono ?_
    rintro e w4 ⟨rfl, b4⟩
    clear HOF HW3 hcv HL ht hrem hne
    have b04 := b03.trans (b4.mono b03.size)
    clear b4 b03 b02
    have hsl := Sha.of_len l
    obtain ⟨S, hS⟩ : ∃ S, S = Sha.of l := ⟨_, rfl⟩
    rw [← hS] at hsl ⊢
    have HS := Lib.hid hS; clear hS
    have HSL := Lib.hid hsl; clear hsl
    obtain ⟨W5, hW5⟩ : ∃ W5, W5 = (w4.alloc (.cells zero32 25)).setRow w4.heap.size (byteCells S).toArray := ⟨_, rfl⟩
    have z5 : (w4.alloc (.cells zero32 25)).heap[w4.heap.size]? = some (.cells zero32 25 (0, 0)) := heap_alloc_new w4 _
    have x5 : W5.heap[w4.heap.size]? = some (.cells (byteCells S).toArray 25 (0, 0)) := by rw [hW5]; exact setRow_heap _ _ _ _ _ _ z5
    have b05 : Below w.heap.size w W5 := by rw [hW5]; exact below_setRow' (b04.alloc b04.size _) b04.size
    have HW5 := Lib.hid hW5; clear hW5
    have Z5 := Lib.hid z5; clear z5
    have X5 := Lib.hid x5; clear x5 b04
    have HSA : Hid ((byteCells S).toArray.all (·.oneCell') = true) := Lib.hid (all_oneCell_toArray (byteCells_one _))
    have HSS : Hid ((Tryd.prog.info? 25).map (·.size) = some (byteCells S).toArray.size) := Lib.hid (by rw [Tryd.infoH]; simp [byteCells_length, HSL.out])
    have HZS : Hid (zero32.size = (byteCells S).toArray.size) := Lib.hid (by simp [zero32, byteCells_length, HSL.out])
    go_wp2_with (first | ((with_reducible show wpList _ _ _ (⟨none, .store 25 (.tmp 6) (.tmp 24), _, _, _, _⟩ :: _) _ _); change wpList _ _ _ _ _ (w4.alloc (.cells zero32 25)); refine wpList_store_row (o := ⟨none, .store 25 _ _, _, _, _, _⟩) rfl _ _ _ rfl w4.heap.size (byteCells S).toArray rfl rfl _ zero32 Z5.out HSS.out HZS.out HSA.out ?_; change wpList _ _ _ _ _ ((w4.alloc (.cells zero32 25)).setRow w4.heap.size (byteCells S).toArray); rw [← HW5.out]))
    have HL5 := Lib.hid (hLw.out.below b05)
    refine wp_region_rel [[], [0], [], [1, 2], [3], [], [4, 5], [6], [7], [7], [7, 8, 9], [7, 10], [7], [7], [7, 12, 13], [7, 14], [7, 11, 15], [7, 16], [7], [7, 17, 18], [7, 19], [20], [21], [21], [21, 23], [21, 24], [21, 22, 25], [21, 26], [27]] (noneV l k) 53 (by kernel_rfl) (by kernel_rfl) (by kernel_rfl) (noneV_mono l k) ?_ ?_
    · intro i o hi w2 b2 vs hv
      have hL2 := HL5.out.below b2
      match i, hi with
      | 0, hi =>
        obtain rfl := Option.some.inj hi
        simp only [relF, List.getD_cons_zero, List.getD_cons_succ, List.foldl_cons, List.foldl_nil, dstAt, List.getElem?_cons_zero, List.getElem?_cons_succ, Option.bind_some]
        go_wp2_with fail
        exact ⟨rfl, Below.refl _ _, rfl, rfl⟩
      | 1, hi =>
        obtain rfl := Option.some.inj hi
        have h0 : vs 0 = _ := hv 0 (by decide)
        obtain ⟨cap', W, hcv, m, bb, ss⟩ := str_bytes Tryd.under_str Tryd.under_u8s Tryd.under_b8 w2 (l) (by first | omega | (simp; omega))
        simp only [relF, List.getD_cons_zero, List.getD_cons_succ, List.foldl_cons, List.foldl_nil, dstAt, List.getElem?_cons_zero, List.getElem?_cons_succ, Option.bind_some]
        go_frame
        rw [h0]
        go_wp2_with fail
        exact ⟨rfl, bb, rfl, m.holds⟩
      | 2, hi =>
        obtain rfl := Option.some.inj hi
        simp only [relF, List.getD_cons_zero, List.getD_cons_succ, List.foldl_cons, List.foldl_nil, dstAt, List.getElem?_cons_zero, List.getElem?_cons_succ, Option.bind_some]
        go_wp2_with fail
        exact ⟨rfl, (Below.refl _ _).alloc (Nat.le_refl _) _, rfl, holds_empty _ _ _⟩
      | 3, hi =>
        obtain rfl := Option.some.inj hi
        have k1 : Lib.HoldsBytes w2 (vs 1) l := hv 1 (by decide)
        have k2 : Lib.HoldsBytes w2 (vs 2) [] := hv 2 (by decide)
        have hp := parts_new w2 27 [.slice none 0 0, vs 1, vs 2] [[], l, []] 3 rfl rfl (parts_three (holds_nil _) k1 k2)
        obtain ⟨p1, c1, e1, _⟩ := k1
        obtain ⟨p2, c2, e2, _⟩ := k2
        rw [e1, e2] at hp
        simp only [relF, List.getD_cons_zero, List.getD_cons_succ, List.foldl_cons, List.foldl_nil, dstAt, List.getElem?_cons_zero, List.getElem?_cons_succ, Option.bind_some]
        go_frame
        rw [e1, e2]
        go_wp2_with fail
        exact ⟨rfl, (Below.refl _ _).alloc (Nat.le_refl _) _, rfl, hp⟩
      | 4, hi =>
        obtain rfl := Option.some.inj hi
        have k3 : PartsV w2 (vs 3) _ := hv 3 (by decide)
        have hof := of_any w2 (vs 3) [[], l, []] k3 (by simp) (by first | (simp; done) | (simp; omega)) hL2
        have hfl : [[], l, []].flatten = l := by simp
        rw [hfl] at hof
        simp only [relF, List.getD_cons_zero, List.getD_cons_succ, List.foldl_cons, List.foldl_nil, dstAt, List.getElem?_cons_zero, List.getElem?_cons_succ, Option.bind_some]
        go_frame
        go_wp2_with fail
        refine hof.mono ?_
        rintro e w3 ⟨rfl, b3⟩
        go_wp2_with fail
        exact ⟨rfl, b3, rfl, rfl⟩
      | 5, hi =>
        obtain rfl := Option.some.inj hi
        simp only [relF, List.getD_cons_zero, List.getD_cons_succ, List.foldl_cons, List.foldl_nil, dstAt, List.getElem?_cons_zero, List.getElem?_cons_succ, Option.bind_some]
        go_wp2_with ((with_reducible show wpList _ _ _ (⟨some 30, _, _, _, _, _⟩ :: _) _ _); refine wpList_load_hash (op := ⟨some 30, _, _, _, _, _⟩) (by kernel_rfl) _ rfl w4.heap.size rfl S HSL.out _ _ ((b2.block _ (lt_of_block X5.out)).trans X5.out) ?_)
        exact ⟨rfl, Below.refl _ _, rfl, by rw [HS.out]; rfl⟩
      | 6, hi =>
        obtain rfl := Option.some.inj hi
        have h4 : vs 4 = _ := hv 4 (by decide)
        have h5 : vs 5 = _ := hv 5 (by decide)
        simp only [relF, List.getD_cons_zero, List.getD_cons_succ, List.foldl_cons, List.foldl_nil, dstAt, List.getElem?_cons_zero, List.getElem?_cons_succ, Option.bind_some]
        go_frame
        rw [h4, h5]
        rw [← HS.out]
        go_wp2_with ((with_reducible show wpList _ _ _ (⟨some 31, _, _, _, _, _⟩ :: _) _ _); refine wpList_eql_hash (op := ⟨some 31, _, _, _, _, _⟩) (by kernel_rfl) _ _ rfl S S HSL.out HSL.out rfl rfl ?_; rw [beq_self_eq_true])
        exact ⟨rfl, Below.refl _ _, rfl, rfl⟩
      | 7, hi =>
        obtain rfl := Option.some.inj hi
        have h6 : vs 6 = _ := hv 6 (by decide)
        simp only [relF, List.getD_cons_zero, List.getD_cons_succ, List.foldl_cons, List.foldl_nil, dstAt, List.getElem?_cons_zero, List.getElem?_cons_succ, Option.bind_some]
        go_frame
        rw [h6]
        go_wp2_with fail
        exact ⟨rfl, Below.refl _ _, rfl, rfl⟩
      | 8, hi =>
        obtain rfl := Option.some.inj hi
        have h7 : vs 7 = _ := hv 7 (by decide)
        simp only [relF, List.getD_cons_zero, List.getD_cons_succ, List.foldl_cons, List.foldl_nil, dstAt, List.getElem?_cons_zero, List.getElem?_cons_succ, Option.bind_some]
        go_frame
        rw [h7]
        go_wp2_with fail
        exact ⟨rfl, Below.refl _ _, rfl, rfl⟩
      | 9, hi =>
        obtain rfl := Option.some.inj hi
        have h7 : vs 7 = _ := hv 7 (by decide)
        simp only [relF, List.getD_cons_zero, List.getD_cons_succ, List.foldl_cons, List.foldl_nil, dstAt, List.getElem?_cons_zero, List.getElem?_cons_succ, Option.bind_some]
        go_frame
        rw [h7]
        go_wp2_with fail
        exact ⟨rfl, Below.refl _ _, rfl, rfl⟩
      | 12, hi =>
        obtain rfl := Option.some.inj hi
        have h7 : vs 7 = _ := hv 7 (by decide)
        simp only [relF, List.getD_cons_zero, List.getD_cons_succ, List.foldl_cons, List.foldl_nil, dstAt, List.getElem?_cons_zero, List.getElem?_cons_succ, Option.bind_some]
        go_frame
        rw [h7]
        go_wp2_with fail
        exact ⟨rfl, Below.refl _ _, rfl, rfl⟩
      | 13, hi =>
        obtain rfl := Option.some.inj hi
        have h7 : vs 7 = _ := hv 7 (by decide)
        simp only [relF, List.getD_cons_zero, List.getD_cons_succ, List.foldl_cons, List.foldl_nil, dstAt, List.getElem?_cons_zero, List.getElem?_cons_succ, Option.bind_some]
        go_frame
        rw [h7]
        go_wp2_with fail
        exact ⟨rfl, Below.refl _ _, rfl, rfl⟩
      | 10, hi =>
        obtain rfl := Option.some.inj hi
        have h7 : vs 7 = _ := hv 7 (by decide)
        have h8 : vs 8 = _ := hv 8 (by decide)
        have h9 : vs 9 = _ := hv 9 (by decide)
        have hsl := strOf_extract l 0 k
        simp only [relF, List.getD_cons_zero, List.getD_cons_succ, List.foldl_cons, List.foldl_nil, dstAt, List.getElem?_cons_zero, List.getElem?_cons_succ, Option.bind_some]
        go_frame
        rw [h7, h8, h9]
        go_wp2_with fail
        exact ⟨rfl, Below.refl _ _, rfl, by first | rfl | (show slotOf _ _ = _; simp [slotOf, strOf_extract])⟩
      | 11, hi =>
        obtain rfl := Option.some.inj hi
        have h10 : vs 10 = _ := hv 10 (by decide)
        have h7 : vs 7 = _ := hv 7 (by decide)
        obtain ⟨cap', W, hcv, m, bb, ss⟩ := str_bytes Tryd.under_str Tryd.under_u8s Tryd.under_b8 w2 (l.take k) (by first | omega | (simp; omega))
        have hlt : (l.take k).length = k := by rw [List.length_take]; omega
        rw [hlt] at hcv m
        simp only [relF, List.getD_cons_zero, List.getD_cons_succ, List.foldl_cons, List.foldl_nil, dstAt, List.getElem?_cons_zero, List.getElem?_cons_succ, Option.bind_some]
        go_frame
        rw [h10, h7]
        go_wp2_with fail
        exact ⟨rfl, bb, rfl, m.holds⟩
      | 14, hi =>
        obtain rfl := Option.some.inj hi
        have h7 : vs 7 = _ := hv 7 (by decide)
        have h12 : vs 12 = _ := hv 12 (by decide)
        have h13 : vs 13 = _ := hv 13 (by decide)
        have hsl := strOf_from l k
        simp only [relF, List.getD_cons_zero, List.getD_cons_succ, List.foldl_cons, List.foldl_nil, dstAt, List.getElem?_cons_zero, List.getElem?_cons_succ, Option.bind_some]
        go_frame
        rw [h7, h12, h13]
        go_wp2_with fail
        exact ⟨rfl, Below.refl _ _, rfl, by first | rfl | (show slotOf _ _ = _; simp [slotOf, strOf_from])⟩
      | 15, hi =>
        obtain rfl := Option.some.inj hi
        have h14 : vs 14 = _ := hv 14 (by decide)
        have h7 : vs 7 = _ := hv 7 (by decide)
        obtain ⟨cap', W, hcv, m, bb, ss⟩ := str_bytes Tryd.under_str Tryd.under_u8s Tryd.under_b8 w2 (l.drop k) (by first | omega | (simp; omega))
        have hld : (l.drop k).length = l.length - k := List.length_drop
        rw [hld] at hcv m
        simp only [relF, List.getD_cons_zero, List.getD_cons_succ, List.foldl_cons, List.foldl_nil, dstAt, List.getElem?_cons_zero, List.getElem?_cons_succ, Option.bind_some]
        go_frame
        rw [h14, h7]
        go_wp2_with fail
        exact ⟨rfl, bb, rfl, m.holds⟩
      | 16, hi =>
        obtain rfl := Option.some.inj hi
        have h7 : vs 7 = _ := hv 7 (by decide)
        have k1 : Lib.HoldsBytes w2 (vs 11) (l.take k) := hv 11 (by decide)
        have k2 : Lib.HoldsBytes w2 (vs 15) (l.drop k) := hv 15 (by decide)
        have hp := parts_new w2 27 [vs 11, .slice none 0 0, vs 15] [l.take k, [], l.drop k] 3 rfl rfl (parts_three k1 (holds_nil _) k2)
        obtain ⟨p1, c1, e1, _⟩ := k1
        obtain ⟨p2, c2, e2, _⟩ := k2
        rw [e1, e2] at hp
        have hlt : (l.take k).length = k := by rw [List.length_take]; omega
        have hld : (l.drop k).length = l.length - k := List.length_drop
        rw [hlt, hld] at hp
        simp only [relF, List.getD_cons_zero, List.getD_cons_succ, List.foldl_cons, List.foldl_nil, dstAt, List.getElem?_cons_zero, List.getElem?_cons_succ, Option.bind_some]
        go_frame
        rw [h7, e1, e2]
        go_wp2_with fail
        exact ⟨rfl, (Below.refl _ _).alloc (Nat.le_refl _) _, rfl, hp⟩
      | 17, hi =>
        obtain rfl := Option.some.inj hi
        have h7 : vs 7 = _ := hv 7 (by decide)
        have k16 : PartsV w2 (vs 16) _ := hv 16 (by decide)
        have hof := of_any w2 (vs 16) [l.take k, [], l.drop k] k16 (by simp) (by first | (simp; done) | (simp; omega)) hL2
        have hfl : [l.take k, [], l.drop k].flatten = l := by simp
        rw [hfl] at hof
        simp only [relF, List.getD_cons_zero, List.getD_cons_succ, List.foldl_cons, List.foldl_nil, dstAt, List.getElem?_cons_zero, List.getElem?_cons_succ, Option.bind_some]
        go_frame
        rw [h7]
        go_wp2_with fail
        refine hof.mono ?_
        rintro e w3 ⟨rfl, b3⟩
        go_wp2_with fail
        exact ⟨rfl, b3, rfl, rfl⟩
      | 18, hi =>
        obtain rfl := Option.some.inj hi
        have h7 : vs 7 = _ := hv 7 (by decide)
        simp only [relF, List.getD_cons_zero, List.getD_cons_succ, List.foldl_cons, List.foldl_nil, dstAt, List.getElem?_cons_zero, List.getElem?_cons_succ, Option.bind_some]
        go_frame
        rw [h7]
        go_wp2_with ((with_reducible show wpList _ _ _ (⟨some 43, _, _, _, _, _⟩ :: _) _ _); refine wpList_load_hash (op := ⟨some 43, _, _, _, _, _⟩) (by kernel_rfl) _ rfl w4.heap.size rfl S HSL.out _ _ ((b2.block _ (lt_of_block X5.out)).trans X5.out) ?_)
        exact ⟨rfl, Below.refl _ _, rfl, by rw [HS.out]; rfl⟩
      | 19, hi =>
        obtain rfl := Option.some.inj hi
        have h7 : vs 7 = _ := hv 7 (by decide)
        have h17 : vs 17 = _ := hv 17 (by decide)
        have h18 : vs 18 = _ := hv 18 (by decide)
        simp only [relF, List.getD_cons_zero, List.getD_cons_succ, List.foldl_cons, List.foldl_nil, dstAt, List.getElem?_cons_zero, List.getElem?_cons_succ, Option.bind_some]
        go_frame
        rw [h7, h17, h18]
        rw [← HS.out]
        go_wp2_with ((with_reducible show wpList _ _ _ (⟨some 44, _, _, _, _, _⟩ :: _) _ _); refine wpList_eql_hash (op := ⟨some 44, _, _, _, _, _⟩) (by kernel_rfl) _ _ rfl S S HSL.out HSL.out rfl rfl ?_; rw [beq_self_eq_true])
        exact ⟨rfl, Below.refl _ _, rfl, rfl⟩
      | 20, hi =>
        obtain rfl := Option.some.inj hi
        have h7 : vs 7 = _ := hv 7 (by decide)
        have h19 : vs 19 = _ := hv 19 (by decide)
        simp only [relF, List.getD_cons_zero, List.getD_cons_succ, List.foldl_cons, List.foldl_nil, dstAt, List.getElem?_cons_zero, List.getElem?_cons_succ, Option.bind_some]
        go_frame
        rw [h7, h19]
        go_wp2_with fail
        exact ⟨rfl, Below.refl _ _, rfl, rfl⟩
      | 21, hi =>
        obtain rfl := Option.some.inj hi
        have h20 : vs 20 = _ := hv 20 (by decide)
        simp only [relF, List.getD_cons_zero, List.getD_cons_succ, List.foldl_cons, List.foldl_nil, dstAt, List.getElem?_cons_zero, List.getElem?_cons_succ, Option.bind_some]
        go_frame
        rw [h20]
        go_wp2_with fail
        exact ⟨rfl, Below.refl _ _, rfl, rfl⟩
      | 22, hi =>
        obtain rfl := Option.some.inj hi
        have h21 : vs 21 = _ := hv 21 (by decide)
        have hof := of_any w2 _ [] (parts_none w2) (by simp) (by simp) hL2
        rw [show ([] : List (List UInt8)).flatten = [] from rfl] at hof
        simp only [relF, List.getD_cons_zero, List.getD_cons_succ, List.foldl_cons, List.foldl_nil, dstAt, List.getElem?_cons_zero, List.getElem?_cons_succ, Option.bind_some]
        go_frame
        rw [h21]
        go_wp2_with fail
        refine hof.mono ?_
        rintro e w3 ⟨rfl, b3⟩
        go_wp2_with fail
        exact ⟨rfl, b3, rfl, rfl⟩
      | 23, hi =>
        obtain rfl := Option.some.inj hi
        have h21 : vs 21 = _ := hv 21 (by decide)
        simp only [relF, List.getD_cons_zero, List.getD_cons_succ, List.foldl_cons, List.foldl_nil, dstAt, List.getElem?_cons_zero, List.getElem?_cons_succ, Option.bind_some]
        go_frame
        rw [h21]
        go_wp2_with fail
        exact ⟨rfl, (Below.refl _ _).alloc (Nat.le_refl _) _, rfl, holds_empty _ _ _⟩
      | 24, hi =>
        obtain rfl := Option.some.inj hi
        have h21 : vs 21 = _ := hv 21 (by decide)
        have k1 : Lib.HoldsBytes w2 (vs 23) [] := hv 23 (by decide)
        have hp := parts_new w2 27 [vs 23] [[]] 1 rfl rfl (parts_1 k1)
        obtain ⟨p1, c1, e1, _⟩ := k1
        rw [e1] at hp
        simp only [relF, List.getD_cons_zero, List.getD_cons_succ, List.foldl_cons, List.foldl_nil, dstAt, List.getElem?_cons_zero, List.getElem?_cons_succ, Option.bind_some]
        go_frame
        rw [h21, e1]
        go_wp2_with fail
        exact ⟨rfl, (Below.refl _ _).alloc (Nat.le_refl _) _, rfl, hp⟩
      | 25, hi =>
        obtain rfl := Option.some.inj hi
        have h21 : vs 21 = _ := hv 21 (by decide)
        have k24 : PartsV w2 (vs 24) _ := hv 24 (by decide)
        have hof := of_any w2 (vs 24) [([] : List UInt8)] k24 (by simp) (by first | (simp; done) | (simp; omega)) hL2
        have hfl : [([] : List UInt8)].flatten = [] := by simp
        rw [hfl] at hof
        simp only [relF, List.getD_cons_zero, List.getD_cons_succ, List.foldl_cons, List.foldl_nil, dstAt, List.getElem?_cons_zero, List.getElem?_cons_succ, Option.bind_some]
        go_frame
        rw [h21]
        go_wp2_with fail
        refine hof.mono ?_
        rintro e w3 ⟨rfl, b3⟩
        go_wp2_with fail
        exact ⟨rfl, b3, rfl, rfl⟩
      | 26, hi =>
        obtain rfl := Option.some.inj hi
        have h21 : vs 21 = _ := hv 21 (by decide)
        have h22 : vs 22 = _ := hv 22 (by decide)
        have h25 : vs 25 = _ := hv 25 (by decide)
        simp only [relF, List.getD_cons_zero, List.getD_cons_succ, List.foldl_cons, List.foldl_nil, dstAt, List.getElem?_cons_zero, List.getElem?_cons_succ, Option.bind_some]
        go_frame
        rw [h21, h22, h25]
        go_wp2_with ((with_reducible show wpList _ _ _ (⟨some 51, _, _, _, _, _⟩ :: _) _ _); refine wpList_eql_hash (op := ⟨some 51, _, _, _, _, _⟩) (by kernel_rfl) _ _ rfl (Sha.of []) (Sha.of []) (Sha.of_len _) (Sha.of_len _) rfl rfl ?_; rw [beq_self_eq_true])
        exact ⟨rfl, Below.refl _ _, rfl, rfl⟩
      | 27, hi =>
        obtain rfl := Option.some.inj hi
        have h21 : vs 21 = _ := hv 21 (by decide)
        have h26 : vs 26 = _ := hv 26 (by decide)
        simp only [relF, List.getD_cons_zero, List.getD_cons_succ, List.foldl_cons, List.foldl_nil, dstAt, List.getElem?_cons_zero, List.getElem?_cons_succ, Option.bind_some]
        go_frame
        rw [h21, h26]
        go_wp2_with fail
        exact ⟨rfl, Below.refl _ _, rfl, rfl⟩
      | 28, hi =>
        obtain rfl := Option.some.inj hi
        have h27 : vs 27 = _ := hv 27 (by decide)
        simp only [relF, List.getD_cons_zero, List.getD_cons_succ, List.foldl_cons, List.foldl_nil, dstAt, List.getElem?_cons_zero, List.getElem?_cons_succ, Option.bind_some]
        go_frame
        rw [h27]
        go_wp2_with fail
        exact ⟨rfl, Below.refl _ _, rfl, rfl⟩
      | n + 29, hi => simp at hi
    · intro w2 b2 vs hv
      have h28 : vs 28 = .bool true := hv 28 (by decide)
      simp only [relF, List.length_cons, List.length_nil, Nat.zero_add, Nat.reduceAdd, List.range, List.range.loop, List.foldl_cons, List.foldl_nil, dstAt, List.getElem?_cons_zero, List.getElem?_cons_succ, Option.bind_some]
      go_frame
      rw [h28]
      go_wp2_with fail
      go_ret
      exact ⟨rfl, b05.trans (b2.mono b05.size)⟩

theorem none_law (w : World) (s : ByteArray) (hs : s.size ≤ 140737488351232) (x : Int) (hx : (Lit.int .u8 x).wf = true) (hL : Laid w) :
    Calls Tryd.prog 8 #[.string s, .int .u8 x] w fun e w' => e = .returned (.bool true) ∧ Below w.heap.size w w' := by
  have hb := wf_u8 hx
  have h := none_list w s.data.toList x.toNat (by omega) (by rw [← strOf_size, strOf_data]; exact hs) hL
  rw [strOf_data] at h
  have e : ((x.toNat : Nat) : Int) = x := by omega
  rwa [e] at h

end Go.Proofs.YtabkndpilnapfaaDoor
