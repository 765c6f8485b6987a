/- The walk of the clash laws' awake: it returns true. -/
import Derived.Test.YteljlnkjdajkgaaDoorClash5
namespace Go.Proofs.YteljlnkjdajkgaaDoor
open Go.RowKit
set_option linter.unusedSimpArgs false
set_option linter.unusedVariables false

theorem hashes_none (w : World) : HashesAt w none 0 0 [] := ⟨⟨rfl, Nat.le_refl _, by decide, fun h => by cases h⟩, fun p hp => by cases hp⟩
theorem num_one : Wire.num 1 = [1] := Wire.num_small 1 (by decide)
theorem ex_rows (l : List UInt8) : rowsR 1 0 l [] = ([3 :: 1 :: Sha.of (0 :: l), 0 :: l], true) := by
  have h := rowsR_ok (n := 1) (i := 0) (l := l) (P := []) (by decide) (by rw [Tree.sides_small (by decide)]; rfl)
  rw [Tree.sides_small (by decide)] at h
  rw [show ((1 : Nat) : Int) = 1 from rfl, show ((0 : Nat) : Int) = 0 from rfl] at h
  rw [h]
  unfold Tree.rowsAll
  rw [num_one]
  rfl
set_option maxRecDepth 100000 in
theorem ex_sha1 : (Sha.of (3 :: 1 :: Sha.of [0, 97]) == Sha.of (3 :: 1 :: Sha.of [0, 98])) = false := by decide +kernel
set_option maxRecDepth 100000 in
theorem ex_sha2 : (Sha.of [0, 97] == Sha.of [0, 98]) = false := by decide +kernel
theorem ex_find : findR 1 0 [97] [] [98] [] = ([], [], false) := by
  unfold findR
  rw [ex_rows, ex_rows]
  simp only [Bool.and_self, if_true]
  rw [findC, findC, findC]
  · unfold isC
    rw [ex_sha1, ex_sha2]
    simp
  · intros; simp_all

/-- What the region's operations leave. -/
def awkV (b off c : Nat) (X : List (List UInt8)) (ix : Nat) (w : World) (v : Value) : Prop :=
  match ix with
  | 0 => v = .int .i64 (0)
  | 1 => v = .bool true
  | 2 => v = .bool true
  | 3 => v = .slice (some ⟨b, off, none⟩) 2 c
  | 4 => v = .int .i64 (2)
  | 5 => v = .bool true
  | 6 => v = .bool true
  | 7 => v = .bool true
  | 8 => v = .slice (some ⟨b, off, none⟩) 2 c
  | 9 => v = .pointer (some ⟨b, off, none⟩)
  | 10 => v = .string (strOf (3 :: 1 :: (Sha.of [0, 97])))
  | 11 => v = .string (strOf (Sha.of [0, 97]))
  | 12 => v = .string (strOf (3 :: 1 :: (Sha.of [0, 97])))
  | 13 => v = .bool true
  | 14 => v = .bool true
  | 15 => v = .bool true
  | 16 => v = .slice (some ⟨b, off, none⟩) 2 c
  | 17 => v = .pointer (some ⟨b, off + 1, none⟩)
  | 18 => v = .string (strOf [0, 97])
  | 19 => v = .bool true
  | 20 => v = .bool true
  | 21 => v = .bool true
  | 22 => v = .string (strOf [])
  | 23 => v = .bool true
  | 24 => v = .bool true
  | 25 => v = .bool true
  | 26 => v = .string (strOf [])
  | 27 => v = .bool true
  | 28 => v = .bool true
  | 29 => v = .bool true
  | 30 => v = .bool false
  | 31 => v = .bool true
  | 32 => v = .bool true
  | 33 => v = .bool true
  | 34 => v = .bool false
  | 35 => v = .bool true
  | 36 => v = .bool true
  | 37 => v = .bool true
  | _ => True

theorem awkV_mono (b off c : Nat) (X : List (List UInt8)) (jx : Nat) (w w' : World) (v : Value) (hb : Below w.heap.size w w') (h : awkV b off c X jx w v) : awkV b off c X jx w' v := by
  match jx, h with
  | 0, h => exact h
  | 1, h => exact h
  | 2, h => exact h
  | 3, h => exact h
  | 4, h => exact h
  | 5, h => exact h
  | 6, h => exact h
  | 7, h => exact h
  | 8, h => exact h
  | 9, h => exact h
  | 10, h => exact h
  | 11, h => exact h
  | 12, h => exact h
  | 13, h => exact h
  | 14, h => exact h
  | 15, h => exact h
  | 16, h => exact h
  | 17, h => exact h
  | 18, h => exact h
  | 19, h => exact h
  | 20, h => exact h
  | 21, h => exact h
  | 22, h => exact h
  | 23, h => exact h
  | 24, h => exact h
  | 25, h => exact h
  | 26, h => exact h
  | 27, h => exact h
  | 28, h => exact h
  | 29, h => exact h
  | 30, h => exact h
  | 31, h => exact h
  | 32, h => exact h
  | 33, h => exact h
  | 34, h => exact h
  | 35, h => exact h
  | 36, h => exact h
  | 37, h => exact h
  | _ + 38, h => exact trivial

set_option maxRecDepth 100000 in
set_option maxHeartbeats 4000000 in
theorem awake_any (w : World) (hL : Laid w) :
    Calls Tryd.prog 9 #[] w fun e w' => e = .returned (.bool true) ∧ Below w.heap.size w w' := by
  have h1 := clashRows_all w 1 0 [97] (by decide) none 0 0 [] (hashes_none w) hL
  rw [ex_rows] at h1
  simp only [if_true] at h1
  obtain ⟨X, hX⟩ : ∃ X, X = [(3 :: 1 :: Sha.of [0, 97] : List UInt8), [0, 97]] := ⟨_, rfl⟩
  rw [← hX] at h1
  have hx0 : X[0]? = some (3 :: 1 :: (Sha.of [0, 97])) := by rw [hX]; rfl
  have hx1 : X[1]? = some [0, 97] := by rw [hX]; rfl
  have hxl : X.length = 2 := by rw [hX]; rfl
  clear hX
  have he1 : ((strOf (3 :: 1 :: (Sha.of [0, 97]))).toList == (strOf (3 :: 1 :: (Sha.of [0, 97]))).toList) = true := beq_self_eq_true _
  have he2 : ((strOf [0, 97]).toList == [0, 97]) = true := by rw [strOf_toList]; exact beq_self_eq_true _
  have he3 : ((strOf []).toList == []) = true := by rw [strOf_toList]; exact beq_self_eq_true _
  have HE1 := Lib.hid he1; clear he1
  have HE2 := Lib.hid he2; clear he2
  have HE3 := Lib.hid he3; clear he3
  have HIS := Lib.hid (isC_self [97])
  have HX0 := Lib.hid hx0; clear hx0
  have HX1 := Lib.hid hx1; clear hx1
  have HXL := Lib.hid hxl; clear hxl
  have HC := Lib.hid h1; clear h1
  have HL := Lib.hid hL; clear hL
  go_enter Tryd.func9, Tryd.ntmps9
  go_wp2_with fail
  refine HC.out.mono ?_
  rintro e w1 ⟨q, c, k, rfl, hs, b1⟩
  have h2 := clashFind_any w1 1 0 [97] [98] (by decide) (by decide) none none 0 0 0 0 [] [] (hashes_none w1) (hashes_none w1) (HL.out.below b1)
  rw [ex_find] at h2
  have HC2 := Lib.hid h2; clear h2 HC
  have hkx := hs.len
  rw [HXL.out] at hkx
  subst hkx
  obtain ⟨b, off, rfl⟩ := hs.form (by omega)
  have HX1' := Lib.hid hs; clear hs
  go_wp2_with fail
  refine HC2.out.mono ?_
  rintro e w2 ⟨rfl, b12⟩
  have HX := Lib.hid (HX1'.out.below (Nat.le_refl _) b12)
  have B2 := b1.trans (b12.mono b1.size)
  clear b1 b12 HX1' HC2
  go_wp2_with fail
  refine wp_region_rel [[], [0], [1], [2], [2, 3], [2, 4], [2, 5], [6], [7], [7, 8], [7, 9], [7], [7, 11], [7, 10, 12], [7, 13], [14], [15], [15, 16], [15, 17], [15, 18], [15, 19], [20], [21], [21, 22], [21, 23], [24], [25], [25, 26], [25, 27], [28], [29], [29, 30], [29, 31], [32], [33], [33, 34], [33, 35], [36]] (awkV b off c X) 52 (by kernel_rfl) (by kernel_rfl) (by kernel_rfl) (awkV_mono b off c X) ?_ ?_
  · intro ix op hi w3 b2 vs hv
    have him : ix < 38 := (List.getElem?_eq_some_iff.1 hi).1
    have hL2 := HL.out.below (B2.trans (b2.mono B2.size))
    match ix, him, hi with
    | 0, _, hi =>
      obtain rfl := Option.some.inj hi
      simp only [relF, List.getD_cons_zero, List.getD_cons_succ, List.foldl_cons, List.foldl_nil, dstAt, List.getElem?_cons_zero, List.getElem?_cons_succ, Option.bind_some]
      go_wp2_with fail
      exact ⟨rfl, Below.refl _ _, rfl, rfl⟩
    | 1, _, hi =>
      obtain rfl := Option.some.inj hi
      have h0 : vs 0 = _ := hv 0 (by decide)
      simp only [relF, List.getD_cons_zero, List.getD_cons_succ, List.foldl_cons, List.foldl_nil, dstAt, List.getElem?_cons_zero, List.getElem?_cons_succ, Option.bind_some]
      go_frame
      rw [h0]
      go_wp2_with fail
      exact ⟨rfl, Below.refl _ _, rfl, by first | rfl | (show slotOf _ _ = _; simp [slotOf])⟩
    | 2, _, hi =>
      obtain rfl := Option.some.inj hi
      have h1 : vs 1 = _ := hv 1 (by decide)
      simp only [relF, List.getD_cons_zero, List.getD_cons_succ, List.foldl_cons, List.foldl_nil, dstAt, List.getElem?_cons_zero, List.getElem?_cons_succ, Option.bind_some]
      go_frame
      rw [h1]
      go_wp2_with fail
      exact ⟨rfl, Below.refl _ _, rfl, rfl⟩
    | 3, _, hi =>
      obtain rfl := Option.some.inj hi
      have h2 : vs 2 = _ := hv 2 (by decide)
      simp only [relF, List.getD_cons_zero, List.getD_cons_succ, List.foldl_cons, List.foldl_nil, dstAt, List.getElem?_cons_zero, List.getElem?_cons_succ, Option.bind_some]
      go_frame
      rw [h2]
      go_wp2_with fail
      exact ⟨rfl, Below.refl _ _, rfl, rfl⟩
    | 4, _, hi =>
      obtain rfl := Option.some.inj hi
      have h2 : vs 2 = _ := hv 2 (by decide)
      have h3 : vs 3 = _ := hv 3 (by decide)
      simp only [relF, List.getD_cons_zero, List.getD_cons_succ, List.foldl_cons, List.foldl_nil, dstAt, List.getElem?_cons_zero, List.getElem?_cons_succ, Option.bind_some]
      go_frame
      rw [h2, h3]
      go_wp2_with fail
      exact ⟨rfl, Below.refl _ _, rfl, rfl⟩
    | 5, _, hi =>
      obtain rfl := Option.some.inj hi
      have h2 : vs 2 = _ := hv 2 (by decide)
      have h4 : vs 4 = _ := hv 4 (by decide)
      simp only [relF, List.getD_cons_zero, List.getD_cons_succ, List.foldl_cons, List.foldl_nil, dstAt, List.getElem?_cons_zero, List.getElem?_cons_succ, Option.bind_some]
      go_frame
      rw [h2, h4]
      go_wp2_with fail
      exact ⟨rfl, Below.refl _ _, rfl, by first | rfl | (show slotOf _ _ = _; simp [slotOf])⟩
    | 6, _, hi =>
      obtain rfl := Option.some.inj hi
      have h2 : vs 2 = _ := hv 2 (by decide)
      have h5 : vs 5 = _ := hv 5 (by decide)
      simp only [relF, List.getD_cons_zero, List.getD_cons_succ, List.foldl_cons, List.foldl_nil, dstAt, List.getElem?_cons_zero, List.getElem?_cons_succ, Option.bind_some]
      go_frame
      rw [h2, h5]
      go_wp2_with fail
      exact ⟨rfl, Below.refl _ _, rfl, rfl⟩
    | 7, _, hi =>
      obtain rfl := Option.some.inj hi
      have h6 : vs 6 = _ := hv 6 (by decide)
      simp only [relF, List.getD_cons_zero, List.getD_cons_succ, List.foldl_cons, List.foldl_nil, dstAt, List.getElem?_cons_zero, List.getElem?_cons_succ, Option.bind_some]
      go_frame
      rw [h6]
      go_wp2_with fail
      exact ⟨rfl, Below.refl _ _, rfl, rfl⟩
    | 8, _, hi =>
      obtain rfl := Option.some.inj hi
      have h7 : vs 7 = _ := hv 7 (by decide)
      simp only [relF, List.getD_cons_zero, List.getD_cons_succ, List.foldl_cons, List.foldl_nil, dstAt, List.getElem?_cons_zero, List.getElem?_cons_succ, Option.bind_some]
      go_frame
      rw [h7]
      go_wp2_with fail
      exact ⟨rfl, Below.refl _ _, rfl, rfl⟩
    | 9, _, hi =>
      obtain rfl := Option.some.inj hi
      have h7 : vs 7 = _ := hv 7 (by decide)
      have h8 : vs 8 = _ := hv 8 (by decide)
      simp only [relF, List.getD_cons_zero, List.getD_cons_succ, List.foldl_cons, List.foldl_nil, dstAt, List.getElem?_cons_zero, List.getElem?_cons_succ, Option.bind_some]
      go_frame
      rw [h7, h8]
      go_wp2_with fail
      exact ⟨rfl, Below.refl _ _, rfl, rfl⟩
    | 10, _, hi =>
      obtain rfl := Option.some.inj hi
      have h7 : vs 7 = _ := hv 7 (by decide)
      have h9 : vs 9 = _ := hv 9 (by decide)
      have hcell := (HX.out.below (Nat.le_refl _) b2).get HX0.out
      rw [Nat.add_zero] at hcell
      simp only [relF, List.getD_cons_zero, List.getD_cons_succ, List.foldl_cons, List.foldl_nil, dstAt, List.getElem?_cons_zero, List.getElem?_cons_succ, Option.bind_some]
      go_frame
      rw [h7, h9]
      go_wp2_with fail
      exact ⟨rfl, Below.refl _ _, rfl, rfl⟩
    | 11, _, hi =>
      obtain rfl := Option.some.inj hi
      have h7 : vs 7 = _ := hv 7 (by decide)
      simp only [relF, List.getD_cons_zero, List.getD_cons_succ, List.foldl_cons, List.foldl_nil, dstAt, List.getElem?_cons_zero, List.getElem?_cons_succ, Option.bind_some]
      go_frame
      rw [h7]
      go_wp2_with fail
      refine (refOf_any w3 [0, 97] (by decide)).mono ?_
      rintro e w3 ⟨rfl, b3⟩
      go_wp2_with fail
      exact ⟨rfl, b3, rfl, rfl⟩
    | 12, _, hi =>
      obtain rfl := Option.some.inj hi
      have h7 : vs 7 = _ := hv 7 (by decide)
      have h11 : vs 11 = _ := hv 11 (by decide)
      have hlen0 := Sha.of_len [0, 97]
      have hz1 : (⟨#[3, 1]⟩ : ByteArray).size = [3, 1].length := by first | rfl | exact strOf_size _
      have hz2 : ((strOf (Sha.of [0, 97])) : ByteArray).size = (Sha.of [0, 97]).length := by first | rfl | exact strOf_size _
      simp only [List.length_cons, List.length_append, List.length_nil] at hz1 hz2
      have hadd : (⟨#[3, 1]⟩ : ByteArray) ++ (strOf (Sha.of [0, 97])) = strOf (3 :: 1 :: (Sha.of [0, 97])) := add_str [3, 1] (Sha.of [0, 97])
      simp only [relF, List.getD_cons_zero, List.getD_cons_succ, List.foldl_cons, List.foldl_nil, dstAt, List.getElem?_cons_zero, List.getElem?_cons_succ, Option.bind_some]
      go_frame
      rw [h7, h11]
      go_wp2_with fail
      exact ⟨rfl, Below.refl _ _, rfl, rfl⟩
    | 13, _, hi =>
      obtain rfl := Option.some.inj hi
      have h7 : vs 7 = _ := hv 7 (by decide)
      have h10 : vs 10 = _ := hv 10 (by decide)
      have h12 : vs 12 = _ := hv 12 (by decide)
      have hse := HE1.out
      simp only [relF, List.getD_cons_zero, List.getD_cons_succ, List.foldl_cons, List.foldl_nil, dstAt, List.getElem?_cons_zero, List.getElem?_cons_succ, Option.bind_some]
      go_frame
      rw [h7, h10, h12]
      go_wp2_with fail
      exact ⟨rfl, Below.refl _ _, rfl, rfl⟩
    | 14, _, hi =>
      obtain rfl := Option.some.inj hi
      have h7 : vs 7 = _ := hv 7 (by decide)
      have h13 : vs 13 = _ := hv 13 (by decide)
      simp only [relF, List.getD_cons_zero, List.getD_cons_succ, List.foldl_cons, List.foldl_nil, dstAt, List.getElem?_cons_zero, List.getElem?_cons_succ, Option.bind_some]
      go_frame
      rw [h7, h13]
      go_wp2_with fail
      exact ⟨rfl, Below.refl _ _, rfl, rfl⟩
    | 15, _, hi =>
      obtain rfl := Option.some.inj hi
      have h14 : vs 14 = _ := hv 14 (by decide)
      simp only [relF, List.getD_cons_zero, List.getD_cons_succ, List.foldl_cons, List.foldl_nil, dstAt, List.getElem?_cons_zero, List.getElem?_cons_succ, Option.bind_some]
      go_frame
      rw [h14]
      go_wp2_with fail
      exact ⟨rfl, Below.refl _ _, rfl, rfl⟩
    | 16, _, hi =>
      obtain rfl := Option.some.inj hi
      have h15 : vs 15 = _ := hv 15 (by decide)
      simp only [relF, List.getD_cons_zero, List.getD_cons_succ, List.foldl_cons, List.foldl_nil, dstAt, List.getElem?_cons_zero, List.getElem?_cons_succ, Option.bind_some]
      go_frame
      rw [h15]
      go_wp2_with fail
      exact ⟨rfl, Below.refl _ _, rfl, rfl⟩
    | 17, _, hi =>
      obtain rfl := Option.some.inj hi
      have h15 : vs 15 = _ := hv 15 (by decide)
      have h16 : vs 16 = _ := hv 16 (by decide)
      simp only [relF, List.getD_cons_zero, List.getD_cons_succ, List.foldl_cons, List.foldl_nil, dstAt, List.getElem?_cons_zero, List.getElem?_cons_succ, Option.bind_some]
      go_frame
      rw [h15, h16]
      go_wp2_with fail
      exact ⟨rfl, Below.refl _ _, rfl, rfl⟩
    | 18, _, hi =>
      obtain rfl := Option.some.inj hi
      have h15 : vs 15 = _ := hv 15 (by decide)
      have h17 : vs 17 = _ := hv 17 (by decide)
      have hcell := (HX.out.below (Nat.le_refl _) b2).get HX1.out
      simp only [relF, List.getD_cons_zero, List.getD_cons_succ, List.foldl_cons, List.foldl_nil, dstAt, List.getElem?_cons_zero, List.getElem?_cons_succ, Option.bind_some]
      go_frame
      rw [h15, h17]
      go_wp2_with fail
      exact ⟨rfl, Below.refl _ _, rfl, rfl⟩
    | 19, _, hi =>
      obtain rfl := Option.some.inj hi
      have h15 : vs 15 = _ := hv 15 (by decide)
      have h18 : vs 18 = _ := hv 18 (by decide)
      have hse := HE2.out
      simp only [relF, List.getD_cons_zero, List.getD_cons_succ, List.foldl_cons, List.foldl_nil, dstAt, List.getElem?_cons_zero, List.getElem?_cons_succ, Option.bind_some]
      go_frame
      rw [h15, h18]
      go_wp2_with fail
      exact ⟨rfl, Below.refl _ _, rfl, rfl⟩
    | 20, _, hi =>
      obtain rfl := Option.some.inj hi
      have h15 : vs 15 = _ := hv 15 (by decide)
      have h19 : vs 19 = _ := hv 19 (by decide)
      simp only [relF, List.getD_cons_zero, List.getD_cons_succ, List.foldl_cons, List.foldl_nil, dstAt, List.getElem?_cons_zero, List.getElem?_cons_succ, Option.bind_some]
      go_frame
      rw [h15, h19]
      go_wp2_with fail
      exact ⟨rfl, Below.refl _ _, rfl, rfl⟩
    | 21, _, hi =>
      obtain rfl := Option.some.inj hi
      have h20 : vs 20 = _ := hv 20 (by decide)
      simp only [relF, List.getD_cons_zero, List.getD_cons_succ, List.foldl_cons, List.foldl_nil, dstAt, List.getElem?_cons_zero, List.getElem?_cons_succ, Option.bind_some]
      go_frame
      rw [h20]
      go_wp2_with fail
      exact ⟨rfl, Below.refl _ _, rfl, rfl⟩
    | 22, _, hi =>
      obtain rfl := Option.some.inj hi
      have h21 : vs 21 = _ := hv 21 (by decide)
      simp only [relF, List.getD_cons_zero, List.getD_cons_succ, List.foldl_cons, List.foldl_nil, dstAt, List.getElem?_cons_zero, List.getElem?_cons_succ, Option.bind_some]
      go_frame
      rw [h21]
      go_wp2_with fail
      exact ⟨rfl, Below.refl _ _, rfl, rfl⟩
    | 23, _, hi =>
      obtain rfl := Option.some.inj hi
      have h21 : vs 21 = _ := hv 21 (by decide)
      have h22 : vs 22 = _ := hv 22 (by decide)
      have hse := HE3.out
      simp only [relF, List.getD_cons_zero, List.getD_cons_succ, List.foldl_cons, List.foldl_nil, dstAt, List.getElem?_cons_zero, List.getElem?_cons_succ, Option.bind_some]
      go_frame
      rw [h21, h22]
      go_wp2_with fail
      exact ⟨rfl, Below.refl _ _, rfl, rfl⟩
    | 24, _, hi =>
      obtain rfl := Option.some.inj hi
      have h21 : vs 21 = _ := hv 21 (by decide)
      have h23 : vs 23 = _ := hv 23 (by decide)
      simp only [relF, List.getD_cons_zero, List.getD_cons_succ, List.foldl_cons, List.foldl_nil, dstAt, List.getElem?_cons_zero, List.getElem?_cons_succ, Option.bind_some]
      go_frame
      rw [h21, h23]
      go_wp2_with fail
      exact ⟨rfl, Below.refl _ _, rfl, rfl⟩
    | 25, _, hi =>
      obtain rfl := Option.some.inj hi
      have h24 : vs 24 = _ := hv 24 (by decide)
      simp only [relF, List.getD_cons_zero, List.getD_cons_succ, List.foldl_cons, List.foldl_nil, dstAt, List.getElem?_cons_zero, List.getElem?_cons_succ, Option.bind_some]
      go_frame
      rw [h24]
      go_wp2_with fail
      exact ⟨rfl, Below.refl _ _, rfl, rfl⟩
    | 26, _, hi =>
      obtain rfl := Option.some.inj hi
      have h25 : vs 25 = _ := hv 25 (by decide)
      simp only [relF, List.getD_cons_zero, List.getD_cons_succ, List.foldl_cons, List.foldl_nil, dstAt, List.getElem?_cons_zero, List.getElem?_cons_succ, Option.bind_some]
      go_frame
      rw [h25]
      go_wp2_with fail
      exact ⟨rfl, Below.refl _ _, rfl, rfl⟩
    | 27, _, hi =>
      obtain rfl := Option.some.inj hi
      have h25 : vs 25 = _ := hv 25 (by decide)
      have h26 : vs 26 = _ := hv 26 (by decide)
      have hse := HE3.out
      simp only [relF, List.getD_cons_zero, List.getD_cons_succ, List.foldl_cons, List.foldl_nil, dstAt, List.getElem?_cons_zero, List.getElem?_cons_succ, Option.bind_some]
      go_frame
      rw [h25, h26]
      go_wp2_with fail
      exact ⟨rfl, Below.refl _ _, rfl, rfl⟩
    | 28, _, hi =>
      obtain rfl := Option.some.inj hi
      have h25 : vs 25 = _ := hv 25 (by decide)
      have h27 : vs 27 = _ := hv 27 (by decide)
      simp only [relF, List.getD_cons_zero, List.getD_cons_succ, List.foldl_cons, List.foldl_nil, dstAt, List.getElem?_cons_zero, List.getElem?_cons_succ, Option.bind_some]
      go_frame
      rw [h25, h27]
      go_wp2_with fail
      exact ⟨rfl, Below.refl _ _, rfl, rfl⟩
    | 29, _, hi =>
      obtain rfl := Option.some.inj hi
      have h28 : vs 28 = _ := hv 28 (by decide)
      simp only [relF, List.getD_cons_zero, List.getD_cons_succ, List.foldl_cons, List.foldl_nil, dstAt, List.getElem?_cons_zero, List.getElem?_cons_succ, Option.bind_some]
      go_frame
      rw [h28]
      go_wp2_with fail
      exact ⟨rfl, Below.refl _ _, rfl, rfl⟩
    | 30, _, hi =>
      obtain rfl := Option.some.inj hi
      have h29 : vs 29 = _ := hv 29 (by decide)
      simp only [relF, List.getD_cons_zero, List.getD_cons_succ, List.foldl_cons, List.foldl_nil, dstAt, List.getElem?_cons_zero, List.getElem?_cons_succ, Option.bind_some]
      go_frame
      rw [h29]
      go_wp2_with fail
      exact ⟨rfl, Below.refl _ _, rfl, rfl⟩
    | 31, _, hi =>
      obtain rfl := Option.some.inj hi
      have h29 : vs 29 = _ := hv 29 (by decide)
      have h30 : vs 30 = _ := hv 30 (by decide)
      simp only [relF, List.getD_cons_zero, List.getD_cons_succ, List.foldl_cons, List.foldl_nil, dstAt, List.getElem?_cons_zero, List.getElem?_cons_succ, Option.bind_some]
      go_frame
      rw [h29, h30]
      go_wp2_with fail
      exact ⟨rfl, Below.refl _ _, rfl, rfl⟩
    | 32, _, hi =>
      obtain rfl := Option.some.inj hi
      have h29 : vs 29 = _ := hv 29 (by decide)
      have h31 : vs 31 = _ := hv 31 (by decide)
      simp only [relF, List.getD_cons_zero, List.getD_cons_succ, List.foldl_cons, List.foldl_nil, dstAt, List.getElem?_cons_zero, List.getElem?_cons_succ, Option.bind_some]
      go_frame
      rw [h29, h31]
      go_wp2_with fail
      exact ⟨rfl, Below.refl _ _, rfl, rfl⟩
    | 33, _, hi =>
      obtain rfl := Option.some.inj hi
      have h32 : vs 32 = _ := hv 32 (by decide)
      simp only [relF, List.getD_cons_zero, List.getD_cons_succ, List.foldl_cons, List.foldl_nil, dstAt, List.getElem?_cons_zero, List.getElem?_cons_succ, Option.bind_some]
      go_frame
      rw [h32]
      go_wp2_with fail
      exact ⟨rfl, Below.refl _ _, rfl, rfl⟩
    | 34, _, hi =>
      obtain rfl := Option.some.inj hi
      have h33 : vs 33 = _ := hv 33 (by decide)
      have hrn := clashIs_any w3 [97] [97] (by decide) (by decide) hL2
      rw [HIS.out] at hrn
      simp only [relF, List.getD_cons_zero, List.getD_cons_succ, List.foldl_cons, List.foldl_nil, dstAt, List.getElem?_cons_zero, List.getElem?_cons_succ, Option.bind_some]
      go_frame
      rw [h33]
      go_wp2_with fail
      refine (hrn).mono ?_
      rintro e w3 ⟨rfl, b3⟩
      go_wp2_with fail
      exact ⟨rfl, b3, rfl, rfl⟩
    | 35, _, hi =>
      obtain rfl := Option.some.inj hi
      have h33 : vs 33 = _ := hv 33 (by decide)
      have h34 : vs 34 = _ := hv 34 (by decide)
      simp only [relF, List.getD_cons_zero, List.getD_cons_succ, List.foldl_cons, List.foldl_nil, dstAt, List.getElem?_cons_zero, List.getElem?_cons_succ, Option.bind_some]
      go_frame
      rw [h33, h34]
      go_wp2_with fail
      exact ⟨rfl, Below.refl _ _, rfl, rfl⟩
    | 36, _, hi =>
      obtain rfl := Option.some.inj hi
      have h33 : vs 33 = _ := hv 33 (by decide)
      have h35 : vs 35 = _ := hv 35 (by decide)
      simp only [relF, List.getD_cons_zero, List.getD_cons_succ, List.foldl_cons, List.foldl_nil, dstAt, List.getElem?_cons_zero, List.getElem?_cons_succ, Option.bind_some]
      go_frame
      rw [h33, h35]
      go_wp2_with fail
      exact ⟨rfl, Below.refl _ _, rfl, rfl⟩
    | 37, _, hi =>
      obtain rfl := Option.some.inj hi
      have h36 : vs 36 = _ := hv 36 (by decide)
      simp only [relF, List.getD_cons_zero, List.getD_cons_succ, List.foldl_cons, List.foldl_nil, dstAt, List.getElem?_cons_zero, List.getElem?_cons_succ, Option.bind_some]
      go_frame
      rw [h36]
      go_wp2_with fail
      exact ⟨rfl, Below.refl _ _, rfl, rfl⟩
    | nx + 38, him, _ => exact absurd him (by omega)
  · intro w3 b2 vs hv
    have hL2 := HL.out.below (B2.trans (b2.mono B2.size))
    have h37 : vs 37 = _ := hv 37 (by decide)
    simp only [relF, List.drop_succ_cons, List.drop_zero, List.length_cons, List.length_nil, Nat.zero_add, Nat.reduceAdd, List.range, List.range.loop, List.foldl_cons, List.foldl_nil, dstAt, List.getElem?_cons_zero, List.getElem?_cons_succ, Option.bind_some]
    go_frame
    rw [h37]
    go_wp2_with fail
    go_ret
    exact ⟨rfl, B2.trans (b2.mono B2.size)⟩

end Go.Proofs.YteljlnkjdajkgaaDoor
