/- The walk of the reference's Twice. -/
import Derived.Test.YtbgahpbnlogdnaaDoorTreeRows
namespace Go.Proofs.YtbgahpbnlogdnaaDoor
open Go.RowKit
set_option linter.unusedSimpArgs false
set_option linter.unusedVariables false

/-- What the region's operations leave. -/
def twA (bx ox cx by' oy cy k j : Nat) (x y : List UInt8) (ix : Nat) (w : World) (v : Value) : Prop :=
  match ix with
  | 0 => v = .slice (some ⟨bx, ox, none⟩) k cx
  | 1 => v = .int .i64 (j : Int)
  | 2 => v = .pointer (some ⟨bx, ox + j, none⟩)
  | 3 => v = .string (strOf x)
  | 4 => v = .slice (some ⟨by', oy, none⟩) k cy
  | 5 => v = .int .i64 (j : Int)
  | 6 => v = .pointer (some ⟨by', oy + j, none⟩)
  | 7 => v = .string (strOf y)
  | 8 => v = .bool false
  | 9 => v = .bool false
  | 10 => True
  | 11 => True
  | 12 => True
  | 13 => True
  | 14 => True
  | 15 => True
  | 16 => True
  | 17 => True
  | 18 => True
  | 19 => True
  | 20 => True
  | 21 => v = .bool false
  | _ => True

theorem twA_mono (bx ox cx by' oy cy k j : Nat) (x y : List UInt8) (jx : Nat) (w w' : World) (v : Value) (hb : Below w.heap.size w w') (h : twA bx ox cx by' oy cy k j x y jx w v) : twA bx ox cx by' oy cy k j x y jx w' v := by
  match jx, h with
  | 0, h => exact h
  | 1, h => exact h
  | 2, h => exact h
  | 3, h => exact h
  | 4, h => exact h
  | 5, h => exact h
  | 6, h => exact h
  | 7, h => exact h
  | 8, h => exact h
  | 9, h => exact h
  | 10, h => exact trivial
  | 11, h => exact trivial
  | 12, h => exact trivial
  | 13, h => exact trivial
  | 14, h => exact trivial
  | 15, h => exact trivial
  | 16, h => exact trivial
  | 17, h => exact trivial
  | 18, h => exact trivial
  | 19, h => exact trivial
  | 20, h => exact trivial
  | 21, h => exact h
  | _ + 22, h => exact trivial

/-- What the region's operations leave. -/
def twB (bx ox cx by' oy cy k j : Nat) (x y : List UInt8) (ix : Nat) (w : World) (v : Value) : Prop :=
  match ix with
  | 0 => v = .slice (some ⟨bx, ox, none⟩) k cx
  | 1 => v = .int .i64 (j : Int)
  | 2 => v = .pointer (some ⟨bx, ox + j, none⟩)
  | 3 => v = .string (strOf x)
  | 4 => v = .slice (some ⟨by', oy, none⟩) k cy
  | 5 => v = .int .i64 (j : Int)
  | 6 => v = .pointer (some ⟨by', oy + j, none⟩)
  | 7 => v = .string (strOf y)
  | 8 => v = .bool true
  | 9 => v = .bool true
  | 10 => v = .slice (some ⟨bx, ox, none⟩) k cx
  | 11 => v = .int .i64 (j : Int)
  | 12 => v = .pointer (some ⟨bx, ox + j, none⟩)
  | 13 => v = .string (strOf x)
  | 14 => v = .string (strOf (Sha.of x))
  | 15 => v = .slice (some ⟨by', oy, none⟩) k cy
  | 16 => v = .int .i64 (j : Int)
  | 17 => v = .pointer (some ⟨by', oy + j, none⟩)
  | 18 => v = .string (strOf y)
  | 19 => v = .string (strOf (Sha.of y))
  | 20 => v = .bool false
  | 21 => v = .bool false
  | _ => True

theorem twB_mono (bx ox cx by' oy cy k j : Nat) (x y : List UInt8) (jx : Nat) (w w' : World) (v : Value) (hb : Below w.heap.size w w') (h : twB bx ox cx by' oy cy k j x y jx w v) : twB bx ox cx by' oy cy k j x y jx w' v := by
  match jx, h with
  | 0, h => exact h
  | 1, h => exact h
  | 2, h => exact h
  | 3, h => exact h
  | 4, h => exact h
  | 5, h => exact h
  | 6, h => exact h
  | 7, h => exact h
  | 8, h => exact h
  | 9, h => exact h
  | 10, h => exact h
  | 11, h => exact h
  | 12, h => exact h
  | 13, h => exact h
  | 14, h => exact h
  | 15, h => exact h
  | 16, h => exact h
  | 17, h => exact h
  | 18, h => exact h
  | 19, h => exact h
  | 20, h => exact h
  | 21, h => exact h
  | _ + 22, h => exact trivial

/-- What the region's operations leave. -/
def twC (bx ox cx by' oy cy k j : Nat) (x y : List UInt8) (ix : Nat) (w : World) (v : Value) : Prop :=
  match ix with
  | 0 => v = .slice (some ⟨bx, ox, none⟩) k cx
  | 1 => v = .int .i64 (j : Int)
  | 2 => v = .pointer (some ⟨bx, ox + j, none⟩)
  | 3 => v = .string (strOf x)
  | 4 => v = .slice (some ⟨by', oy, none⟩) k cy
  | 5 => v = .int .i64 (j : Int)
  | 6 => v = .pointer (some ⟨by', oy + j, none⟩)
  | 7 => v = .string (strOf y)
  | 8 => v = .bool true
  | 9 => v = .bool true
  | 10 => v = .slice (some ⟨bx, ox, none⟩) k cx
  | 11 => v = .int .i64 (j : Int)
  | 12 => v = .pointer (some ⟨bx, ox + j, none⟩)
  | 13 => v = .string (strOf x)
  | 14 => v = .string (strOf (Sha.of x))
  | 15 => v = .slice (some ⟨by', oy, none⟩) k cy
  | 16 => v = .int .i64 (j : Int)
  | 17 => v = .pointer (some ⟨by', oy + j, none⟩)
  | 18 => v = .string (strOf y)
  | 19 => v = .string (strOf (Sha.of y))
  | 20 => v = .bool true
  | 21 => v = .bool true
  | _ => True

theorem twC_mono (bx ox cx by' oy cy k j : Nat) (x y : List UInt8) (jx : Nat) (w w' : World) (v : Value) (hb : Below w.heap.size w w') (h : twC bx ox cx by' oy cy k j x y jx w v) : twC bx ox cx by' oy cy k j x y jx w' v := by
  match jx, h with
  | 0, h => exact h
  | 1, h => exact h
  | 2, h => exact h
  | 3, h => exact h
  | 4, h => exact h
  | 5, h => exact h
  | 6, h => exact h
  | 7, h => exact h
  | 8, h => exact h
  | 9, h => exact h
  | 10, h => exact h
  | 11, h => exact h
  | 12, h => exact h
  | 13, h => exact h
  | 14, h => exact h
  | 15, h => exact h
  | 16, h => exact h
  | 17, h => exact h
  | 18, h => exact h
  | 19, h => exact h
  | 20, h => exact h
  | 21, h => exact h
  | _ + 22, h => exact trivial

/-- What the region's operations leave. -/
def twD (bx ox cx by' oy cy k j : Nat) (x y : List UInt8) (ix : Nat) (w : World) (v : Value) : Prop :=
  match ix with
  | 0 => v = .slice (some ⟨bx, ox, none⟩) k cx
  | 1 => v = .int .i64 (j : Int)
  | 2 => v = .pointer (some ⟨bx, ox + j, none⟩)
  | 3 => v = .string (strOf x)
  | 4 => v = .slice (some ⟨by', oy, none⟩) k cy
  | 5 => v = .int .i64 (j : Int)
  | 6 => v = .pointer (some ⟨by', oy + j, none⟩)
  | 7 => v = .string (strOf y)
  | 8 => v = .string (strOf x)
  | 9 => v = .string (strOf y)
  | 10 => v = .bool true
  | _ => True

theorem twD_mono (bx ox cx by' oy cy k j : Nat) (x y : List UInt8) (jx : Nat) (w w' : World) (v : Value) (hb : Below w.heap.size w w') (h : twD bx ox cx by' oy cy k j x y jx w v) : twD bx ox cx by' oy cy k j x y jx w' v := by
  match jx, h with
  | 0, h => exact h
  | 1, h => exact h
  | 2, h => exact h
  | 3, h => exact h
  | 4, h => exact h
  | 5, h => exact h
  | 6, h => exact h
  | 7, h => exact h
  | 8, h => exact h
  | 9, h => exact h
  | 10, h => exact h
  | _ + 11, h => exact trivial

theorem step_no {X Y : List (List UInt8)} {j : Nat} {x y : List UInt8} (hno : ∀ j', j' < j → ∀ x y, X[j']? = some x → Y[j']? = some y → ¬ (x ≠ y ∧ Sha.of x = Sha.of y)) (hx : X[j]? = some x) (hy : Y[j]? = some y) (hc : ¬ (x ≠ y ∧ Sha.of x = Sha.of y)) :
    ∀ j', j' < j + 1 → ∀ x y, X[j']? = some x → Y[j']? = some y → ¬ (x ≠ y ∧ Sha.of x = Sha.of y) := by
  intro j' hj' x' y' h1 h2
  rcases Nat.lt_or_ge j' j with h | h
  · exact hno j' h x' y' h1 h2
  · obtain rfl : j' = j := by omega
    rw [hx] at h1
    rw [hy] at h2
    cases h1
    cases h2
    exact hc

set_option maxRecDepth 100000 in
set_option maxHeartbeats 4000000 in
theorem refTwice_any (w : World) (n i : Nat) (h1 : i < n) (h2 : n ≤ 1073741824) (a b : List UInt8) (ha : a.length ≤ 100000) (hb : b.length ≤ 100000) (oP oQ : Option Addr) (mP cP mQ cQ : Nat) (P Q : List (List UInt8)) (hP : HashesAt w oP mP cP P) (hQ : HashesAt w oQ mQ cQ Q)
    (hsP : (Tree.sides n i).length = P.length) (hsQ : (Tree.sides n i).length = Q.length) (hcl : Tree.Clash (Tree.rowsAll n (Tree.rowsS (Tree.sides n i) a P)) (Tree.rowsAll n (Tree.rowsS (Tree.sides n i) b Q))) :
    Calls Tryd.prog 31 #[.int .i64 (n : Int), .int .i64 (i : Int), .string (strOf a), .slice oP mP cP, .string (strOf b), .slice oQ mQ cQ] w fun e w' => ∃ x y, e = .returned (.tuple #[.string (strOf x), .string (strOf y), .bool true]) ∧ x ≠ y ∧ Sha.of x = Sha.of y ∧ x.length ≤ 100001 ∧ y.length ≤ 100001 ∧ Below w.heap.size w w' := by
  have hs30 := Tree.sides_len 30 n i h1 h2
  have hmP : P.length = mP := hP.1.1
  have hmQ : Q.length = mQ := hQ.1.1
  have hcP : mP ≤ cP := hP.1.2.1
  have hcQ : mQ ≤ cQ := hQ.1.2.1
  have hxP : cP ≤ 9223372036854775807 := hP.1.2.2.1
  have hxQ : cQ ≤ 9223372036854775807 := hQ.1.2.2.1
  obtain ⟨X0, hX0⟩ : ∃ X0, X0 = Tree.rowsS (Tree.sides n i) a P := ⟨_, rfl⟩
  obtain ⟨Y0, hY0⟩ : ∃ Y0, Y0 = Tree.rowsS (Tree.sides n i) b Q := ⟨_, rfl⟩
  have hXl : X0.length = (Tree.sides n i).length + 1 := by rw [hX0, Tree.rowsS_len]
  have hYl : Y0.length = (Tree.sides n i).length + 1 := by rw [hY0, Tree.rowsS_len]
  have hXb : ∀ r ∈ X0, r.length ≤ 100001 := by rw [hX0]; exact Tree.rows_bound _ a P hsP hP.2 ha
  have hYb : ∀ r ∈ Y0, r.length ≤ 100001 := by rw [hY0]; exact Tree.rows_bound _ b Q hsQ hQ.2 hb
  have hra := refRows_any n w n i a oP mP cP P rfl h1 h2 ha hP hsP
  have hrb := fun (w1 : World) (b1 : Below w.heap.size w w1) => refRows_any n w1 n i b oQ mQ cQ Q rfl h1 h2 hb (hQ.below (Nat.le_refl _) b1) hsQ
  rw [← hX0] at hra hcl
  rw [← hY0] at hrb hcl
  obtain ⟨x0, hx0⟩ : ∃ x, X0[0]? = some x := ⟨_, List.getElem?_eq_getElem (by omega)⟩
  obtain ⟨y0, hy0⟩ : ∃ y, Y0[0]? = some y := ⟨_, List.getElem?_eq_getElem (by omega)⟩
  have hxh : X0.headD [] = x0 := by rw [List.headD_eq_head?_getD, List.head?_eq_getElem?, hx0]; rfl
  have hyh : Y0.headD [] = y0 := by rw [List.headD_eq_head?_getD, List.head?_eq_getElem?, hy0]; rfl
  have hx0b := hXb x0 (List.mem_of_getElem? hx0)
  have hy0b := hYb y0 (List.mem_of_getElem? hy0)
  obtain ⟨X, hX⟩ : ∃ X, X = Tree.rowsAll n X0 := ⟨_, rfl⟩
  obtain ⟨Y, hY⟩ : ∃ Y, Y = Tree.rowsAll n Y0 := ⟨_, rfl⟩
  rw [← hX, ← hY] at hcl
  have hnl := Wire.num_length n (by omega)
  have hXe : X = (3 :: (Wire.num n ++ Sha.of x0)) :: X0 := by rw [hX]; unfold Tree.rowsAll; rw [hxh]
  have hYe : Y = (3 :: (Wire.num n ++ Sha.of y0)) :: Y0 := by rw [hY]; unfold Tree.rowsAll; rw [hyh]
  have hXB : ∀ r ∈ X, r.length ≤ 100001 := by
    intro r hr
    rw [hXe] at hr
    rcases List.mem_cons.1 hr with rfl | hr
    · have := Sha.of_len x0; simp only [List.length_cons, List.length_append]; omega
    · exact hXb r hr
  have hYB : ∀ r ∈ Y, r.length ≤ 100001 := by
    intro r hr
    rw [hYe] at hr
    rcases List.mem_cons.1 hr with rfl | hr
    · have := Sha.of_len y0; simp only [List.length_cons, List.length_append]; omega
    · exact hYb r hr
  have HRA := Lib.hid hra; clear hra
  have HRB := Lib.hid hrb; clear hrb
  have HCL := Lib.hid hcl; clear hcl
  have HXE := Lib.hid hXe; clear hXe
  have HYE := Lib.hid hYe; clear hYe
  have HXBA := Lib.hid hXB; clear hXB
  have HYBA := Lib.hid hYB; clear hYB
  have HX0 := Lib.hid hx0; clear hx0
  have HY0 := Lib.hid hy0; clear hy0
  clear hX hY hxh hyh hX0 hY0 hXb hYb hP hQ
  have t1 : decide ((n : Int) < 1) = false := decide_eq_false (by omega)
  have t2 : decide ((1073741824 : Int) < (n : Int)) = false := decide_eq_false (by omega)
  have t3 : decide ((i : Int) < 0) = false := decide_eq_false (by omega)
  have t4 : decide ((n : Int) ≤ (i : Int)) = false := decide_eq_false (by omega)
  have t4' : decide (n ≤ i) = false := decide_eq_false (by omega)
  have t1' : decide (n < 1) = false := decide_eq_false (by omega)
  have t5 : decide ((40 : Int) < (mP : Int)) = false := decide_eq_false (by omega)
  have t6 : decide ((40 : Int) < (mQ : Int)) = false := decide_eq_false (by omega)
  have hu : IntKind.u64.wrap (n : Int) = (n : Int) := by rw [IntKind.wrap_u64]; omega
  go_enter Tryd.func31, Tryd.ntmps31
  go_wp2_with fail
  refine HRA.out.mono ?_
  rintro e w1 ⟨qx, cx0, kx, rfl, sx, b1⟩
  have hb1 := HRB.out w1 b1
  have HRB1 := Lib.hid hb1; clear hb1 HRA HRB
  go_wp2_with fail
  refine HRB1.out.mono ?_
  rintro e w2 ⟨qy, cy0, ky, rfl, sy, b2⟩
  have hkx := sx.len
  have hky := sy.len
  have hccx := sx.cap
  have hccy := sy.cap
  have hcmx := sx.max
  have hcmy := sy.max
  have SX := Lib.hid (sx.below (Nat.le_refl _) b2); clear sx
  have SY := Lib.hid sy; clear sy HRB1
  have B2 := b1.trans (b2.mono b1.size)
  clear b1 b2
  obtain rfl : kx = ky := by omega
  obtain ⟨k, hk⟩ : ∃ k, k = 1 + kx := ⟨_, rfl⟩
  have hk32 : k ≤ 32 := by omega
  have hk0 : 0 < k := by omega
  have HKE := Lib.hid hk; clear hk
  obtain ⟨bx0, ox0, rfl⟩ := SX.out.form (by omega)
  obtain ⟨by0, oy0, rfl⟩ := SY.out.form (by omega)
  have tx : ((kx : Int) == 0) = false := by rw [beq_eq_false_iff_ne]; omega
  have hc := refNum_any n (by omega) w2
  have HC := Lib.hid hc; clear hc
  go_wp2_with fail
  refine HC.out.mono ?_
  rintro e w3 ⟨rfl, b3⟩
  replace SX := Lib.hid (SX.out.below (Nat.le_refl _) b3)
  replace SY := Lib.hid (SY.out.below (Nat.le_refl _) b3)
  have B3 := B2.trans (b3.mono B2.size)
  have hadd : (⟨#[3]⟩ : ByteArray) ++ strOf (Wire.num n) = strOf (3 :: Wire.num n) := add_str [3] _
  have hst := strOf_size (Wire.num n)
  have hs0 : (⟨#[3]⟩ : ByteArray).size = 1 := rfl
  have hst1 : (strOf (3 :: Wire.num n)).size = (Wire.num n).length + 1 := strOf_size _
  have hcellx := SX.out.get (i := 0) HX0.out
  rw [Nat.add_zero] at hcellx
  have hc := refOf_any w3 x0 (by omega)
  have HC2 := Lib.hid hc; clear hc
  clear HC B2 b3
  go_wp2_with fail
  refine HC2.out.mono ?_
  rintro e w4 ⟨rfl, b4⟩
  replace SX := Lib.hid (SX.out.below (Nat.le_refl _) b4)
  replace SY := Lib.hid (SY.out.below (Nat.le_refl _) b4)
  have B4 := B3.trans (b4.mono B3.size)
  clear HC2 B3 hcellx
  have hshx := Sha.of_len x0
  have hshy := Sha.of_len y0
  have hstx := strOf_size (Sha.of x0)
  have hsty := strOf_size (Sha.of y0)
  have hadx : strOf (3 :: Wire.num n) ++ strOf (Sha.of x0) = strOf (3 :: (Wire.num n ++ Sha.of x0)) := add_str (3 :: Wire.num n) _
  have hady : strOf (3 :: Wire.num n) ++ strOf (Sha.of y0) = strOf (3 :: (Wire.num n ++ Sha.of y0)) := add_str (3 :: Wire.num n) _
  obtain ⟨Wx, hWx⟩ : ∃ W, W = w4.alloc (.cells #[.string (strOf (3 :: (Wire.num n ++ Sha.of x0)))] 9) := ⟨_, rfl⟩
  have dx : Below w4.heap.size w4 Wx := by rw [hWx]; exact (Below.refl _ _).alloc (Nat.le_refl _) _
  obtain ⟨px, cx, w5, hrx, lx, b5⟩ := StrsAt.cons (g := w4.heap.size) (x := 3 :: (Wire.num n ++ Sha.of x0)) (SX.out.below (Nat.le_refl _) dx) (by omega) (by omega) (by rw [hWx]; exact heap_alloc_new w4 _)
  rw [← HXE.out, ← HKE.out] at lx
  rw [← HKE.out] at hrx
  have b5' := dx.trans (b5.mono dx.size)
  rw [hWx] at hrx
  have HXA := Lib.hid lx; clear lx hWx dx b5
  replace SY := Lib.hid (SY.out.below (Nat.le_refl _) b5')
  have B5 := B4.trans (b5'.mono B4.size)
  have hcelly := SY.out.get (i := 0) HY0.out
  rw [Nat.add_zero] at hcelly
  have hc := refOf_any w5 y0 (by omega)
  have HC3 := Lib.hid hc; clear hc
  clear B4 b5'
  go_wp2_with ((with_reducible show wpList _ _ _ (⟨some 76, _, _, _, _, _⟩ :: _) _ _); refine wpList_append_ran (by kernel_rfl) _ _ _ rfl _ _ rfl rfl hrx ?_)
  refine HC3.out.mono ?_
  rintro e w6 ⟨rfl, b6⟩
  replace SY := Lib.hid (SY.out.below (Nat.le_refl _) b6)
  replace HXA := Lib.hid (HXA.out.below (Nat.le_refl _) b6)
  have B6 := B5.trans (b6.mono B5.size)
  clear HC3 B5 hcelly hrx
  obtain ⟨Wy, hWy⟩ : ∃ W, W = w6.alloc (.cells #[.string (strOf (3 :: (Wire.num n ++ Sha.of y0)))] 9) := ⟨_, rfl⟩
  have dy : Below w6.heap.size w6 Wy := by rw [hWy]; exact (Below.refl _ _).alloc (Nat.le_refl _) _
  obtain ⟨py, cy, w7, hry, ly, b7⟩ := StrsAt.cons (g := w6.heap.size) (x := 3 :: (Wire.num n ++ Sha.of y0)) (SY.out.below (Nat.le_refl _) dy) (by omega) (by omega) (by rw [hWy]; exact heap_alloc_new w6 _)
  rw [← HYE.out, ← HKE.out] at ly
  rw [← HKE.out] at hry
  have b7' := dy.trans (b7.mono dy.size)
  rw [hWy] at hry
  have HYA := Lib.hid ly; clear ly hWy dy b7
  replace HXA := Lib.hid (HXA.out.below (Nat.le_refl _) b7')
  have B7 := B6.trans (b7'.mono B6.size)
  clear B6 b7'
  have hXk := HXA.out.len
  have hYk := HYA.out.len
  have hcx := HXA.out.cap
  have hcy := HYA.out.cap
  have hmx := HXA.out.max
  have hmy := HYA.out.max
  obtain ⟨bx, ox, hpx⟩ := HXA.out.form (by omega)
  obtain ⟨by', oy, hpy⟩ := HYA.out.form (by omega)
  obtain rfl := Option.some.inj hpx
  obtain rfl := Option.some.inj hpy
  clear hpx hpy
  go_wp2_with ((with_reducible show wpList _ _ _ (⟨some 85, _, _, _, _, _⟩ :: _) _ _); refine wpList_append_ran (by kernel_rfl) _ _ _ rfl _ _ rfl rfl hry ?_)
  go_loopw [20] (fun v wr => ∃ j : Nat, j ≤ k ∧ v = .int .i64 (j : Int) ∧ Hid (∀ j', j' < j → ∀ x y, X[j']? = some x → Y[j']? = some y → ¬ (x ≠ y ∧ Sha.of x = Sha.of y)) ∧ Below w7.heap.size w7 wr) (fun v _ => k - (intOf v).toNat)
  case atStart => exact ⟨0, by omega, rfl, Lib.hid (fun j' hj' => absurd hj' (by omega)), Below.refl _ _⟩
  case round =>
    clear hry
    obtain ⟨j, hj, rfl, hno, Br7⟩ := hrel
    have Br := B7.trans (Br7.mono B7.size)
    have HX := Lib.hid (HXA.out.below (Nat.le_refl _) Br7)
    have HY := Lib.hid (HYA.out.below (Nat.le_refl _) Br7)
    by_cases hlt : j < k
    · obtain ⟨x, hxj⟩ : ∃ x, X[j]? = some x := ⟨_, List.getElem?_eq_getElem (by omega)⟩
      obtain ⟨y, hyj⟩ : ∃ y, Y[j]? = some y := ⟨_, List.getElem?_eq_getElem (by omega)⟩
      have HXB := Lib.hid (HXBA.out x (List.mem_of_getElem? hxj))
      have HYB := Lib.hid (HYBA.out y (List.mem_of_getElem? hyj))
      have HXJ := Lib.hid hxj; clear hxj
      have HYJ := Lib.hid hyj; clear hyj
      have u1 : decide ((j : Int) < (k : Int)) = true := decide_eq_true (by omega)
      have u1' : decide (j < k) = true := decide_eq_true hlt
      go_wp2_with fail
      by_cases hxy : x = y
      · have hne : ((strOf x).toList == (strOf y).toList) = true := by rw [hxy]; simp
        have HNE := Lib.hid hne; clear hne
        have hcl : Hid (¬ (x ≠ y ∧ Sha.of x = Sha.of y)) := Lib.hid (fun h => h.1 hxy)
        clear hxy
        refine wp_region_rel [[], [], [0, 1], [2], [], [], [4, 5], [6], [3, 7], [8], [9], [9], [9, 10, 11], [9, 12], [9, 13], [9], [9], [9, 15, 16], [9, 17], [9, 18], [9, 14, 19], [9, 20]] (twA bx ox cx by' oy cy k j x y) 128 (by kernel_rfl) (by kernel_rfl) (by kernel_rfl) (twA_mono bx ox cx by' oy cy k j x y) ?_ ?_
        · intro ix op hi w2 b2 vs hv
          have him : ix < 22 := (List.getElem?_eq_some_iff.1 hi).1
          have hxb := HXB.out
          have hyb := HYB.out
          match ix, him, hi with
          | 0, _, hi =>
            obtain rfl := Option.some.inj hi
            simp only [relF, List.getD_cons_zero, List.getD_cons_succ, List.foldl_cons, List.foldl_nil, dstAt, List.getElem?_cons_zero, List.getElem?_cons_succ, Option.bind_some]
            go_wp2_with fail
            exact ⟨rfl, Below.refl _ _, rfl, rfl⟩
          | 1, _, hi =>
            obtain rfl := Option.some.inj hi
            simp only [relF, List.getD_cons_zero, List.getD_cons_succ, List.foldl_cons, List.foldl_nil, dstAt, List.getElem?_cons_zero, List.getElem?_cons_succ, Option.bind_some]
            go_wp2_with fail
            exact ⟨rfl, Below.refl _ _, rfl, rfl⟩
          | 2, _, hi =>
            obtain rfl := Option.some.inj hi
            have h0 : vs 0 = _ := hv 0 (by decide)
            have h1 : vs 1 = _ := hv 1 (by decide)
            simp only [relF, List.getD_cons_zero, List.getD_cons_succ, List.foldl_cons, List.foldl_nil, dstAt, List.getElem?_cons_zero, List.getElem?_cons_succ, Option.bind_some]
            go_frame
            rw [h0, h1]
            go_wp2_with fail
            exact ⟨rfl, Below.refl _ _, rfl, rfl⟩
          | 3, _, hi =>
            obtain rfl := Option.some.inj hi
            have h2 : vs 2 = _ := hv 2 (by decide)
            have hcell := (HX.out.below (Nat.le_refl _) b2).get HXJ.out
            simp only [relF, List.getD_cons_zero, List.getD_cons_succ, List.foldl_cons, List.foldl_nil, dstAt, List.getElem?_cons_zero, List.getElem?_cons_succ, Option.bind_some]
            go_frame
            rw [h2]
            go_wp2_with fail
            exact ⟨rfl, Below.refl _ _, rfl, rfl⟩
          | 4, _, hi =>
            obtain rfl := Option.some.inj hi
            simp only [relF, List.getD_cons_zero, List.getD_cons_succ, List.foldl_cons, List.foldl_nil, dstAt, List.getElem?_cons_zero, List.getElem?_cons_succ, Option.bind_some]
            go_wp2_with fail
            exact ⟨rfl, Below.refl _ _, rfl, rfl⟩
          | 5, _, hi =>
            obtain rfl := Option.some.inj hi
            simp only [relF, List.getD_cons_zero, List.getD_cons_succ, List.foldl_cons, List.foldl_nil, dstAt, List.getElem?_cons_zero, List.getElem?_cons_succ, Option.bind_some]
            go_wp2_with fail
            exact ⟨rfl, Below.refl _ _, rfl, rfl⟩
          | 6, _, hi =>
            obtain rfl := Option.some.inj hi
            have h4 : vs 4 = _ := hv 4 (by decide)
            have h5 : vs 5 = _ := hv 5 (by decide)
            simp only [relF, List.getD_cons_zero, List.getD_cons_succ, List.foldl_cons, List.foldl_nil, dstAt, List.getElem?_cons_zero, List.getElem?_cons_succ, Option.bind_some]
            go_frame
            rw [h4, h5]
            go_wp2_with fail
            exact ⟨rfl, Below.refl _ _, rfl, rfl⟩
          | 7, _, hi =>
            obtain rfl := Option.some.inj hi
            have h6 : vs 6 = _ := hv 6 (by decide)
            have hcell := (HY.out.below (Nat.le_refl _) b2).get HYJ.out
            simp only [relF, List.getD_cons_zero, List.getD_cons_succ, List.foldl_cons, List.foldl_nil, dstAt, List.getElem?_cons_zero, List.getElem?_cons_succ, Option.bind_some]
            go_frame
            rw [h6]
            go_wp2_with fail
            exact ⟨rfl, Below.refl _ _, rfl, rfl⟩
          | 8, _, hi =>
            obtain rfl := Option.some.inj hi
            have h3 : vs 3 = _ := hv 3 (by decide)
            have h7 : vs 7 = _ := hv 7 (by decide)
            have hse := HNE.out
            simp only [relF, List.getD_cons_zero, List.getD_cons_succ, List.foldl_cons, List.foldl_nil, dstAt, List.getElem?_cons_zero, List.getElem?_cons_succ, Option.bind_some]
            go_frame
            rw [h3, h7]
            go_wp2_with fail
            exact ⟨rfl, Below.refl _ _, rfl, rfl⟩
          | 9, _, hi =>
            obtain rfl := Option.some.inj hi
            have h8 : vs 8 = _ := hv 8 (by decide)
            simp only [relF, List.getD_cons_zero, List.getD_cons_succ, List.foldl_cons, List.foldl_nil, dstAt, List.getElem?_cons_zero, List.getElem?_cons_succ, Option.bind_some]
            go_frame
            rw [h8]
            go_wp2_with fail
            exact ⟨rfl, Below.refl _ _, rfl, rfl⟩
          | 10, _, hi =>
            obtain rfl := Option.some.inj hi
            have h9 : vs 9 = _ := hv 9 (by decide)
            simp only [relF, List.getD_cons_zero, List.getD_cons_succ, List.foldl_cons, List.foldl_nil, dstAt, List.getElem?_cons_zero, List.getElem?_cons_succ, Option.bind_some]
            go_frame
            rw [h9]
            go_wp2_with fail
            exact ⟨rfl, Below.refl _ _, rfl, trivial⟩
          | 11, _, hi =>
            obtain rfl := Option.some.inj hi
            have h9 : vs 9 = _ := hv 9 (by decide)
            simp only [relF, List.getD_cons_zero, List.getD_cons_succ, List.foldl_cons, List.foldl_nil, dstAt, List.getElem?_cons_zero, List.getElem?_cons_succ, Option.bind_some]
            go_frame
            rw [h9]
            go_wp2_with fail
            exact ⟨rfl, Below.refl _ _, rfl, trivial⟩
          | 12, _, hi =>
            obtain rfl := Option.some.inj hi
            have h9 : vs 9 = _ := hv 9 (by decide)
            simp only [relF, List.getD_cons_zero, List.getD_cons_succ, List.foldl_cons, List.foldl_nil, dstAt, List.getElem?_cons_zero, List.getElem?_cons_succ, Option.bind_some]
            go_frame
            rw [h9]
            go_wp2_with fail
            exact ⟨rfl, Below.refl _ _, rfl, trivial⟩
          | 13, _, hi =>
            obtain rfl := Option.some.inj hi
            have h9 : vs 9 = _ := hv 9 (by decide)
            simp only [relF, List.getD_cons_zero, List.getD_cons_succ, List.foldl_cons, List.foldl_nil, dstAt, List.getElem?_cons_zero, List.getElem?_cons_succ, Option.bind_some]
            go_frame
            rw [h9]
            go_wp2_with fail
            exact ⟨rfl, Below.refl _ _, rfl, trivial⟩
          | 14, _, hi =>
            obtain rfl := Option.some.inj hi
            have h9 : vs 9 = _ := hv 9 (by decide)
            simp only [relF, List.getD_cons_zero, List.getD_cons_succ, List.foldl_cons, List.foldl_nil, dstAt, List.getElem?_cons_zero, List.getElem?_cons_succ, Option.bind_some]
            go_frame
            rw [h9]
            go_wp2_with fail
            exact ⟨rfl, Below.refl _ _, rfl, trivial⟩
          | 15, _, hi =>
            obtain rfl := Option.some.inj hi
            have h9 : vs 9 = _ := hv 9 (by decide)
            simp only [relF, List.getD_cons_zero, List.getD_cons_succ, List.foldl_cons, List.foldl_nil, dstAt, List.getElem?_cons_zero, List.getElem?_cons_succ, Option.bind_some]
            go_frame
            rw [h9]
            go_wp2_with fail
            exact ⟨rfl, Below.refl _ _, rfl, trivial⟩
          | 16, _, hi =>
            obtain rfl := Option.some.inj hi
            have h9 : vs 9 = _ := hv 9 (by decide)
            simp only [relF, List.getD_cons_zero, List.getD_cons_succ, List.foldl_cons, List.foldl_nil, dstAt, List.getElem?_cons_zero, List.getElem?_cons_succ, Option.bind_some]
            go_frame
            rw [h9]
            go_wp2_with fail
            exact ⟨rfl, Below.refl _ _, rfl, trivial⟩
          | 17, _, hi =>
            obtain rfl := Option.some.inj hi
            have h9 : vs 9 = _ := hv 9 (by decide)
            simp only [relF, List.getD_cons_zero, List.getD_cons_succ, List.foldl_cons, List.foldl_nil, dstAt, List.getElem?_cons_zero, List.getElem?_cons_succ, Option.bind_some]
            go_frame
            rw [h9]
            go_wp2_with fail
            exact ⟨rfl, Below.refl _ _, rfl, trivial⟩
          | 18, _, hi =>
            obtain rfl := Option.some.inj hi
            have h9 : vs 9 = _ := hv 9 (by decide)
            simp only [relF, List.getD_cons_zero, List.getD_cons_succ, List.foldl_cons, List.foldl_nil, dstAt, List.getElem?_cons_zero, List.getElem?_cons_succ, Option.bind_some]
            go_frame
            rw [h9]
            go_wp2_with fail
            exact ⟨rfl, Below.refl _ _, rfl, trivial⟩
          | 19, _, hi =>
            obtain rfl := Option.some.inj hi
            have h9 : vs 9 = _ := hv 9 (by decide)
            simp only [relF, List.getD_cons_zero, List.getD_cons_succ, List.foldl_cons, List.foldl_nil, dstAt, List.getElem?_cons_zero, List.getElem?_cons_succ, Option.bind_some]
            go_frame
            rw [h9]
            go_wp2_with fail
            exact ⟨rfl, Below.refl _ _, rfl, trivial⟩
          | 20, _, hi =>
            obtain rfl := Option.some.inj hi
            have h9 : vs 9 = _ := hv 9 (by decide)
            simp only [relF, List.getD_cons_zero, List.getD_cons_succ, List.foldl_cons, List.foldl_nil, dstAt, List.getElem?_cons_zero, List.getElem?_cons_succ, Option.bind_some]
            go_frame
            rw [h9]
            go_wp2_with fail
            exact ⟨rfl, Below.refl _ _, rfl, trivial⟩
          | 21, _, hi =>
            obtain rfl := Option.some.inj hi
            have h9 : vs 9 = _ := hv 9 (by decide)
            simp only [relF, List.getD_cons_zero, List.getD_cons_succ, List.foldl_cons, List.foldl_nil, dstAt, List.getElem?_cons_zero, List.getElem?_cons_succ, Option.bind_some]
            go_frame
            rw [h9]
            go_wp2_with fail
            exact ⟨rfl, Below.refl _ _, rfl, rfl⟩
          | nx + 22, him, _ => exact absurd him (by omega)
        · intro w2 b2 vs hv
          have hxb := HXB.out
          have hyb := HYB.out
          have h21 : vs 21 = _ := hv 21 (by decide)
          simp only [relF, List.drop_succ_cons, List.drop_zero, List.length_cons, List.length_nil, Nat.zero_add, Nat.reduceAdd, List.range, List.range.loop, List.foldl_cons, List.foldl_nil, dstAt, List.getElem?_cons_zero, List.getElem?_cons_succ, Option.bind_some]
          go_frame
          rw [h21]
          go_wp2_with fail
          go_roundw
          case rel => exact ⟨j + 1, by omega, by go_num, Lib.hid (step_no hno.out HXJ.out HYJ.out hcl.out), Br7.trans (b2.mono Br7.size)⟩
          case measure => simp [intOf]; omega
      · have hne : ((strOf x).toList == (strOf y).toList) = false := by rw [strOf_toList, strOf_toList, beq_eq_false_iff_ne]; exact hxy
        have HNE := Lib.hid hne; clear hne
        have HXY : Hid (x ≠ y) := Lib.hid hxy
        clear hxy
        by_cases hse : Sha.of x = Sha.of y
        · have hs2 : ((strOf (Sha.of x)).toList == (strOf (Sha.of y)).toList) = true := by rw [hse]; simp
          have HSE := Lib.hid hs2; clear hs2
          have HSE2 := Lib.hid hse; clear hse
          refine wp_region_rel [[], [], [0, 1], [2], [], [], [4, 5], [6], [3, 7], [8], [9], [9], [9, 10, 11], [9, 12], [9, 13], [9], [9], [9, 15, 16], [9, 17], [9, 18], [9, 14, 19], [9, 20]] (twC bx ox cx by' oy cy k j x y) 128 (by kernel_rfl) (by kernel_rfl) (by kernel_rfl) (twC_mono bx ox cx by' oy cy k j x y) ?_ ?_
          · intro ix op hi w2 b2 vs hv
            have him : ix < 22 := (List.getElem?_eq_some_iff.1 hi).1
            have hxb := HXB.out
            have hyb := HYB.out
            match ix, him, hi with
            | 0, _, hi =>
              obtain rfl := Option.some.inj hi
              simp only [relF, List.getD_cons_zero, List.getD_cons_succ, List.foldl_cons, List.foldl_nil, dstAt, List.getElem?_cons_zero, List.getElem?_cons_succ, Option.bind_some]
              go_wp2_with fail
              exact ⟨rfl, Below.refl _ _, rfl, rfl⟩
            | 1, _, hi =>
              obtain rfl := Option.some.inj hi
              simp only [relF, List.getD_cons_zero, List.getD_cons_succ, List.foldl_cons, List.foldl_nil, dstAt, List.getElem?_cons_zero, List.getElem?_cons_succ, Option.bind_some]
              go_wp2_with fail
              exact ⟨rfl, Below.refl _ _, rfl, rfl⟩
            | 2, _, hi =>
              obtain rfl := Option.some.inj hi
              have h0 : vs 0 = _ := hv 0 (by decide)
              have h1 : vs 1 = _ := hv 1 (by decide)
              simp only [relF, List.getD_cons_zero, List.getD_cons_succ, List.foldl_cons, List.foldl_nil, dstAt, List.getElem?_cons_zero, List.getElem?_cons_succ, Option.bind_some]
              go_frame
              rw [h0, h1]
              go_wp2_with fail
              exact ⟨rfl, Below.refl _ _, rfl, rfl⟩
            | 3, _, hi =>
              obtain rfl := Option.some.inj hi
              have h2 : vs 2 = _ := hv 2 (by decide)
              have hcell := (HX.out.below (Nat.le_refl _) b2).get HXJ.out
              simp only [relF, List.getD_cons_zero, List.getD_cons_succ, List.foldl_cons, List.foldl_nil, dstAt, List.getElem?_cons_zero, List.getElem?_cons_succ, Option.bind_some]
              go_frame
              rw [h2]
              go_wp2_with fail
              exact ⟨rfl, Below.refl _ _, rfl, rfl⟩
            | 4, _, hi =>
              obtain rfl := Option.some.inj hi
              simp only [relF, List.getD_cons_zero, List.getD_cons_succ, List.foldl_cons, List.foldl_nil, dstAt, List.getElem?_cons_zero, List.getElem?_cons_succ, Option.bind_some]
              go_wp2_with fail
              exact ⟨rfl, Below.refl _ _, rfl, rfl⟩
            | 5, _, hi =>
              obtain rfl := Option.some.inj hi
              simp only [relF, List.getD_cons_zero, List.getD_cons_succ, List.foldl_cons, List.foldl_nil, dstAt, List.getElem?_cons_zero, List.getElem?_cons_succ, Option.bind_some]
              go_wp2_with fail
              exact ⟨rfl, Below.refl _ _, rfl, rfl⟩
            | 6, _, hi =>
              obtain rfl := Option.some.inj hi
              have h4 : vs 4 = _ := hv 4 (by decide)
              have h5 : vs 5 = _ := hv 5 (by decide)
              simp only [relF, List.getD_cons_zero, List.getD_cons_succ, List.foldl_cons, List.foldl_nil, dstAt, List.getElem?_cons_zero, List.getElem?_cons_succ, Option.bind_some]
              go_frame
              rw [h4, h5]
              go_wp2_with fail
              exact ⟨rfl, Below.refl _ _, rfl, rfl⟩
            | 7, _, hi =>
              obtain rfl := Option.some.inj hi
              have h6 : vs 6 = _ := hv 6 (by decide)
              have hcell := (HY.out.below (Nat.le_refl _) b2).get HYJ.out
              simp only [relF, List.getD_cons_zero, List.getD_cons_succ, List.foldl_cons, List.foldl_nil, dstAt, List.getElem?_cons_zero, List.getElem?_cons_succ, Option.bind_some]
              go_frame
              rw [h6]
              go_wp2_with fail
              exact ⟨rfl, Below.refl _ _, rfl, rfl⟩
            | 8, _, hi =>
              obtain rfl := Option.some.inj hi
              have h3 : vs 3 = _ := hv 3 (by decide)
              have h7 : vs 7 = _ := hv 7 (by decide)
              have hse := HNE.out
              simp only [relF, List.getD_cons_zero, List.getD_cons_succ, List.foldl_cons, List.foldl_nil, dstAt, List.getElem?_cons_zero, List.getElem?_cons_succ, Option.bind_some]
              go_frame
              rw [h3, h7]
              go_wp2_with fail
              exact ⟨rfl, Below.refl _ _, rfl, rfl⟩
            | 9, _, hi =>
              obtain rfl := Option.some.inj hi
              have h8 : vs 8 = _ := hv 8 (by decide)
              simp only [relF, List.getD_cons_zero, List.getD_cons_succ, List.foldl_cons, List.foldl_nil, dstAt, List.getElem?_cons_zero, List.getElem?_cons_succ, Option.bind_some]
              go_frame
              rw [h8]
              go_wp2_with fail
              exact ⟨rfl, Below.refl _ _, rfl, rfl⟩
            | 10, _, hi =>
              obtain rfl := Option.some.inj hi
              have h9 : vs 9 = _ := hv 9 (by decide)
              simp only [relF, List.getD_cons_zero, List.getD_cons_succ, List.foldl_cons, List.foldl_nil, dstAt, List.getElem?_cons_zero, List.getElem?_cons_succ, Option.bind_some]
              go_frame
              rw [h9]
              go_wp2_with fail
              exact ⟨rfl, Below.refl _ _, rfl, rfl⟩
            | 11, _, hi =>
              obtain rfl := Option.some.inj hi
              have h9 : vs 9 = _ := hv 9 (by decide)
              simp only [relF, List.getD_cons_zero, List.getD_cons_succ, List.foldl_cons, List.foldl_nil, dstAt, List.getElem?_cons_zero, List.getElem?_cons_succ, Option.bind_some]
              go_frame
              rw [h9]
              go_wp2_with fail
              exact ⟨rfl, Below.refl _ _, rfl, rfl⟩
            | 12, _, hi =>
              obtain rfl := Option.some.inj hi
              have h9 : vs 9 = _ := hv 9 (by decide)
              have h10 : vs 10 = _ := hv 10 (by decide)
              have h11 : vs 11 = _ := hv 11 (by decide)
              simp only [relF, List.getD_cons_zero, List.getD_cons_succ, List.foldl_cons, List.foldl_nil, dstAt, List.getElem?_cons_zero, List.getElem?_cons_succ, Option.bind_some]
              go_frame
              rw [h9, h10, h11]
              go_wp2_with fail
              exact ⟨rfl, Below.refl _ _, rfl, rfl⟩
            | 13, _, hi =>
              obtain rfl := Option.some.inj hi
              have h9 : vs 9 = _ := hv 9 (by decide)
              have h12 : vs 12 = _ := hv 12 (by decide)
              have hcell := (HX.out.below (Nat.le_refl _) b2).get HXJ.out
              simp only [relF, List.getD_cons_zero, List.getD_cons_succ, List.foldl_cons, List.foldl_nil, dstAt, List.getElem?_cons_zero, List.getElem?_cons_succ, Option.bind_some]
              go_frame
              rw [h9, h12]
              go_wp2_with fail
              exact ⟨rfl, Below.refl _ _, rfl, rfl⟩
            | 14, _, hi =>
              obtain rfl := Option.some.inj hi
              have h9 : vs 9 = _ := hv 9 (by decide)
              have h13 : vs 13 = _ := hv 13 (by decide)
              simp only [relF, List.getD_cons_zero, List.getD_cons_succ, List.foldl_cons, List.foldl_nil, dstAt, List.getElem?_cons_zero, List.getElem?_cons_succ, Option.bind_some]
              go_frame
              rw [h9, h13]
              go_wp2_with fail
              refine (refOf_any w2 x (by omega)).mono ?_
              rintro e w3 ⟨rfl, b3⟩
              go_wp2_with fail
              exact ⟨rfl, b3, rfl, rfl⟩
            | 15, _, hi =>
              obtain rfl := Option.some.inj hi
              have h9 : vs 9 = _ := hv 9 (by decide)
              simp only [relF, List.getD_cons_zero, List.getD_cons_succ, List.foldl_cons, List.foldl_nil, dstAt, List.getElem?_cons_zero, List.getElem?_cons_succ, Option.bind_some]
              go_frame
              rw [h9]
              go_wp2_with fail
              exact ⟨rfl, Below.refl _ _, rfl, rfl⟩
            | 16, _, hi =>
              obtain rfl := Option.some.inj hi
              have h9 : vs 9 = _ := hv 9 (by decide)
              simp only [relF, List.getD_cons_zero, List.getD_cons_succ, List.foldl_cons, List.foldl_nil, dstAt, List.getElem?_cons_zero, List.getElem?_cons_succ, Option.bind_some]
              go_frame
              rw [h9]
              go_wp2_with fail
              exact ⟨rfl, Below.refl _ _, rfl, rfl⟩
            | 17, _, hi =>
              obtain rfl := Option.some.inj hi
              have h9 : vs 9 = _ := hv 9 (by decide)
              have h15 : vs 15 = _ := hv 15 (by decide)
              have h16 : vs 16 = _ := hv 16 (by decide)
              simp only [relF, List.getD_cons_zero, List.getD_cons_succ, List.foldl_cons, List.foldl_nil, dstAt, List.getElem?_cons_zero, List.getElem?_cons_succ, Option.bind_some]
              go_frame
              rw [h9, h15, h16]
              go_wp2_with fail
              exact ⟨rfl, Below.refl _ _, rfl, rfl⟩
            | 18, _, hi =>
              obtain rfl := Option.some.inj hi
              have h9 : vs 9 = _ := hv 9 (by decide)
              have h17 : vs 17 = _ := hv 17 (by decide)
              have hcell := (HY.out.below (Nat.le_refl _) b2).get HYJ.out
              simp only [relF, List.getD_cons_zero, List.getD_cons_succ, List.foldl_cons, List.foldl_nil, dstAt, List.getElem?_cons_zero, List.getElem?_cons_succ, Option.bind_some]
              go_frame
              rw [h9, h17]
              go_wp2_with fail
              exact ⟨rfl, Below.refl _ _, rfl, rfl⟩
            | 19, _, hi =>
              obtain rfl := Option.some.inj hi
              have h9 : vs 9 = _ := hv 9 (by decide)
              have h18 : vs 18 = _ := hv 18 (by decide)
              simp only [relF, List.getD_cons_zero, List.getD_cons_succ, List.foldl_cons, List.foldl_nil, dstAt, List.getElem?_cons_zero, List.getElem?_cons_succ, Option.bind_some]
              go_frame
              rw [h9, h18]
              go_wp2_with fail
              refine (refOf_any w2 y (by omega)).mono ?_
              rintro e w3 ⟨rfl, b3⟩
              go_wp2_with fail
              exact ⟨rfl, b3, rfl, rfl⟩
            | 20, _, hi =>
              obtain rfl := Option.some.inj hi
              have h9 : vs 9 = _ := hv 9 (by decide)
              have h14 : vs 14 = _ := hv 14 (by decide)
              have h19 : vs 19 = _ := hv 19 (by decide)
              have hse := HSE.out
              simp only [relF, List.getD_cons_zero, List.getD_cons_succ, List.foldl_cons, List.foldl_nil, dstAt, List.getElem?_cons_zero, List.getElem?_cons_succ, Option.bind_some]
              go_frame
              rw [h9, h14, h19]
              go_wp2_with fail
              exact ⟨rfl, Below.refl _ _, rfl, rfl⟩
            | 21, _, hi =>
              obtain rfl := Option.some.inj hi
              have h9 : vs 9 = _ := hv 9 (by decide)
              have h20 : vs 20 = _ := hv 20 (by decide)
              simp only [relF, List.getD_cons_zero, List.getD_cons_succ, List.foldl_cons, List.foldl_nil, dstAt, List.getElem?_cons_zero, List.getElem?_cons_succ, Option.bind_some]
              go_frame
              rw [h9, h20]
              go_wp2_with fail
              exact ⟨rfl, Below.refl _ _, rfl, rfl⟩
            | nx + 22, him, _ => exact absurd him (by omega)
          · intro w2 b2 vs hv
            have hxb := HXB.out
            have hyb := HYB.out
            have h21 : vs 21 = _ := hv 21 (by decide)
            simp only [relF, List.drop_succ_cons, List.drop_zero, List.length_cons, List.length_nil, Nat.zero_add, Nat.reduceAdd, List.range, List.range.loop, List.foldl_cons, List.foldl_nil, dstAt, List.getElem?_cons_zero, List.getElem?_cons_succ, Option.bind_some]
            go_frame
            rw [h21]
            have B2 := Br.trans (b2.mono Br.size)
            have HX2 := Lib.hid (HX.out.below (Nat.le_refl _) b2)
            have HY2 := Lib.hid (HY.out.below (Nat.le_refl _) b2)
            clear hv
            go_wp2_with fail
            refine wp_region_rel [[], [], [0, 1], [2], [], [], [4, 5], [6], [3], [7], []] (twD bx ox cx by' oy cy k j x y) 128 (by kernel_rfl) (by kernel_rfl) (by kernel_rfl) (twD_mono bx ox cx by' oy cy k j x y) ?_ ?_
            · intro ix op hi w3 b2 vs hv
              have him : ix < 11 := (List.getElem?_eq_some_iff.1 hi).1
              have hxb := HXB.out
              have hyb := HYB.out
              match ix, him, hi with
              | 0, _, hi =>
                obtain rfl := Option.some.inj hi
                simp only [relF, List.getD_cons_zero, List.getD_cons_succ, List.foldl_cons, List.foldl_nil, dstAt, List.getElem?_cons_zero, List.getElem?_cons_succ, Option.bind_some]
                go_wp2_with fail
                exact ⟨rfl, Below.refl _ _, rfl, rfl⟩
              | 1, _, hi =>
                obtain rfl := Option.some.inj hi
                simp only [relF, List.getD_cons_zero, List.getD_cons_succ, List.foldl_cons, List.foldl_nil, dstAt, List.getElem?_cons_zero, List.getElem?_cons_succ, Option.bind_some]
                go_wp2_with fail
                exact ⟨rfl, Below.refl _ _, rfl, rfl⟩
              | 2, _, hi =>
                obtain rfl := Option.some.inj hi
                have h0 : vs 0 = _ := hv 0 (by decide)
                have h1 : vs 1 = _ := hv 1 (by decide)
                simp only [relF, List.getD_cons_zero, List.getD_cons_succ, List.foldl_cons, List.foldl_nil, dstAt, List.getElem?_cons_zero, List.getElem?_cons_succ, Option.bind_some]
                go_frame
                rw [h0, h1]
                go_wp2_with fail
                exact ⟨rfl, Below.refl _ _, rfl, rfl⟩
              | 3, _, hi =>
                obtain rfl := Option.some.inj hi
                have h2 : vs 2 = _ := hv 2 (by decide)
                have hcell := (HX2.out.below (Nat.le_refl _) b2).get HXJ.out
                simp only [relF, List.getD_cons_zero, List.getD_cons_succ, List.foldl_cons, List.foldl_nil, dstAt, List.getElem?_cons_zero, List.getElem?_cons_succ, Option.bind_some]
                go_frame
                rw [h2]
                go_wp2_with fail
                exact ⟨rfl, Below.refl _ _, rfl, rfl⟩
              | 4, _, hi =>
                obtain rfl := Option.some.inj hi
                simp only [relF, List.getD_cons_zero, List.getD_cons_succ, List.foldl_cons, List.foldl_nil, dstAt, List.getElem?_cons_zero, List.getElem?_cons_succ, Option.bind_some]
                go_wp2_with fail
                exact ⟨rfl, Below.refl _ _, rfl, rfl⟩
              | 5, _, hi =>
                obtain rfl := Option.some.inj hi
                simp only [relF, List.getD_cons_zero, List.getD_cons_succ, List.foldl_cons, List.foldl_nil, dstAt, List.getElem?_cons_zero, List.getElem?_cons_succ, Option.bind_some]
                go_wp2_with fail
                exact ⟨rfl, Below.refl _ _, rfl, rfl⟩
              | 6, _, hi =>
                obtain rfl := Option.some.inj hi
                have h4 : vs 4 = _ := hv 4 (by decide)
                have h5 : vs 5 = _ := hv 5 (by decide)
                simp only [relF, List.getD_cons_zero, List.getD_cons_succ, List.foldl_cons, List.foldl_nil, dstAt, List.getElem?_cons_zero, List.getElem?_cons_succ, Option.bind_some]
                go_frame
                rw [h4, h5]
                go_wp2_with fail
                exact ⟨rfl, Below.refl _ _, rfl, rfl⟩
              | 7, _, hi =>
                obtain rfl := Option.some.inj hi
                have h6 : vs 6 = _ := hv 6 (by decide)
                have hcell := (HY2.out.below (Nat.le_refl _) b2).get HYJ.out
                simp only [relF, List.getD_cons_zero, List.getD_cons_succ, List.foldl_cons, List.foldl_nil, dstAt, List.getElem?_cons_zero, List.getElem?_cons_succ, Option.bind_some]
                go_frame
                rw [h6]
                go_wp2_with fail
                exact ⟨rfl, Below.refl _ _, rfl, rfl⟩
              | 8, _, hi =>
                obtain rfl := Option.some.inj hi
                have h3 : vs 3 = _ := hv 3 (by decide)
                simp only [relF, List.getD_cons_zero, List.getD_cons_succ, List.foldl_cons, List.foldl_nil, dstAt, List.getElem?_cons_zero, List.getElem?_cons_succ, Option.bind_some]
                go_frame
                rw [h3]
                go_wp2_with fail
                exact ⟨rfl, Below.refl _ _, rfl, rfl⟩
              | 9, _, hi =>
                obtain rfl := Option.some.inj hi
                have h7 : vs 7 = _ := hv 7 (by decide)
                simp only [relF, List.getD_cons_zero, List.getD_cons_succ, List.foldl_cons, List.foldl_nil, dstAt, List.getElem?_cons_zero, List.getElem?_cons_succ, Option.bind_some]
                go_frame
                rw [h7]
                go_wp2_with fail
                exact ⟨rfl, Below.refl _ _, rfl, rfl⟩
              | 10, _, hi =>
                obtain rfl := Option.some.inj hi
                simp only [relF, List.getD_cons_zero, List.getD_cons_succ, List.foldl_cons, List.foldl_nil, dstAt, List.getElem?_cons_zero, List.getElem?_cons_succ, Option.bind_some]
                go_wp2_with fail
                exact ⟨rfl, Below.refl _ _, rfl, rfl⟩
              | nx + 11, him, _ => exact absurd him (by omega)
            · intro w3 b2 vs hv
              have hxb := HXB.out
              have hyb := HYB.out
              have h8 : vs 8 = _ := hv 8 (by decide)
              have h9 : vs 9 = _ := hv 9 (by decide)
              have h10 : vs 10 = _ := hv 10 (by decide)
              simp only [relF, List.drop_succ_cons, List.drop_zero, List.length_cons, List.length_nil, Nat.zero_add, Nat.reduceAdd, List.range, List.range.loop, List.foldl_cons, List.foldl_nil, dstAt, List.getElem?_cons_zero, List.getElem?_cons_succ, Option.bind_some]
              go_frame
              rw [h8, h9, h10]
              go_wp2_with fail
              go_ret3
              exact ⟨x, y, rfl, HXY.out, HSE2.out, HXB.out, HYB.out, B2.trans (b2.mono B2.size)⟩
        · have hs2 : ((strOf (Sha.of x)).toList == (strOf (Sha.of y)).toList) = false := by rw [strOf_toList, strOf_toList, beq_eq_false_iff_ne]; exact hse
          have HSE := Lib.hid hs2; clear hs2
          have hcl : Hid (¬ (x ≠ y ∧ Sha.of x = Sha.of y)) := Lib.hid (fun h => hse h.2)
          refine wp_region_rel [[], [], [0, 1], [2], [], [], [4, 5], [6], [3, 7], [8], [9], [9], [9, 10, 11], [9, 12], [9, 13], [9], [9], [9, 15, 16], [9, 17], [9, 18], [9, 14, 19], [9, 20]] (twB bx ox cx by' oy cy k j x y) 128 (by kernel_rfl) (by kernel_rfl) (by kernel_rfl) (twB_mono bx ox cx by' oy cy k j x y) ?_ ?_
          · intro ix op hi w2 b2 vs hv
            have him : ix < 22 := (List.getElem?_eq_some_iff.1 hi).1
            have hxb := HXB.out
            have hyb := HYB.out
            match ix, him, hi with
            | 0, _, hi =>
              obtain rfl := Option.some.inj hi
              simp only [relF, List.getD_cons_zero, List.getD_cons_succ, List.foldl_cons, List.foldl_nil, dstAt, List.getElem?_cons_zero, List.getElem?_cons_succ, Option.bind_some]
              go_wp2_with fail
              exact ⟨rfl, Below.refl _ _, rfl, rfl⟩
            | 1, _, hi =>
              obtain rfl := Option.some.inj hi
              simp only [relF, List.getD_cons_zero, List.getD_cons_succ, List.foldl_cons, List.foldl_nil, dstAt, List.getElem?_cons_zero, List.getElem?_cons_succ, Option.bind_some]
              go_wp2_with fail
              exact ⟨rfl, Below.refl _ _, rfl, rfl⟩
            | 2, _, hi =>
              obtain rfl := Option.some.inj hi
              have h0 : vs 0 = _ := hv 0 (by decide)
              have h1 : vs 1 = _ := hv 1 (by decide)
              simp only [relF, List.getD_cons_zero, List.getD_cons_succ, List.foldl_cons, List.foldl_nil, dstAt, List.getElem?_cons_zero, List.getElem?_cons_succ, Option.bind_some]
              go_frame
              rw [h0, h1]
              go_wp2_with fail
              exact ⟨rfl, Below.refl _ _, rfl, rfl⟩
            | 3, _, hi =>
              obtain rfl := Option.some.inj hi
              have h2 : vs 2 = _ := hv 2 (by decide)
              have hcell := (HX.out.below (Nat.le_refl _) b2).get HXJ.out
              simp only [relF, List.getD_cons_zero, List.getD_cons_succ, List.foldl_cons, List.foldl_nil, dstAt, List.getElem?_cons_zero, List.getElem?_cons_succ, Option.bind_some]
              go_frame
              rw [h2]
              go_wp2_with fail
              exact ⟨rfl, Below.refl _ _, rfl, rfl⟩
            | 4, _, hi =>
              obtain rfl := Option.some.inj hi
              simp only [relF, List.getD_cons_zero, List.getD_cons_succ, List.foldl_cons, List.foldl_nil, dstAt, List.getElem?_cons_zero, List.getElem?_cons_succ, Option.bind_some]
              go_wp2_with fail
              exact ⟨rfl, Below.refl _ _, rfl, rfl⟩
            | 5, _, hi =>
              obtain rfl := Option.some.inj hi
              simp only [relF, List.getD_cons_zero, List.getD_cons_succ, List.foldl_cons, List.foldl_nil, dstAt, List.getElem?_cons_zero, List.getElem?_cons_succ, Option.bind_some]
              go_wp2_with fail
              exact ⟨rfl, Below.refl _ _, rfl, rfl⟩
            | 6, _, hi =>
              obtain rfl := Option.some.inj hi
              have h4 : vs 4 = _ := hv 4 (by decide)
              have h5 : vs 5 = _ := hv 5 (by decide)
              simp only [relF, List.getD_cons_zero, List.getD_cons_succ, List.foldl_cons, List.foldl_nil, dstAt, List.getElem?_cons_zero, List.getElem?_cons_succ, Option.bind_some]
              go_frame
              rw [h4, h5]
              go_wp2_with fail
              exact ⟨rfl, Below.refl _ _, rfl, rfl⟩
            | 7, _, hi =>
              obtain rfl := Option.some.inj hi
              have h6 : vs 6 = _ := hv 6 (by decide)
              have hcell := (HY.out.below (Nat.le_refl _) b2).get HYJ.out
              simp only [relF, List.getD_cons_zero, List.getD_cons_succ, List.foldl_cons, List.foldl_nil, dstAt, List.getElem?_cons_zero, List.getElem?_cons_succ, Option.bind_some]
              go_frame
              rw [h6]
              go_wp2_with fail
              exact ⟨rfl, Below.refl _ _, rfl, rfl⟩
            | 8, _, hi =>
              obtain rfl := Option.some.inj hi
              have h3 : vs 3 = _ := hv 3 (by decide)
              have h7 : vs 7 = _ := hv 7 (by decide)
              have hse := HNE.out
              simp only [relF, List.getD_cons_zero, List.getD_cons_succ, List.foldl_cons, List.foldl_nil, dstAt, List.getElem?_cons_zero, List.getElem?_cons_succ, Option.bind_some]
              go_frame
              rw [h3, h7]
              go_wp2_with fail
              exact ⟨rfl, Below.refl _ _, rfl, rfl⟩
            | 9, _, hi =>
              obtain rfl := Option.some.inj hi
              have h8 : vs 8 = _ := hv 8 (by decide)
              simp only [relF, List.getD_cons_zero, List.getD_cons_succ, List.foldl_cons, List.foldl_nil, dstAt, List.getElem?_cons_zero, List.getElem?_cons_succ, Option.bind_some]
              go_frame
              rw [h8]
              go_wp2_with fail
              exact ⟨rfl, Below.refl _ _, rfl, rfl⟩
            | 10, _, hi =>
              obtain rfl := Option.some.inj hi
              have h9 : vs 9 = _ := hv 9 (by decide)
              simp only [relF, List.getD_cons_zero, List.getD_cons_succ, List.foldl_cons, List.foldl_nil, dstAt, List.getElem?_cons_zero, List.getElem?_cons_succ, Option.bind_some]
              go_frame
              rw [h9]
              go_wp2_with fail
              exact ⟨rfl, Below.refl _ _, rfl, rfl⟩
            | 11, _, hi =>
              obtain rfl := Option.some.inj hi
              have h9 : vs 9 = _ := hv 9 (by decide)
              simp only [relF, List.getD_cons_zero, List.getD_cons_succ, List.foldl_cons, List.foldl_nil, dstAt, List.getElem?_cons_zero, List.getElem?_cons_succ, Option.bind_some]
              go_frame
              rw [h9]
              go_wp2_with fail
              exact ⟨rfl, Below.refl _ _, rfl, rfl⟩
            | 12, _, hi =>
              obtain rfl := Option.some.inj hi
              have h9 : vs 9 = _ := hv 9 (by decide)
              have h10 : vs 10 = _ := hv 10 (by decide)
              have h11 : vs 11 = _ := hv 11 (by decide)
              simp only [relF, List.getD_cons_zero, List.getD_cons_succ, List.foldl_cons, List.foldl_nil, dstAt, List.getElem?_cons_zero, List.getElem?_cons_succ, Option.bind_some]
              go_frame
              rw [h9, h10, h11]
              go_wp2_with fail
              exact ⟨rfl, Below.refl _ _, rfl, rfl⟩
            | 13, _, hi =>
              obtain rfl := Option.some.inj hi
              have h9 : vs 9 = _ := hv 9 (by decide)
              have h12 : vs 12 = _ := hv 12 (by decide)
              have hcell := (HX.out.below (Nat.le_refl _) b2).get HXJ.out
              simp only [relF, List.getD_cons_zero, List.getD_cons_succ, List.foldl_cons, List.foldl_nil, dstAt, List.getElem?_cons_zero, List.getElem?_cons_succ, Option.bind_some]
              go_frame
              rw [h9, h12]
              go_wp2_with fail
              exact ⟨rfl, Below.refl _ _, rfl, rfl⟩
            | 14, _, hi =>
              obtain rfl := Option.some.inj hi
              have h9 : vs 9 = _ := hv 9 (by decide)
              have h13 : vs 13 = _ := hv 13 (by decide)
              simp only [relF, List.getD_cons_zero, List.getD_cons_succ, List.foldl_cons, List.foldl_nil, dstAt, List.getElem?_cons_zero, List.getElem?_cons_succ, Option.bind_some]
              go_frame
              rw [h9, h13]
              go_wp2_with fail
              refine (refOf_any w2 x (by omega)).mono ?_
              rintro e w3 ⟨rfl, b3⟩
              go_wp2_with fail
              exact ⟨rfl, b3, rfl, rfl⟩
            | 15, _, hi =>
              obtain rfl := Option.some.inj hi
              have h9 : vs 9 = _ := hv 9 (by decide)
              simp only [relF, List.getD_cons_zero, List.getD_cons_succ, List.foldl_cons, List.foldl_nil, dstAt, List.getElem?_cons_zero, List.getElem?_cons_succ, Option.bind_some]
              go_frame
              rw [h9]
              go_wp2_with fail
              exact ⟨rfl, Below.refl _ _, rfl, rfl⟩
            | 16, _, hi =>
              obtain rfl := Option.some.inj hi
              have h9 : vs 9 = _ := hv 9 (by decide)
              simp only [relF, List.getD_cons_zero, List.getD_cons_succ, List.foldl_cons, List.foldl_nil, dstAt, List.getElem?_cons_zero, List.getElem?_cons_succ, Option.bind_some]
              go_frame
              rw [h9]
              go_wp2_with fail
              exact ⟨rfl, Below.refl _ _, rfl, rfl⟩
            | 17, _, hi =>
              obtain rfl := Option.some.inj hi
              have h9 : vs 9 = _ := hv 9 (by decide)
              have h15 : vs 15 = _ := hv 15 (by decide)
              have h16 : vs 16 = _ := hv 16 (by decide)
              simp only [relF, List.getD_cons_zero, List.getD_cons_succ, List.foldl_cons, List.foldl_nil, dstAt, List.getElem?_cons_zero, List.getElem?_cons_succ, Option.bind_some]
              go_frame
              rw [h9, h15, h16]
              go_wp2_with fail
              exact ⟨rfl, Below.refl _ _, rfl, rfl⟩
            | 18, _, hi =>
              obtain rfl := Option.some.inj hi
              have h9 : vs 9 = _ := hv 9 (by decide)
              have h17 : vs 17 = _ := hv 17 (by decide)
              have hcell := (HY.out.below (Nat.le_refl _) b2).get HYJ.out
              simp only [relF, List.getD_cons_zero, List.getD_cons_succ, List.foldl_cons, List.foldl_nil, dstAt, List.getElem?_cons_zero, List.getElem?_cons_succ, Option.bind_some]
              go_frame
              rw [h9, h17]
              go_wp2_with fail
              exact ⟨rfl, Below.refl _ _, rfl, rfl⟩
            | 19, _, hi =>
              obtain rfl := Option.some.inj hi
              have h9 : vs 9 = _ := hv 9 (by decide)
              have h18 : vs 18 = _ := hv 18 (by decide)
              simp only [relF, List.getD_cons_zero, List.getD_cons_succ, List.foldl_cons, List.foldl_nil, dstAt, List.getElem?_cons_zero, List.getElem?_cons_succ, Option.bind_some]
              go_frame
              rw [h9, h18]
              go_wp2_with fail
              refine (refOf_any w2 y (by omega)).mono ?_
              rintro e w3 ⟨rfl, b3⟩
              go_wp2_with fail
              exact ⟨rfl, b3, rfl, rfl⟩
            | 20, _, hi =>
              obtain rfl := Option.some.inj hi
              have h9 : vs 9 = _ := hv 9 (by decide)
              have h14 : vs 14 = _ := hv 14 (by decide)
              have h19 : vs 19 = _ := hv 19 (by decide)
              have hse := HSE.out
              simp only [relF, List.getD_cons_zero, List.getD_cons_succ, List.foldl_cons, List.foldl_nil, dstAt, List.getElem?_cons_zero, List.getElem?_cons_succ, Option.bind_some]
              go_frame
              rw [h9, h14, h19]
              go_wp2_with fail
              exact ⟨rfl, Below.refl _ _, rfl, rfl⟩
            | 21, _, hi =>
              obtain rfl := Option.some.inj hi
              have h9 : vs 9 = _ := hv 9 (by decide)
              have h20 : vs 20 = _ := hv 20 (by decide)
              simp only [relF, List.getD_cons_zero, List.getD_cons_succ, List.foldl_cons, List.foldl_nil, dstAt, List.getElem?_cons_zero, List.getElem?_cons_succ, Option.bind_some]
              go_frame
              rw [h9, h20]
              go_wp2_with fail
              exact ⟨rfl, Below.refl _ _, rfl, rfl⟩
            | nx + 22, him, _ => exact absurd him (by omega)
          · intro w2 b2 vs hv
            have hxb := HXB.out
            have hyb := HYB.out
            have h21 : vs 21 = _ := hv 21 (by decide)
            simp only [relF, List.drop_succ_cons, List.drop_zero, List.length_cons, List.length_nil, Nat.zero_add, Nat.reduceAdd, List.range, List.range.loop, List.foldl_cons, List.foldl_nil, dstAt, List.getElem?_cons_zero, List.getElem?_cons_succ, Option.bind_some]
            go_frame
            rw [h21]
            go_wp2_with fail
            go_roundw
            case rel => exact ⟨j + 1, by omega, by go_num, Lib.hid (step_no hno.out HXJ.out HYJ.out hcl.out), Br7.trans (b2.mono Br7.size)⟩
            case measure => simp [intOf]; omega
    · exfalso
      obtain rfl : j = k := by omega
      obtain ⟨k', x, y, h3, h4, h5, h6⟩ := HCL.out
      have := (List.getElem?_eq_some_iff.1 h3).1
      exact hno.out k' (by omega) x y h3 h4 ⟨h5, h6⟩

end Go.Proofs.YtbgahpbnlogdnaaDoor
