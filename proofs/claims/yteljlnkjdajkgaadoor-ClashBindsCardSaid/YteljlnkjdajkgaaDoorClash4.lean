/- The walk of clash.Rows. -/
import Derived.Test.YteljlnkjdajkgaaDoorClash3
namespace Go.Proofs.YteljlnkjdajkgaaDoor
open Go.RowKit
set_option linter.unusedSimpArgs false
set_option linter.unusedVariables false

/-- What the region's operations leave. -/
def crB1 (B : Nat) (n i : Int) (m cap : Nat) (o : Option Addr) (P : List (List UInt8)) (ix : Nat) (w : World) (v : Value) : Prop :=
  match ix with
  | 0 => v = .int .i64 (n)
  | 1 => v = .bool true
  | 2 => v = .bool true
  | 3 => True
  | 4 => True
  | 5 => v = .bool true
  | 6 => v = .bool true
  | 7 => True
  | 8 => True
  | 9 => True
  | 10 => v = .bool true
  | 11 => v = .bool true
  | 12 => True
  | 13 => True
  | 14 => True
  | 15 => True
  | 16 => True
  | 17 => True
  | 18 => v = .bool true
  | _ => True

theorem crB1_mono (B : Nat) (n i : Int) (m cap : Nat) (o : Option Addr) (P : List (List UInt8)) (jx : Nat) (w w' : World) (v : Value) (hb : Below w.heap.size w w') (h : crB1 B n i m cap o P jx w v) : crB1 B n i m cap o P jx w' v := by
  match jx, h with
  | 0, h => exact h
  | 1, h => exact h
  | 2, h => exact h
  | 3, h => exact trivial
  | 4, h => exact trivial
  | 5, h => exact h
  | 6, h => exact h
  | 7, h => exact trivial
  | 8, h => exact trivial
  | 9, h => exact trivial
  | 10, h => exact h
  | 11, h => exact h
  | 12, h => exact trivial
  | 13, h => exact trivial
  | 14, h => exact trivial
  | 15, h => exact trivial
  | 16, h => exact trivial
  | 17, h => exact trivial
  | 18, h => exact h
  | _ + 19, h => exact trivial

/-- What the region's operations leave. -/
def crB2 (B : Nat) (n i : Int) (m cap : Nat) (o : Option Addr) (P : List (List UInt8)) (ix : Nat) (w : World) (v : Value) : Prop :=
  match ix with
  | 0 => v = .int .i64 (n)
  | 1 => v = .bool false
  | 2 => v = .bool false
  | 3 => v = .int .i64 (i)
  | 4 => v = .bool true
  | 5 => v = .bool true
  | 6 => v = .bool true
  | 7 => True
  | 8 => True
  | 9 => True
  | 10 => v = .bool true
  | 11 => v = .bool true
  | 12 => True
  | 13 => True
  | 14 => True
  | 15 => True
  | 16 => True
  | 17 => True
  | 18 => v = .bool true
  | _ => True

theorem crB2_mono (B : Nat) (n i : Int) (m cap : Nat) (o : Option Addr) (P : List (List UInt8)) (jx : Nat) (w w' : World) (v : Value) (hb : Below w.heap.size w w') (h : crB2 B n i m cap o P jx w v) : crB2 B n i m cap o P jx w' v := by
  match jx, h with
  | 0, h => exact h
  | 1, h => exact h
  | 2, h => exact h
  | 3, h => exact h
  | 4, h => exact h
  | 5, h => exact h
  | 6, h => exact h
  | 7, h => exact trivial
  | 8, h => exact trivial
  | 9, h => exact trivial
  | 10, h => exact h
  | 11, h => exact h
  | 12, h => exact trivial
  | 13, h => exact trivial
  | 14, h => exact trivial
  | 15, h => exact trivial
  | 16, h => exact trivial
  | 17, h => exact trivial
  | 18, h => exact h
  | _ + 19, h => exact trivial

/-- What the region's operations leave. -/
def crB3 (B : Nat) (n i : Int) (m cap : Nat) (o : Option Addr) (P : List (List UInt8)) (ix : Nat) (w : World) (v : Value) : Prop :=
  match ix with
  | 0 => v = .int .i64 (n)
  | 1 => v = .bool false
  | 2 => v = .bool false
  | 3 => v = .int .i64 (i)
  | 4 => v = .bool false
  | 5 => v = .bool false
  | 6 => v = .bool false
  | 7 => v = .int .i64 (i)
  | 8 => v = .int .i64 (n)
  | 9 => v = .bool true
  | 10 => v = .bool true
  | 11 => v = .bool true
  | 12 => True
  | 13 => True
  | 14 => True
  | 15 => True
  | 16 => True
  | 17 => True
  | 18 => v = .bool true
  | _ => True

theorem crB3_mono (B : Nat) (n i : Int) (m cap : Nat) (o : Option Addr) (P : List (List UInt8)) (jx : Nat) (w w' : World) (v : Value) (hb : Below w.heap.size w w') (h : crB3 B n i m cap o P jx w v) : crB3 B n i m cap o P jx w' v := by
  match jx, h with
  | 0, h => exact h
  | 1, h => exact h
  | 2, h => exact h
  | 3, h => exact h
  | 4, h => exact h
  | 5, h => exact h
  | 6, h => exact h
  | 7, h => exact h
  | 8, h => exact h
  | 9, h => exact h
  | 10, h => exact h
  | 11, h => exact h
  | 12, h => exact trivial
  | 13, h => exact trivial
  | 14, h => exact trivial
  | 15, h => exact trivial
  | 16, h => exact trivial
  | 17, h => exact trivial
  | 18, h => exact h
  | _ + 19, h => exact trivial

/-- What the region's operations leave. -/
def crB4 (B n i m cap : Nat) (o : Option Addr) (P : List (List UInt8)) (ix : Nat) (w : World) (v : Value) : Prop :=
  match ix with
  | 0 => v = .int .i64 (n : Int)
  | 1 => v = .bool false
  | 2 => v = .bool false
  | 3 => v = .int .i64 (i : Int)
  | 4 => v = .bool false
  | 5 => v = .bool false
  | 6 => v = .bool false
  | 7 => v = .int .i64 (i : Int)
  | 8 => v = .int .i64 (n : Int)
  | 9 => v = .bool false
  | 10 => v = .bool false
  | 11 => v = .bool false
  | 12 => v = .slice o m cap
  | 13 => v = .int .i64 (m : Int)
  | 14 => v = .int .i64 (n : Int)
  | 15 => v = .int .i64 (i : Int)
  | 16 => v = .int .i64 (((Tree.sides n i).length : Int))
  | 17 => v = .bool true
  | 18 => v = .bool true
  | _ => True

theorem crB4_mono (B n i m cap : Nat) (o : Option Addr) (P : List (List UInt8)) (jx : Nat) (w w' : World) (v : Value) (hb : Below w.heap.size w w') (h : crB4 B n i m cap o P jx w v) : crB4 B n i m cap o P jx w' v := by
  match jx, h with
  | 0, h => exact h
  | 1, h => exact h
  | 2, h => exact h
  | 3, h => exact h
  | 4, h => exact h
  | 5, h => exact h
  | 6, h => exact h
  | 7, h => exact h
  | 8, h => exact h
  | 9, h => exact h
  | 10, h => exact h
  | 11, h => exact h
  | 12, h => exact h
  | 13, h => exact h
  | 14, h => exact h
  | 15, h => exact h
  | 16, h => exact h
  | 17, h => exact h
  | 18, h => exact h
  | _ + 19, h => exact trivial

/-- What the region's operations leave. -/
def crG (B n i m cap : Nat) (o : Option Addr) (P : List (List UInt8)) (ix : Nat) (w : World) (v : Value) : Prop :=
  match ix with
  | 0 => v = .int .i64 (n : Int)
  | 1 => v = .bool false
  | 2 => v = .bool false
  | 3 => v = .int .i64 (i : Int)
  | 4 => v = .bool false
  | 5 => v = .bool false
  | 6 => v = .bool false
  | 7 => v = .int .i64 (i : Int)
  | 8 => v = .int .i64 (n : Int)
  | 9 => v = .bool false
  | 10 => v = .bool false
  | 11 => v = .bool false
  | 12 => v = .slice o m cap
  | 13 => v = .int .i64 (m : Int)
  | 14 => v = .int .i64 (n : Int)
  | 15 => v = .int .i64 (i : Int)
  | 16 => v = .int .i64 (((Tree.sides n i).length : Int))
  | 17 => v = .bool false
  | 18 => v = .bool false
  | _ => True

theorem crG_mono (B n i m cap : Nat) (o : Option Addr) (P : List (List UInt8)) (jx : Nat) (w w' : World) (v : Value) (hb : Below w.heap.size w w') (h : crG B n i m cap o P jx w v) : crG B n i m cap o P jx w' v := by
  match jx, h with
  | 0, h => exact h
  | 1, h => exact h
  | 2, h => exact h
  | 3, h => exact h
  | 4, h => exact h
  | 5, h => exact h
  | 6, h => exact h
  | 7, h => exact h
  | 8, h => exact h
  | 9, h => exact h
  | 10, h => exact h
  | 11, h => exact h
  | 12, h => exact h
  | 13, h => exact h
  | 14, h => exact h
  | 15, h => exact h
  | 16, h => exact h
  | 17, h => exact h
  | 18, h => exact h
  | _ + 19, h => exact trivial

/-- What the region's operations leave. -/
def crL (B k c bo : Nat) (q : Option Addr) (T : List UInt8) (ix : Nat) (w : World) (v : Value) : Prop :=
  match ix with
  | 0 => v = .slice q k c
  | 1 => v = .pointer (some ⟨bo, 0, none⟩)
  | 2 => v = .string (strOf T)
  | 3 => ∃ g, v = .slice (some ⟨g, 0, none⟩) 1 1 ∧ w.heap[g]? = some (.cells #[.string (strOf T)] 9 (0, 0))
  | _ => True

theorem crL_mono (B k c bo : Nat) (q : Option Addr) (T : List UInt8) (jx : Nat) (w w' : World) (v : Value) (hb : Below w.heap.size w w') (h : crL B k c bo q T jx w v) : crL B k c bo q T jx w' v := by
  match jx, h with
  | 0, h => exact h
  | 1, h => exact h
  | 2, h => exact h
  | 3, h => exact (let ⟨g, h1, h2⟩ := h; ⟨g, h1, (hb.block g (lt_of_block h2)).trans h2⟩)
  | _ + 4, h => exact trivial

set_option maxRecDepth 100000 in
set_option maxHeartbeats 4000000 in
theorem clashRows_b1 (w : World) (n i : Int) (l : List UInt8) (hl : l.length ≤ 100000) (o : Option Addr) (m cap : Nat) (P : List (List UInt8)) (hP : HashesAt w o m cap P) (hx : decide ((1073741824 : Int) < n) = true) (hL : Laid w) :
    Calls Tryd.prog 10 #[.int .i64 n, .int .i64 i, .string (strOf l), .slice o m cap] w fun e w' => e = .returned (.tuple #[.slice none 0 0, .int .i64 30]) ∧ Below w.heap.size w w' := by
  obtain ⟨W0, hW0⟩ : ∃ W0, W0 = w.alloc (.cells #[.slice o m cap] 22) := ⟨_, rfl⟩
  have xp : W0.heap[w.heap.size]? = some (.cells #[.slice o m cap] 22 (0, 0)) := by rw [hW0]; exact heap_alloc_new w _
  have b0 : Below w.heap.size w W0 := by rw [hW0]; exact (Below.refl _ _).alloc (Nat.le_refl _) _
  have hPm : P.length = m := hP.1.1
  have hcap : m ≤ cap := hP.1.2.1
  have hmax : cap ≤ 9223372036854775807 := hP.1.2.2.1
  have XP := Lib.hid xp; clear xp
  have HP := Lib.hid (hP.below (Nat.le_refl _) b0); clear hP
  have HL0 := Lib.hid (hL.below b0); clear hL
  have HW0 := Lib.hid hW0; clear hW0
  go_enter Tryd.func10, Tryd.ntmps10
  go_wp2_with fail
  rw [← HW0.out]
  refine wp_region_rel [[], [0], [1], [2], [2, 3], [2, 4], [5], [6], [6], [6, 7, 8], [6, 9], [10], [11], [11, 12], [11], [11], [11, 14, 15], [11, 13, 16], [11, 17]] (crB1 w.heap.size n i m cap o P) 83 (by kernel_rfl) (by kernel_rfl) (by kernel_rfl) (crB1_mono w.heap.size n i m cap o P) ?_ ?_
  · intro ix op hi w2 b2 vs hv
    have him : ix < 19 := (List.getElem?_eq_some_iff.1 hi).1
    have hL2 := HL0.out.below b2
    match ix, him, hi with
    | 0, _, hi =>
      obtain rfl := Option.some.inj hi
      simp only [relF, List.getD_cons_zero, List.getD_cons_succ, List.foldl_cons, List.foldl_nil, dstAt, List.getElem?_cons_zero, List.getElem?_cons_succ, Option.bind_some]
      go_wp2_with fail
      exact ⟨rfl, Below.refl _ _, rfl, rfl⟩
    | 1, _, hi =>
      obtain rfl := Option.some.inj hi
      have h0 : vs 0 = _ := hv 0 (by decide)
      simp only [relF, List.getD_cons_zero, List.getD_cons_succ, List.foldl_cons, List.foldl_nil, dstAt, List.getElem?_cons_zero, List.getElem?_cons_succ, Option.bind_some]
      go_frame
      rw [h0]
      go_wp2_with fail
      exact ⟨rfl, Below.refl _ _, rfl, by first | rfl | (show slotOf _ _ = _; simp [slotOf]; done) | (show slotOf _ _ = _; simp [slotOf]; omega)⟩
    | 2, _, hi =>
      obtain rfl := Option.some.inj hi
      have h1 : vs 1 = _ := hv 1 (by decide)
      simp only [relF, List.getD_cons_zero, List.getD_cons_succ, List.foldl_cons, List.foldl_nil, dstAt, List.getElem?_cons_zero, List.getElem?_cons_succ, Option.bind_some]
      go_frame
      rw [h1]
      go_wp2_with fail
      exact ⟨rfl, Below.refl _ _, rfl, rfl⟩
    | 3, _, hi =>
      obtain rfl := Option.some.inj hi
      have h2 : vs 2 = _ := hv 2 (by decide)
      simp only [relF, List.getD_cons_zero, List.getD_cons_succ, List.foldl_cons, List.foldl_nil, dstAt, List.getElem?_cons_zero, List.getElem?_cons_succ, Option.bind_some]
      go_frame
      rw [h2]
      go_wp2_with fail
      exact ⟨rfl, Below.refl _ _, rfl, trivial⟩
    | 4, _, hi =>
      obtain rfl := Option.some.inj hi
      have h2 : vs 2 = _ := hv 2 (by decide)
      simp only [relF, List.getD_cons_zero, List.getD_cons_succ, List.foldl_cons, List.foldl_nil, dstAt, List.getElem?_cons_zero, List.getElem?_cons_succ, Option.bind_some]
      go_frame
      rw [h2]
      go_wp2_with fail
      exact ⟨rfl, Below.refl _ _, rfl, trivial⟩
    | 5, _, hi =>
      obtain rfl := Option.some.inj hi
      have h2 : vs 2 = _ := hv 2 (by decide)
      simp only [relF, List.getD_cons_zero, List.getD_cons_succ, List.foldl_cons, List.foldl_nil, dstAt, List.getElem?_cons_zero, List.getElem?_cons_succ, Option.bind_some]
      go_frame
      rw [h2]
      go_wp2_with fail
      exact ⟨rfl, Below.refl _ _, rfl, rfl⟩
    | 6, _, hi =>
      obtain rfl := Option.some.inj hi
      have h5 : vs 5 = _ := hv 5 (by decide)
      simp only [relF, List.getD_cons_zero, List.getD_cons_succ, List.foldl_cons, List.foldl_nil, dstAt, List.getElem?_cons_zero, List.getElem?_cons_succ, Option.bind_some]
      go_frame
      rw [h5]
      go_wp2_with fail
      exact ⟨rfl, Below.refl _ _, rfl, rfl⟩
    | 7, _, hi =>
      obtain rfl := Option.some.inj hi
      have h6 : vs 6 = _ := hv 6 (by decide)
      simp only [relF, List.getD_cons_zero, List.getD_cons_succ, List.foldl_cons, List.foldl_nil, dstAt, List.getElem?_cons_zero, List.getElem?_cons_succ, Option.bind_some]
      go_frame
      rw [h6]
      go_wp2_with fail
      exact ⟨rfl, Below.refl _ _, rfl, trivial⟩
    | 8, _, hi =>
      obtain rfl := Option.some.inj hi
      have h6 : vs 6 = _ := hv 6 (by decide)
      simp only [relF, List.getD_cons_zero, List.getD_cons_succ, List.foldl_cons, List.foldl_nil, dstAt, List.getElem?_cons_zero, List.getElem?_cons_succ, Option.bind_some]
      go_frame
      rw [h6]
      go_wp2_with fail
      exact ⟨rfl, Below.refl _ _, rfl, trivial⟩
    | 9, _, hi =>
      obtain rfl := Option.some.inj hi
      have h6 : vs 6 = _ := hv 6 (by decide)
      simp only [relF, List.getD_cons_zero, List.getD_cons_succ, List.foldl_cons, List.foldl_nil, dstAt, List.getElem?_cons_zero, List.getElem?_cons_succ, Option.bind_some]
      go_frame
      rw [h6]
      go_wp2_with fail
      exact ⟨rfl, Below.refl _ _, rfl, trivial⟩
    | 10, _, hi =>
      obtain rfl := Option.some.inj hi
      have h6 : vs 6 = _ := hv 6 (by decide)
      simp only [relF, List.getD_cons_zero, List.getD_cons_succ, List.foldl_cons, List.foldl_nil, dstAt, List.getElem?_cons_zero, List.getElem?_cons_succ, Option.bind_some]
      go_frame
      rw [h6]
      go_wp2_with fail
      exact ⟨rfl, Below.refl _ _, rfl, rfl⟩
    | 11, _, hi =>
      obtain rfl := Option.some.inj hi
      have h10 : vs 10 = _ := hv 10 (by decide)
      simp only [relF, List.getD_cons_zero, List.getD_cons_succ, List.foldl_cons, List.foldl_nil, dstAt, List.getElem?_cons_zero, List.getElem?_cons_succ, Option.bind_some]
      go_frame
      rw [h10]
      go_wp2_with fail
      exact ⟨rfl, Below.refl _ _, rfl, rfl⟩
    | 12, _, hi =>
      obtain rfl := Option.some.inj hi
      have h11 : vs 11 = _ := hv 11 (by decide)
      simp only [relF, List.getD_cons_zero, List.getD_cons_succ, List.foldl_cons, List.foldl_nil, dstAt, List.getElem?_cons_zero, List.getElem?_cons_succ, Option.bind_some]
      go_frame
      rw [h11]
      go_wp2_with fail
      exact ⟨rfl, Below.refl _ _, rfl, trivial⟩
    | 13, _, hi =>
      obtain rfl := Option.some.inj hi
      have h11 : vs 11 = _ := hv 11 (by decide)
      simp only [relF, List.getD_cons_zero, List.getD_cons_succ, List.foldl_cons, List.foldl_nil, dstAt, List.getElem?_cons_zero, List.getElem?_cons_succ, Option.bind_some]
      go_frame
      rw [h11]
      go_wp2_with fail
      exact ⟨rfl, Below.refl _ _, rfl, trivial⟩
    | 14, _, hi =>
      obtain rfl := Option.some.inj hi
      have h11 : vs 11 = _ := hv 11 (by decide)
      simp only [relF, List.getD_cons_zero, List.getD_cons_succ, List.foldl_cons, List.foldl_nil, dstAt, List.getElem?_cons_zero, List.getElem?_cons_succ, Option.bind_some]
      go_frame
      rw [h11]
      go_wp2_with fail
      exact ⟨rfl, Below.refl _ _, rfl, trivial⟩
    | 15, _, hi =>
      obtain rfl := Option.some.inj hi
      have h11 : vs 11 = _ := hv 11 (by decide)
      simp only [relF, List.getD_cons_zero, List.getD_cons_succ, List.foldl_cons, List.foldl_nil, dstAt, List.getElem?_cons_zero, List.getElem?_cons_succ, Option.bind_some]
      go_frame
      rw [h11]
      go_wp2_with fail
      exact ⟨rfl, Below.refl _ _, rfl, trivial⟩
    | 16, _, hi =>
      obtain rfl := Option.some.inj hi
      have h11 : vs 11 = _ := hv 11 (by decide)
      simp only [relF, List.getD_cons_zero, List.getD_cons_succ, List.foldl_cons, List.foldl_nil, dstAt, List.getElem?_cons_zero, List.getElem?_cons_succ, Option.bind_some]
      go_frame
      rw [h11]
      go_wp2_with fail
      exact ⟨rfl, Below.refl _ _, rfl, trivial⟩
    | 17, _, hi =>
      obtain rfl := Option.some.inj hi
      have h11 : vs 11 = _ := hv 11 (by decide)
      simp only [relF, List.getD_cons_zero, List.getD_cons_succ, List.foldl_cons, List.foldl_nil, dstAt, List.getElem?_cons_zero, List.getElem?_cons_succ, Option.bind_some]
      go_frame
      rw [h11]
      go_wp2_with fail
      exact ⟨rfl, Below.refl _ _, rfl, trivial⟩
    | 18, _, hi =>
      obtain rfl := Option.some.inj hi
      have h11 : vs 11 = _ := hv 11 (by decide)
      simp only [relF, List.getD_cons_zero, List.getD_cons_succ, List.foldl_cons, List.foldl_nil, dstAt, List.getElem?_cons_zero, List.getElem?_cons_succ, Option.bind_some]
      go_frame
      rw [h11]
      go_wp2_with fail
      exact ⟨rfl, Below.refl _ _, rfl, rfl⟩
    | nx + 19, him, _ => exact absurd him (by omega)
  · intro w2 b2 vs hv
    have hL2 := HL0.out.below b2
    have h18 : vs 18 = _ := hv 18 (by decide)
    simp only [relF, List.drop_succ_cons, List.drop_zero, List.length_cons, List.length_nil, Nat.zero_add, Nat.reduceAdd, List.range, List.range.loop, List.foldl_cons, List.foldl_nil, dstAt, List.getElem?_cons_zero, List.getElem?_cons_succ, Option.bind_some]
    go_frame
    rw [h18]
    go_wp2_with fail
    go_ret2
    exact ⟨rfl, b0.trans (b2.mono b0.size)⟩

set_option maxRecDepth 100000 in
set_option maxHeartbeats 4000000 in
theorem clashRows_b2 (w : World) (n i : Int) (l : List UInt8) (hl : l.length ≤ 100000) (o : Option Addr) (m cap : Nat) (P : List (List UInt8)) (hP : HashesAt w o m cap P) (hx : decide ((1073741824 : Int) < n) = false) (hy : decide (i < 0) = true) (hL : Laid w) :
    Calls Tryd.prog 10 #[.int .i64 n, .int .i64 i, .string (strOf l), .slice o m cap] w fun e w' => e = .returned (.tuple #[.slice none 0 0, .int .i64 30]) ∧ Below w.heap.size w w' := by
  obtain ⟨W0, hW0⟩ : ∃ W0, W0 = w.alloc (.cells #[.slice o m cap] 22) := ⟨_, rfl⟩
  have xp : W0.heap[w.heap.size]? = some (.cells #[.slice o m cap] 22 (0, 0)) := by rw [hW0]; exact heap_alloc_new w _
  have b0 : Below w.heap.size w W0 := by rw [hW0]; exact (Below.refl _ _).alloc (Nat.le_refl _) _
  have hPm : P.length = m := hP.1.1
  have hcap : m ≤ cap := hP.1.2.1
  have hmax : cap ≤ 9223372036854775807 := hP.1.2.2.1
  have XP := Lib.hid xp; clear xp
  have HP := Lib.hid (hP.below (Nat.le_refl _) b0); clear hP
  have HL0 := Lib.hid (hL.below b0); clear hL
  have HW0 := Lib.hid hW0; clear hW0
  go_enter Tryd.func10, Tryd.ntmps10
  go_wp2_with fail
  rw [← HW0.out]
  refine wp_region_rel [[], [0], [1], [2], [2, 3], [2, 4], [5], [6], [6], [6, 7, 8], [6, 9], [10], [11], [11, 12], [11], [11], [11, 14, 15], [11, 13, 16], [11, 17]] (crB2 w.heap.size n i m cap o P) 83 (by kernel_rfl) (by kernel_rfl) (by kernel_rfl) (crB2_mono w.heap.size n i m cap o P) ?_ ?_
  · intro ix op hi w2 b2 vs hv
    have him : ix < 19 := (List.getElem?_eq_some_iff.1 hi).1
    have hL2 := HL0.out.below b2
    match ix, him, hi with
    | 0, _, hi =>
      obtain rfl := Option.some.inj hi
      simp only [relF, List.getD_cons_zero, List.getD_cons_succ, List.foldl_cons, List.foldl_nil, dstAt, List.getElem?_cons_zero, List.getElem?_cons_succ, Option.bind_some]
      go_wp2_with fail
      exact ⟨rfl, Below.refl _ _, rfl, rfl⟩
    | 1, _, hi =>
      obtain rfl := Option.some.inj hi
      have h0 : vs 0 = _ := hv 0 (by decide)
      simp only [relF, List.getD_cons_zero, List.getD_cons_succ, List.foldl_cons, List.foldl_nil, dstAt, List.getElem?_cons_zero, List.getElem?_cons_succ, Option.bind_some]
      go_frame
      rw [h0]
      go_wp2_with fail
      exact ⟨rfl, Below.refl _ _, rfl, by first | rfl | (show slotOf _ _ = _; simp [slotOf]; done) | (show slotOf _ _ = _; simp [slotOf]; omega)⟩
    | 2, _, hi =>
      obtain rfl := Option.some.inj hi
      have h1 : vs 1 = _ := hv 1 (by decide)
      simp only [relF, List.getD_cons_zero, List.getD_cons_succ, List.foldl_cons, List.foldl_nil, dstAt, List.getElem?_cons_zero, List.getElem?_cons_succ, Option.bind_some]
      go_frame
      rw [h1]
      go_wp2_with fail
      exact ⟨rfl, Below.refl _ _, rfl, rfl⟩
    | 3, _, hi =>
      obtain rfl := Option.some.inj hi
      have h2 : vs 2 = _ := hv 2 (by decide)
      simp only [relF, List.getD_cons_zero, List.getD_cons_succ, List.foldl_cons, List.foldl_nil, dstAt, List.getElem?_cons_zero, List.getElem?_cons_succ, Option.bind_some]
      go_frame
      rw [h2]
      go_wp2_with fail
      exact ⟨rfl, Below.refl _ _, rfl, rfl⟩
    | 4, _, hi =>
      obtain rfl := Option.some.inj hi
      have h2 : vs 2 = _ := hv 2 (by decide)
      have h3 : vs 3 = _ := hv 3 (by decide)
      simp only [relF, List.getD_cons_zero, List.getD_cons_succ, List.foldl_cons, List.foldl_nil, dstAt, List.getElem?_cons_zero, List.getElem?_cons_succ, Option.bind_some]
      go_frame
      rw [h2, h3]
      go_wp2_with fail
      exact ⟨rfl, Below.refl _ _, rfl, by first | rfl | (show slotOf _ _ = _; simp [slotOf]; done) | (show slotOf _ _ = _; simp [slotOf]; omega)⟩
    | 5, _, hi =>
      obtain rfl := Option.some.inj hi
      have h2 : vs 2 = _ := hv 2 (by decide)
      have h4 : vs 4 = _ := hv 4 (by decide)
      simp only [relF, List.getD_cons_zero, List.getD_cons_succ, List.foldl_cons, List.foldl_nil, dstAt, List.getElem?_cons_zero, List.getElem?_cons_succ, Option.bind_some]
      go_frame
      rw [h2, h4]
      go_wp2_with fail
      exact ⟨rfl, Below.refl _ _, rfl, rfl⟩
    | 6, _, hi =>
      obtain rfl := Option.some.inj hi
      have h5 : vs 5 = _ := hv 5 (by decide)
      simp only [relF, List.getD_cons_zero, List.getD_cons_succ, List.foldl_cons, List.foldl_nil, dstAt, List.getElem?_cons_zero, List.getElem?_cons_succ, Option.bind_some]
      go_frame
      rw [h5]
      go_wp2_with fail
      exact ⟨rfl, Below.refl _ _, rfl, rfl⟩
    | 7, _, hi =>
      obtain rfl := Option.some.inj hi
      have h6 : vs 6 = _ := hv 6 (by decide)
      simp only [relF, List.getD_cons_zero, List.getD_cons_succ, List.foldl_cons, List.foldl_nil, dstAt, List.getElem?_cons_zero, List.getElem?_cons_succ, Option.bind_some]
      go_frame
      rw [h6]
      go_wp2_with fail
      exact ⟨rfl, Below.refl _ _, rfl, trivial⟩
    | 8, _, hi =>
      obtain rfl := Option.some.inj hi
      have h6 : vs 6 = _ := hv 6 (by decide)
      simp only [relF, List.getD_cons_zero, List.getD_cons_succ, List.foldl_cons, List.foldl_nil, dstAt, List.getElem?_cons_zero, List.getElem?_cons_succ, Option.bind_some]
      go_frame
      rw [h6]
      go_wp2_with fail
      exact ⟨rfl, Below.refl _ _, rfl, trivial⟩
    | 9, _, hi =>
      obtain rfl := Option.some.inj hi
      have h6 : vs 6 = _ := hv 6 (by decide)
      simp only [relF, List.getD_cons_zero, List.getD_cons_succ, List.foldl_cons, List.foldl_nil, dstAt, List.getElem?_cons_zero, List.getElem?_cons_succ, Option.bind_some]
      go_frame
      rw [h6]
      go_wp2_with fail
      exact ⟨rfl, Below.refl _ _, rfl, trivial⟩
    | 10, _, hi =>
      obtain rfl := Option.some.inj hi
      have h6 : vs 6 = _ := hv 6 (by decide)
      simp only [relF, List.getD_cons_zero, List.getD_cons_succ, List.foldl_cons, List.foldl_nil, dstAt, List.getElem?_cons_zero, List.getElem?_cons_succ, Option.bind_some]
      go_frame
      rw [h6]
      go_wp2_with fail
      exact ⟨rfl, Below.refl _ _, rfl, rfl⟩
    | 11, _, hi =>
      obtain rfl := Option.some.inj hi
      have h10 : vs 10 = _ := hv 10 (by decide)
      simp only [relF, List.getD_cons_zero, List.getD_cons_succ, List.foldl_cons, List.foldl_nil, dstAt, List.getElem?_cons_zero, List.getElem?_cons_succ, Option.bind_some]
      go_frame
      rw [h10]
      go_wp2_with fail
      exact ⟨rfl, Below.refl _ _, rfl, rfl⟩
    | 12, _, hi =>
      obtain rfl := Option.some.inj hi
      have h11 : vs 11 = _ := hv 11 (by decide)
      simp only [relF, List.getD_cons_zero, List.getD_cons_succ, List.foldl_cons, List.foldl_nil, dstAt, List.getElem?_cons_zero, List.getElem?_cons_succ, Option.bind_some]
      go_frame
      rw [h11]
      go_wp2_with fail
      exact ⟨rfl, Below.refl _ _, rfl, trivial⟩
    | 13, _, hi =>
      obtain rfl := Option.some.inj hi
      have h11 : vs 11 = _ := hv 11 (by decide)
      simp only [relF, List.getD_cons_zero, List.getD_cons_succ, List.foldl_cons, List.foldl_nil, dstAt, List.getElem?_cons_zero, List.getElem?_cons_succ, Option.bind_some]
      go_frame
      rw [h11]
      go_wp2_with fail
      exact ⟨rfl, Below.refl _ _, rfl, trivial⟩
    | 14, _, hi =>
      obtain rfl := Option.some.inj hi
      have h11 : vs 11 = _ := hv 11 (by decide)
      simp only [relF, List.getD_cons_zero, List.getD_cons_succ, List.foldl_cons, List.foldl_nil, dstAt, List.getElem?_cons_zero, List.getElem?_cons_succ, Option.bind_some]
      go_frame
      rw [h11]
      go_wp2_with fail
      exact ⟨rfl, Below.refl _ _, rfl, trivial⟩
    | 15, _, hi =>
      obtain rfl := Option.some.inj hi
      have h11 : vs 11 = _ := hv 11 (by decide)
      simp only [relF, List.getD_cons_zero, List.getD_cons_succ, List.foldl_cons, List.foldl_nil, dstAt, List.getElem?_cons_zero, List.getElem?_cons_succ, Option.bind_some]
      go_frame
      rw [h11]
      go_wp2_with fail
      exact ⟨rfl, Below.refl _ _, rfl, trivial⟩
    | 16, _, hi =>
      obtain rfl := Option.some.inj hi
      have h11 : vs 11 = _ := hv 11 (by decide)
      simp only [relF, List.getD_cons_zero, List.getD_cons_succ, List.foldl_cons, List.foldl_nil, dstAt, List.getElem?_cons_zero, List.getElem?_cons_succ, Option.bind_some]
      go_frame
      rw [h11]
      go_wp2_with fail
      exact ⟨rfl, Below.refl _ _, rfl, trivial⟩
    | 17, _, hi =>
      obtain rfl := Option.some.inj hi
      have h11 : vs 11 = _ := hv 11 (by decide)
      simp only [relF, List.getD_cons_zero, List.getD_cons_succ, List.foldl_cons, List.foldl_nil, dstAt, List.getElem?_cons_zero, List.getElem?_cons_succ, Option.bind_some]
      go_frame
      rw [h11]
      go_wp2_with fail
      exact ⟨rfl, Below.refl _ _, rfl, trivial⟩
    | 18, _, hi =>
      obtain rfl := Option.some.inj hi
      have h11 : vs 11 = _ := hv 11 (by decide)
      simp only [relF, List.getD_cons_zero, List.getD_cons_succ, List.foldl_cons, List.foldl_nil, dstAt, List.getElem?_cons_zero, List.getElem?_cons_succ, Option.bind_some]
      go_frame
      rw [h11]
      go_wp2_with fail
      exact ⟨rfl, Below.refl _ _, rfl, rfl⟩
    | nx + 19, him, _ => exact absurd him (by omega)
  · intro w2 b2 vs hv
    have hL2 := HL0.out.below b2
    have h18 : vs 18 = _ := hv 18 (by decide)
    simp only [relF, List.drop_succ_cons, List.drop_zero, List.length_cons, List.length_nil, Nat.zero_add, Nat.reduceAdd, List.range, List.range.loop, List.foldl_cons, List.foldl_nil, dstAt, List.getElem?_cons_zero, List.getElem?_cons_succ, Option.bind_some]
    go_frame
    rw [h18]
    go_wp2_with fail
    go_ret2
    exact ⟨rfl, b0.trans (b2.mono b0.size)⟩

set_option maxRecDepth 100000 in
set_option maxHeartbeats 4000000 in
theorem clashRows_b3 (w : World) (n i : Int) (l : List UInt8) (hl : l.length ≤ 100000) (o : Option Addr) (m cap : Nat) (P : List (List UInt8)) (hP : HashesAt w o m cap P) (hx : decide ((1073741824 : Int) < n) = false) (hy : decide (i < 0) = false) (hz : decide (n ≤ i) = true) (hL : Laid w) :
    Calls Tryd.prog 10 #[.int .i64 n, .int .i64 i, .string (strOf l), .slice o m cap] w fun e w' => e = .returned (.tuple #[.slice none 0 0, .int .i64 30]) ∧ Below w.heap.size w w' := by
  obtain ⟨W0, hW0⟩ : ∃ W0, W0 = w.alloc (.cells #[.slice o m cap] 22) := ⟨_, rfl⟩
  have xp : W0.heap[w.heap.size]? = some (.cells #[.slice o m cap] 22 (0, 0)) := by rw [hW0]; exact heap_alloc_new w _
  have b0 : Below w.heap.size w W0 := by rw [hW0]; exact (Below.refl _ _).alloc (Nat.le_refl _) _
  have hPm : P.length = m := hP.1.1
  have hcap : m ≤ cap := hP.1.2.1
  have hmax : cap ≤ 9223372036854775807 := hP.1.2.2.1
  have XP := Lib.hid xp; clear xp
  have HP := Lib.hid (hP.below (Nat.le_refl _) b0); clear hP
  have HL0 := Lib.hid (hL.below b0); clear hL
  have HW0 := Lib.hid hW0; clear hW0
  go_enter Tryd.func10, Tryd.ntmps10
  go_wp2_with fail
  rw [← HW0.out]
  refine wp_region_rel [[], [0], [1], [2], [2, 3], [2, 4], [5], [6], [6], [6, 7, 8], [6, 9], [10], [11], [11, 12], [11], [11], [11, 14, 15], [11, 13, 16], [11, 17]] (crB3 w.heap.size n i m cap o P) 83 (by kernel_rfl) (by kernel_rfl) (by kernel_rfl) (crB3_mono w.heap.size n i m cap o P) ?_ ?_
  · intro ix op hi w2 b2 vs hv
    have him : ix < 19 := (List.getElem?_eq_some_iff.1 hi).1
    have hL2 := HL0.out.below b2
    match ix, him, hi with
    | 0, _, hi =>
      obtain rfl := Option.some.inj hi
      simp only [relF, List.getD_cons_zero, List.getD_cons_succ, List.foldl_cons, List.foldl_nil, dstAt, List.getElem?_cons_zero, List.getElem?_cons_succ, Option.bind_some]
      go_wp2_with fail
      exact ⟨rfl, Below.refl _ _, rfl, rfl⟩
    | 1, _, hi =>
      obtain rfl := Option.some.inj hi
      have h0 : vs 0 = _ := hv 0 (by decide)
      simp only [relF, List.getD_cons_zero, List.getD_cons_succ, List.foldl_cons, List.foldl_nil, dstAt, List.getElem?_cons_zero, List.getElem?_cons_succ, Option.bind_some]
      go_frame
      rw [h0]
      go_wp2_with fail
      exact ⟨rfl, Below.refl _ _, rfl, by first | rfl | (show slotOf _ _ = _; simp [slotOf]; done) | (show slotOf _ _ = _; simp [slotOf]; omega)⟩
    | 2, _, hi =>
      obtain rfl := Option.some.inj hi
      have h1 : vs 1 = _ := hv 1 (by decide)
      simp only [relF, List.getD_cons_zero, List.getD_cons_succ, List.foldl_cons, List.foldl_nil, dstAt, List.getElem?_cons_zero, List.getElem?_cons_succ, Option.bind_some]
      go_frame
      rw [h1]
      go_wp2_with fail
      exact ⟨rfl, Below.refl _ _, rfl, rfl⟩
    | 3, _, hi =>
      obtain rfl := Option.some.inj hi
      have h2 : vs 2 = _ := hv 2 (by decide)
      simp only [relF, List.getD_cons_zero, List.getD_cons_succ, List.foldl_cons, List.foldl_nil, dstAt, List.getElem?_cons_zero, List.getElem?_cons_succ, Option.bind_some]
      go_frame
      rw [h2]
      go_wp2_with fail
      exact ⟨rfl, Below.refl _ _, rfl, rfl⟩
    | 4, _, hi =>
      obtain rfl := Option.some.inj hi
      have h2 : vs 2 = _ := hv 2 (by decide)
      have h3 : vs 3 = _ := hv 3 (by decide)
      simp only [relF, List.getD_cons_zero, List.getD_cons_succ, List.foldl_cons, List.foldl_nil, dstAt, List.getElem?_cons_zero, List.getElem?_cons_succ, Option.bind_some]
      go_frame
      rw [h2, h3]
      go_wp2_with fail
      exact ⟨rfl, Below.refl _ _, rfl, by first | rfl | (show slotOf _ _ = _; simp [slotOf]; done) | (show slotOf _ _ = _; simp [slotOf]; omega)⟩
    | 5, _, hi =>
      obtain rfl := Option.some.inj hi
      have h2 : vs 2 = _ := hv 2 (by decide)
      have h4 : vs 4 = _ := hv 4 (by decide)
      simp only [relF, List.getD_cons_zero, List.getD_cons_succ, List.foldl_cons, List.foldl_nil, dstAt, List.getElem?_cons_zero, List.getElem?_cons_succ, Option.bind_some]
      go_frame
      rw [h2, h4]
      go_wp2_with fail
      exact ⟨rfl, Below.refl _ _, rfl, rfl⟩
    | 6, _, hi =>
      obtain rfl := Option.some.inj hi
      have h5 : vs 5 = _ := hv 5 (by decide)
      simp only [relF, List.getD_cons_zero, List.getD_cons_succ, List.foldl_cons, List.foldl_nil, dstAt, List.getElem?_cons_zero, List.getElem?_cons_succ, Option.bind_some]
      go_frame
      rw [h5]
      go_wp2_with fail
      exact ⟨rfl, Below.refl _ _, rfl, rfl⟩
    | 7, _, hi =>
      obtain rfl := Option.some.inj hi
      have h6 : vs 6 = _ := hv 6 (by decide)
      simp only [relF, List.getD_cons_zero, List.getD_cons_succ, List.foldl_cons, List.foldl_nil, dstAt, List.getElem?_cons_zero, List.getElem?_cons_succ, Option.bind_some]
      go_frame
      rw [h6]
      go_wp2_with fail
      exact ⟨rfl, Below.refl _ _, rfl, rfl⟩
    | 8, _, hi =>
      obtain rfl := Option.some.inj hi
      have h6 : vs 6 = _ := hv 6 (by decide)
      simp only [relF, List.getD_cons_zero, List.getD_cons_succ, List.foldl_cons, List.foldl_nil, dstAt, List.getElem?_cons_zero, List.getElem?_cons_succ, Option.bind_some]
      go_frame
      rw [h6]
      go_wp2_with fail
      exact ⟨rfl, Below.refl _ _, rfl, rfl⟩
    | 9, _, hi =>
      obtain rfl := Option.some.inj hi
      have h6 : vs 6 = _ := hv 6 (by decide)
      have h7 : vs 7 = _ := hv 7 (by decide)
      have h8 : vs 8 = _ := hv 8 (by decide)
      simp only [relF, List.getD_cons_zero, List.getD_cons_succ, List.foldl_cons, List.foldl_nil, dstAt, List.getElem?_cons_zero, List.getElem?_cons_succ, Option.bind_some]
      go_frame
      rw [h6, h7, h8]
      go_wp2_with fail
      exact ⟨rfl, Below.refl _ _, rfl, by first | rfl | (show slotOf _ _ = _; simp [slotOf]; done) | (show slotOf _ _ = _; simp [slotOf]; omega)⟩
    | 10, _, hi =>
      obtain rfl := Option.some.inj hi
      have h6 : vs 6 = _ := hv 6 (by decide)
      have h9 : vs 9 = _ := hv 9 (by decide)
      simp only [relF, List.getD_cons_zero, List.getD_cons_succ, List.foldl_cons, List.foldl_nil, dstAt, List.getElem?_cons_zero, List.getElem?_cons_succ, Option.bind_some]
      go_frame
      rw [h6, h9]
      go_wp2_with fail
      exact ⟨rfl, Below.refl _ _, rfl, rfl⟩
    | 11, _, hi =>
      obtain rfl := Option.some.inj hi
      have h10 : vs 10 = _ := hv 10 (by decide)
      simp only [relF, List.getD_cons_zero, List.getD_cons_succ, List.foldl_cons, List.foldl_nil, dstAt, List.getElem?_cons_zero, List.getElem?_cons_succ, Option.bind_some]
      go_frame
      rw [h10]
      go_wp2_with fail
      exact ⟨rfl, Below.refl _ _, rfl, rfl⟩
    | 12, _, hi =>
      obtain rfl := Option.some.inj hi
      have h11 : vs 11 = _ := hv 11 (by decide)
      simp only [relF, List.getD_cons_zero, List.getD_cons_succ, List.foldl_cons, List.foldl_nil, dstAt, List.getElem?_cons_zero, List.getElem?_cons_succ, Option.bind_some]
      go_frame
      rw [h11]
      go_wp2_with fail
      exact ⟨rfl, Below.refl _ _, rfl, trivial⟩
    | 13, _, hi =>
      obtain rfl := Option.some.inj hi
      have h11 : vs 11 = _ := hv 11 (by decide)
      simp only [relF, List.getD_cons_zero, List.getD_cons_succ, List.foldl_cons, List.foldl_nil, dstAt, List.getElem?_cons_zero, List.getElem?_cons_succ, Option.bind_some]
      go_frame
      rw [h11]
      go_wp2_with fail
      exact ⟨rfl, Below.refl _ _, rfl, trivial⟩
    | 14, _, hi =>
      obtain rfl := Option.some.inj hi
      have h11 : vs 11 = _ := hv 11 (by decide)
      simp only [relF, List.getD_cons_zero, List.getD_cons_succ, List.foldl_cons, List.foldl_nil, dstAt, List.getElem?_cons_zero, List.getElem?_cons_succ, Option.bind_some]
      go_frame
      rw [h11]
      go_wp2_with fail
      exact ⟨rfl, Below.refl _ _, rfl, trivial⟩
    | 15, _, hi =>
      obtain rfl := Option.some.inj hi
      have h11 : vs 11 = _ := hv 11 (by decide)
      simp only [relF, List.getD_cons_zero, List.getD_cons_succ, List.foldl_cons, List.foldl_nil, dstAt, List.getElem?_cons_zero, List.getElem?_cons_succ, Option.bind_some]
      go_frame
      rw [h11]
      go_wp2_with fail
      exact ⟨rfl, Below.refl _ _, rfl, trivial⟩
    | 16, _, hi =>
      obtain rfl := Option.some.inj hi
      have h11 : vs 11 = _ := hv 11 (by decide)
      simp only [relF, List.getD_cons_zero, List.getD_cons_succ, List.foldl_cons, List.foldl_nil, dstAt, List.getElem?_cons_zero, List.getElem?_cons_succ, Option.bind_some]
      go_frame
      rw [h11]
      go_wp2_with fail
      exact ⟨rfl, Below.refl _ _, rfl, trivial⟩
    | 17, _, hi =>
      obtain rfl := Option.some.inj hi
      have h11 : vs 11 = _ := hv 11 (by decide)
      simp only [relF, List.getD_cons_zero, List.getD_cons_succ, List.foldl_cons, List.foldl_nil, dstAt, List.getElem?_cons_zero, List.getElem?_cons_succ, Option.bind_some]
      go_frame
      rw [h11]
      go_wp2_with fail
      exact ⟨rfl, Below.refl _ _, rfl, trivial⟩
    | 18, _, hi =>
      obtain rfl := Option.some.inj hi
      have h11 : vs 11 = _ := hv 11 (by decide)
      simp only [relF, List.getD_cons_zero, List.getD_cons_succ, List.foldl_cons, List.foldl_nil, dstAt, List.getElem?_cons_zero, List.getElem?_cons_succ, Option.bind_some]
      go_frame
      rw [h11]
      go_wp2_with fail
      exact ⟨rfl, Below.refl _ _, rfl, rfl⟩
    | nx + 19, him, _ => exact absurd him (by omega)
  · intro w2 b2 vs hv
    have hL2 := HL0.out.below b2
    have h18 : vs 18 = _ := hv 18 (by decide)
    simp only [relF, List.drop_succ_cons, List.drop_zero, List.length_cons, List.length_nil, Nat.zero_add, Nat.reduceAdd, List.range, List.range.loop, List.foldl_cons, List.foldl_nil, dstAt, List.getElem?_cons_zero, List.getElem?_cons_succ, Option.bind_some]
    go_frame
    rw [h18]
    go_wp2_with fail
    go_ret2
    exact ⟨rfl, b0.trans (b2.mono b0.size)⟩

set_option maxRecDepth 100000 in
set_option maxHeartbeats 4000000 in
theorem clashRows_short (w : World) (n i : Nat) (hin : i < n) (hn30 : n ≤ 1073741824) (l : List UInt8) (hl : l.length ≤ 100000) (o : Option Addr) (m cap : Nat) (P : List (List UInt8)) (hP : HashesAt w o m cap P) (hne : ¬ (Tree.sides n i).length = m) (hL : Laid w) :
    Calls Tryd.prog 10 #[.int .i64 (n : Int), .int .i64 (i : Int), .string (strOf l), .slice o m cap] w fun e w' => e = .returned (.tuple #[.slice none 0 0, .int .i64 30]) ∧ Below w.heap.size w w' := by
  have hx : decide ((1073741824 : Int) < (n : Int)) = false := decide_eq_false (by omega)
  have hy : decide ((i : Int) < 0) = false := decide_eq_false (by omega)
  have hz : decide ((n : Int) ≤ (i : Int)) = false := decide_eq_false (by omega)
  have hz' : decide (n ≤ i) = false := decide_eq_false (by omega)
  have hs30 := Tree.sides_len 30 n i hin hn30
  have hst := strOf_size l
  have hnm : ¬ m = (Tree.sides n i).length := fun h => hne h.symm
  obtain ⟨W0, hW0⟩ : ∃ W0, W0 = w.alloc (.cells #[.slice o m cap] 22) := ⟨_, rfl⟩
  have xp : W0.heap[w.heap.size]? = some (.cells #[.slice o m cap] 22 (0, 0)) := by rw [hW0]; exact heap_alloc_new w _
  have b0 : Below w.heap.size w W0 := by rw [hW0]; exact (Below.refl _ _).alloc (Nat.le_refl _) _
  have hPm : P.length = m := hP.1.1
  have hcap : m ≤ cap := hP.1.2.1
  have hmax : cap ≤ 9223372036854775807 := hP.1.2.2.1
  have XP := Lib.hid xp; clear xp
  have HP := Lib.hid (hP.below (Nat.le_refl _) b0); clear hP
  have HL0 := Lib.hid (hL.below b0); clear hL
  have HW0 := Lib.hid hW0; clear hW0
  go_enter Tryd.func10, Tryd.ntmps10
  go_wp2_with fail
  rw [← HW0.out]
  refine wp_region_rel [[], [0], [1], [2], [2, 3], [2, 4], [5], [6], [6], [6, 7, 8], [6, 9], [10], [11], [11, 12], [11], [11], [11, 14, 15], [11, 13, 16], [11, 17]] (crB4 w.heap.size n i m cap o P) 83 (by kernel_rfl) (by kernel_rfl) (by kernel_rfl) (crB4_mono w.heap.size n i m cap o P) ?_ ?_
  · intro ix op hi w2 b2 vs hv
    have him : ix < 19 := (List.getElem?_eq_some_iff.1 hi).1
    have hL2 := HL0.out.below b2
    match ix, him, hi with
    | 0, _, hi =>
      obtain rfl := Option.some.inj hi
      simp only [relF, List.getD_cons_zero, List.getD_cons_succ, List.foldl_cons, List.foldl_nil, dstAt, List.getElem?_cons_zero, List.getElem?_cons_succ, Option.bind_some]
      go_wp2_with fail
      exact ⟨rfl, Below.refl _ _, rfl, rfl⟩
    | 1, _, hi =>
      obtain rfl := Option.some.inj hi
      have h0 : vs 0 = _ := hv 0 (by decide)
      simp only [relF, List.getD_cons_zero, List.getD_cons_succ, List.foldl_cons, List.foldl_nil, dstAt, List.getElem?_cons_zero, List.getElem?_cons_succ, Option.bind_some]
      go_frame
      rw [h0]
      go_wp2_with fail
      exact ⟨rfl, Below.refl _ _, rfl, by first | rfl | (show slotOf _ _ = _; simp [slotOf]; done) | (show slotOf _ _ = _; simp [slotOf]; omega)⟩
    | 2, _, hi =>
      obtain rfl := Option.some.inj hi
      have h1 : vs 1 = _ := hv 1 (by decide)
      simp only [relF, List.getD_cons_zero, List.getD_cons_succ, List.foldl_cons, List.foldl_nil, dstAt, List.getElem?_cons_zero, List.getElem?_cons_succ, Option.bind_some]
      go_frame
      rw [h1]
      go_wp2_with fail
      exact ⟨rfl, Below.refl _ _, rfl, rfl⟩
    | 3, _, hi =>
      obtain rfl := Option.some.inj hi
      have h2 : vs 2 = _ := hv 2 (by decide)
      simp only [relF, List.getD_cons_zero, List.getD_cons_succ, List.foldl_cons, List.foldl_nil, dstAt, List.getElem?_cons_zero, List.getElem?_cons_succ, Option.bind_some]
      go_frame
      rw [h2]
      go_wp2_with fail
      exact ⟨rfl, Below.refl _ _, rfl, rfl⟩
    | 4, _, hi =>
      obtain rfl := Option.some.inj hi
      have h2 : vs 2 = _ := hv 2 (by decide)
      have h3 : vs 3 = _ := hv 3 (by decide)
      simp only [relF, List.getD_cons_zero, List.getD_cons_succ, List.foldl_cons, List.foldl_nil, dstAt, List.getElem?_cons_zero, List.getElem?_cons_succ, Option.bind_some]
      go_frame
      rw [h2, h3]
      go_wp2_with fail
      exact ⟨rfl, Below.refl _ _, rfl, by first | rfl | (show slotOf _ _ = _; simp [slotOf]; done) | (show slotOf _ _ = _; simp [slotOf]; omega)⟩
    | 5, _, hi =>
      obtain rfl := Option.some.inj hi
      have h2 : vs 2 = _ := hv 2 (by decide)
      have h4 : vs 4 = _ := hv 4 (by decide)
      simp only [relF, List.getD_cons_zero, List.getD_cons_succ, List.foldl_cons, List.foldl_nil, dstAt, List.getElem?_cons_zero, List.getElem?_cons_succ, Option.bind_some]
      go_frame
      rw [h2, h4]
      go_wp2_with fail
      exact ⟨rfl, Below.refl _ _, rfl, rfl⟩
    | 6, _, hi =>
      obtain rfl := Option.some.inj hi
      have h5 : vs 5 = _ := hv 5 (by decide)
      simp only [relF, List.getD_cons_zero, List.getD_cons_succ, List.foldl_cons, List.foldl_nil, dstAt, List.getElem?_cons_zero, List.getElem?_cons_succ, Option.bind_some]
      go_frame
      rw [h5]
      go_wp2_with fail
      exact ⟨rfl, Below.refl _ _, rfl, rfl⟩
    | 7, _, hi =>
      obtain rfl := Option.some.inj hi
      have h6 : vs 6 = _ := hv 6 (by decide)
      simp only [relF, List.getD_cons_zero, List.getD_cons_succ, List.foldl_cons, List.foldl_nil, dstAt, List.getElem?_cons_zero, List.getElem?_cons_succ, Option.bind_some]
      go_frame
      rw [h6]
      go_wp2_with fail
      exact ⟨rfl, Below.refl _ _, rfl, rfl⟩
    | 8, _, hi =>
      obtain rfl := Option.some.inj hi
      have h6 : vs 6 = _ := hv 6 (by decide)
      simp only [relF, List.getD_cons_zero, List.getD_cons_succ, List.foldl_cons, List.foldl_nil, dstAt, List.getElem?_cons_zero, List.getElem?_cons_succ, Option.bind_some]
      go_frame
      rw [h6]
      go_wp2_with fail
      exact ⟨rfl, Below.refl _ _, rfl, rfl⟩
    | 9, _, hi =>
      obtain rfl := Option.some.inj hi
      have h6 : vs 6 = _ := hv 6 (by decide)
      have h7 : vs 7 = _ := hv 7 (by decide)
      have h8 : vs 8 = _ := hv 8 (by decide)
      simp only [relF, List.getD_cons_zero, List.getD_cons_succ, List.foldl_cons, List.foldl_nil, dstAt, List.getElem?_cons_zero, List.getElem?_cons_succ, Option.bind_some]
      go_frame
      rw [h6, h7, h8]
      go_wp2_with fail
      exact ⟨rfl, Below.refl _ _, rfl, by first | rfl | (show slotOf _ _ = _; simp [slotOf]; done) | (show slotOf _ _ = _; simp [slotOf]; omega)⟩
    | 10, _, hi =>
      obtain rfl := Option.some.inj hi
      have h6 : vs 6 = _ := hv 6 (by decide)
      have h9 : vs 9 = _ := hv 9 (by decide)
      simp only [relF, List.getD_cons_zero, List.getD_cons_succ, List.foldl_cons, List.foldl_nil, dstAt, List.getElem?_cons_zero, List.getElem?_cons_succ, Option.bind_some]
      go_frame
      rw [h6, h9]
      go_wp2_with fail
      exact ⟨rfl, Below.refl _ _, rfl, rfl⟩
    | 11, _, hi =>
      obtain rfl := Option.some.inj hi
      have h10 : vs 10 = _ := hv 10 (by decide)
      simp only [relF, List.getD_cons_zero, List.getD_cons_succ, List.foldl_cons, List.foldl_nil, dstAt, List.getElem?_cons_zero, List.getElem?_cons_succ, Option.bind_some]
      go_frame
      rw [h10]
      go_wp2_with fail
      exact ⟨rfl, Below.refl _ _, rfl, rfl⟩
    | 12, _, hi =>
      obtain rfl := Option.some.inj hi
      have h11 : vs 11 = _ := hv 11 (by decide)
      have hcv := cell_of_one ((b2.block _ (lt_of_block XP.out)).trans XP.out)
      simp only [relF, List.getD_cons_zero, List.getD_cons_succ, List.foldl_cons, List.foldl_nil, dstAt, List.getElem?_cons_zero, List.getElem?_cons_succ, Option.bind_some]
      go_frame
      rw [h11]
      go_wp2_with fail
      exact ⟨rfl, Below.refl _ _, rfl, rfl⟩
    | 13, _, hi =>
      obtain rfl := Option.some.inj hi
      have h11 : vs 11 = _ := hv 11 (by decide)
      have h12 : vs 12 = _ := hv 12 (by decide)
      simp only [relF, List.getD_cons_zero, List.getD_cons_succ, List.foldl_cons, List.foldl_nil, dstAt, List.getElem?_cons_zero, List.getElem?_cons_succ, Option.bind_some]
      go_frame
      rw [h11, h12]
      go_wp2_with fail
      exact ⟨rfl, Below.refl _ _, rfl, rfl⟩
    | 14, _, hi =>
      obtain rfl := Option.some.inj hi
      have h11 : vs 11 = _ := hv 11 (by decide)
      simp only [relF, List.getD_cons_zero, List.getD_cons_succ, List.foldl_cons, List.foldl_nil, dstAt, List.getElem?_cons_zero, List.getElem?_cons_succ, Option.bind_some]
      go_frame
      rw [h11]
      go_wp2_with fail
      exact ⟨rfl, Below.refl _ _, rfl, rfl⟩
    | 15, _, hi =>
      obtain rfl := Option.some.inj hi
      have h11 : vs 11 = _ := hv 11 (by decide)
      simp only [relF, List.getD_cons_zero, List.getD_cons_succ, List.foldl_cons, List.foldl_nil, dstAt, List.getElem?_cons_zero, List.getElem?_cons_succ, Option.bind_some]
      go_frame
      rw [h11]
      go_wp2_with fail
      exact ⟨rfl, Below.refl _ _, rfl, rfl⟩
    | 16, _, hi =>
      obtain rfl := Option.some.inj hi
      have h11 : vs 11 = _ := hv 11 (by decide)
      have h14 : vs 14 = _ := hv 14 (by decide)
      have h15 : vs 15 = _ := hv 15 (by decide)
      simp only [relF, List.getD_cons_zero, List.getD_cons_succ, List.foldl_cons, List.foldl_nil, dstAt, List.getElem?_cons_zero, List.getElem?_cons_succ, Option.bind_some]
      go_frame
      rw [h11, h14, h15]
      go_wp2_with fail
      refine (treeDeep_any w2 n i (by omega) (by omega)).mono ?_
      rintro e w3 ⟨rfl, b3⟩
      go_wp2_with fail
      exact ⟨rfl, b3, rfl, rfl⟩
    | 17, _, hi =>
      obtain rfl := Option.some.inj hi
      have h11 : vs 11 = _ := hv 11 (by decide)
      have h13 : vs 13 = _ := hv 13 (by decide)
      have h16 : vs 16 = _ := hv 16 (by decide)
      simp only [relF, List.getD_cons_zero, List.getD_cons_succ, List.foldl_cons, List.foldl_nil, dstAt, List.getElem?_cons_zero, List.getElem?_cons_succ, Option.bind_some]
      go_frame
      rw [h11, h13, h16]
      go_wp2_with fail
      exact ⟨rfl, Below.refl _ _, rfl, by first | rfl | (show slotOf _ _ = _; simp [slotOf]; done) | (show slotOf _ _ = _; simp [slotOf]; omega)⟩
    | 18, _, hi =>
      obtain rfl := Option.some.inj hi
      have h11 : vs 11 = _ := hv 11 (by decide)
      have h17 : vs 17 = _ := hv 17 (by decide)
      simp only [relF, List.getD_cons_zero, List.getD_cons_succ, List.foldl_cons, List.foldl_nil, dstAt, List.getElem?_cons_zero, List.getElem?_cons_succ, Option.bind_some]
      go_frame
      rw [h11, h17]
      go_wp2_with fail
      exact ⟨rfl, Below.refl _ _, rfl, rfl⟩
    | nx + 19, him, _ => exact absurd him (by omega)
  · intro w2 b2 vs hv
    have hL2 := HL0.out.below b2
    have h18 : vs 18 = _ := hv 18 (by decide)
    simp only [relF, List.drop_succ_cons, List.drop_zero, List.length_cons, List.length_nil, Nat.zero_add, Nat.reduceAdd, List.range, List.range.loop, List.foldl_cons, List.foldl_nil, dstAt, List.getElem?_cons_zero, List.getElem?_cons_succ, Option.bind_some]
    go_frame
    rw [h18]
    go_wp2_with fail
    go_ret2
    exact ⟨rfl, b0.trans (b2.mono b0.size)⟩

set_option maxRecDepth 100000 in
set_option maxHeartbeats 4000000 in
theorem clashRows_any (w : World) (n i : Nat) (hin : i < n) (hn30 : n ≤ 1073741824) (l : List UInt8) (hl : l.length ≤ 100000) (o : Option Addr) (m cap : Nat) (P : List (List UInt8)) (hP : HashesAt w o m cap P) (hsp : (Tree.sides n i).length = P.length) (hL : Laid w) :
    Calls Tryd.prog 10 #[.int .i64 (n : Int), .int .i64 (i : Int), .string (strOf l), .slice o m cap] w fun e w' => ∃ q c k, e = .returned (.tuple #[.slice q k c, .int .i64 0]) ∧ StrsAt w' q k c (Tree.rowsAll n (Tree.rowsS (Tree.sides n i) l P)) ∧ Below w.heap.size w w' := by
  have hx : decide ((1073741824 : Int) < (n : Int)) = false := decide_eq_false (by omega)
  have hy : decide ((i : Int) < 0) = false := decide_eq_false (by omega)
  have hz : decide ((n : Int) ≤ (i : Int)) = false := decide_eq_false (by omega)
  have hz' : decide (n ≤ i) = false := decide_eq_false (by omega)
  have hs30 := Tree.sides_len 30 n i hin hn30
  have hst := strOf_size l
  have hnm : (m = (Tree.sides n i).length) ↔ True := ⟨fun _ => trivial, fun _ => by have := hP.1.1; omega⟩
  have HSP := Lib.hid hsp; clear hsp
  obtain ⟨W0, hW0⟩ : ∃ W0, W0 = w.alloc (.cells #[.slice o m cap] 22) := ⟨_, rfl⟩
  have xp : W0.heap[w.heap.size]? = some (.cells #[.slice o m cap] 22 (0, 0)) := by rw [hW0]; exact heap_alloc_new w _
  have b0 : Below w.heap.size w W0 := by rw [hW0]; exact (Below.refl _ _).alloc (Nat.le_refl _) _
  have hPm : P.length = m := hP.1.1
  have hcap : m ≤ cap := hP.1.2.1
  have hmax : cap ≤ 9223372036854775807 := hP.1.2.2.1
  have XP := Lib.hid xp; clear xp
  have HP := Lib.hid (hP.below (Nat.le_refl _) b0); clear hP
  have HL0 := Lib.hid (hL.below b0); clear hL
  have HW0 := Lib.hid hW0; clear hW0
  go_enter Tryd.func10, Tryd.ntmps10
  go_wp2_with fail
  rw [← HW0.out]
  refine wp_region_rel [[], [0], [1], [2], [2, 3], [2, 4], [5], [6], [6], [6, 7, 8], [6, 9], [10], [11], [11, 12], [11], [11], [11, 14, 15], [11, 13, 16], [11, 17]] (crG w.heap.size n i m cap o P) 83 (by kernel_rfl) (by kernel_rfl) (by kernel_rfl) (crG_mono w.heap.size n i m cap o P) ?_ ?_
  · intro ix op hi w1 b2 vs hv
    have him : ix < 19 := (List.getElem?_eq_some_iff.1 hi).1
    have hL2 := HL0.out.below b2
    match ix, him, hi with
    | 0, _, hi =>
      obtain rfl := Option.some.inj hi
      simp only [relF, List.getD_cons_zero, List.getD_cons_succ, List.foldl_cons, List.foldl_nil, dstAt, List.getElem?_cons_zero, List.getElem?_cons_succ, Option.bind_some]
      go_wp2_with fail
      exact ⟨rfl, Below.refl _ _, rfl, rfl⟩
    | 1, _, hi =>
      obtain rfl := Option.some.inj hi
      have h0 : vs 0 = _ := hv 0 (by decide)
      simp only [relF, List.getD_cons_zero, List.getD_cons_succ, List.foldl_cons, List.foldl_nil, dstAt, List.getElem?_cons_zero, List.getElem?_cons_succ, Option.bind_some]
      go_frame
      rw [h0]
      go_wp2_with fail
      exact ⟨rfl, Below.refl _ _, rfl, by first | rfl | (show slotOf _ _ = _; simp [slotOf]; done) | (show slotOf _ _ = _; simp [slotOf]; have hspo := HSP.out; omega)⟩
    | 2, _, hi =>
      obtain rfl := Option.some.inj hi
      have h1 : vs 1 = _ := hv 1 (by decide)
      simp only [relF, List.getD_cons_zero, List.getD_cons_succ, List.foldl_cons, List.foldl_nil, dstAt, List.getElem?_cons_zero, List.getElem?_cons_succ, Option.bind_some]
      go_frame
      rw [h1]
      go_wp2_with fail
      exact ⟨rfl, Below.refl _ _, rfl, rfl⟩
    | 3, _, hi =>
      obtain rfl := Option.some.inj hi
      have h2 : vs 2 = _ := hv 2 (by decide)
      simp only [relF, List.getD_cons_zero, List.getD_cons_succ, List.foldl_cons, List.foldl_nil, dstAt, List.getElem?_cons_zero, List.getElem?_cons_succ, Option.bind_some]
      go_frame
      rw [h2]
      go_wp2_with fail
      exact ⟨rfl, Below.refl _ _, rfl, rfl⟩
    | 4, _, hi =>
      obtain rfl := Option.some.inj hi
      have h2 : vs 2 = _ := hv 2 (by decide)
      have h3 : vs 3 = _ := hv 3 (by decide)
      simp only [relF, List.getD_cons_zero, List.getD_cons_succ, List.foldl_cons, List.foldl_nil, dstAt, List.getElem?_cons_zero, List.getElem?_cons_succ, Option.bind_some]
      go_frame
      rw [h2, h3]
      go_wp2_with fail
      exact ⟨rfl, Below.refl _ _, rfl, by first | rfl | (show slotOf _ _ = _; simp [slotOf]; done) | (show slotOf _ _ = _; simp [slotOf]; have hspo := HSP.out; omega)⟩
    | 5, _, hi =>
      obtain rfl := Option.some.inj hi
      have h2 : vs 2 = _ := hv 2 (by decide)
      have h4 : vs 4 = _ := hv 4 (by decide)
      simp only [relF, List.getD_cons_zero, List.getD_cons_succ, List.foldl_cons, List.foldl_nil, dstAt, List.getElem?_cons_zero, List.getElem?_cons_succ, Option.bind_some]
      go_frame
      rw [h2, h4]
      go_wp2_with fail
      exact ⟨rfl, Below.refl _ _, rfl, rfl⟩
    | 6, _, hi =>
      obtain rfl := Option.some.inj hi
      have h5 : vs 5 = _ := hv 5 (by decide)
      simp only [relF, List.getD_cons_zero, List.getD_cons_succ, List.foldl_cons, List.foldl_nil, dstAt, List.getElem?_cons_zero, List.getElem?_cons_succ, Option.bind_some]
      go_frame
      rw [h5]
      go_wp2_with fail
      exact ⟨rfl, Below.refl _ _, rfl, rfl⟩
    | 7, _, hi =>
      obtain rfl := Option.some.inj hi
      have h6 : vs 6 = _ := hv 6 (by decide)
      simp only [relF, List.getD_cons_zero, List.getD_cons_succ, List.foldl_cons, List.foldl_nil, dstAt, List.getElem?_cons_zero, List.getElem?_cons_succ, Option.bind_some]
      go_frame
      rw [h6]
      go_wp2_with fail
      exact ⟨rfl, Below.refl _ _, rfl, rfl⟩
    | 8, _, hi =>
      obtain rfl := Option.some.inj hi
      have h6 : vs 6 = _ := hv 6 (by decide)
      simp only [relF, List.getD_cons_zero, List.getD_cons_succ, List.foldl_cons, List.foldl_nil, dstAt, List.getElem?_cons_zero, List.getElem?_cons_succ, Option.bind_some]
      go_frame
      rw [h6]
      go_wp2_with fail
      exact ⟨rfl, Below.refl _ _, rfl, rfl⟩
    | 9, _, hi =>
      obtain rfl := Option.some.inj hi
      have h6 : vs 6 = _ := hv 6 (by decide)
      have h7 : vs 7 = _ := hv 7 (by decide)
      have h8 : vs 8 = _ := hv 8 (by decide)
      simp only [relF, List.getD_cons_zero, List.getD_cons_succ, List.foldl_cons, List.foldl_nil, dstAt, List.getElem?_cons_zero, List.getElem?_cons_succ, Option.bind_some]
      go_frame
      rw [h6, h7, h8]
      go_wp2_with fail
      exact ⟨rfl, Below.refl _ _, rfl, by first | rfl | (show slotOf _ _ = _; simp [slotOf]; done) | (show slotOf _ _ = _; simp [slotOf]; have hspo := HSP.out; omega)⟩
    | 10, _, hi =>
      obtain rfl := Option.some.inj hi
      have h6 : vs 6 = _ := hv 6 (by decide)
      have h9 : vs 9 = _ := hv 9 (by decide)
      simp only [relF, List.getD_cons_zero, List.getD_cons_succ, List.foldl_cons, List.foldl_nil, dstAt, List.getElem?_cons_zero, List.getElem?_cons_succ, Option.bind_some]
      go_frame
      rw [h6, h9]
      go_wp2_with fail
      exact ⟨rfl, Below.refl _ _, rfl, rfl⟩
    | 11, _, hi =>
      obtain rfl := Option.some.inj hi
      have h10 : vs 10 = _ := hv 10 (by decide)
      simp only [relF, List.getD_cons_zero, List.getD_cons_succ, List.foldl_cons, List.foldl_nil, dstAt, List.getElem?_cons_zero, List.getElem?_cons_succ, Option.bind_some]
      go_frame
      rw [h10]
      go_wp2_with fail
      exact ⟨rfl, Below.refl _ _, rfl, rfl⟩
    | 12, _, hi =>
      obtain rfl := Option.some.inj hi
      have h11 : vs 11 = _ := hv 11 (by decide)
      have hcv := cell_of_one ((b2.block _ (lt_of_block XP.out)).trans XP.out)
      simp only [relF, List.getD_cons_zero, List.getD_cons_succ, List.foldl_cons, List.foldl_nil, dstAt, List.getElem?_cons_zero, List.getElem?_cons_succ, Option.bind_some]
      go_frame
      rw [h11]
      go_wp2_with fail
      exact ⟨rfl, Below.refl _ _, rfl, rfl⟩
    | 13, _, hi =>
      obtain rfl := Option.some.inj hi
      have h11 : vs 11 = _ := hv 11 (by decide)
      have h12 : vs 12 = _ := hv 12 (by decide)
      simp only [relF, List.getD_cons_zero, List.getD_cons_succ, List.foldl_cons, List.foldl_nil, dstAt, List.getElem?_cons_zero, List.getElem?_cons_succ, Option.bind_some]
      go_frame
      rw [h11, h12]
      go_wp2_with fail
      exact ⟨rfl, Below.refl _ _, rfl, rfl⟩
    | 14, _, hi =>
      obtain rfl := Option.some.inj hi
      have h11 : vs 11 = _ := hv 11 (by decide)
      simp only [relF, List.getD_cons_zero, List.getD_cons_succ, List.foldl_cons, List.foldl_nil, dstAt, List.getElem?_cons_zero, List.getElem?_cons_succ, Option.bind_some]
      go_frame
      rw [h11]
      go_wp2_with fail
      exact ⟨rfl, Below.refl _ _, rfl, rfl⟩
    | 15, _, hi =>
      obtain rfl := Option.some.inj hi
      have h11 : vs 11 = _ := hv 11 (by decide)
      simp only [relF, List.getD_cons_zero, List.getD_cons_succ, List.foldl_cons, List.foldl_nil, dstAt, List.getElem?_cons_zero, List.getElem?_cons_succ, Option.bind_some]
      go_frame
      rw [h11]
      go_wp2_with fail
      exact ⟨rfl, Below.refl _ _, rfl, rfl⟩
    | 16, _, hi =>
      obtain rfl := Option.some.inj hi
      have h11 : vs 11 = _ := hv 11 (by decide)
      have h14 : vs 14 = _ := hv 14 (by decide)
      have h15 : vs 15 = _ := hv 15 (by decide)
      simp only [relF, List.getD_cons_zero, List.getD_cons_succ, List.foldl_cons, List.foldl_nil, dstAt, List.getElem?_cons_zero, List.getElem?_cons_succ, Option.bind_some]
      go_frame
      rw [h11, h14, h15]
      go_wp2_with fail
      refine (treeDeep_any w1 n i (by omega) (by omega)).mono ?_
      rintro e w3 ⟨rfl, b3⟩
      go_wp2_with fail
      exact ⟨rfl, b3, rfl, rfl⟩
    | 17, _, hi =>
      obtain rfl := Option.some.inj hi
      have h11 : vs 11 = _ := hv 11 (by decide)
      have h13 : vs 13 = _ := hv 13 (by decide)
      have h16 : vs 16 = _ := hv 16 (by decide)
      simp only [relF, List.getD_cons_zero, List.getD_cons_succ, List.foldl_cons, List.foldl_nil, dstAt, List.getElem?_cons_zero, List.getElem?_cons_succ, Option.bind_some]
      go_frame
      rw [h11, h13, h16]
      go_wp2_with fail
      exact ⟨rfl, Below.refl _ _, rfl, by first | rfl | (show slotOf _ _ = _; simp [slotOf]; done) | (show slotOf _ _ = _; simp [slotOf]; have hspo := HSP.out; omega)⟩
    | 18, _, hi =>
      obtain rfl := Option.some.inj hi
      have h11 : vs 11 = _ := hv 11 (by decide)
      have h17 : vs 17 = _ := hv 17 (by decide)
      simp only [relF, List.getD_cons_zero, List.getD_cons_succ, List.foldl_cons, List.foldl_nil, dstAt, List.getElem?_cons_zero, List.getElem?_cons_succ, Option.bind_some]
      go_frame
      rw [h11, h17]
      go_wp2_with fail
      exact ⟨rfl, Below.refl _ _, rfl, rfl⟩
    | nx + 19, him, _ => exact absurd him (by omega)
  · intro w1 b2 vs hv
    have hL2 := HL0.out.below b2
    have h18 : vs 18 = _ := hv 18 (by decide)
    simp only [relF, List.drop_succ_cons, List.drop_zero, List.length_cons, List.length_nil, Nat.zero_add, Nat.reduceAdd, List.range, List.range.loop, List.foldl_cons, List.foldl_nil, dstAt, List.getElem?_cons_zero, List.getElem?_cons_succ, Option.bind_some]
    go_frame
    rw [h18]
    have B1 := b0.trans (b2.mono b0.size)
    have XP1 := Lib.hid ((b2.block _ (lt_of_block XP.out)).trans XP.out)
    have HP1 := Lib.hid (HP.out.below (Nat.le_refl _) b2)
    have HL1 := Lib.hid hL2; clear hL2
    clear hv XP HP HL0
    clear b2
    have hsp := HSP.out
    have hrr : P.take (P.length - 0) = P := by rw [Nat.sub_zero, List.take_of_length_le (Nat.le_refl _)]
    obtain ⟨W3, hW3⟩ : ∃ W3, W3 = ((w1.alloc (.cells #[.string (strOf (0 :: l))] 9)).alloc (.cells #[.slice (some ⟨w1.heap.size, 0, none⟩) 1 1] 24)).alloc (.cells #[.func (.func 20) #[] #[.pointer (some ⟨w1.heap.size + 2, 0, none⟩), .pointer (some ⟨w1.heap.size + 1, 0, none⟩), .pointer (some ⟨w.heap.size, 0, none⟩)]] 44) := ⟨_, rfl⟩
    have B3 : Below w1.heap.size w1 W3 := by rw [hW3]; exact (((Below.refl _ _).alloc (Nat.le_refl _) _).alloc (by simp) _).alloc (by simp; omega) _
    have hI3 : LayInv W3 w1.heap.size w.heap.size [0 :: l] := by
      have z0 : W3.heap[w1.heap.size]? = some (.cells #[.string (strOf (0 :: l))] 9 (0, 0)) := by
        rw [hW3, Below.heap_alloc _ _ _ (by simp; omega), Below.heap_alloc _ _ _ (by simp)]; exact heap_alloc_new w1 _
      have z1 : W3.heap[w1.heap.size + 1]? = some (.cells #[.slice (some ⟨w1.heap.size, 0, none⟩) 1 1] 24 (0, 0)) := by
        rw [hW3, Below.heap_alloc _ _ _ (by simp)]
        have := heap_alloc_new (w1.alloc (.cells #[.string (strOf (0 :: l))] 9)) (.cells #[.slice (some ⟨w1.heap.size, 0, none⟩) 1 1] 24)
        simpa using this
      have z2 : W3.heap[w1.heap.size + 2]? = some (.cells #[.func (.func 20) #[] #[.pointer (some ⟨w1.heap.size + 2, 0, none⟩), .pointer (some ⟨w1.heap.size + 1, 0, none⟩), .pointer (some ⟨w.heap.size, 0, none⟩)]] 44 (0, 0)) := by
        rw [hW3]
        have := heap_alloc_new ((w1.alloc (.cells #[.string (strOf (0 :: l))] 9)).alloc (.cells #[.slice (some ⟨w1.heap.size, 0, none⟩) 1 1] 24)) (.cells #[.func (.func 20) #[] #[.pointer (some ⟨w1.heap.size + 2, 0, none⟩), .pointer (some ⟨w1.heap.size + 1, 0, none⟩), .pointer (some ⟨w.heap.size, 0, none⟩)]] 44)
        simpa using this
      exact ⟨⟨_, z1, ⟨rfl, .inr ⟨w1.heap.size, 1, _, rfl, Nat.le_refl _, z0, Nat.le_refl _, by decide, rfl, rfl⟩⟩⟩, z2⟩
    have hc := layRec_any w1 HL1.out w.heap.size o m cap P HP1.out XP1.out (by omega) l hl n W3 n i 0 rfl hin hn30 B3 hI3 (by omega)
    rw [hrr] at hc
    obtain ⟨R, hR⟩ : ∃ R, R = Tree.rowsS (Tree.sides n i) l P := ⟨_, rfl⟩
    have hRl : R.length = (Tree.sides n i).length + 1 := by rw [hR, Tree.rowsS_len]
    have hRb : ∀ r ∈ R, r.length ≤ 100001 := by rw [hR]; exact Tree.rows_bound _ l P hsp HP1.out.2 hl
    rw [← hR] at hc
    have HC := Lib.hid hc; clear hc hrr hI3
    have HREQ := Lib.hid hR; clear hR hsp
    have HW3 := Lib.hid hW3; clear hW3
    have hmf : ∀ (fn : Fn) (first cap : Array Value) (w : World), (Instr.makeFunc fn first cap).run Tryd.prog w = .ok (.func fn first cap) w := fun _ _ _ _ => rfl
    have hadd : (⟨#[0]⟩ : ByteArray) ++ strOf l = strOf (0 :: l) := add_str [0] l
    have hs0 : (⟨#[0]⟩ : ByteArray).size = 1 := rfl
    obtain ⟨k, hk⟩ : ∃ k, k = (Tree.sides n i).length + 1 := ⟨_, rfl⟩
    have hk1 : 1 ≤ k := by omega
    have hk31 : k ≤ 31 := by omega
    rw [← hk] at hRl
    have HKE := Lib.hid hk; clear hk
    go_wp2_with fail
    
    rw [← HW3.out]
    refine HC.out.mono ?_
    rintro e w4 ⟨rfl, hI4, Br40⟩
    obtain ⟨⟨v, x1, x2⟩, x3⟩ := hI4
    rw [List.length_reverse, hRl] at x2
    obtain ⟨q, c, rfl⟩ := ownsRow_slice x2
    have VW := Lib.hid x1; clear x1
    have OW := Lib.hid x2; clear x2
    have FW := Lib.hid x3; clear x3
    have hnew := newOut_any w4
    obtain ⟨W5, hW5⟩ : ∃ W5, W5 = w4.alloc (.cells #[.slice none 0 0] 72 (0, 0)) := ⟨_, rfl⟩
    have o5 : OutIs W5 w4.heap.size w4.heap.size [] := by rw [hW5]; exact OutIs.fresh w4 _
    have e5 : Below w4.heap.size w4 W5 := by rw [hW5]; exact (Below.refl _ _).alloc (Nat.le_refl _) _
    have hn3 := outNum_any 3 (by decide) w4.heap.size w4.heap.size [] W5 o5 e5.size (by simp)
    have hn3' : Calls Tryd.prog 23 #[.pointer (some ⟨w4.heap.size, 0, none⟩), .int .u64 3] W5 fun e w' => e = .returned (.tuple #[]) ∧ OutIs w' w4.heap.size w4.heap.size ([] ++ Wire.num 3) ∧ BelowBut w4.heap.size w4.heap.size W5 w' := hn3
    have HNW := Lib.hid hnew; clear hnew
    have HN3 := Lib.hid hn3'; clear hn3' hn3 o5
    have HW5 := Lib.hid hW5; clear hW5
    go_wp2_with fail
    refine HNW.out.mono ?_
    rintro e w' ⟨rfl, rfl⟩
    rw [← HW5.out]
    go_wp2_with fail
    refine HN3.out.mono ?_
    rintro e w6 ⟨rfl, o6, b6⟩
    rw [List.nil_append, Tree.num_3] at o6
    have e6 := e5.trans (b6.below (Nat.le_refl _))
    have hu : IntKind.u64.wrap (n : Int) = (n : Int) := by rw [IntKind.wrap_u64]; omega
    have hnl := Wire.num_length n (by omega)
    have hnn := outNum_any n (by omega) w4.heap.size w4.heap.size [3] w6 o6 e6.size (by simp)
    have HNN := Lib.hid hnn; clear hnn o6 b6 HN3 HNW HW5
    go_wp2_with fail
    refine HNN.out.mono ?_
    rintro e w8 ⟨rfl, o8, b8⟩
    have e8 := e6.trans (b8.below (Nat.le_refl _))
    have O8 := Lib.hid o8; clear o8 b8 e6 HNN
    obtain ⟨r0, hr0⟩ : ∃ r0, R[0]? = some r0 := ⟨_, List.getElem?_eq_getElem (by omega)⟩
    have hr0h : R.headD [] = r0 := by rw [List.headD_eq_head?_getD, List.head?_eq_getElem?, hr0]; rfl
    have hr0b := hRb r0 (List.mem_of_getElem? hr0)
    have hx2 := owns_below OW.out e8
    have hsr := StrsAt.of_owns (d := R.reverse) (by rw [List.length_reverse, hRl]) hx2
    obtain ⟨bq0, oq0, rfl⟩ := hsr.form (by omega)
    have hcapq := hsr.cap
    have hmaxq := hsr.max
    have hcell := hsr.get (rev_last (k := k - 1) (by rw [hRl]; omega) hr0)
    have hcu := cell_of_one ((e8.block _ (lt_of_block VW.out)).trans VW.out)
    have hti : ((k : Int) - 1).toNat = k - 1 := by omega
    have hLw8 : Laid w8 := (HL1.out.below Br40).below (e8.mono (Nat.le_refl _))
    obtain ⟨c1, W9, hcv1, d9, hof⟩ := of_one w8 r0 (by omega) hLw8
    have HOF := Lib.hid hof; clear hof
    have hsz0 := strOf_size r0
    go_wp2_with fail
    refine HOF.out.mono ?_
    rintro e w10 ⟨rfl, b10⟩
    have hsl := Sha.of_len r0
    have o10 := O8.out.kept (w' := w10) fun k' hk' => b10.block k' hk'
    have hh := outHash_any (Sha.of r0) hsl w4.heap.size w4.heap.size _ w10 o10 (Nat.le_trans e8.size b10.size) (by simp; omega)
    have HH := Lib.hid hh; clear hh o10 hcell hcu hcv1 d9 HOF hsr hx2
    go_wp2_with fail
    refine HH.out.mono ?_
    rintro e w11 ⟨rfl, o11, b11⟩
    have e11 : Below w4.heap.size w4 w11 := (e8.trans (b10.mono e8.size)).trans (b11.below (Nat.le_refl _))
    obtain ⟨T, hT⟩ : ∃ T, T = [3] ++ Wire.num n ++ Sha.of r0 := ⟨_, rfl⟩
    rw [← hT] at o11
    have hla : R.reverse ++ [T] = (Tree.rowsAll n R).reverse := by
      unfold Tree.rowsAll
      rw [List.reverse_cons, hr0h, hT]
      simp
    have HLA := Lib.hid hla; clear hla hT hr0h hr0
    have HO := Lib.hid o11; clear o11
    replace VW := Lib.hid ((e11.block _ (lt_of_block VW.out)).trans VW.out)
    replace FW := Lib.hid ((e11.block _ (lt_of_block FW.out)).trans FW.out)
    replace OW := Lib.hid (owns_below OW.out e11)
    have Br4 := Br40.trans (e11.mono Br40.size)
    have HDL : Hid (R.reverse.length = k) := Lib.hid (by rw [List.length_reverse, hRl])
    clear e8 b10 b11 O8 HH
    obtain ⟨i0, hi0, hz0, hz1, hz2⟩ := info_parts Tryd.info_string
    have HI0 := Lib.hid hi0; clear hi0
    have HZ0 := Lib.hid hz0; clear hz0
    have HZ1 := Lib.hid hz1; clear hz1
    have HZ2 := Lib.hid hz2; clear hz2
    go_wp2_with fail
    refine wp_region_rel_tail [[], [], [1], [2], [0, 3], [4]] (crL w1.heap.size k c w4.heap.size (some ⟨bq0, oq0, none⟩) T) 83 4 (by kernel_rfl) (by kernel_rfl) (by kernel_rfl) (by kernel_rfl) (of_decide_eq_true (by kernel_rfl)) (crL_mono w1.heap.size k c w4.heap.size (some ⟨bq0, oq0, none⟩) T) ?_ ?_
    · intro ix op him hi w2 b2 vs hv
      have hb0 := b2
      match ix, him, hi with
      | 0, _, hi =>
        obtain rfl := Option.some.inj hi
        have hcv := cell_of_one ((b2.block _ (lt_of_block VW.out)).trans VW.out)
        simp only [relF, List.getD_cons_zero, List.getD_cons_succ, List.foldl_cons, List.foldl_nil, dstAt, List.getElem?_cons_zero, List.getElem?_cons_succ, Option.bind_some]
        go_wp2_with fail
        exact ⟨rfl, Below.refl _ _, rfl, rfl⟩
      | 1, _, hi =>
        obtain rfl := Option.some.inj hi
        simp only [relF, List.getD_cons_zero, List.getD_cons_succ, List.foldl_cons, List.foldl_nil, dstAt, List.getElem?_cons_zero, List.getElem?_cons_succ, Option.bind_some]
        go_wp2_with fail
        exact ⟨rfl, Below.refl _ _, rfl, rfl⟩
      | 2, _, hi =>
        obtain rfl := Option.some.inj hi
        have h1 : vs 1 = _ := hv 1 (by decide)
        have ho2 := HO.out.kept (w' := w2) fun k hk => b2.block k hk
        have hdn := outDone_any _ _ _ _ ho2
        replace hdn : Calls Tryd.prog 25 #[.pointer (some ⟨w4.heap.size, 0, none⟩)] w2 fun e w' => w2 = w' ∧ e = .returned (.string (strOf T)) := hdn
        simp only [relF, List.getD_cons_zero, List.getD_cons_succ, List.foldl_cons, List.foldl_nil, dstAt, List.getElem?_cons_zero, List.getElem?_cons_succ, Option.bind_some]
        go_frame
        rw [h1]
        go_wp2_with fail
        refine (hdn).mono ?_
        rintro e w3 ⟨rfl, rfl⟩
        go_wp2_with fail
        exact ⟨rfl, Below.refl _ _, rfl, rfl⟩
      | 3, _, hi =>
        obtain rfl := Option.some.inj hi
        have h2 : vs 2 = _ := hv 2 (by decide)
        simp only [relF, List.getD_cons_zero, List.getD_cons_succ, List.foldl_cons, List.foldl_nil, dstAt, List.getElem?_cons_zero, List.getElem?_cons_succ, Option.bind_some]
        go_frame
        rw [h2]
        go_wp2_with fail
        exact ⟨rfl, (Below.refl _ _).alloc (Nat.le_refl _) _, rfl, w2.heap.size, rfl, heap_alloc_new _ _⟩
      | nx + 4, him, _ => exact absurd him (by omega)
    · intro w2 b2 vs hv
      have hb0 := b2
      have h0 : vs 0 = _ := hv 0 (by decide)
      have h1 : vs 1 = _ := hv 1 (by decide)
      have h2 : vs 2 = _ := hv 2 (by decide)
      simp only [relF, List.drop_succ_cons, List.drop_zero, List.length_cons, List.length_nil, Nat.zero_add, Nat.reduceAdd, List.range, List.range.loop, List.foldl_cons, List.foldl_nil, dstAt, List.getElem?_cons_zero, List.getElem?_cons_succ, Option.bind_some]
      go_frame
      rw [h0, h1, h2]
      obtain ⟨g, hg1, hg2⟩ := hv 3 (by decide)
      rw [hg1]
      have ho2 := owns_below OW.out b2
      have hv2 := (b2.block _ (lt_of_block VW.out)).trans VW.out
      have hf2 := (b2.block _ (lt_of_block FW.out)).trans FW.out
      have HO2 := Lib.hid ho2; clear ho2
      have HG2 := Lib.hid hg2; clear hg2
      have hB2 : w1.heap.size ≤ w2.heap.size := by have := lt_of_block hf2; omega
      go_wp2_with (at_builtin; refine wpList_append_own _ rfl _ _ 24 rfl w1.heap.size 9 i0 (.string ⟨#[]⟩) 1 16 Tryd.under_strs HI0.out HZ0.out HZ1.out HZ2.out rfl (by decide) _ _ _ rfl HO2.out ⟨g, 0, none⟩ 1 1 [.string (strOf T)] rfl rfl (cells_row_at HG2.out) (one_str _) (by unfold maxLen; omega) (by omega) hB2 ?_)
      intro v' w5 hown' hgrow _
      obtain ⟨⟨hc5, hf5⟩, hI5, B5⟩ := lay_store (pb := w.heap.size) (h := T) HDL.out hv2 HO2.out hf2 hgrow hown'
      obtain ⟨p', c', rfl⟩ := ownsRow_slice hown'
      have B7 : Below w.heap.size w (w5.setCell ⟨w1.heap.size + 1, 0, none⟩ (.slice p' (k + 1) c')) := B1.trans (((Br4.trans (b2.mono Br4.size)).trans B5).mono B1.size)
      clear hown' hgrow B5 hv2 hf2
      obtain ⟨w7, hw7⟩ : ∃ w7, w7 = w5.setCell ⟨w1.heap.size + 1, 0, none⟩ (.slice p' (k + 1) c') := ⟨_, rfl⟩
      rw [HLA.out, ← hw7] at hI5
      rw [← hw7] at B7
      obtain ⟨⟨v7, y1, y2⟩, y3⟩ := hI5
      have hlen7 : (Tree.rowsAll n R).reverse.length = k + 1 := by rw [← HLA.out, List.length_append, HDL.out]; rfl
      rw [hlen7] at y2
      obtain ⟨q7, c7, rfl⟩ := ownsRow_slice y2
      have hs7 := StrsAt.of_owns (d := (Tree.rowsAll n R).reverse) hlen7 y2
      have hv7 : Value.slice p' (k + 1) c' = .slice q7 (k + 1) c7 := by
        have h1 := cell_of_one y1
        rw [hw7] at h1
        have h2 : (w5.setCell ⟨w1.heap.size + 1, 0, none⟩ (.slice p' (k + 1) c')).cell? ⟨w1.heap.size + 1, 0, none⟩ = some (.slice p' (k + 1) c') := World.cell?_setCell_same w5 _ _ hc5
        exact Option.some.inj (h2.symm.trans h1)
      simp only [Value.slice.injEq, true_and] at hv7
      obtain ⟨rfl, rfl⟩ := hv7
      have hcap7 := hs7.cap
      have hmax7 := hs7.max
      obtain ⟨bq, oq, rfl⟩ := hs7.form (by omega)
      have HS7 := Lib.hid hs7; clear hs7 y2 y3
      have Y1 := Lib.hid y1; clear y1
      go_wp2_with fail
      rw [← hw7]
      have HW7 := Lib.hid hw7; clear hw7 hc5 hf5
      go_loopw [13, 67] (fun vo vi wr => ∃ j : Nat, ∃ q c, j ≤ k + 1 ∧ vo = .slice q j c ∧ vi = .int .i64 (j : Int) ∧ Hid (wr.ownsRow w7.heap.size 9 1 (.slice q j c) j (strCells ((Tree.rowsAll n R).take j))) ∧ Below w7.heap.size w7 wr) (fun _ vi _ => k + 1 - (intOf vi).toNat)
      case atStart => exact ⟨0, none, 0, by omega, rfl, rfl, Lib.hid (World.ownsRow_nil _ _ _ _), Below.refl _ _⟩
      case round =>
        obtain ⟨j, qo, co, hj, rfl, rfl, hx, Br⟩ := hrel
        by_cases hlt : j < k + 1
        · have tj : decide ((j : Int) < (k : Int) + 1) = true := decide_eq_true (by omega)
          have tj' : decide ((j : Int) < ((k + 1 : Nat) : Int)) = true := decide_eq_true (by omega)
          have tj2 : decide (j < k + 1) = true := decide_eq_true hlt
          obtain ⟨r, hr⟩ : ∃ r, (Tree.rowsAll n R)[j]? = some r := ⟨_, List.getElem?_eq_getElem (by rw [List.length_reverse] at hlen7; omega)⟩
          have hrr : (Tree.rowsAll n R).reverse[k - j]? = some r := by
            rw [List.length_reverse] at hlen7
            rw [List.getElem?_reverse (by omega), hlen7, show k + 1 - 1 - (k - j) = j by omega]; exact hr
          have hcell := (HS7.out.below (Nat.le_refl _) Br).get hrr
          have hcu := cell_of_one ((Br.block _ (lt_of_block Y1.out)).trans Y1.out)
          have hti : ((k : Int) + 1 - 1 - (j : Int)).toNat = k - j := by omega
          have hti' : ((k : Int) - (j : Int)).toNat = k - j := by omega
          have htk : strCells ((Tree.rowsAll n R).take (j + 1)) = strCells ((Tree.rowsAll n R).take j) ++ [.string (strOf r)] := by rw [List.take_add_one, hr, strCells_app]; rfl
          have HTK := Lib.hid htk; clear htk hr hrr
          go_wp2_with (at_builtin; refine wpList_append_own _ rfl _ _ 24 rfl w7.heap.size 9 i0 (.string ⟨#[]⟩) 1 16 Tryd.under_strs HI0.out HZ0.out HZ1.out HZ2.out rfl (by decide) _ _ _ rfl (hx.out.alloc _) ⟨wr.heap.size, 0, none⟩ 1 1 [.string (strOf r)] rfl rfl (cell_one_new _ _ _) (one_str _) (by unfold maxLen; omega) (by omega) (by have := Br.size; simp; omega) ?_)
          intro v' w8 hown8 hgrow8 _
          rw [← HTK.out] at hown8
          have B8 : Below w7.heap.size w7 w8 := (Br.alloc Br.size _).trans (grown_below hgrow8 (fun g' hg' => (hx.out.lt g' hg').1) (by have := Br.size; simp; omega))
          obtain ⟨q8, c8, rfl⟩ := ownsRow_slice hown8
          have HX8 := Lib.hid hown8; clear hown8 hgrow8
          go_wp2_with fail
          go_roundw
          case rel => exact ⟨j + 1, q8, c8, by omega, rfl, by go_num, HX8, B8⟩
          case measure => simp [intOf]; omega
        · obtain rfl : j = k + 1 := by omega
          have tj : decide (((k + 1 : Nat) : Int) < ((k + 1 : Nat) : Int)) = false := decide_eq_false (by omega)
          have hfin := hx.out
          rw [List.take_of_length_le (by rw [List.length_reverse] at hlen7; omega)] at hfin
          have hsf := StrsAt.of_owns (d := Tree.rowsAll n R) (by rw [List.length_reverse] at hlen7; exact hlen7) hfin
          have HSF := Lib.hid hsf; clear hsf hfin
          go_wp2_with fail
          go_ret2
          exact ⟨qo, co, k + 1, rfl, by rw [← HREQ.out]; exact HSF.out, B7.trans (Br.mono B7.size)⟩

end Go.Proofs.YteljlnkjdajkgaaDoor
