/- clash.Rows and Find, and the reference's, whatever comes in. -/
import Derived.Test.YteljlnkjdajkgaaDoorClash4
namespace Go.Proofs.YteljlnkjdajkgaaDoor
open Go.RowKit
set_option linter.unusedSimpArgs false
set_option linter.unusedVariables false

/-- The rows of a leaf and a proof, or none. -/
def rowsR (n i : Int) (l : List UInt8) (P : List (List UInt8)) : List (List UInt8) × Bool :=
  if badSide n i then ([], false) else if (Tree.sides n.toNat i.toNat).length = P.length then (Tree.rowsAll n.toNat (Tree.rowsS (Tree.sides n.toNat i.toNat) l P), true) else ([], false)

theorem badSide_nat {n i : Int} (h : badSide n i = false) : ∃ m j : Nat, n = (m : Int) ∧ i = (j : Int) ∧ j < m ∧ m ≤ 1073741824 := by
  unfold badSide at h
  simp only [Bool.or_eq_false_iff, decide_eq_false_iff_not] at h
  exact ⟨n.toNat, i.toNat, by omega, by omega, by omega, by omega⟩

theorem rowsR_bad {n i : Int} {l : List UInt8} {P : List (List UInt8)} (h : badSide n i = true) : rowsR n i l P = ([], false) := by unfold rowsR; rw [if_pos h]
theorem rowsR_short {n i : Nat} {l : List UInt8} {P : List (List UInt8)} (h : badSide n i = false) (hne : ¬ (Tree.sides n i).length = P.length) : rowsR n i l P = ([], false) := by
  unfold rowsR; rw [if_neg (by rw [h]; decide), if_neg (by simpa using hne)]
theorem rowsR_ok {n i : Nat} {l : List UInt8} {P : List (List UInt8)} (h : badSide n i = false) (he : (Tree.sides n i).length = P.length) : rowsR n i l P = (Tree.rowsAll n (Tree.rowsS (Tree.sides n i) l P), true) := by
  unfold rowsR; rw [if_neg (by rw [h]; decide), if_pos (by simpa using he)]; simp

theorem rowsR_facts {n i : Int} {l : List UInt8} {P : List (List UInt8)} (hl : l.length ≤ 100000) (h32 : ∀ p ∈ P, p.length = 32) (h : (rowsR n i l P).2 = true) :
    ∃ m j : Nat, n = (m : Int) ∧ i = (j : Int) ∧ j < m ∧ m ≤ 1073741824 ∧ (Tree.sides m j).length = P.length ∧ (rowsR n i l P).1 = Tree.rowsAll m (Tree.rowsS (Tree.sides m j) l P) ∧ (rowsR n i l P).1.length = P.length + 2 ∧ P.length ≤ 30 ∧ ∀ r ∈ (rowsR n i l P).1, r.length ≤ 100001 := by
  rcases hb : badSide n i with _ | _
  · obtain ⟨m, j, rfl, rfl, h1, h2⟩ := badSide_nat hb
    by_cases he : (Tree.sides m j).length = P.length
    · have hr := rowsR_ok (l := l) hb he
      have h30 := Tree.sides_len 30 m j h1 h2
      have hnl := Wire.num_length m (by omega)
      rw [hr]
      refine ⟨m, j, rfl, rfl, h1, h2, he, rfl, ?_, by omega, fun r hr => ?_⟩
      · show (Tree.rowsAll m _).length = _
        unfold Tree.rowsAll
        rw [List.length_cons, Tree.rowsS_len, he]
      · rcases List.mem_cons.1 hr with rfl | hr
        · have := Sha.of_len ((Tree.rowsS (Tree.sides m j) l P).headD [])
          simp only [List.length_cons, List.length_append]; omega
        · exact Tree.rows_bound _ l P he h32 hl r hr
    · rw [rowsR_short hb he] at h; cases h
  · rw [rowsR_bad hb] at h; cases h

theorem strs_none (w : World) : StrsAt w none 0 0 [] := ⟨rfl, Nat.le_refl _, by decide, fun h => by cases h⟩

theorem clashRows_all (w : World) (n i : Int) (l : List UInt8) (hl : l.length ≤ 100000) (o : Option Addr) (m cap : Nat) (P : List (List UInt8)) (hP : HashesAt w o m cap P) (hL : Laid w) :
    Calls Tryd.prog 10 #[.int .i64 n, .int .i64 i, .string (strOf l), .slice o m cap] w fun e w' => ∃ q c k, e = .returned (.tuple #[.slice q k c, .int .i64 (if (rowsR n i l P).2 then 0 else 30)]) ∧ StrsAt w' q k c (rowsR n i l P).1 ∧ Below w.heap.size w w' := by
  rcases hb : badSide n i with _ | _
  · obtain ⟨n, i, rfl, rfl, h1, h2⟩ := badSide_nat hb
    by_cases he : (Tree.sides n i).length = P.length
    · rw [rowsR_ok hb he]
      exact clashRows_any w n i h1 h2 l hl o m cap P hP he hL
    · rw [rowsR_short hb he]
      exact (clashRows_short w n i h1 h2 l hl o m cap P hP (by rw [← hP.1.1]; exact he) hL).mono fun _ _ ⟨h3, h4⟩ => ⟨none, 0, 0, h3, strs_none _, h4⟩
  · rw [rowsR_bad hb]
    have hb' := hb
    unfold badSide at hb'
    have fin : ∀ (h : Calls Tryd.prog 10 #[.int .i64 n, .int .i64 i, .string (strOf l), .slice o m cap] w fun e w' => e = .returned (.tuple #[.slice none 0 0, .int .i64 30]) ∧ Below w.heap.size w w'), Calls Tryd.prog 10 #[.int .i64 n, .int .i64 i, .string (strOf l), .slice o m cap] w fun e w' => ∃ q c k, e = .returned (.tuple #[.slice q k c, .int .i64 (if (([] : List (List UInt8)), false).2 then 0 else 30)]) ∧ StrsAt w' q k c (([] : List (List UInt8)), false).1 ∧ Below w.heap.size w w' :=
      fun h => h.mono fun _ _ ⟨h3, h4⟩ => ⟨none, 0, 0, h3, strs_none _, h4⟩
    rcases hx : decide ((1073741824 : Int) < n) with _ | _
    · rcases hy : decide (i < 0) with _ | _
      · have hz : decide (n ≤ i) = true := by rw [hx, hy] at hb'; simpa using hb'
        exact fin (clashRows_b3 w n i l hl o m cap P hP hx hy hz hL)
      · exact fin (clashRows_b2 w n i l hl o m cap P hP hx hy hL)
    · exact fin (clashRows_b1 w n i l hl o m cap P hP hx hL)

theorem refRowsAll_all (w : World) (n i : Int) (l : List UInt8) (hl : l.length ≤ 100000) (o : Option Addr) (m cap : Nat) (P : List (List UInt8)) (hP : HashesAt w o m cap P) :
    Calls Tryd.prog 11 #[.int .i64 n, .int .i64 i, .string (strOf l), .slice o m cap] w fun e w' => ∃ q c k, e = .returned (.tuple #[.slice q k c, .bool (rowsR n i l P).2]) ∧ StrsAt w' q k c (rowsR n i l P).1 ∧ Below w.heap.size w w' := by
  rcases hb : badSide n i with _ | _
  · obtain ⟨n, i, rfl, rfl, h1, h2⟩ := badSide_nat hb
    have hmax : m ≤ 9223372036854775807 := Nat.le_trans hP.1.2.1 hP.1.2.2.1
    by_cases he : (Tree.sides n i).length = P.length
    · rw [rowsR_ok hb he]
      exact refRowsAll_any w n i h1 h2 l hl o m cap P hP he
    · rw [rowsR_short hb he]
      exact (refRowsAll_short w n i h1 h2 (strOf l) o m cap hmax (by rw [← hP.1.1]; exact he)).mono fun _ _ ⟨h3, h4⟩ => ⟨none, 0, 0, h4, strs_none _, by rw [← h3]; exact Below.refl _ _⟩
  · rw [rowsR_bad hb]
    exact (refRowsAll_bad w n i hb (strOf l) o m cap).mono fun _ _ ⟨h3, h4⟩ => ⟨none, 0, 0, h4, strs_none _, by rw [← h3]; exact Below.refl _ _⟩

/-- The two that clash on the way of two leaves. -/
def findR (n i : Int) (a : List UInt8) (P : List (List UInt8)) (b : List UInt8) (Q : List (List UInt8)) : List UInt8 × List UInt8 × Bool :=
  if (rowsR n i a P).2 && (rowsR n i b Q).2 then findC (rowsR n i a P).1 (rowsR n i b Q).1 else ([], [], false)

/-- What the region's operations leave. -/
def pfA (bx ox cx by' oy cy k j : Nat) (x y : List UInt8) (ix : Nat) (w : World) (v : Value) : Prop :=
  match ix with
  | 0 => v = .slice (some ⟨bx, ox, none⟩) k cx
  | 1 => v = .int .i64 (j : Int)
  | 2 => v = .pointer (some ⟨bx, ox + j, none⟩)
  | 3 => v = .string (strOf x)
  | 4 => v = .slice (some ⟨by', oy, none⟩) k cy
  | 5 => v = .int .i64 (j : Int)
  | 6 => v = .pointer (some ⟨by', oy + j, none⟩)
  | 7 => v = .string (strOf y)
  | 8 => v = .bool true
  | _ => True

theorem pfA_mono (bx ox cx by' oy cy k j : Nat) (x y : List UInt8) (jx : Nat) (w w' : World) (v : Value) (hb : Below w.heap.size w w') (h : pfA bx ox cx by' oy cy k j x y jx w v) : pfA bx ox cx by' oy cy k j x y jx w' v := by
  match jx, h with
  | 0, h => exact h
  | 1, h => exact h
  | 2, h => exact h
  | 3, h => exact h
  | 4, h => exact h
  | 5, h => exact h
  | 6, h => exact h
  | 7, h => exact h
  | 8, h => exact h
  | _ + 9, h => exact trivial

/-- What the region's operations leave. -/
def pfB (bx ox cx by' oy cy k j : Nat) (x y : List UInt8) (ix : Nat) (w : World) (v : Value) : Prop :=
  match ix with
  | 0 => v = .slice (some ⟨bx, ox, none⟩) k cx
  | 1 => v = .int .i64 (j : Int)
  | 2 => v = .pointer (some ⟨bx, ox + j, none⟩)
  | 3 => v = .string (strOf x)
  | 4 => v = .slice (some ⟨by', oy, none⟩) k cy
  | 5 => v = .int .i64 (j : Int)
  | 6 => v = .pointer (some ⟨by', oy + j, none⟩)
  | 7 => v = .string (strOf y)
  | 8 => v = .bool false
  | _ => True

theorem pfB_mono (bx ox cx by' oy cy k j : Nat) (x y : List UInt8) (jx : Nat) (w w' : World) (v : Value) (hb : Below w.heap.size w w') (h : pfB bx ox cx by' oy cy k j x y jx w v) : pfB bx ox cx by' oy cy k j x y jx w' v := by
  match jx, h with
  | 0, h => exact h
  | 1, h => exact h
  | 2, h => exact h
  | 3, h => exact h
  | 4, h => exact h
  | 5, h => exact h
  | 6, h => exact h
  | 7, h => exact h
  | 8, h => exact h
  | _ + 9, h => exact trivial

/-- What the region's operations leave. -/
def pfC (bx ox cx by' oy cy k j : Nat) (x y : List UInt8) (ix : Nat) (w : World) (v : Value) : Prop :=
  match ix with
  | 0 => v = .slice (some ⟨bx, ox, none⟩) k cx
  | 1 => v = .int .i64 (j : Int)
  | 2 => v = .pointer (some ⟨bx, ox + j, none⟩)
  | 3 => v = .string (strOf x)
  | 4 => v = .slice (some ⟨by', oy, none⟩) k cy
  | 5 => v = .int .i64 (j : Int)
  | 6 => v = .pointer (some ⟨by', oy + j, none⟩)
  | 7 => v = .string (strOf y)
  | 8 => v = .string (strOf x)
  | 9 => v = .string (strOf y)
  | 10 => v = .bool true
  | _ => True

theorem pfC_mono (bx ox cx by' oy cy k j : Nat) (x y : List UInt8) (jx : Nat) (w w' : World) (v : Value) (hb : Below w.heap.size w w') (h : pfC bx ox cx by' oy cy k j x y jx w v) : pfC bx ox cx by' oy cy k j x y jx w' v := by
  match jx, h with
  | 0, h => exact h
  | 1, h => exact h
  | 2, h => exact h
  | 3, h => exact h
  | 4, h => exact h
  | 5, h => exact h
  | 6, h => exact h
  | 7, h => exact h
  | 8, h => exact h
  | 9, h => exact h
  | 10, h => exact h
  | _ + 11, h => exact trivial

/-- What the region's operations leave. -/
def qfA (bx ox cx by' oy cy k j : Nat) (x y : List UInt8) (ix : Nat) (w : World) (v : Value) : Prop :=
  match ix with
  | 0 => v = .slice (some ⟨bx, ox, none⟩) k cx
  | 1 => v = .int .i64 (j : Int)
  | 2 => v = .pointer (some ⟨bx, ox + j, none⟩)
  | 3 => v = .string (strOf x)
  | 4 => v = .slice (some ⟨by', oy, none⟩) k cy
  | 5 => v = .int .i64 (j : Int)
  | 6 => v = .pointer (some ⟨by', oy + j, none⟩)
  | 7 => v = .string (strOf y)
  | 8 => v = .bool true
  | 9 => v = .bool true
  | 10 => v = .slice (some ⟨bx, ox, none⟩) k cx
  | 11 => v = .int .i64 (j : Int)
  | 12 => v = .pointer (some ⟨bx, ox + j, none⟩)
  | 13 => v = .string (strOf x)
  | 14 => v = .string (strOf (Sha.of x))
  | 15 => v = .slice (some ⟨by', oy, none⟩) k cy
  | 16 => v = .int .i64 (j : Int)
  | 17 => v = .pointer (some ⟨by', oy + j, none⟩)
  | 18 => v = .string (strOf y)
  | 19 => v = .string (strOf (Sha.of y))
  | 20 => v = .bool true
  | 21 => v = .bool true
  | _ => True

theorem qfA_mono (bx ox cx by' oy cy k j : Nat) (x y : List UInt8) (jx : Nat) (w w' : World) (v : Value) (hb : Below w.heap.size w w') (h : qfA bx ox cx by' oy cy k j x y jx w v) : qfA bx ox cx by' oy cy k j x y jx w' v := by
  match jx, h with
  | 0, h => exact h
  | 1, h => exact h
  | 2, h => exact h
  | 3, h => exact h
  | 4, h => exact h
  | 5, h => exact h
  | 6, h => exact h
  | 7, h => exact h
  | 8, h => exact h
  | 9, h => exact h
  | 10, h => exact h
  | 11, h => exact h
  | 12, h => exact h
  | 13, h => exact h
  | 14, h => exact h
  | 15, h => exact h
  | 16, h => exact h
  | 17, h => exact h
  | 18, h => exact h
  | 19, h => exact h
  | 20, h => exact h
  | 21, h => exact h
  | _ + 22, h => exact trivial

/-- What the region's operations leave. -/
def qfB (bx ox cx by' oy cy k j : Nat) (x y : List UInt8) (ix : Nat) (w : World) (v : Value) : Prop :=
  match ix with
  | 0 => v = .slice (some ⟨bx, ox, none⟩) k cx
  | 1 => v = .int .i64 (j : Int)
  | 2 => v = .pointer (some ⟨bx, ox + j, none⟩)
  | 3 => v = .string (strOf x)
  | 4 => v = .slice (some ⟨by', oy, none⟩) k cy
  | 5 => v = .int .i64 (j : Int)
  | 6 => v = .pointer (some ⟨by', oy + j, none⟩)
  | 7 => v = .string (strOf y)
  | 8 => v = .bool true
  | 9 => v = .bool true
  | 10 => v = .slice (some ⟨bx, ox, none⟩) k cx
  | 11 => v = .int .i64 (j : Int)
  | 12 => v = .pointer (some ⟨bx, ox + j, none⟩)
  | 13 => v = .string (strOf x)
  | 14 => v = .string (strOf (Sha.of x))
  | 15 => v = .slice (some ⟨by', oy, none⟩) k cy
  | 16 => v = .int .i64 (j : Int)
  | 17 => v = .pointer (some ⟨by', oy + j, none⟩)
  | 18 => v = .string (strOf y)
  | 19 => v = .string (strOf (Sha.of y))
  | 20 => v = .bool false
  | 21 => v = .bool false
  | _ => True

theorem qfB_mono (bx ox cx by' oy cy k j : Nat) (x y : List UInt8) (jx : Nat) (w w' : World) (v : Value) (hb : Below w.heap.size w w') (h : qfB bx ox cx by' oy cy k j x y jx w v) : qfB bx ox cx by' oy cy k j x y jx w' v := by
  match jx, h with
  | 0, h => exact h
  | 1, h => exact h
  | 2, h => exact h
  | 3, h => exact h
  | 4, h => exact h
  | 5, h => exact h
  | 6, h => exact h
  | 7, h => exact h
  | 8, h => exact h
  | 9, h => exact h
  | 10, h => exact h
  | 11, h => exact h
  | 12, h => exact h
  | 13, h => exact h
  | 14, h => exact h
  | 15, h => exact h
  | 16, h => exact h
  | 17, h => exact h
  | 18, h => exact h
  | 19, h => exact h
  | 20, h => exact h
  | 21, h => exact h
  | _ + 22, h => exact trivial

/-- What the region's operations leave. -/
def qfE (bx ox cx by' oy cy k j : Nat) (x y : List UInt8) (ix : Nat) (w : World) (v : Value) : Prop :=
  match ix with
  | 0 => v = .slice (some ⟨bx, ox, none⟩) k cx
  | 1 => v = .int .i64 (j : Int)
  | 2 => v = .pointer (some ⟨bx, ox + j, none⟩)
  | 3 => v = .string (strOf x)
  | 4 => v = .slice (some ⟨by', oy, none⟩) k cy
  | 5 => v = .int .i64 (j : Int)
  | 6 => v = .pointer (some ⟨by', oy + j, none⟩)
  | 7 => v = .string (strOf y)
  | 8 => v = .bool false
  | 9 => v = .bool false
  | 10 => True
  | 11 => True
  | 12 => True
  | 13 => True
  | 14 => True
  | 15 => True
  | 16 => True
  | 17 => True
  | 18 => True
  | 19 => True
  | 20 => True
  | 21 => v = .bool false
  | _ => True

theorem qfE_mono (bx ox cx by' oy cy k j : Nat) (x y : List UInt8) (jx : Nat) (w w' : World) (v : Value) (hb : Below w.heap.size w w') (h : qfE bx ox cx by' oy cy k j x y jx w v) : qfE bx ox cx by' oy cy k j x y jx w' v := by
  match jx, h with
  | 0, h => exact h
  | 1, h => exact h
  | 2, h => exact h
  | 3, h => exact h
  | 4, h => exact h
  | 5, h => exact h
  | 6, h => exact h
  | 7, h => exact h
  | 8, h => exact h
  | 9, h => exact h
  | 10, h => exact trivial
  | 11, h => exact trivial
  | 12, h => exact trivial
  | 13, h => exact trivial
  | 14, h => exact trivial
  | 15, h => exact trivial
  | 16, h => exact trivial
  | 17, h => exact trivial
  | 18, h => exact trivial
  | 19, h => exact trivial
  | 20, h => exact trivial
  | 21, h => exact h
  | _ + 22, h => exact trivial

/-- What the region's operations leave. -/
def qfC (bx ox cx by' oy cy k j : Nat) (x y : List UInt8) (ix : Nat) (w : World) (v : Value) : Prop :=
  match ix with
  | 0 => v = .slice (some ⟨bx, ox, none⟩) k cx
  | 1 => v = .int .i64 (j : Int)
  | 2 => v = .pointer (some ⟨bx, ox + j, none⟩)
  | 3 => v = .string (strOf x)
  | 4 => v = .slice (some ⟨by', oy, none⟩) k cy
  | 5 => v = .int .i64 (j : Int)
  | 6 => v = .pointer (some ⟨by', oy + j, none⟩)
  | 7 => v = .string (strOf y)
  | 8 => v = .string (strOf x)
  | 9 => v = .string (strOf y)
  | 10 => v = .bool true
  | _ => True

theorem qfC_mono (bx ox cx by' oy cy k j : Nat) (x y : List UInt8) (jx : Nat) (w w' : World) (v : Value) (hb : Below w.heap.size w w') (h : qfC bx ox cx by' oy cy k j x y jx w v) : qfC bx ox cx by' oy cy k j x y jx w' v := by
  match jx, h with
  | 0, h => exact h
  | 1, h => exact h
  | 2, h => exact h
  | 3, h => exact h
  | 4, h => exact h
  | 5, h => exact h
  | 6, h => exact h
  | 7, h => exact h
  | 8, h => exact h
  | 9, h => exact h
  | 10, h => exact h
  | _ + 11, h => exact trivial

set_option maxRecDepth 100000 in
set_option maxHeartbeats 4000000 in
theorem clashFind_any (w : World) (n i : Int) (a b : List UInt8) (ha : a.length ≤ 100000) (hb : b.length ≤ 100000) (oP oQ : Option Addr) (mP cP mQ cQ : Nat) (P Q : List (List UInt8)) (hP : HashesAt w oP mP cP P) (hQ : HashesAt w oQ mQ cQ Q) (hL : Laid w) :
    Calls Tryd.prog 13 #[.int .i64 n, .int .i64 i, .string (strOf a), .slice oP mP cP, .string (strOf b), .slice oQ mQ cQ] w fun e w' => e = .returned (.tuple #[.string (strOf (findR n i a P b Q).1), .string (strOf (findR n i a P b Q).2.1), .bool (findR n i a P b Q).2.2]) ∧ Below w.heap.size w w' := by
  obtain ⟨F, hF⟩ : ∃ F, F = findR n i a P b Q := ⟨_, rfl⟩
  rw [← hF]
  have hF2 : F = if (rowsR n i a P).2 && (rowsR n i b Q).2 then findC (rowsR n i a P).1 (rowsR n i b Q).1 else ([], [], false) := hF
  clear hF
  have hfx := rowsR_facts (n := n) (i := i) (P := P) ha hP.2
  have hfy := rowsR_facts (n := n) (i := i) (P := Q) hb hQ.2
  have HL := Lib.hid hL
  have hra := clashRows_all w n i a ha oP mP cP P hP hL
  have hrb := fun (w1 : World) (b1 : Below w.heap.size w w1) => clashRows_all w1 n i b hb oQ mQ cQ Q (hQ.below (Nat.le_refl _) b1) (HL.out.below b1)
  obtain ⟨X, ox', hXe⟩ : ∃ X ok, rowsR n i a P = (X, ok) := ⟨_, _, rfl⟩
  obtain ⟨Y, oy', hYe⟩ : ∃ Y ok, rowsR n i b Q = (Y, ok) := ⟨_, _, rfl⟩
  rw [hXe] at hra hF2 hfx
  simp only [hYe] at hrb hF2 hfy
  simp only at hra hF2 hfx
  rcases ox' with _ | _
  · rcases oy' with _ | _
    · simp only [Bool.false_eq_true, if_false, if_true] at hra hrb
      have HRA := Lib.hid hra; clear hra
      have HRB := Lib.hid hrb; clear hrb
      have HF := Lib.hid hF2; clear hF2
      have HFX := Lib.hid hfx; clear hfx
      have HFY := Lib.hid hfy; clear hfy
      clear hXe hYe hP hQ
      have z1 : strOf [] = ⟨#[]⟩ := rfl
      go_enter Tryd.func13, Tryd.ntmps13
      go_wp2_with fail
      refine HRA.out.mono ?_
      rintro e w1 ⟨qx, cx, kx, rfl, sx, b1⟩
      have hb1 := HRB.out w1 b1
      have HRB1 := Lib.hid hb1; clear hb1 HRA HRB
      go_wp2_with fail
      refine HRB1.out.mono ?_
      rintro e w2 ⟨qy, cy, ky, rfl, sy, b2⟩
      have SX := Lib.hid (sx.below (Nat.le_refl _) b2); clear sx
      have SY := Lib.hid sy; clear sy HRB1
      have B2 := b1.trans (b2.mono b1.size)
      clear b1 b2
      have hf : F = ([], [], false) := by rw [HF.out]; rfl
      have HFI := Lib.hid hf; clear hf HF HFX HFY
      go_wp2_with fail
      go_ret3
      exact ⟨by rw [HFI.out]; rfl, B2⟩
    · simp only [Bool.false_eq_true, if_false, if_true] at hra hrb
      have HRA := Lib.hid hra; clear hra
      have HRB := Lib.hid hrb; clear hrb
      have HF := Lib.hid hF2; clear hF2
      have HFX := Lib.hid hfx; clear hfx
      have HFY := Lib.hid hfy; clear hfy
      clear hXe hYe hP hQ
      have z1 : strOf [] = ⟨#[]⟩ := rfl
      go_enter Tryd.func13, Tryd.ntmps13
      go_wp2_with fail
      refine HRA.out.mono ?_
      rintro e w1 ⟨qx, cx, kx, rfl, sx, b1⟩
      have hb1 := HRB.out w1 b1
      have HRB1 := Lib.hid hb1; clear hb1 HRA HRB
      go_wp2_with fail
      refine HRB1.out.mono ?_
      rintro e w2 ⟨qy, cy, ky, rfl, sy, b2⟩
      have SX := Lib.hid (sx.below (Nat.le_refl _) b2); clear sx
      have SY := Lib.hid sy; clear sy HRB1
      have B2 := b1.trans (b2.mono b1.size)
      clear b1 b2
      have hf : F = ([], [], false) := by rw [HF.out]; rfl
      have HFI := Lib.hid hf; clear hf HF HFX HFY
      go_wp2_with fail
      go_ret3
      exact ⟨by rw [HFI.out]; rfl, B2⟩
  · rcases oy' with _ | _
    · simp only [Bool.false_eq_true, if_false, if_true] at hra hrb
      have HRA := Lib.hid hra; clear hra
      have HRB := Lib.hid hrb; clear hrb
      have HF := Lib.hid hF2; clear hF2
      have HFX := Lib.hid hfx; clear hfx
      have HFY := Lib.hid hfy; clear hfy
      clear hXe hYe hP hQ
      have z1 : strOf [] = ⟨#[]⟩ := rfl
      go_enter Tryd.func13, Tryd.ntmps13
      go_wp2_with fail
      refine HRA.out.mono ?_
      rintro e w1 ⟨qx, cx, kx, rfl, sx, b1⟩
      have hb1 := HRB.out w1 b1
      have HRB1 := Lib.hid hb1; clear hb1 HRA HRB
      go_wp2_with fail
      refine HRB1.out.mono ?_
      rintro e w2 ⟨qy, cy, ky, rfl, sy, b2⟩
      have SX := Lib.hid (sx.below (Nat.le_refl _) b2); clear sx
      have SY := Lib.hid sy; clear sy HRB1
      have B2 := b1.trans (b2.mono b1.size)
      clear b1 b2
      have hf : F = ([], [], false) := by rw [HF.out]; rfl
      have HFI := Lib.hid hf; clear hf HF HFX HFY
      go_wp2_with fail
      go_ret3
      exact ⟨by rw [HFI.out]; rfl, B2⟩
    · simp only [Bool.false_eq_true, if_false, if_true] at hra hrb
      have HRA := Lib.hid hra; clear hra
      have HRB := Lib.hid hrb; clear hrb
      have HF := Lib.hid hF2; clear hF2
      have HFX := Lib.hid hfx; clear hfx
      have HFY := Lib.hid hfy; clear hfy
      clear hXe hYe hP hQ
      have z1 : strOf [] = ⟨#[]⟩ := rfl
      go_enter Tryd.func13, Tryd.ntmps13
      go_wp2_with fail
      refine HRA.out.mono ?_
      rintro e w1 ⟨qx, cx, kx, rfl, sx, b1⟩
      have hb1 := HRB.out w1 b1
      have HRB1 := Lib.hid hb1; clear hb1 HRA HRB
      go_wp2_with fail
      refine HRB1.out.mono ?_
      rintro e w2 ⟨qy, cy, ky, rfl, sy, b2⟩
      have SX := Lib.hid (sx.below (Nat.le_refl _) b2); clear sx
      have SY := Lib.hid sy; clear sy HRB1
      have B2 := b1.trans (b2.mono b1.size)
      clear b1 b2
      obtain ⟨_, _, _, _, _, _, hsx, _, hlx, hPl, hbx⟩ := HFX.out (by trivial)
      obtain ⟨_, _, hn1, hi1, _, _, hsy, _, hly, hQl, hby⟩ := HFY.out (by trivial)
      have hPQ : P.length = Q.length := by rw [← hsx, ← hsy]; congr 2 <;> omega
      have hkx := SX.out.len
      have hky := SY.out.len
      obtain rfl : kx = ky := by omega
      obtain ⟨k, hk⟩ : ∃ k, k = kx := ⟨_, rfl⟩
      subst hk
      have hk2 : 2 ≤ k := by omega
      have hk32 : k ≤ 32 := by omega
      have hcx := SX.out.cap
      have hcy := SY.out.cap
      have hmx := SX.out.max
      have hmy := SY.out.max
      have hF0 : F = findC X Y := by rw [HF.out]; rfl
      have HF0 := Lib.hid hF0; clear hF0 HF HFX HFY
      have HBX := Lib.hid hbx; clear hbx
      have HBY := Lib.hid hby; clear hby
      have HXL : Hid (X.length = k) := Lib.hid hkx
      have HYL : Hid (Y.length = k) := Lib.hid hky
      clear hkx hky hlx hly hPQ hsx hsy hPl hQl hn1 hi1
      obtain ⟨bx, ox, rfl⟩ := SX.out.form (by omega)
      obtain ⟨by', oy, rfl⟩ := SY.out.form (by omega)
      go_wp2_with fail
      go_loopw [44] (fun v wr => ∃ j : Nat, j ≤ k ∧ v = .int .i64 (j : Int) ∧ Hid (F = findC (X.drop j) (Y.drop j)) ∧ Below w2.heap.size w2 wr) (fun v _ => k - (intOf v).toNat)
      case atStart => exact ⟨0, by omega, rfl, Lib.hid (by rw [HF0.out]; rfl), Below.refl _ _⟩
      case round =>
        obtain ⟨j, hj, rfl, hno, Br2⟩ := hrel
        have Br := B2.trans (Br2.mono B2.size)
        have HX := Lib.hid (SX.out.below (Nat.le_refl _) Br2)
        have HY := Lib.hid (SY.out.below (Nat.le_refl _) Br2)
        have HLr := Lib.hid (HL.out.below Br)
        by_cases hlt : j < k
        · obtain ⟨x, hxj⟩ : ∃ x, X[j]? = some x := ⟨_, List.getElem?_eq_getElem (by rw [HXL.out]; exact hlt)⟩
          obtain ⟨y, hyj⟩ : ∃ y, Y[j]? = some y := ⟨_, List.getElem?_eq_getElem (by rw [HYL.out]; exact hlt)⟩
          have HXB := Lib.hid (HBX.out x (List.mem_of_getElem? hxj))
          have HYB := Lib.hid (HBY.out y (List.mem_of_getElem? hyj))
          have hstep := findC_drop hxj hyj
          rw [← hno.out] at hstep
          have HST := Lib.hid hstep; clear hstep
          have HXJ := Lib.hid hxj; clear hxj
          have HYJ := Lib.hid hyj; clear hyj
          have u1 : decide ((j : Int) < (k : Int)) = true := decide_eq_true (by omega)
          have u1' : decide (j < k) = true := decide_eq_true hlt
          go_wp2_with fail
          rcases hc : isC x y with _ | _
          · have HNX : Hid (F = findC (X.drop (j + 1)) (Y.drop (j + 1))) := Lib.hid (by rw [HST.out, if_neg (by rw [hc]; decide)])
            have HC := Lib.hid hc; clear hc
            refine wp_region_rel [[], [], [0, 1], [2], [], [], [4, 5], [6], [3, 7]] (pfB bx ox cx by' oy cy k j x y) 65 (by kernel_rfl) (by kernel_rfl) (by kernel_rfl) (pfB_mono bx ox cx by' oy cy k j x y) ?_ ?_
            · intro ix op hi w2 b2 vs hv
              have him : ix < 9 := (List.getElem?_eq_some_iff.1 hi).1
              have hxb := HXB.out
              have hyb := HYB.out
              have hL2 := HLr.out.below b2
              match ix, him, hi with
              | 0, _, hi =>
                obtain rfl := Option.some.inj hi
                simp only [relF, List.getD_cons_zero, List.getD_cons_succ, List.foldl_cons, List.foldl_nil, dstAt, List.getElem?_cons_zero, List.getElem?_cons_succ, Option.bind_some]
                go_wp2_with fail
                exact ⟨rfl, Below.refl _ _, rfl, rfl⟩
              | 1, _, hi =>
                obtain rfl := Option.some.inj hi
                simp only [relF, List.getD_cons_zero, List.getD_cons_succ, List.foldl_cons, List.foldl_nil, dstAt, List.getElem?_cons_zero, List.getElem?_cons_succ, Option.bind_some]
                go_wp2_with fail
                exact ⟨rfl, Below.refl _ _, rfl, rfl⟩
              | 2, _, hi =>
                obtain rfl := Option.some.inj hi
                have h0 : vs 0 = _ := hv 0 (by decide)
                have h1 : vs 1 = _ := hv 1 (by decide)
                simp only [relF, List.getD_cons_zero, List.getD_cons_succ, List.foldl_cons, List.foldl_nil, dstAt, List.getElem?_cons_zero, List.getElem?_cons_succ, Option.bind_some]
                go_frame
                rw [h0, h1]
                go_wp2_with fail
                exact ⟨rfl, Below.refl _ _, rfl, rfl⟩
              | 3, _, hi =>
                obtain rfl := Option.some.inj hi
                have h2 : vs 2 = _ := hv 2 (by decide)
                have hcell := (HX.out.below (Nat.le_refl _) b2).get HXJ.out
                simp only [relF, List.getD_cons_zero, List.getD_cons_succ, List.foldl_cons, List.foldl_nil, dstAt, List.getElem?_cons_zero, List.getElem?_cons_succ, Option.bind_some]
                go_frame
                rw [h2]
                go_wp2_with fail
                exact ⟨rfl, Below.refl _ _, rfl, rfl⟩
              | 4, _, hi =>
                obtain rfl := Option.some.inj hi
                simp only [relF, List.getD_cons_zero, List.getD_cons_succ, List.foldl_cons, List.foldl_nil, dstAt, List.getElem?_cons_zero, List.getElem?_cons_succ, Option.bind_some]
                go_wp2_with fail
                exact ⟨rfl, Below.refl _ _, rfl, rfl⟩
              | 5, _, hi =>
                obtain rfl := Option.some.inj hi
                simp only [relF, List.getD_cons_zero, List.getD_cons_succ, List.foldl_cons, List.foldl_nil, dstAt, List.getElem?_cons_zero, List.getElem?_cons_succ, Option.bind_some]
                go_wp2_with fail
                exact ⟨rfl, Below.refl _ _, rfl, rfl⟩
              | 6, _, hi =>
                obtain rfl := Option.some.inj hi
                have h4 : vs 4 = _ := hv 4 (by decide)
                have h5 : vs 5 = _ := hv 5 (by decide)
                simp only [relF, List.getD_cons_zero, List.getD_cons_succ, List.foldl_cons, List.foldl_nil, dstAt, List.getElem?_cons_zero, List.getElem?_cons_succ, Option.bind_some]
                go_frame
                rw [h4, h5]
                go_wp2_with fail
                exact ⟨rfl, Below.refl _ _, rfl, rfl⟩
              | 7, _, hi =>
                obtain rfl := Option.some.inj hi
                have h6 : vs 6 = _ := hv 6 (by decide)
                have hcell := (HY.out.below (Nat.le_refl _) b2).get HYJ.out
                simp only [relF, List.getD_cons_zero, List.getD_cons_succ, List.foldl_cons, List.foldl_nil, dstAt, List.getElem?_cons_zero, List.getElem?_cons_succ, Option.bind_some]
                go_frame
                rw [h6]
                go_wp2_with fail
                exact ⟨rfl, Below.refl _ _, rfl, rfl⟩
              | 8, _, hi =>
                obtain rfl := Option.some.inj hi
                have h3 : vs 3 = _ := hv 3 (by decide)
                have h7 : vs 7 = _ := hv 7 (by decide)
                have hrn := clashIs_any w2 x y (by omega) (by omega) hL2
                rw [HC.out] at hrn
                simp only [relF, List.getD_cons_zero, List.getD_cons_succ, List.foldl_cons, List.foldl_nil, dstAt, List.getElem?_cons_zero, List.getElem?_cons_succ, Option.bind_some]
                go_frame
                rw [h3, h7]
                go_wp2_with fail
                refine (hrn).mono ?_
                rintro e w3 ⟨rfl, b3⟩
                go_wp2_with fail
                exact ⟨rfl, b3, rfl, rfl⟩
              | nx + 9, him, _ => exact absurd him (by omega)
            · intro w2 b2 vs hv
              have hxb := HXB.out
              have hyb := HYB.out
              have hL2 := HLr.out.below b2
              have h8 : vs 8 = _ := hv 8 (by decide)
              simp only [relF, List.drop_succ_cons, List.drop_zero, List.length_cons, List.length_nil, Nat.zero_add, Nat.reduceAdd, List.range, List.range.loop, List.foldl_cons, List.foldl_nil, dstAt, List.getElem?_cons_zero, List.getElem?_cons_succ, Option.bind_some]
              go_frame
              rw [h8]
              go_wp2_with fail
              go_roundw
              case rel => exact ⟨j + 1, by omega, by go_num, HNX, Br2.trans (b2.mono Br2.size)⟩
              case measure => simp [intOf]; omega
          · have HFI : Hid (F = (x, y, true)) := Lib.hid (by rw [HST.out, if_pos hc])
            have HC := Lib.hid hc; clear hc
            refine wp_region_rel [[], [], [0, 1], [2], [], [], [4, 5], [6], [3, 7]] (pfA bx ox cx by' oy cy k j x y) 65 (by kernel_rfl) (by kernel_rfl) (by kernel_rfl) (pfA_mono bx ox cx by' oy cy k j x y) ?_ ?_
            · intro ix op hi w2 b2 vs hv
              have him : ix < 9 := (List.getElem?_eq_some_iff.1 hi).1
              have hxb := HXB.out
              have hyb := HYB.out
              have hL2 := HLr.out.below b2
              match ix, him, hi with
              | 0, _, hi =>
                obtain rfl := Option.some.inj hi
                simp only [relF, List.getD_cons_zero, List.getD_cons_succ, List.foldl_cons, List.foldl_nil, dstAt, List.getElem?_cons_zero, List.getElem?_cons_succ, Option.bind_some]
                go_wp2_with fail
                exact ⟨rfl, Below.refl _ _, rfl, rfl⟩
              | 1, _, hi =>
                obtain rfl := Option.some.inj hi
                simp only [relF, List.getD_cons_zero, List.getD_cons_succ, List.foldl_cons, List.foldl_nil, dstAt, List.getElem?_cons_zero, List.getElem?_cons_succ, Option.bind_some]
                go_wp2_with fail
                exact ⟨rfl, Below.refl _ _, rfl, rfl⟩
              | 2, _, hi =>
                obtain rfl := Option.some.inj hi
                have h0 : vs 0 = _ := hv 0 (by decide)
                have h1 : vs 1 = _ := hv 1 (by decide)
                simp only [relF, List.getD_cons_zero, List.getD_cons_succ, List.foldl_cons, List.foldl_nil, dstAt, List.getElem?_cons_zero, List.getElem?_cons_succ, Option.bind_some]
                go_frame
                rw [h0, h1]
                go_wp2_with fail
                exact ⟨rfl, Below.refl _ _, rfl, rfl⟩
              | 3, _, hi =>
                obtain rfl := Option.some.inj hi
                have h2 : vs 2 = _ := hv 2 (by decide)
                have hcell := (HX.out.below (Nat.le_refl _) b2).get HXJ.out
                simp only [relF, List.getD_cons_zero, List.getD_cons_succ, List.foldl_cons, List.foldl_nil, dstAt, List.getElem?_cons_zero, List.getElem?_cons_succ, Option.bind_some]
                go_frame
                rw [h2]
                go_wp2_with fail
                exact ⟨rfl, Below.refl _ _, rfl, rfl⟩
              | 4, _, hi =>
                obtain rfl := Option.some.inj hi
                simp only [relF, List.getD_cons_zero, List.getD_cons_succ, List.foldl_cons, List.foldl_nil, dstAt, List.getElem?_cons_zero, List.getElem?_cons_succ, Option.bind_some]
                go_wp2_with fail
                exact ⟨rfl, Below.refl _ _, rfl, rfl⟩
              | 5, _, hi =>
                obtain rfl := Option.some.inj hi
                simp only [relF, List.getD_cons_zero, List.getD_cons_succ, List.foldl_cons, List.foldl_nil, dstAt, List.getElem?_cons_zero, List.getElem?_cons_succ, Option.bind_some]
                go_wp2_with fail
                exact ⟨rfl, Below.refl _ _, rfl, rfl⟩
              | 6, _, hi =>
                obtain rfl := Option.some.inj hi
                have h4 : vs 4 = _ := hv 4 (by decide)
                have h5 : vs 5 = _ := hv 5 (by decide)
                simp only [relF, List.getD_cons_zero, List.getD_cons_succ, List.foldl_cons, List.foldl_nil, dstAt, List.getElem?_cons_zero, List.getElem?_cons_succ, Option.bind_some]
                go_frame
                rw [h4, h5]
                go_wp2_with fail
                exact ⟨rfl, Below.refl _ _, rfl, rfl⟩
              | 7, _, hi =>
                obtain rfl := Option.some.inj hi
                have h6 : vs 6 = _ := hv 6 (by decide)
                have hcell := (HY.out.below (Nat.le_refl _) b2).get HYJ.out
                simp only [relF, List.getD_cons_zero, List.getD_cons_succ, List.foldl_cons, List.foldl_nil, dstAt, List.getElem?_cons_zero, List.getElem?_cons_succ, Option.bind_some]
                go_frame
                rw [h6]
                go_wp2_with fail
                exact ⟨rfl, Below.refl _ _, rfl, rfl⟩
              | 8, _, hi =>
                obtain rfl := Option.some.inj hi
                have h3 : vs 3 = _ := hv 3 (by decide)
                have h7 : vs 7 = _ := hv 7 (by decide)
                have hrn := clashIs_any w2 x y (by omega) (by omega) hL2
                rw [HC.out] at hrn
                simp only [relF, List.getD_cons_zero, List.getD_cons_succ, List.foldl_cons, List.foldl_nil, dstAt, List.getElem?_cons_zero, List.getElem?_cons_succ, Option.bind_some]
                go_frame
                rw [h3, h7]
                go_wp2_with fail
                refine (hrn).mono ?_
                rintro e w3 ⟨rfl, b3⟩
                go_wp2_with fail
                exact ⟨rfl, b3, rfl, rfl⟩
              | nx + 9, him, _ => exact absurd him (by omega)
            · intro w2 b2 vs hv
              have hxb := HXB.out
              have hyb := HYB.out
              have hL2 := HLr.out.below b2
              have h8 : vs 8 = _ := hv 8 (by decide)
              simp only [relF, List.drop_succ_cons, List.drop_zero, List.length_cons, List.length_nil, Nat.zero_add, Nat.reduceAdd, List.range, List.range.loop, List.foldl_cons, List.foldl_nil, dstAt, List.getElem?_cons_zero, List.getElem?_cons_succ, Option.bind_some]
              go_frame
              rw [h8]
              have B2 := Br.trans (b2.mono Br.size)
              have HX2 := Lib.hid (HX.out.below (Nat.le_refl _) b2)
              have HY2 := Lib.hid (HY.out.below (Nat.le_refl _) b2)
              clear hv
              go_wp2_with fail
              refine wp_region_rel [[], [], [0, 1], [2], [], [], [4, 5], [6], [3], [7], []] (pfC bx ox cx by' oy cy k j x y) 65 (by kernel_rfl) (by kernel_rfl) (by kernel_rfl) (pfC_mono bx ox cx by' oy cy k j x y) ?_ ?_
              · intro ix op hi w3 b2 vs hv
                have him : ix < 11 := (List.getElem?_eq_some_iff.1 hi).1
                have hxb := HXB.out
                have hyb := HYB.out
                match ix, him, hi with
                | 0, _, hi =>
                  obtain rfl := Option.some.inj hi
                  simp only [relF, List.getD_cons_zero, List.getD_cons_succ, List.foldl_cons, List.foldl_nil, dstAt, List.getElem?_cons_zero, List.getElem?_cons_succ, Option.bind_some]
                  go_wp2_with fail
                  exact ⟨rfl, Below.refl _ _, rfl, rfl⟩
                | 1, _, hi =>
                  obtain rfl := Option.some.inj hi
                  simp only [relF, List.getD_cons_zero, List.getD_cons_succ, List.foldl_cons, List.foldl_nil, dstAt, List.getElem?_cons_zero, List.getElem?_cons_succ, Option.bind_some]
                  go_wp2_with fail
                  exact ⟨rfl, Below.refl _ _, rfl, rfl⟩
                | 2, _, hi =>
                  obtain rfl := Option.some.inj hi
                  have h0 : vs 0 = _ := hv 0 (by decide)
                  have h1 : vs 1 = _ := hv 1 (by decide)
                  simp only [relF, List.getD_cons_zero, List.getD_cons_succ, List.foldl_cons, List.foldl_nil, dstAt, List.getElem?_cons_zero, List.getElem?_cons_succ, Option.bind_some]
                  go_frame
                  rw [h0, h1]
                  go_wp2_with fail
                  exact ⟨rfl, Below.refl _ _, rfl, rfl⟩
                | 3, _, hi =>
                  obtain rfl := Option.some.inj hi
                  have h2 : vs 2 = _ := hv 2 (by decide)
                  have hcell := (HX2.out.below (Nat.le_refl _) b2).get HXJ.out
                  simp only [relF, List.getD_cons_zero, List.getD_cons_succ, List.foldl_cons, List.foldl_nil, dstAt, List.getElem?_cons_zero, List.getElem?_cons_succ, Option.bind_some]
                  go_frame
                  rw [h2]
                  go_wp2_with fail
                  exact ⟨rfl, Below.refl _ _, rfl, rfl⟩
                | 4, _, hi =>
                  obtain rfl := Option.some.inj hi
                  simp only [relF, List.getD_cons_zero, List.getD_cons_succ, List.foldl_cons, List.foldl_nil, dstAt, List.getElem?_cons_zero, List.getElem?_cons_succ, Option.bind_some]
                  go_wp2_with fail
                  exact ⟨rfl, Below.refl _ _, rfl, rfl⟩
                | 5, _, hi =>
                  obtain rfl := Option.some.inj hi
                  simp only [relF, List.getD_cons_zero, List.getD_cons_succ, List.foldl_cons, List.foldl_nil, dstAt, List.getElem?_cons_zero, List.getElem?_cons_succ, Option.bind_some]
                  go_wp2_with fail
                  exact ⟨rfl, Below.refl _ _, rfl, rfl⟩
                | 6, _, hi =>
                  obtain rfl := Option.some.inj hi
                  have h4 : vs 4 = _ := hv 4 (by decide)
                  have h5 : vs 5 = _ := hv 5 (by decide)
                  simp only [relF, List.getD_cons_zero, List.getD_cons_succ, List.foldl_cons, List.foldl_nil, dstAt, List.getElem?_cons_zero, List.getElem?_cons_succ, Option.bind_some]
                  go_frame
                  rw [h4, h5]
                  go_wp2_with fail
                  exact ⟨rfl, Below.refl _ _, rfl, rfl⟩
                | 7, _, hi =>
                  obtain rfl := Option.some.inj hi
                  have h6 : vs 6 = _ := hv 6 (by decide)
                  have hcell := (HY2.out.below (Nat.le_refl _) b2).get HYJ.out
                  simp only [relF, List.getD_cons_zero, List.getD_cons_succ, List.foldl_cons, List.foldl_nil, dstAt, List.getElem?_cons_zero, List.getElem?_cons_succ, Option.bind_some]
                  go_frame
                  rw [h6]
                  go_wp2_with fail
                  exact ⟨rfl, Below.refl _ _, rfl, rfl⟩
                | 8, _, hi =>
                  obtain rfl := Option.some.inj hi
                  have h3 : vs 3 = _ := hv 3 (by decide)
                  simp only [relF, List.getD_cons_zero, List.getD_cons_succ, List.foldl_cons, List.foldl_nil, dstAt, List.getElem?_cons_zero, List.getElem?_cons_succ, Option.bind_some]
                  go_frame
                  rw [h3]
                  go_wp2_with fail
                  exact ⟨rfl, Below.refl _ _, rfl, rfl⟩
                | 9, _, hi =>
                  obtain rfl := Option.some.inj hi
                  have h7 : vs 7 = _ := hv 7 (by decide)
                  simp only [relF, List.getD_cons_zero, List.getD_cons_succ, List.foldl_cons, List.foldl_nil, dstAt, List.getElem?_cons_zero, List.getElem?_cons_succ, Option.bind_some]
                  go_frame
                  rw [h7]
                  go_wp2_with fail
                  exact ⟨rfl, Below.refl _ _, rfl, rfl⟩
                | 10, _, hi =>
                  obtain rfl := Option.some.inj hi
                  simp only [relF, List.getD_cons_zero, List.getD_cons_succ, List.foldl_cons, List.foldl_nil, dstAt, List.getElem?_cons_zero, List.getElem?_cons_succ, Option.bind_some]
                  go_wp2_with fail
                  exact ⟨rfl, Below.refl _ _, rfl, rfl⟩
                | nx + 11, him, _ => exact absurd him (by omega)
              · intro w3 b2 vs hv
                have hxb := HXB.out
                have hyb := HYB.out
                have h8 : vs 8 = _ := hv 8 (by decide)
                have h9 : vs 9 = _ := hv 9 (by decide)
                have h10 : vs 10 = _ := hv 10 (by decide)
                simp only [relF, List.drop_succ_cons, List.drop_zero, List.length_cons, List.length_nil, Nat.zero_add, Nat.reduceAdd, List.range, List.range.loop, List.foldl_cons, List.foldl_nil, dstAt, List.getElem?_cons_zero, List.getElem?_cons_succ, Option.bind_some]
                go_frame
                rw [h8, h9, h10]
                go_wp2_with fail
                go_ret3
                exact ⟨by rw [HFI.out]; rfl, B2.trans (b2.mono B2.size)⟩
        · obtain rfl : j = k := by omega
          have hf : F = ([], [], false) := by
            rw [hno.out, List.drop_of_length_le (by rw [HXL.out]; exact Nat.le_refl _)]; rfl
          have HFI := Lib.hid hf; clear hf
          go_wp2_with fail
          go_ret3
          exact ⟨by rw [HFI.out]; rfl, Br⟩

set_option maxRecDepth 100000 in
set_option maxHeartbeats 4000000 in
theorem refFind_any (w : World) (n i : Int) (a b : List UInt8) (ha : a.length ≤ 100000) (hb : b.length ≤ 100000) (oP oQ : Option Addr) (mP cP mQ cQ : Nat) (P Q : List (List UInt8)) (hP : HashesAt w oP mP cP P) (hQ : HashesAt w oQ mQ cQ Q) :
    Calls Tryd.prog 14 #[.int .i64 n, .int .i64 i, .string (strOf a), .slice oP mP cP, .string (strOf b), .slice oQ mQ cQ] w fun e w' => e = .returned (.tuple #[.string (strOf (findR n i a P b Q).1), .string (strOf (findR n i a P b Q).2.1), .bool (findR n i a P b Q).2.2]) ∧ Below w.heap.size w w' := by
  obtain ⟨F, hF⟩ : ∃ F, F = findR n i a P b Q := ⟨_, rfl⟩
  rw [← hF]
  have hF2 : F = if (rowsR n i a P).2 && (rowsR n i b Q).2 then findC (rowsR n i a P).1 (rowsR n i b Q).1 else ([], [], false) := hF
  clear hF
  have hfx := rowsR_facts (n := n) (i := i) (P := P) ha hP.2
  have hfy := rowsR_facts (n := n) (i := i) (P := Q) hb hQ.2
  have hra := refRowsAll_all w n i a ha oP mP cP P hP
  have hrb := fun (w1 : World) (b1 : Below w.heap.size w w1) => refRowsAll_all w1 n i b hb oQ mQ cQ Q (hQ.below (Nat.le_refl _) b1)
  obtain ⟨X, ox', hXe⟩ : ∃ X ok, rowsR n i a P = (X, ok) := ⟨_, _, rfl⟩
  obtain ⟨Y, oy', hYe⟩ : ∃ Y ok, rowsR n i b Q = (Y, ok) := ⟨_, _, rfl⟩
  rw [hXe] at hra hF2 hfx
  simp only [hYe] at hrb hF2 hfy
  simp only at hra hF2 hfx
  rcases ox' with _ | _
  · rcases oy' with _ | _
    · have HRA := Lib.hid hra; clear hra
      have HRB := Lib.hid hrb; clear hrb
      have HF := Lib.hid hF2; clear hF2
      have HFX := Lib.hid hfx; clear hfx
      have HFY := Lib.hid hfy; clear hfy
      clear hXe hYe hP hQ
      have z1 : strOf [] = ⟨#[]⟩ := rfl
      go_enter Tryd.func14, Tryd.ntmps14
      go_wp2_with fail
      refine HRA.out.mono ?_
      rintro e w1 ⟨qx, cx, kx, rfl, sx, b1⟩
      have hb1 := HRB.out w1 b1
      have HRB1 := Lib.hid hb1; clear hb1 HRA HRB
      go_wp2_with fail
      refine HRB1.out.mono ?_
      rintro e w2 ⟨qy, cy, ky, rfl, sy, b2⟩
      have SX := Lib.hid (sx.below (Nat.le_refl _) b2); clear sx
      have SY := Lib.hid sy; clear sy HRB1
      have B2 := b1.trans (b2.mono b1.size)
      clear b1 b2
      have hf : F = ([], [], false) := by rw [HF.out]; rfl
      have HFI := Lib.hid hf; clear hf HF HFX HFY
      go_wp2_with fail
      go_ret3
      exact ⟨by rw [HFI.out]; rfl, B2⟩
    · have HRA := Lib.hid hra; clear hra
      have HRB := Lib.hid hrb; clear hrb
      have HF := Lib.hid hF2; clear hF2
      have HFX := Lib.hid hfx; clear hfx
      have HFY := Lib.hid hfy; clear hfy
      clear hXe hYe hP hQ
      have z1 : strOf [] = ⟨#[]⟩ := rfl
      go_enter Tryd.func14, Tryd.ntmps14
      go_wp2_with fail
      refine HRA.out.mono ?_
      rintro e w1 ⟨qx, cx, kx, rfl, sx, b1⟩
      have hb1 := HRB.out w1 b1
      have HRB1 := Lib.hid hb1; clear hb1 HRA HRB
      go_wp2_with fail
      refine HRB1.out.mono ?_
      rintro e w2 ⟨qy, cy, ky, rfl, sy, b2⟩
      have SX := Lib.hid (sx.below (Nat.le_refl _) b2); clear sx
      have SY := Lib.hid sy; clear sy HRB1
      have B2 := b1.trans (b2.mono b1.size)
      clear b1 b2
      have hf : F = ([], [], false) := by rw [HF.out]; rfl
      have HFI := Lib.hid hf; clear hf HF HFX HFY
      go_wp2_with fail
      go_ret3
      exact ⟨by rw [HFI.out]; rfl, B2⟩
  · rcases oy' with _ | _
    · have HRA := Lib.hid hra; clear hra
      have HRB := Lib.hid hrb; clear hrb
      have HF := Lib.hid hF2; clear hF2
      have HFX := Lib.hid hfx; clear hfx
      have HFY := Lib.hid hfy; clear hfy
      clear hXe hYe hP hQ
      have z1 : strOf [] = ⟨#[]⟩ := rfl
      go_enter Tryd.func14, Tryd.ntmps14
      go_wp2_with fail
      refine HRA.out.mono ?_
      rintro e w1 ⟨qx, cx, kx, rfl, sx, b1⟩
      have hb1 := HRB.out w1 b1
      have HRB1 := Lib.hid hb1; clear hb1 HRA HRB
      go_wp2_with fail
      refine HRB1.out.mono ?_
      rintro e w2 ⟨qy, cy, ky, rfl, sy, b2⟩
      have SX := Lib.hid (sx.below (Nat.le_refl _) b2); clear sx
      have SY := Lib.hid sy; clear sy HRB1
      have B2 := b1.trans (b2.mono b1.size)
      clear b1 b2
      have hf : F = ([], [], false) := by rw [HF.out]; rfl
      have HFI := Lib.hid hf; clear hf HF HFX HFY
      go_wp2_with fail
      go_ret3
      exact ⟨by rw [HFI.out]; rfl, B2⟩
    · have HRA := Lib.hid hra; clear hra
      have HRB := Lib.hid hrb; clear hrb
      have HF := Lib.hid hF2; clear hF2
      have HFX := Lib.hid hfx; clear hfx
      have HFY := Lib.hid hfy; clear hfy
      clear hXe hYe hP hQ
      have z1 : strOf [] = ⟨#[]⟩ := rfl
      go_enter Tryd.func14, Tryd.ntmps14
      go_wp2_with fail
      refine HRA.out.mono ?_
      rintro e w1 ⟨qx, cx, kx, rfl, sx, b1⟩
      have hb1 := HRB.out w1 b1
      have HRB1 := Lib.hid hb1; clear hb1 HRA HRB
      go_wp2_with fail
      refine HRB1.out.mono ?_
      rintro e w2 ⟨qy, cy, ky, rfl, sy, b2⟩
      have SX := Lib.hid (sx.below (Nat.le_refl _) b2); clear sx
      have SY := Lib.hid sy; clear sy HRB1
      have B2 := b1.trans (b2.mono b1.size)
      clear b1 b2
      obtain ⟨_, _, _, _, _, _, hsx, _, hlx, hPl, hbx⟩ := HFX.out (by trivial)
      obtain ⟨_, _, hn1, hi1, _, _, hsy, _, hly, hQl, hby⟩ := HFY.out (by trivial)
      have hPQ : P.length = Q.length := by rw [← hsx, ← hsy]; congr 2 <;> omega
      have hkx := SX.out.len
      have hky := SY.out.len
      obtain rfl : kx = ky := by omega
      obtain ⟨k, hk⟩ : ∃ k, k = kx := ⟨_, rfl⟩
      subst hk
      have hk2 : 2 ≤ k := by omega
      have hk32 : k ≤ 32 := by omega
      have hcx := SX.out.cap
      have hcy := SY.out.cap
      have hmx := SX.out.max
      have hmy := SY.out.max
      have hF0 : F = findC X Y := by rw [HF.out]; rfl
      have HF0 := Lib.hid hF0; clear hF0 HF HFX HFY
      have HBX := Lib.hid hbx; clear hbx
      have HBY := Lib.hid hby; clear hby
      have HXL : Hid (X.length = k) := Lib.hid hkx
      have HYL : Hid (Y.length = k) := Lib.hid hky
      clear hkx hky hlx hly hPQ hsx hsy hPl hQl hn1 hi1
      obtain ⟨bx, ox, rfl⟩ := SX.out.form (by omega)
      obtain ⟨by', oy, rfl⟩ := SY.out.form (by omega)
      go_wp2_with fail
      go_loopw [19] (fun v wr => ∃ j : Nat, j ≤ k ∧ v = .int .i64 (j : Int) ∧ Hid (F = findC (X.drop j) (Y.drop j)) ∧ Below w2.heap.size w2 wr) (fun v _ => k - (intOf v).toNat)
      case atStart => exact ⟨0, by omega, rfl, Lib.hid (by rw [HF0.out]; rfl), Below.refl _ _⟩
      case round =>
        obtain ⟨j, hj, rfl, hno, Br2⟩ := hrel
        have Br := B2.trans (Br2.mono B2.size)
        have HX := Lib.hid (SX.out.below (Nat.le_refl _) Br2)
        have HY := Lib.hid (SY.out.below (Nat.le_refl _) Br2)
        by_cases hlt : j < k
        · obtain ⟨x, hxj⟩ : ∃ x, X[j]? = some x := ⟨_, List.getElem?_eq_getElem (by rw [HXL.out]; exact hlt)⟩
          obtain ⟨y, hyj⟩ : ∃ y, Y[j]? = some y := ⟨_, List.getElem?_eq_getElem (by rw [HYL.out]; exact hlt)⟩
          have HXB := Lib.hid (HBX.out x (List.mem_of_getElem? hxj))
          have HYB := Lib.hid (HBY.out y (List.mem_of_getElem? hyj))
          have hstep := findC_drop hxj hyj
          rw [← hno.out] at hstep
          have HST := Lib.hid hstep; clear hstep
          have HXJ := Lib.hid hxj; clear hxj
          have HYJ := Lib.hid hyj; clear hyj
          have u1 : decide ((j : Int) < (k : Int)) = true := decide_eq_true (by omega)
          have u1' : decide (j < k) = true := decide_eq_true hlt
          go_wp2_with fail
          by_cases hxy : x = y
          · have HNX : Hid (F = findC (X.drop (j + 1)) (Y.drop (j + 1))) := Lib.hid (by rw [HST.out, if_neg (by rw [hxy, isC_self]; decide)])
            have hne : ((strOf x).toList == (strOf y).toList) = true := by rw [hxy]; simp
            have HNE := Lib.hid hne; clear hne hxy
            refine wp_region_rel [[], [], [0, 1], [2], [], [], [4, 5], [6], [3, 7], [8], [9], [9], [9, 10, 11], [9, 12], [9, 13], [9], [9], [9, 15, 16], [9, 17], [9, 18], [9, 14, 19], [9, 20]] (qfE bx ox cx by' oy cy k j x y) 78 (by kernel_rfl) (by kernel_rfl) (by kernel_rfl) (qfE_mono bx ox cx by' oy cy k j x y) ?_ ?_
            · intro ix op hi w2 b2 vs hv
              have him : ix < 22 := (List.getElem?_eq_some_iff.1 hi).1
              have hxb := HXB.out
              have hyb := HYB.out
              match ix, him, hi with
              | 0, _, hi =>
                obtain rfl := Option.some.inj hi
                simp only [relF, List.getD_cons_zero, List.getD_cons_succ, List.foldl_cons, List.foldl_nil, dstAt, List.getElem?_cons_zero, List.getElem?_cons_succ, Option.bind_some]
                go_wp2_with fail
                exact ⟨rfl, Below.refl _ _, rfl, rfl⟩
              | 1, _, hi =>
                obtain rfl := Option.some.inj hi
                simp only [relF, List.getD_cons_zero, List.getD_cons_succ, List.foldl_cons, List.foldl_nil, dstAt, List.getElem?_cons_zero, List.getElem?_cons_succ, Option.bind_some]
                go_wp2_with fail
                exact ⟨rfl, Below.refl _ _, rfl, rfl⟩
              | 2, _, hi =>
                obtain rfl := Option.some.inj hi
                have h0 : vs 0 = _ := hv 0 (by decide)
                have h1 : vs 1 = _ := hv 1 (by decide)
                simp only [relF, List.getD_cons_zero, List.getD_cons_succ, List.foldl_cons, List.foldl_nil, dstAt, List.getElem?_cons_zero, List.getElem?_cons_succ, Option.bind_some]
                go_frame
                rw [h0, h1]
                go_wp2_with fail
                exact ⟨rfl, Below.refl _ _, rfl, rfl⟩
              | 3, _, hi =>
                obtain rfl := Option.some.inj hi
                have h2 : vs 2 = _ := hv 2 (by decide)
                have hcell := (HX.out.below (Nat.le_refl _) b2).get HXJ.out
                simp only [relF, List.getD_cons_zero, List.getD_cons_succ, List.foldl_cons, List.foldl_nil, dstAt, List.getElem?_cons_zero, List.getElem?_cons_succ, Option.bind_some]
                go_frame
                rw [h2]
                go_wp2_with fail
                exact ⟨rfl, Below.refl _ _, rfl, rfl⟩
              | 4, _, hi =>
                obtain rfl := Option.some.inj hi
                simp only [relF, List.getD_cons_zero, List.getD_cons_succ, List.foldl_cons, List.foldl_nil, dstAt, List.getElem?_cons_zero, List.getElem?_cons_succ, Option.bind_some]
                go_wp2_with fail
                exact ⟨rfl, Below.refl _ _, rfl, rfl⟩
              | 5, _, hi =>
                obtain rfl := Option.some.inj hi
                simp only [relF, List.getD_cons_zero, List.getD_cons_succ, List.foldl_cons, List.foldl_nil, dstAt, List.getElem?_cons_zero, List.getElem?_cons_succ, Option.bind_some]
                go_wp2_with fail
                exact ⟨rfl, Below.refl _ _, rfl, rfl⟩
              | 6, _, hi =>
                obtain rfl := Option.some.inj hi
                have h4 : vs 4 = _ := hv 4 (by decide)
                have h5 : vs 5 = _ := hv 5 (by decide)
                simp only [relF, List.getD_cons_zero, List.getD_cons_succ, List.foldl_cons, List.foldl_nil, dstAt, List.getElem?_cons_zero, List.getElem?_cons_succ, Option.bind_some]
                go_frame
                rw [h4, h5]
                go_wp2_with fail
                exact ⟨rfl, Below.refl _ _, rfl, rfl⟩
              | 7, _, hi =>
                obtain rfl := Option.some.inj hi
                have h6 : vs 6 = _ := hv 6 (by decide)
                have hcell := (HY.out.below (Nat.le_refl _) b2).get HYJ.out
                simp only [relF, List.getD_cons_zero, List.getD_cons_succ, List.foldl_cons, List.foldl_nil, dstAt, List.getElem?_cons_zero, List.getElem?_cons_succ, Option.bind_some]
                go_frame
                rw [h6]
                go_wp2_with fail
                exact ⟨rfl, Below.refl _ _, rfl, rfl⟩
              | 8, _, hi =>
                obtain rfl := Option.some.inj hi
                have h3 : vs 3 = _ := hv 3 (by decide)
                have h7 : vs 7 = _ := hv 7 (by decide)
                have hse := HNE.out
                simp only [relF, List.getD_cons_zero, List.getD_cons_succ, List.foldl_cons, List.foldl_nil, dstAt, List.getElem?_cons_zero, List.getElem?_cons_succ, Option.bind_some]
                go_frame
                rw [h3, h7]
                go_wp2_with fail
                exact ⟨rfl, Below.refl _ _, rfl, rfl⟩
              | 9, _, hi =>
                obtain rfl := Option.some.inj hi
                have h8 : vs 8 = _ := hv 8 (by decide)
                simp only [relF, List.getD_cons_zero, List.getD_cons_succ, List.foldl_cons, List.foldl_nil, dstAt, List.getElem?_cons_zero, List.getElem?_cons_succ, Option.bind_some]
                go_frame
                rw [h8]
                go_wp2_with fail
                exact ⟨rfl, Below.refl _ _, rfl, rfl⟩
              | 10, _, hi =>
                obtain rfl := Option.some.inj hi
                have h9 : vs 9 = _ := hv 9 (by decide)
                simp only [relF, List.getD_cons_zero, List.getD_cons_succ, List.foldl_cons, List.foldl_nil, dstAt, List.getElem?_cons_zero, List.getElem?_cons_succ, Option.bind_some]
                go_frame
                rw [h9]
                go_wp2_with fail
                exact ⟨rfl, Below.refl _ _, rfl, trivial⟩
              | 11, _, hi =>
                obtain rfl := Option.some.inj hi
                have h9 : vs 9 = _ := hv 9 (by decide)
                simp only [relF, List.getD_cons_zero, List.getD_cons_succ, List.foldl_cons, List.foldl_nil, dstAt, List.getElem?_cons_zero, List.getElem?_cons_succ, Option.bind_some]
                go_frame
                rw [h9]
                go_wp2_with fail
                exact ⟨rfl, Below.refl _ _, rfl, trivial⟩
              | 12, _, hi =>
                obtain rfl := Option.some.inj hi
                have h9 : vs 9 = _ := hv 9 (by decide)
                simp only [relF, List.getD_cons_zero, List.getD_cons_succ, List.foldl_cons, List.foldl_nil, dstAt, List.getElem?_cons_zero, List.getElem?_cons_succ, Option.bind_some]
                go_frame
                rw [h9]
                go_wp2_with fail
                exact ⟨rfl, Below.refl _ _, rfl, trivial⟩
              | 13, _, hi =>
                obtain rfl := Option.some.inj hi
                have h9 : vs 9 = _ := hv 9 (by decide)
                simp only [relF, List.getD_cons_zero, List.getD_cons_succ, List.foldl_cons, List.foldl_nil, dstAt, List.getElem?_cons_zero, List.getElem?_cons_succ, Option.bind_some]
                go_frame
                rw [h9]
                go_wp2_with fail
                exact ⟨rfl, Below.refl _ _, rfl, trivial⟩
              | 14, _, hi =>
                obtain rfl := Option.some.inj hi
                have h9 : vs 9 = _ := hv 9 (by decide)
                simp only [relF, List.getD_cons_zero, List.getD_cons_succ, List.foldl_cons, List.foldl_nil, dstAt, List.getElem?_cons_zero, List.getElem?_cons_succ, Option.bind_some]
                go_frame
                rw [h9]
                go_wp2_with fail
                exact ⟨rfl, Below.refl _ _, rfl, trivial⟩
              | 15, _, hi =>
                obtain rfl := Option.some.inj hi
                have h9 : vs 9 = _ := hv 9 (by decide)
                simp only [relF, List.getD_cons_zero, List.getD_cons_succ, List.foldl_cons, List.foldl_nil, dstAt, List.getElem?_cons_zero, List.getElem?_cons_succ, Option.bind_some]
                go_frame
                rw [h9]
                go_wp2_with fail
                exact ⟨rfl, Below.refl _ _, rfl, trivial⟩
              | 16, _, hi =>
                obtain rfl := Option.some.inj hi
                have h9 : vs 9 = _ := hv 9 (by decide)
                simp only [relF, List.getD_cons_zero, List.getD_cons_succ, List.foldl_cons, List.foldl_nil, dstAt, List.getElem?_cons_zero, List.getElem?_cons_succ, Option.bind_some]
                go_frame
                rw [h9]
                go_wp2_with fail
                exact ⟨rfl, Below.refl _ _, rfl, trivial⟩
              | 17, _, hi =>
                obtain rfl := Option.some.inj hi
                have h9 : vs 9 = _ := hv 9 (by decide)
                simp only [relF, List.getD_cons_zero, List.getD_cons_succ, List.foldl_cons, List.foldl_nil, dstAt, List.getElem?_cons_zero, List.getElem?_cons_succ, Option.bind_some]
                go_frame
                rw [h9]
                go_wp2_with fail
                exact ⟨rfl, Below.refl _ _, rfl, trivial⟩
              | 18, _, hi =>
                obtain rfl := Option.some.inj hi
                have h9 : vs 9 = _ := hv 9 (by decide)
                simp only [relF, List.getD_cons_zero, List.getD_cons_succ, List.foldl_cons, List.foldl_nil, dstAt, List.getElem?_cons_zero, List.getElem?_cons_succ, Option.bind_some]
                go_frame
                rw [h9]
                go_wp2_with fail
                exact ⟨rfl, Below.refl _ _, rfl, trivial⟩
              | 19, _, hi =>
                obtain rfl := Option.some.inj hi
                have h9 : vs 9 = _ := hv 9 (by decide)
                simp only [relF, List.getD_cons_zero, List.getD_cons_succ, List.foldl_cons, List.foldl_nil, dstAt, List.getElem?_cons_zero, List.getElem?_cons_succ, Option.bind_some]
                go_frame
                rw [h9]
                go_wp2_with fail
                exact ⟨rfl, Below.refl _ _, rfl, trivial⟩
              | 20, _, hi =>
                obtain rfl := Option.some.inj hi
                have h9 : vs 9 = _ := hv 9 (by decide)
                simp only [relF, List.getD_cons_zero, List.getD_cons_succ, List.foldl_cons, List.foldl_nil, dstAt, List.getElem?_cons_zero, List.getElem?_cons_succ, Option.bind_some]
                go_frame
                rw [h9]
                go_wp2_with fail
                exact ⟨rfl, Below.refl _ _, rfl, trivial⟩
              | 21, _, hi =>
                obtain rfl := Option.some.inj hi
                have h9 : vs 9 = _ := hv 9 (by decide)
                simp only [relF, List.getD_cons_zero, List.getD_cons_succ, List.foldl_cons, List.foldl_nil, dstAt, List.getElem?_cons_zero, List.getElem?_cons_succ, Option.bind_some]
                go_frame
                rw [h9]
                go_wp2_with fail
                exact ⟨rfl, Below.refl _ _, rfl, rfl⟩
              | nx + 22, him, _ => exact absurd him (by omega)
            · intro w2 b2 vs hv
              have hxb := HXB.out
              have hyb := HYB.out
              have h21 : vs 21 = _ := hv 21 (by decide)
              simp only [relF, List.drop_succ_cons, List.drop_zero, List.length_cons, List.length_nil, Nat.zero_add, Nat.reduceAdd, List.range, List.range.loop, List.foldl_cons, List.foldl_nil, dstAt, List.getElem?_cons_zero, List.getElem?_cons_succ, Option.bind_some]
              go_frame
              rw [h21]
              go_wp2_with fail
              go_roundw
              case rel => exact ⟨j + 1, by omega, by go_num, HNX, Br2.trans (b2.mono Br2.size)⟩
              case measure => simp [intOf]; omega
          · have hne : ((strOf x).toList == (strOf y).toList) = false := by rw [strOf_toList, strOf_toList, beq_eq_false_iff_ne]; exact hxy
            have hcc : isC x y = (Sha.of x == Sha.of y) := by unfold isC; rw [beq_eq_false_iff_ne.2 hxy]; simp
            have HNE := Lib.hid hne; clear hne hxy
            by_cases hse : Sha.of x = Sha.of y
            · have HFI : Hid (F = (x, y, true)) := Lib.hid (by rw [HST.out, if_pos (by rw [hcc, hse]; simp)])
              have hs2 : ((strOf (Sha.of x)).toList == (strOf (Sha.of y)).toList) = true := by rw [hse]; simp
              have HSE := Lib.hid hs2; clear hs2 hse hcc
              refine wp_region_rel [[], [], [0, 1], [2], [], [], [4, 5], [6], [3, 7], [8], [9], [9], [9, 10, 11], [9, 12], [9, 13], [9], [9], [9, 15, 16], [9, 17], [9, 18], [9, 14, 19], [9, 20]] (qfA bx ox cx by' oy cy k j x y) 78 (by kernel_rfl) (by kernel_rfl) (by kernel_rfl) (qfA_mono bx ox cx by' oy cy k j x y) ?_ ?_
              · intro ix op hi w2 b2 vs hv
                have him : ix < 22 := (List.getElem?_eq_some_iff.1 hi).1
                have hxb := HXB.out
                have hyb := HYB.out
                match ix, him, hi with
                | 0, _, hi =>
                  obtain rfl := Option.some.inj hi
                  simp only [relF, List.getD_cons_zero, List.getD_cons_succ, List.foldl_cons, List.foldl_nil, dstAt, List.getElem?_cons_zero, List.getElem?_cons_succ, Option.bind_some]
                  go_wp2_with fail
                  exact ⟨rfl, Below.refl _ _, rfl, rfl⟩
                | 1, _, hi =>
                  obtain rfl := Option.some.inj hi
                  simp only [relF, List.getD_cons_zero, List.getD_cons_succ, List.foldl_cons, List.foldl_nil, dstAt, List.getElem?_cons_zero, List.getElem?_cons_succ, Option.bind_some]
                  go_wp2_with fail
                  exact ⟨rfl, Below.refl _ _, rfl, rfl⟩
                | 2, _, hi =>
                  obtain rfl := Option.some.inj hi
                  have h0 : vs 0 = _ := hv 0 (by decide)
                  have h1 : vs 1 = _ := hv 1 (by decide)
                  simp only [relF, List.getD_cons_zero, List.getD_cons_succ, List.foldl_cons, List.foldl_nil, dstAt, List.getElem?_cons_zero, List.getElem?_cons_succ, Option.bind_some]
                  go_frame
                  rw [h0, h1]
                  go_wp2_with fail
                  exact ⟨rfl, Below.refl _ _, rfl, rfl⟩
                | 3, _, hi =>
                  obtain rfl := Option.some.inj hi
                  have h2 : vs 2 = _ := hv 2 (by decide)
                  have hcell := (HX.out.below (Nat.le_refl _) b2).get HXJ.out
                  simp only [relF, List.getD_cons_zero, List.getD_cons_succ, List.foldl_cons, List.foldl_nil, dstAt, List.getElem?_cons_zero, List.getElem?_cons_succ, Option.bind_some]
                  go_frame
                  rw [h2]
                  go_wp2_with fail
                  exact ⟨rfl, Below.refl _ _, rfl, rfl⟩
                | 4, _, hi =>
                  obtain rfl := Option.some.inj hi
                  simp only [relF, List.getD_cons_zero, List.getD_cons_succ, List.foldl_cons, List.foldl_nil, dstAt, List.getElem?_cons_zero, List.getElem?_cons_succ, Option.bind_some]
                  go_wp2_with fail
                  exact ⟨rfl, Below.refl _ _, rfl, rfl⟩
                | 5, _, hi =>
                  obtain rfl := Option.some.inj hi
                  simp only [relF, List.getD_cons_zero, List.getD_cons_succ, List.foldl_cons, List.foldl_nil, dstAt, List.getElem?_cons_zero, List.getElem?_cons_succ, Option.bind_some]
                  go_wp2_with fail
                  exact ⟨rfl, Below.refl _ _, rfl, rfl⟩
                | 6, _, hi =>
                  obtain rfl := Option.some.inj hi
                  have h4 : vs 4 = _ := hv 4 (by decide)
                  have h5 : vs 5 = _ := hv 5 (by decide)
                  simp only [relF, List.getD_cons_zero, List.getD_cons_succ, List.foldl_cons, List.foldl_nil, dstAt, List.getElem?_cons_zero, List.getElem?_cons_succ, Option.bind_some]
                  go_frame
                  rw [h4, h5]
                  go_wp2_with fail
                  exact ⟨rfl, Below.refl _ _, rfl, rfl⟩
                | 7, _, hi =>
                  obtain rfl := Option.some.inj hi
                  have h6 : vs 6 = _ := hv 6 (by decide)
                  have hcell := (HY.out.below (Nat.le_refl _) b2).get HYJ.out
                  simp only [relF, List.getD_cons_zero, List.getD_cons_succ, List.foldl_cons, List.foldl_nil, dstAt, List.getElem?_cons_zero, List.getElem?_cons_succ, Option.bind_some]
                  go_frame
                  rw [h6]
                  go_wp2_with fail
                  exact ⟨rfl, Below.refl _ _, rfl, rfl⟩
                | 8, _, hi =>
                  obtain rfl := Option.some.inj hi
                  have h3 : vs 3 = _ := hv 3 (by decide)
                  have h7 : vs 7 = _ := hv 7 (by decide)
                  have hse := HNE.out
                  simp only [relF, List.getD_cons_zero, List.getD_cons_succ, List.foldl_cons, List.foldl_nil, dstAt, List.getElem?_cons_zero, List.getElem?_cons_succ, Option.bind_some]
                  go_frame
                  rw [h3, h7]
                  go_wp2_with fail
                  exact ⟨rfl, Below.refl _ _, rfl, rfl⟩
                | 9, _, hi =>
                  obtain rfl := Option.some.inj hi
                  have h8 : vs 8 = _ := hv 8 (by decide)
                  simp only [relF, List.getD_cons_zero, List.getD_cons_succ, List.foldl_cons, List.foldl_nil, dstAt, List.getElem?_cons_zero, List.getElem?_cons_succ, Option.bind_some]
                  go_frame
                  rw [h8]
                  go_wp2_with fail
                  exact ⟨rfl, Below.refl _ _, rfl, rfl⟩
                | 10, _, hi =>
                  obtain rfl := Option.some.inj hi
                  have h9 : vs 9 = _ := hv 9 (by decide)
                  simp only [relF, List.getD_cons_zero, List.getD_cons_succ, List.foldl_cons, List.foldl_nil, dstAt, List.getElem?_cons_zero, List.getElem?_cons_succ, Option.bind_some]
                  go_frame
                  rw [h9]
                  go_wp2_with fail
                  exact ⟨rfl, Below.refl _ _, rfl, rfl⟩
                | 11, _, hi =>
                  obtain rfl := Option.some.inj hi
                  have h9 : vs 9 = _ := hv 9 (by decide)
                  simp only [relF, List.getD_cons_zero, List.getD_cons_succ, List.foldl_cons, List.foldl_nil, dstAt, List.getElem?_cons_zero, List.getElem?_cons_succ, Option.bind_some]
                  go_frame
                  rw [h9]
                  go_wp2_with fail
                  exact ⟨rfl, Below.refl _ _, rfl, rfl⟩
                | 12, _, hi =>
                  obtain rfl := Option.some.inj hi
                  have h9 : vs 9 = _ := hv 9 (by decide)
                  have h10 : vs 10 = _ := hv 10 (by decide)
                  have h11 : vs 11 = _ := hv 11 (by decide)
                  simp only [relF, List.getD_cons_zero, List.getD_cons_succ, List.foldl_cons, List.foldl_nil, dstAt, List.getElem?_cons_zero, List.getElem?_cons_succ, Option.bind_some]
                  go_frame
                  rw [h9, h10, h11]
                  go_wp2_with fail
                  exact ⟨rfl, Below.refl _ _, rfl, rfl⟩
                | 13, _, hi =>
                  obtain rfl := Option.some.inj hi
                  have h9 : vs 9 = _ := hv 9 (by decide)
                  have h12 : vs 12 = _ := hv 12 (by decide)
                  have hcell := (HX.out.below (Nat.le_refl _) b2).get HXJ.out
                  simp only [relF, List.getD_cons_zero, List.getD_cons_succ, List.foldl_cons, List.foldl_nil, dstAt, List.getElem?_cons_zero, List.getElem?_cons_succ, Option.bind_some]
                  go_frame
                  rw [h9, h12]
                  go_wp2_with fail
                  exact ⟨rfl, Below.refl _ _, rfl, rfl⟩
                | 14, _, hi =>
                  obtain rfl := Option.some.inj hi
                  have h9 : vs 9 = _ := hv 9 (by decide)
                  have h13 : vs 13 = _ := hv 13 (by decide)
                  simp only [relF, List.getD_cons_zero, List.getD_cons_succ, List.foldl_cons, List.foldl_nil, dstAt, List.getElem?_cons_zero, List.getElem?_cons_succ, Option.bind_some]
                  go_frame
                  rw [h9, h13]
                  go_wp2_with fail
                  refine (refOf_any w2 x (by omega)).mono ?_
                  rintro e w3 ⟨rfl, b3⟩
                  go_wp2_with fail
                  exact ⟨rfl, b3, rfl, rfl⟩
                | 15, _, hi =>
                  obtain rfl := Option.some.inj hi
                  have h9 : vs 9 = _ := hv 9 (by decide)
                  simp only [relF, List.getD_cons_zero, List.getD_cons_succ, List.foldl_cons, List.foldl_nil, dstAt, List.getElem?_cons_zero, List.getElem?_cons_succ, Option.bind_some]
                  go_frame
                  rw [h9]
                  go_wp2_with fail
                  exact ⟨rfl, Below.refl _ _, rfl, rfl⟩
                | 16, _, hi =>
                  obtain rfl := Option.some.inj hi
                  have h9 : vs 9 = _ := hv 9 (by decide)
                  simp only [relF, List.getD_cons_zero, List.getD_cons_succ, List.foldl_cons, List.foldl_nil, dstAt, List.getElem?_cons_zero, List.getElem?_cons_succ, Option.bind_some]
                  go_frame
                  rw [h9]
                  go_wp2_with fail
                  exact ⟨rfl, Below.refl _ _, rfl, rfl⟩
                | 17, _, hi =>
                  obtain rfl := Option.some.inj hi
                  have h9 : vs 9 = _ := hv 9 (by decide)
                  have h15 : vs 15 = _ := hv 15 (by decide)
                  have h16 : vs 16 = _ := hv 16 (by decide)
                  simp only [relF, List.getD_cons_zero, List.getD_cons_succ, List.foldl_cons, List.foldl_nil, dstAt, List.getElem?_cons_zero, List.getElem?_cons_succ, Option.bind_some]
                  go_frame
                  rw [h9, h15, h16]
                  go_wp2_with fail
                  exact ⟨rfl, Below.refl _ _, rfl, rfl⟩
                | 18, _, hi =>
                  obtain rfl := Option.some.inj hi
                  have h9 : vs 9 = _ := hv 9 (by decide)
                  have h17 : vs 17 = _ := hv 17 (by decide)
                  have hcell := (HY.out.below (Nat.le_refl _) b2).get HYJ.out
                  simp only [relF, List.getD_cons_zero, List.getD_cons_succ, List.foldl_cons, List.foldl_nil, dstAt, List.getElem?_cons_zero, List.getElem?_cons_succ, Option.bind_some]
                  go_frame
                  rw [h9, h17]
                  go_wp2_with fail
                  exact ⟨rfl, Below.refl _ _, rfl, rfl⟩
                | 19, _, hi =>
                  obtain rfl := Option.some.inj hi
                  have h9 : vs 9 = _ := hv 9 (by decide)
                  have h18 : vs 18 = _ := hv 18 (by decide)
                  simp only [relF, List.getD_cons_zero, List.getD_cons_succ, List.foldl_cons, List.foldl_nil, dstAt, List.getElem?_cons_zero, List.getElem?_cons_succ, Option.bind_some]
                  go_frame
                  rw [h9, h18]
                  go_wp2_with fail
                  refine (refOf_any w2 y (by omega)).mono ?_
                  rintro e w3 ⟨rfl, b3⟩
                  go_wp2_with fail
                  exact ⟨rfl, b3, rfl, rfl⟩
                | 20, _, hi =>
                  obtain rfl := Option.some.inj hi
                  have h9 : vs 9 = _ := hv 9 (by decide)
                  have h14 : vs 14 = _ := hv 14 (by decide)
                  have h19 : vs 19 = _ := hv 19 (by decide)
                  have hse := HSE.out
                  simp only [relF, List.getD_cons_zero, List.getD_cons_succ, List.foldl_cons, List.foldl_nil, dstAt, List.getElem?_cons_zero, List.getElem?_cons_succ, Option.bind_some]
                  go_frame
                  rw [h9, h14, h19]
                  go_wp2_with fail
                  exact ⟨rfl, Below.refl _ _, rfl, rfl⟩
                | 21, _, hi =>
                  obtain rfl := Option.some.inj hi
                  have h9 : vs 9 = _ := hv 9 (by decide)
                  have h20 : vs 20 = _ := hv 20 (by decide)
                  simp only [relF, List.getD_cons_zero, List.getD_cons_succ, List.foldl_cons, List.foldl_nil, dstAt, List.getElem?_cons_zero, List.getElem?_cons_succ, Option.bind_some]
                  go_frame
                  rw [h9, h20]
                  go_wp2_with fail
                  exact ⟨rfl, Below.refl _ _, rfl, rfl⟩
                | nx + 22, him, _ => exact absurd him (by omega)
              · intro w2 b2 vs hv
                have hxb := HXB.out
                have hyb := HYB.out
                have h21 : vs 21 = _ := hv 21 (by decide)
                simp only [relF, List.drop_succ_cons, List.drop_zero, List.length_cons, List.length_nil, Nat.zero_add, Nat.reduceAdd, List.range, List.range.loop, List.foldl_cons, List.foldl_nil, dstAt, List.getElem?_cons_zero, List.getElem?_cons_succ, Option.bind_some]
                go_frame
                rw [h21]
                have B2 := Br.trans (b2.mono Br.size)
                have HX2 := Lib.hid (HX.out.below (Nat.le_refl _) b2)
                have HY2 := Lib.hid (HY.out.below (Nat.le_refl _) b2)
                clear hv
                go_wp2_with fail
                refine wp_region_rel [[], [], [0, 1], [2], [], [], [4, 5], [6], [3], [7], []] (qfC bx ox cx by' oy cy k j x y) 78 (by kernel_rfl) (by kernel_rfl) (by kernel_rfl) (qfC_mono bx ox cx by' oy cy k j x y) ?_ ?_
                · intro ix op hi w3 b2 vs hv
                  have him : ix < 11 := (List.getElem?_eq_some_iff.1 hi).1
                  have hxb := HXB.out
                  have hyb := HYB.out
                  match ix, him, hi with
                  | 0, _, hi =>
                    obtain rfl := Option.some.inj hi
                    simp only [relF, List.getD_cons_zero, List.getD_cons_succ, List.foldl_cons, List.foldl_nil, dstAt, List.getElem?_cons_zero, List.getElem?_cons_succ, Option.bind_some]
                    go_wp2_with fail
                    exact ⟨rfl, Below.refl _ _, rfl, rfl⟩
                  | 1, _, hi =>
                    obtain rfl := Option.some.inj hi
                    simp only [relF, List.getD_cons_zero, List.getD_cons_succ, List.foldl_cons, List.foldl_nil, dstAt, List.getElem?_cons_zero, List.getElem?_cons_succ, Option.bind_some]
                    go_wp2_with fail
                    exact ⟨rfl, Below.refl _ _, rfl, rfl⟩
                  | 2, _, hi =>
                    obtain rfl := Option.some.inj hi
                    have h0 : vs 0 = _ := hv 0 (by decide)
                    have h1 : vs 1 = _ := hv 1 (by decide)
                    simp only [relF, List.getD_cons_zero, List.getD_cons_succ, List.foldl_cons, List.foldl_nil, dstAt, List.getElem?_cons_zero, List.getElem?_cons_succ, Option.bind_some]
                    go_frame
                    rw [h0, h1]
                    go_wp2_with fail
                    exact ⟨rfl, Below.refl _ _, rfl, rfl⟩
                  | 3, _, hi =>
                    obtain rfl := Option.some.inj hi
                    have h2 : vs 2 = _ := hv 2 (by decide)
                    have hcell := (HX2.out.below (Nat.le_refl _) b2).get HXJ.out
                    simp only [relF, List.getD_cons_zero, List.getD_cons_succ, List.foldl_cons, List.foldl_nil, dstAt, List.getElem?_cons_zero, List.getElem?_cons_succ, Option.bind_some]
                    go_frame
                    rw [h2]
                    go_wp2_with fail
                    exact ⟨rfl, Below.refl _ _, rfl, rfl⟩
                  | 4, _, hi =>
                    obtain rfl := Option.some.inj hi
                    simp only [relF, List.getD_cons_zero, List.getD_cons_succ, List.foldl_cons, List.foldl_nil, dstAt, List.getElem?_cons_zero, List.getElem?_cons_succ, Option.bind_some]
                    go_wp2_with fail
                    exact ⟨rfl, Below.refl _ _, rfl, rfl⟩
                  | 5, _, hi =>
                    obtain rfl := Option.some.inj hi
                    simp only [relF, List.getD_cons_zero, List.getD_cons_succ, List.foldl_cons, List.foldl_nil, dstAt, List.getElem?_cons_zero, List.getElem?_cons_succ, Option.bind_some]
                    go_wp2_with fail
                    exact ⟨rfl, Below.refl _ _, rfl, rfl⟩
                  | 6, _, hi =>
                    obtain rfl := Option.some.inj hi
                    have h4 : vs 4 = _ := hv 4 (by decide)
                    have h5 : vs 5 = _ := hv 5 (by decide)
                    simp only [relF, List.getD_cons_zero, List.getD_cons_succ, List.foldl_cons, List.foldl_nil, dstAt, List.getElem?_cons_zero, List.getElem?_cons_succ, Option.bind_some]
                    go_frame
                    rw [h4, h5]
                    go_wp2_with fail
                    exact ⟨rfl, Below.refl _ _, rfl, rfl⟩
                  | 7, _, hi =>
                    obtain rfl := Option.some.inj hi
                    have h6 : vs 6 = _ := hv 6 (by decide)
                    have hcell := (HY2.out.below (Nat.le_refl _) b2).get HYJ.out
                    simp only [relF, List.getD_cons_zero, List.getD_cons_succ, List.foldl_cons, List.foldl_nil, dstAt, List.getElem?_cons_zero, List.getElem?_cons_succ, Option.bind_some]
                    go_frame
                    rw [h6]
                    go_wp2_with fail
                    exact ⟨rfl, Below.refl _ _, rfl, rfl⟩
                  | 8, _, hi =>
                    obtain rfl := Option.some.inj hi
                    have h3 : vs 3 = _ := hv 3 (by decide)
                    simp only [relF, List.getD_cons_zero, List.getD_cons_succ, List.foldl_cons, List.foldl_nil, dstAt, List.getElem?_cons_zero, List.getElem?_cons_succ, Option.bind_some]
                    go_frame
                    rw [h3]
                    go_wp2_with fail
                    exact ⟨rfl, Below.refl _ _, rfl, rfl⟩
                  | 9, _, hi =>
                    obtain rfl := Option.some.inj hi
                    have h7 : vs 7 = _ := hv 7 (by decide)
                    simp only [relF, List.getD_cons_zero, List.getD_cons_succ, List.foldl_cons, List.foldl_nil, dstAt, List.getElem?_cons_zero, List.getElem?_cons_succ, Option.bind_some]
                    go_frame
                    rw [h7]
                    go_wp2_with fail
                    exact ⟨rfl, Below.refl _ _, rfl, rfl⟩
                  | 10, _, hi =>
                    obtain rfl := Option.some.inj hi
                    simp only [relF, List.getD_cons_zero, List.getD_cons_succ, List.foldl_cons, List.foldl_nil, dstAt, List.getElem?_cons_zero, List.getElem?_cons_succ, Option.bind_some]
                    go_wp2_with fail
                    exact ⟨rfl, Below.refl _ _, rfl, rfl⟩
                  | nx + 11, him, _ => exact absurd him (by omega)
                · intro w3 b2 vs hv
                  have hxb := HXB.out
                  have hyb := HYB.out
                  have h8 : vs 8 = _ := hv 8 (by decide)
                  have h9 : vs 9 = _ := hv 9 (by decide)
                  have h10 : vs 10 = _ := hv 10 (by decide)
                  simp only [relF, List.drop_succ_cons, List.drop_zero, List.length_cons, List.length_nil, Nat.zero_add, Nat.reduceAdd, List.range, List.range.loop, List.foldl_cons, List.foldl_nil, dstAt, List.getElem?_cons_zero, List.getElem?_cons_succ, Option.bind_some]
                  go_frame
                  rw [h8, h9, h10]
                  go_wp2_with fail
                  go_ret3
                  exact ⟨by rw [HFI.out]; rfl, B2.trans (b2.mono B2.size)⟩
            · have HNX : Hid (F = findC (X.drop (j + 1)) (Y.drop (j + 1))) := Lib.hid (by rw [HST.out, if_neg (by rw [hcc, beq_eq_false_iff_ne.2 hse]; decide)])
              have hs2 : ((strOf (Sha.of x)).toList == (strOf (Sha.of y)).toList) = false := by rw [strOf_toList, strOf_toList, beq_eq_false_iff_ne]; exact hse
              have HSE := Lib.hid hs2; clear hs2 hse hcc
              refine wp_region_rel [[], [], [0, 1], [2], [], [], [4, 5], [6], [3, 7], [8], [9], [9], [9, 10, 11], [9, 12], [9, 13], [9], [9], [9, 15, 16], [9, 17], [9, 18], [9, 14, 19], [9, 20]] (qfB bx ox cx by' oy cy k j x y) 78 (by kernel_rfl) (by kernel_rfl) (by kernel_rfl) (qfB_mono bx ox cx by' oy cy k j x y) ?_ ?_
              · intro ix op hi w2 b2 vs hv
                have him : ix < 22 := (List.getElem?_eq_some_iff.1 hi).1
                have hxb := HXB.out
                have hyb := HYB.out
                match ix, him, hi with
                | 0, _, hi =>
                  obtain rfl := Option.some.inj hi
                  simp only [relF, List.getD_cons_zero, List.getD_cons_succ, List.foldl_cons, List.foldl_nil, dstAt, List.getElem?_cons_zero, List.getElem?_cons_succ, Option.bind_some]
                  go_wp2_with fail
                  exact ⟨rfl, Below.refl _ _, rfl, rfl⟩
                | 1, _, hi =>
                  obtain rfl := Option.some.inj hi
                  simp only [relF, List.getD_cons_zero, List.getD_cons_succ, List.foldl_cons, List.foldl_nil, dstAt, List.getElem?_cons_zero, List.getElem?_cons_succ, Option.bind_some]
                  go_wp2_with fail
                  exact ⟨rfl, Below.refl _ _, rfl, rfl⟩
                | 2, _, hi =>
                  obtain rfl := Option.some.inj hi
                  have h0 : vs 0 = _ := hv 0 (by decide)
                  have h1 : vs 1 = _ := hv 1 (by decide)
                  simp only [relF, List.getD_cons_zero, List.getD_cons_succ, List.foldl_cons, List.foldl_nil, dstAt, List.getElem?_cons_zero, List.getElem?_cons_succ, Option.bind_some]
                  go_frame
                  rw [h0, h1]
                  go_wp2_with fail
                  exact ⟨rfl, Below.refl _ _, rfl, rfl⟩
                | 3, _, hi =>
                  obtain rfl := Option.some.inj hi
                  have h2 : vs 2 = _ := hv 2 (by decide)
                  have hcell := (HX.out.below (Nat.le_refl _) b2).get HXJ.out
                  simp only [relF, List.getD_cons_zero, List.getD_cons_succ, List.foldl_cons, List.foldl_nil, dstAt, List.getElem?_cons_zero, List.getElem?_cons_succ, Option.bind_some]
                  go_frame
                  rw [h2]
                  go_wp2_with fail
                  exact ⟨rfl, Below.refl _ _, rfl, rfl⟩
                | 4, _, hi =>
                  obtain rfl := Option.some.inj hi
                  simp only [relF, List.getD_cons_zero, List.getD_cons_succ, List.foldl_cons, List.foldl_nil, dstAt, List.getElem?_cons_zero, List.getElem?_cons_succ, Option.bind_some]
                  go_wp2_with fail
                  exact ⟨rfl, Below.refl _ _, rfl, rfl⟩
                | 5, _, hi =>
                  obtain rfl := Option.some.inj hi
                  simp only [relF, List.getD_cons_zero, List.getD_cons_succ, List.foldl_cons, List.foldl_nil, dstAt, List.getElem?_cons_zero, List.getElem?_cons_succ, Option.bind_some]
                  go_wp2_with fail
                  exact ⟨rfl, Below.refl _ _, rfl, rfl⟩
                | 6, _, hi =>
                  obtain rfl := Option.some.inj hi
                  have h4 : vs 4 = _ := hv 4 (by decide)
                  have h5 : vs 5 = _ := hv 5 (by decide)
                  simp only [relF, List.getD_cons_zero, List.getD_cons_succ, List.foldl_cons, List.foldl_nil, dstAt, List.getElem?_cons_zero, List.getElem?_cons_succ, Option.bind_some]
                  go_frame
                  rw [h4, h5]
                  go_wp2_with fail
                  exact ⟨rfl, Below.refl _ _, rfl, rfl⟩
                | 7, _, hi =>
                  obtain rfl := Option.some.inj hi
                  have h6 : vs 6 = _ := hv 6 (by decide)
                  have hcell := (HY.out.below (Nat.le_refl _) b2).get HYJ.out
                  simp only [relF, List.getD_cons_zero, List.getD_cons_succ, List.foldl_cons, List.foldl_nil, dstAt, List.getElem?_cons_zero, List.getElem?_cons_succ, Option.bind_some]
                  go_frame
                  rw [h6]
                  go_wp2_with fail
                  exact ⟨rfl, Below.refl _ _, rfl, rfl⟩
                | 8, _, hi =>
                  obtain rfl := Option.some.inj hi
                  have h3 : vs 3 = _ := hv 3 (by decide)
                  have h7 : vs 7 = _ := hv 7 (by decide)
                  have hse := HNE.out
                  simp only [relF, List.getD_cons_zero, List.getD_cons_succ, List.foldl_cons, List.foldl_nil, dstAt, List.getElem?_cons_zero, List.getElem?_cons_succ, Option.bind_some]
                  go_frame
                  rw [h3, h7]
                  go_wp2_with fail
                  exact ⟨rfl, Below.refl _ _, rfl, rfl⟩
                | 9, _, hi =>
                  obtain rfl := Option.some.inj hi
                  have h8 : vs 8 = _ := hv 8 (by decide)
                  simp only [relF, List.getD_cons_zero, List.getD_cons_succ, List.foldl_cons, List.foldl_nil, dstAt, List.getElem?_cons_zero, List.getElem?_cons_succ, Option.bind_some]
                  go_frame
                  rw [h8]
                  go_wp2_with fail
                  exact ⟨rfl, Below.refl _ _, rfl, rfl⟩
                | 10, _, hi =>
                  obtain rfl := Option.some.inj hi
                  have h9 : vs 9 = _ := hv 9 (by decide)
                  simp only [relF, List.getD_cons_zero, List.getD_cons_succ, List.foldl_cons, List.foldl_nil, dstAt, List.getElem?_cons_zero, List.getElem?_cons_succ, Option.bind_some]
                  go_frame
                  rw [h9]
                  go_wp2_with fail
                  exact ⟨rfl, Below.refl _ _, rfl, rfl⟩
                | 11, _, hi =>
                  obtain rfl := Option.some.inj hi
                  have h9 : vs 9 = _ := hv 9 (by decide)
                  simp only [relF, List.getD_cons_zero, List.getD_cons_succ, List.foldl_cons, List.foldl_nil, dstAt, List.getElem?_cons_zero, List.getElem?_cons_succ, Option.bind_some]
                  go_frame
                  rw [h9]
                  go_wp2_with fail
                  exact ⟨rfl, Below.refl _ _, rfl, rfl⟩
                | 12, _, hi =>
                  obtain rfl := Option.some.inj hi
                  have h9 : vs 9 = _ := hv 9 (by decide)
                  have h10 : vs 10 = _ := hv 10 (by decide)
                  have h11 : vs 11 = _ := hv 11 (by decide)
                  simp only [relF, List.getD_cons_zero, List.getD_cons_succ, List.foldl_cons, List.foldl_nil, dstAt, List.getElem?_cons_zero, List.getElem?_cons_succ, Option.bind_some]
                  go_frame
                  rw [h9, h10, h11]
                  go_wp2_with fail
                  exact ⟨rfl, Below.refl _ _, rfl, rfl⟩
                | 13, _, hi =>
                  obtain rfl := Option.some.inj hi
                  have h9 : vs 9 = _ := hv 9 (by decide)
                  have h12 : vs 12 = _ := hv 12 (by decide)
                  have hcell := (HX.out.below (Nat.le_refl _) b2).get HXJ.out
                  simp only [relF, List.getD_cons_zero, List.getD_cons_succ, List.foldl_cons, List.foldl_nil, dstAt, List.getElem?_cons_zero, List.getElem?_cons_succ, Option.bind_some]
                  go_frame
                  rw [h9, h12]
                  go_wp2_with fail
                  exact ⟨rfl, Below.refl _ _, rfl, rfl⟩
                | 14, _, hi =>
                  obtain rfl := Option.some.inj hi
                  have h9 : vs 9 = _ := hv 9 (by decide)
                  have h13 : vs 13 = _ := hv 13 (by decide)
                  simp only [relF, List.getD_cons_zero, List.getD_cons_succ, List.foldl_cons, List.foldl_nil, dstAt, List.getElem?_cons_zero, List.getElem?_cons_succ, Option.bind_some]
                  go_frame
                  rw [h9, h13]
                  go_wp2_with fail
                  refine (refOf_any w2 x (by omega)).mono ?_
                  rintro e w3 ⟨rfl, b3⟩
                  go_wp2_with fail
                  exact ⟨rfl, b3, rfl, rfl⟩
                | 15, _, hi =>
                  obtain rfl := Option.some.inj hi
                  have h9 : vs 9 = _ := hv 9 (by decide)
                  simp only [relF, List.getD_cons_zero, List.getD_cons_succ, List.foldl_cons, List.foldl_nil, dstAt, List.getElem?_cons_zero, List.getElem?_cons_succ, Option.bind_some]
                  go_frame
                  rw [h9]
                  go_wp2_with fail
                  exact ⟨rfl, Below.refl _ _, rfl, rfl⟩
                | 16, _, hi =>
                  obtain rfl := Option.some.inj hi
                  have h9 : vs 9 = _ := hv 9 (by decide)
                  simp only [relF, List.getD_cons_zero, List.getD_cons_succ, List.foldl_cons, List.foldl_nil, dstAt, List.getElem?_cons_zero, List.getElem?_cons_succ, Option.bind_some]
                  go_frame
                  rw [h9]
                  go_wp2_with fail
                  exact ⟨rfl, Below.refl _ _, rfl, rfl⟩
                | 17, _, hi =>
                  obtain rfl := Option.some.inj hi
                  have h9 : vs 9 = _ := hv 9 (by decide)
                  have h15 : vs 15 = _ := hv 15 (by decide)
                  have h16 : vs 16 = _ := hv 16 (by decide)
                  simp only [relF, List.getD_cons_zero, List.getD_cons_succ, List.foldl_cons, List.foldl_nil, dstAt, List.getElem?_cons_zero, List.getElem?_cons_succ, Option.bind_some]
                  go_frame
                  rw [h9, h15, h16]
                  go_wp2_with fail
                  exact ⟨rfl, Below.refl _ _, rfl, rfl⟩
                | 18, _, hi =>
                  obtain rfl := Option.some.inj hi
                  have h9 : vs 9 = _ := hv 9 (by decide)
                  have h17 : vs 17 = _ := hv 17 (by decide)
                  have hcell := (HY.out.below (Nat.le_refl _) b2).get HYJ.out
                  simp only [relF, List.getD_cons_zero, List.getD_cons_succ, List.foldl_cons, List.foldl_nil, dstAt, List.getElem?_cons_zero, List.getElem?_cons_succ, Option.bind_some]
                  go_frame
                  rw [h9, h17]
                  go_wp2_with fail
                  exact ⟨rfl, Below.refl _ _, rfl, rfl⟩
                | 19, _, hi =>
                  obtain rfl := Option.some.inj hi
                  have h9 : vs 9 = _ := hv 9 (by decide)
                  have h18 : vs 18 = _ := hv 18 (by decide)
                  simp only [relF, List.getD_cons_zero, List.getD_cons_succ, List.foldl_cons, List.foldl_nil, dstAt, List.getElem?_cons_zero, List.getElem?_cons_succ, Option.bind_some]
                  go_frame
                  rw [h9, h18]
                  go_wp2_with fail
                  refine (refOf_any w2 y (by omega)).mono ?_
                  rintro e w3 ⟨rfl, b3⟩
                  go_wp2_with fail
                  exact ⟨rfl, b3, rfl, rfl⟩
                | 20, _, hi =>
                  obtain rfl := Option.some.inj hi
                  have h9 : vs 9 = _ := hv 9 (by decide)
                  have h14 : vs 14 = _ := hv 14 (by decide)
                  have h19 : vs 19 = _ := hv 19 (by decide)
                  have hse := HSE.out
                  simp only [relF, List.getD_cons_zero, List.getD_cons_succ, List.foldl_cons, List.foldl_nil, dstAt, List.getElem?_cons_zero, List.getElem?_cons_succ, Option.bind_some]
                  go_frame
                  rw [h9, h14, h19]
                  go_wp2_with fail
                  exact ⟨rfl, Below.refl _ _, rfl, rfl⟩
                | 21, _, hi =>
                  obtain rfl := Option.some.inj hi
                  have h9 : vs 9 = _ := hv 9 (by decide)
                  have h20 : vs 20 = _ := hv 20 (by decide)
                  simp only [relF, List.getD_cons_zero, List.getD_cons_succ, List.foldl_cons, List.foldl_nil, dstAt, List.getElem?_cons_zero, List.getElem?_cons_succ, Option.bind_some]
                  go_frame
                  rw [h9, h20]
                  go_wp2_with fail
                  exact ⟨rfl, Below.refl _ _, rfl, rfl⟩
                | nx + 22, him, _ => exact absurd him (by omega)
              · intro w2 b2 vs hv
                have hxb := HXB.out
                have hyb := HYB.out
                have h21 : vs 21 = _ := hv 21 (by decide)
                simp only [relF, List.drop_succ_cons, List.drop_zero, List.length_cons, List.length_nil, Nat.zero_add, Nat.reduceAdd, List.range, List.range.loop, List.foldl_cons, List.foldl_nil, dstAt, List.getElem?_cons_zero, List.getElem?_cons_succ, Option.bind_some]
                go_frame
                rw [h21]
                go_wp2_with fail
                go_roundw
                case rel => exact ⟨j + 1, by omega, by go_num, HNX, Br2.trans (b2.mono Br2.size)⟩
                case measure => simp [intOf]; omega
        · obtain rfl : j = k := by omega
          have hf : F = ([], [], false) := by
            rw [hno.out, List.drop_of_length_le (by rw [HXL.out]; exact Nat.le_refl _)]; rfl
          have HFI := Lib.hid hf; clear hf
          go_wp2_with fail
          go_ret3
          exact ⟨by rw [HFI.out]; rfl, Br⟩

end Go.Proofs.YteljlnkjdajkgaaDoor
