/- The walk of the law TreeBinds. -/
import Derived.Test.YtbgahpbnlogdnaaDoorTreeTwice
namespace Go.Proofs.YtbgahpbnlogdnaaDoor
open Go.RowKit
set_option linter.unusedSimpArgs false
set_option linter.unusedVariables false

/-- hash.Of of one text's bytes: the parts, as a call's own argument lays them. -/
theorem part_one (w : World) (l : List UInt8) (hl : l.length ≤ 1000000000) :
    ∃ cap W, (convert 9 46 (.string (strOf l))).run Tryd.prog w = .ok (.slice (some ⟨w.heap.size, 0, none⟩) l.length cap) W ∧ Below w.heap.size w W ∧
      PartsV (W.alloc (.cells #[.slice (some ⟨w.heap.size, 0, none⟩) l.length cap] 46)) (.slice (some ⟨W.heap.size, 0, none⟩) 1 1) [l] := by
  obtain ⟨cap, W, h1, h2, h3, h4⟩ := str_bytes Tryd.under_str Tryd.under_u8s Tryd.under_b8 w l (by omega)
  exact ⟨cap, W, h1, h3, parts_new W 46 [.slice (some ⟨w.heap.size, 0, none⟩) l.length cap] [l] 1 rfl rfl (parts_1 h2.holds)⟩

/-- What the region's operations leave. -/
def bindA (B : Nat) (n i : Int) (m cap m' cap' : Nat) (o o' : Option Addr) (l l' a : List UInt8) (P Q : List (List UInt8)) (ix : Nat) (w : World) (v : Value) : Prop :=
  match ix with
  | 0 => v = .agg (byteCells a).toArray
  | 1 => v = .int .i64 (n)
  | 2 => v = .int .i64 (i)
  | 3 => v = .string (strOf l)
  | 4 => ∃ g : Nat, v = .slice (some ⟨g, 0, none⟩) 0 0
  | 5 => v = .slice o m cap
  | 6 => ∃ (q : Addr) (c : Nat), v = .slice (some q) m c ∧ HashesAt w (some q) m c P
  | 7 => v = .bool false
  | 8 => v = .bool true
  | 9 => v = .bool true
  | 10 => True
  | 11 => True
  | 12 => True
  | 13 => True
  | 14 => True
  | 15 => True
  | 16 => True
  | 17 => True
  | 18 => True
  | 19 => v = .bool true
  | 20 => v = .bool true
  | 21 => True
  | 22 => True
  | 23 => True
  | 24 => v = .bool true
  | _ => True

theorem bindA_mono (B : Nat) (n i : Int) (m cap m' cap' : Nat) (o o' : Option Addr) (l l' a : List UInt8) (P Q : List (List UInt8)) (jx : Nat) (w w' : World) (v : Value) (hb : Below w.heap.size w w') (h : bindA B n i m cap m' cap' o o' l l' a P Q jx w v) : bindA B n i m cap m' cap' o o' l l' a P Q jx w' v := by
  match jx, h with
  | 0, h => exact h
  | 1, h => exact h
  | 2, h => exact h
  | 3, h => exact h
  | 4, h => exact h
  | 5, h => exact h
  | 6, h => exact (let ⟨q, c, h1, h2⟩ := h; ⟨q, c, h1, h2.below (Nat.le_refl _) hb⟩)
  | 7, h => exact h
  | 8, h => exact h
  | 9, h => exact h
  | 10, h => exact trivial
  | 11, h => exact trivial
  | 12, h => exact trivial
  | 13, h => exact trivial
  | 14, h => exact trivial
  | 15, h => exact trivial
  | 16, h => exact trivial
  | 17, h => exact trivial
  | 18, h => exact trivial
  | 19, h => exact h
  | 20, h => exact h
  | 21, h => exact trivial
  | 22, h => exact trivial
  | 23, h => exact trivial
  | 24, h => exact h
  | _ + 25, h => exact trivial

/-- What the region's operations leave. -/
def bindB (B n i m cap m' cap' : Nat) (o o' : Option Addr) (l l' a : List UInt8) (P Q : List (List UInt8)) (ix : Nat) (w : World) (v : Value) : Prop :=
  match ix with
  | 0 => v = .agg (byteCells a).toArray
  | 1 => v = .int .i64 (n : Int)
  | 2 => v = .int .i64 (i : Int)
  | 3 => v = .string (strOf l)
  | 4 => ∃ g : Nat, v = .slice (some ⟨g, 0, none⟩) 0 0
  | 5 => v = .slice o m cap
  | 6 => ∃ (q : Addr) (c : Nat), v = .slice (some q) m c ∧ HashesAt w (some q) m c P
  | 7 => v = .bool false
  | 8 => v = .bool true
  | 9 => v = .bool true
  | 10 => True
  | 11 => True
  | 12 => True
  | 13 => True
  | 14 => True
  | 15 => True
  | 16 => True
  | 17 => True
  | 18 => True
  | 19 => v = .bool true
  | 20 => v = .bool true
  | 21 => True
  | 22 => True
  | 23 => True
  | 24 => v = .bool true
  | _ => True

theorem bindB_mono (B n i m cap m' cap' : Nat) (o o' : Option Addr) (l l' a : List UInt8) (P Q : List (List UInt8)) (jx : Nat) (w w' : World) (v : Value) (hb : Below w.heap.size w w') (h : bindB B n i m cap m' cap' o o' l l' a P Q jx w v) : bindB B n i m cap m' cap' o o' l l' a P Q jx w' v := by
  match jx, h with
  | 0, h => exact h
  | 1, h => exact h
  | 2, h => exact h
  | 3, h => exact h
  | 4, h => exact h
  | 5, h => exact h
  | 6, h => exact (let ⟨q, c, h1, h2⟩ := h; ⟨q, c, h1, h2.below (Nat.le_refl _) hb⟩)
  | 7, h => exact h
  | 8, h => exact h
  | 9, h => exact h
  | 10, h => exact trivial
  | 11, h => exact trivial
  | 12, h => exact trivial
  | 13, h => exact trivial
  | 14, h => exact trivial
  | 15, h => exact trivial
  | 16, h => exact trivial
  | 17, h => exact trivial
  | 18, h => exact trivial
  | 19, h => exact h
  | 20, h => exact h
  | 21, h => exact trivial
  | 22, h => exact trivial
  | 23, h => exact trivial
  | 24, h => exact h
  | _ + 25, h => exact trivial

/-- What the region's operations leave. -/
def bindC (B n i m cap m' cap' : Nat) (o o' : Option Addr) (l l' a : List UInt8) (P Q : List (List UInt8)) (ix : Nat) (w : World) (v : Value) : Prop :=
  match ix with
  | 0 => v = .agg (byteCells a).toArray
  | 1 => v = .int .i64 (n : Int)
  | 2 => v = .int .i64 (i : Int)
  | 3 => v = .string (strOf l)
  | 4 => ∃ g : Nat, v = .slice (some ⟨g, 0, none⟩) 0 0
  | 5 => v = .slice o m cap
  | 6 => ∃ (q : Addr) (c : Nat), v = .slice (some q) m c ∧ HashesAt w (some q) m c P
  | 7 => v = .bool true
  | 8 => v = .bool false
  | 9 => v = .bool false
  | 10 => v = .agg (byteCells a).toArray
  | 11 => v = .int .i64 (n : Int)
  | 12 => v = .int .i64 (i : Int)
  | 13 => v = .string (strOf l')
  | 14 => ∃ g : Nat, v = .slice (some ⟨g, 0, none⟩) 0 0
  | 15 => v = .slice o' m' cap'
  | 16 => ∃ (q : Addr) (c : Nat), v = .slice (some q) m' c ∧ HashesAt w (some q) m' c Q
  | 17 => v = .bool false
  | 18 => v = .bool true
  | 19 => v = .bool true
  | 20 => v = .bool true
  | 21 => True
  | 22 => True
  | 23 => True
  | 24 => v = .bool true
  | _ => True

theorem bindC_mono (B n i m cap m' cap' : Nat) (o o' : Option Addr) (l l' a : List UInt8) (P Q : List (List UInt8)) (jx : Nat) (w w' : World) (v : Value) (hb : Below w.heap.size w w') (h : bindC B n i m cap m' cap' o o' l l' a P Q jx w v) : bindC B n i m cap m' cap' o o' l l' a P Q jx w' v := by
  match jx, h with
  | 0, h => exact h
  | 1, h => exact h
  | 2, h => exact h
  | 3, h => exact h
  | 4, h => exact h
  | 5, h => exact h
  | 6, h => exact (let ⟨q, c, h1, h2⟩ := h; ⟨q, c, h1, h2.below (Nat.le_refl _) hb⟩)
  | 7, h => exact h
  | 8, h => exact h
  | 9, h => exact h
  | 10, h => exact h
  | 11, h => exact h
  | 12, h => exact h
  | 13, h => exact h
  | 14, h => exact h
  | 15, h => exact h
  | 16, h => exact (let ⟨q, c, h1, h2⟩ := h; ⟨q, c, h1, h2.below (Nat.le_refl _) hb⟩)
  | 17, h => exact h
  | 18, h => exact h
  | 19, h => exact h
  | 20, h => exact h
  | 21, h => exact trivial
  | 22, h => exact trivial
  | 23, h => exact trivial
  | 24, h => exact h
  | _ + 25, h => exact trivial

/-- What the region's operations leave. -/
def bindD (B n i m cap m' cap' : Nat) (o o' : Option Addr) (l l' a : List UInt8) (P Q : List (List UInt8)) (ix : Nat) (w : World) (v : Value) : Prop :=
  match ix with
  | 0 => v = .agg (byteCells a).toArray
  | 1 => v = .int .i64 (n : Int)
  | 2 => v = .int .i64 (i : Int)
  | 3 => v = .string (strOf l)
  | 4 => ∃ g : Nat, v = .slice (some ⟨g, 0, none⟩) 0 0
  | 5 => v = .slice o m cap
  | 6 => ∃ (q : Addr) (c : Nat), v = .slice (some q) m c ∧ HashesAt w (some q) m c P
  | 7 => v = .bool true
  | 8 => v = .bool false
  | 9 => v = .bool false
  | 10 => v = .agg (byteCells a).toArray
  | 11 => v = .int .i64 (n : Int)
  | 12 => v = .int .i64 (i : Int)
  | 13 => v = .string (strOf l')
  | 14 => ∃ g : Nat, v = .slice (some ⟨g, 0, none⟩) 0 0
  | 15 => v = .slice o' m' cap'
  | 16 => ∃ (q : Addr) (c : Nat), v = .slice (some q) m' c ∧ HashesAt w (some q) m' c Q
  | 17 => v = .bool true
  | 18 => v = .bool false
  | 19 => v = .bool false
  | 20 => v = .bool false
  | 21 => v = .string (strOf l)
  | 22 => v = .string (strOf l')
  | 23 => v = .bool true
  | 24 => v = .bool true
  | _ => True

theorem bindD_mono (B n i m cap m' cap' : Nat) (o o' : Option Addr) (l l' a : List UInt8) (P Q : List (List UInt8)) (jx : Nat) (w w' : World) (v : Value) (hb : Below w.heap.size w w') (h : bindD B n i m cap m' cap' o o' l l' a P Q jx w v) : bindD B n i m cap m' cap' o o' l l' a P Q jx w' v := by
  match jx, h with
  | 0, h => exact h
  | 1, h => exact h
  | 2, h => exact h
  | 3, h => exact h
  | 4, h => exact h
  | 5, h => exact h
  | 6, h => exact (let ⟨q, c, h1, h2⟩ := h; ⟨q, c, h1, h2.below (Nat.le_refl _) hb⟩)
  | 7, h => exact h
  | 8, h => exact h
  | 9, h => exact h
  | 10, h => exact h
  | 11, h => exact h
  | 12, h => exact h
  | 13, h => exact h
  | 14, h => exact h
  | 15, h => exact h
  | 16, h => exact (let ⟨q, c, h1, h2⟩ := h; ⟨q, c, h1, h2.below (Nat.le_refl _) hb⟩)
  | 17, h => exact h
  | 18, h => exact h
  | 19, h => exact h
  | 20, h => exact h
  | 21, h => exact h
  | 22, h => exact h
  | 23, h => exact h
  | 24, h => exact h
  | _ + 25, h => exact trivial

/-- What the region's operations leave. -/
def bindE (B n i m cap m' cap' : Nat) (o o' : Option Addr) (l l' a : List UInt8) (P Q : List (List UInt8)) (ix : Nat) (w : World) (v : Value) : Prop :=
  match ix with
  | 0 => v = .agg (byteCells a).toArray
  | 1 => v = .int .i64 (n : Int)
  | 2 => v = .int .i64 (i : Int)
  | 3 => v = .string (strOf l)
  | 4 => ∃ g : Nat, v = .slice (some ⟨g, 0, none⟩) 0 0
  | 5 => v = .slice o m cap
  | 6 => ∃ (q : Addr) (c : Nat), v = .slice (some q) m c ∧ HashesAt w (some q) m c P
  | 7 => v = .bool true
  | 8 => v = .bool false
  | 9 => v = .bool false
  | 10 => v = .agg (byteCells a).toArray
  | 11 => v = .int .i64 (n : Int)
  | 12 => v = .int .i64 (i : Int)
  | 13 => v = .string (strOf l')
  | 14 => ∃ g : Nat, v = .slice (some ⟨g, 0, none⟩) 0 0
  | 15 => v = .slice o' m' cap'
  | 16 => ∃ (q : Addr) (c : Nat), v = .slice (some q) m' c ∧ HashesAt w (some q) m' c Q
  | 17 => v = .bool true
  | 18 => v = .bool false
  | 19 => v = .bool false
  | 20 => v = .bool false
  | 21 => v = .string (strOf l)
  | 22 => v = .string (strOf l')
  | 23 => v = .bool false
  | 24 => v = .bool false
  | _ => True

theorem bindE_mono (B n i m cap m' cap' : Nat) (o o' : Option Addr) (l l' a : List UInt8) (P Q : List (List UInt8)) (jx : Nat) (w w' : World) (v : Value) (hb : Below w.heap.size w w') (h : bindE B n i m cap m' cap' o o' l l' a P Q jx w v) : bindE B n i m cap m' cap' o o' l l' a P Q jx w' v := by
  match jx, h with
  | 0, h => exact h
  | 1, h => exact h
  | 2, h => exact h
  | 3, h => exact h
  | 4, h => exact h
  | 5, h => exact h
  | 6, h => exact (let ⟨q, c, h1, h2⟩ := h; ⟨q, c, h1, h2.below (Nat.le_refl _) hb⟩)
  | 7, h => exact h
  | 8, h => exact h
  | 9, h => exact h
  | 10, h => exact h
  | 11, h => exact h
  | 12, h => exact h
  | 13, h => exact h
  | 14, h => exact h
  | 15, h => exact h
  | 16, h => exact (let ⟨q, c, h1, h2⟩ := h; ⟨q, c, h1, h2.below (Nat.le_refl _) hb⟩)
  | 17, h => exact h
  | 18, h => exact h
  | 19, h => exact h
  | 20, h => exact h
  | 21, h => exact h
  | 22, h => exact h
  | 23, h => exact h
  | 24, h => exact h
  | _ + 25, h => exact trivial

set_option maxRecDepth 100000 in
set_option maxHeartbeats 4000000 in
theorem binds_guard (w : World) (a : List UInt8) (ha : a.length = 32) (n : Int) (hn : (Lit.int .i64 n).wf = true) (i : Int) (hi : (Lit.int .i64 i).wf = true) (l l' : List UInt8) (hl : l.length ≤ 140737488351232) (hl' : l'.length ≤ 140737488351232) (o o' : Option Addr) (m cap m' cap' : Nat) (P Q : List (List UInt8)) (hP : HashesAt w o m cap P) (hQ : HashesAt w o' m' cap' Q) (hL : Laid w) (hg : 200 < l.length ∨ 200 < l'.length ∨ 40 < m ∨ 40 < m') :
    Calls Tryd.prog 9 #[.agg (byteCells a).toArray, .int .i64 n, .int .i64 i, .string (strOf l), .string (strOf l'), .slice o m cap, .slice o' m' cap'] w fun e w' => e = .returned (.bool true) ∧ Below w.heap.size w w' := by
  have hnb := wf_i64' hn
  have hib := wf_i64' hi
  clear hn hi
  have hst := strOf_size l
  have hst' := strOf_size l'
  have hPm : P.length = m := hP.1.1
  have hcap : m ≤ cap := hP.1.2.1
  have hmax : cap ≤ 9223372036854775807 := hP.1.2.2.1
  have hQm : Q.length = m' := hQ.1.1
  have hcap' : m' ≤ cap' := hQ.1.2.1
  have hmax' : cap' ≤ 9223372036854775807 := hQ.1.2.2.1
  obtain ⟨W0, hW0⟩ : ∃ W0, W0 = w.alloc (.cells (byteCells a).toArray 26) := ⟨_, rfl⟩
  have x7 : W0.heap[w.heap.size]? = some (.cells (byteCells a).toArray 26 (0, 0)) := by rw [hW0]; exact heap_alloc_new w _
  have b0 : Below w.heap.size w W0 := by rw [hW0]; exact (Below.refl _ _).alloc (Nat.le_refl _) _
  have HL := Lib.hid (hL.below b0); clear hL
  have HP0 := Lib.hid (hP.below (Nat.le_refl _) b0); clear hP
  have HQ0 := Lib.hid (hQ.below (Nat.le_refl _) b0); clear hQ
  have HW0 := Lib.hid hW0; clear hW0
  have HA := Lib.hid ha; clear ha
  go_enter Tryd.func9, Tryd.ntmps9
  go_wp2_with fail
  rw [← HW0.out]
  refine (awake_any W0 HL.out).mono ?_
  rintro e w1 ⟨rfl, b1'⟩
  have HL1 := Lib.hid (HL.out.below b1')
  have b1 := b0.trans (b1'.mono b0.size)
  by_cases h200 : 200 < l.length
  · have ht : decide ((200 : Int) < (l.length : Int)) = true := decide_eq_true (by omega)
    go_wp2_with fail
    refine (awake_any w1 HL1.out).mono ?_
    rintro e w2 ⟨rfl, b2⟩
    go_wp2_with fail
    go_ret
    exact ⟨rfl, b1.trans (b2.mono b1.size)⟩
  · have ht : decide ((200 : Int) < (l.length : Int)) = false := decide_eq_false (by omega)
    by_cases h201 : 200 < l'.length
    · have ht2 : decide ((200 : Int) < (l'.length : Int)) = true := decide_eq_true (by omega)
      go_wp2_with fail
      refine (awake_any w1 HL1.out).mono ?_
      rintro e w2 ⟨rfl, b2⟩
      go_wp2_with fail
      go_ret
      exact ⟨rfl, b1.trans (b2.mono b1.size)⟩
    · have ht2 : decide ((200 : Int) < (l'.length : Int)) = false := decide_eq_false (by omega)
      by_cases h40 : 40 < m
      · have ht3 : decide ((40 : Int) < (m : Int)) = true := decide_eq_true (by omega)
        go_wp2_with fail
        refine (awake_any w1 HL1.out).mono ?_
        rintro e w2 ⟨rfl, b2⟩
        go_wp2_with fail
        go_ret
        exact ⟨rfl, b1.trans (b2.mono b1.size)⟩
      · have ht3 : decide ((40 : Int) < (m : Int)) = false := decide_eq_false (by omega)
        have ht4 : decide ((40 : Int) < (m' : Int)) = true := decide_eq_true (by omega)
        go_wp2_with fail
        refine (awake_any w1 HL1.out).mono ?_
        rintro e w2 ⟨rfl, b2⟩
        go_wp2_with fail
        go_ret
        exact ⟨rfl, b1.trans (b2.mono b1.size)⟩

set_option maxRecDepth 100000 in
set_option maxHeartbeats 4000000 in
theorem binds_bad (w : World) (a : List UInt8) (ha : a.length = 32) (n : Int) (hn : (Lit.int .i64 n).wf = true) (i : Int) (hi : (Lit.int .i64 i).wf = true) (l l' : List UInt8) (hl : l.length ≤ 140737488351232) (hl' : l'.length ≤ 140737488351232) (o o' : Option Addr) (m cap m' cap' : Nat) (P Q : List (List UInt8)) (hP : HashesAt w o m cap P) (hQ : HashesAt w o' m' cap' Q) (hL : Laid w) (h200 : ¬ 200 < l.length) (h201 : ¬ 200 < l'.length) (h40 : ¬ 40 < m) (h41 : ¬ 40 < m') (hbad : badSide n i = true) :
    Calls Tryd.prog 9 #[.agg (byteCells a).toArray, .int .i64 n, .int .i64 i, .string (strOf l), .string (strOf l'), .slice o m cap, .slice o' m' cap'] w fun e w' => e = .returned (.bool true) ∧ Below w.heap.size w w' := by
  have hnb := wf_i64' hn
  have hib := wf_i64' hi
  clear hn hi
  have hst := strOf_size l
  have hst' := strOf_size l'
  have hPm : P.length = m := hP.1.1
  have hcap : m ≤ cap := hP.1.2.1
  have hmax : cap ≤ 9223372036854775807 := hP.1.2.2.1
  have hQm : Q.length = m' := hQ.1.1
  have hcap' : m' ≤ cap' := hQ.1.2.1
  have hmax' : cap' ≤ 9223372036854775807 := hQ.1.2.2.1
  obtain ⟨W0, hW0⟩ : ∃ W0, W0 = w.alloc (.cells (byteCells a).toArray 26) := ⟨_, rfl⟩
  have x7 : W0.heap[w.heap.size]? = some (.cells (byteCells a).toArray 26 (0, 0)) := by rw [hW0]; exact heap_alloc_new w _
  have b0 : Below w.heap.size w W0 := by rw [hW0]; exact (Below.refl _ _).alloc (Nat.le_refl _) _
  have HL := Lib.hid (hL.below b0); clear hL
  have HP0 := Lib.hid (hP.below (Nat.le_refl _) b0); clear hP
  have HQ0 := Lib.hid (hQ.below (Nat.le_refl _) b0); clear hQ
  have HW0 := Lib.hid hW0; clear hW0
  have HA := Lib.hid ha; clear ha
  have ht : decide ((200 : Int) < (l.length : Int)) = false := decide_eq_false (by omega)
  have ht2 : decide ((200 : Int) < (l'.length : Int)) = false := decide_eq_false (by omega)
  have ht3 : decide ((40 : Int) < (m : Int)) = false := decide_eq_false (by omega)
  have ht4 : decide ((40 : Int) < (m' : Int)) = false := decide_eq_false (by omega)
  go_enter Tryd.func9, Tryd.ntmps9
  go_wp2_with fail
  rw [← HW0.out]
  refine (awake_any W0 HL.out).mono ?_
  rintro e w1 ⟨rfl, b1'⟩
  have b1 := b0.trans (b1'.mono b0.size)
  have HL1 := Lib.hid (HL.out.below b1')
  have X7 := Lib.hid ((b1'.block _ (lt_of_block x7)).trans x7)
  have HP := Lib.hid (HP0.out.below (Nat.le_refl _) b1')
  have HQ := Lib.hid (HQ0.out.below (Nat.le_refl _) b1')
  clear x7 HW0 HL b0 b1' HP0 HQ0
  go_wp2_with fail
  refine wp_region_rel [[], [], [], [], [], [], [4, 5], [0, 1, 2, 3, 6], [7], [8], [9], [9], [9], [9], [9], [9], [9, 14, 15], [9, 10, 11, 12, 13, 16], [9, 17], [9, 18], [19], [20], [20], [20, 21, 22], [20, 23]] (bindA w.heap.size n i m cap m' cap' o o' l l' a P Q) 94 (by kernel_rfl) (by kernel_rfl) (by kernel_rfl) (bindA_mono w.heap.size n i m cap m' cap' o o' l l' a P Q) ?_ ?_
  · intro ix op hi w2 b2 vs hv
    have him : ix < 25 := (List.getElem?_eq_some_iff.1 hi).1
    have hL2 := HL1.out.below b2
    match ix, him, hi with
    | 0, _, hi =>
      obtain rfl := Option.some.inj hi
      simp only [relF, List.getD_cons_zero, List.getD_cons_succ, List.foldl_cons, List.foldl_nil, dstAt, List.getElem?_cons_zero, List.getElem?_cons_succ, Option.bind_some]
      go_wp2_with ((with_reducible show wpList _ _ _ (⟨some 41, _, _, _, _, _⟩ :: _) _ _); refine wpList_load_hash (op := ⟨some 41, _, _, _, _, _⟩) (by kernel_rfl) _ rfl w.heap.size rfl a HA.out _ _ ((b2.block _ (lt_of_block X7.out)).trans X7.out) ?_)
      exact ⟨rfl, Below.refl _ _, rfl, rfl⟩
    | 1, _, hi =>
      obtain rfl := Option.some.inj hi
      simp only [relF, List.getD_cons_zero, List.getD_cons_succ, List.foldl_cons, List.foldl_nil, dstAt, List.getElem?_cons_zero, List.getElem?_cons_succ, Option.bind_some]
      go_wp2_with fail
      exact ⟨rfl, Below.refl _ _, rfl, rfl⟩
    | 2, _, hi =>
      obtain rfl := Option.some.inj hi
      simp only [relF, List.getD_cons_zero, List.getD_cons_succ, List.foldl_cons, List.foldl_nil, dstAt, List.getElem?_cons_zero, List.getElem?_cons_succ, Option.bind_some]
      go_wp2_with fail
      exact ⟨rfl, Below.refl _ _, rfl, rfl⟩
    | 3, _, hi =>
      obtain rfl := Option.some.inj hi
      simp only [relF, List.getD_cons_zero, List.getD_cons_succ, List.foldl_cons, List.foldl_nil, dstAt, List.getElem?_cons_zero, List.getElem?_cons_succ, Option.bind_some]
      go_wp2_with fail
      exact ⟨rfl, Below.refl _ _, rfl, rfl⟩
    | 4, _, hi =>
      obtain rfl := Option.some.inj hi
      simp only [relF, List.getD_cons_zero, List.getD_cons_succ, List.foldl_cons, List.foldl_nil, dstAt, List.getElem?_cons_zero, List.getElem?_cons_succ, Option.bind_some]
      go_wp2_with fail
      exact ⟨rfl, (Below.refl _ _).alloc (Nat.le_refl _) _, rfl, w2.heap.size, rfl⟩
    | 5, _, hi =>
      obtain rfl := Option.some.inj hi
      simp only [relF, List.getD_cons_zero, List.getD_cons_succ, List.foldl_cons, List.foldl_nil, dstAt, List.getElem?_cons_zero, List.getElem?_cons_succ, Option.bind_some]
      go_wp2_with fail
      exact ⟨rfl, Below.refl _ _, rfl, rfl⟩
    | 6, _, hi =>
      obtain rfl := Option.some.inj hi
      obtain ⟨g4, e4⟩ := hv 4 (by decide)
      have h5 : vs 5 = _ := hv 5 (by decide)
      obtain ⟨q, cc, W, hrun, hs, hbb⟩ := HashesAt.copy (HP.out.below (Nat.le_refl _) b2) (by omega) ⟨g4, 0, none⟩
      simp only [relF, List.getD_cons_zero, List.getD_cons_succ, List.foldl_cons, List.foldl_nil, dstAt, List.getElem?_cons_zero, List.getElem?_cons_succ, Option.bind_some]
      go_frame
      rw [e4, h5]
      go_wp2_with ((with_reducible show wpList _ _ _ (⟨some 47, _, _, _, _, _⟩ :: _) _ _); refine wpList_append_ran (by kernel_rfl) _ _ _ rfl _ _ rfl rfl hrun ?_)
      exact ⟨rfl, hbb, rfl, q, cc, rfl, hs⟩
    | 7, _, hi =>
      obtain rfl := Option.some.inj hi
      have h0 : vs 0 = _ := hv 0 (by decide)
      have h1 : vs 1 = _ := hv 1 (by decide)
      have h2 : vs 2 = _ := hv 2 (by decide)
      have h3 : vs 3 = _ := hv 3 (by decide)
      obtain ⟨q6, c6, e6, s6⟩ := hv 6 (by decide)
      simp only [relF, List.getD_cons_zero, List.getD_cons_succ, List.foldl_cons, List.foldl_nil, dstAt, List.getElem?_cons_zero, List.getElem?_cons_succ, Option.bind_some]
      go_frame
      rw [h0, h1, h2, h3, e6]
      go_wp2_with fail
      refine (treeCheck_bad w2 a HA.out _ _ hbad _ _ _ _).mono ?_
      rintro e w3 ⟨rfl, b3⟩
      go_wp2_with fail
      exact ⟨rfl, b3, rfl, rfl⟩
    | 8, _, hi =>
      obtain rfl := Option.some.inj hi
      have h7 : vs 7 = _ := hv 7 (by decide)
      simp only [relF, List.getD_cons_zero, List.getD_cons_succ, List.foldl_cons, List.foldl_nil, dstAt, List.getElem?_cons_zero, List.getElem?_cons_succ, Option.bind_some]
      go_frame
      rw [h7]
      go_wp2_with fail
      exact ⟨rfl, Below.refl _ _, rfl, rfl⟩
    | 9, _, hi =>
      obtain rfl := Option.some.inj hi
      have h8 : vs 8 = _ := hv 8 (by decide)
      simp only [relF, List.getD_cons_zero, List.getD_cons_succ, List.foldl_cons, List.foldl_nil, dstAt, List.getElem?_cons_zero, List.getElem?_cons_succ, Option.bind_some]
      go_frame
      rw [h8]
      go_wp2_with fail
      exact ⟨rfl, Below.refl _ _, rfl, rfl⟩
    | 10, _, hi =>
      obtain rfl := Option.some.inj hi
      have h9 : vs 9 = _ := hv 9 (by decide)
      simp only [relF, List.getD_cons_zero, List.getD_cons_succ, List.foldl_cons, List.foldl_nil, dstAt, List.getElem?_cons_zero, List.getElem?_cons_succ, Option.bind_some]
      go_frame
      rw [h9]
      go_wp2_with fail
      exact ⟨rfl, Below.refl _ _, rfl, trivial⟩
    | 11, _, hi =>
      obtain rfl := Option.some.inj hi
      have h9 : vs 9 = _ := hv 9 (by decide)
      simp only [relF, List.getD_cons_zero, List.getD_cons_succ, List.foldl_cons, List.foldl_nil, dstAt, List.getElem?_cons_zero, List.getElem?_cons_succ, Option.bind_some]
      go_frame
      rw [h9]
      go_wp2_with fail
      exact ⟨rfl, Below.refl _ _, rfl, trivial⟩
    | 12, _, hi =>
      obtain rfl := Option.some.inj hi
      have h9 : vs 9 = _ := hv 9 (by decide)
      simp only [relF, List.getD_cons_zero, List.getD_cons_succ, List.foldl_cons, List.foldl_nil, dstAt, List.getElem?_cons_zero, List.getElem?_cons_succ, Option.bind_some]
      go_frame
      rw [h9]
      go_wp2_with fail
      exact ⟨rfl, Below.refl _ _, rfl, trivial⟩
    | 13, _, hi =>
      obtain rfl := Option.some.inj hi
      have h9 : vs 9 = _ := hv 9 (by decide)
      simp only [relF, List.getD_cons_zero, List.getD_cons_succ, List.foldl_cons, List.foldl_nil, dstAt, List.getElem?_cons_zero, List.getElem?_cons_succ, Option.bind_some]
      go_frame
      rw [h9]
      go_wp2_with fail
      exact ⟨rfl, Below.refl _ _, rfl, trivial⟩
    | 14, _, hi =>
      obtain rfl := Option.some.inj hi
      have h9 : vs 9 = _ := hv 9 (by decide)
      simp only [relF, List.getD_cons_zero, List.getD_cons_succ, List.foldl_cons, List.foldl_nil, dstAt, List.getElem?_cons_zero, List.getElem?_cons_succ, Option.bind_some]
      go_frame
      rw [h9]
      go_wp2_with fail
      exact ⟨rfl, Below.refl _ _, rfl, trivial⟩
    | 15, _, hi =>
      obtain rfl := Option.some.inj hi
      have h9 : vs 9 = _ := hv 9 (by decide)
      simp only [relF, List.getD_cons_zero, List.getD_cons_succ, List.foldl_cons, List.foldl_nil, dstAt, List.getElem?_cons_zero, List.getElem?_cons_succ, Option.bind_some]
      go_frame
      rw [h9]
      go_wp2_with fail
      exact ⟨rfl, Below.refl _ _, rfl, trivial⟩
    | 16, _, hi =>
      obtain rfl := Option.some.inj hi
      have h9 : vs 9 = _ := hv 9 (by decide)
      simp only [relF, List.getD_cons_zero, List.getD_cons_succ, List.foldl_cons, List.foldl_nil, dstAt, List.getElem?_cons_zero, List.getElem?_cons_succ, Option.bind_some]
      go_frame
      rw [h9]
      go_wp2_with fail
      exact ⟨rfl, Below.refl _ _, rfl, trivial⟩
    | 17, _, hi =>
      obtain rfl := Option.some.inj hi
      have h9 : vs 9 = _ := hv 9 (by decide)
      simp only [relF, List.getD_cons_zero, List.getD_cons_succ, List.foldl_cons, List.foldl_nil, dstAt, List.getElem?_cons_zero, List.getElem?_cons_succ, Option.bind_some]
      go_frame
      rw [h9]
      go_wp2_with fail
      exact ⟨rfl, Below.refl _ _, rfl, trivial⟩
    | 18, _, hi =>
      obtain rfl := Option.some.inj hi
      have h9 : vs 9 = _ := hv 9 (by decide)
      simp only [relF, List.getD_cons_zero, List.getD_cons_succ, List.foldl_cons, List.foldl_nil, dstAt, List.getElem?_cons_zero, List.getElem?_cons_succ, Option.bind_some]
      go_frame
      rw [h9]
      go_wp2_with fail
      exact ⟨rfl, Below.refl _ _, rfl, trivial⟩
    | 19, _, hi =>
      obtain rfl := Option.some.inj hi
      have h9 : vs 9 = _ := hv 9 (by decide)
      simp only [relF, List.getD_cons_zero, List.getD_cons_succ, List.foldl_cons, List.foldl_nil, dstAt, List.getElem?_cons_zero, List.getElem?_cons_succ, Option.bind_some]
      go_frame
      rw [h9]
      go_wp2_with fail
      exact ⟨rfl, Below.refl _ _, rfl, rfl⟩
    | 20, _, hi =>
      obtain rfl := Option.some.inj hi
      have h19 : vs 19 = _ := hv 19 (by decide)
      simp only [relF, List.getD_cons_zero, List.getD_cons_succ, List.foldl_cons, List.foldl_nil, dstAt, List.getElem?_cons_zero, List.getElem?_cons_succ, Option.bind_some]
      go_frame
      rw [h19]
      go_wp2_with fail
      exact ⟨rfl, Below.refl _ _, rfl, rfl⟩
    | 21, _, hi =>
      obtain rfl := Option.some.inj hi
      have h20 : vs 20 = _ := hv 20 (by decide)
      simp only [relF, List.getD_cons_zero, List.getD_cons_succ, List.foldl_cons, List.foldl_nil, dstAt, List.getElem?_cons_zero, List.getElem?_cons_succ, Option.bind_some]
      go_frame
      rw [h20]
      go_wp2_with fail
      exact ⟨rfl, Below.refl _ _, rfl, trivial⟩
    | 22, _, hi =>
      obtain rfl := Option.some.inj hi
      have h20 : vs 20 = _ := hv 20 (by decide)
      simp only [relF, List.getD_cons_zero, List.getD_cons_succ, List.foldl_cons, List.foldl_nil, dstAt, List.getElem?_cons_zero, List.getElem?_cons_succ, Option.bind_some]
      go_frame
      rw [h20]
      go_wp2_with fail
      exact ⟨rfl, Below.refl _ _, rfl, trivial⟩
    | 23, _, hi =>
      obtain rfl := Option.some.inj hi
      have h20 : vs 20 = _ := hv 20 (by decide)
      simp only [relF, List.getD_cons_zero, List.getD_cons_succ, List.foldl_cons, List.foldl_nil, dstAt, List.getElem?_cons_zero, List.getElem?_cons_succ, Option.bind_some]
      go_frame
      rw [h20]
      go_wp2_with fail
      exact ⟨rfl, Below.refl _ _, rfl, trivial⟩
    | 24, _, hi =>
      obtain rfl := Option.some.inj hi
      have h20 : vs 20 = _ := hv 20 (by decide)
      simp only [relF, List.getD_cons_zero, List.getD_cons_succ, List.foldl_cons, List.foldl_nil, dstAt, List.getElem?_cons_zero, List.getElem?_cons_succ, Option.bind_some]
      go_frame
      rw [h20]
      go_wp2_with fail
      exact ⟨rfl, Below.refl _ _, rfl, rfl⟩
    | nx + 25, him, _ => exact absurd him (by omega)
  · intro w2 b2 vs hv
    have hL2 := HL1.out.below b2
    have h24 : vs 24 = _ := hv 24 (by decide)
    simp only [relF, List.drop_succ_cons, List.drop_zero, List.length_cons, List.length_nil, Nat.zero_add, Nat.reduceAdd, List.range, List.range.loop, List.foldl_cons, List.foldl_nil, dstAt, List.getElem?_cons_zero, List.getElem?_cons_succ, Option.bind_some]
    go_frame
    rw [h24]
    go_wp2_with fail
    go_ret
    exact ⟨rfl, b1.trans (b2.mono b1.size)⟩

set_option maxRecDepth 100000 in
set_option maxHeartbeats 4000000 in
theorem binds_one (w : World) (a : List UInt8) (ha : a.length = 32) (n i : Nat) (hin : i < n) (hn30 : n ≤ 1073741824) (l l' : List UInt8) (hl : l.length ≤ 140737488351232) (hl' : l'.length ≤ 140737488351232) (o o' : Option Addr) (m cap m' cap' : Nat) (P Q : List (List UInt8)) (hP : HashesAt w o m cap P) (hQ : HashesAt w o' m' cap' Q) (hL : Laid w) (h200 : ¬ 200 < l.length) (h201 : ¬ 200 < l'.length) (h40 : ¬ 40 < m) (h41 : ¬ 40 < m') (hc1 : Tree.check a n i l P = false) :
    Calls Tryd.prog 9 #[.agg (byteCells a).toArray, .int .i64 (n : Int), .int .i64 (i : Int), .string (strOf l), .string (strOf l'), .slice o m cap, .slice o' m' cap'] w fun e w' => e = .returned (.bool true) ∧ Below w.heap.size w w' := by
  have HC1 := Lib.hid hc1; clear hc1
  have hst := strOf_size l
  have hst' := strOf_size l'
  have hPm : P.length = m := hP.1.1
  have hcap : m ≤ cap := hP.1.2.1
  have hmax : cap ≤ 9223372036854775807 := hP.1.2.2.1
  have hQm : Q.length = m' := hQ.1.1
  have hcap' : m' ≤ cap' := hQ.1.2.1
  have hmax' : cap' ≤ 9223372036854775807 := hQ.1.2.2.1
  obtain ⟨W0, hW0⟩ : ∃ W0, W0 = w.alloc (.cells (byteCells a).toArray 26) := ⟨_, rfl⟩
  have x7 : W0.heap[w.heap.size]? = some (.cells (byteCells a).toArray 26 (0, 0)) := by rw [hW0]; exact heap_alloc_new w _
  have b0 : Below w.heap.size w W0 := by rw [hW0]; exact (Below.refl _ _).alloc (Nat.le_refl _) _
  have HL := Lib.hid (hL.below b0); clear hL
  have HP0 := Lib.hid (hP.below (Nat.le_refl _) b0); clear hP
  have HQ0 := Lib.hid (hQ.below (Nat.le_refl _) b0); clear hQ
  have HW0 := Lib.hid hW0; clear hW0
  have HA := Lib.hid ha; clear ha
  have ht : decide ((200 : Int) < (l.length : Int)) = false := decide_eq_false (by omega)
  have ht2 : decide ((200 : Int) < (l'.length : Int)) = false := decide_eq_false (by omega)
  have ht3 : decide ((40 : Int) < (m : Int)) = false := decide_eq_false (by omega)
  have ht4 : decide ((40 : Int) < (m' : Int)) = false := decide_eq_false (by omega)
  go_enter Tryd.func9, Tryd.ntmps9
  go_wp2_with fail
  rw [← HW0.out]
  refine (awake_any W0 HL.out).mono ?_
  rintro e w1 ⟨rfl, b1'⟩
  have b1 := b0.trans (b1'.mono b0.size)
  have HL1 := Lib.hid (HL.out.below b1')
  have X7 := Lib.hid ((b1'.block _ (lt_of_block x7)).trans x7)
  have HP := Lib.hid (HP0.out.below (Nat.le_refl _) b1')
  have HQ := Lib.hid (HQ0.out.below (Nat.le_refl _) b1')
  clear x7 HW0 HL b0 b1' HP0 HQ0
  go_wp2_with fail
  refine wp_region_rel [[], [], [], [], [], [], [4, 5], [0, 1, 2, 3, 6], [7], [8], [9], [9], [9], [9], [9], [9], [9, 14, 15], [9, 10, 11, 12, 13, 16], [9, 17], [9, 18], [19], [20], [20], [20, 21, 22], [20, 23]] (bindB w.heap.size n i m cap m' cap' o o' l l' a P Q) 94 (by kernel_rfl) (by kernel_rfl) (by kernel_rfl) (bindB_mono w.heap.size n i m cap m' cap' o o' l l' a P Q) ?_ ?_
  · intro ix op hi w2 b2 vs hv
    have him : ix < 25 := (List.getElem?_eq_some_iff.1 hi).1
    have hL2 := HL1.out.below b2
    match ix, him, hi with
    | 0, _, hi =>
      obtain rfl := Option.some.inj hi
      simp only [relF, List.getD_cons_zero, List.getD_cons_succ, List.foldl_cons, List.foldl_nil, dstAt, List.getElem?_cons_zero, List.getElem?_cons_succ, Option.bind_some]
      go_wp2_with ((with_reducible show wpList _ _ _ (⟨some 41, _, _, _, _, _⟩ :: _) _ _); refine wpList_load_hash (op := ⟨some 41, _, _, _, _, _⟩) (by kernel_rfl) _ rfl w.heap.size rfl a HA.out _ _ ((b2.block _ (lt_of_block X7.out)).trans X7.out) ?_)
      exact ⟨rfl, Below.refl _ _, rfl, rfl⟩
    | 1, _, hi =>
      obtain rfl := Option.some.inj hi
      simp only [relF, List.getD_cons_zero, List.getD_cons_succ, List.foldl_cons, List.foldl_nil, dstAt, List.getElem?_cons_zero, List.getElem?_cons_succ, Option.bind_some]
      go_wp2_with fail
      exact ⟨rfl, Below.refl _ _, rfl, rfl⟩
    | 2, _, hi =>
      obtain rfl := Option.some.inj hi
      simp only [relF, List.getD_cons_zero, List.getD_cons_succ, List.foldl_cons, List.foldl_nil, dstAt, List.getElem?_cons_zero, List.getElem?_cons_succ, Option.bind_some]
      go_wp2_with fail
      exact ⟨rfl, Below.refl _ _, rfl, rfl⟩
    | 3, _, hi =>
      obtain rfl := Option.some.inj hi
      simp only [relF, List.getD_cons_zero, List.getD_cons_succ, List.foldl_cons, List.foldl_nil, dstAt, List.getElem?_cons_zero, List.getElem?_cons_succ, Option.bind_some]
      go_wp2_with fail
      exact ⟨rfl, Below.refl _ _, rfl, rfl⟩
    | 4, _, hi =>
      obtain rfl := Option.some.inj hi
      simp only [relF, List.getD_cons_zero, List.getD_cons_succ, List.foldl_cons, List.foldl_nil, dstAt, List.getElem?_cons_zero, List.getElem?_cons_succ, Option.bind_some]
      go_wp2_with fail
      exact ⟨rfl, (Below.refl _ _).alloc (Nat.le_refl _) _, rfl, w2.heap.size, rfl⟩
    | 5, _, hi =>
      obtain rfl := Option.some.inj hi
      simp only [relF, List.getD_cons_zero, List.getD_cons_succ, List.foldl_cons, List.foldl_nil, dstAt, List.getElem?_cons_zero, List.getElem?_cons_succ, Option.bind_some]
      go_wp2_with fail
      exact ⟨rfl, Below.refl _ _, rfl, rfl⟩
    | 6, _, hi =>
      obtain rfl := Option.some.inj hi
      obtain ⟨g4, e4⟩ := hv 4 (by decide)
      have h5 : vs 5 = _ := hv 5 (by decide)
      obtain ⟨q, cc, W, hrun, hs, hbb⟩ := HashesAt.copy (HP.out.below (Nat.le_refl _) b2) (by omega) ⟨g4, 0, none⟩
      simp only [relF, List.getD_cons_zero, List.getD_cons_succ, List.foldl_cons, List.foldl_nil, dstAt, List.getElem?_cons_zero, List.getElem?_cons_succ, Option.bind_some]
      go_frame
      rw [e4, h5]
      go_wp2_with ((with_reducible show wpList _ _ _ (⟨some 47, _, _, _, _, _⟩ :: _) _ _); refine wpList_append_ran (by kernel_rfl) _ _ _ rfl _ _ rfl rfl hrun ?_)
      exact ⟨rfl, hbb, rfl, q, cc, rfl, hs⟩
    | 7, _, hi =>
      obtain rfl := Option.some.inj hi
      have h0 : vs 0 = _ := hv 0 (by decide)
      have h1 : vs 1 = _ := hv 1 (by decide)
      have h2 : vs 2 = _ := hv 2 (by decide)
      have h3 : vs 3 = _ := hv 3 (by decide)
      obtain ⟨q6, c6, e6, s6⟩ := hv 6 (by decide)
      have hrn := treeCheck_any w2 a HA.out n i (by omega) (by omega) l (by omega) _ _ _ P s6 hL2
      rw [HC1.out] at hrn
      simp only [relF, List.getD_cons_zero, List.getD_cons_succ, List.foldl_cons, List.foldl_nil, dstAt, List.getElem?_cons_zero, List.getElem?_cons_succ, Option.bind_some]
      go_frame
      rw [h0, h1, h2, h3, e6]
      go_wp2_with fail
      refine (hrn).mono ?_
      rintro e w3 ⟨rfl, b3⟩
      go_wp2_with fail
      exact ⟨rfl, b3, rfl, rfl⟩
    | 8, _, hi =>
      obtain rfl := Option.some.inj hi
      have h7 : vs 7 = _ := hv 7 (by decide)
      simp only [relF, List.getD_cons_zero, List.getD_cons_succ, List.foldl_cons, List.foldl_nil, dstAt, List.getElem?_cons_zero, List.getElem?_cons_succ, Option.bind_some]
      go_frame
      rw [h7]
      go_wp2_with fail
      exact ⟨rfl, Below.refl _ _, rfl, rfl⟩
    | 9, _, hi =>
      obtain rfl := Option.some.inj hi
      have h8 : vs 8 = _ := hv 8 (by decide)
      simp only [relF, List.getD_cons_zero, List.getD_cons_succ, List.foldl_cons, List.foldl_nil, dstAt, List.getElem?_cons_zero, List.getElem?_cons_succ, Option.bind_some]
      go_frame
      rw [h8]
      go_wp2_with fail
      exact ⟨rfl, Below.refl _ _, rfl, rfl⟩
    | 10, _, hi =>
      obtain rfl := Option.some.inj hi
      have h9 : vs 9 = _ := hv 9 (by decide)
      simp only [relF, List.getD_cons_zero, List.getD_cons_succ, List.foldl_cons, List.foldl_nil, dstAt, List.getElem?_cons_zero, List.getElem?_cons_succ, Option.bind_some]
      go_frame
      rw [h9]
      go_wp2_with fail
      exact ⟨rfl, Below.refl _ _, rfl, trivial⟩
    | 11, _, hi =>
      obtain rfl := Option.some.inj hi
      have h9 : vs 9 = _ := hv 9 (by decide)
      simp only [relF, List.getD_cons_zero, List.getD_cons_succ, List.foldl_cons, List.foldl_nil, dstAt, List.getElem?_cons_zero, List.getElem?_cons_succ, Option.bind_some]
      go_frame
      rw [h9]
      go_wp2_with fail
      exact ⟨rfl, Below.refl _ _, rfl, trivial⟩
    | 12, _, hi =>
      obtain rfl := Option.some.inj hi
      have h9 : vs 9 = _ := hv 9 (by decide)
      simp only [relF, List.getD_cons_zero, List.getD_cons_succ, List.foldl_cons, List.foldl_nil, dstAt, List.getElem?_cons_zero, List.getElem?_cons_succ, Option.bind_some]
      go_frame
      rw [h9]
      go_wp2_with fail
      exact ⟨rfl, Below.refl _ _, rfl, trivial⟩
    | 13, _, hi =>
      obtain rfl := Option.some.inj hi
      have h9 : vs 9 = _ := hv 9 (by decide)
      simp only [relF, List.getD_cons_zero, List.getD_cons_succ, List.foldl_cons, List.foldl_nil, dstAt, List.getElem?_cons_zero, List.getElem?_cons_succ, Option.bind_some]
      go_frame
      rw [h9]
      go_wp2_with fail
      exact ⟨rfl, Below.refl _ _, rfl, trivial⟩
    | 14, _, hi =>
      obtain rfl := Option.some.inj hi
      have h9 : vs 9 = _ := hv 9 (by decide)
      simp only [relF, List.getD_cons_zero, List.getD_cons_succ, List.foldl_cons, List.foldl_nil, dstAt, List.getElem?_cons_zero, List.getElem?_cons_succ, Option.bind_some]
      go_frame
      rw [h9]
      go_wp2_with fail
      exact ⟨rfl, Below.refl _ _, rfl, trivial⟩
    | 15, _, hi =>
      obtain rfl := Option.some.inj hi
      have h9 : vs 9 = _ := hv 9 (by decide)
      simp only [relF, List.getD_cons_zero, List.getD_cons_succ, List.foldl_cons, List.foldl_nil, dstAt, List.getElem?_cons_zero, List.getElem?_cons_succ, Option.bind_some]
      go_frame
      rw [h9]
      go_wp2_with fail
      exact ⟨rfl, Below.refl _ _, rfl, trivial⟩
    | 16, _, hi =>
      obtain rfl := Option.some.inj hi
      have h9 : vs 9 = _ := hv 9 (by decide)
      simp only [relF, List.getD_cons_zero, List.getD_cons_succ, List.foldl_cons, List.foldl_nil, dstAt, List.getElem?_cons_zero, List.getElem?_cons_succ, Option.bind_some]
      go_frame
      rw [h9]
      go_wp2_with fail
      exact ⟨rfl, Below.refl _ _, rfl, trivial⟩
    | 17, _, hi =>
      obtain rfl := Option.some.inj hi
      have h9 : vs 9 = _ := hv 9 (by decide)
      simp only [relF, List.getD_cons_zero, List.getD_cons_succ, List.foldl_cons, List.foldl_nil, dstAt, List.getElem?_cons_zero, List.getElem?_cons_succ, Option.bind_some]
      go_frame
      rw [h9]
      go_wp2_with fail
      exact ⟨rfl, Below.refl _ _, rfl, trivial⟩
    | 18, _, hi =>
      obtain rfl := Option.some.inj hi
      have h9 : vs 9 = _ := hv 9 (by decide)
      simp only [relF, List.getD_cons_zero, List.getD_cons_succ, List.foldl_cons, List.foldl_nil, dstAt, List.getElem?_cons_zero, List.getElem?_cons_succ, Option.bind_some]
      go_frame
      rw [h9]
      go_wp2_with fail
      exact ⟨rfl, Below.refl _ _, rfl, trivial⟩
    | 19, _, hi =>
      obtain rfl := Option.some.inj hi
      have h9 : vs 9 = _ := hv 9 (by decide)
      simp only [relF, List.getD_cons_zero, List.getD_cons_succ, List.foldl_cons, List.foldl_nil, dstAt, List.getElem?_cons_zero, List.getElem?_cons_succ, Option.bind_some]
      go_frame
      rw [h9]
      go_wp2_with fail
      exact ⟨rfl, Below.refl _ _, rfl, rfl⟩
    | 20, _, hi =>
      obtain rfl := Option.some.inj hi
      have h19 : vs 19 = _ := hv 19 (by decide)
      simp only [relF, List.getD_cons_zero, List.getD_cons_succ, List.foldl_cons, List.foldl_nil, dstAt, List.getElem?_cons_zero, List.getElem?_cons_succ, Option.bind_some]
      go_frame
      rw [h19]
      go_wp2_with fail
      exact ⟨rfl, Below.refl _ _, rfl, rfl⟩
    | 21, _, hi =>
      obtain rfl := Option.some.inj hi
      have h20 : vs 20 = _ := hv 20 (by decide)
      simp only [relF, List.getD_cons_zero, List.getD_cons_succ, List.foldl_cons, List.foldl_nil, dstAt, List.getElem?_cons_zero, List.getElem?_cons_succ, Option.bind_some]
      go_frame
      rw [h20]
      go_wp2_with fail
      exact ⟨rfl, Below.refl _ _, rfl, trivial⟩
    | 22, _, hi =>
      obtain rfl := Option.some.inj hi
      have h20 : vs 20 = _ := hv 20 (by decide)
      simp only [relF, List.getD_cons_zero, List.getD_cons_succ, List.foldl_cons, List.foldl_nil, dstAt, List.getElem?_cons_zero, List.getElem?_cons_succ, Option.bind_some]
      go_frame
      rw [h20]
      go_wp2_with fail
      exact ⟨rfl, Below.refl _ _, rfl, trivial⟩
    | 23, _, hi =>
      obtain rfl := Option.some.inj hi
      have h20 : vs 20 = _ := hv 20 (by decide)
      simp only [relF, List.getD_cons_zero, List.getD_cons_succ, List.foldl_cons, List.foldl_nil, dstAt, List.getElem?_cons_zero, List.getElem?_cons_succ, Option.bind_some]
      go_frame
      rw [h20]
      go_wp2_with fail
      exact ⟨rfl, Below.refl _ _, rfl, trivial⟩
    | 24, _, hi =>
      obtain rfl := Option.some.inj hi
      have h20 : vs 20 = _ := hv 20 (by decide)
      simp only [relF, List.getD_cons_zero, List.getD_cons_succ, List.foldl_cons, List.foldl_nil, dstAt, List.getElem?_cons_zero, List.getElem?_cons_succ, Option.bind_some]
      go_frame
      rw [h20]
      go_wp2_with fail
      exact ⟨rfl, Below.refl _ _, rfl, rfl⟩
    | nx + 25, him, _ => exact absurd him (by omega)
  · intro w2 b2 vs hv
    have hL2 := HL1.out.below b2
    have h24 : vs 24 = _ := hv 24 (by decide)
    simp only [relF, List.drop_succ_cons, List.drop_zero, List.length_cons, List.length_nil, Nat.zero_add, Nat.reduceAdd, List.range, List.range.loop, List.foldl_cons, List.foldl_nil, dstAt, List.getElem?_cons_zero, List.getElem?_cons_succ, Option.bind_some]
    go_frame
    rw [h24]
    go_wp2_with fail
    go_ret
    exact ⟨rfl, b1.trans (b2.mono b1.size)⟩

set_option maxRecDepth 100000 in
set_option maxHeartbeats 4000000 in
theorem binds_two (w : World) (a : List UInt8) (ha : a.length = 32) (n i : Nat) (hin : i < n) (hn30 : n ≤ 1073741824) (l l' : List UInt8) (hl : l.length ≤ 140737488351232) (hl' : l'.length ≤ 140737488351232) (o o' : Option Addr) (m cap m' cap' : Nat) (P Q : List (List UInt8)) (hP : HashesAt w o m cap P) (hQ : HashesAt w o' m' cap' Q) (hL : Laid w) (h200 : ¬ 200 < l.length) (h201 : ¬ 200 < l'.length) (h40 : ¬ 40 < m) (h41 : ¬ 40 < m') (hc1 : Tree.check a n i l P = true) (hc2 : Tree.check a n i l' Q = false) :
    Calls Tryd.prog 9 #[.agg (byteCells a).toArray, .int .i64 (n : Int), .int .i64 (i : Int), .string (strOf l), .string (strOf l'), .slice o m cap, .slice o' m' cap'] w fun e w' => e = .returned (.bool true) ∧ Below w.heap.size w w' := by
  have HC1 := Lib.hid hc1; clear hc1
  have HC2 := Lib.hid hc2; clear hc2
  have hst := strOf_size l
  have hst' := strOf_size l'
  have hPm : P.length = m := hP.1.1
  have hcap : m ≤ cap := hP.1.2.1
  have hmax : cap ≤ 9223372036854775807 := hP.1.2.2.1
  have hQm : Q.length = m' := hQ.1.1
  have hcap' : m' ≤ cap' := hQ.1.2.1
  have hmax' : cap' ≤ 9223372036854775807 := hQ.1.2.2.1
  obtain ⟨W0, hW0⟩ : ∃ W0, W0 = w.alloc (.cells (byteCells a).toArray 26) := ⟨_, rfl⟩
  have x7 : W0.heap[w.heap.size]? = some (.cells (byteCells a).toArray 26 (0, 0)) := by rw [hW0]; exact heap_alloc_new w _
  have b0 : Below w.heap.size w W0 := by rw [hW0]; exact (Below.refl _ _).alloc (Nat.le_refl _) _
  have HL := Lib.hid (hL.below b0); clear hL
  have HP0 := Lib.hid (hP.below (Nat.le_refl _) b0); clear hP
  have HQ0 := Lib.hid (hQ.below (Nat.le_refl _) b0); clear hQ
  have HW0 := Lib.hid hW0; clear hW0
  have HA := Lib.hid ha; clear ha
  have ht : decide ((200 : Int) < (l.length : Int)) = false := decide_eq_false (by omega)
  have ht2 : decide ((200 : Int) < (l'.length : Int)) = false := decide_eq_false (by omega)
  have ht3 : decide ((40 : Int) < (m : Int)) = false := decide_eq_false (by omega)
  have ht4 : decide ((40 : Int) < (m' : Int)) = false := decide_eq_false (by omega)
  go_enter Tryd.func9, Tryd.ntmps9
  go_wp2_with fail
  rw [← HW0.out]
  refine (awake_any W0 HL.out).mono ?_
  rintro e w1 ⟨rfl, b1'⟩
  have b1 := b0.trans (b1'.mono b0.size)
  have HL1 := Lib.hid (HL.out.below b1')
  have X7 := Lib.hid ((b1'.block _ (lt_of_block x7)).trans x7)
  have HP := Lib.hid (HP0.out.below (Nat.le_refl _) b1')
  have HQ := Lib.hid (HQ0.out.below (Nat.le_refl _) b1')
  clear x7 HW0 HL b0 b1' HP0 HQ0
  go_wp2_with fail
  refine wp_region_rel [[], [], [], [], [], [], [4, 5], [0, 1, 2, 3, 6], [7], [8], [9], [9], [9], [9], [9], [9], [9, 14, 15], [9, 10, 11, 12, 13, 16], [9, 17], [9, 18], [19], [20], [20], [20, 21, 22], [20, 23]] (bindC w.heap.size n i m cap m' cap' o o' l l' a P Q) 94 (by kernel_rfl) (by kernel_rfl) (by kernel_rfl) (bindC_mono w.heap.size n i m cap m' cap' o o' l l' a P Q) ?_ ?_
  · intro ix op hi w2 b2 vs hv
    have him : ix < 25 := (List.getElem?_eq_some_iff.1 hi).1
    have hL2 := HL1.out.below b2
    match ix, him, hi with
    | 0, _, hi =>
      obtain rfl := Option.some.inj hi
      simp only [relF, List.getD_cons_zero, List.getD_cons_succ, List.foldl_cons, List.foldl_nil, dstAt, List.getElem?_cons_zero, List.getElem?_cons_succ, Option.bind_some]
      go_wp2_with ((with_reducible show wpList _ _ _ (⟨some 41, _, _, _, _, _⟩ :: _) _ _); refine wpList_load_hash (op := ⟨some 41, _, _, _, _, _⟩) (by kernel_rfl) _ rfl w.heap.size rfl a HA.out _ _ ((b2.block _ (lt_of_block X7.out)).trans X7.out) ?_)
      exact ⟨rfl, Below.refl _ _, rfl, rfl⟩
    | 1, _, hi =>
      obtain rfl := Option.some.inj hi
      simp only [relF, List.getD_cons_zero, List.getD_cons_succ, List.foldl_cons, List.foldl_nil, dstAt, List.getElem?_cons_zero, List.getElem?_cons_succ, Option.bind_some]
      go_wp2_with fail
      exact ⟨rfl, Below.refl _ _, rfl, rfl⟩
    | 2, _, hi =>
      obtain rfl := Option.some.inj hi
      simp only [relF, List.getD_cons_zero, List.getD_cons_succ, List.foldl_cons, List.foldl_nil, dstAt, List.getElem?_cons_zero, List.getElem?_cons_succ, Option.bind_some]
      go_wp2_with fail
      exact ⟨rfl, Below.refl _ _, rfl, rfl⟩
    | 3, _, hi =>
      obtain rfl := Option.some.inj hi
      simp only [relF, List.getD_cons_zero, List.getD_cons_succ, List.foldl_cons, List.foldl_nil, dstAt, List.getElem?_cons_zero, List.getElem?_cons_succ, Option.bind_some]
      go_wp2_with fail
      exact ⟨rfl, Below.refl _ _, rfl, rfl⟩
    | 4, _, hi =>
      obtain rfl := Option.some.inj hi
      simp only [relF, List.getD_cons_zero, List.getD_cons_succ, List.foldl_cons, List.foldl_nil, dstAt, List.getElem?_cons_zero, List.getElem?_cons_succ, Option.bind_some]
      go_wp2_with fail
      exact ⟨rfl, (Below.refl _ _).alloc (Nat.le_refl _) _, rfl, w2.heap.size, rfl⟩
    | 5, _, hi =>
      obtain rfl := Option.some.inj hi
      simp only [relF, List.getD_cons_zero, List.getD_cons_succ, List.foldl_cons, List.foldl_nil, dstAt, List.getElem?_cons_zero, List.getElem?_cons_succ, Option.bind_some]
      go_wp2_with fail
      exact ⟨rfl, Below.refl _ _, rfl, rfl⟩
    | 6, _, hi =>
      obtain rfl := Option.some.inj hi
      obtain ⟨g4, e4⟩ := hv 4 (by decide)
      have h5 : vs 5 = _ := hv 5 (by decide)
      obtain ⟨q, cc, W, hrun, hs, hbb⟩ := HashesAt.copy (HP.out.below (Nat.le_refl _) b2) (by omega) ⟨g4, 0, none⟩
      simp only [relF, List.getD_cons_zero, List.getD_cons_succ, List.foldl_cons, List.foldl_nil, dstAt, List.getElem?_cons_zero, List.getElem?_cons_succ, Option.bind_some]
      go_frame
      rw [e4, h5]
      go_wp2_with ((with_reducible show wpList _ _ _ (⟨some 47, _, _, _, _, _⟩ :: _) _ _); refine wpList_append_ran (by kernel_rfl) _ _ _ rfl _ _ rfl rfl hrun ?_)
      exact ⟨rfl, hbb, rfl, q, cc, rfl, hs⟩
    | 7, _, hi =>
      obtain rfl := Option.some.inj hi
      have h0 : vs 0 = _ := hv 0 (by decide)
      have h1 : vs 1 = _ := hv 1 (by decide)
      have h2 : vs 2 = _ := hv 2 (by decide)
      have h3 : vs 3 = _ := hv 3 (by decide)
      obtain ⟨q6, c6, e6, s6⟩ := hv 6 (by decide)
      have hrn := treeCheck_any w2 a HA.out n i (by omega) (by omega) l (by omega) _ _ _ P s6 hL2
      rw [HC1.out] at hrn
      simp only [relF, List.getD_cons_zero, List.getD_cons_succ, List.foldl_cons, List.foldl_nil, dstAt, List.getElem?_cons_zero, List.getElem?_cons_succ, Option.bind_some]
      go_frame
      rw [h0, h1, h2, h3, e6]
      go_wp2_with fail
      refine (hrn).mono ?_
      rintro e w3 ⟨rfl, b3⟩
      go_wp2_with fail
      exact ⟨rfl, b3, rfl, rfl⟩
    | 8, _, hi =>
      obtain rfl := Option.some.inj hi
      have h7 : vs 7 = _ := hv 7 (by decide)
      simp only [relF, List.getD_cons_zero, List.getD_cons_succ, List.foldl_cons, List.foldl_nil, dstAt, List.getElem?_cons_zero, List.getElem?_cons_succ, Option.bind_some]
      go_frame
      rw [h7]
      go_wp2_with fail
      exact ⟨rfl, Below.refl _ _, rfl, rfl⟩
    | 9, _, hi =>
      obtain rfl := Option.some.inj hi
      have h8 : vs 8 = _ := hv 8 (by decide)
      simp only [relF, List.getD_cons_zero, List.getD_cons_succ, List.foldl_cons, List.foldl_nil, dstAt, List.getElem?_cons_zero, List.getElem?_cons_succ, Option.bind_some]
      go_frame
      rw [h8]
      go_wp2_with fail
      exact ⟨rfl, Below.refl _ _, rfl, rfl⟩
    | 10, _, hi =>
      obtain rfl := Option.some.inj hi
      have h9 : vs 9 = _ := hv 9 (by decide)
      simp only [relF, List.getD_cons_zero, List.getD_cons_succ, List.foldl_cons, List.foldl_nil, dstAt, List.getElem?_cons_zero, List.getElem?_cons_succ, Option.bind_some]
      go_frame
      rw [h9]
      go_wp2_with ((with_reducible show wpList _ _ _ (⟨some 51, _, _, _, _, _⟩ :: _) _ _); refine wpList_load_hash (op := ⟨some 51, _, _, _, _, _⟩) (by kernel_rfl) _ rfl w.heap.size rfl a HA.out _ _ ((b2.block _ (lt_of_block X7.out)).trans X7.out) ?_)
      exact ⟨rfl, Below.refl _ _, rfl, rfl⟩
    | 11, _, hi =>
      obtain rfl := Option.some.inj hi
      have h9 : vs 9 = _ := hv 9 (by decide)
      simp only [relF, List.getD_cons_zero, List.getD_cons_succ, List.foldl_cons, List.foldl_nil, dstAt, List.getElem?_cons_zero, List.getElem?_cons_succ, Option.bind_some]
      go_frame
      rw [h9]
      go_wp2_with fail
      exact ⟨rfl, Below.refl _ _, rfl, rfl⟩
    | 12, _, hi =>
      obtain rfl := Option.some.inj hi
      have h9 : vs 9 = _ := hv 9 (by decide)
      simp only [relF, List.getD_cons_zero, List.getD_cons_succ, List.foldl_cons, List.foldl_nil, dstAt, List.getElem?_cons_zero, List.getElem?_cons_succ, Option.bind_some]
      go_frame
      rw [h9]
      go_wp2_with fail
      exact ⟨rfl, Below.refl _ _, rfl, rfl⟩
    | 13, _, hi =>
      obtain rfl := Option.some.inj hi
      have h9 : vs 9 = _ := hv 9 (by decide)
      simp only [relF, List.getD_cons_zero, List.getD_cons_succ, List.foldl_cons, List.foldl_nil, dstAt, List.getElem?_cons_zero, List.getElem?_cons_succ, Option.bind_some]
      go_frame
      rw [h9]
      go_wp2_with fail
      exact ⟨rfl, Below.refl _ _, rfl, rfl⟩
    | 14, _, hi =>
      obtain rfl := Option.some.inj hi
      have h9 : vs 9 = _ := hv 9 (by decide)
      simp only [relF, List.getD_cons_zero, List.getD_cons_succ, List.foldl_cons, List.foldl_nil, dstAt, List.getElem?_cons_zero, List.getElem?_cons_succ, Option.bind_some]
      go_frame
      rw [h9]
      go_wp2_with fail
      exact ⟨rfl, (Below.refl _ _).alloc (Nat.le_refl _) _, rfl, w2.heap.size, rfl⟩
    | 15, _, hi =>
      obtain rfl := Option.some.inj hi
      have h9 : vs 9 = _ := hv 9 (by decide)
      simp only [relF, List.getD_cons_zero, List.getD_cons_succ, List.foldl_cons, List.foldl_nil, dstAt, List.getElem?_cons_zero, List.getElem?_cons_succ, Option.bind_some]
      go_frame
      rw [h9]
      go_wp2_with fail
      exact ⟨rfl, Below.refl _ _, rfl, rfl⟩
    | 16, _, hi =>
      obtain rfl := Option.some.inj hi
      have h9 : vs 9 = _ := hv 9 (by decide)
      obtain ⟨g14, e14⟩ := hv 14 (by decide)
      have h15 : vs 15 = _ := hv 15 (by decide)
      obtain ⟨q, cc, W, hrun, hs, hbb⟩ := HashesAt.copy (HQ.out.below (Nat.le_refl _) b2) (by omega) ⟨g14, 0, none⟩
      simp only [relF, List.getD_cons_zero, List.getD_cons_succ, List.foldl_cons, List.foldl_nil, dstAt, List.getElem?_cons_zero, List.getElem?_cons_succ, Option.bind_some]
      go_frame
      rw [h9, e14, h15]
      go_wp2_with ((with_reducible show wpList _ _ _ (⟨some 57, _, _, _, _, _⟩ :: _) _ _); refine wpList_append_ran (by kernel_rfl) _ _ _ rfl _ _ rfl rfl hrun ?_)
      exact ⟨rfl, hbb, rfl, q, cc, rfl, hs⟩
    | 17, _, hi =>
      obtain rfl := Option.some.inj hi
      have h9 : vs 9 = _ := hv 9 (by decide)
      have h10 : vs 10 = _ := hv 10 (by decide)
      have h11 : vs 11 = _ := hv 11 (by decide)
      have h12 : vs 12 = _ := hv 12 (by decide)
      have h13 : vs 13 = _ := hv 13 (by decide)
      obtain ⟨q16, c16, e16, s16⟩ := hv 16 (by decide)
      have hrn := treeCheck_any w2 a HA.out n i (by omega) (by omega) l' (by omega) _ _ _ Q s16 hL2
      rw [HC2.out] at hrn
      simp only [relF, List.getD_cons_zero, List.getD_cons_succ, List.foldl_cons, List.foldl_nil, dstAt, List.getElem?_cons_zero, List.getElem?_cons_succ, Option.bind_some]
      go_frame
      rw [h9, h10, h11, h12, h13, e16]
      go_wp2_with fail
      refine (hrn).mono ?_
      rintro e w3 ⟨rfl, b3⟩
      go_wp2_with fail
      exact ⟨rfl, b3, rfl, rfl⟩
    | 18, _, hi =>
      obtain rfl := Option.some.inj hi
      have h9 : vs 9 = _ := hv 9 (by decide)
      have h17 : vs 17 = _ := hv 17 (by decide)
      simp only [relF, List.getD_cons_zero, List.getD_cons_succ, List.foldl_cons, List.foldl_nil, dstAt, List.getElem?_cons_zero, List.getElem?_cons_succ, Option.bind_some]
      go_frame
      rw [h9, h17]
      go_wp2_with fail
      exact ⟨rfl, Below.refl _ _, rfl, rfl⟩
    | 19, _, hi =>
      obtain rfl := Option.some.inj hi
      have h9 : vs 9 = _ := hv 9 (by decide)
      have h18 : vs 18 = _ := hv 18 (by decide)
      simp only [relF, List.getD_cons_zero, List.getD_cons_succ, List.foldl_cons, List.foldl_nil, dstAt, List.getElem?_cons_zero, List.getElem?_cons_succ, Option.bind_some]
      go_frame
      rw [h9, h18]
      go_wp2_with fail
      exact ⟨rfl, Below.refl _ _, rfl, rfl⟩
    | 20, _, hi =>
      obtain rfl := Option.some.inj hi
      have h19 : vs 19 = _ := hv 19 (by decide)
      simp only [relF, List.getD_cons_zero, List.getD_cons_succ, List.foldl_cons, List.foldl_nil, dstAt, List.getElem?_cons_zero, List.getElem?_cons_succ, Option.bind_some]
      go_frame
      rw [h19]
      go_wp2_with fail
      exact ⟨rfl, Below.refl _ _, rfl, rfl⟩
    | 21, _, hi =>
      obtain rfl := Option.some.inj hi
      have h20 : vs 20 = _ := hv 20 (by decide)
      simp only [relF, List.getD_cons_zero, List.getD_cons_succ, List.foldl_cons, List.foldl_nil, dstAt, List.getElem?_cons_zero, List.getElem?_cons_succ, Option.bind_some]
      go_frame
      rw [h20]
      go_wp2_with fail
      exact ⟨rfl, Below.refl _ _, rfl, trivial⟩
    | 22, _, hi =>
      obtain rfl := Option.some.inj hi
      have h20 : vs 20 = _ := hv 20 (by decide)
      simp only [relF, List.getD_cons_zero, List.getD_cons_succ, List.foldl_cons, List.foldl_nil, dstAt, List.getElem?_cons_zero, List.getElem?_cons_succ, Option.bind_some]
      go_frame
      rw [h20]
      go_wp2_with fail
      exact ⟨rfl, Below.refl _ _, rfl, trivial⟩
    | 23, _, hi =>
      obtain rfl := Option.some.inj hi
      have h20 : vs 20 = _ := hv 20 (by decide)
      simp only [relF, List.getD_cons_zero, List.getD_cons_succ, List.foldl_cons, List.foldl_nil, dstAt, List.getElem?_cons_zero, List.getElem?_cons_succ, Option.bind_some]
      go_frame
      rw [h20]
      go_wp2_with fail
      exact ⟨rfl, Below.refl _ _, rfl, trivial⟩
    | 24, _, hi =>
      obtain rfl := Option.some.inj hi
      have h20 : vs 20 = _ := hv 20 (by decide)
      simp only [relF, List.getD_cons_zero, List.getD_cons_succ, List.foldl_cons, List.foldl_nil, dstAt, List.getElem?_cons_zero, List.getElem?_cons_succ, Option.bind_some]
      go_frame
      rw [h20]
      go_wp2_with fail
      exact ⟨rfl, Below.refl _ _, rfl, rfl⟩
    | nx + 25, him, _ => exact absurd him (by omega)
  · intro w2 b2 vs hv
    have hL2 := HL1.out.below b2
    have h24 : vs 24 = _ := hv 24 (by decide)
    simp only [relF, List.drop_succ_cons, List.drop_zero, List.length_cons, List.length_nil, Nat.zero_add, Nat.reduceAdd, List.range, List.range.loop, List.foldl_cons, List.foldl_nil, dstAt, List.getElem?_cons_zero, List.getElem?_cons_succ, Option.bind_some]
    go_frame
    rw [h24]
    go_wp2_with fail
    go_ret
    exact ⟨rfl, b1.trans (b2.mono b1.size)⟩

set_option maxRecDepth 100000 in
set_option maxHeartbeats 4000000 in
theorem binds_same (w : World) (a : List UInt8) (ha : a.length = 32) (n i : Nat) (hin : i < n) (hn30 : n ≤ 1073741824) (l l' : List UInt8) (hl : l.length ≤ 140737488351232) (hl' : l'.length ≤ 140737488351232) (o o' : Option Addr) (m cap m' cap' : Nat) (P Q : List (List UInt8)) (hP : HashesAt w o m cap P) (hQ : HashesAt w o' m' cap' Q) (hL : Laid w) (h200 : ¬ 200 < l.length) (h201 : ¬ 200 < l'.length) (h40 : ¬ 40 < m) (h41 : ¬ 40 < m') (hc1 : Tree.check a n i l P = true) (hc2 : Tree.check a n i l' Q = true) (hll : l = l') :
    Calls Tryd.prog 9 #[.agg (byteCells a).toArray, .int .i64 (n : Int), .int .i64 (i : Int), .string (strOf l), .string (strOf l'), .slice o m cap, .slice o' m' cap'] w fun e w' => e = .returned (.bool true) ∧ Below w.heap.size w w' := by
  have HC1 := Lib.hid hc1; clear hc1
  have HC2 := Lib.hid hc2; clear hc2
  have h1 : ((strOf l).toList == (strOf l').toList) = true := by rw [hll]; simp
  have HLL := Lib.hid h1; clear h1 hll
  have hst := strOf_size l
  have hst' := strOf_size l'
  have hPm : P.length = m := hP.1.1
  have hcap : m ≤ cap := hP.1.2.1
  have hmax : cap ≤ 9223372036854775807 := hP.1.2.2.1
  have hQm : Q.length = m' := hQ.1.1
  have hcap' : m' ≤ cap' := hQ.1.2.1
  have hmax' : cap' ≤ 9223372036854775807 := hQ.1.2.2.1
  obtain ⟨W0, hW0⟩ : ∃ W0, W0 = w.alloc (.cells (byteCells a).toArray 26) := ⟨_, rfl⟩
  have x7 : W0.heap[w.heap.size]? = some (.cells (byteCells a).toArray 26 (0, 0)) := by rw [hW0]; exact heap_alloc_new w _
  have b0 : Below w.heap.size w W0 := by rw [hW0]; exact (Below.refl _ _).alloc (Nat.le_refl _) _
  have HL := Lib.hid (hL.below b0); clear hL
  have HP0 := Lib.hid (hP.below (Nat.le_refl _) b0); clear hP
  have HQ0 := Lib.hid (hQ.below (Nat.le_refl _) b0); clear hQ
  have HW0 := Lib.hid hW0; clear hW0
  have HA := Lib.hid ha; clear ha
  have ht : decide ((200 : Int) < (l.length : Int)) = false := decide_eq_false (by omega)
  have ht2 : decide ((200 : Int) < (l'.length : Int)) = false := decide_eq_false (by omega)
  have ht3 : decide ((40 : Int) < (m : Int)) = false := decide_eq_false (by omega)
  have ht4 : decide ((40 : Int) < (m' : Int)) = false := decide_eq_false (by omega)
  go_enter Tryd.func9, Tryd.ntmps9
  go_wp2_with fail
  rw [← HW0.out]
  refine (awake_any W0 HL.out).mono ?_
  rintro e w1 ⟨rfl, b1'⟩
  have b1 := b0.trans (b1'.mono b0.size)
  have HL1 := Lib.hid (HL.out.below b1')
  have X7 := Lib.hid ((b1'.block _ (lt_of_block x7)).trans x7)
  have HP := Lib.hid (HP0.out.below (Nat.le_refl _) b1')
  have HQ := Lib.hid (HQ0.out.below (Nat.le_refl _) b1')
  clear x7 HW0 HL b0 b1' HP0 HQ0
  go_wp2_with fail
  refine wp_region_rel [[], [], [], [], [], [], [4, 5], [0, 1, 2, 3, 6], [7], [8], [9], [9], [9], [9], [9], [9], [9, 14, 15], [9, 10, 11, 12, 13, 16], [9, 17], [9, 18], [19], [20], [20], [20, 21, 22], [20, 23]] (bindD w.heap.size n i m cap m' cap' o o' l l' a P Q) 94 (by kernel_rfl) (by kernel_rfl) (by kernel_rfl) (bindD_mono w.heap.size n i m cap m' cap' o o' l l' a P Q) ?_ ?_
  · intro ix op hi w2 b2 vs hv
    have him : ix < 25 := (List.getElem?_eq_some_iff.1 hi).1
    have hL2 := HL1.out.below b2
    match ix, him, hi with
    | 0, _, hi =>
      obtain rfl := Option.some.inj hi
      simp only [relF, List.getD_cons_zero, List.getD_cons_succ, List.foldl_cons, List.foldl_nil, dstAt, List.getElem?_cons_zero, List.getElem?_cons_succ, Option.bind_some]
      go_wp2_with ((with_reducible show wpList _ _ _ (⟨some 41, _, _, _, _, _⟩ :: _) _ _); refine wpList_load_hash (op := ⟨some 41, _, _, _, _, _⟩) (by kernel_rfl) _ rfl w.heap.size rfl a HA.out _ _ ((b2.block _ (lt_of_block X7.out)).trans X7.out) ?_)
      exact ⟨rfl, Below.refl _ _, rfl, rfl⟩
    | 1, _, hi =>
      obtain rfl := Option.some.inj hi
      simp only [relF, List.getD_cons_zero, List.getD_cons_succ, List.foldl_cons, List.foldl_nil, dstAt, List.getElem?_cons_zero, List.getElem?_cons_succ, Option.bind_some]
      go_wp2_with fail
      exact ⟨rfl, Below.refl _ _, rfl, rfl⟩
    | 2, _, hi =>
      obtain rfl := Option.some.inj hi
      simp only [relF, List.getD_cons_zero, List.getD_cons_succ, List.foldl_cons, List.foldl_nil, dstAt, List.getElem?_cons_zero, List.getElem?_cons_succ, Option.bind_some]
      go_wp2_with fail
      exact ⟨rfl, Below.refl _ _, rfl, rfl⟩
    | 3, _, hi =>
      obtain rfl := Option.some.inj hi
      simp only [relF, List.getD_cons_zero, List.getD_cons_succ, List.foldl_cons, List.foldl_nil, dstAt, List.getElem?_cons_zero, List.getElem?_cons_succ, Option.bind_some]
      go_wp2_with fail
      exact ⟨rfl, Below.refl _ _, rfl, rfl⟩
    | 4, _, hi =>
      obtain rfl := Option.some.inj hi
      simp only [relF, List.getD_cons_zero, List.getD_cons_succ, List.foldl_cons, List.foldl_nil, dstAt, List.getElem?_cons_zero, List.getElem?_cons_succ, Option.bind_some]
      go_wp2_with fail
      exact ⟨rfl, (Below.refl _ _).alloc (Nat.le_refl _) _, rfl, w2.heap.size, rfl⟩
    | 5, _, hi =>
      obtain rfl := Option.some.inj hi
      simp only [relF, List.getD_cons_zero, List.getD_cons_succ, List.foldl_cons, List.foldl_nil, dstAt, List.getElem?_cons_zero, List.getElem?_cons_succ, Option.bind_some]
      go_wp2_with fail
      exact ⟨rfl, Below.refl _ _, rfl, rfl⟩
    | 6, _, hi =>
      obtain rfl := Option.some.inj hi
      obtain ⟨g4, e4⟩ := hv 4 (by decide)
      have h5 : vs 5 = _ := hv 5 (by decide)
      obtain ⟨q, cc, W, hrun, hs, hbb⟩ := HashesAt.copy (HP.out.below (Nat.le_refl _) b2) (by omega) ⟨g4, 0, none⟩
      simp only [relF, List.getD_cons_zero, List.getD_cons_succ, List.foldl_cons, List.foldl_nil, dstAt, List.getElem?_cons_zero, List.getElem?_cons_succ, Option.bind_some]
      go_frame
      rw [e4, h5]
      go_wp2_with ((with_reducible show wpList _ _ _ (⟨some 47, _, _, _, _, _⟩ :: _) _ _); refine wpList_append_ran (by kernel_rfl) _ _ _ rfl _ _ rfl rfl hrun ?_)
      exact ⟨rfl, hbb, rfl, q, cc, rfl, hs⟩
    | 7, _, hi =>
      obtain rfl := Option.some.inj hi
      have h0 : vs 0 = _ := hv 0 (by decide)
      have h1 : vs 1 = _ := hv 1 (by decide)
      have h2 : vs 2 = _ := hv 2 (by decide)
      have h3 : vs 3 = _ := hv 3 (by decide)
      obtain ⟨q6, c6, e6, s6⟩ := hv 6 (by decide)
      have hrn := treeCheck_any w2 a HA.out n i (by omega) (by omega) l (by omega) _ _ _ P s6 hL2
      rw [HC1.out] at hrn
      simp only [relF, List.getD_cons_zero, List.getD_cons_succ, List.foldl_cons, List.foldl_nil, dstAt, List.getElem?_cons_zero, List.getElem?_cons_succ, Option.bind_some]
      go_frame
      rw [h0, h1, h2, h3, e6]
      go_wp2_with fail
      refine (hrn).mono ?_
      rintro e w3 ⟨rfl, b3⟩
      go_wp2_with fail
      exact ⟨rfl, b3, rfl, rfl⟩
    | 8, _, hi =>
      obtain rfl := Option.some.inj hi
      have h7 : vs 7 = _ := hv 7 (by decide)
      simp only [relF, List.getD_cons_zero, List.getD_cons_succ, List.foldl_cons, List.foldl_nil, dstAt, List.getElem?_cons_zero, List.getElem?_cons_succ, Option.bind_some]
      go_frame
      rw [h7]
      go_wp2_with fail
      exact ⟨rfl, Below.refl _ _, rfl, rfl⟩
    | 9, _, hi =>
      obtain rfl := Option.some.inj hi
      have h8 : vs 8 = _ := hv 8 (by decide)
      simp only [relF, List.getD_cons_zero, List.getD_cons_succ, List.foldl_cons, List.foldl_nil, dstAt, List.getElem?_cons_zero, List.getElem?_cons_succ, Option.bind_some]
      go_frame
      rw [h8]
      go_wp2_with fail
      exact ⟨rfl, Below.refl _ _, rfl, rfl⟩
    | 10, _, hi =>
      obtain rfl := Option.some.inj hi
      have h9 : vs 9 = _ := hv 9 (by decide)
      simp only [relF, List.getD_cons_zero, List.getD_cons_succ, List.foldl_cons, List.foldl_nil, dstAt, List.getElem?_cons_zero, List.getElem?_cons_succ, Option.bind_some]
      go_frame
      rw [h9]
      go_wp2_with ((with_reducible show wpList _ _ _ (⟨some 51, _, _, _, _, _⟩ :: _) _ _); refine wpList_load_hash (op := ⟨some 51, _, _, _, _, _⟩) (by kernel_rfl) _ rfl w.heap.size rfl a HA.out _ _ ((b2.block _ (lt_of_block X7.out)).trans X7.out) ?_)
      exact ⟨rfl, Below.refl _ _, rfl, rfl⟩
    | 11, _, hi =>
      obtain rfl := Option.some.inj hi
      have h9 : vs 9 = _ := hv 9 (by decide)
      simp only [relF, List.getD_cons_zero, List.getD_cons_succ, List.foldl_cons, List.foldl_nil, dstAt, List.getElem?_cons_zero, List.getElem?_cons_succ, Option.bind_some]
      go_frame
      rw [h9]
      go_wp2_with fail
      exact ⟨rfl, Below.refl _ _, rfl, rfl⟩
    | 12, _, hi =>
      obtain rfl := Option.some.inj hi
      have h9 : vs 9 = _ := hv 9 (by decide)
      simp only [relF, List.getD_cons_zero, List.getD_cons_succ, List.foldl_cons, List.foldl_nil, dstAt, List.getElem?_cons_zero, List.getElem?_cons_succ, Option.bind_some]
      go_frame
      rw [h9]
      go_wp2_with fail
      exact ⟨rfl, Below.refl _ _, rfl, rfl⟩
    | 13, _, hi =>
      obtain rfl := Option.some.inj hi
      have h9 : vs 9 = _ := hv 9 (by decide)
      simp only [relF, List.getD_cons_zero, List.getD_cons_succ, List.foldl_cons, List.foldl_nil, dstAt, List.getElem?_cons_zero, List.getElem?_cons_succ, Option.bind_some]
      go_frame
      rw [h9]
      go_wp2_with fail
      exact ⟨rfl, Below.refl _ _, rfl, rfl⟩
    | 14, _, hi =>
      obtain rfl := Option.some.inj hi
      have h9 : vs 9 = _ := hv 9 (by decide)
      simp only [relF, List.getD_cons_zero, List.getD_cons_succ, List.foldl_cons, List.foldl_nil, dstAt, List.getElem?_cons_zero, List.getElem?_cons_succ, Option.bind_some]
      go_frame
      rw [h9]
      go_wp2_with fail
      exact ⟨rfl, (Below.refl _ _).alloc (Nat.le_refl _) _, rfl, w2.heap.size, rfl⟩
    | 15, _, hi =>
      obtain rfl := Option.some.inj hi
      have h9 : vs 9 = _ := hv 9 (by decide)
      simp only [relF, List.getD_cons_zero, List.getD_cons_succ, List.foldl_cons, List.foldl_nil, dstAt, List.getElem?_cons_zero, List.getElem?_cons_succ, Option.bind_some]
      go_frame
      rw [h9]
      go_wp2_with fail
      exact ⟨rfl, Below.refl _ _, rfl, rfl⟩
    | 16, _, hi =>
      obtain rfl := Option.some.inj hi
      have h9 : vs 9 = _ := hv 9 (by decide)
      obtain ⟨g14, e14⟩ := hv 14 (by decide)
      have h15 : vs 15 = _ := hv 15 (by decide)
      obtain ⟨q, cc, W, hrun, hs, hbb⟩ := HashesAt.copy (HQ.out.below (Nat.le_refl _) b2) (by omega) ⟨g14, 0, none⟩
      simp only [relF, List.getD_cons_zero, List.getD_cons_succ, List.foldl_cons, List.foldl_nil, dstAt, List.getElem?_cons_zero, List.getElem?_cons_succ, Option.bind_some]
      go_frame
      rw [h9, e14, h15]
      go_wp2_with ((with_reducible show wpList _ _ _ (⟨some 57, _, _, _, _, _⟩ :: _) _ _); refine wpList_append_ran (by kernel_rfl) _ _ _ rfl _ _ rfl rfl hrun ?_)
      exact ⟨rfl, hbb, rfl, q, cc, rfl, hs⟩
    | 17, _, hi =>
      obtain rfl := Option.some.inj hi
      have h9 : vs 9 = _ := hv 9 (by decide)
      have h10 : vs 10 = _ := hv 10 (by decide)
      have h11 : vs 11 = _ := hv 11 (by decide)
      have h12 : vs 12 = _ := hv 12 (by decide)
      have h13 : vs 13 = _ := hv 13 (by decide)
      obtain ⟨q16, c16, e16, s16⟩ := hv 16 (by decide)
      have hrn := treeCheck_any w2 a HA.out n i (by omega) (by omega) l' (by omega) _ _ _ Q s16 hL2
      rw [HC2.out] at hrn
      simp only [relF, List.getD_cons_zero, List.getD_cons_succ, List.foldl_cons, List.foldl_nil, dstAt, List.getElem?_cons_zero, List.getElem?_cons_succ, Option.bind_some]
      go_frame
      rw [h9, h10, h11, h12, h13, e16]
      go_wp2_with fail
      refine (hrn).mono ?_
      rintro e w3 ⟨rfl, b3⟩
      go_wp2_with fail
      exact ⟨rfl, b3, rfl, rfl⟩
    | 18, _, hi =>
      obtain rfl := Option.some.inj hi
      have h9 : vs 9 = _ := hv 9 (by decide)
      have h17 : vs 17 = _ := hv 17 (by decide)
      simp only [relF, List.getD_cons_zero, List.getD_cons_succ, List.foldl_cons, List.foldl_nil, dstAt, List.getElem?_cons_zero, List.getElem?_cons_succ, Option.bind_some]
      go_frame
      rw [h9, h17]
      go_wp2_with fail
      exact ⟨rfl, Below.refl _ _, rfl, rfl⟩
    | 19, _, hi =>
      obtain rfl := Option.some.inj hi
      have h9 : vs 9 = _ := hv 9 (by decide)
      have h18 : vs 18 = _ := hv 18 (by decide)
      simp only [relF, List.getD_cons_zero, List.getD_cons_succ, List.foldl_cons, List.foldl_nil, dstAt, List.getElem?_cons_zero, List.getElem?_cons_succ, Option.bind_some]
      go_frame
      rw [h9, h18]
      go_wp2_with fail
      exact ⟨rfl, Below.refl _ _, rfl, rfl⟩
    | 20, _, hi =>
      obtain rfl := Option.some.inj hi
      have h19 : vs 19 = _ := hv 19 (by decide)
      simp only [relF, List.getD_cons_zero, List.getD_cons_succ, List.foldl_cons, List.foldl_nil, dstAt, List.getElem?_cons_zero, List.getElem?_cons_succ, Option.bind_some]
      go_frame
      rw [h19]
      go_wp2_with fail
      exact ⟨rfl, Below.refl _ _, rfl, rfl⟩
    | 21, _, hi =>
      obtain rfl := Option.some.inj hi
      have h20 : vs 20 = _ := hv 20 (by decide)
      simp only [relF, List.getD_cons_zero, List.getD_cons_succ, List.foldl_cons, List.foldl_nil, dstAt, List.getElem?_cons_zero, List.getElem?_cons_succ, Option.bind_some]
      go_frame
      rw [h20]
      go_wp2_with fail
      exact ⟨rfl, Below.refl _ _, rfl, rfl⟩
    | 22, _, hi =>
      obtain rfl := Option.some.inj hi
      have h20 : vs 20 = _ := hv 20 (by decide)
      simp only [relF, List.getD_cons_zero, List.getD_cons_succ, List.foldl_cons, List.foldl_nil, dstAt, List.getElem?_cons_zero, List.getElem?_cons_succ, Option.bind_some]
      go_frame
      rw [h20]
      go_wp2_with fail
      exact ⟨rfl, Below.refl _ _, rfl, rfl⟩
    | 23, _, hi =>
      obtain rfl := Option.some.inj hi
      have h20 : vs 20 = _ := hv 20 (by decide)
      have h21 : vs 21 = _ := hv 21 (by decide)
      have h22 : vs 22 = _ := hv 22 (by decide)
      have hse := HLL.out
      simp only [relF, List.getD_cons_zero, List.getD_cons_succ, List.foldl_cons, List.foldl_nil, dstAt, List.getElem?_cons_zero, List.getElem?_cons_succ, Option.bind_some]
      go_frame
      rw [h20, h21, h22]
      go_wp2_with fail
      exact ⟨rfl, Below.refl _ _, rfl, rfl⟩
    | 24, _, hi =>
      obtain rfl := Option.some.inj hi
      have h20 : vs 20 = _ := hv 20 (by decide)
      have h23 : vs 23 = _ := hv 23 (by decide)
      simp only [relF, List.getD_cons_zero, List.getD_cons_succ, List.foldl_cons, List.foldl_nil, dstAt, List.getElem?_cons_zero, List.getElem?_cons_succ, Option.bind_some]
      go_frame
      rw [h20, h23]
      go_wp2_with fail
      exact ⟨rfl, Below.refl _ _, rfl, rfl⟩
    | nx + 25, him, _ => exact absurd him (by omega)
  · intro w2 b2 vs hv
    have hL2 := HL1.out.below b2
    have h24 : vs 24 = _ := hv 24 (by decide)
    simp only [relF, List.drop_succ_cons, List.drop_zero, List.length_cons, List.length_nil, Nat.zero_add, Nat.reduceAdd, List.range, List.range.loop, List.foldl_cons, List.foldl_nil, dstAt, List.getElem?_cons_zero, List.getElem?_cons_succ, Option.bind_some]
    go_frame
    rw [h24]
    go_wp2_with fail
    go_ret
    exact ⟨rfl, b1.trans (b2.mono b1.size)⟩

set_option maxRecDepth 100000 in
set_option maxHeartbeats 4000000 in
theorem binds_found (w : World) (a : List UInt8) (ha : a.length = 32) (n i : Nat) (hin : i < n) (hn30 : n ≤ 1073741824) (l l' : List UInt8) (hl : l.length ≤ 140737488351232) (hl' : l'.length ≤ 140737488351232) (o o' : Option Addr) (m cap m' cap' : Nat) (P Q : List (List UInt8)) (hP : HashesAt w o m cap P) (hQ : HashesAt w o' m' cap' Q) (hL : Laid w) (h200 : ¬ 200 < l.length) (h201 : ¬ 200 < l'.length) (h40 : ¬ 40 < m) (h41 : ¬ 40 < m') (hc1 : Tree.check a n i l P = true) (hc2 : Tree.check a n i l' Q = true) (hll : ¬ l = l') :
    Calls Tryd.prog 9 #[.agg (byteCells a).toArray, .int .i64 (n : Int), .int .i64 (i : Int), .string (strOf l), .string (strOf l'), .slice o m cap, .slice o' m' cap'] w fun e w' => e = .returned (.bool true) ∧ Below w.heap.size w w' := by
  have HC1 := Lib.hid hc1; clear hc1
  have HC2 := Lib.hid hc2; clear hc2
  have h1 : ((strOf l).toList == (strOf l').toList) = false := by rw [strOf_toList, strOf_toList, beq_eq_false_iff_ne]; exact hll
  have HLL := Lib.hid h1; clear h1
  have HNE : Hid (l ≠ l') := Lib.hid hll
  clear hll
  have hst := strOf_size l
  have hst' := strOf_size l'
  have hPm : P.length = m := hP.1.1
  have hcap : m ≤ cap := hP.1.2.1
  have hmax : cap ≤ 9223372036854775807 := hP.1.2.2.1
  have hQm : Q.length = m' := hQ.1.1
  have hcap' : m' ≤ cap' := hQ.1.2.1
  have hmax' : cap' ≤ 9223372036854775807 := hQ.1.2.2.1
  obtain ⟨W0, hW0⟩ : ∃ W0, W0 = w.alloc (.cells (byteCells a).toArray 26) := ⟨_, rfl⟩
  have x7 : W0.heap[w.heap.size]? = some (.cells (byteCells a).toArray 26 (0, 0)) := by rw [hW0]; exact heap_alloc_new w _
  have b0 : Below w.heap.size w W0 := by rw [hW0]; exact (Below.refl _ _).alloc (Nat.le_refl _) _
  have HL := Lib.hid (hL.below b0); clear hL
  have HP0 := Lib.hid (hP.below (Nat.le_refl _) b0); clear hP
  have HQ0 := Lib.hid (hQ.below (Nat.le_refl _) b0); clear hQ
  have HW0 := Lib.hid hW0; clear hW0
  have HA := Lib.hid ha; clear ha
  have ht : decide ((200 : Int) < (l.length : Int)) = false := decide_eq_false (by omega)
  have ht2 : decide ((200 : Int) < (l'.length : Int)) = false := decide_eq_false (by omega)
  have ht3 : decide ((40 : Int) < (m : Int)) = false := decide_eq_false (by omega)
  have ht4 : decide ((40 : Int) < (m' : Int)) = false := decide_eq_false (by omega)
  go_enter Tryd.func9, Tryd.ntmps9
  go_wp2_with fail
  rw [← HW0.out]
  refine (awake_any W0 HL.out).mono ?_
  rintro e w1 ⟨rfl, b1'⟩
  have b1 := b0.trans (b1'.mono b0.size)
  have HL1 := Lib.hid (HL.out.below b1')
  have X7 := Lib.hid ((b1'.block _ (lt_of_block x7)).trans x7)
  have HP := Lib.hid (HP0.out.below (Nat.le_refl _) b1')
  have HQ := Lib.hid (HQ0.out.below (Nat.le_refl _) b1')
  clear x7 HW0 HL b0 b1' HP0 HQ0
  go_wp2_with fail
  refine wp_region_rel [[], [], [], [], [], [], [4, 5], [0, 1, 2, 3, 6], [7], [8], [9], [9], [9], [9], [9], [9], [9, 14, 15], [9, 10, 11, 12, 13, 16], [9, 17], [9, 18], [19], [20], [20], [20, 21, 22], [20, 23]] (bindE w.heap.size n i m cap m' cap' o o' l l' a P Q) 94 (by kernel_rfl) (by kernel_rfl) (by kernel_rfl) (bindE_mono w.heap.size n i m cap m' cap' o o' l l' a P Q) ?_ ?_
  · intro ix op hi w2 b2 vs hv
    have him : ix < 25 := (List.getElem?_eq_some_iff.1 hi).1
    have hL2 := HL1.out.below b2
    match ix, him, hi with
    | 0, _, hi =>
      obtain rfl := Option.some.inj hi
      simp only [relF, List.getD_cons_zero, List.getD_cons_succ, List.foldl_cons, List.foldl_nil, dstAt, List.getElem?_cons_zero, List.getElem?_cons_succ, Option.bind_some]
      go_wp2_with ((with_reducible show wpList _ _ _ (⟨some 41, _, _, _, _, _⟩ :: _) _ _); refine wpList_load_hash (op := ⟨some 41, _, _, _, _, _⟩) (by kernel_rfl) _ rfl w.heap.size rfl a HA.out _ _ ((b2.block _ (lt_of_block X7.out)).trans X7.out) ?_)
      exact ⟨rfl, Below.refl _ _, rfl, rfl⟩
    | 1, _, hi =>
      obtain rfl := Option.some.inj hi
      simp only [relF, List.getD_cons_zero, List.getD_cons_succ, List.foldl_cons, List.foldl_nil, dstAt, List.getElem?_cons_zero, List.getElem?_cons_succ, Option.bind_some]
      go_wp2_with fail
      exact ⟨rfl, Below.refl _ _, rfl, rfl⟩
    | 2, _, hi =>
      obtain rfl := Option.some.inj hi
      simp only [relF, List.getD_cons_zero, List.getD_cons_succ, List.foldl_cons, List.foldl_nil, dstAt, List.getElem?_cons_zero, List.getElem?_cons_succ, Option.bind_some]
      go_wp2_with fail
      exact ⟨rfl, Below.refl _ _, rfl, rfl⟩
    | 3, _, hi =>
      obtain rfl := Option.some.inj hi
      simp only [relF, List.getD_cons_zero, List.getD_cons_succ, List.foldl_cons, List.foldl_nil, dstAt, List.getElem?_cons_zero, List.getElem?_cons_succ, Option.bind_some]
      go_wp2_with fail
      exact ⟨rfl, Below.refl _ _, rfl, rfl⟩
    | 4, _, hi =>
      obtain rfl := Option.some.inj hi
      simp only [relF, List.getD_cons_zero, List.getD_cons_succ, List.foldl_cons, List.foldl_nil, dstAt, List.getElem?_cons_zero, List.getElem?_cons_succ, Option.bind_some]
      go_wp2_with fail
      exact ⟨rfl, (Below.refl _ _).alloc (Nat.le_refl _) _, rfl, w2.heap.size, rfl⟩
    | 5, _, hi =>
      obtain rfl := Option.some.inj hi
      simp only [relF, List.getD_cons_zero, List.getD_cons_succ, List.foldl_cons, List.foldl_nil, dstAt, List.getElem?_cons_zero, List.getElem?_cons_succ, Option.bind_some]
      go_wp2_with fail
      exact ⟨rfl, Below.refl _ _, rfl, rfl⟩
    | 6, _, hi =>
      obtain rfl := Option.some.inj hi
      obtain ⟨g4, e4⟩ := hv 4 (by decide)
      have h5 : vs 5 = _ := hv 5 (by decide)
      obtain ⟨q, cc, W, hrun, hs, hbb⟩ := HashesAt.copy (HP.out.below (Nat.le_refl _) b2) (by omega) ⟨g4, 0, none⟩
      simp only [relF, List.getD_cons_zero, List.getD_cons_succ, List.foldl_cons, List.foldl_nil, dstAt, List.getElem?_cons_zero, List.getElem?_cons_succ, Option.bind_some]
      go_frame
      rw [e4, h5]
      go_wp2_with ((with_reducible show wpList _ _ _ (⟨some 47, _, _, _, _, _⟩ :: _) _ _); refine wpList_append_ran (by kernel_rfl) _ _ _ rfl _ _ rfl rfl hrun ?_)
      exact ⟨rfl, hbb, rfl, q, cc, rfl, hs⟩
    | 7, _, hi =>
      obtain rfl := Option.some.inj hi
      have h0 : vs 0 = _ := hv 0 (by decide)
      have h1 : vs 1 = _ := hv 1 (by decide)
      have h2 : vs 2 = _ := hv 2 (by decide)
      have h3 : vs 3 = _ := hv 3 (by decide)
      obtain ⟨q6, c6, e6, s6⟩ := hv 6 (by decide)
      have hrn := treeCheck_any w2 a HA.out n i (by omega) (by omega) l (by omega) _ _ _ P s6 hL2
      rw [HC1.out] at hrn
      simp only [relF, List.getD_cons_zero, List.getD_cons_succ, List.foldl_cons, List.foldl_nil, dstAt, List.getElem?_cons_zero, List.getElem?_cons_succ, Option.bind_some]
      go_frame
      rw [h0, h1, h2, h3, e6]
      go_wp2_with fail
      refine (hrn).mono ?_
      rintro e w3 ⟨rfl, b3⟩
      go_wp2_with fail
      exact ⟨rfl, b3, rfl, rfl⟩
    | 8, _, hi =>
      obtain rfl := Option.some.inj hi
      have h7 : vs 7 = _ := hv 7 (by decide)
      simp only [relF, List.getD_cons_zero, List.getD_cons_succ, List.foldl_cons, List.foldl_nil, dstAt, List.getElem?_cons_zero, List.getElem?_cons_succ, Option.bind_some]
      go_frame
      rw [h7]
      go_wp2_with fail
      exact ⟨rfl, Below.refl _ _, rfl, rfl⟩
    | 9, _, hi =>
      obtain rfl := Option.some.inj hi
      have h8 : vs 8 = _ := hv 8 (by decide)
      simp only [relF, List.getD_cons_zero, List.getD_cons_succ, List.foldl_cons, List.foldl_nil, dstAt, List.getElem?_cons_zero, List.getElem?_cons_succ, Option.bind_some]
      go_frame
      rw [h8]
      go_wp2_with fail
      exact ⟨rfl, Below.refl _ _, rfl, rfl⟩
    | 10, _, hi =>
      obtain rfl := Option.some.inj hi
      have h9 : vs 9 = _ := hv 9 (by decide)
      simp only [relF, List.getD_cons_zero, List.getD_cons_succ, List.foldl_cons, List.foldl_nil, dstAt, List.getElem?_cons_zero, List.getElem?_cons_succ, Option.bind_some]
      go_frame
      rw [h9]
      go_wp2_with ((with_reducible show wpList _ _ _ (⟨some 51, _, _, _, _, _⟩ :: _) _ _); refine wpList_load_hash (op := ⟨some 51, _, _, _, _, _⟩) (by kernel_rfl) _ rfl w.heap.size rfl a HA.out _ _ ((b2.block _ (lt_of_block X7.out)).trans X7.out) ?_)
      exact ⟨rfl, Below.refl _ _, rfl, rfl⟩
    | 11, _, hi =>
      obtain rfl := Option.some.inj hi
      have h9 : vs 9 = _ := hv 9 (by decide)
      simp only [relF, List.getD_cons_zero, List.getD_cons_succ, List.foldl_cons, List.foldl_nil, dstAt, List.getElem?_cons_zero, List.getElem?_cons_succ, Option.bind_some]
      go_frame
      rw [h9]
      go_wp2_with fail
      exact ⟨rfl, Below.refl _ _, rfl, rfl⟩
    | 12, _, hi =>
      obtain rfl := Option.some.inj hi
      have h9 : vs 9 = _ := hv 9 (by decide)
      simp only [relF, List.getD_cons_zero, List.getD_cons_succ, List.foldl_cons, List.foldl_nil, dstAt, List.getElem?_cons_zero, List.getElem?_cons_succ, Option.bind_some]
      go_frame
      rw [h9]
      go_wp2_with fail
      exact ⟨rfl, Below.refl _ _, rfl, rfl⟩
    | 13, _, hi =>
      obtain rfl := Option.some.inj hi
      have h9 : vs 9 = _ := hv 9 (by decide)
      simp only [relF, List.getD_cons_zero, List.getD_cons_succ, List.foldl_cons, List.foldl_nil, dstAt, List.getElem?_cons_zero, List.getElem?_cons_succ, Option.bind_some]
      go_frame
      rw [h9]
      go_wp2_with fail
      exact ⟨rfl, Below.refl _ _, rfl, rfl⟩
    | 14, _, hi =>
      obtain rfl := Option.some.inj hi
      have h9 : vs 9 = _ := hv 9 (by decide)
      simp only [relF, List.getD_cons_zero, List.getD_cons_succ, List.foldl_cons, List.foldl_nil, dstAt, List.getElem?_cons_zero, List.getElem?_cons_succ, Option.bind_some]
      go_frame
      rw [h9]
      go_wp2_with fail
      exact ⟨rfl, (Below.refl _ _).alloc (Nat.le_refl _) _, rfl, w2.heap.size, rfl⟩
    | 15, _, hi =>
      obtain rfl := Option.some.inj hi
      have h9 : vs 9 = _ := hv 9 (by decide)
      simp only [relF, List.getD_cons_zero, List.getD_cons_succ, List.foldl_cons, List.foldl_nil, dstAt, List.getElem?_cons_zero, List.getElem?_cons_succ, Option.bind_some]
      go_frame
      rw [h9]
      go_wp2_with fail
      exact ⟨rfl, Below.refl _ _, rfl, rfl⟩
    | 16, _, hi =>
      obtain rfl := Option.some.inj hi
      have h9 : vs 9 = _ := hv 9 (by decide)
      obtain ⟨g14, e14⟩ := hv 14 (by decide)
      have h15 : vs 15 = _ := hv 15 (by decide)
      obtain ⟨q, cc, W, hrun, hs, hbb⟩ := HashesAt.copy (HQ.out.below (Nat.le_refl _) b2) (by omega) ⟨g14, 0, none⟩
      simp only [relF, List.getD_cons_zero, List.getD_cons_succ, List.foldl_cons, List.foldl_nil, dstAt, List.getElem?_cons_zero, List.getElem?_cons_succ, Option.bind_some]
      go_frame
      rw [h9, e14, h15]
      go_wp2_with ((with_reducible show wpList _ _ _ (⟨some 57, _, _, _, _, _⟩ :: _) _ _); refine wpList_append_ran (by kernel_rfl) _ _ _ rfl _ _ rfl rfl hrun ?_)
      exact ⟨rfl, hbb, rfl, q, cc, rfl, hs⟩
    | 17, _, hi =>
      obtain rfl := Option.some.inj hi
      have h9 : vs 9 = _ := hv 9 (by decide)
      have h10 : vs 10 = _ := hv 10 (by decide)
      have h11 : vs 11 = _ := hv 11 (by decide)
      have h12 : vs 12 = _ := hv 12 (by decide)
      have h13 : vs 13 = _ := hv 13 (by decide)
      obtain ⟨q16, c16, e16, s16⟩ := hv 16 (by decide)
      have hrn := treeCheck_any w2 a HA.out n i (by omega) (by omega) l' (by omega) _ _ _ Q s16 hL2
      rw [HC2.out] at hrn
      simp only [relF, List.getD_cons_zero, List.getD_cons_succ, List.foldl_cons, List.foldl_nil, dstAt, List.getElem?_cons_zero, List.getElem?_cons_succ, Option.bind_some]
      go_frame
      rw [h9, h10, h11, h12, h13, e16]
      go_wp2_with fail
      refine (hrn).mono ?_
      rintro e w3 ⟨rfl, b3⟩
      go_wp2_with fail
      exact ⟨rfl, b3, rfl, rfl⟩
    | 18, _, hi =>
      obtain rfl := Option.some.inj hi
      have h9 : vs 9 = _ := hv 9 (by decide)
      have h17 : vs 17 = _ := hv 17 (by decide)
      simp only [relF, List.getD_cons_zero, List.getD_cons_succ, List.foldl_cons, List.foldl_nil, dstAt, List.getElem?_cons_zero, List.getElem?_cons_succ, Option.bind_some]
      go_frame
      rw [h9, h17]
      go_wp2_with fail
      exact ⟨rfl, Below.refl _ _, rfl, rfl⟩
    | 19, _, hi =>
      obtain rfl := Option.some.inj hi
      have h9 : vs 9 = _ := hv 9 (by decide)
      have h18 : vs 18 = _ := hv 18 (by decide)
      simp only [relF, List.getD_cons_zero, List.getD_cons_succ, List.foldl_cons, List.foldl_nil, dstAt, List.getElem?_cons_zero, List.getElem?_cons_succ, Option.bind_some]
      go_frame
      rw [h9, h18]
      go_wp2_with fail
      exact ⟨rfl, Below.refl _ _, rfl, rfl⟩
    | 20, _, hi =>
      obtain rfl := Option.some.inj hi
      have h19 : vs 19 = _ := hv 19 (by decide)
      simp only [relF, List.getD_cons_zero, List.getD_cons_succ, List.foldl_cons, List.foldl_nil, dstAt, List.getElem?_cons_zero, List.getElem?_cons_succ, Option.bind_some]
      go_frame
      rw [h19]
      go_wp2_with fail
      exact ⟨rfl, Below.refl _ _, rfl, rfl⟩
    | 21, _, hi =>
      obtain rfl := Option.some.inj hi
      have h20 : vs 20 = _ := hv 20 (by decide)
      simp only [relF, List.getD_cons_zero, List.getD_cons_succ, List.foldl_cons, List.foldl_nil, dstAt, List.getElem?_cons_zero, List.getElem?_cons_succ, Option.bind_some]
      go_frame
      rw [h20]
      go_wp2_with fail
      exact ⟨rfl, Below.refl _ _, rfl, rfl⟩
    | 22, _, hi =>
      obtain rfl := Option.some.inj hi
      have h20 : vs 20 = _ := hv 20 (by decide)
      simp only [relF, List.getD_cons_zero, List.getD_cons_succ, List.foldl_cons, List.foldl_nil, dstAt, List.getElem?_cons_zero, List.getElem?_cons_succ, Option.bind_some]
      go_frame
      rw [h20]
      go_wp2_with fail
      exact ⟨rfl, Below.refl _ _, rfl, rfl⟩
    | 23, _, hi =>
      obtain rfl := Option.some.inj hi
      have h20 : vs 20 = _ := hv 20 (by decide)
      have h21 : vs 21 = _ := hv 21 (by decide)
      have h22 : vs 22 = _ := hv 22 (by decide)
      have hse := HLL.out
      simp only [relF, List.getD_cons_zero, List.getD_cons_succ, List.foldl_cons, List.foldl_nil, dstAt, List.getElem?_cons_zero, List.getElem?_cons_succ, Option.bind_some]
      go_frame
      rw [h20, h21, h22]
      go_wp2_with fail
      exact ⟨rfl, Below.refl _ _, rfl, rfl⟩
    | 24, _, hi =>
      obtain rfl := Option.some.inj hi
      have h20 : vs 20 = _ := hv 20 (by decide)
      have h23 : vs 23 = _ := hv 23 (by decide)
      simp only [relF, List.getD_cons_zero, List.getD_cons_succ, List.foldl_cons, List.foldl_nil, dstAt, List.getElem?_cons_zero, List.getElem?_cons_succ, Option.bind_some]
      go_frame
      rw [h20, h23]
      go_wp2_with fail
      exact ⟨rfl, Below.refl _ _, rfl, rfl⟩
    | nx + 25, him, _ => exact absurd him (by omega)
  · intro w2 b2 vs hv
    have hL2 := HL1.out.below b2
    have h24 : vs 24 = _ := hv 24 (by decide)
    simp only [relF, List.drop_succ_cons, List.drop_zero, List.length_cons, List.length_nil, Nat.zero_add, Nat.reduceAdd, List.range, List.range.loop, List.foldl_cons, List.foldl_nil, dstAt, List.getElem?_cons_zero, List.getElem?_cons_succ, Option.bind_some]
    go_frame
    rw [h24]
    have B2 := b1.trans (b2.mono b1.size)
    have HP2 := HP.out.below (Nat.le_refl _) b2
    have HQ2 := HQ.out.below (Nat.le_refl _) b2
    obtain ⟨s1, s2, hcl⟩ := Tree.clash_found HC1.out HC2.out HNE.out
    have hc := refTwice_any w2 n i hin hn30 l l' (by omega) (by omega) _ _ _ _ _ _ P Q HP2 HQ2 s1 s2 hcl
    have HC := Lib.hid hc; clear hc hcl HP2 HQ2
    have HL2 := Lib.hid hL2; clear hL2
    clear hv
    go_wp2_with fail
    refine HC.out.mono ?_
    rintro e w3 ⟨x, y, rfl, hxy, hse, hxl, hyl, b3⟩
    have B3 := B2.trans (b3.mono B2.size)
    have hne : ((strOf x).toList == (strOf y).toList) = false := by rw [strOf_toList, strOf_toList, beq_eq_false_iff_ne]; exact hxy
    obtain ⟨c1, W1, hcv1, d1, hp1⟩ := part_one w3 x (by omega)
    obtain ⟨W2, hW2⟩ : ∃ W2, W2 = W1.alloc (.cells #[.slice (some ⟨w3.heap.size, 0, none⟩) x.length c1] 46) := ⟨_, rfl⟩
    rw [← hW2] at hp1
    have d2 : Below w3.heap.size w3 W2 := by rw [hW2]; exact d1.alloc d1.size _
    have hof := of_any W2 _ [x] hp1 (by simp) (by simp; omega) ((HL2.out.below b3).below d2)
    have hff : [x].flatten = x := by simp
    rw [hff] at hof
    have HOF := Lib.hid hof; clear hof hp1 d1 hff
    have HW2 := Lib.hid hW2; clear hW2
    have HSE := Lib.hid hse; clear hse
    have HXY := Lib.hid hxy; clear hxy
    have hsx := strOf_size x
    have hsy := strOf_size y
    have hlx := Sha.of_len x
    have B4 := B3.trans (d2.mono B3.size)
    go_wp2_with fail
    rw [← HW2.out]
    refine HOF.out.mono ?_
    rintro e w4 ⟨rfl, b4⟩
    have B5 := B4.trans (b4.mono B4.size)
    obtain ⟨c2, W3, hcv2, d3, hp2⟩ := part_one w4 y (by omega)
    obtain ⟨W4, hW4⟩ : ∃ W4, W4 = W3.alloc (.cells #[.slice (some ⟨w4.heap.size, 0, none⟩) y.length c2] 46) := ⟨_, rfl⟩
    rw [← hW4] at hp2
    have d4 : Below w4.heap.size w4 W4 := by rw [hW4]; exact d3.alloc d3.size _
    have hof := of_any W4 _ [y] hp2 (by simp) (by simp; omega) (((HL2.out.below b3).below (d2.trans (b4.mono d2.size))).below d4)
    have hff : [y].flatten = y := by simp
    rw [hff, ← HSE.out] at hof
    have HOF2 := Lib.hid hof; clear hof hp2 d3 hff
    have HW4 := Lib.hid hW4; clear hW4
    have B6 := B5.trans (d4.mono B5.size)
    go_wp2_with fail
    rw [← HW4.out]
    refine HOF2.out.mono ?_
    rintro e w5 ⟨rfl, b5⟩
    go_wp2_with ((with_reducible show wpList _ _ _ (⟨some 92, _, _, _, _, _⟩ :: _) _ _); refine wpList_eql_hash (op := ⟨some 92, _, _, _, _, _⟩) (by kernel_rfl) _ _ rfl (Sha.of x) (Sha.of x) hlx hlx rfl rfl ?_; rw [beq_self_eq_true])
    go_ret
    exact ⟨rfl, B6.trans (b5.mono B6.size)⟩

theorem binds_list (w : World) (a : List UInt8) (ha : a.length = 32) (n : Int) (hn : (Lit.int .i64 n).wf = true) (i : Int) (hi : (Lit.int .i64 i).wf = true) (l l' : List UInt8) (hl : l.length ≤ 140737488351232) (hl' : l'.length ≤ 140737488351232) (o o' : Option Addr) (m cap m' cap' : Nat) (P Q : List (List UInt8)) (hP : HashesAt w o m cap P) (hQ : HashesAt w o' m' cap' Q) (hL : Laid w) :
    Calls Tryd.prog 9 #[.agg (byteCells a).toArray, .int .i64 n, .int .i64 i, .string (strOf l), .string (strOf l'), .slice o m cap, .slice o' m' cap'] w fun e w' => e = .returned (.bool true) ∧ Below w.heap.size w w' := by
  by_cases hg : 200 < l.length ∨ 200 < l'.length ∨ 40 < m ∨ 40 < m'
  · exact binds_guard w a ha n hn i hi l l' hl hl' o o' m cap m' cap' P Q hP hQ hL hg
  · have h200 : ¬ 200 < l.length := fun h => hg (.inl h)
    have h201 : ¬ 200 < l'.length := fun h => hg (.inr (.inl h))
    have h40 : ¬ 40 < m := fun h => hg (.inr (.inr (.inl h)))
    have h41 : ¬ 40 < m' := fun h => hg (.inr (.inr (.inr h)))
    rcases hbad : badSide n i with _ | _
    · have hb3 : n ≤ 1073741824 ∧ 0 ≤ i ∧ i < n := by
        unfold badSide at hbad
        simp only [Bool.or_eq_false_iff, decide_eq_false_iff_not] at hbad
        omega
      clear hn hi
      obtain ⟨n, rfl⟩ : ∃ k : Nat, n = (k : Int) := ⟨n.toNat, by omega⟩
      obtain ⟨i, rfl⟩ : ∃ k : Nat, i = (k : Int) := ⟨i.toNat, by omega⟩
      have hin : i < n := by omega
      have hn30 : n ≤ 1073741824 := by omega
      rcases hc1 : Tree.check a n i l P with _ | _
      · exact binds_one w a ha n i hin hn30 l l' hl hl' o o' m cap m' cap' P Q hP hQ hL h200 h201 h40 h41 hc1
      · rcases hc2 : Tree.check a n i l' Q with _ | _
        · exact binds_two w a ha n i hin hn30 l l' hl hl' o o' m cap m' cap' P Q hP hQ hL h200 h201 h40 h41 hc1 hc2
        · by_cases hll : l = l'
          · exact binds_same w a ha n i hin hn30 l l' hl hl' o o' m cap m' cap' P Q hP hQ hL h200 h201 h40 h41 hc1 hc2 hll
          · exact binds_found w a ha n i hin hn30 l l' hl hl' o o' m cap m' cap' P Q hP hQ hL h200 h201 h40 h41 hc1 hc2 hll
    · exact binds_bad w a ha n hn i hi l l' hl hl' o o' m cap m' cap' P Q hP hQ hL h200 h201 h40 h41 hbad

theorem binds_law (w : World) (a : List UInt8) (ha : a.length = 32) (n : Int) (hn : (Lit.int .i64 n).wf = true) (i : Int) (hi : (Lit.int .i64 i).wf = true) (s : ByteArray) (hs : s.size ≤ 140737488351232) (s' : ByteArray) (hs' : s'.size ≤ 140737488351232) (o : Option Addr) (m cap : Nat) (P : List (List UInt8)) (hP : RowsAt w o m cap 32 byteCells P) (h32 : ∀ p ∈ P, p.length = 32)
    (o' : Option Addr) (m' cap' : Nat) (Q : List (List UInt8)) (hQ : RowsAt w o' m' cap' 32 byteCells Q) (h32' : ∀ p ∈ Q, p.length = 32) (hL : Laid w) :
    Calls Tryd.prog 9 #[.agg (byteCells a).toArray, .int .i64 n, .int .i64 i, .string s, .string s', .slice o m cap, .slice o' m' cap'] w fun e w' => e = .returned (.bool true) ∧ Below w.heap.size w w' := by
  have h := binds_list w a ha n hn i hi s.data.toList s'.data.toList (by rw [← strOf_size, strOf_data]; exact hs) (by rw [← strOf_size, strOf_data]; exact hs') o o' m cap m' cap' P Q ⟨hP, h32⟩ ⟨hQ, h32'⟩ hL
  rwa [strOf_data, strOf_data] at h

end Go.Proofs.YtbgahpbnlogdnaaDoor
