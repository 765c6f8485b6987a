/- M7, in one text. -/
import Derived.Test.YtgheacegjgaobaaDoorKG6c
import Derived.Test.YtgheacegjgaobaaDoorKG4a
/- The walk of many.Check. -/
namespace Go.Proofs.YtgheacegjgaobaaDoor
open Go.RowKit
set_option linter.unusedSimpArgs false
set_option linter.unusedVariables false

/-- What many.Check keeps while it goes on: how many sums and leaves are used, both. -/
def CheckK (p1 p2 q1 q2 : Nat) (vP vX : Value) (D : List (Nat × Nat)) (j : Nat) (w : World) : Prop :=
  w.heap[p1]? = some (.cells #[.int .i64 (D.length : Int)] 3 (0, 0)) ∧ w.heap[p2]? = some (.cells #[.int .i64 (j : Int)] 3 (0, 0)) ∧ w.heap[q1]? = some (.cells #[vP] 27 (0, 0)) ∧ w.heap[q2]? = some (.cells #[vX] 24 (0, 0))

theorem checkClo (w00 : World) (p1 p2 q1 q2 N m mX c cX : Nat) (o oX : Option Addr) (P X : List (List UInt8)) (h1 : w00.heap.size ≤ q1) (h2 : w00.heap.size ≤ q2) (h3 : w00.heap.size ≤ p1) (h4 : w00.heap.size ≤ p2) (n1 : p1 ≠ p2) (n2 : p1 ≠ q1) (n3 : p1 ≠ q2) (n4 : p2 ≠ q1) (n5 : p2 ≠ q2) (hL : Laid w00) (hP : HashesAt w00 o m c P) (hX : StrsAt w00 oX mX cX X) (hlen : ∀ l ∈ X, l.length ≤ 100000) (hm : m ≤ 1000000) (hmX : mX ≤ 1000000) :
    Clo 42 43 #[.pointer (some ⟨p1, 0, none⟩), .pointer (some ⟨q1, 0, none⟩)] #[.pointer (some ⟨p2, 0, none⟩), .pointer (some ⟨q2, 0, none⟩)] w00 N m mX (CheckK p1 p2 q1 q2 (.slice o m c) (.slice oX mX cX)) (fun _ k => k = p1 ∨ k = p2 ∨ k = q1 ∨ k = q2) (fun i _ _ => (P[i]?).getD (List.replicate 32 0)) (fun j _ => Tree.leaf ((X[j]?).getD [])) where
  keep := fun D j w w' ⟨k1, k2, k3, k4⟩ hs hk => ⟨⟨(hk _ (.inl rfl)).trans k1, (hk _ (.inr (.inl rfl))).trans k2, (hk _ (.inr (.inr (.inl rfl)))).trans k3, (hk _ (.inr (.inr (.inr rfl)))).trans k4⟩, fun k h => h⟩
  bound := fun D j w k ⟨k1, k2, k3, k4⟩ hk => by
    rcases hk with rfl | rfl | rfl | rfl
    · exact ⟨h3, lt_of_block k1⟩
    · exact ⟨h4, lt_of_block k2⟩
    · exact ⟨h1, lt_of_block k3⟩
    · exact ⟨h2, lt_of_block k4⟩
  cfn := Tryd.callCheck1
  cfo := Tryd.callCheck2
  none := fun D j f n w ⟨k1, k2, k3, k4⟩ hB hT hN _ => by
    have hPl := hP.1.1
    obtain ⟨h, hh⟩ : ∃ h, P[D.length]? = some h := ⟨_, List.getElem?_eq_getElem (by omega)⟩
    refine (checkNone_any w p1 q1 D.length k1 n2 o m c P k3 (hP.below (Nat.le_refl _) hB) (fun b off hb e => by
      obtain ⟨b', off', h5, h6, _⟩ := hP.1.2.2.2 (by omega)
      rw [hb] at h5
      cases h5
      omega) h hh hm f n).mono fun x w' ⟨g1, g2, g3⟩ => ?_
    refine ⟨by rw [hh]; exact g1, ⟨by rw [List.length_append]; exact g2, (g3.block p2 (lt_of_block k2) (fun e => n1 e.symm)).trans k2, (g3.block q1 (lt_of_block k3) (fun e => n2 e.symm)).trans k3, (g3.block q2 (lt_of_block k4) (fun e => n3 e.symm)).trans k4⟩, ⟨g3.os, g3.tape, g3.output, g3.size, fun k hk hf => g3.block k hk (fun e => hf (.inl e)), fun k hk => .inl hk⟩⟩
  one := fun D j f w ⟨k1, k2, k3, k4⟩ hB hM hN => by
    have hXl := hX.len
    obtain ⟨l, hl⟩ : ∃ l, X[j]? = some l := ⟨_, List.getElem?_eq_getElem (by omega)⟩
    refine (checkOne_any w p2 q2 j k2 n5 oX mX cX X k4 (hX.below (Nat.le_refl _) hB) (fun b off hb e => by
      obtain ⟨b', off', h5, h6, _⟩ := hX.2.2.2 (by omega)
      rw [hb] at h5
      cases h5
      omega) l hl (hlen l (List.mem_of_getElem? hl)) hmX (fun w' hb => hL.below (hB.trans ((hb.mono (show w00.heap.size ≤ w.heap.size from hB.size)).below h4))) f).mono fun x w' ⟨g1, g2, g3⟩ => ?_
    refine ⟨by rw [hl]; exact g1, ⟨(g3.block p1 (lt_of_block k1) n1).trans k1, g2, (g3.block q1 (lt_of_block k3) (fun e => n4 e.symm)).trans k3, (g3.block q2 (lt_of_block k4) (fun e => n5 e.symm)).trans k4⟩, ⟨g3.os, g3.tape, g3.output, g3.size, fun k hk hf => g3.block k hk (fun e => hf (.inr (.inl e))), fun k hk => .inl hk⟩⟩
  lenN := fun i f n => by
    cases hx : P[i]? with
    | none => exact zeroS_len
    | some p => exact hP.2 p (List.mem_of_getElem? hx)
  lenO := fun j f => Tree.leaf_len _

/-- What the region's operations leave. -/
def mcV (bx bo n : Nat) (t r : List UInt8) (ix : Nat) (w : World) (v : Value) : Prop :=
  match ix with
  | 0 => Lib.HoldsBytes w v ([3])
  | 1 => v = .pointer (some ⟨bo, 0, none⟩)
  | 2 => v = .string (strOf (Wire.num n))
  | 3 => Lib.HoldsBytes w v (Wire.num n)
  | 4 => v = .slice (some ⟨bx, 0, none⟩) 32 32
  | 5 => PartsV w v ([[3], Wire.num n, t])
  | 6 => v = .agg (byteCells (Tree.root n t)).toArray
  | 7 => v = .agg (byteCells r).toArray
  | 8 => v = .bool (Tree.root n t == r)
  | 9 => v = .bool (Tree.root n t == r)
  | _ => True

theorem mcV_mono (bx bo n : Nat) (t r : List UInt8) (jx : Nat) (w w' : World) (v : Value) (hb : Below w.heap.size w w') (h : mcV bx bo n t r jx w v) : mcV bx bo n t r jx w' v := by
  match jx, h with
  | 0, h => exact holds_below h hb
  | 1, h => exact h
  | 2, h => exact h
  | 3, h => exact holds_below h hb
  | 4, h => exact h
  | 5, h => exact PartsV.below h hb
  | 6, h => exact h
  | 7, h => exact h
  | 8, h => exact h
  | 9, h => exact h
  | _ + 10, h => exact trivial

/-- What the region's operations leave. -/
def mcA (n : Int) (mX cX m c mA cA T b8 b9 : Nat) (oX o oA : Option Addr) (ix : Nat) (w : World) (v : Value) : Prop :=
  match ix with
  | 0 => v = .int .i64 (n)
  | 1 => v = .bool true
  | 2 => v = .bool true
  | 3 => True
  | 4 => True
  | 5 => v = .bool true
  | 6 => v = .bool true
  | 7 => True
  | 8 => True
  | 9 => True
  | 10 => True
  | 11 => v = .bool true
  | 12 => v = .bool true
  | 13 => True
  | 14 => True
  | 15 => True
  | 16 => True
  | 17 => True
  | 18 => v = .bool true
  | 19 => v = .bool true
  | 20 => True
  | 21 => True
  | 22 => True
  | 23 => True
  | 24 => True
  | 25 => True
  | 26 => v = .bool true
  | _ => True

theorem mcA_mono (n : Int) (mX cX m c mA cA T b8 b9 : Nat) (oX o oA : Option Addr) (jx : Nat) (w w' : World) (v : Value) (hb : Below w.heap.size w w') (h : mcA n mX cX m c mA cA T b8 b9 oX o oA jx w v) : mcA n mX cX m c mA cA T b8 b9 oX o oA jx w' v := by
  match jx, h with
  | 0, h => exact h
  | 1, h => exact h
  | 2, h => exact h
  | 3, h => exact trivial
  | 4, h => exact trivial
  | 5, h => exact h
  | 6, h => exact h
  | 7, h => exact trivial
  | 8, h => exact trivial
  | 9, h => exact trivial
  | 10, h => exact trivial
  | 11, h => exact h
  | 12, h => exact h
  | 13, h => exact trivial
  | 14, h => exact trivial
  | 15, h => exact trivial
  | 16, h => exact trivial
  | 17, h => exact trivial
  | 18, h => exact h
  | 19, h => exact h
  | 20, h => exact trivial
  | 21, h => exact trivial
  | 22, h => exact trivial
  | 23, h => exact trivial
  | 24, h => exact trivial
  | 25, h => exact trivial
  | 26, h => exact h
  | _ + 27, h => exact trivial

/-- What the region's operations leave. -/
def mcB (n : Int) (mX cX m c mA cA T b8 b9 : Nat) (oX o oA : Option Addr) (ix : Nat) (w : World) (v : Value) : Prop :=
  match ix with
  | 0 => v = .int .i64 (n)
  | 1 => v = .bool false
  | 2 => v = .bool false
  | 3 => v = .int .i64 (n)
  | 4 => v = .bool true
  | 5 => v = .bool true
  | 6 => v = .bool true
  | 7 => True
  | 8 => True
  | 9 => True
  | 10 => True
  | 11 => v = .bool true
  | 12 => v = .bool true
  | 13 => True
  | 14 => True
  | 15 => True
  | 16 => True
  | 17 => True
  | 18 => v = .bool true
  | 19 => v = .bool true
  | 20 => True
  | 21 => True
  | 22 => True
  | 23 => True
  | 24 => True
  | 25 => True
  | 26 => v = .bool true
  | _ => True

theorem mcB_mono (n : Int) (mX cX m c mA cA T b8 b9 : Nat) (oX o oA : Option Addr) (jx : Nat) (w w' : World) (v : Value) (hb : Below w.heap.size w w') (h : mcB n mX cX m c mA cA T b8 b9 oX o oA jx w v) : mcB n mX cX m c mA cA T b8 b9 oX o oA jx w' v := by
  match jx, h with
  | 0, h => exact h
  | 1, h => exact h
  | 2, h => exact h
  | 3, h => exact h
  | 4, h => exact h
  | 5, h => exact h
  | 6, h => exact h
  | 7, h => exact trivial
  | 8, h => exact trivial
  | 9, h => exact trivial
  | 10, h => exact trivial
  | 11, h => exact h
  | 12, h => exact h
  | 13, h => exact trivial
  | 14, h => exact trivial
  | 15, h => exact trivial
  | 16, h => exact trivial
  | 17, h => exact trivial
  | 18, h => exact h
  | 19, h => exact h
  | 20, h => exact trivial
  | 21, h => exact trivial
  | 22, h => exact trivial
  | 23, h => exact trivial
  | 24, h => exact trivial
  | 25, h => exact trivial
  | 26, h => exact h
  | _ + 27, h => exact trivial

/-- What the region's operations leave. -/
def mcC (n : Int) (mX cX m c mA cA T b8 b9 : Nat) (oX o oA : Option Addr) (ix : Nat) (w : World) (v : Value) : Prop :=
  match ix with
  | 0 => v = .int .i64 (n)
  | 1 => v = .bool false
  | 2 => v = .bool false
  | 3 => v = .int .i64 (n)
  | 4 => v = .bool false
  | 5 => v = .bool false
  | 6 => v = .bool false
  | 7 => v = .int .i64 (n)
  | 8 => v = .slice oA mA cA
  | 9 => v = .bool false
  | 10 => v = .bool true
  | 11 => v = .bool true
  | 12 => v = .bool true
  | 13 => True
  | 14 => True
  | 15 => True
  | 16 => True
  | 17 => True
  | 18 => v = .bool true
  | 19 => v = .bool true
  | 20 => True
  | 21 => True
  | 22 => True
  | 23 => True
  | 24 => True
  | 25 => True
  | 26 => v = .bool true
  | _ => True

theorem mcC_mono (n : Int) (mX cX m c mA cA T b8 b9 : Nat) (oX o oA : Option Addr) (jx : Nat) (w w' : World) (v : Value) (hb : Below w.heap.size w w') (h : mcC n mX cX m c mA cA T b8 b9 oX o oA jx w v) : mcC n mX cX m c mA cA T b8 b9 oX o oA jx w' v := by
  match jx, h with
  | 0, h => exact h
  | 1, h => exact h
  | 2, h => exact h
  | 3, h => exact h
  | 4, h => exact h
  | 5, h => exact h
  | 6, h => exact h
  | 7, h => exact h
  | 8, h => exact h
  | 9, h => exact h
  | 10, h => exact h
  | 11, h => exact h
  | 12, h => exact h
  | 13, h => exact trivial
  | 14, h => exact trivial
  | 15, h => exact trivial
  | 16, h => exact trivial
  | 17, h => exact trivial
  | 18, h => exact h
  | 19, h => exact h
  | 20, h => exact trivial
  | 21, h => exact trivial
  | 22, h => exact trivial
  | 23, h => exact trivial
  | 24, h => exact trivial
  | 25, h => exact trivial
  | 26, h => exact h
  | _ + 27, h => exact trivial

/-- What the region's operations leave. -/
def mcD (n : Nat) (mX cX m c mA cA T b8 b9 : Nat) (oX o oA : Option Addr) (ix : Nat) (w : World) (v : Value) : Prop :=
  match ix with
  | 0 => v = .int .i64 (n : Int)
  | 1 => v = .bool false
  | 2 => v = .bool false
  | 3 => v = .int .i64 (n : Int)
  | 4 => v = .bool false
  | 5 => v = .bool false
  | 6 => v = .bool false
  | 7 => v = .int .i64 (n : Int)
  | 8 => v = .slice oA mA cA
  | 9 => v = .bool true
  | 10 => v = .bool false
  | 11 => v = .bool false
  | 12 => v = .bool false
  | 13 => v = .slice oX mX cX
  | 14 => v = .int .i64 (mX : Int)
  | 15 => v = .slice oA mA cA
  | 16 => v = .int .i64 (mA : Int)
  | 17 => v = .bool true
  | 18 => v = .bool true
  | 19 => v = .bool true
  | 20 => True
  | 21 => True
  | 22 => True
  | 23 => True
  | 24 => True
  | 25 => True
  | 26 => v = .bool true
  | _ => True

theorem mcD_mono (n : Nat) (mX cX m c mA cA T b8 b9 : Nat) (oX o oA : Option Addr) (jx : Nat) (w w' : World) (v : Value) (hb : Below w.heap.size w w') (h : mcD n mX cX m c mA cA T b8 b9 oX o oA jx w v) : mcD n mX cX m c mA cA T b8 b9 oX o oA jx w' v := by
  match jx, h with
  | 0, h => exact h
  | 1, h => exact h
  | 2, h => exact h
  | 3, h => exact h
  | 4, h => exact h
  | 5, h => exact h
  | 6, h => exact h
  | 7, h => exact h
  | 8, h => exact h
  | 9, h => exact h
  | 10, h => exact h
  | 11, h => exact h
  | 12, h => exact h
  | 13, h => exact h
  | 14, h => exact h
  | 15, h => exact h
  | 16, h => exact h
  | 17, h => exact h
  | 18, h => exact h
  | 19, h => exact h
  | 20, h => exact trivial
  | 21, h => exact trivial
  | 22, h => exact trivial
  | 23, h => exact trivial
  | 24, h => exact trivial
  | 25, h => exact trivial
  | 26, h => exact h
  | _ + 27, h => exact trivial

/-- What the region's operations leave. -/
def mcE (n : Nat) (mX cX m c mA cA T b8 b9 : Nat) (oX o oA : Option Addr) (ix : Nat) (w : World) (v : Value) : Prop :=
  match ix with
  | 0 => v = .int .i64 (n : Int)
  | 1 => v = .bool false
  | 2 => v = .bool false
  | 3 => v = .int .i64 (n : Int)
  | 4 => v = .bool false
  | 5 => v = .bool false
  | 6 => v = .bool false
  | 7 => v = .int .i64 (n : Int)
  | 8 => v = .slice oA mA cA
  | 9 => v = .bool true
  | 10 => v = .bool false
  | 11 => v = .bool false
  | 12 => v = .bool false
  | 13 => v = .slice oX mX cX
  | 14 => v = .int .i64 (mX : Int)
  | 15 => v = .slice oA mA cA
  | 16 => v = .int .i64 (mA : Int)
  | 17 => v = .bool false
  | 18 => v = .bool false
  | 19 => v = .bool false
  | 20 => v = .slice o m c
  | 21 => v = .int .i64 (m : Int)
  | 22 => v = .int .i64 (n : Int)
  | 23 => v = .slice oA mA cA
  | 24 => v = .int .i64 (T : Int)
  | 25 => v = .bool true
  | 26 => v = .bool true
  | _ => True

theorem mcE_mono (n : Nat) (mX cX m c mA cA T b8 b9 : Nat) (oX o oA : Option Addr) (jx : Nat) (w w' : World) (v : Value) (hb : Below w.heap.size w w') (h : mcE n mX cX m c mA cA T b8 b9 oX o oA jx w v) : mcE n mX cX m c mA cA T b8 b9 oX o oA jx w' v := by
  match jx, h with
  | 0, h => exact h
  | 1, h => exact h
  | 2, h => exact h
  | 3, h => exact h
  | 4, h => exact h
  | 5, h => exact h
  | 6, h => exact h
  | 7, h => exact h
  | 8, h => exact h
  | 9, h => exact h
  | 10, h => exact h
  | 11, h => exact h
  | 12, h => exact h
  | 13, h => exact h
  | 14, h => exact h
  | 15, h => exact h
  | 16, h => exact h
  | 17, h => exact h
  | 18, h => exact h
  | 19, h => exact h
  | 20, h => exact h
  | 21, h => exact h
  | 22, h => exact h
  | 23, h => exact h
  | 24, h => exact h
  | 25, h => exact h
  | 26, h => exact h
  | _ + 27, h => exact trivial

/-- What the region's operations leave. -/
def mcF (n : Nat) (mX cX m c mA cA T b8 b9 : Nat) (oX o oA : Option Addr) (ix : Nat) (w : World) (v : Value) : Prop :=
  match ix with
  | 0 => v = .int .i64 (n : Int)
  | 1 => v = .bool false
  | 2 => v = .bool false
  | 3 => v = .int .i64 (n : Int)
  | 4 => v = .bool false
  | 5 => v = .bool false
  | 6 => v = .bool false
  | 7 => v = .int .i64 (n : Int)
  | 8 => v = .slice oA mA cA
  | 9 => v = .bool true
  | 10 => v = .bool false
  | 11 => v = .bool false
  | 12 => v = .bool false
  | 13 => v = .slice oX mX cX
  | 14 => v = .int .i64 (mX : Int)
  | 15 => v = .slice oA mA cA
  | 16 => v = .int .i64 (mA : Int)
  | 17 => v = .bool false
  | 18 => v = .bool false
  | 19 => v = .bool false
  | 20 => v = .slice o m c
  | 21 => v = .int .i64 (m : Int)
  | 22 => v = .int .i64 (n : Int)
  | 23 => v = .slice oA mA cA
  | 24 => v = .int .i64 (T : Int)
  | 25 => v = .bool false
  | 26 => v = .bool false
  | _ => True

theorem mcF_mono (n : Nat) (mX cX m c mA cA T b8 b9 : Nat) (oX o oA : Option Addr) (jx : Nat) (w w' : World) (v : Value) (hb : Below w.heap.size w w') (h : mcF n mX cX m c mA cA T b8 b9 oX o oA jx w v) : mcF n mX cX m c mA cA T b8 b9 oX o oA jx w' v := by
  match jx, h with
  | 0, h => exact h
  | 1, h => exact h
  | 2, h => exact h
  | 3, h => exact h
  | 4, h => exact h
  | 5, h => exact h
  | 6, h => exact h
  | 7, h => exact h
  | 8, h => exact h
  | 9, h => exact h
  | 10, h => exact h
  | 11, h => exact h
  | 12, h => exact h
  | 13, h => exact h
  | 14, h => exact h
  | 15, h => exact h
  | 16, h => exact h
  | 17, h => exact h
  | 18, h => exact h
  | 19, h => exact h
  | 20, h => exact h
  | 21, h => exact h
  | 22, h => exact h
  | 23, h => exact h
  | 24, h => exact h
  | 25, h => exact h
  | 26, h => exact h
  | _ + 27, h => exact trivial


set_option maxRecDepth 100000 in
set_option maxHeartbeats 4000000 in
theorem manyCheck_bad (w : World) (r : List UInt8) (n : Int) (oA oX o : Option Addr) (mA cA mX cX m c : Nat) (A : List Int) (hA : IntsAt w oA mA cA A) (h : sizeBad n A = true) :
    Calls Tryd.prog 16 #[.agg (byteCells r).toArray, .int .i64 n, .slice oA mA cA, .slice oX mX cX, .slice o m c] w fun e w' => e = .returned (.bool false) ∧ Below w.heap.size w w' := by
  obtain ⟨W0, hW0⟩ : ∃ W0, W0 = ((w.alloc (.cells (byteCells r).toArray 23)).alloc (.cells #[.slice oX mX cX] 24)).alloc (.cells #[.slice o m c] 27) := ⟨_, rfl⟩
  have b0 : Below w.heap.size w W0 := by rw [hW0]; exact (((Below.refl _ _).alloc (Nat.le_refl _) _).alloc (by simp) _).alloc (by simp; omega) _
  have xr0 : W0.heap[w.heap.size]? = some (.cells (byteCells r).toArray 23 (0, 0)) := by
    rw [hW0, Below.heap_alloc _ _ _ (by simp; omega), Below.heap_alloc _ _ _ (by simp)]; exact heap_alloc_new w _
  have x8 : W0.heap[w.heap.size + 1]? = some (.cells #[.slice oX mX cX] 24 (0, 0)) := by
    rw [hW0, Below.heap_alloc _ _ _ (by simp)]
    have := heap_alloc_new (w.alloc (.cells (byteCells r).toArray 23)) (.cells #[.slice oX mX cX] 24); simpa using this
  have x9 : W0.heap[w.heap.size + 1 + 1]? = some (.cells #[.slice o m c] 27 (0, 0)) := by
    rw [hW0]; have := heap_alloc_new ((w.alloc (.cells (byteCells r).toArray 23)).alloc (.cells #[.slice oX mX cX] 24)) (.cells #[.slice o m c] 27); simpa using this
  have XR0 := Lib.hid xr0; clear xr0
  have X8 := Lib.hid x8; clear x8
  have X9 := Lib.hid x9; clear x9
  have HW0 := Lib.hid hW0; clear hW0
  obtain ⟨T, hT⟩ : ∃ T : Nat, T = 0 := ⟨_, rfl⟩
  clear hT
  have hr := fun (w2 : World) (b2 : Below W0.heap.size W0 w2) => manyRises_any w2 n oA mA cA A (hA.below (Nat.le_refl _) (b0.trans (b2.mono b0.size)))
  unfold sizeBad at h
  rcases h1 : decide (n < 0) with _ | _
  · rcases h2 : decide (65536 < n) with _ | _
    · have h3 : risesB n A = false := by rw [h1, h2] at h; simpa using h
      simp only [h3] at hr
      have HRS := Lib.hid hr; clear hr h3 h hA
      go_enter Tryd.func16, Tryd.ntmps16
      go_wp2_with fail
      change Code.wp _ _ _ _ (((w.alloc (.cells (byteCells r).toArray 23)).alloc (.cells #[.slice oX mX cX] 24)).alloc (.cells #[.slice o m c] 27))
      rw [← HW0.out]
      refine wp_region_rel [[], [0], [1], [2], [2, 3], [2, 4], [5], [6], [6], [6, 7, 8], [6, 9], [6, 10], [11], [12], [12, 13], [12], [12, 15], [12, 14, 16], [12, 17], [18], [19], [19, 20], [19], [19], [19, 22, 23], [19, 21, 24], [19, 25]] (mcC n mX cX m c mA cA T (w.heap.size + 1) (w.heap.size + 1 + 1) oX o oA) 65 (by kernel_rfl) (by kernel_rfl) (by kernel_rfl) (mcC_mono n mX cX m c mA cA T (w.heap.size + 1) (w.heap.size + 1 + 1) oX o oA) ?_ ?_
      · intro ix op hi w2 b2 vs hv
        have him : ix < 27 := (List.getElem?_eq_some_iff.1 hi).1
        have hb2 := b2
        match ix, him, hi with
        | 0, _, hi =>
          obtain rfl := Option.some.inj hi
          simp only [relF, List.getD_cons_zero, List.getD_cons_succ, List.foldl_cons, List.foldl_nil, dstAt, List.getElem?_cons_zero, List.getElem?_cons_succ, Option.bind_some]
          go_wp2_with fail
          exact ⟨rfl, Below.refl _ _, rfl, rfl⟩
        | 1, _, hi =>
          obtain rfl := Option.some.inj hi
          have h0 : vs 0 = _ := hv 0 (by decide)
          simp only [relF, List.getD_cons_zero, List.getD_cons_succ, List.foldl_cons, List.foldl_nil, dstAt, List.getElem?_cons_zero, List.getElem?_cons_succ, Option.bind_some]
          go_frame
          rw [h0]
          go_wp2_with fail
          exact ⟨rfl, Below.refl _ _, rfl, by first | rfl | (show slotOf _ _ = _; simp [slotOf]; done) | (show slotOf _ _ = _; simp [slotOf]; omega)⟩
        | 2, _, hi =>
          obtain rfl := Option.some.inj hi
          have h1 : vs 1 = _ := hv 1 (by decide)
          simp only [relF, List.getD_cons_zero, List.getD_cons_succ, List.foldl_cons, List.foldl_nil, dstAt, List.getElem?_cons_zero, List.getElem?_cons_succ, Option.bind_some]
          go_frame
          rw [h1]
          go_wp2_with fail
          exact ⟨rfl, Below.refl _ _, rfl, rfl⟩
        | 3, _, hi =>
          obtain rfl := Option.some.inj hi
          have h2 : vs 2 = _ := hv 2 (by decide)
          simp only [relF, List.getD_cons_zero, List.getD_cons_succ, List.foldl_cons, List.foldl_nil, dstAt, List.getElem?_cons_zero, List.getElem?_cons_succ, Option.bind_some]
          go_frame
          rw [h2]
          go_wp2_with fail
          exact ⟨rfl, Below.refl _ _, rfl, rfl⟩
        | 4, _, hi =>
          obtain rfl := Option.some.inj hi
          have h2 : vs 2 = _ := hv 2 (by decide)
          have h3 : vs 3 = _ := hv 3 (by decide)
          simp only [relF, List.getD_cons_zero, List.getD_cons_succ, List.foldl_cons, List.foldl_nil, dstAt, List.getElem?_cons_zero, List.getElem?_cons_succ, Option.bind_some]
          go_frame
          rw [h2, h3]
          go_wp2_with fail
          exact ⟨rfl, Below.refl _ _, rfl, by first | rfl | (show slotOf _ _ = _; simp [slotOf]; done) | (show slotOf _ _ = _; simp [slotOf]; omega)⟩
        | 5, _, hi =>
          obtain rfl := Option.some.inj hi
          have h2 : vs 2 = _ := hv 2 (by decide)
          have h4 : vs 4 = _ := hv 4 (by decide)
          simp only [relF, List.getD_cons_zero, List.getD_cons_succ, List.foldl_cons, List.foldl_nil, dstAt, List.getElem?_cons_zero, List.getElem?_cons_succ, Option.bind_some]
          go_frame
          rw [h2, h4]
          go_wp2_with fail
          exact ⟨rfl, Below.refl _ _, rfl, rfl⟩
        | 6, _, hi =>
          obtain rfl := Option.some.inj hi
          have h5 : vs 5 = _ := hv 5 (by decide)
          simp only [relF, List.getD_cons_zero, List.getD_cons_succ, List.foldl_cons, List.foldl_nil, dstAt, List.getElem?_cons_zero, List.getElem?_cons_succ, Option.bind_some]
          go_frame
          rw [h5]
          go_wp2_with fail
          exact ⟨rfl, Below.refl _ _, rfl, rfl⟩
        | 7, _, hi =>
          obtain rfl := Option.some.inj hi
          have h6 : vs 6 = _ := hv 6 (by decide)
          simp only [relF, List.getD_cons_zero, List.getD_cons_succ, List.foldl_cons, List.foldl_nil, dstAt, List.getElem?_cons_zero, List.getElem?_cons_succ, Option.bind_some]
          go_frame
          rw [h6]
          go_wp2_with fail
          exact ⟨rfl, Below.refl _ _, rfl, rfl⟩
        | 8, _, hi =>
          obtain rfl := Option.some.inj hi
          have h6 : vs 6 = _ := hv 6 (by decide)
          simp only [relF, List.getD_cons_zero, List.getD_cons_succ, List.foldl_cons, List.foldl_nil, dstAt, List.getElem?_cons_zero, List.getElem?_cons_succ, Option.bind_some]
          go_frame
          rw [h6]
          go_wp2_with fail
          exact ⟨rfl, Below.refl _ _, rfl, rfl⟩
        | 9, _, hi =>
          obtain rfl := Option.some.inj hi
          have h6 : vs 6 = _ := hv 6 (by decide)
          have h7 : vs 7 = _ := hv 7 (by decide)
          have h8 : vs 8 = _ := hv 8 (by decide)
          simp only [relF, List.getD_cons_zero, List.getD_cons_succ, List.foldl_cons, List.foldl_nil, dstAt, List.getElem?_cons_zero, List.getElem?_cons_succ, Option.bind_some]
          go_frame
          rw [h6, h7, h8]
          go_wp2_with fail
          refine (HRS.out w2 b2).mono ?_
          rintro e w3 ⟨rfl, b3⟩
          go_wp2_with fail
          exact ⟨rfl, b3, rfl, rfl⟩
        | 10, _, hi =>
          obtain rfl := Option.some.inj hi
          have h6 : vs 6 = _ := hv 6 (by decide)
          have h9 : vs 9 = _ := hv 9 (by decide)
          simp only [relF, List.getD_cons_zero, List.getD_cons_succ, List.foldl_cons, List.foldl_nil, dstAt, List.getElem?_cons_zero, List.getElem?_cons_succ, Option.bind_some]
          go_frame
          rw [h6, h9]
          go_wp2_with fail
          exact ⟨rfl, Below.refl _ _, rfl, rfl⟩
        | 11, _, hi =>
          obtain rfl := Option.some.inj hi
          have h6 : vs 6 = _ := hv 6 (by decide)
          have h10 : vs 10 = _ := hv 10 (by decide)
          simp only [relF, List.getD_cons_zero, List.getD_cons_succ, List.foldl_cons, List.foldl_nil, dstAt, List.getElem?_cons_zero, List.getElem?_cons_succ, Option.bind_some]
          go_frame
          rw [h6, h10]
          go_wp2_with fail
          exact ⟨rfl, Below.refl _ _, rfl, rfl⟩
        | 12, _, hi =>
          obtain rfl := Option.some.inj hi
          have h11 : vs 11 = _ := hv 11 (by decide)
          simp only [relF, List.getD_cons_zero, List.getD_cons_succ, List.foldl_cons, List.foldl_nil, dstAt, List.getElem?_cons_zero, List.getElem?_cons_succ, Option.bind_some]
          go_frame
          rw [h11]
          go_wp2_with fail
          exact ⟨rfl, Below.refl _ _, rfl, rfl⟩
        | 13, _, hi =>
          obtain rfl := Option.some.inj hi
          have h12 : vs 12 = _ := hv 12 (by decide)
          simp only [relF, List.getD_cons_zero, List.getD_cons_succ, List.foldl_cons, List.foldl_nil, dstAt, List.getElem?_cons_zero, List.getElem?_cons_succ, Option.bind_some]
          go_frame
          rw [h12]
          go_wp2_with fail
          exact ⟨rfl, Below.refl _ _, rfl, trivial⟩
        | 14, _, hi =>
          obtain rfl := Option.some.inj hi
          have h12 : vs 12 = _ := hv 12 (by decide)
          simp only [relF, List.getD_cons_zero, List.getD_cons_succ, List.foldl_cons, List.foldl_nil, dstAt, List.getElem?_cons_zero, List.getElem?_cons_succ, Option.bind_some]
          go_frame
          rw [h12]
          go_wp2_with fail
          exact ⟨rfl, Below.refl _ _, rfl, trivial⟩
        | 15, _, hi =>
          obtain rfl := Option.some.inj hi
          have h12 : vs 12 = _ := hv 12 (by decide)
          simp only [relF, List.getD_cons_zero, List.getD_cons_succ, List.foldl_cons, List.foldl_nil, dstAt, List.getElem?_cons_zero, List.getElem?_cons_succ, Option.bind_some]
          go_frame
          rw [h12]
          go_wp2_with fail
          exact ⟨rfl, Below.refl _ _, rfl, trivial⟩
        | 16, _, hi =>
          obtain rfl := Option.some.inj hi
          have h12 : vs 12 = _ := hv 12 (by decide)
          simp only [relF, List.getD_cons_zero, List.getD_cons_succ, List.foldl_cons, List.foldl_nil, dstAt, List.getElem?_cons_zero, List.getElem?_cons_succ, Option.bind_some]
          go_frame
          rw [h12]
          go_wp2_with fail
          exact ⟨rfl, Below.refl _ _, rfl, trivial⟩
        | 17, _, hi =>
          obtain rfl := Option.some.inj hi
          have h12 : vs 12 = _ := hv 12 (by decide)
          simp only [relF, List.getD_cons_zero, List.getD_cons_succ, List.foldl_cons, List.foldl_nil, dstAt, List.getElem?_cons_zero, List.getElem?_cons_succ, Option.bind_some]
          go_frame
          rw [h12]
          go_wp2_with fail
          exact ⟨rfl, Below.refl _ _, rfl, trivial⟩
        | 18, _, hi =>
          obtain rfl := Option.some.inj hi
          have h12 : vs 12 = _ := hv 12 (by decide)
          simp only [relF, List.getD_cons_zero, List.getD_cons_succ, List.foldl_cons, List.foldl_nil, dstAt, List.getElem?_cons_zero, List.getElem?_cons_succ, Option.bind_some]
          go_frame
          rw [h12]
          go_wp2_with fail
          exact ⟨rfl, Below.refl _ _, rfl, rfl⟩
        | 19, _, hi =>
          obtain rfl := Option.some.inj hi
          have h18 : vs 18 = _ := hv 18 (by decide)
          simp only [relF, List.getD_cons_zero, List.getD_cons_succ, List.foldl_cons, List.foldl_nil, dstAt, List.getElem?_cons_zero, List.getElem?_cons_succ, Option.bind_some]
          go_frame
          rw [h18]
          go_wp2_with fail
          exact ⟨rfl, Below.refl _ _, rfl, rfl⟩
        | 20, _, hi =>
          obtain rfl := Option.some.inj hi
          have h19 : vs 19 = _ := hv 19 (by decide)
          simp only [relF, List.getD_cons_zero, List.getD_cons_succ, List.foldl_cons, List.foldl_nil, dstAt, List.getElem?_cons_zero, List.getElem?_cons_succ, Option.bind_some]
          go_frame
          rw [h19]
          go_wp2_with fail
          exact ⟨rfl, Below.refl _ _, rfl, trivial⟩
        | 21, _, hi =>
          obtain rfl := Option.some.inj hi
          have h19 : vs 19 = _ := hv 19 (by decide)
          simp only [relF, List.getD_cons_zero, List.getD_cons_succ, List.foldl_cons, List.foldl_nil, dstAt, List.getElem?_cons_zero, List.getElem?_cons_succ, Option.bind_some]
          go_frame
          rw [h19]
          go_wp2_with fail
          exact ⟨rfl, Below.refl _ _, rfl, trivial⟩
        | 22, _, hi =>
          obtain rfl := Option.some.inj hi
          have h19 : vs 19 = _ := hv 19 (by decide)
          simp only [relF, List.getD_cons_zero, List.getD_cons_succ, List.foldl_cons, List.foldl_nil, dstAt, List.getElem?_cons_zero, List.getElem?_cons_succ, Option.bind_some]
          go_frame
          rw [h19]
          go_wp2_with fail
          exact ⟨rfl, Below.refl _ _, rfl, trivial⟩
        | 23, _, hi =>
          obtain rfl := Option.some.inj hi
          have h19 : vs 19 = _ := hv 19 (by decide)
          simp only [relF, List.getD_cons_zero, List.getD_cons_succ, List.foldl_cons, List.foldl_nil, dstAt, List.getElem?_cons_zero, List.getElem?_cons_succ, Option.bind_some]
          go_frame
          rw [h19]
          go_wp2_with fail
          exact ⟨rfl, Below.refl _ _, rfl, trivial⟩
        | 24, _, hi =>
          obtain rfl := Option.some.inj hi
          have h19 : vs 19 = _ := hv 19 (by decide)
          simp only [relF, List.getD_cons_zero, List.getD_cons_succ, List.foldl_cons, List.foldl_nil, dstAt, List.getElem?_cons_zero, List.getElem?_cons_succ, Option.bind_some]
          go_frame
          rw [h19]
          go_wp2_with fail
          exact ⟨rfl, Below.refl _ _, rfl, trivial⟩
        | 25, _, hi =>
          obtain rfl := Option.some.inj hi
          have h19 : vs 19 = _ := hv 19 (by decide)
          simp only [relF, List.getD_cons_zero, List.getD_cons_succ, List.foldl_cons, List.foldl_nil, dstAt, List.getElem?_cons_zero, List.getElem?_cons_succ, Option.bind_some]
          go_frame
          rw [h19]
          go_wp2_with fail
          exact ⟨rfl, Below.refl _ _, rfl, trivial⟩
        | 26, _, hi =>
          obtain rfl := Option.some.inj hi
          have h19 : vs 19 = _ := hv 19 (by decide)
          simp only [relF, List.getD_cons_zero, List.getD_cons_succ, List.foldl_cons, List.foldl_nil, dstAt, List.getElem?_cons_zero, List.getElem?_cons_succ, Option.bind_some]
          go_frame
          rw [h19]
          go_wp2_with fail
          exact ⟨rfl, Below.refl _ _, rfl, rfl⟩
        | nx + 27, him, _ => exact absurd him (by omega)
      · intro w2 b2 vs hv
        have hb2 := b2
        have h26 : vs 26 = _ := hv 26 (by decide)
        simp only [relF, List.drop_succ_cons, List.drop_zero, List.length_cons, List.length_nil, Nat.zero_add, Nat.reduceAdd, List.range, List.range.loop, List.foldl_cons, List.foldl_nil, dstAt, List.getElem?_cons_zero, List.getElem?_cons_succ, Option.bind_some]
        go_frame
        rw [h26]
        go_wp2_with fail
        go_ret
        exact ⟨rfl, b0.trans (b2.mono b0.size)⟩
    · clear h hr hA
      go_enter Tryd.func16, Tryd.ntmps16
      go_wp2_with fail
      change Code.wp _ _ _ _ (((w.alloc (.cells (byteCells r).toArray 23)).alloc (.cells #[.slice oX mX cX] 24)).alloc (.cells #[.slice o m c] 27))
      rw [← HW0.out]
      refine wp_region_rel [[], [0], [1], [2], [2, 3], [2, 4], [5], [6], [6], [6, 7, 8], [6, 9], [6, 10], [11], [12], [12, 13], [12], [12, 15], [12, 14, 16], [12, 17], [18], [19], [19, 20], [19], [19], [19, 22, 23], [19, 21, 24], [19, 25]] (mcB n mX cX m c mA cA T (w.heap.size + 1) (w.heap.size + 1 + 1) oX o oA) 65 (by kernel_rfl) (by kernel_rfl) (by kernel_rfl) (mcB_mono n mX cX m c mA cA T (w.heap.size + 1) (w.heap.size + 1 + 1) oX o oA) ?_ ?_
      · intro ix op hi w2 b2 vs hv
        have him : ix < 27 := (List.getElem?_eq_some_iff.1 hi).1
        have hb2 := b2
        match ix, him, hi with
        | 0, _, hi =>
          obtain rfl := Option.some.inj hi
          simp only [relF, List.getD_cons_zero, List.getD_cons_succ, List.foldl_cons, List.foldl_nil, dstAt, List.getElem?_cons_zero, List.getElem?_cons_succ, Option.bind_some]
          go_wp2_with fail
          exact ⟨rfl, Below.refl _ _, rfl, rfl⟩
        | 1, _, hi =>
          obtain rfl := Option.some.inj hi
          have h0 : vs 0 = _ := hv 0 (by decide)
          simp only [relF, List.getD_cons_zero, List.getD_cons_succ, List.foldl_cons, List.foldl_nil, dstAt, List.getElem?_cons_zero, List.getElem?_cons_succ, Option.bind_some]
          go_frame
          rw [h0]
          go_wp2_with fail
          exact ⟨rfl, Below.refl _ _, rfl, by first | rfl | (show slotOf _ _ = _; simp [slotOf]; done) | (show slotOf _ _ = _; simp [slotOf]; omega)⟩
        | 2, _, hi =>
          obtain rfl := Option.some.inj hi
          have h1 : vs 1 = _ := hv 1 (by decide)
          simp only [relF, List.getD_cons_zero, List.getD_cons_succ, List.foldl_cons, List.foldl_nil, dstAt, List.getElem?_cons_zero, List.getElem?_cons_succ, Option.bind_some]
          go_frame
          rw [h1]
          go_wp2_with fail
          exact ⟨rfl, Below.refl _ _, rfl, rfl⟩
        | 3, _, hi =>
          obtain rfl := Option.some.inj hi
          have h2 : vs 2 = _ := hv 2 (by decide)
          simp only [relF, List.getD_cons_zero, List.getD_cons_succ, List.foldl_cons, List.foldl_nil, dstAt, List.getElem?_cons_zero, List.getElem?_cons_succ, Option.bind_some]
          go_frame
          rw [h2]
          go_wp2_with fail
          exact ⟨rfl, Below.refl _ _, rfl, rfl⟩
        | 4, _, hi =>
          obtain rfl := Option.some.inj hi
          have h2 : vs 2 = _ := hv 2 (by decide)
          have h3 : vs 3 = _ := hv 3 (by decide)
          simp only [relF, List.getD_cons_zero, List.getD_cons_succ, List.foldl_cons, List.foldl_nil, dstAt, List.getElem?_cons_zero, List.getElem?_cons_succ, Option.bind_some]
          go_frame
          rw [h2, h3]
          go_wp2_with fail
          exact ⟨rfl, Below.refl _ _, rfl, by first | rfl | (show slotOf _ _ = _; simp [slotOf]; done) | (show slotOf _ _ = _; simp [slotOf]; omega)⟩
        | 5, _, hi =>
          obtain rfl := Option.some.inj hi
          have h2 : vs 2 = _ := hv 2 (by decide)
          have h4 : vs 4 = _ := hv 4 (by decide)
          simp only [relF, List.getD_cons_zero, List.getD_cons_succ, List.foldl_cons, List.foldl_nil, dstAt, List.getElem?_cons_zero, List.getElem?_cons_succ, Option.bind_some]
          go_frame
          rw [h2, h4]
          go_wp2_with fail
          exact ⟨rfl, Below.refl _ _, rfl, rfl⟩
        | 6, _, hi =>
          obtain rfl := Option.some.inj hi
          have h5 : vs 5 = _ := hv 5 (by decide)
          simp only [relF, List.getD_cons_zero, List.getD_cons_succ, List.foldl_cons, List.foldl_nil, dstAt, List.getElem?_cons_zero, List.getElem?_cons_succ, Option.bind_some]
          go_frame
          rw [h5]
          go_wp2_with fail
          exact ⟨rfl, Below.refl _ _, rfl, rfl⟩
        | 7, _, hi =>
          obtain rfl := Option.some.inj hi
          have h6 : vs 6 = _ := hv 6 (by decide)
          simp only [relF, List.getD_cons_zero, List.getD_cons_succ, List.foldl_cons, List.foldl_nil, dstAt, List.getElem?_cons_zero, List.getElem?_cons_succ, Option.bind_some]
          go_frame
          rw [h6]
          go_wp2_with fail
          exact ⟨rfl, Below.refl _ _, rfl, trivial⟩
        | 8, _, hi =>
          obtain rfl := Option.some.inj hi
          have h6 : vs 6 = _ := hv 6 (by decide)
          simp only [relF, List.getD_cons_zero, List.getD_cons_succ, List.foldl_cons, List.foldl_nil, dstAt, List.getElem?_cons_zero, List.getElem?_cons_succ, Option.bind_some]
          go_frame
          rw [h6]
          go_wp2_with fail
          exact ⟨rfl, Below.refl _ _, rfl, trivial⟩
        | 9, _, hi =>
          obtain rfl := Option.some.inj hi
          have h6 : vs 6 = _ := hv 6 (by decide)
          simp only [relF, List.getD_cons_zero, List.getD_cons_succ, List.foldl_cons, List.foldl_nil, dstAt, List.getElem?_cons_zero, List.getElem?_cons_succ, Option.bind_some]
          go_frame
          rw [h6]
          go_wp2_with fail
          exact ⟨rfl, Below.refl _ _, rfl, trivial⟩
        | 10, _, hi =>
          obtain rfl := Option.some.inj hi
          have h6 : vs 6 = _ := hv 6 (by decide)
          simp only [relF, List.getD_cons_zero, List.getD_cons_succ, List.foldl_cons, List.foldl_nil, dstAt, List.getElem?_cons_zero, List.getElem?_cons_succ, Option.bind_some]
          go_frame
          rw [h6]
          go_wp2_with fail
          exact ⟨rfl, Below.refl _ _, rfl, trivial⟩
        | 11, _, hi =>
          obtain rfl := Option.some.inj hi
          have h6 : vs 6 = _ := hv 6 (by decide)
          simp only [relF, List.getD_cons_zero, List.getD_cons_succ, List.foldl_cons, List.foldl_nil, dstAt, List.getElem?_cons_zero, List.getElem?_cons_succ, Option.bind_some]
          go_frame
          rw [h6]
          go_wp2_with fail
          exact ⟨rfl, Below.refl _ _, rfl, rfl⟩
        | 12, _, hi =>
          obtain rfl := Option.some.inj hi
          have h11 : vs 11 = _ := hv 11 (by decide)
          simp only [relF, List.getD_cons_zero, List.getD_cons_succ, List.foldl_cons, List.foldl_nil, dstAt, List.getElem?_cons_zero, List.getElem?_cons_succ, Option.bind_some]
          go_frame
          rw [h11]
          go_wp2_with fail
          exact ⟨rfl, Below.refl _ _, rfl, rfl⟩
        | 13, _, hi =>
          obtain rfl := Option.some.inj hi
          have h12 : vs 12 = _ := hv 12 (by decide)
          simp only [relF, List.getD_cons_zero, List.getD_cons_succ, List.foldl_cons, List.foldl_nil, dstAt, List.getElem?_cons_zero, List.getElem?_cons_succ, Option.bind_some]
          go_frame
          rw [h12]
          go_wp2_with fail
          exact ⟨rfl, Below.refl _ _, rfl, trivial⟩
        | 14, _, hi =>
          obtain rfl := Option.some.inj hi
          have h12 : vs 12 = _ := hv 12 (by decide)
          simp only [relF, List.getD_cons_zero, List.getD_cons_succ, List.foldl_cons, List.foldl_nil, dstAt, List.getElem?_cons_zero, List.getElem?_cons_succ, Option.bind_some]
          go_frame
          rw [h12]
          go_wp2_with fail
          exact ⟨rfl, Below.refl _ _, rfl, trivial⟩
        | 15, _, hi =>
          obtain rfl := Option.some.inj hi
          have h12 : vs 12 = _ := hv 12 (by decide)
          simp only [relF, List.getD_cons_zero, List.getD_cons_succ, List.foldl_cons, List.foldl_nil, dstAt, List.getElem?_cons_zero, List.getElem?_cons_succ, Option.bind_some]
          go_frame
          rw [h12]
          go_wp2_with fail
          exact ⟨rfl, Below.refl _ _, rfl, trivial⟩
        | 16, _, hi =>
          obtain rfl := Option.some.inj hi
          have h12 : vs 12 = _ := hv 12 (by decide)
          simp only [relF, List.getD_cons_zero, List.getD_cons_succ, List.foldl_cons, List.foldl_nil, dstAt, List.getElem?_cons_zero, List.getElem?_cons_succ, Option.bind_some]
          go_frame
          rw [h12]
          go_wp2_with fail
          exact ⟨rfl, Below.refl _ _, rfl, trivial⟩
        | 17, _, hi =>
          obtain rfl := Option.some.inj hi
          have h12 : vs 12 = _ := hv 12 (by decide)
          simp only [relF, List.getD_cons_zero, List.getD_cons_succ, List.foldl_cons, List.foldl_nil, dstAt, List.getElem?_cons_zero, List.getElem?_cons_succ, Option.bind_some]
          go_frame
          rw [h12]
          go_wp2_with fail
          exact ⟨rfl, Below.refl _ _, rfl, trivial⟩
        | 18, _, hi =>
          obtain rfl := Option.some.inj hi
          have h12 : vs 12 = _ := hv 12 (by decide)
          simp only [relF, List.getD_cons_zero, List.getD_cons_succ, List.foldl_cons, List.foldl_nil, dstAt, List.getElem?_cons_zero, List.getElem?_cons_succ, Option.bind_some]
          go_frame
          rw [h12]
          go_wp2_with fail
          exact ⟨rfl, Below.refl _ _, rfl, rfl⟩
        | 19, _, hi =>
          obtain rfl := Option.some.inj hi
          have h18 : vs 18 = _ := hv 18 (by decide)
          simp only [relF, List.getD_cons_zero, List.getD_cons_succ, List.foldl_cons, List.foldl_nil, dstAt, List.getElem?_cons_zero, List.getElem?_cons_succ, Option.bind_some]
          go_frame
          rw [h18]
          go_wp2_with fail
          exact ⟨rfl, Below.refl _ _, rfl, rfl⟩
        | 20, _, hi =>
          obtain rfl := Option.some.inj hi
          have h19 : vs 19 = _ := hv 19 (by decide)
          simp only [relF, List.getD_cons_zero, List.getD_cons_succ, List.foldl_cons, List.foldl_nil, dstAt, List.getElem?_cons_zero, List.getElem?_cons_succ, Option.bind_some]
          go_frame
          rw [h19]
          go_wp2_with fail
          exact ⟨rfl, Below.refl _ _, rfl, trivial⟩
        | 21, _, hi =>
          obtain rfl := Option.some.inj hi
          have h19 : vs 19 = _ := hv 19 (by decide)
          simp only [relF, List.getD_cons_zero, List.getD_cons_succ, List.foldl_cons, List.foldl_nil, dstAt, List.getElem?_cons_zero, List.getElem?_cons_succ, Option.bind_some]
          go_frame
          rw [h19]
          go_wp2_with fail
          exact ⟨rfl, Below.refl _ _, rfl, trivial⟩
        | 22, _, hi =>
          obtain rfl := Option.some.inj hi
          have h19 : vs 19 = _ := hv 19 (by decide)
          simp only [relF, List.getD_cons_zero, List.getD_cons_succ, List.foldl_cons, List.foldl_nil, dstAt, List.getElem?_cons_zero, List.getElem?_cons_succ, Option.bind_some]
          go_frame
          rw [h19]
          go_wp2_with fail
          exact ⟨rfl, Below.refl _ _, rfl, trivial⟩
        | 23, _, hi =>
          obtain rfl := Option.some.inj hi
          have h19 : vs 19 = _ := hv 19 (by decide)
          simp only [relF, List.getD_cons_zero, List.getD_cons_succ, List.foldl_cons, List.foldl_nil, dstAt, List.getElem?_cons_zero, List.getElem?_cons_succ, Option.bind_some]
          go_frame
          rw [h19]
          go_wp2_with fail
          exact ⟨rfl, Below.refl _ _, rfl, trivial⟩
        | 24, _, hi =>
          obtain rfl := Option.some.inj hi
          have h19 : vs 19 = _ := hv 19 (by decide)
          simp only [relF, List.getD_cons_zero, List.getD_cons_succ, List.foldl_cons, List.foldl_nil, dstAt, List.getElem?_cons_zero, List.getElem?_cons_succ, Option.bind_some]
          go_frame
          rw [h19]
          go_wp2_with fail
          exact ⟨rfl, Below.refl _ _, rfl, trivial⟩
        | 25, _, hi =>
          obtain rfl := Option.some.inj hi
          have h19 : vs 19 = _ := hv 19 (by decide)
          simp only [relF, List.getD_cons_zero, List.getD_cons_succ, List.foldl_cons, List.foldl_nil, dstAt, List.getElem?_cons_zero, List.getElem?_cons_succ, Option.bind_some]
          go_frame
          rw [h19]
          go_wp2_with fail
          exact ⟨rfl, Below.refl _ _, rfl, trivial⟩
        | 26, _, hi =>
          obtain rfl := Option.some.inj hi
          have h19 : vs 19 = _ := hv 19 (by decide)
          simp only [relF, List.getD_cons_zero, List.getD_cons_succ, List.foldl_cons, List.foldl_nil, dstAt, List.getElem?_cons_zero, List.getElem?_cons_succ, Option.bind_some]
          go_frame
          rw [h19]
          go_wp2_with fail
          exact ⟨rfl, Below.refl _ _, rfl, rfl⟩
        | nx + 27, him, _ => exact absurd him (by omega)
      · intro w2 b2 vs hv
        have hb2 := b2
        have h26 : vs 26 = _ := hv 26 (by decide)
        simp only [relF, List.drop_succ_cons, List.drop_zero, List.length_cons, List.length_nil, Nat.zero_add, Nat.reduceAdd, List.range, List.range.loop, List.foldl_cons, List.foldl_nil, dstAt, List.getElem?_cons_zero, List.getElem?_cons_succ, Option.bind_some]
        go_frame
        rw [h26]
        go_wp2_with fail
        go_ret
        exact ⟨rfl, b0.trans (b2.mono b0.size)⟩
  · clear h hr hA
    go_enter Tryd.func16, Tryd.ntmps16
    go_wp2_with fail
    change Code.wp _ _ _ _ (((w.alloc (.cells (byteCells r).toArray 23)).alloc (.cells #[.slice oX mX cX] 24)).alloc (.cells #[.slice o m c] 27))
    rw [← HW0.out]
    refine wp_region_rel [[], [0], [1], [2], [2, 3], [2, 4], [5], [6], [6], [6, 7, 8], [6, 9], [6, 10], [11], [12], [12, 13], [12], [12, 15], [12, 14, 16], [12, 17], [18], [19], [19, 20], [19], [19], [19, 22, 23], [19, 21, 24], [19, 25]] (mcA n mX cX m c mA cA T (w.heap.size + 1) (w.heap.size + 1 + 1) oX o oA) 65 (by kernel_rfl) (by kernel_rfl) (by kernel_rfl) (mcA_mono n mX cX m c mA cA T (w.heap.size + 1) (w.heap.size + 1 + 1) oX o oA) ?_ ?_
    · intro ix op hi w2 b2 vs hv
      have him : ix < 27 := (List.getElem?_eq_some_iff.1 hi).1
      have hb2 := b2
      match ix, him, hi with
      | 0, _, hi =>
        obtain rfl := Option.some.inj hi
        simp only [relF, List.getD_cons_zero, List.getD_cons_succ, List.foldl_cons, List.foldl_nil, dstAt, List.getElem?_cons_zero, List.getElem?_cons_succ, Option.bind_some]
        go_wp2_with fail
        exact ⟨rfl, Below.refl _ _, rfl, rfl⟩
      | 1, _, hi =>
        obtain rfl := Option.some.inj hi
        have h0 : vs 0 = _ := hv 0 (by decide)
        simp only [relF, List.getD_cons_zero, List.getD_cons_succ, List.foldl_cons, List.foldl_nil, dstAt, List.getElem?_cons_zero, List.getElem?_cons_succ, Option.bind_some]
        go_frame
        rw [h0]
        go_wp2_with fail
        exact ⟨rfl, Below.refl _ _, rfl, by first | rfl | (show slotOf _ _ = _; simp [slotOf]; done) | (show slotOf _ _ = _; simp [slotOf]; omega)⟩
      | 2, _, hi =>
        obtain rfl := Option.some.inj hi
        have h1 : vs 1 = _ := hv 1 (by decide)
        simp only [relF, List.getD_cons_zero, List.getD_cons_succ, List.foldl_cons, List.foldl_nil, dstAt, List.getElem?_cons_zero, List.getElem?_cons_succ, Option.bind_some]
        go_frame
        rw [h1]
        go_wp2_with fail
        exact ⟨rfl, Below.refl _ _, rfl, rfl⟩
      | 3, _, hi =>
        obtain rfl := Option.some.inj hi
        have h2 : vs 2 = _ := hv 2 (by decide)
        simp only [relF, List.getD_cons_zero, List.getD_cons_succ, List.foldl_cons, List.foldl_nil, dstAt, List.getElem?_cons_zero, List.getElem?_cons_succ, Option.bind_some]
        go_frame
        rw [h2]
        go_wp2_with fail
        exact ⟨rfl, Below.refl _ _, rfl, trivial⟩
      | 4, _, hi =>
        obtain rfl := Option.some.inj hi
        have h2 : vs 2 = _ := hv 2 (by decide)
        simp only [relF, List.getD_cons_zero, List.getD_cons_succ, List.foldl_cons, List.foldl_nil, dstAt, List.getElem?_cons_zero, List.getElem?_cons_succ, Option.bind_some]
        go_frame
        rw [h2]
        go_wp2_with fail
        exact ⟨rfl, Below.refl _ _, rfl, trivial⟩
      | 5, _, hi =>
        obtain rfl := Option.some.inj hi
        have h2 : vs 2 = _ := hv 2 (by decide)
        simp only [relF, List.getD_cons_zero, List.getD_cons_succ, List.foldl_cons, List.foldl_nil, dstAt, List.getElem?_cons_zero, List.getElem?_cons_succ, Option.bind_some]
        go_frame
        rw [h2]
        go_wp2_with fail
        exact ⟨rfl, Below.refl _ _, rfl, rfl⟩
      | 6, _, hi =>
        obtain rfl := Option.some.inj hi
        have h5 : vs 5 = _ := hv 5 (by decide)
        simp only [relF, List.getD_cons_zero, List.getD_cons_succ, List.foldl_cons, List.foldl_nil, dstAt, List.getElem?_cons_zero, List.getElem?_cons_succ, Option.bind_some]
        go_frame
        rw [h5]
        go_wp2_with fail
        exact ⟨rfl, Below.refl _ _, rfl, rfl⟩
      | 7, _, hi =>
        obtain rfl := Option.some.inj hi
        have h6 : vs 6 = _ := hv 6 (by decide)
        simp only [relF, List.getD_cons_zero, List.getD_cons_succ, List.foldl_cons, List.foldl_nil, dstAt, List.getElem?_cons_zero, List.getElem?_cons_succ, Option.bind_some]
        go_frame
        rw [h6]
        go_wp2_with fail
        exact ⟨rfl, Below.refl _ _, rfl, trivial⟩
      | 8, _, hi =>
        obtain rfl := Option.some.inj hi
        have h6 : vs 6 = _ := hv 6 (by decide)
        simp only [relF, List.getD_cons_zero, List.getD_cons_succ, List.foldl_cons, List.foldl_nil, dstAt, List.getElem?_cons_zero, List.getElem?_cons_succ, Option.bind_some]
        go_frame
        rw [h6]
        go_wp2_with fail
        exact ⟨rfl, Below.refl _ _, rfl, trivial⟩
      | 9, _, hi =>
        obtain rfl := Option.some.inj hi
        have h6 : vs 6 = _ := hv 6 (by decide)
        simp only [relF, List.getD_cons_zero, List.getD_cons_succ, List.foldl_cons, List.foldl_nil, dstAt, List.getElem?_cons_zero, List.getElem?_cons_succ, Option.bind_some]
        go_frame
        rw [h6]
        go_wp2_with fail
        exact ⟨rfl, Below.refl _ _, rfl, trivial⟩
      | 10, _, hi =>
        obtain rfl := Option.some.inj hi
        have h6 : vs 6 = _ := hv 6 (by decide)
        simp only [relF, List.getD_cons_zero, List.getD_cons_succ, List.foldl_cons, List.foldl_nil, dstAt, List.getElem?_cons_zero, List.getElem?_cons_succ, Option.bind_some]
        go_frame
        rw [h6]
        go_wp2_with fail
        exact ⟨rfl, Below.refl _ _, rfl, trivial⟩
      | 11, _, hi =>
        obtain rfl := Option.some.inj hi
        have h6 : vs 6 = _ := hv 6 (by decide)
        simp only [relF, List.getD_cons_zero, List.getD_cons_succ, List.foldl_cons, List.foldl_nil, dstAt, List.getElem?_cons_zero, List.getElem?_cons_succ, Option.bind_some]
        go_frame
        rw [h6]
        go_wp2_with fail
        exact ⟨rfl, Below.refl _ _, rfl, rfl⟩
      | 12, _, hi =>
        obtain rfl := Option.some.inj hi
        have h11 : vs 11 = _ := hv 11 (by decide)
        simp only [relF, List.getD_cons_zero, List.getD_cons_succ, List.foldl_cons, List.foldl_nil, dstAt, List.getElem?_cons_zero, List.getElem?_cons_succ, Option.bind_some]
        go_frame
        rw [h11]
        go_wp2_with fail
        exact ⟨rfl, Below.refl _ _, rfl, rfl⟩
      | 13, _, hi =>
        obtain rfl := Option.some.inj hi
        have h12 : vs 12 = _ := hv 12 (by decide)
        simp only [relF, List.getD_cons_zero, List.getD_cons_succ, List.foldl_cons, List.foldl_nil, dstAt, List.getElem?_cons_zero, List.getElem?_cons_succ, Option.bind_some]
        go_frame
        rw [h12]
        go_wp2_with fail
        exact ⟨rfl, Below.refl _ _, rfl, trivial⟩
      | 14, _, hi =>
        obtain rfl := Option.some.inj hi
        have h12 : vs 12 = _ := hv 12 (by decide)
        simp only [relF, List.getD_cons_zero, List.getD_cons_succ, List.foldl_cons, List.foldl_nil, dstAt, List.getElem?_cons_zero, List.getElem?_cons_succ, Option.bind_some]
        go_frame
        rw [h12]
        go_wp2_with fail
        exact ⟨rfl, Below.refl _ _, rfl, trivial⟩
      | 15, _, hi =>
        obtain rfl := Option.some.inj hi
        have h12 : vs 12 = _ := hv 12 (by decide)
        simp only [relF, List.getD_cons_zero, List.getD_cons_succ, List.foldl_cons, List.foldl_nil, dstAt, List.getElem?_cons_zero, List.getElem?_cons_succ, Option.bind_some]
        go_frame
        rw [h12]
        go_wp2_with fail
        exact ⟨rfl, Below.refl _ _, rfl, trivial⟩
      | 16, _, hi =>
        obtain rfl := Option.some.inj hi
        have h12 : vs 12 = _ := hv 12 (by decide)
        simp only [relF, List.getD_cons_zero, List.getD_cons_succ, List.foldl_cons, List.foldl_nil, dstAt, List.getElem?_cons_zero, List.getElem?_cons_succ, Option.bind_some]
        go_frame
        rw [h12]
        go_wp2_with fail
        exact ⟨rfl, Below.refl _ _, rfl, trivial⟩
      | 17, _, hi =>
        obtain rfl := Option.some.inj hi
        have h12 : vs 12 = _ := hv 12 (by decide)
        simp only [relF, List.getD_cons_zero, List.getD_cons_succ, List.foldl_cons, List.foldl_nil, dstAt, List.getElem?_cons_zero, List.getElem?_cons_succ, Option.bind_some]
        go_frame
        rw [h12]
        go_wp2_with fail
        exact ⟨rfl, Below.refl _ _, rfl, trivial⟩
      | 18, _, hi =>
        obtain rfl := Option.some.inj hi
        have h12 : vs 12 = _ := hv 12 (by decide)
        simp only [relF, List.getD_cons_zero, List.getD_cons_succ, List.foldl_cons, List.foldl_nil, dstAt, List.getElem?_cons_zero, List.getElem?_cons_succ, Option.bind_some]
        go_frame
        rw [h12]
        go_wp2_with fail
        exact ⟨rfl, Below.refl _ _, rfl, rfl⟩
      | 19, _, hi =>
        obtain rfl := Option.some.inj hi
        have h18 : vs 18 = _ := hv 18 (by decide)
        simp only [relF, List.getD_cons_zero, List.getD_cons_succ, List.foldl_cons, List.foldl_nil, dstAt, List.getElem?_cons_zero, List.getElem?_cons_succ, Option.bind_some]
        go_frame
        rw [h18]
        go_wp2_with fail
        exact ⟨rfl, Below.refl _ _, rfl, rfl⟩
      | 20, _, hi =>
        obtain rfl := Option.some.inj hi
        have h19 : vs 19 = _ := hv 19 (by decide)
        simp only [relF, List.getD_cons_zero, List.getD_cons_succ, List.foldl_cons, List.foldl_nil, dstAt, List.getElem?_cons_zero, List.getElem?_cons_succ, Option.bind_some]
        go_frame
        rw [h19]
        go_wp2_with fail
        exact ⟨rfl, Below.refl _ _, rfl, trivial⟩
      | 21, _, hi =>
        obtain rfl := Option.some.inj hi
        have h19 : vs 19 = _ := hv 19 (by decide)
        simp only [relF, List.getD_cons_zero, List.getD_cons_succ, List.foldl_cons, List.foldl_nil, dstAt, List.getElem?_cons_zero, List.getElem?_cons_succ, Option.bind_some]
        go_frame
        rw [h19]
        go_wp2_with fail
        exact ⟨rfl, Below.refl _ _, rfl, trivial⟩
      | 22, _, hi =>
        obtain rfl := Option.some.inj hi
        have h19 : vs 19 = _ := hv 19 (by decide)
        simp only [relF, List.getD_cons_zero, List.getD_cons_succ, List.foldl_cons, List.foldl_nil, dstAt, List.getElem?_cons_zero, List.getElem?_cons_succ, Option.bind_some]
        go_frame
        rw [h19]
        go_wp2_with fail
        exact ⟨rfl, Below.refl _ _, rfl, trivial⟩
      | 23, _, hi =>
        obtain rfl := Option.some.inj hi
        have h19 : vs 19 = _ := hv 19 (by decide)
        simp only [relF, List.getD_cons_zero, List.getD_cons_succ, List.foldl_cons, List.foldl_nil, dstAt, List.getElem?_cons_zero, List.getElem?_cons_succ, Option.bind_some]
        go_frame
        rw [h19]
        go_wp2_with fail
        exact ⟨rfl, Below.refl _ _, rfl, trivial⟩
      | 24, _, hi =>
        obtain rfl := Option.some.inj hi
        have h19 : vs 19 = _ := hv 19 (by decide)
        simp only [relF, List.getD_cons_zero, List.getD_cons_succ, List.foldl_cons, List.foldl_nil, dstAt, List.getElem?_cons_zero, List.getElem?_cons_succ, Option.bind_some]
        go_frame
        rw [h19]
        go_wp2_with fail
        exact ⟨rfl, Below.refl _ _, rfl, trivial⟩
      | 25, _, hi =>
        obtain rfl := Option.some.inj hi
        have h19 : vs 19 = _ := hv 19 (by decide)
        simp only [relF, List.getD_cons_zero, List.getD_cons_succ, List.foldl_cons, List.foldl_nil, dstAt, List.getElem?_cons_zero, List.getElem?_cons_succ, Option.bind_some]
        go_frame
        rw [h19]
        go_wp2_with fail
        exact ⟨rfl, Below.refl _ _, rfl, trivial⟩
      | 26, _, hi =>
        obtain rfl := Option.some.inj hi
        have h19 : vs 19 = _ := hv 19 (by decide)
        simp only [relF, List.getD_cons_zero, List.getD_cons_succ, List.foldl_cons, List.foldl_nil, dstAt, List.getElem?_cons_zero, List.getElem?_cons_succ, Option.bind_some]
        go_frame
        rw [h19]
        go_wp2_with fail
        exact ⟨rfl, Below.refl _ _, rfl, rfl⟩
      | nx + 27, him, _ => exact absurd him (by omega)
    · intro w2 b2 vs hv
      have hb2 := b2
      have h26 : vs 26 = _ := hv 26 (by decide)
      simp only [relF, List.drop_succ_cons, List.drop_zero, List.length_cons, List.length_nil, Nat.zero_add, Nat.reduceAdd, List.range, List.range.loop, List.foldl_cons, List.foldl_nil, dstAt, List.getElem?_cons_zero, List.getElem?_cons_succ, Option.bind_some]
      go_frame
      rw [h26]
      go_wp2_with fail
      go_ret
      exact ⟨rfl, b0.trans (b2.mono b0.size)⟩

set_option maxRecDepth 100000 in
set_option maxHeartbeats 8000000 in
theorem manyCheck_any (w : World) (r : List UInt8) (hr32 : r.length = 32) (n : Nat) (hn : n ≤ 65536) (oA oX o : Option Addr) (mA cA mX cX m c : Nat) (B : List Nat) (X P : List (List UInt8)) (hA : IntsAt w oA mA cA (B.map Int.ofNat)) (hB : B.Pairwise (· < ·)) (hBn : ∀ a ∈ B, a < n) (hX : StrsAt w oX mX cX X) (hP : HashesAt w o m c P) (hlen : ∀ l ∈ X, l.length ≤ 100000) (hmA : mA ≤ 1000000) (hmX : mX ≤ 1000000) (hm : m ≤ 1000000) (hL : Laid w) :
    Calls Tryd.prog 16 #[.agg (byteCells r).toArray, .int .i64 (n : Int), .slice oA mA cA, .slice oX mX cX, .slice o m c] w fun e w' => e = .returned (.bool (Many.check r n B X P)) ∧ Below w.heap.size w w' := by
  have hmf : ∀ (fn : Fn) (first cap : Array Value) (w : World), (Instr.makeFunc fn first cap).run Tryd.prog w = .ok (.func fn first cap) w := fun _ _ _ _ => rfl
  obtain ⟨W0, hW0⟩ : ∃ W0, W0 = ((w.alloc (.cells (byteCells r).toArray 23)).alloc (.cells #[.slice oX mX cX] 24)).alloc (.cells #[.slice o m c] 27) := ⟨_, rfl⟩
  have b0 : Below w.heap.size w W0 := by rw [hW0]; exact (((Below.refl _ _).alloc (Nat.le_refl _) _).alloc (by simp) _).alloc (by simp; omega) _
  have xr0 : W0.heap[w.heap.size]? = some (.cells (byteCells r).toArray 23 (0, 0)) := by
    rw [hW0, Below.heap_alloc _ _ _ (by simp; omega), Below.heap_alloc _ _ _ (by simp)]; exact heap_alloc_new w _
  have x8 : W0.heap[w.heap.size + 1]? = some (.cells #[.slice oX mX cX] 24 (0, 0)) := by
    rw [hW0, Below.heap_alloc _ _ _ (by simp)]
    have := heap_alloc_new (w.alloc (.cells (byteCells r).toArray 23)) (.cells #[.slice oX mX cX] 24); simpa using this
  have x9 : W0.heap[w.heap.size + 1 + 1]? = some (.cells #[.slice o m c] 27 (0, 0)) := by
    rw [hW0]; have := heap_alloc_new ((w.alloc (.cells (byteCells r).toArray 23)).alloc (.cells #[.slice oX mX cX] 24)) (.cells #[.slice o m c] 27); simpa using this
  have XR0 := Lib.hid xr0; clear xr0
  have X8 := Lib.hid x8; clear x8
  have X9 := Lib.hid x9; clear x9
  have HW0 := Lib.hid hW0; clear hW0
  have hBl : B.length = mA := by have := hA.len; rwa [List.length_map] at this
  have hXl := hX.len
  have hPl := hP.1.1
  have hT1 := tops_small (B := B) hn
  have hrs := fun (w2 : World) (b2 : Below W0.heap.size W0 w2) => manyRises_any w2 n oA mA cA _ (hA.below (Nat.le_refl _) (b0.trans (b2.mono b0.size)))
  simp only [rises_intro hB (fun a ha => (by have := hBn a ha; omega : (a : Int) < (n : Int)))] at hrs
  have hsz := fun (w2 : World) (b2 : Below W0.heap.size W0 w2) => manySize_any w2 n hn oA mA cA B (hA.below (Nat.le_refl _) (b0.trans (b2.mono b0.size))) hmA hB hBn (hL.below (b0.trans (b2.mono b0.size)))
  have hpc0 : X.length = B.length → P.length = (Many.tops B 0 n).length → ∀ p1 p2, w.heap.size + 3 ≤ p1 → p1 + 1 = p2 → ∀ w3, CheckK p1 p2 (w.heap.size + 1 + 1) (w.heap.size + 1) (.slice o m c) (.slice oX mX cX) [] 0 w3 → Below w.heap.size w w3 → _ := fun e1 e2 p1 p2 hp1 hp2 w3 hK b3 =>
    parts_any (checkClo w p1 p2 (w.heap.size + 1 + 1) (w.heap.size + 1) n m mX c cX o oX P X (by omega) (by omega) (by omega) (by omega) (by omega) (by omega) (by omega) (by omega) (by omega) hL hP hX hlen hm hmX) hL B hB (by omega) hmX n 0 [] 0 oA mA cA w3 hK b3 (by rw [inr_whole hBn]; exact hA) (by omega) (by simp; omega) (by rw [inr_whole hBn]; omega) (by omega)
  have hck : Many.check r n B X P = (decide (X.length = B.length) && (decide (P.length = (Many.tops B 0 n).length) && (Tree.root n (Many.val B (fun i _ _ => (P[i]?).getD (List.replicate 32 0)) (fun j _ => Tree.leaf ((X[j]?).getD [])) 0 0 0 n) == r))) := rfl
  obtain ⟨T, hT⟩ : ∃ T, T = (Many.tops B 0 n).length := ⟨_, rfl⟩
  rw [← hT] at hpc0 hck hT1
  simp only [← hT] at hsz
  obtain ⟨S, hS⟩ : ∃ S, S = Many.val B (fun i _ _ => (P[i]?).getD (List.replicate 32 0)) (fun j _ => Tree.leaf ((X[j]?).getD [])) 0 0 0 n := ⟨_, rfl⟩
  have hSl : S.length = 32 := by
    rw [hS]
    exact Many.val_len (fun i f n => by
      cases hx : P[i]? with
      | none => exact zeroS_len
      | some p => exact hP.2 p (List.mem_of_getElem? hx)) (fun j f => Tree.leaf_len _) _ _ _ _
  rw [← hS] at hck
  simp only [List.length_nil, List.nil_append, ← hS] at hpc0
  have hPC : X.length = B.length → P.length = T → ∀ p1 p2, w.heap.size + 3 ≤ p1 → p1 + 1 = p2 → ∀ w3, CheckK p1 p2 (w.heap.size + 1 + 1) (w.heap.size + 1) (.slice o m c) (.slice oX mX cX) [] 0 w3 → Below w.heap.size w w3 → _ := hpc0
  have HPC0 := Lib.hid hPC; clear hPC hpc0
  have HRS := Lib.hid hrs; clear hrs
  have HSZ := Lib.hid hsz; clear hsz
  have HCK0 := Lib.hid hck; clear hck
  have HRL := Lib.hid hr32; clear hr32
  have HSL := Lib.hid hSl; clear hSl
  have HL := Lib.hid hL; clear hL
  have hcX := hX.cap
  have hxX := hX.max
  have hcP := hP.1.2.1
  have hxP := hP.1.2.2.1
  have hcA := hA.cap
  have hxA := hA.max
  have HNL := Lib.hid (Wire.num_length n (by omega))
  have hu : IntKind.u64.wrap (n : Int) = (n : Int) := by rw [IntKind.wrap_u64]; omega
  clear hA hB hBn hX hP hlen hT hS
  have hBl1 : B.length ≤ mA := by omega
  have hBl2 : mA ≤ B.length := by omega
  have hXl1 : X.length ≤ mX := by omega
  have hXl2 : mX ≤ X.length := by omega
  have hPl1 : P.length ≤ m := by omega
  have hPl2 : m ≤ P.length := by omega
  clear hBl hXl hPl
  have u1 : decide ((n : Int) < 0) = false := decide_eq_false (by omega)
  have u2 : decide ((65536 : Int) < (n : Int)) = false := decide_eq_false (by omega)
  have u2' : decide (65536 < n) = false := decide_eq_false (by omega)
  by_cases e1 : mX = mA
  · have u3 : ((mX : Int) == (mA : Int)) = true := by rw [e1]; exact beq_self_eq_true _
    have u3' : (mX == mA) = true := by rw [e1]; exact beq_self_eq_true _
    have e1a : mX ≤ mA := by omega
    have e1b : mA ≤ mX := by omega
    clear e1
    by_cases e2 : m = T
    · have u4 : ((m : Int) == (T : Int)) = true := by rw [e2]; exact beq_self_eq_true _
      have u4' : (m == T) = true := by rw [e2]; exact beq_self_eq_true _
      have e2a : m ≤ T := by omega
      have e2b : T ≤ m := by omega
      clear e2
      have hck := HCK0.out
      rw [decide_eq_true (by omega), decide_eq_true (by omega), Bool.true_and, Bool.true_and] at hck
      have HCK := Lib.hid hck; clear hck HCK0
      have hpc := HPC0.out (by omega) (by omega)
      have HPC := Lib.hid hpc; clear hpc HPC0
      go_enter Tryd.func16, Tryd.ntmps16
      go_wp2_with fail
      change Code.wp _ _ _ _ (((w.alloc (.cells (byteCells r).toArray 23)).alloc (.cells #[.slice oX mX cX] 24)).alloc (.cells #[.slice o m c] 27))
      rw [← HW0.out]
      refine wp_region_rel [[], [0], [1], [2], [2, 3], [2, 4], [5], [6], [6], [6, 7, 8], [6, 9], [6, 10], [11], [12], [12, 13], [12], [12, 15], [12, 14, 16], [12, 17], [18], [19], [19, 20], [19], [19], [19, 22, 23], [19, 21, 24], [19, 25]] (mcF n mX cX m c mA cA T (w.heap.size + 1) (w.heap.size + 1 + 1) oX o oA) 65 (by kernel_rfl) (by kernel_rfl) (by kernel_rfl) (mcF_mono n mX cX m c mA cA T (w.heap.size + 1) (w.heap.size + 1 + 1) oX o oA) ?_ ?_
      · intro ix op hi w2 b2 vs hv
        have him : ix < 27 := (List.getElem?_eq_some_iff.1 hi).1
        have hb2 := b2
        match ix, him, hi with
        | 0, _, hi =>
          obtain rfl := Option.some.inj hi
          simp only [relF, List.getD_cons_zero, List.getD_cons_succ, List.foldl_cons, List.foldl_nil, dstAt, List.getElem?_cons_zero, List.getElem?_cons_succ, Option.bind_some]
          go_wp2_with fail
          exact ⟨rfl, Below.refl _ _, rfl, rfl⟩
        | 1, _, hi =>
          obtain rfl := Option.some.inj hi
          have h0 : vs 0 = _ := hv 0 (by decide)
          simp only [relF, List.getD_cons_zero, List.getD_cons_succ, List.foldl_cons, List.foldl_nil, dstAt, List.getElem?_cons_zero, List.getElem?_cons_succ, Option.bind_some]
          go_frame
          rw [h0]
          go_wp2_with fail
          exact ⟨rfl, Below.refl _ _, rfl, by first | rfl | (show slotOf _ _ = _; simp [slotOf]; done) | (show slotOf _ _ = _; simp [slotOf]; omega)⟩
        | 2, _, hi =>
          obtain rfl := Option.some.inj hi
          have h1 : vs 1 = _ := hv 1 (by decide)
          simp only [relF, List.getD_cons_zero, List.getD_cons_succ, List.foldl_cons, List.foldl_nil, dstAt, List.getElem?_cons_zero, List.getElem?_cons_succ, Option.bind_some]
          go_frame
          rw [h1]
          go_wp2_with fail
          exact ⟨rfl, Below.refl _ _, rfl, rfl⟩
        | 3, _, hi =>
          obtain rfl := Option.some.inj hi
          have h2 : vs 2 = _ := hv 2 (by decide)
          simp only [relF, List.getD_cons_zero, List.getD_cons_succ, List.foldl_cons, List.foldl_nil, dstAt, List.getElem?_cons_zero, List.getElem?_cons_succ, Option.bind_some]
          go_frame
          rw [h2]
          go_wp2_with fail
          exact ⟨rfl, Below.refl _ _, rfl, rfl⟩
        | 4, _, hi =>
          obtain rfl := Option.some.inj hi
          have h2 : vs 2 = _ := hv 2 (by decide)
          have h3 : vs 3 = _ := hv 3 (by decide)
          simp only [relF, List.getD_cons_zero, List.getD_cons_succ, List.foldl_cons, List.foldl_nil, dstAt, List.getElem?_cons_zero, List.getElem?_cons_succ, Option.bind_some]
          go_frame
          rw [h2, h3]
          go_wp2_with fail
          exact ⟨rfl, Below.refl _ _, rfl, by first | rfl | (show slotOf _ _ = _; simp [slotOf]; done) | (show slotOf _ _ = _; simp [slotOf]; omega)⟩
        | 5, _, hi =>
          obtain rfl := Option.some.inj hi
          have h2 : vs 2 = _ := hv 2 (by decide)
          have h4 : vs 4 = _ := hv 4 (by decide)
          simp only [relF, List.getD_cons_zero, List.getD_cons_succ, List.foldl_cons, List.foldl_nil, dstAt, List.getElem?_cons_zero, List.getElem?_cons_succ, Option.bind_some]
          go_frame
          rw [h2, h4]
          go_wp2_with fail
          exact ⟨rfl, Below.refl _ _, rfl, rfl⟩
        | 6, _, hi =>
          obtain rfl := Option.some.inj hi
          have h5 : vs 5 = _ := hv 5 (by decide)
          simp only [relF, List.getD_cons_zero, List.getD_cons_succ, List.foldl_cons, List.foldl_nil, dstAt, List.getElem?_cons_zero, List.getElem?_cons_succ, Option.bind_some]
          go_frame
          rw [h5]
          go_wp2_with fail
          exact ⟨rfl, Below.refl _ _, rfl, rfl⟩
        | 7, _, hi =>
          obtain rfl := Option.some.inj hi
          have h6 : vs 6 = _ := hv 6 (by decide)
          simp only [relF, List.getD_cons_zero, List.getD_cons_succ, List.foldl_cons, List.foldl_nil, dstAt, List.getElem?_cons_zero, List.getElem?_cons_succ, Option.bind_some]
          go_frame
          rw [h6]
          go_wp2_with fail
          exact ⟨rfl, Below.refl _ _, rfl, rfl⟩
        | 8, _, hi =>
          obtain rfl := Option.some.inj hi
          have h6 : vs 6 = _ := hv 6 (by decide)
          simp only [relF, List.getD_cons_zero, List.getD_cons_succ, List.foldl_cons, List.foldl_nil, dstAt, List.getElem?_cons_zero, List.getElem?_cons_succ, Option.bind_some]
          go_frame
          rw [h6]
          go_wp2_with fail
          exact ⟨rfl, Below.refl _ _, rfl, rfl⟩
        | 9, _, hi =>
          obtain rfl := Option.some.inj hi
          have h6 : vs 6 = _ := hv 6 (by decide)
          have h7 : vs 7 = _ := hv 7 (by decide)
          have h8 : vs 8 = _ := hv 8 (by decide)
          simp only [relF, List.getD_cons_zero, List.getD_cons_succ, List.foldl_cons, List.foldl_nil, dstAt, List.getElem?_cons_zero, List.getElem?_cons_succ, Option.bind_some]
          go_frame
          rw [h6, h7, h8]
          go_wp2_with fail
          refine (HRS.out w2 b2).mono ?_
          rintro e w3 ⟨rfl, b3⟩
          go_wp2_with fail
          exact ⟨rfl, b3, rfl, rfl⟩
        | 10, _, hi =>
          obtain rfl := Option.some.inj hi
          have h6 : vs 6 = _ := hv 6 (by decide)
          have h9 : vs 9 = _ := hv 9 (by decide)
          simp only [relF, List.getD_cons_zero, List.getD_cons_succ, List.foldl_cons, List.foldl_nil, dstAt, List.getElem?_cons_zero, List.getElem?_cons_succ, Option.bind_some]
          go_frame
          rw [h6, h9]
          go_wp2_with fail
          exact ⟨rfl, Below.refl _ _, rfl, rfl⟩
        | 11, _, hi =>
          obtain rfl := Option.some.inj hi
          have h6 : vs 6 = _ := hv 6 (by decide)
          have h10 : vs 10 = _ := hv 10 (by decide)
          simp only [relF, List.getD_cons_zero, List.getD_cons_succ, List.foldl_cons, List.foldl_nil, dstAt, List.getElem?_cons_zero, List.getElem?_cons_succ, Option.bind_some]
          go_frame
          rw [h6, h10]
          go_wp2_with fail
          exact ⟨rfl, Below.refl _ _, rfl, rfl⟩
        | 12, _, hi =>
          obtain rfl := Option.some.inj hi
          have h11 : vs 11 = _ := hv 11 (by decide)
          simp only [relF, List.getD_cons_zero, List.getD_cons_succ, List.foldl_cons, List.foldl_nil, dstAt, List.getElem?_cons_zero, List.getElem?_cons_succ, Option.bind_some]
          go_frame
          rw [h11]
          go_wp2_with fail
          exact ⟨rfl, Below.refl _ _, rfl, rfl⟩
        | 13, _, hi =>
          obtain rfl := Option.some.inj hi
          have h12 : vs 12 = _ := hv 12 (by decide)
          have hcv := cell_of_one ((b2.block _ (lt_of_block X8.out)).trans X8.out)
          simp only [relF, List.getD_cons_zero, List.getD_cons_succ, List.foldl_cons, List.foldl_nil, dstAt, List.getElem?_cons_zero, List.getElem?_cons_succ, Option.bind_some]
          go_frame
          rw [h12]
          go_wp2_with fail
          exact ⟨rfl, Below.refl _ _, rfl, rfl⟩
        | 14, _, hi =>
          obtain rfl := Option.some.inj hi
          have h12 : vs 12 = _ := hv 12 (by decide)
          have h13 : vs 13 = _ := hv 13 (by decide)
          simp only [relF, List.getD_cons_zero, List.getD_cons_succ, List.foldl_cons, List.foldl_nil, dstAt, List.getElem?_cons_zero, List.getElem?_cons_succ, Option.bind_some]
          go_frame
          rw [h12, h13]
          go_wp2_with fail
          exact ⟨rfl, Below.refl _ _, rfl, rfl⟩
        | 15, _, hi =>
          obtain rfl := Option.some.inj hi
          have h12 : vs 12 = _ := hv 12 (by decide)
          simp only [relF, List.getD_cons_zero, List.getD_cons_succ, List.foldl_cons, List.foldl_nil, dstAt, List.getElem?_cons_zero, List.getElem?_cons_succ, Option.bind_some]
          go_frame
          rw [h12]
          go_wp2_with fail
          exact ⟨rfl, Below.refl _ _, rfl, rfl⟩
        | 16, _, hi =>
          obtain rfl := Option.some.inj hi
          have h12 : vs 12 = _ := hv 12 (by decide)
          have h15 : vs 15 = _ := hv 15 (by decide)
          simp only [relF, List.getD_cons_zero, List.getD_cons_succ, List.foldl_cons, List.foldl_nil, dstAt, List.getElem?_cons_zero, List.getElem?_cons_succ, Option.bind_some]
          go_frame
          rw [h12, h15]
          go_wp2_with fail
          exact ⟨rfl, Below.refl _ _, rfl, rfl⟩
        | 17, _, hi =>
          obtain rfl := Option.some.inj hi
          have h12 : vs 12 = _ := hv 12 (by decide)
          have h14 : vs 14 = _ := hv 14 (by decide)
          have h16 : vs 16 = _ := hv 16 (by decide)
          simp only [relF, List.getD_cons_zero, List.getD_cons_succ, List.foldl_cons, List.foldl_nil, dstAt, List.getElem?_cons_zero, List.getElem?_cons_succ, Option.bind_some]
          go_frame
          rw [h12, h14, h16]
          go_wp2_with fail
          exact ⟨rfl, Below.refl _ _, rfl, by first | rfl | (show slotOf _ _ = _; simp [slotOf]; done) | (show slotOf _ _ = _; simp [slotOf]; omega)⟩
        | 18, _, hi =>
          obtain rfl := Option.some.inj hi
          have h12 : vs 12 = _ := hv 12 (by decide)
          have h17 : vs 17 = _ := hv 17 (by decide)
          simp only [relF, List.getD_cons_zero, List.getD_cons_succ, List.foldl_cons, List.foldl_nil, dstAt, List.getElem?_cons_zero, List.getElem?_cons_succ, Option.bind_some]
          go_frame
          rw [h12, h17]
          go_wp2_with fail
          exact ⟨rfl, Below.refl _ _, rfl, rfl⟩
        | 19, _, hi =>
          obtain rfl := Option.some.inj hi
          have h18 : vs 18 = _ := hv 18 (by decide)
          simp only [relF, List.getD_cons_zero, List.getD_cons_succ, List.foldl_cons, List.foldl_nil, dstAt, List.getElem?_cons_zero, List.getElem?_cons_succ, Option.bind_some]
          go_frame
          rw [h18]
          go_wp2_with fail
          exact ⟨rfl, Below.refl _ _, rfl, rfl⟩
        | 20, _, hi =>
          obtain rfl := Option.some.inj hi
          have h19 : vs 19 = _ := hv 19 (by decide)
          have hcv := cell_of_one ((b2.block _ (lt_of_block X9.out)).trans X9.out)
          simp only [relF, List.getD_cons_zero, List.getD_cons_succ, List.foldl_cons, List.foldl_nil, dstAt, List.getElem?_cons_zero, List.getElem?_cons_succ, Option.bind_some]
          go_frame
          rw [h19]
          go_wp2_with fail
          exact ⟨rfl, Below.refl _ _, rfl, rfl⟩
        | 21, _, hi =>
          obtain rfl := Option.some.inj hi
          have h19 : vs 19 = _ := hv 19 (by decide)
          have h20 : vs 20 = _ := hv 20 (by decide)
          simp only [relF, List.getD_cons_zero, List.getD_cons_succ, List.foldl_cons, List.foldl_nil, dstAt, List.getElem?_cons_zero, List.getElem?_cons_succ, Option.bind_some]
          go_frame
          rw [h19, h20]
          go_wp2_with fail
          exact ⟨rfl, Below.refl _ _, rfl, rfl⟩
        | 22, _, hi =>
          obtain rfl := Option.some.inj hi
          have h19 : vs 19 = _ := hv 19 (by decide)
          simp only [relF, List.getD_cons_zero, List.getD_cons_succ, List.foldl_cons, List.foldl_nil, dstAt, List.getElem?_cons_zero, List.getElem?_cons_succ, Option.bind_some]
          go_frame
          rw [h19]
          go_wp2_with fail
          exact ⟨rfl, Below.refl _ _, rfl, rfl⟩
        | 23, _, hi =>
          obtain rfl := Option.some.inj hi
          have h19 : vs 19 = _ := hv 19 (by decide)
          simp only [relF, List.getD_cons_zero, List.getD_cons_succ, List.foldl_cons, List.foldl_nil, dstAt, List.getElem?_cons_zero, List.getElem?_cons_succ, Option.bind_some]
          go_frame
          rw [h19]
          go_wp2_with fail
          exact ⟨rfl, Below.refl _ _, rfl, rfl⟩
        | 24, _, hi =>
          obtain rfl := Option.some.inj hi
          have h19 : vs 19 = _ := hv 19 (by decide)
          have h22 : vs 22 = _ := hv 22 (by decide)
          have h23 : vs 23 = _ := hv 23 (by decide)
          simp only [relF, List.getD_cons_zero, List.getD_cons_succ, List.foldl_cons, List.foldl_nil, dstAt, List.getElem?_cons_zero, List.getElem?_cons_succ, Option.bind_some]
          go_frame
          rw [h19, h22, h23]
          go_wp2_with fail
          refine (HSZ.out w2 b2).mono ?_
          rintro e w3 ⟨rfl, b3⟩
          go_wp2_with fail
          exact ⟨rfl, b3, rfl, rfl⟩
        | 25, _, hi =>
          obtain rfl := Option.some.inj hi
          have h19 : vs 19 = _ := hv 19 (by decide)
          have h21 : vs 21 = _ := hv 21 (by decide)
          have h24 : vs 24 = _ := hv 24 (by decide)
          simp only [relF, List.getD_cons_zero, List.getD_cons_succ, List.foldl_cons, List.foldl_nil, dstAt, List.getElem?_cons_zero, List.getElem?_cons_succ, Option.bind_some]
          go_frame
          rw [h19, h21, h24]
          go_wp2_with fail
          exact ⟨rfl, Below.refl _ _, rfl, by first | rfl | (show slotOf _ _ = _; simp [slotOf]; done) | (show slotOf _ _ = _; simp [slotOf]; omega)⟩
        | 26, _, hi =>
          obtain rfl := Option.some.inj hi
          have h19 : vs 19 = _ := hv 19 (by decide)
          have h25 : vs 25 = _ := hv 25 (by decide)
          simp only [relF, List.getD_cons_zero, List.getD_cons_succ, List.foldl_cons, List.foldl_nil, dstAt, List.getElem?_cons_zero, List.getElem?_cons_succ, Option.bind_some]
          go_frame
          rw [h19, h25]
          go_wp2_with fail
          exact ⟨rfl, Below.refl _ _, rfl, rfl⟩
        | nx + 27, him, _ => exact absurd him (by omega)
      · intro w2 b2 vs hv
        have hb2 := b2
        have h26 : vs 26 = _ := hv 26 (by decide)
        simp only [relF, List.drop_succ_cons, List.drop_zero, List.length_cons, List.length_nil, Nat.zero_add, Nat.reduceAdd, List.range, List.range.loop, List.foldl_cons, List.foldl_nil, dstAt, List.getElem?_cons_zero, List.getElem?_cons_succ, Option.bind_some]
        go_frame
        rw [h26]
        have b02 := b0.trans (b2.mono b0.size)
        have x82 := (b2.block _ (lt_of_block X8.out)).trans X8.out
        have x92 := (b2.block _ (lt_of_block X9.out)).trans X9.out
        have xr2 := (b2.block _ (lt_of_block XR0.out)).trans XR0.out
        have hs2 : w.heap.size + 3 ≤ w2.heap.size := by have := lt_of_block x92; omega
        obtain ⟨W3, hW3⟩ : ∃ W3, W3 = (w2.alloc (.cells #[.int .i64 0] 3)).alloc (.cells #[.int .i64 0] 3) := ⟨_, rfl⟩
        have b3 : Below w2.heap.size w2 W3 := by rw [hW3]; exact ((Below.refl _ _).alloc (Nat.le_refl _) _).alloc (by simp) _
        have x11 : W3.heap[w2.heap.size]? = some (.cells #[.int .i64 0] 3 (0, 0)) := by rw [hW3, Below.heap_alloc _ _ _ (by simp)]; exact heap_alloc_new w2 _
        have x12 : W3.heap[w2.heap.size + 1]? = some (.cells #[.int .i64 0] 3 (0, 0)) := by
          rw [hW3]; have := heap_alloc_new (w2.alloc (.cells #[.int .i64 0] 3)) (.cells #[.int .i64 0] 3); simpa using this
        have b03 := b02.trans (b3.mono b02.size)
        have hpc := HPC.out w2.heap.size (w2.heap.size + 1) (by omega) (by omega) W3 ⟨x11, x12, (b3.block _ (lt_of_block x92)).trans x92, (b3.block _ (lt_of_block x82)).trans x82⟩ b03
        have HPC2 := Lib.hid hpc; clear hpc HPC
        have XR3 := Lib.hid ((b3.block _ (lt_of_block xr2)).trans xr2)
        have B03 := Lib.hid b03
        have HW3 := Lib.hid hW3; clear hW3 x11 x12 x82 x92 xr2 b3 b02 b03 b2
        go_wp2_with fail
        rw [← HW3.out]
        refine HPC2.out.mono ?_
        rintro e w4 ⟨rfl, hK4, hS4⟩
        have b4 : Below w.heap.size w w4 := ⟨hS4.os.trans B03.out.os, hS4.tape.trans B03.out.tape, hS4.output.trans B03.out.output, Nat.le_trans B03.out.size hS4.size, fun k hk => by
          rw [hS4.block k (Nat.lt_of_lt_of_le hk B03.out.size) (by omega)]; exact B03.out.block k hk⟩
        have xr4 := (hS4.block _ (lt_of_block XR3.out) (by omega)).trans XR3.out
        obtain ⟨W5, hW5⟩ : ∃ W5, W5 = hset (w4.alloc (.cells zero32 23)) w4.heap.size S := ⟨_, rfl⟩
        have xs5 : W5.heap[w4.heap.size]? = some (.cells (byteCells S).toArray 23 (0, 0)) := by rw [hW5]; exact hset_heap _ (heap_alloc_new w4 _)
        have b5 : Below w4.heap.size w4 W5 := by rw [hW5]; exact hset_below _ ((Below.refl _ _).alloc (Nat.le_refl _) _) (Nat.le_refl _)
        have b05 := b4.trans (b5.mono b4.size)
        obtain ⟨W6, hW6⟩ : ∃ W6, W6 = W5.alloc (.cells #[.slice none 0 0] 77 (0, 0)) := ⟨_, rfl⟩
        have b6 : Below W5.heap.size W5 W6 := by rw [hW6]; exact (Below.refl _ _).alloc (Nat.le_refl _) _
        have o6 : OutIs W6 W5.heap.size W5.heap.size [] := by rw [hW6]; exact OutIs.fresh W5 _
        have xr5 := (b5.block _ (lt_of_block xr4)).trans xr4
        have O6 := Lib.hid o6; clear o6
        have XS5 := Lib.hid xs5; clear xs5
        have XR5 := Lib.hid xr5; clear xr5 xr4
        have HW5 := Lib.hid hW5; clear hW5
        have HW6 := Lib.hid hW6; clear hW6
        clear hK4 hS4 HPC2 HW3 b5
        go_wp2_with ((with_reducible show wpList _ _ _ (⟨none, .store 23 (.tmp 15) (.tmp 50), _, _, _, _⟩ :: _) _ _); change wpList _ _ _ _ _ (World.alloc w4 (.cells zero32 23)); refine wpList_put_hash (o := ⟨none, .store _ _ _, _, _, _, _⟩) rfl _ _ rfl _ rfl S HSL.out rfl _ _ (heap_alloc_new _ _) zero32_size ?_; rw [← HW5.out])
        refine (newOut_any W5).mono ?_
        rintro e w' ⟨rfl, rfl⟩
        rw [← HW6.out]
        go_wp2_with fail
        refine (outNum_any n (by omega) _ _ _ W6 O6.out b6.size (by simp)).mono ?_
        rintro e w7 ⟨rfl, o7, b7⟩
        rw [List.nil_append] at o7
        have b57 : Below W5.heap.size W5 w7 := b6.trans (b7.below (Nat.le_refl _) |>.mono (Nat.le_refl _))
        have B5 : Below w.heap.size w w7 := b05.trans (b57.mono b05.size)
        have XS := Lib.hid ((b57.block _ (lt_of_block XS5.out)).trans XS5.out)
        have XR := Lib.hid ((b57.block _ (lt_of_block XR5.out)).trans XR5.out)
        have HL5 := Lib.hid (HL.out.below B5)
        have HO := Lib.hid o7; clear o7 b7 b6 b57 b05 b4 O6 XS5 XR5 HW6 HW5
        go_wp2_with fail
        refine wp_region_rel [[], [], [1], [2], [], [0, 3, 4], [5], [], [6, 7], [8]] (mcV w4.heap.size W5.heap.size n S r) 65 (by kernel_rfl) (by kernel_rfl) (by kernel_rfl) (mcV_mono w4.heap.size W5.heap.size n S r) ?_ ?_
        · intro ix op hi w2 b2 vs hv
          have him : ix < 10 := (List.getElem?_eq_some_iff.1 hi).1
          have hL2 := HL5.out.below b2
          match ix, him, hi with
          | 0, _, hi =>
            obtain rfl := Option.some.inj hi
            simp only [relF, List.getD_cons_zero, List.getD_cons_succ, List.foldl_cons, List.foldl_nil, dstAt, List.getElem?_cons_zero, List.getElem?_cons_succ, Option.bind_some]
            go_wp2_with fail
            exact ⟨rfl, (Below.refl _ _).alloc (Nat.le_refl _) _, rfl, holds_one w2 _ 3⟩
          | 1, _, hi =>
            obtain rfl := Option.some.inj hi
            simp only [relF, List.getD_cons_zero, List.getD_cons_succ, List.foldl_cons, List.foldl_nil, dstAt, List.getElem?_cons_zero, List.getElem?_cons_succ, Option.bind_some]
            go_wp2_with fail
            exact ⟨rfl, Below.refl _ _, rfl, rfl⟩
          | 2, _, hi =>
            obtain rfl := Option.some.inj hi
            have h1 : vs 1 = _ := hv 1 (by decide)
            have ho2 := HO.out.kept (w' := w2) fun k hk => b2.block k hk
            have hdn := outDone_any _ _ _ _ ho2
            replace hdn : Calls Tryd.prog 47 #[.pointer (some ⟨W5.heap.size, 0, none⟩)] w2 fun e w' => w2 = w' ∧ e = .returned (.string (strOf (Wire.num n))) := hdn
            simp only [relF, List.getD_cons_zero, List.getD_cons_succ, List.foldl_cons, List.foldl_nil, dstAt, List.getElem?_cons_zero, List.getElem?_cons_succ, Option.bind_some]
            go_frame
            rw [h1]
            go_wp2_with fail
            refine hdn.mono ?_
            rintro e w3 ⟨rfl, rfl⟩
            go_wp2_with fail
            exact ⟨rfl, Below.refl _ _, rfl, rfl⟩
          | 3, _, hi =>
            obtain rfl := Option.some.inj hi
            have h2 : vs 2 = _ := hv 2 (by decide)
            have hnl := HNL.out
            obtain ⟨cap', W, hcv, m, bb, ss⟩ := str_bytes Tryd.under_str Tryd.under_u8s Tryd.under_b8 w2 (Wire.num n) (by omega)
            simp only [relF, List.getD_cons_zero, List.getD_cons_succ, List.foldl_cons, List.foldl_nil, dstAt, List.getElem?_cons_zero, List.getElem?_cons_succ, Option.bind_some]
            go_frame
            rw [h2]
            go_wp2_with fail
            exact ⟨rfl, bb, rfl, m.holds⟩
          | 4, _, hi =>
            obtain rfl := Option.some.inj hi
            simp only [relF, List.getD_cons_zero, List.getD_cons_succ, List.foldl_cons, List.foldl_nil, dstAt, List.getElem?_cons_zero, List.getElem?_cons_succ, Option.bind_some]
            go_wp2_with fail
            exact ⟨rfl, Below.refl _ _, rfl, rfl⟩
          | 5, _, hi =>
            obtain rfl := Option.some.inj hi
            have k0 : Lib.HoldsBytes w2 (vs 0) ([3]) := hv 0 (by decide)
            have k3 : Lib.HoldsBytes w2 (vs 3) (Wire.num n) := hv 3 (by decide)
            have h4 : vs 4 = _ := hv 4 (by decide)
            have hp := parts_new w2 64 [vs 0, vs 3, vs 4] [[3], Wire.num n, S] 3 rfl rfl (parts_three k0 k3 (by rw [h4]; exact holds_hash HSL.out ((b2.block _ (lt_of_block XS.out)).trans XS.out)))
            rw [h4] at hp
            obtain ⟨p0, c0, e0, _⟩ := k0
            obtain ⟨p3, c3, e3, _⟩ := k3
            rw [e0, e3] at hp
            simp only [relF, List.getD_cons_zero, List.getD_cons_succ, List.foldl_cons, List.foldl_nil, dstAt, List.getElem?_cons_zero, List.getElem?_cons_succ, Option.bind_some]
            go_frame
            rw [h4, e0, e3]
            go_wp2_with fail
            exact ⟨rfl, (Below.refl _ _).alloc (Nat.le_refl _) _, rfl, hp⟩
          | 6, _, hi =>
            obtain rfl := Option.some.inj hi
            have k5 : PartsV w2 (vs 5) ([[3], Wire.num n, S]) := hv 5 (by decide)
            have hnl := HNL.out
            have hof := of_any w2 (vs 5) [[3], Wire.num n, S] k5 (by simp) (by simp; have := HSL.out; omega) hL2
            rw [show [[3], Wire.num n, S].flatten = 3 :: (Wire.num n ++ S) by simp] at hof
            simp only [relF, List.getD_cons_zero, List.getD_cons_succ, List.foldl_cons, List.foldl_nil, dstAt, List.getElem?_cons_zero, List.getElem?_cons_succ, Option.bind_some]
            go_frame
            go_wp2_with fail
            refine (hof).mono ?_
            rintro e w3 ⟨rfl, b3⟩
            go_wp2_with fail
            exact ⟨rfl, b3, rfl, rfl⟩
          | 7, _, hi =>
            obtain rfl := Option.some.inj hi
            simp only [relF, List.getD_cons_zero, List.getD_cons_succ, List.foldl_cons, List.foldl_nil, dstAt, List.getElem?_cons_zero, List.getElem?_cons_succ, Option.bind_some]
            go_wp2_with ((with_reducible show wpList _ _ _ (⟨some 63, _, _, _, _, _⟩ :: _) _ _); refine wpList_load_hash (op := ⟨some 63, _, _, _, _, _⟩) (by kernel_rfl) _ rfl w.heap.size rfl r HRL.out _ _ ((b2.block _ (lt_of_block XR.out)).trans XR.out) ?_)
            exact ⟨rfl, Below.refl _ _, rfl, rfl⟩
          | 8, _, hi =>
            obtain rfl := Option.some.inj hi
            have h6 : vs 6 = _ := hv 6 (by decide)
            have h7 : vs 7 = _ := hv 7 (by decide)
            simp only [relF, List.getD_cons_zero, List.getD_cons_succ, List.foldl_cons, List.foldl_nil, dstAt, List.getElem?_cons_zero, List.getElem?_cons_succ, Option.bind_some]
            go_frame
            rw [h6, h7]
            go_wp2_with ((with_reducible show wpList _ _ _ (⟨some 64, _, _, _, _, _⟩ :: _) _ _); refine wpList_eql_hash (op := ⟨some 64, _, _, _, _, _⟩) (by kernel_rfl) _ _ rfl (Tree.root n S) r (Tree.root_len _ _) HRL.out rfl rfl ?_)
            exact ⟨rfl, Below.refl _ _, rfl, rfl⟩
          | 9, _, hi =>
            obtain rfl := Option.some.inj hi
            have h8 : vs 8 = _ := hv 8 (by decide)
            simp only [relF, List.getD_cons_zero, List.getD_cons_succ, List.foldl_cons, List.foldl_nil, dstAt, List.getElem?_cons_zero, List.getElem?_cons_succ, Option.bind_some]
            go_frame
            rw [h8]
            go_wp2_with fail
            exact ⟨rfl, Below.refl _ _, rfl, rfl⟩
          | nx + 10, him, _ => exact absurd him (by omega)
        · intro w2 b2 vs hv
          have hL2 := HL5.out.below b2
          have h9 : vs 9 = _ := hv 9 (by decide)
          simp only [relF, List.length_cons, List.length_nil, Nat.zero_add, Nat.reduceAdd, List.range, List.range.loop, List.foldl_cons, List.foldl_nil, dstAt, List.getElem?_cons_zero, List.getElem?_cons_succ, Option.bind_some]
          go_frame
          rw [h9]
          go_wp2_with fail
          go_ret
          exact ⟨by rw [HCK.out]; rfl, B5.trans (b2.mono B5.size)⟩
    · have u4 : ((m : Int) == (T : Int)) = false := by rw [beq_eq_false_iff_ne]; omega
      have u4' : (m == T) = false := by rw [beq_eq_false_iff_ne]; exact e2
      have hck := HCK0.out
      rw [decide_eq_true (by omega), decide_eq_false (by omega), Bool.true_and, Bool.false_and] at hck
      have HCK := Lib.hid hck; clear hck HCK0 HPC0
      go_enter Tryd.func16, Tryd.ntmps16
      go_wp2_with fail
      change Code.wp _ _ _ _ (((w.alloc (.cells (byteCells r).toArray 23)).alloc (.cells #[.slice oX mX cX] 24)).alloc (.cells #[.slice o m c] 27))
      rw [← HW0.out]
      refine wp_region_rel [[], [0], [1], [2], [2, 3], [2, 4], [5], [6], [6], [6, 7, 8], [6, 9], [6, 10], [11], [12], [12, 13], [12], [12, 15], [12, 14, 16], [12, 17], [18], [19], [19, 20], [19], [19], [19, 22, 23], [19, 21, 24], [19, 25]] (mcE n mX cX m c mA cA T (w.heap.size + 1) (w.heap.size + 1 + 1) oX o oA) 65 (by kernel_rfl) (by kernel_rfl) (by kernel_rfl) (mcE_mono n mX cX m c mA cA T (w.heap.size + 1) (w.heap.size + 1 + 1) oX o oA) ?_ ?_
      · intro ix op hi w2 b2 vs hv
        have him : ix < 27 := (List.getElem?_eq_some_iff.1 hi).1
        have hb2 := b2
        match ix, him, hi with
        | 0, _, hi =>
          obtain rfl := Option.some.inj hi
          simp only [relF, List.getD_cons_zero, List.getD_cons_succ, List.foldl_cons, List.foldl_nil, dstAt, List.getElem?_cons_zero, List.getElem?_cons_succ, Option.bind_some]
          go_wp2_with fail
          exact ⟨rfl, Below.refl _ _, rfl, rfl⟩
        | 1, _, hi =>
          obtain rfl := Option.some.inj hi
          have h0 : vs 0 = _ := hv 0 (by decide)
          simp only [relF, List.getD_cons_zero, List.getD_cons_succ, List.foldl_cons, List.foldl_nil, dstAt, List.getElem?_cons_zero, List.getElem?_cons_succ, Option.bind_some]
          go_frame
          rw [h0]
          go_wp2_with fail
          exact ⟨rfl, Below.refl _ _, rfl, by first | rfl | (show slotOf _ _ = _; simp [slotOf]; done) | (show slotOf _ _ = _; simp [slotOf]; omega)⟩
        | 2, _, hi =>
          obtain rfl := Option.some.inj hi
          have h1 : vs 1 = _ := hv 1 (by decide)
          simp only [relF, List.getD_cons_zero, List.getD_cons_succ, List.foldl_cons, List.foldl_nil, dstAt, List.getElem?_cons_zero, List.getElem?_cons_succ, Option.bind_some]
          go_frame
          rw [h1]
          go_wp2_with fail
          exact ⟨rfl, Below.refl _ _, rfl, rfl⟩
        | 3, _, hi =>
          obtain rfl := Option.some.inj hi
          have h2 : vs 2 = _ := hv 2 (by decide)
          simp only [relF, List.getD_cons_zero, List.getD_cons_succ, List.foldl_cons, List.foldl_nil, dstAt, List.getElem?_cons_zero, List.getElem?_cons_succ, Option.bind_some]
          go_frame
          rw [h2]
          go_wp2_with fail
          exact ⟨rfl, Below.refl _ _, rfl, rfl⟩
        | 4, _, hi =>
          obtain rfl := Option.some.inj hi
          have h2 : vs 2 = _ := hv 2 (by decide)
          have h3 : vs 3 = _ := hv 3 (by decide)
          simp only [relF, List.getD_cons_zero, List.getD_cons_succ, List.foldl_cons, List.foldl_nil, dstAt, List.getElem?_cons_zero, List.getElem?_cons_succ, Option.bind_some]
          go_frame
          rw [h2, h3]
          go_wp2_with fail
          exact ⟨rfl, Below.refl _ _, rfl, by first | rfl | (show slotOf _ _ = _; simp [slotOf]; done) | (show slotOf _ _ = _; simp [slotOf]; omega)⟩
        | 5, _, hi =>
          obtain rfl := Option.some.inj hi
          have h2 : vs 2 = _ := hv 2 (by decide)
          have h4 : vs 4 = _ := hv 4 (by decide)
          simp only [relF, List.getD_cons_zero, List.getD_cons_succ, List.foldl_cons, List.foldl_nil, dstAt, List.getElem?_cons_zero, List.getElem?_cons_succ, Option.bind_some]
          go_frame
          rw [h2, h4]
          go_wp2_with fail
          exact ⟨rfl, Below.refl _ _, rfl, rfl⟩
        | 6, _, hi =>
          obtain rfl := Option.some.inj hi
          have h5 : vs 5 = _ := hv 5 (by decide)
          simp only [relF, List.getD_cons_zero, List.getD_cons_succ, List.foldl_cons, List.foldl_nil, dstAt, List.getElem?_cons_zero, List.getElem?_cons_succ, Option.bind_some]
          go_frame
          rw [h5]
          go_wp2_with fail
          exact ⟨rfl, Below.refl _ _, rfl, rfl⟩
        | 7, _, hi =>
          obtain rfl := Option.some.inj hi
          have h6 : vs 6 = _ := hv 6 (by decide)
          simp only [relF, List.getD_cons_zero, List.getD_cons_succ, List.foldl_cons, List.foldl_nil, dstAt, List.getElem?_cons_zero, List.getElem?_cons_succ, Option.bind_some]
          go_frame
          rw [h6]
          go_wp2_with fail
          exact ⟨rfl, Below.refl _ _, rfl, rfl⟩
        | 8, _, hi =>
          obtain rfl := Option.some.inj hi
          have h6 : vs 6 = _ := hv 6 (by decide)
          simp only [relF, List.getD_cons_zero, List.getD_cons_succ, List.foldl_cons, List.foldl_nil, dstAt, List.getElem?_cons_zero, List.getElem?_cons_succ, Option.bind_some]
          go_frame
          rw [h6]
          go_wp2_with fail
          exact ⟨rfl, Below.refl _ _, rfl, rfl⟩
        | 9, _, hi =>
          obtain rfl := Option.some.inj hi
          have h6 : vs 6 = _ := hv 6 (by decide)
          have h7 : vs 7 = _ := hv 7 (by decide)
          have h8 : vs 8 = _ := hv 8 (by decide)
          simp only [relF, List.getD_cons_zero, List.getD_cons_succ, List.foldl_cons, List.foldl_nil, dstAt, List.getElem?_cons_zero, List.getElem?_cons_succ, Option.bind_some]
          go_frame
          rw [h6, h7, h8]
          go_wp2_with fail
          refine (HRS.out w2 b2).mono ?_
          rintro e w3 ⟨rfl, b3⟩
          go_wp2_with fail
          exact ⟨rfl, b3, rfl, rfl⟩
        | 10, _, hi =>
          obtain rfl := Option.some.inj hi
          have h6 : vs 6 = _ := hv 6 (by decide)
          have h9 : vs 9 = _ := hv 9 (by decide)
          simp only [relF, List.getD_cons_zero, List.getD_cons_succ, List.foldl_cons, List.foldl_nil, dstAt, List.getElem?_cons_zero, List.getElem?_cons_succ, Option.bind_some]
          go_frame
          rw [h6, h9]
          go_wp2_with fail
          exact ⟨rfl, Below.refl _ _, rfl, rfl⟩
        | 11, _, hi =>
          obtain rfl := Option.some.inj hi
          have h6 : vs 6 = _ := hv 6 (by decide)
          have h10 : vs 10 = _ := hv 10 (by decide)
          simp only [relF, List.getD_cons_zero, List.getD_cons_succ, List.foldl_cons, List.foldl_nil, dstAt, List.getElem?_cons_zero, List.getElem?_cons_succ, Option.bind_some]
          go_frame
          rw [h6, h10]
          go_wp2_with fail
          exact ⟨rfl, Below.refl _ _, rfl, rfl⟩
        | 12, _, hi =>
          obtain rfl := Option.some.inj hi
          have h11 : vs 11 = _ := hv 11 (by decide)
          simp only [relF, List.getD_cons_zero, List.getD_cons_succ, List.foldl_cons, List.foldl_nil, dstAt, List.getElem?_cons_zero, List.getElem?_cons_succ, Option.bind_some]
          go_frame
          rw [h11]
          go_wp2_with fail
          exact ⟨rfl, Below.refl _ _, rfl, rfl⟩
        | 13, _, hi =>
          obtain rfl := Option.some.inj hi
          have h12 : vs 12 = _ := hv 12 (by decide)
          have hcv := cell_of_one ((b2.block _ (lt_of_block X8.out)).trans X8.out)
          simp only [relF, List.getD_cons_zero, List.getD_cons_succ, List.foldl_cons, List.foldl_nil, dstAt, List.getElem?_cons_zero, List.getElem?_cons_succ, Option.bind_some]
          go_frame
          rw [h12]
          go_wp2_with fail
          exact ⟨rfl, Below.refl _ _, rfl, rfl⟩
        | 14, _, hi =>
          obtain rfl := Option.some.inj hi
          have h12 : vs 12 = _ := hv 12 (by decide)
          have h13 : vs 13 = _ := hv 13 (by decide)
          simp only [relF, List.getD_cons_zero, List.getD_cons_succ, List.foldl_cons, List.foldl_nil, dstAt, List.getElem?_cons_zero, List.getElem?_cons_succ, Option.bind_some]
          go_frame
          rw [h12, h13]
          go_wp2_with fail
          exact ⟨rfl, Below.refl _ _, rfl, rfl⟩
        | 15, _, hi =>
          obtain rfl := Option.some.inj hi
          have h12 : vs 12 = _ := hv 12 (by decide)
          simp only [relF, List.getD_cons_zero, List.getD_cons_succ, List.foldl_cons, List.foldl_nil, dstAt, List.getElem?_cons_zero, List.getElem?_cons_succ, Option.bind_some]
          go_frame
          rw [h12]
          go_wp2_with fail
          exact ⟨rfl, Below.refl _ _, rfl, rfl⟩
        | 16, _, hi =>
          obtain rfl := Option.some.inj hi
          have h12 : vs 12 = _ := hv 12 (by decide)
          have h15 : vs 15 = _ := hv 15 (by decide)
          simp only [relF, List.getD_cons_zero, List.getD_cons_succ, List.foldl_cons, List.foldl_nil, dstAt, List.getElem?_cons_zero, List.getElem?_cons_succ, Option.bind_some]
          go_frame
          rw [h12, h15]
          go_wp2_with fail
          exact ⟨rfl, Below.refl _ _, rfl, rfl⟩
        | 17, _, hi =>
          obtain rfl := Option.some.inj hi
          have h12 : vs 12 = _ := hv 12 (by decide)
          have h14 : vs 14 = _ := hv 14 (by decide)
          have h16 : vs 16 = _ := hv 16 (by decide)
          simp only [relF, List.getD_cons_zero, List.getD_cons_succ, List.foldl_cons, List.foldl_nil, dstAt, List.getElem?_cons_zero, List.getElem?_cons_succ, Option.bind_some]
          go_frame
          rw [h12, h14, h16]
          go_wp2_with fail
          exact ⟨rfl, Below.refl _ _, rfl, by first | rfl | (show slotOf _ _ = _; simp [slotOf]; done) | (show slotOf _ _ = _; simp [slotOf]; omega)⟩
        | 18, _, hi =>
          obtain rfl := Option.some.inj hi
          have h12 : vs 12 = _ := hv 12 (by decide)
          have h17 : vs 17 = _ := hv 17 (by decide)
          simp only [relF, List.getD_cons_zero, List.getD_cons_succ, List.foldl_cons, List.foldl_nil, dstAt, List.getElem?_cons_zero, List.getElem?_cons_succ, Option.bind_some]
          go_frame
          rw [h12, h17]
          go_wp2_with fail
          exact ⟨rfl, Below.refl _ _, rfl, rfl⟩
        | 19, _, hi =>
          obtain rfl := Option.some.inj hi
          have h18 : vs 18 = _ := hv 18 (by decide)
          simp only [relF, List.getD_cons_zero, List.getD_cons_succ, List.foldl_cons, List.foldl_nil, dstAt, List.getElem?_cons_zero, List.getElem?_cons_succ, Option.bind_some]
          go_frame
          rw [h18]
          go_wp2_with fail
          exact ⟨rfl, Below.refl _ _, rfl, rfl⟩
        | 20, _, hi =>
          obtain rfl := Option.some.inj hi
          have h19 : vs 19 = _ := hv 19 (by decide)
          have hcv := cell_of_one ((b2.block _ (lt_of_block X9.out)).trans X9.out)
          simp only [relF, List.getD_cons_zero, List.getD_cons_succ, List.foldl_cons, List.foldl_nil, dstAt, List.getElem?_cons_zero, List.getElem?_cons_succ, Option.bind_some]
          go_frame
          rw [h19]
          go_wp2_with fail
          exact ⟨rfl, Below.refl _ _, rfl, rfl⟩
        | 21, _, hi =>
          obtain rfl := Option.some.inj hi
          have h19 : vs 19 = _ := hv 19 (by decide)
          have h20 : vs 20 = _ := hv 20 (by decide)
          simp only [relF, List.getD_cons_zero, List.getD_cons_succ, List.foldl_cons, List.foldl_nil, dstAt, List.getElem?_cons_zero, List.getElem?_cons_succ, Option.bind_some]
          go_frame
          rw [h19, h20]
          go_wp2_with fail
          exact ⟨rfl, Below.refl _ _, rfl, rfl⟩
        | 22, _, hi =>
          obtain rfl := Option.some.inj hi
          have h19 : vs 19 = _ := hv 19 (by decide)
          simp only [relF, List.getD_cons_zero, List.getD_cons_succ, List.foldl_cons, List.foldl_nil, dstAt, List.getElem?_cons_zero, List.getElem?_cons_succ, Option.bind_some]
          go_frame
          rw [h19]
          go_wp2_with fail
          exact ⟨rfl, Below.refl _ _, rfl, rfl⟩
        | 23, _, hi =>
          obtain rfl := Option.some.inj hi
          have h19 : vs 19 = _ := hv 19 (by decide)
          simp only [relF, List.getD_cons_zero, List.getD_cons_succ, List.foldl_cons, List.foldl_nil, dstAt, List.getElem?_cons_zero, List.getElem?_cons_succ, Option.bind_some]
          go_frame
          rw [h19]
          go_wp2_with fail
          exact ⟨rfl, Below.refl _ _, rfl, rfl⟩
        | 24, _, hi =>
          obtain rfl := Option.some.inj hi
          have h19 : vs 19 = _ := hv 19 (by decide)
          have h22 : vs 22 = _ := hv 22 (by decide)
          have h23 : vs 23 = _ := hv 23 (by decide)
          simp only [relF, List.getD_cons_zero, List.getD_cons_succ, List.foldl_cons, List.foldl_nil, dstAt, List.getElem?_cons_zero, List.getElem?_cons_succ, Option.bind_some]
          go_frame
          rw [h19, h22, h23]
          go_wp2_with fail
          refine (HSZ.out w2 b2).mono ?_
          rintro e w3 ⟨rfl, b3⟩
          go_wp2_with fail
          exact ⟨rfl, b3, rfl, rfl⟩
        | 25, _, hi =>
          obtain rfl := Option.some.inj hi
          have h19 : vs 19 = _ := hv 19 (by decide)
          have h21 : vs 21 = _ := hv 21 (by decide)
          have h24 : vs 24 = _ := hv 24 (by decide)
          simp only [relF, List.getD_cons_zero, List.getD_cons_succ, List.foldl_cons, List.foldl_nil, dstAt, List.getElem?_cons_zero, List.getElem?_cons_succ, Option.bind_some]
          go_frame
          rw [h19, h21, h24]
          go_wp2_with fail
          exact ⟨rfl, Below.refl _ _, rfl, by first | rfl | (show slotOf _ _ = _; simp [slotOf]; done) | (show slotOf _ _ = _; simp [slotOf]; omega)⟩
        | 26, _, hi =>
          obtain rfl := Option.some.inj hi
          have h19 : vs 19 = _ := hv 19 (by decide)
          have h25 : vs 25 = _ := hv 25 (by decide)
          simp only [relF, List.getD_cons_zero, List.getD_cons_succ, List.foldl_cons, List.foldl_nil, dstAt, List.getElem?_cons_zero, List.getElem?_cons_succ, Option.bind_some]
          go_frame
          rw [h19, h25]
          go_wp2_with fail
          exact ⟨rfl, Below.refl _ _, rfl, rfl⟩
        | nx + 27, him, _ => exact absurd him (by omega)
      · intro w2 b2 vs hv
        have hb2 := b2
        have h26 : vs 26 = _ := hv 26 (by decide)
        simp only [relF, List.drop_succ_cons, List.drop_zero, List.length_cons, List.length_nil, Nat.zero_add, Nat.reduceAdd, List.range, List.range.loop, List.foldl_cons, List.foldl_nil, dstAt, List.getElem?_cons_zero, List.getElem?_cons_succ, Option.bind_some]
        go_frame
        rw [h26]
        go_wp2_with fail
        go_ret
        exact ⟨by rw [HCK.out]; rfl, b0.trans (b2.mono b0.size)⟩
  · have u3 : ((mX : Int) == (mA : Int)) = false := by rw [beq_eq_false_iff_ne]; omega
    have u3' : (mX == mA) = false := by rw [beq_eq_false_iff_ne]; exact e1
    have hck := HCK0.out
    rw [decide_eq_false (by omega), Bool.false_and] at hck
    have HCK := Lib.hid hck; clear hck HCK0 HPC0
    go_enter Tryd.func16, Tryd.ntmps16
    go_wp2_with fail
    change Code.wp _ _ _ _ (((w.alloc (.cells (byteCells r).toArray 23)).alloc (.cells #[.slice oX mX cX] 24)).alloc (.cells #[.slice o m c] 27))
    rw [← HW0.out]
    refine wp_region_rel [[], [0], [1], [2], [2, 3], [2, 4], [5], [6], [6], [6, 7, 8], [6, 9], [6, 10], [11], [12], [12, 13], [12], [12, 15], [12, 14, 16], [12, 17], [18], [19], [19, 20], [19], [19], [19, 22, 23], [19, 21, 24], [19, 25]] (mcD n mX cX m c mA cA T (w.heap.size + 1) (w.heap.size + 1 + 1) oX o oA) 65 (by kernel_rfl) (by kernel_rfl) (by kernel_rfl) (mcD_mono n mX cX m c mA cA T (w.heap.size + 1) (w.heap.size + 1 + 1) oX o oA) ?_ ?_
    · intro ix op hi w2 b2 vs hv
      have him : ix < 27 := (List.getElem?_eq_some_iff.1 hi).1
      have hb2 := b2
      match ix, him, hi with
      | 0, _, hi =>
        obtain rfl := Option.some.inj hi
        simp only [relF, List.getD_cons_zero, List.getD_cons_succ, List.foldl_cons, List.foldl_nil, dstAt, List.getElem?_cons_zero, List.getElem?_cons_succ, Option.bind_some]
        go_wp2_with fail
        exact ⟨rfl, Below.refl _ _, rfl, rfl⟩
      | 1, _, hi =>
        obtain rfl := Option.some.inj hi
        have h0 : vs 0 = _ := hv 0 (by decide)
        simp only [relF, List.getD_cons_zero, List.getD_cons_succ, List.foldl_cons, List.foldl_nil, dstAt, List.getElem?_cons_zero, List.getElem?_cons_succ, Option.bind_some]
        go_frame
        rw [h0]
        go_wp2_with fail
        exact ⟨rfl, Below.refl _ _, rfl, by first | rfl | (show slotOf _ _ = _; simp [slotOf]; done) | (show slotOf _ _ = _; simp [slotOf]; omega)⟩
      | 2, _, hi =>
        obtain rfl := Option.some.inj hi
        have h1 : vs 1 = _ := hv 1 (by decide)
        simp only [relF, List.getD_cons_zero, List.getD_cons_succ, List.foldl_cons, List.foldl_nil, dstAt, List.getElem?_cons_zero, List.getElem?_cons_succ, Option.bind_some]
        go_frame
        rw [h1]
        go_wp2_with fail
        exact ⟨rfl, Below.refl _ _, rfl, rfl⟩
      | 3, _, hi =>
        obtain rfl := Option.some.inj hi
        have h2 : vs 2 = _ := hv 2 (by decide)
        simp only [relF, List.getD_cons_zero, List.getD_cons_succ, List.foldl_cons, List.foldl_nil, dstAt, List.getElem?_cons_zero, List.getElem?_cons_succ, Option.bind_some]
        go_frame
        rw [h2]
        go_wp2_with fail
        exact ⟨rfl, Below.refl _ _, rfl, rfl⟩
      | 4, _, hi =>
        obtain rfl := Option.some.inj hi
        have h2 : vs 2 = _ := hv 2 (by decide)
        have h3 : vs 3 = _ := hv 3 (by decide)
        simp only [relF, List.getD_cons_zero, List.getD_cons_succ, List.foldl_cons, List.foldl_nil, dstAt, List.getElem?_cons_zero, List.getElem?_cons_succ, Option.bind_some]
        go_frame
        rw [h2, h3]
        go_wp2_with fail
        exact ⟨rfl, Below.refl _ _, rfl, by first | rfl | (show slotOf _ _ = _; simp [slotOf]; done) | (show slotOf _ _ = _; simp [slotOf]; omega)⟩
      | 5, _, hi =>
        obtain rfl := Option.some.inj hi
        have h2 : vs 2 = _ := hv 2 (by decide)
        have h4 : vs 4 = _ := hv 4 (by decide)
        simp only [relF, List.getD_cons_zero, List.getD_cons_succ, List.foldl_cons, List.foldl_nil, dstAt, List.getElem?_cons_zero, List.getElem?_cons_succ, Option.bind_some]
        go_frame
        rw [h2, h4]
        go_wp2_with fail
        exact ⟨rfl, Below.refl _ _, rfl, rfl⟩
      | 6, _, hi =>
        obtain rfl := Option.some.inj hi
        have h5 : vs 5 = _ := hv 5 (by decide)
        simp only [relF, List.getD_cons_zero, List.getD_cons_succ, List.foldl_cons, List.foldl_nil, dstAt, List.getElem?_cons_zero, List.getElem?_cons_succ, Option.bind_some]
        go_frame
        rw [h5]
        go_wp2_with fail
        exact ⟨rfl, Below.refl _ _, rfl, rfl⟩
      | 7, _, hi =>
        obtain rfl := Option.some.inj hi
        have h6 : vs 6 = _ := hv 6 (by decide)
        simp only [relF, List.getD_cons_zero, List.getD_cons_succ, List.foldl_cons, List.foldl_nil, dstAt, List.getElem?_cons_zero, List.getElem?_cons_succ, Option.bind_some]
        go_frame
        rw [h6]
        go_wp2_with fail
        exact ⟨rfl, Below.refl _ _, rfl, rfl⟩
      | 8, _, hi =>
        obtain rfl := Option.some.inj hi
        have h6 : vs 6 = _ := hv 6 (by decide)
        simp only [relF, List.getD_cons_zero, List.getD_cons_succ, List.foldl_cons, List.foldl_nil, dstAt, List.getElem?_cons_zero, List.getElem?_cons_succ, Option.bind_some]
        go_frame
        rw [h6]
        go_wp2_with fail
        exact ⟨rfl, Below.refl _ _, rfl, rfl⟩
      | 9, _, hi =>
        obtain rfl := Option.some.inj hi
        have h6 : vs 6 = _ := hv 6 (by decide)
        have h7 : vs 7 = _ := hv 7 (by decide)
        have h8 : vs 8 = _ := hv 8 (by decide)
        simp only [relF, List.getD_cons_zero, List.getD_cons_succ, List.foldl_cons, List.foldl_nil, dstAt, List.getElem?_cons_zero, List.getElem?_cons_succ, Option.bind_some]
        go_frame
        rw [h6, h7, h8]
        go_wp2_with fail
        refine (HRS.out w2 b2).mono ?_
        rintro e w3 ⟨rfl, b3⟩
        go_wp2_with fail
        exact ⟨rfl, b3, rfl, rfl⟩
      | 10, _, hi =>
        obtain rfl := Option.some.inj hi
        have h6 : vs 6 = _ := hv 6 (by decide)
        have h9 : vs 9 = _ := hv 9 (by decide)
        simp only [relF, List.getD_cons_zero, List.getD_cons_succ, List.foldl_cons, List.foldl_nil, dstAt, List.getElem?_cons_zero, List.getElem?_cons_succ, Option.bind_some]
        go_frame
        rw [h6, h9]
        go_wp2_with fail
        exact ⟨rfl, Below.refl _ _, rfl, rfl⟩
      | 11, _, hi =>
        obtain rfl := Option.some.inj hi
        have h6 : vs 6 = _ := hv 6 (by decide)
        have h10 : vs 10 = _ := hv 10 (by decide)
        simp only [relF, List.getD_cons_zero, List.getD_cons_succ, List.foldl_cons, List.foldl_nil, dstAt, List.getElem?_cons_zero, List.getElem?_cons_succ, Option.bind_some]
        go_frame
        rw [h6, h10]
        go_wp2_with fail
        exact ⟨rfl, Below.refl _ _, rfl, rfl⟩
      | 12, _, hi =>
        obtain rfl := Option.some.inj hi
        have h11 : vs 11 = _ := hv 11 (by decide)
        simp only [relF, List.getD_cons_zero, List.getD_cons_succ, List.foldl_cons, List.foldl_nil, dstAt, List.getElem?_cons_zero, List.getElem?_cons_succ, Option.bind_some]
        go_frame
        rw [h11]
        go_wp2_with fail
        exact ⟨rfl, Below.refl _ _, rfl, rfl⟩
      | 13, _, hi =>
        obtain rfl := Option.some.inj hi
        have h12 : vs 12 = _ := hv 12 (by decide)
        have hcv := cell_of_one ((b2.block _ (lt_of_block X8.out)).trans X8.out)
        simp only [relF, List.getD_cons_zero, List.getD_cons_succ, List.foldl_cons, List.foldl_nil, dstAt, List.getElem?_cons_zero, List.getElem?_cons_succ, Option.bind_some]
        go_frame
        rw [h12]
        go_wp2_with fail
        exact ⟨rfl, Below.refl _ _, rfl, rfl⟩
      | 14, _, hi =>
        obtain rfl := Option.some.inj hi
        have h12 : vs 12 = _ := hv 12 (by decide)
        have h13 : vs 13 = _ := hv 13 (by decide)
        simp only [relF, List.getD_cons_zero, List.getD_cons_succ, List.foldl_cons, List.foldl_nil, dstAt, List.getElem?_cons_zero, List.getElem?_cons_succ, Option.bind_some]
        go_frame
        rw [h12, h13]
        go_wp2_with fail
        exact ⟨rfl, Below.refl _ _, rfl, rfl⟩
      | 15, _, hi =>
        obtain rfl := Option.some.inj hi
        have h12 : vs 12 = _ := hv 12 (by decide)
        simp only [relF, List.getD_cons_zero, List.getD_cons_succ, List.foldl_cons, List.foldl_nil, dstAt, List.getElem?_cons_zero, List.getElem?_cons_succ, Option.bind_some]
        go_frame
        rw [h12]
        go_wp2_with fail
        exact ⟨rfl, Below.refl _ _, rfl, rfl⟩
      | 16, _, hi =>
        obtain rfl := Option.some.inj hi
        have h12 : vs 12 = _ := hv 12 (by decide)
        have h15 : vs 15 = _ := hv 15 (by decide)
        simp only [relF, List.getD_cons_zero, List.getD_cons_succ, List.foldl_cons, List.foldl_nil, dstAt, List.getElem?_cons_zero, List.getElem?_cons_succ, Option.bind_some]
        go_frame
        rw [h12, h15]
        go_wp2_with fail
        exact ⟨rfl, Below.refl _ _, rfl, rfl⟩
      | 17, _, hi =>
        obtain rfl := Option.some.inj hi
        have h12 : vs 12 = _ := hv 12 (by decide)
        have h14 : vs 14 = _ := hv 14 (by decide)
        have h16 : vs 16 = _ := hv 16 (by decide)
        simp only [relF, List.getD_cons_zero, List.getD_cons_succ, List.foldl_cons, List.foldl_nil, dstAt, List.getElem?_cons_zero, List.getElem?_cons_succ, Option.bind_some]
        go_frame
        rw [h12, h14, h16]
        go_wp2_with fail
        exact ⟨rfl, Below.refl _ _, rfl, by first | rfl | (show slotOf _ _ = _; simp [slotOf]; done) | (show slotOf _ _ = _; simp [slotOf]; omega)⟩
      | 18, _, hi =>
        obtain rfl := Option.some.inj hi
        have h12 : vs 12 = _ := hv 12 (by decide)
        have h17 : vs 17 = _ := hv 17 (by decide)
        simp only [relF, List.getD_cons_zero, List.getD_cons_succ, List.foldl_cons, List.foldl_nil, dstAt, List.getElem?_cons_zero, List.getElem?_cons_succ, Option.bind_some]
        go_frame
        rw [h12, h17]
        go_wp2_with fail
        exact ⟨rfl, Below.refl _ _, rfl, rfl⟩
      | 19, _, hi =>
        obtain rfl := Option.some.inj hi
        have h18 : vs 18 = _ := hv 18 (by decide)
        simp only [relF, List.getD_cons_zero, List.getD_cons_succ, List.foldl_cons, List.foldl_nil, dstAt, List.getElem?_cons_zero, List.getElem?_cons_succ, Option.bind_some]
        go_frame
        rw [h18]
        go_wp2_with fail
        exact ⟨rfl, Below.refl _ _, rfl, rfl⟩
      | 20, _, hi =>
        obtain rfl := Option.some.inj hi
        have h19 : vs 19 = _ := hv 19 (by decide)
        simp only [relF, List.getD_cons_zero, List.getD_cons_succ, List.foldl_cons, List.foldl_nil, dstAt, List.getElem?_cons_zero, List.getElem?_cons_succ, Option.bind_some]
        go_frame
        rw [h19]
        go_wp2_with fail
        exact ⟨rfl, Below.refl _ _, rfl, trivial⟩
      | 21, _, hi =>
        obtain rfl := Option.some.inj hi
        have h19 : vs 19 = _ := hv 19 (by decide)
        simp only [relF, List.getD_cons_zero, List.getD_cons_succ, List.foldl_cons, List.foldl_nil, dstAt, List.getElem?_cons_zero, List.getElem?_cons_succ, Option.bind_some]
        go_frame
        rw [h19]
        go_wp2_with fail
        exact ⟨rfl, Below.refl _ _, rfl, trivial⟩
      | 22, _, hi =>
        obtain rfl := Option.some.inj hi
        have h19 : vs 19 = _ := hv 19 (by decide)
        simp only [relF, List.getD_cons_zero, List.getD_cons_succ, List.foldl_cons, List.foldl_nil, dstAt, List.getElem?_cons_zero, List.getElem?_cons_succ, Option.bind_some]
        go_frame
        rw [h19]
        go_wp2_with fail
        exact ⟨rfl, Below.refl _ _, rfl, trivial⟩
      | 23, _, hi =>
        obtain rfl := Option.some.inj hi
        have h19 : vs 19 = _ := hv 19 (by decide)
        simp only [relF, List.getD_cons_zero, List.getD_cons_succ, List.foldl_cons, List.foldl_nil, dstAt, List.getElem?_cons_zero, List.getElem?_cons_succ, Option.bind_some]
        go_frame
        rw [h19]
        go_wp2_with fail
        exact ⟨rfl, Below.refl _ _, rfl, trivial⟩
      | 24, _, hi =>
        obtain rfl := Option.some.inj hi
        have h19 : vs 19 = _ := hv 19 (by decide)
        simp only [relF, List.getD_cons_zero, List.getD_cons_succ, List.foldl_cons, List.foldl_nil, dstAt, List.getElem?_cons_zero, List.getElem?_cons_succ, Option.bind_some]
        go_frame
        rw [h19]
        go_wp2_with fail
        exact ⟨rfl, Below.refl _ _, rfl, trivial⟩
      | 25, _, hi =>
        obtain rfl := Option.some.inj hi
        have h19 : vs 19 = _ := hv 19 (by decide)
        simp only [relF, List.getD_cons_zero, List.getD_cons_succ, List.foldl_cons, List.foldl_nil, dstAt, List.getElem?_cons_zero, List.getElem?_cons_succ, Option.bind_some]
        go_frame
        rw [h19]
        go_wp2_with fail
        exact ⟨rfl, Below.refl _ _, rfl, trivial⟩
      | 26, _, hi =>
        obtain rfl := Option.some.inj hi
        have h19 : vs 19 = _ := hv 19 (by decide)
        simp only [relF, List.getD_cons_zero, List.getD_cons_succ, List.foldl_cons, List.foldl_nil, dstAt, List.getElem?_cons_zero, List.getElem?_cons_succ, Option.bind_some]
        go_frame
        rw [h19]
        go_wp2_with fail
        exact ⟨rfl, Below.refl _ _, rfl, rfl⟩
      | nx + 27, him, _ => exact absurd him (by omega)
    · intro w2 b2 vs hv
      have hb2 := b2
      have h26 : vs 26 = _ := hv 26 (by decide)
      simp only [relF, List.drop_succ_cons, List.drop_zero, List.length_cons, List.length_nil, Nat.zero_add, Nat.reduceAdd, List.range, List.range.loop, List.foldl_cons, List.foldl_nil, dstAt, List.getElem?_cons_zero, List.getElem?_cons_succ, Option.bind_some]
      go_frame
      rw [h26]
      go_wp2_with fail
      go_ret
      exact ⟨by rw [HCK.out]; rfl, b0.trans (b2.mono b0.size)⟩
end Go.Proofs.YtgheacegjgaobaaDoor
