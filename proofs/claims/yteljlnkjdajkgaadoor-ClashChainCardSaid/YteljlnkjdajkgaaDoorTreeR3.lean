/- The walks of the reference's Deep, up, Check. -/
import Derived.Test.YteljlnkjdajkgaaDoorTreeR2
namespace Go.Proofs.YteljlnkjdajkgaaDoor
open Go.RowKit
set_option linter.unusedSimpArgs false
set_option linter.unusedVariables false

theorem HashesAt.take {w : World} {o : Option Addr} {n cap : Nat} {P : List (List UInt8)} (h : HashesAt w o n cap P) (k c : Nat) (hk : k ≤ n) (hc : k ≤ c) (hm : c ≤ 9223372036854775807) : HashesAt w o k c (P.take k) := by
  refine ⟨⟨by rw [List.length_take, h.1.1]; omega, hc, hm, fun h0 => ?_⟩, fun p hp => h.2 p (List.mem_of_mem_take hp)⟩
  obtain ⟨b, off, h5, h6, h7⟩ := h.1.2.2.2 (by omega)
  refine ⟨b, off, h5, h6, fun i l hl => h7 i l ?_⟩
  rw [List.getElem?_take] at hl
  split at hl
  · exact hl
  · cases hl

/-- The reference's Deep: bad and good. -/
def badDeep (n i : Int) : Bool := badSide n i

set_option maxRecDepth 100000 in
theorem refDeep_bad (w : World) (n i : Int) (hb : badSide n i = true) :
    Calls Tryd.prog 26 #[.int .i64 n, .int .i64 i] w fun e w' => w = w' ∧ e = .returned (.int .i64 0) := by
  unfold badSide at hb
  rcases hx : decide ((1073741824 : Int) < n) with _ | _
  · rcases hy : decide (i < 0) with _ | _
    · have hz : decide (n ≤ i) = true := by rw [hx, hy] at hb; simpa using hb
      clear hb
      go_enter Tryd.func26, Tryd.ntmps26
      go_wp2_with fail
      go_ret
      exact ⟨rfl, rfl⟩
    · clear hb
      go_enter Tryd.func26, Tryd.ntmps26
      go_wp2_with fail
      go_ret
      exact ⟨rfl, rfl⟩
  · clear hb
    go_enter Tryd.func26, Tryd.ntmps26
    go_wp2_with fail
    go_ret
    exact ⟨rfl, rfl⟩

set_option maxRecDepth 100000 in
set_option maxHeartbeats 1000000 in
theorem refDeep_any (N : Nat) : ∀ (w : World) (n i : Nat), n = N → i < n → n ≤ 1073741824 →
    Calls Tryd.prog 26 #[.int .i64 (n : Int), .int .i64 (i : Int)] w fun e w' => w = w' ∧ e = .returned (.int .i64 ((Tree.sides n i).length : Int)) := by
  induction N using Nat.strongRecOn with
  | ind N ih =>
  intro w n i hN h1 h2
  subst hN
  have IH := Lib.hid ih; clear ih
  have hx : decide ((1073741824 : Int) < (n : Int)) = false := decide_eq_false (by omega)
  have hy : decide ((i : Int) < 0) = false := decide_eq_false (by omega)
  have hz : decide ((n : Int) ≤ (i : Int)) = false := decide_eq_false (by omega)
  have hz' : decide (n ≤ i) = false := decide_eq_false (by omega)
  have hlen := Tree.sides_len 30 n i h1 h2
  by_cases h : 2 ≤ n
  · have ht1 : ((n : Int) == 1) = false := by rw [beq_eq_false_iff_ne]; omega
    obtain ⟨k, hk⟩ : ∃ k, k = Tree.half n := ⟨_, rfl⟩
    have hk1 : 1 ≤ k := by rw [hk]; exact Tree.half_pos h
    have hkn : k < n := by rw [hk]; exact Tree.half_lt h
    have hhalf := refHalfOf_any w n h (by omega)
    rw [← hk] at hhalf
    have HH := Lib.hid hhalf; clear hhalf
    by_cases hl : i < k
    · have hsd := Tree.sides_left h (by rw [← hk]; exact hl)
      rw [← hk] at hsd
      rw [hsd] at hlen ⊢
      have ht2 : decide ((i : Int) < (k : Int)) = true := decide_eq_true (by omega)
      have ht2' : decide (i < k) = true := decide_eq_true (by omega)
      have hc := IH.out k hkn w k i rfl hl (by omega)
      have HC := Lib.hid hc; clear hc hsd hk
      rw [List.length_cons] at hlen ⊢
      go_enter Tryd.func26, Tryd.ntmps26
      go_wp2_with fail
      refine HH.out.mono ?_
      rintro e w' ⟨rfl, rfl⟩
      go_wp2_with fail
      refine HC.out.mono ?_
      rintro e w' ⟨rfl, rfl⟩
      go_wp2_with fail
      go_ret
      exact ⟨rfl, by go_num⟩
    · have hsd := Tree.sides_right h (by rw [← hk]; exact hl)
      rw [← hk] at hsd
      rw [hsd] at hlen ⊢
      have ht2 : decide ((i : Int) < (k : Int)) = false := decide_eq_false (by omega)
      have ht2' : decide (i < k) = false := decide_eq_false (by omega)
      have hc := IH.out (n - k) (by omega) w (n - k) (i - k) rfl (by omega) (by omega)
      have e1 : ((n - k : Nat) : Int) = (n : Int) - k := by omega
      have e2 : ((i - k : Nat) : Int) = (i : Int) - k := by omega
      rw [e1, e2] at hc
      have HC := Lib.hid hc; clear hc hsd hk e1 e2
      rw [List.length_cons] at hlen ⊢
      go_enter Tryd.func26, Tryd.ntmps26
      go_wp2_with fail
      refine HH.out.mono ?_
      rintro e w' ⟨rfl, rfl⟩
      go_wp2_with fail
      refine HC.out.mono ?_
      rintro e w' ⟨rfl, rfl⟩
      go_wp2_with fail
      go_ret
      exact ⟨rfl, by go_num⟩
  · obtain rfl : n = 1 := by omega
    obtain rfl : i = 0 := by omega
    have hsd := Tree.sides_small (n := 1) h 0
    rw [hsd]
    clear hsd
    go_enter Tryd.func26, Tryd.ntmps26
    go_wp2_with fail
    go_ret
    exact ⟨rfl, rfl⟩

theorem climb_snoc {t x : List UInt8} {b : Bool} {sd : List Bool} {p : List (List UInt8)} (h : sd.length = p.length) : Tree.climb t (b :: sd) (p ++ [x]) = Tree.step (Tree.climb t sd p) (b, x) := by
  unfold Tree.climb
  rw [List.reverse_cons, List.zip_append (by rw [List.length_reverse, h]), List.foldl_append]
  rfl

theorem take_last {P : List (List UInt8)} {m : Nat} {x : List UInt8} (hl : P.length = m + 1) (hx : P[m]? = some x) : P = P.take m ++ [x] := by
  have := List.take_add_one (l := P) (i := m)
  rw [hx, List.take_of_length_le (by omega)] at this
  exact this

/-- What the region's operations leave. -/
def rcheckV (want t : List UInt8) (n : Nat) (ix : Nat) (w : World) (v : Value) : Prop :=
  match ix with
  | 0 => v = .bool true
  | 1 => v = .bool true
  | 2 => v = .int .i64 (n : Int)
  | 3 => v = .string (strOf t)
  | 4 => v = .agg (byteCells (Tree.root n t)).toArray
  | 5 => v = .agg (byteCells want).toArray
  | 6 => v = .bool (Tree.root n t == want)
  | 7 => v = .bool (Tree.root n t == want)
  | 8 => v = .bool (Tree.root n t == want)
  | _ => True

theorem rcheckV_mono (want t : List UInt8) (n : Nat) (j : Nat) (w w' : World) (v : Value) (hb : Below w.heap.size w w') (h : rcheckV want t n j w v) : rcheckV want t n j w' v := by
  match j, h with
  | 0, h => exact h
  | 1, h => exact h
  | 2, h => exact h
  | 3, h => exact h
  | 4, h => exact h
  | 5, h => exact h
  | 6, h => exact h
  | 7, h => exact h
  | 8, h => exact h
  | _ + 9, h => exact trivial

/-- What the region's operations leave. -/
def rcheckV0 (want t : List UInt8) (n : Nat) (ix : Nat) (w : World) (v : Value) : Prop :=
  match ix with
  | 0 => v = .bool false
  | 1 => v = .bool false
  | 2 => True
  | 3 => True
  | 4 => True
  | 5 => True
  | 6 => True
  | 7 => v = .bool false
  | 8 => v = .bool false
  | _ => True

theorem rcheckV0_mono (want t : List UInt8) (n : Nat) (j : Nat) (w w' : World) (v : Value) (hb : Below w.heap.size w w') (h : rcheckV0 want t n j w v) : rcheckV0 want t n j w' v := by
  match j, h with
  | 0, h => exact h
  | 1, h => exact h
  | 2, h => exact trivial
  | 3, h => exact trivial
  | 4, h => exact trivial
  | 5, h => exact trivial
  | 6, h => exact trivial
  | 7, h => exact h
  | 8, h => exact h
  | _ + 9, h => exact trivial

end Go.Proofs.YteljlnkjdajkgaaDoor
