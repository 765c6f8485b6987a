/- What a tree of leaves comes to: plain. -/
import Derived.Test.YteljlnkjdajkgaaDoorSha2
import Derived.Test.YteljlnkjdajkgaaDoorPure
namespace Go.Proofs.YteljlnkjdajkgaaDoor.Tree
set_option linter.unusedVariables false

/-- How many leaves stand on the left of n. -/
def half (n : Nat) : Nat := if n < 2 then 0 else 2 ^ Nat.log2 (n - 1)

theorem half_of {n i : Nat} (h1 : 2 ^ i < n) (h2 : n ≤ 2 * 2 ^ i) : half n = 2 ^ i := by
  have hp := Nat.two_pow_pos i
  have : Nat.log2 (n - 1) = i := by
    have h0 : n - 1 ≠ 0 := by omega
    have l1 : i ≤ Nat.log2 (n - 1) := (Nat.le_log2 h0).2 (by omega)
    have l2 : Nat.log2 (n - 1) < i + 1 := (Nat.log2_lt h0).2 (by rw [Nat.pow_succ]; omega)
    omega
  unfold half
  rw [if_neg (by omega), this]

theorem half_zero {n : Nat} (h : n < 2) : half n = 0 := by unfold half; rw [if_pos h]

theorem half_spec {n : Nat} (h : 2 ≤ n) : ∃ i, half n = 2 ^ i ∧ 2 ^ i < n ∧ n ≤ 2 * 2 ^ i := by
  have h0 : n - 1 ≠ 0 := by omega
  refine ⟨Nat.log2 (n - 1), by unfold half; rw [if_neg (by omega)], ?_, ?_⟩
  · have := (Nat.le_log2 h0).1 (Nat.le_refl _); omega
  · have := (Nat.log2_lt h0).1 (Nat.lt_succ_self _); rw [Nat.pow_succ] at this; omega

theorem half_pos {n : Nat} (h : 2 ≤ n) : 1 ≤ half n := by
  obtain ⟨i, h1, _⟩ := half_spec h
  rw [h1]; exact Nat.two_pow_pos i
theorem half_lt {n : Nat} (h : 2 ≤ n) : half n < n := by
  obtain ⟨i, h1, h2, _⟩ := half_spec h
  omega
theorem half_ge {n : Nat} (h : 2 ≤ n) : n ≤ 2 * half n := by
  obtain ⟨i, h1, _, h2⟩ := half_spec h
  omega

/-- A leaf's sum, that of two, of none; the root's. -/
def leaf (s : List UInt8) : List UInt8 := Sha.of (0 :: s)
def node (a b : List UInt8) : List UInt8 := Sha.of (1 :: (a ++ b))
def root (n : Nat) (t : List UInt8) : List UInt8 := Sha.of (3 :: (Wire.num n ++ t))

theorem leaf_len (s : List UInt8) : (leaf s).length = 32 := Sha.of_len _
theorem node_len (a b : List UInt8) : (node a b).length = 32 := Sha.of_len _
theorem root_len (n : Nat) (t : List UInt8) : (root n t).length = 32 := Sha.of_len _

/-- The top of leaves. -/
def top (l : List (List UInt8)) : List UInt8 :=
  if h : 2 ≤ l.length then node (top (l.take (half l.length))) (top (l.drop (half l.length)))
  else match l with
    | [] => Sha.of [2]
    | a :: _ => leaf a
termination_by l.length
decreasing_by
  · have := half_lt h; simp only [List.length_take]; omega
  · have := half_pos h; simp only [List.length_drop]; omega

theorem top_nil : top [] = Sha.of [2] := by rw [top.eq_def]; rfl
theorem top_one (a : List UInt8) : top [a] = leaf a := by rw [top.eq_def]; rfl
theorem top_two {l : List (List UInt8)} (h : 2 ≤ l.length) : top l = node (top (l.take (half l.length))) (top (l.drop (half l.length))) := by
  rw [top.eq_def, dif_pos h]
theorem top_len (l : List (List UInt8)) : (top l).length = 32 := by
  by_cases h : 2 ≤ l.length
  · rw [top_two h]; exact node_len _ _
  · match l, h with
    | [], _ => rw [top_nil]; exact Sha.of_len _
    | [a], _ => rw [top_one]; exact leaf_len _
    | _ :: _ :: _, h => exact absurd (by simp) h

/-- The proof of a leaf, from the leaf on up. -/
def prove (l : List (List UInt8)) (at' : Nat) : List (List UInt8) :=
  if h : 2 ≤ l.length then
    if at' < half l.length then prove (l.take (half l.length)) at' ++ [top (l.drop (half l.length))]
    else prove (l.drop (half l.length)) (at' - half l.length) ++ [top (l.take (half l.length))]
  else []
termination_by l.length
decreasing_by
  · have := half_lt h; simp only [List.length_take]; omega
  · have := half_pos h; simp only [List.length_drop]; omega

theorem prove_small {l : List (List UInt8)} (h : ¬ 2 ≤ l.length) (i : Nat) : prove l i = [] := by rw [prove.eq_def, dif_neg h]
theorem prove_left {l : List (List UInt8)} {i : Nat} (h : 2 ≤ l.length) (hi : i < half l.length) : prove l i = prove (l.take (half l.length)) i ++ [top (l.drop (half l.length))] := by
  rw [prove.eq_def, dif_pos h, if_pos hi]
theorem prove_right {l : List (List UInt8)} {i : Nat} (h : 2 ≤ l.length) (hi : ¬ i < half l.length) : prove l i = prove (l.drop (half l.length)) (i - half l.length) ++ [top (l.take (half l.length))] := by
  rw [prove.eq_def, dif_pos h, if_neg hi]

/-- On which side a leaf stands, from the top on down: true is the left one. -/
def sides (n at' : Nat) : List Bool :=
  if h : 2 ≤ n then
    if at' < half n then true :: sides (half n) at' else false :: sides (n - half n) (at' - half n)
  else []
termination_by n
decreasing_by
  · exact half_lt h
  · have := half_pos h; omega

theorem sides_small {n : Nat} (h : ¬ 2 ≤ n) (i : Nat) : sides n i = [] := by rw [sides.eq_def, dif_neg h]
theorem sides_left {n i : Nat} (h : 2 ≤ n) (hi : i < half n) : sides n i = true :: sides (half n) i := by rw [sides.eq_def, dif_pos h, if_pos hi]
theorem sides_right {n i : Nat} (h : 2 ≤ n) (hi : ¬ i < half n) : sides n i = false :: sides (n - half n) (i - half n) := by rw [sides.eq_def, dif_pos h, if_neg hi]

/-- There are no more sides than it takes to double up to n. -/
theorem sides_len : ∀ (d n i : Nat), i < n → n ≤ 2 ^ d → (sides n i).length ≤ d := by
  intro d n
  induction n using Nat.strongRecOn generalizing d with
  | ind n ih =>
    intro i hi hn
    by_cases h : 2 ≤ n
    · obtain ⟨j, h1, h2, h3⟩ := half_spec h
      cases d with
      | zero => simp at hn; omega
      | succ d =>
        have hjd : j ≤ d := by
          apply Nat.le_of_not_lt
          intro hlt
          have := Nat.pow_le_pow_right (n := 2) (by omega) (show d + 1 ≤ j by omega)
          omega
        have hk : half n ≤ 2 ^ d := by rw [h1]; exact Nat.pow_le_pow_right (by omega) hjd
        by_cases hl : i < half n
        · rw [sides_left h hl, List.length_cons]
          have := ih (half n) (half_lt h) d i hl hk
          omega
        · rw [sides_right h hl, List.length_cons]
          have := ih (n - half n) (by have := half_pos h; omega) d (i - half n) (by omega) (by omega)
          omega
    · rw [sides_small h]; simp

/-- One step up: the sum and the side on which it stands. -/
def step (t : List UInt8) (x : Bool × List UInt8) : List UInt8 := if x.1 then node t x.2 else node x.2 t
/-- What a leaf comes to, with a proof of as many sums as there are sides. -/
def climb (t : List UInt8) (sd : List Bool) (p : List (List UInt8)) : List UInt8 := (sd.reverse.zip p).foldl step t

theorem step_len (t : List UInt8) (x : Bool × List UInt8) : (step t x).length = 32 := by unfold step; split <;> exact node_len _ _

theorem climb_len (t : List UInt8) (ht : t.length = 32) (sd : List Bool) (p : List (List UInt8)) : (climb t sd p).length = 32 := by
  unfold climb
  generalize sd.reverse.zip p = z
  induction z generalizing t with
  | nil => exact ht
  | cons x z ih => exact ih _ (step_len _ _)

/-- Is it proved? -/
def check (want : List UInt8) (n i : Nat) (s : List UInt8) (p : List (List UInt8)) : Bool :=
  decide ((sides n i).length = p.length) && (root n (climb (leaf s) (sides n i) p) == want)

end Go.Proofs.YteljlnkjdajkgaaDoor.Tree
