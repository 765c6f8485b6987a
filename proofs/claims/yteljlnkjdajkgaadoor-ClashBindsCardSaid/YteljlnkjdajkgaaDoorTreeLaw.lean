/- What the tree's laws ask, plain. -/
import Derived.Test.YteljlnkjdajkgaaDoorTreeR4
namespace Go.Proofs.YteljlnkjdajkgaaDoor
open Go.RowKit
set_option linter.unusedSimpArgs false
set_option linter.unusedVariables false

theorem Tree.sides_prove (N : Nat) : ∀ (L : List (List UInt8)) (i : Nat), L.length = N → i < N → (Tree.sides N i).length = (Tree.prove L i).length := by
  induction N using Nat.strongRecOn with
  | ind N ih =>
    intro L i hL hi
    by_cases h : 2 ≤ N
    · have h1 := Tree.half_pos h
      have h2 := Tree.half_lt h
      by_cases hl : i < Tree.half N
      · rw [Tree.sides_left h hl, Tree.prove_left (by omega) (by rw [hL]; exact hl), List.length_append, List.length_cons, hL]
        rw [ih (Tree.half N) h2 (L.take (Tree.half N)) i (by rw [List.length_take]; omega) hl]
        rfl
      · rw [Tree.sides_right h hl, Tree.prove_right (by omega) (by rw [hL]; exact hl), List.length_append, List.length_cons, hL]
        rw [ih (N - Tree.half N) (by omega) (L.drop (Tree.half N)) (i - Tree.half N) (by rw [List.length_drop, hL]) (by omega)]
        rfl
    · rw [Tree.sides_small h, Tree.prove_small (by omega)]; rfl

theorem Tree.climb_prove (N : Nat) : ∀ (L : List (List UInt8)) (i : Nat) (l : List UInt8), L.length = N → L[i]? = some l → Tree.climb (Tree.leaf l) (Tree.sides N i) (Tree.prove L i) = Tree.top L := by
  induction N using Nat.strongRecOn with
  | ind N ih =>
    intro L i l hL hl
    have hi : i < N := by have := (List.getElem?_eq_some_iff.1 hl).1; omega
    by_cases h : 2 ≤ N
    · have h1 := Tree.half_pos h
      have h2 := Tree.half_lt h
      by_cases hlt : i < Tree.half N
      · have hs := Tree.sides_prove (Tree.half N) (L.take (Tree.half N)) i (by rw [List.length_take]; omega) hlt
        rw [Tree.sides_left h hlt, Tree.prove_left (by omega) (by rw [hL]; exact hlt), hL, climb_snoc hs,
          ih (Tree.half N) h2 (L.take (Tree.half N)) i l (by rw [List.length_take]; omega) (by rw [List.getElem?_take, if_pos hlt]; exact hl), Tree.top_two (l := L) (by omega), hL]
        rfl
      · have hs := Tree.sides_prove (N - Tree.half N) (L.drop (Tree.half N)) (i - Tree.half N) (by rw [List.length_drop, hL]) (by omega)
        rw [Tree.sides_right h hlt, Tree.prove_right (by omega) (by rw [hL]; exact hlt), hL, climb_snoc hs,
          ih (N - Tree.half N) (by omega) (L.drop (Tree.half N)) (i - Tree.half N) l (by rw [List.length_drop, hL]) (by rw [List.getElem?_drop]; rw [show Tree.half N + (i - Tree.half N) = i by omega]; exact hl), Tree.top_two (l := L) (by omega), hL]
        rfl
    · obtain rfl : N = 1 := by omega
      obtain rfl : i = 0 := by omega
      obtain ⟨a, rfl⟩ := List.length_eq_one_iff.1 hL
      rw [Tree.sides_small h, Tree.prove_small (by simp), Tree.top_one]
      simp only [List.getElem?_cons_zero, Option.some.injEq] at hl
      subst hl
      simp [Tree.climb]

theorem Tree.check_prove {L : List (List UInt8)} {i : Nat} {l : List UInt8} (hl : L[i]? = some l) : Tree.check (Tree.root L.length (Tree.top L)) L.length i l (Tree.prove L i) = true := by
  have hi := (List.getElem?_eq_some_iff.1 hl).1
  unfold Tree.check
  rw [Tree.climb_prove L.length L i l rfl hl, Tree.sides_prove L.length L i rfl hi]
  simp

theorem Tree.check_len {want : List UInt8} {n i : Nat} {l : List UInt8} {P : List (List UInt8)} (h : (Tree.sides n i).length ≠ P.length) : Tree.check want n i l P = false := by
  unfold Tree.check
  rw [decide_eq_false h, Bool.false_and]

theorem Tree.half_3 : Tree.half 3 = 2 := Tree.half_of (i := 1) (by decide) (by decide)
theorem Tree.half_2 : Tree.half 2 = 1 := Tree.half_of (i := 0) (by decide) (by decide)

/-- The chapter's example. -/
theorem Tree.ex_prove : Tree.prove [[97], [98], [99]] 2 = [Tree.node (Tree.leaf [97]) (Tree.leaf [98])] := by
  rw [Tree.prove_right (by decide) (by rw [show ([[97], [98], [99]] : List (List UInt8)).length = 3 from rfl, Tree.half_3]; decide)]
  rw [show ([[97], [98], [99]] : List (List UInt8)).length = 3 from rfl, Tree.half_3]
  rw [show (([[97], [98], [99]] : List (List UInt8)).drop 2) = [[99]] from rfl, show (([[97], [98], [99]] : List (List UInt8)).take 2) = [[97], [98]] from rfl, Tree.prove_small (by decide)]
  rw [Tree.top_two (by decide), show ([[97], [98]] : List (List UInt8)).length = 2 from rfl, Tree.half_2]
  rw [show (([[97], [98]] : List (List UInt8)).take 1) = [[97]] from rfl, show (([[97], [98]] : List (List UInt8)).drop 1) = [[98]] from rfl, Tree.top_one, Tree.top_one]
  rfl

theorem Tree.ex_top : Tree.top [[97], [98], [99]] = Tree.node (Tree.node (Tree.leaf [97]) (Tree.leaf [98])) (Tree.leaf [99]) := by
  rw [Tree.top_two (by decide), show ([[97], [98], [99]] : List (List UInt8)).length = 3 from rfl, Tree.half_3]
  rw [show (([[97], [98], [99]] : List (List UInt8)).drop 2) = [[99]] from rfl, show (([[97], [98], [99]] : List (List UInt8)).take 2) = [[97], [98]] from rfl, Tree.top_one]
  rw [Tree.top_two (by decide), show ([[97], [98]] : List (List UInt8)).length = 2 from rfl, Tree.half_2]
  rw [show (([[97], [98]] : List (List UInt8)).take 1) = [[97]] from rfl, show (([[97], [98]] : List (List UInt8)).drop 1) = [[98]] from rfl, Tree.top_one, Tree.top_one]

theorem Tree.ex_sides2 : Tree.sides 3 2 = [false] := by
  rw [Tree.sides_right (by decide) (by rw [Tree.half_3]; decide), Tree.half_3, Tree.sides_small (by decide)]
theorem Tree.ex_sides0 : Tree.sides 3 0 = [true, true] := by
  rw [Tree.sides_left (by decide) (by rw [Tree.half_3]; decide), Tree.half_3, Tree.sides_left (by decide) (by rw [Tree.half_2]; decide), Tree.half_2, Tree.sides_small (by decide)]

theorem Tree.num_3 : Wire.num 3 = [3] := Wire.num_small 3 (by decide)

set_option maxRecDepth 100000 in
theorem Tree.ex_apart : (Sha.of (3 :: ([3] ++ Sha.of (1 :: (Sha.of (1 :: (Sha.of [0, 97] ++ Sha.of [0, 98])) ++ Sha.of [0, 100])))) == Sha.of (3 :: ([3] ++ Sha.of (1 :: (Sha.of (1 :: (Sha.of [0, 97] ++ Sha.of [0, 98])) ++ Sha.of [0, 99]))))) = false := by decide +kernel

theorem Tree.ex_check : Tree.check (Tree.root 3 (Tree.top [[97], [98], [99]])) 3 2 [99] (Tree.prove [[97], [98], [99]] 2) = true :=
  Tree.check_prove (L := [[97], [98], [99]]) (i := 2) rfl

theorem Tree.ex_not : Tree.check (Tree.root 3 (Tree.top [[97], [98], [99]])) 3 2 [100] (Tree.prove [[97], [98], [99]] 2) = false := by
  unfold Tree.check
  rw [Tree.ex_sides2, Tree.ex_prove, Tree.ex_top]
  have : ∀ t x : List UInt8, Tree.climb t [false] [x] = Tree.node x t := fun t x => by simp [Tree.climb, Tree.step]
  rw [this]
  have h := Tree.ex_apart
  unfold Tree.root
  rw [Tree.num_3]
  rw [Bool.and_eq_false_iff]
  right
  exact h

/-- At a power of two all proofs are as long. -/
theorem Tree.sides_pow (d : Nat) : ∀ (i : Nat), i < 2 ^ d → (Tree.sides (2 ^ d) i).length = d := by
  induction d with
  | zero => intro i hi; rw [Tree.sides_small (by decide)]; rfl
  | succ d ih =>
    intro i hi
    have hp := Nat.two_pow_pos d
    have h2 : 2 ≤ 2 ^ (d + 1) := by rw [Nat.pow_succ]; omega
    have hh : Tree.half (2 ^ (d + 1)) = 2 ^ d := Tree.half_of (by rw [Nat.pow_succ]; omega) (by rw [Nat.pow_succ]; omega)
    by_cases hl : i < 2 ^ d
    · rw [Tree.sides_left h2 (by rw [hh]; exact hl), hh, List.length_cons, ih i hl]
    · rw [Tree.sides_right h2 (by rw [hh]; exact hl), hh, List.length_cons, show 2 ^ (d + 1) - 2 ^ d = 2 ^ d by rw [Nat.pow_succ]; omega, ih (i - 2 ^ d) (by rw [Nat.pow_succ] at hi; omega)]

theorem Tree.sides_zero {n i : Nat} (hi : i < n) : (Tree.sides n i).length = 0 ↔ n = 1 := by
  by_cases h : 2 ≤ n
  · constructor
    · intro h0
      by_cases hl : i < Tree.half n
      · rw [Tree.sides_left h hl] at h0; simp at h0
      · rw [Tree.sides_right h hl] at h0; simp at h0
    · omega
  · rw [Tree.sides_small h]
    constructor
    · intro _; omega
    · intro _; rfl

end Go.Proofs.YteljlnkjdajkgaaDoor
