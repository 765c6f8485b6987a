/-
  Plain facts on the text of a sum: digits, bytes, order. No program in sight.
-/
import Derived.Lib.Bytealg
import Derived.Lib.Strings
namespace Sha

def digits : List UInt8 := [48, 49, 50, 51, 52, 53, 54, 55, 56, 57, 97, 98, 99, 100, 101, 102]
def digit (n : Nat) : UInt8 := digits.getD n 0
/-- What a digit counts; -1: it is none. -/
def nib (c : UInt8) : Int := if 48 ≤ c.toNat ∧ c.toNat ≤ 57 then (c.toNat : Int) - 48 else if 97 ≤ c.toNat ∧ c.toNat ≤ 102 then (c.toNat : Int) - 87 else -1
def hex2 (x : UInt8) : List UInt8 := [digit (x.toNat / 16), digit (x.toNat % 16)]
def hex (l : List UInt8) : List UInt8 := (l.map hex2).flatten
def unhex : List UInt8 → Option (List UInt8)
  | a :: b :: r => if nib a < 0 ∨ nib b < 0 then none else (unhex r).map fun l => UInt8.ofNat (16 * (nib a).toNat + (nib b).toNat) :: l
  | _ => some []

theorem nib_range (c : UInt8) : -1 ≤ nib c ∧ nib c ≤ 15 := by unfold nib; split <;> (try split) <;> omega
theorem all_bytes (p : UInt8 → Prop) [DecidablePred p] (h : ∀ n, n < 256 → p (UInt8.ofNat n)) (c : UInt8) : p c := by
  have := h c.toNat c.toNat_lt
  rwa [UInt8.ofNat_toNat] at this
theorem nib_index (c : UInt8) : Go.Lib.indexByte digits c = nib c := by
  have : ∀ n, n < 256 → Go.Lib.indexByte digits (UInt8.ofNat n) = nib (UInt8.ofNat n) := by decide +kernel
  exact all_bytes (fun c => Go.Lib.indexByte digits c = nib c) this c
theorem digit_nib : ∀ n, n < 16 → nib (digit n) = n := by decide
theorem nib_digit (c : UInt8) (h : 0 ≤ nib c) : digit (nib c).toNat = c := by
  have : ∀ n, n < 256 → (0 ≤ nib (UInt8.ofNat n) → digit (nib (UInt8.ofNat n)).toNat = UInt8.ofNat n) := by decide +kernel
  exact all_bytes (fun c => 0 ≤ nib c → digit (nib c).toNat = c) this c h

theorem hex_len (l : List UInt8) : (hex l).length = 2 * l.length := by
  unfold hex
  induction l with
  | nil => rfl
  | cons x l ih => simp only [List.map_cons, List.flatten_cons, List.length_append, ih, List.length_cons]; simp [hex2]; omega

theorem unhex_hex (l : List UInt8) : unhex (hex l) = some l := by
  induction l with
  | nil => rfl
  | cons x l ih =>
    have hx := x.toNat_lt
    have e : hex (x :: l) = digit (x.toNat / 16) :: digit (x.toNat % 16) :: hex l := rfl
    rw [e, unhex, digit_nib _ (by omega), digit_nib _ (by omega), if_neg (by omega), ih]
    simp only [Option.map_some, Option.some.injEq, List.cons.injEq, and_true]
    apply UInt8.toNat_inj.1
    rw [UInt8.toNat_ofNat']; omega

theorem hex_unhex : ∀ (n : Nat) (s l : List UInt8), s.length = 2 * n → unhex s = some l → hex l = s ∧ l.length = n := by
  intro n
  induction n with
  | zero =>
    intro s l hs h
    obtain rfl := List.eq_nil_of_length_eq_zero hs
    simp [unhex] at h; subst h; exact ⟨rfl, rfl⟩
  | succ n ih =>
    intro s l hs h
    match s, hs with
    | a :: b :: r, hs =>
      rw [unhex] at h
      split at h
      · cases h
      · rename_i hn
        obtain ⟨l', h1, rfl⟩ := Option.map_eq_some_iff.1 h
        obtain ⟨h2, h3⟩ := ih r l' (by simp at hs; omega) h1
        have ra := nib_range a; have rb := nib_range b
        have ha := nib_digit a (by omega); have hb := nib_digit b (by omega)
        refine ⟨?_, by simp [h3]⟩
        show hex2 _ ++ hex l' = _
        rw [h2]
        unfold hex2
        rw [UInt8.toNat_ofNat', show (16 * (nib a).toNat + (nib b).toNat) % 2 ^ 8 / 16 = (nib a).toNat by omega, show (16 * (nib a).toNat + (nib b).toNat) % 2 ^ 8 % 16 = (nib b).toNat by omega, ha, hb]; rfl
    | [], hs => simp at hs
    | [a], hs => simp at hs; omega

theorem hexAt (l : List UInt8) (k : Nat) (x : UInt8) (h : l[k]? = some x) : (hex l)[2 * k]? = some (digit (x.toNat / 16)) ∧ (hex l)[2 * k + 1]? = some (digit (x.toNat % 16)) := by
  induction l generalizing k with
  | nil => simp at h
  | cons a l ih =>
    have e : hex (a :: l) = digit (a.toNat / 16) :: digit (a.toNat % 16) :: hex l := rfl
    cases k with
    | zero => simp at h; subst h; rw [e]; exact ⟨rfl, rfl⟩
    | succ k =>
      have := ih k (by simpa using h)
      rw [e, show 2 * (k + 1) = 2 * k + 1 + 1 by omega]
      exact this

end Sha
