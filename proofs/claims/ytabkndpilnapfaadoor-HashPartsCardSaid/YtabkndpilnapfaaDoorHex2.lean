/-
  Plain facts on how hash.Read builds a sum, digit by digit. No program in sight.
-/
import Derived.Test.YtabkndpilnapfaaDoorHex
namespace Sha

/-- The sum behind the first t digits. -/
def accN (s : List UInt8) : Nat → List UInt8
  | 0 => List.replicate 32 0
  | t + 1 => (accN s t).set (t / 2) (UInt8.ofNat (((accN s t).getD (t / 2) 0).toNat * 16 % 256 + (nib (s.getD t 0)).toNat))

theorem accN_len (s : List UInt8) (t : Nat) : (accN s t).length = 32 := by
  induction t with
  | zero => rfl
  | succ t ih => rw [accN, List.length_set, ih]

/-- What Go's shift and or come to. -/
theorem or_shift : ∀ x, x < 256 → ∀ n, n < 16 → (x * 16 % 256) ||| n = x * 16 % 256 + n := by decide +kernel

theorem acc_pairs : ∀ (n : Nat) (s l : List UInt8), s.length = 2 * n → n ≤ 32 → unhex s = some l → ∀ k, k ≤ n → accN s (2 * k) = l.take k ++ List.replicate (32 - k) 0 := by
  intro n s l hs hn hu k
  have hl := (hex_unhex n s l hs hu)
  induction k with
  | zero => intro _; simp [accN]
  | succ k ih =>
    intro hk
    have h0 := ih (by omega)
    have hx : l[k]? = some (l[k]'(by omega)) := List.getElem?_eq_getElem (by omega)
    obtain ⟨x, hx'⟩ : ∃ x, l[k]? = some x := ⟨_, hx⟩
    have hpair := hexAt l k x hx'
    rw [hl.1] at hpair
    obtain ⟨p0, p1⟩ := hpair
    have hxl := x.toNat_lt
    have n0 : nib (s.getD (2 * k) 0) = ((x.toNat / 16 : Nat) : Int) := by rw [List.getD_eq_getElem?_getD, p0]; exact digit_nib _ (by omega)
    have n1 : nib (s.getD (2 * k + 1) 0) = ((x.toNat % 16 : Nat) : Int) := by rw [List.getD_eq_getElem?_getD, p1]; exact digit_nib _ (by omega)
    have htk : (l.take k).length = k := by rw [List.length_take]; omega
    have er : List.replicate (32 - k) (0 : UInt8) = 0 :: List.replicate (32 - (k + 1)) 0 := by rw [← List.replicate_succ]; congr 1; omega
    have e1 : accN s (2 * k + 1) = l.take k ++ UInt8.ofNat (x.toNat / 16) :: List.replicate (32 - (k + 1)) 0 := by
      rw [accN, h0, show 2 * k / 2 = k by omega, n0, er, Int.toNat_natCast]
      rw [List.set_append_right _ _ (by omega), htk, Nat.sub_self, List.set_cons_zero]
      rw [List.getD_eq_getElem?_getD, List.getElem?_append_right (by omega), htk, Nat.sub_self]
      simp
    rw [show 2 * (k + 1) = 2 * k + 1 + 1 by omega, accN, e1, show (2 * k + 1) / 2 = k by omega, n1, Int.toNat_natCast]
    rw [List.set_append_right _ _ (by omega), htk, Nat.sub_self, List.set_cons_zero]
    rw [List.getD_eq_getElem?_getD, List.getElem?_append_right (by omega), htk, Nat.sub_self]
    rw [List.take_add_one, hx', List.append_assoc]
    congr 1
    simp only [List.getElem?_cons_zero, Option.getD_some, Option.toList_some, List.singleton_append, List.cons.injEq, and_true]
    apply UInt8.toNat_inj.1
    rw [UInt8.toNat_ofNat', UInt8.toNat_ofNat']
    omega

theorem acc_all (s l : List UInt8) (hs : s.length = 64) (hu : unhex s = some l) : accN s 64 = l := by
  have h := acc_pairs 32 s l (by omega) (Nat.le_refl _) hu 32 (Nat.le_refl _)
  have hl := (hex_unhex 32 s l (by omega) hu).2
  rw [show 2 * 32 = 64 from rfl, List.take_of_length_le (by omega)] at h
  simpa using h

/-- Is each of the first t a digit? -/
theorem unhex_some : ∀ (n : Nat) (s : List UInt8), s.length = 2 * n → (∀ j, j < 2 * n → 0 ≤ nib (s.getD j 0)) → ∃ l, unhex s = some l := by
  intro n
  induction n with
  | zero => intro s hs _; obtain rfl := List.eq_nil_of_length_eq_zero hs; exact ⟨[], rfl⟩
  | succ n ih =>
    intro s hs h
    match s, hs with
    | a :: b :: r, hs =>
      obtain ⟨l, hl⟩ := ih r (by simp at hs; omega) (fun j hj => by have := h (j + 2) (by omega); simpa using this)
      have h0 := h 0 (by omega)
      have h1 := h 1 (by omega)
      simp at h0 h1
      rw [unhex, if_neg (by omega), hl]
      exact ⟨_, rfl⟩
    | [], hs => simp at hs
    | [a], hs => simp at hs; omega

theorem unhex_none : ∀ (s : List UInt8) (j : Nat), j < s.length → s.length % 2 = 0 → nib (s.getD j 0) < 0 → unhex s = none := by
  intro s
  induction s using unhex.induct with
  | case1 a b r h => intro j _ _ _; rw [unhex, if_pos h]
  | case2 a b r h ih =>
    intro j hj hm hn
    rw [unhex, if_neg h]
    match j with
    | 0 => simp at hn; omega
    | 1 => simp at hn; omega
    | j + 2 => rw [ih j (by simp at hj; omega) (by simp at hm; omega) (by simpa using hn)]; rfl
  | case3 s h1 =>
    intro j hj hm _
    match s, h1, hj, hm with
    | [], _, hj, _ => simp at hj
    | [a], _, _, hm => simp at hm
    | a :: b :: r, h1, _, _ => exact absurd rfl (h1 a b r)

end Sha
