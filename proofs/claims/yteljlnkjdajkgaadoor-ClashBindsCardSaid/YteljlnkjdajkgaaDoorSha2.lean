/-
  Plain facts on the sum of bytes: block by block, word by word, round by round. No program in sight.
-/
import Derived.Test.YteljlnkjdajkgaaDoorSha
namespace Sha
set_option linter.unusedVariables false
set_option linter.unusedSimpArgs false

/-- j blocks taken. -/
def after : Nat → List Nat → List UInt8 → List Nat
  | 0, h, _ => h
  | j + 1, h, l => step (after j h l) ((l.drop (64 * j)).take 64)

theorem run_after (n : Nat) : ∀ (j : Nat) (h : List Nat) (l : List UInt8), run n (after j h l) (l.drop (64 * j)) = after (j + n) h l := by
  induction n with
  | zero => intro j h l; rfl
  | succ n ih =>
    intro j h l
    show run n (step (after j h l) ((l.drop (64 * j)).take 64)) ((l.drop (64 * j)).drop 64) = _
    rw [List.drop_drop, show 64 * j + 64 = 64 * (j + 1) by omega]
    have := ih (j + 1) h l
    rw [show j + 1 + n = j + (n + 1) by omega] at this
    exact this

theorem run_eq (n : Nat) (h : List Nat) (l : List UInt8) : run n h l = after n h l := by
  have := run_after n 0 h l
  rw [Nat.zero_add] at this
  exact this

theorem list8 {α : Type} (v : List α) (h : v.length = 8) : ∃ a b c d e f g k, v = [a, b, c, d, e, f, g, k] := by
  match v, h with
  | [a, b, c, d, e, f, g, k], _ => exact ⟨a, b, c, d, e, f, g, k, rfl⟩

theorem round_len (kw : Nat) (v : List Nat) (h : v.length = 8) : (round kw v).length = 8 := by
  obtain ⟨a, b, c, d, e, f, g, k, rfl⟩ := list8 v h; rfl
theorem rounds_len (w h : List Nat) (t : Nat) (hl : h.length = 8) : (rounds w h t).length = 8 := by
  induction t with
  | zero => exact hl
  | succ t ih => exact round_len _ _ ih
theorem M_pos : 0 < M := by decide
theorem round_lt (kw : Nat) (v : List Nat) (h : v.length = 8) (hv : ∀ x ∈ v, x < M) : ∀ x ∈ round kw v, x < M := by
  obtain ⟨a, b, c, d, e, f, g, k, rfl⟩ := list8 v h
  simp only [List.mem_cons, List.not_mem_nil, or_false, forall_eq_or_imp, forall_eq] at hv
  intro x hx
  simp only [round, List.mem_cons, List.not_mem_nil, or_false] at hx
  rcases hx with rfl | rfl | rfl | rfl | rfl | rfl | rfl | rfl
  · exact Nat.mod_lt _ M_pos
  · exact hv.1
  · exact hv.2.1
  · exact hv.2.2.1
  · exact Nat.mod_lt _ M_pos
  · exact hv.2.2.2.2.1
  · exact hv.2.2.2.2.2.1
  · exact hv.2.2.2.2.2.2.1
theorem rounds_lt (w h : List Nat) (t : Nat) (hl : h.length = 8) (hh : ∀ x ∈ h, x < M) : ∀ x ∈ rounds w h t, x < M := by
  induction t with
  | zero => exact hh
  | succ t ih => exact round_lt _ _ (rounds_len _ _ _ hl) ih
theorem step_len (h : List Nat) (p : List UInt8) (hl : h.length = 8) : (step h p).length = 8 := by
  unfold step
  rw [List.length_zipWith, hl, rounds_len _ _ _ hl]; rfl
theorem step_lt (h : List Nat) (p : List UInt8) : ∀ x ∈ step h p, x < M := by
  intro x hx
  unfold step at hx
  rw [List.mem_iff_getElem?] at hx
  obtain ⟨i, hi⟩ := hx
  rw [List.getElem?_zipWith] at hi
  split at hi
  · cases hi; exact Nat.mod_lt _ M_pos
  · cases hi
theorem after_len (j : Nat) (h : List Nat) (l : List UInt8) (hl : h.length = 8) : (after j h l).length = 8 := by
  induction j with
  | zero => exact hl
  | succ j ih => exact step_len _ _ ih
theorem after_lt (j : Nat) (h : List Nat) (l : List UInt8) (hh : ∀ x ∈ h, x < M) : ∀ x ∈ after j h l, x < M := by
  cases j with
  | zero => exact hh
  | succ j => exact step_lt _ _

theorem H0_len : H0.length = 8 := rfl
theorem H0_lt : ∀ x ∈ H0, x < M := by decide
theorem K_len : K.length = 64 := rfl
theorem K_lt : ∀ x ∈ K, x < M := by decide

/-- The first t words of a block's rounds. -/
def wAt (p : List UInt8) (t : Nat) : List Nat := if t ≤ 16 then words p t else grow (t - 16) (words p 16)

theorem wAt_len (p : List UInt8) (t : Nat) : (wAt p t).length = t := by
  unfold wAt; split
  · exact words_len _ _
  · rw [grow_len, words_len]; omega
theorem wAt_lt (p : List UInt8) (t : Nat) : ∀ x ∈ wAt p t, x < M := by
  unfold wAt; split
  · exact words_lt _ _
  · exact grow_lt _ _ (words_lt _ _)
theorem wAt_word (p : List UInt8) (t : Nat) (h : t < 16) : wAt p (t + 1) = wAt p t ++ [word (p.drop (4 * t))] := by
  unfold wAt
  rw [if_pos (by omega), if_pos (by omega)]
  unfold words
  rw [List.range_succ, List.map_append]; rfl
theorem wAt_next (p : List UInt8) (t : Nat) (h : 16 ≤ t) : wAt p (t + 1) = wAt p t ++ [next (wAt p t)] := by
  have e : wAt p t = grow (t - 16) (words p 16) := by
    unfold wAt
    split
    · obtain rfl : t = 16 := by omega
      rfl
    · rfl
  rw [e]
  unfold wAt
  rw [if_neg (by omega), show t + 1 - 16 = (t - 16) + 1 by omega]; rfl
theorem wAt_all (p : List UInt8) : wAt p 64 = sched p := rfl

theorem xor3_lt (a b c : Nat) (ha : a < 4294967296) (hb : b < 4294967296) (hc : c < 4294967296) : a ^^^ b ^^^ c < 4294967296 := by
  have h1 : a ^^^ b < 2 ^ 32 := Nat.xor_lt_two_pow ha hb
  exact Nat.xor_lt_two_pow (n := 32) h1 hc
theorem S0_lt (x : Nat) (hx : x < M) : S0 x < M := xor3_lt _ _ _ (rot_lt 2 x (by decide) hx) (rot_lt 13 x (by decide) hx) (rot_lt 22 x (by decide) hx)
theorem S1_lt (x : Nat) (hx : x < M) : S1 x < M := xor3_lt _ _ _ (rot_lt 6 x (by decide) hx) (rot_lt 11 x (by decide) hx) (rot_lt 25 x (by decide) hx)
theorem ch_lt (e f g : Nat) (he : e < M) (hf : f < M) (hg : g < M) : ch e f g < M := by
  have h1 : f ^^^ g < 2 ^ 32 := Nat.xor_lt_two_pow hf hg
  have h2 : e &&& (f ^^^ g) < 2 ^ 32 := Nat.and_lt_two_pow _ h1
  exact Nat.xor_lt_two_pow (n := 32) hg h2
theorem mj_lt (a b c : Nat) (ha : a < M) (hb : b < M) (hc : c < M) : mj a b c < M := by
  have h1 : a &&& b < 2 ^ 32 := Nat.and_lt_two_pow _ hb
  have h2 : a ||| b < 2 ^ 32 := Nat.or_lt_two_pow ha hb
  have h3 : c &&& (a ||| b) < 2 ^ 32 := Nat.and_lt_two_pow _ h2
  exact Nat.or_lt_two_pow (n := 32) h1 h3

/-- The first t sums of two rows, and what is left of the first. -/
def addTo (h v : List Nat) (t : Nat) : List Nat := List.zipWith (fun a b => (a + b) % M) (h.take t) (v.take t) ++ h.drop t
theorem addTo_zero (h v : List Nat) : addTo h v 0 = h := by simp [addTo]
theorem addTo_all (h v : List Nat) (n : Nat) (h1 : h.length = n) (h2 : v.length = n) : addTo h v n = List.zipWith (fun a b => (a + b) % M) h v := by
  subst h1
  unfold addTo
  rw [List.take_length, List.drop_length, ← h2, List.take_length, List.append_nil]
theorem addTo_get (h v : List Nat) (t a b : Nat) (ha : h[t]? = some a) (hb : v[t]? = some b) : (addTo h v t)[t]? = some a ∧ (addTo h v t).set t ((a + b) % M) = addTo h v (t + 1) := by
  obtain ⟨l1, e1⟩ := List.getElem?_eq_some_iff.1 ha
  obtain ⟨l2, e2⟩ := List.getElem?_eq_some_iff.1 hb
  have hz : (List.zipWith (fun a b => (a + b) % M) (h.take t) (v.take t)).length = t := by
    rw [List.length_zipWith, List.length_take, List.length_take]; omega
  have hd : h.drop t = a :: h.drop (t + 1) := by rw [List.drop_eq_getElem_cons l1, e1]
  unfold addTo
  constructor
  · rw [List.getElem?_append_right (by omega), hz, Nat.sub_self, hd]; rfl
  · rw [List.set_append_right _ _ (by omega), hz, Nat.sub_self, hd, List.set_cons_zero]
    rw [List.take_succ_eq_append_getElem l1, List.take_succ_eq_append_getElem l2, e1, e2, List.zipWith_append (by rw [List.length_take, List.length_take]; omega)]
    simp

theorem be_len (n x : Nat) : (be n x).length = n := by simp [be]
theorem flat_len {α : Type} (f : α → List UInt8) (k : Nat) (h : ∀ a, (f a).length = k) : ∀ l : List α, ((l.map f).flatten).length = l.length * k := by
  intro l
  induction l with
  | nil => simp
  | cons a l ih => simp only [List.map_cons, List.flatten_cons, List.length_append, ih, h, List.length_cons]; rw [Nat.add_mul]; omega
theorem of_len (l : List UInt8) : (of l).length = 32 := by
  unfold of
  rw [flat_len (be 4) 4 (fun x => be_len 4 x), run_eq, after_len _ _ _ H0_len]
theorem of_eq (l : List UInt8) : of l = ((after ((pad l).length / 64) H0 (pad l)).map (be 4)).flatten := by unfold of; rw [run_eq]

end Sha
