/- Rows of what is summed up, and two that clash: plain. -/
import Derived.Test.YteljlnkjdajkgaaDoorTreeLaw
namespace Go.Proofs.YteljlnkjdajkgaaDoor
open Go.RowKit
set_option linter.unusedSimpArgs false
set_option linter.unusedVariables false
namespace Tree

/-- One step's row. -/
def rowOf (b : Bool) (s x : List UInt8) : List UInt8 := if b then 1 :: (s ++ x) else 1 :: (x ++ s)

/-- What is summed up on the way, from the top on down. -/
def rowsS : List Bool → List UInt8 → List (List UInt8) → List (List UInt8)
  | [], l, _ => [0 :: l]
  | b :: sd, l, P => rowOf b (Sha.of ((rowsS sd l P.dropLast).headD [])) ((P.getLast?).getD []) :: rowsS sd l P.dropLast

theorem rowsS_len (sd : List Bool) (l : List UInt8) : ∀ P, (rowsS sd l P).length = sd.length + 1 := by
  induction sd with
  | nil => intro P; rfl
  | cons b sd ih => intro P; simp only [rowsS, List.length_cons, ih]

theorem rowsS_snoc (b : Bool) (sd : List Bool) (l x : List UInt8) (P : List (List UInt8)) : rowsS (b :: sd) l (P ++ [x]) = rowOf b (Sha.of ((rowsS sd l P).headD [])) x :: rowsS sd l P := by
  simp only [rowsS, List.dropLast_concat, List.getLast?_concat, Option.getD_some]

theorem snoc_form {α : Type} {P : List α} {n : Nat} (h : P.length = n + 1) : ∃ P' x, P = P' ++ [x] ∧ P'.length = n := by
  have hne : P ≠ [] := by intro e; rw [e] at h; simp at h
  refine ⟨P.dropLast, P.getLast hne, (List.dropLast_concat_getLast hne).symm, by rw [List.length_dropLast, h]; rfl⟩

theorem rows_climb (sd : List Bool) (l : List UInt8) : ∀ P, sd.length = P.length → Sha.of ((rowsS sd l P).headD []) = climb (leaf l) sd P := by
  induction sd with
  | nil => intro P h; obtain rfl := List.eq_nil_of_length_eq_zero h.symm; rfl
  | cons b sd ih =>
    intro P h
    obtain ⟨P', x, rfl, hl⟩ := snoc_form (n := sd.length) (by simpa using h.symm)
    rw [rowsS_snoc, climb_snoc hl.symm, List.headD_cons, ih P' hl.symm]
    unfold rowOf step
    cases b <;> rfl

theorem rows_bound (sd : List Bool) (l : List UInt8) : ∀ P, sd.length = P.length → (∀ p ∈ P, p.length = 32) → l.length ≤ 100000 → ∀ r ∈ rowsS sd l P, r.length ≤ 100001 := by
  induction sd with
  | nil => intro P h _ hl r hr; simp only [rowsS, List.mem_singleton] at hr; subst hr; simp; omega
  | cons b sd ih =>
    intro P h h32 hl r hr
    obtain ⟨P', x, rfl, hl'⟩ := snoc_form (n := sd.length) (by simpa using h.symm)
    rw [rowsS_snoc] at hr
    rcases List.mem_cons.1 hr with rfl | hr
    · have h1 := h32 x (by simp)
      have h2 := Sha.of_len ((rowsS sd l P').headD [])
      unfold rowOf
      split <;> simp only [List.length_cons, List.length_append] <;> omega
    · exact ih P' hl'.symm (fun p hp => h32 p (by simp [hp])) hl r hr

/-- Two rows at one place that aren't the same and have one sum. -/
def Clash (X Y : List (List UInt8)) : Prop := ∃ (k : Nat) (x y : List UInt8), X[k]? = some x ∧ Y[k]? = some y ∧ x ≠ y ∧ Sha.of x = Sha.of y

theorem Clash.cons {X Y : List (List UInt8)} (x y : List UInt8) (h : Clash X Y) : Clash (x :: X) (y :: Y) := by
  obtain ⟨k, a, b, h1, h2, h3, h4⟩ := h
  exact ⟨k + 1, a, b, by simpa using h1, by simpa using h2, h3, h4⟩

theorem clash_rows (sd : List Bool) (a b : List UInt8) (hab : a ≠ b) : ∀ P Q, sd.length = P.length → sd.length = Q.length → Sha.of ((rowsS sd a P).headD []) = Sha.of ((rowsS sd b Q).headD []) → Clash (rowsS sd a P) (rowsS sd b Q) := by
  induction sd with
  | nil =>
    intro P Q _ _ h
    refine ⟨0, 0 :: a, 0 :: b, rfl, rfl, ?_, h⟩
    intro e
    exact hab (List.cons.inj e).2
  | cons s sd ih =>
    intro P Q hP hQ h
    obtain ⟨P', x, rfl, hl⟩ := snoc_form (n := sd.length) (by simpa using hP.symm)
    obtain ⟨Q', y, rfl, hm⟩ := snoc_form (n := sd.length) (by simpa using hQ.symm)
    rw [rowsS_snoc, rowsS_snoc] at h ⊢
    rw [List.headD_cons, List.headD_cons] at h
    by_cases he : rowOf s (Sha.of ((rowsS sd a P').headD [])) x = rowOf s (Sha.of ((rowsS sd b Q').headD [])) y
    · refine Clash.cons _ _ (ih P' Q' hl.symm hm.symm ?_)
      have l1 := Sha.of_len ((rowsS sd a P').headD [])
      have l2 := Sha.of_len ((rowsS sd b Q').headD [])
      unfold rowOf at he
      cases s
      · simp only [Bool.false_eq_true, if_false, List.cons.injEq, true_and] at he
        exact (List.append_inj' he (l1.trans l2.symm)).2
      · simp only [if_true, List.cons.injEq, true_and] at he
        exact (List.append_inj he (l1.trans l2.symm)).1
    · exact ⟨0, _, _, rfl, rfl, he, h⟩

/-- With the root's row ahead. -/
def rowsAll (n : Nat) (X : List (List UInt8)) : List (List UInt8) := (3 :: (Wire.num n ++ Sha.of (X.headD []))) :: X

theorem clash_all (n : Nat) {X Y : List (List UInt8)} (h : root n (Sha.of (X.headD [])) = root n (Sha.of (Y.headD []))) (hc : Sha.of (X.headD []) = Sha.of (Y.headD []) → Clash X Y) : Clash (rowsAll n X) (rowsAll n Y) := by
  by_cases he : (3 :: (Wire.num n ++ Sha.of (X.headD [])) : List UInt8) = 3 :: (Wire.num n ++ Sha.of (Y.headD []))
  · refine Clash.cons _ _ (hc ?_)
    have := (List.cons.inj he).2
    exact List.append_cancel_left this
  · exact ⟨0, _, _, rfl, rfl, he, h⟩

/-- Two leaves at one place of one root. -/
theorem clash_found {want : List UInt8} {n i : Nat} {a b : List UInt8} {P Q : List (List UInt8)} (h1 : check want n i a P = true) (h2 : check want n i b Q = true) (hab : a ≠ b) :
    (sides n i).length = P.length ∧ (sides n i).length = Q.length ∧ Clash (rowsAll n (rowsS (sides n i) a P)) (rowsAll n (rowsS (sides n i) b Q)) := by
  unfold check at h1 h2
  rw [Bool.and_eq_true] at h1 h2
  have l1 := of_decide_eq_true h1.1
  have l2 := of_decide_eq_true h2.1
  have r1 := beq_iff_eq.1 h1.2
  have r2 := beq_iff_eq.1 h2.2
  refine ⟨l1, l2, clash_all n ?_ fun h => clash_rows _ a b hab P Q l1 l2 h⟩
  rw [rows_climb _ a P l1, rows_climb _ b Q l2, r1, r2]

end Tree
end Go.Proofs.YteljlnkjdajkgaaDoor
