/- The walk of the laws ClashFinds, ClashSame. -/
import Derived.Test.YteljlnkjdajkgaaDoorLawClashA
namespace Go.Proofs.YteljlnkjdajkgaaDoor
open Go.RowKit
set_option linter.unusedSimpArgs false
set_option linter.unusedVariables false

theorem findR_facts {n i : Int} {a b : List UInt8} {P Q : List (List UInt8)} (ha : a.length ≤ 100000) (hb : b.length ≤ 100000) (hP : ∀ p ∈ P, p.length = 32) (hQ : ∀ p ∈ Q, p.length = 32) :
    isC (findR n i a P b Q).1 (findR n i a P b Q).2.1 = (findR n i a P b Q).2.2 ∧ (findR n i a P b Q).1.length ≤ 100001 ∧ (findR n i a P b Q).2.1.length ≤ 100001 := by
  unfold findR
  by_cases h : ((rowsR n i a P).2 && (rowsR n i b Q).2) = true
  · rw [if_pos h]
    rw [Bool.and_eq_true] at h
    obtain ⟨_, _, _, _, _, _, _, _, _, _, hX⟩ := rowsR_facts ha hP h.1
    obtain ⟨_, _, _, _, _, _, _, _, _, _, hY⟩ := rowsR_facts hb hQ h.2
    obtain ⟨h1, h2⟩ := findC_spec (rowsR n i a P).1 (rowsR n i b Q).1
    rcases hf : (findC (rowsR n i a P).1 (rowsR n i b Q).1).2.2 with _ | _
    · obtain ⟨e1, e2⟩ := h2 hf
      rw [e1, e2]
      exact ⟨by rw [isC_self], by simp, by simp⟩
    · obtain ⟨e1, e2, e3⟩ := h1 hf
      exact ⟨e1, hX _ e2, hY _ e3⟩
  · rw [if_neg h]
    exact ⟨isC_self _, by simp, by simp⟩

set_option maxRecDepth 100000 in
set_option maxHeartbeats 4000000 in
theorem finds_list (w : World) (n : Int) (hn : (Lit.int .i64 n).wf = true) (i : Int) (hi : (Lit.int .i64 i).wf = true) (a : List UInt8) (ha : a.length ≤ 140737488351232) (b : List UInt8) (hb : b.length ≤ 140737488351232) (oP : Option Addr) (mP cP : Nat) (P : List (List UInt8)) (hP : HashesAt w oP mP cP P) (oQ : Option Addr) (mQ cQ : Nat) (Q : List (List UInt8)) (hQ : HashesAt w oQ mQ cQ Q) (hL : Laid w) :
    Calls Tryd.prog 4 #[.int .i64 n, .int .i64 i, .string (strOf a), .string (strOf b), .slice oP mP cP, .slice oQ mQ cQ] w fun e w' => e = .returned (.bool true) ∧ Below w.heap.size w w' := by
  have hsta := strOf_size a
  have hstb := strOf_size b
  have hmP : P.length = mP := hP.1.1
  have hcP : mP ≤ cP := hP.1.2.1
  have hxP : cP ≤ 9223372036854775807 := hP.1.2.2.1
  have HP := Lib.hid hP; clear hP
  have hmQ : Q.length = mQ := hQ.1.1
  have hcQ : mQ ≤ cQ := hQ.1.2.1
  have hxQ : cQ ≤ 9223372036854775807 := hQ.1.2.2.1
  have HQ := Lib.hid hQ; clear hQ
  have HL := Lib.hid hL; clear hL
  go_enter Tryd.func4, Tryd.ntmps4
  go_wp2_with fail
  refine (awake_any _ HL.out).mono ?_
  rintro e w1 ⟨rfl, b1⟩
  replace HP := Lib.hid (HP.out.below (Nat.le_refl _) b1)
  replace HQ := Lib.hid (HQ.out.below (Nat.le_refl _) b1)
  replace HL := Lib.hid (HL.out.below b1)
  by_cases hg : 200 < a.length
  · have ht : decide ((200 : Int) < (a.length : Int)) = true := decide_eq_true (by omega)
    go_wp2_with fail
    refine (awake_any _ HL.out).mono ?_
    rintro e w2 ⟨rfl, b2⟩
    go_wp2_with fail
    go_ret
    exact ⟨rfl, b1.trans (b2.mono b1.size)⟩
  · have ht : decide ((200 : Int) < (a.length : Int)) = false := decide_eq_false (by omega)
    by_cases hg : 200 < b.length
    · have ht : decide ((200 : Int) < (b.length : Int)) = true := decide_eq_true (by omega)
      go_wp2_with fail
      refine (awake_any _ HL.out).mono ?_
      rintro e w2 ⟨rfl, b2⟩
      go_wp2_with fail
      go_ret
      exact ⟨rfl, b1.trans (b2.mono b1.size)⟩
    · have ht : decide ((200 : Int) < (b.length : Int)) = false := decide_eq_false (by omega)
      by_cases hg : 40 < mP
      · have ht : decide ((40 : Int) < (mP : Int)) = true := decide_eq_true (by omega)
        go_wp2_with fail
        refine (awake_any _ HL.out).mono ?_
        rintro e w2 ⟨rfl, b2⟩
        go_wp2_with fail
        go_ret
        exact ⟨rfl, b1.trans (b2.mono b1.size)⟩
      · have ht : decide ((40 : Int) < (mP : Int)) = false := decide_eq_false (by omega)
        by_cases hg : 40 < mQ
        · have ht : decide ((40 : Int) < (mQ : Int)) = true := decide_eq_true (by omega)
          go_wp2_with fail
          refine (awake_any _ HL.out).mono ?_
          rintro e w2 ⟨rfl, b2⟩
          go_wp2_with fail
          go_ret
          exact ⟨rfl, b1.trans (b2.mono b1.size)⟩
        · have ht : decide ((40 : Int) < (mQ : Int)) = false := decide_eq_false (by omega)
          obtain ⟨q2, c2, v2, hrun, hs, dd⟩ := HashesAt.copy (HP.out.below (Nat.le_refl _) ((Below.refl w1.heap.size w1).alloc (Nat.le_refl _) (.cells #[] 39))) (by omega) ⟨w1.heap.size, 0, none⟩
          have d2 : Below w1.heap.size w1 v2 := ((Below.refl _ _).alloc (Nat.le_refl _) _).trans (dd.mono (by simp))
          have hrun2 := hrun; clear hrun dd
          have C2 := Lib.hid hs; clear hs
          replace HP := Lib.hid (HP.out.below (Nat.le_refl _) d2)
          replace HQ := Lib.hid (HQ.out.below (Nat.le_refl _) d2)
          replace HL := Lib.hid (HL.out.below d2)
          replace b1 := b1.trans (d2.mono b1.size)
          obtain ⟨q3, c3, v3, hrun, hs, dd⟩ := HashesAt.copy (HQ.out.below (Nat.le_refl _) ((Below.refl v2.heap.size v2).alloc (Nat.le_refl _) (.cells #[] 39))) (by omega) ⟨v2.heap.size, 0, none⟩
          have d3 : Below v2.heap.size v2 v3 := ((Below.refl _ _).alloc (Nat.le_refl _) _).trans (dd.mono (by simp))
          have hrun3 := hrun; clear hrun dd
          have C3 := Lib.hid hs; clear hs
          replace HP := Lib.hid (HP.out.below (Nat.le_refl _) d3)
          replace HQ := Lib.hid (HQ.out.below (Nat.le_refl _) d3)
          replace HL := Lib.hid (HL.out.below d3)
          replace C2 := Lib.hid (C2.out.below (Nat.le_refl _) d3)
          replace b1 := b1.trans (d3.mono b1.size)
          obtain ⟨F, hF⟩ : ∃ F, F = findR n i a P b Q := ⟨_, rfl⟩
          have hff := findR_facts (n := n) (i := i) (a := a) (b := b) (P := P) (Q := Q) (by omega) (by omega) HP.out.2 HQ.out.2
          have hfa := clashFind_any v3 n i a b (by omega) (by omega) _ _ _ _ _ _ P Q C2.out C3.out HL.out
          have hfb := fun (w3 : World) (b3 : Below v3.heap.size v3 w3) => refFind_any w3 n i a b (by omega) (by omega) _ _ _ _ _ _ P Q (HP.out.below (Nat.le_refl _) b3) (HQ.out.below (Nat.le_refl _) b3)
          rw [← hF] at hfa hff
          simp only [← hF] at hfb
          clear hF
          obtain ⟨x, y, is⟩ := F
          simp only at hfa hfb hff
          obtain ⟨hxy, hxl, hyl⟩ := hff
          have HFA := Lib.hid hfa; clear hfa
          have HFB := Lib.hid hfb; clear hfb
          go_wp2_with (first | ((with_reducible show wpList _ _ _ (⟨some 48, _, _, _, _, _⟩ :: _) _ _); refine wpList_append_ran (by kernel_rfl) _ _ _ rfl _ _ rfl rfl hrun2 ?_) | ((with_reducible show wpList _ _ _ (⟨some 52, _, _, _, _, _⟩ :: _) _ _); refine wpList_append_ran (by kernel_rfl) _ _ _ rfl _ _ rfl rfl hrun3 ?_))
          refine HFA.out.mono ?_
          rintro e w4 ⟨rfl, b4⟩
          have hb := HFB.out w4 b4
          have HFB1 := Lib.hid hb; clear hb HFA HFB
          replace b1 := b1.trans (b4.mono b1.size)
          replace HL := Lib.hid (HL.out.below b4)
          go_wp2_with fail
          refine HFB1.out.mono ?_
          rintro e w5 ⟨rfl, b5⟩
          replace b1 := b1.trans (b5.mono b1.size)
          replace HL := Lib.hid (HL.out.below b5)
          have his := clashIs_any w5 x y (by omega) (by omega) HL.out
          rw [hxy] at his
          have HIS := Lib.hid his; clear his hxy HFB1 C2 C3 hrun2 hrun3 d2 d3 b4 b5
          by_cases hab : a = b
          · have hne : ((strOf a).toList == (strOf b).toList) = true := by rw [hab]; simp
            have hr : isC a b = false := by rw [hab]; exact isC_self b
            have HAB := Lib.hid hr; clear hr hab
            go_wp2_with fail
            refine HIS.out.mono ?_
            rintro e w6 ⟨rfl, b6⟩
            replace b1 := b1.trans (b6.mono b1.size)
            replace HL := Lib.hid (HL.out.below b6)
            have his := clashIs_any w6 a b (by omega) (by omega) HL.out
            rw [HAB.out] at his
            have HIS2 := Lib.hid his; clear his
            go_wp2_with fail
            refine HIS2.out.mono ?_
            rintro e w7 ⟨rfl, b7⟩
            replace b1 := b1.trans (b7.mono b1.size)
            clear HIS HIS2
            go_wp2_with fail
            go_ret
            exact ⟨rfl, b1⟩
          · have hne : ((strOf a).toList == (strOf b).toList) = false := by rw [strOf_toList, strOf_toList, beq_eq_false_iff_ne]; exact hab
            have hr : isC a b = (Sha.of a == Sha.of b) := by unfold isC; rw [beq_eq_false_iff_ne.2 hab]; simp
            clear hab
            by_cases hse : Sha.of a = Sha.of b
            · have hs2 : ((strOf (Sha.of a)).toList == (strOf (Sha.of b)).toList) = true := by rw [hse]; simp
              rw [hse, beq_self_eq_true] at hr
              have HAB := Lib.hid hr; clear hr hse
              go_wp2_with fail
              refine HIS.out.mono ?_
              rintro e w6 ⟨rfl, b6⟩
              replace b1 := b1.trans (b6.mono b1.size)
              replace HL := Lib.hid (HL.out.below b6)
              have his := clashIs_any w6 a b (by omega) (by omega) HL.out
              rw [HAB.out] at his
              have HIS2 := Lib.hid his; clear his
              go_wp2_with fail
              refine HIS2.out.mono ?_
              rintro e w7 ⟨rfl, b7⟩
              replace b1 := b1.trans (b7.mono b1.size)
              clear HIS HIS2
              have HO := Lib.hid (refOf_any w7 a (by omega))
              go_wp2_with fail
              refine HO.out.mono ?_
              rintro e w8 ⟨rfl, b8⟩
              replace b1 := b1.trans (b8.mono b1.size)
              have HO2 := Lib.hid (refOf_any w8 b (by omega))
              clear HO
              go_wp2_with fail
              refine HO2.out.mono ?_
              rintro e w9 ⟨rfl, b9⟩
              replace b1 := b1.trans (b9.mono b1.size)
              clear HO2
              go_wp2_with fail
              go_ret
              exact ⟨rfl, b1⟩
            · have hs2 : ((strOf (Sha.of a)).toList == (strOf (Sha.of b)).toList) = false := by rw [strOf_toList, strOf_toList, beq_eq_false_iff_ne]; exact hse
              rw [beq_eq_false_iff_ne.2 hse] at hr
              have HAB := Lib.hid hr; clear hr hse
              go_wp2_with fail
              refine HIS.out.mono ?_
              rintro e w6 ⟨rfl, b6⟩
              replace b1 := b1.trans (b6.mono b1.size)
              replace HL := Lib.hid (HL.out.below b6)
              have his := clashIs_any w6 a b (by omega) (by omega) HL.out
              rw [HAB.out] at his
              have HIS2 := Lib.hid his; clear his
              go_wp2_with fail
              refine HIS2.out.mono ?_
              rintro e w7 ⟨rfl, b7⟩
              replace b1 := b1.trans (b7.mono b1.size)
              clear HIS HIS2
              have HO := Lib.hid (refOf_any w7 a (by omega))
              go_wp2_with fail
              refine HO.out.mono ?_
              rintro e w8 ⟨rfl, b8⟩
              replace b1 := b1.trans (b8.mono b1.size)
              have HO2 := Lib.hid (refOf_any w8 b (by omega))
              clear HO
              go_wp2_with fail
              refine HO2.out.mono ?_
              rintro e w9 ⟨rfl, b9⟩
              replace b1 := b1.trans (b9.mono b1.size)
              clear HO2
              go_wp2_with fail
              go_ret
              exact ⟨rfl, b1⟩

theorem finds_law (w : World) (n : Int) (hn : (Lit.int .i64 n).wf = true) (i : Int) (hi : (Lit.int .i64 i).wf = true) (a : ByteArray) (ha : a.size ≤ 140737488351232) (b : ByteArray) (hb : b.size ≤ 140737488351232) (oP : Option Addr) (mP cP : Nat) (P : List (List UInt8)) (hP : RowsAt w oP mP cP 32 byteCells P) (h32P : ∀ p ∈ P, p.length = 32) (oQ : Option Addr) (mQ cQ : Nat) (Q : List (List UInt8)) (hQ : RowsAt w oQ mQ cQ 32 byteCells Q) (h32Q : ∀ p ∈ Q, p.length = 32) (hL : Laid w) :
    Calls Tryd.prog 4 #[.int .i64 n, .int .i64 i, .string a, .string b, .slice oP mP cP, .slice oQ mQ cQ] w fun e w' => e = .returned (.bool true) ∧ Below w.heap.size w w' := by
  have h := finds_list w n hn i hi a.data.toList (by rw [← strOf_size, strOf_data]; exact ha) b.data.toList (by rw [← strOf_size, strOf_data]; exact hb) oP mP cP P ⟨hP, h32P⟩ oQ mQ cQ Q ⟨hQ, h32Q⟩ hL
  rwa [strOf_data, strOf_data] at h

set_option maxRecDepth 100000 in
set_option maxHeartbeats 4000000 in
theorem same_list (w : World) (n : Int) (hn : (Lit.int .i64 n).wf = true) (i : Int) (hi : (Lit.int .i64 i).wf = true) (l : List UInt8) (hl : l.length ≤ 140737488351232) (oP : Option Addr) (mP cP : Nat) (P : List (List UInt8)) (hP : HashesAt w oP mP cP P) (hL : Laid w) :
    Calls Tryd.prog 5 #[.int .i64 n, .int .i64 i, .string (strOf l), .slice oP mP cP] w fun e w' => e = .returned (.bool true) ∧ Below w.heap.size w w' := by
  have hstl := strOf_size l
  have hmP : P.length = mP := hP.1.1
  have hcP : mP ≤ cP := hP.1.2.1
  have hxP : cP ≤ 9223372036854775807 := hP.1.2.2.1
  have HP := Lib.hid hP; clear hP
  have HL := Lib.hid hL; clear hL
  go_enter Tryd.func5, Tryd.ntmps5
  go_wp2_with fail
  refine (awake_any _ HL.out).mono ?_
  rintro e w1 ⟨rfl, b1⟩
  replace HP := Lib.hid (HP.out.below (Nat.le_refl _) b1)
  replace HL := Lib.hid (HL.out.below b1)
  by_cases hg : 200 < l.length
  · have ht : decide ((200 : Int) < (l.length : Int)) = true := decide_eq_true (by omega)
    go_wp2_with fail
    refine (awake_any _ HL.out).mono ?_
    rintro e w2 ⟨rfl, b2⟩
    go_wp2_with fail
    go_ret
    exact ⟨rfl, b1.trans (b2.mono b1.size)⟩
  · have ht : decide ((200 : Int) < (l.length : Int)) = false := decide_eq_false (by omega)
    by_cases hg : 40 < mP
    · have ht : decide ((40 : Int) < (mP : Int)) = true := decide_eq_true (by omega)
      go_wp2_with fail
      refine (awake_any _ HL.out).mono ?_
      rintro e w2 ⟨rfl, b2⟩
      go_wp2_with fail
      go_ret
      exact ⟨rfl, b1.trans (b2.mono b1.size)⟩
    · have ht : decide ((40 : Int) < (mP : Int)) = false := decide_eq_false (by omega)
      obtain ⟨q2, c2, v2, hrun, hs, dd⟩ := HashesAt.copy (HP.out.below (Nat.le_refl _) ((Below.refl w1.heap.size w1).alloc (Nat.le_refl _) (.cells #[] 39))) (by omega) ⟨w1.heap.size, 0, none⟩
      have d2 : Below w1.heap.size w1 v2 := ((Below.refl _ _).alloc (Nat.le_refl _) _).trans (dd.mono (by simp))
      have hrun2 := hrun; clear hrun dd
      have C2 := Lib.hid hs; clear hs
      replace HP := Lib.hid (HP.out.below (Nat.le_refl _) d2)
      replace HL := Lib.hid (HL.out.below d2)
      replace b1 := b1.trans (d2.mono b1.size)
      obtain ⟨q3, c3, v3, hrun, hs, dd⟩ := HashesAt.copy (HP.out.below (Nat.le_refl _) ((Below.refl v2.heap.size v2).alloc (Nat.le_refl _) (.cells #[] 39))) (by omega) ⟨v2.heap.size, 0, none⟩
      have d3 : Below v2.heap.size v2 v3 := ((Below.refl _ _).alloc (Nat.le_refl _) _).trans (dd.mono (by simp))
      have hrun3 := hrun; clear hrun dd
      have C3 := Lib.hid hs; clear hs
      replace HP := Lib.hid (HP.out.below (Nat.le_refl _) d3)
      replace HL := Lib.hid (HL.out.below d3)
      replace C2 := Lib.hid (C2.out.below (Nat.le_refl _) d3)
      replace b1 := b1.trans (d3.mono b1.size)
      have hfa := clashFind_any v3 n i l l (by omega) (by omega) _ _ _ _ _ _ P P C2.out C3.out HL.out
      have hf0 : findR n i l P l P = ([], [], false) := by unfold findR; rw [findC_self]; split <;> rfl
      rw [hf0] at hfa
      have HFA := Lib.hid hfa; clear hfa hf0
      have hz : ((strOf []).toList == []) = true := by rw [strOf_toList]; exact beq_self_eq_true _
      rcases hb : badSide n i with _ | _
      · obtain ⟨n, i, rfl, rfl, h1, h2⟩ := badSide_nat hb
        have hs30 := Tree.sides_len 30 n i h1 h2
        have t1 : decide ((n : Int) ≤ 1073741824) = true := decide_eq_true (by omega)
        have t1' : decide (n ≤ 1073741824) = true := decide_eq_true (by omega)
        have t2 : decide ((0 : Int) ≤ (i : Int)) = true := decide_eq_true (by omega)
        have t3 : decide ((i : Int) < (n : Int)) = true := decide_eq_true (by omega)
        have t3' : decide (i < n) = true := decide_eq_true (by omega)
        by_cases he : (Tree.sides n i).length = P.length
        · have hR := rowsR_ok (l := l) hb he
          go_wp2_with (first | ((with_reducible show wpList _ _ _ (⟨some 33, _, _, _, _, _⟩ :: _) _ _); refine wpList_append_ran (by kernel_rfl) _ _ _ rfl _ _ rfl rfl hrun2 ?_) | ((with_reducible show wpList _ _ _ (⟨some 37, _, _, _, _, _⟩ :: _) _ _); refine wpList_append_ran (by kernel_rfl) _ _ _ rfl _ _ rfl rfl hrun3 ?_))
          refine HFA.out.mono ?_
          rintro e w4 ⟨rfl, b4⟩
          replace b1 := b1.trans (b4.mono b1.size)
          replace HP := Lib.hid (HP.out.below (Nat.le_refl _) b4)
          replace HL := Lib.hid (HL.out.below b4)
          clear HFA
          obtain ⟨q5, c5, v5, hrun, hs, dd⟩ := HashesAt.copy (HP.out.below (Nat.le_refl _) ((Below.refl w4.heap.size w4).alloc (Nat.le_refl _) (.cells #[] 39))) (by omega) ⟨w4.heap.size, 0, none⟩
          have d5 : Below w4.heap.size w4 v5 := ((Below.refl _ _).alloc (Nat.le_refl _) _).trans (dd.mono (by simp))
          have hrun5 := hrun; clear hrun dd
          have C5 := Lib.hid hs; clear hs
          replace HP := Lib.hid (HP.out.below (Nat.le_refl _) d5)
          replace HL := Lib.hid (HL.out.below d5)
          replace b1 := b1.trans (d5.mono b1.size)
          have hra := clashRows_all v5 n i l (by omega) _ _ _ P C5.out HL.out
          rw [hR] at hra
          simp only [Bool.false_eq_true, if_false, if_true] at hra
          have HRA := Lib.hid hra; clear hra
          clear hrun2 hrun3 hR
          go_wp2_with ((with_reducible show wpList _ _ _ (⟨some 48, _, _, _, _, _⟩ :: _) _ _); refine wpList_append_ran (by kernel_rfl) _ _ _ rfl _ _ rfl rfl hrun5 ?_)
          refine HRA.out.mono ?_
          rintro e w6 ⟨q6, c6, k6, rfl, s6, b6⟩
          replace b1 := b1.trans (b6.mono b1.size)
          clear s6 HRA hrun5
          have hd := treeDeep_any w6 n i h1 h2
          rw [he, hmP] at hd
          have HD := Lib.hid hd; clear hd he hs30
          go_wp2_with fail
          refine HD.out.mono ?_
          rintro e w7 ⟨rfl, b7⟩
          replace b1 := b1.trans (b7.mono b1.size)
          go_wp2_with fail
          go_ret
          exact ⟨rfl, b1⟩
        · have hR := rowsR_short (l := l) hb he
          have hx : (((Tree.sides n i).length : Int) == (mP : Int)) = false := by rw [beq_eq_false_iff_ne]; omega
          have hx' : ((Tree.sides n i).length == mP) = false := by rw [beq_eq_false_iff_ne]; omega
          go_wp2_with (first | ((with_reducible show wpList _ _ _ (⟨some 33, _, _, _, _, _⟩ :: _) _ _); refine wpList_append_ran (by kernel_rfl) _ _ _ rfl _ _ rfl rfl hrun2 ?_) | ((with_reducible show wpList _ _ _ (⟨some 37, _, _, _, _, _⟩ :: _) _ _); refine wpList_append_ran (by kernel_rfl) _ _ _ rfl _ _ rfl rfl hrun3 ?_))
          refine HFA.out.mono ?_
          rintro e w4 ⟨rfl, b4⟩
          replace b1 := b1.trans (b4.mono b1.size)
          replace HP := Lib.hid (HP.out.below (Nat.le_refl _) b4)
          replace HL := Lib.hid (HL.out.below b4)
          clear HFA
          obtain ⟨q5, c5, v5, hrun, hs, dd⟩ := HashesAt.copy (HP.out.below (Nat.le_refl _) ((Below.refl w4.heap.size w4).alloc (Nat.le_refl _) (.cells #[] 39))) (by omega) ⟨w4.heap.size, 0, none⟩
          have d5 : Below w4.heap.size w4 v5 := ((Below.refl _ _).alloc (Nat.le_refl _) _).trans (dd.mono (by simp))
          have hrun5 := hrun; clear hrun dd
          have C5 := Lib.hid hs; clear hs
          replace HP := Lib.hid (HP.out.below (Nat.le_refl _) d5)
          replace HL := Lib.hid (HL.out.below d5)
          replace b1 := b1.trans (d5.mono b1.size)
          have hra := clashRows_all v5 n i l (by omega) _ _ _ P C5.out HL.out
          rw [hR] at hra
          simp only [Bool.false_eq_true, if_false, if_true] at hra
          have HRA := Lib.hid hra; clear hra
          clear hrun2 hrun3 hR
          go_wp2_with ((with_reducible show wpList _ _ _ (⟨some 48, _, _, _, _, _⟩ :: _) _ _); refine wpList_append_ran (by kernel_rfl) _ _ _ rfl _ _ rfl rfl hrun5 ?_)
          refine HRA.out.mono ?_
          rintro e w6 ⟨q6, c6, k6, rfl, s6, b6⟩
          replace b1 := b1.trans (b6.mono b1.size)
          clear s6 HRA hrun5
          have hd := treeDeep_any w6 n i h1 h2
          have HD := Lib.hid hd; clear hd
          obtain ⟨S, hS⟩ : ∃ S, S = (Tree.sides n i).length := ⟨_, rfl⟩
          rw [← hS] at HD hx hx' hs30
          clear he hS
          go_wp2_with fail
          refine HD.out.mono ?_
          rintro e w7 ⟨rfl, b7⟩
          replace b1 := b1.trans (b7.mono b1.size)
          go_wp2_with fail
          go_ret
          exact ⟨rfl, b1⟩
      · have hR := rowsR_bad (l := l) (P := P) hb
        unfold badSide at hb
        rcases hx : decide (n ≤ 1073741824) with _ | _
        · clear hb
          go_wp2_with (first | ((with_reducible show wpList _ _ _ (⟨some 33, _, _, _, _, _⟩ :: _) _ _); refine wpList_append_ran (by kernel_rfl) _ _ _ rfl _ _ rfl rfl hrun2 ?_) | ((with_reducible show wpList _ _ _ (⟨some 37, _, _, _, _, _⟩ :: _) _ _); refine wpList_append_ran (by kernel_rfl) _ _ _ rfl _ _ rfl rfl hrun3 ?_))
          refine HFA.out.mono ?_
          rintro e w4 ⟨rfl, b4⟩
          replace b1 := b1.trans (b4.mono b1.size)
          replace HP := Lib.hid (HP.out.below (Nat.le_refl _) b4)
          replace HL := Lib.hid (HL.out.below b4)
          clear HFA
          obtain ⟨q5, c5, v5, hrun, hs, dd⟩ := HashesAt.copy (HP.out.below (Nat.le_refl _) ((Below.refl w4.heap.size w4).alloc (Nat.le_refl _) (.cells #[] 39))) (by omega) ⟨w4.heap.size, 0, none⟩
          have d5 : Below w4.heap.size w4 v5 := ((Below.refl _ _).alloc (Nat.le_refl _) _).trans (dd.mono (by simp))
          have hrun5 := hrun; clear hrun dd
          have C5 := Lib.hid hs; clear hs
          replace HP := Lib.hid (HP.out.below (Nat.le_refl _) d5)
          replace HL := Lib.hid (HL.out.below d5)
          replace b1 := b1.trans (d5.mono b1.size)
          have hra := clashRows_all v5 n i l (by omega) _ _ _ P C5.out HL.out
          rw [hR] at hra
          simp only [Bool.false_eq_true, if_false, if_true] at hra
          have HRA := Lib.hid hra; clear hra
          clear hrun2 hrun3 hR
          go_wp2_with ((with_reducible show wpList _ _ _ (⟨some 48, _, _, _, _, _⟩ :: _) _ _); refine wpList_append_ran (by kernel_rfl) _ _ _ rfl _ _ rfl rfl hrun5 ?_)
          refine HRA.out.mono ?_
          rintro e w6 ⟨q6, c6, k6, rfl, s6, b6⟩
          replace b1 := b1.trans (b6.mono b1.size)
          clear s6 HRA hrun5
          go_wp2_with fail
          go_ret
          exact ⟨rfl, b1⟩
        · rcases hy : decide (0 ≤ i) with _ | _
          · clear hb
            go_wp2_with (first | ((with_reducible show wpList _ _ _ (⟨some 33, _, _, _, _, _⟩ :: _) _ _); refine wpList_append_ran (by kernel_rfl) _ _ _ rfl _ _ rfl rfl hrun2 ?_) | ((with_reducible show wpList _ _ _ (⟨some 37, _, _, _, _, _⟩ :: _) _ _); refine wpList_append_ran (by kernel_rfl) _ _ _ rfl _ _ rfl rfl hrun3 ?_))
            refine HFA.out.mono ?_
            rintro e w4 ⟨rfl, b4⟩
            replace b1 := b1.trans (b4.mono b1.size)
            replace HP := Lib.hid (HP.out.below (Nat.le_refl _) b4)
            replace HL := Lib.hid (HL.out.below b4)
            clear HFA
            obtain ⟨q5, c5, v5, hrun, hs, dd⟩ := HashesAt.copy (HP.out.below (Nat.le_refl _) ((Below.refl w4.heap.size w4).alloc (Nat.le_refl _) (.cells #[] 39))) (by omega) ⟨w4.heap.size, 0, none⟩
            have d5 : Below w4.heap.size w4 v5 := ((Below.refl _ _).alloc (Nat.le_refl _) _).trans (dd.mono (by simp))
            have hrun5 := hrun; clear hrun dd
            have C5 := Lib.hid hs; clear hs
            replace HP := Lib.hid (HP.out.below (Nat.le_refl _) d5)
            replace HL := Lib.hid (HL.out.below d5)
            replace b1 := b1.trans (d5.mono b1.size)
            have hra := clashRows_all v5 n i l (by omega) _ _ _ P C5.out HL.out
            rw [hR] at hra
            simp only [Bool.false_eq_true, if_false, if_true] at hra
            have HRA := Lib.hid hra; clear hra
            clear hrun2 hrun3 hR
            go_wp2_with ((with_reducible show wpList _ _ _ (⟨some 48, _, _, _, _, _⟩ :: _) _ _); refine wpList_append_ran (by kernel_rfl) _ _ _ rfl _ _ rfl rfl hrun5 ?_)
            refine HRA.out.mono ?_
            rintro e w6 ⟨q6, c6, k6, rfl, s6, b6⟩
            replace b1 := b1.trans (b6.mono b1.size)
            clear s6 HRA hrun5
            go_wp2_with fail
            go_ret
            exact ⟨rfl, b1⟩
          · have hz3 : decide (i < n) = false := by
              simp only [Bool.or_eq_true, decide_eq_true_eq] at hb
              have h1 := of_decide_eq_true hx
              have h2 := of_decide_eq_true hy
              exact decide_eq_false (by omega)
            clear hb
            go_wp2_with (first | ((with_reducible show wpList _ _ _ (⟨some 33, _, _, _, _, _⟩ :: _) _ _); refine wpList_append_ran (by kernel_rfl) _ _ _ rfl _ _ rfl rfl hrun2 ?_) | ((with_reducible show wpList _ _ _ (⟨some 37, _, _, _, _, _⟩ :: _) _ _); refine wpList_append_ran (by kernel_rfl) _ _ _ rfl _ _ rfl rfl hrun3 ?_))
            refine HFA.out.mono ?_
            rintro e w4 ⟨rfl, b4⟩
            replace b1 := b1.trans (b4.mono b1.size)
            replace HP := Lib.hid (HP.out.below (Nat.le_refl _) b4)
            replace HL := Lib.hid (HL.out.below b4)
            clear HFA
            obtain ⟨q5, c5, v5, hrun, hs, dd⟩ := HashesAt.copy (HP.out.below (Nat.le_refl _) ((Below.refl w4.heap.size w4).alloc (Nat.le_refl _) (.cells #[] 39))) (by omega) ⟨w4.heap.size, 0, none⟩
            have d5 : Below w4.heap.size w4 v5 := ((Below.refl _ _).alloc (Nat.le_refl _) _).trans (dd.mono (by simp))
            have hrun5 := hrun; clear hrun dd
            have C5 := Lib.hid hs; clear hs
            replace HP := Lib.hid (HP.out.below (Nat.le_refl _) d5)
            replace HL := Lib.hid (HL.out.below d5)
            replace b1 := b1.trans (d5.mono b1.size)
            have hra := clashRows_all v5 n i l (by omega) _ _ _ P C5.out HL.out
            rw [hR] at hra
            simp only [Bool.false_eq_true, if_false, if_true] at hra
            have HRA := Lib.hid hra; clear hra
            clear hrun2 hrun3 hR
            go_wp2_with ((with_reducible show wpList _ _ _ (⟨some 48, _, _, _, _, _⟩ :: _) _ _); refine wpList_append_ran (by kernel_rfl) _ _ _ rfl _ _ rfl rfl hrun5 ?_)
            refine HRA.out.mono ?_
            rintro e w6 ⟨q6, c6, k6, rfl, s6, b6⟩
            replace b1 := b1.trans (b6.mono b1.size)
            clear s6 HRA hrun5
            go_wp2_with fail
            go_ret
            exact ⟨rfl, b1⟩

theorem same_law (w : World) (n : Int) (hn : (Lit.int .i64 n).wf = true) (i : Int) (hi : (Lit.int .i64 i).wf = true) (l : ByteArray) (hl : l.size ≤ 140737488351232) (oP : Option Addr) (mP cP : Nat) (P : List (List UInt8)) (hP : RowsAt w oP mP cP 32 byteCells P) (h32P : ∀ p ∈ P, p.length = 32) (hL : Laid w) :
    Calls Tryd.prog 5 #[.int .i64 n, .int .i64 i, .string l, .slice oP mP cP] w fun e w' => e = .returned (.bool true) ∧ Below w.heap.size w w' := by
  have h := same_list w n hn i hi l.data.toList (by rw [← strOf_size, strOf_data]; exact hl) oP mP cP P ⟨hP, h32P⟩ hL
  rwa [strOf_data] at h

end Go.Proofs.YteljlnkjdajkgaaDoor
