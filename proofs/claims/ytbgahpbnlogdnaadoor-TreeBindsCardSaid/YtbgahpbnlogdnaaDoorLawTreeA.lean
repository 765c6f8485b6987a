/- The walks of the laws TreeHalves, TreeDeeps. -/
import Derived.Test.YtbgahpbnlogdnaaDoorTreeAwake
namespace Go.Proofs.YtbgahpbnlogdnaaDoor
open Go.RowKit
set_option linter.unusedSimpArgs false
set_option linter.unusedVariables false

theorem wf_i64' {a : Int} (h : (Lit.int .i64 a).wf = true) : -9223372036854775808 ≤ a ∧ a ≤ 9223372036854775807 := by
  have := bounds_i64 h
  omega

set_option maxRecDepth 100000 in
set_option maxHeartbeats 2000000 in
theorem halves_law (w : World) (n : Int) (hn : (Lit.int .i64 n).wf = true) (hL : Laid w) :
    Calls Tryd.prog 8 #[.int .i64 n] w fun e w' => e = .returned (.bool true) ∧ Below w.heap.size w w' := by
  have hb := wf_i64' hn
  clear hn
  have HL := Lib.hid hL; clear hL
  by_cases h2 : n < 2
  · have ht : decide (n < 2) = true := decide_eq_true h2
    have ht' : decide (2 ≤ n) = false := decide_eq_false (by omega)
    go_enter Tryd.func8, Tryd.ntmps8
    go_wp2_with fail
    refine (awake_any w HL.out).mono ?_
    rintro e w1 ⟨rfl, b1⟩
    go_wp2_with fail
    refine (treeHalf_neg w1 n h2 hb.1).mono ?_
    rintro e w2 ⟨rfl, rfl⟩
    go_wp2_with fail
    go_ret
    exact ⟨rfl, b1⟩
  · have ht : decide (n < 2) = false := decide_eq_false h2
    by_cases h3 : 1073741824 < n
    · have ht2 : decide (1073741824 < n) = true := decide_eq_true h3
      have ht' : decide (2 ≤ n) = true := decide_eq_true (by omega)
      go_enter Tryd.func8, Tryd.ntmps8
      go_wp2_with fail
      refine (awake_any w HL.out).mono ?_
      rintro e w1 ⟨rfl, b1⟩
      go_wp2_with fail
      go_ret
      exact ⟨rfl, b1⟩
    · have ht2 : decide (1073741824 < n) = false := decide_eq_false h3
      obtain ⟨m, rfl⟩ : ∃ m : Nat, n = (m : Int) := ⟨n.toNat, by omega⟩
      obtain ⟨i, hi, hi1, hi2⟩ := Tree.half_spec (n := m) (by omega)
      obtain ⟨k, hk⟩ : ∃ k, k = Tree.half m := ⟨_, rfl⟩
      have hh := treeHalf_nat w m (by omega)
      rw [← hk] at hh hi
      rw [← hi] at hi1 hi2
      have hk1 : 1 ≤ k := by rw [hi]; exact Nat.two_pow_pos i
      have HH := Lib.hid hh; clear hh hk
      have HI := Lib.hid hi; clear hi
      go_enter Tryd.func8, Tryd.ntmps8
      go_wp2_with fail
      refine HH.out.mono ?_
      rintro e w2 ⟨rfl, rfl⟩
      go_wp2_with fail
      go_loopw [4] (fun v wr => Hid (w = wr) ∧ ∃ p j : Nat, v = .int .i64 (p : Int) ∧ Hid (p = 2 ^ j) ∧ p ≤ k ∧ 1 ≤ p) (fun v _ => (intOf v).toNat)
      case atStart => exact ⟨Lib.hid rfl, k, i, rfl, HI, Nat.le_refl _, hk1⟩
      case round =>
        obtain ⟨hw, p, j, rfl, hp, hpk, hp1⟩ := hrel
        rcases j with _ | j
        · have hp1' : p = 1 := by have := hp.out; simpa using this
          subst hp1'
          have t1 : decide ((k : Int) < (m : Int)) = true := decide_eq_true (by omega)
          have t2 : decide ((m : Int) ≤ 2 * (k : Int)) = true := decide_eq_true (by omega)
          have t1' : decide (k < m) = true := decide_eq_true (by omega)
          have HLr : Hid (Laid wr) := Lib.hid (by rw [← hw.out]; exact HL.out)
          go_wp2_with fail
          refine (awake_any wr HLr.out).mono ?_
          rintro e w1 ⟨rfl, b1⟩
          go_wp2_with fail
          go_ret
          exact ⟨rfl, by rw [hw.out]; exact b1⟩
        · obtain ⟨q, hq⟩ : ∃ q, q = 2 ^ j := ⟨_, rfl⟩
          have hq1 : 1 ≤ q := by rw [hq]; exact Nat.two_pow_pos j
          have hpq : p = 2 * q := by rw [hp.out, Nat.pow_succ, hq]; omega
          subst hpq
          have t1 : decide ((1 : Int) < ((2 * q : Nat) : Int)) = true := decide_eq_true (by omega)
          have t1' : decide ((1 : Int) < 2 * (q : Int)) = true := decide_eq_true (by omega)
          have t2 : (((2 * q : Nat) : Int).tmod 2 == 0) = true := by rw [beq_iff_eq, Int.tmod_eq_emod_of_nonneg (by omega)]; omega
          have t2' : ((2 * (q : Int)).tmod 2 == 0) = true := by rw [beq_iff_eq, Int.tmod_eq_emod_of_nonneg (by omega)]; omega
          have t3 : ((2 * q : Nat) : Int).tdiv 2 = (q : Int) := by rw [Int.tdiv_eq_ediv_of_nonneg (by omega)]; omega
          have t3' : (2 * (q : Int)).tdiv 2 = (q : Int) := by rw [Int.tdiv_eq_ediv_of_nonneg (by omega)]; omega
          have HQ := Lib.hid hq; clear hq
          go_wp2_with fail
          go_roundw
          case rel => exact ⟨hw, q, j, by go_num, HQ, by omega, hq1⟩
          case measure => simp [intOf]; omega

set_option maxRecDepth 100000 in
set_option maxHeartbeats 2000000 in
theorem deeps_law (w : World) (n : Int) (hn : (Lit.int .i64 n).wf = true) (i : Int) (hi : (Lit.int .i64 i).wf = true) (hL : Laid w) :
    Calls Tryd.prog 11 #[.int .i64 n, .int .i64 i] w fun e w' => e = .returned (.bool true) ∧ Below w.heap.size w w' := by
  have hb := wf_i64' hn
  have hbi := wf_i64' hi
  clear hn hi
  have HL := Lib.hid hL; clear hL
  rcases hx1 : decide (n < 1) with _ | _
  · rcases hx2 : decide (1073741824 < n) with _ | _
    · rcases hx3 : decide (i < 0) with _ | _
      · rcases hx4 : decide (n ≤ i) with _ | _
        · have y1 := of_decide_eq_false hx1
          have y2 := of_decide_eq_false hx2
          have y3 := of_decide_eq_false hx3
          have y4 := of_decide_eq_false hx4
          obtain ⟨m, rfl⟩ : ∃ m : Nat, n = (m : Int) := ⟨n.toNat, by omega⟩
          obtain ⟨j, rfl⟩ : ∃ j : Nat, i = (j : Int) := ⟨i.toNat, by omega⟩
          have hx4' : decide (m ≤ j) = false := decide_eq_false (by omega)
          go_enter Tryd.func11, Tryd.ntmps11
          go_wp2_with fail
          go_loopw [5, 6] (fun vd vk wr => Hid (w = wr) ∧ ∃ d k : Nat, vd = .int .i64 (d : Int) ∧ vk = .int .i64 (k : Int) ∧ Hid (k = 2 ^ d) ∧ k < 2 * m ∧ 1 ≤ k) (fun _ vk _ => m - (intOf vk).toNat)
          case atStart => exact ⟨Lib.hid rfl, 0, 1, rfl, rfl, Lib.hid rfl, by omega, by omega⟩
          case round =>
            obtain ⟨hw, d, k, rfl, rfl, hk, hkm, hk1⟩ := hrel
            have hd31 : d ≤ 31 := by
              apply Nat.le_of_not_lt
              intro hd
              have := Nat.pow_le_pow_right (n := 2) (by omega) (show 32 ≤ d by omega)
              rw [← hk.out] at this
              omega
            by_cases hlt : k < m
            · have t1 : decide ((k : Int) < (m : Int)) = true := decide_eq_true (by omega)
              have t1' : decide (k < m) = true := decide_eq_true hlt
              go_wp2_with fail
              go_roundw
              case rel => exact ⟨hw, d + 1, 2 * k, by go_num, by go_num, Lib.hid (by rw [hk.out, Nat.pow_succ]; omega), by omega, by omega⟩
              case measure => simp [intOf]; omega
            · have t1 : decide ((k : Int) < (m : Int)) = false := decide_eq_false (by omega)
              have t1' : decide (k < m) = false := decide_eq_false hlt
              have HLr : Hid (Laid wr) := Lib.hid (by rw [← hw.out]; exact HL.out)
              have hdeep := treeDeep_any wr m j (by omega) (by omega)
              have hxd := Tree.sides_len d m j (by omega) (by rw [← hk.out]; omega)
              have hx0 := Tree.sides_zero (n := m) (i := j) (by omega)
              have hxp : k = m → (Tree.sides m j).length = d := by
                intro hkm
                have := Tree.sides_pow d j (by rw [← hk.out]; omega)
                rw [← hk.out, hkm] at this
                exact this
              obtain ⟨x, hx⟩ : ∃ x, x = (Tree.sides m j).length := ⟨_, rfl⟩
              rw [← hx] at hdeep hxd hx0 hxp
              have HD := Lib.hid hdeep; clear hdeep hx
              have t2 : decide ((x : Int) ≤ (d : Int)) = true := decide_eq_true (by omega)
              have t2' : decide (x ≤ d) = true := decide_eq_true (by omega)
              by_cases hkm' : k = m
              · have hxd' := hxp hkm'
                subst hxd'
                subst hkm'
                have t3 : ((k : Int) != (k : Int)) = false := by simp
                clear hxp
                by_cases h1 : k = 1
                · subst h1
                  have hx00 := hx0.2 rfl
                  subst hx00
                  go_wp2_with fail
                  refine HD.out.mono ?_
                  rintro e w1 ⟨rfl, b1⟩
                  go_wp2_with fail
                  refine (awake_any w1 (HLr.out.below b1)).mono ?_
                  rintro e w2 ⟨rfl, b2⟩
                  go_wp2_with fail
                  go_ret
                  exact ⟨rfl, by rw [hw.out]; exact b1.trans (b2.mono b1.size)⟩
                · have hx1' : ¬ x = 0 := fun h => h1 (hx0.1 h)
                  have t4 : ((k : Int) == 1) = false := by rw [beq_eq_false_iff_ne]; omega
                  have t5 : ((x : Int) == 0) = false := by rw [beq_eq_false_iff_ne]; omega
                  clear hx0
                  go_wp2_with fail
                  refine HD.out.mono ?_
                  rintro e w1 ⟨rfl, b1⟩
                  go_wp2_with fail
                  refine (awake_any w1 (HLr.out.below b1)).mono ?_
                  rintro e w2 ⟨rfl, b2⟩
                  go_wp2_with fail
                  go_ret
                  exact ⟨rfl, by rw [hw.out]; exact b1.trans (b2.mono b1.size)⟩
              · have t3 : ((k : Int) != (m : Int)) = true := by rw [bne_iff_ne]; omega
                clear hxp
                have h1 : ¬ m = 1 := by omega
                have hx1' : ¬ x = 0 := fun h => h1 (hx0.1 h)
                have t4 : ((m : Int) == 1) = false := by rw [beq_eq_false_iff_ne]; omega
                have t5 : ((x : Int) == 0) = false := by rw [beq_eq_false_iff_ne]; omega
                clear hx0
                go_wp2_with fail
                refine HD.out.mono ?_
                rintro e w1 ⟨rfl, b1⟩
                go_wp2_with fail
                refine (awake_any w1 (HLr.out.below b1)).mono ?_
                rintro e w2 ⟨rfl, b2⟩
                go_wp2_with fail
                go_ret
                exact ⟨rfl, by rw [hw.out]; exact b1.trans (b2.mono b1.size)⟩
        · have hbad : badSide n i = true := by unfold badSide; rw [hx4]; simp
          go_enter Tryd.func11, Tryd.ntmps11
          go_wp2_with fail
          refine (awake_any w HL.out).mono ?_
          rintro e w1 ⟨rfl, b1⟩
          go_wp2_with fail
          refine (treeDeep_bad w1 n i hbad).mono ?_
          rintro e w2 ⟨rfl, b2⟩
          go_wp2_with fail
          go_ret
          exact ⟨rfl, b1.trans (b2.mono b1.size)⟩
      · have hbad : badSide n i = true := by unfold badSide; rw [hx3]; simp
        go_enter Tryd.func11, Tryd.ntmps11
        go_wp2_with fail
        refine (awake_any w HL.out).mono ?_
        rintro e w1 ⟨rfl, b1⟩
        go_wp2_with fail
        refine (treeDeep_bad w1 n i hbad).mono ?_
        rintro e w2 ⟨rfl, b2⟩
        go_wp2_with fail
        go_ret
        exact ⟨rfl, b1.trans (b2.mono b1.size)⟩
    · have hbad : badSide n i = true := by unfold badSide; rw [hx2]; simp
      go_enter Tryd.func11, Tryd.ntmps11
      go_wp2_with fail
      refine (awake_any w HL.out).mono ?_
      rintro e w1 ⟨rfl, b1⟩
      go_wp2_with fail
      refine (treeDeep_bad w1 n i hbad).mono ?_
      rintro e w2 ⟨rfl, b2⟩
      go_wp2_with fail
      go_ret
      exact ⟨rfl, b1.trans (b2.mono b1.size)⟩
  · have y1 := of_decide_eq_true hx1
    have hbad : badSide n i = true := by
      unfold badSide
      by_cases h : i < 0
      · rw [decide_eq_true h]; simp
      · rw [decide_eq_true (show n ≤ i by omega)]; simp
    go_enter Tryd.func11, Tryd.ntmps11
    go_wp2_with fail
    refine (awake_any w HL.out).mono ?_
    rintro e w1 ⟨rfl, b1⟩
    go_wp2_with fail
    refine (treeDeep_bad w1 n i hbad).mono ?_
    rintro e w2 ⟨rfl, b2⟩
    go_wp2_with fail
    go_ret
    exact ⟨rfl, b1.trans (b2.mono b1.size)⟩

end Go.Proofs.YtbgahpbnlogdnaaDoor
