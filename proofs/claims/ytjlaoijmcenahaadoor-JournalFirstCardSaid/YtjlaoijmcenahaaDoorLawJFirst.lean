/- The walk of the law JournalFirst. -/
import Derived.Test.YtjlaoijmcenahaaDoorG12a
namespace Go.Proofs.YtjlaoijmcenahaaDoor
open Go.RowKit
set_option linter.unusedSimpArgs false
set_option linter.unusedVariables false

set_option maxRecDepth 100000 in
set_option maxHeartbeats 4000000 in
theorem jfirst_list (w : World) (log : List UInt8) (hlog : log.length ≤ 140737488351232) (hL : Laid w) :
    Calls Tryd.prog 9 #[.string (strOf log)] w fun e w' => e = .returned (.bool true) ∧ Below w.heap.size w w' := by
  have hstlog := strOf_size log
  have HL := Lib.hid hL; clear hL
  go_enter Tryd.func9, Tryd.ntmps9
  go_wp2_with fail
  refine (awake_any _ HL.out).mono ?_
  rintro e w1 ⟨rfl, b1⟩
  replace HL := Lib.hid (HL.out.below b1)
  by_cases hg : 3000 < log.length
  · have ht : decide ((3000 : Int) < (log.length : Int)) = true := decide_eq_true (by omega)
    go_wp2_with fail
    refine (awake_any _ HL.out).mono ?_
    rintro e w2 ⟨rfl, b2⟩
    go_wp2_with fail
    go_ret
    exact ⟨rfl, b1.trans (b2.mono b1.size)⟩
  · have ht : decide ((3000 : Int) < (log.length : Int)) = false := decide_eq_false (by omega)
    have hul := J.used_le J.zero log
    have hlu := J.least_used log
    have hcnt := read_count log.length J.zero log (Nat.le_refl _)
    have hcf := J.cut_first log
    have hrf := J.read_first log
    have hc := journalRead_any w1 log (by omega) HL.out
    obtain ⟨R, hR⟩ : ∃ R, R = J.read J.zero log := ⟨_, rfl⟩
    rw [← hR] at hc hul hlu hcnt hcf hrf
    clear hR
    obtain ⟨A, u, la⟩ := R
    simp only at hc hul hlu hcnt hcf hrf
    have HCF := Lib.hid hcf; clear hcf
    have HRF := Lib.hid hrf; clear hrf
    have u1 : decide ((u : Int) < 0) = false := decide_eq_false (by omega)
    have u2 : decide ((log.length : Int) < (u : Int)) = false := decide_eq_false (by omega)
    have u2' : decide (log.length < u) = false := decide_eq_false (by omega)
    have HC2 := Lib.hid hc; clear hc
    go_wp2_with fail
    refine HC2.out.mono ?_
    rintro e w2 ⟨q2, c2, k2, rfl, s2, b2⟩
    clear HC2
    replace HL := Lib.hid (HL.out.below b2)
    replace b1 := b1.trans (b2.mono b1.size)
    have hk := s2.len
    have hk2 := s2.cap
    have hk3 := s2.max
    have S2 := Lib.hid s2; clear s2
    have hc := journalCut_any w2 log u (by omega)
    rw [HCF.out] at hc
    have HC3 := Lib.hid hc; clear hc
    go_wp2_with fail
    refine HC3.out.mono ?_
    rintro e w3 ⟨rfl, rfl⟩
    clear HC3
    have hlt := List.length_take_le u log
    have hc := journalRead_any w2 (log.take u) (by omega) HL.out
    rw [HRF.out] at hc
    have HC4 := Lib.hid hc; clear hc
    go_wp2_with fail
    refine HC4.out.mono ?_
    rintro e w4 ⟨q4, c4, k4, rfl, s4, b4⟩
    clear HC4
    replace HL := Lib.hid (HL.out.below b4)
    replace b1 := b1.trans (b4.mono b1.size)

    replace S2 := Lib.hid (S2.out.below (Nat.le_refl _) b4)
    have S4 := Lib.hid s4; clear s4
    subst hk
    go_wp2_with fail
    go_loop [7, 8] (fun s v => ∃ j : Nat, j ≤ A.length ∧ v = .int .i64 (j : Int) ∧ s = .int .i64 (J.least (A.take j) : Int)) (fun _ v => A.length - (intOf v).toNat)
    case atStart => exact ⟨0, by omega, rfl, rfl⟩
    case round =>
      obtain ⟨j, hj, rfl, rfl⟩ := hrel
      have hjl := J.least_take A j
      by_cases hlt : j < A.length
      · obtain ⟨b, off, rfl⟩ := S2.out.form (by omega)
        obtain ⟨l, hl⟩ : ∃ l, A[j]? = some l := ⟨_, List.getElem?_eq_getElem hlt⟩
        have hcell := S2.out.get hl
        have hls := J.least_succ hl
        have hjs := J.least_take A (j + 1)
        have hst := strOf_size l
        have t1 : decide ((j : Int) < (A.length : Int)) = true := decide_eq_true (by omega)
        have t1' : decide (j < A.length) = true := decide_eq_true hlt
        by_cases h127 : 127 < l.length
        · rw [if_pos h127] at hls
          have t2 : decide ((127 : Int) < (l.length : Int)) = true := decide_eq_true (by omega)
          have t2' : decide (127 < l.length) = true := decide_eq_true h127
          have hb1 : l.length ≤ 3000 := by omega
          have hb2 : J.least (A.take j) ≤ 3000 := by omega
          have HLS := Lib.hid hls; clear hls hl
          go_wp2_with fail
          go_round
          case rel => exact ⟨j + 1, by omega, by go_num, by rw [HLS.out]; go_num⟩
          case measure => simp [intOf]; omega
        · rw [if_neg h127] at hls
          have t2 : decide ((127 : Int) < (l.length : Int)) = false := decide_eq_false (by omega)
          have t2' : decide (127 < l.length) = false := decide_eq_false h127
          have hb1 : l.length ≤ 3000 := by omega
          have hb2 : J.least (A.take j) ≤ 3000 := by omega
          have HLS := Lib.hid hls; clear hls hl
          go_wp2_with fail
          go_round
          case rel => exact ⟨j + 1, by omega, by go_num, by rw [HLS.out]; go_num⟩
          case measure => simp [intOf]; omega
      · obtain rfl : j = A.length := by omega
        rw [List.take_length]
        have hcs := refSame_any w4 _ _ _ _ _ _ _ _ S2.out S4.out
        rw [decide_eq_true rfl] at hcs
        have HCS := Lib.hid hcs; clear hcs
        have hb2 : J.least A ≤ 3000 := by omega
        by_cases he : J.least A = u
        · have t3 : ((J.least A : Int) == (u : Int)) = true := by rw [he]; exact beq_self_eq_true _
          have t3' : (J.least A == u) = true := by rw [he]; exact beq_self_eq_true _
          go_wp2_with fail
          refine HCS.out.mono ?_
          rintro e w5 ⟨rfl, b5⟩
          replace b1 := b1.trans (b5.mono b1.size)
          go_wp2_with fail
          go_ret
          exact ⟨rfl, b1⟩
        · have t3 : ((J.least A : Int) == (u : Int)) = false := by rw [beq_eq_false_iff_ne]; omega
          have t3' : (J.least A == u) = false := by rw [beq_eq_false_iff_ne]; exact he
          have t4 : decide ((J.least A : Int) < (u : Int)) = true := decide_eq_true (by omega)
          have t4' : decide (J.least A < u) = true := decide_eq_true (by omega)
          go_wp2_with fail
          refine HCS.out.mono ?_
          rintro e w5 ⟨rfl, b5⟩
          replace b1 := b1.trans (b5.mono b1.size)
          go_wp2_with fail
          go_ret
          exact ⟨rfl, b1⟩

theorem jfirst_law (w : World) (log : ByteArray) (hlog : log.size ≤ 140737488351232) (hL : Laid w) :
    Calls Tryd.prog 9 #[.string log] w fun e w' => e = .returned (.bool true) ∧ Below w.heap.size w w' := by
  have h := jfirst_list w log.data.toList (by rw [← strOf_size, strOf_data]; exact hlog) hL
  rwa [strOf_data] at h

end Go.Proofs.YtjlaoijmcenahaaDoor
