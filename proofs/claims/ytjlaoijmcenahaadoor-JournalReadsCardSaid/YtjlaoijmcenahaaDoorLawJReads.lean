/- The walk of the law JournalReads. -/
import Derived.Test.YtjlaoijmcenahaaDoorG12a
namespace Go.Proofs.YtjlaoijmcenahaaDoor
open Go.RowKit
set_option linter.unusedSimpArgs false
set_option linter.unusedVariables false

set_option maxRecDepth 100000 in
set_option maxHeartbeats 4000000 in
theorem jreads_list (w : World) (log : List UInt8) (hlog : log.length ≤ 140737488351232) (hL : Laid w) :
    Calls Tryd.prog 3 #[.string (strOf log)] w fun e w' => e = .returned (.bool true) ∧ Below w.heap.size w w' := by
  have hstlog := strOf_size log
  have HL := Lib.hid hL; clear hL
  go_enter Tryd.func3, Tryd.ntmps3
  go_wp2_with fail
  refine (awake_any _ HL.out).mono ?_
  rintro e w1 ⟨rfl, b1⟩
  replace HL := Lib.hid (HL.out.below b1)
  by_cases hg : 3000 < log.length
  · have ht : decide ((3000 : Int) < (log.length : Int)) = true := decide_eq_true (by omega)
    go_wp2_with fail
    refine (awake_any _ HL.out).mono ?_
    rintro e w2 ⟨rfl, b2⟩
    go_wp2_with fail
    go_ret
    exact ⟨rfl, b1.trans (b2.mono b1.size)⟩
  · have ht : decide ((3000 : Int) < (log.length : Int)) = false := decide_eq_false (by omega)
    have hc := journalRead_any w1 log (by omega) HL.out
    obtain ⟨R, hR⟩ : ∃ R, R = J.read J.zero log := ⟨_, rfl⟩
    rw [← hR] at hc
    have HC2 := Lib.hid hc; clear hc
    go_wp2_with fail
    refine HC2.out.mono ?_
    rintro e w2 ⟨q2, c2, k2, rfl, s2, b2⟩
    clear HC2
    replace HL := Lib.hid (HL.out.below b2)
    replace b1 := b1.trans (b2.mono b1.size)
    have S2 := Lib.hid s2; clear s2
    have hc := refJread_any w2 log (by omega)
    rw [← hR] at hc
    clear hR
    have HC3 := Lib.hid hc; clear hc
    go_wp2_with fail
    refine HC3.out.mono ?_
    rintro e w3 ⟨q3, c3, k3, rfl, s3, b3⟩
    clear HC3
    replace HL := Lib.hid (HL.out.below b3)
    replace b1 := b1.trans (b3.mono b1.size)
    replace S2 := Lib.hid (S2.out.below (Nat.le_refl _) b3)
    have hc := refSame_any w3 _ _ _ _ _ _ _ _ S2.out s3
    rw [decide_eq_true rfl] at hc
    clear s3
    have HC4 := Lib.hid hc; clear hc
    go_wp2_with fail
    refine HC4.out.mono ?_
    rintro e w4 ⟨rfl, b4⟩
    clear HC4 S2
    replace HL := Lib.hid (HL.out.below b4)
    replace b1 := b1.trans (b4.mono b1.size)
    go_wp2_with fail
    go_ret
    exact ⟨rfl, b1⟩

theorem jreads_law (w : World) (log : ByteArray) (hlog : log.size ≤ 140737488351232) (hL : Laid w) :
    Calls Tryd.prog 3 #[.string log] w fun e w' => e = .returned (.bool true) ∧ Below w.heap.size w w' := by
  have h := jreads_list w log.data.toList (by rw [← strOf_size, strOf_data]; exact hlog) hL
  rwa [strOf_data] at h

end Go.Proofs.YtjlaoijmcenahaaDoor
