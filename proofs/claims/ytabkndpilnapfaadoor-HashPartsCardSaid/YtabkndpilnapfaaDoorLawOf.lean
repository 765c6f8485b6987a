/- The walk of the law HashOf. -/
import Derived.Test.YtabkndpilnapfaaDoorAwakeH
import Derived.Test.YtabkndpilnapfaaDoorRefOf
namespace Go.Proofs.YtabkndpilnapfaaDoor
open Go.RowKit
set_option linter.unusedSimpArgs false
set_option linter.unusedVariables false

/-- hash.Of of one text's bytes: the parts, as a call's own argument lays them. -/
theorem part_one (w : World) (l : List UInt8) (hl : l.length ≤ 1000000000) :
    ∃ cap W, (convert 9 27 (.string (strOf l))).run Tryd.prog w = .ok (.slice (some ⟨w.heap.size, 0, none⟩) l.length cap) W ∧ Mine W w.heap.size (.slice (some ⟨w.heap.size, 0, none⟩) l.length cap) l ∧ Below w.heap.size w W ∧ w.heap.size < W.heap.size ∧
      PartsV (W.alloc (.cells #[.slice (some ⟨w.heap.size, 0, none⟩) l.length cap] 27)) (.slice (some ⟨W.heap.size, 0, none⟩) 1 1) [l] := by
  obtain ⟨cap, W, h1, h2, h3, h4⟩ := str_bytes Tryd.under_str Tryd.under_u8s Tryd.under_b8 w l (by omega)
  refine ⟨cap, W, h1, h2, h3, h4, parts_new W 27 [.slice (some ⟨w.heap.size, 0, none⟩) l.length cap] [l] 1 rfl rfl fun i v l' hv hl' => ?_⟩
  match i, hv, hl' with
  | 0, hv, hl' =>
    simp only [List.getElem?_cons_zero, Option.some.injEq] at hv hl'
    subst hv; subst hl'
    exact h2.holds

set_option maxRecDepth 100000 in
set_option maxHeartbeats 2000000 in
theorem of_list (w : World) (l : List UInt8) (hl : l.length ≤ 140737488351232) (hL : Laid w) :
    Calls Tryd.prog 3 #[.string (strOf l)] w fun e w' => e = .returned (.bool true) ∧ Below w.heap.size w w' := by
  have hst := strOf_size l
  have HL := Lib.hid hL; clear hL
  by_cases h200 : 200 < l.length
  · have ht : decide ((200 : Int) < (l.length : Int)) = true := decide_eq_true (by omega)
    go_enter Tryd.func3, Tryd.ntmps3
    go_wp2_with fail
    refine (awake_any w HL.out).mono ?_
    rintro e w1 ⟨rfl, b1⟩
    go_wp2_with fail
    go_ret
    exact ⟨rfl, b1⟩
  · have ht : decide ((200 : Int) < (l.length : Int)) = false := decide_eq_false (by omega)
    go_enter Tryd.func3, Tryd.ntmps3
    go_wp2_with fail
    refine (awake_any w HL.out).mono ?_
    rintro e w1 ⟨rfl, b1⟩
    obtain ⟨cap, W2, hcv, m2, b2, s2, hp⟩ := part_one w1 l (by omega)
    have b02 := b1.trans (b2.mono b1.size)
    obtain ⟨W3, hW3⟩ : ∃ W3, W3 = W2.alloc (.cells #[.slice (some ⟨w1.heap.size, 0, none⟩) l.length cap] 27) := ⟨_, rfl⟩
    rw [← hW3] at hp
    have b03 : Below w.heap.size w W3 := by rw [hW3]; exact b02.alloc b02.size _
    have hof := of_any W3 _ [l] hp (by simp) (by simp; omega) (HL.out.below b03)
    have hfl : [l].flatten = l := by simp
    rw [hfl] at hof
    have HOF := Lib.hid hof; clear hof hp m2 b2 s2 b1
    have HW3 := Lib.hid hW3; clear hW3
    have href := fun w => refOf_any w l (by omega)
    have HREF := Lib.hid href; clear href
    have hsl := Sha.of_len l
    obtain ⟨S, hS⟩ : ∃ S, S = Sha.of l := ⟨_, rfl⟩
    rw [← hS] at HOF HREF hsl
    clear hS ht
    go_wp2_with fail
    rw [← HW3.out]
    refine HOF.out.mono ?_
    rintro e w4 ⟨rfl, b4⟩
    have b04 := b03.trans (b4.mono b03.size)
    go_wp2_with fail
    refine (text_any S hsl w4).mono ?_
    rintro e w5 ⟨rfl, b5⟩
    have b05 := b04.trans (b5.mono b04.size)
    go_wp2_with fail
    refine (HREF.out w5).mono ?_
    rintro e w6 ⟨rfl, b6⟩
    go_wp2_with fail
    go_ret
    exact ⟨rfl, b05.trans (b6.mono b05.size)⟩

theorem of_law (w : World) (s : ByteArray) (hs : s.size ≤ 140737488351232) (hL : Laid w) :
    Calls Tryd.prog 3 #[.string s] w fun e w' => e = .returned (.bool true) ∧ Below w.heap.size w w' := by
  have h := of_list w s.data.toList (by rw [← strOf_size, strOf_data]; exact hs) hL
  rwa [strOf_data] at h

end Go.Proofs.YtabkndpilnapfaaDoor
