/- The walk of the wire laws' awake: it returns true. -/
import Derived.Test.YtnohbamjcadfaaaIn4
namespace Go.Proofs.Ytnohbamjcadfaaa
open Go.RowKit

theorem OutIs.below {w w' : World} {base b : Nat} {bs : List UInt8} (h : OutIs w base b bs) (hb : Below w.heap.size w w') : OutIs w' base b bs :=
  h.kept fun k hk => hb.block k hk

/-- An Out is kept where another block is changed. -/
theorem OutIs.but {w w' : World} {base b c : Nat} {bs : List UInt8} (h : OutIs w base b bs) (hb : BelowBut w.heap.size c w w') (hc : b ≠ c) (ho : w.heap[c]? ≠ none → ∀ cur fr, w.heap[c]? ≠ some (.cells cur 5 fr)) : OutIs w' base b bs := by
  obtain ⟨v, h1, h2⟩ := h
  refine ⟨v, (hb.block b (lt_of_block h1) hc).trans h1, ownsRow_below h2 fun k hk' => hb.block k (h2.lt k hk').2 ?_⟩
  rintro rfl
  rcases h2.2 with ⟨rfl, _⟩ | ⟨g, cap, cur, rfl, _, hgg, _⟩
  · simp [Value.ownBlock] at hk'
  · simp [Value.ownBlock] at hk'
    subst hk'
    exact ho (by rw [hgg]; simp) _ _ hgg

/-- Block b is a wire.Out in which nothing is written yet. -/
def OutNew (w : World) (b : Nat) : Prop := w.heap[b]? = some (.cells #[.slice none 0 0] 61 (0, 0))

theorem OutNew.is {w : World} {b : Nat} (h : OutNew w b) (base : Nat) : OutIs w base b [] := ⟨_, h, World.ownsRow_nil _ _ _ _⟩
theorem OutNew.is0 {w : World} {b : Nat} (h : OutNew w b) : OutIs w 0 b [] := h.is 0
theorem OutNew.made (w : World) : OutNew (w.alloc (.cells #[.slice none 0 0] 61 (0, 0))) w.heap.size := heap_alloc_new w _
theorem OutNew.lt {w : World} {b : Nat} (h : OutNew w b) : b < w.heap.size := lt_of_block h
theorem OutNew.below {w w' : World} {b : Nat} (h : OutNew w b) (hb : Below w.heap.size w w') : OutNew w' b := (hb.block b h.lt).trans h
theorem OutNew.but {w w' : World} {b c : Nat} (h : OutNew w b) (hb : BelowBut w.heap.size c w w') (hc : b ≠ c) : OutNew w' b := (hb.block b h.lt hc).trans h
theorem OutIs.noRow {w : World} {base b : Nat} {bs : List UInt8} (h : OutIs w base b bs) : w.heap[b]? ≠ none → ∀ cur fr, w.heap[b]? ≠ some (.cells cur 5 fr) := by
  obtain ⟨v, h1, _⟩ := h
  intro _ cur fr hx
  rw [h1] at hx
  simp at hx

theorem outDone_str (base b : Nat) (bs : List UInt8) (w : World) (h : OutIs w base b bs) :
    Calls Try.prog 14 #[.pointer (some ⟨b, 0, none⟩)] w fun e w' => w = w' ∧ e = .returned (.string (strOf bs)) :=
  outDone_any base b bs w h

theorem InIs.noRow {w : World} {b : Nat} {l : List UInt8} {e : Int} (h : InIs w b l e) : w.heap[b]? ≠ none → ∀ cur fr, w.heap[b]? ≠ some (.cells cur 5 fr) := by
  intro _ cur fr hx
  unfold InIs at h
  rw [h] at hx
  simp at hx

theorem InIs.fresh (w : World) (l : List UInt8) : InIs (w.alloc (.cells #[.string (strOf l), .int .i64 0] 64 (0, 0))) w.heap.size l 0 := heap_alloc_new w _

set_option maxRecDepth 100000 in
set_option maxHeartbeats 1000000 in
theorem awake_any (w : World) :
    Calls Try.prog 12 #[] w fun e w' => e = .returned (.bool true) ∧ Below w.heap.size w w' := by
  go_enter Try.func12, Try.ntmps12
  go_wp2_with fail
  refine (newOut_any _).mono ?_
  rintro e w1 ⟨rfl, hw1⟩
  have ho := OutIs.fresh w (w.heap.size + 1)
  rw [← hw1] at ho
  have hs1 : w1.heap.size = w.heap.size + 1 := by rw [hw1]; simp
  have hb1 : Below w.heap.size w w1 := by rw [hw1]; exact (Below.refl _ _).alloc (Nat.le_refl _) _
  have H1 := Lib.hid hs1
  clear hw1 hs1
  go_wp2_with fail
  refine (outNum_any 300 (by decide) _ _ _ _ ho (by rw [H1.out]; omega) (by decide)).mono ?_
  rintro e w2 ⟨rfl, ho2, hb2⟩
  clear ho
  rw [Wire.num_300] at ho2
  have hs2 := hb2.size
  go_wp2_with fail
  refine (outInt_any (-1) (by decide) (by decide) _ _ _ _ ho2 (by have := H1.out; omega) (by decide)).mono ?_
  rintro e w3 ⟨rfl, ho3, hb3⟩
  rw [Wire.num_1] at ho3
  have hs3 := hb3.size
  clear ho2
  go_wp2_with fail
  refine (outText_any ⟨#[104, 105]⟩ (by decide) _ _ _ _ ho3 (by have := H1.out; omega) (by decide)).mono ?_
  rintro e w4 ⟨rfl, ho4, hb4⟩
  replace ho4 : OutIs w4 (w.heap.size + 1) w.heap.size [172, 2, 1, 2, 104, 105] := by
    have e : (⟨#[104, 105]⟩ : ByteArray).size = 2 := rfl
    rw [e, Wire.num_2] at ho4; exact ho4
  have hs4 := hb4.size
  clear ho3
  have hB4 : Below w.heap.size w w4 := hb1.trans (((hb2.mono (by omega)).below (Nat.le_refl _)).trans (((hb3.mono (by omega)).below (Nat.le_refl _)).trans ((hb4.mono (by omega)).below (Nat.le_refl _))))
  clear hb1 hb2 hb3 hb4
  go_wp2_with fail
  refine (outDone_any _ _ _ _ ho4).mono ?_
  rintro e w' ⟨rfl, rfl⟩
  go_wp2_with fail
  refine (newIn_any _ _).mono ?_
  rintro e w5 ⟨rfl, hw5⟩
  have hi5 : InIs w5 w4.heap.size [172, 2, 1, 2, 104, 105] 0 := by rw [hw5]; exact InIs.fresh w4 _
  have hb5 : Below w4.heap.size w4 w5 := by rw [hw5]; exact (Below.refl _ _).alloc (Nat.le_refl _) _
  have hs5 : w5.heap.size = w4.heap.size + 1 := by rw [hw5]; simp
  have ho5 := ho4.below hb5
  have H5 := Lib.hid hs5
  clear hw5 hs5 ho4
  have hlt := H1.out
  have H1' : w.heap.size < w4.heap.size := by omega
  clear hlt H1 hs2 hs3 hs4
  go_wp2_with fail
  refine (inNum_any _ _ 0 (by unfold maxLen; decide) _ hi5).mono ?_
  rintro e w6 ⟨rfl, hi6, hb6⟩
  have e6 : Wire.rdNum [172, 2, 1, 2, 104, 105] 0 = (300, [1, 2, 104, 105], 0) := by decide
  rw [e6] at hi6 ⊢
  have ho6 := ho5.but hb6 (by omega) hi5.noRow
  clear e6
  clear hi5 ho5
  simp only at hi6 ⊢
  go_wp2_with fail
  refine (inInt_any _ _ 0 (by unfold maxLen; decide) _ hi6).mono ?_
  rintro e w7 ⟨rfl, hi7, hb7⟩
  have e7 : Wire.rdNum [1, 2, 104, 105] 0 = (1, [2, 104, 105], 0) := by decide
  have e7' : Wire.unzig 1 = -1 := by decide
  rw [e7] at hi7 ⊢
  simp only [e7'] at hi7 ⊢
  have ho7 := ho6.but hb7 (by omega) hi6.noRow
  clear e7 e7' hi6 ho6
  go_wp2_with fail
  refine (inText_any _ _ 0 5 (by decide) (by unfold maxLen; decide) _ hi7).mono ?_
  rintro e w8 ⟨rfl, hi8, hb8⟩
  have e8 : Wire.rdText 5 [2, 104, 105] 0 = ([104, 105], [], 0) := by decide
  rw [e8] at hi8 ⊢
  simp only at hi8 ⊢
  have ho8 := ho7.but hb8 (by omega) hi7.noRow
  clear e8 hi7 ho7
  have hs6 := hb6.size
  have hs7 := hb7.size
  have hs8 := hb8.size
  have h5 := H5.out
  have hBB : Below w.heap.size w w8 := hB4.trans ((hb5.mono (by omega)).trans (((hb6.mono (by omega)).below (by omega)).trans (((hb7.mono (by omega)).below (by omega)).trans ((hb8.mono (by omega)).below (by omega)))))
  clear hb5 hb6 hb7 hb8 hs6 hs7 hs8 h5 H5 hB4
  have hst := strOf_toList [104, 105]
  go_wp2_with fail
  refine (outDone_any _ _ _ _ ho8).mono ?_
  rintro e w' ⟨rfl, rfl⟩
  go_wp2_with fail
  refine (inEnd_any _ _ _ _ hi8).mono ?_
  rintro e w' ⟨rfl, rfl⟩
  go_wp2_with fail
  refine (inErr_any _ _ _ _ hi8).mono ?_
  rintro e w' ⟨rfl, rfl⟩
  go_wp2_with fail
  refine (inLeft_any _ _ _ _ hi8).mono ?_
  rintro e w' ⟨rfl, rfl⟩
  go_wp2_with fail
  go_ret
  exact ⟨rfl, hBB⟩
end Go.Proofs.Ytnohbamjcadfaaa
