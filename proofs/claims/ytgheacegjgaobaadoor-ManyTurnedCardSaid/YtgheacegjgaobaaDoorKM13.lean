/- The walk of the awake of the laws on many leaves. -/
import Derived.Test.YtgheacegjgaobaaDoorKG12a
import Derived.Test.YtgheacegjgaobaaDoorKG6b
import Derived.Test.YtgheacegjgaobaaDoorKG2a
namespace Go.Proofs.YtgheacegjgaobaaDoor
open Go.RowKit
set_option linter.unusedSimpArgs false
set_option linter.unusedVariables false

theorem Many.half_4 : Tree.half 4 = 2 := Tree.half_of (i := 1) (by decide) (by decide)
theorem Many.ex_tops : Many.tops [0, 3] 0 4 = [(1, 1), (2, 1)] := by
  rw [Many.tops_two (by decide) (by decide), Many.half_4, Many.tops_two (by decide) (by decide), Tree.half_2, Many.tops_one (by decide) (by decide), Many.tops_none (by decide)]
  rw [Many.tops_two (by decide) (by decide), Tree.half_2, Many.tops_none (by decide), Many.tops_one (by decide) (by decide)]
  rfl
theorem Many.ex_prove : Many.prove [[97], [98], [99], [100]] [0, 3] = [Tree.leaf [98], Tree.leaf [99]] := by
  unfold Many.prove
  rw [show ([[97], [98], [99], [100]] : List (List UInt8)).length = 4 from rfl, Many.ex_tops]
  simp [Tree.top_one]
theorem Many.ex_rise : Many.Rise ([[97], [98], [99], [100]] : List (List UInt8)).length [0, 3] := by
  refine ⟨by simp, ?_⟩
  intro a ha
  simp at ha
  rcases ha with rfl | rfl <;> decide
theorem Many.ex_top (d : List UInt8) : Tree.top [[97], [98], [99], d] = Tree.node (Tree.node (Tree.leaf [97]) (Tree.leaf [98])) (Tree.node (Tree.leaf [99]) (Tree.leaf d)) := by
  rw [Tree.top_two (by simp), show ([[97], [98], [99], d] : List (List UInt8)).length = 4 from rfl, Many.half_4]
  rw [show (([[97], [98], [99], d] : List (List UInt8)).drop 2) = [[99], d] from rfl, show (([[97], [98], [99], d] : List (List UInt8)).take 2) = [[97], [98]] from rfl]
  rw [Tree.top_two (by decide), show ([[97], [98]] : List (List UInt8)).length = 2 from rfl, Tree.half_2, show (([[97], [98]] : List (List UInt8)).take 1) = [[97]] from rfl, show (([[97], [98]] : List (List UInt8)).drop 1) = [[98]] from rfl, Tree.top_one, Tree.top_one]
  rw [Tree.top_two (by simp), show ([[99], d] : List (List UInt8)).length = 2 from rfl, Tree.half_2, show (([[99], d] : List (List UInt8)).take 1) = [[99]] from rfl, show (([[99], d] : List (List UInt8)).drop 1) = [d] from rfl, Tree.top_one, Tree.top_one]
theorem Many.ex_check : Many.check (Tree.root 4 (Tree.top [[97], [98], [99], [100]])) 4 [0, 3] [[97], [100]] (Many.prove [[97], [98], [99], [100]] [0, 3]) = true :=
  Many.check_prove (l := [[97], [98], [99], [100]]) Many.ex_rise
theorem Many.num_4 : Wire.num 4 = [4] := Wire.num_small 4 (by decide)

set_option maxRecDepth 100000 in
theorem Many.ex_apart : (Sha.of (3 :: ([4] ++ Sha.of (1 :: (Sha.of (1 :: (Sha.of [0, 97] ++ Sha.of [0, 98])) ++ Sha.of (1 :: (Sha.of [0, 99] ++ Sha.of [0, 101])))))) == Sha.of (3 :: ([4] ++ Sha.of (1 :: (Sha.of (1 :: (Sha.of [0, 97] ++ Sha.of [0, 98])) ++ Sha.of (1 :: (Sha.of [0, 99] ++ Sha.of [0, 100]))))))) = false := by decide +kernel

theorem Many.ex_not : Many.check (Tree.root 4 (Tree.top [[97], [98], [99], [100]])) 4 [0, 3] [[97], [101]] (Many.prove [[97], [98], [99], [100]] [0, 3]) = false := by
  have ht : Many.topOf 4 [0, 3] [[97], [101]] (Many.prove [[97], [98], [99], [100]] [0, 3]) = Tree.top [[97], [98], [99], [101]] := by
    refine Many.topOf_prove (l := [[97], [98], [99], [100]]) Many.ex_rise rfl rfl ?_ ?_
    · intro t a h
      match t, h with
      | 0, h => obtain rfl := Option.some.inj h; rfl
      | 1, h => obtain rfl := Option.some.inj h; rfl
    · intro a ha
      match a, ha with
      | 0, ha => exact absurd (by simp) ha
      | 1, _ => rfl
      | 2, _ => rfl
      | 3, ha => exact absurd (by simp) ha
      | _ + 4, _ => rfl
  unfold Many.check
  rw [ht, Many.ex_top, Many.ex_top]
  have h := Many.ex_apart
  unfold Tree.root
  rw [Many.num_4]
  rw [Bool.and_eq_false_iff, Bool.and_eq_false_iff]
  right; right
  exact h

theorem fold_off (k : Nat) (xs : List Value) : ∀ (j : Nat) (a : Array Value), k + j + xs.length ≤ a.size → ((xs.zipIdx j).foldl (fun cs x => cs.setIfInBounds (k + x.2) x.1) a).toList = a.toList.take (k + j) ++ xs ++ a.toList.drop (k + j + xs.length) := by
  induction xs with
  | nil => intro j a h; simp
  | cons x xs ih =>
    intro j a h
    simp only [List.zipIdx_cons, List.foldl_cons, List.length_cons] at h ⊢
    rw [ih (j + 1) _ (by simp; omega)]
    rw [Array.toList_setIfInBounds, show k + (j + 1) = k + j + 1 by omega, List.take_add_one, List.getElem?_set_self (by rw [Array.length_toList]; omega), List.take_set_of_le (by omega), List.drop_set_of_lt (by omega)]
    rw [show k + j + (xs.length + 1) = k + j + 1 + xs.length by omega]
    simp

/-- Two sums, one behind the other. -/
theorem built2 {z : Array Value} {a b : List UInt8} (ha : (byteCells a).length = 32) (hb : (byteCells b).length = 32) (hz : z.size = 64) :
    List.foldl (fun (cs : Array Value) (x : Value × Nat) => cs.setIfInBounds (32 + x.2) x.1) (List.foldl (fun (cs : Array Value) (x : Value × Nat) => cs.setIfInBounds x.2 x.1) z (byteCells a).zipIdx) (byteCells b).zipIdx = (byteCells a ++ byteCells b).toArray := by
  have h1 := fold_off 0 (byteCells a) 0 z (by omega)
  simp only [Nat.zero_add, List.take_zero, List.nil_append] at h1
  have hzl : z.toList.length = 64 := by rw [Array.length_toList, hz]
  have hs : (List.foldl (fun (cs : Array Value) (x : Value × Nat) => cs.setIfInBounds x.2 x.1) z (byteCells a).zipIdx).size = 64 := by
    rw [← Array.length_toList, h1, List.length_append, List.length_drop, hzl, ha]
  have h2 := fold_off 32 (byteCells b) 0 _ (by rw [hs, hb]; decide)
  rw [h1] at h2
  apply Array.toList_inj.1
  rw [h2, List.take_append_of_le_length (by omega), List.take_of_length_le (by omega), List.drop_of_length_le (by rw [List.length_append, List.length_drop, hzl, ha, hb]; decide), List.append_nil]

theorem foldz_size (xs : List (Value × Nat)) : ∀ z : Array Value, (List.foldl (fun (cs : Array Value) (x : Value × Nat) => cs.setIfInBounds x.2 x.1) z xs).size = z.size := by
  induction xs with
  | nil => intro z; rfl
  | cons x xs ih => intro z; rw [List.foldl_cons, ih]; simp

theorem hashes_two (w : World) {a b : List UInt8} (ha : a.length = 32) (hb : b.length = 32) : HashesAt (w.alloc (.cells (byteCells a ++ byteCells b).toArray 23)) (some ⟨w.heap.size, 0, none⟩) 2 2 [a, b] := by
  have hc : (byteCells a ++ byteCells b).length = 64 := by rw [List.length_append, byteCells_length, byteCells_length, ha, hb]
  have he : hashCells [a, b] = byteCells a ++ byteCells b := by simp [hashCells]
  refine HashesAt.of_owns (base := 0) (d := [a, b]) ⟨by rw [he, hc]; rfl, .inr ⟨w.heap.size, 2, _, rfl, Nat.zero_le _, heap_alloc_new w _, Nat.le_refl _, by decide, by simpa using hc, ?_⟩⟩ ?_
  · rw [he]; exact List.take_of_length_le (by rw [hc]; exact Nat.le_refl 64)
  · intro p hp
    simp at hp
    rcases hp with rfl | rfl
    · exact ha
    · exact hb

set_option maxRecDepth 100000 in
set_option maxHeartbeats 4000000 in
theorem awake4_any (w : World) (hL : Laid w) :
    Calls Tryd.prog 10 #[] w fun e w' => e = .returned (.bool true) ∧ Below w.heap.size w w' := by
  obtain ⟨W1, hW1⟩ : ∃ W1, W1 = w.alloc (.cells #[.string ⟨#[97]⟩, .string ⟨#[98]⟩, .string ⟨#[99]⟩, .string ⟨#[100]⟩] 9) := ⟨_, rfl⟩
  obtain ⟨W2, hW2⟩ : ∃ W2, W2 = W1.alloc (.cells #[.int .i64 0, .int .i64 3] 3) := ⟨_, rfl⟩
  have s1 : StrsAt W1 (some ⟨w.heap.size, 0, none⟩) 4 4 [[97], [98], [99], [100]] := by rw [hW1]; exact strs_new w [[97], [98], [99], [100]] 4 rfl (by decide)
  have i2 : IntsAt W2 (some ⟨W1.heap.size, 0, none⟩) 2 2 [0, 3] := by rw [hW2]; exact ints_new W1 [0, 3] 2 rfl (by decide)
  have b1 : Below w.heap.size w W1 := by rw [hW1]; exact (Below.refl _ _).alloc (Nat.le_refl _) _
  have d2 : Below W1.heap.size W1 W2 := by rw [hW2]; exact (Below.refl _ _).alloc (Nat.le_refl _) _
  have hz1 : W1.heap.size = w.heap.size + 1 := by rw [hW1]; simp
  have b2 : Below w.heap.size w W2 := b1.trans (d2.mono b1.size)
  have hs2 := s1.below (Nat.le_refl _) d2
  have HS := Lib.hid hs2; clear hs2 s1
  have HL := Lib.hid (hL.below b2); clear hL
  have hle : ∀ l ∈ [[(97 : UInt8)], [98], [99], [100]], l.length ≤ 100000 := by simp
  have HLE := Lib.hid hle; clear hle
  have hp := manyProve_any W2 _ _ 4 4 2 2 _ [0, 3] HS.out i2 (by simp) (by simp) HLE.out (by decide) (by decide) HL.out
  rw [Many.ex_prove] at hp
  have HP := Lib.hid hp; clear hp i2
  have HW1 := Lib.hid hW1; clear hW1
  have HW2 := Lib.hid hW2; clear hW2
  have hck := Many.ex_check
  have hnot := Many.ex_not
  rw [Many.ex_prove] at hck hnot
  have HCK := Lib.hid hck; clear hck
  have HNOT := Lib.hid hnot; clear hnot
  obtain ⟨R, hR⟩ : ∃ R, R = Tree.root 4 (Tree.top [[97], [98], [99], [100]]) := ⟨_, rfl⟩
  have hRl : R.length = 32 := by rw [hR]; exact Tree.root_len _ _
  rw [← hR] at HCK HNOT
  have HRL := Lib.hid hRl; clear hRl
  have HRE := Lib.hid hR; clear hR
  obtain ⟨lb, hlb⟩ : ∃ lb, lb = Tree.leaf [98] := ⟨_, rfl⟩
  obtain ⟨lc, hlc⟩ : ∃ lc, lc = Tree.leaf [99] := ⟨_, rfl⟩
  have hlb32 : lb.length = 32 := by rw [hlb]; exact Tree.leaf_len _
  have hlc32 : lc.length = 32 := by rw [hlc]; exact Tree.leaf_len _
  have HB := fun w => refLeaf_any w [98] (by decide)
  have HC := fun w => refLeaf_any w [99] (by decide)
  rw [← hlb] at HP HCK HNOT HB
  rw [← hlc] at HP HCK HNOT HC
  have h2l : ([lb, lc] : List (List UInt8)).length = 2 := rfl
  rw [h2l] at HP
  have KB := Lib.hid HB; clear HB
  have KC := Lib.hid HC; clear HC hlb hlc h2l
  have HB32 := Lib.hid hlb32; clear hlb32
  have HC32 := Lib.hid hlc32; clear hlc32
  have hbl : (byteCells lb).length = 32 := by rw [byteCells_length, HB32.out]
  have hcl : (byteCells lc).length = 32 := by rw [byteCells_length, HC32.out]
  go_enter Tryd.func10, Tryd.ntmps10
  go_wp2_with fail
  rw [show (w.alloc (.cells #[.string ⟨#[97]⟩, .string ⟨#[98]⟩, .string ⟨#[99]⟩, .string ⟨#[100]⟩] 9)) = W1 from HW1.out.symm]
  rw [show w.heap.size + 1 = W1.heap.size from hz1.symm, ← HW2.out]
  refine HP.out.mono ?_
  rintro e w3 ⟨q, cc, rfl, hs, d3⟩
  have B3 := b2.trans (d3.mono b2.size)
  have HQ := Lib.hid hs; clear hs
  have b13 : Below W2.heap.size W2 w3 := d3
  replace HS := Lib.hid (HS.out.below (Nat.le_refl _) d3)
  replace HL := Lib.hid (HL.out.below d3)
  go_wp2_with fail
  refine (KB.out _).mono ?_
  rintro e w4 ⟨rfl, d4⟩
  replace HS := Lib.hid (HS.out.below (Nat.le_refl _) d4)
  replace HL := Lib.hid (HL.out.below d4)
  replace HQ := Lib.hid (HQ.out.below (Nat.le_refl _) d4)
  replace B3 := B3.trans (d4.mono B3.size)
  go_wp2_with fail
  refine (KC.out _).mono ?_
  rintro e w5 ⟨rfl, d5⟩
  replace HS := Lib.hid (HS.out.below (Nat.le_refl _) d5)
  replace HL := Lib.hid (HL.out.below d5)
  replace HQ := Lib.hid (HQ.out.below (Nat.le_refl _) d5)
  replace B3 := B3.trans (d5.mono B3.size)
  go_wp2_with fail
  case inl h => exact absurd h (by rw [foldz_size]; decide)
  rw [built2 (ha := hbl) (hb := hcl) (hz := (by exact rfl))]
  obtain ⟨W6, hW6⟩ : ∃ W6, W6 = w5.alloc (.cells (byteCells lb ++ byteCells lc).toArray 23) := ⟨_, rfl⟩
  rw [← hW6]
  have d6 : Below w5.heap.size w5 W6 := by rw [hW6]; exact (Below.refl _ _).alloc (Nat.le_refl _) _
  have hn6 : HashesAt W6 (some ⟨w5.heap.size, 0, none⟩) 2 2 [lb, lc] := by rw [hW6]; exact hashes_two w5 HB32.out HC32.out
  have HW6 := Lib.hid hW6; clear hW6
  replace HS := Lib.hid (HS.out.below (Nat.le_refl _) d6)
  replace HL := Lib.hid (HL.out.below d6)
  replace HQ := Lib.hid (HQ.out.below (Nat.le_refl _) d6)
  replace B3 := B3.trans (d6.mono B3.size)
  have hsm := refSame_any W6 q _ 2 cc 2 2 _ _ HQ.out hn6
  rw [decide_eq_true rfl] at hsm
  have HSM := Lib.hid hsm; clear hsm hn6
  refine HSM.out.mono ?_
  rintro e w7 ⟨rfl, d7⟩
  replace HS := Lib.hid (HS.out.below (Nat.le_refl _) d7)
  replace HL := Lib.hid (HL.out.below d7)
  replace HQ := Lib.hid (HQ.out.below (Nat.le_refl _) d7)
  replace B3 := B3.trans (d7.mono B3.size)
  have hr := refRoot_any w7 _ 4 4 _ HS.out (by decide) HLE.out
  rw [← HRE.out] at hr
  have HR := Lib.hid hr; clear hr
  go_wp2_with fail
  refine HR.out.mono ?_
  rintro e w8 ⟨rfl, d8⟩
  clear HR
  replace HS := Lib.hid (HS.out.below (Nat.le_refl _) d8)
  replace HL := Lib.hid (HL.out.below d8)
  replace HQ := Lib.hid (HQ.out.below (Nat.le_refl _) d8)
  replace B3 := B3.trans (d8.mono B3.size)
  obtain ⟨A8, hA8⟩ : ∃ A8, A8 = w8.alloc (.cells #[.int .i64 0, .int .i64 3] 3) := ⟨_, rfl⟩
  obtain ⟨X8, hX8⟩ : ∃ X8, X8 = A8.alloc (.cells #[.string ⟨#[97]⟩, .string ⟨#[100]⟩] 9) := ⟨_, rfl⟩
  have hi : IntsAt A8 (some ⟨w8.heap.size, 0, none⟩) 2 2 [0, 3] := by rw [hA8]; exact ints_new w8 [0, 3] 2 rfl (by decide)
  have hx : StrsAt X8 (some ⟨A8.heap.size, 0, none⟩) 2 2 [[97], [100]] := by rw [hX8]; exact strs_new A8 [[97], [100]] 2 rfl (by decide)
  have hzz : A8.heap.size = w8.heap.size + 1 := by rw [hA8]; simp
  have ea : Below w8.heap.size w8 A8 := by rw [hA8]; exact (Below.refl _ _).alloc (Nat.le_refl _) _
  have ex : Below A8.heap.size A8 X8 := by rw [hX8]; exact (Below.refl _ _).alloc (Nat.le_refl _) _
  have e8 := ea.trans (ex.mono ea.size)
  replace hi := hi.below (Nat.le_refl _) ex
  replace HS := Lib.hid (HS.out.below (Nat.le_refl _) e8)
  replace HL := Lib.hid (HL.out.below e8)
  replace HQ := Lib.hid (HQ.out.below (Nat.le_refl _) e8)
  replace B3 := B3.trans (e8.mono B3.size)
  have hc := manyCheck_any X8 R HRL.out 4 (by decide) _ _ q 2 2 2 2 2 cc [0, 3] _ _ hi (by simp) (by simp) hx HQ.out (by simp) (by decide) (by decide) (by decide) HL.out
  rw [HCK.out] at hc
  have HCC := Lib.hid hc; clear hc hi hx
  have HA := Lib.hid hA8; clear hA8
  have HX := Lib.hid hX8; clear hX8
  have HZZ := Lib.hid hzz; clear hzz
  go_wp2_with fail
  rw [← HZZ.out, ← HA.out, ← HX.out]
  refine HCC.out.mono ?_
  rintro e w9 ⟨rfl, d9⟩
  clear HCC HA HX HZZ
  replace HS := Lib.hid (HS.out.below (Nat.le_refl _) d9)
  replace HL := Lib.hid (HL.out.below d9)
  replace HQ := Lib.hid (HQ.out.below (Nat.le_refl _) d9)
  replace B3 := B3.trans (d9.mono B3.size)
  have hr := refRoot_any w9 _ 4 4 _ HS.out (by decide) HLE.out
  rw [← HRE.out] at hr
  have HR := Lib.hid hr; clear hr
  go_wp2_with fail
  refine HR.out.mono ?_
  rintro e w10 ⟨rfl, d10⟩
  clear HR
  replace HS := Lib.hid (HS.out.below (Nat.le_refl _) d10)
  replace HL := Lib.hid (HL.out.below d10)
  replace HQ := Lib.hid (HQ.out.below (Nat.le_refl _) d10)
  replace B3 := B3.trans (d10.mono B3.size)
  obtain ⟨A10, hA10⟩ : ∃ A10, A10 = w10.alloc (.cells #[.int .i64 0, .int .i64 3] 3) := ⟨_, rfl⟩
  obtain ⟨X10, hX10⟩ : ∃ X10, X10 = A10.alloc (.cells #[.string ⟨#[97]⟩, .string ⟨#[101]⟩] 9) := ⟨_, rfl⟩
  have hi : IntsAt A10 (some ⟨w10.heap.size, 0, none⟩) 2 2 [0, 3] := by rw [hA10]; exact ints_new w10 [0, 3] 2 rfl (by decide)
  have hx : StrsAt X10 (some ⟨A10.heap.size, 0, none⟩) 2 2 [[97], [101]] := by rw [hX10]; exact strs_new A10 [[97], [101]] 2 rfl (by decide)
  have hzz : A10.heap.size = w10.heap.size + 1 := by rw [hA10]; simp
  have ea : Below w10.heap.size w10 A10 := by rw [hA10]; exact (Below.refl _ _).alloc (Nat.le_refl _) _
  have ex : Below A10.heap.size A10 X10 := by rw [hX10]; exact (Below.refl _ _).alloc (Nat.le_refl _) _
  have e10 := ea.trans (ex.mono ea.size)
  replace hi := hi.below (Nat.le_refl _) ex
  replace HS := Lib.hid (HS.out.below (Nat.le_refl _) e10)
  replace HL := Lib.hid (HL.out.below e10)
  replace HQ := Lib.hid (HQ.out.below (Nat.le_refl _) e10)
  replace B3 := B3.trans (e10.mono B3.size)
  have hc := manyCheck_any X10 R HRL.out 4 (by decide) _ _ q 2 2 2 2 2 cc [0, 3] _ _ hi (by simp) (by simp) hx HQ.out (by simp) (by decide) (by decide) (by decide) HL.out
  rw [HNOT.out] at hc
  have HCC := Lib.hid hc; clear hc hi hx
  have HA := Lib.hid hA10; clear hA10
  have HX := Lib.hid hX10; clear hX10
  have HZZ := Lib.hid hzz; clear hzz
  go_wp2_with fail
  rw [← HZZ.out, ← HA.out, ← HX.out]
  refine HCC.out.mono ?_
  rintro e w11 ⟨rfl, d11⟩
  clear HCC HA HX HZZ
  replace HS := Lib.hid (HS.out.below (Nat.le_refl _) d11)
  replace HL := Lib.hid (HL.out.below d11)
  replace HQ := Lib.hid (HQ.out.below (Nat.le_refl _) d11)
  replace B3 := B3.trans (d11.mono B3.size)
  obtain ⟨A12, hA12⟩ : ∃ A12, A12 = w11.alloc (.cells #[.int .i64 0, .int .i64 3] 3) := ⟨_, rfl⟩
  have hi : IntsAt A12 (some ⟨w11.heap.size, 0, none⟩) 2 2 [0, 3] := by rw [hA12]; exact ints_new w11 [0, 3] 2 rfl (by decide)
  have d12 : Below w11.heap.size w11 A12 := by rw [hA12]; exact (Below.refl _ _).alloc (Nat.le_refl _) _
  replace HS := Lib.hid (HS.out.below (Nat.le_refl _) d12)
  replace HL := Lib.hid (HL.out.below d12)
  replace HQ := Lib.hid (HQ.out.below (Nat.le_refl _) d12)
  replace B3 := B3.trans (d12.mono B3.size)
  have hc := manySize_any A12 4 (by decide) _ 2 2 [0, 3] hi (by decide) (by simp) (by simp) HL.out
  rw [Many.ex_tops] at hc
  have HCC := Lib.hid hc; clear hc hi
  have HA := Lib.hid hA12; clear hA12
  go_wp2_with fail
  rw [← HA.out]
  refine HCC.out.mono ?_
  rintro e w13 ⟨rfl, d13⟩
  clear HCC HA
  replace HS := Lib.hid (HS.out.below (Nat.le_refl _) d13)
  replace HL := Lib.hid (HL.out.below d13)
  replace HQ := Lib.hid (HQ.out.below (Nat.le_refl _) d13)
  replace B3 := B3.trans (d13.mono B3.size)
  obtain ⟨A14, hA14⟩ : ∃ A14, A14 = w13.alloc (.cells #[.int .i64 0, .int .i64 3] 3) := ⟨_, rfl⟩
  have hi : IntsAt A14 (some ⟨w13.heap.size, 0, none⟩) 2 2 [0, 3] := by rw [hA14]; exact ints_new w13 [0, 3] 2 rfl (by decide)
  have d14 : Below w13.heap.size w13 A14 := by rw [hA14]; exact (Below.refl _ _).alloc (Nat.le_refl _) _
  replace HS := Lib.hid (HS.out.below (Nat.le_refl _) d14)
  replace HL := Lib.hid (HL.out.below d14)
  replace HQ := Lib.hid (HQ.out.below (Nat.le_refl _) d14)
  replace B3 := B3.trans (d14.mono B3.size)
  have hc := manyRises_any A14 4 _ 2 2 [0, 3] hi
  rw [show risesB 4 [0, 3] = true by decide] at hc
  have HCC := Lib.hid hc; clear hc hi
  have HA := Lib.hid hA14; clear hA14
  go_wp2_with fail
  rw [← HA.out]
  refine HCC.out.mono ?_
  rintro e w15 ⟨rfl, d15⟩
  clear HCC HA
  replace HS := Lib.hid (HS.out.below (Nat.le_refl _) d15)
  replace HL := Lib.hid (HL.out.below d15)
  replace HQ := Lib.hid (HQ.out.below (Nat.le_refl _) d15)
  replace B3 := B3.trans (d15.mono B3.size)
  go_wp2_with fail
  go_ret
  exact ⟨rfl, B3⟩


end Go.Proofs.YtgheacegjgaobaaDoor
