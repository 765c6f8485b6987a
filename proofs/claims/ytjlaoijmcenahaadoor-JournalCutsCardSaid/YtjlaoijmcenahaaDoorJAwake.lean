/- The walk of the journal laws' awake: it returns true. -/
import Derived.Test.YtjlaoijmcenahaaDoorG10a
namespace Go.Proofs.YtjlaoijmcenahaaDoor
open Go.RowKit
set_option linter.unusedSimpArgs false
set_option linter.unusedVariables false

theorem strs_one {w : World} {g : Nat} {x : List UInt8} (h : w.heap[g]? = some (.cells #[.string (strOf x)] 9 (0, 0))) : StrsAt w (some ⟨g, 0, none⟩) 1 1 [x] := by
  refine ⟨rfl, Nat.le_refl _, by decide, fun _ => ⟨g, 0, rfl, lt_of_block h, fun i l hl => ?_⟩⟩
  match i, hl with
  | 0, hl =>
    obtain rfl := Option.some.inj hl
    intro j v hv
    match j, hv with
    | 0, hv =>
      obtain rfl := Option.some.inj hv
      simp [World.cell?, h]

theorem step_short2 (last : List UInt8) (x : List UInt8) (hx : x.length < 9) : J.step last x = none := by
  cases hs : J.step last x with
  | none => rfl
  | some v =>
    obtain ⟨t, n⟩ := v
    obtain ⟨h1, h2, h3, h4⟩ := J.step_inv hs
    have := J.rec_len last t
    have := J.text_pos t
    omega

theorem ex_append : J.append [] [97] = J.rec J.zero [97] := by
  unfold J.append
  rw [J.read_nil]
  rfl
theorem ex_text : J.text [97] = [1, 97] := by
  unfold J.text
  rw [show ([97] : List UInt8).length = 1 from rfl, Wire.num_small 1 (by decide)]
  rfl
theorem ex_read (x : List UInt8) (hx : x.length < 9) : J.read J.zero (J.rec J.zero [97] ++ x) = ([[97]], 10, J.sum J.zero [97]) := by
  rw [J.read_rec (by decide), J.read_none (step_short2 _ x hx), J.rec_len, ex_text]
  rfl

/-- What the region's operations leave. -/
def awjV (G k c : Nat) (q : Option Addr) (s S : List UInt8) (ix : Nat) (w : World) (v : Value) : Prop :=
  match ix with
  | 0 => v = .int .i64 (0)
  | 1 => v = .bool true
  | 2 => v = .bool true
  | 3 => v = .string (strOf s)
  | 4 => v = .int .i64 (s.length : Int)
  | 5 => v = .bool true
  | 6 => v = .bool true
  | 7 => v = .bool true
  | 8 => v = .string (strOf s)
  | 9 => v = .string (strOf (s.take 2))
  | 10 => v = .bool true
  | 11 => v = .bool true
  | 12 => v = .bool true
  | 13 => v = .string (strOf s)
  | 14 => v = .string (strOf (s.drop 2))
  | 15 => v = .slice (some ⟨G, 0, none⟩) 8 32
  | 16 => v = .string (strOf (S.take 8))
  | 17 => v = .bool true
  | 18 => v = .bool true
  | 19 => v = .bool true
  | 20 => v = .slice q k c
  | 21 => ∃ g, v = .slice (some ⟨g, 0, none⟩) 1 1 ∧ w.heap[g]? = some (.cells #[.string (strOf [97])] 9 (0, 0))
  | 22 => v = .bool true
  | 23 => v = .bool true
  | 24 => v = .bool true
  | 25 => v = .int .i64 (10)
  | 26 => v = .bool true
  | 27 => v = .bool true
  | 28 => v = .bool true
  | 29 => v = .string (strOf s)
  | 30 => v = .string (strOf (J.cut s 3))
  | 31 => v = .string (strOf s)
  | 32 => v = .string (strOf (s.take 3))
  | 33 => v = .bool true
  | 34 => v = .bool true
  | 35 => v = .bool true
  | _ => True

theorem awjV_mono (G k c : Nat) (q : Option Addr) (s S : List UInt8) (jx : Nat) (w w' : World) (v : Value) (hb : Below w.heap.size w w') (h : awjV G k c q s S jx w v) : awjV G k c q s S jx w' v := by
  match jx, h with
  | 0, h => exact h
  | 1, h => exact h
  | 2, h => exact h
  | 3, h => exact h
  | 4, h => exact h
  | 5, h => exact h
  | 6, h => exact h
  | 7, h => exact h
  | 8, h => exact h
  | 9, h => exact h
  | 10, h => exact h
  | 11, h => exact h
  | 12, h => exact h
  | 13, h => exact h
  | 14, h => exact h
  | 15, h => exact h
  | 16, h => exact h
  | 17, h => exact h
  | 18, h => exact h
  | 19, h => exact h
  | 20, h => exact h
  | 21, h => exact (let ⟨g, h1, h2⟩ := h; ⟨g, h1, (hb.block g (lt_of_block h2)).trans h2⟩)
  | 22, h => exact h
  | 23, h => exact h
  | 24, h => exact h
  | 25, h => exact h
  | 26, h => exact h
  | 27, h => exact h
  | 28, h => exact h
  | 29, h => exact h
  | 30, h => exact h
  | 31, h => exact h
  | 32, h => exact h
  | 33, h => exact h
  | 34, h => exact h
  | 35, h => exact h
  | _ + 36, h => exact trivial

set_option maxRecDepth 100000 in
set_option maxHeartbeats 4000000 in
theorem awake_any (w : World) (hL : Laid w) :
    Calls Tryd.prog 11 #[] w fun e w' => e = .returned (.bool true) ∧ Below w.heap.size w w' := by
  have h1 := journalAppend_any w [] [97] (by decide) (by decide) hL
  rw [ex_append] at h1
  have h2 := fun (w1 : World) (b1 : Below w.heap.size w w1) => jSum_any w1 J.zero [97] J.zero_len (by decide) (hL.below b1)
  have h3 := fun (w1 : World) (b1 : Below w.heap.size w w1) => journalRead_any w1 (J.rec J.zero [97] ++ [122, 122]) (by rw [List.length_append, J.rec_len, ex_text]; decide) (hL.below b1)
  simp only [ex_read [122, 122] (by decide)] at h3
  obtain ⟨S, hS⟩ : ∃ S, S = J.sum J.zero [97] := ⟨_, rfl⟩
  have hSl : S.length = 32 := by rw [hS]; exact J.sum_len _ _
  obtain ⟨s, hs⟩ : ∃ s, s = J.rec J.zero [97] := ⟨_, rfl⟩
  have hse : s = [1, 97] ++ S.take 8 := by rw [hs, hS]; unfold J.rec; rw [ex_text]
  rw [← hs] at h1
  simp only [← hS] at h2
  simp only [← hs] at h3
  clear hs hS
  have hslen : s.length = 10 := by rw [hse, List.length_append, List.length_take, hSl]; rfl
  have t1 : ((strOf (s.take 2)).toList == [1, 97]) = true := by rw [strOf_toList, hse]; rfl
  have t2 : ((strOf (s.drop 2)).toList == (strOf (S.take 8)).toList) = true := by rw [hse]; exact beq_self_eq_true _
  have t3 : ((strOf (J.cut s 3)).toList == (strOf (s.take 3)).toList) = true := by unfold J.cut; rw [hslen]; exact beq_self_eq_true _
  have hst := strOf_size s
  have hsl1 : 10 ≤ s.length := by omega
  have hsl2 : s.length ≤ 10 := by omega
  have hadd : strOf s ++ (⟨#[122, 122]⟩ : ByteArray) = strOf (s ++ [122, 122]) := add_str s [122, 122]
  have hs2 : (⟨#[122, 122]⟩ : ByteArray).size = 2 := rfl
  have HT1 := Lib.hid t1; clear t1
  have HT2 := Lib.hid t2; clear t2
  have HT3 := Lib.hid t3; clear t3
  have HSL := Lib.hid hSl; clear hSl
  have HSLEN : Hid (10 ≤ s.length ∧ s.length ≤ 10) := Lib.hid (by omega)
  clear hslen
  have HC1 := Lib.hid h1; clear h1
  have HC2 := Lib.hid h2; clear h2
  have HC3 := Lib.hid h3; clear h3
  clear hse hL
  go_enter Tryd.func11, Tryd.ntmps11
  go_wp2_with fail
  refine HC1.out.mono ?_
  rintro e w0 ⟨rfl, b1⟩
  have hc2 := HC2.out w0 b1
  have HC2' := Lib.hid hc2; clear hc2 HC2 HC1
  go_wp2_with ((with_reducible show wpList _ _ _ (⟨some 10, _, _, _, _, _⟩ :: _) _ _); refine wpList_zero_hash (op := ⟨some 10, _, _, _, _, _⟩) (by kernel_rfl) rfl ?_)
  refine HC2'.out.mono ?_
  rintro e w1 ⟨rfl, b2⟩
  obtain ⟨W2, hW2⟩ : ∃ W2, W2 = hset (w1.alloc (.cells zero32 31)) w1.heap.size S := ⟨_, rfl⟩
  have xs : W2.heap[w1.heap.size]? = some (.cells (byteCells S).toArray 31 (0, 0)) := by rw [hW2]; exact hset_heap _ (heap_alloc_new _ _)
  have bw2 : Below w1.heap.size w1 W2 := by rw [hW2]; exact hset_below _ ((Below.refl _ _).alloc (Nat.le_refl _) _) (Nat.le_refl _)
  have B2 := b1.trans ((b2.trans (bw2.mono b2.size)).mono b1.size)
  have hc3 := HC3.out W2 B2
  have HC3' := Lib.hid hc3; clear hc3 HC3 HC2'
  have XS2 := Lib.hid xs; clear xs
  have HW2 := Lib.hid hW2; clear hW2 b1 b2 bw2
  go_wp2_with ((with_reducible show wpList _ _ _ (⟨none, .store 31 (.tmp 3) (.tmp 11), _, _, _, _⟩ :: _) _ _); change wpList _ _ _ _ _ (World.alloc w1 (.cells zero32 31)); refine wpList_put_hash (o := ⟨none, .store _ _ _, _, _, _, _⟩) rfl _ _ rfl _ rfl S HSL.out rfl _ _ (heap_alloc_new _ _) zero32_size ?_; rw [← HW2.out])
  refine HC3'.out.mono ?_
  rintro e w4 ⟨q, c, k, rfl, hs4, b4⟩
  have HX := Lib.hid hs4; clear hs4
  have XS : Hid (w4.heap[w1.heap.size]? = some (.cells (byteCells S).toArray 31 (0, 0))) := Lib.hid ((b4.block _ (lt_of_block XS2.out)).trans XS2.out)
  have BB : Hid (Below w.heap.size w w4) := Lib.hid (B2.trans (b4.mono B2.size))
  clear HC3' HW2 XS2 B2 b4
  go_wp2_with fail
  refine wp_region_rel [[], [0], [1], [2], [2, 3], [2, 4], [2, 5], [6], [7], [7, 8], [7, 9], [7, 10], [11], [12], [12, 13], [12], [12, 15], [12, 14, 16], [12, 17], [18], [19], [19], [19, 20, 21], [19, 22], [23], [24], [24, 25], [24, 26], [27], [28], [28, 29], [28], [28, 31], [28, 30, 32], [28, 33], [34]] (awjV w1.heap.size k c q s S) 53 (by kernel_rfl) (by kernel_rfl) (by kernel_rfl) (awjV_mono w1.heap.size k c q s S) ?_ ?_
  · intro ix op hi w5 b2 vs hv
    have him : ix < 36 := (List.getElem?_eq_some_iff.1 hi).1
    obtain ⟨hsl1, hsl2⟩ := HSLEN.out
    match ix, him, hi with
    | 0, _, hi =>
      obtain rfl := Option.some.inj hi
      simp only [relF, List.getD_cons_zero, List.getD_cons_succ, List.foldl_cons, List.foldl_nil, dstAt, List.getElem?_cons_zero, List.getElem?_cons_succ, Option.bind_some]
      go_wp2_with fail
      exact ⟨rfl, Below.refl _ _, rfl, rfl⟩
    | 1, _, hi =>
      obtain rfl := Option.some.inj hi
      have h0 : vs 0 = _ := hv 0 (by decide)
      simp only [relF, List.getD_cons_zero, List.getD_cons_succ, List.foldl_cons, List.foldl_nil, dstAt, List.getElem?_cons_zero, List.getElem?_cons_succ, Option.bind_some]
      go_frame
      rw [h0]
      go_wp2_with fail
      exact ⟨rfl, Below.refl _ _, rfl, by first | rfl | (show slotOf _ _ = _; simp [slotOf])⟩
    | 2, _, hi =>
      obtain rfl := Option.some.inj hi
      have h1 : vs 1 = _ := hv 1 (by decide)
      simp only [relF, List.getD_cons_zero, List.getD_cons_succ, List.foldl_cons, List.foldl_nil, dstAt, List.getElem?_cons_zero, List.getElem?_cons_succ, Option.bind_some]
      go_frame
      rw [h1]
      go_wp2_with fail
      exact ⟨rfl, Below.refl _ _, rfl, rfl⟩
    | 3, _, hi =>
      obtain rfl := Option.some.inj hi
      have h2 : vs 2 = _ := hv 2 (by decide)
      simp only [relF, List.getD_cons_zero, List.getD_cons_succ, List.foldl_cons, List.foldl_nil, dstAt, List.getElem?_cons_zero, List.getElem?_cons_succ, Option.bind_some]
      go_frame
      rw [h2]
      go_wp2_with fail
      exact ⟨rfl, Below.refl _ _, rfl, rfl⟩
    | 4, _, hi =>
      obtain rfl := Option.some.inj hi
      have h2 : vs 2 = _ := hv 2 (by decide)
      have h3 : vs 3 = _ := hv 3 (by decide)
      have hst := strOf_size s
      simp only [relF, List.getD_cons_zero, List.getD_cons_succ, List.foldl_cons, List.foldl_nil, dstAt, List.getElem?_cons_zero, List.getElem?_cons_succ, Option.bind_some]
      go_frame
      rw [h2, h3]
      go_wp2_with fail
      exact ⟨rfl, Below.refl _ _, rfl, rfl⟩
    | 5, _, hi =>
      obtain rfl := Option.some.inj hi
      have h2 : vs 2 = _ := hv 2 (by decide)
      have h4 : vs 4 = _ := hv 4 (by decide)
      simp only [relF, List.getD_cons_zero, List.getD_cons_succ, List.foldl_cons, List.foldl_nil, dstAt, List.getElem?_cons_zero, List.getElem?_cons_succ, Option.bind_some]
      go_frame
      rw [h2, h4]
      go_wp2_with fail
      exact ⟨rfl, Below.refl _ _, rfl, by first | rfl | (show slotOf _ _ = _; simp [slotOf]; done) | (show slotOf _ _ = _; simp [slotOf]; omega)⟩
    | 6, _, hi =>
      obtain rfl := Option.some.inj hi
      have h2 : vs 2 = _ := hv 2 (by decide)
      have h5 : vs 5 = _ := hv 5 (by decide)
      simp only [relF, List.getD_cons_zero, List.getD_cons_succ, List.foldl_cons, List.foldl_nil, dstAt, List.getElem?_cons_zero, List.getElem?_cons_succ, Option.bind_some]
      go_frame
      rw [h2, h5]
      go_wp2_with fail
      exact ⟨rfl, Below.refl _ _, rfl, rfl⟩
    | 7, _, hi =>
      obtain rfl := Option.some.inj hi
      have h6 : vs 6 = _ := hv 6 (by decide)
      simp only [relF, List.getD_cons_zero, List.getD_cons_succ, List.foldl_cons, List.foldl_nil, dstAt, List.getElem?_cons_zero, List.getElem?_cons_succ, Option.bind_some]
      go_frame
      rw [h6]
      go_wp2_with fail
      exact ⟨rfl, Below.refl _ _, rfl, rfl⟩
    | 8, _, hi =>
      obtain rfl := Option.some.inj hi
      have h7 : vs 7 = _ := hv 7 (by decide)
      simp only [relF, List.getD_cons_zero, List.getD_cons_succ, List.foldl_cons, List.foldl_nil, dstAt, List.getElem?_cons_zero, List.getElem?_cons_succ, Option.bind_some]
      go_frame
      rw [h7]
      go_wp2_with fail
      exact ⟨rfl, Below.refl _ _, rfl, rfl⟩
    | 9, _, hi =>
      obtain rfl := Option.some.inj hi
      have h7 : vs 7 = _ := hv 7 (by decide)
      have h8 : vs 8 = _ := hv 8 (by decide)
      have hx := strOf_extract s 0 2
      rw [Nat.sub_zero, List.drop_zero] at hx
      simp only [relF, List.getD_cons_zero, List.getD_cons_succ, List.foldl_cons, List.foldl_nil, dstAt, List.getElem?_cons_zero, List.getElem?_cons_succ, Option.bind_some]
      go_frame
      rw [h7, h8]
      go_wp2_with fail
      exact ⟨rfl, Below.refl _ _, rfl, by first | rfl | (show slotOf _ _ = _; simp [slotOf, strOf_extract]; done) | (show slotOf _ _ = _; simp only [slotOf]; first | rfl | (simp [hx]; done) | (simp [strOf_extract]; omega))⟩
    | 10, _, hi =>
      obtain rfl := Option.some.inj hi
      have h7 : vs 7 = _ := hv 7 (by decide)
      have h9 : vs 9 = _ := hv 9 (by decide)
      have hse := HT1.out
      simp only [relF, List.getD_cons_zero, List.getD_cons_succ, List.foldl_cons, List.foldl_nil, dstAt, List.getElem?_cons_zero, List.getElem?_cons_succ, Option.bind_some]
      go_frame
      rw [h7, h9]
      go_wp2_with fail
      exact ⟨rfl, Below.refl _ _, rfl, rfl⟩
    | 11, _, hi =>
      obtain rfl := Option.some.inj hi
      have h7 : vs 7 = _ := hv 7 (by decide)
      have h10 : vs 10 = _ := hv 10 (by decide)
      simp only [relF, List.getD_cons_zero, List.getD_cons_succ, List.foldl_cons, List.foldl_nil, dstAt, List.getElem?_cons_zero, List.getElem?_cons_succ, Option.bind_some]
      go_frame
      rw [h7, h10]
      go_wp2_with fail
      exact ⟨rfl, Below.refl _ _, rfl, rfl⟩
    | 12, _, hi =>
      obtain rfl := Option.some.inj hi
      have h11 : vs 11 = _ := hv 11 (by decide)
      simp only [relF, List.getD_cons_zero, List.getD_cons_succ, List.foldl_cons, List.foldl_nil, dstAt, List.getElem?_cons_zero, List.getElem?_cons_succ, Option.bind_some]
      go_frame
      rw [h11]
      go_wp2_with fail
      exact ⟨rfl, Below.refl _ _, rfl, rfl⟩
    | 13, _, hi =>
      obtain rfl := Option.some.inj hi
      have h12 : vs 12 = _ := hv 12 (by decide)
      simp only [relF, List.getD_cons_zero, List.getD_cons_succ, List.foldl_cons, List.foldl_nil, dstAt, List.getElem?_cons_zero, List.getElem?_cons_succ, Option.bind_some]
      go_frame
      rw [h12]
      go_wp2_with fail
      exact ⟨rfl, Below.refl _ _, rfl, rfl⟩
    | 14, _, hi =>
      obtain rfl := Option.some.inj hi
      have h12 : vs 12 = _ := hv 12 (by decide)
      have h13 : vs 13 = _ := hv 13 (by decide)
      have hx := strOf_from s 2
      simp only [relF, List.getD_cons_zero, List.getD_cons_succ, List.foldl_cons, List.foldl_nil, dstAt, List.getElem?_cons_zero, List.getElem?_cons_succ, Option.bind_some]
      go_frame
      rw [h12, h13]
      go_wp2_with fail
      exact ⟨rfl, Below.refl _ _, rfl, by first | rfl | (show slotOf _ _ = _; simp [slotOf, strOf_extract]; done) | (show slotOf _ _ = _; simp only [slotOf]; first | rfl | (simp [hx]; done) | (simp [strOf_extract]; omega))⟩
    | 15, _, hi =>
      obtain rfl := Option.some.inj hi
      have h12 : vs 12 = _ := hv 12 (by decide)
      simp only [relF, List.getD_cons_zero, List.getD_cons_succ, List.foldl_cons, List.foldl_nil, dstAt, List.getElem?_cons_zero, List.getElem?_cons_succ, Option.bind_some]
      go_frame
      rw [h12]
      go_wp2_with fail
      exact ⟨rfl, Below.refl _ _, rfl, rfl⟩
    | 16, _, hi =>
      obtain rfl := Option.some.inj hi
      have h12 : vs 12 = _ := hv 12 (by decide)
      have h15 : vs 15 = _ := hv 15 (by decide)
      have hcv := hash_str8 HSL.out ((b2.block _ (lt_of_block XS.out)).trans XS.out)
      simp only [relF, List.getD_cons_zero, List.getD_cons_succ, List.foldl_cons, List.foldl_nil, dstAt, List.getElem?_cons_zero, List.getElem?_cons_succ, Option.bind_some]
      go_frame
      rw [h12, h15]
      go_wp2_with fail
      exact ⟨rfl, Below.refl _ _, rfl, rfl⟩
    | 17, _, hi =>
      obtain rfl := Option.some.inj hi
      have h12 : vs 12 = _ := hv 12 (by decide)
      have h14 : vs 14 = _ := hv 14 (by decide)
      have h16 : vs 16 = _ := hv 16 (by decide)
      have hse := HT2.out
      simp only [relF, List.getD_cons_zero, List.getD_cons_succ, List.foldl_cons, List.foldl_nil, dstAt, List.getElem?_cons_zero, List.getElem?_cons_succ, Option.bind_some]
      go_frame
      rw [h12, h14, h16]
      go_wp2_with fail
      exact ⟨rfl, Below.refl _ _, rfl, rfl⟩
    | 18, _, hi =>
      obtain rfl := Option.some.inj hi
      have h12 : vs 12 = _ := hv 12 (by decide)
      have h17 : vs 17 = _ := hv 17 (by decide)
      simp only [relF, List.getD_cons_zero, List.getD_cons_succ, List.foldl_cons, List.foldl_nil, dstAt, List.getElem?_cons_zero, List.getElem?_cons_succ, Option.bind_some]
      go_frame
      rw [h12, h17]
      go_wp2_with fail
      exact ⟨rfl, Below.refl _ _, rfl, rfl⟩
    | 19, _, hi =>
      obtain rfl := Option.some.inj hi
      have h18 : vs 18 = _ := hv 18 (by decide)
      simp only [relF, List.getD_cons_zero, List.getD_cons_succ, List.foldl_cons, List.foldl_nil, dstAt, List.getElem?_cons_zero, List.getElem?_cons_succ, Option.bind_some]
      go_frame
      rw [h18]
      go_wp2_with fail
      exact ⟨rfl, Below.refl _ _, rfl, rfl⟩
    | 20, _, hi =>
      obtain rfl := Option.some.inj hi
      have h19 : vs 19 = _ := hv 19 (by decide)
      simp only [relF, List.getD_cons_zero, List.getD_cons_succ, List.foldl_cons, List.foldl_nil, dstAt, List.getElem?_cons_zero, List.getElem?_cons_succ, Option.bind_some]
      go_frame
      rw [h19]
      go_wp2_with fail
      exact ⟨rfl, Below.refl _ _, rfl, rfl⟩
    | 21, _, hi =>
      obtain rfl := Option.some.inj hi
      have h19 : vs 19 = _ := hv 19 (by decide)
      simp only [relF, List.getD_cons_zero, List.getD_cons_succ, List.foldl_cons, List.foldl_nil, dstAt, List.getElem?_cons_zero, List.getElem?_cons_succ, Option.bind_some]
      go_frame
      rw [h19]
      go_wp2_with fail
      exact ⟨rfl, (Below.refl _ _).alloc (Nat.le_refl _) _, rfl, w5.heap.size, rfl, heap_alloc_new _ _⟩
    | 22, _, hi =>
      obtain rfl := Option.some.inj hi
      have h19 : vs 19 = _ := hv 19 (by decide)
      have h20 : vs 20 = _ := hv 20 (by decide)
      obtain ⟨g21, e21, s21⟩ := hv 21 (by decide)
      have hsm := refSame_any w5 _ _ _ _ _ _ _ _ (HX.out.below (Nat.le_refl _) b2) (strs_one s21)
      rw [decide_eq_true rfl] at hsm
      simp only [relF, List.getD_cons_zero, List.getD_cons_succ, List.foldl_cons, List.foldl_nil, dstAt, List.getElem?_cons_zero, List.getElem?_cons_succ, Option.bind_some]
      go_frame
      rw [h19, h20, e21]
      go_wp2_with fail
      refine (hsm).mono ?_
      rintro e w3 ⟨rfl, b3⟩
      go_wp2_with fail
      exact ⟨rfl, b3, rfl, rfl⟩
    | 23, _, hi =>
      obtain rfl := Option.some.inj hi
      have h19 : vs 19 = _ := hv 19 (by decide)
      have h22 : vs 22 = _ := hv 22 (by decide)
      simp only [relF, List.getD_cons_zero, List.getD_cons_succ, List.foldl_cons, List.foldl_nil, dstAt, List.getElem?_cons_zero, List.getElem?_cons_succ, Option.bind_some]
      go_frame
      rw [h19, h22]
      go_wp2_with fail
      exact ⟨rfl, Below.refl _ _, rfl, rfl⟩
    | 24, _, hi =>
      obtain rfl := Option.some.inj hi
      have h23 : vs 23 = _ := hv 23 (by decide)
      simp only [relF, List.getD_cons_zero, List.getD_cons_succ, List.foldl_cons, List.foldl_nil, dstAt, List.getElem?_cons_zero, List.getElem?_cons_succ, Option.bind_some]
      go_frame
      rw [h23]
      go_wp2_with fail
      exact ⟨rfl, Below.refl _ _, rfl, rfl⟩
    | 25, _, hi =>
      obtain rfl := Option.some.inj hi
      have h24 : vs 24 = _ := hv 24 (by decide)
      simp only [relF, List.getD_cons_zero, List.getD_cons_succ, List.foldl_cons, List.foldl_nil, dstAt, List.getElem?_cons_zero, List.getElem?_cons_succ, Option.bind_some]
      go_frame
      rw [h24]
      go_wp2_with fail
      exact ⟨rfl, Below.refl _ _, rfl, rfl⟩
    | 26, _, hi =>
      obtain rfl := Option.some.inj hi
      have h24 : vs 24 = _ := hv 24 (by decide)
      have h25 : vs 25 = _ := hv 25 (by decide)
      simp only [relF, List.getD_cons_zero, List.getD_cons_succ, List.foldl_cons, List.foldl_nil, dstAt, List.getElem?_cons_zero, List.getElem?_cons_succ, Option.bind_some]
      go_frame
      rw [h24, h25]
      go_wp2_with fail
      exact ⟨rfl, Below.refl _ _, rfl, by first | rfl | (show slotOf _ _ = _; simp [slotOf])⟩
    | 27, _, hi =>
      obtain rfl := Option.some.inj hi
      have h24 : vs 24 = _ := hv 24 (by decide)
      have h26 : vs 26 = _ := hv 26 (by decide)
      simp only [relF, List.getD_cons_zero, List.getD_cons_succ, List.foldl_cons, List.foldl_nil, dstAt, List.getElem?_cons_zero, List.getElem?_cons_succ, Option.bind_some]
      go_frame
      rw [h24, h26]
      go_wp2_with fail
      exact ⟨rfl, Below.refl _ _, rfl, rfl⟩
    | 28, _, hi =>
      obtain rfl := Option.some.inj hi
      have h27 : vs 27 = _ := hv 27 (by decide)
      simp only [relF, List.getD_cons_zero, List.getD_cons_succ, List.foldl_cons, List.foldl_nil, dstAt, List.getElem?_cons_zero, List.getElem?_cons_succ, Option.bind_some]
      go_frame
      rw [h27]
      go_wp2_with fail
      exact ⟨rfl, Below.refl _ _, rfl, rfl⟩
    | 29, _, hi =>
      obtain rfl := Option.some.inj hi
      have h28 : vs 28 = _ := hv 28 (by decide)
      simp only [relF, List.getD_cons_zero, List.getD_cons_succ, List.foldl_cons, List.foldl_nil, dstAt, List.getElem?_cons_zero, List.getElem?_cons_succ, Option.bind_some]
      go_frame
      rw [h28]
      go_wp2_with fail
      exact ⟨rfl, Below.refl _ _, rfl, rfl⟩
    | 30, _, hi =>
      obtain rfl := Option.some.inj hi
      have h28 : vs 28 = _ := hv 28 (by decide)
      have h29 : vs 29 = _ := hv 29 (by decide)
      simp only [relF, List.getD_cons_zero, List.getD_cons_succ, List.foldl_cons, List.foldl_nil, dstAt, List.getElem?_cons_zero, List.getElem?_cons_succ, Option.bind_some]
      go_frame
      rw [h28, h29]
      go_wp2_with fail
      refine (journalCut_any w5 s 3 (by omega)).mono ?_
      rintro e w3 ⟨rfl, rfl⟩
      go_wp2_with fail
      exact ⟨rfl, Below.refl _ _, rfl, rfl⟩
    | 31, _, hi =>
      obtain rfl := Option.some.inj hi
      have h28 : vs 28 = _ := hv 28 (by decide)
      simp only [relF, List.getD_cons_zero, List.getD_cons_succ, List.foldl_cons, List.foldl_nil, dstAt, List.getElem?_cons_zero, List.getElem?_cons_succ, Option.bind_some]
      go_frame
      rw [h28]
      go_wp2_with fail
      exact ⟨rfl, Below.refl _ _, rfl, rfl⟩
    | 32, _, hi =>
      obtain rfl := Option.some.inj hi
      have h28 : vs 28 = _ := hv 28 (by decide)
      have h31 : vs 31 = _ := hv 31 (by decide)
      have hx := strOf_extract s 0 3
      rw [Nat.sub_zero, List.drop_zero] at hx
      simp only [relF, List.getD_cons_zero, List.getD_cons_succ, List.foldl_cons, List.foldl_nil, dstAt, List.getElem?_cons_zero, List.getElem?_cons_succ, Option.bind_some]
      go_frame
      rw [h28, h31]
      go_wp2_with fail
      exact ⟨rfl, Below.refl _ _, rfl, by first | rfl | (show slotOf _ _ = _; simp [slotOf, strOf_extract]; done) | (show slotOf _ _ = _; simp only [slotOf]; first | rfl | (simp [hx]; done) | (simp [strOf_extract]; omega))⟩
    | 33, _, hi =>
      obtain rfl := Option.some.inj hi
      have h28 : vs 28 = _ := hv 28 (by decide)
      have h30 : vs 30 = _ := hv 30 (by decide)
      have h32 : vs 32 = _ := hv 32 (by decide)
      have hse := HT3.out
      simp only [relF, List.getD_cons_zero, List.getD_cons_succ, List.foldl_cons, List.foldl_nil, dstAt, List.getElem?_cons_zero, List.getElem?_cons_succ, Option.bind_some]
      go_frame
      rw [h28, h30, h32]
      go_wp2_with fail
      exact ⟨rfl, Below.refl _ _, rfl, rfl⟩
    | 34, _, hi =>
      obtain rfl := Option.some.inj hi
      have h28 : vs 28 = _ := hv 28 (by decide)
      have h33 : vs 33 = _ := hv 33 (by decide)
      simp only [relF, List.getD_cons_zero, List.getD_cons_succ, List.foldl_cons, List.foldl_nil, dstAt, List.getElem?_cons_zero, List.getElem?_cons_succ, Option.bind_some]
      go_frame
      rw [h28, h33]
      go_wp2_with fail
      exact ⟨rfl, Below.refl _ _, rfl, rfl⟩
    | 35, _, hi =>
      obtain rfl := Option.some.inj hi
      have h34 : vs 34 = _ := hv 34 (by decide)
      simp only [relF, List.getD_cons_zero, List.getD_cons_succ, List.foldl_cons, List.foldl_nil, dstAt, List.getElem?_cons_zero, List.getElem?_cons_succ, Option.bind_some]
      go_frame
      rw [h34]
      go_wp2_with fail
      exact ⟨rfl, Below.refl _ _, rfl, rfl⟩
    | nx + 36, him, _ => exact absurd him (by omega)
  · intro w5 b2 vs hv
    obtain ⟨hsl1, hsl2⟩ := HSLEN.out
    have h35 : vs 35 = _ := hv 35 (by decide)
    simp only [relF, List.drop_succ_cons, List.drop_zero, List.length_cons, List.length_nil, Nat.zero_add, Nat.reduceAdd, List.range, List.range.loop, List.foldl_cons, List.foldl_nil, dstAt, List.getElem?_cons_zero, List.getElem?_cons_succ, Option.bind_some]
    go_frame
    rw [h35]
    go_wp2_with fail
    go_ret
    exact ⟨rfl, BB.out.trans (b2.mono BB.out.size)⟩

end Go.Proofs.YtjlaoijmcenahaaDoor
