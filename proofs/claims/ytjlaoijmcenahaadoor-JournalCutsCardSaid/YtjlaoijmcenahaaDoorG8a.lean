/- J5, in one text. -/
import Derived.Test.YtjlaoijmcenahaaDoorJ4
/- The walks of journal.Read, Append, Cut. -/
namespace Go.Proofs.YtjlaoijmcenahaaDoor
open Go.RowKit
set_option linter.unusedSimpArgs false
set_option linter.unusedVariables false

/-- The first bytes of a sum as a text. -/
theorem hash_str8 {w : World} {b : Nat} {S : List UInt8} {t : TypeId} {fr : Nat × Nat} (hS : S.length = 32) (h : w.heap[b]? = some (.cells (byteCells S).toArray t fr)) :
    (convert 44 9 (.slice (some ⟨b, 0, none⟩) 8 32)).run Tryd.prog w = .ok (.string (strOf (S.take 8))) w := by
  have h8 : (S.take 8).length = 8 := by rw [List.length_take, hS]; rfl
  have hr := run_convert_bytes_back (P := Tryd.prog) w 44 9 5 ⟨b, 0, none⟩ 32 (S.take 8) Tryd.under_bytes Tryd.under_byte Tryd.under_string (fun j hj => cells_row_at h j _ (by
    have : j < S.length := by rw [h8] at hj; omega
    simp [byteCells, this]))
  rw [h8] at hr
  exact hr

set_option maxRecDepth 100000 in
set_option maxHeartbeats 2000000 in
theorem journalRead_any (w : World) (log : List UInt8) (hl : log.length ≤ 100000) (hL : Laid w) :
    Calls Tryd.prog 12 #[.string (strOf log)] w fun e w' => ∃ q c k, e = .returned (.tuple #[.slice q k c, .int .i64 ((J.read J.zero log).2.1 : Int)]) ∧ StrsAt w' q k c (J.read J.zero log).1 ∧ Below w.heap.size w w' := by
  obtain ⟨W1, hW1⟩ : ∃ W1, W1 = w.alloc (.cells #[.slice none 0 0] 23) := ⟨_, rfl⟩
  have x1 : W1.heap[w.heap.size]? = some (.cells #[.slice none 0 0] 23 (0, 0)) := by rw [hW1]; exact heap_alloc_new w _
  have b1 : Below w.heap.size w W1 := by rw [hW1]; exact (Below.refl _ _).alloc (Nat.le_refl _) _
  have s1 : W1.heap.size = w.heap.size + 1 := by rw [hW1]; simp
  have hc := walk_any w W1 hL b1 w.heap.size (Nat.le_refl _) (.inl (by omega)) log hl 23 #[.pointer (some ⟨w.heap.size, 0, none⟩)] (fun ts w' => TellIs w' (W1.heap.size + 2) w.heap.size ts) Tryd.callTell
    (fun ts w1 w2 h hk => h.kept hk)
    (fun ts t w0 w1 h hb hs hn => tell_any (W1.heap.size + 2) w.heap.size ts t w0 w1 h hb hs (by omega) hn)
    ⟨_, x1, World.ownsRow_nil _ _ _ _⟩
  have hlast := J.last_len (l := log) J.zero_len
  obtain ⟨R, hR⟩ : ∃ R, R = J.read J.zero log := ⟨_, rfl⟩
  rw [← hR] at hc hlast ⊢
  clear hR
  have HC := Lib.hid hc; clear hc
  have HLA := Lib.hid hlast; clear hlast
  have HW1 := Lib.hid hW1; clear hW1
  have HX1 := Lib.hid x1; clear x1
  go_enter Tryd.func12, Tryd.ntmps12
  go_wp2_with fail
  rw [← HW1.out]
  refine HC.out.mono ?_
  rintro e w2 ⟨rfl, ht, bb⟩
  obtain ⟨v, hv, ho⟩ := ht
  obtain ⟨a0, c0, rfl⟩ := ownsRow_slice ho
  obtain ⟨W3, hW3⟩ : ∃ W3, W3 = hset (w2.alloc (.cells zero32 31)) w2.heap.size R.2.2 := ⟨_, rfl⟩
  have b3 : Below w2.heap.size w2 W3 := by rw [hW3]; exact hset_below _ ((Below.refl _ _).alloc (Nat.le_refl _) _) (Nat.le_refl _)
  have hv3 := (b3.block _ (lt_of_block hv)).trans hv
  have hc3 := cell_of_one hv3
  have hst := StrsAt.of_owns rfl (ownsRow_below ho fun k hk => b3.block k (ho.lt k hk).2)
  have HST := Lib.hid hst; clear hst ho
  have BB : Hid (Below w.heap.size w W3) := Lib.hid ((Below.more b1 bb (Nat.le_refl _) (by omega)).trans (b3.mono (by have := bb.size; omega)))
  have HW3 := Lib.hid hW3; clear hW3 b3 hv3 bb b1
  go_wp2_with ((with_reducible show wpList _ _ _ (⟨none, .store 31 (.tmp 6) (.tmp 12), _, _, _, _⟩ :: _) _ _); change wpList _ _ _ _ _ (World.alloc w2 (.cells zero32 31)); refine wpList_put_hash (o := ⟨none, .store _ _ _, _, _, _, _⟩) rfl _ _ rfl _ rfl R.2.2 HLA.out rfl _ _ (heap_alloc_new _ _) zero32_size ?_; rw [← HW3.out])
  go_ret2
  exact ⟨a0, c0, _, rfl, HST.out, BB.out⟩

/-- What the region's operations leave. -/
def jaV (B b G u : Nat) (log r S : List UInt8) (ix : Nat) (w : World) (v : Value) : Prop :=
  match ix with
  | 0 => v = .string (strOf log)
  | 1 => v = .int .i64 (u : Int)
  | 2 => v = .string (strOf (log.take u))
  | 3 => v = .pointer (some ⟨b, 0, none⟩)
  | 4 => v = .string (strOf (J.text r))
  | 5 => v = .string (strOf ((log.take u) ++ (J.text r)))
  | 6 => v = .slice (some ⟨G, 0, none⟩) 8 32
  | 7 => v = .string (strOf (S.take 8))
  | 8 => v = .string (strOf ((log.take u) ++ ((J.text r) ++ (S.take 8))))
  | 9 => v = .string (strOf ((log.take u) ++ ((J.text r) ++ (S.take 8))))
  | 10 => v = .int .i64 (0)
  | _ => True

theorem jaV_mono (B b G u : Nat) (log r S : List UInt8) (jx : Nat) (w w' : World) (v : Value) (hb : Below w.heap.size w w') (h : jaV B b G u log r S jx w v) : jaV B b G u log r S jx w' v := by
  match jx, h with
  | 0, h => exact h
  | 1, h => exact h
  | 2, h => exact h
  | 3, h => exact h
  | 4, h => exact h
  | 5, h => exact h
  | 6, h => exact h
  | 7, h => exact h
  | 8, h => exact h
  | 9, h => exact h
  | 10, h => exact h
  | _ + 11, h => exact trivial

set_option maxRecDepth 100000 in
set_option maxHeartbeats 1000000 in
theorem journalAppend_long (w : World) (log r : ByteArray) (hr : 65536 < r.size) (hr2 : r.size ≤ 9223372036854775807) :
    Calls Tryd.prog 15 #[.string log, .string r] w fun e w' => w = w' ∧ e = .returned (.tuple #[.string ⟨#[]⟩, .int .i64 160]) := by
  have t1 : decide ((65536 : Int) < (r.size : Int)) = true := decide_eq_true (by omega)
  have t1' : decide (65536 < r.size) = true := decide_eq_true hr
  go_enter Tryd.func15, Tryd.ntmps15
  go_wp2_with fail
  go_ret2
  exact ⟨rfl, rfl⟩

set_option maxRecDepth 100000 in
set_option maxHeartbeats 4000000 in
theorem journalAppend_any (w : World) (log r : List UInt8) (hl : log.length ≤ 100000) (hr : r.length ≤ 65536) (hL : Laid w) :
    Calls Tryd.prog 15 #[.string (strOf log), .string (strOf r)] w fun e w' => e = .returned (.tuple #[.string (strOf (J.append log r)), .int .i64 0]) ∧ Below w.heap.size w w' := by
  have hst := strOf_size log
  have hsr := strOf_size r
  have t1 : decide ((65536 : Int) < (r.length : Int)) = false := decide_eq_false (by omega)
  have t1' : decide (65536 < r.length) = false := decide_eq_false (by omega)
  have hc := walk_any w w hL (Below.refl _ _) (w.heap.size + 2) (by omega) (.inr (Nat.le_refl _)) log hl 27 #[] (fun _ _ => True) Tryd.callTellNone
    (fun _ _ _ _ _ => trivial)
    (fun ts t w0 w1 _ hb _ _ => (tellNone_any (strOf t) w1).mono fun x w2 ⟨h1, h2⟩ => by subst h1; exact ⟨h2, trivial, BelowBut.refl _ _ _, fun _ _ _ => rfl⟩)
    trivial
  have hlast := J.last_len (l := log) J.zero_len
  have hul := J.used_le J.zero log
  have HAP : Hid (J.append log r = (log.take (J.read J.zero log).2.1 ++ (J.text r ++ (J.sum (J.read J.zero log).2.2 r).take 8))) := Lib.hid rfl
  obtain ⟨u, hu⟩ : ∃ u, u = (J.read J.zero log).2.1 := ⟨_, rfl⟩
  obtain ⟨la, hla⟩ : ∃ la, la = (J.read J.zero log).2.2 := ⟨_, rfl⟩
  rw [← hu, ← hla] at hc HAP
  rw [← hu] at hul
  rw [← hla] at hlast
  clear hu hla
  have HC := Lib.hid hc; clear hc
  have HLA := Lib.hid hlast; clear hlast
  have HL := Lib.hid hL; clear hL
  obtain ⟨S, hS⟩ : ∃ S, S = J.sum la r := ⟨_, rfl⟩
  have hSl : S.length = 32 := by rw [hS]; exact J.sum_len la r
  rw [← hS] at HAP
  have HSL := Lib.hid hSl; clear hSl
  have HSE := Lib.hid hS; clear hS
  have hxl := J.text_len r
  have hnl := Wire.num_length r.length (by omega)
  have HLX : Hid ((log.take u).length = u ∧ (J.text r).length ≤ r.length + 10 ∧ (S.take 8).length = 8 ∧ u ≤ log.length) := Lib.hid ⟨by rw [List.length_take]; omega, by omega, by rw [List.length_take, HSL.out]; rfl, hul⟩
  go_enter Tryd.func15, Tryd.ntmps15
  go_wp2_with fail
  refine HC.out.mono ?_
  rintro e w1 ⟨rfl, -, bb1⟩
  have b1 := bb1.below (by omega)
  obtain ⟨W2, hW2⟩ : ∃ W2, W2 = hset (w1.alloc (.cells zero32 31)) w1.heap.size la := ⟨_, rfl⟩
  have x2 : W2.heap[w1.heap.size]? = some (.cells (byteCells la).toArray 31 (0, 0)) := by rw [hW2]; exact hset_heap _ (heap_alloc_new _ _)
  have b2 : Below w1.heap.size w1 W2 := by rw [hW2]; exact hset_below _ ((Below.refl _ _).alloc (Nat.le_refl _) _) (Nat.le_refl _)
  have B2 := b1.trans (b2.mono b1.size)
  have hsum := jSum_any W2 la r HLA.out (by omega) (HL.out.below B2)
  rw [← HSE.out] at hsum
  have HSUM := Lib.hid hsum; clear hsum
  have HW2 := Lib.hid hW2; clear hW2 b2 b1 bb1 HC
  go_wp2_with (first | ((with_reducible show wpList _ _ _ (⟨none, .store 31 (.tmp 7) (.tmp 17), _, _, _, _⟩ :: _) _ _); change wpList _ _ _ _ _ (World.alloc w1 (.cells zero32 31)); refine wpList_put_hash (o := ⟨none, .store _ _ _, _, _, _, _⟩) rfl _ _ rfl _ rfl la HLA.out rfl _ _ (heap_alloc_new _ _) zero32_size ?_; rw [← HW2.out]) | ((with_reducible show wpList _ _ _ (⟨some 18, _, _, _, _, _⟩ :: _) _ _); refine wpList_load_hash (op := ⟨some 18, _, _, _, _, _⟩) (by kernel_rfl) _ rfl w1.heap.size rfl la HLA.out _ _ x2 ?_))
  refine HSUM.out.mono ?_
  rintro e w4 ⟨rfl, b4⟩
  obtain ⟨W5, hW5⟩ : ∃ W5, W5 = hset (w4.alloc (.cells zero32 31)) w4.heap.size S := ⟨_, rfl⟩
  have x5 : W5.heap[w4.heap.size]? = some (.cells (byteCells S).toArray 31 (0, 0)) := by rw [hW5]; exact hset_heap _ (heap_alloc_new _ _)
  have b5 : Below w4.heap.size w4 W5 := by rw [hW5]; exact hset_below _ ((Below.refl _ _).alloc (Nat.le_refl _) _) (Nat.le_refl _)
  have B5 := B2.trans ((b4.trans (b5.mono b4.size)).mono B2.size)
  have HW5 := Lib.hid hW5; clear hW5 b4 b5 HSUM x2 B2
  go_wp2_with ((with_reducible show wpList _ _ _ (⟨none, .store 31 (.tmp 8) (.tmp 20), _, _, _, _⟩ :: _) _ _); change wpList _ _ _ _ _ (World.alloc w4 (.cells zero32 31)); refine wpList_put_hash (o := ⟨none, .store _ _ _, _, _, _, _⟩) rfl _ _ rfl _ rfl S HSL.out rfl _ _ (heap_alloc_new _ _) zero32_size ?_; rw [← HW5.out])
  refine (newOut_use W5).mono ?_
  rintro e w6 ⟨rfl, n6, b6, s6⟩
  have B6 := B5.trans (b6.mono B5.size)
  have x6 := (b6.block _ (lt_of_block x5)).trans x5
  have X6 := Lib.hid x6; clear x6 x5
  obtain ⟨w5, hw5⟩ : ∃ w5, w5 = W5 := ⟨_, rfl⟩
  have hot := outText_any (strOf r) (by omega) w5.heap.size w5.heap.size [] w6 (by rw [hw5]; exact n6.is _) (by rw [hw5]; exact b6.size) (by simp; omega)
  rw [List.nil_append, hsr, strOf_list, show Wire.num r.length ++ r = J.text r from rfl] at hot
  have HOT := Lib.hid hot; clear hot n6 b6
  rw [← hw5] at B5 s6 ⊢
  have hw54 : w4.heap.size < w5.heap.size := by
    have := HW5.out; rw [hw5, this, hset_size]; simp
  clear hw5 HW5
  go_wp2_with fail
  refine HOT.out.mono ?_
  rintro e w7 ⟨rfl, o7, bb7⟩
  have HO := Lib.hid o7; clear o7
  have XS : Hid (w7.heap[w4.heap.size]? = some (.cells (byteCells S).toArray 31 (0, 0))) := Lib.hid ((bb7.block _ hw54 (by omega)).trans X6.out)
  have BB : Hid (Below w.heap.size w w7) := Lib.hid (Below.more B6 bb7 (by have := B5.size; omega) (by have := B5.size; omega))
  clear bb7 B6 B5 X6 HOT
  go_wp2_with fail
  refine wp_region_rel [[], [], [0, 1], [], [3], [2, 4], [], [6], [5, 7], [8], []] (jaV w5.heap.size w5.heap.size w4.heap.size u log r S) 34 (by kernel_rfl) (by kernel_rfl) (by kernel_rfl) (jaV_mono w5.heap.size w5.heap.size w4.heap.size u log r S) ?_ ?_
  · intro ix op hi w2 b2 vs hv
    have him : ix < 11 := (List.getElem?_eq_some_iff.1 hi).1
    have hlx := HLX.out
    match ix, him, hi with
    | 0, _, hi =>
      obtain rfl := Option.some.inj hi
      simp only [relF, List.getD_cons_zero, List.getD_cons_succ, List.foldl_cons, List.foldl_nil, dstAt, List.getElem?_cons_zero, List.getElem?_cons_succ, Option.bind_some]
      go_wp2_with fail
      exact ⟨rfl, Below.refl _ _, rfl, rfl⟩
    | 1, _, hi =>
      obtain rfl := Option.some.inj hi
      simp only [relF, List.getD_cons_zero, List.getD_cons_succ, List.foldl_cons, List.foldl_nil, dstAt, List.getElem?_cons_zero, List.getElem?_cons_succ, Option.bind_some]
      go_wp2_with fail
      exact ⟨rfl, Below.refl _ _, rfl, rfl⟩
    | 2, _, hi =>
      obtain rfl := Option.some.inj hi
      have h0 : vs 0 = _ := hv 0 (by decide)
      have h1 : vs 1 = _ := hv 1 (by decide)
      have hx := strOf_extract log 0 u
      rw [Nat.sub_zero, List.drop_zero] at hx
      simp only [relF, List.getD_cons_zero, List.getD_cons_succ, List.foldl_cons, List.foldl_nil, dstAt, List.getElem?_cons_zero, List.getElem?_cons_succ, Option.bind_some]
      go_frame
      rw [h0, h1]
      go_wp2_with fail
      exact ⟨rfl, Below.refl _ _, rfl, by first | rfl | (show slotOf _ _ = _; simp [slotOf, strOf_extract])⟩
    | 3, _, hi =>
      obtain rfl := Option.some.inj hi
      simp only [relF, List.getD_cons_zero, List.getD_cons_succ, List.foldl_cons, List.foldl_nil, dstAt, List.getElem?_cons_zero, List.getElem?_cons_succ, Option.bind_some]
      go_wp2_with fail
      exact ⟨rfl, Below.refl _ _, rfl, rfl⟩
    | 4, _, hi =>
      obtain rfl := Option.some.inj hi
      have h3 : vs 3 = _ := hv 3 (by decide)
      simp only [relF, List.getD_cons_zero, List.getD_cons_succ, List.foldl_cons, List.foldl_nil, dstAt, List.getElem?_cons_zero, List.getElem?_cons_succ, Option.bind_some]
      go_frame
      rw [h3]
      go_wp2_with fail
      refine (outDone_str w5.heap.size w5.heap.size (J.text r) w2 (HO.out.kept fun k hk => b2.block k hk)).mono ?_
      rintro e w3 ⟨rfl, rfl⟩
      go_wp2_with fail
      exact ⟨rfl, Below.refl _ _, rfl, rfl⟩
    | 5, _, hi =>
      obtain rfl := Option.some.inj hi
      have h2 : vs 2 = _ := hv 2 (by decide)
      have h4 : vs 4 = _ := hv 4 (by decide)
      have hz1 := strOf_size (log.take u)
      have hz2 := strOf_size (J.text r)
      have hadd : ((strOf (log.take u)) : ByteArray) ++ (strOf (J.text r)) = strOf ((log.take u) ++ (J.text r)) := by first | exact add_str (log.take u) (J.text r) | (rw [add_str]; simp only [List.append_assoc, List.cons_append])
      simp only [relF, List.getD_cons_zero, List.getD_cons_succ, List.foldl_cons, List.foldl_nil, dstAt, List.getElem?_cons_zero, List.getElem?_cons_succ, Option.bind_some]
      go_frame
      rw [h2, h4]
      go_wp2_with fail
      exact ⟨rfl, Below.refl _ _, rfl, rfl⟩
    | 6, _, hi =>
      obtain rfl := Option.some.inj hi
      simp only [relF, List.getD_cons_zero, List.getD_cons_succ, List.foldl_cons, List.foldl_nil, dstAt, List.getElem?_cons_zero, List.getElem?_cons_succ, Option.bind_some]
      go_wp2_with fail
      exact ⟨rfl, Below.refl _ _, rfl, rfl⟩
    | 7, _, hi =>
      obtain rfl := Option.some.inj hi
      have h6 : vs 6 = _ := hv 6 (by decide)
      have hcv := hash_str8 HSL.out ((b2.block _ (lt_of_block XS.out)).trans XS.out)
      simp only [relF, List.getD_cons_zero, List.getD_cons_succ, List.foldl_cons, List.foldl_nil, dstAt, List.getElem?_cons_zero, List.getElem?_cons_succ, Option.bind_some]
      go_frame
      rw [h6]
      go_wp2_with fail
      exact ⟨rfl, Below.refl _ _, rfl, rfl⟩
    | 8, _, hi =>
      obtain rfl := Option.some.inj hi
      have h5 : vs 5 = _ := hv 5 (by decide)
      have h7 : vs 7 = _ := hv 7 (by decide)
      have hz1 : ((strOf ((log.take u) ++ (J.text r))) : ByteArray).size = ((log.take u) ++ (J.text r)).length := by first | rfl | exact strOf_size _
      have hz2 : ((strOf (S.take 8)) : ByteArray).size = (S.take 8).length := by first | rfl | exact strOf_size _
      simp only [List.length_cons, List.length_append, List.length_nil] at hz1 hz2
      have hadd : ((strOf ((log.take u) ++ (J.text r))) : ByteArray) ++ (strOf (S.take 8)) = strOf ((log.take u) ++ ((J.text r) ++ (S.take 8))) := by first | exact add_str ((log.take u) ++ (J.text r)) (S.take 8) | (rw [add_str]; simp only [List.append_assoc, List.cons_append])
      simp only [relF, List.getD_cons_zero, List.getD_cons_succ, List.foldl_cons, List.foldl_nil, dstAt, List.getElem?_cons_zero, List.getElem?_cons_succ, Option.bind_some]
      go_frame
      rw [h5, h7]
      go_wp2_with fail
      exact ⟨rfl, Below.refl _ _, rfl, rfl⟩
    | 9, _, hi =>
      obtain rfl := Option.some.inj hi
      have h8 : vs 8 = _ := hv 8 (by decide)
      simp only [relF, List.getD_cons_zero, List.getD_cons_succ, List.foldl_cons, List.foldl_nil, dstAt, List.getElem?_cons_zero, List.getElem?_cons_succ, Option.bind_some]
      go_frame
      rw [h8]
      go_wp2_with fail
      exact ⟨rfl, Below.refl _ _, rfl, rfl⟩
    | 10, _, hi =>
      obtain rfl := Option.some.inj hi
      simp only [relF, List.getD_cons_zero, List.getD_cons_succ, List.foldl_cons, List.foldl_nil, dstAt, List.getElem?_cons_zero, List.getElem?_cons_succ, Option.bind_some]
      go_wp2_with fail
      exact ⟨rfl, Below.refl _ _, rfl, rfl⟩
    | nx + 11, him, _ => exact absurd him (by omega)
  · intro w2 b2 vs hv
    have hlx := HLX.out
    have h9 : vs 9 = _ := hv 9 (by decide)
    have h10 : vs 10 = _ := hv 10 (by decide)
    simp only [relF, List.drop_succ_cons, List.drop_zero, List.length_cons, List.length_nil, Nat.zero_add, Nat.reduceAdd, List.range, List.range.loop, List.foldl_cons, List.foldl_nil, dstAt, List.getElem?_cons_zero, List.getElem?_cons_succ, Option.bind_some]
    go_frame
    rw [h9, h10]
    go_wp2_with fail
    try rw [Exit.noGoto_ret]
    go_ret2
    exact ⟨by rw [HAP.out]; rfl, BB.out.trans (b2.mono BB.out.size)⟩

/-- A journal of which only the first bytes are left. -/
def J.cut (log : List UInt8) (n : Int) : List UInt8 := log.take (min (max n 0) (log.length : Int)).toNat

set_option maxRecDepth 100000 in
set_option maxHeartbeats 1000000 in
theorem journalCut_any (w : World) (log : List UInt8) (n : Int) (hl : log.length ≤ 9223372036854775807) :
    Calls Tryd.prog 20 #[.string (strOf log), .int .i64 n] w fun e w' => w = w' ∧ e = .returned (.string (strOf (J.cut log n))) := by
  have hst := strOf_size log
  obtain ⟨c, hc⟩ : ∃ c : Nat, c = (min (max n 0) (log.length : Int)).toNat := ⟨_, rfl⟩
  have hcl : c ≤ log.length := by omega
  have hmm : min (max n 0) (log.length : Int) = (c : Int) := by omega
  have hcut : J.cut log n = log.take c := by unfold J.cut; rw [← hc]
  rw [hcut]
  have hx := strOf_extract log 0 c
  rw [Nat.sub_zero, List.drop_zero] at hx
  clear hc hcut
  go_enter Tryd.func20, Tryd.ntmps20
  go_wp2_with fail
  go_ret
  exact ⟨rfl, rfl⟩

end Go.Proofs.YtjlaoijmcenahaaDoor
