/- M11, M12, M13, M14, TA2, in one text. -/
import Derived.Test.YtgheacegjgaobaaDoorKG6c
import Derived.Test.YtgheacegjgaobaaDoorKG6d
import Derived.Test.YtgheacegjgaobaaDoorKG6a
import Derived.Test.YtgheacegjgaobaaDoorKG2a
import Derived.Test.YtgheacegjgaobaaDoorKG6b
/- The walk of the reference's Check. -/
namespace Go.Proofs.YtgheacegjgaobaaDoor
open Go.RowKit
set_option linter.unusedSimpArgs false
set_option linter.unusedVariables false

/-- What the region's operations leave. -/
def rmcV (B12 n : Nat) (S : List UInt8) (ix : Nat) (w : World) (v : Value) : Prop :=
  match ix with
  | 0 => v = .int .i64 (n : Int)
  | 1 => v = .int .u64 (n : Int)
  | 2 => v = .string (strOf (Wire.num n))
  | 3 => v = .string (strOf (3 :: (Wire.num n)))
  | 4 => v = .slice (some ⟨B12, 0, none⟩) 32 32
  | 5 => v = .string (strOf S)
  | 6 => v = .string (strOf (3 :: ((Wire.num n) ++ S)))
  | 7 => v = .string (strOf (Sha.of (3 :: ((Wire.num n) ++ S))))
  | 8 => v = .string (strOf (Sha.of (3 :: ((Wire.num n) ++ S))))
  | _ => True

theorem rmcV_mono (B12 n : Nat) (S : List UInt8) (jx : Nat) (w w' : World) (v : Value) (hb : Below w.heap.size w w') (h : rmcV B12 n S jx w v) : rmcV B12 n S jx w' v := by
  match jx, h with
  | 0, h => exact h
  | 1, h => exact h
  | 2, h => exact h
  | 3, h => exact h
  | 4, h => exact h
  | 5, h => exact h
  | 6, h => exact h
  | 7, h => exact h
  | 8, h => exact h
  | _ + 9, h => exact trivial


set_option maxRecDepth 100000 in
set_option maxHeartbeats 2000000 in
theorem refMCheck_bad (w : World) (r : List UInt8) (n : Int) (oA oX o : Option Addr) (mA cA mX cX m c : Nat) (A : List Int) (hA : IntsAt w oA mA cA A) (h : sizeBad n A = true) :
    Calls Tryd.prog 23 #[.agg (byteCells r).toArray, .int .i64 n, .slice oA mA cA, .slice oX mX cX, .slice o m c] w fun e w' => e = .returned (.bool false) ∧ Below w.heap.size w w' := by
  obtain ⟨W0, hW0⟩ : ∃ W0, W0 = w.alloc (.cells (byteCells r).toArray 23) := ⟨_, rfl⟩
  have b0 : Below w.heap.size w W0 := by rw [hW0]; exact (Below.refl _ _).alloc (Nat.le_refl _) _
  have xr0 : W0.heap[w.heap.size]? = some (.cells (byteCells r).toArray 23 (0, 0)) := by rw [hW0]; exact heap_alloc_new w _
  have XR0 := Lib.hid xr0; clear xr0
  have HW0 := Lib.hid hW0; clear hW0
  have hr := refRises_any W0 n oA mA cA A (hA.below (Nat.le_refl _) b0)
  have HR := Lib.hid hr; clear hr hA XR0
  unfold sizeBad at h
  rcases h1 : decide (n < 0) with _ | _
  · rcases h2 : decide (65536 < n) with _ | _
    · have h3 : risesB n A = false := by rw [h1, h2] at h; simpa using h
      have hr := HR.out
      rw [h3] at hr
      have HR2 := Lib.hid hr; clear hr HR h3 h
      go_enter Tryd.func23, Tryd.ntmps23
      go_wp2_with fail
      rw [← HW0.out]
      refine HR2.out.mono ?_
      rintro e w1 ⟨rfl, b1⟩
      go_wp2_with fail
      go_ret
      exact ⟨rfl, b0.trans (b1.mono b0.size)⟩
    · clear h HR
      have hb := b0
      rw [HW0.out] at hb
      go_enter Tryd.func23, Tryd.ntmps23
      go_wp2_with fail
      go_ret
      exact ⟨rfl, hb⟩
  · clear h HR
    have hb := b0
    rw [HW0.out] at hb
    go_enter Tryd.func23, Tryd.ntmps23
    go_wp2_with fail
    go_ret
    exact ⟨rfl, hb⟩

set_option maxRecDepth 100000 in
set_option maxHeartbeats 4000000 in
theorem refMCheck_any (w : World) (r : List UInt8) (hr32 : r.length = 32) (n : Nat) (hn : n ≤ 65536) (oA oX o : Option Addr) (mA cA mX cX m c : Nat) (B : List Nat) (X P : List (List UInt8)) (hA : IntsAt w oA mA cA (B.map Int.ofNat)) (hB : B.Pairwise (· < ·)) (hBn : ∀ a ∈ B, a < n) (hX : StrsAt w oX mX cX X) (hP : HashesAt w o m c P) (hlen : ∀ l ∈ X, l.length ≤ 100000) (hm : m ≤ 1000000) :
    Calls Tryd.prog 23 #[.agg (byteCells r).toArray, .int .i64 (n : Int), .slice oA mA cA, .slice oX mX cX, .slice o m c] w fun e w' => e = .returned (.bool (Many.check r n B X P)) ∧ Below w.heap.size w w' := by
  obtain ⟨W0, hW0⟩ : ∃ W0, W0 = w.alloc (.cells (byteCells r).toArray 23) := ⟨_, rfl⟩
  have b0 : Below w.heap.size w W0 := by rw [hW0]; exact (Below.refl _ _).alloc (Nat.le_refl _) _
  have xr0 : W0.heap[w.heap.size]? = some (.cells (byteCells r).toArray 23 (0, 0)) := by rw [hW0]; exact heap_alloc_new w _
  have XR0 := Lib.hid xr0; clear xr0
  have HW0 := Lib.hid hW0; clear hW0
  have hBl : B.length = mA := by have := hA.len; rwa [List.length_map] at this
  have hXl := hX.len
  have hPl := hP.1.1
  have hT1 := tops_small (B := B) hn
  have hrs := refRises_any W0 n oA mA cA _ (hA.below (Nat.le_refl _) b0)
  rw [rises_intro hB (fun a ha => by have := hBn a ha; omega)] at hrs
  have htp := fun (w1 : World) (b1 : Below w.heap.size w w1) => refTops_any B oA mA cA n 0 w1 (hA.below (Nat.le_refl _) b1) (by omega)
  have htop := fun (h1 : X.length = B.length) (h2 : P.length = (Many.tops B 0 n).length) (oQ : Option Addr) (cQ : Nat) (w1 : World) (b1 : Below w.heap.size w w1) (hQ : PairsAt w1 oQ (Many.tops B 0 n).length cQ (Many.tops B 0 n)) =>
    refMTop_any B n hB hn oA oX oQ o mA cA mX cX (Many.tops B 0 n).length cQ m c X P h1 h2 hlen n 0 [] [] w1 (Many.Loc.whole B n) (by omega) (hA.below (Nat.le_refl _) b1) (hX.below (Nat.le_refl _) b1) hQ (hP.below (Nat.le_refl _) b1)
  have h00 : (Many.inr B 0 0).length = 0 := by rw [Many.inr_empty B (Nat.le_refl _)]; rfl
  simp only [List.length_nil, h00] at htop
  have hck : Many.check r n B X P = (decide (X.length = B.length) && (decide (P.length = (Many.tops B 0 n).length) && (Tree.root n (mtopV B X P 0 0 0 n) == r))) := rfl
  have hSl : (mtopV B X P 0 0 0 n).length = 32 := mtopV_len hP.2 _ _ _ _
  obtain ⟨S, hS⟩ : ∃ S, S = mtopV B X P 0 0 0 n := ⟨_, rfl⟩
  rw [← hS] at hck hSl
  simp only [← hS] at htop
  obtain ⟨Q, hQ⟩ : ∃ Q, Q = Many.tops B 0 n := ⟨_, rfl⟩
  simp only [← hQ] at htop htp
  rw [← hQ] at hck hT1
  clear hQ hS
  have HRS := Lib.hid hrs; clear hrs
  have HTP := Lib.hid htp; clear htp
  have HTOP := Lib.hid htop; clear htop
  have HCK0 := Lib.hid hck; clear hck
  have HSL := Lib.hid hSl; clear hSl
  have HRL := Lib.hid hr32; clear hr32
  have HNL := Lib.hid (Wire.num_length n (by omega))
  have HSL1 : Hid (S.length ≤ 32) := Lib.hid (by rw [HSL.out]; exact Nat.le_refl _)
  have HU : Hid (IntKind.u64.wrap (n : Int) = (n : Int)) := Lib.hid (by rw [IntKind.wrap_u64]; omega)
  have hcX := hX.cap
  have hxX := hX.max
  have hcP := hP.1.2.1
  have hxP := hP.1.2.2.1
  have hcA := hA.cap
  have hxA := hA.max
  clear hA hB hBn hX hP hlen h00
  have u1 : decide ((n : Int) < 0) = false := decide_eq_false (by omega)
  have u2 : decide ((65536 : Int) < (n : Int)) = false := decide_eq_false (by omega)
  have u2' : decide (65536 < n) = false := decide_eq_false (by omega)
  obtain ⟨T, hT⟩ : ∃ T, T = Q.length := ⟨_, rfl⟩
  by_cases e1 : mX = mA
  · have u3 : ((mX : Int) == (mA : Int)) = true := by rw [e1]; exact beq_self_eq_true _
    have u3' : (mX == mA) = true := by rw [e1]; exact beq_self_eq_true _
    by_cases e2 : T = m
    · have u4 : ((T : Int) == (m : Int)) = true := by rw [e2]; exact beq_self_eq_true _
      have u4' : (T == m) = true := by rw [e2]; exact beq_self_eq_true _
      have htop := fun oQ cQ w1 b1 hQ => HTOP.out (by omega) (by omega) oQ cQ w1 b1 hQ
      have hck := HCK0.out
      rw [decide_eq_true (by omega), decide_eq_true (by omega), Bool.true_and, Bool.true_and] at hck
      have HCK := Lib.hid hck; clear hck HCK0 HTOP
      have HTOP := Lib.hid htop; clear htop
      have HTE := Lib.hid hT
      have e1a : mX ≤ mA := by omega
      have e1b : mA ≤ mX := by omega
      have e2a : T ≤ m := by omega
      have e2b : m ≤ T := by omega
      clear e1 e2 hT hBl hXl hPl
      have HFIN : Hid (((strOf r).toList == (strOf (Sha.of (3 :: (Wire.num n ++ S)))).toList) = (Tree.root n S == r)) := Lib.hid (by
        rw [strOf_toList, strOf_toList]
        show (r == Tree.root n S) = _
        by_cases h : Tree.root n S = r
        · rw [h]
        · rw [beq_eq_false_iff_ne.2 h, beq_eq_false_iff_ne.2 (fun e => h e.symm)])
      go_enter Tryd.func23, Tryd.ntmps23
      go_wp2_with fail
      rw [← HW0.out]
      refine HRS.out.mono ?_
      rintro e w1 ⟨rfl, b1⟩
      have B1 := b0.trans (b1.mono b0.size)
      have xr1 := (b1.block _ (lt_of_block XR0.out)).trans XR0.out
      have hc := HTP.out w1 B1
      have HC := Lib.hid hc; clear hc HTP HRS
      go_wp2_with fail
      refine HC.out.mono ?_
      rintro e w2 ⟨q, cc, rfl, o2, b2⟩
      clear HC
      have B2 := B1.trans (b2.mono B1.size)
      have xr2 := (b2.block _ (lt_of_block xr1)).trans xr1
      have hpq := PairsAt.of_owns rfl o2
      have hpc := hpq.2.1
      have hpm := hpq.2.2.1
      have hc := HTOP.out q cc w2 B2 hpq
      rw [← HTE.out] at hc hpc ⊢
      have HC := Lib.hid hc; clear hc HTOP o2 hpq
      go_wp2_with fail
      refine HC.out.mono ?_
      rintro e w3 ⟨rfl, b3⟩
      have B3 := B2.trans (b3.mono B2.size)
      have xr3 := (b3.block _ (lt_of_block xr2)).trans xr2
      obtain ⟨W4, hW4⟩ : ∃ W4, W4 = hset (w3.alloc (.cells zero32 23)) w3.heap.size S := ⟨_, rfl⟩
      have xs4 : W4.heap[w3.heap.size]? = some (.cells (byteCells S).toArray 23 (0, 0)) := by rw [hW4]; exact hset_heap _ (heap_alloc_new w3 _)
      have b4 : Below w3.heap.size w3 W4 := by rw [hW4]; exact hset_below _ ((Below.refl _ _).alloc (Nat.le_refl _) _) (Nat.le_refl _)
      have B4 := B3.trans (b4.mono B3.size)
      have XR := Lib.hid ((b4.block _ (lt_of_block xr3)).trans xr3)
      have XS := Lib.hid xs4; clear xs4
      have HW4 := Lib.hid hW4; clear hW4 HC b4 xr3 xr2 xr1
      go_wp2_with ((with_reducible show wpList _ _ _ (⟨none, .store 23 (.tmp 12) (.tmp 46), _, _, _, _⟩ :: _) _ _); change wpList _ _ _ _ _ (World.alloc w3 (.cells zero32 23)); refine wpList_put_hash (o := ⟨none, .store _ _ _, _, _, _, _⟩) rfl _ _ rfl _ rfl S HSL.out rfl _ _ (heap_alloc_new _ _) zero32_size ?_; rw [← HW4.out])
      refine wp_region_rel [[], [0], [1], [2], [], [4], [3, 5], [6], [7]] (rmcV w3.heap.size n S) 59 (by kernel_rfl) (by kernel_rfl) (by kernel_rfl) (rmcV_mono w3.heap.size n S) ?_ ?_
      · intro ix op hi w2 b2 vs hv
        have him : ix < 9 := (List.getElem?_eq_some_iff.1 hi).1
        have hnl := HNL.out
        have hu := HU.out
        have hsl := HSL1.out
        have hlc : (3 :: ((Wire.num n) ++ S)).length ≤ 100 := by simp only [List.length_cons, List.length_append]; omega
        match ix, him, hi with
        | 0, _, hi =>
          obtain rfl := Option.some.inj hi
          simp only [relF, List.getD_cons_zero, List.getD_cons_succ, List.foldl_cons, List.foldl_nil, dstAt, List.getElem?_cons_zero, List.getElem?_cons_succ, Option.bind_some]
          go_wp2_with fail
          exact ⟨rfl, Below.refl _ _, rfl, rfl⟩
        | 1, _, hi =>
          obtain rfl := Option.some.inj hi
          have h0 : vs 0 = _ := hv 0 (by decide)
          have hu : IntKind.u64.wrap (n : Int) = (n : Int) := by rw [IntKind.wrap_u64]; omega
          simp only [relF, List.getD_cons_zero, List.getD_cons_succ, List.foldl_cons, List.foldl_nil, dstAt, List.getElem?_cons_zero, List.getElem?_cons_succ, Option.bind_some]
          go_frame
          rw [h0]
          go_wp2_with fail
          exact ⟨rfl, Below.refl _ _, rfl, rfl⟩
        | 2, _, hi =>
          obtain rfl := Option.some.inj hi
          have h1 : vs 1 = _ := hv 1 (by decide)
          simp only [relF, List.getD_cons_zero, List.getD_cons_succ, List.foldl_cons, List.foldl_nil, dstAt, List.getElem?_cons_zero, List.getElem?_cons_succ, Option.bind_some]
          go_frame
          rw [h1]
          go_wp2_with fail
          refine (refNum_any n (by omega) w2).mono ?_
          rintro e w3 ⟨rfl, b3⟩
          go_wp2_with fail
          exact ⟨rfl, b3, rfl, rfl⟩
        | 3, _, hi =>
          obtain rfl := Option.some.inj hi
          have h2 : vs 2 = _ := hv 2 (by decide)
          have hz1 : (⟨#[3]⟩ : ByteArray).size = [3].length := by first | rfl | exact strOf_size _
          have hz2 : ((strOf (Wire.num n)) : ByteArray).size = (Wire.num n).length := by first | rfl | exact strOf_size _
          simp only [List.length_cons, List.length_append, List.length_nil] at hz1 hz2
          have hadd : (⟨#[3]⟩ : ByteArray) ++ (strOf (Wire.num n)) = strOf (3 :: (Wire.num n)) := add_str [3] (Wire.num n)
          simp only [relF, List.getD_cons_zero, List.getD_cons_succ, List.foldl_cons, List.foldl_nil, dstAt, List.getElem?_cons_zero, List.getElem?_cons_succ, Option.bind_some]
          go_frame
          rw [h2]
          go_wp2_with fail
          exact ⟨rfl, Below.refl _ _, rfl, rfl⟩
        | 4, _, hi =>
          obtain rfl := Option.some.inj hi
          simp only [relF, List.getD_cons_zero, List.getD_cons_succ, List.foldl_cons, List.foldl_nil, dstAt, List.getElem?_cons_zero, List.getElem?_cons_succ, Option.bind_some]
          go_wp2_with fail
          exact ⟨rfl, Below.refl _ _, rfl, rfl⟩
        | 5, _, hi =>
          obtain rfl := Option.some.inj hi
          have h4 : vs 4 = _ := hv 4 (by decide)
          have hcv := hash_str HSL.out ((b2.block _ (lt_of_block XS.out)).trans XS.out)
          simp only [relF, List.getD_cons_zero, List.getD_cons_succ, List.foldl_cons, List.foldl_nil, dstAt, List.getElem?_cons_zero, List.getElem?_cons_succ, Option.bind_some]
          go_frame
          rw [h4]
          go_wp2_with fail
          exact ⟨rfl, Below.refl _ _, rfl, rfl⟩
        | 6, _, hi =>
          obtain rfl := Option.some.inj hi
          have h3 : vs 3 = _ := hv 3 (by decide)
          have h5 : vs 5 = _ := hv 5 (by decide)
          have hlen1 := HSL.out
          have hz1 : ((strOf (3 :: (Wire.num n))) : ByteArray).size = (3 :: (Wire.num n)).length := by first | rfl | exact strOf_size _
          have hz2 : ((strOf S) : ByteArray).size = S.length := by first | rfl | exact strOf_size _
          simp only [List.length_cons, List.length_append, List.length_nil] at hz1 hz2
          have hadd : ((strOf (3 :: (Wire.num n))) : ByteArray) ++ (strOf S) = strOf (3 :: ((Wire.num n) ++ S)) := add_str (3 :: (Wire.num n)) S
          simp only [relF, List.getD_cons_zero, List.getD_cons_succ, List.foldl_cons, List.foldl_nil, dstAt, List.getElem?_cons_zero, List.getElem?_cons_succ, Option.bind_some]
          go_frame
          rw [h3, h5]
          go_wp2_with fail
          exact ⟨rfl, Below.refl _ _, rfl, rfl⟩
        | 7, _, hi =>
          obtain rfl := Option.some.inj hi
          have h6 : vs 6 = _ := hv 6 (by decide)
          simp only [relF, List.getD_cons_zero, List.getD_cons_succ, List.foldl_cons, List.foldl_nil, dstAt, List.getElem?_cons_zero, List.getElem?_cons_succ, Option.bind_some]
          go_frame
          rw [h6]
          go_wp2_with fail
          refine (refOf_any w2 (3 :: ((Wire.num n) ++ S)) (by omega)).mono ?_
          rintro e w3 ⟨rfl, b3⟩
          go_wp2_with fail
          exact ⟨rfl, b3, rfl, rfl⟩
        | 8, _, hi =>
          obtain rfl := Option.some.inj hi
          have h7 : vs 7 = _ := hv 7 (by decide)
          simp only [relF, List.getD_cons_zero, List.getD_cons_succ, List.foldl_cons, List.foldl_nil, dstAt, List.getElem?_cons_zero, List.getElem?_cons_succ, Option.bind_some]
          go_frame
          rw [h7]
          go_wp2_with fail
          exact ⟨rfl, Below.refl _ _, rfl, rfl⟩
        | nx + 9, him, _ => exact absurd him (by omega)
      · intro w2 b2 vs hv
        have hnl := HNL.out
        have hu := HU.out
        have hsl := HSL1.out
        have hlc : (3 :: ((Wire.num n) ++ S)).length ≤ 100 := by simp only [List.length_cons, List.length_append]; omega
        have h8 : vs 8 = _ := hv 8 (by decide)
        simp only [relF, List.drop_succ_cons, List.drop_zero, List.length_cons, List.length_nil, Nat.zero_add, Nat.reduceAdd, List.range, List.range.loop, List.foldl_cons, List.foldl_nil, dstAt, List.getElem?_cons_zero, List.getElem?_cons_succ, Option.bind_some]
        go_frame
        rw [h8]
        have hfin := HFIN.out
        have xr := (b2.block _ (lt_of_block XR.out)).trans XR.out
        have hcv := hash_str HRL.out xr
        have B5 := B4.trans (b2.mono B4.size)
        clear xr
        go_wp2_with fail
        go_ret
        exact ⟨by rw [HCK.out]; rfl, B5⟩
    · have u4 : ((T : Int) == (m : Int)) = false := by rw [beq_eq_false_iff_ne]; omega
      have u4' : (T == m) = false := by rw [beq_eq_false_iff_ne]; exact e2
      have hck := HCK0.out
      rw [decide_eq_true (by omega), decide_eq_false (by omega), Bool.true_and, Bool.false_and] at hck
      have HCK := Lib.hid hck; clear hck HCK0 HTOP
      have HTE := Lib.hid hT
      have e1a : mX ≤ mA := by omega
      clear e1 e2 hT hBl hXl hPl
      go_enter Tryd.func23, Tryd.ntmps23
      go_wp2_with fail
      rw [← HW0.out]
      refine HRS.out.mono ?_
      rintro e w1 ⟨rfl, b1⟩
      have B1 := b0.trans (b1.mono b0.size)
      have hc := HTP.out w1 B1
      have HC := Lib.hid hc; clear hc HTP HRS
      go_wp2_with fail
      refine HC.out.mono ?_
      rintro e w2 ⟨q, cc, rfl, o2, b2⟩
      clear HC
      have hpq := PairsAt.of_owns rfl o2
      have hpc := hpq.2.1
      have hpm := hpq.2.2.1
      rw [← HTE.out] at hpc ⊢
      clear o2 hpq
      go_wp2_with fail
      go_ret
      exact ⟨by rw [HCK.out]; rfl, B1.trans (b2.mono B1.size)⟩
  · have u3 : ((mX : Int) == (mA : Int)) = false := by rw [beq_eq_false_iff_ne]; omega
    have u3' : (mX == mA) = false := by rw [beq_eq_false_iff_ne]; exact e1
    have hck := HCK0.out
    rw [decide_eq_false (by omega), Bool.false_and] at hck
    have HCK := Lib.hid hck; clear hck HCK0 HTOP HTP
    clear hT hBl hXl hPl
    go_enter Tryd.func23, Tryd.ntmps23
    go_wp2_with fail
    rw [← HW0.out]
    refine HRS.out.mono ?_
    rintro e w1 ⟨rfl, b1⟩
    go_wp2_with fail
    go_ret
    exact ⟨by rw [HCK.out]; rfl, b0.trans (b1.mono b0.size)⟩

end Go.Proofs.YtgheacegjgaobaaDoor

/- What the laws on many leaves call, whatever comes in; small rows; the walk of pick. -/
namespace Go.Proofs.YtgheacegjgaobaaDoor
open Go.RowKit
set_option linter.unusedSimpArgs false
set_option linter.unusedVariables false

/-- Is it proved, whatever comes in. -/
def checkI (r : List UInt8) (n : Int) (A : List Int) (X P : List (List UInt8)) : Bool := !sizeBad n A && Many.check r n.toNat (A.map Int.toNat) X P
def sizeI (n : Int) (A : List Int) : Nat := if sizeBad n A then 0 else (Many.tops (A.map Int.toNat) 0 n.toNat).length

theorem toNat_back (B : List Nat) : (B.map Int.ofNat).map Int.toNat = B := by
  rw [List.map_map]
  conv => rhs; rw [← List.map_id B]
  apply List.map_congr_left
  intro a _; rfl

/-- What isn't refused. -/
theorem size_good {n : Int} {A : List Int} (h : sizeBad n A = false) : ∃ (k : Nat) (B : List Nat), n = (k : Int) ∧ k ≤ 65536 ∧ A = B.map Int.ofNat ∧ B.Pairwise (· < ·) ∧ ∀ a ∈ B, a < k := by
  unfold sizeBad at h
  simp only [Bool.or_eq_false_iff, decide_eq_false_iff_not, Bool.not_eq_false'] at h
  obtain ⟨h1, h2, h3⟩ := h
  obtain ⟨B, g1, g2, g3⟩ := rises_form h3
  refine ⟨n.toNat, B, by omega, by omega, g1, g2, fun a ha => ?_⟩
  have := g3 a ha
  omega

theorem good_size {k : Nat} {B : List Nat} (hk : k ≤ 65536) (h1 : B.Pairwise (· < ·)) (h2 : ∀ a ∈ B, a < k) : sizeBad (k : Int) (B.map Int.ofNat) = false := by
  unfold sizeBad
  rw [rises_intro h1 (fun a ha => by have := h2 a ha; omega), decide_eq_false (by omega), decide_eq_false (by omega)]
  rfl

theorem checkI_nat {r : List UInt8} {k : Nat} {B : List Nat} {X P : List (List UInt8)} (hk : k ≤ 65536) (h1 : B.Pairwise (· < ·)) (h2 : ∀ a ∈ B, a < k) : checkI r (k : Int) (B.map Int.ofNat) X P = Many.check r k B X P := by
  unfold checkI
  rw [good_size hk h1 h2, toNat_back]
  rfl
theorem sizeI_nat {k : Nat} {B : List Nat} (hk : k ≤ 65536) (h1 : B.Pairwise (· < ·)) (h2 : ∀ a ∈ B, a < k) : sizeI (k : Int) (B.map Int.ofNat) = (Many.tops B 0 k).length := by
  unfold sizeI
  rw [good_size hk h1 h2, toNat_back]
  rfl

theorem manySize_all (w : World) (n : Int) (o : Option Addr) (m c : Nat) (A : List Int) (hA : IntsAt w o m c A) (hm : m ≤ 1000000) (hL : Laid w) :
    Calls Tryd.prog 19 #[.int .i64 n, .slice o m c] w fun e w' => e = .returned (.int .i64 (sizeI n A : Int)) ∧ Below w.heap.size w w' := by
  cases h : sizeBad n A with
  | true =>
    have : sizeI n A = 0 := by unfold sizeI; rw [h]; rfl
    rw [this]
    exact manySize_bad w n o m c A hA h
  | false =>
    obtain ⟨k, B, rfl, hk, rfl, h1, h2⟩ := size_good h
    rw [sizeI_nat hk h1 h2]
    exact manySize_any w k hk o m c B hA hm h1 h2 hL

theorem refMSize_all (w : World) (n : Int) (o : Option Addr) (m c : Nat) (A : List Int) (hA : IntsAt w o m c A) :
    Calls Tryd.prog 24 #[.int .i64 n, .slice o m c] w fun e w' => e = .returned (.int .i64 (sizeI n A : Int)) ∧ Below w.heap.size w w' := by
  cases h : sizeBad n A with
  | true =>
    have : sizeI n A = 0 := by unfold sizeI; rw [h]; rfl
    rw [this]
    exact refMSize_bad w n o m c A hA h
  | false =>
    obtain ⟨k, B, rfl, hk, rfl, h1, h2⟩ := size_good h
    rw [sizeI_nat hk h1 h2]
    exact refMSize_any w k hk o m c B hA h1 h2

theorem manyCheck_all (w : World) (r : List UInt8) (hr32 : r.length = 32) (n : Int) (oA oX o : Option Addr) (mA cA mX cX m c : Nat) (A : List Int) (X P : List (List UInt8)) (hA : IntsAt w oA mA cA A) (hX : StrsAt w oX mX cX X) (hP : HashesAt w o m c P) (hlen : ∀ l ∈ X, l.length ≤ 100000) (hmA : mA ≤ 1000000) (hmX : mX ≤ 1000000) (hm : m ≤ 1000000) (hL : Laid w) :
    Calls Tryd.prog 16 #[.agg (byteCells r).toArray, .int .i64 n, .slice oA mA cA, .slice oX mX cX, .slice o m c] w fun e w' => e = .returned (.bool (checkI r n A X P)) ∧ Below w.heap.size w w' := by
  cases h : sizeBad n A with
  | true =>
    have : checkI r n A X P = false := by unfold checkI; rw [h]; rfl
    rw [this]
    exact manyCheck_bad w r n oA oX o mA cA mX cX m c A hA h
  | false =>
    obtain ⟨k, B, rfl, hk, rfl, h1, h2⟩ := size_good h
    rw [checkI_nat hk h1 h2]
    exact manyCheck_any w r hr32 k hk oA oX o mA cA mX cX m c B X P hA h1 h2 hX hP hlen hmA hmX hm hL

theorem refMCheck_all (w : World) (r : List UInt8) (hr32 : r.length = 32) (n : Int) (oA oX o : Option Addr) (mA cA mX cX m c : Nat) (A : List Int) (X P : List (List UInt8)) (hA : IntsAt w oA mA cA A) (hX : StrsAt w oX mX cX X) (hP : HashesAt w o m c P) (hlen : ∀ l ∈ X, l.length ≤ 100000) (hm : m ≤ 1000000) :
    Calls Tryd.prog 23 #[.agg (byteCells r).toArray, .int .i64 n, .slice oA mA cA, .slice oX mX cX, .slice o m c] w fun e w' => e = .returned (.bool (checkI r n A X P)) ∧ Below w.heap.size w w' := by
  cases h : sizeBad n A with
  | true =>
    have : checkI r n A X P = false := by unfold checkI; rw [h]; rfl
    rw [this]
    exact refMCheck_bad w r n oA oX o mA cA mX cX m c A hA h
  | false =>
    obtain ⟨k, B, rfl, hk, rfl, h1, h2⟩ := size_good h
    rw [checkI_nat hk h1 h2]
    exact refMCheck_any w r hr32 k hk oA oX o mA cA mX cX m c B X P hA h1 h2 hX hP hlen hm

/-- A new row of numbers, of texts. -/
theorem ints_new (w : World) (L : List Int) (k : Nat) (hk : L.length = k) (hk2 : k ≤ 1000) : IntsAt (w.alloc (.cells (L.map fun a => Value.int .i64 a).toArray 3)) (some ⟨w.heap.size, 0, none⟩) k k L := by
  refine ⟨hk, Nat.le_refl _, by unfold maxLen; omega, fun _ => ⟨w.heap.size, 0, rfl, by simp, fun i a ha => ?_⟩⟩
  intro j v hv
  match j, hv with
  | 0, hv =>
    obtain rfl := Option.some.inj hv
    have := range_row (cs := L.map fun a => Value.int .i64 a) (heap_alloc_new w (.cells (L.map fun a => Value.int .i64 a).toArray 3)) i (.int .i64 a) (by simp [ha])
    simpa using this
theorem strs_new (w : World) (L : List (List UInt8)) (k : Nat) (hk : L.length = k) (hk2 : k ≤ 1000) : StrsAt (w.alloc (.cells (L.map fun a => Value.string (strOf a)).toArray 9)) (some ⟨w.heap.size, 0, none⟩) k k L := by
  refine ⟨hk, Nat.le_refl _, by unfold maxLen; omega, fun _ => ⟨w.heap.size, 0, rfl, by simp, fun i a ha => ?_⟩⟩
  intro j v hv
  match j, hv with
  | 0, hv =>
    obtain rfl := Option.some.inj hv
    have := range_row (cs := L.map fun a => Value.string (strOf a)) (heap_alloc_new w (.cells (L.map fun a => Value.string (strOf a)).toArray 9)) i (.string (strOf a)) (by simp [ha])
    simpa using this

theorem StrsAt.of_owns {w : World} {base n c : Nat} {q : Option Addr} {d : List (List UInt8)} (hn : d.length = n) (h : w.ownsRow base 9 1 (.slice q n c) n (d.map fun l => Value.string (strOf l))) : StrsAt w q n c d := by
  have hcell := fun g hg => h.cells (g := g) hg
  rcases h.2 with ⟨hv, h0⟩ | ⟨g, cap, cur, hv, hb, hg, hnc, hcm, _⟩
  · simp only [Value.slice.injEq] at hv
    obtain ⟨rfl, h1, rfl⟩ := hv
    exact ⟨hn, by omega, by decide, fun h => by omega⟩
  · simp only [Value.slice.injEq, true_and] at hv
    obtain ⟨rfl, rfl⟩ := hv
    refine ⟨hn, hnc, hcm, fun _ => ⟨g, 0, rfl, lt_of_block hg, fun i p hp => ?_⟩⟩
    intro j u hu
    match j, hu with
    | 0, hu =>
      obtain rfl := Option.some.inj hu
      have := hcell g rfl i (.string (strOf p)) (by simp [hp])
      rw [Addr.add_mid] at this
      simpa using this

/-- What pick keeps: the leaves so far. -/
theorem pick_succ {L : List (List UInt8)} {B : List Nat} {j a : Nat} {l : List UInt8} (h : B[j]? = some a) (hl : L[a]? = some l) : Many.pick L (B.take (j + 1)) = Many.pick L (B.take j) ++ [l] := by
  unfold Many.pick
  rw [List.take_add_one, h, List.map_append]
  simp [hl]

set_option maxRecDepth 100000 in
set_option maxHeartbeats 4000000 in
theorem pick_any (w : World) (o oA : Option Addr) (m c mA cA : Nat) (L : List (List UInt8)) (B : List Nat) (hS : StrsAt w o m c L) (hA : IntsAt w oA mA cA (B.map Int.ofNat)) (hBn : ∀ a ∈ B, a < m) (hmA : mA ≤ 1000000) :
    Calls Tryd.prog 22 #[.slice o m c, .slice oA mA cA] w fun e w' => ∃ q cc, e = .returned (.slice q mA cc) ∧ StrsAt w' q mA cc (Many.pick L B) ∧ w'.ownsRow w.heap.size 9 1 (.slice q mA cc) mA ((Many.pick L B).map fun l => Value.string (strOf l)) ∧ Below w.heap.size w w' := by
  have hlL := hS.len
  have hcL := hS.cap
  have hxL := hS.max
  have hlA := hA.len
  rw [List.length_map] at hlA
  have hcA := hA.cap
  have hxA := hA.max
  have HS := Lib.hid hS; clear hS
  have HA := Lib.hid hA; clear hA
  have HBN := Lib.hid hBn; clear hBn
  have HLL := Lib.hid hlL; clear hlL
  have HLA := Lib.hid hlA; clear hlA
  obtain ⟨i0, hi, hz0, hz1, hz2⟩ := info_parts Tryd.info_string
  have HI0 := Lib.hid hi; clear hi
  have HZ0 := Lib.hid hz0; clear hz0
  have HZ1 := Lib.hid hz1; clear hz1
  have HZ2 := Lib.hid hz2; clear hz2
  have ho0 : (w.alloc (.cells #[] 9)).ownsRow w.heap.size 9 1 (.slice (some ⟨w.heap.size, 0, none⟩) 0 0) 0 ((Many.pick L (B.take 0)).map fun l => Value.string (strOf l)) := ⟨rfl, .inr ⟨w.heap.size, 0, #[], rfl, Nat.le_refl _, heap_alloc_new w _, Nat.le_refl _, by decide, rfl, rfl⟩⟩
  have HO0 := Lib.hid ho0; clear ho0
  go_enter Tryd.func22, Tryd.ntmps22
  go_wp2_with fail
  go_loopw [5, 6] (fun v u wr => ∃ (j : Nat) (qo : Option Addr) (co : Nat), j ≤ mA ∧ u = .int .i64 (j : Int) ∧ v = .slice qo j co ∧ Hid (wr.ownsRow w.heap.size 9 1 (.slice qo j co) j ((Many.pick L (B.take j)).map fun l => Value.string (strOf l))) ∧ Below w.heap.size w wr) (fun _ u _ => mA - (intOf u).toNat)
  case atStart => exact ⟨0, _, _, by omega, rfl, rfl, HO0, (Below.refl _ _).alloc (Nat.le_refl _) _⟩
  case round =>
    clear HO0
    obtain ⟨j, qo, co, hj, rfl, rfl, HOW, Bw⟩ := hrel
    by_cases hlt : j < mA
    · obtain ⟨a, ha⟩ : ∃ a, B[j]? = some a := ⟨_, List.getElem?_eq_getElem (by rw [HLA.out]; exact hlt)⟩
      have ham := HBN.out a (List.mem_of_getElem? ha)
      obtain ⟨l, hl⟩ : ∃ l, L[a]? = some l := ⟨_, List.getElem?_eq_getElem (by rw [HLL.out]; exact ham)⟩
      obtain ⟨bA, oA', rfl⟩ := HA.out.form (by omega)
      obtain ⟨bS, oS', rfl⟩ := HS.out.form (by omega)
      have hca := (HA.out.below (Nat.le_refl _) Bw).get (i := j) (a := (a : Int)) (by rw [List.getElem?_map, ha]; rfl)
      have hcl := (HS.out.below (Nat.le_refl _) Bw).get hl
      have hps := pick_succ ha hl
      have HPS := Lib.hid hps; clear hps ha hl
      have t1 : decide ((j : Int) < (mA : Int)) = true := decide_eq_true (by omega)
      have t1' : decide (j < mA) = true := decide_eq_true hlt
      have haI : (a : Int) < (m : Int) := by omega
      go_wp2_with (at_builtin; refine wpList_append_own _ rfl _ _ 24 rfl w.heap.size 9 i0 (.string ⟨#[]⟩) 1 16 Tryd.under_strs HI0.out HZ0.out HZ1.out HZ2.out rfl (by decide) _ _ _ rfl (HOW.out.alloc _) ⟨wr.heap.size, 0, none⟩ 1 1 [.string (strOf l)] rfl rfl (cell_one_new _ _ _) (fun u hu => by obtain rfl := List.mem_singleton.1 hu; rfl) (by unfold maxLen; omega) (by omega) (by have := Bw.size; simp; omega) ?_)
      intro v' w5 hown' hgrow _
      have B5 : Below w.heap.size w w5 := (Bw.alloc Bw.size _).trans (grown_below hgrow (fun g' hg' => (HOW.out.lt g' hg').1) (by have := Bw.size; simp; omega))
      have hown2 : w5.ownsRow w.heap.size 9 1 v' (j + 1) ((Many.pick L (B.take (j + 1))).map fun l => Value.string (strOf l)) := by rw [HPS.out, List.map_append]; exact hown'
      rcases hown2.2 with ⟨_, h0⟩ | ⟨g', cp', cur', rfl, hrest⟩
      · omega
      have OW5 := Lib.hid hown2; clear hown2 hown' hrest hgrow HOW
      go_wp2_with fail
      go_roundw
      case rel => exact ⟨j + 1, _, cp', by omega, by go_num, rfl, OW5, B5⟩
      case measure => simp [intOf]; omega
    · obtain rfl : j = mA := by omega
      have htk : B.take j = B := List.take_of_length_le (by rw [HLA.out]; exact Nat.le_refl _)
      have how := HOW.out
      rw [htk] at how
      have HOW2 := Lib.hid how; clear how HOW htk
      have t1 : decide ((j : Int) < (j : Int)) = false := decide_eq_false (by omega)
      go_wp2_with fail
      go_ret
      have hpl : (Many.pick L B).length = j := by rw [← HLA.out]; exact List.length_map ..
      exact ⟨qo, co, rfl, StrsAt.of_owns hpl HOW2.out, HOW2.out, Bw⟩

end Go.Proofs.YtgheacegjgaobaaDoor

/- The walk of the awake of the laws on many leaves. -/
namespace Go.Proofs.YtgheacegjgaobaaDoor
open Go.RowKit
set_option linter.unusedSimpArgs false
set_option linter.unusedVariables false

theorem Many.half_4 : Tree.half 4 = 2 := Tree.half_of (i := 1) (by decide) (by decide)
theorem Many.ex_tops : Many.tops [0, 3] 0 4 = [(1, 1), (2, 1)] := by
  rw [Many.tops_two (by decide) (by decide), Many.half_4, Many.tops_two (by decide) (by decide), Tree.half_2, Many.tops_one (by decide) (by decide), Many.tops_none (by decide)]
  rw [Many.tops_two (by decide) (by decide), Tree.half_2, Many.tops_none (by decide), Many.tops_one (by decide) (by decide)]
  rfl
theorem Many.ex_prove : Many.prove [[97], [98], [99], [100]] [0, 3] = [Tree.leaf [98], Tree.leaf [99]] := by
  unfold Many.prove
  rw [show ([[97], [98], [99], [100]] : List (List UInt8)).length = 4 from rfl, Many.ex_tops]
  simp [Tree.top_one]
theorem Many.ex_rise : Many.Rise ([[97], [98], [99], [100]] : List (List UInt8)).length [0, 3] := by
  refine ⟨by simp, ?_⟩
  intro a ha
  simp at ha
  rcases ha with rfl | rfl <;> decide
theorem Many.ex_top (d : List UInt8) : Tree.top [[97], [98], [99], d] = Tree.node (Tree.node (Tree.leaf [97]) (Tree.leaf [98])) (Tree.node (Tree.leaf [99]) (Tree.leaf d)) := by
  rw [Tree.top_two (by simp), show ([[97], [98], [99], d] : List (List UInt8)).length = 4 from rfl, Many.half_4]
  rw [show (([[97], [98], [99], d] : List (List UInt8)).drop 2) = [[99], d] from rfl, show (([[97], [98], [99], d] : List (List UInt8)).take 2) = [[97], [98]] from rfl]
  rw [Tree.top_two (by decide), show ([[97], [98]] : List (List UInt8)).length = 2 from rfl, Tree.half_2, show (([[97], [98]] : List (List UInt8)).take 1) = [[97]] from rfl, show (([[97], [98]] : List (List UInt8)).drop 1) = [[98]] from rfl, Tree.top_one, Tree.top_one]
  rw [Tree.top_two (by simp), show ([[99], d] : List (List UInt8)).length = 2 from rfl, Tree.half_2, show (([[99], d] : List (List UInt8)).take 1) = [[99]] from rfl, show (([[99], d] : List (List UInt8)).drop 1) = [d] from rfl, Tree.top_one, Tree.top_one]
theorem Many.ex_check : Many.check (Tree.root 4 (Tree.top [[97], [98], [99], [100]])) 4 [0, 3] [[97], [100]] (Many.prove [[97], [98], [99], [100]] [0, 3]) = true :=
  Many.check_prove (l := [[97], [98], [99], [100]]) Many.ex_rise
theorem Many.num_4 : Wire.num 4 = [4] := Wire.num_small 4 (by decide)

set_option maxRecDepth 100000 in
theorem Many.ex_apart : (Sha.of (3 :: ([4] ++ Sha.of (1 :: (Sha.of (1 :: (Sha.of [0, 97] ++ Sha.of [0, 98])) ++ Sha.of (1 :: (Sha.of [0, 99] ++ Sha.of [0, 101])))))) == Sha.of (3 :: ([4] ++ Sha.of (1 :: (Sha.of (1 :: (Sha.of [0, 97] ++ Sha.of [0, 98])) ++ Sha.of (1 :: (Sha.of [0, 99] ++ Sha.of [0, 100]))))))) = false := by decide +kernel

theorem Many.ex_not : Many.check (Tree.root 4 (Tree.top [[97], [98], [99], [100]])) 4 [0, 3] [[97], [101]] (Many.prove [[97], [98], [99], [100]] [0, 3]) = false := by
  have ht : Many.topOf 4 [0, 3] [[97], [101]] (Many.prove [[97], [98], [99], [100]] [0, 3]) = Tree.top [[97], [98], [99], [101]] := by
    refine Many.topOf_prove (l := [[97], [98], [99], [100]]) Many.ex_rise rfl rfl ?_ ?_
    · intro t a h
      match t, h with
      | 0, h => obtain rfl := Option.some.inj h; rfl
      | 1, h => obtain rfl := Option.some.inj h; rfl
    · intro a ha
      match a, ha with
      | 0, ha => exact absurd (by simp) ha
      | 1, _ => rfl
      | 2, _ => rfl
      | 3, ha => exact absurd (by simp) ha
      | _ + 4, _ => rfl
  unfold Many.check
  rw [ht, Many.ex_top, Many.ex_top]
  have h := Many.ex_apart
  unfold Tree.root
  rw [Many.num_4]
  rw [Bool.and_eq_false_iff, Bool.and_eq_false_iff]
  right; right
  exact h

theorem fold_off (k : Nat) (xs : List Value) : ∀ (j : Nat) (a : Array Value), k + j + xs.length ≤ a.size → ((xs.zipIdx j).foldl (fun cs x => cs.setIfInBounds (k + x.2) x.1) a).toList = a.toList.take (k + j) ++ xs ++ a.toList.drop (k + j + xs.length) := by
  induction xs with
  | nil => intro j a h; simp
  | cons x xs ih =>
    intro j a h
    simp only [List.zipIdx_cons, List.foldl_cons, List.length_cons] at h ⊢
    rw [ih (j + 1) _ (by simp; omega)]
    rw [Array.toList_setIfInBounds, show k + (j + 1) = k + j + 1 by omega, List.take_add_one, List.getElem?_set_self (by rw [Array.length_toList]; omega), List.take_set_of_le (by omega), List.drop_set_of_lt (by omega)]
    rw [show k + j + (xs.length + 1) = k + j + 1 + xs.length by omega]
    simp

/-- Two sums, one behind the other. -/
theorem built2 {z : Array Value} {a b : List UInt8} (ha : (byteCells a).length = 32) (hb : (byteCells b).length = 32) (hz : z.size = 64) :
    List.foldl (fun (cs : Array Value) (x : Value × Nat) => cs.setIfInBounds (32 + x.2) x.1) (List.foldl (fun (cs : Array Value) (x : Value × Nat) => cs.setIfInBounds x.2 x.1) z (byteCells a).zipIdx) (byteCells b).zipIdx = (byteCells a ++ byteCells b).toArray := by
  have h1 := fold_off 0 (byteCells a) 0 z (by omega)
  simp only [Nat.zero_add, List.take_zero, List.nil_append] at h1
  have hzl : z.toList.length = 64 := by rw [Array.length_toList, hz]
  have hs : (List.foldl (fun (cs : Array Value) (x : Value × Nat) => cs.setIfInBounds x.2 x.1) z (byteCells a).zipIdx).size = 64 := by
    rw [← Array.length_toList, h1, List.length_append, List.length_drop, hzl, ha]
  have h2 := fold_off 32 (byteCells b) 0 _ (by rw [hs, hb]; decide)
  rw [h1] at h2
  apply Array.toList_inj.1
  rw [h2, List.take_append_of_le_length (by omega), List.take_of_length_le (by omega), List.drop_of_length_le (by rw [List.length_append, List.length_drop, hzl, ha, hb]; decide), List.append_nil]

theorem foldz_size (xs : List (Value × Nat)) : ∀ z : Array Value, (List.foldl (fun (cs : Array Value) (x : Value × Nat) => cs.setIfInBounds x.2 x.1) z xs).size = z.size := by
  induction xs with
  | nil => intro z; rfl
  | cons x xs ih => intro z; rw [List.foldl_cons, ih]; simp

theorem hashes_two (w : World) {a b : List UInt8} (ha : a.length = 32) (hb : b.length = 32) : HashesAt (w.alloc (.cells (byteCells a ++ byteCells b).toArray 23)) (some ⟨w.heap.size, 0, none⟩) 2 2 [a, b] := by
  have hc : (byteCells a ++ byteCells b).length = 64 := by rw [List.length_append, byteCells_length, byteCells_length, ha, hb]
  have he : hashCells [a, b] = byteCells a ++ byteCells b := by simp [hashCells]
  refine HashesAt.of_owns (base := 0) (d := [a, b]) ⟨by rw [he, hc]; rfl, .inr ⟨w.heap.size, 2, _, rfl, Nat.zero_le _, heap_alloc_new w _, Nat.le_refl _, by decide, by simpa using hc, ?_⟩⟩ ?_
  · rw [he]; exact List.take_of_length_le (by rw [hc]; exact Nat.le_refl 64)
  · intro p hp
    simp at hp
    rcases hp with rfl | rfl
    · exact ha
    · exact hb

set_option maxRecDepth 100000 in
set_option maxHeartbeats 4000000 in
theorem awake4_any (w : World) (hL : Laid w) :
    Calls Tryd.prog 10 #[] w fun e w' => e = .returned (.bool true) ∧ Below w.heap.size w w' := by
  obtain ⟨W1, hW1⟩ : ∃ W1, W1 = w.alloc (.cells #[.string ⟨#[97]⟩, .string ⟨#[98]⟩, .string ⟨#[99]⟩, .string ⟨#[100]⟩] 9) := ⟨_, rfl⟩
  obtain ⟨W2, hW2⟩ : ∃ W2, W2 = W1.alloc (.cells #[.int .i64 0, .int .i64 3] 3) := ⟨_, rfl⟩
  have s1 : StrsAt W1 (some ⟨w.heap.size, 0, none⟩) 4 4 [[97], [98], [99], [100]] := by rw [hW1]; exact strs_new w [[97], [98], [99], [100]] 4 rfl (by decide)
  have i2 : IntsAt W2 (some ⟨W1.heap.size, 0, none⟩) 2 2 [0, 3] := by rw [hW2]; exact ints_new W1 [0, 3] 2 rfl (by decide)
  have b1 : Below w.heap.size w W1 := by rw [hW1]; exact (Below.refl _ _).alloc (Nat.le_refl _) _
  have d2 : Below W1.heap.size W1 W2 := by rw [hW2]; exact (Below.refl _ _).alloc (Nat.le_refl _) _
  have hz1 : W1.heap.size = w.heap.size + 1 := by rw [hW1]; simp
  have b2 : Below w.heap.size w W2 := b1.trans (d2.mono b1.size)
  have hs2 := s1.below (Nat.le_refl _) d2
  have HS := Lib.hid hs2; clear hs2 s1
  have HL := Lib.hid (hL.below b2); clear hL
  have hle : ∀ l ∈ [[(97 : UInt8)], [98], [99], [100]], l.length ≤ 100000 := by simp
  have HLE := Lib.hid hle; clear hle
  have hp := manyProve_any W2 _ _ 4 4 2 2 _ [0, 3] HS.out i2 (by simp) (by simp) HLE.out (by decide) (by decide) HL.out
  rw [Many.ex_prove] at hp
  have HP := Lib.hid hp; clear hp i2
  have HW1 := Lib.hid hW1; clear hW1
  have HW2 := Lib.hid hW2; clear hW2
  have hck := Many.ex_check
  have hnot := Many.ex_not
  rw [Many.ex_prove] at hck hnot
  have HCK := Lib.hid hck; clear hck
  have HNOT := Lib.hid hnot; clear hnot
  obtain ⟨R, hR⟩ : ∃ R, R = Tree.root 4 (Tree.top [[97], [98], [99], [100]]) := ⟨_, rfl⟩
  have hRl : R.length = 32 := by rw [hR]; exact Tree.root_len _ _
  rw [← hR] at HCK HNOT
  have HRL := Lib.hid hRl; clear hRl
  have HRE := Lib.hid hR; clear hR
  obtain ⟨lb, hlb⟩ : ∃ lb, lb = Tree.leaf [98] := ⟨_, rfl⟩
  obtain ⟨lc, hlc⟩ : ∃ lc, lc = Tree.leaf [99] := ⟨_, rfl⟩
  have hlb32 : lb.length = 32 := by rw [hlb]; exact Tree.leaf_len _
  have hlc32 : lc.length = 32 := by rw [hlc]; exact Tree.leaf_len _
  have HB := fun w => refLeaf_any w [98] (by decide)
  have HC := fun w => refLeaf_any w [99] (by decide)
  rw [← hlb] at HP HCK HNOT HB
  rw [← hlc] at HP HCK HNOT HC
  have h2l : ([lb, lc] : List (List UInt8)).length = 2 := rfl
  rw [h2l] at HP
  have KB := Lib.hid HB; clear HB
  have KC := Lib.hid HC; clear HC hlb hlc h2l
  have HB32 := Lib.hid hlb32; clear hlb32
  have HC32 := Lib.hid hlc32; clear hlc32
  have hbl : (byteCells lb).length = 32 := by rw [byteCells_length, HB32.out]
  have hcl : (byteCells lc).length = 32 := by rw [byteCells_length, HC32.out]
  go_enter Tryd.func10, Tryd.ntmps10
  go_wp2_with fail
  rw [show (w.alloc (.cells #[.string ⟨#[97]⟩, .string ⟨#[98]⟩, .string ⟨#[99]⟩, .string ⟨#[100]⟩] 9)) = W1 from HW1.out.symm]
  rw [show w.heap.size + 1 = W1.heap.size from hz1.symm, ← HW2.out]
  refine HP.out.mono ?_
  rintro e w3 ⟨q, cc, rfl, hs, d3⟩
  have B3 := b2.trans (d3.mono b2.size)
  have HQ := Lib.hid hs; clear hs
  have b13 : Below W2.heap.size W2 w3 := d3
  replace HS := Lib.hid (HS.out.below (Nat.le_refl _) d3)
  replace HL := Lib.hid (HL.out.below d3)
  go_wp2_with fail
  refine (KB.out _).mono ?_
  rintro e w4 ⟨rfl, d4⟩
  replace HS := Lib.hid (HS.out.below (Nat.le_refl _) d4)
  replace HL := Lib.hid (HL.out.below d4)
  replace HQ := Lib.hid (HQ.out.below (Nat.le_refl _) d4)
  replace B3 := B3.trans (d4.mono B3.size)
  go_wp2_with fail
  refine (KC.out _).mono ?_
  rintro e w5 ⟨rfl, d5⟩
  replace HS := Lib.hid (HS.out.below (Nat.le_refl _) d5)
  replace HL := Lib.hid (HL.out.below d5)
  replace HQ := Lib.hid (HQ.out.below (Nat.le_refl _) d5)
  replace B3 := B3.trans (d5.mono B3.size)
  go_wp2_with fail
  case inl h => exact absurd h (by rw [foldz_size]; decide)
  rw [built2 (ha := hbl) (hb := hcl) (hz := (by exact rfl))]
  obtain ⟨W6, hW6⟩ : ∃ W6, W6 = w5.alloc (.cells (byteCells lb ++ byteCells lc).toArray 23) := ⟨_, rfl⟩
  rw [← hW6]
  have d6 : Below w5.heap.size w5 W6 := by rw [hW6]; exact (Below.refl _ _).alloc (Nat.le_refl _) _
  have hn6 : HashesAt W6 (some ⟨w5.heap.size, 0, none⟩) 2 2 [lb, lc] := by rw [hW6]; exact hashes_two w5 HB32.out HC32.out
  have HW6 := Lib.hid hW6; clear hW6
  replace HS := Lib.hid (HS.out.below (Nat.le_refl _) d6)
  replace HL := Lib.hid (HL.out.below d6)
  replace HQ := Lib.hid (HQ.out.below (Nat.le_refl _) d6)
  replace B3 := B3.trans (d6.mono B3.size)
  have hsm := refSame_any W6 q _ 2 cc 2 2 _ _ HQ.out hn6
  rw [decide_eq_true rfl] at hsm
  have HSM := Lib.hid hsm; clear hsm hn6
  refine HSM.out.mono ?_
  rintro e w7 ⟨rfl, d7⟩
  replace HS := Lib.hid (HS.out.below (Nat.le_refl _) d7)
  replace HL := Lib.hid (HL.out.below d7)
  replace HQ := Lib.hid (HQ.out.below (Nat.le_refl _) d7)
  replace B3 := B3.trans (d7.mono B3.size)
  have hr := refRoot_any w7 _ 4 4 _ HS.out (by decide) HLE.out
  rw [← HRE.out] at hr
  have HR := Lib.hid hr; clear hr
  go_wp2_with fail
  refine HR.out.mono ?_
  rintro e w8 ⟨rfl, d8⟩
  clear HR
  replace HS := Lib.hid (HS.out.below (Nat.le_refl _) d8)
  replace HL := Lib.hid (HL.out.below d8)
  replace HQ := Lib.hid (HQ.out.below (Nat.le_refl _) d8)
  replace B3 := B3.trans (d8.mono B3.size)
  obtain ⟨A8, hA8⟩ : ∃ A8, A8 = w8.alloc (.cells #[.int .i64 0, .int .i64 3] 3) := ⟨_, rfl⟩
  obtain ⟨X8, hX8⟩ : ∃ X8, X8 = A8.alloc (.cells #[.string ⟨#[97]⟩, .string ⟨#[100]⟩] 9) := ⟨_, rfl⟩
  have hi : IntsAt A8 (some ⟨w8.heap.size, 0, none⟩) 2 2 [0, 3] := by rw [hA8]; exact ints_new w8 [0, 3] 2 rfl (by decide)
  have hx : StrsAt X8 (some ⟨A8.heap.size, 0, none⟩) 2 2 [[97], [100]] := by rw [hX8]; exact strs_new A8 [[97], [100]] 2 rfl (by decide)
  have hzz : A8.heap.size = w8.heap.size + 1 := by rw [hA8]; simp
  have ea : Below w8.heap.size w8 A8 := by rw [hA8]; exact (Below.refl _ _).alloc (Nat.le_refl _) _
  have ex : Below A8.heap.size A8 X8 := by rw [hX8]; exact (Below.refl _ _).alloc (Nat.le_refl _) _
  have e8 := ea.trans (ex.mono ea.size)
  replace hi := hi.below (Nat.le_refl _) ex
  replace HS := Lib.hid (HS.out.below (Nat.le_refl _) e8)
  replace HL := Lib.hid (HL.out.below e8)
  replace HQ := Lib.hid (HQ.out.below (Nat.le_refl _) e8)
  replace B3 := B3.trans (e8.mono B3.size)
  have hc := manyCheck_any X8 R HRL.out 4 (by decide) _ _ q 2 2 2 2 2 cc [0, 3] _ _ hi (by simp) (by simp) hx HQ.out (by simp) (by decide) (by decide) (by decide) HL.out
  rw [HCK.out] at hc
  have HCC := Lib.hid hc; clear hc hi hx
  have HA := Lib.hid hA8; clear hA8
  have HX := Lib.hid hX8; clear hX8
  have HZZ := Lib.hid hzz; clear hzz
  go_wp2_with fail
  rw [← HZZ.out, ← HA.out, ← HX.out]
  refine HCC.out.mono ?_
  rintro e w9 ⟨rfl, d9⟩
  clear HCC HA HX HZZ
  replace HS := Lib.hid (HS.out.below (Nat.le_refl _) d9)
  replace HL := Lib.hid (HL.out.below d9)
  replace HQ := Lib.hid (HQ.out.below (Nat.le_refl _) d9)
  replace B3 := B3.trans (d9.mono B3.size)
  have hr := refRoot_any w9 _ 4 4 _ HS.out (by decide) HLE.out
  rw [← HRE.out] at hr
  have HR := Lib.hid hr; clear hr
  go_wp2_with fail
  refine HR.out.mono ?_
  rintro e w10 ⟨rfl, d10⟩
  clear HR
  replace HS := Lib.hid (HS.out.below (Nat.le_refl _) d10)
  replace HL := Lib.hid (HL.out.below d10)
  replace HQ := Lib.hid (HQ.out.below (Nat.le_refl _) d10)
  replace B3 := B3.trans (d10.mono B3.size)
  obtain ⟨A10, hA10⟩ : ∃ A10, A10 = w10.alloc (.cells #[.int .i64 0, .int .i64 3] 3) := ⟨_, rfl⟩
  obtain ⟨X10, hX10⟩ : ∃ X10, X10 = A10.alloc (.cells #[.string ⟨#[97]⟩, .string ⟨#[101]⟩] 9) := ⟨_, rfl⟩
  have hi : IntsAt A10 (some ⟨w10.heap.size, 0, none⟩) 2 2 [0, 3] := by rw [hA10]; exact ints_new w10 [0, 3] 2 rfl (by decide)
  have hx : StrsAt X10 (some ⟨A10.heap.size, 0, none⟩) 2 2 [[97], [101]] := by rw [hX10]; exact strs_new A10 [[97], [101]] 2 rfl (by decide)
  have hzz : A10.heap.size = w10.heap.size + 1 := by rw [hA10]; simp
  have ea : Below w10.heap.size w10 A10 := by rw [hA10]; exact (Below.refl _ _).alloc (Nat.le_refl _) _
  have ex : Below A10.heap.size A10 X10 := by rw [hX10]; exact (Below.refl _ _).alloc (Nat.le_refl _) _
  have e10 := ea.trans (ex.mono ea.size)
  replace hi := hi.below (Nat.le_refl _) ex
  replace HS := Lib.hid (HS.out.below (Nat.le_refl _) e10)
  replace HL := Lib.hid (HL.out.below e10)
  replace HQ := Lib.hid (HQ.out.below (Nat.le_refl _) e10)
  replace B3 := B3.trans (e10.mono B3.size)
  have hc := manyCheck_any X10 R HRL.out 4 (by decide) _ _ q 2 2 2 2 2 cc [0, 3] _ _ hi (by simp) (by simp) hx HQ.out (by simp) (by decide) (by decide) (by decide) HL.out
  rw [HNOT.out] at hc
  have HCC := Lib.hid hc; clear hc hi hx
  have HA := Lib.hid hA10; clear hA10
  have HX := Lib.hid hX10; clear hX10
  have HZZ := Lib.hid hzz; clear hzz
  go_wp2_with fail
  rw [← HZZ.out, ← HA.out, ← HX.out]
  refine HCC.out.mono ?_
  rintro e w11 ⟨rfl, d11⟩
  clear HCC HA HX HZZ
  replace HS := Lib.hid (HS.out.below (Nat.le_refl _) d11)
  replace HL := Lib.hid (HL.out.below d11)
  replace HQ := Lib.hid (HQ.out.below (Nat.le_refl _) d11)
  replace B3 := B3.trans (d11.mono B3.size)
  obtain ⟨A12, hA12⟩ : ∃ A12, A12 = w11.alloc (.cells #[.int .i64 0, .int .i64 3] 3) := ⟨_, rfl⟩
  have hi : IntsAt A12 (some ⟨w11.heap.size, 0, none⟩) 2 2 [0, 3] := by rw [hA12]; exact ints_new w11 [0, 3] 2 rfl (by decide)
  have d12 : Below w11.heap.size w11 A12 := by rw [hA12]; exact (Below.refl _ _).alloc (Nat.le_refl _) _
  replace HS := Lib.hid (HS.out.below (Nat.le_refl _) d12)
  replace HL := Lib.hid (HL.out.below d12)
  replace HQ := Lib.hid (HQ.out.below (Nat.le_refl _) d12)
  replace B3 := B3.trans (d12.mono B3.size)
  have hc := manySize_any A12 4 (by decide) _ 2 2 [0, 3] hi (by decide) (by simp) (by simp) HL.out
  rw [Many.ex_tops] at hc
  have HCC := Lib.hid hc; clear hc hi
  have HA := Lib.hid hA12; clear hA12
  go_wp2_with fail
  rw [← HA.out]
  refine HCC.out.mono ?_
  rintro e w13 ⟨rfl, d13⟩
  clear HCC HA
  replace HS := Lib.hid (HS.out.below (Nat.le_refl _) d13)
  replace HL := Lib.hid (HL.out.below d13)
  replace HQ := Lib.hid (HQ.out.below (Nat.le_refl _) d13)
  replace B3 := B3.trans (d13.mono B3.size)
  obtain ⟨A14, hA14⟩ : ∃ A14, A14 = w13.alloc (.cells #[.int .i64 0, .int .i64 3] 3) := ⟨_, rfl⟩
  have hi : IntsAt A14 (some ⟨w13.heap.size, 0, none⟩) 2 2 [0, 3] := by rw [hA14]; exact ints_new w13 [0, 3] 2 rfl (by decide)
  have d14 : Below w13.heap.size w13 A14 := by rw [hA14]; exact (Below.refl _ _).alloc (Nat.le_refl _) _
  replace HS := Lib.hid (HS.out.below (Nat.le_refl _) d14)
  replace HL := Lib.hid (HL.out.below d14)
  replace HQ := Lib.hid (HQ.out.below (Nat.le_refl _) d14)
  replace B3 := B3.trans (d14.mono B3.size)
  have hc := manyRises_any A14 4 _ 2 2 [0, 3] hi
  rw [show risesB 4 [0, 3] = true by decide] at hc
  have HCC := Lib.hid hc; clear hc hi
  have HA := Lib.hid hA14; clear hA14
  go_wp2_with fail
  rw [← HA.out]
  refine HCC.out.mono ?_
  rintro e w15 ⟨rfl, d15⟩
  clear HCC HA
  replace HS := Lib.hid (HS.out.below (Nat.le_refl _) d15)
  replace HL := Lib.hid (HL.out.below d15)
  replace HQ := Lib.hid (HQ.out.below (Nat.le_refl _) d15)
  replace B3 := B3.trans (d15.mono B3.size)
  go_wp2_with fail
  go_ret
  exact ⟨rfl, B3⟩


end Go.Proofs.YtgheacegjgaobaaDoor

/- What the laws on many leaves have in common. -/
namespace Go.Proofs.YtgheacegjgaobaaDoor
open Go.RowKit
set_option linter.unusedSimpArgs false
set_option linter.unusedVariables false

theorem strs_le {F : List ByteArray} (h : ∀ s ∈ F, s.size ≤ maxLen) : ∀ l ∈ F.map (fun s => s.data.toList), l.length ≤ 9223372036854775807 := by
  intro l hl
  obtain ⟨f, hf, rfl⟩ := List.mem_map.1 hl
  have := h f hf
  unfold maxLen at this
  rw [show f.data.toList.length = f.size by rw [Array.length_toList]; rfl]
  exact this

theorem wf_i64' {a : Int} (h : (Lit.int .i64 a).wf = true) : -9223372036854775808 ≤ a ∧ a ≤ 9223372036854775807 := by
  have := bounds_i64 h
  omega

theorem wf_u8' {a : Int} (h : (Lit.int .u8 a).wf = true) : 0 ≤ a ∧ a ≤ 255 := by
  simp [Lit.wf] at h
  have h1 : IntKind.u8.min = 0 := by decide
  have h2 : IntKind.u8.max = 255 := by decide
  omega

theorem pick_row (w : World) (o oA : Option Addr) (m c mA cA : Nat) (L : List (List UInt8)) (B : List Nat) (hS : StrsAt w o m c L) (hA : IntsAt w oA mA cA (B.map Int.ofNat)) (hBn : ∀ a ∈ B, a < m) (hmA : mA ≤ 1000000) :
    Calls Tryd.prog 22 #[.slice o m c, .slice oA mA cA] w fun e w' => ∃ q cc, e = .returned (.slice q mA cc) ∧ StrsAt w' q mA cc (Many.pick L B) ∧ Below w.heap.size w w' :=
  (pick_any w o oA m c mA cA L B hS hA hBn hmA).mono fun _ _ ⟨q, c, h1, h2, _, h3⟩ => ⟨q, c, h1, h2, h3⟩

theorem pick_le {L : List (List UInt8)} {B : List Nat} {k : Nat} (h : ∀ l ∈ L, l.length ≤ k) : ∀ l ∈ Many.pick L B, l.length ≤ k := by
  intro l hl
  obtain ⟨a, _, rfl⟩ := List.mem_map.1 hl
  cases hx : L[a]? with
  | none => simp
  | some y => simpa using h y (List.mem_of_getElem? hx)

theorem prove_few (L : List (List UInt8)) (B : List Nat) : (Many.prove L B).length ≤ L.length + 1 := by
  rw [Many.prove_len]; exact (Many.tops_len B _ 0).1

theorem sizeI_zero {n : Int} {A : List Int} (h : risesB n A = false) : ((sizeI n A : Nat) : Int) = 0 := by
  unfold sizeI sizeBad
  rw [h]; simp
theorem IntsAt.of_owns {w : World} {base n c : Nat} {q : Option Addr} {d : List Int} (hn : d.length = n) (h : w.ownsRow base 3 1 (.slice q n c) n (d.map fun l => Value.int .i64 l)) : IntsAt w q n c d := by
  have hcell := fun g hg => h.cells (g := g) hg
  rcases h.2 with ⟨hv, h0⟩ | ⟨g, cap, cur, hv, hb, hg, hnc, hcm, _⟩
  · simp only [Value.slice.injEq] at hv
    obtain ⟨rfl, h1, rfl⟩ := hv
    exact ⟨hn, by omega, by decide, fun h => by omega⟩
  · simp only [Value.slice.injEq, true_and] at hv
    obtain ⟨rfl, rfl⟩ := hv
    refine ⟨hn, hnc, hcm, fun _ => ⟨g, 0, rfl, lt_of_block hg, fun i p hp => ?_⟩⟩
    intro j u hu
    match j, hu with
    | 0, hu =>
      obtain rfl := Option.some.inj hu
      have := hcell g rfl i (.int .i64 p) (by simp [hp])
      rw [Addr.add_mid] at this
      simpa using this


theorem strs_nil {w : World} : StrsAt w none 0 0 [] := ⟨rfl, Nat.le_refl _, by decide, fun h => absurd h (by decide)⟩
theorem ints_nil {w : World} : IntsAt w none 0 0 [] := ⟨rfl, Nat.le_refl _, by decide, fun h => absurd h (by decide)⟩

theorem wpList_load_hashG {ops : Array Oper} {rest : List Oper} {op : Oper} {a : Act} {w : World} {Q : Exit → Act → World → Prop} (hgd : Region.wanted op (yielded ops a.tmps) = true) (x : Operand) (ho : op.op = .load 23 x)
    (g off : Nat) (hx : a.eval x = .pointer (some ⟨g, off, none⟩)) (l : List UInt8) (hl : l.length = 32) (hg : w.rangeAt g off (byteCells l))
    (h : wpList Tryd.prog ops Q rest (a.put op.dst (.agg (byteCells l).toArray)) w) : wpList Tryd.prog ops Q (op :: rest) a w :=
  wpList_step fun _ hK => by
    rw [if_pos hgd]
    exact wp_load_mid 23 x ho g off hx (byteCells l) _ hg Tryd.under_hh rfl (by rw [Tryd.infoH, byteCells_length, hl]) (hK _ _ h)

theorem Many.range_rise (n : Nat) : (List.range n).Pairwise (· < ·) ∧ ∀ a ∈ List.range n, a < n := ⟨List.pairwise_lt_range, fun a h => List.mem_range.1 h⟩
theorem Many.pick_range (l : List (List UInt8)) : Many.pick l (List.range l.length) = l := by
  unfold Many.pick
  apply List.ext_getElem?
  intro i
  rw [List.getElem?_map]
  by_cases h : i < l.length
  · rw [List.getElem?_range h, List.getElem?_eq_getElem h]
    simp [h]
  · rw [List.getElem?_eq_none (by simpa using h), List.getElem?_eq_none (by simpa using h)]; rfl
theorem Many.prove_none (l : List (List UInt8)) : Many.prove l [] = [Tree.top l] := by
  unfold Many.prove
  rw [Many.tops_none rfl]
  simp
theorem Many.prove_all {l : List (List UInt8)} (h : 1 ≤ l.length) : Many.prove l (List.range l.length) = [] := by
  unfold Many.prove
  rw [Many.tops_all _ 0 h (fun a _ h2 => List.mem_range.2 (by omega))]
  rfl
theorem Many.check_all (l : List (List UInt8)) : Many.check (Tree.root l.length (Tree.top l)) l.length (List.range l.length) l (Many.prove l (List.range l.length)) = true := by
  have h := Many.check_prove (l := l) (A := List.range l.length) (Many.range_rise _)
  rwa [Many.pick_range] at h
theorem Many.check_none (l : List (List UInt8)) : Many.check (Tree.root l.length (Tree.top l)) l.length [] [] [Tree.top l] = true := by
  have h := Many.check_prove (l := l) (A := []) ⟨List.Pairwise.nil, fun a h => by cases h⟩
  rwa [Many.prove_none] at h
end Go.Proofs.YtgheacegjgaobaaDoor

/- What the regions of the law TreeApart leave. -/
namespace Go.Proofs.YtgheacegjgaobaaDoor
open Go.RowKit
set_option linter.unusedSimpArgs false
set_option linter.unusedVariables false

theorem HashesAt.drop1 {w : World} {b off n cap : Nat} {P : List (List UInt8)} (h : HashesAt w (some ⟨b, off, none⟩) n cap P) (hn : 1 ≤ n) : HashesAt w (some ⟨b, off + 32, none⟩) (n - 1) (cap - 1) (P.drop 1) := by
  have h1 := h.1.1
  have h2 := h.1.2.1
  have h3 := h.1.2.2.1
  obtain ⟨b', off', h5, h6, h7⟩ := h.1.2.2.2 (by omega)
  cases h5
  refine ⟨⟨by rw [List.length_drop]; omega, by omega, by omega, fun _ => ⟨_, _, rfl, h6, fun i p hp => ?_⟩⟩, fun p hp => h.2 p (List.mem_of_mem_drop hp)⟩
  rw [List.getElem?_drop] at hp
  have := h7 (1 + i) p hp
  rwa [show off + 32 + i * 32 = off + (1 + i) * 32 by omega]

theorem badSide_k {n : Nat} {x : Int} (h : badSide (n : Int) x = false) : ∃ k : Nat, x = (k : Int) ∧ k < n := by
  unfold badSide at h
  simp only [Bool.or_eq_false_iff, decide_eq_false_iff_not] at h
  exact ⟨x.toNat, by omega, by omega⟩

def apR (B : Nat) (R : List UInt8) (P : List (List UInt8)) (ix : Nat) (w w' : World) : Prop :=
  match ix with
  | 30 => KeepK B R P w w'
  | _ => Below w.heap.size w w'
theorem apR_ne {B : Nat} {R : List UInt8} {P : List (List UInt8)} {ix : Nat} {w w' : World} (h : ix ≠ 30) (hr : apR B R P ix w w') : Below w.heap.size w w' := by
  unfold apR at hr
  split at hr
  · exact absurd rfl h
  · exact hr
theorem apR_below {w0 : World} {R : List UInt8} {P : List (List UInt8)} (ix : Nat) (w w' : World) (hb : Below w0.heap.size w0 w) (hr : apR w0.heap.size R P ix w w') : Below w0.heap.size w0 w' := by
  by_cases h : ix = 30
  · subst h; exact hb.trans hr.1
  · exact hb.trans ((apR_ne h hr).mono hb.size)

theorem treeProve_row (w : World) (o : Option Addr) (n cap i : Nat) (L : List (List UInt8)) (hS : StrsAt w o n cap L) (hi : i < n) (hn : n ≤ 500000) (hl : ∀ l ∈ L, l.length ≤ 100000) (hL : Laid w) :
    Calls Tryd.prog 12 #[.slice o n cap, .int .i64 (i : Int)] w fun e w' => ∃ q c, e = .returned (.tuple #[.slice q (Tree.prove L i).length c, .int .i64 0]) ∧ HashesAt w' q (Tree.prove L i).length c (Tree.prove L i) ∧ Below w.heap.size w w' :=
  (treeProve_any w o n cap i L hS hi hn hl hL).mono fun _ _ ⟨q, c, h1, h2, h3⟩ => ⟨q, c, h1, HashesAt.of_owns h2 (Tree.prove_32 L.length L i rfl), h3⟩

/-- What the region's operations leave. -/
def tarB (B1 bK oK mK cK cP N i : Nat) (k : Nat) (qP : Option Addr) (K PR : List (List UInt8)) (R f l : List UInt8) (ix : Nat) (w : World) (v : Value) : Prop :=
  match ix with
  | 0 => v = .agg (byteCells R).toArray
  | 1 => v = .slice (some ⟨bK, oK, none⟩) mK cK
  | 2 => v = .int .i64 (mK : Int)
  | 3 => v = .int .i64 (i : Int)
  | 4 => v = .string (strOf f)
  | 5 => v = .slice qP N cP
  | 6 => v = .bool (Tree.check R mK i f PR)
  | 7 => v = .agg (byteCells R).toArray
  | 8 => v = .slice (some ⟨bK, oK, none⟩) mK cK
  | 9 => v = .int .i64 (mK : Int)
  | 10 => v = .int .i64 (i : Int)
  | 11 => v = .string (strOf f)
  | 12 => v = .slice qP N cP
  | 13 => v = .bool (Tree.check R mK i f PR)
  | 14 => v = .bool true
  | 15 => v = .bool true
  | 16 => v = .agg (byteCells R).toArray
  | 17 => v = .slice (some ⟨bK, oK, none⟩) mK cK
  | 18 => v = .int .i64 (mK : Int)
  | 19 => v = .int .i64 (k : Int)
  | 20 => v = .slice (some ⟨bK, oK, none⟩) mK cK
  | 21 => v = .int .i64 (i : Int)
  | 22 => v = .pointer (some ⟨bK, oK + i, none⟩)
  | 23 => v = .string (strOf l)
  | 24 => v = .slice qP N cP
  | 25 => v = .bool (Tree.check R mK k l PR)
  | 26 => v = .agg (byteCells R).toArray
  | 27 => v = .slice (some ⟨bK, oK, none⟩) mK cK
  | 28 => v = .int .i64 (mK : Int)
  | 29 => v = .int .i64 (k : Int)
  | 30 => v = .slice (some ⟨bK, oK, none⟩) mK cK
  | 31 => v = .int .i64 (i : Int)
  | 32 => v = .pointer (some ⟨bK, oK + i, none⟩)
  | 33 => v = .string (strOf l)
  | 34 => v = .slice qP N cP
  | 35 => v = .bool (Tree.check R mK k l PR)
  | 36 => v = .bool true
  | 37 => v = .bool true
  | 38 => v = .bool true
  | 39 => v = .agg (byteCells R).toArray
  | 40 => v = .slice (some ⟨bK, oK, none⟩) mK cK
  | 41 => v = .int .i64 (mK : Int)
  | 42 => v = .int .i64 (((mK + 1 : Nat) : Int))
  | 43 => v = .int .i64 (i : Int)
  | 44 => v = .slice (some ⟨bK, oK, none⟩) mK cK
  | 45 => v = .int .i64 (i : Int)
  | 46 => v = .pointer (some ⟨bK, oK + i, none⟩)
  | 47 => v = .string (strOf l)
  | 48 => v = .slice qP N cP
  | 49 => v = .bool (Tree.check R (mK + 1) i l PR)
  | 50 => v = .agg (byteCells R).toArray
  | 51 => v = .slice (some ⟨bK, oK, none⟩) mK cK
  | 52 => v = .int .i64 (mK : Int)
  | 53 => v = .int .i64 (((mK + 1 : Nat) : Int))
  | 54 => v = .int .i64 (i : Int)
  | 55 => v = .slice (some ⟨bK, oK, none⟩) mK cK
  | 56 => v = .int .i64 (i : Int)
  | 57 => v = .pointer (some ⟨bK, oK + i, none⟩)
  | 58 => v = .string (strOf l)
  | 59 => v = .slice qP N cP
  | 60 => v = .bool (Tree.check R (mK + 1) i l PR)
  | 61 => v = .bool true
  | 62 => v = .bool true
  | 63 => v = .bool true
  | _ => True

theorem tarB_mono (B1 bK oK mK cK cP N i : Nat) (k : Nat) (qP : Option Addr) (K PR : List (List UInt8)) (R f l : List UInt8) (jx : Nat) (w w' : World) (v : Value) (hb : Below w.heap.size w w') (h : tarB B1 bK oK mK cK cP N i k qP K PR R f l jx w v) : tarB B1 bK oK mK cK cP N i k qP K PR R f l jx w' v := by
  match jx, h with
  | 0, h => exact h
  | 1, h => exact h
  | 2, h => exact h
  | 3, h => exact h
  | 4, h => exact h
  | 5, h => exact h
  | 6, h => exact h
  | 7, h => exact h
  | 8, h => exact h
  | 9, h => exact h
  | 10, h => exact h
  | 11, h => exact h
  | 12, h => exact h
  | 13, h => exact h
  | 14, h => exact h
  | 15, h => exact h
  | 16, h => exact h
  | 17, h => exact h
  | 18, h => exact h
  | 19, h => exact h
  | 20, h => exact h
  | 21, h => exact h
  | 22, h => exact h
  | 23, h => exact h
  | 24, h => exact h
  | 25, h => exact h
  | 26, h => exact h
  | 27, h => exact h
  | 28, h => exact h
  | 29, h => exact h
  | 30, h => exact h
  | 31, h => exact h
  | 32, h => exact h
  | 33, h => exact h
  | 34, h => exact h
  | 35, h => exact h
  | 36, h => exact h
  | 37, h => exact h
  | 38, h => exact h
  | 39, h => exact h
  | 40, h => exact h
  | 41, h => exact h
  | 42, h => exact h
  | 43, h => exact h
  | 44, h => exact h
  | 45, h => exact h
  | 46, h => exact h
  | 47, h => exact h
  | 48, h => exact h
  | 49, h => exact h
  | 50, h => exact h
  | 51, h => exact h
  | 52, h => exact h
  | 53, h => exact h
  | 54, h => exact h
  | 55, h => exact h
  | 56, h => exact h
  | 57, h => exact h
  | 58, h => exact h
  | 59, h => exact h
  | 60, h => exact h
  | 61, h => exact h
  | 62, h => exact h
  | 63, h => exact h
  | _ + 64, h => exact trivial

/-- What the region's operations leave. -/
def tarA (B1 bK oK mK cK cP N i : Nat) (x : Int) (qP : Option Addr) (K PR : List (List UInt8)) (R f l : List UInt8) (ix : Nat) (w : World) (v : Value) : Prop :=
  match ix with
  | 0 => v = .agg (byteCells R).toArray
  | 1 => v = .slice (some ⟨bK, oK, none⟩) mK cK
  | 2 => v = .int .i64 (mK : Int)
  | 3 => v = .int .i64 (i : Int)
  | 4 => v = .string (strOf f)
  | 5 => v = .slice qP N cP
  | 6 => v = .bool (Tree.check R mK i f PR)
  | 7 => v = .agg (byteCells R).toArray
  | 8 => v = .slice (some ⟨bK, oK, none⟩) mK cK
  | 9 => v = .int .i64 (mK : Int)
  | 10 => v = .int .i64 (i : Int)
  | 11 => v = .string (strOf f)
  | 12 => v = .slice qP N cP
  | 13 => v = .bool (Tree.check R mK i f PR)
  | 14 => v = .bool true
  | 15 => v = .bool true
  | 16 => v = .agg (byteCells R).toArray
  | 17 => v = .slice (some ⟨bK, oK, none⟩) mK cK
  | 18 => v = .int .i64 (mK : Int)
  | 19 => v = .int .i64 (x)
  | 20 => v = .slice (some ⟨bK, oK, none⟩) mK cK
  | 21 => v = .int .i64 (i : Int)
  | 22 => v = .pointer (some ⟨bK, oK + i, none⟩)
  | 23 => v = .string (strOf l)
  | 24 => v = .slice qP N cP
  | 25 => v = .bool false
  | 26 => v = .agg (byteCells R).toArray
  | 27 => v = .slice (some ⟨bK, oK, none⟩) mK cK
  | 28 => v = .int .i64 (mK : Int)
  | 29 => v = .int .i64 (x)
  | 30 => v = .slice (some ⟨bK, oK, none⟩) mK cK
  | 31 => v = .int .i64 (i : Int)
  | 32 => v = .pointer (some ⟨bK, oK + i, none⟩)
  | 33 => v = .string (strOf l)
  | 34 => v = .slice qP N cP
  | 35 => v = .bool false
  | 36 => v = .bool true
  | 37 => v = .bool true
  | 38 => v = .bool true
  | 39 => v = .agg (byteCells R).toArray
  | 40 => v = .slice (some ⟨bK, oK, none⟩) mK cK
  | 41 => v = .int .i64 (mK : Int)
  | 42 => v = .int .i64 (((mK + 1 : Nat) : Int))
  | 43 => v = .int .i64 (i : Int)
  | 44 => v = .slice (some ⟨bK, oK, none⟩) mK cK
  | 45 => v = .int .i64 (i : Int)
  | 46 => v = .pointer (some ⟨bK, oK + i, none⟩)
  | 47 => v = .string (strOf l)
  | 48 => v = .slice qP N cP
  | 49 => v = .bool (Tree.check R (mK + 1) i l PR)
  | 50 => v = .agg (byteCells R).toArray
  | 51 => v = .slice (some ⟨bK, oK, none⟩) mK cK
  | 52 => v = .int .i64 (mK : Int)
  | 53 => v = .int .i64 (((mK + 1 : Nat) : Int))
  | 54 => v = .int .i64 (i : Int)
  | 55 => v = .slice (some ⟨bK, oK, none⟩) mK cK
  | 56 => v = .int .i64 (i : Int)
  | 57 => v = .pointer (some ⟨bK, oK + i, none⟩)
  | 58 => v = .string (strOf l)
  | 59 => v = .slice qP N cP
  | 60 => v = .bool (Tree.check R (mK + 1) i l PR)
  | 61 => v = .bool true
  | 62 => v = .bool true
  | 63 => v = .bool true
  | _ => True

theorem tarA_mono (B1 bK oK mK cK cP N i : Nat) (x : Int) (qP : Option Addr) (K PR : List (List UInt8)) (R f l : List UInt8) (jx : Nat) (w w' : World) (v : Value) (hb : Below w.heap.size w w') (h : tarA B1 bK oK mK cK cP N i x qP K PR R f l jx w v) : tarA B1 bK oK mK cK cP N i x qP K PR R f l jx w' v := by
  match jx, h with
  | 0, h => exact h
  | 1, h => exact h
  | 2, h => exact h
  | 3, h => exact h
  | 4, h => exact h
  | 5, h => exact h
  | 6, h => exact h
  | 7, h => exact h
  | 8, h => exact h
  | 9, h => exact h
  | 10, h => exact h
  | 11, h => exact h
  | 12, h => exact h
  | 13, h => exact h
  | 14, h => exact h
  | 15, h => exact h
  | 16, h => exact h
  | 17, h => exact h
  | 18, h => exact h
  | 19, h => exact h
  | 20, h => exact h
  | 21, h => exact h
  | 22, h => exact h
  | 23, h => exact h
  | 24, h => exact h
  | 25, h => exact h
  | 26, h => exact h
  | 27, h => exact h
  | 28, h => exact h
  | 29, h => exact h
  | 30, h => exact h
  | 31, h => exact h
  | 32, h => exact h
  | 33, h => exact h
  | 34, h => exact h
  | 35, h => exact h
  | 36, h => exact h
  | 37, h => exact h
  | 38, h => exact h
  | 39, h => exact h
  | 40, h => exact h
  | 41, h => exact h
  | 42, h => exact h
  | 43, h => exact h
  | 44, h => exact h
  | 45, h => exact h
  | 46, h => exact h
  | 47, h => exact h
  | 48, h => exact h
  | 49, h => exact h
  | 50, h => exact h
  | 51, h => exact h
  | 52, h => exact h
  | 53, h => exact h
  | 54, h => exact h
  | 55, h => exact h
  | 56, h => exact h
  | 57, h => exact h
  | 58, h => exact h
  | 59, h => exact h
  | 60, h => exact h
  | 61, h => exact h
  | 62, h => exact h
  | 63, h => exact h
  | _ + 64, h => exact trivial

/-- What the region's operations leave. -/
def tapA (B B1 bK oK mK cK cP N i : Nat) (bP oP : Nat) (K PR : List (List UInt8)) (R f l : List UInt8) (ix : Nat) (w : World) (v : Value) : Prop :=
  match ix with
  | 0 => v = .slice (some ⟨bP, oP, none⟩) N cP
  | 1 => v = .int .i64 (N : Int)
  | 2 => v = .bool true
  | 3 => v = .bool true
  | 4 => v = .agg (byteCells R).toArray
  | 5 => v = .slice (some ⟨bK, oK, none⟩) mK cK
  | 6 => v = .int .i64 (mK : Int)
  | 7 => v = .int .i64 (i : Int)
  | 8 => v = .slice (some ⟨bK, oK, none⟩) mK cK
  | 9 => v = .int .i64 (i : Int)
  | 10 => v = .pointer (some ⟨bK, oK + i, none⟩)
  | 11 => v = .string (strOf l)
  | 12 => v = .slice (some ⟨bP, oP, none⟩) N cP
  | 13 => v = .slice (some ⟨bP, oP + 32, none⟩) (N - 1) (cP - 1)
  | 14 => v = .bool false
  | 15 => v = .bool false
  | 16 => v = .bool false
  | 17 => v = .agg (byteCells R).toArray
  | 18 => v = .slice (some ⟨bK, oK, none⟩) mK cK
  | 19 => v = .int .i64 (mK : Int)
  | 20 => v = .int .i64 (i : Int)
  | 21 => v = .slice (some ⟨bK, oK, none⟩) mK cK
  | 22 => v = .int .i64 (i : Int)
  | 23 => v = .pointer (some ⟨bK, oK + i, none⟩)
  | 24 => v = .string (strOf l)
  | 25 => ∃ g : Nat, v = .slice (some ⟨g, 0, none⟩) 0 0
  | 26 => v = .slice (some ⟨bP, oP, none⟩) N cP
  | 27 => ∃ (q : Addr) (c : Nat), v = .slice (some q) N c ∧ N = PR.length ∧ RowK B PR w q N c
  | 28 => v = .agg (byteCells R).toArray
  | 29 => ∃ g : Nat, v = .slice (some ⟨g, 0, none⟩) 1 1 ∧ OneK R w g
  | 30 => ∃ (q : Option Addr) (c : Nat), v = .slice q (N + 1) c ∧ HashesAt w q (N + 1) c (PR ++ [R])
  | 31 => v = .bool false
  | 32 => v = .bool false
  | _ => True

theorem tapA_mono (B B1 bK oK mK cK cP N i : Nat) (bP oP : Nat) (K PR : List (List UInt8)) (R f l : List UInt8) (jx : Nat) (w w' : World) (v : Value) (hb : Below w.heap.size w w') (h : tapA B B1 bK oK mK cK cP N i bP oP K PR R f l jx w v) : tapA B B1 bK oK mK cK cP N i bP oP K PR R f l jx w' v := by
  match jx, h with
  | 0, h => exact h
  | 1, h => exact h
  | 2, h => exact h
  | 3, h => exact h
  | 4, h => exact h
  | 5, h => exact h
  | 6, h => exact h
  | 7, h => exact h
  | 8, h => exact h
  | 9, h => exact h
  | 10, h => exact h
  | 11, h => exact h
  | 12, h => exact h
  | 13, h => exact h
  | 14, h => exact h
  | 15, h => exact h
  | 16, h => exact h
  | 17, h => exact h
  | 18, h => exact h
  | 19, h => exact h
  | 20, h => exact h
  | 21, h => exact h
  | 22, h => exact h
  | 23, h => exact h
  | 24, h => exact h
  | 25, h => exact h
  | 26, h => exact h
  | 27, h => exact (let ⟨q, c, h1, h2, h3⟩ := h; ⟨q, c, h1, h2, h3.below hb⟩)
  | 28, h => exact h
  | 29, h => exact (let ⟨g, h1, h2⟩ := h; ⟨g, h1, (hb.block g (lt_of_block h2)).trans h2⟩)
  | 30, h => exact (let ⟨q, c, h1, h2⟩ := h; ⟨q, c, h1, h2.below (Nat.le_refl _) hb⟩)
  | 31, h => exact h
  | 32, h => exact h
  | _ + 33, h => exact trivial

theorem tapA_keep (B B1 bK oK mK cK cP N i : Nat) (bP oP : Nat) (K PR : List (List UInt8)) (R f l : List UInt8) (i' j : Nat) (hij : i' ≠ j) (w w' : World) (v : Value) (h : apR B R PR i' w w') (hv : tapA B B1 bK oK mK cK cP N i bP oP K PR R f l j w v) : tapA B B1 bK oK mK cK cP N i bP oP K PR R f l j w' v := by
  by_cases hi : i' = 30
  · subst hi
    match j, hij, hv with
    | 0, _, hv => exact hv
    | 1, _, hv => exact hv
    | 2, _, hv => exact hv
    | 3, _, hv => exact hv
    | 4, _, hv => exact hv
    | 5, _, hv => exact hv
    | 6, _, hv => exact hv
    | 7, _, hv => exact hv
    | 8, _, hv => exact hv
    | 9, _, hv => exact hv
    | 10, _, hv => exact hv
    | 11, _, hv => exact hv
    | 12, _, hv => exact hv
    | 13, _, hv => exact hv
    | 14, _, hv => exact hv
    | 15, _, hv => exact hv
    | 16, _, hv => exact hv
    | 17, _, hv => exact hv
    | 18, _, hv => exact hv
    | 19, _, hv => exact hv
    | 20, _, hv => exact hv
    | 21, _, hv => exact hv
    | 22, _, hv => exact hv
    | 23, _, hv => exact hv
    | 24, _, hv => exact hv
    | 25, _, hv => exact hv
    | 26, _, hv => exact hv
    | 27, _, hv => exact (let ⟨q, c, h1, h2, h3⟩ := hv; ⟨q, c, h1, h2, h.2.2 q _ c h3 h2⟩)
    | 28, _, hv => exact hv
    | 29, _, hv => exact (let ⟨g, h1, h2⟩ := hv; ⟨g, h1, h.2.1 g h2⟩)
    | 30, hij, _ => exact absurd rfl hij
    | 31, _, hv => exact hv
    | 32, _, hv => exact hv
    | _ + 33, _, _ => exact trivial
  · exact tapA_mono B B1 bK oK mK cK cP N i bP oP K PR R f l j w w' v (apR_ne hi h) hv

/-- What the region's operations leave. -/
def tapB (B B1 bK oK mK cK cP N i : Nat) (bP oP : Nat) (K PR : List (List UInt8)) (R f l : List UInt8) (ix : Nat) (w : World) (v : Value) : Prop :=
  match ix with
  | 0 => v = .slice (some ⟨bP, oP, none⟩) N cP
  | 1 => v = .int .i64 (N : Int)
  | 2 => v = .bool true
  | 3 => v = .bool true
  | 4 => v = .agg (byteCells R).toArray
  | 5 => v = .slice (some ⟨bK, oK, none⟩) mK cK
  | 6 => v = .int .i64 (mK : Int)
  | 7 => v = .int .i64 (i : Int)
  | 8 => v = .slice (some ⟨bK, oK, none⟩) mK cK
  | 9 => v = .int .i64 (i : Int)
  | 10 => v = .pointer (some ⟨bK, oK + i, none⟩)
  | 11 => v = .string (strOf l)
  | 12 => v = .slice (some ⟨bP, oP, none⟩) N cP
  | 13 => v = .slice (some ⟨bP, oP, none⟩) 0 0
  | 14 => v = .bool false
  | 15 => v = .bool false
  | 16 => v = .bool false
  | 17 => v = .agg (byteCells R).toArray
  | 18 => v = .slice (some ⟨bK, oK, none⟩) mK cK
  | 19 => v = .int .i64 (mK : Int)
  | 20 => v = .int .i64 (i : Int)
  | 21 => v = .slice (some ⟨bK, oK, none⟩) mK cK
  | 22 => v = .int .i64 (i : Int)
  | 23 => v = .pointer (some ⟨bK, oK + i, none⟩)
  | 24 => v = .string (strOf l)
  | 25 => ∃ g : Nat, v = .slice (some ⟨g, 0, none⟩) 0 0
  | 26 => v = .slice (some ⟨bP, oP, none⟩) N cP
  | 27 => ∃ (q : Addr) (c : Nat), v = .slice (some q) N c ∧ N = PR.length ∧ RowK B PR w q N c
  | 28 => v = .agg (byteCells R).toArray
  | 29 => ∃ g : Nat, v = .slice (some ⟨g, 0, none⟩) 1 1 ∧ OneK R w g
  | 30 => ∃ (q : Option Addr) (c : Nat), v = .slice q (N + 1) c ∧ HashesAt w q (N + 1) c (PR ++ [R])
  | 31 => v = .bool false
  | 32 => v = .bool false
  | _ => True

theorem tapB_mono (B B1 bK oK mK cK cP N i : Nat) (bP oP : Nat) (K PR : List (List UInt8)) (R f l : List UInt8) (jx : Nat) (w w' : World) (v : Value) (hb : Below w.heap.size w w') (h : tapB B B1 bK oK mK cK cP N i bP oP K PR R f l jx w v) : tapB B B1 bK oK mK cK cP N i bP oP K PR R f l jx w' v := by
  match jx, h with
  | 0, h => exact h
  | 1, h => exact h
  | 2, h => exact h
  | 3, h => exact h
  | 4, h => exact h
  | 5, h => exact h
  | 6, h => exact h
  | 7, h => exact h
  | 8, h => exact h
  | 9, h => exact h
  | 10, h => exact h
  | 11, h => exact h
  | 12, h => exact h
  | 13, h => exact h
  | 14, h => exact h
  | 15, h => exact h
  | 16, h => exact h
  | 17, h => exact h
  | 18, h => exact h
  | 19, h => exact h
  | 20, h => exact h
  | 21, h => exact h
  | 22, h => exact h
  | 23, h => exact h
  | 24, h => exact h
  | 25, h => exact h
  | 26, h => exact h
  | 27, h => exact (let ⟨q, c, h1, h2, h3⟩ := h; ⟨q, c, h1, h2, h3.below hb⟩)
  | 28, h => exact h
  | 29, h => exact (let ⟨g, h1, h2⟩ := h; ⟨g, h1, (hb.block g (lt_of_block h2)).trans h2⟩)
  | 30, h => exact (let ⟨q, c, h1, h2⟩ := h; ⟨q, c, h1, h2.below (Nat.le_refl _) hb⟩)
  | 31, h => exact h
  | 32, h => exact h
  | _ + 33, h => exact trivial

theorem tapB_keep (B B1 bK oK mK cK cP N i : Nat) (bP oP : Nat) (K PR : List (List UInt8)) (R f l : List UInt8) (i' j : Nat) (hij : i' ≠ j) (w w' : World) (v : Value) (h : apR B R PR i' w w') (hv : tapB B B1 bK oK mK cK cP N i bP oP K PR R f l j w v) : tapB B B1 bK oK mK cK cP N i bP oP K PR R f l j w' v := by
  by_cases hi : i' = 30
  · subst hi
    match j, hij, hv with
    | 0, _, hv => exact hv
    | 1, _, hv => exact hv
    | 2, _, hv => exact hv
    | 3, _, hv => exact hv
    | 4, _, hv => exact hv
    | 5, _, hv => exact hv
    | 6, _, hv => exact hv
    | 7, _, hv => exact hv
    | 8, _, hv => exact hv
    | 9, _, hv => exact hv
    | 10, _, hv => exact hv
    | 11, _, hv => exact hv
    | 12, _, hv => exact hv
    | 13, _, hv => exact hv
    | 14, _, hv => exact hv
    | 15, _, hv => exact hv
    | 16, _, hv => exact hv
    | 17, _, hv => exact hv
    | 18, _, hv => exact hv
    | 19, _, hv => exact hv
    | 20, _, hv => exact hv
    | 21, _, hv => exact hv
    | 22, _, hv => exact hv
    | 23, _, hv => exact hv
    | 24, _, hv => exact hv
    | 25, _, hv => exact hv
    | 26, _, hv => exact hv
    | 27, _, hv => exact (let ⟨q, c, h1, h2, h3⟩ := hv; ⟨q, c, h1, h2, h.2.2 q _ c h3 h2⟩)
    | 28, _, hv => exact hv
    | 29, _, hv => exact (let ⟨g, h1, h2⟩ := hv; ⟨g, h1, h.2.1 g h2⟩)
    | 30, hij, _ => exact absurd rfl hij
    | 31, _, hv => exact hv
    | 32, _, hv => exact hv
    | _ + 33, _, _ => exact trivial
  · exact tapB_mono B B1 bK oK mK cK cP N i bP oP K PR R f l j w w' v (apR_ne hi h) hv

/-- What the region's operations leave. -/
def tapC (B B1 bK oK mK cK cP N i : Nat) (qP : Option Addr) (K PR : List (List UInt8)) (R f l : List UInt8) (ix : Nat) (w : World) (v : Value) : Prop :=
  match ix with
  | 0 => v = .slice qP N cP
  | 1 => v = .int .i64 (N : Int)
  | 2 => v = .bool false
  | 3 => v = .bool false
  | 4 => True
  | 5 => True
  | 6 => True
  | 7 => True
  | 8 => True
  | 9 => True
  | 10 => True
  | 11 => True
  | 12 => True
  | 13 => True
  | 14 => True
  | 15 => v = .bool false
  | 16 => v = .bool false
  | 17 => v = .agg (byteCells R).toArray
  | 18 => v = .slice (some ⟨bK, oK, none⟩) mK cK
  | 19 => v = .int .i64 (mK : Int)
  | 20 => v = .int .i64 (i : Int)
  | 21 => v = .slice (some ⟨bK, oK, none⟩) mK cK
  | 22 => v = .int .i64 (i : Int)
  | 23 => v = .pointer (some ⟨bK, oK + i, none⟩)
  | 24 => v = .string (strOf l)
  | 25 => ∃ g : Nat, v = .slice (some ⟨g, 0, none⟩) 0 0
  | 26 => v = .slice qP N cP
  | 27 => ∃ (q : Addr) (c : Nat), v = .slice (some q) N c ∧ N = PR.length ∧ RowK B PR w q N c
  | 28 => v = .agg (byteCells R).toArray
  | 29 => ∃ g : Nat, v = .slice (some ⟨g, 0, none⟩) 1 1 ∧ OneK R w g
  | 30 => ∃ (q : Option Addr) (c : Nat), v = .slice q (N + 1) c ∧ HashesAt w q (N + 1) c (PR ++ [R])
  | 31 => v = .bool false
  | 32 => v = .bool false
  | _ => True

theorem tapC_mono (B B1 bK oK mK cK cP N i : Nat) (qP : Option Addr) (K PR : List (List UInt8)) (R f l : List UInt8) (jx : Nat) (w w' : World) (v : Value) (hb : Below w.heap.size w w') (h : tapC B B1 bK oK mK cK cP N i qP K PR R f l jx w v) : tapC B B1 bK oK mK cK cP N i qP K PR R f l jx w' v := by
  match jx, h with
  | 0, h => exact h
  | 1, h => exact h
  | 2, h => exact h
  | 3, h => exact h
  | 4, h => exact trivial
  | 5, h => exact trivial
  | 6, h => exact trivial
  | 7, h => exact trivial
  | 8, h => exact trivial
  | 9, h => exact trivial
  | 10, h => exact trivial
  | 11, h => exact trivial
  | 12, h => exact trivial
  | 13, h => exact trivial
  | 14, h => exact trivial
  | 15, h => exact h
  | 16, h => exact h
  | 17, h => exact h
  | 18, h => exact h
  | 19, h => exact h
  | 20, h => exact h
  | 21, h => exact h
  | 22, h => exact h
  | 23, h => exact h
  | 24, h => exact h
  | 25, h => exact h
  | 26, h => exact h
  | 27, h => exact (let ⟨q, c, h1, h2, h3⟩ := h; ⟨q, c, h1, h2, h3.below hb⟩)
  | 28, h => exact h
  | 29, h => exact (let ⟨g, h1, h2⟩ := h; ⟨g, h1, (hb.block g (lt_of_block h2)).trans h2⟩)
  | 30, h => exact (let ⟨q, c, h1, h2⟩ := h; ⟨q, c, h1, h2.below (Nat.le_refl _) hb⟩)
  | 31, h => exact h
  | 32, h => exact h
  | _ + 33, h => exact trivial

theorem tapC_keep (B B1 bK oK mK cK cP N i : Nat) (qP : Option Addr) (K PR : List (List UInt8)) (R f l : List UInt8) (i' j : Nat) (hij : i' ≠ j) (w w' : World) (v : Value) (h : apR B R PR i' w w') (hv : tapC B B1 bK oK mK cK cP N i qP K PR R f l j w v) : tapC B B1 bK oK mK cK cP N i qP K PR R f l j w' v := by
  by_cases hi : i' = 30
  · subst hi
    match j, hij, hv with
    | 0, _, hv => exact hv
    | 1, _, hv => exact hv
    | 2, _, hv => exact hv
    | 3, _, hv => exact hv
    | 4, _, hv => exact hv
    | 5, _, hv => exact hv
    | 6, _, hv => exact hv
    | 7, _, hv => exact hv
    | 8, _, hv => exact hv
    | 9, _, hv => exact hv
    | 10, _, hv => exact hv
    | 11, _, hv => exact hv
    | 12, _, hv => exact hv
    | 13, _, hv => exact hv
    | 14, _, hv => exact hv
    | 15, _, hv => exact hv
    | 16, _, hv => exact hv
    | 17, _, hv => exact hv
    | 18, _, hv => exact hv
    | 19, _, hv => exact hv
    | 20, _, hv => exact hv
    | 21, _, hv => exact hv
    | 22, _, hv => exact hv
    | 23, _, hv => exact hv
    | 24, _, hv => exact hv
    | 25, _, hv => exact hv
    | 26, _, hv => exact hv
    | 27, _, hv => exact (let ⟨q, c, h1, h2, h3⟩ := hv; ⟨q, c, h1, h2, h.2.2 q _ c h3 h2⟩)
    | 28, _, hv => exact hv
    | 29, _, hv => exact (let ⟨g, h1, h2⟩ := hv; ⟨g, h1, h.2.1 g h2⟩)
    | 30, hij, _ => exact absurd rfl hij
    | 31, _, hv => exact hv
    | 32, _, hv => exact hv
    | _ + 33, _, _ => exact trivial
  · exact tapC_mono B B1 bK oK mK cK cP N i qP K PR R f l j w w' v (apR_ne hi h) hv

end Go.Proofs.YtgheacegjgaobaaDoor
