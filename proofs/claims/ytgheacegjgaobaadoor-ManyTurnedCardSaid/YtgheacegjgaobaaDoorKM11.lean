/- The walk of the reference's Check. -/
import Derived.Test.YtgheacegjgaobaaDoorKM10
import Derived.Test.YtgheacegjgaobaaDoorKM7
namespace Go.Proofs.YtgheacegjgaobaaDoor
open Go.RowKit
set_option linter.unusedSimpArgs false
set_option linter.unusedVariables false

/-- What the region's operations leave. -/
def rmcV (B12 n : Nat) (S : List UInt8) (ix : Nat) (w : World) (v : Value) : Prop :=
  match ix with
  | 0 => v = .int .i64 (n : Int)
  | 1 => v = .int .u64 (n : Int)
  | 2 => v = .string (strOf (Wire.num n))
  | 3 => v = .string (strOf (3 :: (Wire.num n)))
  | 4 => v = .slice (some ⟨B12, 0, none⟩) 32 32
  | 5 => v = .string (strOf S)
  | 6 => v = .string (strOf (3 :: ((Wire.num n) ++ S)))
  | 7 => v = .string (strOf (Sha.of (3 :: ((Wire.num n) ++ S))))
  | 8 => v = .string (strOf (Sha.of (3 :: ((Wire.num n) ++ S))))
  | _ => True

theorem rmcV_mono (B12 n : Nat) (S : List UInt8) (jx : Nat) (w w' : World) (v : Value) (hb : Below w.heap.size w w') (h : rmcV B12 n S jx w v) : rmcV B12 n S jx w' v := by
  match jx, h with
  | 0, h => exact h
  | 1, h => exact h
  | 2, h => exact h
  | 3, h => exact h
  | 4, h => exact h
  | 5, h => exact h
  | 6, h => exact h
  | 7, h => exact h
  | 8, h => exact h
  | _ + 9, h => exact trivial


set_option maxRecDepth 100000 in
set_option maxHeartbeats 2000000 in
theorem refMCheck_bad (w : World) (r : List UInt8) (n : Int) (oA oX o : Option Addr) (mA cA mX cX m c : Nat) (A : List Int) (hA : IntsAt w oA mA cA A) (h : sizeBad n A = true) :
    Calls Tryd.prog 23 #[.agg (byteCells r).toArray, .int .i64 n, .slice oA mA cA, .slice oX mX cX, .slice o m c] w fun e w' => e = .returned (.bool false) ∧ Below w.heap.size w w' := by
  obtain ⟨W0, hW0⟩ : ∃ W0, W0 = w.alloc (.cells (byteCells r).toArray 23) := ⟨_, rfl⟩
  have b0 : Below w.heap.size w W0 := by rw [hW0]; exact (Below.refl _ _).alloc (Nat.le_refl _) _
  have xr0 : W0.heap[w.heap.size]? = some (.cells (byteCells r).toArray 23 (0, 0)) := by rw [hW0]; exact heap_alloc_new w _
  have XR0 := Lib.hid xr0; clear xr0
  have HW0 := Lib.hid hW0; clear hW0
  have hr := refRises_any W0 n oA mA cA A (hA.below (Nat.le_refl _) b0)
  have HR := Lib.hid hr; clear hr hA XR0
  unfold sizeBad at h
  rcases h1 : decide (n < 0) with _ | _
  · rcases h2 : decide (65536 < n) with _ | _
    · have h3 : risesB n A = false := by rw [h1, h2] at h; simpa using h
      have hr := HR.out
      rw [h3] at hr
      have HR2 := Lib.hid hr; clear hr HR h3 h
      go_enter Tryd.func23, Tryd.ntmps23
      go_wp2_with fail
      rw [← HW0.out]
      refine HR2.out.mono ?_
      rintro e w1 ⟨rfl, b1⟩
      go_wp2_with fail
      go_ret
      exact ⟨rfl, b0.trans (b1.mono b0.size)⟩
    · clear h HR
      have hb := b0
      rw [HW0.out] at hb
      go_enter Tryd.func23, Tryd.ntmps23
      go_wp2_with fail
      go_ret
      exact ⟨rfl, hb⟩
  · clear h HR
    have hb := b0
    rw [HW0.out] at hb
    go_enter Tryd.func23, Tryd.ntmps23
    go_wp2_with fail
    go_ret
    exact ⟨rfl, hb⟩

set_option maxRecDepth 100000 in
set_option maxHeartbeats 4000000 in
theorem refMCheck_any (w : World) (r : List UInt8) (hr32 : r.length = 32) (n : Nat) (hn : n ≤ 65536) (oA oX o : Option Addr) (mA cA mX cX m c : Nat) (B : List Nat) (X P : List (List UInt8)) (hA : IntsAt w oA mA cA (B.map Int.ofNat)) (hB : B.Pairwise (· < ·)) (hBn : ∀ a ∈ B, a < n) (hX : StrsAt w oX mX cX X) (hP : HashesAt w o m c P) (hlen : ∀ l ∈ X, l.length ≤ 100000) (hm : m ≤ 1000000) :
    Calls Tryd.prog 23 #[.agg (byteCells r).toArray, .int .i64 (n : Int), .slice oA mA cA, .slice oX mX cX, .slice o m c] w fun e w' => e = .returned (.bool (Many.check r n B X P)) ∧ Below w.heap.size w w' := by
  obtain ⟨W0, hW0⟩ : ∃ W0, W0 = w.alloc (.cells (byteCells r).toArray 23) := ⟨_, rfl⟩
  have b0 : Below w.heap.size w W0 := by rw [hW0]; exact (Below.refl _ _).alloc (Nat.le_refl _) _
  have xr0 : W0.heap[w.heap.size]? = some (.cells (byteCells r).toArray 23 (0, 0)) := by rw [hW0]; exact heap_alloc_new w _
  have XR0 := Lib.hid xr0; clear xr0
  have HW0 := Lib.hid hW0; clear hW0
  have hBl : B.length = mA := by have := hA.len; rwa [List.length_map] at this
  have hXl := hX.len
  have hPl := hP.1.1
  have hT1 := tops_small (B := B) hn
  have hrs := refRises_any W0 n oA mA cA _ (hA.below (Nat.le_refl _) b0)
  rw [rises_intro hB (fun a ha => by have := hBn a ha; omega)] at hrs
  have htp := fun (w1 : World) (b1 : Below w.heap.size w w1) => refTops_any B oA mA cA n 0 w1 (hA.below (Nat.le_refl _) b1) (by omega)
  have htop := fun (h1 : X.length = B.length) (h2 : P.length = (Many.tops B 0 n).length) (oQ : Option Addr) (cQ : Nat) (w1 : World) (b1 : Below w.heap.size w w1) (hQ : PairsAt w1 oQ (Many.tops B 0 n).length cQ (Many.tops B 0 n)) =>
    refMTop_any B n hB hn oA oX oQ o mA cA mX cX (Many.tops B 0 n).length cQ m c X P h1 h2 hlen n 0 [] [] w1 (Many.Loc.whole B n) (by omega) (hA.below (Nat.le_refl _) b1) (hX.below (Nat.le_refl _) b1) hQ (hP.below (Nat.le_refl _) b1)
  have h00 : (Many.inr B 0 0).length = 0 := by rw [Many.inr_empty B (Nat.le_refl _)]; rfl
  simp only [List.length_nil, h00] at htop
  have hck : Many.check r n B X P = (decide (X.length = B.length) && (decide (P.length = (Many.tops B 0 n).length) && (Tree.root n (mtopV B X P 0 0 0 n) == r))) := rfl
  have hSl : (mtopV B X P 0 0 0 n).length = 32 := mtopV_len hP.2 _ _ _ _
  obtain ⟨S, hS⟩ : ∃ S, S = mtopV B X P 0 0 0 n := ⟨_, rfl⟩
  rw [← hS] at hck hSl
  simp only [← hS] at htop
  obtain ⟨Q, hQ⟩ : ∃ Q, Q = Many.tops B 0 n := ⟨_, rfl⟩
  simp only [← hQ] at htop htp
  rw [← hQ] at hck hT1
  clear hQ hS
  have HRS := Lib.hid hrs; clear hrs
  have HTP := Lib.hid htp; clear htp
  have HTOP := Lib.hid htop; clear htop
  have HCK0 := Lib.hid hck; clear hck
  have HSL := Lib.hid hSl; clear hSl
  have HRL := Lib.hid hr32; clear hr32
  have HNL := Lib.hid (Wire.num_length n (by omega))
  have HSL1 : Hid (S.length ≤ 32) := Lib.hid (by rw [HSL.out]; exact Nat.le_refl _)
  have HU : Hid (IntKind.u64.wrap (n : Int) = (n : Int)) := Lib.hid (by rw [IntKind.wrap_u64]; omega)
  have hcX := hX.cap
  have hxX := hX.max
  have hcP := hP.1.2.1
  have hxP := hP.1.2.2.1
  have hcA := hA.cap
  have hxA := hA.max
  clear hA hB hBn hX hP hlen h00
  have u1 : decide ((n : Int) < 0) = false := decide_eq_false (by omega)
  have u2 : decide ((65536 : Int) < (n : Int)) = false := decide_eq_false (by omega)
  have u2' : decide (65536 < n) = false := decide_eq_false (by omega)
  obtain ⟨T, hT⟩ : ∃ T, T = Q.length := ⟨_, rfl⟩
  by_cases e1 : mX = mA
  · have u3 : ((mX : Int) == (mA : Int)) = true := by rw [e1]; exact beq_self_eq_true _
    have u3' : (mX == mA) = true := by rw [e1]; exact beq_self_eq_true _
    by_cases e2 : T = m
    · have u4 : ((T : Int) == (m : Int)) = true := by rw [e2]; exact beq_self_eq_true _
      have u4' : (T == m) = true := by rw [e2]; exact beq_self_eq_true _
      have htop := fun oQ cQ w1 b1 hQ => HTOP.out (by omega) (by omega) oQ cQ w1 b1 hQ
      have hck := HCK0.out
      rw [decide_eq_true (by omega), decide_eq_true (by omega), Bool.true_and, Bool.true_and] at hck
      have HCK := Lib.hid hck; clear hck HCK0 HTOP
      have HTOP := Lib.hid htop; clear htop
      have HTE := Lib.hid hT
      have e1a : mX ≤ mA := by omega
      have e1b : mA ≤ mX := by omega
      have e2a : T ≤ m := by omega
      have e2b : m ≤ T := by omega
      clear e1 e2 hT hBl hXl hPl
      have HFIN : Hid (((strOf r).toList == (strOf (Sha.of (3 :: (Wire.num n ++ S)))).toList) = (Tree.root n S == r)) := Lib.hid (by
        rw [strOf_toList, strOf_toList]
        show (r == Tree.root n S) = _
        by_cases h : Tree.root n S = r
        · rw [h]
        · rw [beq_eq_false_iff_ne.2 h, beq_eq_false_iff_ne.2 (fun e => h e.symm)])
      go_enter Tryd.func23, Tryd.ntmps23
      go_wp2_with fail
      rw [← HW0.out]
      refine HRS.out.mono ?_
      rintro e w1 ⟨rfl, b1⟩
      have B1 := b0.trans (b1.mono b0.size)
      have xr1 := (b1.block _ (lt_of_block XR0.out)).trans XR0.out
      have hc := HTP.out w1 B1
      have HC := Lib.hid hc; clear hc HTP HRS
      go_wp2_with fail
      refine HC.out.mono ?_
      rintro e w2 ⟨q, cc, rfl, o2, b2⟩
      clear HC
      have B2 := B1.trans (b2.mono B1.size)
      have xr2 := (b2.block _ (lt_of_block xr1)).trans xr1
      have hpq := PairsAt.of_owns rfl o2
      have hpc := hpq.2.1
      have hpm := hpq.2.2.1
      have hc := HTOP.out q cc w2 B2 hpq
      rw [← HTE.out] at hc hpc ⊢
      have HC := Lib.hid hc; clear hc HTOP o2 hpq
      go_wp2_with fail
      refine HC.out.mono ?_
      rintro e w3 ⟨rfl, b3⟩
      have B3 := B2.trans (b3.mono B2.size)
      have xr3 := (b3.block _ (lt_of_block xr2)).trans xr2
      obtain ⟨W4, hW4⟩ : ∃ W4, W4 = hset (w3.alloc (.cells zero32 23)) w3.heap.size S := ⟨_, rfl⟩
      have xs4 : W4.heap[w3.heap.size]? = some (.cells (byteCells S).toArray 23 (0, 0)) := by rw [hW4]; exact hset_heap _ (heap_alloc_new w3 _)
      have b4 : Below w3.heap.size w3 W4 := by rw [hW4]; exact hset_below _ ((Below.refl _ _).alloc (Nat.le_refl _) _) (Nat.le_refl _)
      have B4 := B3.trans (b4.mono B3.size)
      have XR := Lib.hid ((b4.block _ (lt_of_block xr3)).trans xr3)
      have XS := Lib.hid xs4; clear xs4
      have HW4 := Lib.hid hW4; clear hW4 HC b4 xr3 xr2 xr1
      go_wp2_with ((with_reducible show wpList _ _ _ (⟨none, .store 23 (.tmp 12) (.tmp 46), _, _, _, _⟩ :: _) _ _); change wpList _ _ _ _ _ (World.alloc w3 (.cells zero32 23)); refine wpList_put_hash (o := ⟨none, .store _ _ _, _, _, _, _⟩) rfl _ _ rfl _ rfl S HSL.out rfl _ _ (heap_alloc_new _ _) zero32_size ?_; rw [← HW4.out])
      refine wp_region_rel [[], [0], [1], [2], [], [4], [3, 5], [6], [7]] (rmcV w3.heap.size n S) 59 (by kernel_rfl) (by kernel_rfl) (by kernel_rfl) (rmcV_mono w3.heap.size n S) ?_ ?_
      · intro ix op hi w2 b2 vs hv
        have him : ix < 9 := (List.getElem?_eq_some_iff.1 hi).1
        have hnl := HNL.out
        have hu := HU.out
        have hsl := HSL1.out
        have hlc : (3 :: ((Wire.num n) ++ S)).length ≤ 100 := by simp only [List.length_cons, List.length_append]; omega
        match ix, him, hi with
        | 0, _, hi =>
          obtain rfl := Option.some.inj hi
          simp only [relF, List.getD_cons_zero, List.getD_cons_succ, List.foldl_cons, List.foldl_nil, dstAt, List.getElem?_cons_zero, List.getElem?_cons_succ, Option.bind_some]
          go_wp2_with fail
          exact ⟨rfl, Below.refl _ _, rfl, rfl⟩
        | 1, _, hi =>
          obtain rfl := Option.some.inj hi
          have h0 : vs 0 = _ := hv 0 (by decide)
          have hu : IntKind.u64.wrap (n : Int) = (n : Int) := by rw [IntKind.wrap_u64]; omega
          simp only [relF, List.getD_cons_zero, List.getD_cons_succ, List.foldl_cons, List.foldl_nil, dstAt, List.getElem?_cons_zero, List.getElem?_cons_succ, Option.bind_some]
          go_frame
          rw [h0]
          go_wp2_with fail
          exact ⟨rfl, Below.refl _ _, rfl, rfl⟩
        | 2, _, hi =>
          obtain rfl := Option.some.inj hi
          have h1 : vs 1 = _ := hv 1 (by decide)
          simp only [relF, List.getD_cons_zero, List.getD_cons_succ, List.foldl_cons, List.foldl_nil, dstAt, List.getElem?_cons_zero, List.getElem?_cons_succ, Option.bind_some]
          go_frame
          rw [h1]
          go_wp2_with fail
          refine (refNum_any n (by omega) w2).mono ?_
          rintro e w3 ⟨rfl, b3⟩
          go_wp2_with fail
          exact ⟨rfl, b3, rfl, rfl⟩
        | 3, _, hi =>
          obtain rfl := Option.some.inj hi
          have h2 : vs 2 = _ := hv 2 (by decide)
          have hz1 : (⟨#[3]⟩ : ByteArray).size = [3].length := by first | rfl | exact strOf_size _
          have hz2 : ((strOf (Wire.num n)) : ByteArray).size = (Wire.num n).length := by first | rfl | exact strOf_size _
          simp only [List.length_cons, List.length_append, List.length_nil] at hz1 hz2
          have hadd : (⟨#[3]⟩ : ByteArray) ++ (strOf (Wire.num n)) = strOf (3 :: (Wire.num n)) := add_str [3] (Wire.num n)
          simp only [relF, List.getD_cons_zero, List.getD_cons_succ, List.foldl_cons, List.foldl_nil, dstAt, List.getElem?_cons_zero, List.getElem?_cons_succ, Option.bind_some]
          go_frame
          rw [h2]
          go_wp2_with fail
          exact ⟨rfl, Below.refl _ _, rfl, rfl⟩
        | 4, _, hi =>
          obtain rfl := Option.some.inj hi
          simp only [relF, List.getD_cons_zero, List.getD_cons_succ, List.foldl_cons, List.foldl_nil, dstAt, List.getElem?_cons_zero, List.getElem?_cons_succ, Option.bind_some]
          go_wp2_with fail
          exact ⟨rfl, Below.refl _ _, rfl, rfl⟩
        | 5, _, hi =>
          obtain rfl := Option.some.inj hi
          have h4 : vs 4 = _ := hv 4 (by decide)
          have hcv := hash_str HSL.out ((b2.block _ (lt_of_block XS.out)).trans XS.out)
          simp only [relF, List.getD_cons_zero, List.getD_cons_succ, List.foldl_cons, List.foldl_nil, dstAt, List.getElem?_cons_zero, List.getElem?_cons_succ, Option.bind_some]
          go_frame
          rw [h4]
          go_wp2_with fail
          exact ⟨rfl, Below.refl _ _, rfl, rfl⟩
        | 6, _, hi =>
          obtain rfl := Option.some.inj hi
          have h3 : vs 3 = _ := hv 3 (by decide)
          have h5 : vs 5 = _ := hv 5 (by decide)
          have hlen1 := HSL.out
          have hz1 : ((strOf (3 :: (Wire.num n))) : ByteArray).size = (3 :: (Wire.num n)).length := by first | rfl | exact strOf_size _
          have hz2 : ((strOf S) : ByteArray).size = S.length := by first | rfl | exact strOf_size _
          simp only [List.length_cons, List.length_append, List.length_nil] at hz1 hz2
          have hadd : ((strOf (3 :: (Wire.num n))) : ByteArray) ++ (strOf S) = strOf (3 :: ((Wire.num n) ++ S)) := add_str (3 :: (Wire.num n)) S
          simp only [relF, List.getD_cons_zero, List.getD_cons_succ, List.foldl_cons, List.foldl_nil, dstAt, List.getElem?_cons_zero, List.getElem?_cons_succ, Option.bind_some]
          go_frame
          rw [h3, h5]
          go_wp2_with fail
          exact ⟨rfl, Below.refl _ _, rfl, rfl⟩
        | 7, _, hi =>
          obtain rfl := Option.some.inj hi
          have h6 : vs 6 = _ := hv 6 (by decide)
          simp only [relF, List.getD_cons_zero, List.getD_cons_succ, List.foldl_cons, List.foldl_nil, dstAt, List.getElem?_cons_zero, List.getElem?_cons_succ, Option.bind_some]
          go_frame
          rw [h6]
          go_wp2_with fail
          refine (refOf_any w2 (3 :: ((Wire.num n) ++ S)) (by omega)).mono ?_
          rintro e w3 ⟨rfl, b3⟩
          go_wp2_with fail
          exact ⟨rfl, b3, rfl, rfl⟩
        | 8, _, hi =>
          obtain rfl := Option.some.inj hi
          have h7 : vs 7 = _ := hv 7 (by decide)
          simp only [relF, List.getD_cons_zero, List.getD_cons_succ, List.foldl_cons, List.foldl_nil, dstAt, List.getElem?_cons_zero, List.getElem?_cons_succ, Option.bind_some]
          go_frame
          rw [h7]
          go_wp2_with fail
          exact ⟨rfl, Below.refl _ _, rfl, rfl⟩
        | nx + 9, him, _ => exact absurd him (by omega)
      · intro w2 b2 vs hv
        have hnl := HNL.out
        have hu := HU.out
        have hsl := HSL1.out
        have hlc : (3 :: ((Wire.num n) ++ S)).length ≤ 100 := by simp only [List.length_cons, List.length_append]; omega
        have h8 : vs 8 = _ := hv 8 (by decide)
        simp only [relF, List.drop_succ_cons, List.drop_zero, List.length_cons, List.length_nil, Nat.zero_add, Nat.reduceAdd, List.range, List.range.loop, List.foldl_cons, List.foldl_nil, dstAt, List.getElem?_cons_zero, List.getElem?_cons_succ, Option.bind_some]
        go_frame
        rw [h8]
        have hfin := HFIN.out
        have xr := (b2.block _ (lt_of_block XR.out)).trans XR.out
        have hcv := hash_str HRL.out xr
        have B5 := B4.trans (b2.mono B4.size)
        clear xr
        go_wp2_with fail
        go_ret
        exact ⟨by rw [HCK.out]; rfl, B5⟩
    · have u4 : ((T : Int) == (m : Int)) = false := by rw [beq_eq_false_iff_ne]; omega
      have u4' : (T == m) = false := by rw [beq_eq_false_iff_ne]; exact e2
      have hck := HCK0.out
      rw [decide_eq_true (by omega), decide_eq_false (by omega), Bool.true_and, Bool.false_and] at hck
      have HCK := Lib.hid hck; clear hck HCK0 HTOP
      have HTE := Lib.hid hT
      have e1a : mX ≤ mA := by omega
      clear e1 e2 hT hBl hXl hPl
      go_enter Tryd.func23, Tryd.ntmps23
      go_wp2_with fail
      rw [← HW0.out]
      refine HRS.out.mono ?_
      rintro e w1 ⟨rfl, b1⟩
      have B1 := b0.trans (b1.mono b0.size)
      have hc := HTP.out w1 B1
      have HC := Lib.hid hc; clear hc HTP HRS
      go_wp2_with fail
      refine HC.out.mono ?_
      rintro e w2 ⟨q, cc, rfl, o2, b2⟩
      clear HC
      have hpq := PairsAt.of_owns rfl o2
      have hpc := hpq.2.1
      have hpm := hpq.2.2.1
      rw [← HTE.out] at hpc ⊢
      clear o2 hpq
      go_wp2_with fail
      go_ret
      exact ⟨by rw [HCK.out]; rfl, B1.trans (b2.mono B1.size)⟩
  · have u3 : ((mX : Int) == (mA : Int)) = false := by rw [beq_eq_false_iff_ne]; omega
    have u3' : (mX == mA) = false := by rw [beq_eq_false_iff_ne]; exact e1
    have hck := HCK0.out
    rw [decide_eq_false (by omega), Bool.false_and] at hck
    have HCK := Lib.hid hck; clear hck HCK0 HTOP HTP
    clear hT hBl hXl hPl
    go_enter Tryd.func23, Tryd.ntmps23
    go_wp2_with fail
    rw [← HW0.out]
    refine HRS.out.mono ?_
    rintro e w1 ⟨rfl, b1⟩
    go_wp2_with fail
    go_ret
    exact ⟨by rw [HCK.out]; rfl, b0.trans (b1.mono b0.size)⟩

end Go.Proofs.YtgheacegjgaobaaDoor
