/- The walks of the laws TreeRoots, TreeTwo. -/
import Derived.Test.YtbgahpbnlogdnaaDoorLawTreeB
namespace Go.Proofs.YtbgahpbnlogdnaaDoor
open Go.RowKit
set_option linter.unusedSimpArgs false
set_option linter.unusedVariables false

set_option maxRecDepth 100000 in
set_option maxHeartbeats 4000000 in
theorem roots_law (w : World) (o : Option Addr) (n cap : Nat) (F : List ByteArray) (hR : RowsAt w o n cap 1 strCell F) (hF : ∀ s ∈ F, s.size ≤ maxLen) (hL : Laid w) :
    Calls Tryd.prog 3 #[.slice o n cap] w fun e w' => e = .returned (.bool true) ∧ Below w.heap.size w w' := by
  obtain ⟨L, hL0⟩ : ∃ L : List (List UInt8), L = F.map (fun s => s.data.toList) := ⟨_, rfl⟩
  have hS : StrsAt w o n cap L := by rw [hL0]; exact StrsAt.of_rows hR
  have hmx : ∀ l ∈ L, l.length ≤ 9223372036854775807 := fun l hl => by
    rw [hL0] at hl
    obtain ⟨f, hf, rfl⟩ := List.mem_map.1 hl
    have := hF f hf
    unfold maxLen at this
    rw [show f.data.toList.length = f.size by rw [Array.length_toList]; rfl]
    exact this
  clear hR hF hL0
  have hlen := hS.len
  have hcap := hS.cap
  have hmax := hS.max
  have HS := Lib.hid hS; clear hS
  have HMX := Lib.hid hmx; clear hmx
  have HL := Lib.hid hL; clear hL
  rcases hfew : few L with _ | _
  · go_enter Tryd.func3, Tryd.ntmps3
    go_wp2_with fail
    refine (awake_any w HL.out).mono ?_
    rintro e w1 ⟨rfl, b1⟩
    have hfw := refFew_any w1 o n cap L (HS.out.below (Nat.le_refl _) b1) HMX.out
    rw [hfew] at hfw
    have HFW := Lib.hid hfw; clear hfw
    go_wp2_with fail
    refine HFW.out.mono ?_
    rintro e w' ⟨rfl, rfl⟩
    go_wp2_with fail
    refine (awake_any w1 (HL.out.below b1)).mono ?_
    rintro e w2 ⟨rfl, b2⟩
    go_wp2_with fail
    go_ret
    exact ⟨rfl, b1.trans (b2.mono b1.size)⟩
  · obtain ⟨hf20, hf200⟩ := few_spec hfew
    rw [hlen] at hf20
    have HLE : Hid (∀ l ∈ L, l.length ≤ 100000) := Lib.hid fun l hl => by have := hf200 l hl; omega
    have HF200 := Lib.hid hf200; clear hf200
    go_enter Tryd.func3, Tryd.ntmps3
    go_wp2_with fail
    refine (awake_any w HL.out).mono ?_
    rintro e w1 ⟨rfl, b1⟩
    have hfw := refFew_any w1 o n cap L (HS.out.below (Nat.le_refl _) b1) HMX.out
    rw [hfew] at hfw
    have HFW := Lib.hid hfw; clear hfw
    replace HS := Lib.hid (HS.out.below (Nat.le_refl _) b1)
    replace HL := Lib.hid (HL.out.below b1)
    go_wp2_with fail
    refine HFW.out.mono ?_
    rintro e w' ⟨rfl, rfl⟩
    clear HFW HMX hfew
    obtain ⟨q11, c11, v11, hrun, hs, dd⟩ := StrsAt.copy (HS.out.below (Nat.le_refl _) ((Below.refl w1.heap.size w1).alloc (Nat.le_refl _) (.cells #[] 9))) (by omega) ⟨w1.heap.size, 0, none⟩
    have d11 : Below w1.heap.size w1 v11 := ((Below.refl _ _).alloc (Nat.le_refl _) _).trans (dd.mono (by simp))
    have hrun11 := hrun; clear hrun dd
    have C11 := Lib.hid hs; clear hs
    replace HS := Lib.hid (HS.out.below (Nat.le_refl _) d11)
    replace HL := Lib.hid (HL.out.below d11)
    replace b1 := b1.trans (d11.mono b1.size)
    have hc12 := treeTop_any n v11 _ _ _ L rfl C11.out (by omega) HLE.out HL.out
    have HC12 := Lib.hid hc12; clear hc12
    go_wp2_with (first | ((with_reducible show wpList _ _ _ (⟨some 13, _, _, _, _, _⟩ :: _) _ _); refine wpList_append_ran (by kernel_rfl) _ _ _ rfl _ _ rfl rfl hrun11 ?_))
    refine HC12.out.mono ?_
    rintro e v12 ⟨rfl, d12⟩
    replace HS := Lib.hid (HS.out.below (Nat.le_refl _) d12)
    replace HL := Lib.hid (HL.out.below d12)
    replace C11 := Lib.hid (C11.out.below (Nat.le_refl _) d12)
    replace b1 := b1.trans (d12.mono b1.size)
    clear HC12
    have hc13 := refTop_any v12 _ _ _ L HS.out (by omega) HLE.out
    have HC13 := Lib.hid hc13; clear hc13
    go_wp2_with fail
    refine HC13.out.mono ?_
    rintro e v13 ⟨rfl, d13⟩
    replace HS := Lib.hid (HS.out.below (Nat.le_refl _) d13)
    replace HL := Lib.hid (HL.out.below d13)
    replace C11 := Lib.hid (C11.out.below (Nat.le_refl _) d13)
    replace b1 := b1.trans (d13.mono b1.size)
    clear HC13
    obtain ⟨q14, c14, v14, hrun, hs, dd⟩ := StrsAt.copy (HS.out.below (Nat.le_refl _) ((Below.refl v13.heap.size v13).alloc (Nat.le_refl _) (.cells #[] 9))) (by omega) ⟨v13.heap.size, 0, none⟩
    have d14 : Below v13.heap.size v13 v14 := ((Below.refl _ _).alloc (Nat.le_refl _) _).trans (dd.mono (by simp))
    have hrun14 := hrun; clear hrun dd
    have C14 := Lib.hid hs; clear hs
    replace HS := Lib.hid (HS.out.below (Nat.le_refl _) d14)
    replace HL := Lib.hid (HL.out.below d14)
    replace C11 := Lib.hid (C11.out.below (Nat.le_refl _) d14)
    replace b1 := b1.trans (d14.mono b1.size)
    have hc15 := treeRoot_any v14 _ n _ L C14.out (by omega) HLE.out HL.out
    have HC15 := Lib.hid hc15; clear hc15
    go_wp2_with (first | ((with_reducible show wpList _ _ _ (⟨some 17, _, _, _, _, _⟩ :: _) _ _); refine wpList_eql_hash (op := ⟨some 17, _, _, _, _, _⟩) (by kernel_rfl) _ _ rfl (Tree.top L) (Tree.top L) (Tree.top_len _) (Tree.top_len _) rfl rfl ?_; rw [beq_self_eq_true]) | ((with_reducible show wpList _ _ _ (⟨some 21, _, _, _, _, _⟩ :: _) _ _); refine wpList_append_ran (by kernel_rfl) _ _ _ rfl _ _ rfl rfl hrun14 ?_))
    refine HC15.out.mono ?_
    rintro e v15 ⟨rfl, d15⟩
    replace HS := Lib.hid (HS.out.below (Nat.le_refl _) d15)
    replace HL := Lib.hid (HL.out.below d15)
    replace C11 := Lib.hid (C11.out.below (Nat.le_refl _) d15)
    replace C14 := Lib.hid (C14.out.below (Nat.le_refl _) d15)
    replace b1 := b1.trans (d15.mono b1.size)
    clear HC15
    have hc16 := refRoot_any v15 _ n _ L HS.out (by omega) HLE.out
    have HC16 := Lib.hid hc16; clear hc16
    go_wp2_with fail
    refine HC16.out.mono ?_
    rintro e v16 ⟨rfl, d16⟩
    replace HS := Lib.hid (HS.out.below (Nat.le_refl _) d16)
    replace HL := Lib.hid (HL.out.below d16)
    replace C11 := Lib.hid (C11.out.below (Nat.le_refl _) d16)
    replace C14 := Lib.hid (C14.out.below (Nat.le_refl _) d16)
    replace b1 := b1.trans (d16.mono b1.size)
    clear HC16
    go_wp2_with (first | ((with_reducible show wpList _ _ _ (⟨some 25, _, _, _, _, _⟩ :: _) _ _); refine wpList_eql_hash (op := ⟨some 25, _, _, _, _, _⟩) (by kernel_rfl) _ _ rfl (Tree.root n (Tree.top L)) (Tree.root n (Tree.top L)) (Tree.root_len _ _) (Tree.root_len _ _) rfl rfl ?_; rw [beq_self_eq_true]))
    go_ret
    exact ⟨rfl, b1⟩

/-- What the region's operations leave. -/
def twoV (b off n cap k : Nat) (L : List (List UInt8)) (l0 : List UInt8) (ix : Nat) (w : World) (v : Value) : Prop :=
  match ix with
  | 0 => ∃ g : Nat, v = .slice (some ⟨g, 0, none⟩) 0 0
  | 1 => v = .slice (some ⟨b, off, none⟩) n cap
  | 2 => v = .int .i64 (k : Int)
  | 3 => v = .slice (some ⟨b, off, none⟩) k cap
  | 4 => ∃ (q : Addr) (c : Nat), v = .slice (some q) k c ∧ StrsAt w (some q) k c (L.take k)
  | 5 => v = .agg (byteCells (Tree.top (L.take k))).toArray
  | 6 => ∃ g : Nat, v = .slice (some ⟨g, 0, none⟩) 0 0
  | 7 => v = .slice (some ⟨b, off, none⟩) n cap
  | 8 => v = .int .i64 (k : Int)
  | 9 => v = .slice (some ⟨b, off + k, none⟩) (n - k) (cap - k)
  | 10 => ∃ (q : Addr) (c : Nat), v = .slice (some q) (n - k) c ∧ StrsAt w (some q) (n - k) c (L.drop k)
  | 11 => v = .agg (byteCells (Tree.top (L.drop k))).toArray
  | 12 => v = .agg (byteCells (Tree.top L)).toArray
  | 13 => ∃ g : Nat, v = .slice (some ⟨g, 0, none⟩) 0 0
  | 14 => v = .slice (some ⟨b, off, none⟩) n cap
  | 15 => ∃ (q : Addr) (c : Nat), v = .slice (some q) n c ∧ StrsAt w (some q) n c L
  | 16 => v = .agg (byteCells (Tree.top L)).toArray
  | 17 => v = .bool true
  | 18 => v = .bool true
  | 19 => v = .slice (some ⟨b, off, none⟩) n cap
  | 20 => v = .slice (some ⟨b, off, none⟩) 1 cap
  | 21 => v = .agg (byteCells (Tree.leaf l0)).toArray
  | 22 => v = .slice (some ⟨b, off, none⟩) n cap
  | 23 => v = .pointer (some ⟨b, off, none⟩)
  | 24 => v = .string (strOf l0)
  | 25 => v = .agg (byteCells (Tree.leaf l0)).toArray
  | 26 => v = .bool true
  | 27 => v = .bool true
  | 28 => v = .bool true
  | _ => True

theorem twoV_mono (b off n cap k : Nat) (L : List (List UInt8)) (l0 : List UInt8) (jx : Nat) (w w' : World) (v : Value) (hb : Below w.heap.size w w') (h : twoV b off n cap k L l0 jx w v) : twoV b off n cap k L l0 jx w' v := by
  match jx, h with
  | 0, h => exact h
  | 1, h => exact h
  | 2, h => exact h
  | 3, h => exact h
  | 4, h => exact (let ⟨q, c, h1, h2⟩ := h; ⟨q, c, h1, h2.below (Nat.le_refl _) hb⟩)
  | 5, h => exact h
  | 6, h => exact h
  | 7, h => exact h
  | 8, h => exact h
  | 9, h => exact h
  | 10, h => exact (let ⟨q, c, h1, h2⟩ := h; ⟨q, c, h1, h2.below (Nat.le_refl _) hb⟩)
  | 11, h => exact h
  | 12, h => exact h
  | 13, h => exact h
  | 14, h => exact h
  | 15, h => exact (let ⟨q, c, h1, h2⟩ := h; ⟨q, c, h1, h2.below (Nat.le_refl _) hb⟩)
  | 16, h => exact h
  | 17, h => exact h
  | 18, h => exact h
  | 19, h => exact h
  | 20, h => exact h
  | 21, h => exact h
  | 22, h => exact h
  | 23, h => exact h
  | 24, h => exact h
  | 25, h => exact h
  | 26, h => exact h
  | 27, h => exact h
  | 28, h => exact h
  | _ + 29, h => exact trivial

set_option maxRecDepth 100000 in
set_option maxHeartbeats 4000000 in
theorem two_law (w : World) (o : Option Addr) (n cap : Nat) (F : List ByteArray) (hR : RowsAt w o n cap 1 strCell F) (hF : ∀ s ∈ F, s.size ≤ maxLen) (hL : Laid w) :
    Calls Tryd.prog 10 #[.slice o n cap] w fun e w' => e = .returned (.bool true) ∧ Below w.heap.size w w' := by
  obtain ⟨L, hL0⟩ : ∃ L : List (List UInt8), L = F.map (fun s => s.data.toList) := ⟨_, rfl⟩
  have hS : StrsAt w o n cap L := by rw [hL0]; exact StrsAt.of_rows hR
  have hmx : ∀ l ∈ L, l.length ≤ 9223372036854775807 := fun l hl => by
    rw [hL0] at hl
    obtain ⟨f, hf, rfl⟩ := List.mem_map.1 hl
    have := hF f hf
    unfold maxLen at this
    rw [show f.data.toList.length = f.size by rw [Array.length_toList]; rfl]
    exact this
  clear hR hF hL0
  have hlen := hS.len
  have hcap := hS.cap
  have hmax := hS.max
  have HS := Lib.hid hS; clear hS
  have HMX := Lib.hid hmx; clear hmx
  have HL := Lib.hid hL; clear hL
  rcases hfew : few L with _ | _
  · go_enter Tryd.func10, Tryd.ntmps10
    go_wp2_with fail
    refine (awake_any w HL.out).mono ?_
    rintro e w1 ⟨rfl, b1⟩
    have hfw := refFew_any w1 o n cap L (HS.out.below (Nat.le_refl _) b1) HMX.out
    rw [hfew] at hfw
    have HFW := Lib.hid hfw; clear hfw
    go_wp2_with fail
    refine HFW.out.mono ?_
    rintro e w' ⟨rfl, rfl⟩
    go_wp2_with fail
    refine (awake_any w1 (HL.out.below b1)).mono ?_
    rintro e w2 ⟨rfl, b2⟩
    go_wp2_with fail
    go_ret
    exact ⟨rfl, b1.trans (b2.mono b1.size)⟩
  · obtain ⟨hf20, hf200⟩ := few_spec hfew
    rw [hlen] at hf20
    have HLE : Hid (∀ l ∈ L, l.length ≤ 100000) := Lib.hid fun l hl => by have := hf200 l hl; omega
    have HF200 := Lib.hid hf200; clear hf200
    by_cases h2 : n < 2
    · have ht : decide ((n : Int) < 2) = true := decide_eq_true (by omega)
      have ht' : decide (n < 2) = true := decide_eq_true h2
      go_enter Tryd.func10, Tryd.ntmps10
      go_wp2_with fail
      refine (awake_any w HL.out).mono ?_
      rintro e w1 ⟨rfl, b1⟩
      have hfw := refFew_any w1 o n cap L (HS.out.below (Nat.le_refl _) b1) HMX.out
      rw [hfew] at hfw
      have HFW := Lib.hid hfw; clear hfw
      replace HS := Lib.hid (HS.out.below (Nat.le_refl _) b1)
      replace HL := Lib.hid (HL.out.below b1)
      go_wp2_with fail
      refine HFW.out.mono ?_
      rintro e w' ⟨rfl, rfl⟩
      clear HFW HMX hfew
      go_wp2_with fail
      refine (awake_any _ HL.out).mono ?_
      rintro e w2 ⟨rfl, b2⟩
      go_wp2_with fail
      go_ret
      exact ⟨rfl, b1.trans (b2.mono b1.size)⟩
    · have ht : decide ((n : Int) < 2) = false := decide_eq_false (by omega)
      obtain ⟨b, off, rfl⟩ := HS.out.form (by omega)
      obtain ⟨k, hk⟩ : ∃ k, k = Tree.half n := ⟨_, rfl⟩
      have hk1 : 1 ≤ k := by rw [hk]; exact Tree.half_pos (by omega)
      have hkn : k < n := by rw [hk]; exact Tree.half_lt (by omega)
      have hhalf := fun w => treeHalf_nat w n (by omega)
      rw [← hk] at hhalf
      have htop : Tree.node (Tree.top (L.take k)) (Tree.top (L.drop k)) = Tree.top L := by rw [Tree.top_two (l := L) (by omega), hlen, ← hk]
      have HH := Lib.hid hhalf; clear hhalf hk
      have HTOP := Lib.hid htop; clear htop
      obtain ⟨l0, hl0⟩ : ∃ l, L[0]? = some l := ⟨_, List.getElem?_eq_getElem (by omega)⟩
      have htl : Tree.top (L.take 1) = Tree.leaf l0 := by
        rw [List.take_add_one, hl0]
        simp [Tree.top_one]
      have HTL := Lib.hid htl; clear htl
      have HL0 := Lib.hid hl0; clear hl0
      have t1 : decide ((k : Int) < 1) = false := decide_eq_false (by omega)
      have t1' : decide (k < 1) = false := decide_eq_false (by omega)
      have t2 : decide ((n : Int) ≤ (k : Int)) = false := decide_eq_false (by omega)
      have t2' : decide (n ≤ k) = false := decide_eq_false (by omega)
      go_enter Tryd.func10, Tryd.ntmps10
      go_wp2_with fail
      refine (awake_any w HL.out).mono ?_
      rintro e w1 ⟨rfl, b1⟩
      have hfw := refFew_any w1 _ n cap L (HS.out.below (Nat.le_refl _) b1) HMX.out
      rw [hfew] at hfw
      have HFW := Lib.hid hfw; clear hfw
      replace HS := Lib.hid (HS.out.below (Nat.le_refl _) b1)
      replace HL := Lib.hid (HL.out.below b1)
      go_wp2_with fail
      refine HFW.out.mono ?_
      rintro e w' ⟨rfl, rfl⟩
      clear HFW HMX hfew
      have HT := Lib.hid (HS.out.take k cap (by omega) (by omega) (by omega))
      have HD := Lib.hid (HS.out.drop k (by omega))
      have HT1 := Lib.hid (HS.out.take 1 cap (by omega) (by omega) (by omega))
      go_wp2_with fail
      refine (HH.out _).mono ?_
      rintro e w' ⟨rfl, rfl⟩
      go_wp2_with fail
      refine wp_region_rel [[], [], [], [1, 2], [0, 3], [4], [], [], [], [7, 8], [6, 9], [10], [5, 11], [], [], [13, 14], [15], [12, 16], [17], [18], [18, 19], [18, 20], [18], [18, 22], [18, 23], [18, 24], [18, 21, 25], [18, 26], [27]] (twoV b off n cap k L l0) 56 (by kernel_rfl) (by kernel_rfl) (by kernel_rfl) (twoV_mono b off n cap k L l0) ?_ ?_
      · intro ix op hi w2 b2 vs hv
        have him : ix < 29 := (List.getElem?_eq_some_iff.1 hi).1
        have hL2 := HL.out.below b2
        have hl0l := HLE.out l0 (List.mem_of_getElem? HL0.out)
        match ix, him, hi with
        | 0, _, hi =>
          obtain rfl := Option.some.inj hi
          simp only [relF, List.getD_cons_zero, List.getD_cons_succ, List.foldl_cons, List.foldl_nil, dstAt, List.getElem?_cons_zero, List.getElem?_cons_succ, Option.bind_some]
          go_wp2_with fail
          exact ⟨rfl, (Below.refl _ _).alloc (Nat.le_refl _) _, rfl, w2.heap.size, rfl⟩
        | 1, _, hi =>
          obtain rfl := Option.some.inj hi
          simp only [relF, List.getD_cons_zero, List.getD_cons_succ, List.foldl_cons, List.foldl_nil, dstAt, List.getElem?_cons_zero, List.getElem?_cons_succ, Option.bind_some]
          go_wp2_with fail
          exact ⟨rfl, Below.refl _ _, rfl, rfl⟩
        | 2, _, hi =>
          obtain rfl := Option.some.inj hi
          simp only [relF, List.getD_cons_zero, List.getD_cons_succ, List.foldl_cons, List.foldl_nil, dstAt, List.getElem?_cons_zero, List.getElem?_cons_succ, Option.bind_some]
          go_wp2_with fail
          exact ⟨rfl, Below.refl _ _, rfl, rfl⟩
        | 3, _, hi =>
          obtain rfl := Option.some.inj hi
          have h1 : vs 1 = _ := hv 1 (by decide)
          have h2 : vs 2 = _ := hv 2 (by decide)
          simp only [relF, List.getD_cons_zero, List.getD_cons_succ, List.foldl_cons, List.foldl_nil, dstAt, List.getElem?_cons_zero, List.getElem?_cons_succ, Option.bind_some]
          go_frame
          rw [h1, h2]
          go_wp2_with fail
          exact ⟨rfl, Below.refl _ _, rfl, rfl⟩
        | 4, _, hi =>
          obtain rfl := Option.some.inj hi
          obtain ⟨g0, e0⟩ := hv 0 (by decide)
          have h3 : vs 3 = _ := hv 3 (by decide)
          obtain ⟨q, cc, W, hrun, hs, hbb⟩ := StrsAt.copy (HT.out.below (Nat.le_refl _) b2) (by omega) ⟨g0, 0, none⟩
          simp only [relF, List.getD_cons_zero, List.getD_cons_succ, List.foldl_cons, List.foldl_nil, dstAt, List.getElem?_cons_zero, List.getElem?_cons_succ, Option.bind_some]
          go_frame
          rw [e0, h3]
          go_wp2_with ((with_reducible show wpList _ _ _ (⟨some 32, _, _, _, _, _⟩ :: _) _ _); refine wpList_append_ran (by kernel_rfl) _ _ _ rfl _ _ rfl rfl hrun ?_)
          exact ⟨rfl, hbb, rfl, q, cc, rfl, hs⟩
        | 5, _, hi =>
          obtain rfl := Option.some.inj hi
          obtain ⟨q4, c4, e4, s4⟩ := hv 4 (by decide)
          simp only [relF, List.getD_cons_zero, List.getD_cons_succ, List.foldl_cons, List.foldl_nil, dstAt, List.getElem?_cons_zero, List.getElem?_cons_succ, Option.bind_some]
          go_frame
          rw [e4]
          go_wp2_with fail
          refine (treeTop_any k w2 _ _ _ (L.take k) rfl s4 (by omega) (fun l hl => HLE.out l (List.mem_of_mem_take hl)) hL2).mono ?_
          rintro e w3 ⟨rfl, b3⟩
          go_wp2_with fail
          exact ⟨rfl, b3, rfl, rfl⟩
        | 6, _, hi =>
          obtain rfl := Option.some.inj hi
          simp only [relF, List.getD_cons_zero, List.getD_cons_succ, List.foldl_cons, List.foldl_nil, dstAt, List.getElem?_cons_zero, List.getElem?_cons_succ, Option.bind_some]
          go_wp2_with fail
          exact ⟨rfl, (Below.refl _ _).alloc (Nat.le_refl _) _, rfl, w2.heap.size, rfl⟩
        | 7, _, hi =>
          obtain rfl := Option.some.inj hi
          simp only [relF, List.getD_cons_zero, List.getD_cons_succ, List.foldl_cons, List.foldl_nil, dstAt, List.getElem?_cons_zero, List.getElem?_cons_succ, Option.bind_some]
          go_wp2_with fail
          exact ⟨rfl, Below.refl _ _, rfl, rfl⟩
        | 8, _, hi =>
          obtain rfl := Option.some.inj hi
          simp only [relF, List.getD_cons_zero, List.getD_cons_succ, List.foldl_cons, List.foldl_nil, dstAt, List.getElem?_cons_zero, List.getElem?_cons_succ, Option.bind_some]
          go_wp2_with fail
          exact ⟨rfl, Below.refl _ _, rfl, rfl⟩
        | 9, _, hi =>
          obtain rfl := Option.some.inj hi
          have h7 : vs 7 = _ := hv 7 (by decide)
          have h8 : vs 8 = _ := hv 8 (by decide)
          simp only [relF, List.getD_cons_zero, List.getD_cons_succ, List.foldl_cons, List.foldl_nil, dstAt, List.getElem?_cons_zero, List.getElem?_cons_succ, Option.bind_some]
          go_frame
          rw [h7, h8]
          go_wp2_with fail
          exact ⟨rfl, Below.refl _ _, rfl, rfl⟩
        | 10, _, hi =>
          obtain rfl := Option.some.inj hi
          obtain ⟨g6, e6⟩ := hv 6 (by decide)
          have h9 : vs 9 = _ := hv 9 (by decide)
          obtain ⟨q, cc, W, hrun, hs, hbb⟩ := StrsAt.copy (HD.out.below (Nat.le_refl _) b2) (by omega) ⟨g6, 0, none⟩
          simp only [relF, List.getD_cons_zero, List.getD_cons_succ, List.foldl_cons, List.foldl_nil, dstAt, List.getElem?_cons_zero, List.getElem?_cons_succ, Option.bind_some]
          go_frame
          rw [e6, h9]
          go_wp2_with ((with_reducible show wpList _ _ _ (⟨some 38, _, _, _, _, _⟩ :: _) _ _); refine wpList_append_ran (by kernel_rfl) _ _ _ rfl _ _ rfl rfl hrun ?_)
          exact ⟨rfl, hbb, rfl, q, cc, rfl, hs⟩
        | 11, _, hi =>
          obtain rfl := Option.some.inj hi
          obtain ⟨q10, c10, e10, s10⟩ := hv 10 (by decide)
          simp only [relF, List.getD_cons_zero, List.getD_cons_succ, List.foldl_cons, List.foldl_nil, dstAt, List.getElem?_cons_zero, List.getElem?_cons_succ, Option.bind_some]
          go_frame
          rw [e10]
          go_wp2_with fail
          refine (treeTop_any (n - k) w2 _ _ _ (L.drop k) rfl s10 (by omega) (fun l hl => HLE.out l (List.mem_of_mem_drop hl)) hL2).mono ?_
          rintro e w3 ⟨rfl, b3⟩
          go_wp2_with fail
          exact ⟨rfl, b3, rfl, rfl⟩
        | 12, _, hi =>
          obtain rfl := Option.some.inj hi
          have h5 : vs 5 = _ := hv 5 (by decide)
          have h11 : vs 11 = _ := hv 11 (by decide)
          have hrn := treeNode_any w2 (Tree.top (L.take k)) (Tree.top (L.drop k)) (Tree.top_len _) (Tree.top_len _) hL2
          rw [HTOP.out] at hrn
          simp only [relF, List.getD_cons_zero, List.getD_cons_succ, List.foldl_cons, List.foldl_nil, dstAt, List.getElem?_cons_zero, List.getElem?_cons_succ, Option.bind_some]
          go_frame
          rw [h5, h11]
          go_wp2_with fail
          refine (hrn).mono ?_
          rintro e w3 ⟨rfl, b3⟩
          go_wp2_with fail
          exact ⟨rfl, b3, rfl, rfl⟩
        | 13, _, hi =>
          obtain rfl := Option.some.inj hi
          simp only [relF, List.getD_cons_zero, List.getD_cons_succ, List.foldl_cons, List.foldl_nil, dstAt, List.getElem?_cons_zero, List.getElem?_cons_succ, Option.bind_some]
          go_wp2_with fail
          exact ⟨rfl, (Below.refl _ _).alloc (Nat.le_refl _) _, rfl, w2.heap.size, rfl⟩
        | 14, _, hi =>
          obtain rfl := Option.some.inj hi
          simp only [relF, List.getD_cons_zero, List.getD_cons_succ, List.foldl_cons, List.foldl_nil, dstAt, List.getElem?_cons_zero, List.getElem?_cons_succ, Option.bind_some]
          go_wp2_with fail
          exact ⟨rfl, Below.refl _ _, rfl, rfl⟩
        | 15, _, hi =>
          obtain rfl := Option.some.inj hi
          obtain ⟨g13, e13⟩ := hv 13 (by decide)
          have h14 : vs 14 = _ := hv 14 (by decide)
          obtain ⟨q, cc, W, hrun, hs, hbb⟩ := StrsAt.copy (HS.out.below (Nat.le_refl _) b2) (by omega) ⟨g13, 0, none⟩
          simp only [relF, List.getD_cons_zero, List.getD_cons_succ, List.foldl_cons, List.foldl_nil, dstAt, List.getElem?_cons_zero, List.getElem?_cons_succ, Option.bind_some]
          go_frame
          rw [e13, h14]
          go_wp2_with ((with_reducible show wpList _ _ _ (⟨some 43, _, _, _, _, _⟩ :: _) _ _); refine wpList_append_ran (by kernel_rfl) _ _ _ rfl _ _ rfl rfl hrun ?_)
          exact ⟨rfl, hbb, rfl, q, cc, rfl, hs⟩
        | 16, _, hi =>
          obtain rfl := Option.some.inj hi
          obtain ⟨q15, c15, e15, s15⟩ := hv 15 (by decide)
          simp only [relF, List.getD_cons_zero, List.getD_cons_succ, List.foldl_cons, List.foldl_nil, dstAt, List.getElem?_cons_zero, List.getElem?_cons_succ, Option.bind_some]
          go_frame
          rw [e15]
          go_wp2_with fail
          refine (treeTop_any n w2 _ _ _ L rfl s15 (by omega) HLE.out hL2).mono ?_
          rintro e w3 ⟨rfl, b3⟩
          go_wp2_with fail
          exact ⟨rfl, b3, rfl, rfl⟩
        | 17, _, hi =>
          obtain rfl := Option.some.inj hi
          have h12 : vs 12 = _ := hv 12 (by decide)
          have h16 : vs 16 = _ := hv 16 (by decide)
          simp only [relF, List.getD_cons_zero, List.getD_cons_succ, List.foldl_cons, List.foldl_nil, dstAt, List.getElem?_cons_zero, List.getElem?_cons_succ, Option.bind_some]
          go_frame
          rw [h12, h16]
          go_wp2_with ((with_reducible show wpList _ _ _ (⟨some 45, _, _, _, _, _⟩ :: _) _ _); refine wpList_eql_hash (op := ⟨some 45, _, _, _, _, _⟩) (by kernel_rfl) _ _ rfl (Tree.top L) (Tree.top L) (Tree.top_len _) (Tree.top_len _) rfl rfl ?_; rw [beq_self_eq_true])
          exact ⟨rfl, Below.refl _ _, rfl, rfl⟩
        | 18, _, hi =>
          obtain rfl := Option.some.inj hi
          have h17 : vs 17 = _ := hv 17 (by decide)
          simp only [relF, List.getD_cons_zero, List.getD_cons_succ, List.foldl_cons, List.foldl_nil, dstAt, List.getElem?_cons_zero, List.getElem?_cons_succ, Option.bind_some]
          go_frame
          rw [h17]
          go_wp2_with fail
          exact ⟨rfl, Below.refl _ _, rfl, rfl⟩
        | 19, _, hi =>
          obtain rfl := Option.some.inj hi
          have h18 : vs 18 = _ := hv 18 (by decide)
          simp only [relF, List.getD_cons_zero, List.getD_cons_succ, List.foldl_cons, List.foldl_nil, dstAt, List.getElem?_cons_zero, List.getElem?_cons_succ, Option.bind_some]
          go_frame
          rw [h18]
          go_wp2_with fail
          exact ⟨rfl, Below.refl _ _, rfl, rfl⟩
        | 20, _, hi =>
          obtain rfl := Option.some.inj hi
          have h18 : vs 18 = _ := hv 18 (by decide)
          have h19 : vs 19 = _ := hv 19 (by decide)
          simp only [relF, List.getD_cons_zero, List.getD_cons_succ, List.foldl_cons, List.foldl_nil, dstAt, List.getElem?_cons_zero, List.getElem?_cons_succ, Option.bind_some]
          go_frame
          rw [h18, h19]
          go_wp2_with fail
          exact ⟨rfl, Below.refl _ _, rfl, rfl⟩
        | 21, _, hi =>
          obtain rfl := Option.some.inj hi
          have h18 : vs 18 = _ := hv 18 (by decide)
          have h20 : vs 20 = _ := hv 20 (by decide)
          have hrn := treeTop_any 1 w2 _ _ _ (L.take 1) rfl (HT1.out.below (Nat.le_refl _) b2) (by omega) (fun l hl => HLE.out l (List.mem_of_mem_take hl)) hL2
          rw [HTL.out] at hrn
          simp only [relF, List.getD_cons_zero, List.getD_cons_succ, List.foldl_cons, List.foldl_nil, dstAt, List.getElem?_cons_zero, List.getElem?_cons_succ, Option.bind_some]
          go_frame
          rw [h18, h20]
          go_wp2_with fail
          refine (hrn).mono ?_
          rintro e w3 ⟨rfl, b3⟩
          go_wp2_with fail
          exact ⟨rfl, b3, rfl, rfl⟩
        | 22, _, hi =>
          obtain rfl := Option.some.inj hi
          have h18 : vs 18 = _ := hv 18 (by decide)
          simp only [relF, List.getD_cons_zero, List.getD_cons_succ, List.foldl_cons, List.foldl_nil, dstAt, List.getElem?_cons_zero, List.getElem?_cons_succ, Option.bind_some]
          go_frame
          rw [h18]
          go_wp2_with fail
          exact ⟨rfl, Below.refl _ _, rfl, rfl⟩
        | 23, _, hi =>
          obtain rfl := Option.some.inj hi
          have h18 : vs 18 = _ := hv 18 (by decide)
          have h22 : vs 22 = _ := hv 22 (by decide)
          simp only [relF, List.getD_cons_zero, List.getD_cons_succ, List.foldl_cons, List.foldl_nil, dstAt, List.getElem?_cons_zero, List.getElem?_cons_succ, Option.bind_some]
          go_frame
          rw [h18, h22]
          go_wp2_with fail
          exact ⟨rfl, Below.refl _ _, rfl, rfl⟩
        | 24, _, hi =>
          obtain rfl := Option.some.inj hi
          have h18 : vs 18 = _ := hv 18 (by decide)
          have h23 : vs 23 = _ := hv 23 (by decide)
          have hcell := (HS.out.below (Nat.le_refl _) b2).get HL0.out
          rw [Nat.add_zero] at hcell
          simp only [relF, List.getD_cons_zero, List.getD_cons_succ, List.foldl_cons, List.foldl_nil, dstAt, List.getElem?_cons_zero, List.getElem?_cons_succ, Option.bind_some]
          go_frame
          rw [h18, h23]
          go_wp2_with fail
          exact ⟨rfl, Below.refl _ _, rfl, rfl⟩
        | 25, _, hi =>
          obtain rfl := Option.some.inj hi
          have h18 : vs 18 = _ := hv 18 (by decide)
          have h24 : vs 24 = _ := hv 24 (by decide)
          simp only [relF, List.getD_cons_zero, List.getD_cons_succ, List.foldl_cons, List.foldl_nil, dstAt, List.getElem?_cons_zero, List.getElem?_cons_succ, Option.bind_some]
          go_frame
          rw [h18, h24]
          go_wp2_with fail
          refine (treeLeaf_any w2 l0 (by omega) hL2).mono ?_
          rintro e w3 ⟨rfl, b3⟩
          go_wp2_with fail
          exact ⟨rfl, b3, rfl, rfl⟩
        | 26, _, hi =>
          obtain rfl := Option.some.inj hi
          have h18 : vs 18 = _ := hv 18 (by decide)
          have h21 : vs 21 = _ := hv 21 (by decide)
          have h25 : vs 25 = _ := hv 25 (by decide)
          simp only [relF, List.getD_cons_zero, List.getD_cons_succ, List.foldl_cons, List.foldl_nil, dstAt, List.getElem?_cons_zero, List.getElem?_cons_succ, Option.bind_some]
          go_frame
          rw [h18, h21, h25]
          go_wp2_with ((with_reducible show wpList _ _ _ (⟨some 54, _, _, _, _, _⟩ :: _) _ _); refine wpList_eql_hash (op := ⟨some 54, _, _, _, _, _⟩) (by kernel_rfl) _ _ rfl (Tree.leaf l0) (Tree.leaf l0) (Tree.leaf_len _) (Tree.leaf_len _) rfl rfl ?_; rw [beq_self_eq_true])
          exact ⟨rfl, Below.refl _ _, rfl, rfl⟩
        | 27, _, hi =>
          obtain rfl := Option.some.inj hi
          have h18 : vs 18 = _ := hv 18 (by decide)
          have h26 : vs 26 = _ := hv 26 (by decide)
          simp only [relF, List.getD_cons_zero, List.getD_cons_succ, List.foldl_cons, List.foldl_nil, dstAt, List.getElem?_cons_zero, List.getElem?_cons_succ, Option.bind_some]
          go_frame
          rw [h18, h26]
          go_wp2_with fail
          exact ⟨rfl, Below.refl _ _, rfl, rfl⟩
        | 28, _, hi =>
          obtain rfl := Option.some.inj hi
          have h27 : vs 27 = _ := hv 27 (by decide)
          simp only [relF, List.getD_cons_zero, List.getD_cons_succ, List.foldl_cons, List.foldl_nil, dstAt, List.getElem?_cons_zero, List.getElem?_cons_succ, Option.bind_some]
          go_frame
          rw [h27]
          go_wp2_with fail
          exact ⟨rfl, Below.refl _ _, rfl, rfl⟩
        | nx + 29, him, _ => exact absurd him (by omega)
      · intro w2 b2 vs hv
        have hL2 := HL.out.below b2
        have hl0l := HLE.out l0 (List.mem_of_getElem? HL0.out)
        have h28 : vs 28 = _ := hv 28 (by decide)
        simp only [relF, List.drop_succ_cons, List.drop_zero, List.length_cons, List.length_nil, Nat.zero_add, Nat.reduceAdd, List.range, List.range.loop, List.foldl_cons, List.foldl_nil, dstAt, List.getElem?_cons_zero, List.getElem?_cons_succ, Option.bind_some]
        go_frame
        rw [h28]
        go_wp2_with fail
        go_ret
        exact ⟨rfl, b1.trans (b2.mono b1.size)⟩

end Go.Proofs.YtbgahpbnlogdnaaDoor
