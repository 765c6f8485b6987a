/- The walk of the law TreeProves. -/
import Derived.Test.YtbgahpbnlogdnaaDoorLawTreeD
namespace Go.Proofs.YtbgahpbnlogdnaaDoor
open Go.RowKit
set_option linter.unusedSimpArgs false
set_option linter.unusedVariables false

theorem refProve_row (w : World) (o : Option Addr) (n cap i : Nat) (L : List (List UInt8)) (hS : StrsAt w o n cap L) (hi : i < n) (hn : n ≤ 500000) (hl : ∀ l ∈ L, l.length ≤ 100000) :
    Calls Tryd.prog 26 #[.slice o n cap, .int .i64 (i : Int)] w fun e w' => ∃ q c, e = .returned (.slice q (Tree.prove L i).length c) ∧ HashesAt w' q (Tree.prove L i).length c (Tree.prove L i) ∧ Below w.heap.size w w' :=
  (refProve_any n w o n cap i L rfl hS hi hn hl).mono fun _ _ ⟨q, c, h1, h2, h3⟩ => ⟨q, c, h1, HashesAt.of_owns h2 (Tree.prove_32 L.length L i rfl), h3⟩

theorem treeProve_row (w : World) (o : Option Addr) (n cap i : Nat) (L : List (List UInt8)) (hS : StrsAt w o n cap L) (hi : i < n) (hn : n ≤ 500000) (hl : ∀ l ∈ L, l.length ≤ 100000) (hL : Laid w) :
    Calls Tryd.prog 24 #[.slice o n cap, .int .i64 (i : Int)] w fun e w' => ∃ q c, e = .returned (.tuple #[.slice q (Tree.prove L i).length c, .int .i64 0]) ∧ HashesAt w' q (Tree.prove L i).length c (Tree.prove L i) ∧ Below w.heap.size w w' :=
  (treeProve_any w o n cap i L hS hi hn hl hL).mono fun _ _ ⟨q, c, h1, h2, h3⟩ => ⟨q, c, h1, HashesAt.of_owns h2 (Tree.prove_32 L.length L i rfl), h3⟩

/-- What the region's operations leave. -/
def provesV (b off n cap i c : Nat) (q : Option Addr) (L : List (List UInt8)) (l : List UInt8) (ix : Nat) (w : World) (v : Value) : Prop :=
  match ix with
  | 0 => v = .int .i64 (0)
  | 1 => v = .bool true
  | 2 => v = .bool true
  | 3 => v = .slice q ((Tree.prove L i).length) c
  | 4 => v = .slice (some ⟨b, off, none⟩) n cap
  | 5 => v = .int .i64 (i : Int)
  | 6 => ∃ (q : Option Addr) (c : Nat), v = .slice q (Tree.prove L i).length c ∧ HashesAt w q (Tree.prove L i).length c (Tree.prove L i)
  | 7 => v = .bool true
  | 8 => v = .bool true
  | 9 => v = .bool true
  | 10 => ∃ g : Nat, v = .slice (some ⟨g, 0, none⟩) 0 0
  | 11 => v = .slice (some ⟨b, off, none⟩) n cap
  | 12 => ∃ (q : Addr) (c : Nat), v = .slice (some q) n c ∧ StrsAt w (some q) n c L
  | 13 => v = .agg (byteCells (Tree.root n (Tree.top L))).toArray
  | 14 => v = .slice (some ⟨b, off, none⟩) n cap
  | 15 => v = .int .i64 (n : Int)
  | 16 => v = .int .i64 (i : Int)
  | 17 => v = .slice (some ⟨b, off, none⟩) n cap
  | 18 => v = .int .i64 (i : Int)
  | 19 => v = .pointer (some ⟨b, off + i, none⟩)
  | 20 => v = .string (strOf l)
  | 21 => v = .slice q ((Tree.prove L i).length) c
  | 22 => v = .bool true
  | 23 => v = .bool true
  | 24 => v = .bool true
  | 25 => v = .slice (some ⟨b, off, none⟩) n cap
  | 26 => v = .int .i64 (n : Int)
  | 27 => v = .int .i64 (i : Int)
  | 28 => v = .int .i64 ((Tree.prove L i).length : Int)
  | 29 => v = .slice q ((Tree.prove L i).length) c
  | 30 => v = .int .i64 ((Tree.prove L i).length : Int)
  | 31 => v = .bool true
  | 32 => v = .bool true
  | 33 => v = .bool true
  | _ => True

theorem provesV_mono (b off n cap i c : Nat) (q : Option Addr) (L : List (List UInt8)) (l : List UInt8) (jx : Nat) (w w' : World) (v : Value) (hb : Below w.heap.size w w') (h : provesV b off n cap i c q L l jx w v) : provesV b off n cap i c q L l jx w' v := by
  match jx, h with
  | 0, h => exact h
  | 1, h => exact h
  | 2, h => exact h
  | 3, h => exact h
  | 4, h => exact h
  | 5, h => exact h
  | 6, h => exact (let ⟨q, c, h1, h2⟩ := h; ⟨q, c, h1, h2.below (Nat.le_refl _) hb⟩)
  | 7, h => exact h
  | 8, h => exact h
  | 9, h => exact h
  | 10, h => exact h
  | 11, h => exact h
  | 12, h => exact (let ⟨q, c, h1, h2⟩ := h; ⟨q, c, h1, h2.below (Nat.le_refl _) hb⟩)
  | 13, h => exact h
  | 14, h => exact h
  | 15, h => exact h
  | 16, h => exact h
  | 17, h => exact h
  | 18, h => exact h
  | 19, h => exact h
  | 20, h => exact h
  | 21, h => exact h
  | 22, h => exact h
  | 23, h => exact h
  | 24, h => exact h
  | 25, h => exact h
  | 26, h => exact h
  | 27, h => exact h
  | 28, h => exact h
  | 29, h => exact h
  | 30, h => exact h
  | 31, h => exact h
  | 32, h => exact h
  | 33, h => exact h
  | _ + 34, h => exact trivial

set_option maxRecDepth 100000 in
set_option maxHeartbeats 4000000 in
theorem proves_law (w : World) (o : Option Addr) (n cap : Nat) (F : List ByteArray) (hR : RowsAt w o n cap 1 strCell F) (hF : ∀ s ∈ F, s.size ≤ maxLen) (i : Int) (hi : (Lit.int .i64 i).wf = true) (hL : Laid w) :
    Calls Tryd.prog 5 #[.slice o n cap, .int .i64 i] w fun e w' => e = .returned (.bool true) ∧ Below w.heap.size w w' := by
  obtain ⟨L, hL0⟩ : ∃ L : List (List UInt8), L = F.map (fun s => s.data.toList) := ⟨_, rfl⟩
  have hS : StrsAt w o n cap L := by rw [hL0]; exact StrsAt.of_rows hR
  have hmx : ∀ l ∈ L, l.length ≤ 9223372036854775807 := fun l hl => by
    rw [hL0] at hl
    obtain ⟨f, hf, rfl⟩ := List.mem_map.1 hl
    have := hF f hf
    unfold maxLen at this
    rw [show f.data.toList.length = f.size by rw [Array.length_toList]; rfl]
    exact this
  clear hR hF hL0
  have hlen := hS.len
  have hcap := hS.cap
  have hmax := hS.max
  have HS := Lib.hid hS; clear hS
  have HMX := Lib.hid hmx; clear hmx
  have HL := Lib.hid hL; clear hL
  rcases hfew : few L with _ | _
  · go_enter Tryd.func5, Tryd.ntmps5
    go_wp2_with fail
    refine (awake_any w HL.out).mono ?_
    rintro e w1 ⟨rfl, b1⟩
    have hfw := refFew_any w1 o n cap L (HS.out.below (Nat.le_refl _) b1) HMX.out
    rw [hfew] at hfw
    have HFW := Lib.hid hfw; clear hfw
    go_wp2_with fail
    refine HFW.out.mono ?_
    rintro e w' ⟨rfl, rfl⟩
    go_wp2_with fail
    refine (awake_any w1 (HL.out.below b1)).mono ?_
    rintro e w2 ⟨rfl, b2⟩
    go_wp2_with fail
    go_ret
    exact ⟨rfl, b1.trans (b2.mono b1.size)⟩
  · obtain ⟨hf20, hf200⟩ := few_spec hfew
    rw [hlen] at hf20
    have HLE : Hid (∀ l ∈ L, l.length ≤ 100000) := Lib.hid fun l hl => by have := hf200 l hl; omega
    have HF200 := Lib.hid hf200; clear hf200
    have hib := wf_i64' hi
    clear hi
    go_enter Tryd.func5, Tryd.ntmps5
    go_wp2_with fail
    refine (awake_any w HL.out).mono ?_
    rintro e w1 ⟨rfl, b1⟩
    have hfw := refFew_any w1 o n cap L (HS.out.below (Nat.le_refl _) b1) HMX.out
    rw [hfew] at hfw
    have HFW := Lib.hid hfw; clear hfw
    replace HS := Lib.hid (HS.out.below (Nat.le_refl _) b1)
    replace HL := Lib.hid (HL.out.below b1)
    go_wp2_with fail
    refine HFW.out.mono ?_
    rintro e w' ⟨rfl, rfl⟩
    clear HFW HMX hfew
    obtain ⟨q1, c1, v2, hrun, hs, dd⟩ := StrsAt.copy (HS.out.below (Nat.le_refl _) ((Below.refl w1.heap.size w1).alloc (Nat.le_refl _) (.cells #[] 9))) (by omega) ⟨w1.heap.size, 0, none⟩
    have d2 : Below w1.heap.size w1 v2 := ((Below.refl _ _).alloc (Nat.le_refl _) _).trans (dd.mono (by simp))
    have C2 := Lib.hid hs; clear hs dd
    replace HS := Lib.hid (HS.out.below (Nat.le_refl _) d2)
    replace HL := Lib.hid (HL.out.below d2)
    replace b1 := b1.trans (d2.mono b1.size)
    by_cases hin : 0 ≤ i ∧ i < n
    · obtain ⟨i, rfl⟩ : ∃ k : Nat, i = (k : Int) := ⟨i.toNat, by omega⟩
      have hi' : i < n := by omega
      obtain ⟨b, off, rfl⟩ := HS.out.form (by omega)
      have t1 : decide ((i : Int) < 0) = false := decide_eq_false (by omega)
      have t2 : decide ((n : Int) ≤ (i : Int)) = false := decide_eq_false (by omega)
      have t2' : decide (n ≤ i) = false := decide_eq_false (by omega)
      obtain ⟨l, hl⟩ : ∃ l, L[i]? = some l := ⟨_, List.getElem?_eq_getElem (by omega)⟩
      have hckp := Tree.check_prove hl
      rw [hlen] at hckp
      have hsp := Tree.sides_prove n L i hlen hi'
      have hpl := Tree.prove_len n L i hlen
      have HCKP := Lib.hid hckp; clear hckp
      have HSP := Lib.hid hsp; clear hsp
      have HLI := Lib.hid hl; clear hl
      have hc := treeProve_row v2 _ _ _ i L C2.out hi' (by omega) HLE.out HL.out
      have HC := Lib.hid hc; clear hc
      clear hin
      go_wp2_with ((with_reducible show wpList _ _ _ (⟨some 18, _, _, _, _, _⟩ :: _) _ _); refine wpList_append_ran (by kernel_rfl) _ _ _ rfl _ _ rfl rfl hrun ?_)
      refine HC.out.mono ?_
      rintro e v3 ⟨q, c, rfl, hpr, d3⟩
      have HPR := Lib.hid hpr; clear hpr HC hrun
      replace HS := Lib.hid (HS.out.below (Nat.le_refl _) d3)
      replace HL := Lib.hid (HL.out.below d3)
      replace b1 := b1.trans (d3.mono b1.size)
      go_wp2_with fail
      refine wp_region_rel [[], [0], [1], [2], [2], [2], [2, 4, 5], [2, 3, 6], [2, 7], [8], [9], [9], [9, 10, 11], [9, 12], [9], [9, 14], [9], [9], [9], [9, 17, 18], [9, 19], [9], [9, 13, 15, 16, 20, 21], [9, 22], [23], [24], [24, 25], [24], [24, 26, 27], [24], [24, 29], [24, 28, 30], [24, 31], [32]] (provesV b off n cap i c q L l) 71 (by kernel_rfl) (by kernel_rfl) (by kernel_rfl) (provesV_mono b off n cap i c q L l) ?_ ?_
      · intro ix op hi w2 b2 vs hv
        have him : ix < 34 := (List.getElem?_eq_some_iff.1 hi).1
        have hL2 := HL.out.below b2
        have hll := HLE.out l (List.mem_of_getElem? HLI.out)
        match ix, him, hi with
        | 0, _, hi =>
          obtain rfl := Option.some.inj hi
          simp only [relF, List.getD_cons_zero, List.getD_cons_succ, List.foldl_cons, List.foldl_nil, dstAt, List.getElem?_cons_zero, List.getElem?_cons_succ, Option.bind_some]
          go_wp2_with fail
          exact ⟨rfl, Below.refl _ _, rfl, rfl⟩
        | 1, _, hi =>
          obtain rfl := Option.some.inj hi
          have h0 : vs 0 = _ := hv 0 (by decide)
          simp only [relF, List.getD_cons_zero, List.getD_cons_succ, List.foldl_cons, List.foldl_nil, dstAt, List.getElem?_cons_zero, List.getElem?_cons_succ, Option.bind_some]
          go_frame
          rw [h0]
          go_wp2_with fail
          exact ⟨rfl, Below.refl _ _, rfl, by first | rfl | (show slotOf _ _ = _; simp [slotOf])⟩
        | 2, _, hi =>
          obtain rfl := Option.some.inj hi
          have h1 : vs 1 = _ := hv 1 (by decide)
          simp only [relF, List.getD_cons_zero, List.getD_cons_succ, List.foldl_cons, List.foldl_nil, dstAt, List.getElem?_cons_zero, List.getElem?_cons_succ, Option.bind_some]
          go_frame
          rw [h1]
          go_wp2_with fail
          exact ⟨rfl, Below.refl _ _, rfl, rfl⟩
        | 3, _, hi =>
          obtain rfl := Option.some.inj hi
          have h2 : vs 2 = _ := hv 2 (by decide)
          simp only [relF, List.getD_cons_zero, List.getD_cons_succ, List.foldl_cons, List.foldl_nil, dstAt, List.getElem?_cons_zero, List.getElem?_cons_succ, Option.bind_some]
          go_frame
          rw [h2]
          go_wp2_with fail
          exact ⟨rfl, Below.refl _ _, rfl, rfl⟩
        | 4, _, hi =>
          obtain rfl := Option.some.inj hi
          have h2 : vs 2 = _ := hv 2 (by decide)
          simp only [relF, List.getD_cons_zero, List.getD_cons_succ, List.foldl_cons, List.foldl_nil, dstAt, List.getElem?_cons_zero, List.getElem?_cons_succ, Option.bind_some]
          go_frame
          rw [h2]
          go_wp2_with fail
          exact ⟨rfl, Below.refl _ _, rfl, rfl⟩
        | 5, _, hi =>
          obtain rfl := Option.some.inj hi
          have h2 : vs 2 = _ := hv 2 (by decide)
          simp only [relF, List.getD_cons_zero, List.getD_cons_succ, List.foldl_cons, List.foldl_nil, dstAt, List.getElem?_cons_zero, List.getElem?_cons_succ, Option.bind_some]
          go_frame
          rw [h2]
          go_wp2_with fail
          exact ⟨rfl, Below.refl _ _, rfl, rfl⟩
        | 6, _, hi =>
          obtain rfl := Option.some.inj hi
          have h2 : vs 2 = _ := hv 2 (by decide)
          have h4 : vs 4 = _ := hv 4 (by decide)
          have h5 : vs 5 = _ := hv 5 (by decide)
          simp only [relF, List.getD_cons_zero, List.getD_cons_succ, List.foldl_cons, List.foldl_nil, dstAt, List.getElem?_cons_zero, List.getElem?_cons_succ, Option.bind_some]
          go_frame
          rw [h2, h4, h5]
          go_wp2_with fail
          refine ((refProve_row w2 _ _ _ i L (HS.out.below (Nat.le_refl _) b2) (by omega) (by omega) HLE.out)).mono ?_
          rintro e w3 ⟨q, c, rfl, hs, b3⟩
          go_wp2_with fail
          exact ⟨rfl, b3, rfl, q, c, rfl, hs⟩
        | 7, _, hi =>
          obtain rfl := Option.some.inj hi
          have h2 : vs 2 = _ := hv 2 (by decide)
          have h3 : vs 3 = _ := hv 3 (by decide)
          obtain ⟨q6, c6, e6, s6⟩ := hv 6 (by decide)
          have hsm := refSame_any w2 _ _ _ _ _ _ _ _ (HPR.out.below (Nat.le_refl _) b2) s6
          rw [decide_eq_true rfl] at hsm
          simp only [relF, List.getD_cons_zero, List.getD_cons_succ, List.foldl_cons, List.foldl_nil, dstAt, List.getElem?_cons_zero, List.getElem?_cons_succ, Option.bind_some]
          go_frame
          rw [h2, h3, e6]
          go_wp2_with fail
          refine (hsm).mono ?_
          rintro e w3 ⟨rfl, b3⟩
          go_wp2_with fail
          exact ⟨rfl, b3, rfl, rfl⟩
        | 8, _, hi =>
          obtain rfl := Option.some.inj hi
          have h2 : vs 2 = _ := hv 2 (by decide)
          have h7 : vs 7 = _ := hv 7 (by decide)
          simp only [relF, List.getD_cons_zero, List.getD_cons_succ, List.foldl_cons, List.foldl_nil, dstAt, List.getElem?_cons_zero, List.getElem?_cons_succ, Option.bind_some]
          go_frame
          rw [h2, h7]
          go_wp2_with fail
          exact ⟨rfl, Below.refl _ _, rfl, rfl⟩
        | 9, _, hi =>
          obtain rfl := Option.some.inj hi
          have h8 : vs 8 = _ := hv 8 (by decide)
          simp only [relF, List.getD_cons_zero, List.getD_cons_succ, List.foldl_cons, List.foldl_nil, dstAt, List.getElem?_cons_zero, List.getElem?_cons_succ, Option.bind_some]
          go_frame
          rw [h8]
          go_wp2_with fail
          exact ⟨rfl, Below.refl _ _, rfl, rfl⟩
        | 10, _, hi =>
          obtain rfl := Option.some.inj hi
          have h9 : vs 9 = _ := hv 9 (by decide)
          simp only [relF, List.getD_cons_zero, List.getD_cons_succ, List.foldl_cons, List.foldl_nil, dstAt, List.getElem?_cons_zero, List.getElem?_cons_succ, Option.bind_some]
          go_frame
          rw [h9]
          go_wp2_with fail
          exact ⟨rfl, (Below.refl _ _).alloc (Nat.le_refl _) _, rfl, w2.heap.size, rfl⟩
        | 11, _, hi =>
          obtain rfl := Option.some.inj hi
          have h9 : vs 9 = _ := hv 9 (by decide)
          simp only [relF, List.getD_cons_zero, List.getD_cons_succ, List.foldl_cons, List.foldl_nil, dstAt, List.getElem?_cons_zero, List.getElem?_cons_succ, Option.bind_some]
          go_frame
          rw [h9]
          go_wp2_with fail
          exact ⟨rfl, Below.refl _ _, rfl, rfl⟩
        | 12, _, hi =>
          obtain rfl := Option.some.inj hi
          have h9 : vs 9 = _ := hv 9 (by decide)
          obtain ⟨g10, e10⟩ := hv 10 (by decide)
          have h11 : vs 11 = _ := hv 11 (by decide)
          obtain ⟨q, cc, W, hrun, hs, hbb⟩ := StrsAt.copy (HS.out.below (Nat.le_refl _) b2) (by omega) ⟨g10, 0, none⟩
          simp only [relF, List.getD_cons_zero, List.getD_cons_succ, List.foldl_cons, List.foldl_nil, dstAt, List.getElem?_cons_zero, List.getElem?_cons_succ, Option.bind_some]
          go_frame
          rw [h9, e10, h11]
          go_wp2_with ((with_reducible show wpList _ _ _ (⟨some 50, _, _, _, _, _⟩ :: _) _ _); refine wpList_append_ran (by kernel_rfl) _ _ _ rfl _ _ rfl rfl hrun ?_)
          exact ⟨rfl, hbb, rfl, q, cc, rfl, hs⟩
        | 13, _, hi =>
          obtain rfl := Option.some.inj hi
          have h9 : vs 9 = _ := hv 9 (by decide)
          obtain ⟨q12, c12, e12, s12⟩ := hv 12 (by decide)
          simp only [relF, List.getD_cons_zero, List.getD_cons_succ, List.foldl_cons, List.foldl_nil, dstAt, List.getElem?_cons_zero, List.getElem?_cons_succ, Option.bind_some]
          go_frame
          rw [h9, e12]
          go_wp2_with fail
          refine (treeRoot_any w2 _ n _ L s12 (by omega) HLE.out hL2).mono ?_
          rintro e w3 ⟨rfl, b3⟩
          go_wp2_with fail
          exact ⟨rfl, b3, rfl, rfl⟩
        | 14, _, hi =>
          obtain rfl := Option.some.inj hi
          have h9 : vs 9 = _ := hv 9 (by decide)
          simp only [relF, List.getD_cons_zero, List.getD_cons_succ, List.foldl_cons, List.foldl_nil, dstAt, List.getElem?_cons_zero, List.getElem?_cons_succ, Option.bind_some]
          go_frame
          rw [h9]
          go_wp2_with fail
          exact ⟨rfl, Below.refl _ _, rfl, rfl⟩
        | 15, _, hi =>
          obtain rfl := Option.some.inj hi
          have h9 : vs 9 = _ := hv 9 (by decide)
          have h14 : vs 14 = _ := hv 14 (by decide)
          simp only [relF, List.getD_cons_zero, List.getD_cons_succ, List.foldl_cons, List.foldl_nil, dstAt, List.getElem?_cons_zero, List.getElem?_cons_succ, Option.bind_some]
          go_frame
          rw [h9, h14]
          go_wp2_with fail
          exact ⟨rfl, Below.refl _ _, rfl, rfl⟩
        | 16, _, hi =>
          obtain rfl := Option.some.inj hi
          have h9 : vs 9 = _ := hv 9 (by decide)
          simp only [relF, List.getD_cons_zero, List.getD_cons_succ, List.foldl_cons, List.foldl_nil, dstAt, List.getElem?_cons_zero, List.getElem?_cons_succ, Option.bind_some]
          go_frame
          rw [h9]
          go_wp2_with fail
          exact ⟨rfl, Below.refl _ _, rfl, rfl⟩
        | 17, _, hi =>
          obtain rfl := Option.some.inj hi
          have h9 : vs 9 = _ := hv 9 (by decide)
          simp only [relF, List.getD_cons_zero, List.getD_cons_succ, List.foldl_cons, List.foldl_nil, dstAt, List.getElem?_cons_zero, List.getElem?_cons_succ, Option.bind_some]
          go_frame
          rw [h9]
          go_wp2_with fail
          exact ⟨rfl, Below.refl _ _, rfl, rfl⟩
        | 18, _, hi =>
          obtain rfl := Option.some.inj hi
          have h9 : vs 9 = _ := hv 9 (by decide)
          simp only [relF, List.getD_cons_zero, List.getD_cons_succ, List.foldl_cons, List.foldl_nil, dstAt, List.getElem?_cons_zero, List.getElem?_cons_succ, Option.bind_some]
          go_frame
          rw [h9]
          go_wp2_with fail
          exact ⟨rfl, Below.refl _ _, rfl, rfl⟩
        | 19, _, hi =>
          obtain rfl := Option.some.inj hi
          have h9 : vs 9 = _ := hv 9 (by decide)
          have h17 : vs 17 = _ := hv 17 (by decide)
          have h18 : vs 18 = _ := hv 18 (by decide)
          simp only [relF, List.getD_cons_zero, List.getD_cons_succ, List.foldl_cons, List.foldl_nil, dstAt, List.getElem?_cons_zero, List.getElem?_cons_succ, Option.bind_some]
          go_frame
          rw [h9, h17, h18]
          go_wp2_with fail
          exact ⟨rfl, Below.refl _ _, rfl, rfl⟩
        | 20, _, hi =>
          obtain rfl := Option.some.inj hi
          have h9 : vs 9 = _ := hv 9 (by decide)
          have h19 : vs 19 = _ := hv 19 (by decide)
          have hcell := (HS.out.below (Nat.le_refl _) b2).get HLI.out
          simp only [relF, List.getD_cons_zero, List.getD_cons_succ, List.foldl_cons, List.foldl_nil, dstAt, List.getElem?_cons_zero, List.getElem?_cons_succ, Option.bind_some]
          go_frame
          rw [h9, h19]
          go_wp2_with fail
          exact ⟨rfl, Below.refl _ _, rfl, rfl⟩
        | 21, _, hi =>
          obtain rfl := Option.some.inj hi
          have h9 : vs 9 = _ := hv 9 (by decide)
          simp only [relF, List.getD_cons_zero, List.getD_cons_succ, List.foldl_cons, List.foldl_nil, dstAt, List.getElem?_cons_zero, List.getElem?_cons_succ, Option.bind_some]
          go_frame
          rw [h9]
          go_wp2_with fail
          exact ⟨rfl, Below.refl _ _, rfl, rfl⟩
        | 22, _, hi =>
          obtain rfl := Option.some.inj hi
          have h9 : vs 9 = _ := hv 9 (by decide)
          have h13 : vs 13 = _ := hv 13 (by decide)
          have h15 : vs 15 = _ := hv 15 (by decide)
          have h16 : vs 16 = _ := hv 16 (by decide)
          have h20 : vs 20 = _ := hv 20 (by decide)
          have h21 : vs 21 = _ := hv 21 (by decide)
          have hrn := treeCheck_any w2 (Tree.root n (Tree.top L)) (Tree.root_len _ _) n i (by omega) (by omega) l (by omega) _ _ _ (Tree.prove L i) (HPR.out.below (Nat.le_refl _) b2) hL2
          rw [HCKP.out] at hrn
          simp only [relF, List.getD_cons_zero, List.getD_cons_succ, List.foldl_cons, List.foldl_nil, dstAt, List.getElem?_cons_zero, List.getElem?_cons_succ, Option.bind_some]
          go_frame
          rw [h9, h13, h15, h16, h20, h21]
          go_wp2_with fail
          refine (hrn).mono ?_
          rintro e w3 ⟨rfl, b3⟩
          go_wp2_with fail
          exact ⟨rfl, b3, rfl, rfl⟩
        | 23, _, hi =>
          obtain rfl := Option.some.inj hi
          have h9 : vs 9 = _ := hv 9 (by decide)
          have h22 : vs 22 = _ := hv 22 (by decide)
          simp only [relF, List.getD_cons_zero, List.getD_cons_succ, List.foldl_cons, List.foldl_nil, dstAt, List.getElem?_cons_zero, List.getElem?_cons_succ, Option.bind_some]
          go_frame
          rw [h9, h22]
          go_wp2_with fail
          exact ⟨rfl, Below.refl _ _, rfl, rfl⟩
        | 24, _, hi =>
          obtain rfl := Option.some.inj hi
          have h23 : vs 23 = _ := hv 23 (by decide)
          simp only [relF, List.getD_cons_zero, List.getD_cons_succ, List.foldl_cons, List.foldl_nil, dstAt, List.getElem?_cons_zero, List.getElem?_cons_succ, Option.bind_some]
          go_frame
          rw [h23]
          go_wp2_with fail
          exact ⟨rfl, Below.refl _ _, rfl, rfl⟩
        | 25, _, hi =>
          obtain rfl := Option.some.inj hi
          have h24 : vs 24 = _ := hv 24 (by decide)
          simp only [relF, List.getD_cons_zero, List.getD_cons_succ, List.foldl_cons, List.foldl_nil, dstAt, List.getElem?_cons_zero, List.getElem?_cons_succ, Option.bind_some]
          go_frame
          rw [h24]
          go_wp2_with fail
          exact ⟨rfl, Below.refl _ _, rfl, rfl⟩
        | 26, _, hi =>
          obtain rfl := Option.some.inj hi
          have h24 : vs 24 = _ := hv 24 (by decide)
          have h25 : vs 25 = _ := hv 25 (by decide)
          simp only [relF, List.getD_cons_zero, List.getD_cons_succ, List.foldl_cons, List.foldl_nil, dstAt, List.getElem?_cons_zero, List.getElem?_cons_succ, Option.bind_some]
          go_frame
          rw [h24, h25]
          go_wp2_with fail
          exact ⟨rfl, Below.refl _ _, rfl, rfl⟩
        | 27, _, hi =>
          obtain rfl := Option.some.inj hi
          have h24 : vs 24 = _ := hv 24 (by decide)
          simp only [relF, List.getD_cons_zero, List.getD_cons_succ, List.foldl_cons, List.foldl_nil, dstAt, List.getElem?_cons_zero, List.getElem?_cons_succ, Option.bind_some]
          go_frame
          rw [h24]
          go_wp2_with fail
          exact ⟨rfl, Below.refl _ _, rfl, rfl⟩
        | 28, _, hi =>
          obtain rfl := Option.some.inj hi
          have h24 : vs 24 = _ := hv 24 (by decide)
          have h26 : vs 26 = _ := hv 26 (by decide)
          have h27 : vs 27 = _ := hv 27 (by decide)
          have hrn := treeDeep_any w2 n i (by omega) (by omega)
          rw [HSP.out] at hrn
          simp only [relF, List.getD_cons_zero, List.getD_cons_succ, List.foldl_cons, List.foldl_nil, dstAt, List.getElem?_cons_zero, List.getElem?_cons_succ, Option.bind_some]
          go_frame
          rw [h24, h26, h27]
          go_wp2_with fail
          refine (hrn).mono ?_
          rintro e w3 ⟨rfl, b3⟩
          go_wp2_with fail
          exact ⟨rfl, b3, rfl, rfl⟩
        | 29, _, hi =>
          obtain rfl := Option.some.inj hi
          have h24 : vs 24 = _ := hv 24 (by decide)
          simp only [relF, List.getD_cons_zero, List.getD_cons_succ, List.foldl_cons, List.foldl_nil, dstAt, List.getElem?_cons_zero, List.getElem?_cons_succ, Option.bind_some]
          go_frame
          rw [h24]
          go_wp2_with fail
          exact ⟨rfl, Below.refl _ _, rfl, rfl⟩
        | 30, _, hi =>
          obtain rfl := Option.some.inj hi
          have h24 : vs 24 = _ := hv 24 (by decide)
          have h29 : vs 29 = _ := hv 29 (by decide)
          simp only [relF, List.getD_cons_zero, List.getD_cons_succ, List.foldl_cons, List.foldl_nil, dstAt, List.getElem?_cons_zero, List.getElem?_cons_succ, Option.bind_some]
          go_frame
          rw [h24, h29]
          go_wp2_with fail
          exact ⟨rfl, Below.refl _ _, rfl, rfl⟩
        | 31, _, hi =>
          obtain rfl := Option.some.inj hi
          have h24 : vs 24 = _ := hv 24 (by decide)
          have h28 : vs 28 = _ := hv 28 (by decide)
          have h30 : vs 30 = _ := hv 30 (by decide)
          simp only [relF, List.getD_cons_zero, List.getD_cons_succ, List.foldl_cons, List.foldl_nil, dstAt, List.getElem?_cons_zero, List.getElem?_cons_succ, Option.bind_some]
          go_frame
          rw [h24, h28, h30]
          go_wp2_with fail
          exact ⟨rfl, Below.refl _ _, rfl, by first | rfl | (show slotOf _ _ = _; simp [slotOf])⟩
        | 32, _, hi =>
          obtain rfl := Option.some.inj hi
          have h24 : vs 24 = _ := hv 24 (by decide)
          have h31 : vs 31 = _ := hv 31 (by decide)
          simp only [relF, List.getD_cons_zero, List.getD_cons_succ, List.foldl_cons, List.foldl_nil, dstAt, List.getElem?_cons_zero, List.getElem?_cons_succ, Option.bind_some]
          go_frame
          rw [h24, h31]
          go_wp2_with fail
          exact ⟨rfl, Below.refl _ _, rfl, rfl⟩
        | 33, _, hi =>
          obtain rfl := Option.some.inj hi
          have h32 : vs 32 = _ := hv 32 (by decide)
          simp only [relF, List.getD_cons_zero, List.getD_cons_succ, List.foldl_cons, List.foldl_nil, dstAt, List.getElem?_cons_zero, List.getElem?_cons_succ, Option.bind_some]
          go_frame
          rw [h32]
          go_wp2_with fail
          exact ⟨rfl, Below.refl _ _, rfl, rfl⟩
        | nx + 34, him, _ => exact absurd him (by omega)
      · intro w2 b2 vs hv
        have hL2 := HL.out.below b2
        have hll := HLE.out l (List.mem_of_getElem? HLI.out)
        have h33 : vs 33 = _ := hv 33 (by decide)
        simp only [relF, List.drop_succ_cons, List.drop_zero, List.length_cons, List.length_nil, Nat.zero_add, Nat.reduceAdd, List.range, List.range.loop, List.foldl_cons, List.foldl_nil, dstAt, List.getElem?_cons_zero, List.getElem?_cons_succ, Option.bind_some]
        go_frame
        rw [h33]
        go_wp2_with fail
        go_ret
        exact ⟨rfl, b1.trans (b2.mono b1.size)⟩
    · have hbad : i < 0 ∨ (n : Int) ≤ i := by omega
      have hc := treeProve_bad v2 (some q1) n c1 i hbad (by omega) hib.1
      have HC := Lib.hid hc; clear hc
      rcases hx : decide (i < 0) with _ | _
      · have t2 : decide ((n : Int) ≤ i) = true := decide_eq_true (by have := of_decide_eq_false hx; omega)
        go_wp2_with ((with_reducible show wpList _ _ _ (⟨some 18, _, _, _, _, _⟩ :: _) _ _); refine wpList_append_ran (by kernel_rfl) _ _ _ rfl _ _ rfl rfl hrun ?_)
        refine HC.out.mono ?_
        rintro e w' ⟨rfl, rfl⟩
        go_wp2_with fail
        go_ret
        exact ⟨rfl, b1⟩
      · go_wp2_with ((with_reducible show wpList _ _ _ (⟨some 18, _, _, _, _, _⟩ :: _) _ _); refine wpList_append_ran (by kernel_rfl) _ _ _ rfl _ _ rfl rfl hrun ?_)
        refine HC.out.mono ?_
        rintro e w' ⟨rfl, rfl⟩
        go_wp2_with fail
        go_ret
        exact ⟨rfl, b1⟩

end Go.Proofs.YtbgahpbnlogdnaaDoor
