/- The walk of tree.Prove and of the function it makes. -/
import Derived.Test.YtbgahpbnlogdnaaDoorTree5
import Derived.Test.YtbgahpbnlogdnaaDoorRelTail
import Derived.Laws.EntriesVeiled
namespace Go.Proofs.YtbgahpbnlogdnaaDoor
open Go.RowKit
set_option linter.unusedSimpArgs false
set_option linter.unusedVariables false

def hashCells (d : List (List UInt8)) : List Value := (d.map byteCells).flatten
theorem hashCells_app (a b : List (List UInt8)) : hashCells (a ++ b) = hashCells a ++ hashCells b := by simp [hashCells]
theorem hashCells_one (a : List UInt8) : hashCells [a] = byteCells a := by simp [hashCells]
theorem Tryd.under_hs : Tryd.prog.underlying 32 = some (.slice 26) := by kernel_rfl
theorem Tryd.info_hs : (Tryd.prog.info? 26).map (fun i => (i.zero, i.size, i.bytes)) = some (some (.agg zero32), 32, 32) := by kernel_rfl

theorem Tree.prove_len (N : Nat) : ∀ (l : List (List UInt8)) (i : Nat), l.length = N → (Tree.prove l i).length ≤ N := by
  induction N using Nat.strongRecOn with
  | ind N ih =>
    intro l i hl
    by_cases h : 2 ≤ l.length
    · have h1 := Tree.half_pos h
      have h2 := Tree.half_lt h
      by_cases hi : i < Tree.half l.length
      · rw [Tree.prove_left h hi, List.length_append]
        have := ih (Tree.half l.length) (by omega) (l.take (Tree.half l.length)) i (by rw [List.length_take]; omega)
        simp only [List.length_cons, List.length_nil]; omega
      · rw [Tree.prove_right h hi, List.length_append]
        have := ih (l.length - Tree.half l.length) (by omega) (l.drop (Tree.half l.length)) (i - Tree.half l.length) (by rw [List.length_drop])
        simp only [List.length_cons, List.length_nil]; omega
    · rw [Tree.prove_small h]; simp

theorem fold_zip (xs : List Value) : ∀ (k : Nat) (a : Array Value), a.size = k + xs.length → (xs.zipIdx k).foldl (fun cs x => cs.setIfInBounds x.2 x.1) a = (a.toList.take k ++ xs).toArray := by
  induction xs with
  | nil =>
    intro k a h
    simp only [List.zipIdx_nil, List.foldl_nil, List.append_nil, List.length_nil, Nat.add_zero] at h ⊢
    rw [List.take_of_length_le (by rw [Array.length_toList]; omega)]
  | cons x xs ih =>
    intro k a h
    simp only [List.zipIdx_cons, List.foldl_cons, List.length_cons] at h ⊢
    rw [ih (k + 1) _ (by simp; omega)]
    congr 1
    rw [Array.toList_setIfInBounds, List.take_add_one, List.getElem?_set_self (by rw [Array.length_toList]; omega), List.take_set_of_le (by omega)]
    simp

/-- A row of one sum that a call's own argument makes. -/
theorem alloc_built (w : World) {h : List UInt8} {t : TypeId} (hl : (byteCells h).length = 32) :
    (w.alloc (.cells (List.foldl (fun (cs : Array Value) (x : Value × Nat) => cs.setIfInBounds x.2 x.1) zero32 (byteCells h).zipIdx) t)).heap[w.heap.size]? = some (.cells (byteCells h).toArray t (0, 0)) := by
  rw [fold_zip (byteCells h) 0 zero32 (by rw [zero32_size, hl])]
  exact heap_alloc_new w _

/-- The two variables that the function captures: the sums so far, and the function itself. -/
def ProveInv (w : World) (B : Nat) (d : List (List UInt8)) : Prop :=
  (∃ v, w.heap[B]? = some (.cells #[v] 32 (0, 0)) ∧ w.ownsRow (B + 2) 26 32 v d.length (hashCells d)) ∧
  w.heap[B + 1]? = some (.cells #[.func (.func 40) #[] #[.pointer (some ⟨B + 1, 0, none⟩), .pointer (some ⟨B, 0, none⟩)]] 54 (0, 0))

theorem hash_one (h : List UInt8) : ∀ u ∈ byteCells h, u.oneCell' = true := byteCells_one h

theorem cells_row_at {w : World} {g : Nat} {cs : List Value} {t : TypeId} {fr : Nat × Nat} (h : w.heap[g]? = some (.cells cs.toArray t fr)) : ∀ j u, cs[j]? = some u → w.cell? ((⟨g, 0, none⟩ : Addr).add j) = some u := by
  intro j u hu
  rw [Addr.add_mid, Nat.zero_add]
  have := range_row h j u hu
  rwa [Nat.zero_add] at this

/-- What an append and the store of it leave. -/
theorem prove_store {w w1 : World} {B m : Nat} {v v' : Value} {d : List (List UInt8)} {h : List UInt8} (hd : d.length = m) (hw : w.heap[B]? = some (.cells #[v] 32 (0, 0))) (hown : w.ownsRow (B + 2) 26 32 v m (hashCells d))
    (hf : w.heap[B + 1]? = some (.cells #[.func (.func 40) #[] #[.pointer (some ⟨B + 1, 0, none⟩), .pointer (some ⟨B, 0, none⟩)]] 54 (0, 0)))
    (hg : w.grownBy w1 v.ownBlock) (hown' : w1.ownsRow (B + 2) 26 32 v' (m + 1) (hashCells d ++ byteCells h)) :
    (w1.cell? ⟨B, 0, none⟩ = some v ∧ w1.frozen? ⟨B, 0, none⟩ = false) ∧ ProveInv (w1.setCell ⟨B, 0, none⟩ v') B (d ++ [h]) ∧ Below B w (w1.setCell ⟨B, 0, none⟩ v') := by
  have l0 := lt_of_block hw
  have l1 := lt_of_block hf
  have hne : ∀ k, k < B + 2 → v.ownBlock ≠ some k := fun k hk e => by have := (hown.lt k e).1; omega
  have x0 : w1.heap[B]? = some (.cells #[v] 32 (0, 0)) := (hg.block B l0 (fun e => hne B (by omega) e.symm)).trans hw
  have x1 := (hg.block (B + 1) l1 (fun e => hne (B + 1) (by omega) e.symm)).trans hf
  refine ⟨⟨cell_of_one x0, free_of_one x0⟩, ⟨⟨v', one_setCell x0, ?_⟩, ?_⟩, ?_⟩
  · rw [List.length_append, hashCells_app, hashCells_one, hd]
    refine ownsRow_below hown' fun k hk => ?_
    have := (hown'.lt k hk).1
    rw [Below.heap_setCell _ _ _ _ (by simp only; omega)]
  · rw [Below.heap_setCell _ _ _ _ (by simp only; omega)]; exact x1
  · refine ⟨hg.os, hg.tape, hg.output, ?_, fun k hk => ?_⟩
    · have := hg.size; simp; omega
    · rw [Below.heap_setCell _ _ _ _ (by simp only; omega), hg.block k (by omega) (fun e => hne k (by omega) e.symm)]

/-- What the region's operations leave. -/
def pcL (B b off n cap k i : Nat) (ix : Nat) (w : World) (v : Value) : Prop :=
  match ix with
  | 0 => v = .func (.func 40) #[] #[.pointer (some ⟨B + 1, 0, none⟩), .pointer (some ⟨B, 0, none⟩)]
  | 1 => v = .slice (some ⟨b, off, none⟩) n cap
  | 2 => v = .int .i64 (k : Int)
  | 3 => v = .int .i64 (k : Int)
  | 4 => v = .slice (some ⟨b, off, none⟩) k k
  | 5 => v = .int .i64 (i : Int)
  | _ => True

theorem pcL_mono (B b off n cap k i : Nat) (j : Nat) (w w' : World) (v : Value) (hb : Below w.heap.size w w') (h : pcL B b off n cap k i j w v) : pcL B b off n cap k i j w' v := by
  match j, h with
  | 0, h => exact h
  | 1, h => exact h
  | 2, h => exact h
  | 3, h => exact h
  | 4, h => exact h
  | 5, h => exact h
  | _ + 6, h => exact trivial

/-- What the region's operations leave. -/
def pcR (B b off n cap k i : Nat) (ix : Nat) (w : World) (v : Value) : Prop :=
  match ix with
  | 0 => v = .func (.func 40) #[] #[.pointer (some ⟨B + 1, 0, none⟩), .pointer (some ⟨B, 0, none⟩)]
  | 1 => v = .slice (some ⟨b, off, none⟩) n cap
  | 2 => v = .int .i64 (k : Int)
  | 3 => v = .slice (some ⟨b, off + k, none⟩) (n - k) (cap - k)
  | 4 => v = .int .i64 (i : Int)
  | 5 => v = .int .i64 (k : Int)
  | 6 => v = .int .i64 ((i - k : Nat) : Int)
  | _ => True

theorem pcR_mono (B b off n cap k i : Nat) (j : Nat) (w w' : World) (v : Value) (hb : Below w.heap.size w w') (h : pcR B b off n cap k i j w v) : pcR B b off n cap k i j w' v := by
  match j, h with
  | 0, h => exact h
  | 1, h => exact h
  | 2, h => exact h
  | 3, h => exact h
  | 4, h => exact h
  | 5, h => exact h
  | 6, h => exact h
  | _ + 7, h => exact trivial

/-- What the region's operations leave. -/
def poL (vo : Value) (b off n cap k : Nat) (L : List (List UInt8)) (ix : Nat) (w : World) (v : Value) : Prop :=
  match ix with
  | 0 => v = vo
  | 1 => v = .slice (some ⟨b, off, none⟩) n cap
  | 2 => v = .int .i64 (k : Int)
  | 3 => v = .slice (some ⟨b, off + k, none⟩) (n - k) (cap - k)
  | 4 => v = .agg (byteCells (Tree.top (L.drop k))).toArray
  | 5 => ∃ g, v = .slice (some ⟨g, 0, none⟩) 1 1 ∧ w.heap[g]? = some (.cells (byteCells (Tree.top (L.drop k))).toArray 26 (0, 0))
  | _ => True

theorem poL_mono (vo : Value) (b off n cap k : Nat) (L : List (List UInt8)) (j : Nat) (w w' : World) (v : Value) (hb : Below w.heap.size w w') (h : poL vo b off n cap k L j w v) : poL vo b off n cap k L j w' v := by
  match j, h with
  | 0, h => exact h
  | 1, h => exact h
  | 2, h => exact h
  | 3, h => exact h
  | 4, h => exact h
  | 5, h => exact (let ⟨g, h1, h2⟩ := h; ⟨g, h1, (hb.block g (lt_of_block h2)).trans h2⟩)
  | _ + 6, h => exact trivial

/-- What the region's operations leave. -/
def poR (vo : Value) (b off n cap k : Nat) (L : List (List UInt8)) (ix : Nat) (w : World) (v : Value) : Prop :=
  match ix with
  | 0 => v = vo
  | 1 => v = .slice (some ⟨b, off, none⟩) n cap
  | 2 => v = .int .i64 (k : Int)
  | 3 => v = .int .i64 (k : Int)
  | 4 => v = .slice (some ⟨b, off, none⟩) k k
  | 5 => v = .agg (byteCells (Tree.top (L.take k))).toArray
  | 6 => ∃ g, v = .slice (some ⟨g, 0, none⟩) 1 1 ∧ w.heap[g]? = some (.cells (byteCells (Tree.top (L.take k))).toArray 26 (0, 0))
  | _ => True

theorem poR_mono (vo : Value) (b off n cap k : Nat) (L : List (List UInt8)) (j : Nat) (w w' : World) (v : Value) (hb : Below w.heap.size w w') (h : poR vo b off n cap k L j w v) : poR vo b off n cap k L j w' v := by
  match j, h with
  | 0, h => exact h
  | 1, h => exact h
  | 2, h => exact h
  | 3, h => exact h
  | 4, h => exact h
  | 5, h => exact h
  | 6, h => exact (let ⟨g, h1, h2⟩ := h; ⟨g, h1, (hb.block g (lt_of_block h2)).trans h2⟩)
  | _ + 7, h => exact trivial

set_option maxRecDepth 100000 in
set_option maxHeartbeats 1000000 in
theorem proveRec_any (w0 : World) (hL : Laid w0) (N : Nat) : ∀ (w : World) (o : Option Addr) (n cap i : Nat) (L : List (List UInt8)) (d : List (List UInt8)), n = N → StrsAt w0 o n cap L → Below w0.heap.size w0 w → ProveInv w w0.heap.size d → i < n → n ≤ 1000000 → d.length + n ≤ 1000000 → (∀ l ∈ L, l.length ≤ 100000) →
    Calls Tryd.prog 40 #[.slice o n cap, .int .i64 (i : Int), .pointer (some ⟨w0.heap.size + 1, 0, none⟩), .pointer (some ⟨w0.heap.size, 0, none⟩)] w fun e w' => e = .returned (.tuple #[]) ∧ ProveInv w' w0.heap.size (d ++ Tree.prove L i) ∧ Below w0.heap.size w0 w' := by
  induction N using Nat.strongRecOn with
  | ind N ih =>
  intro w o n cap i L d hN hS Bw hI hi hn hdn hl
  subst hN
  have IH := Lib.hid ih; clear ih
  have hlen := hS.len
  have hcap := hS.cap
  have hmax := hS.max
  have HL := Lib.hid hL; clear hL
  have HLE := Lib.hid hl; clear hl
  by_cases h2 : 2 ≤ n
  · obtain ⟨b, off, rfl⟩ := hS.form (by omega)
    have ht1 : ((n : Int) == 1) = false := by rw [beq_eq_false_iff_ne]; omega
    obtain ⟨k, hk⟩ : ∃ k, k = Tree.half n := ⟨_, rfl⟩
    have hk1 : 1 ≤ k := by rw [hk]; exact Tree.half_pos h2
    have hkn : k < n := by rw [hk]; exact Tree.half_lt h2
    have hhalf := treeHalf_nat w n (by omega)
    rw [← hk] at hhalf
    have HH := Lib.hid hhalf; clear hhalf
    have HK := Lib.hid hk; clear hk
    have HT := Lib.hid (hS.take k k (by omega) (Nat.le_refl _) (by omega))
    have HD := Lib.hid (hS.drop k (by omega))
    have HI := Lib.hid hI; clear hI
    have FW := Lib.hid HI.out.2
    clear hS
    obtain ⟨i0, hi0, hz0, hz1, hz2⟩ := info_parts Tryd.info_hs
    have HI0 := Lib.hid hi0; clear hi0
    have HZ0 := Lib.hid hz0; clear hz0
    have HZ1 := Lib.hid hz1; clear hz1
    have HZ2 := Lib.hid hz2; clear hz2
    by_cases hlt : i < k
    · have ht2 : decide ((i : Int) < (k : Int)) = true := decide_eq_true (by omega)
      have ht2' : decide (i < k) = true := decide_eq_true hlt
      have hpl := Tree.prove_left (l := L) (i := i) (by omega) (by rw [hlen, ← HK.out]; exact hlt)
      rw [hlen, ← HK.out] at hpl
      have HPL := Lib.hid hpl; clear hpl
      go_enter Tryd.func40, Tryd.ntmps40
      go_wp2_with fail
      refine HH.out.mono ?_
      rintro e w' ⟨rfl, rfl⟩
      go_wp2_with fail

      refine wp_region_rel_tail [[], [], [], [], [1, 2, 3], [], [0, 4, 5]] (pcL w0.heap.size b off n cap k i) 46 6 (by kernel_rfl) (by kernel_rfl) (by kernel_rfl) (by kernel_rfl) (of_decide_eq_true (by kernel_rfl)) (pcL_mono w0.heap.size b off n cap k i) ?_ ?_
      · intro ix op him hi w2 b2 vs hv
        have hbb := b2
        match ix, him, hi with
        | 0, _, hi =>
          obtain rfl := Option.some.inj hi
          have hcf := cell_of_one ((b2.block _ (lt_of_block FW.out)).trans FW.out)
          simp only [relF, List.getD_cons_zero, List.getD_cons_succ, List.foldl_cons, List.foldl_nil, dstAt, List.getElem?_cons_zero, List.getElem?_cons_succ, Option.bind_some]
          go_wp2_with fail
          exact ⟨rfl, Below.refl _ _, rfl, rfl⟩
        | 1, _, hi =>
          obtain rfl := Option.some.inj hi
          simp only [relF, List.getD_cons_zero, List.getD_cons_succ, List.foldl_cons, List.foldl_nil, dstAt, List.getElem?_cons_zero, List.getElem?_cons_succ, Option.bind_some]
          go_wp2_with fail
          exact ⟨rfl, Below.refl _ _, rfl, rfl⟩
        | 2, _, hi =>
          obtain rfl := Option.some.inj hi
          simp only [relF, List.getD_cons_zero, List.getD_cons_succ, List.foldl_cons, List.foldl_nil, dstAt, List.getElem?_cons_zero, List.getElem?_cons_succ, Option.bind_some]
          go_wp2_with fail
          exact ⟨rfl, Below.refl _ _, rfl, rfl⟩
        | 3, _, hi =>
          obtain rfl := Option.some.inj hi
          simp only [relF, List.getD_cons_zero, List.getD_cons_succ, List.foldl_cons, List.foldl_nil, dstAt, List.getElem?_cons_zero, List.getElem?_cons_succ, Option.bind_some]
          go_wp2_with fail
          exact ⟨rfl, Below.refl _ _, rfl, rfl⟩
        | 4, _, hi =>
          obtain rfl := Option.some.inj hi
          have h1 : vs 1 = _ := hv 1 (by decide)
          have h2 : vs 2 = _ := hv 2 (by decide)
          have h3 : vs 3 = _ := hv 3 (by decide)
          simp only [relF, List.getD_cons_zero, List.getD_cons_succ, List.foldl_cons, List.foldl_nil, dstAt, List.getElem?_cons_zero, List.getElem?_cons_succ, Option.bind_some]
          go_frame
          rw [h1, h2, h3]
          go_wp2_with fail
          exact ⟨rfl, Below.refl _ _, rfl, rfl⟩
        | 5, _, hi =>
          obtain rfl := Option.some.inj hi
          simp only [relF, List.getD_cons_zero, List.getD_cons_succ, List.foldl_cons, List.foldl_nil, dstAt, List.getElem?_cons_zero, List.getElem?_cons_succ, Option.bind_some]
          go_wp2_with fail
          exact ⟨rfl, Below.refl _ _, rfl, rfl⟩
        | nx + 6, him, _ => exact absurd him (by omega)
      · intro w2 b2 vs hv
        have hbb := b2
        have h0 : vs 0 = _ := hv 0 (by decide)
        have h1 : vs 1 = _ := hv 1 (by decide)
        have h2 : vs 2 = _ := hv 2 (by decide)
        have h3 : vs 3 = _ := hv 3 (by decide)
        have h4 : vs 4 = _ := hv 4 (by decide)
        have h5 : vs 5 = _ := hv 5 (by decide)
        simp only [relF, List.drop_succ_cons, List.drop_zero, List.length_cons, List.length_nil, Nat.zero_add, Nat.reduceAdd, List.range, List.range.loop, List.foldl_cons, List.foldl_nil, dstAt, List.getElem?_cons_zero, List.getElem?_cons_succ, Option.bind_some]
        go_frame
        rw [h0, h1, h2, h3, h4, h5]
        go_wp2_with fail
        have hI2 : ProveInv w2 w0.heap.size d := by
          obtain ⟨⟨v, x1, x2⟩, x3⟩ := HI.out
          exact ⟨⟨v, (b2.block _ (lt_of_block x1)).trans x1, owns_below x2 b2⟩, (b2.block _ (lt_of_block x3)).trans x3⟩
        have Bw2 : Below w0.heap.size w0 w2 := Bw.trans (b2.mono Bw.size)
        refine (IH.out k (by omega) w2 _ k k i (L.take k) d rfl HT.out Bw2 hI2 hlt (by omega) (by omega) (fun l hl => HLE.out l (List.mem_of_mem_take hl))).mono ?_
        rintro e wr ⟨rfl, hI3, Br0⟩
        have hpn := Tree.prove_len k (L.take k) i (by rw [List.length_take]; omega)
        obtain ⟨d', hd'⟩ : ∃ d', d' = d ++ Tree.prove (L.take k) i := ⟨_, rfl⟩
        have hdl : d'.length ≤ d.length + k := by rw [hd', List.length_append]; omega
        rw [← hd'] at hI3
        have HD' := Lib.hid hd'; clear hd' hI2 hpn
        obtain ⟨⟨v, x1, x2⟩, x3⟩ := hI3
        obtain ⟨p, c, rfl⟩ := ownsRow_slice x2
        have VW := Lib.hid x1; clear x1
        have OW := Lib.hid x2; clear x2
        have FW3 := Lib.hid x3; clear x3
        have HLr := Lib.hid (HL.out.below Br0)
        go_wp2_with fail
        refine wp_region_rel_tail [[], [], [], [1, 2], [3], [4], [0, 5], [6]] (poL (.slice p d'.length c) b off n cap k L) 46 6 (by kernel_rfl) (by kernel_rfl) (by kernel_rfl) (by kernel_rfl) (of_decide_eq_true (by kernel_rfl)) (poL_mono (.slice p d'.length c) b off n cap k L) ?_ ?_
        · intro ix op him hi w2 b2 vs hv
          have hL2 := HLr.out.below b2
          match ix, him, hi with
          | 0, _, hi =>
            obtain rfl := Option.some.inj hi
            have hcv := cell_of_one ((b2.block _ (lt_of_block VW.out)).trans VW.out)
            simp only [relF, List.getD_cons_zero, List.getD_cons_succ, List.foldl_cons, List.foldl_nil, dstAt, List.getElem?_cons_zero, List.getElem?_cons_succ, Option.bind_some]
            go_wp2_with fail
            exact ⟨rfl, Below.refl _ _, rfl, rfl⟩
          | 1, _, hi =>
            obtain rfl := Option.some.inj hi
            simp only [relF, List.getD_cons_zero, List.getD_cons_succ, List.foldl_cons, List.foldl_nil, dstAt, List.getElem?_cons_zero, List.getElem?_cons_succ, Option.bind_some]
            go_wp2_with fail
            exact ⟨rfl, Below.refl _ _, rfl, rfl⟩
          | 2, _, hi =>
            obtain rfl := Option.some.inj hi
            simp only [relF, List.getD_cons_zero, List.getD_cons_succ, List.foldl_cons, List.foldl_nil, dstAt, List.getElem?_cons_zero, List.getElem?_cons_succ, Option.bind_some]
            go_wp2_with fail
            exact ⟨rfl, Below.refl _ _, rfl, rfl⟩
          | 3, _, hi =>
            obtain rfl := Option.some.inj hi
            have h1 : vs 1 = _ := hv 1 (by decide)
            have h2 : vs 2 = _ := hv 2 (by decide)
            simp only [relF, List.getD_cons_zero, List.getD_cons_succ, List.foldl_cons, List.foldl_nil, dstAt, List.getElem?_cons_zero, List.getElem?_cons_succ, Option.bind_some]
            go_frame
            rw [h1, h2]
            go_wp2_with fail
            exact ⟨rfl, Below.refl _ _, rfl, rfl⟩
          | 4, _, hi =>
            obtain rfl := Option.some.inj hi
            have h3 : vs 3 = _ := hv 3 (by decide)
            have hcd := HD.out.below (Nat.le_refl _) (Br0.trans (b2.mono Br0.size))
            simp only [relF, List.getD_cons_zero, List.getD_cons_succ, List.foldl_cons, List.foldl_nil, dstAt, List.getElem?_cons_zero, List.getElem?_cons_succ, Option.bind_some]
            go_frame
            rw [h3]
            go_wp2_with fail
            refine (treeTop_any (n - k) w2 _ _ _ _ rfl hcd (by omega) (fun l hl => HLE.out l (List.mem_of_mem_drop hl)) hL2).mono ?_
            rintro e w3 ⟨rfl, b3⟩
            go_wp2_with fail
            exact ⟨rfl, b3, rfl, rfl⟩
          | 5, _, hi =>
            obtain rfl := Option.some.inj hi
            have h4 : vs 4 = _ := hv 4 (by decide)
            have hbc : (byteCells (Tree.top (L.drop k))).length = 32 := by rw [byteCells_length, Tree.top_len]
            simp only [relF, List.getD_cons_zero, List.getD_cons_succ, List.foldl_cons, List.foldl_nil, dstAt, List.getElem?_cons_zero, List.getElem?_cons_succ, Option.bind_some]
            go_frame
            rw [h4]
            go_wp2_with fail
            exact ⟨rfl, (Below.refl _ _).alloc (Nat.le_refl _) _, rfl, w2.heap.size, rfl, alloc_built w2 hbc⟩
          | nx + 6, him, _ => exact absurd him (by omega)
        · intro w2 b2 vs hv
          have hL2 := HLr.out.below b2
          have h0 : vs 0 = _ := hv 0 (by decide)
          have h1 : vs 1 = _ := hv 1 (by decide)
          have h2 : vs 2 = _ := hv 2 (by decide)
          have h3 : vs 3 = _ := hv 3 (by decide)
          have h4 : vs 4 = _ := hv 4 (by decide)
          simp only [relF, List.drop_succ_cons, List.drop_zero, List.length_cons, List.length_nil, Nat.zero_add, Nat.reduceAdd, List.range, List.range.loop, List.foldl_cons, List.foldl_nil, dstAt, List.getElem?_cons_zero, List.getElem?_cons_succ, Option.bind_some]
          go_frame
          rw [h0, h1, h2, h3, h4]
          obtain ⟨g, hg1, hg2⟩ := hv 5 (by decide)
          rw [hg1]
          have ho2 := owns_below OW.out b2
          have hv2 := (b2.block _ (lt_of_block VW.out)).trans VW.out
          have hf2 := (b2.block _ (lt_of_block FW3.out)).trans FW3.out
          have HO2 := Lib.hid ho2; clear ho2
          have HG2 := Lib.hid hg2; clear hg2
          have hB2 : w0.heap.size + 2 ≤ w2.heap.size := by have := lt_of_block hf2; omega
          have htl : ((Tree.top (L.drop k))).length = 32 := Tree.top_len _
          go_wp2_with (at_builtin; refine wpList_append_own _ rfl _ _ 32 rfl (w0.heap.size + 2) 26 i0 (.agg zero32) 32 32 Tryd.under_hs HI0.out HZ0.out HZ1.out HZ2.out zero32_size (by decide) _ _ _ rfl HO2.out ⟨g, 0, none⟩ 1 1 (byteCells (Tree.top (L.drop k))) rfl (by rw [byteCells_length, htl]) (cells_row_at HG2.out) (byteCells_one _) (by unfold maxLen; omega) (by omega) hB2 ?_)
          intro v' w5 hown' hgrow _
          obtain ⟨⟨hc5, hf5⟩, hI5, B5⟩ := prove_store (h := (Tree.top (L.drop k))) rfl hv2 HO2.out hf2 hgrow hown'
          obtain ⟨p', c', rfl⟩ := ownsRow_slice hown'
          have HI5 := Lib.hid hI5; clear hI5 hown' hgrow
          go_wp2_with fail
          go_end0
          refine ⟨rfl, ?_, (Br0.trans (b2.mono Br0.size)).trans B5⟩
          have hh : d' ++ [(Tree.top (L.drop k))] = d ++ Tree.prove L i := by rw [HD'.out, List.append_assoc, HPL.out]
          rw [← hh]
          exact HI5.out
    · have ht2 : decide ((i : Int) < (k : Int)) = false := decide_eq_false (by omega)
      have ht2' : decide (i < k) = false := decide_eq_false hlt
      have hpl := Tree.prove_right (l := L) (i := i) (by omega) (by rw [hlen, ← HK.out]; exact hlt)
      rw [hlen, ← HK.out] at hpl
      have HPL := Lib.hid hpl; clear hpl
      go_enter Tryd.func40, Tryd.ntmps40
      go_wp2_with fail
      refine HH.out.mono ?_
      rintro e w' ⟨rfl, rfl⟩
      go_wp2_with fail

      refine wp_region_rel_tail [[], [], [], [1, 2], [], [], [4, 5], [0, 3, 6]] (pcR w0.heap.size b off n cap k i) 46 7 (by kernel_rfl) (by kernel_rfl) (by kernel_rfl) (by kernel_rfl) (of_decide_eq_true (by kernel_rfl)) (pcR_mono w0.heap.size b off n cap k i) ?_ ?_
      · intro ix op him hi w2 b2 vs hv
        have hbb := b2
        match ix, him, hi with
        | 0, _, hi =>
          obtain rfl := Option.some.inj hi
          have hcf := cell_of_one ((b2.block _ (lt_of_block FW.out)).trans FW.out)
          simp only [relF, List.getD_cons_zero, List.getD_cons_succ, List.foldl_cons, List.foldl_nil, dstAt, List.getElem?_cons_zero, List.getElem?_cons_succ, Option.bind_some]
          go_wp2_with fail
          exact ⟨rfl, Below.refl _ _, rfl, rfl⟩
        | 1, _, hi =>
          obtain rfl := Option.some.inj hi
          simp only [relF, List.getD_cons_zero, List.getD_cons_succ, List.foldl_cons, List.foldl_nil, dstAt, List.getElem?_cons_zero, List.getElem?_cons_succ, Option.bind_some]
          go_wp2_with fail
          exact ⟨rfl, Below.refl _ _, rfl, rfl⟩
        | 2, _, hi =>
          obtain rfl := Option.some.inj hi
          simp only [relF, List.getD_cons_zero, List.getD_cons_succ, List.foldl_cons, List.foldl_nil, dstAt, List.getElem?_cons_zero, List.getElem?_cons_succ, Option.bind_some]
          go_wp2_with fail
          exact ⟨rfl, Below.refl _ _, rfl, rfl⟩
        | 3, _, hi =>
          obtain rfl := Option.some.inj hi
          have h1 : vs 1 = _ := hv 1 (by decide)
          have h2 : vs 2 = _ := hv 2 (by decide)
          simp only [relF, List.getD_cons_zero, List.getD_cons_succ, List.foldl_cons, List.foldl_nil, dstAt, List.getElem?_cons_zero, List.getElem?_cons_succ, Option.bind_some]
          go_frame
          rw [h1, h2]
          go_wp2_with fail
          exact ⟨rfl, Below.refl _ _, rfl, rfl⟩
        | 4, _, hi =>
          obtain rfl := Option.some.inj hi
          simp only [relF, List.getD_cons_zero, List.getD_cons_succ, List.foldl_cons, List.foldl_nil, dstAt, List.getElem?_cons_zero, List.getElem?_cons_succ, Option.bind_some]
          go_wp2_with fail
          exact ⟨rfl, Below.refl _ _, rfl, rfl⟩
        | 5, _, hi =>
          obtain rfl := Option.some.inj hi
          simp only [relF, List.getD_cons_zero, List.getD_cons_succ, List.foldl_cons, List.foldl_nil, dstAt, List.getElem?_cons_zero, List.getElem?_cons_succ, Option.bind_some]
          go_wp2_with fail
          exact ⟨rfl, Below.refl _ _, rfl, rfl⟩
        | 6, _, hi =>
          obtain rfl := Option.some.inj hi
          have h4 : vs 4 = _ := hv 4 (by decide)
          have h5 : vs 5 = _ := hv 5 (by decide)
          simp only [relF, List.getD_cons_zero, List.getD_cons_succ, List.foldl_cons, List.foldl_nil, dstAt, List.getElem?_cons_zero, List.getElem?_cons_succ, Option.bind_some]
          go_frame
          rw [h4, h5]
          go_wp2_with fail
          exact ⟨rfl, Below.refl _ _, rfl, by show slotOf _ _ = _; simp [slotOf]; omega⟩
        | nx + 7, him, _ => exact absurd him (by omega)
      · intro w2 b2 vs hv
        have hbb := b2
        have h0 : vs 0 = _ := hv 0 (by decide)
        have h1 : vs 1 = _ := hv 1 (by decide)
        have h2 : vs 2 = _ := hv 2 (by decide)
        have h3 : vs 3 = _ := hv 3 (by decide)
        have h4 : vs 4 = _ := hv 4 (by decide)
        have h5 : vs 5 = _ := hv 5 (by decide)
        have h6 : vs 6 = _ := hv 6 (by decide)
        simp only [relF, List.drop_succ_cons, List.drop_zero, List.length_cons, List.length_nil, Nat.zero_add, Nat.reduceAdd, List.range, List.range.loop, List.foldl_cons, List.foldl_nil, dstAt, List.getElem?_cons_zero, List.getElem?_cons_succ, Option.bind_some]
        go_frame
        rw [h0, h1, h2, h3, h4, h5, h6]
        go_wp2_with fail
        have hI2 : ProveInv w2 w0.heap.size d := by
          obtain ⟨⟨v, x1, x2⟩, x3⟩ := HI.out
          exact ⟨⟨v, (b2.block _ (lt_of_block x1)).trans x1, owns_below x2 b2⟩, (b2.block _ (lt_of_block x3)).trans x3⟩
        have Bw2 : Below w0.heap.size w0 w2 := Bw.trans (b2.mono Bw.size)
        refine (IH.out (n - k) (by omega) w2 _ _ _ (i - k) (L.drop k) d rfl HD.out Bw2 hI2 (by omega) (by omega) (by omega) (fun l hl => HLE.out l (List.mem_of_mem_drop hl))).mono ?_
        rintro e wr ⟨rfl, hI3, Br0⟩
        have hpn := Tree.prove_len (n - k) (L.drop k) (i - k) (by rw [List.length_drop]; omega)
        obtain ⟨d', hd'⟩ : ∃ d', d' = d ++ Tree.prove (L.drop k) (i - k) := ⟨_, rfl⟩
        have hdl : d'.length ≤ d.length + (n - k) := by rw [hd', List.length_append]; omega
        rw [← hd'] at hI3
        have HD' := Lib.hid hd'; clear hd' hI2 hpn
        obtain ⟨⟨v, x1, x2⟩, x3⟩ := hI3
        obtain ⟨p, c, rfl⟩ := ownsRow_slice x2
        have VW := Lib.hid x1; clear x1
        have OW := Lib.hid x2; clear x2
        have FW3 := Lib.hid x3; clear x3
        have HLr := Lib.hid (HL.out.below Br0)
        go_wp2_with fail
        refine wp_region_rel_tail [[], [], [], [], [1, 2, 3], [4], [5], [0, 6], [7]] (poR (.slice p d'.length c) b off n cap k L) 46 7 (by kernel_rfl) (by kernel_rfl) (by kernel_rfl) (by kernel_rfl) (of_decide_eq_true (by kernel_rfl)) (poR_mono (.slice p d'.length c) b off n cap k L) ?_ ?_
        · intro ix op him hi w2 b2 vs hv
          have hL2 := HLr.out.below b2
          match ix, him, hi with
          | 0, _, hi =>
            obtain rfl := Option.some.inj hi
            have hcv := cell_of_one ((b2.block _ (lt_of_block VW.out)).trans VW.out)
            simp only [relF, List.getD_cons_zero, List.getD_cons_succ, List.foldl_cons, List.foldl_nil, dstAt, List.getElem?_cons_zero, List.getElem?_cons_succ, Option.bind_some]
            go_wp2_with fail
            exact ⟨rfl, Below.refl _ _, rfl, rfl⟩
          | 1, _, hi =>
            obtain rfl := Option.some.inj hi
            simp only [relF, List.getD_cons_zero, List.getD_cons_succ, List.foldl_cons, List.foldl_nil, dstAt, List.getElem?_cons_zero, List.getElem?_cons_succ, Option.bind_some]
            go_wp2_with fail
            exact ⟨rfl, Below.refl _ _, rfl, rfl⟩
          | 2, _, hi =>
            obtain rfl := Option.some.inj hi
            simp only [relF, List.getD_cons_zero, List.getD_cons_succ, List.foldl_cons, List.foldl_nil, dstAt, List.getElem?_cons_zero, List.getElem?_cons_succ, Option.bind_some]
            go_wp2_with fail
            exact ⟨rfl, Below.refl _ _, rfl, rfl⟩
          | 3, _, hi =>
            obtain rfl := Option.some.inj hi
            simp only [relF, List.getD_cons_zero, List.getD_cons_succ, List.foldl_cons, List.foldl_nil, dstAt, List.getElem?_cons_zero, List.getElem?_cons_succ, Option.bind_some]
            go_wp2_with fail
            exact ⟨rfl, Below.refl _ _, rfl, rfl⟩
          | 4, _, hi =>
            obtain rfl := Option.some.inj hi
            have h1 : vs 1 = _ := hv 1 (by decide)
            have h2 : vs 2 = _ := hv 2 (by decide)
            have h3 : vs 3 = _ := hv 3 (by decide)
            simp only [relF, List.getD_cons_zero, List.getD_cons_succ, List.foldl_cons, List.foldl_nil, dstAt, List.getElem?_cons_zero, List.getElem?_cons_succ, Option.bind_some]
            go_frame
            rw [h1, h2, h3]
            go_wp2_with fail
            exact ⟨rfl, Below.refl _ _, rfl, rfl⟩
          | 5, _, hi =>
            obtain rfl := Option.some.inj hi
            have h4 : vs 4 = _ := hv 4 (by decide)
            have hct := HT.out.below (Nat.le_refl _) (Br0.trans (b2.mono Br0.size))
            simp only [relF, List.getD_cons_zero, List.getD_cons_succ, List.foldl_cons, List.foldl_nil, dstAt, List.getElem?_cons_zero, List.getElem?_cons_succ, Option.bind_some]
            go_frame
            rw [h4]
            go_wp2_with fail
            refine (treeTop_any k w2 _ k k _ rfl hct (by omega) (fun l hl => HLE.out l (List.mem_of_mem_take hl)) hL2).mono ?_
            rintro e w3 ⟨rfl, b3⟩
            go_wp2_with fail
            exact ⟨rfl, b3, rfl, rfl⟩
          | 6, _, hi =>
            obtain rfl := Option.some.inj hi
            have h5 : vs 5 = _ := hv 5 (by decide)
            have hbc : (byteCells (Tree.top (L.take k))).length = 32 := by rw [byteCells_length, Tree.top_len]
            simp only [relF, List.getD_cons_zero, List.getD_cons_succ, List.foldl_cons, List.foldl_nil, dstAt, List.getElem?_cons_zero, List.getElem?_cons_succ, Option.bind_some]
            go_frame
            rw [h5]
            go_wp2_with fail
            exact ⟨rfl, (Below.refl _ _).alloc (Nat.le_refl _) _, rfl, w2.heap.size, rfl, alloc_built w2 hbc⟩
          | nx + 7, him, _ => exact absurd him (by omega)
        · intro w2 b2 vs hv
          have hL2 := HLr.out.below b2
          have h0 : vs 0 = _ := hv 0 (by decide)
          have h1 : vs 1 = _ := hv 1 (by decide)
          have h2 : vs 2 = _ := hv 2 (by decide)
          have h3 : vs 3 = _ := hv 3 (by decide)
          have h4 : vs 4 = _ := hv 4 (by decide)
          have h5 : vs 5 = _ := hv 5 (by decide)
          simp only [relF, List.drop_succ_cons, List.drop_zero, List.length_cons, List.length_nil, Nat.zero_add, Nat.reduceAdd, List.range, List.range.loop, List.foldl_cons, List.foldl_nil, dstAt, List.getElem?_cons_zero, List.getElem?_cons_succ, Option.bind_some]
          go_frame
          rw [h0, h1, h2, h3, h4, h5]
          obtain ⟨g, hg1, hg2⟩ := hv 6 (by decide)
          rw [hg1]
          have ho2 := owns_below OW.out b2
          have hv2 := (b2.block _ (lt_of_block VW.out)).trans VW.out
          have hf2 := (b2.block _ (lt_of_block FW3.out)).trans FW3.out
          have HO2 := Lib.hid ho2; clear ho2
          have HG2 := Lib.hid hg2; clear hg2
          have hB2 : w0.heap.size + 2 ≤ w2.heap.size := by have := lt_of_block hf2; omega
          have htl : ((Tree.top (L.take k))).length = 32 := Tree.top_len _
          go_wp2_with (at_builtin; refine wpList_append_own _ rfl _ _ 32 rfl (w0.heap.size + 2) 26 i0 (.agg zero32) 32 32 Tryd.under_hs HI0.out HZ0.out HZ1.out HZ2.out zero32_size (by decide) _ _ _ rfl HO2.out ⟨g, 0, none⟩ 1 1 (byteCells (Tree.top (L.take k))) rfl (by rw [byteCells_length, htl]) (cells_row_at HG2.out) (byteCells_one _) (by unfold maxLen; omega) (by omega) hB2 ?_)
          intro v' w5 hown' hgrow _
          obtain ⟨⟨hc5, hf5⟩, hI5, B5⟩ := prove_store (h := (Tree.top (L.take k))) rfl hv2 HO2.out hf2 hgrow hown'
          obtain ⟨p', c', rfl⟩ := ownsRow_slice hown'
          have HI5 := Lib.hid hI5; clear hI5 hown' hgrow
          go_wp2_with fail
          go_end0
          refine ⟨rfl, ?_, (Br0.trans (b2.mono Br0.size)).trans B5⟩
          have hh : d' ++ [(Tree.top (L.take k))] = d ++ Tree.prove L i := by rw [HD'.out, List.append_assoc, HPL.out]
          rw [← hh]
          exact HI5.out
  · obtain rfl : n = 1 := by omega
    have hps := Tree.prove_small (l := L) (by rw [hlen]; omega) i
    have HPS := Lib.hid hps; clear hps
    go_enter Tryd.func40, Tryd.ntmps40
    go_wp2_with fail
    refine bodyPost_ret (results_none rfl _ _ _) rfl ?_
    exact ⟨rfl, by rw [HPS.out, List.append_nil]; exact hI, Bw⟩

set_option maxRecDepth 100000 in
set_option maxHeartbeats 1000000 in
theorem treeProve_any (w : World) (o : Option Addr) (n cap i : Nat) (L : List (List UInt8)) (hS : StrsAt w o n cap L) (hi : i < n) (hn : n ≤ 500000) (hl : ∀ l ∈ L, l.length ≤ 100000) (hL : Laid w) :
    Calls Tryd.prog 24 #[.slice o n cap, .int .i64 (i : Int)] w fun e w' => ∃ q c, e = .returned (.tuple #[.slice q (Tree.prove L i).length c, .int .i64 0]) ∧ w'.ownsRow (w.heap.size + 2) 26 32 (.slice q (Tree.prove L i).length c) (Tree.prove L i).length (hashCells (Tree.prove L i)) ∧ Below w.heap.size w w' := by
  have hmf : ∀ (fn : Fn) (first cap : Array Value) (w : World), (Instr.makeFunc fn first cap).run Tryd.prog w = .ok (.func fn first cap) w := fun _ _ _ _ => rfl
  have hlen := hS.len
  have hcap := hS.cap
  have hmax := hS.max
  have ht1 : decide ((i : Int) < 0) = false := decide_eq_false (by omega)
  have ht2 : decide ((n : Int) ≤ (i : Int)) = false := decide_eq_false (by omega)
  have ht3 : decide (n ≤ i) = false := decide_eq_false (by omega)
  obtain ⟨R, hR⟩ : ∃ R, R = Tree.prove L i := ⟨_, rfl⟩
  rw [← hR]
  have HR := Lib.hid hR; clear hR
  have HREC := Lib.hid fun w1 h1 h2 => proveRec_any w hL n w1 o n cap i L [] rfl hS h1 h2 hi (by omega) (by simp; omega) hl
  clear hS hL hl
  have xf : ((w.alloc (.cells #[.slice none 0 0] 32)).alloc (.cells #[.nilFunc] 54)).heap[w.heap.size + 1]? = some (.cells #[.nilFunc] 54 (0, 0)) := by
    have := heap_alloc_new (w.alloc (.cells #[.slice none 0 0] 32)) (.cells #[.nilFunc] 54)
    simpa using this
  have hcf := cell_of_one xf
  have hff := free_of_one xf
  have hcg := cell_of_one (one_setCell (u := .func (.func 40) #[] #[.pointer (some ⟨w.heap.size + 1, 0, none⟩), .pointer (some ⟨w.heap.size, 0, none⟩)]) xf)
  have XF := Lib.hid xf; clear xf
  go_enter Tryd.func24, Tryd.ntmps24
  go_wp2_with fail
  refine (HREC.out _ ?_ ?_).mono ?_
  · exact ((Below.refl _ _).alloc (Nat.le_refl _) _).alloc (by simp) _
  · refine ⟨⟨.slice none 0 0, ?_, World.ownsRow_nil _ _ _ _⟩, ?_⟩
    · rw [Below.heap_alloc _ _ _ (by simp)]; exact heap_alloc_new w _
    · have := heap_alloc_new (w.alloc (.cells #[.slice none 0 0] 32)) (.cells #[.func (.func 40) #[] #[.pointer (some ⟨w.heap.size + 1, 0, none⟩), .pointer (some ⟨w.heap.size, 0, none⟩)]] 54)
      simpa using this
  rintro e w1 ⟨rfl, hI, B1⟩
  rw [List.nil_append, ← HR.out] at hI
  obtain ⟨⟨v, x1, x2⟩, x3⟩ := hI
  obtain ⟨q, c, rfl⟩ := ownsRow_slice x2
  have hc1 := cell_of_one x1
  have X2 := Lib.hid x2; clear x2
  clear x3 x1
  go_wp2_with fail
  go_ret2
  exact ⟨q, c, rfl, X2.out, B1⟩

set_option maxRecDepth 100000 in
theorem treeProve_bad (w : World) (o : Option Addr) (n cap : Nat) (i : Int) (hi : i < 0 ∨ (n : Int) ≤ i) (hn : n ≤ 9223372036854775807) (h1 : -9223372036854775808 ≤ i) :
    Calls Tryd.prog 24 #[.slice o n cap, .int .i64 i] w fun e w' => w = w' ∧ e = .returned (.tuple #[.slice none 0 0, .int .i64 30]) := by
  rcases hx : decide (i < 0) with _ | _
  · have ht2 : decide ((n : Int) ≤ i) = true := decide_eq_true (by have := of_decide_eq_false hx; omega)
    go_enter Tryd.func24, Tryd.ntmps24
    go_wp2_with fail
    go_ret2
    exact ⟨rfl, rfl⟩
  · go_enter Tryd.func24, Tryd.ntmps24
    go_wp2_with fail
    go_ret2
    exact ⟨rfl, rfl⟩

end Go.Proofs.YtbgahpbnlogdnaaDoor
