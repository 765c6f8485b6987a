/- The walks of the reference's Leaf, Node, top, Top, root, Root. -/
import Derived.Test.YtbgahpbnlogdnaaDoorTreeR1
namespace Go.Proofs.YtbgahpbnlogdnaaDoor
open Go.RowKit
set_option linter.unusedSimpArgs false
set_option linter.unusedVariables false

/-- 'string(h[:])'. -/
theorem hash_str {w : World} {b : Nat} {S : List UInt8} {t : TypeId} {fr : Nat × Nat} (hS : S.length = 32) (h : w.heap[b]? = some (.cells (byteCells S).toArray t fr)) :
    (convert 46 9 (.slice (some ⟨b, 0, none⟩) 32 32)).run Tryd.prog w = .ok (.string (strOf S)) w := by
  have hr := run_convert_bytes_back (P := Tryd.prog) w 46 9 5 ⟨b, 0, none⟩ 32 S Tryd.under_bytes Tryd.under_byte Tryd.under_string (fun j hj => cells_row_at h j _ (by simp [byteCells, hj]))
  rw [hS] at hr
  exact hr

set_option maxRecDepth 100000 in
theorem refLeaf_any (w : World) (l : List UInt8) (hl : l.length ≤ 100000) : Calls Tryd.prog 19 #[.string (strOf l)] w fun e w' => e = .returned (.agg (byteCells (Tree.leaf l)).toArray) ∧ Below w.heap.size w w' := by
  obtain ⟨W0, hW0⟩ : ∃ W0, W0 = w.alloc (.cells zero32 26) := ⟨_, rfl⟩
  have x0 : W0.heap[w.heap.size]? = some (.cells zero32 26 (0, 0)) := by rw [hW0]; exact heap_alloc_new w _
  have b0 : Below w.heap.size w W0 := by rw [hW0]; exact (Below.refl _ _).alloc (Nat.le_refl _) _
  have hc := refLeafOf_any W0 l hl
  have HC := Lib.hid hc; clear hc
  have hsl := Tree.leaf_len l
  have HSL := Lib.hid hsl; clear hsl
  have HW0 := Lib.hid hW0; clear hW0
  go_enter Tryd.func19, Tryd.ntmps19
  go_wp2_with fail
  change Calls _ _ _ (w.alloc (.cells zero32 26)) _
  rw [← HW0.out]
  refine HC.out.mono ?_
  rintro e w1 ⟨rfl, b1⟩
  have x1 := (b1.block _ (lt_of_block x0)).trans x0
  have B1 := b0.trans (b1.mono b0.size)
  have hs := refSum_any w1 _ HSL.out
  have HS := Lib.hid hs; clear hs
  go_wp2_with fail
  refine HS.out.mono ?_
  rintro e w2 ⟨rfl, b2⟩
  have x2 := (b2.block _ (lt_of_block x1)).trans x1
  have B2 := B1.trans (b2.mono B1.size)
  go_wp2_with ((with_reducible show wpList _ _ _ (⟨none, .store 26 (.tmp 2) (.tmp 5), _, _, _, _⟩ :: _) _ _); refine wpList_put_hash (o := ⟨none, .store _ _ _, _, _, _, _⟩) rfl _ _ rfl w.heap.size rfl (Tree.leaf l) HSL.out rfl _ _ x2 zero32_size ?_)
  refine bodyPost_ret (results_hash rfl _ _ _ _ _ _ rfl HSL.out (hset_heap _ x2)) rfl ⟨rfl, hset_below _ B2 (Nat.le_refl _)⟩

/-- What the region's operations leave. -/
def refNodeV (B : Nat) (a b : List UInt8) (ix : Nat) (w : World) (v : Value) : Prop :=
  match ix with
  | 0 => v = .slice (some ⟨B, 0, none⟩) 32 32
  | 1 => v = .string (strOf a)
  | 2 => v = .slice (some ⟨B + 1, 0, none⟩) 32 32
  | 3 => v = .string (strOf b)
  | 4 => v = .string (strOf (Tree.node a b))
  | 5 => v = .agg (byteCells (Tree.node a b)).toArray
  | _ => True

theorem refNodeV_mono (B : Nat) (a b : List UInt8) (j : Nat) (w w' : World) (v : Value) (hb : Below w.heap.size w w') (h : refNodeV B a b j w v) : refNodeV B a b j w' v := by
  match j, h with
  | 0, h => exact h
  | 1, h => exact h
  | 2, h => exact h
  | 3, h => exact h
  | 4, h => exact h
  | 5, h => exact h
  | _ + 6, h => exact trivial

set_option maxRecDepth 100000 in
set_option maxHeartbeats 2000000 in
theorem refNode_any (w : World) (a b : List UInt8) (ha : a.length = 32) (hb : b.length = 32) :
    Calls Tryd.prog 21 #[.agg (byteCells a).toArray, .agg (byteCells b).toArray] w fun e w' => e = .returned (.agg (byteCells (Tree.node a b)).toArray) ∧ Below w.heap.size w w' := by
  obtain ⟨W0, hW0⟩ : ∃ W0, W0 = ((w.alloc (.cells (byteCells a).toArray 26)).alloc (.cells (byteCells b).toArray 26)).alloc (.cells zero32 26) := ⟨_, rfl⟩
  have x0 : W0.heap[w.heap.size]? = some (.cells (byteCells a).toArray 26 (0, 0)) := by
    rw [hW0, Below.heap_alloc _ _ _ (by simp; omega), Below.heap_alloc _ _ _ (by simp)]; exact heap_alloc_new w _
  have x1 : W0.heap[w.heap.size + 1]? = some (.cells (byteCells b).toArray 26 (0, 0)) := by
    rw [hW0, Below.heap_alloc _ _ _ (by simp)]; have := heap_alloc_new (w.alloc (.cells (byteCells a).toArray 26)) (.cells (byteCells b).toArray 26); simpa using this
  have x2 : W0.heap[w.heap.size + 2]? = some (.cells zero32 26 (0, 0)) := by
    rw [hW0]; have := heap_alloc_new ((w.alloc (.cells (byteCells a).toArray 26)).alloc (.cells (byteCells b).toArray 26)) (.cells zero32 26); simpa using this
  have b0 : Below w.heap.size w W0 := by rw [hW0]; exact (((Below.refl _ _).alloc (Nat.le_refl _) _).alloc (by simp) _).alloc (by simp; omega) _
  have X0 := Lib.hid x0; clear x0
  have X1 := Lib.hid x1; clear x1
  have X2 := Lib.hid x2; clear x2
  have HA := Lib.hid ha; clear ha
  have HB := Lib.hid hb; clear hb
  have HW0 := Lib.hid hW0; clear hW0
  have hsl := Tree.node_len a b
  have HSL := Lib.hid hsl; clear hsl
  go_enter Tryd.func21, Tryd.ntmps21
  go_wp2_with fail
  change Code.wp _ _ _ _ (((w.alloc (.cells (byteCells a).toArray 26)).alloc (.cells (byteCells b).toArray 26)).alloc (.cells zero32 26))
  rw [← HW0.out]
  refine wp_region_rel_last [[], [0], [], [2], [1, 3], [4], [5]] (refNodeV w.heap.size a b) 11 6 _ (by kernel_rfl) (by kernel_rfl) (by kernel_rfl) (by kernel_rfl) rfl rfl (refNodeV_mono w.heap.size a b) ?_ ?_
  · intro ix op him hi w2 b2 vs hv
    have hb0 := b2
    match ix, him, hi with
    | 0, _, hi =>
      obtain rfl := Option.some.inj hi
      simp only [relF, List.getD_cons_zero, List.getD_cons_succ, List.foldl_cons, List.foldl_nil, dstAt, List.getElem?_cons_zero, List.getElem?_cons_succ, Option.bind_some]
      go_wp2_with fail
      exact ⟨rfl, Below.refl _ _, rfl, rfl⟩
    | 1, _, hi =>
      obtain rfl := Option.some.inj hi
      have h0 : vs 0 = _ := hv 0 (by decide)
      have hcv := hash_str HA.out ((b2.block _ (lt_of_block X0.out)).trans X0.out)
      simp only [relF, List.getD_cons_zero, List.getD_cons_succ, List.foldl_cons, List.foldl_nil, dstAt, List.getElem?_cons_zero, List.getElem?_cons_succ, Option.bind_some]
      go_frame
      rw [h0]
      go_wp2_with fail
      exact ⟨rfl, Below.refl _ _, rfl, rfl⟩
    | 2, _, hi =>
      obtain rfl := Option.some.inj hi
      simp only [relF, List.getD_cons_zero, List.getD_cons_succ, List.foldl_cons, List.foldl_nil, dstAt, List.getElem?_cons_zero, List.getElem?_cons_succ, Option.bind_some]
      go_wp2_with fail
      exact ⟨rfl, Below.refl _ _, rfl, rfl⟩
    | 3, _, hi =>
      obtain rfl := Option.some.inj hi
      have h2 : vs 2 = _ := hv 2 (by decide)
      have hcv := hash_str HB.out ((b2.block _ (lt_of_block X1.out)).trans X1.out)
      simp only [relF, List.getD_cons_zero, List.getD_cons_succ, List.foldl_cons, List.foldl_nil, dstAt, List.getElem?_cons_zero, List.getElem?_cons_succ, Option.bind_some]
      go_frame
      rw [h2]
      go_wp2_with fail
      exact ⟨rfl, Below.refl _ _, rfl, rfl⟩
    | 4, _, hi =>
      obtain rfl := Option.some.inj hi
      have h1 : vs 1 = _ := hv 1 (by decide)
      have h3 : vs 3 = _ := hv 3 (by decide)
      have hn := refNodeOf_any w2 a b (by have := HA.out; omega) (by have := HB.out; omega)
      simp only [relF, List.getD_cons_zero, List.getD_cons_succ, List.foldl_cons, List.foldl_nil, dstAt, List.getElem?_cons_zero, List.getElem?_cons_succ, Option.bind_some]
      go_frame
      rw [h1, h3]
      go_wp2_with fail
      refine (hn).mono ?_
      rintro e w3 ⟨rfl, b3⟩
      go_wp2_with fail
      exact ⟨rfl, b3, rfl, rfl⟩
    | 5, _, hi =>
      obtain rfl := Option.some.inj hi
      have h4 : vs 4 = _ := hv 4 (by decide)
      have hn := refSum_any w2 _ (Tree.node_len a b)
      simp only [relF, List.getD_cons_zero, List.getD_cons_succ, List.foldl_cons, List.foldl_nil, dstAt, List.getElem?_cons_zero, List.getElem?_cons_succ, Option.bind_some]
      go_frame
      rw [h4]
      go_wp2_with fail
      refine (hn).mono ?_
      rintro e w3 ⟨rfl, b3⟩
      go_wp2_with fail
      exact ⟨rfl, b3, rfl, rfl⟩
    | nx + 6, him, _ => exact absurd him (by omega)
  · intro w2 b2 vs hv
    have hb0 := b2
    have h5 : vs 5 = _ := hv 5 (by decide)
    rw [show List.range 6 = [0, 1, 2, 3, 4, 5] from rfl]
    simp only [relF, List.getD_cons_zero, List.getD_cons_succ, List.foldl_cons, List.foldl_nil, dstAt, List.getElem?_cons_zero, List.getElem?_cons_succ, Option.bind_some]
    go_frame
    rw [h5]
    have X4 := (b2.block _ (lt_of_block X2.out)).trans X2.out
    have B4 := b0.trans (b2.mono b0.size)
    go_wp2_with ((with_reducible show wpList _ _ _ (⟨none, .store 26 (.tmp 4) (.tmp 10), _, _, _, _⟩ :: _) _ _); refine wpList_put_hash (o := ⟨none, .store _ _ _, _, _, _, _⟩) rfl _ _ rfl (w.heap.size + 2) rfl (Tree.node a b) HSL.out rfl _ _ X4 zero32_size ?_)
    refine bodyPost_ret (results_hash rfl _ _ _ _ _ _ rfl HSL.out (hset_heap _ X4)) rfl ⟨rfl, hset_below _ B4 (by omega)⟩
/-- What the region's operations leave. -/
def refTopV (b off n cap k : Nat) (L : List (List UInt8)) (ix : Nat) (w : World) (v : Value) : Prop :=
  match ix with
  | 0 => v = .slice (some ⟨b, off, none⟩) n cap
  | 1 => v = .int .i64 (k : Int)
  | 2 => v = .slice (some ⟨b, off, none⟩) k cap
  | 3 => v = .string (strOf (Tree.top (L.take k)))
  | 4 => v = .slice (some ⟨b, off, none⟩) n cap
  | 5 => v = .int .i64 (k : Int)
  | 6 => v = .slice (some ⟨b, off + k, none⟩) (n - k) (cap - k)
  | 7 => v = .string (strOf (Tree.top (L.drop k)))
  | 8 => v = .string (strOf (Tree.top L))
  | 9 => v = .string (strOf (Tree.top L))
  | _ => True

theorem refTopV_mono (b off n cap k : Nat) (L : List (List UInt8)) (j : Nat) (w w' : World) (v : Value) (hb : Below w.heap.size w w') (h : refTopV b off n cap k L j w v) : refTopV b off n cap k L j w' v := by
  match j, h with
  | 0, h => exact h
  | 1, h => exact h
  | 2, h => exact h
  | 3, h => exact h
  | 4, h => exact h
  | 5, h => exact h
  | 6, h => exact h
  | 7, h => exact h
  | 8, h => exact h
  | 9, h => exact h
  | _ + 10, h => exact trivial

set_option maxRecDepth 100000 in
set_option maxHeartbeats 2000000 in
theorem refTopOf_any (N : Nat) : ∀ (w : World) (o : Option Addr) (n cap : Nat) (L : List (List UInt8)), n = N → StrsAt w o n cap L → n ≤ 1000000 → (∀ l ∈ L, l.length ≤ 100000) →
    Calls Tryd.prog 34 #[.slice o n cap] w fun e w' => e = .returned (.string (strOf (Tree.top L))) ∧ Below w.heap.size w w' := by
  induction N using Nat.strongRecOn with
  | ind N ih =>
  intro w o n cap L hN hS hn hl
  subst hN
  have IH := Lib.hid ih; clear ih
  have hlen := hS.len
  have hcap := hS.cap
  have hmax := hS.max
  have S0 := Lib.hid hS; clear hS
  have HLE := Lib.hid hl; clear hl
  rcases (show n = 0 ∨ n = 1 ∨ 2 ≤ n by omega) with rfl | rfl | h2
  · obtain rfl := List.eq_nil_of_length_eq_zero hlen
    have hc := refOf_any w [2] (by simp)
    have hc' : Calls Tryd.prog 45 #[.string ⟨#[2]⟩] w fun e w' => e = .returned (.string (strOf (Sha.of [2]))) ∧ Below w.heap.size w w' := hc
    rw [← Tree.top_nil] at hc'
    have HC := Lib.hid hc'; clear hc' hc
    go_enter Tryd.func34, Tryd.ntmps34
    go_wp2_with fail
    refine HC.out.mono ?_
    rintro e w1 ⟨rfl, b1⟩
    go_wp2_with fail
    go_ret
    exact ⟨rfl, b1⟩
  · obtain ⟨l, rfl⟩ : ∃ l, L = [l] := List.length_eq_one_iff.1 hlen
    obtain ⟨b, off, rfl⟩ := S0.out.form (by omega)
    have hcell : w.cell? ⟨b, off, none⟩ = some (.string (strOf l)) := by simpa using S0.out.get (i := 0) rfl
    have hc := refLeafOf_any w l (HLE.out l (by simp))
    rw [← Tree.top_one] at hc
    have HC := Lib.hid hc; clear hc
    go_enter Tryd.func34, Tryd.ntmps34
    go_wp2_with fail
    refine HC.out.mono ?_
    rintro e w1 ⟨rfl, b1⟩
    go_wp2_with fail
    go_ret
    exact ⟨rfl, b1⟩
  · obtain ⟨b, off, rfl⟩ := S0.out.form (by omega)
    have ht0 : ((n : Int) == 0) = false := by rw [beq_eq_false_iff_ne]; omega
    have ht1 : ((n : Int) == 1) = false := by rw [beq_eq_false_iff_ne]; omega
    obtain ⟨k, hk⟩ : ∃ k, k = Tree.half n := ⟨_, rfl⟩
    have hk1 : 1 ≤ k := by rw [hk]; exact Tree.half_pos (by omega)
    have hkn : k < n := by rw [hk]; exact Tree.half_lt (by omega)
    have hhalf := refHalfOf_any w n h2 (by omega)
    rw [← hk] at hhalf
    have htop : Tree.top L = Tree.node (Tree.top (L.take k)) (Tree.top (L.drop k)) := by rw [Tree.top_two (by omega), hlen, ← hk]
    have HH := Lib.hid hhalf; clear hhalf hk
    have HTOP := Lib.hid htop; clear htop
    have HT := Lib.hid (S0.out.take k cap (by omega) (by omega) (by omega))
    have HD := Lib.hid (S0.out.drop k (by omega))
    have HIH1 : Hid (∀ w', StrsAt w' (some ⟨b, off, none⟩) k cap (L.take k) → _) := Lib.hid fun w' h1 => IH.out k (by omega) w' _ k cap _ rfl h1 (by omega) (fun l hl => HLE.out l (List.mem_of_mem_take hl))
    have HIH2 : Hid (∀ w', StrsAt w' (some ⟨b, off + k, none⟩) (n - k) (cap - k) (L.drop k) → _) := Lib.hid fun w' h1 => IH.out (n - k) (by omega) w' _ _ _ _ rfl h1 (by omega) (fun l hl => HLE.out l (List.mem_of_mem_drop hl))
    go_enter Tryd.func34, Tryd.ntmps34
    go_wp2_with fail
    refine HH.out.mono ?_
    rintro e w' ⟨rfl, rfl⟩
    go_wp2_with fail

    refine wp_region_rel [[], [], [0, 1], [2], [], [], [4, 5], [6], [3, 7], [8]] (refTopV b off n cap k L) 27 (by kernel_rfl) (by kernel_rfl) (by kernel_rfl) (refTopV_mono b off n cap k L) ?_ ?_
    · intro ix op hi w2 b2 vs hv
      have him : ix < 10 := (List.getElem?_eq_some_iff.1 hi).1
      have hb0 := b2
      match ix, him, hi with
      | 0, _, hi =>
        obtain rfl := Option.some.inj hi
        simp only [relF, List.getD_cons_zero, List.getD_cons_succ, List.foldl_cons, List.foldl_nil, dstAt, List.getElem?_cons_zero, List.getElem?_cons_succ, Option.bind_some]
        go_wp2_with fail
        exact ⟨rfl, Below.refl _ _, rfl, rfl⟩
      | 1, _, hi =>
        obtain rfl := Option.some.inj hi
        simp only [relF, List.getD_cons_zero, List.getD_cons_succ, List.foldl_cons, List.foldl_nil, dstAt, List.getElem?_cons_zero, List.getElem?_cons_succ, Option.bind_some]
        go_wp2_with fail
        exact ⟨rfl, Below.refl _ _, rfl, rfl⟩
      | 2, _, hi =>
        obtain rfl := Option.some.inj hi
        have h0 : vs 0 = _ := hv 0 (by decide)
        have h1 : vs 1 = _ := hv 1 (by decide)
        simp only [relF, List.getD_cons_zero, List.getD_cons_succ, List.foldl_cons, List.foldl_nil, dstAt, List.getElem?_cons_zero, List.getElem?_cons_succ, Option.bind_some]
        go_frame
        rw [h0, h1]
        go_wp2_with fail
        exact ⟨rfl, Below.refl _ _, rfl, rfl⟩
      | 3, _, hi =>
        obtain rfl := Option.some.inj hi
        have h2 : vs 2 = _ := hv 2 (by decide)
        have hct := HT.out.below (Nat.le_refl _) b2
        simp only [relF, List.getD_cons_zero, List.getD_cons_succ, List.foldl_cons, List.foldl_nil, dstAt, List.getElem?_cons_zero, List.getElem?_cons_succ, Option.bind_some]
        go_frame
        rw [h2]
        go_wp2_with fail
        refine (HIH1.out w2 hct).mono ?_
        rintro e w3 ⟨rfl, b3⟩
        go_wp2_with fail
        exact ⟨rfl, b3, rfl, rfl⟩
      | 4, _, hi =>
        obtain rfl := Option.some.inj hi
        simp only [relF, List.getD_cons_zero, List.getD_cons_succ, List.foldl_cons, List.foldl_nil, dstAt, List.getElem?_cons_zero, List.getElem?_cons_succ, Option.bind_some]
        go_wp2_with fail
        exact ⟨rfl, Below.refl _ _, rfl, rfl⟩
      | 5, _, hi =>
        obtain rfl := Option.some.inj hi
        simp only [relF, List.getD_cons_zero, List.getD_cons_succ, List.foldl_cons, List.foldl_nil, dstAt, List.getElem?_cons_zero, List.getElem?_cons_succ, Option.bind_some]
        go_wp2_with fail
        exact ⟨rfl, Below.refl _ _, rfl, rfl⟩
      | 6, _, hi =>
        obtain rfl := Option.some.inj hi
        have h4 : vs 4 = _ := hv 4 (by decide)
        have h5 : vs 5 = _ := hv 5 (by decide)
        simp only [relF, List.getD_cons_zero, List.getD_cons_succ, List.foldl_cons, List.foldl_nil, dstAt, List.getElem?_cons_zero, List.getElem?_cons_succ, Option.bind_some]
        go_frame
        rw [h4, h5]
        go_wp2_with fail
        exact ⟨rfl, Below.refl _ _, rfl, rfl⟩
      | 7, _, hi =>
        obtain rfl := Option.some.inj hi
        have h6 : vs 6 = _ := hv 6 (by decide)
        have hcd := HD.out.below (Nat.le_refl _) b2
        simp only [relF, List.getD_cons_zero, List.getD_cons_succ, List.foldl_cons, List.foldl_nil, dstAt, List.getElem?_cons_zero, List.getElem?_cons_succ, Option.bind_some]
        go_frame
        rw [h6]
        go_wp2_with fail
        refine (HIH2.out w2 hcd).mono ?_
        rintro e w3 ⟨rfl, b3⟩
        go_wp2_with fail
        exact ⟨rfl, b3, rfl, rfl⟩
      | 8, _, hi =>
        obtain rfl := Option.some.inj hi
        have h3 : vs 3 = _ := hv 3 (by decide)
        have h7 : vs 7 = _ := hv 7 (by decide)
        have htn := refNodeOf_any w2 (Tree.top (L.take k)) (Tree.top (L.drop k)) (by rw [Tree.top_len]; omega) (by rw [Tree.top_len]; omega)
        rw [← HTOP.out] at htn
        simp only [relF, List.getD_cons_zero, List.getD_cons_succ, List.foldl_cons, List.foldl_nil, dstAt, List.getElem?_cons_zero, List.getElem?_cons_succ, Option.bind_some]
        go_frame
        rw [h3, h7]
        go_wp2_with fail
        refine (htn).mono ?_
        rintro e w3 ⟨rfl, b3⟩
        go_wp2_with fail
        exact ⟨rfl, b3, rfl, rfl⟩
      | 9, _, hi =>
        obtain rfl := Option.some.inj hi
        have h8 : vs 8 = _ := hv 8 (by decide)
        simp only [relF, List.getD_cons_zero, List.getD_cons_succ, List.foldl_cons, List.foldl_nil, dstAt, List.getElem?_cons_zero, List.getElem?_cons_succ, Option.bind_some]
        go_frame
        rw [h8]
        go_wp2_with fail
        exact ⟨rfl, Below.refl _ _, rfl, rfl⟩
      | nx + 10, him, _ => exact absurd him (by omega)
    · intro w2 b2 vs hv
      have hb0 := b2
      have h9 : vs 9 = _ := hv 9 (by decide)
      simp only [relF, List.length_cons, List.length_nil, Nat.zero_add, Nat.reduceAdd, List.range, List.range.loop, List.foldl_cons, List.foldl_nil, dstAt, List.getElem?_cons_zero, List.getElem?_cons_succ, Option.bind_some]
      go_frame
      rw [h9]
      go_wp2_with fail
      go_ret
      exact ⟨rfl, b2⟩

set_option maxRecDepth 100000 in
theorem refTop_any (w : World) (o : Option Addr) (n cap : Nat) (L : List (List UInt8)) (hS : StrsAt w o n cap L) (hn : n ≤ 1000000) (hl : ∀ l ∈ L, l.length ≤ 100000) :
    Calls Tryd.prog 15 #[.slice o n cap] w fun e w' => e = .returned (.agg (byteCells (Tree.top L)).toArray) ∧ Below w.heap.size w w' := by
  obtain ⟨W0, hW0⟩ : ∃ W0, W0 = w.alloc (.cells zero32 26) := ⟨_, rfl⟩
  have x0 : W0.heap[w.heap.size]? = some (.cells zero32 26 (0, 0)) := by rw [hW0]; exact heap_alloc_new w _
  have b0 : Below w.heap.size w W0 := by rw [hW0]; exact (Below.refl _ _).alloc (Nat.le_refl _) _
  have hc := refTopOf_any n W0 o n cap L rfl (hS.below (Nat.le_refl _) b0) hn hl
  have HC := Lib.hid hc; clear hc
  have hsl := Tree.top_len L
  have HSL := Lib.hid hsl; clear hsl
  have HW0 := Lib.hid hW0; clear hW0 hS
  go_enter Tryd.func15, Tryd.ntmps15
  go_wp2_with fail
  change Calls _ _ _ (w.alloc (.cells zero32 26)) _
  rw [← HW0.out]
  refine HC.out.mono ?_
  rintro e w1 ⟨rfl, b1⟩
  have x1 := (b1.block _ (lt_of_block x0)).trans x0
  have B1 := b0.trans (b1.mono b0.size)
  have hs := refSum_any w1 _ HSL.out
  have HS := Lib.hid hs; clear hs
  go_wp2_with fail
  refine HS.out.mono ?_
  rintro e w2 ⟨rfl, b2⟩
  have x2 := (b2.block _ (lt_of_block x1)).trans x1
  have B2 := B1.trans (b2.mono B1.size)
  go_wp2_with ((with_reducible show wpList _ _ _ (⟨none, .store 26 (.tmp 2) (.tmp 5), _, _, _, _⟩ :: _) _ _); refine wpList_put_hash (o := ⟨none, .store _ _ _, _, _, _, _⟩) rfl _ _ rfl w.heap.size rfl (Tree.top L) HSL.out rfl _ _ x2 zero32_size ?_)
  refine bodyPost_ret (results_hash rfl _ _ _ _ _ _ rfl HSL.out (hset_heap _ x2)) rfl ⟨rfl, hset_below _ B2 (Nat.le_refl _)⟩

set_option maxRecDepth 100000 in
theorem refRootOf_any (w : World) (n : Nat) (hn : n ≤ 9223372036854775807) (t : List UInt8) (ht : t.length = 32) :
    Calls Tryd.prog 36 #[.int .i64 (n : Int), .string (strOf t)] w fun e w' => e = .returned (.agg (byteCells (Tree.root n t)).toArray) ∧ Below w.heap.size w w' := by
  obtain ⟨W0, hW0⟩ : ∃ W0, W0 = w.alloc (.cells zero32 26) := ⟨_, rfl⟩
  have x0 : W0.heap[w.heap.size]? = some (.cells zero32 26 (0, 0)) := by rw [hW0]; exact heap_alloc_new w _
  have b0 : Below w.heap.size w W0 := by rw [hW0]; exact (Below.refl _ _).alloc (Nat.le_refl _) _
  have hu : IntKind.u64.wrap (n : Int) = (n : Int) := by rw [IntKind.wrap_u64]; omega
  have hnl := Wire.num_length n (by omega)
  have hadd : (⟨#[3]⟩ : ByteArray) ++ strOf (Wire.num n) = strOf (3 :: Wire.num n) := add_str [3] _
  have hadd2 : strOf (3 :: Wire.num n) ++ strOf t = strOf (3 :: (Wire.num n ++ t)) := add_str (3 :: Wire.num n) t
  have hst := strOf_size (Wire.num n)
  have hst1 : (strOf (3 :: Wire.num n)).size = (Wire.num n).length + 1 := strOf_size _
  have hstb := strOf_size t
  have hs0 : (⟨#[3]⟩ : ByteArray).size = 1 := rfl
  have hc := refNum_any n (by omega) W0
  have HC := Lib.hid hc; clear hc
  have hsl := Tree.root_len n t
  have HSL := Lib.hid hsl; clear hsl
  have HW0 := Lib.hid hW0; clear hW0
  go_enter Tryd.func36, Tryd.ntmps36
  go_wp2_with fail
  change Calls _ _ _ (w.alloc (.cells zero32 26)) _
  rw [← HW0.out]
  refine HC.out.mono ?_
  rintro e w1 ⟨rfl, b1⟩
  have x1 := (b1.block _ (lt_of_block x0)).trans x0
  have B1 := b0.trans (b1.mono b0.size)
  have hc := refOf_any w1 (3 :: (Wire.num n ++ t)) (by simp; omega)
  rw [show Sha.of (3 :: (Wire.num n ++ t)) = Tree.root n t from rfl] at hc
  have HC2 := Lib.hid hc; clear hc
  go_wp2_with fail
  refine HC2.out.mono ?_
  rintro e w2 ⟨rfl, b2⟩
  have x2 := (b2.block _ (lt_of_block x1)).trans x1
  have B2 := B1.trans (b2.mono B1.size)
  have hs := refSum_any w2 _ HSL.out
  have HS := Lib.hid hs; clear hs
  go_wp2_with fail
  refine HS.out.mono ?_
  rintro e w3 ⟨rfl, b3⟩
  have x3 := (b3.block _ (lt_of_block x2)).trans x2
  have B3 := B2.trans (b3.mono B2.size)
  go_wp2_with ((with_reducible show wpList _ _ _ (⟨none, .store 26 (.tmp 4) (.tmp 12), _, _, _, _⟩ :: _) _ _); refine wpList_put_hash (o := ⟨none, .store _ _ _, _, _, _, _⟩) rfl _ _ rfl w.heap.size rfl (Tree.root n t) HSL.out rfl _ _ x3 zero32_size ?_)
  refine bodyPost_ret (results_hash rfl _ _ _ _ _ _ rfl HSL.out (hset_heap _ x3)) rfl ⟨rfl, hset_below _ B3 (Nat.le_refl _)⟩

set_option maxRecDepth 100000 in
theorem refRoot_any (w : World) (o : Option Addr) (n cap : Nat) (L : List (List UInt8)) (hS : StrsAt w o n cap L) (hn : n ≤ 1000000) (hl : ∀ l ∈ L, l.length ≤ 100000) :
    Calls Tryd.prog 17 #[.slice o n cap] w fun e w' => e = .returned (.agg (byteCells (Tree.root n (Tree.top L))).toArray) ∧ Below w.heap.size w w' := by
  obtain ⟨W0, hW0⟩ : ∃ W0, W0 = w.alloc (.cells zero32 26) := ⟨_, rfl⟩
  have x0 : W0.heap[w.heap.size]? = some (.cells zero32 26 (0, 0)) := by rw [hW0]; exact heap_alloc_new w _
  have b0 : Below w.heap.size w W0 := by rw [hW0]; exact (Below.refl _ _).alloc (Nat.le_refl _) _
  have hc := refTopOf_any n W0 o n cap L rfl (hS.below (Nat.le_refl _) b0) hn hl
  have HC := Lib.hid hc; clear hc
  have hcap := hS.cap
  have hmax := hS.max
  have hsl := Tree.root_len n (Tree.top L)
  have HSL := Lib.hid hsl; clear hsl
  have HW0 := Lib.hid hW0; clear hW0 hS
  go_enter Tryd.func17, Tryd.ntmps17
  go_wp2_with fail
  change Calls _ _ _ (w.alloc (.cells zero32 26)) _
  rw [← HW0.out]
  refine HC.out.mono ?_
  rintro e w1 ⟨rfl, b1⟩
  have x1 := (b1.block _ (lt_of_block x0)).trans x0
  have B1 := b0.trans (b1.mono b0.size)
  have hs := refRootOf_any w1 n (by omega) _ (Tree.top_len L)
  have HS := Lib.hid hs; clear hs
  go_wp2_with fail
  refine HS.out.mono ?_
  rintro e w2 ⟨rfl, b2⟩
  have x2 := (b2.block _ (lt_of_block x1)).trans x1
  have B2 := B1.trans (b2.mono B1.size)
  go_wp2_with ((with_reducible show wpList _ _ _ (⟨none, .store 26 (.tmp 2) (.tmp 7), _, _, _, _⟩ :: _) _ _); refine wpList_put_hash (o := ⟨none, .store _ _ _, _, _, _, _⟩) rfl _ _ rfl w.heap.size rfl (Tree.root n (Tree.top L)) HSL.out rfl _ _ x2 zero32_size ?_)
  refine bodyPost_ret (results_hash rfl _ _ _ _ _ _ rfl HSL.out (hset_heap _ x2)) rfl ⟨rfl, hset_below _ B2 (Nat.le_refl _)⟩

end Go.Proofs.YtbgahpbnlogdnaaDoor
