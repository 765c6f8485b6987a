/- The walks of tree.Top, root, Root. -/
import Derived.Test.YtbgahpbnlogdnaaDoorTree1
import Derived.Test.YtbgahpbnlogdnaaDoorNumT
import Derived.Test.YtbgahpbnlogdnaaDoorOpenC
namespace Go.Proofs.YtbgahpbnlogdnaaDoor
open Go.RowKit
set_option linter.unusedSimpArgs false
set_option linter.unusedVariables false

def sCell (l : List UInt8) : List Value := [.string (strOf l)]

/-- Texts in a row that came in. -/
def StrsAt (w : World) (o : Option Addr) (n cap : Nat) (L : List (List UInt8)) : Prop := RowsAt w o n cap 1 sCell L

theorem StrsAt.of_rows {w : World} {o : Option Addr} {n cap : Nat} {F : List ByteArray} (h : RowsAt w o n cap 1 strCell F) : StrsAt w o n cap (F.map fun s => s.data.toList) := by
  obtain ⟨h1, h2, h3, h4⟩ := h
  refine ⟨by rw [List.length_map]; exact h1, h2, h3, fun h0 => ?_⟩
  obtain ⟨b, off, h5, h6, h7⟩ := h4 h0
  refine ⟨b, off, h5, h6, fun i l hl => ?_⟩
  rw [List.getElem?_map] at hl
  obtain ⟨f, hf, rfl⟩ := Option.map_eq_some_iff.1 hl
  have := h7 i f hf
  show w.rangeAt b (off + i * 1) [.string (strOf f.data.toList)]
  rw [strOf_data]; exact this

theorem StrsAt.len {w : World} {o : Option Addr} {n cap : Nat} {L : List (List UInt8)} (h : StrsAt w o n cap L) : L.length = n := h.1
theorem StrsAt.cap {w : World} {o : Option Addr} {n cap : Nat} {L : List (List UInt8)} (h : StrsAt w o n cap L) : n ≤ cap := h.2.1
theorem StrsAt.max {w : World} {o : Option Addr} {n cap : Nat} {L : List (List UInt8)} (h : StrsAt w o n cap L) : cap ≤ 9223372036854775807 := h.2.2.1

theorem StrsAt.below {w w' : World} {B : Nat} {o : Option Addr} {n cap : Nat} {L : List (List UInt8)} (h : StrsAt w o n cap L) (hB : w.heap.size ≤ B) (hb : Below B w w') : StrsAt w' o n cap L := by
  refine ⟨h.1, h.2.1, h.2.2.1, fun h0 => ?_⟩
  obtain ⟨b, off, h5, h6, h7⟩ := h.2.2.2 h0
  exact ⟨b, off, h5, Nat.lt_of_lt_of_le h6 hb.size, fun i l hl j v hv => (hb.cell (p := ⟨b, _, none⟩) (by simp only; omega)).trans (h7 i l hl j v hv)⟩

theorem StrsAt.take {w : World} {o : Option Addr} {n cap : Nat} {L : List (List UInt8)} (h : StrsAt w o n cap L) (k c : Nat) (hk : k ≤ n) (hc : k ≤ c) (hm : c ≤ 9223372036854775807) : StrsAt w o k c (L.take k) := by
  refine ⟨by rw [List.length_take, h.1]; omega, hc, hm, fun h0 => ?_⟩
  obtain ⟨b, off, h5, h6, h7⟩ := h.2.2.2 (by omega)
  refine ⟨b, off, h5, h6, fun i l hl => h7 i l ?_⟩
  rw [List.getElem?_take] at hl
  split at hl
  · exact hl
  · cases hl

theorem StrsAt.drop {w : World} {b off n cap : Nat} {L : List (List UInt8)} (h : StrsAt w (some ⟨b, off, none⟩) n cap L) (k : Nat) (hk : k ≤ n) : StrsAt w (some ⟨b, off + k, none⟩) (n - k) (cap - k) (L.drop k) := by
  have h8 := h.2.1
  have h9 := h.2.2.1
  refine ⟨by rw [List.length_drop, h.1], by omega, by omega, fun h0 => ?_⟩
  obtain ⟨b', off', h5, h6, h7⟩ := h.2.2.2 (by omega)
  cases h5
  refine ⟨b, off + k, rfl, h6, fun i l hl => ?_⟩
  rw [List.getElem?_drop] at hl
  have := h7 (k + i) l hl
  rwa [show off + (k + i) * 1 = off + k + i * 1 by omega] at this

theorem StrsAt.form {w : World} {o : Option Addr} {n cap : Nat} {L : List (List UInt8)} (h : StrsAt w o n cap L) (h0 : 0 < n) : ∃ b off, o = some ⟨b, off, none⟩ := by
  obtain ⟨b, off, h5, _⟩ := h.2.2.2 h0
  exact ⟨b, off, h5⟩

theorem StrsAt.get {w : World} {b off n cap : Nat} {L : List (List UInt8)} (h : StrsAt w (some ⟨b, off, none⟩) n cap L) {i : Nat} {l : List UInt8} (hl : L[i]? = some l) : w.cell? ⟨b, off + i, none⟩ = some (.string (strOf l)) := by
  have hi := (List.getElem?_eq_some_iff.1 hl).1
  rw [h.1] at hi
  obtain ⟨b', off', h5, h6, h7⟩ := h.2.2.2 (by omega)
  cases h5
  have := h7 i l hl 0 _ rfl
  simpa using this

/-- A part of one byte. -/
theorem part_b1 (w : World) (b : UInt8) : PartsV ((w.alloc (.cells #[.int .u8 (b.toNat : Int)] 5)).alloc (.cells #[.slice (some ⟨w.heap.size, 0, none⟩) 1 1] 46)) (.slice (some ⟨w.heap.size + 1, 0, none⟩) 1 1) [[b]] := by
  have := parts_new (w.alloc (.cells #[.int .u8 (b.toNat : Int)] 5)) 46 [.slice (some ⟨w.heap.size, 0, none⟩) 1 1] [[b]] 1 rfl rfl (parts_1 (holds_one w _ b))
  rwa [show (w.alloc (.cells #[.int .u8 (b.toNat : Int)] 5)).heap.size = w.heap.size + 1 by simp] at this

/-- What the region's operations leave. -/
def topV (b off n cap k : Nat) (L : List (List UInt8)) (i : Nat) (w : World) (v : Value) : Prop :=
  match i with
  | 0 => v = .slice (some ⟨b, off, none⟩) n cap
  | 1 => v = .int .i64 (k : Int)
  | 2 => v = .int .i64 (k : Int)
  | 3 => v = .slice (some ⟨b, off, none⟩) k k
  | 4 => v = .agg (byteCells (Tree.top (L.take k))).toArray
  | 5 => v = .slice (some ⟨b, off, none⟩) n cap
  | 6 => v = .int .i64 (k : Int)
  | 7 => v = .slice (some ⟨b, off + k, none⟩) (n - k) (cap - k)
  | 8 => v = .agg (byteCells (Tree.top (L.drop k))).toArray
  | 9 => v = .agg (byteCells (Tree.node (Tree.top (L.take k)) (Tree.top (L.drop k)))).toArray
  | _ => True

theorem topV_mono (b off n cap k : Nat) (L : List (List UInt8)) (j : Nat) (w w' : World) (v : Value) (hb : Below w.heap.size w w') (h : topV b off n cap k L j w v) : topV b off n cap k L j w' v := by
  match j, h with
  | 0, h => exact h
  | 1, h => exact h
  | 2, h => exact h
  | 3, h => exact h
  | 4, h => exact h
  | 5, h => exact h
  | 6, h => exact h
  | 7, h => exact h
  | 8, h => exact h
  | 9, h => exact h
  | _ + 10, h => exact trivial

set_option maxRecDepth 100000 in
set_option maxHeartbeats 2000000 in
theorem treeTop_any (N : Nat) : ∀ (w : World) (o : Option Addr) (n cap : Nat) (L : List (List UInt8)), n = N → StrsAt w o n cap L → n ≤ 1000000 → (∀ l ∈ L, l.length ≤ 100000) → Laid w →
    Calls Tryd.prog 14 #[.slice o n cap] w fun e w' => e = .returned (.agg (byteCells (Tree.top L)).toArray) ∧ Below w.heap.size w w' := by
  induction N using Nat.strongRecOn with
  | ind N ih =>
  intro w o n cap L hN hS hn hl hL
  subst hN
  have IH := Lib.hid ih; clear ih
  have hlen := hS.len
  have hcap := hS.cap
  have hmax := hS.max
  obtain ⟨W0, hW0⟩ : ∃ W0, W0 = w.alloc (.cells zero32 26) := ⟨_, rfl⟩
  have x0 : W0.heap[w.heap.size]? = some (.cells zero32 26 (0, 0)) := by rw [hW0]; exact heap_alloc_new w _
  have b0 : Below w.heap.size w W0 := by rw [hW0]; exact (Below.refl _ _).alloc (Nat.le_refl _) _
  have s0 : W0.heap.size = w.heap.size + 1 := by rw [hW0]; simp
  have X0 := Lib.hid x0; clear x0
  have HW0 := Lib.hid hW0; clear hW0
  have HL := Lib.hid (hL.below b0); clear hL
  have S0 := Lib.hid (hS.below (Nat.le_refl _) b0); clear hS
  have hsl := Tree.top_len L
  have HSL := Lib.hid hsl; clear hsl
  have HLE := Lib.hid hl; clear hl
  rcases (show n = 0 ∨ n = 1 ∨ 2 ≤ n by omega) with rfl | rfl | h2
  · obtain rfl := List.eq_nil_of_length_eq_zero hlen
    have hp := part_b1 W0 2
    obtain ⟨W2, hW2⟩ : ∃ W2, W2 = (W0.alloc (.cells #[.int .u8 2] 5)).alloc (.cells #[.slice (some ⟨W0.heap.size, 0, none⟩) 1 1] 46) := ⟨_, rfl⟩
    have b2 : Below W0.heap.size W0 W2 := by rw [hW2]; exact ((Below.refl _ _).alloc (Nat.le_refl _) _).alloc (by simp) _
    have hof := of_any W2 _ _ (by rw [hW2]; exact hp) (by simp) (by simp) (HL.out.below b2)
    rw [show [[(2 : UInt8)]].flatten = [2] from rfl, ← Tree.top_nil] at hof
    rw [s0] at hW2 hof
    have x2 := (b2.block w.heap.size (by omega)).trans X0.out
    have b02 := b0.trans (b2.mono b0.size)
    have HOF := Lib.hid hof; clear hof hp
    have HW2 := Lib.hid hW2; clear hW2
    go_enter Tryd.func14, Tryd.ntmps14
    go_wp2_with ((with_reducible show wpList _ _ _ (⟨some 8, _, _, _, _, _⟩ :: _) _ _); change wpList _ _ _ _ _ (w.alloc (.cells zero32 26)); rw [← HW0.out])
    rw [← HW2.out]
    refine HOF.out.mono ?_
    rintro e w3 ⟨rfl, b3⟩
    have X3 := (b3.block _ (lt_of_block x2)).trans x2
    have B3 := b02.trans (b3.mono b02.size)
    go_wp2_with ((with_reducible show wpList _ _ _ (⟨none, .store 26 (.tmp 2) (.tmp 10), _, _, _, _⟩ :: _) _ _); refine wpList_put_hash (o := ⟨none, .store _ _ _, _, _, _, _⟩) rfl _ _ rfl w.heap.size rfl (Tree.top []) HSL.out rfl _ _ X3 zero32_size ?_)
    refine bodyPost_ret (results_hash rfl _ _ _ _ _ _ rfl HSL.out (hset_heap _ X3)) rfl ⟨rfl, hset_below _ B3 (Nat.le_refl _)⟩
  · obtain ⟨l, rfl⟩ : ∃ l, L = [l] := List.length_eq_one_iff.1 hlen
    obtain ⟨b, off, rfl⟩ := S0.out.form (by omega)
    have hcell : W0.cell? ⟨b, off, none⟩ = some (.string (strOf l)) := by simpa using S0.out.get (i := 0) rfl
    have hle := HLE.out l (by simp)
    go_enter Tryd.func14, Tryd.ntmps14
    go_wp2_with ((with_reducible show wpList _ _ _ (⟨some 15, _, _, _, _, _⟩ :: _) _ _); change wpList _ _ _ _ _ (w.alloc (.cells zero32 26)); rw [← HW0.out])
    refine (treeLeaf_any W0 l (by omega) HL.out).mono ?_
    rintro e w3 ⟨rfl, b3⟩
    rw [← Tree.top_one]
    have X3 := (b3.block _ (lt_of_block X0.out)).trans X0.out
    have B3 := b0.trans (b3.mono b0.size)
    go_wp2_with ((with_reducible show wpList _ _ _ (⟨none, .store 26 (.tmp 2) (.tmp 16), _, _, _, _⟩ :: _) _ _); refine wpList_put_hash (o := ⟨none, .store _ _ _, _, _, _, _⟩) rfl _ _ rfl w.heap.size rfl (Tree.top [l]) HSL.out rfl _ _ X3 zero32_size ?_)
    refine bodyPost_ret (results_hash rfl _ _ _ _ _ _ rfl HSL.out (hset_heap _ X3)) rfl ⟨rfl, hset_below _ B3 (Nat.le_refl _)⟩
  · obtain ⟨b, off, rfl⟩ := S0.out.form (by omega)
    have ht0 : ((n : Int) == 0) = false := by rw [beq_eq_false_iff_ne]; omega
    have ht1 : ((n : Int) == 1) = false := by rw [beq_eq_false_iff_ne]; omega
    obtain ⟨k, hk⟩ : ∃ k, k = Tree.half n := ⟨_, rfl⟩
    have hk1 : 1 ≤ k := by rw [hk]; exact Tree.half_pos (by omega)
    have hkn : k < n := by rw [hk]; exact Tree.half_lt (by omega)
    have hhalf := fun w => treeHalf_nat w n (by omega)
    rw [← hk] at hhalf
    have htop : Tree.top L = Tree.node (Tree.top (L.take k)) (Tree.top (L.drop k)) := by rw [Tree.top_two (by omega), hlen, ← hk]
    have HH := Lib.hid hhalf; clear hhalf hk
    have HT := Lib.hid (S0.out.take k k (by omega) (Nat.le_refl _) (by omega))
    have HD := Lib.hid (S0.out.drop k (by omega))
    have HIH1 : Hid (∀ w', StrsAt w' (some ⟨b, off, none⟩) k k (L.take k) → Laid w' → _) := Lib.hid fun w' h1 h2 => IH.out k (by omega) w' _ k k _ rfl h1 (by omega) (fun l hl => HLE.out l (List.mem_of_mem_take hl)) h2
    have HIH2 : Hid (∀ w', StrsAt w' (some ⟨b, off + k, none⟩) (n - k) (cap - k) (L.drop k) → Laid w' → _) := Lib.hid fun w' h1 h2 => IH.out (n - k) (by omega) w' _ _ _ _ rfl h1 (by omega) (fun l hl => HLE.out l (List.mem_of_mem_drop hl)) h2
    rw [htop] at HSL ⊢
    clear htop
    go_enter Tryd.func14, Tryd.ntmps14
    go_wp2_with fail
    change Calls _ _ _ (w.alloc (.cells zero32 26)) _
    rw [← HW0.out]
    refine (HH.out W0).mono ?_
    rintro e w' ⟨rfl, rfl⟩
    go_wp2_with fail

    refine wp_region_rel_last [[], [], [], [0, 1, 2], [3], [], [], [5, 6], [7], [4, 8], [9]] (topV b off n cap k L) 30 10 _ (by kernel_rfl) (by kernel_rfl) (by kernel_rfl) (by kernel_rfl) rfl rfl (topV_mono b off n cap k L) ?_ ?_
    · intro i o him hi w2 b2 vs hv
      have hL2 := HL.out.below b2
      match i, him, hi with
      | 0, _, hi =>
        obtain rfl := Option.some.inj hi
        simp only [relF, List.getD_cons_zero, List.getD_cons_succ, List.foldl_cons, List.foldl_nil, dstAt, List.getElem?_cons_zero, List.getElem?_cons_succ, Option.bind_some]
        go_wp2_with fail
        exact ⟨rfl, Below.refl _ _, rfl, rfl⟩
      | 1, _, hi =>
        obtain rfl := Option.some.inj hi
        simp only [relF, List.getD_cons_zero, List.getD_cons_succ, List.foldl_cons, List.foldl_nil, dstAt, List.getElem?_cons_zero, List.getElem?_cons_succ, Option.bind_some]
        go_wp2_with fail
        exact ⟨rfl, Below.refl _ _, rfl, rfl⟩
      | 2, _, hi =>
        obtain rfl := Option.some.inj hi
        simp only [relF, List.getD_cons_zero, List.getD_cons_succ, List.foldl_cons, List.foldl_nil, dstAt, List.getElem?_cons_zero, List.getElem?_cons_succ, Option.bind_some]
        go_wp2_with fail
        exact ⟨rfl, Below.refl _ _, rfl, rfl⟩
      | 3, _, hi =>
        obtain rfl := Option.some.inj hi
        have h0 : vs 0 = _ := hv 0 (by decide)
        have h1 : vs 1 = _ := hv 1 (by decide)
        have h2 : vs 2 = _ := hv 2 (by decide)
        simp only [relF, List.getD_cons_zero, List.getD_cons_succ, List.foldl_cons, List.foldl_nil, dstAt, List.getElem?_cons_zero, List.getElem?_cons_succ, Option.bind_some]
        go_frame
        rw [h0, h1, h2]
        go_wp2_with fail
        exact ⟨rfl, Below.refl _ _, rfl, rfl⟩
      | 4, _, hi =>
        obtain rfl := Option.some.inj hi
        have h3 : vs 3 = _ := hv 3 (by decide)
        have hct := HT.out.below (by omega) b2
        simp only [relF, List.getD_cons_zero, List.getD_cons_succ, List.foldl_cons, List.foldl_nil, dstAt, List.getElem?_cons_zero, List.getElem?_cons_succ, Option.bind_some]
        go_frame
        rw [h3]
        go_wp2_with fail
        refine (HIH1.out w2 hct hL2).mono ?_
        rintro e w3 ⟨rfl, b3⟩
        go_wp2_with fail
        exact ⟨rfl, b3, rfl, rfl⟩
      | 5, _, hi =>
        obtain rfl := Option.some.inj hi
        simp only [relF, List.getD_cons_zero, List.getD_cons_succ, List.foldl_cons, List.foldl_nil, dstAt, List.getElem?_cons_zero, List.getElem?_cons_succ, Option.bind_some]
        go_wp2_with fail
        exact ⟨rfl, Below.refl _ _, rfl, rfl⟩
      | 6, _, hi =>
        obtain rfl := Option.some.inj hi
        simp only [relF, List.getD_cons_zero, List.getD_cons_succ, List.foldl_cons, List.foldl_nil, dstAt, List.getElem?_cons_zero, List.getElem?_cons_succ, Option.bind_some]
        go_wp2_with fail
        exact ⟨rfl, Below.refl _ _, rfl, rfl⟩
      | 7, _, hi =>
        obtain rfl := Option.some.inj hi
        have h5 : vs 5 = _ := hv 5 (by decide)
        have h6 : vs 6 = _ := hv 6 (by decide)
        simp only [relF, List.getD_cons_zero, List.getD_cons_succ, List.foldl_cons, List.foldl_nil, dstAt, List.getElem?_cons_zero, List.getElem?_cons_succ, Option.bind_some]
        go_frame
        rw [h5, h6]
        go_wp2_with fail
        exact ⟨rfl, Below.refl _ _, rfl, rfl⟩
      | 8, _, hi =>
        obtain rfl := Option.some.inj hi
        have h7 : vs 7 = _ := hv 7 (by decide)
        have hcd := HD.out.below (by omega) b2
        simp only [relF, List.getD_cons_zero, List.getD_cons_succ, List.foldl_cons, List.foldl_nil, dstAt, List.getElem?_cons_zero, List.getElem?_cons_succ, Option.bind_some]
        go_frame
        rw [h7]
        go_wp2_with fail
        refine (HIH2.out w2 hcd hL2).mono ?_
        rintro e w3 ⟨rfl, b3⟩
        go_wp2_with fail
        exact ⟨rfl, b3, rfl, rfl⟩
      | 9, _, hi =>
        obtain rfl := Option.some.inj hi
        have h4 : vs 4 = _ := hv 4 (by decide)
        have h8 : vs 8 = _ := hv 8 (by decide)
        have htn := treeNode_any w2 _ _ (Tree.top_len (L.take k)) (Tree.top_len (L.drop k)) hL2
        simp only [relF, List.getD_cons_zero, List.getD_cons_succ, List.foldl_cons, List.foldl_nil, dstAt, List.getElem?_cons_zero, List.getElem?_cons_succ, Option.bind_some]
        go_frame
        rw [h4, h8]
        go_wp2_with fail
        refine (htn).mono ?_
        rintro e w3 ⟨rfl, b3⟩
        go_wp2_with fail
        exact ⟨rfl, b3, rfl, rfl⟩
      | n + 10, him, _ => exact absurd him (by omega)
    · intro w2 b2 vs hv
      have hL2 := HL.out.below b2
      have h9 : vs 9 = _ := hv 9 (by decide)
      rw [show List.range 10 = [0, 1, 2, 3, 4, 5, 6, 7, 8, 9] from rfl]
      simp only [relF, List.getD_cons_zero, List.getD_cons_succ, List.foldl_cons, List.foldl_nil, dstAt, List.getElem?_cons_zero, List.getElem?_cons_succ, Option.bind_some]
      go_frame
      rw [h9]
      have X4 := (b2.block _ (lt_of_block X0.out)).trans X0.out
      have B4 := b0.trans (b2.mono b0.size)
      go_wp2_with ((with_reducible show wpList _ _ _ (⟨none, .store 26 (.tmp 2) (.tmp 29), _, _, _, _⟩ :: _) _ _); refine wpList_put_hash (o := ⟨none, .store _ _ _, _, _, _, _⟩) rfl _ _ rfl w.heap.size rfl (Tree.node (Tree.top (L.take k)) (Tree.top (L.drop k))) HSL.out rfl _ _ X4 zero32_size ?_)
      refine bodyPost_ret (results_hash rfl _ _ _ _ _ _ rfl HSL.out (hset_heap _ X4)) rfl ⟨rfl, hset_below _ B4 (Nat.le_refl _)⟩

end Go.Proofs.YtbgahpbnlogdnaaDoor
