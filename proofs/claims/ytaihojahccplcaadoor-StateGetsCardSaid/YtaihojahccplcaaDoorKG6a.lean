/- TreeR1, TreeR2, TreeR3, TreeR4, Ran, S1, S2, OpenV, SV, Open, Use, Field, Put, Get, One, Few, in one text. -/
import Derived.Test.YtaihojahccplcaaDoorKG4a
import Derived.Test.YtaihojahccplcaaDoorKRefOf
import Derived.ArgAppend
import Derived.Test.YtaihojahccplcaaDoorKG0b
import Derived.ChangeArms
import Derived.ProofKit
import Derived.OpenShut
import Derived.ShutString
import Derived.ChangeOld
import Derived.SizedLaws
import Derived.Deep.Slices
import Derived.Deep.MidRow
import Derived.Test.YtaihojahccplcaaDoorKG3a
import Derived.Stop.BytesEq
import Derived.Laws.Tables
/- The walks of the reference's half, leaf, node, sum, and their kin. -/
namespace Go.Proofs.YtaihojahccplcaaDoor
open Go.RowKit
set_option linter.unusedSimpArgs false
set_option linter.unusedVariables false

set_option maxRecDepth 100000 in
theorem refHalfOf_any (w : World) (n : Nat) (h2 : 2 ≤ n) (hn : n ≤ 4611686018427387904) : Calls Tryd.prog 58 #[.int .i64 (n : Int)] w fun e w' => w = w' ∧ e = .returned (.int .i64 (Tree.half n : Int)) := by
  go_enter Tryd.func58, Tryd.ntmps58
  go_wp2_with fail
  go_loopw [3] (fun v wr => Hid (w = wr) ∧ ∃ k i : Nat, v = .int .i64 (k : Int) ∧ Hid (k = 2 ^ i) ∧ k < n ∧ 1 ≤ k) (fun v _ => n - (intOf v).toNat)
  case atStart => exact ⟨Lib.hid rfl, 1, 0, rfl, Lib.hid rfl, by omega, by omega⟩
  case round =>
    obtain ⟨hw, k, i, rfl, hk, hkn, hk1⟩ := hrel
    by_cases hlt : 2 * k < n
    · have ht2 : decide (2 * (k : Int) < (n : Int)) = true := decide_eq_true (by omega)
      go_wp2_with fail
      go_roundw
      case rel => exact ⟨hw, 2 * k, i + 1, by go_num, Lib.hid (by rw [hk.out, Nat.pow_succ]; omega), hlt, by omega⟩
      case measure => simp [intOf]; omega
    · have ht2 : decide (2 * (k : Int) < (n : Int)) = false := decide_eq_false (by omega)
      have hh := Tree.half_of (n := n) (i := i) (by rw [← hk.out]; exact hkn) (by rw [← hk.out]; omega)
      go_wp2_with fail
      go_ret
      exact ⟨hw.out, by rw [hh, hk.out]; rfl⟩

set_option maxRecDepth 100000 in
theorem refLeafOf_any (w : World) (l : List UInt8) (hl : l.length ≤ 100000) : Calls Tryd.prog 57 #[.string (strOf l)] w fun e w' => e = .returned (.string (strOf (Tree.leaf l))) ∧ Below w.heap.size w w' := by
  have hadd : (⟨#[0]⟩ : ByteArray) ++ strOf l = strOf (0 :: l) := add_str [0] l
  have hst := strOf_size l
  have hs0 : (⟨#[0]⟩ : ByteArray).size = 1 := rfl
  have hc := refOf_any w (0 :: l) (by simp; omega)
  have HC := Lib.hid hc; clear hc
  go_enter Tryd.func57, Tryd.ntmps57
  go_wp2_with fail
  refine HC.out.mono ?_
  rintro e w' ⟨rfl, b⟩
  go_wp2_with fail
  go_ret
  exact ⟨rfl, b⟩

set_option maxRecDepth 100000 in
theorem refNodeOf_any (w : World) (a b : List UInt8) (ha : a.length ≤ 32) (hb : b.length ≤ 32) : Calls Tryd.prog 59 #[.string (strOf a), .string (strOf b)] w fun e w' => e = .returned (.string (strOf (Tree.node a b))) ∧ Below w.heap.size w w' := by
  have hadd : (⟨#[1]⟩ : ByteArray) ++ strOf a = strOf (1 :: a) := add_str [1] a
  have hadd2 : strOf (1 :: a) ++ strOf b = strOf (1 :: (a ++ b)) := add_str (1 :: a) b
  have hst := strOf_size a
  have hst1 : (strOf (1 :: a)).size = a.length + 1 := strOf_size _
  have hstb := strOf_size b
  have hs0 : (⟨#[1]⟩ : ByteArray).size = 1 := rfl
  have hc := refOf_any w (1 :: (a ++ b)) (by simp; omega)
  have HC := Lib.hid hc; clear hc
  go_enter Tryd.func59, Tryd.ntmps59
  go_wp2_with fail
  refine HC.out.mono ?_
  rintro e w' ⟨rfl, b⟩
  go_wp2_with fail
  go_ret
  exact ⟨rfl, b⟩

set_option maxRecDepth 100000 in
set_option maxHeartbeats 2000000 in
theorem refSum_any (w : World) (S : List UInt8) (hS : S.length = 32) : Calls Tryd.prog 55 #[.string (strOf S)] w fun e w' => e = .returned (.agg (byteCells S).toArray) ∧ Below w.heap.size w w' := by
  obtain ⟨W0, hW0⟩ : ∃ W0, W0 = w.alloc (.cells zero32 27) := ⟨_, rfl⟩
  have x0 : W0.heap[w.heap.size]? = some (.cells zero32 27 (0, 0)) := by rw [hW0]; exact heap_alloc_new w _
  have b0 : Below w.heap.size w W0 := by rw [hW0]; exact (Below.refl _ _).alloc (Nat.le_refl _) _
  have s0 : W0.heap.size = w.heap.size + 1 := by rw [hW0]; simp
  obtain ⟨W1, hW1⟩ : ∃ W1, W1 = hset (W0.alloc (.cells zero32 27)) W0.heap.size (List.replicate 32 0) := ⟨_, rfl⟩
  have x1 : W1.heap[W0.heap.size]? = some (.cells (byteCells (List.replicate 32 0)).toArray 27 (0, 0)) := by rw [hW1]; exact hset_heap _ (heap_alloc_new W0 _)
  have b1 : Below W0.heap.size W0 W1 := by rw [hW1]; exact hset_below _ ((Below.refl _ _).alloc (Nat.le_refl _) _) (Nat.le_refl _)
  have x01 := (b1.block _ (by omega)).trans x0
  have B1 := b0.trans (b1.mono b0.size)
  rw [s0] at x1 hW1
  have hst := strOf_size S
  have hrl : (List.replicate 32 (0 : UInt8)).length = 32 := List.length_replicate ..
  have HRL := Lib.hid hrl; clear hrl
  have HS := Lib.hid hS
  have X1 := Lib.hid x1; clear x1
  have X0 := Lib.hid x01; clear x01 x0
  have hW1' : W1 = hset ((w.alloc (.cells zero32 27)).alloc (.cells zero32 27)) (w.heap.size + 1) (List.replicate 32 0) := by rw [hW1, hW0]
  have HW1 := Lib.hid hW1'; clear hW1' hW1 hW0
  have xn : ((w.alloc (.cells zero32 27)).alloc (.cells zero32 27)).heap[w.heap.size + 1]? = some (.cells zero32 27 (0, 0)) := by
    have := heap_alloc_new (w.alloc (.cells zero32 27)) (.cells zero32 27)
    simpa using this
  have XN := Lib.hid xn; clear xn b0 b1 s0
  go_enter Tryd.func55, Tryd.ntmps55
  go_wp2_with (first | ((with_reducible show wpList _ _ _ (⟨some 5, _, _, _, _, _⟩ :: _) _ _); refine wpList_zero_hash (op := ⟨some 5, _, _, _, _, _⟩) (by kernel_rfl) rfl ?_) | ((with_reducible show wpList _ _ _ (⟨none, .store 27 (.tmp 3) (.tmp 5), _, _, _, _⟩ :: _) _ _); change wpList _ _ _ _ _ ((w.alloc (.cells zero32 27)).alloc (.cells zero32 27)); refine wpList_put_hash (o := ⟨none, .store _ _ _, _, _, _, _⟩) rfl _ _ rfl (w.heap.size + 1) rfl (List.replicate 32 0) HRL.out rfl _ _ XN.out zero32_size ?_; rw [← HW1.out]))
  go_loopw [4] (fun i wr => ∃ t : Nat, t ≤ 32 ∧ i = .int .i64 (t : Int) ∧ Hid (wr.heap[w.heap.size + 1]? = some (.cells (byteCells (S.take t ++ List.replicate (32 - t) 0)).toArray 27 (0, 0))) ∧ Hid (wr.heap[w.heap.size]? = some (.cells zero32 27 (0, 0))) ∧ Below w.heap.size w wr) (fun i _ => 32 - (intOf i).toNat)
  case atStart => exact ⟨0, by omega, rfl, X1, X0, B1⟩
  case round =>
    clear X1 X0 B1 HW1 XN
    obtain ⟨t, ht, rfl, x1, x2, Br⟩ := hrel
    by_cases hlt : t < 32
    · have ht1 : decide ((t : Int) < 32) = true := decide_eq_true (by omega)
      have ht2 : decide ((t : Int) < (S.length : Int)) = true := decide_eq_true (by omega)
      have ht3 : decide (t < S.length) = true := decide_eq_true (by omega)
      obtain ⟨x, hx⟩ : ∃ x, S[t]? = some x := ⟨_, List.getElem?_eq_getElem (by rw [HS.out]; exact hlt)⟩
      have hsx : (strOf S)[t]'(by rw [hst]; omega) = x := by
        have := (List.getElem?_eq_some_iff.1 hx).2
        rw [← this]; simp [strOf, ByteArray.getElem_eq_getElem_data]
      have hz : (S.take t ++ List.replicate (32 - t) 0)[t]? = some 0 := by
        rw [List.getElem?_append_right (by rw [List.length_take]; omega), List.length_take, HS.out, List.getElem?_replicate]
        rw [if_pos (by omega)]
      have hc2 : wr.cell? ⟨w.heap.size + 1, t, none⟩ = some (.int .u8 0) := by
        have := range_row x1.out t _ (byteCells_get hz)
        rwa [Nat.zero_add] at this
      have hf := wfree x1.out t
      have HX := Lib.hid hx; clear hx hz
      go_wp2_with fail
      go_roundw
      case rel =>
        refine ⟨t + 1, by omega, by go_num, Lib.hid ?_, Lib.hid ?_, Br.setCell (p := ⟨w.heap.size + 1, t, none⟩) (by simp only; omega) _⟩
        · rw [heap_setCell_same _ _ _ _ _ _ x1.out, byteCells_set, take_set S t x HS.out HX.out]
        · rw [heap_setCell_other _ _ _ _ (by simp only; omega)]; exact x2.out
      case measure => simp [intOf]; omega
    · obtain rfl : t = 32 := by omega
      have y1 : wr.heap[w.heap.size + 1]? = some (.cells (byteCells S).toArray 27 (0, 0)) := by
        rw [x1.out, List.take_of_length_le (by rw [HS.out]; exact Nat.le_refl _), Nat.sub_self, List.replicate_zero, List.append_nil]
      have Y1 := Lib.hid y1; clear y1 x1
      go_wp2_with (first | ((with_reducible show wpList _ _ _ (⟨some 21, _, _, _, _, _⟩ :: _) _ _); refine wpList_load_hash (op := ⟨some 21, _, _, _, _, _⟩) (by kernel_rfl) _ rfl (w.heap.size + 1) rfl S HS.out _ _ Y1.out ?_) | ((with_reducible show wpList _ _ _ (⟨none, .store 27 (.tmp 2) (.tmp 21), _, _, _, _⟩ :: _) _ _); refine wpList_put_hash (o := ⟨none, .store _ _ _, _, _, _, _⟩) rfl _ _ rfl w.heap.size rfl S HS.out rfl _ _ x2.out zero32_size ?_))
      refine bodyPost_ret (results_hash rfl _ _ _ _ _ _ rfl HS.out (hset_heap _ x2.out)) rfl ⟨rfl, hset_below _ Br (Nat.le_refl _)⟩

end Go.Proofs.YtaihojahccplcaaDoor

/- The walks of the reference's Leaf, Node, top, Top, root, Root. -/
namespace Go.Proofs.YtaihojahccplcaaDoor
open Go.RowKit
set_option linter.unusedSimpArgs false
set_option linter.unusedVariables false

/-- 'string(h[:])'. -/
theorem hash_str {w : World} {b : Nat} {S : List UInt8} {t : TypeId} {fr : Nat × Nat} (hS : S.length = 32) (h : w.heap[b]? = some (.cells (byteCells S).toArray t fr)) :
    (convert 82 9 (.slice (some ⟨b, 0, none⟩) 32 32)).run Tryd.prog w = .ok (.string (strOf S)) w := by
  have hr := run_convert_bytes_back (P := Tryd.prog) w 82 9 5 ⟨b, 0, none⟩ 32 S Tryd.under_bytes Tryd.under_byte Tryd.under_string (fun j hj => cells_row_at h j _ (by simp [byteCells, hj]))
  rw [hS] at hr
  exact hr

/-- What the region's operations leave. -/
def refNodeV (B : Nat) (a b : List UInt8) (ix : Nat) (w : World) (v : Value) : Prop :=
  match ix with
  | 0 => v = .slice (some ⟨B, 0, none⟩) 32 32
  | 1 => v = .string (strOf a)
  | 2 => v = .slice (some ⟨B + 1, 0, none⟩) 32 32
  | 3 => v = .string (strOf b)
  | 4 => v = .string (strOf (Tree.node a b))
  | 5 => v = .agg (byteCells (Tree.node a b)).toArray
  | _ => True

theorem refNodeV_mono (B : Nat) (a b : List UInt8) (j : Nat) (w w' : World) (v : Value) (hb : Below w.heap.size w w') (h : refNodeV B a b j w v) : refNodeV B a b j w' v := by
  match j, h with
  | 0, h => exact h
  | 1, h => exact h
  | 2, h => exact h
  | 3, h => exact h
  | 4, h => exact h
  | 5, h => exact h
  | _ + 6, h => exact trivial

/-- What the region's operations leave. -/
def refTopV (b off n cap k : Nat) (L : List (List UInt8)) (ix : Nat) (w : World) (v : Value) : Prop :=
  match ix with
  | 0 => v = .slice (some ⟨b, off, none⟩) n cap
  | 1 => v = .int .i64 (k : Int)
  | 2 => v = .slice (some ⟨b, off, none⟩) k cap
  | 3 => v = .string (strOf (Tree.top (L.take k)))
  | 4 => v = .slice (some ⟨b, off, none⟩) n cap
  | 5 => v = .int .i64 (k : Int)
  | 6 => v = .slice (some ⟨b, off + k, none⟩) (n - k) (cap - k)
  | 7 => v = .string (strOf (Tree.top (L.drop k)))
  | 8 => v = .string (strOf (Tree.top L))
  | 9 => v = .string (strOf (Tree.top L))
  | _ => True

theorem refTopV_mono (b off n cap k : Nat) (L : List (List UInt8)) (j : Nat) (w w' : World) (v : Value) (hb : Below w.heap.size w w') (h : refTopV b off n cap k L j w v) : refTopV b off n cap k L j w' v := by
  match j, h with
  | 0, h => exact h
  | 1, h => exact h
  | 2, h => exact h
  | 3, h => exact h
  | 4, h => exact h
  | 5, h => exact h
  | 6, h => exact h
  | 7, h => exact h
  | 8, h => exact h
  | 9, h => exact h
  | _ + 10, h => exact trivial

set_option maxRecDepth 100000 in
set_option maxHeartbeats 2000000 in
theorem refTopOf_any (N : Nat) : ∀ (w : World) (o : Option Addr) (n cap : Nat) (L : List (List UInt8)), n = N → StrsAt w o n cap L → n ≤ 1000000 → (∀ l ∈ L, l.length ≤ 100000) →
    Calls Tryd.prog 48 #[.slice o n cap] w fun e w' => e = .returned (.string (strOf (Tree.top L))) ∧ Below w.heap.size w w' := by
  induction N using Nat.strongRecOn with
  | ind N ih =>
  intro w o n cap L hN hS hn hl
  subst hN
  have IH := Lib.hid ih; clear ih
  have hlen := hS.len
  have hcap := hS.cap
  have hmax := hS.max
  have S0 := Lib.hid hS; clear hS
  have HLE := Lib.hid hl; clear hl
  rcases (show n = 0 ∨ n = 1 ∨ 2 ≤ n by omega) with rfl | rfl | h2
  · obtain rfl := List.eq_nil_of_length_eq_zero hlen
    have hc := refOf_any w [2] (by simp)
    have hc' : Calls Tryd.prog 56 #[.string ⟨#[2]⟩] w fun e w' => e = .returned (.string (strOf (Sha.of [2]))) ∧ Below w.heap.size w w' := hc
    rw [← Tree.top_nil] at hc'
    have HC := Lib.hid hc'; clear hc' hc
    go_enter Tryd.func48, Tryd.ntmps48
    go_wp2_with fail
    refine HC.out.mono ?_
    rintro e w1 ⟨rfl, b1⟩
    go_wp2_with fail
    go_ret
    exact ⟨rfl, b1⟩
  · obtain ⟨l, rfl⟩ : ∃ l, L = [l] := List.length_eq_one_iff.1 hlen
    obtain ⟨b, off, rfl⟩ := S0.out.form (by omega)
    have hcell : w.cell? ⟨b, off, none⟩ = some (.string (strOf l)) := by simpa using S0.out.get (i := 0) rfl
    have hc := refLeafOf_any w l (HLE.out l (by simp))
    rw [← Tree.top_one] at hc
    have HC := Lib.hid hc; clear hc
    go_enter Tryd.func48, Tryd.ntmps48
    go_wp2_with fail
    refine HC.out.mono ?_
    rintro e w1 ⟨rfl, b1⟩
    go_wp2_with fail
    go_ret
    exact ⟨rfl, b1⟩
  · obtain ⟨b, off, rfl⟩ := S0.out.form (by omega)
    have ht0 : ((n : Int) == 0) = false := by rw [beq_eq_false_iff_ne]; omega
    have ht1 : ((n : Int) == 1) = false := by rw [beq_eq_false_iff_ne]; omega
    obtain ⟨k, hk⟩ : ∃ k, k = Tree.half n := ⟨_, rfl⟩
    have hk1 : 1 ≤ k := by rw [hk]; exact Tree.half_pos (by omega)
    have hkn : k < n := by rw [hk]; exact Tree.half_lt (by omega)
    have hhalf := refHalfOf_any w n h2 (by omega)
    rw [← hk] at hhalf
    have htop : Tree.top L = Tree.node (Tree.top (L.take k)) (Tree.top (L.drop k)) := by rw [Tree.top_two (by omega), hlen, ← hk]
    have HH := Lib.hid hhalf; clear hhalf hk
    have HTOP := Lib.hid htop; clear htop
    have HT := Lib.hid (S0.out.take k cap (by omega) (by omega) (by omega))
    have HD := Lib.hid (S0.out.drop k (by omega))
    have HIH1 : Hid (∀ w', StrsAt w' (some ⟨b, off, none⟩) k cap (L.take k) → _) := Lib.hid fun w' h1 => IH.out k (by omega) w' _ k cap _ rfl h1 (by omega) (fun l hl => HLE.out l (List.mem_of_mem_take hl))
    have HIH2 : Hid (∀ w', StrsAt w' (some ⟨b, off + k, none⟩) (n - k) (cap - k) (L.drop k) → _) := Lib.hid fun w' h1 => IH.out (n - k) (by omega) w' _ _ _ _ rfl h1 (by omega) (fun l hl => HLE.out l (List.mem_of_mem_drop hl))
    go_enter Tryd.func48, Tryd.ntmps48
    go_wp2_with fail
    refine HH.out.mono ?_
    rintro e w' ⟨rfl, rfl⟩
    go_wp2_with fail

    refine wp_region_rel [[], [], [0, 1], [2], [], [], [4, 5], [6], [3, 7], [8]] (refTopV b off n cap k L) 27 (by kernel_rfl) (by kernel_rfl) (by kernel_rfl) (refTopV_mono b off n cap k L) ?_ ?_
    · intro ix op hi w2 b2 vs hv
      have him : ix < 10 := (List.getElem?_eq_some_iff.1 hi).1
      have hb0 := b2
      match ix, him, hi with
      | 0, _, hi =>
        obtain rfl := Option.some.inj hi
        simp only [relF, List.getD_cons_zero, List.getD_cons_succ, List.foldl_cons, List.foldl_nil, dstAt, List.getElem?_cons_zero, List.getElem?_cons_succ, Option.bind_some]
        go_wp2_with fail
        exact ⟨rfl, Below.refl _ _, rfl, rfl⟩
      | 1, _, hi =>
        obtain rfl := Option.some.inj hi
        simp only [relF, List.getD_cons_zero, List.getD_cons_succ, List.foldl_cons, List.foldl_nil, dstAt, List.getElem?_cons_zero, List.getElem?_cons_succ, Option.bind_some]
        go_wp2_with fail
        exact ⟨rfl, Below.refl _ _, rfl, rfl⟩
      | 2, _, hi =>
        obtain rfl := Option.some.inj hi
        have h0 : vs 0 = _ := hv 0 (by decide)
        have h1 : vs 1 = _ := hv 1 (by decide)
        simp only [relF, List.getD_cons_zero, List.getD_cons_succ, List.foldl_cons, List.foldl_nil, dstAt, List.getElem?_cons_zero, List.getElem?_cons_succ, Option.bind_some]
        go_frame
        rw [h0, h1]
        go_wp2_with fail
        exact ⟨rfl, Below.refl _ _, rfl, rfl⟩
      | 3, _, hi =>
        obtain rfl := Option.some.inj hi
        have h2 : vs 2 = _ := hv 2 (by decide)
        have hct := HT.out.below (Nat.le_refl _) b2
        simp only [relF, List.getD_cons_zero, List.getD_cons_succ, List.foldl_cons, List.foldl_nil, dstAt, List.getElem?_cons_zero, List.getElem?_cons_succ, Option.bind_some]
        go_frame
        rw [h2]
        go_wp2_with fail
        refine (HIH1.out w2 hct).mono ?_
        rintro e w3 ⟨rfl, b3⟩
        go_wp2_with fail
        exact ⟨rfl, b3, rfl, rfl⟩
      | 4, _, hi =>
        obtain rfl := Option.some.inj hi
        simp only [relF, List.getD_cons_zero, List.getD_cons_succ, List.foldl_cons, List.foldl_nil, dstAt, List.getElem?_cons_zero, List.getElem?_cons_succ, Option.bind_some]
        go_wp2_with fail
        exact ⟨rfl, Below.refl _ _, rfl, rfl⟩
      | 5, _, hi =>
        obtain rfl := Option.some.inj hi
        simp only [relF, List.getD_cons_zero, List.getD_cons_succ, List.foldl_cons, List.foldl_nil, dstAt, List.getElem?_cons_zero, List.getElem?_cons_succ, Option.bind_some]
        go_wp2_with fail
        exact ⟨rfl, Below.refl _ _, rfl, rfl⟩
      | 6, _, hi =>
        obtain rfl := Option.some.inj hi
        have h4 : vs 4 = _ := hv 4 (by decide)
        have h5 : vs 5 = _ := hv 5 (by decide)
        simp only [relF, List.getD_cons_zero, List.getD_cons_succ, List.foldl_cons, List.foldl_nil, dstAt, List.getElem?_cons_zero, List.getElem?_cons_succ, Option.bind_some]
        go_frame
        rw [h4, h5]
        go_wp2_with fail
        exact ⟨rfl, Below.refl _ _, rfl, rfl⟩
      | 7, _, hi =>
        obtain rfl := Option.some.inj hi
        have h6 : vs 6 = _ := hv 6 (by decide)
        have hcd := HD.out.below (Nat.le_refl _) b2
        simp only [relF, List.getD_cons_zero, List.getD_cons_succ, List.foldl_cons, List.foldl_nil, dstAt, List.getElem?_cons_zero, List.getElem?_cons_succ, Option.bind_some]
        go_frame
        rw [h6]
        go_wp2_with fail
        refine (HIH2.out w2 hcd).mono ?_
        rintro e w3 ⟨rfl, b3⟩
        go_wp2_with fail
        exact ⟨rfl, b3, rfl, rfl⟩
      | 8, _, hi =>
        obtain rfl := Option.some.inj hi
        have h3 : vs 3 = _ := hv 3 (by decide)
        have h7 : vs 7 = _ := hv 7 (by decide)
        have htn := refNodeOf_any w2 (Tree.top (L.take k)) (Tree.top (L.drop k)) (by rw [Tree.top_len]; omega) (by rw [Tree.top_len]; omega)
        rw [← HTOP.out] at htn
        simp only [relF, List.getD_cons_zero, List.getD_cons_succ, List.foldl_cons, List.foldl_nil, dstAt, List.getElem?_cons_zero, List.getElem?_cons_succ, Option.bind_some]
        go_frame
        rw [h3, h7]
        go_wp2_with fail
        refine (htn).mono ?_
        rintro e w3 ⟨rfl, b3⟩
        go_wp2_with fail
        exact ⟨rfl, b3, rfl, rfl⟩
      | 9, _, hi =>
        obtain rfl := Option.some.inj hi
        have h8 : vs 8 = _ := hv 8 (by decide)
        simp only [relF, List.getD_cons_zero, List.getD_cons_succ, List.foldl_cons, List.foldl_nil, dstAt, List.getElem?_cons_zero, List.getElem?_cons_succ, Option.bind_some]
        go_frame
        rw [h8]
        go_wp2_with fail
        exact ⟨rfl, Below.refl _ _, rfl, rfl⟩
      | nx + 10, him, _ => exact absurd him (by omega)
    · intro w2 b2 vs hv
      have hb0 := b2
      have h9 : vs 9 = _ := hv 9 (by decide)
      simp only [relF, List.length_cons, List.length_nil, Nat.zero_add, Nat.reduceAdd, List.range, List.range.loop, List.foldl_cons, List.foldl_nil, dstAt, List.getElem?_cons_zero, List.getElem?_cons_succ, Option.bind_some]
      go_frame
      rw [h9]
      go_wp2_with fail
      go_ret
      exact ⟨rfl, b2⟩

set_option maxRecDepth 100000 in
theorem refRootOf_any (w : World) (n : Nat) (hn : n ≤ 9223372036854775807) (t : List UInt8) (ht : t.length = 32) :
    Calls Tryd.prog 47 #[.int .i64 (n : Int), .string (strOf t)] w fun e w' => e = .returned (.agg (byteCells (Tree.root n t)).toArray) ∧ Below w.heap.size w w' := by
  obtain ⟨W0, hW0⟩ : ∃ W0, W0 = w.alloc (.cells zero32 27) := ⟨_, rfl⟩
  have x0 : W0.heap[w.heap.size]? = some (.cells zero32 27 (0, 0)) := by rw [hW0]; exact heap_alloc_new w _
  have b0 : Below w.heap.size w W0 := by rw [hW0]; exact (Below.refl _ _).alloc (Nat.le_refl _) _
  have hu : IntKind.u64.wrap (n : Int) = (n : Int) := by rw [IntKind.wrap_u64]; omega
  have hnl := Wire.num_length n (by omega)
  have hadd : (⟨#[3]⟩ : ByteArray) ++ strOf (Wire.num n) = strOf (3 :: Wire.num n) := add_str [3] _
  have hadd2 : strOf (3 :: Wire.num n) ++ strOf t = strOf (3 :: (Wire.num n ++ t)) := add_str (3 :: Wire.num n) t
  have hst := strOf_size (Wire.num n)
  have hst1 : (strOf (3 :: Wire.num n)).size = (Wire.num n).length + 1 := strOf_size _
  have hstb := strOf_size t
  have hs0 : (⟨#[3]⟩ : ByteArray).size = 1 := rfl
  have hc := refNum_any n (by omega) W0
  have HC := Lib.hid hc; clear hc
  have hsl := Tree.root_len n t
  have HSL := Lib.hid hsl; clear hsl
  have HW0 := Lib.hid hW0; clear hW0
  go_enter Tryd.func47, Tryd.ntmps47
  go_wp2_with fail
  change Calls _ _ _ (w.alloc (.cells zero32 27)) _
  rw [← HW0.out]
  refine HC.out.mono ?_
  rintro e w1 ⟨rfl, b1⟩
  have x1 := (b1.block _ (lt_of_block x0)).trans x0
  have B1 := b0.trans (b1.mono b0.size)
  have hc := refOf_any w1 (3 :: (Wire.num n ++ t)) (by simp; omega)
  rw [show Sha.of (3 :: (Wire.num n ++ t)) = Tree.root n t from rfl] at hc
  have HC2 := Lib.hid hc; clear hc
  go_wp2_with fail
  refine HC2.out.mono ?_
  rintro e w2 ⟨rfl, b2⟩
  have x2 := (b2.block _ (lt_of_block x1)).trans x1
  have B2 := B1.trans (b2.mono B1.size)
  have hs := refSum_any w2 _ HSL.out
  have HS := Lib.hid hs; clear hs
  go_wp2_with fail
  refine HS.out.mono ?_
  rintro e w3 ⟨rfl, b3⟩
  have x3 := (b3.block _ (lt_of_block x2)).trans x2
  have B3 := B2.trans (b3.mono B2.size)
  go_wp2_with ((with_reducible show wpList _ _ _ (⟨none, .store 27 (.tmp 4) (.tmp 12), _, _, _, _⟩ :: _) _ _); refine wpList_put_hash (o := ⟨none, .store _ _ _, _, _, _, _⟩) rfl _ _ rfl w.heap.size rfl (Tree.root n t) HSL.out rfl _ _ x3 zero32_size ?_)
  refine bodyPost_ret (results_hash rfl _ _ _ _ _ _ rfl HSL.out (hset_heap _ x3)) rfl ⟨rfl, hset_below _ B3 (Nat.le_refl _)⟩

set_option maxRecDepth 100000 in
theorem refRoot_any (w : World) (o : Option Addr) (n cap : Nat) (L : List (List UInt8)) (hS : StrsAt w o n cap L) (hn : n ≤ 1000000) (hl : ∀ l ∈ L, l.length ≤ 100000) :
    Calls Tryd.prog 22 #[.slice o n cap] w fun e w' => e = .returned (.agg (byteCells (Tree.root n (Tree.top L))).toArray) ∧ Below w.heap.size w w' := by
  obtain ⟨W0, hW0⟩ : ∃ W0, W0 = w.alloc (.cells zero32 27) := ⟨_, rfl⟩
  have x0 : W0.heap[w.heap.size]? = some (.cells zero32 27 (0, 0)) := by rw [hW0]; exact heap_alloc_new w _
  have b0 : Below w.heap.size w W0 := by rw [hW0]; exact (Below.refl _ _).alloc (Nat.le_refl _) _
  have hc := refTopOf_any n W0 o n cap L rfl (hS.below (Nat.le_refl _) b0) hn hl
  have HC := Lib.hid hc; clear hc
  have hcap := hS.cap
  have hmax := hS.max
  have hsl := Tree.root_len n (Tree.top L)
  have HSL := Lib.hid hsl; clear hsl
  have HW0 := Lib.hid hW0; clear hW0 hS
  go_enter Tryd.func22, Tryd.ntmps22
  go_wp2_with fail
  change Calls _ _ _ (w.alloc (.cells zero32 27)) _
  rw [← HW0.out]
  refine HC.out.mono ?_
  rintro e w1 ⟨rfl, b1⟩
  have x1 := (b1.block _ (lt_of_block x0)).trans x0
  have B1 := b0.trans (b1.mono b0.size)
  have hs := refRootOf_any w1 n (by omega) _ (Tree.top_len L)
  have HS := Lib.hid hs; clear hs
  go_wp2_with fail
  refine HS.out.mono ?_
  rintro e w2 ⟨rfl, b2⟩
  have x2 := (b2.block _ (lt_of_block x1)).trans x1
  have B2 := B1.trans (b2.mono B1.size)
  go_wp2_with ((with_reducible show wpList _ _ _ (⟨none, .store 27 (.tmp 2) (.tmp 7), _, _, _, _⟩ :: _) _ _); refine wpList_put_hash (o := ⟨none, .store _ _ _, _, _, _, _⟩) rfl _ _ rfl w.heap.size rfl (Tree.root n (Tree.top L)) HSL.out rfl _ _ x2 zero32_size ?_)
  refine bodyPost_ret (results_hash rfl _ _ _ _ _ _ rfl HSL.out (hset_heap _ x2)) rfl ⟨rfl, hset_below _ B2 (Nat.le_refl _)⟩

end Go.Proofs.YtaihojahccplcaaDoor

/- The walks of the reference's Deep, up, Check. -/
namespace Go.Proofs.YtaihojahccplcaaDoor
open Go.RowKit
set_option linter.unusedSimpArgs false
set_option linter.unusedVariables false

theorem HashesAt.take {w : World} {o : Option Addr} {n cap : Nat} {P : List (List UInt8)} (h : HashesAt w o n cap P) (k c : Nat) (hk : k ≤ n) (hc : k ≤ c) (hm : c ≤ 9223372036854775807) : HashesAt w o k c (P.take k) := by
  refine ⟨⟨by rw [List.length_take, h.1.1]; omega, hc, hm, fun h0 => ?_⟩, fun p hp => h.2 p (List.mem_of_mem_take hp)⟩
  obtain ⟨b, off, h5, h6, h7⟩ := h.1.2.2.2 (by omega)
  refine ⟨b, off, h5, h6, fun i l hl => h7 i l ?_⟩
  rw [List.getElem?_take] at hl
  split at hl
  · exact hl
  · cases hl

/-- The reference's Deep: bad and good. -/
def badDeep (n i : Int) : Bool := badSide n i

theorem climb_snoc {t x : List UInt8} {b : Bool} {sd : List Bool} {p : List (List UInt8)} (h : sd.length = p.length) : Tree.climb t (b :: sd) (p ++ [x]) = Tree.step (Tree.climb t sd p) (b, x) := by
  unfold Tree.climb
  rw [List.reverse_cons, List.zip_append (by rw [List.length_reverse, h]), List.foldl_append]
  rfl

theorem take_last {P : List (List UInt8)} {m : Nat} {x : List UInt8} (hl : P.length = m + 1) (hx : P[m]? = some x) : P = P.take m ++ [x] := by
  have := List.take_add_one (l := P) (i := m)
  rw [hx, List.take_of_length_le (by omega)] at this
  exact this

/-- What the region's operations leave. -/
def rcheckV (want t : List UInt8) (n : Nat) (ix : Nat) (w : World) (v : Value) : Prop :=
  match ix with
  | 0 => v = .bool true
  | 1 => v = .bool true
  | 2 => v = .int .i64 (n : Int)
  | 3 => v = .string (strOf t)
  | 4 => v = .agg (byteCells (Tree.root n t)).toArray
  | 5 => v = .agg (byteCells want).toArray
  | 6 => v = .bool (Tree.root n t == want)
  | 7 => v = .bool (Tree.root n t == want)
  | 8 => v = .bool (Tree.root n t == want)
  | _ => True

theorem rcheckV_mono (want t : List UInt8) (n : Nat) (j : Nat) (w w' : World) (v : Value) (hb : Below w.heap.size w w') (h : rcheckV want t n j w v) : rcheckV want t n j w' v := by
  match j, h with
  | 0, h => exact h
  | 1, h => exact h
  | 2, h => exact h
  | 3, h => exact h
  | 4, h => exact h
  | 5, h => exact h
  | 6, h => exact h
  | 7, h => exact h
  | 8, h => exact h
  | _ + 9, h => exact trivial

/-- What the region's operations leave. -/
def rcheckV0 (want t : List UInt8) (n : Nat) (ix : Nat) (w : World) (v : Value) : Prop :=
  match ix with
  | 0 => v = .bool false
  | 1 => v = .bool false
  | 2 => True
  | 3 => True
  | 4 => True
  | 5 => True
  | 6 => True
  | 7 => v = .bool false
  | 8 => v = .bool false
  | _ => True

theorem rcheckV0_mono (want t : List UInt8) (n : Nat) (j : Nat) (w w' : World) (v : Value) (hb : Below w.heap.size w w') (h : rcheckV0 want t n j w v) : rcheckV0 want t n j w' v := by
  match j, h with
  | 0, h => exact h
  | 1, h => exact h
  | 2, h => exact trivial
  | 3, h => exact trivial
  | 4, h => exact trivial
  | 5, h => exact trivial
  | 6, h => exact trivial
  | 7, h => exact h
  | 8, h => exact h
  | _ + 9, h => exact trivial

end Go.Proofs.YtaihojahccplcaaDoor

/- Rows copied; the walks of the reference's Prove, Same, Few. -/
namespace Go.Proofs.YtaihojahccplcaaDoor
open Go.RowKit
set_option linter.unusedSimpArgs false
set_option linter.unusedVariables false

/-- 'append(x, ..)' of nothing to nothing. -/
theorem run_append_zero {P : Program} (w : World) (t ty e : TypeId) (i : TypeInfo) (z : Value) (ht : P.underlying t = some (.slice e)) (hi : P.info? e = some i) (hz : i.zero = some z) (b : Addr) (o : Option Addr) (c : Nat) :
    (Builtin.append_ #[t, t] ty #[.slice (some b) 0 0, .slice o 0 c]).run P w = .ok (.slice (some b) 0 0) w := by
  rcases o with _ | a
  · have hf := run_firstCells_none (P := P) w i.size
    simp [Builtin.append_, run_underlying ht, sizeOf, typeInfo, hi, hz, Builtin.lenOf, Builtin.firstCells, storeCells]
  · have hf := run_firstCells_some (P := P) w i.size 0 a 0 c [] (by simp) (by simp)
    simp [Builtin.append_, run_underlying ht, sizeOf, typeInfo, hi, hz, Builtin.lenOf, hf, storeCells]

/-- 'append([]T{}, row...)': the row anew. -/
theorem run_copy_row {P : Program} (w : World) (t ty e : TypeId) (i : TypeInfo) (z : Value) (size bytes : Nat) (ht : P.underlying t = some (.slice e)) (hi : P.info? e = some i) (hz : i.zero = some z) (hsize : i.size = size) (hby : i.bytes = bytes) (hzs : z.cells.size = size) (hsz : 0 < size)
    (b : Addr) (o : Option Addr) (m c : Nat) (news : List Value) (hl : news.length = m * size) (hnews : 0 < m → ∃ a, o = some a ∧ ∀ j u, news[j]? = some u → w.cell? (a.add j) = some u) (b1 : m ≤ maxLen) (b2 : m * bytes ≤ 140737488355328) :
    ∃ q cc w', (Builtin.append_ #[t, t] ty #[.slice (some b) 0 0, .slice o m c]).run P w = .ok (.slice (some q) m cc) w' ∧ m ≤ cc ∧ cc ≤ maxLen ∧ Below w.heap.size w w' ∧ (0 < m → ∃ g, q = ⟨g, 0, none⟩ ∧ g < w'.heap.size ∧ w'.rangeAt g 0 news) := by
  rcases Nat.eq_zero_or_pos m with rfl | hm
  · exact ⟨b, 0, w, run_append_zero w t ty e i z ht hi hz b o c, Nat.le_refl _, by decide, Below.refl _ _, fun h => absurd h (by decide)⟩
  · obtain ⟨a, rfl, hn⟩ := hnews hm
    obtain ⟨v', w', h1, h2, h3⟩ := run_append_arg_grows w t ty e i z size bytes ht hi hz hsize hby hzs hsz b 0 0 [] (by simp) (by simp) a m c news hl hn (by omega) (by omega) (by rw [Nat.zero_add]; exact b2)
    rw [Nat.zero_add, List.nil_append] at h2
    have hcell := fun g hg => h2.cells (g := g) hg
    rcases h2.2 with ⟨_, h0⟩ | ⟨g, cap, cur, rfl, hb, hg, hnc, hcm, _⟩
    · omega
    · refine ⟨⟨g, 0, none⟩, cap, w', h1, hnc, hcm, grown_below h3 (fun k hk => by cases hk) (Nat.le_refl _), fun _ => ⟨g, rfl, lt_of_block hg, fun j u hu => ?_⟩⟩
      have := hcell g rfl j u hu
      rw [Addr.add_mid] at this; exact this

theorem sCells_get (L : List (List UInt8)) (i : Nat) (l : List UInt8) (h : L[i]? = some l) : (L.map fun l => Value.string (strOf l))[i]? = some (.string (strOf l)) := by simp [h]

theorem Tryd.under_strs : Tryd.prog.underlying 24 = some (.slice 9) := by kernel_rfl
theorem Tryd.info_string : (Tryd.prog.info? 9).map (fun i => (i.zero, i.size, i.bytes)) = some (some (.string ⟨#[]⟩), 1, 16) := by kernel_rfl

theorem StrsAt.copy {w : World} {o : Option Addr} {m c : Nat} {L : List (List UInt8)} (h : StrsAt w o m c L) (hm : m ≤ 1000000) (b : Addr) :
    ∃ q cc w', (Builtin.append_ #[24, 24] 24 #[.slice (some b) 0 0, .slice o m c]).run Tryd.prog w = .ok (.slice (some q) m cc) w' ∧ StrsAt w' (some q) m cc L ∧ Below w.heap.size w w' := by
  obtain ⟨i, hi, hz0, hz1, hz2⟩ := info_parts Tryd.info_string
  have hlen := h.len
  obtain ⟨q, cc, w', h1, h2, h3, h4, h5⟩ := run_copy_row (P := Tryd.prog) w 24 24 9 i (.string ⟨#[]⟩) 1 16 Tryd.under_strs hi hz0 hz1 hz2 rfl (by decide) b o m c (L.map fun l => .string (strOf l)) (by rw [List.length_map, hlen, Nat.mul_one]) (fun h0 => by
    obtain ⟨b', off, rfl⟩ := h.form h0
    refine ⟨_, rfl, fun j u hu => ?_⟩
    rw [List.getElem?_map] at hu
    obtain ⟨l, hl, rfl⟩ := Option.map_eq_some_iff.1 hu
    rw [Addr.add_mid]
    exact h.get hl) (by unfold maxLen; omega) (by omega)
  refine ⟨q, cc, w', h1, ⟨hlen, h2, h3, fun h0 => ?_⟩, h4⟩
  obtain ⟨g, rfl, hg, hr⟩ := h5 h0
  refine ⟨g, 0, rfl, hg, fun i l hl => ?_⟩
  intro j u hu
  match j, hu with
  | 0, hu =>
    obtain rfl := Option.some.inj hu
    have := hr i _ (sCells_get L i l hl)
    simpa using this

theorem hashCells_len {d : List (List UInt8)} (h : ∀ p ∈ d, p.length = 32) : (hashCells d).length = d.length * 32 := by
  induction d with
  | nil => rfl
  | cons a d ih =>
    have h1 := h a (by simp)
    have h2 := ih fun p hp => h p (by simp [hp])
    rw [show a :: d = [a] ++ d from rfl, hashCells_app, hashCells_one, List.length_append, h2, byteCells_length, h1]
    simp; omega

theorem hashCells_get {d : List (List UInt8)} (h : ∀ p ∈ d, p.length = 32) {i : Nat} {p : List UInt8} (hp : d[i]? = some p) : ∀ j u, (byteCells p)[j]? = some u → (hashCells d)[i * 32 + j]? = some u := by
  induction d generalizing i with
  | nil => simp at hp
  | cons a d ih =>
    intro j u hu
    have h1 := h a (by simp)
    rw [show a :: d = [a] ++ d from rfl, hashCells_app, hashCells_one]
    have hj := (List.getElem?_eq_some_iff.1 hu).1
    rw [byteCells_length] at hj
    rcases i with _ | i
    · rw [List.getElem?_cons_zero, Option.some.injEq] at hp
      subst hp
      rw [List.getElem?_append_left (by rw [byteCells_length]; omega)]
      simpa using hu
    · rw [List.getElem?_cons_succ] at hp
      rw [List.getElem?_append_right (by rw [byteCells_length]; omega), byteCells_length, h1]
      have := ih (fun p hp => h p (by simp [hp])) hp j u hu
      rwa [show (i + 1) * 32 + j - 32 = i * 32 + j by omega]

theorem hashCells_at {w : World} {b off : Nat} {d : List (List UInt8)} (h : ∀ i p, d[i]? = some p → w.rangeAt b (off + i * 32) (byteCells p)) (h32 : ∀ p ∈ d, p.length = 32) : ∀ j u, (hashCells d)[j]? = some u → w.cell? ⟨b, off + j, none⟩ = some u := by
  intro j u hu
  have hj := (List.getElem?_eq_some_iff.1 hu).1
  rw [hashCells_len h32] at hj
  obtain ⟨p, hp⟩ : ∃ p, d[j / 32]? = some p := ⟨_, List.getElem?_eq_getElem (by omega)⟩
  have hpl := h32 p (List.mem_of_getElem? hp)
  obtain ⟨v, hv⟩ : ∃ v, (byteCells p)[j % 32]? = some v := ⟨_, List.getElem?_eq_getElem (by rw [byteCells_length]; omega)⟩
  have h1 := hashCells_get h32 hp (j % 32) v hv
  rw [show j / 32 * 32 + j % 32 = j by omega] at h1
  obtain rfl := Option.some.inj (h1.symm.trans hu)
  have := h _ p hp (j % 32) v hv
  rwa [show off + j / 32 * 32 + j % 32 = off + j by omega] at this

theorem HashesAt.copy {w : World} {o : Option Addr} {m c : Nat} {L : List (List UInt8)} (h : HashesAt w o m c L) (hm : m ≤ 1000000) (b : Addr) :
    ∃ q cc w', (Builtin.append_ #[30, 30] 30 #[.slice (some b) 0 0, .slice o m c]).run Tryd.prog w = .ok (.slice (some q) m cc) w' ∧ HashesAt w' (some q) m cc L ∧ Below w.heap.size w w' := by
  obtain ⟨i, hi, hz0, hz1, hz2⟩ := info_parts Tryd.info_hs
  have hlen := h.1.1
  obtain ⟨q, cc, w', h1, h2, h3, h4, h5⟩ := run_copy_row (P := Tryd.prog) w 30 30 27 i (.agg zero32) 32 32 Tryd.under_hs hi hz0 hz1 hz2 zero32_size (by decide) b o m c (hashCells L) (by rw [hashCells_len h.2, hlen]) (fun h0 => by
    obtain ⟨b', off, rfl⟩ := h.form h0
    refine ⟨_, rfl, fun j u hu => ?_⟩
    rw [Addr.add_mid]
    exact hashCells_at (fun i p hp => (h.get hp).2) h.2 j u hu) (by unfold maxLen; omega) (by omega)
  refine ⟨q, cc, w', h1, ⟨⟨hlen, h2, h3, fun h0 => ?_⟩, h.2⟩, h4⟩
  obtain ⟨g, rfl, hg, hr⟩ := h5 h0
  refine ⟨g, 0, rfl, hg, fun i p hp j u hu => ?_⟩
  have := hr _ _ (hashCells_get h.2 hp j u hu)
  rwa [show 0 + (i * 32 + j) = 0 + i * 32 + j by omega] at this

/-- A row of the call's own, as one that came in. -/
theorem HashesAt.of_owns {w : World} {base c : Nat} {q : Option Addr} {d : List (List UInt8)} (h : w.ownsRow base 27 32 (.slice q d.length c) d.length (hashCells d)) (h32 : ∀ p ∈ d, p.length = 32) : HashesAt w q d.length c d := by
  have hcell := fun g hg => h.cells (g := g) hg
  rcases h.2 with ⟨hv, h0⟩ | ⟨g, cap, cur, hv, hb, hg, hnc, hcm, _⟩
  · simp only [Value.slice.injEq] at hv
    obtain ⟨rfl, h1, rfl⟩ := hv
    exact ⟨⟨rfl, by omega, by decide, fun h => by omega⟩, h32⟩
  · simp only [Value.slice.injEq, true_and] at hv
    obtain ⟨rfl, rfl⟩ := hv
    refine ⟨⟨rfl, hnc, hcm, fun _ => ⟨g, 0, rfl, lt_of_block hg, fun i p hp j u hu => ?_⟩⟩, h32⟩
    have := hcell g rfl _ u (hashCells_get h32 hp j u hu)
    rw [Addr.add_mid] at this
    rwa [show 0 + (i * 32 + j) = 0 + i * 32 + j by omega] at this

theorem Tree.prove_32 (N : Nat) : ∀ (l : List (List UInt8)) (i : Nat), l.length = N → ∀ p ∈ Tree.prove l i, p.length = 32 := by
  induction N using Nat.strongRecOn with
  | ind N ih =>
    intro l i hl p hp
    by_cases h : 2 ≤ l.length
    · have h1 := Tree.half_pos h
      have h2 := Tree.half_lt h
      by_cases hi : i < Tree.half l.length
      · rw [Tree.prove_left h hi] at hp
        rcases List.mem_append.1 hp with hp | hp
        · exact ih (Tree.half l.length) (by omega) (l.take (Tree.half l.length)) i (by rw [List.length_take]; omega) p hp
        · obtain rfl := List.mem_singleton.1 hp; exact Tree.top_len _
      · rw [Tree.prove_right h hi] at hp
        rcases List.mem_append.1 hp with hp | hp
        · exact ih (l.length - Tree.half l.length) (by omega) (l.drop (Tree.half l.length)) (i - Tree.half l.length) (by rw [List.length_drop]) p hp
        · obtain rfl := List.mem_singleton.1 hp; exact Tree.top_len _
    · rw [Tree.prove_small h] at hp; cases hp

theorem owns_mono {w : World} {B B' : Nat} {e size : Nat} {v : Value} {n : Nat} {xs : List Value} (h : w.ownsRow B e size v n xs) (hB : B' ≤ B) : w.ownsRow B' e size v n xs :=
  ⟨h.1, h.2.imp id fun ⟨g, cap, cur, h1, h2, h3⟩ => ⟨g, cap, cur, h1, Nat.le_trans hB h2, h3⟩⟩

/-- What the region's operations leave. -/
def rpL (B b off n cap k i : Nat) (L R : List (List UInt8)) (ix : Nat) (w : World) (v : Value) : Prop :=
  match ix with
  | 0 => v = .slice (some ⟨b, off, none⟩) n cap
  | 1 => v = .int .i64 (k : Int)
  | 2 => v = (.slice (some ⟨b, off, none⟩) k cap)
  | 3 => v = .int .i64 (i : Int)
  | 4 => ∃ q c, v = .slice q R.length c ∧ w.ownsRow B 27 32 (.slice q R.length c) R.length (hashCells R)
  | 5 => v = .slice (some ⟨b, off, none⟩) n cap
  | 6 => v = .int .i64 (k : Int)
  | 7 => v = (.slice (some ⟨b, off + k, none⟩) (n - k) (cap - k))
  | 8 => v = .agg (byteCells (Tree.top (L.drop k))).toArray
  | 9 => ∃ g, v = .slice (some ⟨g, 0, none⟩) 1 1 ∧ w.heap[g]? = some (.cells (byteCells (Tree.top (L.drop k))).toArray 27 (0, 0))
  | _ => True

theorem rpL_mono (B b off n cap k i : Nat) (L R : List (List UInt8)) (jx : Nat) (w w' : World) (v : Value) (hb : Below w.heap.size w w') (h : rpL B b off n cap k i L R jx w v) : rpL B b off n cap k i L R jx w' v := by
  match jx, h with
  | 0, h => exact h
  | 1, h => exact h
  | 2, h => exact h
  | 3, h => exact h
  | 4, h => exact (let ⟨q, c, h1, h2⟩ := h; ⟨q, c, h1, owns_below h2 hb⟩)
  | 5, h => exact h
  | 6, h => exact h
  | 7, h => exact h
  | 8, h => exact h
  | 9, h => exact (let ⟨g, h1, h2⟩ := h; ⟨g, h1, (hb.block g (lt_of_block h2)).trans h2⟩)
  | _ + 10, h => exact trivial

/-- What the region's operations leave. -/
def rpR (B b off n cap k i : Nat) (L R : List (List UInt8)) (ix : Nat) (w : World) (v : Value) : Prop :=
  match ix with
  | 0 => v = .slice (some ⟨b, off, none⟩) n cap
  | 1 => v = .int .i64 (k : Int)
  | 2 => v = (.slice (some ⟨b, off + k, none⟩) (n - k) (cap - k))
  | 3 => v = .int .i64 (i : Int)
  | 4 => v = .int .i64 (k : Int)
  | 5 => v = .int .i64 ((i - k : Nat) : Int)
  | 6 => ∃ q c, v = .slice q R.length c ∧ w.ownsRow B 27 32 (.slice q R.length c) R.length (hashCells R)
  | 7 => v = .slice (some ⟨b, off, none⟩) n cap
  | 8 => v = .int .i64 (k : Int)
  | 9 => v = (.slice (some ⟨b, off, none⟩) k cap)
  | 10 => v = .agg (byteCells (Tree.top (L.take k))).toArray
  | 11 => ∃ g, v = .slice (some ⟨g, 0, none⟩) 1 1 ∧ w.heap[g]? = some (.cells (byteCells (Tree.top (L.take k))).toArray 27 (0, 0))
  | _ => True

theorem rpR_mono (B b off n cap k i : Nat) (L R : List (List UInt8)) (jx : Nat) (w w' : World) (v : Value) (hb : Below w.heap.size w w') (h : rpR B b off n cap k i L R jx w v) : rpR B b off n cap k i L R jx w' v := by
  match jx, h with
  | 0, h => exact h
  | 1, h => exact h
  | 2, h => exact h
  | 3, h => exact h
  | 4, h => exact h
  | 5, h => exact h
  | 6, h => exact (let ⟨q, c, h1, h2⟩ := h; ⟨q, c, h1, owns_below h2 hb⟩)
  | 7, h => exact h
  | 8, h => exact h
  | 9, h => exact h
  | 10, h => exact h
  | 11, h => exact (let ⟨g, h1, h2⟩ := h; ⟨g, h1, (hb.block g (lt_of_block h2)).trans h2⟩)
  | _ + 12, h => exact trivial

theorem hash_neq (w : World) (a b : List UInt8) (ha : a.length = 32) (hb : b.length = 32) :
    (binOp .neq 27 (.agg (byteCells a).toArray) (.agg (byteCells b).toArray)).run Tryd.prog w = .ok (.bool (!(a == b))) w := by
  have h := run_equalIn_bytes (P := Tryd.prog) w 9998 27 5 32 Tryd.under_hh Tryd.under_bb Tryd.size_bb a b ha hb
  rw [run_neq_struct]
  exact (congrArg (fun r => Result.andThen r fun b w' => Result.ok (Value.bool (!b)) w') h).trans rfl

theorem wpList_neq_hash {ops : Array Oper} {rest : List Oper} {op : Oper} {a : Act} {w : World} {Q : Exit → Act → World → Prop} (hgd : Region.wanted op (yielded ops a.tmps) = true) (x y : Operand) (ho : op.op = .binOp .neq 27 x y 27)
    (u v : List UInt8) (hu : u.length = 32) (hv : v.length = 32) (hx : a.eval x = .agg (byteCells u).toArray) (hy : a.eval y = .agg (byteCells v).toArray)
    (h : wpList Tryd.prog ops Q rest (a.put op.dst (.bool (!(u == v)))) w) : wpList Tryd.prog ops Q (op :: rest) a w :=
  wpList_step fun K hK => by
    rw [if_pos hgd]
    have hg := run_eqGuard_agg (P := Tryd.prog) w .neq 27 x y (byteCells u).toArray (byteCells v).toArray Tryd.eqg_hh
    have he := hash_neq w u v hu hv
    unfold Oper.wp execOp
    simp only [ho, hx, hy, Sem.run_bind, hg, he, Result.andThen_ok, Sem.run_pure]
    exact hK _ _ h

/-- What the region's operations leave. -/
def sameV (b off n cap b' off' cap' j : Nat) (p q : List UInt8) (ix : Nat) (w : World) (v : Value) : Prop :=
  match ix with
  | 0 => v = .slice (some ⟨b, off, none⟩) n cap
  | 1 => v = .int .i64 (j : Int)
  | 2 => v = .pointer (some ⟨b, off + j * 32, none⟩)
  | 3 => v = .agg (byteCells p).toArray
  | 4 => v = .slice (some ⟨b', off', none⟩) n cap'
  | 5 => v = .int .i64 (j : Int)
  | 6 => v = .pointer (some ⟨b', off' + j * 32, none⟩)
  | 7 => v = .agg (byteCells q).toArray
  | 8 => v = .bool (!(p == q))
  | _ => True

theorem sameV_mono (b off n cap b' off' cap' j : Nat) (p q : List UInt8) (jx : Nat) (w w' : World) (v : Value) (hb : Below w.heap.size w w') (h : sameV b off n cap b' off' cap' j p q jx w v) : sameV b off n cap b' off' cap' j p q jx w' v := by
  match jx, h with
  | 0, h => exact h
  | 1, h => exact h
  | 2, h => exact h
  | 3, h => exact h
  | 4, h => exact h
  | 5, h => exact h
  | 6, h => exact h
  | 7, h => exact h
  | 8, h => exact h
  | _ + 9, h => exact trivial

/-- The leaves aren't too many or long. -/
def few (L : List (List UInt8)) : Bool := L.all (fun l => decide (l.length ≤ 200)) && decide (L.length ≤ 20)

theorem few_spec {L : List (List UInt8)} (h : few L = true) : L.length ≤ 20 ∧ ∀ l ∈ L, l.length ≤ 200 := by
  unfold few at h
  rw [Bool.and_eq_true, List.all_eq_true] at h
  exact ⟨of_decide_eq_true h.2, fun l hl => of_decide_eq_true (h.1 l hl)⟩

end Go.Proofs.YtaihojahccplcaaDoor

/- An append whose run is known, in a walk. -/
namespace Go.Proofs.YtaihojahccplcaaDoor
open Go.RowKit
set_option linter.unusedSimpArgs false
set_option linter.unusedVariables false

theorem wpList_append_ran {P : Program} {ops : Array Oper} {rest : List Oper} {o : Oper} {a : Act} {w : World} {Q : Exit → Act → World → Prop} (hgd : Region.wanted o (yielded ops a.tmps) = true) (x y : Operand) (t : TypeId) (ho : o.op = .call { callee := .builtin .append, args := #[x, y], argTypes := #[t, t] })
    (vx vy : Value) (hx : a.eval x = vx) (hy : a.eval y = vy) {v : Value} {w' : World} (hr : (Builtin.append_ #[t, t] o.type #[vx, vy]).run P w = .ok v w')
    (h : wpList P ops Q rest (a.put o.dst v) w') : wpList P ops Q (o :: rest) a w :=
  wpList_step fun _ hK => by
    rw [if_pos hgd]
    exact Lib.wp_append_run_sl w x y t ho vx vy hx hy hr (hK _ _ h)

end Go.Proofs.YtaihojahccplcaaDoor

/- Vertices: state.great, Check, bit; the document's Great, Right, bit. -/
namespace Go.Proofs.YtaihojahccplcaaDoor
open Go.RowKit
set_option linter.unusedSimpArgs false
set_option linter.unusedVariables false

/-- A vertex as the model has it. -/
def VertexV.cells (x : St.V) : List Value := [.int .i64 x.id, .int .i64 x.value, .bool x.active, .bool x.has, .int .i64 x.inn]

theorem stGreat_any (w : World) (n : Int) : Calls Tryd.prog 39 #[.int .i64 n] w fun e w' => w = w' ∧ e = .returned (.bool (St.great n)) := by
  by_cases h1 : 1125899906842624 < n
  · have t1 : decide ((1125899906842624 : Int) < n) = true := decide_eq_true h1
    have hg : St.great n = true := by unfold St.great; rw [t1]; rfl
    have HG := Lib.hid hg; clear hg
    go_enter Tryd.func39, Tryd.ntmps39
    go_wp2_with fail
    go_ret
    exact ⟨rfl, by rw [HG.out]; rfl⟩
  · have t1 : decide ((1125899906842624 : Int) < n) = false := decide_eq_false h1
    by_cases h2 : n < -1125899906842624
    · have t2 : decide (n < (-1125899906842624 : Int)) = true := decide_eq_true h2
      have hg : St.great n = true := by unfold St.great; rw [t2]; simp
      have HG := Lib.hid hg; clear hg
      go_enter Tryd.func39, Tryd.ntmps39
      go_wp2_with fail
      go_ret
      exact ⟨rfl, by rw [HG.out]; rfl⟩
    · have t2 : decide (n < (-1125899906842624 : Int)) = false := decide_eq_false h2
      have hg : St.great n = false := by unfold St.great; rw [t1, t2]; rfl
      have HG := Lib.hid hg; clear hg
      go_enter Tryd.func39, Tryd.ntmps39
      go_wp2_with fail
      go_ret
      exact ⟨rfl, by rw [HG.out]; rfl⟩

theorem refGreat_any (w : World) (n : Int) : Calls Tryd.prog 38 #[.int .i64 n] w fun e w' => w = w' ∧ e = .returned (.bool (St.great n)) := by
  by_cases h1 : 1125899906842624 < n
  · have t1 : decide ((1125899906842624 : Int) < n) = true := decide_eq_true h1
    have hg : St.great n = true := by unfold St.great; rw [t1]; rfl
    have HG := Lib.hid hg; clear hg
    go_enter Tryd.func38, Tryd.ntmps38
    go_wp2_with fail
    go_ret
    exact ⟨rfl, by rw [HG.out]; rfl⟩
  · have t1 : decide ((1125899906842624 : Int) < n) = false := decide_eq_false h1
    by_cases h2 : n < -1125899906842624
    · have t2 : decide (n < (-1125899906842624 : Int)) = true := decide_eq_true h2
      have hg : St.great n = true := by unfold St.great; rw [t2]; simp
      have HG := Lib.hid hg; clear hg
      go_enter Tryd.func38, Tryd.ntmps38
      go_wp2_with fail
      go_ret
      exact ⟨rfl, by rw [HG.out]; rfl⟩
    · have t2 : decide (n < (-1125899906842624 : Int)) = false := decide_eq_false h2
      have hg : St.great n = false := by unfold St.great; rw [t1, t2]; rfl
      have HG := Lib.hid hg; clear hg
      go_enter Tryd.func38, Tryd.ntmps38
      go_wp2_with fail
      go_ret
      exact ⟨rfl, by rw [HG.out]; rfl⟩

theorem stBit_any (w : World) (b : Bool) : Calls Tryd.prog 30 #[.bool b] w fun e w' => w = w' ∧ e = .returned (.int .u64 (St.bit b : Int)) := by
  cases b
  · go_enter Tryd.func30, Tryd.ntmps30
    go_wp2_with fail
    go_ret
    exact ⟨rfl, rfl⟩
  · go_enter Tryd.func30, Tryd.ntmps30
    go_wp2_with fail
    go_ret
    exact ⟨rfl, rfl⟩
theorem refBit_any (w : World) (b : Bool) : Calls Tryd.prog 37 #[.bool b] w fun e w' => w = w' ∧ e = .returned (.string (strOf [UInt8.ofNat (St.bit b)])) := by
  cases b
  · go_enter Tryd.func37, Tryd.ntmps37
    go_wp2_with fail
    go_ret
    exact ⟨rfl, rfl⟩
  · go_enter Tryd.func37, Tryd.ntmps37
    go_wp2_with fail
    go_ret
    exact ⟨rfl, rfl⟩

end Go.Proofs.YtaihojahccplcaaDoor

/- Vertices: state.Check and the document's Right. -/
namespace Go.Proofs.YtaihojahccplcaaDoor
open Go.RowKit
set_option linter.unusedSimpArgs false
set_option linter.unusedVariables false

theorem vertex_cells (w : World) (x : St.V) (W : World) (hW : W = w.alloc (.cells (VertexV.cells x).toArray 36)) :
    W.cell? ⟨w.heap.size, 0, none⟩ = some (.int .i64 x.id) ∧ W.cell? ⟨w.heap.size, 1, none⟩ = some (.int .i64 x.value) ∧ W.cell? ⟨w.heap.size, 2, none⟩ = some (.bool x.active) ∧ W.cell? ⟨w.heap.size, 3, none⟩ = some (.bool x.has) ∧ W.cell? ⟨w.heap.size, 4, none⟩ = some (.int .i64 x.inn) ∧ Below w.heap.size w W := by
  have h : W.heap[w.heap.size]? = some (.cells (VertexV.cells x).toArray 36 (0, 0)) := by rw [hW]; exact heap_alloc_new w _
  have hb : Below w.heap.size w W := by rw [hW]; exact (Below.refl _ _).alloc (Nat.le_refl _) _
  refine ⟨?_, ?_, ?_, ?_, ?_, hb⟩ <;> simp [World.cell?, h, VertexV.cells]

set_option maxHeartbeats 2000000 in
theorem stCheck_any (w : World) (x : St.V) : Calls Tryd.prog 18 #[.agg (VertexV.cells x).toArray] w fun e w' => e = .returned (.int .i64 (if St.right x then 0 else 100)) ∧ Below w.heap.size w w' := by
  obtain ⟨e0, he0⟩ : ∃ e0 : Value, e0 = (.int .i64 (if St.right x then 0 else 100)) := ⟨_, rfl⟩
  rw [← he0]
  have HE := Lib.hid he0; clear he0
  obtain ⟨W, hW⟩ : ∃ W, W = w.alloc (.cells (VertexV.cells x).toArray 36) := ⟨_, rfl⟩
  obtain ⟨c0, c1, c2, c3, c4, bw⟩ := vertex_cells w x W hW
  obtain ⟨id, value, active, has, inn⟩ := x
  simp only at c0 c1 c2 c3 c4
  have HW := Lib.hid hW; clear hW
  by_cases h0 : id < 0
  · have t0 : decide (id < 0) = true := decide_eq_true h0
    have t0' : decide (0 ≤ id) = false := decide_eq_false (by omega)
    have hr : St.right ⟨id, value, active, has, inn⟩ = false := by rw [Bool.eq_false_iff]; intro h; obtain ⟨a1, a2, a3, a4, a5⟩ := St.right_iff.1 h; simp only at a1 a2 a3 a4 a5; omega
    have HR := Lib.hid hr; clear hr
    go_enter Tryd.func18, Tryd.ntmps18
    go_wp2_with ((with_reducible show wpList _ _ _ (⟨some 3, _, _, _, _, _⟩ :: _) _ _); change wpList _ _ _ _ _ (w.alloc (.cells (VertexV.cells ⟨id, value, active, has, inn⟩).toArray 36)); rw [← HW.out])
    go_ret
    exact ⟨by rw [HE.out, HR.out]; rfl, bw⟩
  · have t0 : decide (id < 0) = false := decide_eq_false h0
    have t0' : decide (0 ≤ id) = true := decide_eq_true (by omega)
    by_cases h1 : 64 ≤ id
    · have t1 : decide (64 ≤ id) = true := decide_eq_true h1
      have t1' : decide (id < 64) = false := decide_eq_false (by omega)
      have hr : St.right ⟨id, value, active, has, inn⟩ = false := by rw [Bool.eq_false_iff]; intro h; obtain ⟨a1, a2, a3, a4, a5⟩ := St.right_iff.1 h; simp only at a1 a2 a3 a4 a5; omega
      have HR := Lib.hid hr; clear hr
      go_enter Tryd.func18, Tryd.ntmps18
      go_wp2_with ((with_reducible show wpList _ _ _ (⟨some 3, _, _, _, _, _⟩ :: _) _ _); change wpList _ _ _ _ _ (w.alloc (.cells (VertexV.cells ⟨id, value, active, has, inn⟩).toArray 36)); rw [← HW.out])
      go_ret
      exact ⟨by rw [HE.out, HR.out]; rfl, bw⟩
    · have t1 : decide (64 ≤ id) = false := decide_eq_false h1
      have t1' : decide (id < 64) = true := decide_eq_true (by omega)
      rcases g1 : St.great value with _ | _
      · rcases g2 : St.great inn with _ | _
        · cases has with
          | true =>
            have hr : St.right ⟨id, value, active, true, inn⟩ = true := St.right_iff.2 ⟨by simp only; omega, by simp only; omega, g1, g2, .inl rfl⟩
            have HR := Lib.hid hr; clear hr
            have hc1 := stGreat_any W value
            rw [g1] at hc1
            have HC1 := Lib.hid hc1; clear hc1
            have hc2 := stGreat_any W inn
            rw [g2] at hc2
            have HC2 := Lib.hid hc2; clear hc2
            go_enter Tryd.func18, Tryd.ntmps18
            go_wp2_with ((with_reducible show wpList _ _ _ (⟨some 3, _, _, _, _, _⟩ :: _) _ _); change wpList _ _ _ _ _ (w.alloc (.cells (VertexV.cells ⟨id, value, active, true, inn⟩).toArray 36)); rw [← HW.out])
            refine HC1.out.mono ?_
            rintro e w1 ⟨rfl, rfl⟩
            go_wp2_with fail
            refine HC2.out.mono ?_
            rintro e w2 ⟨rfl, rfl⟩
            go_wp2_with fail
            go_ret
            exact ⟨by rw [HE.out, HR.out]; rfl, bw⟩
          | false =>
            by_cases h3 : inn = 0
            · have t3 : (inn != 0) = false := by simp [h3]
              have t3' : (inn == 0) = true := by simp [h3]
              have H3 := Lib.hid h3; clear h3
              have hr : St.right ⟨id, value, active, false, inn⟩ = true := St.right_iff.2 ⟨by simp only; omega, by simp only; omega, g1, g2, .inr H3.out⟩
              have HR := Lib.hid hr; clear hr
              have hc1 := stGreat_any W value
              rw [g1] at hc1
              have HC1 := Lib.hid hc1; clear hc1
              have hc2 := stGreat_any W inn
              rw [g2] at hc2
              have HC2 := Lib.hid hc2; clear hc2
              go_enter Tryd.func18, Tryd.ntmps18
              go_wp2_with ((with_reducible show wpList _ _ _ (⟨some 3, _, _, _, _, _⟩ :: _) _ _); change wpList _ _ _ _ _ (w.alloc (.cells (VertexV.cells ⟨id, value, active, false, inn⟩).toArray 36)); rw [← HW.out])
              refine HC1.out.mono ?_
              rintro e w1 ⟨rfl, rfl⟩
              go_wp2_with fail
              refine HC2.out.mono ?_
              rintro e w2 ⟨rfl, rfl⟩
              go_wp2_with fail
              go_ret
              exact ⟨by rw [HE.out, HR.out]; rfl, bw⟩
            · have t3 : (inn != 0) = true := by simp [h3]
              have t3' : (inn == 0) = false := by simp [h3]
              have H3 := Lib.hid h3; clear h3
              have hr : St.right ⟨id, value, active, false, inn⟩ = false := by rw [Bool.eq_false_iff]; intro h; obtain ⟨a1, a2, a3, a4, a5⟩ := St.right_iff.1 h; simp only at a1 a2 a3 a4 a5; exact a5.elim (fun h => by cases h) (fun h => H3.out h)
              have HR := Lib.hid hr; clear hr
              have hc1 := stGreat_any W value
              rw [g1] at hc1
              have HC1 := Lib.hid hc1; clear hc1
              have hc2 := stGreat_any W inn
              rw [g2] at hc2
              have HC2 := Lib.hid hc2; clear hc2
              go_enter Tryd.func18, Tryd.ntmps18
              go_wp2_with ((with_reducible show wpList _ _ _ (⟨some 3, _, _, _, _, _⟩ :: _) _ _); change wpList _ _ _ _ _ (w.alloc (.cells (VertexV.cells ⟨id, value, active, false, inn⟩).toArray 36)); rw [← HW.out])
              refine HC1.out.mono ?_
              rintro e w1 ⟨rfl, rfl⟩
              go_wp2_with fail
              refine HC2.out.mono ?_
              rintro e w2 ⟨rfl, rfl⟩
              go_wp2_with fail
              go_ret
              exact ⟨by rw [HE.out, HR.out]; rfl, bw⟩
        ·
          have hr : St.right ⟨id, value, active, has, inn⟩ = false := by rw [Bool.eq_false_iff]; intro h; obtain ⟨a1, a2, a3, a4, a5⟩ := St.right_iff.1 h; simp only at a1 a2 a3 a4 a5; rw [g2] at a4; cases a4
          have HR := Lib.hid hr; clear hr
          have hc1 := stGreat_any W value
          rw [g1] at hc1
          have HC1 := Lib.hid hc1; clear hc1
          have hc2 := stGreat_any W inn
          rw [g2] at hc2
          have HC2 := Lib.hid hc2; clear hc2
          go_enter Tryd.func18, Tryd.ntmps18
          go_wp2_with ((with_reducible show wpList _ _ _ (⟨some 3, _, _, _, _, _⟩ :: _) _ _); change wpList _ _ _ _ _ (w.alloc (.cells (VertexV.cells ⟨id, value, active, has, inn⟩).toArray 36)); rw [← HW.out])
          refine HC1.out.mono ?_
          rintro e w1 ⟨rfl, rfl⟩
          go_wp2_with fail
          refine HC2.out.mono ?_
          rintro e w2 ⟨rfl, rfl⟩
          go_wp2_with fail
          go_ret
          exact ⟨by rw [HE.out, HR.out]; rfl, bw⟩
      ·
        have hr : St.right ⟨id, value, active, has, inn⟩ = false := by rw [Bool.eq_false_iff]; intro h; obtain ⟨a1, a2, a3, a4, a5⟩ := St.right_iff.1 h; simp only at a1 a2 a3 a4 a5; rw [g1] at a3; cases a3
        have HR := Lib.hid hr; clear hr
        have hc1 := stGreat_any W value
        rw [g1] at hc1
        have HC1 := Lib.hid hc1; clear hc1
        go_enter Tryd.func18, Tryd.ntmps18
        go_wp2_with ((with_reducible show wpList _ _ _ (⟨some 3, _, _, _, _, _⟩ :: _) _ _); change wpList _ _ _ _ _ (w.alloc (.cells (VertexV.cells ⟨id, value, active, has, inn⟩).toArray 36)); rw [← HW.out])
        refine HC1.out.mono ?_
        rintro e w1 ⟨rfl, rfl⟩
        go_wp2_with fail
        go_ret
        exact ⟨by rw [HE.out, HR.out]; rfl, bw⟩

set_option maxHeartbeats 2000000 in
theorem refRight_any (w : World) (x : St.V) : Calls Tryd.prog 17 #[.agg (VertexV.cells x).toArray] w fun e w' => e = .returned (.bool (St.right x)) ∧ Below w.heap.size w w' := by
  obtain ⟨e0, he0⟩ : ∃ e0 : Value, e0 = (.bool (St.right x)) := ⟨_, rfl⟩
  rw [← he0]
  have HE := Lib.hid he0; clear he0
  obtain ⟨W, hW⟩ : ∃ W, W = w.alloc (.cells (VertexV.cells x).toArray 36) := ⟨_, rfl⟩
  obtain ⟨c0, c1, c2, c3, c4, bw⟩ := vertex_cells w x W hW
  obtain ⟨id, value, active, has, inn⟩ := x
  simp only at c0 c1 c2 c3 c4
  have HW := Lib.hid hW; clear hW
  by_cases h0 : id < 0
  · have t0 : decide (id < 0) = true := decide_eq_true h0
    have t0' : decide (0 ≤ id) = false := decide_eq_false (by omega)
    have hr : St.right ⟨id, value, active, has, inn⟩ = false := by rw [Bool.eq_false_iff]; intro h; obtain ⟨a1, a2, a3, a4, a5⟩ := St.right_iff.1 h; simp only at a1 a2 a3 a4 a5; omega
    have HR := Lib.hid hr; clear hr
    go_enter Tryd.func17, Tryd.ntmps17
    go_wp2_with ((with_reducible show wpList _ _ _ (⟨some 3, _, _, _, _, _⟩ :: _) _ _); change wpList _ _ _ _ _ (w.alloc (.cells (VertexV.cells ⟨id, value, active, has, inn⟩).toArray 36)); rw [← HW.out])
    go_ret
    exact ⟨by rw [HE.out, HR.out]; rfl, bw⟩
  · have t0 : decide (id < 0) = false := decide_eq_false h0
    have t0' : decide (0 ≤ id) = true := decide_eq_true (by omega)
    by_cases h1 : 64 ≤ id
    · have t1 : decide (64 ≤ id) = true := decide_eq_true h1
      have t1' : decide (id < 64) = false := decide_eq_false (by omega)
      have hr : St.right ⟨id, value, active, has, inn⟩ = false := by rw [Bool.eq_false_iff]; intro h; obtain ⟨a1, a2, a3, a4, a5⟩ := St.right_iff.1 h; simp only at a1 a2 a3 a4 a5; omega
      have HR := Lib.hid hr; clear hr
      go_enter Tryd.func17, Tryd.ntmps17
      go_wp2_with ((with_reducible show wpList _ _ _ (⟨some 3, _, _, _, _, _⟩ :: _) _ _); change wpList _ _ _ _ _ (w.alloc (.cells (VertexV.cells ⟨id, value, active, has, inn⟩).toArray 36)); rw [← HW.out])
      go_ret
      exact ⟨by rw [HE.out, HR.out]; rfl, bw⟩
    · have t1 : decide (64 ≤ id) = false := decide_eq_false h1
      have t1' : decide (id < 64) = true := decide_eq_true (by omega)
      rcases g1 : St.great value with _ | _
      · rcases g2 : St.great inn with _ | _
        · cases has with
          | true =>
            have hr : St.right ⟨id, value, active, true, inn⟩ = true := St.right_iff.2 ⟨by simp only; omega, by simp only; omega, g1, g2, .inl rfl⟩
            have HR := Lib.hid hr; clear hr
            have hc1 := refGreat_any W value
            rw [g1] at hc1
            have HC1 := Lib.hid hc1; clear hc1
            have hc2 := refGreat_any W inn
            rw [g2] at hc2
            have HC2 := Lib.hid hc2; clear hc2
            go_enter Tryd.func17, Tryd.ntmps17
            go_wp2_with ((with_reducible show wpList _ _ _ (⟨some 3, _, _, _, _, _⟩ :: _) _ _); change wpList _ _ _ _ _ (w.alloc (.cells (VertexV.cells ⟨id, value, active, true, inn⟩).toArray 36)); rw [← HW.out])
            refine HC1.out.mono ?_
            rintro e w1 ⟨rfl, rfl⟩
            go_wp2_with fail
            refine HC2.out.mono ?_
            rintro e w2 ⟨rfl, rfl⟩
            go_wp2_with fail
            go_ret
            exact ⟨by rw [HE.out, HR.out]; rfl, bw⟩
          | false =>
            by_cases h3 : inn = 0
            · have t3 : (inn != 0) = false := by simp [h3]
              have t3' : (inn == 0) = true := by simp [h3]
              have H3 := Lib.hid h3; clear h3
              have hr : St.right ⟨id, value, active, false, inn⟩ = true := St.right_iff.2 ⟨by simp only; omega, by simp only; omega, g1, g2, .inr H3.out⟩
              have HR := Lib.hid hr; clear hr
              have hc1 := refGreat_any W value
              rw [g1] at hc1
              have HC1 := Lib.hid hc1; clear hc1
              have hc2 := refGreat_any W inn
              rw [g2] at hc2
              have HC2 := Lib.hid hc2; clear hc2
              go_enter Tryd.func17, Tryd.ntmps17
              go_wp2_with ((with_reducible show wpList _ _ _ (⟨some 3, _, _, _, _, _⟩ :: _) _ _); change wpList _ _ _ _ _ (w.alloc (.cells (VertexV.cells ⟨id, value, active, false, inn⟩).toArray 36)); rw [← HW.out])
              refine HC1.out.mono ?_
              rintro e w1 ⟨rfl, rfl⟩
              go_wp2_with fail
              refine HC2.out.mono ?_
              rintro e w2 ⟨rfl, rfl⟩
              go_wp2_with fail
              go_ret
              exact ⟨by rw [HE.out, HR.out]; rfl, bw⟩
            · have t3 : (inn != 0) = true := by simp [h3]
              have t3' : (inn == 0) = false := by simp [h3]
              have H3 := Lib.hid h3; clear h3
              have hr : St.right ⟨id, value, active, false, inn⟩ = false := by rw [Bool.eq_false_iff]; intro h; obtain ⟨a1, a2, a3, a4, a5⟩ := St.right_iff.1 h; simp only at a1 a2 a3 a4 a5; exact a5.elim (fun h => by cases h) (fun h => H3.out h)
              have HR := Lib.hid hr; clear hr
              have hc1 := refGreat_any W value
              rw [g1] at hc1
              have HC1 := Lib.hid hc1; clear hc1
              have hc2 := refGreat_any W inn
              rw [g2] at hc2
              have HC2 := Lib.hid hc2; clear hc2
              go_enter Tryd.func17, Tryd.ntmps17
              go_wp2_with ((with_reducible show wpList _ _ _ (⟨some 3, _, _, _, _, _⟩ :: _) _ _); change wpList _ _ _ _ _ (w.alloc (.cells (VertexV.cells ⟨id, value, active, false, inn⟩).toArray 36)); rw [← HW.out])
              refine HC1.out.mono ?_
              rintro e w1 ⟨rfl, rfl⟩
              go_wp2_with fail
              refine HC2.out.mono ?_
              rintro e w2 ⟨rfl, rfl⟩
              go_wp2_with fail
              go_ret
              exact ⟨by rw [HE.out, HR.out]; rfl, bw⟩
        ·
          have hr : St.right ⟨id, value, active, has, inn⟩ = false := by rw [Bool.eq_false_iff]; intro h; obtain ⟨a1, a2, a3, a4, a5⟩ := St.right_iff.1 h; simp only at a1 a2 a3 a4 a5; rw [g2] at a4; cases a4
          have HR := Lib.hid hr; clear hr
          have hc1 := refGreat_any W value
          rw [g1] at hc1
          have HC1 := Lib.hid hc1; clear hc1
          have hc2 := refGreat_any W inn
          rw [g2] at hc2
          have HC2 := Lib.hid hc2; clear hc2
          go_enter Tryd.func17, Tryd.ntmps17
          go_wp2_with ((with_reducible show wpList _ _ _ (⟨some 3, _, _, _, _, _⟩ :: _) _ _); change wpList _ _ _ _ _ (w.alloc (.cells (VertexV.cells ⟨id, value, active, has, inn⟩).toArray 36)); rw [← HW.out])
          refine HC1.out.mono ?_
          rintro e w1 ⟨rfl, rfl⟩
          go_wp2_with fail
          refine HC2.out.mono ?_
          rintro e w2 ⟨rfl, rfl⟩
          go_wp2_with fail
          go_ret
          exact ⟨by rw [HE.out, HR.out]; rfl, bw⟩
      ·
        have hr : St.right ⟨id, value, active, has, inn⟩ = false := by rw [Bool.eq_false_iff]; intro h; obtain ⟨a1, a2, a3, a4, a5⟩ := St.right_iff.1 h; simp only at a1 a2 a3 a4 a5; rw [g1] at a3; cases a3
        have HR := Lib.hid hr; clear hr
        have hc1 := refGreat_any W value
        rw [g1] at hc1
        have HC1 := Lib.hid hc1; clear hc1
        go_enter Tryd.func17, Tryd.ntmps17
        go_wp2_with ((with_reducible show wpList _ _ _ (⟨some 3, _, _, _, _, _⟩ :: _) _ _); change wpList _ _ _ _ _ (w.alloc (.cells (VertexV.cells ⟨id, value, active, has, inn⟩).toArray 36)); rw [← HW.out])
        refine HC1.out.mono ?_
        rintro e w1 ⟨rfl, rfl⟩
        go_wp2_with fail
        go_ret
        exact ⟨by rw [HE.out, HR.out]; rfl, bw⟩

end Go.Proofs.YtaihojahccplcaaDoor

/- What arguments read as: vertices. -/
namespace Go.Proofs.YtaihojahccplcaaDoor
open Go.ChangeShapes Go.WideShapes Go.ChangeAt Go.RowKit

theorem Tryd.under_int : Tryd.prog.underlying 3 = some (.int .i64) := by kernel_rfl
theorem Tryd.under_i64 : Tryd.prog.underlying 2 = some (.int .i64) := by kernel_rfl
theorem Tryd.under_bool : Tryd.prog.underlying 4 = some .bool := by kernel_rfl
theorem Tryd.cells_int : Tryd.prog.cellsOf 3 = 1 := by kernel_rfl
theorem Tryd.cells_i64 : Tryd.prog.cellsOf 2 = 1 := by kernel_rfl
theorem Tryd.cells_bool : Tryd.prog.cellsOf 4 = 1 := by kernel_rfl
theorem Tryd.cells_vertex : Tryd.prog.cellsOf 36 = 5 := by kernel_rfl

section
variable {H : Type} {enc : TypeId × Value → H} {w : World} {base : Nat} {spare : Nat → Bool} {held : Bool}

theorem open_vertex (n : Nat) (cs : List Value) (y : DataW H × List MemPlace) (h : DataW.trod enc Tryd.prog w base spare held n 36 cs = some y) : ∃ f : St.V, f.ok ∧ cs = VertexV.cells f := by
  obtain ⟨xs, m, _, _, hl, hx, hd⟩ := DataW.trod_struct Tryd.underlying36 h
  rw [Tryd.cells_vertex] at hl
  have hxl : xs.length = 5 := hx
  have e0 : DataW.trod enc Tryd.prog w base spare held m 3 ((cs.drop 0).take (Tryd.prog.cellsOf 3)) = xs[0]? := hd 0 _ rfl
  rw [Tryd.cells_int] at e0
  have e1 : DataW.trod enc Tryd.prog w base spare held m 2 ((cs.drop 1).take (Tryd.prog.cellsOf 2)) = xs[1]? := hd 1 _ rfl
  rw [Tryd.cells_i64] at e1
  have e2 : DataW.trod enc Tryd.prog w base spare held m 4 ((cs.drop 2).take (Tryd.prog.cellsOf 4)) = xs[2]? := hd 2 _ rfl
  rw [Tryd.cells_bool] at e2
  have e3 : DataW.trod enc Tryd.prog w base spare held m 4 ((cs.drop 3).take (Tryd.prog.cellsOf 4)) = xs[3]? := hd 3 _ rfl
  rw [Tryd.cells_bool] at e3
  have e4 : DataW.trod enc Tryd.prog w base spare held m 2 ((cs.drop 4).take (Tryd.prog.cellsOf 2)) = xs[4]? := hd 4 _ rfl
  rw [Tryd.cells_i64] at e4
  rw [List.getElem?_eq_getElem (by omega)] at e0 e1 e2 e3 e4
  obtain ⟨a0, f0, _, w0⟩ := DataW.trod_int Tryd.under_int e0
  obtain ⟨a1, f1, _, w1⟩ := DataW.trod_int Tryd.under_i64 e1
  obtain ⟨a2, f2, _⟩ := DataW.trod_bool Tryd.under_bool e2
  obtain ⟨a3, f3, _⟩ := DataW.trod_bool Tryd.under_bool e3
  obtain ⟨a4, f4, _, w4⟩ := DataW.trod_int Tryd.under_i64 e4
  replace w0 := bounds_i64 w0
  replace w1 := bounds_i64 w1
  replace w4 := bounds_i64 w4
  refine ⟨⟨a0, a1, a2, a3, a4⟩, ⟨⟨w0.1, by have := w0.2; simp only; omega⟩, ⟨w1.1, by have := w1.2; simp only; omega⟩, ⟨w4.1, by have := w4.2; simp only; omega⟩⟩, ?_⟩
  have split1 : ∀ (l : List Value) (k : Nat), l.drop k = (l.drop k).take 1 ++ l.drop (k + 1) := by
    intro l k
    rw [← List.drop_drop, List.take_append_drop]
  have e : cs = cs.drop 0 := by simp
  rw [e, split1 cs 0, f0, split1 cs 1, f1, split1 cs 2, f2, split1 cs 3, f3, split1 cs 4, f4, List.drop_of_length_le (by omega)]
  rfl
end
end Go.Proofs.YtaihojahccplcaaDoor

/- Rows of vertices. -/
namespace Go.Proofs.YtaihojahccplcaaDoor
open Go.RowKit
set_option linter.unusedSimpArgs false
set_option linter.unusedVariables false

def zeroVx : Array Value := #[.int .i64 0, .int .i64 0, .bool false, .bool false, .int .i64 0]
theorem Tryd.under_vs : Tryd.prog.underlying 22 = some (.slice 36) := by kernel_rfl
theorem Tryd.info_vx : (Tryd.prog.info? 36).map (fun i => (i.zero, i.size, i.bytes)) = some (some (.agg zeroVx), 5, 32) := by kernel_rfl
theorem Tryd.size_vx : (Tryd.prog.info? 36).map (·.size) = some 5 := by kernel_rfl
theorem Tryd.under_vx : ∃ fs, Tryd.prog.underlying 36 = some (.struct fs) := ⟨_, Tryd.underlying36⟩
theorem VertexV.len (x : St.V) : (VertexV.cells x).length = 5 := rfl
theorem VertexV.one (x : St.V) : ∀ u ∈ VertexV.cells x, u.oneCell' = true := by
  intro u hu
  simp only [VertexV.cells, List.mem_cons, List.not_mem_nil, or_false] at hu
  rcases hu with rfl | rfl | rfl | rfl | rfl <;> rfl

/-- Vertices in a row. -/
def VsAt (w : World) (o : Option Addr) (n cap : Nat) (P : List St.V) : Prop := RowsAt w o n cap 5 VertexV.cells P
def vCells (d : List St.V) : List Value := (d.map VertexV.cells).flatten
theorem vCells_app (a b : List St.V) : vCells (a ++ b) = vCells a ++ vCells b := by simp [vCells]
theorem vCells_one (a : St.V) : vCells [a] = VertexV.cells a := by simp [vCells]

theorem VsAt.below {w w' : World} {B : Nat} {o : Option Addr} {n cap : Nat} {L : List St.V} (h : VsAt w o n cap L) (hB : w.heap.size ≤ B) (hb : Below B w w') : VsAt w' o n cap L := by
  refine ⟨h.1, h.2.1, h.2.2.1, fun h0 => ?_⟩
  obtain ⟨b, off, h5, h6, h7⟩ := h.2.2.2 h0
  exact ⟨b, off, h5, Nat.lt_of_lt_of_le h6 hb.size, fun i l hl j v hv => (hb.cell (p := ⟨b, _, none⟩) (by simp only; omega)).trans (h7 i l hl j v hv)⟩

theorem VsAt.len {w : World} {o : Option Addr} {n cap : Nat} {L : List St.V} (h : VsAt w o n cap L) : L.length = n := h.1
theorem VsAt.cap {w : World} {o : Option Addr} {n cap : Nat} {L : List St.V} (h : VsAt w o n cap L) : n ≤ cap := h.2.1
theorem VsAt.max {w : World} {o : Option Addr} {n cap : Nat} {L : List St.V} (h : VsAt w o n cap L) : cap ≤ 9223372036854775807 := h.2.2.1

theorem VsAt.form {w : World} {o : Option Addr} {n cap : Nat} {L : List St.V} (h : VsAt w o n cap L) (h0 : 0 < n) : ∃ b off, o = some ⟨b, off, none⟩ := by
  obtain ⟨b, off, h5, _⟩ := h.2.2.2 h0
  exact ⟨b, off, h5⟩

theorem VsAt.get {w : World} {b off n cap : Nat} {L : List St.V} (h : VsAt w (some ⟨b, off, none⟩) n cap L) {i : Nat} {l : St.V} (hl : L[i]? = some l) : b < w.heap.size ∧ w.rangeAt b (off + i * 5) (VertexV.cells l) := by
  have hi := (List.getElem?_eq_some_iff.1 hl).1
  rw [h.1] at hi
  obtain ⟨b', off', h5, h6, h7⟩ := h.2.2.2 (by omega)
  cases h5
  exact ⟨h6, h7 i l hl⟩

/-- A vertex loaded out of a row. -/
theorem wpList_load_vAt {ops : Array Oper} {rest : List Oper} {op : Oper} {a : Act} {w : World} {Q : Exit → Act → World → Prop} (hgd : op.guard = none) (x : Operand) (ho : op.op = .load 36 x)
    (g off : Nat) (hx : a.eval x = .pointer (some ⟨g, off, none⟩)) (l : St.V) (hg : w.rangeAt g off (VertexV.cells l))
    (h : wpList Tryd.prog ops Q rest (a.put op.dst (.agg (VertexV.cells l).toArray)) w) : wpList Tryd.prog ops Q (op :: rest) a w := by
  obtain ⟨fs, hfs⟩ := Tryd.under_vx
  exact wpList_load_mid hgd 36 x ho g off hx (VertexV.cells l) _ hg hfs rfl (by rw [Tryd.size_vx]; rfl) h

theorem vCells_len (d : List St.V) : (vCells d).length = d.length * 5 := by
  induction d with
  | nil => rfl
  | cons a d ih =>
    rw [show a :: d = [a] ++ d from rfl, vCells_app, vCells_one, List.length_append, ih, VertexV.len]
    simp; omega

theorem vCells_get {d : List St.V} {i : Nat} {p : St.V} (hp : d[i]? = some p) : ∀ j u, (VertexV.cells p)[j]? = some u → (vCells d)[i * 5 + j]? = some u := by
  induction d generalizing i with
  | nil => simp at hp
  | cons a d ih =>
    intro j u hu
    rw [show a :: d = [a] ++ d from rfl, vCells_app, vCells_one]
    have hj := (List.getElem?_eq_some_iff.1 hu).1
    rw [VertexV.len] at hj
    rcases i with _ | i
    · rw [List.getElem?_cons_zero, Option.some.injEq] at hp
      subst hp
      rw [List.getElem?_append_left (by rw [VertexV.len]; omega)]
      simpa using hu
    · rw [List.getElem?_cons_succ] at hp
      rw [List.getElem?_append_right (by rw [VertexV.len]; omega), VertexV.len]
      have := ih hp j u hu
      rwa [show (i + 1) * 5 + j - 5 = i * 5 + j by omega]

theorem vCells_at {w : World} {b off : Nat} {d : List St.V} (h : ∀ i p, d[i]? = some p → w.rangeAt b (off + i * 5) (VertexV.cells p)) : ∀ j u, (vCells d)[j]? = some u → w.cell? ⟨b, off + j, none⟩ = some u := by
  intro j u hu
  have hj := (List.getElem?_eq_some_iff.1 hu).1
  rw [vCells_len] at hj
  obtain ⟨p, hp⟩ : ∃ p, d[j / 5]? = some p := ⟨_, List.getElem?_eq_getElem (by omega)⟩
  obtain ⟨v, hv⟩ : ∃ v, (VertexV.cells p)[j % 5]? = some v := ⟨_, List.getElem?_eq_getElem (by rw [VertexV.len]; omega)⟩
  have h1 := vCells_get hp (j % 5) v hv
  rw [show j / 5 * 5 + j % 5 = j by omega] at h1
  obtain rfl := Option.some.inj (h1.symm.trans hu)
  have := h _ p hp (j % 5) v hv
  rwa [show off + j / 5 * 5 + j % 5 = off + j by omega] at this

theorem VsAt.copy {w : World} {o : Option Addr} {m c : Nat} {L : List St.V} (h : VsAt w o m c L) (hm : m ≤ 1000000) (b : Addr) :
    ∃ q cc w', (Builtin.append_ #[22, 22] 22 #[.slice (some b) 0 0, .slice o m c]).run Tryd.prog w = .ok (.slice (some q) m cc) w' ∧ VsAt w' (some q) m cc L ∧ Below w.heap.size w w' := by
  obtain ⟨i, hi, hz0, hz1, hz2⟩ := info_parts Tryd.info_vx
  have hlen := h.1
  obtain ⟨q, cc, w', h1, h2, h3, h4, h5⟩ := run_copy_row (P := Tryd.prog) w 22 22 36 i (.agg zeroVx) 5 32 Tryd.under_vs hi hz0 hz1 hz2 rfl (by decide) b o m c (vCells L) (by rw [vCells_len, hlen]) (fun h0 => by
    obtain ⟨b', off, rfl⟩ := h.form h0
    refine ⟨_, rfl, fun j u hu => ?_⟩
    rw [Addr.add_mid]
    exact vCells_at (fun i p hp => (h.get hp).2) j u hu) (by unfold maxLen; omega) (by omega)
  refine ⟨q, cc, w', h1, ⟨hlen, h2, h3, fun h0 => ?_⟩, h4⟩
  obtain ⟨g, rfl, hg, hr⟩ := h5 h0
  refine ⟨g, 0, rfl, hg, fun i p hp j u hu => ?_⟩
  have := hr _ _ (vCells_get hp j u hu)
  rwa [show 0 + (i * 5 + j) = 0 + i * 5 + j by omega] at this

/-- A row of the call's own, as one that came in. -/
theorem VsAt.of_owns {w : World} {base n c : Nat} {q : Option Addr} {d : List St.V} (hn : d.length = n) (h : w.ownsRow base 36 5 (.slice q n c) n (vCells d)) : VsAt w q n c d := by
  subst hn
  have hcell := fun g hg => h.cells (g := g) hg
  rcases h.2 with ⟨hv, h0⟩ | ⟨g, cap, cur, hv, hb, hg, hnc, hcm, _⟩
  · simp only [Value.slice.injEq] at hv
    obtain ⟨rfl, h1, rfl⟩ := hv
    exact ⟨rfl, by omega, by decide, fun h => by omega⟩
  · simp only [Value.slice.injEq, true_and] at hv
    obtain ⟨rfl, rfl⟩ := hv
    refine ⟨rfl, hnc, hcm, fun _ => ⟨g, 0, rfl, lt_of_block hg, fun i p hp j u hu => ?_⟩⟩
    have := hcell g rfl _ u (vCells_get hp j u hu)
    rw [Addr.add_mid] at this
    rwa [show 0 + (i * 5 + j) = 0 + i * 5 + j by omega] at this

/-- One vertex more in a row of one's own. -/
theorem vs_push {w : World} {base g : Nat} {v : Value} {d : List St.V} {h : St.V} (hown : w.ownsRow base 36 5 v d.length (vCells d)) (hd : d.length ≤ 1000000) (hg : w.heap[g]? = some (.cells (VertexV.cells h).toArray 36 (0, 0))) (hB : base ≤ w.heap.size) :
    ∃ q c w', (Builtin.append_ #[22, 22] 22 #[v, .slice (some ⟨g, 0, none⟩) 1 1]).run Tryd.prog w = .ok (.slice q (d.length + 1) c) w' ∧ w'.ownsRow base 36 5 (.slice q (d.length + 1) c) (d.length + 1) (vCells (d ++ [h])) ∧ w.grownBy w' v.ownBlock := by
  obtain ⟨i, hi, hz0, hz1, hz2⟩ := info_parts Tryd.info_vx
  have hbl : (VertexV.cells h).length = 1 * 5 := by rw [VertexV.len]
  obtain ⟨v', w', h1, h2, h3, -⟩ := run_append_own (P := Tryd.prog) w base 22 22 36 i (.agg zeroVx) 5 32 Tryd.under_vs hi hz0 hz1 hz2 rfl (by decide) v d.length _ hown ⟨g, 0, none⟩ 1 1 (VertexV.cells h) hbl (cells_row_at hg) (VertexV.one h) (by unfold maxLen; omega) (by omega) hB
  obtain ⟨q, c, rfl⟩ : ∃ a c, v' = .slice a (d.length + 1) c := by
    rcases h2.2 with ⟨_, h0⟩ | ⟨g', cap, cur, hv, _⟩
    · omega
    · exact ⟨_, _, hv⟩
  exact ⟨q, c, w', h1, by rw [vCells_app, vCells_one]; exact h2, h3⟩

end Go.Proofs.YtaihojahccplcaaDoor

/- What arguments read as: sums, fields, and rows of them. -/
namespace Go.Proofs.YtaihojahccplcaaDoor
open Go.ChangeShapes Go.WideShapes Go.ChangeAt Go.RowKit

section
variable {H : Type} {enc : TypeId × Value → H} {P : Program} {w : World} {base : Nat} {spare : Nat → Bool} {held : Bool} {fuel : Nat} {t : TypeId} {cs : List Value} {x : DataW H × List MemPlace}

end

section
variable {H : Type} {enc : TypeId × Value → H} {P : Program} {w : World} {base : Nat} {spare : Nat → Bool} {held : Bool}
end

/-- A field: what a value of modillionref02.Field holds. -/
structure FieldV where
  kind : Int
  most : Int
  n : Nat
  i : Int
  s : ByteArray
  h : List UInt8

/-- Its cells. -/
def FieldV.cells (f : FieldV) : List Value := [.int .i64 f.kind, .int .i64 f.most, .int .u64 f.n, .int .i64 f.i, .string f.s] ++ byteCells f.h

/-- Each number is of its kind. -/
structure FieldV.ok (f : FieldV) : Prop where
  kind0 : -9223372036854775808 ≤ f.kind
  kind1 : f.kind ≤ 9223372036854775807
  most0 : -9223372036854775808 ≤ f.most
  most1 : f.most ≤ 9223372036854775807
  n1 : f.n < 18446744073709551616
  i0 : -9223372036854775808 ≤ f.i
  i1 : f.i ≤ 9223372036854775807
  s1 : f.s.size ≤ maxLen
  h1 : f.h.length = 32

theorem FieldV.len {f : FieldV} (h : f.ok) : f.cells.length = 37 := by
  simp [FieldV.cells, byteCells, h.h1]

theorem Tryd.under_u64 : Tryd.prog.underlying 53 = some (.int .u64) := by kernel_rfl
theorem Tryd.cells_u64 : Tryd.prog.cellsOf 53 = 1 := by kernel_rfl
theorem Tryd.cells_field : Tryd.prog.cellsOf 75 = 37 := by kernel_rfl

section
variable {H : Type} {enc : TypeId × Value → H} {w : World} {base : Nat} {spare : Nat → Bool} {held : Bool}

theorem open_field (n : Nat) (cs : List Value) (y : DataW H × List MemPlace) (h : DataW.trod enc Tryd.prog w base spare held n 75 cs = some y) : ∃ f : FieldV, f.ok ∧ cs = f.cells := by
  obtain ⟨xs, m, _, _, hl, hx, hd⟩ := DataW.trod_struct Tryd.underlying75 h
  rw [Tryd.cells_field] at hl
  have hxl : xs.length = 6 := hx
  have e0 : DataW.trod enc Tryd.prog w base spare held m 3 ((cs.drop 0).take (Tryd.prog.cellsOf 3)) = xs[0]? := hd 0 _ rfl
  rw [Tryd.cells_int] at e0
  have e1 : DataW.trod enc Tryd.prog w base spare held m 3 ((cs.drop 1).take (Tryd.prog.cellsOf 3)) = xs[1]? := hd 1 _ rfl
  rw [Tryd.cells_int] at e1
  have e2 : DataW.trod enc Tryd.prog w base spare held m 53 ((cs.drop 2).take (Tryd.prog.cellsOf 53)) = xs[2]? := hd 2 _ rfl
  rw [Tryd.cells_u64] at e2
  have e3 : DataW.trod enc Tryd.prog w base spare held m 2 ((cs.drop 3).take (Tryd.prog.cellsOf 2)) = xs[3]? := hd 3 _ rfl
  rw [Tryd.cells_i64] at e3
  have e4 : DataW.trod enc Tryd.prog w base spare held m 9 ((cs.drop 4).take (Tryd.prog.cellsOf 9)) = xs[4]? := hd 4 _ rfl
  rw [Tryd.cells_string] at e4
  have e5 : DataW.trod enc Tryd.prog w base spare held m 27 ((cs.drop 5).take (Tryd.prog.cellsOf 27)) = xs[5]? := hd 5 _ rfl
  rw [Tryd.cells_hash] at e5
  rw [List.getElem?_eq_getElem (by omega)] at e0 e1 e2 e3 e4 e5
  obtain ⟨a0, f0, _, w0⟩ := DataW.trod_int Tryd.under_int e0
  obtain ⟨a1, f1, _, w1⟩ := DataW.trod_int Tryd.under_int e1
  obtain ⟨a2, f2, _, w2⟩ := DataW.trod_int Tryd.under_u64 e2
  obtain ⟨a3, f3, _, w3⟩ := DataW.trod_int Tryd.under_i64 e3
  obtain ⟨s, f4, _, w4⟩ := DataW.trod_string Tryd.under_string e4
  obtain ⟨hs, f5, f6⟩ := open_bytes Tryd.under_hash Tryd.under_byte Tryd.cells_byte Tryd.cells_hash e5
  replace w0 := bounds_i64 w0
  replace w1 := bounds_i64 w1
  replace w2 := bounds_u64 w2
  replace w3 := bounds_i64 w3
  refine ⟨⟨a0, a1, a2.toNat, a3, s, hs⟩, ⟨w0.1, w0.2, w1.1, w1.2, ?_, w3.1, w3.2, w4, f5⟩, ?_⟩
  · simp only; omega
  · have split1 : ∀ (l : List Value) (k : Nat), l.drop k = (l.drop k).take 1 ++ l.drop (k + 1) := by
      intro l k
      rw [← List.drop_drop, List.take_append_drop]
    have e : cs = cs.drop 0 := by simp
    rw [e, split1 cs 0, f0, split1 cs 1, f1, split1 cs 2, f2, split1 cs 3, f3, split1 cs 4, f4]
    rw [List.take_of_length_le (by simp; omega)] at f6
    rw [f6]
    have e2 : ((a2.toNat : Nat) : Int) = a2 := by omega
    simp [FieldV.cells, e2]
end
end Go.Proofs.YtaihojahccplcaaDoor

/- The wire contracts in the form in which the laws use them. -/
namespace Go.Proofs.YtaihojahccplcaaDoor
open Go.RowKit

theorem newOut_use (w : World) :
    Calls Tryd.prog 27 #[] w fun e w' => e = .returned (.pointer (some ⟨w.heap.size, 0, none⟩)) ∧ OutNew w' w.heap.size ∧ Below w.heap.size w w' ∧ w.heap.size < w'.heap.size :=
  (newOut_any w).mono fun e w' ⟨h1, h2⟩ => by
    subst h2
    exact ⟨h1, OutNew.made w, (Below.refl _ _).alloc (Nat.le_refl _) _, by simp⟩

theorem newIn_use (l : List UInt8) (w : World) :
    Calls Tryd.prog 40 #[.string (strOf l)] w fun e w' => e = .returned (.pointer (some ⟨w.heap.size, 0, none⟩)) ∧ InIs w' w.heap.size l 0 ∧ Below w.heap.size w w' ∧ w.heap.size < w'.heap.size :=
  (newIn_any (strOf l) w).mono fun e w' ⟨h1, h2⟩ => by
    subst h2
    exact ⟨h1, InIs.fresh w l, (Below.refl _ _).alloc (Nat.le_refl _) _, by simp⟩

theorem InIs.below {w w' : World} {b : Nat} {l : List UInt8} {e : Int} (h : InIs w b l e) (hb : Below w.heap.size w w') : InIs w' b l e := h.kept (hb.block b h.lt)
theorem InIs.but {w w' : World} {b c : Nat} {l : List UInt8} {e : Int} (h : InIs w b l e) (hb : BelowBut w.heap.size c w w') (hc : b ≠ c) : InIs w' b l e := h.kept (hb.block b h.lt hc)

theorem str_eta (s : ByteArray) : ∃ l, s = strOf l := ⟨s.data.toList, (strOf_data s).symm⟩

/-- What stands below B while a block from B on is changed. -/
theorem Below.more {B b C : Nat} {w w1 w2 : World} (h : Below B w w1) (h2 : BelowBut C b w1 w2) (hB : B ≤ b) (hC : B ≤ C) : Below B w w2 :=
  h.trans ((h2.mono hC).below hB)

end Go.Proofs.YtaihojahccplcaaDoor

/- Fields: what is put, what is got, and when two are the same. -/
namespace Go.Proofs.YtaihojahccplcaaDoor
open Go.RowKit

theorem Tryd.size_byte (w : World) : (sizeOf 5).run Tryd.prog w = .ok 1 w := by kernel_rfl

theorem hash_equal (w : World) (d : Nat) (a b : List UInt8) (ha : a.length = 32) (hb : b.length = 32) :
    (Op.equalIn (d + 2) 27 (.agg (byteCells a).toArray) (.agg (byteCells b).toArray)).run Tryd.prog w = .ok (a == b) w :=
  run_equalIn_bytes w d _ _ 32 Tryd.under_hash Tryd.under_byte Tryd.size_byte a b ha hb

theorem FieldV.built0 (n : Nat) : Tryd.prog.built 75 [(2, .int .u64 n)] = some (FieldV.mk 0 0 n 0 ⟨#[]⟩ (List.replicate 32 0)).cells.toArray := by kernel_rfl
theorem FieldV.built1 (i : Int) : Tryd.prog.built 75 [(0, .int .i64 1), (3, .int .i64 i)] = some (FieldV.mk 1 0 0 i ⟨#[]⟩ (List.replicate 32 0)).cells.toArray := by kernel_rfl
theorem FieldV.built2 (s : ByteArray) : Tryd.prog.built 75 [(0, .int .i64 2), (4, .string s)] = some (FieldV.mk 2 0 0 0 s (List.replicate 32 0)).cells.toArray := by kernel_rfl
theorem FieldV.builtK (k : Int) : Tryd.prog.built 75 [(0, .int .i64 k)] = some (FieldV.mk k 0 0 0 ⟨#[]⟩ (List.replicate 32 0)).cells.toArray := by kernel_rfl

theorem FieldV.built3' (a0 a1 a2 a3 a4 a5 a6 a7 a8 a9 a10 a11 a12 a13 a14 a15 a16 a17 a18 a19 a20 a21 a22 a23 a24 a25 a26 a27 a28 a29 a30 a31 : Value) : Tryd.prog.built 75 [(0, .int .i64 3), (5, .agg #[a0, a1, a2, a3, a4, a5, a6, a7, a8, a9, a10, a11, a12, a13, a14, a15, a16, a17, a18, a19, a20, a21, a22, a23, a24, a25, a26, a27, a28, a29, a30, a31])] = some #[.int .i64 3, .int .i64 0, .int .u64 0, .int .i64 0, .string ⟨#[]⟩, a0, a1, a2, a3, a4, a5, a6, a7, a8, a9, a10, a11, a12, a13, a14, a15, a16, a17, a18, a19, a20, a21, a22, a23, a24, a25, a26, a27, a28, a29, a30, a31] := by kernel_rfl

theorem FieldV.built3 (h : List UInt8) (hl : h.length = 32) : Tryd.prog.built 75 [(0, .int .i64 3), (5, .agg (byteCells h).toArray)] = some (FieldV.mk 3 0 0 0 ⟨#[]⟩ h).cells.toArray := by
  have h32 : (byteCells h).length = 32 := by rw [byteCells_length, hl]
  have e : ∀ xs : List Value, xs.length = 32 → Tryd.prog.built 75 [(0, .int .i64 3), (5, .agg xs.toArray)] = some ([Value.int .i64 3, Value.int .i64 0, Value.int .u64 0, Value.int .i64 0, Value.string ⟨#[]⟩] ++ xs).toArray := by
    intro xs hx
    match xs, hx with
    | [a0, a1, a2, a3, a4, a5, a6, a7, a8, a9, a10, a11, a12, a13, a14, a15, a16, a17, a18, a19, a20, a21, a22, a23, a24, a25, a26, a27, a28, a29, a30, a31], _ => exact FieldV.built3' a0 a1 a2 a3 a4 a5 a6 a7 a8 a9 a10 a11 a12 a13 a14 a15 a16 a17 a18 a19 a20 a21 a22 a23 a24 a25 a26 a27 a28 a29 a30 a31
  exact e _ h32

/-- A load of a row out of the middle of a block, under a guard that holds. -/
theorem wpList_load_mid_g {P : Program} {ops : Array Oper} {rest : List Oper} {op : Oper} {a : Act} {w : World} {Q : Exit → Act → World → Prop} (hgd : Region.wanted op (yielded ops a.tmps) = true) (ty : TypeId) (x : Operand) (ho : op.op = .load ty x)
    (b o : Nat) (hx : a.eval x = .pointer (some ⟨b, o, none⟩)) (cs : List Value) (d : TypeDesc) (hc : w.rangeAt b o cs)
    (hu : P.underlying ty = some d) (hd : d.isRow = true) (hi : (P.info? ty).map (·.size) = some cs.length)
    (h : wpList P ops Q rest (a.put op.dst (.agg cs.toArray)) w) : wpList P ops Q (op :: rest) a w :=
  wpList_step fun _ hK => by rw [if_pos hgd]; exact wp_load_mid ty x ho b o hx cs d hc hu hd hi (hK _ _ h)

theorem Tryd.eqg_hash : Tryd.prog.eqGuardType Tryd.prog.depth 27 = false := by kernel_rfl

end Go.Proofs.YtaihojahccplcaaDoor

/- The walks of the laws' put and get. -/
namespace Go.Proofs.YtaihojahccplcaaDoor
open Go.RowKit

/-- The bytes of a field. -/
def putV (f : FieldV) : List UInt8 :=
  if f.kind = 0 then Wire.num f.n else if f.kind = 1 then Wire.num (Wire.zig f.i) else if f.kind = 2 then Wire.num f.s.size ++ f.s.data.toList else f.h

theorem field_cell {w : World} {b : Nat} {f : FieldV} {t : TypeId} (h : w.heap[b]? = some (.cells f.cells.toArray t (0, 0))) :
    w.cell? ⟨b, 0, none⟩ = some (.int .i64 f.kind) ∧ w.cell? ⟨b, 1, none⟩ = some (.int .i64 f.most) ∧ w.cell? ⟨b, 2, none⟩ = some (.int .u64 f.n) ∧
      w.cell? ⟨b, 3, none⟩ = some (.int .i64 f.i) ∧ w.cell? ⟨b, 4, none⟩ = some (.string f.s) ∧ w.rangeAt b 5 (byteCells f.h) := by
  refine ⟨?_, ?_, ?_, ?_, ?_, ?_⟩
  · simp [World.cell?, h, FieldV.cells]
  · simp [World.cell?, h, FieldV.cells]
  · simp [World.cell?, h, FieldV.cells]
  · simp [World.cell?, h, FieldV.cells]
  · simp [World.cell?, h, FieldV.cells]
  · intro j v hv
    have e : (f.cells.toArray)[5 + j]? = some v := by
      rw [List.getElem?_toArray]
      unfold FieldV.cells
      rw [List.getElem?_append_right (by simp)]
      simpa using hv
    simp [World.cell?, h, e]

theorem OutIs.alloc {w : World} {base b : Nat} {bs : List UInt8} (h : OutIs w base b bs) (o : Obj) : OutIs (w.alloc o) base b bs :=
  h.below ((Below.refl _ _).alloc (Nat.le_refl _) o)

theorem FieldV.get (f : FieldV) : f.cells[0]? = some (.int .i64 f.kind) ∧ f.cells[1]? = some (.int .i64 f.most) ∧ f.cells[2]? = some (.int .u64 f.n) ∧ f.cells[3]? = some (.int .i64 f.i) ∧ f.cells[4]? = some (.string f.s) :=
  ⟨rfl, rfl, rfl, rfl, rfl⟩

end Go.Proofs.YtaihojahccplcaaDoor

/- The walk of the laws' get. -/
namespace Go.Proofs.YtaihojahccplcaaDoor
open Go.RowKit

def zeroField : FieldV := ⟨0, 0, 0, 0, ⟨#[]⟩, List.replicate 32 0⟩

/-- A field got: it, what is left, the error. -/
def getV (f : FieldV) (l : List UInt8) (e : Nat) : FieldV × List UInt8 × Nat :=
  if f.kind = 0 then ({ zeroField with n := (Wire.rdNum l e).1 }, (Wire.rdNum l e).2)
  else if f.kind = 1 then ({ zeroField with kind := 1, i := Wire.unzig (Wire.rdNum l e).1 }, (Wire.rdNum l e).2)
  else if f.kind = 2 then ({ zeroField with kind := 2, s := strOf (Wire.rdText f.most l e).1 }, (Wire.rdText f.most l e).2)
  else ({ zeroField with kind := 3, h := (Wire.rdHash l e).1 }, (Wire.rdHash l e).2)

theorem field_all (f : FieldV) : f.cells.toArray.all (·.oneCell') = true := by
  rw [Array.all_eq_true_iff_forall_mem]
  intro v hv
  have hv : v ∈ f.cells := by simpa using hv
  unfold FieldV.cells at hv
  rcases List.mem_append.1 hv with hv | hv
  · simp only [List.mem_cons, List.not_mem_nil, or_false] at hv
    rcases hv with rfl | rfl | rfl | rfl | rfl <;> rfl
  · exact byteCells_one _ v hv

theorem field_size {f : FieldV} (h : f.h.length = 32) : f.cells.toArray.size = 37 := by
  rw [List.size_toArray]; simp [FieldV.cells, byteCells, h]

theorem Tryd.under_field : ∃ fs, Tryd.prog.underlying 75 = some (.struct fs) := ⟨_, Tryd.underlying75⟩
theorem Tryd.size_field : (Tryd.prog.info? 75).map (·.size) = some 37 := by kernel_rfl

/-- What a call on an In leaves of two blocks that lie there. -/
theorem two_kept {w W w' : World} {b : Nat} {A Z : Obj} (hb : b < w.heap.size) (hW : W = (w.alloc A).alloc Z) (h : BelowBut W.heap.size b W w') :
    w'.heap[w.heap.size + 1]? = some Z ∧ BelowBut w.heap.size b w w' ∧ w.heap.size + 2 ≤ w'.heap.size := by
  subst hW
  have hs := h.size
  have hz := heap_alloc_new (w.alloc A) Z
  have e : (w.alloc A).heap.size = w.heap.size + 1 := by simp
  rw [e] at hz
  have e2 : ((w.alloc A).alloc Z).heap.size = w.heap.size + 2 := by simp
  refine ⟨(h.block _ (by omega) (by omega)).trans hz, BelowBut.trans (.of (((Below.refl _ _).alloc (Nat.le_refl _) _).alloc (by omega) _)) (h.mono (by omega)), by omega⟩

/-- A composite of two parts. -/
theorem wpList_build2 {P : Program} {ops : Array Oper} {rest : List Oper} {o : Oper} {a : Act} {w : World} {Q : Exit → Act → World → Prop} (hg : o.guard = none) (t : TypeId) (i j : Nat) (x y : Operand) (ho : o.op = .build t #[(i, x), (j, y)])
    (u v : Value) (hx : a.eval x = u) (hy : a.eval y = v) (cs : Array Value) (hb : P.built t [(i, u), (j, v)] = some cs)
    (h : wpList P ops Q rest (a.put o.dst (.agg cs)) w) : wpList P ops Q (o :: rest) a w := by
  have e : ((#[(i, x), (j, y)] : Array (Nat × Operand)).map fun (p : Nat × Operand) => (p.1, a.eval p.2)).toList = [(i, u), (j, v)] := by
    simp [hx, hy]
  refine wpList_build hg t #[(i, x), (j, y)] ho ?_ ?_
  · show (P.built t ((#[(i, x), (j, y)] : Array (Nat × Operand)).map fun (p : Nat × Operand) => (p.1, a.eval p.2)).toList).isSome = true
    rw [e, hb]; rfl
  · show wpList P ops Q rest (a.put o.dst (.agg ((P.built t ((#[(i, x), (j, y)] : Array (Nat × Operand)).map fun (p : Nat × Operand) => (p.1, a.eval p.2)).toList).getD #[]))) w
    rw [e, hb]; exact h

end Go.Proofs.YtaihojahccplcaaDoor

/- WireOne: what is read to its end was written so. The walk of the law. -/
namespace Go.Proofs.YtaihojahccplcaaDoor
open Go.RowKit

theorem getV_ok (f : FieldV) (hk : 0 ≤ f.kind ∧ f.kind ≤ 3) (l : List UInt8) (hl : l.length ≤ maxLen) (e : Nat) : (getV f l e).1.ok ∧ (getV f l e).1.kind = f.kind := by
  have hr := Wire.rdNum_lt l e
  have hu := Wire.unzig_bounds _ hr
  have ht := Wire.rdText_len f.most l e
  have hh := Wire.rdHash_len l e
  have hz : (0 : Nat) ≤ maxLen := Nat.zero_le _
  unfold getV
  split
  · rename_i k; exact ⟨⟨(by decide : (-9223372036854775808 : Int) ≤ 0), (by decide : (0 : Int) ≤ 9223372036854775807), (by decide : (-9223372036854775808 : Int) ≤ 0), (by decide : (0 : Int) ≤ 9223372036854775807), hr, (by decide : (-9223372036854775808 : Int) ≤ 0), (by decide : (0 : Int) ≤ 9223372036854775807), hz, rfl⟩, k.symm⟩
  · split
    · rename_i k; exact ⟨⟨(by decide : (-9223372036854775808 : Int) ≤ 1), (by decide : (1 : Int) ≤ 9223372036854775807), (by decide : (-9223372036854775808 : Int) ≤ 0), (by decide : (0 : Int) ≤ 9223372036854775807), (by decide : (0 : Nat) < 18446744073709551616), hu.1, hu.2, hz, rfl⟩, k.symm⟩
    · split
      · rename_i k; exact ⟨⟨(by decide : (-9223372036854775808 : Int) ≤ 2), (by decide : (2 : Int) ≤ 9223372036854775807), (by decide : (-9223372036854775808 : Int) ≤ 0), (by decide : (0 : Int) ≤ 9223372036854775807), (by decide : (0 : Nat) < 18446744073709551616), (by decide : (-9223372036854775808 : Int) ≤ 0), (by decide : (0 : Int) ≤ 9223372036854775807), (by show (strOf _).size ≤ _; rw [strOf_size]; omega), rfl⟩, k.symm⟩
      · exact ⟨⟨(by decide : (-9223372036854775808 : Int) ≤ 3), (by decide : (3 : Int) ≤ 9223372036854775807), (by decide : (-9223372036854775808 : Int) ≤ 0), (by decide : (0 : Int) ≤ 9223372036854775807), (by decide : (0 : Nat) < 18446744073709551616), (by decide : (-9223372036854775808 : Int) ≤ 0), (by decide : (0 : Int) ≤ 9223372036854775807), hz, hh⟩, (by show 3 = f.kind; omega)⟩

theorem putV_0 (f : FieldV) (h : f.kind = 0) : putV f = Wire.num f.n := by unfold putV; rw [if_pos h]
theorem putV_1 (f : FieldV) (h : f.kind = 1) : putV f = Wire.num (Wire.zig f.i) := by unfold putV; rw [if_neg (by omega), if_pos h]
theorem putV_2 (f : FieldV) (h : f.kind = 2) : putV f = Wire.num f.s.size ++ f.s.data.toList := by unfold putV; rw [if_neg (by omega), if_neg (by omega), if_pos h]
theorem putV_3 (f : FieldV) (h : f.kind = 3) : putV f = f.h := by unfold putV; rw [if_neg (by omega), if_neg (by omega), if_neg (by omega)]

/-- What is read to its end was written so. -/
theorem getV_end (f : FieldV) (l : List UInt8) (h1 : (getV f l 0).2.1 = []) (h2 : (getV f l 0).2.2 = 0) : putV (getV f l 0).1 = l := by
  unfold getV at h1 h2 ⊢
  split at h1
  · rename_i k
    rw [if_pos k] at h2 ⊢
    have := Wire.rdNum_end h1 h2
    exact (putV_0 _ rfl).trans this
  · rename_i k0
    split at h1
    · rename_i k1
      rw [if_neg k0, if_pos k1] at h2 ⊢
      have := Wire.rdNum_end h1 h2
      refine (putV_1 _ rfl).trans ?_
      show Wire.num (Wire.zig (Wire.unzig _)) = l
      rw [Wire.zig_unzig]; exact this
    · rename_i k1
      split at h1
      · rename_i k2
        rw [if_neg k0, if_neg k1, if_pos k2] at h2 ⊢
        have := Wire.rdText_end h1 h2
        refine (putV_2 _ rfl).trans ?_
        show Wire.num (strOf _).size ++ (strOf _).data.toList = l
        rw [strOf_size, strOf_list]; exact this
      · rename_i k2
        rw [if_neg k0, if_neg k1, if_neg k2] at h2 ⊢
        have := Wire.rdHash_end h1 h2
        exact (putV_3 _ rfl).trans this

theorem str_beq (a b : List UInt8) : ((strOf a).toList == (strOf b).toList) = (a == b) := by rw [strOf_toList, strOf_toList]

end Go.Proofs.YtaihojahccplcaaDoor

/- The walk of modillionref02.Few. -/
namespace Go.Proofs.YtaihojahccplcaaDoor
open Go.RowKit

def fewOne (f : FieldV) : Bool := decide (f.s.size ≤ 300 ∧ 0 ≤ f.kind ∧ f.kind ≤ 3)
def fewB (F : List FieldV) : Bool := F.all fewOne && decide (F.length ≤ 40)

theorem rows_cell {w : World} {b o : Nat} {f : FieldV} (h : w.rangeAt b o f.cells) :
    w.cell? ⟨b, o, none⟩ = some (.int .i64 f.kind) ∧ w.cell? ⟨b, o + 1, none⟩ = some (.int .i64 f.most) ∧ w.cell? ⟨b, o + 2, none⟩ = some (.int .u64 f.n) ∧
      w.cell? ⟨b, o + 3, none⟩ = some (.int .i64 f.i) ∧ w.cell? ⟨b, o + 4, none⟩ = some (.string f.s) :=
  ⟨h 0 _ rfl, h 1 _ rfl, h 2 _ rfl, h 3 _ rfl, h 4 _ rfl⟩

theorem take_all {α : Type} {p : α → Bool} {F : List α} {k : Nat} {f : α} (hf : F[k]? = some f) (h : (F.take k).all p = true) (hp : p f = true) : (F.take (k + 1)).all p = true := by
  obtain ⟨hlt, rfl⟩ := List.getElem?_eq_some_iff.1 hf
  rw [List.take_succ_eq_append_getElem hlt, List.all_append, h, List.all_cons, hp]
  rfl

theorem few_one {F : List FieldV} {k : Nat} {f : FieldV} (h : fewB F = true) (hf : F[k]? = some f) : f.s.size ≤ 300 ∧ 0 ≤ f.kind ∧ f.kind ≤ 3 := by
  unfold fewB at h
  rw [Bool.and_eq_true] at h
  have := List.all_eq_true.1 h.1 f (List.mem_of_getElem? hf)
  unfold fewOne at this
  exact of_decide_eq_true this

theorem few_len {F : List FieldV} (h : fewB F = true) : F.length ≤ 40 := by
  unfold fewB at h
  rw [Bool.and_eq_true] at h
  exact of_decide_eq_true h.2

/-- Rows that came in stand in every later world. -/
theorem RowsAt.below {α : Type} {w w' : World} {a0 : Option Addr} {len cap c : Nat} {cells : α → List Value} {F : List α} (h : RowsAt w a0 len cap c cells F) (hb : Below w.heap.size w w') : RowsAt w' a0 len cap c cells F := by
  refine ⟨h.1, h.2.1, h.2.2.1, fun h0 => ?_⟩
  obtain ⟨b, off, h1, h2, h3⟩ := h.2.2.2 h0
  exact ⟨b, off, h1, Nat.lt_of_lt_of_le h2 hb.size, fun i f hf j v hv => (hb.cell (p := ⟨b, _, none⟩) h2).trans (h3 i f hf j v hv)⟩

theorem BelowBut.cellAt {B b c o : Nat} {w w' : World} (h : BelowBut B b w w') (hc : c < B) (hne : c ≠ b) : w'.cell? ⟨c, o, none⟩ = w.cell? ⟨c, o, none⟩ :=
  World.cell?_of_block (a := ⟨c, o, none⟩) (h.block c hc hne)

theorem range_below {w w' : World} {b o : Nat} {cs : List Value} (h : w.rangeAt b o cs) (hb : b < w.heap.size) (hw : Below w.heap.size w w') : w'.rangeAt b o cs :=
  fun j v hv => (hw.cell (p := ⟨b, _, none⟩) hb).trans (h j v hv)


end Go.Proofs.YtaihojahccplcaaDoor
