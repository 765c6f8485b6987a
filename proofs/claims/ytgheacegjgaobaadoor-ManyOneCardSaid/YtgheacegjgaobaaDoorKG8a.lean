/- M4, M5, M6, in one text. -/
import Derived.Test.YtgheacegjgaobaaDoorKM3
import Derived.Test.YtgheacegjgaobaaDoorKG6a
import Derived.Test.YtgheacegjgaobaaDoorKG6b
/- The walks of the functions that many.Prove, Size and Check hand to many.parts. -/
namespace Go.Proofs.YtgheacegjgaobaaDoor
open Go.RowKit
set_option linter.unusedSimpArgs false
set_option linter.unusedVariables false

/-- No sum. -/
def zeroS : List UInt8 := List.replicate 32 0
theorem zeroS_len : zeroS.length = 32 := by unfold zeroS; exact List.length_replicate
theorem zero32_zeroS : zero32 = (byteCells zeroS).toArray := rfl

theorem zero_back (w : World) : (hset (w.alloc (.cells zero32 23)) w.heap.size zeroS).heap[w.heap.size]? = some (.cells (byteCells zeroS).toArray 23 (0, 0)) := hset_heap _ (heap_alloc_new w _)


set_option maxRecDepth 100000 in
set_option maxHeartbeats 1000000 in
theorem proveOne_any (w : World) (a : Int) :
    Calls Tryd.prog 35 #[.int .i64 a] w fun x w' => x = .returned (.agg (byteCells zeroS).toArray) ∧ Below w.heap.size w w' := by
  have hx := heap_alloc_new w (.cells zero32 23)
  have hz := zeroS_len
  have HX := Lib.hid hx; clear hx
  have HZ := Lib.hid hz; clear hz
  go_enter Tryd.func35, Tryd.ntmps35
  go_wp2_with (first | ((with_reducible show wpList _ _ _ (⟨some 3, _, _, _, _, _⟩ :: _) _ _); refine wpList_zero_hash (op := ⟨some 3, _, _, _, _, _⟩) (by kernel_rfl) rfl ?_) | ((with_reducible show wpList _ _ _ (⟨none, .store 23 (.tmp 2) (.tmp 3), _, _, _, _⟩ :: _) _ _); change wpList _ _ _ _ _ (World.alloc w (.cells zero32 23)); refine wpList_put_hash (o := ⟨none, .store _ _ _, _, _, _, _⟩) rfl _ _ rfl w.heap.size rfl zeroS HZ.out rfl _ _ HX.out zero32_size ?_))
  refine bodyPost_ret (results_hash rfl _ _ _ _ _ _ rfl HZ.out (hset_heap _ HX.out)) rfl ⟨rfl, hset_below _ ((Below.refl _ _).alloc (Nat.le_refl _) _) (Nat.le_refl _)⟩


set_option maxRecDepth 100000 in
set_option maxHeartbeats 1000000 in
theorem sizeOne_any (w : World) (a : Int) :
    Calls Tryd.prog 49 #[.int .i64 a] w fun x w' => x = .returned (.agg (byteCells zeroS).toArray) ∧ Below w.heap.size w w' := by
  have hx := heap_alloc_new w (.cells zero32 23)
  have hz := zeroS_len
  have HX := Lib.hid hx; clear hx
  have HZ := Lib.hid hz; clear hz
  go_enter Tryd.func49, Tryd.ntmps49
  go_wp2_with (first | ((with_reducible show wpList _ _ _ (⟨some 3, _, _, _, _, _⟩ :: _) _ _); refine wpList_zero_hash (op := ⟨some 3, _, _, _, _, _⟩) (by kernel_rfl) rfl ?_) | ((with_reducible show wpList _ _ _ (⟨none, .store 23 (.tmp 2) (.tmp 3), _, _, _, _⟩ :: _) _ _); change wpList _ _ _ _ _ (World.alloc w (.cells zero32 23)); refine wpList_put_hash (o := ⟨none, .store _ _ _, _, _, _, _⟩) rfl _ _ rfl w.heap.size rfl zeroS HZ.out rfl _ _ HX.out zero32_size ?_))
  refine bodyPost_ret (results_hash rfl _ _ _ _ _ _ rfl HZ.out (hset_heap _ HX.out)) rfl ⟨rfl, hset_below _ ((Below.refl _ _).alloc (Nat.le_refl _) _) (Nat.le_refl _)⟩


theorem Tryd.callProve1 (args : Array Value) (w : World) : Sem.run Tryd.prog (callFunc 33 args) w = .ok (.enter 33 args) w := by kernel_rfl
theorem Tryd.callProve2 (args : Array Value) (w : World) : Sem.run Tryd.prog (callFunc 35 args) w = .ok (.enter 35 args) w := by kernel_rfl
theorem Tryd.callSize1 (args : Array Value) (w : World) : Sem.run Tryd.prog (callFunc 48 args) w = .ok (.enter 48 args) w := by kernel_rfl
theorem Tryd.callSize2 (args : Array Value) (w : World) : Sem.run Tryd.prog (callFunc 49 args) w = .ok (.enter 49 args) w := by kernel_rfl
theorem Tryd.callCheck1 (args : Array Value) (w : World) : Sem.run Tryd.prog (callFunc 42 args) w = .ok (.enter 42 args) w := by kernel_rfl
theorem Tryd.callCheck2 (args : Array Value) (w : World) : Sem.run Tryd.prog (callFunc 43 args) w = .ok (.enter 43 args) w := by kernel_rfl

/-- A counter, a step on, beside a new sum's cell. -/
theorem count_world {w : World} {p L : Nat} (hp : w.heap[p]? = some (.cells #[.int .i64 (L : Int)] 3 (0, 0))) (W : World) (hW : W = (w.setCell ⟨p, 0, none⟩ (.int .i64 ((L : Int) + 1))).alloc (.cells zero32 23)) :
    W.heap[p]? = some (.cells #[.int .i64 ((L + 1 : Nat) : Int)] 3 (0, 0)) ∧ W.heap[w.heap.size]? = some (.cells zero32 23 (0, 0)) ∧ BelowBut w.heap.size p w W ∧ w.heap.size < W.heap.size := by
  have hl := lt_of_block hp
  subst hW
  refine ⟨?_, ?_, ⟨rfl, rfl, rfl, by simp, fun k hk hkp => ?_⟩, by simp⟩
  · rw [Below.heap_alloc _ _ _ (by simpa using hl), one_setCell hp]; rfl
  · have := heap_alloc_new (w.setCell ⟨p, 0, none⟩ (.int .i64 ((L : Int) + 1))) (.cells zero32 23)
    simpa using this
  · rw [Below.heap_alloc _ _ _ (by simpa using hk), Below.heap_setCell _ _ _ _ (by simp only; omega)]

set_option maxRecDepth 100000 in
set_option maxHeartbeats 1000000 in
theorem sizeNone_any (w : World) (p L : Nat) (hp : w.heap[p]? = some (.cells #[.int .i64 (L : Int)] 3 (0, 0))) (hL : L ≤ 1000000) (f n : Int) :
    Calls Tryd.prog 48 #[.int .i64 f, .int .i64 n, .pointer (some ⟨p, 0, none⟩)] w fun x w' => x = .returned (.agg (byteCells zeroS).toArray) ∧ w'.heap[p]? = some (.cells #[.int .i64 ((L + 1 : Nat) : Int)] 3 (0, 0)) ∧ BelowBut w.heap.size p w w' := by
  obtain ⟨W, hW⟩ : ∃ W, W = (w.setCell ⟨p, 0, none⟩ (.int .i64 ((L : Int) + 1))).alloc (.cells zero32 23) := ⟨_, rfl⟩
  obtain ⟨c1, c2, c3, c4⟩ := count_world hp W hW
  have hl := lt_of_block hp
  have hc1 : ∀ o, (w.alloc o).cell? ⟨p, 0, none⟩ = some (.int .i64 (L : Int)) := fun o => cell_of_one ((Below.heap_alloc w o p hl).trans hp)
  have hf1 : ∀ o, (w.alloc o).frozen? ⟨p, 0, none⟩ = false := fun o => free_of_one ((Below.heap_alloc w o p hl).trans hp)
  have C1 := Lib.hid c1; clear c1
  have C2 := Lib.hid c2; clear c2
  have C3 := Lib.hid c3; clear c3
  have HW := Lib.hid hW; clear hW
  have HZ := Lib.hid zeroS_len
  clear hp
  go_enter Tryd.func48, Tryd.ntmps48
  go_wp2_with (first | ((with_reducible show wpList _ _ _ (⟨some 8, _, _, _, _, _⟩ :: _) _ _); change wpList _ _ _ _ _ (World.alloc (w.setCell ⟨p, 0, none⟩ (.int .i64 ((L : Int) + 1))) (.cells zero32 23)); rw [← HW.out]) | ((with_reducible show wpList _ _ _ (⟨some 8, _, _, _, _, _⟩ :: _) _ _); refine wpList_zero_hash (op := ⟨some 8, _, _, _, _, _⟩) (by kernel_rfl) rfl ?_) | ((with_reducible show wpList _ _ _ (⟨none, .store 23 (.tmp 5) (.tmp 8), _, _, _, _⟩ :: _) _ _); refine wpList_put_hash (o := ⟨none, .store _ _ _, _, _, _, _⟩) rfl _ _ rfl w.heap.size rfl zeroS HZ.out rfl _ _ C2.out zero32_size ?_))
  refine bodyPost_ret (results_hash rfl _ _ _ _ _ _ rfl HZ.out (hset_heap _ C2.out)) rfl ⟨rfl, ?_, C3.out.trans (.of (hset_below _ (Below.refl _ _) (Nat.le_refl _)))⟩
  rw [hset_other _ (by omega)]; exact C1.out

set_option maxRecDepth 100000 in
set_option maxHeartbeats 2000000 in
theorem checkNone_any (w : World) (p q L : Nat) (hp : w.heap[p]? = some (.cells #[.int .i64 (L : Int)] 3 (0, 0))) (hpq : p ≠ q) (o : Option Addr) (m c : Nat) (P : List (List UInt8)) (hq : w.heap[q]? = some (.cells #[.slice o m c] 27 (0, 0))) (hP : HashesAt w o m c P) (hpo : ∀ b off, o = some ⟨b, off, none⟩ → b ≠ p) (h : List UInt8) (hh : P[L]? = some h) (hm : m ≤ 1000000) (f n : Int) :
    Calls Tryd.prog 42 #[.int .i64 f, .int .i64 n, .pointer (some ⟨p, 0, none⟩), .pointer (some ⟨q, 0, none⟩)] w fun x w' => x = .returned (.agg (byteCells h).toArray) ∧ w'.heap[p]? = some (.cells #[.int .i64 ((L + 1 : Nat) : Int)] 3 (0, 0)) ∧ BelowBut w.heap.size p w w' := by
  obtain ⟨W, hW⟩ : ∃ W, W = (w.setCell ⟨p, 0, none⟩ (.int .i64 ((L : Int) + 1))).alloc (.cells zero32 23) := ⟨_, rfl⟩
  obtain ⟨c1, c2, c3, c4⟩ := count_world hp W hW
  have hl := lt_of_block hp
  have hlm : L < m := by have := (List.getElem?_eq_some_iff.1 hh).1; rw [hP.1.1] at this; exact this
  have h32 := hP.2 h (List.mem_of_getElem? hh)
  obtain ⟨b, off, rfl⟩ := hP.form (by omega)
  have hcap := hP.1.2.1
  have hmax := hP.1.2.2.1
  obtain ⟨hbl, hr⟩ := hP.get hh
  have hrW : W.rangeAt b (off + L * 32) (byteCells h) := fun j v hv => by
    rw [World.cell?_of_block (a := ⟨b, _, none⟩) (c3.block b hbl (hpo b off rfl))]; exact hr j v hv
  have hc1 : ∀ o, (w.alloc o).cell? ⟨p, 0, none⟩ = some (.int .i64 (L : Int)) := fun o => cell_of_one ((Below.heap_alloc w o p hl).trans hp)
  have hf1 : ∀ o, (w.alloc o).frozen? ⟨p, 0, none⟩ = false := fun o => free_of_one ((Below.heap_alloc w o p hl).trans hp)
  have hcq : W.cell? ⟨q, 0, none⟩ = some (.slice (some ⟨b, off, none⟩) m c) := cell_of_one ((c3.block q (lt_of_block hq) (fun e => hpq e.symm)).trans hq)
  have hcp : W.cell? ⟨p, 0, none⟩ = some (.int .i64 ((L : Int) + 1)) := cell_of_one c1
  have C1 := Lib.hid c1; clear c1
  have C2 := Lib.hid c2; clear c2
  have C3 := Lib.hid c3; clear c3
  have HW := Lib.hid hW; clear hW
  have HR := Lib.hid hrW; clear hrW hr
  have H32 := Lib.hid h32; clear h32
  have hlm2 : (L : Int) < (m : Int) := by omega
  clear hp hq hP hh
  go_enter Tryd.func42, Tryd.ntmps42
  go_wp2_with (first | ((with_reducible show wpList _ _ _ (⟨some 9, _, _, _, _, _⟩ :: _) _ _); change wpList _ _ _ _ _ (World.alloc (w.setCell ⟨p, 0, none⟩ (.int .i64 ((L : Int) + 1))) (.cells zero32 23)); rw [← HW.out]) | ((with_reducible show wpList _ _ _ (⟨some 13, _, _, _, _, _⟩ :: _) _ _); refine wpList_load_hashAt (op := ⟨some 13, _, _, _, _, _⟩) rfl _ rfl b (off + L * 32) rfl h H32.out HR.out ?_) | ((with_reducible show wpList _ _ _ (⟨none, .store 23 (.tmp 6) (.tmp 13), _, _, _, _⟩ :: _) _ _); refine wpList_put_hash (o := ⟨none, .store _ _ _, _, _, _, _⟩) rfl _ _ rfl w.heap.size rfl h H32.out rfl _ _ C2.out zero32_size ?_))
  refine bodyPost_ret (results_hash rfl _ _ _ _ _ _ rfl H32.out (hset_heap _ C2.out)) rfl ⟨rfl, ?_, C3.out.trans (.of (hset_below _ (Below.refl _ _) (Nat.le_refl _)))⟩
  rw [hset_other _ (by omega)]; exact C1.out

set_option maxRecDepth 100000 in
set_option maxHeartbeats 2000000 in
theorem checkOne_any (w : World) (p q L : Nat) (hp : w.heap[p]? = some (.cells #[.int .i64 (L : Int)] 3 (0, 0))) (hpq : p ≠ q) (o : Option Addr) (m c : Nat) (X : List (List UInt8)) (hq : w.heap[q]? = some (.cells #[.slice o m c] 24 (0, 0))) (hX : StrsAt w o m c X) (hpo : ∀ b off, o = some ⟨b, off, none⟩ → b ≠ p) (l : List UInt8) (hh : X[L]? = some l) (hl5 : l.length ≤ 100000) (hm : m ≤ 1000000) (hLd : ∀ w', BelowBut w.heap.size p w w' → Laid w') (f : Int) :
    Calls Tryd.prog 43 #[.int .i64 f, .pointer (some ⟨p, 0, none⟩), .pointer (some ⟨q, 0, none⟩)] w fun x w' => x = .returned (.agg (byteCells (Tree.leaf l)).toArray) ∧ w'.heap[p]? = some (.cells #[.int .i64 ((L + 1 : Nat) : Int)] 3 (0, 0)) ∧ BelowBut w.heap.size p w w' := by
  obtain ⟨W, hW⟩ : ∃ W, W = (w.setCell ⟨p, 0, none⟩ (.int .i64 ((L : Int) + 1))).alloc (.cells zero32 23) := ⟨_, rfl⟩
  obtain ⟨c1, c2, c3, c4⟩ := count_world hp W hW
  have hl := lt_of_block hp
  have hlm : L < m := by have := (List.getElem?_eq_some_iff.1 hh).1; rw [hX.len] at this; exact this
  obtain ⟨b, off, rfl⟩ := hX.form (by omega)
  have hcap := hX.cap
  have hmax := hX.max
  have hbl : b < w.heap.size := by
    obtain ⟨b', off', h5, h6, _⟩ := hX.2.2.2 (by omega)
    cases h5; exact h6
  have hcX : W.cell? ⟨b, off + L, none⟩ = some (.string (strOf l)) := by
    rw [World.cell?_of_block (a := ⟨b, _, none⟩) (c3.block b hbl (hpo b off rfl))]; exact hX.get hh
  have hc1 : ∀ o, (w.alloc o).cell? ⟨p, 0, none⟩ = some (.int .i64 (L : Int)) := fun o => cell_of_one ((Below.heap_alloc w o p hl).trans hp)
  have hf1 : ∀ o, (w.alloc o).frozen? ⟨p, 0, none⟩ = false := fun o => free_of_one ((Below.heap_alloc w o p hl).trans hp)
  have hcq : W.cell? ⟨q, 0, none⟩ = some (.slice (some ⟨b, off, none⟩) m c) := cell_of_one ((c3.block q (lt_of_block hq) (fun e => hpq e.symm)).trans hq)
  have hcp : W.cell? ⟨p, 0, none⟩ = some (.int .i64 ((L : Int) + 1)) := cell_of_one c1
  have hlf := treeLeaf_any W l hl5 (hLd W c3)
  have HLF := Lib.hid hlf; clear hlf
  have C1 := Lib.hid c1; clear c1
  have C2 := Lib.hid c2; clear c2
  have C3 := Lib.hid c3; clear c3
  have HW := Lib.hid hW; clear hW
  have hlm2 : (L : Int) < (m : Int) := by omega
  have H32 := Lib.hid (Tree.leaf_len l)
  clear hp hq hX hh hLd
  go_enter Tryd.func43, Tryd.ntmps43
  go_wp2_with ((with_reducible show wpList _ _ _ (⟨some 7, _, _, _, _, _⟩ :: _) _ _); change wpList _ _ _ _ _ (World.alloc (w.setCell ⟨p, 0, none⟩ (.int .i64 ((L : Int) + 1))) (.cells zero32 23)); rw [← HW.out])
  refine HLF.out.mono ?_
  rintro e w2 ⟨rfl, b2⟩
  have x2 := (b2.block _ (lt_of_block C2.out)).trans C2.out
  have y2 := (b2.block _ (lt_of_block C1.out)).trans C1.out
  have X2 := Lib.hid x2; clear x2
  have Y2 := Lib.hid y2; clear y2
  have B2 := Lib.hid (C3.out.trans ((BelowBut.of b2).mono (Nat.le_of_lt c4))); clear b2
  go_wp2_with ((with_reducible show wpList _ _ _ (⟨none, .store 23 (.tmp 4) (.tmp 12), _, _, _, _⟩ :: _) _ _); refine wpList_put_hash (o := ⟨none, .store _ _ _, _, _, _, _⟩) rfl _ _ rfl w.heap.size rfl (Tree.leaf l) H32.out rfl _ _ X2.out zero32_size ?_)
  refine bodyPost_ret (results_hash rfl _ _ _ _ _ _ rfl H32.out (hset_heap _ X2.out)) rfl ⟨rfl, ?_, B2.out.trans (.of (hset_below _ (Below.refl _ _) (Nat.le_refl _)))⟩
  rw [hset_other _ (by omega)]; exact Y2.out

end Go.Proofs.YtgheacegjgaobaaDoor

/- The walk of the function that many.Prove hands to many.parts. -/
namespace Go.Proofs.YtgheacegjgaobaaDoor
open Go.RowKit
set_option linter.unusedSimpArgs false
set_option linter.unusedVariables false

/-- One sum more in a row of one's own: where it lies then. -/
theorem hashes_push {w : World} {base g : Nat} {v : Value} {d : List (List UInt8)} {h : List UInt8} (hown : w.ownsRow base 23 32 v d.length (hashCells d)) (hd : d.length ≤ 1000000) (hh : h.length = 32) (hg : w.heap[g]? = some (.cells (byteCells h).toArray 23 (0, 0))) (hB : base ≤ w.heap.size) :
    ∃ q c w', (Builtin.append_ #[27, 27] 27 #[v, .slice (some ⟨g, 0, none⟩) 1 1]).run Tryd.prog w = .ok (.slice q (d.length + 1) c) w' ∧ w'.ownsRow base 23 32 (.slice q (d.length + 1) c) (d.length + 1) (hashCells (d ++ [h])) ∧ w.grownBy w' v.ownBlock ∧ ∀ k, (Value.slice q (d.length + 1) c).ownBlock = some k → v.ownBlock = some k ∨ w.heap.size ≤ k := by
  obtain ⟨i, hi, hz0, hz1, hz2⟩ := info_parts Tryd.info_hs
  have hbl : (byteCells h).length = 1 * 32 := by rw [byteCells_length, hh]
  obtain ⟨v', w', h1, h2, h3, -⟩ := run_append_own (P := Tryd.prog) w base 27 27 23 i (.agg zero32) 32 32 Tryd.under_hs hi hz0 hz1 hz2 zero32_size (by decide) v d.length _ hown ⟨g, 0, none⟩ 1 1 (byteCells h) hbl (cells_row_at hg) (byteCells_one h) (by unfold maxLen; omega) (by omega) hB
  obtain ⟨q, c, rfl⟩ : ∃ a c, v' = .slice a (d.length + 1) c := by
    rcases h2.2 with ⟨_, h0⟩ | ⟨g', cap, cur, hv, _⟩
    · omega
    · exact ⟨_, _, hv⟩
  refine ⟨q, c, w', h1, by rw [hashCells_app, hashCells_one]; exact h2, h3, fun k hk => ?_⟩
  rcases hown.2 with ⟨rfl, h0⟩ | ⟨g', cap, cur, rfl, hbg, hgg, hnc, hcm, hcs, htk⟩
  · have hr := run_append_nil (P := Tryd.prog) w 27 27 23 i (.agg zero32) Tryd.under_hs hi hz0 ⟨g, 0, none⟩ 1 1 (byteCells h) (by rw [hz1]; exact hbl) (cells_row_at hg) (by decide) (by decide) (by rw [hz2]; decide)
    rw [h1] at hr
    injection hr with e1 e2
    rw [e1] at hk
    simp [Value.ownBlock] at hk
    right; omega
  · by_cases hroom : d.length + 1 ≤ cap
    · have hr := run_append_room (P := Tryd.prog) w 27 27 23 i Tryd.under_hs hi g' d.length cap cur hgg ⟨g, 0, none⟩ 1 1 (byteCells h) (by rw [hz1]; exact hbl) (cells_row_at hg) (byteCells_one h) hroom (by rw [hz1, hbl, hcs]; omega)
      rw [h1] at hr
      injection hr with e1 e2
      rw [e1] at hk
      left; exact hk
    · obtain ⟨v2, w2, hr, ho2, _⟩ := run_append_arg_grows (P := Tryd.prog) w 27 27 23 i (.agg zero32) 32 32 Tryd.under_hs hi hz0 hz1 hz2 zero32_size (by decide) ⟨g', 0, none⟩ d.length cap (hashCells d) hown.1 (hown.cells (g := g') rfl) ⟨g, 0, none⟩ 1 1 (byteCells h) hbl (cells_row_at hg) (by omega) (by unfold maxLen; omega) (by omega)
      rw [h1] at hr
      injection hr with e1 e2
      subst e1
      subst e2
      right; exact (ho2.lt k hk).1

theorem strs_part {w : World} {o : Option Addr} {m c f n : Nat} {L : List (List UInt8)} (h : StrsAt w o m c L) (hn : n = 0) (q : Option Addr) (c' : Nat) (hc : c' ≤ 9223372036854775807) : StrsAt w q n c' ((L.drop f).take n) := by
  subst hn
  rw [List.take_zero]
  exact ⟨rfl, Nat.zero_le _, hc, fun h => absurd h (by decide)⟩

/-- What the region's operations leave. -/
def pnV (w00 : World) (p q b6 f n m c : Nat) (o : Option Addr) (vo : Value) (L : List (List UInt8)) (S : List UInt8) (ix : Nat) (w : World) (v : Value) : Prop :=
  match ix with
  | 0 => v = vo
  | 1 => v = .slice o m c
  | 2 => v = .int .i64 (f : Int)
  | 3 => v = .int .i64 (f : Int)
  | 4 => v = .int .i64 (n : Int)
  | 5 => v = .int .i64 (((f + n : Nat) : Int))
  | 6 => ∃ (qq : Option Addr) (cc : Nat), v = .slice qq n cc ∧ StrsAt w00 qq n cc ((L.drop f).take n)
  | 7 => v = .agg (byteCells S).toArray
  | 8 => ∃ g, v = .slice (some ⟨g, 0, none⟩) 1 1 ∧ w.heap[g]? = some (.cells (byteCells S).toArray 23 (0, 0))
  | _ => True

theorem pnV_mono (w00 : World) (p q b6 f n m c : Nat) (o : Option Addr) (vo : Value) (L : List (List UInt8)) (S : List UInt8) (jx : Nat) (w w' : World) (v : Value) (hb : Below w.heap.size w w') (h : pnV w00 p q b6 f n m c o vo L S jx w v) : pnV w00 p q b6 f n m c o vo L S jx w' v := by
  match jx, h with
  | 0, h => exact h
  | 1, h => exact h
  | 2, h => exact h
  | 3, h => exact h
  | 4, h => exact h
  | 5, h => exact h
  | 6, h => exact h
  | 7, h => exact h
  | 8, h => exact (let ⟨g, h1, h2⟩ := h; ⟨g, h1, (hb.block g (lt_of_block h2)).trans h2⟩)
  | _ + 9, h => exact trivial


set_option maxRecDepth 100000 in
set_option maxHeartbeats 4000000 in
theorem proveNone_any (w00 w : World) (hL : Laid w00) (hb : Below w00.heap.size w00 w) (p q : Nat) (o : Option Addr) (m c : Nat) (L : List (List UInt8)) (hS : StrsAt w00 o m c L) (hlen : ∀ l ∈ L, l.length ≤ 100000) (hm : m ≤ 100000) (d : List (List UInt8)) (vo : Value)
    (hv : w.heap[p]? = some (.cells #[vo] 27 (0, 0))) (hown : w.ownsRow w00.heap.size 23 32 vo d.length (hashCells d)) (hq : w.heap[q]? = some (.cells #[.slice o m c] 24 (0, 0))) (hd : d.length ≤ 900000) (f n : Nat) (hfn : f + n ≤ m) (hn : 1 ≤ n ∨ m = 0) :
    Calls Tryd.prog 33 #[.int .i64 (f : Int), .int .i64 (n : Int), .pointer (some ⟨p, 0, none⟩), .pointer (some ⟨q, 0, none⟩)] w fun x w' => x = .returned (.agg (byteCells zeroS).toArray) ∧ ∃ v', w'.heap[p]? = some (.cells #[v'] 27 (0, 0)) ∧ w'.ownsRow w00.heap.size 23 32 v' (d.length + 1) (hashCells (d ++ [Tree.top ((L.drop f).take n)])) ∧
      (w'.os = w.os ∧ w'.tape = w.tape ∧ w'.output = w.output ∧ w.heap.size ≤ w'.heap.size) ∧ (∀ k, k < w.heap.size → k ≠ p → some k ≠ vo.ownBlock → w'.heap[k]? = w.heap[k]?) ∧ ∀ k, v'.ownBlock = some k → vo.ownBlock = some k ∨ w.heap.size ≤ k := by
  obtain ⟨W1, hW1⟩ : ∃ W1, W1 = w.alloc (.cells zero32 23) := ⟨_, rfl⟩
  have b1 : Below w.heap.size w W1 := by rw [hW1]; exact (Below.refl _ _).alloc (Nat.le_refl _) _
  have x6 : W1.heap[w.heap.size]? = some (.cells zero32 23 (0, 0)) := by rw [hW1]; exact heap_alloc_new w _
  have hpl := lt_of_block hv
  have hnp : some p ≠ vo.ownBlock := fun e => by
    rcases hown.2 with ⟨rfl, _⟩ | ⟨g, cap, cur, rfl, _, hgg, _⟩
    · cases e
    · simp only [Value.ownBlock, Option.some.injEq] at e
      subst e
      rw [hv] at hgg
      simp at hgg
  have hn6 : some w.heap.size ≠ vo.ownBlock := fun e => by have := (hown.lt _ e.symm).2; omega
  obtain ⟨S, hSe⟩ : ∃ S, S = Tree.top ((L.drop f).take n) := ⟨_, rfl⟩
  have hSl : S.length = 32 := by rw [hSe]; exact Tree.top_len _
  rw [← hSe]
  have XP := Lib.hid ((b1.block _ hpl).trans hv)
  have XQ := Lib.hid ((b1.block _ (lt_of_block hq)).trans hq)
  have HO := Lib.hid (ownsRow_below hown fun k hk => b1.block k (hown.lt k hk).2)
  have X6 := Lib.hid x6; clear x6
  have HB0 := Lib.hid (hb.trans (b1.mono hb.size))
  have HB1 := Lib.hid b1; clear b1
  have HNP := Lib.hid hnp; clear hnp
  have HN6 := Lib.hid hn6; clear hn6
  have HPW : Hid (w.heap.size ≠ p) := Lib.hid (by omega)
  have HSE := Lib.hid hSe; clear hSe
  have HSL := Lib.hid hSl; clear hSl
  have hcap := hS.cap
  have hmax := hS.max
  have HS := Lib.hid hS; clear hS
  have HL := Lib.hid hL; clear hL
  have HLT : Hid (∀ l ∈ (L.drop f).take n, l.length ≤ 100000) := Lib.hid fun l hl => hlen l (List.mem_of_mem_drop (List.mem_of_mem_take hl))
  have HNN : Hid (f + n ≤ m ∧ (1 ≤ n ∨ m = 0) ∧ m ≤ c ∧ c ≤ 9223372036854775807 ∧ n ≤ 500000) := Lib.hid ⟨hfn, hn, hcap, hmax, by omega⟩
  have HZ := Lib.hid zeroS_len
  have HW1 := Lib.hid hW1; clear hW1
  clear hv hown hq hlen hb
  go_enter Tryd.func33, Tryd.ntmps33
  go_wp2_with fail
  change Code.wp _ _ _ _ (World.alloc w (.cells zero32 23))
  rw [← HW1.out]
  refine wp_region_rel_tail [[], [], [], [], [], [3, 4], [1, 2, 5], [6], [7], [0, 8], [9]] (pnV w00 p q w.heap.size f n m c o vo L S) 18 9 (by kernel_rfl) (by kernel_rfl) (by kernel_rfl) (by kernel_rfl) (of_decide_eq_true (by kernel_rfl)) (pnV_mono w00 p q w.heap.size f n m c o vo L S) ?_ ?_
  · intro ix op him hi w2 b2 vs hv
    have hL2 := HL.out.below (HB0.out.trans (b2.mono HB0.out.size))
    obtain ⟨hn1, hn2, hn3, hn4, hn5⟩ := HNN.out
    match ix, him, hi with
    | 0, _, hi =>
      obtain rfl := Option.some.inj hi
      have hcv := cell_of_one ((b2.block _ (lt_of_block XP.out)).trans XP.out)
      simp only [relF, List.getD_cons_zero, List.getD_cons_succ, List.foldl_cons, List.foldl_nil, dstAt, List.getElem?_cons_zero, List.getElem?_cons_succ, Option.bind_some]
      go_wp2_with fail
      exact ⟨rfl, Below.refl _ _, rfl, rfl⟩
    | 1, _, hi =>
      obtain rfl := Option.some.inj hi
      have hcv := cell_of_one ((b2.block _ (lt_of_block XQ.out)).trans XQ.out)
      simp only [relF, List.getD_cons_zero, List.getD_cons_succ, List.foldl_cons, List.foldl_nil, dstAt, List.getElem?_cons_zero, List.getElem?_cons_succ, Option.bind_some]
      go_wp2_with fail
      exact ⟨rfl, Below.refl _ _, rfl, rfl⟩
    | 2, _, hi =>
      obtain rfl := Option.some.inj hi
      simp only [relF, List.getD_cons_zero, List.getD_cons_succ, List.foldl_cons, List.foldl_nil, dstAt, List.getElem?_cons_zero, List.getElem?_cons_succ, Option.bind_some]
      go_wp2_with fail
      exact ⟨rfl, Below.refl _ _, rfl, rfl⟩
    | 3, _, hi =>
      obtain rfl := Option.some.inj hi
      simp only [relF, List.getD_cons_zero, List.getD_cons_succ, List.foldl_cons, List.foldl_nil, dstAt, List.getElem?_cons_zero, List.getElem?_cons_succ, Option.bind_some]
      go_wp2_with fail
      exact ⟨rfl, Below.refl _ _, rfl, rfl⟩
    | 4, _, hi =>
      obtain rfl := Option.some.inj hi
      simp only [relF, List.getD_cons_zero, List.getD_cons_succ, List.foldl_cons, List.foldl_nil, dstAt, List.getElem?_cons_zero, List.getElem?_cons_succ, Option.bind_some]
      go_wp2_with fail
      exact ⟨rfl, Below.refl _ _, rfl, rfl⟩
    | 5, _, hi =>
      obtain rfl := Option.some.inj hi
      have h3 : vs 3 = _ := hv 3 (by decide)
      have h4 : vs 4 = _ := hv 4 (by decide)
      simp only [relF, List.getD_cons_zero, List.getD_cons_succ, List.foldl_cons, List.foldl_nil, dstAt, List.getElem?_cons_zero, List.getElem?_cons_succ, Option.bind_some]
      go_frame
      rw [h3, h4]
      go_wp2_with fail
      exact ⟨rfl, Below.refl _ _, rfl, by first | rfl | (show slotOf _ _ = _; simp [slotOf]; done) | (show slotOf _ _ = _; simp [slotOf]; omega)⟩
    | 6, _, hi =>
      obtain rfl := Option.some.inj hi
      have h1 : vs 1 = _ := hv 1 (by decide)
      have h2 : vs 2 = _ := hv 2 (by decide)
      have h5 : vs 5 = _ := hv 5 (by decide)
      simp only [relF, List.getD_cons_zero, List.getD_cons_succ, List.foldl_cons, List.foldl_nil, dstAt, List.getElem?_cons_zero, List.getElem?_cons_succ, Option.bind_some]
      go_frame
      rw [h1, h2, h5]
      by_cases hn0 : n = 0
      · obtain rfl : m = 0 := by omega
        obtain rfl : f = 0 := by omega
        subst hn0
        rcases o with _ | a
        · by_cases hc0 : c = 0
          · subst hc0
            go_wp2_with fail
            exact ⟨rfl, Below.refl _ _, rfl, _, _, by first | rfl | (show slotOf _ _ = _; simp [slotOf]; rfl), strs_part HS.out rfl _ _ (by omega)⟩
          · have hcb : (c == 0) = false := by rw [beq_eq_false_iff_ne]; exact hc0
            go_wp2_with fail
            exact ⟨rfl, Below.refl _ _, rfl, _, _, by first | rfl | (show slotOf _ _ = _; simp [slotOf]; rfl), strs_part HS.out rfl _ _ (by omega)⟩
        · by_cases hc0 : c = 0
          · subst hc0
            go_wp2_with fail
            exact ⟨rfl, Below.refl _ _, rfl, _, _, by first | rfl | (show slotOf _ _ = _; simp [slotOf]; rfl), strs_part HS.out rfl _ _ (by omega)⟩
          · have hcb : (c == 0) = false := by rw [beq_eq_false_iff_ne]; exact hc0
            go_wp2_with fail
            exact ⟨rfl, Below.refl _ _, rfl, _, _, by first | rfl | (show slotOf _ _ = _; simp [slotOf]; rfl), strs_part HS.out rfl _ _ (by omega)⟩
      · obtain ⟨b, off, rfl⟩ := HS.out.form (by omega)
        have hcf : (c == f) = false := by rw [beq_eq_false_iff_ne]; omega
        have hcf' : ((c : Int) == (f : Int)) = false := by rw [beq_eq_false_iff_ne]; omega
        have hcne : ¬ c = f := by omega
        have hsub : f + n - f = n := by omega
        go_wp2_with fail
        exact ⟨rfl, Below.refl _ _, rfl, some ⟨b, off + f, none⟩, c - f, by first | rfl | (show slotOf _ _ = _; simp [slotOf]; done) | (show slotOf _ _ = _; simp [slotOf]; omega), (HS.out.drop f (by omega)).take n (c - f) (by omega) (by omega) (by omega)⟩
    | 7, _, hi =>
      obtain rfl := Option.some.inj hi
      obtain ⟨qq6, cc6, e6, k6⟩ := hv 6 (by decide)
      have htc := treeTop_any n w2 _ _ _ ((L.drop f).take n) rfl (k6.below (Nat.le_refl _) (HB0.out.trans (b2.mono HB0.out.size))) (by omega) HLT.out hL2
      rw [← HSE.out] at htc
      simp only [relF, List.getD_cons_zero, List.getD_cons_succ, List.foldl_cons, List.foldl_nil, dstAt, List.getElem?_cons_zero, List.getElem?_cons_succ, Option.bind_some]
      go_frame
      rw [e6]
      go_wp2_with fail
      refine (htc).mono ?_
      rintro e w3 ⟨rfl, b3⟩
      go_wp2_with fail
      exact ⟨rfl, b3, rfl, rfl⟩
    | 8, _, hi =>
      obtain rfl := Option.some.inj hi
      have h7 : vs 7 = _ := hv 7 (by decide)
      have hbc : (byteCells S).length = 32 := by rw [byteCells_length, HSL.out]
      simp only [relF, List.getD_cons_zero, List.getD_cons_succ, List.foldl_cons, List.foldl_nil, dstAt, List.getElem?_cons_zero, List.getElem?_cons_succ, Option.bind_some]
      go_frame
      rw [h7]
      go_wp2_with fail
      exact ⟨rfl, (Below.refl _ _).alloc (Nat.le_refl _) _, rfl, w2.heap.size, rfl, alloc_built w2 hbc⟩
    | nx + 9, him, _ => exact absurd him (by omega)
  · intro w2 b2 vs hv
    have hL2 := HL.out.below (HB0.out.trans (b2.mono HB0.out.size))
    obtain ⟨hn1, hn2, hn3, hn4, hn5⟩ := HNN.out
    have h0 : vs 0 = _ := hv 0 (by decide)
    obtain ⟨g8, e8, s8⟩ := hv 8 (by decide)
    simp only [relF, List.drop_succ_cons, List.drop_zero, List.length_cons, List.length_nil, Nat.zero_add, Nat.reduceAdd, List.range, List.range.loop, List.foldl_cons, List.foldl_nil, dstAt, List.getElem?_cons_zero, List.getElem?_cons_succ, Option.bind_some]
    go_frame
    rw [h0, e8]
    have own2 := ownsRow_below HO.out fun k hk => b2.block k (HO.out.lt k hk).2
    obtain ⟨q', c', w5, hrun, hown5, hgr5, hft5⟩ := hashes_push own2 (by omega) HSL.out s8 (by have := HB0.out.size; have := b2.size; omega)
    have xp2 := (b2.block _ (lt_of_block XP.out)).trans XP.out
    have xp5 : w5.heap[p]? = some (.cells #[vo] 27 (0, 0)) := (hgr5.block p (lt_of_block xp2) HNP.out).trans xp2
    have x62 := (b2.block _ (lt_of_block X6.out)).trans X6.out
    have x65 : w5.heap[w.heap.size]? = some (.cells zero32 23 (0, 0)) := (hgr5.block _ (lt_of_block x62) (HN6.out)).trans x62
    have hc5 := cell_of_one xp5
    have hf5 := free_of_one xp5
    obtain ⟨W6, hW6⟩ : ∃ W6, W6 = w5.setCell ⟨p, 0, none⟩ (.slice q' (d.length + 1) c') := ⟨_, rfl⟩
    have x66 : W6.heap[w.heap.size]? = some (.cells zero32 23 (0, 0)) := by rw [hW6, Below.heap_setCell _ _ _ _ (by simp only; exact HPW.out)]; exact x65
    have xp6 : W6.heap[p]? = some (.cells #[.slice q' (d.length + 1) c'] 27 (0, 0)) := by rw [hW6, one_setCell xp5]
    have own6 := ownsRow_below (w' := W6) hown5 fun k hk => by rw [hW6]; exact Below.heap_setCell _ _ _ _ (fun e => by
      have e' : p = k := (show k = p from e).symm
      subst e'
      rcases hft5 p hk with h1 | h1
      · exact HNP.out h1.symm
      · have := lt_of_block xp2; omega)
    have hblk : ∀ k, k < w.heap.size → k ≠ p → some k ≠ vo.ownBlock → W6.heap[k]? = w.heap[k]? := fun k hk h1 h2 => by
      have hkW : k < W1.heap.size := by have := HB1.out.size; omega
      rw [hW6, Below.heap_setCell _ _ _ _ (by simp only; omega), hgr5.block k (by have := b2.size; omega) h2, b2.block k hkW, HB1.out.block k hk]
    have hsz6 : w.heap.size < W6.heap.size := by rw [hW6]; have := hgr5.size; have := b2.size; have := HB1.out.size; have := lt_of_block X6.out; simp; omega
    have hos6 : W6.os = w.os ∧ W6.tape = w.tape ∧ W6.output = w.output := by
      rw [hW6]
      exact ⟨hgr5.os.trans (b2.os.trans HB1.out.os), hgr5.tape.trans (b2.tape.trans HB1.out.tape), hgr5.output.trans (b2.output.trans HB1.out.output)⟩
    have HW6 := Lib.hid hW6; clear hW6
    have X66 := Lib.hid x66; clear x66 x65 x62
    have XP6 := Lib.hid xp6; clear xp6 xp5 xp2
    have OWN6 := Lib.hid own6; clear own6 own2 hown5
    have HBK := Lib.hid hblk; clear hblk hgr5
    have HOS := Lib.hid hos6; clear hos6
    have HFT := Lib.hid hft5; clear hft5
    clear s8
    go_wp2_with (first | ((with_reducible show wpList _ _ _ (⟨some 16, _, _, _, _, _⟩ :: _) _ _); refine wpList_append_ran (by kernel_rfl) _ _ _ rfl _ _ rfl rfl hrun ?_) | ((with_reducible show wpList _ _ _ (⟨some 17, _, _, _, _, _⟩ :: _) _ _); change wpList _ _ _ _ _ (World.setCell w5 ⟨p, 0, none⟩ (.slice q' (d.length + 1) c')); rw [← HW6.out]) | ((with_reducible show wpList _ _ _ (⟨some 17, _, _, _, _, _⟩ :: _) _ _); refine wpList_zero_hash (op := ⟨some 17, _, _, _, _, _⟩) (by kernel_rfl) rfl ?_) | ((with_reducible show wpList _ _ _ (⟨none, .store 23 (.tmp 6) (.tmp 17), _, _, _, _⟩ :: _) _ _); refine wpList_put_hash (o := ⟨none, .store _ _ _, _, _, _, _⟩) rfl _ _ rfl w.heap.size rfl zeroS HZ.out rfl _ _ X66.out zero32_size ?_))
    refine bodyPost_ret (results_hash rfl _ _ _ _ _ _ rfl HZ.out (hset_heap _ X66.out)) rfl ⟨rfl, .slice q' (d.length + 1) c', ?_, ?_, ?_, ?_, ?_⟩
    · rw [hset_other _ (fun e => HPW.out e.symm)]; exact XP6.out
    · refine ownsRow_below OWN6.out fun k hk => hset_other _ (fun e => ?_)
      rcases HFT.out k hk with h1 | h1
      · exact HN6.out (by rw [← e, h1])
      · have := HB1.out.size; have := lt_of_block X6.out; have := b2.size; omega
    · exact ⟨HOS.out.1, HOS.out.2.1, HOS.out.2.2, by rw [hset_size]; omega⟩
    · intro k hk h1 h2
      rw [hset_other _ (by omega)]; exact HBK.out k hk h1 h2
    · intro k hk
      rcases HFT.out k hk with h1 | h1
      · exact .inl h1
      · right; have := HB1.out.size; have := b2.size; omega
end Go.Proofs.YtgheacegjgaobaaDoor

/- The walks of many.Size, Prove. -/
namespace Go.Proofs.YtgheacegjgaobaaDoor
open Go.RowKit
set_option linter.unusedSimpArgs false
set_option linter.unusedVariables false

/-- Places that rise, as they came: natural numbers. -/
theorem rises_form {n : Int} {A : List Int} (h : risesB n A = true) : ∃ B : List Nat, A = B.map Int.ofNat ∧ B.Pairwise (· < ·) ∧ ∀ a ∈ B, (a : Int) < n := by
  obtain ⟨B, h1, h2, h3⟩ := Many.rises_nat (Int.le_refl _) h
  exact ⟨B, h1, h2, fun a ha => (h3 a ha).1⟩
theorem rises_intro {n : Int} {B : List Nat} (h1 : B.Pairwise (· < ·)) (h2 : ∀ a ∈ B, (a : Int) < n) : risesB n (B.map Int.ofNat) = true :=
  Many.rises_of h1 fun a ha => ⟨h2 a ha, by omega⟩

theorem inr_whole {n : Nat} {B : List Nat} (h : ∀ a ∈ B, a < n) : Many.inr B 0 (0 + n) = B := by rw [Nat.zero_add]; exact Many.inr_all h

theorem tops_small {B : List Nat} {n : Nat} (hn : n ≤ 65536) : (Many.tops B 0 n).length ≤ 100000 := by
  have := (Many.tops_len B n 0).1
  omega

/-- Is it refused? -/
def sizeBad (n : Int) (A : List Int) : Bool := decide (n < 0) || (decide (65536 < n) || !risesB n A)

/-- What the counter is while many.Size goes on. -/
def SizeK (p : Nat) (D : List (Nat × Nat)) (j : Nat) (w : World) : Prop := w.heap[p]? = some (.cells #[.int .i64 (D.length : Int)] 3 (0, 0))

theorem stp_but {Foot : World → Nat → Prop} {p : Nat} {w w' : World} (hF : ∀ w k, k = p → Foot w k) (hF2 : ∀ k, Foot w' k → Foot w k) (h : BelowBut w.heap.size p w w') : Stp Foot w w' :=
  ⟨h.os, h.tape, h.output, h.size, fun k hk hf => h.block k hk (fun e => hf (hF w k e)), fun k hk => .inl (hF2 k hk)⟩

theorem sizeClo (w00 : World) (N M p : Nat) (hp : w00.heap.size ≤ p) : Clo 48 49 #[.pointer (some ⟨p, 0, none⟩)] #[] w00 N 1000000 M (SizeK p) (fun _ k => k = p) (fun _ _ _ => zeroS) (fun _ _ => zeroS) where
  keep := fun D j w w' hK hs hk => ⟨(hk p rfl).trans hK, fun k h => h⟩
  bound := fun D j w k hK hk => by subst hk; exact ⟨hp, lt_of_block hK⟩
  cfn := Tryd.callSize1
  cfo := Tryd.callSize2
  none := fun D j f n w hK hB hT hN _ => (sizeNone_any w p D.length hK (by omega) f n).mono fun x w' ⟨h1, h2, h3⟩ => ⟨h1, by unfold SizeK; rw [List.length_append]; exact h2, stp_but (fun _ _ e => e) (fun _ h => h) h3⟩
  one := fun D j f w hK hB hM hN => (sizeOne_any w f).mono fun x w' ⟨h1, h2⟩ => ⟨h1, (h2.block p (lt_of_block hK)).trans hK, ⟨h2.os, h2.tape, h2.output, h2.size, fun k hk _ => h2.block k hk, fun k hk => .inl hk⟩⟩
  lenN := fun _ _ _ => zeroS_len
  lenO := fun _ _ => zeroS_len

set_option maxRecDepth 100000 in
set_option maxHeartbeats 1000000 in
theorem manySize_bad (w : World) (n : Int) (o : Option Addr) (m c : Nat) (A : List Int) (hA : IntsAt w o m c A) (h : sizeBad n A = true) :
    Calls Tryd.prog 19 #[.int .i64 n, .slice o m c] w fun e w' => e = .returned (.int .i64 0) ∧ Below w.heap.size w w' := by
  have hr := manyRises_any w n o m c A hA
  have HR := Lib.hid hr; clear hr hA
  unfold sizeBad at h
  rcases h1 : decide (n < 0) with _ | _
  · rcases h2 : decide (65536 < n) with _ | _
    · have h3 : risesB n A = false := by rw [h1, h2] at h; simpa using h
      have hr := HR.out
      rw [h3] at hr
      have HR2 := Lib.hid hr; clear hr HR h3 h
      go_enter Tryd.func19, Tryd.ntmps19
      go_wp2_with fail
      refine HR2.out.mono ?_
      rintro e w1 ⟨rfl, b1⟩
      go_wp2_with fail
      go_ret
      exact ⟨rfl, b1⟩
    · clear h HR
      go_enter Tryd.func19, Tryd.ntmps19
      go_wp2_with fail
      go_ret
      exact ⟨rfl, Below.refl _ _⟩
  · clear h HR
    go_enter Tryd.func19, Tryd.ntmps19
    go_wp2_with fail
    go_ret
    exact ⟨rfl, Below.refl _ _⟩

set_option maxRecDepth 100000 in
set_option maxHeartbeats 2000000 in
theorem manySize_any (w : World) (n : Nat) (hn : n ≤ 65536) (o : Option Addr) (m c : Nat) (B : List Nat) (hA : IntsAt w o m c (B.map Int.ofNat)) (hm : m ≤ 1000000) (hB : B.Pairwise (· < ·)) (hBn : ∀ a ∈ B, a < n) (hL : Laid w) :
    Calls Tryd.prog 19 #[.int .i64 (n : Int), .slice o m c] w fun e w' => e = .returned (.int .i64 ((Many.tops B 0 n).length : Int)) ∧ Below w.heap.size w w' := by
  have hmf : ∀ (fn : Fn) (first cap : Array Value) (w : World), (Instr.makeFunc fn first cap).run Tryd.prog w = .ok (.func fn first cap) w := fun _ _ _ _ => rfl
  have hr := manyRises_any w n o m c _ hA
  rw [rises_intro hB (fun a ha => by have := hBn a ha; omega)] at hr
  have HR := Lib.hid hr; clear hr
  have hlen := hA.len
  rw [List.length_map] at hlen
  have hT := tops_small (B := B) hn
  have HA := Lib.hid hA; clear hA
  have HL := Lib.hid hL; clear hL
  have hpc := fun (w1 w2 : World) (b1 : Below w.heap.size w w1) (hK : SizeK w1.heap.size [] 0 w2) (b2 : Below w1.heap.size w1 w2) =>
    parts_any (sizeClo w1 n 1000000 w1.heap.size (Nat.le_refl _)) (HL.out.below b1) B hB (by omega) (Nat.le_refl _) n 0 [] 0 o m c w2 hK b2 (by rw [inr_whole hBn]; exact HA.out.below (Nat.le_refl _) b1) (by omega) (by simp; omega) (by rw [inr_whole hBn]; omega) (by omega)
  simp only [List.nil_append] at hpc
  have HPC := Lib.hid hpc; clear hpc
  clear hB hBn
  have t1 : decide ((n : Int) < 0) = false := decide_eq_false (by omega)
  have t2 : decide ((65536 : Int) < (n : Int)) = false := decide_eq_false (by omega)
  have t2' : decide (65536 < n) = false := decide_eq_false (by omega)
  go_enter Tryd.func19, Tryd.ntmps19
  go_wp2_with fail
  refine HR.out.mono ?_
  rintro e w1 ⟨rfl, b1⟩
  clear HR
  go_wp2_with fail
  refine (HPC.out w1 _ b1 ?_ ?_).mono ?_
  · exact heap_alloc_new w1 _
  · exact (Below.refl _ _).alloc (Nat.le_refl _) _
  rintro e w2 ⟨rfl, hK, hS⟩
  have hcell := cell_of_one (show w2.heap[w1.heap.size]? = some (.cells #[.int .i64 ((Many.tops B 0 n).length : Int)] 3 (0, 0)) from hK)
  have b2 : Below w1.heap.size w1 w2 := ⟨hS.os, hS.tape, hS.output, by have := hS.size; simp at this; omega, fun k hk => by
    rw [hS.block k (by simp; omega) (by omega)]; exact Below.heap_alloc _ _ _ hk⟩
  clear hK hS HPC
  go_wp2_with fail
  go_ret
  exact ⟨rfl, b1.trans (b2.mono b1.size)⟩

/-- What many.Prove keeps while it goes on: the sums so far, the leaves. -/
def ProveK (w00 : World) (p q : Nat) (o : Option Addr) (m c : Nat) (L : List (List UInt8)) (D : List (Nat × Nat)) (j : Nat) (w : World) : Prop :=
  (∃ v, w.heap[p]? = some (.cells #[v] 27 (0, 0)) ∧ w.ownsRow w00.heap.size 23 32 v D.length (hashCells (D.map fun x => Tree.top ((L.drop x.1).take x.2)))) ∧ w.heap[q]? = some (.cells #[.slice o m c] 24 (0, 0))

/-- What is its own. -/
def ProveF (p q : Nat) (w : World) (k : Nat) : Prop := k = p ∨ k = q ∨ ∃ v, w.heap[p]? = some (.cells #[v] 27 (0, 0)) ∧ v.ownBlock = some k

theorem one_inj {w : World} {p : Nat} {v v' : Value} {t : TypeId} {fr : Nat × Nat} (h : w.heap[p]? = some (.cells #[v] t fr)) (h' : w.heap[p]? = some (.cells #[v'] t fr)) : v = v' := by
  rw [h] at h'
  simpa using h'

theorem proveClo (w00 : World) (p q m c : Nat) (o : Option Addr) (L : List (List UInt8)) (hp : w00.heap.size ≤ p) (hq : w00.heap.size ≤ q) (hpq : p ≠ q) (hL : Laid w00) (hS : StrsAt w00 o m c L) (hlen : ∀ l ∈ L, l.length ≤ 100000) (hm : m ≤ 100000) (M : Nat) :
    Clo 33 35 #[.pointer (some ⟨p, 0, none⟩), .pointer (some ⟨q, 0, none⟩)] #[] w00 m 900000 M (ProveK w00 p q o m c L) (ProveF p q) (fun _ _ _ => zeroS) (fun _ _ => zeroS) where
  keep := fun D j w w' ⟨⟨v, h1, h2⟩, h3⟩ hs hk => by
    have e1 := hk p (.inl rfl)
    refine ⟨⟨⟨v, e1.trans h1, ownsRow_below h2 fun k hk' => hk k (.inr (.inr ⟨v, h1, hk'⟩))⟩, (hk q (.inr (.inl rfl))).trans h3⟩, fun k hf => ?_⟩
    rcases hf with h | h | ⟨v', h4, h5⟩
    · exact .inl h
    · exact .inr (.inl h)
    · exact .inr (.inr ⟨v', e1.symm.trans h4, h5⟩)
  bound := fun D j w k ⟨⟨v, h1, h2⟩, h3⟩ hf => by
    rcases hf with rfl | rfl | ⟨v', h4, h5⟩
    · exact ⟨hp, lt_of_block h1⟩
    · exact ⟨hq, lt_of_block h3⟩
    · obtain rfl := one_inj h1 h4
      exact h2.lt k h5
  cfn := Tryd.callProve1
  cfo := Tryd.callProve2
  none := fun D j f n w ⟨⟨v, h1, h2⟩, h3⟩ hB hT hN hn => by
    have h2' : w.ownsRow w00.heap.size 23 32 v (D.map fun x => Tree.top ((L.drop x.1).take x.2)).length (hashCells (D.map fun x => Tree.top ((L.drop x.1).take x.2))) := by rw [List.length_map]; exact h2
    refine (proveNone_any w00 w hL hB p q o m c L hS hlen hm _ v h1 h2' h3 (by rw [List.length_map]; omega) f n hN hn).mono fun x w' ⟨g1, v', g2, g3, ⟨g4, g5, g6, g7⟩, g8, g9⟩ => ?_
    have hqv : some q ≠ v.ownBlock := fun e => by
      rcases h2.2 with ⟨rfl, _⟩ | ⟨g, cap, cur, rfl, _, hgg, _⟩
      · cases e
      · simp only [Value.ownBlock, Option.some.injEq] at e
        subst e
        rw [h3] at hgg
        simp at hgg
    refine ⟨g1, ⟨⟨v', g2, ?_⟩, (g8 q (lt_of_block h3) (fun e => hpq e.symm) hqv).trans h3⟩, ⟨g4, g5, g6, g7, fun k hk hf => g8 k hk (fun e => hf (.inl e)) (fun e => hf (.inr (.inr ⟨v, h1, e.symm⟩))), fun k hf => ?_⟩⟩
    · rw [List.length_map] at g3
      rw [List.length_append, List.map_append]
      exact g3
    · rcases hf with h | h | ⟨v2, h4, h5⟩
      · exact .inl (.inl h)
      · exact .inl (.inr (.inl h))
      · obtain rfl := one_inj g2 h4
        rcases g9 k h5 with h | h
        · exact .inl (.inr (.inr ⟨v, h1, h⟩))
        · exact .inr h
  one := fun D j f w ⟨⟨v, h1, h2⟩, h3⟩ hB hM hN => (proveOne_any w f).mono fun x w' ⟨g1, g2⟩ =>
    ⟨g1, ⟨⟨v, (g2.block p (lt_of_block h1)).trans h1, ownsRow_below h2 fun k hk => g2.block k (h2.lt k hk).2⟩, (g2.block q (lt_of_block h3)).trans h3⟩, ⟨g2.os, g2.tape, g2.output, g2.size, fun k hk _ => g2.block k hk, fun k hf => by
      rcases hf with h | h | ⟨v2, h4, h5⟩
      · exact .inl (.inl h)
      · exact .inl (.inr (.inl h))
      · obtain rfl := one_inj ((g2.block p (lt_of_block h1)).trans h1) h4
        exact .inl (.inr (.inr ⟨v, h1, h5⟩))⟩⟩
  lenN := fun _ _ _ => zeroS_len
  lenO := fun _ _ => zeroS_len

set_option maxRecDepth 100000 in
set_option maxHeartbeats 1000000 in
theorem manyProve_bad (w : World) (o oA : Option Addr) (m c mA cA : Nat) (A : List Int) (hm : m ≤ c) (hc : c ≤ 9223372036854775807) (hA : IntsAt w oA mA cA A) (h : risesB (m : Int) A = false) :
    Calls Tryd.prog 13 #[.slice o m c, .slice oA mA cA] w fun e w' => e = .returned (.tuple #[.slice none 0 0, .int .i64 40]) ∧ Below w.heap.size w w' := by
  obtain ⟨W0, hW0⟩ : ∃ W0, W0 = w.alloc (.cells #[.slice o m c] 24) := ⟨_, rfl⟩
  have b0 : Below w.heap.size w W0 := by rw [hW0]; exact (Below.refl _ _).alloc (Nat.le_refl _) _
  have hr := manyRises_any W0 m oA mA cA A (hA.below (Nat.le_refl _) b0)
  rw [h] at hr
  have HR := Lib.hid hr; clear hr hA h
  have HW0 := Lib.hid hW0; clear hW0
  go_enter Tryd.func13, Tryd.ntmps13
  go_wp2_with fail
  rw [← HW0.out]
  refine HR.out.mono ?_
  rintro e w1 ⟨rfl, b1⟩
  go_wp2_with fail
  go_ret2
  exact ⟨rfl, b0.trans (b1.mono b0.size)⟩

set_option maxRecDepth 100000 in
set_option maxHeartbeats 2000000 in
theorem manyProve_any (w : World) (o oA : Option Addr) (m c mA cA : Nat) (L : List (List UInt8)) (B : List Nat) (hS : StrsAt w o m c L) (hA : IntsAt w oA mA cA (B.map Int.ofNat)) (hB : B.Pairwise (· < ·)) (hBn : ∀ a ∈ B, a < m) (hlen : ∀ l ∈ L, l.length ≤ 100000) (hm : m ≤ 60000) (hmA : mA ≤ 1000000) (hL : Laid w) :
    Calls Tryd.prog 13 #[.slice o m c, .slice oA mA cA] w fun e w' => ∃ q cc, e = .returned (.tuple #[.slice q (Many.prove L B).length cc, .int .i64 0]) ∧ HashesAt w' q (Many.prove L B).length cc (Many.prove L B) ∧ Below w.heap.size w w' := by
  have hmf : ∀ (fn : Fn) (first cap : Array Value) (w : World), (Instr.makeFunc fn first cap).run Tryd.prog w = .ok (.func fn first cap) w := fun _ _ _ _ => rfl
  obtain ⟨W0, hW0⟩ : ∃ W0, W0 = w.alloc (.cells #[.slice o m c] 24) := ⟨_, rfl⟩
  have b0 : Below w.heap.size w W0 := by rw [hW0]; exact (Below.refl _ _).alloc (Nat.le_refl _) _
  have x0 : W0.heap[w.heap.size]? = some (.cells #[.slice o m c] 24 (0, 0)) := by rw [hW0]; exact heap_alloc_new w _
  have hr := manyRises_any W0 m oA mA cA _ (hA.below (Nat.le_refl _) b0)
  rw [rises_intro hB (fun a ha => by have := hBn a ha; omega)] at hr
  have HR := Lib.hid hr; clear hr
  have hlL := hS.len
  have hcap := hS.cap
  have hmax := hS.max
  have hlen2 := hA.len
  rw [List.length_map] at hlen2
  have hT := tops_small (B := B) (n := m) (by omega)
  have hpL : Many.prove L B = (Many.tops B 0 m).map fun x => Tree.top ((L.drop x.1).take x.2) := by unfold Many.prove; rw [hlL]
  have hpc := fun (p : Nat) (hp : w.heap.size < p) (w2 : World) (hK : ProveK w p w.heap.size o m c L [] 0 w2) (b2 : Below w.heap.size w w2) =>
    parts_any (proveClo w p w.heap.size m c o L (by omega) (Nat.le_refl _) (by omega) hL hS hlen (by omega) 1000000) hL B hB (by omega) (Nat.le_refl _) m 0 [] 0 oA mA cA w2 hK b2 (by rw [inr_whole hBn]; exact hA) (by omega) (by simp; omega) (by rw [inr_whole hBn]; omega) (by omega)
  simp only [List.nil_append] at hpc
  have HPC := Lib.hid hpc; clear hpc
  have HPL := Lib.hid hpL; clear hpL
  have X0 := Lib.hid x0; clear x0
  have HW0 := Lib.hid hW0; clear hW0
  have hcell0 : ∀ w', Below W0.heap.size W0 w' → w'.cell? ⟨w.heap.size, 0, none⟩ = some (.slice o m c) := fun w' hb => cell_of_one ((hb.block _ (lt_of_block X0.out)).trans X0.out)
  have HC0 := Lib.hid hcell0; clear hcell0
  clear hS hA hB hBn hlen hL hlL hlen2
  go_enter Tryd.func13, Tryd.ntmps13
  go_wp2_with fail
  rw [← HW0.out]
  refine HR.out.mono ?_
  rintro e w1 ⟨rfl, b1⟩
  clear HR
  have hs1 : w.heap.size < w1.heap.size := by have := lt_of_block X0.out; have := b1.size; omega
  have x1 := (b1.block _ (lt_of_block X0.out)).trans X0.out
  have b01 := b0.trans (b1.mono b0.size)
  have bb : Below w1.heap.size w1 (w1.alloc (.cells #[.slice none 0 0] 27)) := (Below.refl _ _).alloc (Nat.le_refl _) _
  have hcq : (w1.alloc (.cells #[.slice none 0 0] 27)).cell? ⟨w.heap.size, 0, none⟩ = some (.slice o m c) := HC0.out _ (b1.trans (bb.mono b1.size))
  have HX1 := Lib.hid x1; clear x1
  go_wp2_with fail
  refine (HPC.out w1.heap.size hs1 _ ?_ ?_).mono ?_
  · refine ⟨⟨.slice none 0 0, heap_alloc_new w1 _, World.ownsRow_nil _ _ _ _⟩, ?_⟩
    exact (Below.heap_alloc _ _ _ (lt_of_block HX1.out)).trans HX1.out
  · exact b01.trans (bb.mono b01.size)
  rintro e w2 ⟨rfl, hK, hSt⟩
  obtain ⟨⟨v, h1, h2⟩, h3⟩ := hK
  obtain ⟨q, cc, rfl⟩ := ownsRow_slice h2
  have hcell := cell_of_one h1
  have hhs : HashesAt w2 q (Many.prove L B).length cc (Many.prove L B) := by
    have hl : (Many.prove L B).length = (Many.tops B 0 m).length := by rw [HPL.out, List.length_map]
    refine HashesAt.of_owns (base := w.heap.size) ?_ (Many.prove_32 L B)
    rw [hl, HPL.out]; exact h2
  have hl : (Many.tops B 0 m).length = (Many.prove L B).length := by rw [HPL.out, List.length_map]
  rw [hl] at hcell
  have b2 : Below w.heap.size w w2 := ⟨hSt.os.trans (bb.os.trans b01.os), hSt.tape.trans (bb.tape.trans b01.tape), hSt.output.trans (bb.output.trans b01.output), by have := hSt.size; simp at this; omega, fun k hk => by
    rw [hSt.block k (by simp; omega) (fun hf => by
      rcases hf with h | h | ⟨v2, h4, h5⟩
      · omega
      · omega
      · rw [show (w1.alloc (.cells #[.slice none 0 0] 27)).heap[w1.heap.size]? = some (.cells #[.slice none 0 0] 27 (0, 0)) from heap_alloc_new w1 _] at h4
        simp only [Option.some.injEq, Obj.cells.injEq, and_true] at h4
        have : v2 = .slice none 0 0 := by simpa using h4.symm
        subst this
        cases h5), Below.heap_alloc _ _ _ (by omega)]; exact b01.block k hk⟩
  have HH := Lib.hid hhs; clear hhs h1 h2 h3 hSt HPC hl hcq
  go_wp2_with fail
  go_ret2
  exact ⟨q, cc, rfl, HH.out, b2⟩

end Go.Proofs.YtgheacegjgaobaaDoor
