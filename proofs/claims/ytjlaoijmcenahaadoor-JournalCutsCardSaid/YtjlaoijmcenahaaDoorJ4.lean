/- The walk of journal.walk. -/
import Derived.Test.YtjlaoijmcenahaaDoorG6a
import Derived.Test.YtjlaoijmcenahaaDoorG0b
import Derived.Test.YtjlaoijmcenahaaDoorG0c
namespace Go.Proofs.YtjlaoijmcenahaaDoor
open Go.RowKit
set_option linter.unusedSimpArgs false
set_option linter.unusedVariables false

theorem zero32_eq : zero32 = (byteCells J.zero).toArray := by kernel_rfl

theorem results_int_hash {fn : Func} {u p : Tmp} (h : fn.results = #[.tmp u, .cell p 31]) (tmps : Array Value) (w : World) (g : Nat) (t : TypeId) (S : List UInt8) (fr : Nat × Nat)
    (hp : tmps.getD p undef = .pointer (some ⟨g, 0, none⟩)) (hS : S.length = 32) (hg : w.heap[g]? = some (.cells (byteCells S).toArray t fr)) :
    (results fn tmps).run Tryd.prog w = .ok (.tuple #[tmps.getD u undef, .agg (byteCells S).toArray]) w := by
  have hp' : tmps[p]?.getD undef = .pointer (some ⟨g, 0, none⟩) := by simpa using hp
  simp [results, h, hp', asAddr, run_loadVar_row w g t 31 (byteCells S).toArray fr _ hg Tryd.under_hh rfl (by rw [hash_cells_size S hS]; exact Tryd.infoH)]

theorem read_count (N : Nat) : ∀ (last l : List UInt8), l.length ≤ N → (J.read last l).1.length ≤ l.length := by
  induction N with
  | zero =>
    intro last l hl
    obtain rfl := List.eq_nil_of_length_eq_zero (Nat.le_zero.1 hl)
    rw [J.read_nil]; exact Nat.le_refl _
  | succ N ih =>
    intro last l hl
    rcases J.read_cases last l with h | ⟨r, y, hr, rfl, hs, hlt⟩
    · rw [J.read_none h]; exact Nat.zero_le _
    · rw [J.read_rec hr]
      have := ih (J.sum last r) y (by omega)
      have := J.rec_len last r
      simp only [List.length_append, List.length_cons]; omega

theorem take8_succ {a b : List UInt8} {j : Nat} {x : UInt8} (h : a.take j = b.take j) (ha : a[j]? = some x) (hb : b[j]? = some x) : a.take (j + 1) = b.take (j + 1) := by
  rw [List.take_add_one, List.take_add_one, h, ha, hb]

theorem take8_ne {a b : List UInt8} {j : Nat} {x y : UInt8} (hj : j < 8) (ha : a[j]? = some x) (hb : b[j]? = some y) (h : x ≠ y) : a.take 8 ≠ b.take 8 := by
  intro e
  have h1 : (a.take 8)[j]? = some x := by rw [List.getElem?_take_of_lt hj]; exact ha
  have h2 : (b.take 8)[j]? = some y := by rw [List.getElem?_take_of_lt hj]; exact hb
  rw [e, h2] at h1
  exact h (Option.some.inj h1).symm

/-- What the region's operations leave. -/
def wkE (B0 B1 u : Nat) (la : List UInt8) (ix : Nat) (w : World) (v : Value) : Prop :=
  match ix with
  | 0 => v = .int .i64 (u : Int)
  | 1 => v = .agg (byteCells la).toArray
  | 2 => v = .int .i64 (u : Int)
  | _ => True

theorem wkE_mono (B0 B1 u : Nat) (la : List UInt8) (jx : Nat) (w w' : World) (v : Value) (hb : Below w.heap.size w w') (h : wkE B0 B1 u la jx w v) : wkE B0 B1 u la jx w' v := by
  match jx, h with
  | 0, h => exact h
  | 1, h => exact h
  | 2, h => exact h
  | _ + 3, h => exact trivial

/-- What the region's operations leave. -/
def wkQ (u k j G : Nat) (x y : UInt8) (log : List UInt8) (ix : Nat) (w : World) (v : Value) : Prop :=
  match ix with
  | 0 => v = .string (strOf log)
  | 1 => v = .int .i64 (((u + k : Nat) : Int))
  | 2 => v = .int .i64 (j : Int)
  | 3 => v = .int .i64 (((u + k + j : Nat) : Int))
  | 4 => v = .int .u8 ((x.toNat : Nat) : Int)
  | 5 => v = .int .i64 (j : Int)
  | 6 => v = .pointer (some ⟨G, j, none⟩)
  | 7 => v = .int .u8 ((y.toNat : Nat) : Int)
  | 8 => v = .bool false
  | _ => True

theorem wkQ_mono (u k j G : Nat) (x y : UInt8) (log : List UInt8) (jx : Nat) (w w' : World) (v : Value) (hb : Below w.heap.size w w') (h : wkQ u k j G x y log jx w v) : wkQ u k j G x y log jx w' v := by
  match jx, h with
  | 0, h => exact h
  | 1, h => exact h
  | 2, h => exact h
  | 3, h => exact h
  | 4, h => exact h
  | 5, h => exact h
  | 6, h => exact h
  | 7, h => exact h
  | 8, h => exact h
  | _ + 9, h => exact trivial

/-- What the region's operations leave. -/
def wkN (u k j G : Nat) (x y : UInt8) (log : List UInt8) (ix : Nat) (w : World) (v : Value) : Prop :=
  match ix with
  | 0 => v = .string (strOf log)
  | 1 => v = .int .i64 (((u + k : Nat) : Int))
  | 2 => v = .int .i64 (j : Int)
  | 3 => v = .int .i64 (((u + k + j : Nat) : Int))
  | 4 => v = .int .u8 ((x.toNat : Nat) : Int)
  | 5 => v = .int .i64 (j : Int)
  | 6 => v = .pointer (some ⟨G, j, none⟩)
  | 7 => v = .int .u8 ((y.toNat : Nat) : Int)
  | 8 => v = .bool true
  | _ => True

theorem wkN_mono (u k j G : Nat) (x y : UInt8) (log : List UInt8) (jx : Nat) (w w' : World) (v : Value) (hb : Below w.heap.size w w') (h : wkN u k j G x y log jx w v) : wkN u k j G x y log jx w' v := by
  match jx, h with
  | 0, h => exact h
  | 1, h => exact h
  | 2, h => exact h
  | 3, h => exact h
  | 4, h => exact h
  | 5, h => exact h
  | 6, h => exact h
  | 7, h => exact h
  | 8, h => exact h
  | _ + 9, h => exact trivial

/-- What the region's operations leave. -/
def wkS (B1 G u k : Nat) (S : List UInt8) (ix : Nat) (w : World) (v : Value) : Prop :=
  match ix with
  | 0 => v = .int .i64 (((u + k : Nat) : Int))
  | 1 => v = .int .i64 (((u + k + 8 : Nat) : Int))
  | 2 => v = .agg (byteCells S).toArray
  | 3 => v = .int .i64 (((u + k + 8 : Nat) : Int))
  | _ => True

theorem wkS_mono (B1 G u k : Nat) (S : List UInt8) (jx : Nat) (w w' : World) (v : Value) (hb : Below w.heap.size w w') (h : wkS B1 G u k S jx w v) : wkS B1 G u k S jx w' v := by
  match jx, h with
  | 0, h => exact h
  | 1, h => exact h
  | 2, h => exact h
  | 3, h => exact h
  | _ + 4, h => exact trivial

theorem J.step_tail {last l t : List UInt8} {k : Nat} (h : Wire.txt 65536 l = (some t, k, 0)) (h8 : (l.drop k).take 8 ≠ (J.sum last t).take 8) : J.step last l = none := by
  unfold J.step
  rw [h]
  simp only
  rw [if_neg (fun hc => h8 hc.2)]
theorem J.step_short {last l t : List UInt8} {k : Nat} (h : Wire.txt 65536 l = (some t, k, 0)) (h8 : l.length < k + 8) : J.step last l = none := by
  unfold J.step
  rw [h]
  simp only
  rw [if_neg (fun hc => absurd hc.1 (by omega))]
theorem J.step_bad {last l : List UInt8} {k er : Nat} (h : Wire.txt 65536 l = (none, k, er)) : J.step last l = none := by
  unfold J.step
  rw [h]
theorem J.step_good {last l t : List UInt8} {k : Nat} (h : Wire.txt 65536 l = (some t, k, 0)) (hl : k + 8 ≤ l.length) (h8 : (l.drop k).take 8 = (J.sum last t).take 8) : J.step last l = some (t, k + 8) := by
  unfold J.step
  rw [h]
  simp only
  rw [if_pos ⟨hl, h8⟩]

set_option maxRecDepth 100000 in
set_option maxHeartbeats 8000000 in
theorem walk_any (w00 w : World) (hL : Laid w00) (hbw : Below w00.heap.size w00 w) (p : Nat) (hp : w00.heap.size ≤ p) (hpw : p < w.heap.size ∨ w.heap.size + 2 ≤ p) (log : List UInt8) (hl : log.length ≤ 100000) (f : FuncId) (cap : Array Value) (K : List (List UInt8) → World → Prop)
    (hcf : ∀ (args : Array Value) (w : World), Sem.run Tryd.prog (callFunc f args) w = .ok (.enter f args) w)
    (hKs0 : ∀ ts w1 w2, K ts w1 → (∀ k, k < w1.heap.size → (k = p ∨ w.heap.size + 2 ≤ k) → w2.heap[k]? = w1.heap[k]?) → K ts w2)
    (hf0 : ∀ (ts : List (List UInt8)) (t : List UInt8) (w0 w1 : World), K ts w0 → Below w0.heap.size w0 w1 → w.heap.size + 2 ≤ w0.heap.size → ts.length ≤ 1000000 →
      Calls Tryd.prog f (#[.string (strOf t)] ++ cap) w1 fun x w2 => x = .returned (.tuple #[]) ∧ K (ts ++ [t]) w2 ∧ BelowBut (w.heap.size + 2) p w1 w2 ∧ ∀ k, w0.heap.size ≤ k → k < w1.heap.size → w2.heap[k]? = w1.heap[k]?)
    (hK0 : K [] w) :
    Calls Tryd.prog 22 #[.string (strOf log), .func (.func f) #[] cap] w fun e w' => e = .returned (.tuple #[.int .i64 ((J.read J.zero log).2.1 : Int), .agg (byteCells (J.read J.zero log).2.2).toArray]) ∧ K (J.read J.zero log).1 w' ∧ BelowBut w.heap.size p w w' := by
  have hKs := Lib.hid hKs0; clear hKs0
  have HF := Lib.hid hf0; clear hf0
  have HL := Lib.hid hL; clear hL
  have HBW := Lib.hid hbw; clear hbw
  obtain ⟨W0, hW0⟩ : ∃ W0, W0 = (w.alloc (.cells zero32 31)).alloc (.cells zero32 31) := ⟨_, rfl⟩
  have x0 : W0.heap[w.heap.size]? = some (.cells zero32 31 (0, 0)) := by
    rw [hW0, Below.heap_alloc _ _ _ (by simp)]; exact heap_alloc_new w _
  have x1 : W0.heap[w.heap.size + 1]? = some (.cells zero32 31 (0, 0)) := by
    rw [hW0]; have := heap_alloc_new (w.alloc (.cells zero32 31)) (.cells zero32 31); simpa using this
  have b0 : Below w.heap.size w W0 := by rw [hW0]; exact ((Below.refl _ _).alloc (Nat.le_refl _) _).alloc (by simp) _
  have s0 : W0.heap.size = w.heap.size + 2 := by rw [hW0]; simp
  have hk0 := hKs.out [] w W0 hK0 (fun k hk _ => b0.block k hk)
  rw [zero32_eq] at x1
  have HRI : Hid (J.read J.zero log = ([] ++ (J.read J.zero (log.drop 0)).1, 0 + (J.read J.zero (log.drop 0)).2.1, (J.read J.zero (log.drop 0)).2.2)) := Lib.hid (by simp)
  have hrc := read_count log.length J.zero log (Nat.le_refl _)
  have HRC := Lib.hid hrc; clear hrc
  obtain ⟨R, hR⟩ : ∃ R, R = J.read J.zero log := ⟨_, rfl⟩
  rw [← hR] at HRI HRC ⊢
  clear hR hK0
  have HX0 := Lib.hid x0; clear x0
  have HX1 := Lib.hid x1; clear x1
  have HK0 := Lib.hid hk0; clear hk0
  have HB0 := Lib.hid b0; clear b0
  have HS0 := Lib.hid s0; clear s0
  have HW0 := Lib.hid hW0; clear hW0
  have hst := strOf_size log
  go_enter Tryd.func22, Tryd.ntmps22
  go_wp2_with fail
  go_step3
  go_wp2_with fail
  change Code.wp _ _ _ _ ((w.alloc (.cells zero32 31)).alloc (.cells zero32 31))
  rw [← HW0.out]
  go_step3
  go_wp2_with fail
  go_loopw [7] (fun v wr => ∃ (u : Nat) (la : List UInt8) (ts : List (List UInt8)), v = .int .i64 (u : Int) ∧ u ≤ log.length ∧ la.length = 32 ∧ Hid (R = (ts ++ (J.read la (log.drop u)).1, u + (J.read la (log.drop u)).2.1, (J.read la (log.drop u)).2.2)) ∧ Hid (K ts wr) ∧ Hid (wr.heap[w.heap.size + 1]? = some (.cells (byteCells la).toArray 31 (0, 0))) ∧ Hid (wr.heap[w.heap.size]? = some (.cells zero32 31 (0, 0))) ∧ BelowBut w.heap.size p w wr ∧ w.heap.size + 2 ≤ wr.heap.size) (fun v _ => log.length - (intOf v).toNat)
  case atStart => exact ⟨0, J.zero, [], rfl, Nat.zero_le _, J.zero_len, HRI, HK0, HX1, HX0, BelowBut.of HB0.out, by rw [HS0.out]; exact Nat.le_refl _⟩
  case round =>
    clear HX1 HX0 HK0 HRI HB0 HW0
    obtain ⟨u, la, ts, rfl, hu, hla, HRE, hK, X1, X0, Brr, hsz⟩ := hrel
    have HLA := Lib.hid hla; clear hla
    have hbr : Below w00.heap.size w00 wr := (Below.more HBW.out Brr hp HBW.out.size)
    have hts : ts.length ≤ 100000 := by
      have := HRC.out
      rw [HRE.out] at this
      simp only [List.length_append] at this
      omega
    obtain ⟨l, hl0⟩ : ∃ l, l = log.drop u := ⟨_, rfl⟩
    have hll : l.length + u = log.length := by rw [hl0, List.length_drop]; omega
    have hext := strOf_from log u
    rw [← hl0] at hext HRE
    have HDR := Lib.hid hl0; clear hl0
    have hnew := newIn_use l wr
    rw [← hext] at hnew
    have HNEW := Lib.hid hnew; clear hnew
    have HEX := Lib.hid hext; clear hext
    go_wp2_with fail
    refine HNEW.out.mono ?_
    rintro e w1 ⟨rfl, i1, b1, s1⟩
    have htx := inText_any wr.heap.size l 0 65536 (by decide) (by unfold maxLen; omega) w1 i1
    have HTXC := Lib.hid htx; clear htx HNEW i1
    go_wp2_with fail
    refine HTXC.out.mono ?_
    rintro e w2 ⟨rfl, i2, bb2⟩
    have B2 : Below wr.heap.size wr w2 := Below.more b1 bb2 (Nat.le_refl _) b1.size
    clear HTXC b1 bb2 s1
    rcases htxt : Wire.txt 65536 l with ⟨_ | t, k, er⟩
    · have her : er ≠ 0 := by have := (Wire.txt_facts 65536 l).2; rw [htxt] at this; exact this rfl
      have hrd : Wire.rdText 65536 l 0 = ([], l, er) := by unfold Wire.rdText; rw [if_neg (by decide), htxt]
      rw [hrd] at i2
      simp only at i2
      obtain ⟨ei, hei⟩ : ∃ ei : Int, ei = (er : Int) := ⟨_, rfl⟩
      rw [← hei] at i2
      have her' : (ei == 0) = false := by rw [beq_eq_false_iff_ne]; omega
      have her2 : (ei != 0) = true := by rw [bne_iff_ne]; omega
      have her3 : decide (ei = 0) = false := decide_eq_false (by omega)
      clear hei
      have HERR := Lib.hid (inErr_any _ _ _ _ i2)
      have hv : True := trivial
      clear i2 her hrd
      go_wp2_with fail
      refine HERR.out.mono ?_
      rintro e w' ⟨rfl, rfl⟩
      clear HERR
      have hrd0 := HRE.out
      rw [J.read_none (J.step_bad htxt)] at hrd0
      simp only [List.append_nil, Nat.add_zero] at hrd0
      have HRD := Lib.hid hrd0; clear hrd0
      have HKe : Hid (K ts w2) := Lib.hid (hKs.out _ _ _ hK.out (fun k' hk' _ => B2.block k' hk'))
      have X0e := Lib.hid (((B2.block _ (lt_of_block X0.out)).trans X0.out))
      have X1e := Lib.hid (((B2.block _ (lt_of_block X1.out)).trans X1.out))
      have HBe : Hid (BelowBut w.heap.size p w w2) := Lib.hid (Brr.trans ((BelowBut.of B2).mono (by omega)))
      clear hv
      go_wp2_with fail
      refine wp_region_rel_tailM [[], [], [0], [1]] (wkE w.heap.size (w.heap.size + 1) u la) 56 3 (by kernel_rfl) (by kernel_rfl) (by kernel_rfl) (by kernel_rfl) (of_decide_eq_true (by kernel_rfl)) (wkE_mono w.heap.size (w.heap.size + 1) u la) ?_ ?_
      · intro ix op him hi w9 b9 vs hv
        match ix, him, hi with
        | 0, _, hi =>
          obtain rfl := Option.some.inj hi
          simp only [relF, List.getD_cons_zero, List.getD_cons_succ, List.foldl_cons, List.foldl_nil, dstAt, List.getElem?_cons_zero, List.getElem?_cons_succ, Option.bind_some]
          go_wp2_with fail
          exact ⟨rfl, Below.refl _ _, rfl, rfl⟩
        | 1, _, hi =>
          obtain rfl := Option.some.inj hi
          simp only [relF, List.getD_cons_zero, List.getD_cons_succ, List.foldl_cons, List.foldl_nil, dstAt, List.getElem?_cons_zero, List.getElem?_cons_succ, Option.bind_some]
          go_wp2_with ((with_reducible show wpList _ _ _ (⟨some 55, _, _, _, _, _⟩ :: _) _ _); refine wpList_load_hash (op := ⟨some 55, _, _, _, _, _⟩) (by kernel_rfl) _ rfl (w.heap.size + 1) rfl la HLA.out _ _ ((b9.block _ (lt_of_block X1e.out)).trans X1e.out) ?_)
          exact ⟨rfl, Below.refl _ _, rfl, rfl⟩
        | 2, _, hi =>
          obtain rfl := Option.some.inj hi
          have h0 : vs 0 = _ := hv 0 (by decide)
          simp only [relF, List.getD_cons_zero, List.getD_cons_succ, List.foldl_cons, List.foldl_nil, dstAt, List.getElem?_cons_zero, List.getElem?_cons_succ, Option.bind_some]
          go_frame
          rw [h0]
          go_wp2_with fail
          exact ⟨rfl, Below.refl _ _, rfl, rfl⟩
        | nx + 3, him, _ => exact absurd him (by omega)
      · intro w9 b9 vs hv
        have h0 : vs 0 = _ := hv 0 (by decide)
        have h1 : vs 1 = _ := hv 1 (by decide)
        have h2 : vs 2 = _ := hv 2 (by decide)
        simp only [relF, List.drop_succ_cons, List.drop_zero, List.length_cons, List.length_nil, Nat.zero_add, Nat.reduceAdd, List.range, List.range.loop, List.foldl_cons, List.foldl_nil, dstAt, List.getElem?_cons_zero, List.getElem?_cons_succ, Option.bind_some]
        go_frame
        rw [h0, h1, h2]
        have z0 := (b9.block _ (lt_of_block X0e.out)).trans X0e.out
        go_wp2_with ((with_reducible show wpList _ _ _ (⟨none, .store 31 (.tmp 5) (.tmp 55), _, _, _, _⟩ :: _) _ _); refine wpList_put_hash (o := ⟨none, .store _ _ _, _, _, _, _⟩) rfl _ _ rfl w.heap.size rfl la HLA.out rfl _ _ z0 zero32_size ?_)
        try rw [Exit.noGoto_ret]
        refine bodyPost_ret (results_int_hash rfl _ _ _ _ _ _ rfl HLA.out (hset_heap _ z0)) rfl ?_
        rw [HRD.out]
        exact ⟨rfl, hKs.out _ _ _ HKe.out (fun k hk hkp => by rw [hset_other _ (by omega)]; exact b9.block k hk), (HBe.out.trans ((BelowBut.of b9).mono (by have := HBe.out.size; omega))).trans (BelowBut.of (hset_below _ (Below.refl _ _) (by omega)))⟩
    · obtain ⟨hft, -⟩ := Wire.txt_facts 65536 l
      rw [htxt] at hft
      obtain rfl : er = 0 := hft t rfl
      have hkl := Wire.txt_len 65536 l
      rw [htxt] at hkl
      simp only at hkl
      have hrd : Wire.rdText 65536 l 0 = (t, l.drop k, 0) := by unfold Wire.rdText; rw [if_neg (by decide), htxt]
      rw [hrd]
      rw [hrd] at i2
      simp only at i2 ⊢
      obtain ⟨ht16, -⟩ := J.txt_inv htxt
      obtain ⟨r, hr⟩ : ∃ r, r = l.drop k := ⟨_, rfl⟩
      have hrl : r.length + k = l.length := by rw [hr, List.length_drop]; omega
      rw [← hr] at i2
      have HRK := Lib.hid hr; clear hr
      have HTX := Lib.hid htxt.symm
      clear htxt hft hrd
      have HERR := Lib.hid (inErr_any _ _ _ _ i2)
      have HLEFT := Lib.hid (inLeft_any _ _ _ _ i2)
      by_cases h8 : r.length < 8
      · have t8 : decide ((r.length : Int) < 8) = true := decide_eq_true (by omega)
        have t8' : decide (r.length < 8) = true := decide_eq_true h8
        have hv : True := trivial
        clear i2
        go_wp2_with fail
        refine HERR.out.mono ?_
        rintro e w' ⟨rfl, rfl⟩
        go_wp2_with fail
        refine HLEFT.out.mono ?_
        rintro e w' ⟨rfl, rfl⟩
        clear HERR HLEFT
        have hrd0 := HRE.out
        rw [J.read_none (J.step_short HTX.out.symm (by omega))] at hrd0
        simp only [List.append_nil, Nat.add_zero] at hrd0
        have HRD := Lib.hid hrd0; clear hrd0
        have HKe : Hid (K ts w2) := Lib.hid (hKs.out _ _ _ hK.out (fun k' hk' _ => B2.block k' hk'))
        have X0e := Lib.hid (((B2.block _ (lt_of_block X0.out)).trans X0.out))
        have X1e := Lib.hid (((B2.block _ (lt_of_block X1.out)).trans X1.out))
        have HBe : Hid (BelowBut w.heap.size p w w2) := Lib.hid (Brr.trans ((BelowBut.of B2).mono (by omega)))
        clear hv
        go_wp2_with fail
        refine wp_region_rel_tailM [[], [], [0], [1]] (wkE w.heap.size (w.heap.size + 1) u la) 56 3 (by kernel_rfl) (by kernel_rfl) (by kernel_rfl) (by kernel_rfl) (of_decide_eq_true (by kernel_rfl)) (wkE_mono w.heap.size (w.heap.size + 1) u la) ?_ ?_
        · intro ix op him hi w9 b9 vs hv
          match ix, him, hi with
          | 0, _, hi =>
            obtain rfl := Option.some.inj hi
            simp only [relF, List.getD_cons_zero, List.getD_cons_succ, List.foldl_cons, List.foldl_nil, dstAt, List.getElem?_cons_zero, List.getElem?_cons_succ, Option.bind_some]
            go_wp2_with fail
            exact ⟨rfl, Below.refl _ _, rfl, rfl⟩
          | 1, _, hi =>
            obtain rfl := Option.some.inj hi
            simp only [relF, List.getD_cons_zero, List.getD_cons_succ, List.foldl_cons, List.foldl_nil, dstAt, List.getElem?_cons_zero, List.getElem?_cons_succ, Option.bind_some]
            go_wp2_with ((with_reducible show wpList _ _ _ (⟨some 55, _, _, _, _, _⟩ :: _) _ _); refine wpList_load_hash (op := ⟨some 55, _, _, _, _, _⟩) (by kernel_rfl) _ rfl (w.heap.size + 1) rfl la HLA.out _ _ ((b9.block _ (lt_of_block X1e.out)).trans X1e.out) ?_)
            exact ⟨rfl, Below.refl _ _, rfl, rfl⟩
          | 2, _, hi =>
            obtain rfl := Option.some.inj hi
            have h0 : vs 0 = _ := hv 0 (by decide)
            simp only [relF, List.getD_cons_zero, List.getD_cons_succ, List.foldl_cons, List.foldl_nil, dstAt, List.getElem?_cons_zero, List.getElem?_cons_succ, Option.bind_some]
            go_frame
            rw [h0]
            go_wp2_with fail
            exact ⟨rfl, Below.refl _ _, rfl, rfl⟩
          | nx + 3, him, _ => exact absurd him (by omega)
        · intro w9 b9 vs hv
          have h0 : vs 0 = _ := hv 0 (by decide)
          have h1 : vs 1 = _ := hv 1 (by decide)
          have h2 : vs 2 = _ := hv 2 (by decide)
          simp only [relF, List.drop_succ_cons, List.drop_zero, List.length_cons, List.length_nil, Nat.zero_add, Nat.reduceAdd, List.range, List.range.loop, List.foldl_cons, List.foldl_nil, dstAt, List.getElem?_cons_zero, List.getElem?_cons_succ, Option.bind_some]
          go_frame
          rw [h0, h1, h2]
          have z0 := (b9.block _ (lt_of_block X0e.out)).trans X0e.out
          go_wp2_with ((with_reducible show wpList _ _ _ (⟨none, .store 31 (.tmp 5) (.tmp 55), _, _, _, _⟩ :: _) _ _); refine wpList_put_hash (o := ⟨none, .store _ _ _, _, _, _, _⟩) rfl _ _ rfl w.heap.size rfl la HLA.out rfl _ _ z0 zero32_size ?_)
          try rw [Exit.noGoto_ret]
          refine bodyPost_ret (results_int_hash rfl _ _ _ _ _ _ rfl HLA.out (hset_heap _ z0)) rfl ?_
          rw [HRD.out]
          exact ⟨rfl, hKs.out _ _ _ HKe.out (fun k hk hkp => by rw [hset_other _ (by omega)]; exact b9.block k hk), (HBe.out.trans ((BelowBut.of b9).mono (by have := HBe.out.size; omega))).trans (BelowBut.of (hset_below _ (Below.refl _ _) (by omega)))⟩
      · have t8 : decide ((r.length : Int) < 8) = false := decide_eq_false (by omega)
        have t8' : decide (r.length < 8) = false := decide_eq_false h8
        have I2 := Lib.hid i2; clear i2
        have x12 := (B2.block _ (lt_of_block X1.out)).trans X1.out
        have hsum := jSum_any w2 la t HLA.out (by omega) (HL.out.below (hbr.trans (B2.mono hbr.size)))
        obtain ⟨S, hS⟩ : ∃ S, S = J.sum la t := ⟨_, rfl⟩
        rw [← hS] at hsum
        have hsl : S.length = 32 := by rw [hS]; exact J.sum_len la t
        have HSL := Lib.hid hsl; clear hsl
        have HSE := Lib.hid hS; clear hS
        have HSUM := Lib.hid hsum; clear hsum
        go_wp2_with fail
        refine HERR.out.mono ?_
        rintro e w' ⟨rfl, rfl⟩
        go_wp2_with fail
        refine HLEFT.out.mono ?_
        rintro e w' ⟨rfl, rfl⟩
        clear HERR HLEFT
        go_wp2_with ((with_reducible show wpList _ _ _ (⟨some 27, _, _, _, _, _⟩ :: _) _ _); refine wpList_load_hash (op := ⟨some 27, _, _, _, _, _⟩) (by kernel_rfl) _ rfl (w.heap.size + 1) rfl la HLA.out _ _ x12 ?_)
        refine HSUM.out.mono ?_
        rintro e w3 ⟨rfl, b3⟩
        obtain ⟨W4, hW4⟩ : ∃ W4, W4 = hset (w3.alloc (.cells zero32 31)) w3.heap.size S := ⟨_, rfl⟩
        have xs4 : W4.heap[w3.heap.size]? = some (.cells (byteCells S).toArray 31 (0, 0)) := by rw [hW4]; exact hset_heap _ (heap_alloc_new _ _)
        have b4 : Below w3.heap.size w3 W4 := by rw [hW4]; exact hset_below _ ((Below.refl _ _).alloc (Nat.le_refl _) _) (Nat.le_refl _)
        have b24 : Below w2.heap.size w2 W4 := b3.trans (b4.mono b3.size)
        have HLEFT := Lib.hid (inLeft_any _ _ _ _ (I2.out.below b24))
        have B4 := B2.trans (b24.mono B2.size)
        have hw3 : wr.heap.size ≤ w3.heap.size := Nat.le_trans B2.size b3.size
        have XS4 := Lib.hid xs4; clear xs4
        have hW4s : w3.heap.size < W4.heap.size := lt_of_block XS4.out
        have HW4 := Lib.hid hW4; clear hW4 b24 b4 b3 x12 HSUM
        have hsub : ((log.length : Int) - (r.length : Int)) = ((u + k : Nat) : Int) := by omega
        go_wp2_with ((with_reducible show wpList _ _ _ (⟨none, .store 31 (.tmp 10) (.tmp 29), _, _, _, _⟩ :: _) _ _); change wpList _ _ _ _ _ (World.alloc w3 (.cells zero32 31)); refine wpList_put_hash (o := ⟨none, .store _ _ _, _, _, _, _⟩) rfl _ _ rfl _ rfl S HSL.out rfl _ _ (heap_alloc_new _ _) zero32_size ?_; rw [← HW4.out])
        refine HLEFT.out.mono ?_
        rintro e w' ⟨rfl, rfl⟩
        clear HLEFT
        have HHW4 := Lib.hid hW4s; clear hW4s
        go_wp2_with fail
        obtain ⟨wo, hwo⟩ : ∃ wo : World, wo = wr := ⟨_, rfl⟩
        subst hwo
        go_loopw [35] (fun v wi => ∃ j : Nat, j ≤ 8 ∧ v = .int .i64 (j : Int) ∧ Hid (r.take j = S.take j) ∧ Below W4.heap.size W4 wi) (fun v _ => 8 - (intOf v).toNat)
        case atStart => exact ⟨0, by omega, rfl, Lib.hid rfl, Below.refl _ _⟩
        case round =>
          obtain ⟨j, hj, rfl, HTK, Bi⟩ := hrel
          have Bw := B4.trans (Bi.mono B4.size)
          by_cases hj8 : j < 8
          · obtain ⟨x, hx⟩ : ∃ x, r[j]? = some x := ⟨_, List.getElem?_eq_getElem (by omega)⟩
            obtain ⟨y, hy⟩ : ∃ y, S[j]? = some y := ⟨_, List.getElem?_eq_getElem (by rw [HSL.out]; omega)⟩
            have hlx : log[u + k + j]? = some x := by
              rw [HRK.out, HDR.out, List.getElem?_drop, List.getElem?_drop] at hx
              rw [Nat.add_assoc]; exact hx
            have hlxs : (strOf log)[u + k + j]'(by rw [hst]; omega) = x := by
              have := (List.getElem?_eq_some_iff.1 hlx).2
              rw [← this]; simp [strOf, ByteArray.getElem_eq_getElem_data]
            have hcy : wr.cell? ⟨w3.heap.size, j, none⟩ = some (.int .u8 ((y.toNat : Nat) : Int)) := by
              have := range_row ((Bi.block _ HHW4.out).trans XS4.out) j _ (byteCells_get hy)
              rwa [Nat.zero_add] at this
            have HXA := Lib.hid hx; clear hx
            have HYA := Lib.hid hy; clear hy
            have HCY := Lib.hid hcy; clear hcy
            have HXB := Lib.hid hlxs; clear hlxs hlx
            have HGL : Hid (w3.heap.size < wr.heap.size) := Lib.hid (Nat.lt_of_lt_of_le HHW4.out Bi.size)
            have HXI : Hid (decide (((u + k + j : Nat) : Int) < (log.length : Int)) = true) := Lib.hid (decide_eq_true (by omega))
            have HXU : Hid (decide (u + k + j < log.length) = true) := Lib.hid (decide_eq_true (by omega))
            have HXV : Hid (u + k + j < log.length) := Lib.hid (by omega)
            have HJ8 : Hid (decide ((j : Int) < 32) = true) := Lib.hid (decide_eq_true (by omega))
            have tj : decide ((j : Int) < 8) = true := decide_eq_true (by omega)
            have tj' : decide (j < 8) = true := decide_eq_true hj8
            have HJJ := Lib.hid hj8
            by_cases hxy : x = y
            · have hne : (((x.toNat : Nat) : Int) == ((y.toNat : Nat) : Int)) = true := by rw [hxy]; simp
              have HYX : Hid (S[j]? = some x) := Lib.hid (by rw [hxy]; exact HYA.out)
              have HXN : Hid (x.toNat = y.toNat) := Lib.hid (by rw [hxy])
              clear hxy
              go_wp2_with fail
              refine wp_region_rel [[], [], [], [1, 2], [0, 3], [], [5], [6], [4, 7]] (wkQ u k j w3.heap.size x y log) 56 (by kernel_rfl) (by kernel_rfl) (by kernel_rfl) (wkQ_mono u k j w3.heap.size x y log) ?_ ?_
              · intro ix op hi w8 b8 vs hv
                have him : ix < 9 := (List.getElem?_eq_some_iff.1 hi).1
                have hx9 := HXV.out
                match ix, him, hi with
                | 0, _, hi =>
                  obtain rfl := Option.some.inj hi
                  simp only [relF, List.getD_cons_zero, List.getD_cons_succ, List.foldl_cons, List.foldl_nil, dstAt, List.getElem?_cons_zero, List.getElem?_cons_succ, Option.bind_some]
                  go_wp2_with fail
                  exact ⟨rfl, Below.refl _ _, rfl, rfl⟩
                | 1, _, hi =>
                  obtain rfl := Option.some.inj hi
                  simp only [relF, List.getD_cons_zero, List.getD_cons_succ, List.foldl_cons, List.foldl_nil, dstAt, List.getElem?_cons_zero, List.getElem?_cons_succ, Option.bind_some]
                  go_wp2_with fail
                  exact ⟨rfl, Below.refl _ _, rfl, rfl⟩
                | 2, _, hi =>
                  obtain rfl := Option.some.inj hi
                  simp only [relF, List.getD_cons_zero, List.getD_cons_succ, List.foldl_cons, List.foldl_nil, dstAt, List.getElem?_cons_zero, List.getElem?_cons_succ, Option.bind_some]
                  go_wp2_with fail
                  exact ⟨rfl, Below.refl _ _, rfl, rfl⟩
                | 3, _, hi =>
                  obtain rfl := Option.some.inj hi
                  have h1 : vs 1 = _ := hv 1 (by decide)
                  have h2 : vs 2 = _ := hv 2 (by decide)
                  simp only [relF, List.getD_cons_zero, List.getD_cons_succ, List.foldl_cons, List.foldl_nil, dstAt, List.getElem?_cons_zero, List.getElem?_cons_succ, Option.bind_some]
                  go_frame
                  rw [h1, h2]
                  go_wp2_with fail
                  exact ⟨rfl, Below.refl _ _, rfl, by first | rfl | (show slotOf _ _ = _; simp [slotOf]; done) | (show slotOf _ _ = _; simp [slotOf]; omega)⟩
                | 4, _, hi =>
                  obtain rfl := Option.some.inj hi
                  have h0 : vs 0 = _ := hv 0 (by decide)
                  have h3 : vs 3 = _ := hv 3 (by decide)
                  have hx1 := HXB.out
                  have hx2 := HXI.out
                  have hx3 := HXU.out
                  have hx4 := HXV.out
                  simp only [relF, List.getD_cons_zero, List.getD_cons_succ, List.foldl_cons, List.foldl_nil, dstAt, List.getElem?_cons_zero, List.getElem?_cons_succ, Option.bind_some]
                  go_frame
                  rw [h0, h3]
                  go_wp2_with fail
                  exact ⟨rfl, Below.refl _ _, rfl, rfl⟩
                | 5, _, hi =>
                  obtain rfl := Option.some.inj hi
                  simp only [relF, List.getD_cons_zero, List.getD_cons_succ, List.foldl_cons, List.foldl_nil, dstAt, List.getElem?_cons_zero, List.getElem?_cons_succ, Option.bind_some]
                  go_wp2_with fail
                  exact ⟨rfl, Below.refl _ _, rfl, rfl⟩
                | 6, _, hi =>
                  obtain rfl := Option.some.inj hi
                  have h5 : vs 5 = _ := hv 5 (by decide)
                  have hx5 := HJ8.out
                  simp only [relF, List.getD_cons_zero, List.getD_cons_succ, List.foldl_cons, List.foldl_nil, dstAt, List.getElem?_cons_zero, List.getElem?_cons_succ, Option.bind_some]
                  go_frame
                  rw [h5]
                  go_wp2_with fail
                  exact ⟨rfl, Below.refl _ _, rfl, rfl⟩
                | 7, _, hi =>
                  obtain rfl := Option.some.inj hi
                  have h6 : vs 6 = _ := hv 6 (by decide)
                  have hcy := (b8.cell (p := ⟨w3.heap.size, j, none⟩) HGL.out).trans HCY.out
                  simp only [relF, List.getD_cons_zero, List.getD_cons_succ, List.foldl_cons, List.foldl_nil, dstAt, List.getElem?_cons_zero, List.getElem?_cons_succ, Option.bind_some]
                  go_frame
                  rw [h6]
                  go_wp2_with fail
                  exact ⟨rfl, Below.refl _ _, rfl, rfl⟩
                | 8, _, hi =>
                  obtain rfl := Option.some.inj hi
                  have h4 : vs 4 = _ := hv 4 (by decide)
                  have h7 : vs 7 = _ := hv 7 (by decide)
                  simp only [relF, List.getD_cons_zero, List.getD_cons_succ, List.foldl_cons, List.foldl_nil, dstAt, List.getElem?_cons_zero, List.getElem?_cons_succ, Option.bind_some]
                  go_frame
                  rw [h4, h7]
                  go_wp2_with fail
                  exact ⟨rfl, Below.refl _ _, rfl, by first | rfl | (show slotOf _ _ = _; simp [slotOf]; done) | (show slotOf _ _ = _; simp [slotOf]; have hxn := HXN.out; omega)⟩
                | nx + 9, him, _ => exact absurd him (by omega)
              · intro w8 b8 vs hv
                have hx9 := HXV.out
                have h8 : vs 8 = _ := hv 8 (by decide)
                simp only [relF, List.drop_succ_cons, List.drop_zero, List.length_cons, List.length_nil, Nat.zero_add, Nat.reduceAdd, List.range, List.range.loop, List.foldl_cons, List.foldl_nil, dstAt, List.getElem?_cons_zero, List.getElem?_cons_succ, Option.bind_some]
                go_frame
                rw [h8]
                go_wp2_with fail
                go_roundw
                case rel => exact ⟨j + 1, by omega, by go_num, Lib.hid (take8_succ HTK.out HXA.out HYX.out), Bi.trans (b8.mono Bi.size)⟩
                case measure => simp [intOf]; omega
            · have hne : (((x.toNat : Nat) : Int) == ((y.toNat : Nat) : Int)) = false := by
                rw [beq_eq_false_iff_ne]
                intro e
                exact hxy (UInt8.toNat_inj.1 (by omega))
              have HXN : Hid (x.toNat ≠ y.toNat) := Lib.hid (fun e => hxy (UInt8.toNat_inj.1 e))
              have HNE := Lib.hid hxy; clear hxy
              go_wp2_with fail
              refine wp_region_rel [[], [], [], [1, 2], [0, 3], [], [5], [6], [4, 7]] (wkN u k j w3.heap.size x y log) 56 (by kernel_rfl) (by kernel_rfl) (by kernel_rfl) (wkN_mono u k j w3.heap.size x y log) ?_ ?_
              · intro ix op hi w8 b8 vs hv
                have him : ix < 9 := (List.getElem?_eq_some_iff.1 hi).1
                have hx9 := HXV.out
                match ix, him, hi with
                | 0, _, hi =>
                  obtain rfl := Option.some.inj hi
                  simp only [relF, List.getD_cons_zero, List.getD_cons_succ, List.foldl_cons, List.foldl_nil, dstAt, List.getElem?_cons_zero, List.getElem?_cons_succ, Option.bind_some]
                  go_wp2_with fail
                  exact ⟨rfl, Below.refl _ _, rfl, rfl⟩
                | 1, _, hi =>
                  obtain rfl := Option.some.inj hi
                  simp only [relF, List.getD_cons_zero, List.getD_cons_succ, List.foldl_cons, List.foldl_nil, dstAt, List.getElem?_cons_zero, List.getElem?_cons_succ, Option.bind_some]
                  go_wp2_with fail
                  exact ⟨rfl, Below.refl _ _, rfl, rfl⟩
                | 2, _, hi =>
                  obtain rfl := Option.some.inj hi
                  simp only [relF, List.getD_cons_zero, List.getD_cons_succ, List.foldl_cons, List.foldl_nil, dstAt, List.getElem?_cons_zero, List.getElem?_cons_succ, Option.bind_some]
                  go_wp2_with fail
                  exact ⟨rfl, Below.refl _ _, rfl, rfl⟩
                | 3, _, hi =>
                  obtain rfl := Option.some.inj hi
                  have h1 : vs 1 = _ := hv 1 (by decide)
                  have h2 : vs 2 = _ := hv 2 (by decide)
                  simp only [relF, List.getD_cons_zero, List.getD_cons_succ, List.foldl_cons, List.foldl_nil, dstAt, List.getElem?_cons_zero, List.getElem?_cons_succ, Option.bind_some]
                  go_frame
                  rw [h1, h2]
                  go_wp2_with fail
                  exact ⟨rfl, Below.refl _ _, rfl, by first | rfl | (show slotOf _ _ = _; simp [slotOf]; done) | (show slotOf _ _ = _; simp [slotOf]; omega)⟩
                | 4, _, hi =>
                  obtain rfl := Option.some.inj hi
                  have h0 : vs 0 = _ := hv 0 (by decide)
                  have h3 : vs 3 = _ := hv 3 (by decide)
                  have hx1 := HXB.out
                  have hx2 := HXI.out
                  have hx3 := HXU.out
                  have hx4 := HXV.out
                  simp only [relF, List.getD_cons_zero, List.getD_cons_succ, List.foldl_cons, List.foldl_nil, dstAt, List.getElem?_cons_zero, List.getElem?_cons_succ, Option.bind_some]
                  go_frame
                  rw [h0, h3]
                  go_wp2_with fail
                  exact ⟨rfl, Below.refl _ _, rfl, rfl⟩
                | 5, _, hi =>
                  obtain rfl := Option.some.inj hi
                  simp only [relF, List.getD_cons_zero, List.getD_cons_succ, List.foldl_cons, List.foldl_nil, dstAt, List.getElem?_cons_zero, List.getElem?_cons_succ, Option.bind_some]
                  go_wp2_with fail
                  exact ⟨rfl, Below.refl _ _, rfl, rfl⟩
                | 6, _, hi =>
                  obtain rfl := Option.some.inj hi
                  have h5 : vs 5 = _ := hv 5 (by decide)
                  have hx5 := HJ8.out
                  simp only [relF, List.getD_cons_zero, List.getD_cons_succ, List.foldl_cons, List.foldl_nil, dstAt, List.getElem?_cons_zero, List.getElem?_cons_succ, Option.bind_some]
                  go_frame
                  rw [h5]
                  go_wp2_with fail
                  exact ⟨rfl, Below.refl _ _, rfl, rfl⟩
                | 7, _, hi =>
                  obtain rfl := Option.some.inj hi
                  have h6 : vs 6 = _ := hv 6 (by decide)
                  have hcy := (b8.cell (p := ⟨w3.heap.size, j, none⟩) HGL.out).trans HCY.out
                  simp only [relF, List.getD_cons_zero, List.getD_cons_succ, List.foldl_cons, List.foldl_nil, dstAt, List.getElem?_cons_zero, List.getElem?_cons_succ, Option.bind_some]
                  go_frame
                  rw [h6]
                  go_wp2_with fail
                  exact ⟨rfl, Below.refl _ _, rfl, rfl⟩
                | 8, _, hi =>
                  obtain rfl := Option.some.inj hi
                  have h4 : vs 4 = _ := hv 4 (by decide)
                  have h7 : vs 7 = _ := hv 7 (by decide)
                  simp only [relF, List.getD_cons_zero, List.getD_cons_succ, List.foldl_cons, List.foldl_nil, dstAt, List.getElem?_cons_zero, List.getElem?_cons_succ, Option.bind_some]
                  go_frame
                  rw [h4, h7]
                  go_wp2_with fail
                  exact ⟨rfl, Below.refl _ _, rfl, by first | rfl | (show slotOf _ _ = _; simp [slotOf]; done) | (show slotOf _ _ = _; simp [slotOf]; have hxn := HXN.out; omega)⟩
                | nx + 9, him, _ => exact absurd him (by omega)
              · intro w8 b8 vs hv
                have hx9 := HXV.out
                have h8 : vs 8 = _ := hv 8 (by decide)
                simp only [relF, List.drop_succ_cons, List.drop_zero, List.length_cons, List.length_nil, Nat.zero_add, Nat.reduceAdd, List.range, List.range.loop, List.foldl_cons, List.foldl_nil, dstAt, List.getElem?_cons_zero, List.getElem?_cons_succ, Option.bind_some]
                go_frame
                rw [h8]
                have hrd0 := HRE.out
                rw [J.read_none (J.step_tail HTX.out.symm (by rw [← HRK.out, ← HSE.out]; exact take8_ne HJJ.out HXA.out HYA.out HNE.out))] at hrd0
                simp only [List.append_nil, Nat.add_zero] at hrd0
                have HRD := Lib.hid hrd0; clear hrd0
                have HKe : Hid (K ts w8) := Lib.hid (hKs.out _ _ _ hK.out (fun k' hk' _ => (Bw.trans (b8.mono Bw.size)).block k' hk'))
                have X0e := Lib.hid ((((Bw.trans (b8.mono Bw.size)).block _ (lt_of_block X0.out)).trans X0.out))
                have X1e := Lib.hid ((((Bw.trans (b8.mono Bw.size)).block _ (lt_of_block X1.out)).trans X1.out))
                have HBe : Hid (BelowBut w.heap.size p w w8) := Lib.hid (Brr.trans ((BelowBut.of (Bw.trans (b8.mono Bw.size))).mono (by omega)))
                clear hv
                go_wp2_with fail
                refine wp_region_rel_tailM [[], [], [0], [1]] (wkE w.heap.size (w.heap.size + 1) u la) 56 3 (by kernel_rfl) (by kernel_rfl) (by kernel_rfl) (by kernel_rfl) (of_decide_eq_true (by kernel_rfl)) (wkE_mono w.heap.size (w.heap.size + 1) u la) ?_ ?_
                · intro ix op him hi w9 b9 vs hv
                  match ix, him, hi with
                  | 0, _, hi =>
                    obtain rfl := Option.some.inj hi
                    simp only [relF, List.getD_cons_zero, List.getD_cons_succ, List.foldl_cons, List.foldl_nil, dstAt, List.getElem?_cons_zero, List.getElem?_cons_succ, Option.bind_some]
                    go_wp2_with fail
                    exact ⟨rfl, Below.refl _ _, rfl, rfl⟩
                  | 1, _, hi =>
                    obtain rfl := Option.some.inj hi
                    simp only [relF, List.getD_cons_zero, List.getD_cons_succ, List.foldl_cons, List.foldl_nil, dstAt, List.getElem?_cons_zero, List.getElem?_cons_succ, Option.bind_some]
                    go_wp2_with ((with_reducible show wpList _ _ _ (⟨some 55, _, _, _, _, _⟩ :: _) _ _); refine wpList_load_hash (op := ⟨some 55, _, _, _, _, _⟩) (by kernel_rfl) _ rfl (w.heap.size + 1) rfl la HLA.out _ _ ((b9.block _ (lt_of_block X1e.out)).trans X1e.out) ?_)
                    exact ⟨rfl, Below.refl _ _, rfl, rfl⟩
                  | 2, _, hi =>
                    obtain rfl := Option.some.inj hi
                    have h0 : vs 0 = _ := hv 0 (by decide)
                    simp only [relF, List.getD_cons_zero, List.getD_cons_succ, List.foldl_cons, List.foldl_nil, dstAt, List.getElem?_cons_zero, List.getElem?_cons_succ, Option.bind_some]
                    go_frame
                    rw [h0]
                    go_wp2_with fail
                    exact ⟨rfl, Below.refl _ _, rfl, rfl⟩
                  | nx + 3, him, _ => exact absurd him (by omega)
                · intro w9 b9 vs hv
                  have h0 : vs 0 = _ := hv 0 (by decide)
                  have h1 : vs 1 = _ := hv 1 (by decide)
                  have h2 : vs 2 = _ := hv 2 (by decide)
                  simp only [relF, List.drop_succ_cons, List.drop_zero, List.length_cons, List.length_nil, Nat.zero_add, Nat.reduceAdd, List.range, List.range.loop, List.foldl_cons, List.foldl_nil, dstAt, List.getElem?_cons_zero, List.getElem?_cons_succ, Option.bind_some]
                  go_frame
                  rw [h0, h1, h2]
                  have z0 := (b9.block _ (lt_of_block X0e.out)).trans X0e.out
                  go_wp2_with ((with_reducible show wpList _ _ _ (⟨none, .store 31 (.tmp 5) (.tmp 55), _, _, _, _⟩ :: _) _ _); refine wpList_put_hash (o := ⟨none, .store _ _ _, _, _, _, _⟩) rfl _ _ rfl w.heap.size rfl la HLA.out rfl _ _ z0 zero32_size ?_)
                  try rw [Exit.noGoto_ret]
                  refine bodyPost_ret (results_int_hash rfl _ _ _ _ _ _ rfl HLA.out (hset_heap _ z0)) rfl ?_
                  rw [HRD.out]
                  exact ⟨rfl, hKs.out _ _ _ HKe.out (fun k hk hkp => by rw [hset_other _ (by omega)]; exact b9.block k hk), (HBe.out.trans ((BelowBut.of b9).mono (by have := HBe.out.size; omega))).trans (BelowBut.of (hset_below _ (Below.refl _ _) (by omega)))⟩
          · obtain rfl : j = 8 := by omega
            clear hj hj8
            have HCALL := Lib.hid (HF.out ts t wo wr hK.out Bw hsz (by omega))
            go_wp2_with fail
            refine HCALL.out.mono ?_
            rintro e w6 ⟨rfl, hk6, bb6, keep6⟩
            have hrn := HRE.out
            rw [J.read_some (J.step_good HTX.out.symm (by omega) (by rw [← HRK.out, ← HSE.out]; exact HTK.out)), ← HSE.out, HDR.out, List.drop_drop] at hrn
            simp only at hrn
            have HRN : Hid (R = (ts ++ (t :: (J.read S (log.drop (u + k + 8))).1), u + k + 8 + (J.read S (log.drop (u + k + 8))).2.1, (J.read S (log.drop (u + k + 8))).2.2)) := Lib.hid (by rw [hrn]; simp only [Nat.add_assoc])
            clear hrn
            have XS : Hid (w6.heap[w3.heap.size]? = some (.cells (byteCells S).toArray 31 (0, 0))) := Lib.hid ((keep6 _ hw3 (Nat.lt_of_lt_of_le HHW4.out Bi.size)).trans ((Bi.block _ HHW4.out).trans XS4.out))
            have X16 : Hid (w6.heap[w.heap.size + 1]? = some (.cells (byteCells la).toArray 31 (0, 0))) := Lib.hid ((bb6.block _ (by omega) (by omega)).trans ((Bw.block _ (lt_of_block X1.out)).trans X1.out))
            have X06 : Hid (w6.heap[w.heap.size]? = some (.cells zero32 31 (0, 0))) := Lib.hid ((bb6.block _ (by omega) (by omega)).trans ((Bw.block _ (lt_of_block X0.out)).trans X0.out))
            have HK6 := Lib.hid hk6; clear hk6
            have HB6 : Hid (BelowBut w.heap.size p w w6) := Lib.hid ((Brr.trans ((BelowBut.of Bw).mono (by omega))).trans (bb6.mono (by omega)))
            have h6s : w.heap.size + 2 ≤ w6.heap.size := by have := bb6.size; have := Bw.size; omega
            clear keep6 bb6 HCALL XS4 Bi Bw
            go_wp2_with fail
            refine wp_region_rel_tailM [[], [0], [], [1], [2]] (wkS (w.heap.size + 1) w3.heap.size u k S) 56 4 (by kernel_rfl) (by kernel_rfl) (by kernel_rfl) (by kernel_rfl) (of_decide_eq_true (by kernel_rfl)) (wkS_mono (w.heap.size + 1) w3.heap.size u k S) ?_ ?_
            · intro ix op him hi w7 b7 vs hv
              match ix, him, hi with
              | 0, _, hi =>
                obtain rfl := Option.some.inj hi
                simp only [relF, List.getD_cons_zero, List.getD_cons_succ, List.foldl_cons, List.foldl_nil, dstAt, List.getElem?_cons_zero, List.getElem?_cons_succ, Option.bind_some]
                go_wp2_with fail
                exact ⟨rfl, Below.refl _ _, rfl, rfl⟩
              | 1, _, hi =>
                obtain rfl := Option.some.inj hi
                have h0 : vs 0 = _ := hv 0 (by decide)
                simp only [relF, List.getD_cons_zero, List.getD_cons_succ, List.foldl_cons, List.foldl_nil, dstAt, List.getElem?_cons_zero, List.getElem?_cons_succ, Option.bind_some]
                go_frame
                rw [h0]
                go_wp2_with fail
                exact ⟨rfl, Below.refl _ _, rfl, by first | rfl | (show slotOf _ _ = _; simp [slotOf]; done) | (show slotOf _ _ = _; simp [slotOf]; omega)⟩
              | 2, _, hi =>
                obtain rfl := Option.some.inj hi
                simp only [relF, List.getD_cons_zero, List.getD_cons_succ, List.foldl_cons, List.foldl_nil, dstAt, List.getElem?_cons_zero, List.getElem?_cons_succ, Option.bind_some]
                go_wp2_with ((with_reducible show wpList _ _ _ (⟨some 53, _, _, _, _, _⟩ :: _) _ _); refine wpList_load_hash (op := ⟨some 53, _, _, _, _, _⟩) (by kernel_rfl) _ rfl w3.heap.size rfl S HSL.out _ _ ((b7.block _ (lt_of_block XS.out)).trans XS.out) ?_)
                exact ⟨rfl, Below.refl _ _, rfl, rfl⟩
              | 3, _, hi =>
                obtain rfl := Option.some.inj hi
                have h1 : vs 1 = _ := hv 1 (by decide)
                simp only [relF, List.getD_cons_zero, List.getD_cons_succ, List.foldl_cons, List.foldl_nil, dstAt, List.getElem?_cons_zero, List.getElem?_cons_succ, Option.bind_some]
                go_frame
                rw [h1]
                go_wp2_with fail
                exact ⟨rfl, Below.refl _ _, rfl, rfl⟩
              | nx + 4, him, _ => exact absurd him (by omega)
            · intro w7 b7 vs hv
              have h0 : vs 0 = _ := hv 0 (by decide)
              have h1 : vs 1 = _ := hv 1 (by decide)
              have h2 : vs 2 = _ := hv 2 (by decide)
              have h3 : vs 3 = _ := hv 3 (by decide)
              simp only [relF, List.drop_succ_cons, List.drop_zero, List.length_cons, List.length_nil, Nat.zero_add, Nat.reduceAdd, List.range, List.range.loop, List.foldl_cons, List.foldl_nil, dstAt, List.getElem?_cons_zero, List.getElem?_cons_succ, Option.bind_some]
              go_frame
              rw [h0, h1, h2, h3]
              have z1 := (b7.block _ (lt_of_block X16.out)).trans X16.out
              have z0 := (b7.block _ (lt_of_block X06.out)).trans X06.out
              go_wp2_with ((with_reducible show wpList _ _ _ (⟨none, .store 31 (.tmp 6) (.tmp 53), _, _, _, _⟩ :: _) _ _); refine wpList_put_hash (o := ⟨none, .store _ _ _, _, _, _, _⟩) rfl _ _ rfl (w.heap.size + 1) rfl S HSL.out rfl _ _ z1 (by rw [hash_cells_size la HLA.out]) ?_)
              simp only [Act.put]
              go_roundw
              case rel =>
                refine ⟨u + k + 8, S, ts ++ [t], by go_num, by omega, HSL.out, Lib.hid ?_, Lib.hid (hKs.out _ _ _ HK6.out (fun k' hk' hkp => by rw [hset_other _ (by omega)]; exact b7.block k' hk')), Lib.hid (hset_heap _ z1), Lib.hid (by rw [hset_other _ (by omega)]; exact z0), ?_, ?_⟩
                · rw [HRN.out, List.append_assoc]; rfl
                · exact (HB6.out.trans ((BelowBut.of b7).mono (by have := HB6.out.size; omega))).trans (BelowBut.of (hset_below _ (Below.refl _ _) (by omega)))
                · rw [hset_size]; have := b7.size; have := HB6.out.size; omega
              case measure => simp [intOf]; omega

end Go.Proofs.YtjlaoijmcenahaaDoor
