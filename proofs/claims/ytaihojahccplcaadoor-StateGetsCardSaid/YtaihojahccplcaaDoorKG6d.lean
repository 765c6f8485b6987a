/- S12, in one text. -/
import Derived.Test.YtaihojahccplcaaDoorKG6c
import Derived.Test.YtaihojahccplcaaDoorKG6b
import Derived.Test.YtaihojahccplcaaDoorKG0c
/- Vertices: the document's Get. -/
namespace Go.Proofs.YtaihojahccplcaaDoor
open Go.RowKit
set_option linter.unusedSimpArgs false
set_option linter.unusedVariables false

theorem fld_room' {w : World} {base g gq c n : Nat} {d : List FieldV} {h : FieldV} (hn : d.length = n) (hown : w.ownsRow base 75 37 (.slice (some ⟨gq, 0, none⟩) n c) n (fCells d)) (hd : n ≤ 1000) (hh : h.ok) (hroom : n + 1 ≤ c) (hg : w.heap[g]? = some (.cells h.cells.toArray 75 (0, 0))) (hB : base ≤ w.heap.size) :
    ∃ w', (Builtin.append_ #[73, 73] 73 #[.slice (some ⟨gq, 0, none⟩) n c, .slice (some ⟨g, 0, none⟩) 1 1]).run Tryd.prog w = .ok (.slice (some ⟨gq, 0, none⟩) (n + 1) c) w' ∧ w'.ownsRow base 75 37 (.slice (some ⟨gq, 0, none⟩) (n + 1) c) (n + 1) (fCells (d ++ [h])) ∧ w.grownBy w' (some gq) := by
  subst hn; exact fld_room hown hd hh hroom hg hB
theorem fld_grow' {w : World} {base g gq c n : Nat} {d : List FieldV} {h : FieldV} (hn : d.length = n) (hown : w.ownsRow base 75 37 (.slice (some ⟨gq, 0, none⟩) n c) n (fCells d)) (hd : n ≤ 1000) (hh : h.ok) (hroom : ¬ n + 1 ≤ c) (hg : w.heap[g]? = some (.cells h.cells.toArray 75 (0, 0))) (hB : base ≤ w.heap.size) :
    ∃ g' c' w', (Builtin.append_ #[73, 73] 73 #[.slice (some ⟨gq, 0, none⟩) n c, .slice (some ⟨g, 0, none⟩) 1 1]).run Tryd.prog w = .ok (.slice (some ⟨g', 0, none⟩) (n + 1) c') w' ∧ w'.ownsRow base 75 37 (.slice (some ⟨g', 0, none⟩) (n + 1) c') (n + 1) (fCells (d ++ [h])) ∧ Below w.heap.size w w' := by
  subst hn; exact fld_grow hown hd hh hroom hg hB

theorem got_cells (a b c d e : Nat) : (fCells [fldOf 0 a, fldOf 1 b, fldOf 0 c, fldOf 0 d, fldOf 1 e])[2]? = some (.int .u64 (a : Int)) ∧ (fCells [fldOf 0 a, fldOf 1 b, fldOf 0 c, fldOf 0 d, fldOf 1 e])[40]? = some (.int .i64 (Wire.unzig b)) ∧ (fCells [fldOf 0 a, fldOf 1 b, fldOf 0 c, fldOf 0 d, fldOf 1 e])[76]? = some (.int .u64 (c : Int)) ∧ (fCells [fldOf 0 a, fldOf 1 b, fldOf 0 c, fldOf 0 d, fldOf 1 e])[113]? = some (.int .u64 (d : Int)) ∧ (fCells [fldOf 0 a, fldOf 1 b, fldOf 0 c, fldOf 0 d, fldOf 1 e])[151]? = some (.int .i64 (Wire.unzig e)) :=
  ⟨rfl, rfl, rfl, rfl, rfl⟩

/-- What the region's operations leave. -/
def gfV (gq c j k b7 : Nat) (F : FieldV) (S : List UInt8) (ix : Nat) (w : World) (v : Value) : Prop :=
  match ix with
  | 0 => v = .slice (some ⟨gq, 0, none⟩) j c
  | 1 => v = .agg F.cells.toArray
  | 2 => ∃ g : Nat, v = .slice (some ⟨g, 0, none⟩) 1 1 ∧ gq < g ∧ w.heap[g]? = some (.cells F.cells.toArray 75 (0, 0))
  | 3 => v = .slice (some ⟨gq, 0, none⟩) (j + 1) c
  | 4 => v = .string (strOf S)
  | 5 => v = .int .i64 ((k : Int))
  | 6 => v = .string (strOf (S.drop k))
  | 7 => v = .slice (some ⟨gq, 0, none⟩) (j + 1) c
  | 8 => v = .string (strOf (S.drop k))
  | _ => True

theorem gfV_mono (gq c j k b7 : Nat) (F : FieldV) (S : List UInt8) (jx : Nat) (w w' : World) (v : Value) (hb : Below w.heap.size w w') (h : gfV gq c j k b7 F S jx w v) : gfV gq c j k b7 F S jx w' v := by
  match jx, h with
  | 0, h => exact h
  | 1, h => exact h
  | 2, h => exact (let ⟨g, h1, h2, h3⟩ := h; ⟨g, h1, h2, (hb.block g (lt_of_block h3)).trans h3⟩)
  | 3, h => exact h
  | 4, h => exact h
  | 5, h => exact h
  | 6, h => exact h
  | 7, h => exact h
  | 8, h => exact h
  | _ + 9, h => exact trivial

/-- What each operation changes. -/
def gfR (B gq c j : Nat) (F : FieldV) (Dl : List FieldV) (i : Nat) (w w' : World) : Prop :=
  match i with
  | 3 => w.grownBy w' (some gq) ∧ w'.ownsRow B 75 37 (.slice (some ⟨gq, 0, none⟩) (j + 1) c) (j + 1) (fCells (Dl ++ [F]))
  | _ => Below w.heap.size w w'

/-- What holds while the region goes on. -/
def gfI (W0 : World) (gq c j b7 : Nat) (F : FieldV) (Dl : List FieldV) (b : Bool) (w : World) : Prop :=
  (b = false → w.ownsRow W0.heap.size 75 37 (.slice (some ⟨gq, 0, none⟩) j c) j (fCells Dl)) ∧ (b = true → w.ownsRow W0.heap.size 75 37 (.slice (some ⟨gq, 0, none⟩) (j + 1) c) (j + 1) (fCells (Dl ++ [F]))) ∧ Below W0.heap.size W0 w ∧ w.heap[b7]? = some (.cells F.cells.toArray 75 (0, 0)) ∧ gq < w.heap.size
/-- What the region's operations leave. -/
def gfG (B gq c j k b7 : Nat) (F : FieldV) (Dl : List FieldV) (S : List UInt8) (ix : Nat) (w : World) (v : Value) : Prop :=
  match ix with
  | 0 => v = .slice (some ⟨gq, 0, none⟩) j c
  | 1 => v = .agg F.cells.toArray
  | 2 => ∃ g : Nat, v = .slice (some ⟨g, 0, none⟩) 1 1 ∧ gq < g ∧ w.heap[g]? = some (.cells F.cells.toArray 75 (0, 0))
  | 3 => ∃ (g c' : Nat), v = .slice (some ⟨g, 0, none⟩) (j + 1) c' ∧ w.ownsRow B 75 37 (.slice (some ⟨g, 0, none⟩) (j + 1) c') (j + 1) (fCells (Dl ++ [F]))
  | 4 => v = .string (strOf S)
  | 5 => v = .int .i64 ((k : Int))
  | 6 => v = .string (strOf (S.drop k))
  | 7 => ∃ (g c' : Nat), v = .slice (some ⟨g, 0, none⟩) (j + 1) c' ∧ w.ownsRow B 75 37 (.slice (some ⟨g, 0, none⟩) (j + 1) c') (j + 1) (fCells (Dl ++ [F]))
  | 8 => v = .string (strOf (S.drop k))
  | _ => True

theorem gfG_mono (B gq c j k b7 : Nat) (F : FieldV) (Dl : List FieldV) (S : List UInt8) (jx : Nat) (w w' : World) (v : Value) (hb : Below w.heap.size w w') (h : gfG B gq c j k b7 F Dl S jx w v) : gfG B gq c j k b7 F Dl S jx w' v := by
  match jx, h with
  | 0, h => exact h
  | 1, h => exact h
  | 2, h => exact (let ⟨g, h1, h2, h3⟩ := h; ⟨g, h1, h2, (hb.block g (lt_of_block h3)).trans h3⟩)
  | 3, h => exact (let ⟨g, c', h1, h2⟩ := h; ⟨g, c', h1, ownsRow_below h2 fun k hk => hb.block k (h2.lt k hk).2⟩)
  | 4, h => exact h
  | 5, h => exact h
  | 6, h => exact h
  | 7, h => exact (let ⟨g, c', h1, h2⟩ := h; ⟨g, c', h1, ownsRow_below h2 fun k hk => hb.block k (h2.lt k hk).2⟩)
  | 8, h => exact h
  | _ + 9, h => exact trivial
/-- What the region's operations leave. -/
def gxV (G gq c a cc dd : Nat) (vb ve : Int) (X : St.V) (ix : Nat) (w : World) (v : Value) : Prop :=
  match ix with
  | 0 => v = .slice (some ⟨gq, 0, none⟩) 5 c
  | 1 => v = .pointer (some ⟨gq, 0, none⟩)
  | 2 => v = .pointer (some ⟨gq, 2, none⟩)
  | 3 => v = .int .u64 (a : Int)
  | 4 => v = .int .i64 ((a : Int))
  | 5 => v = .slice (some ⟨gq, 0, none⟩) 5 c
  | 6 => v = .pointer (some ⟨gq, 37, none⟩)
  | 7 => v = .pointer (some ⟨gq, 40, none⟩)
  | 8 => v = .int .i64 (vb)
  | 9 => v = .slice (some ⟨gq, 0, none⟩) 5 c
  | 10 => v = .pointer (some ⟨gq, 74, none⟩)
  | 11 => v = .pointer (some ⟨gq, 76, none⟩)
  | 12 => v = .int .u64 (cc : Int)
  | 13 => v = .bool ((cc == 1))
  | 14 => v = .slice (some ⟨gq, 0, none⟩) 5 c
  | 15 => v = .pointer (some ⟨gq, 111, none⟩)
  | 16 => v = .pointer (some ⟨gq, 113, none⟩)
  | 17 => v = .int .u64 (dd : Int)
  | 18 => v = .bool ((dd == 1))
  | 19 => v = .slice (some ⟨gq, 0, none⟩) 5 c
  | 20 => v = .pointer (some ⟨gq, 148, none⟩)
  | 21 => v = .pointer (some ⟨gq, 151, none⟩)
  | 22 => v = .int .i64 (ve)
  | 23 => v = .agg (VertexV.cells X).toArray
  | 24 => v = .pointer (some ⟨G, 0, none⟩)
  | 25 => w.heap[G]? = some (.cells (VertexV.cells X).toArray 36 (0, 0))
  | _ => True

theorem gxV_mono (G gq c a cc dd : Nat) (vb ve : Int) (X : St.V) (jx : Nat) (w w' : World) (v : Value) (hb : Below w.heap.size w w') (h : gxV G gq c a cc dd vb ve X jx w v) : gxV G gq c a cc dd vb ve X jx w' v := by
  match jx, h with
  | 0, h => exact h
  | 1, h => exact h
  | 2, h => exact h
  | 3, h => exact h
  | 4, h => exact h
  | 5, h => exact h
  | 6, h => exact h
  | 7, h => exact h
  | 8, h => exact h
  | 9, h => exact h
  | 10, h => exact h
  | 11, h => exact h
  | 12, h => exact h
  | 13, h => exact h
  | 14, h => exact h
  | 15, h => exact h
  | 16, h => exact h
  | 17, h => exact h
  | 18, h => exact h
  | 19, h => exact h
  | 20, h => exact h
  | 21, h => exact h
  | 22, h => exact h
  | 23, h => exact h
  | 24, h => exact h
  | 25, h => exact ((hb.block _ (lt_of_block h)).trans h)
  | _ + 26, h => exact trivial

theorem gxV_store {G gq c a cc dd : Nat} {vb ve : Int} {X : St.V} {jx : Nat} {w : World} {v : Value} {g : Nat} {cs : Array Value} (hj : jx ≠ 25) (h : gxV G gq c a cc dd vb ve X jx w v) : gxV G gq c a cc dd vb ve X jx (w.setRow g cs) v := by
  match jx, h with
  | 0, h => exact h
  | 1, h => exact h
  | 2, h => exact h
  | 3, h => exact h
  | 4, h => exact h
  | 5, h => exact h
  | 6, h => exact h
  | 7, h => exact h
  | 8, h => exact h
  | 9, h => exact h
  | 10, h => exact h
  | 11, h => exact h
  | 12, h => exact h
  | 13, h => exact h
  | 14, h => exact h
  | 15, h => exact h
  | 16, h => exact h
  | 17, h => exact h
  | 18, h => exact h
  | 19, h => exact h
  | 20, h => exact h
  | 21, h => exact h
  | 22, h => exact h
  | 23, h => exact h
  | 24, h => exact h
  | 25, h => exact absurd rfl hj
  | _ + 26, h => exact trivial

/-- What each operation changes. -/
def gxR (G : Nat) (X : St.V) (i : Nat) (w w' : World) : Prop :=
  match i with
  | 24 => w' = w.alloc (.cells zeroVx 36)
  | 25 => w' = w.setRow G (VertexV.cells X).toArray
  | _ => w' = w

/-- What holds while the region goes on. -/
def gxI (wr : World) (X : St.V) (b : Bool) (w : World) : Prop :=
  Below wr.heap.size wr w ∧ (b = false → w.heap.size = wr.heap.size) ∧ (b = true → ∃ old : Array Value, w.heap[wr.heap.size]? = some (.cells old 36 (0, 0)) ∧ old.size = 5)

set_option maxRecDepth 100000 in
set_option maxHeartbeats 8000000 in
theorem refGet10_any (w : World) (l : List UInt8) (hl : l.length ≤ 1000000) : Calls Tryd.prog 20 #[.string (strOf l)] w fun e w' => e = .returned (.tuple #[.agg (VertexV.cells (St.get 100 l).1).toArray, .int .i64 ((St.get 100 l).2 : Int)]) ∧ Below w.heap.size w w' := by
  obtain ⟨r0, hr0⟩ : ∃ r0, r0 = St.get 100 l := ⟨_, rfl⟩
  rw [← hr0]
  have HR0 := Lib.hid hr0; clear hr0
  obtain ⟨W0, hW0⟩ : ∃ W0, W0 = w.alloc (.cells zeroVx 36) := ⟨_, rfl⟩
  have z0 : W0.heap[w.heap.size]? = some (.cells zeroVx 36 (0, 0)) := by rw [hW0]; exact heap_alloc_new w _
  have b0 : Below w.heap.size w W0 := by rw [hW0]; exact (Below.refl _ _).alloc (Nat.le_refl _) _
  have hlt0 := lt_of_block z0
  obtain ⟨W1, hW1⟩ : ∃ W1, W1 = W0.alloc (.cells #[] 75) := ⟨_, rfl⟩
  have b1 : Below W0.heap.size W0 W1 := by rw [hW1]; exact (Below.refl _ _).alloc (Nat.le_refl _) _
  have ho1 : W1.ownsRow W0.heap.size 75 37 (.slice (some ⟨W0.heap.size, 0, none⟩) 0 0) 0 (fCells (gotF l 0)) := by
    rw [hW1]
    exact ⟨rfl, .inr ⟨W0.heap.size, 0, #[], rfl, Nat.le_refl _, heap_alloc_new W0 _, Nat.le_refl _, by decide, rfl, rfl⟩⟩
  have Z0 := Lib.hid z0; clear z0
  have HO1 := Lib.hid ho1; clear ho1
  have HW0 := Lib.hid hW0; clear hW0
  have HW1 := Lib.hid hW1; clear hW1
  go_enter Tryd.func20, Tryd.ntmps20
  go_wp2_with fail
  change Code.wp _ _ _ _ ((w.alloc (.cells zeroVx 36)).alloc (.cells #[] 75))
  rw [← HW0.out, ← HW1.out]
  go_loopw [0, 4, 5] (fun s v u wr => ∃ (j gq c : Nat), j ≤ 5 ∧ s = .string (strOf (chain l j).2.1) ∧ v = .slice (some ⟨gq, 0, none⟩) j c ∧ u = .int .i64 (j : Int) ∧ Hid (wr.ownsRow W0.heap.size 75 37 (.slice (some ⟨gq, 0, none⟩) j c) j (fCells (gotF l j))) ∧ Below W0.heap.size W0 wr ∧ Hid ((chain l j).2.2 = 0)) (fun _ _ u _ => 5 - (intOf u).toNat)
  case atStart => exact ⟨0, W0.heap.size, 0, by omega, by first | rfl | (rw [← HW0.out]; rfl), by first | rfl | (rw [HW0.out]; simp), rfl, HO1, b1, Lib.hid rfl⟩
  case round =>
    obtain ⟨j, gq, c, hj, rfl, rfl, rfl, HOW, Bw, HE⟩ := hrel
    obtain ⟨S, hS⟩ : ∃ S, S = (chain l j).2.1 := ⟨_, rfl⟩
    have hsl : S.length ≤ l.length := by rw [hS]; exact chain_len l j
    by_cases hlt : j < 5
    · have t0 : decide ((j : Int) < 5) = true := decide_eq_true (by omega)
      have t0' : decide (j < 5) = true := decide_eq_true hlt
      have hcs := chain_succ l j
      rw [HE.out, ← hS] at hcs
      rw [← hS]
      have HCS := Lib.hid hcs; clear hcs hS
      have HSL : Hid (S.length ≤ maxLen) := Lib.hid (by unfold maxLen; omega)
      by_cases hj1 : j = 1
      · have tj1 : ((j : Int) == 1) = true := by rw [beq_iff_eq]; omega
        have tj1' : (j == 1) = true := by rw [beq_iff_eq]; exact hj1
        have HJ := Lib.hid hj1; clear hj1
        have hq := refGet_any (FieldV.mk 1 0 0 0 ⟨#[]⟩ (List.replicate 32 0)) (zeroKind_ok 1 (by decide) (by decide)) (strOf S) (by rw [strOf_size]; exact HSL.out) wr
        rw [strOf_list] at hq
        have hkk : kindAt j = 1 := if_pos (.inl HJ.out)
        obtain ⟨fz, hfz⟩ : ∃ fz : FieldV, fz = FieldV.mk 1 0 0 0 ⟨#[]⟩ (List.replicate 32 0) := ⟨_, rfl⟩
        have hbk : Tryd.prog.built 75 [(0, .int .i64 1)] = some fz.cells.toArray := by rw [hfz]; exact FieldV.builtK _
        have HBK := Lib.hid hbk; clear hbk
        by_cases he : (Wire.rdNum S 0).2.2 = 0
        · obtain ⟨hg1, hg2⟩ := refV_good (K := 1) (by decide) he
          rw [hg1, ← hfz] at hq
          clear hg1 hfz
          have hlk := Wire.dec_len S
          obtain ⟨k, hk⟩ : ∃ k, k = (Wire.dec 0 0 S).2.1 := ⟨_, rfl⟩
          rw [← hk] at hq hg2 hlk
          clear hk
          obtain ⟨F, hF⟩ : ∃ F, F = fldOf 1 (Wire.rdNum S 0).1 := ⟨_, rfl⟩
          have hfo : F.ok := by rw [hF]; exact fldOf_ok (by decide) (Wire.rdNum_lt _ _)
          have hgs := gotF_succ l j
          rw [HCS.out, hkk, ← hF] at hgs
          rw [← hF] at hq
          obtain ⟨Dl, hDl⟩ : ∃ Dl, Dl = gotF l j := ⟨_, rfl⟩
          have hdl : Dl.length = j := by rw [hDl]; exact gotF_len l j
          rw [← hDl] at hgs HOW
          have HGS := Lib.hid hgs; clear hgs
          have HDL := Lib.hid hdl; clear hdl hDl hF
          have HRS : Hid (S.drop k = (chain l (j + 1)).2.1) := Lib.hid (by rw [HCS.out, hg2])
          have HE1 : Hid ((chain l (j + 1)).2.2 = 0) := Lib.hid (by rw [HCS.out]; exact he)
          have HFO := Lib.hid hfo; clear hfo hg2 he
          have HQ := Lib.hid hq; clear hq
          go_wp2_with (first | ((with_reducible show wpList _ _ _ (⟨some 25, _, _, _, _, _⟩ :: _) _ _); refine wpList_build1' (o := ⟨some 25, _, _, _, _, _⟩) rfl _ _ _ rfl (.int .i64 1) rfl fz.cells.toArray HBK.out ?_))
          refine HQ.out.mono ?_
          rintro e w5 ⟨rfl, b5⟩
          clear HQ HBK
          obtain ⟨W6, hW6⟩ : ∃ W6, W6 = w5.alloc (.cells zeroField.cells.toArray 75) := ⟨_, rfl⟩
          have z6 : W6.heap[w5.heap.size]? = some (.cells zeroField.cells.toArray 75 (0, 0)) := by rw [hW6]; exact heap_alloc_new w5 _
          have b6 : Below w5.heap.size w5 W6 := by rw [hW6]; exact (Below.refl _ _).alloc (Nat.le_refl _) _
          obtain ⟨W7, hW7⟩ : ∃ W7, W7 = W6.setRow w5.heap.size F.cells.toArray := ⟨_, rfl⟩
          have x7 : W7.heap[w5.heap.size]? = some (.cells F.cells.toArray 75 (0, 0)) := by rw [hW7]; exact setRow_heap _ _ _ _ _ _ z6
          have b7 : Below w5.heap.size w5 W7 := by rw [hW7]; exact below_setRow' b6 (Nat.le_refl _)
          have b57 := b5.trans (b7.mono b5.size)
          have B7 := Bw.trans (b57.mono Bw.size)
          have ho7 := ownsRow_below HOW.out fun i hi => b57.block i (HOW.out.lt i hi).2
          have hq1 := HOW.out.lt gq rfl
          have HQ5 : Hid (gq < w5.heap.size) := Lib.hid (Nat.lt_of_lt_of_le hq1.2 b5.size)
          have HGQ : Hid (gq < W7.heap.size) := Lib.hid (Nat.lt_of_lt_of_le hq1.2 b57.size)
          have HBQ : Hid (W0.heap.size ≤ gq) := Lib.hid hq1.1
          clear hq1
          have HO7 := Lib.hid ho7; clear ho7
          have Z6 := Lib.hid z6; clear z6
          have X7 := Lib.hid x7; clear x7
          have HW6 := Lib.hid hW6; clear hW6
          have HW7 := Lib.hid hW7; clear hW7
          have HZS := Lib.hid (field_size (f := zeroField) rfl)
          clear b6 b7 b5
          go_wp2_with (first | ((with_reducible show wpList _ _ _ (⟨none, .store _ (.tmp 7) (.tmp 27), _, _, _, _⟩ :: _) _ _); change wpList _ _ _ _ _ (w5.alloc (.cells zeroField.cells.toArray 75)); rw [← HW6.out]; refine wpList_store_fx rfl _ _ rfl w5.heap.size F HFO.out rfl rfl zeroField.cells.toArray Z6.out HZS.out ?_; rw [← HW7.out]))
          by_cases hrm : j + 1 ≤ c
          · refine wp_region_relW [[], [], [1], [0, 2], [], [], [4, 5], [3], [6]] (gfV gq c j k w5.heap.size F S) (gfR W0.heap.size gq c j F Dl) 93 (by kernel_rfl) (by kernel_rfl) (by kernel_rfl) 3 (by decide) (gfI W0 gq c j w5.heap.size F Dl) ?_ ?_ ?_ ?_ ?_
            · exact ⟨fun _ => ownsRow_below HO7.out fun i _ => rfl, (fun h => by cases h), B7.drew, X7.out, HGQ.out⟩
            · intro i b wa wb hI hb hr
              by_cases e1 : i = 3
              · subst e1
                obtain rfl := hb rfl
                obtain ⟨hgr, hon⟩ : wa.grownBy wb (some gq) ∧ wb.ownsRow W0.heap.size 75 37 (.slice (some ⟨gq, 0, none⟩) (j + 1) c) (j + 1) (fCells (Dl ++ [F])) := hr
                obtain ⟨i1, i2, i3, i4, i5⟩ := hI
                exact ⟨(fun h => by cases h), fun _ => hon, i3.trans (grown_below hgr (fun k hk => by cases hk; exact HBQ.out) i3.size), (hgr.block _ (lt_of_block i4) (fun e => by have := Option.some.inj e; have := HQ5.out; omega)).trans i4, Nat.lt_of_lt_of_le i5 hgr.size⟩
              · have hbl : Below wa.heap.size wa wb := by
                  have : gfR W0.heap.size gq c j F Dl i wa wb = Below wa.heap.size wa wb := by
                    unfold gfR
                    split
                    · exact absurd rfl e1
                    · rfl
                  rw [this] at hr; exact hr
                rw [decide_eq_false (fun e => e1 e.symm), Bool.false_or]
                obtain ⟨i1, i2, i3, i4, i5⟩ := hI
                exact ⟨fun h => ownsRow_below (i1 h) fun k hk => hbl.block k ((i1 h).lt k hk).2, fun h => ownsRow_below (i2 h) fun k hk => hbl.block k ((i2 h).lt k hk).2, i3.trans (hbl.mono i3.size), (hbl.block _ (lt_of_block i4)).trans i4, Nat.lt_of_lt_of_le i5 hbl.size⟩
            · intro i jx hij b wa wb v hI hb hr h
              by_cases e1 : i = 3
              · subst e1
                obtain rfl := hb rfl
                obtain ⟨hgr, hon⟩ : wa.grownBy wb (some gq) ∧ wb.ownsRow W0.heap.size 75 37 (.slice (some ⟨gq, 0, none⟩) (j + 1) c) (j + 1) (fCells (Dl ++ [F])) := hr
                match jx, h with
                | 0, h => exact h
                | 1, h => exact h
                | 2, h => exact (let ⟨g, h1, h2, h3⟩ := h; ⟨g, h1, h2, (hgr.block g (lt_of_block h3) (fun e => by have := Option.some.inj e; omega)).trans h3⟩)
                | 3, h => exact absurd rfl hij
                | 4, h => exact h
                | 5, h => exact h
                | 6, h => exact h
                | 7, h => exact h
                | 8, h => exact h
                | _ + 9, h => exact trivial
              · have hbl : Below wa.heap.size wa wb := by
                  have : gfR W0.heap.size gq c j F Dl i wa wb = Below wa.heap.size wa wb := by
                    unfold gfR
                    split
                    · exact absurd rfl e1
                    · rfl
                  rw [this] at hr; exact hr
                exact gfV_mono gq c j k w5.heap.size F S jx wa wb v hbl h
            · intro ix op hi b w2 hI hs hd vs hv
              have him : ix < 9 := (List.getElem?_eq_some_iff.1 hi).1
              have hgq := hI.2.2.2.2
              have hBw := hI.2.2.1.size
              match ix, him, hi with
              | 0, _, hi =>
                obtain rfl := Option.some.inj hi
                simp only [relF, List.getD_cons_zero, List.getD_cons_succ, List.foldl_cons, List.foldl_nil, dstAt, List.getElem?_cons_zero, List.getElem?_cons_succ, Option.bind_some]
                go_wp2_with fail
                exact ⟨rfl, Below.refl _ _, rfl, rfl⟩
              | 1, _, hi =>
                obtain rfl := Option.some.inj hi
                simp only [relF, List.getD_cons_zero, List.getD_cons_succ, List.foldl_cons, List.foldl_nil, dstAt, List.getElem?_cons_zero, List.getElem?_cons_succ, Option.bind_some]
                go_wp2_with ((with_reducible show wpList _ _ _ (⟨some 35, _, _, _, _, _⟩ :: _) _ _); refine wpList_load_fx (op := ⟨some 35, _, _, _, _, _⟩) rfl _ rfl w5.heap.size rfl F HFO.out hI.2.2.2.1 ?_)
                exact ⟨rfl, Below.refl _ _, rfl, rfl⟩
              | 2, _, hi =>
                obtain rfl := Option.some.inj hi
                have h1 : vs 1 = _ := hv 1 (by decide)
                have hvl := FieldV.len HFO.out
                simp only [relF, List.getD_cons_zero, List.getD_cons_succ, List.foldl_cons, List.foldl_nil, dstAt, List.getElem?_cons_zero, List.getElem?_cons_succ, Option.bind_some]
                go_frame
                rw [h1]
                go_wp2_with fail
                exact ⟨rfl, (Below.refl _ _).alloc (Nat.le_refl _) _, rfl, w2.heap.size, rfl, hgq, alloc_builtF w2 (by rw [FieldV.len HFO.out]; rfl)⟩
              | 3, _, hi =>
                obtain ⟨g2, e2, l2, x2⟩ := hv 2 (by decide)
                obtain rfl := Option.some.inj hi
                have h0 : vs 0 = _ := hv 0 (by decide)
                obtain rfl := hs rfl
                obtain ⟨wn, hrun, hon, hgr⟩ := fld_room' HDL.out (hI.1 rfl) (by omega) HFO.out hrm x2 hBw
                simp only [relF, List.getD_cons_zero, List.getD_cons_succ, List.foldl_cons, List.foldl_nil, dstAt, List.getElem?_cons_zero, List.getElem?_cons_succ, Option.bind_some]
                go_frame
                rw [h0, e2]
                go_wp2_with ((with_reducible show wpList _ _ _ (⟨some 37, _, _, _, _, _⟩ :: _) _ _); refine wpList_append_ran (by kernel_rfl) _ _ _ rfl _ _ rfl rfl hrun ?_)
                exact ⟨rfl, ⟨hgr, hon⟩, rfl, rfl⟩
              | 4, _, hi =>
                obtain rfl := Option.some.inj hi
                simp only [relF, List.getD_cons_zero, List.getD_cons_succ, List.foldl_cons, List.foldl_nil, dstAt, List.getElem?_cons_zero, List.getElem?_cons_succ, Option.bind_some]
                go_wp2_with fail
                exact ⟨rfl, Below.refl _ _, rfl, rfl⟩
              | 5, _, hi =>
                obtain rfl := Option.some.inj hi
                simp only [relF, List.getD_cons_zero, List.getD_cons_succ, List.foldl_cons, List.foldl_nil, dstAt, List.getElem?_cons_zero, List.getElem?_cons_succ, Option.bind_some]
                go_wp2_with fail
                exact ⟨rfl, Below.refl _ _, rfl, rfl⟩
              | 6, _, hi =>
                obtain rfl := Option.some.inj hi
                have h4 : vs 4 = _ := hv 4 (by decide)
                have h5 : vs 5 = _ := hv 5 (by decide)
                have hx := strOf_from S k
                have hsz := strOf_size S
                simp only [relF, List.getD_cons_zero, List.getD_cons_succ, List.foldl_cons, List.foldl_nil, dstAt, List.getElem?_cons_zero, List.getElem?_cons_succ, Option.bind_some]
                go_frame
                rw [h4, h5]
                go_wp2_with fail
                exact ⟨rfl, Below.refl _ _, rfl, by first | rfl | (show slotOf _ _ = _; simp [slotOf, hx])⟩
              | 7, _, hi =>
                obtain rfl := Option.some.inj hi
                have h3 : vs 3 = _ := hv 3 (by decide)
                simp only [relF, List.getD_cons_zero, List.getD_cons_succ, List.foldl_cons, List.foldl_nil, dstAt, List.getElem?_cons_zero, List.getElem?_cons_succ, Option.bind_some]
                go_frame
                rw [h3]
                go_wp2_with fail
                exact ⟨rfl, Below.refl _ _, rfl, rfl⟩
              | 8, _, hi =>
                obtain rfl := Option.some.inj hi
                have h6 : vs 6 = _ := hv 6 (by decide)
                simp only [relF, List.getD_cons_zero, List.getD_cons_succ, List.foldl_cons, List.foldl_nil, dstAt, List.getElem?_cons_zero, List.getElem?_cons_succ, Option.bind_some]
                go_frame
                rw [h6]
                go_wp2_with fail
                exact ⟨rfl, Below.refl _ _, rfl, rfl⟩
              | nx + 9, him, _ => exact absurd him (by omega)
            · intro w2 hI vs hv
              have hgq := hI.2.2.2.2
              have hBw := hI.2.2.1.size
              have h7 : vs 7 = _ := hv 7 (by decide)
              have h8 : vs 8 = _ := hv 8 (by decide)
              simp only [relF, List.drop_succ_cons, List.drop_zero, List.length_cons, List.length_nil, Nat.zero_add, Nat.reduceAdd, List.range, List.range.loop, List.foldl_cons, List.foldl_nil, dstAt, List.getElem?_cons_zero, List.getElem?_cons_succ, Option.bind_some]
              go_frame
              rw [h7, h8]
              go_wp2_with fail
              go_roundw
              case rel => exact ⟨j + 1, gq, c, by omega, by rw [← HRS.out], rfl, by go_num, Lib.hid (by rw [HGS.out]; exact hI.2.1 rfl), hI.2.2.1, HE1⟩
              case measure => simp [intOf]; omega
          · refine wp_region_relW [[], [], [1], [0, 2], [], [], [4, 5], [3], [6]] (gfG W0.heap.size gq c j k w5.heap.size F Dl S) (fun _ w w' => Below w.heap.size w w') 93 (by kernel_rfl) (by kernel_rfl) (by kernel_rfl) 3 (by decide) (fun _ w => Below W7.heap.size W7 w) ?_ ?_ ?_ ?_ ?_
            · exact (Below.refl _ _).drew
            · intro i b wa wb hI hb hr
              exact Below.trans hI (Below.mono hr (Below.size hI))
            · intro i jx hij b wa wb v hI hb hr h
              exact gfG_mono W0.heap.size gq c j k w5.heap.size F Dl S jx wa wb v hr h
            · intro ix op hi b w2 hI hs hd vs hv
              have him : ix < 9 := (List.getElem?_eq_some_iff.1 hi).1
              have b2 : Below W7.heap.size W7 w2 := hI
              have hgq := Nat.lt_of_lt_of_le HGQ.out b2.size
              have hBw := Nat.le_trans B7.size b2.size
              match ix, him, hi with
              | 0, _, hi =>
                obtain rfl := Option.some.inj hi
                simp only [relF, List.getD_cons_zero, List.getD_cons_succ, List.foldl_cons, List.foldl_nil, dstAt, List.getElem?_cons_zero, List.getElem?_cons_succ, Option.bind_some]
                go_wp2_with fail
                exact ⟨rfl, Below.refl _ _, rfl, rfl⟩
              | 1, _, hi =>
                obtain rfl := Option.some.inj hi
                simp only [relF, List.getD_cons_zero, List.getD_cons_succ, List.foldl_cons, List.foldl_nil, dstAt, List.getElem?_cons_zero, List.getElem?_cons_succ, Option.bind_some]
                go_wp2_with ((with_reducible show wpList _ _ _ (⟨some 35, _, _, _, _, _⟩ :: _) _ _); refine wpList_load_fx (op := ⟨some 35, _, _, _, _, _⟩) rfl _ rfl w5.heap.size rfl F HFO.out ((b2.block _ (lt_of_block X7.out)).trans X7.out) ?_)
                exact ⟨rfl, Below.refl _ _, rfl, rfl⟩
              | 2, _, hi =>
                obtain rfl := Option.some.inj hi
                have h1 : vs 1 = _ := hv 1 (by decide)
                have hvl := FieldV.len HFO.out
                simp only [relF, List.getD_cons_zero, List.getD_cons_succ, List.foldl_cons, List.foldl_nil, dstAt, List.getElem?_cons_zero, List.getElem?_cons_succ, Option.bind_some]
                go_frame
                rw [h1]
                go_wp2_with fail
                exact ⟨rfl, (Below.refl _ _).alloc (Nat.le_refl _) _, rfl, w2.heap.size, rfl, hgq, alloc_builtF w2 (by rw [FieldV.len HFO.out]; rfl)⟩
              | 3, _, hi =>
                obtain ⟨g2, e2, l2, x2⟩ := hv 2 (by decide)
                obtain rfl := Option.some.inj hi
                have h0 : vs 0 = _ := hv 0 (by decide)
                obtain ⟨g', c', wn, hrun, hon, hbn⟩ := fld_grow' HDL.out (ownsRow_below HO7.out fun i hi => b2.block i (HO7.out.lt i hi).2) (by omega) HFO.out hrm x2 hBw
                simp only [relF, List.getD_cons_zero, List.getD_cons_succ, List.foldl_cons, List.foldl_nil, dstAt, List.getElem?_cons_zero, List.getElem?_cons_succ, Option.bind_some]
                go_frame
                rw [h0, e2]
                go_wp2_with ((with_reducible show wpList _ _ _ (⟨some 37, _, _, _, _, _⟩ :: _) _ _); refine wpList_append_ran (by kernel_rfl) _ _ _ rfl _ _ rfl rfl hrun ?_)
                exact ⟨rfl, hbn, rfl, g', c', rfl, hon⟩
              | 4, _, hi =>
                obtain rfl := Option.some.inj hi
                simp only [relF, List.getD_cons_zero, List.getD_cons_succ, List.foldl_cons, List.foldl_nil, dstAt, List.getElem?_cons_zero, List.getElem?_cons_succ, Option.bind_some]
                go_wp2_with fail
                exact ⟨rfl, Below.refl _ _, rfl, rfl⟩
              | 5, _, hi =>
                obtain rfl := Option.some.inj hi
                simp only [relF, List.getD_cons_zero, List.getD_cons_succ, List.foldl_cons, List.foldl_nil, dstAt, List.getElem?_cons_zero, List.getElem?_cons_succ, Option.bind_some]
                go_wp2_with fail
                exact ⟨rfl, Below.refl _ _, rfl, rfl⟩
              | 6, _, hi =>
                obtain rfl := Option.some.inj hi
                have h4 : vs 4 = _ := hv 4 (by decide)
                have h5 : vs 5 = _ := hv 5 (by decide)
                have hx := strOf_from S k
                have hsz := strOf_size S
                simp only [relF, List.getD_cons_zero, List.getD_cons_succ, List.foldl_cons, List.foldl_nil, dstAt, List.getElem?_cons_zero, List.getElem?_cons_succ, Option.bind_some]
                go_frame
                rw [h4, h5]
                go_wp2_with fail
                exact ⟨rfl, Below.refl _ _, rfl, by first | rfl | (show slotOf _ _ = _; simp [slotOf, hx])⟩
              | 7, _, hi =>
                obtain ⟨g3, c3, e3, s3⟩ := hv 3 (by decide)
                obtain rfl := Option.some.inj hi
                simp only [relF, List.getD_cons_zero, List.getD_cons_succ, List.foldl_cons, List.foldl_nil, dstAt, List.getElem?_cons_zero, List.getElem?_cons_succ, Option.bind_some]
                go_frame
                rw [e3]
                go_wp2_with fail
                exact ⟨rfl, Below.refl _ _, rfl, g3, c3, rfl, s3⟩
              | 8, _, hi =>
                obtain rfl := Option.some.inj hi
                have h6 : vs 6 = _ := hv 6 (by decide)
                simp only [relF, List.getD_cons_zero, List.getD_cons_succ, List.foldl_cons, List.foldl_nil, dstAt, List.getElem?_cons_zero, List.getElem?_cons_succ, Option.bind_some]
                go_frame
                rw [h6]
                go_wp2_with fail
                exact ⟨rfl, Below.refl _ _, rfl, rfl⟩
              | nx + 9, him, _ => exact absurd him (by omega)
            · intro w2 hI vs hv
              have b2 : Below W7.heap.size W7 w2 := hI
              have hgq := Nat.lt_of_lt_of_le HGQ.out b2.size
              have hBw := Nat.le_trans B7.size b2.size
              obtain ⟨g7, c7, e7, s7⟩ := hv 7 (by decide)
              have h8 : vs 8 = _ := hv 8 (by decide)
              simp only [relF, List.drop_succ_cons, List.drop_zero, List.length_cons, List.length_nil, Nat.zero_add, Nat.reduceAdd, List.range, List.range.loop, List.foldl_cons, List.foldl_nil, dstAt, List.getElem?_cons_zero, List.getElem?_cons_succ, Option.bind_some]
              go_frame
              rw [e7, h8]
              go_wp2_with fail
              go_roundw
              case rel => exact ⟨j + 1, g7, c7, by omega, by rw [← HRS.out], rfl, by go_num, Lib.hid (by rw [HGS.out]; exact s7), B7.trans (b2.mono B7.size), HE1⟩
              case measure => simp [intOf]; omega
        · have hbad := refV_bad (K := 1) (by decide) he
          rw [hbad, ← hfz] at hq
          clear hbad hfz
          have her : r0 = (St.none, (Wire.rdNum S 0).2.2) := by
            have := get_err (er := 100) (l := l) (j := j + 1) (by omega) (by rw [HCS.out]; exact he)
            rw [HR0.out, this, HCS.out]
          obtain ⟨er, her2⟩ : ∃ er, er = (Wire.rdNum S 0).2.2 := ⟨_, rfl⟩
          rw [← her2] at her hq he
          clear her2
          have hne : ((er : Int) != 0) = true := by simp only [bne_iff_ne, ne_eq]; omega
          have HER := Lib.hid her; clear her
          have HQ := Lib.hid hq; clear hq
          obtain ⟨F, hF⟩ : ∃ F, F = zeroField := ⟨_, rfl⟩
          have HFO : Hid F.ok := Lib.hid (by rw [hF]; exact zeroField_ok)
          rw [← hF] at HQ
          have HZS : Hid (zeroField.cells.toArray.size = 37) := Lib.hid (field_size (f := zeroField) rfl)
          clear hF
          go_wp2_with (first | ((with_reducible show wpList _ _ _ (⟨some 25, _, _, _, _, _⟩ :: _) _ _); refine wpList_build1' (o := ⟨some 25, _, _, _, _, _⟩) rfl _ _ _ rfl (.int .i64 1) rfl fz.cells.toArray HBK.out ?_))
          refine HQ.out.mono ?_
          rintro e w5 ⟨rfl, b5⟩
          obtain ⟨W6, hW6⟩ : ∃ W6, W6 = w5.alloc (.cells zeroField.cells.toArray 75) := ⟨_, rfl⟩
          have z6 : W6.heap[w5.heap.size]? = some (.cells zeroField.cells.toArray 75 (0, 0)) := by rw [hW6]; exact heap_alloc_new w5 _
          have b6 : Below w5.heap.size w5 W6 := by rw [hW6]; exact (Below.refl _ _).alloc (Nat.le_refl _) _
          obtain ⟨W7, hW7⟩ : ∃ W7, W7 = W6.setRow w5.heap.size F.cells.toArray := ⟨_, rfl⟩
          have b7 : Below w5.heap.size w5 W7 := by rw [hW7]; exact below_setRow' b6 (Nat.le_refl _)
          have b57 := b5.trans (b7.mono b5.size)
          have B7 := Bw.trans (b57.mono Bw.size)
          have z7 := (B7.block _ hlt0).trans Z0.out
          have Z6 := Lib.hid z6; clear z6
          have Z7 := Lib.hid z7; clear z7
          have HW6 := Lib.hid hW6; clear hW6
          have HW7 := Lib.hid hW7; clear hW7
          have hgg := HER.out
          subst hgg
          go_wp2_with (first | ((with_reducible show wpList _ _ _ (⟨none, .store _ (.tmp 7) (.tmp 27), _, _, _, _⟩ :: _) _ _); change wpList _ _ _ _ _ (w5.alloc (.cells zeroField.cells.toArray 75)); rw [← HW6.out]; refine wpList_store_fx rfl _ _ rfl w5.heap.size F HFO.out rfl rfl zeroField.cells.toArray Z6.out HZS.out ?_; rw [← HW7.out]) | ((with_reducible show wpList _ _ _ (⟨some 32, _, _, _, _, _⟩ :: _) _ _); refine wpList_build0 rfl _ rfl _ vertex_built0 ?_) | ((with_reducible show wpList _ _ _ (⟨none, .store _ (.tmp 2) (.tmp 32), _, _, _, _⟩ :: _) _ _); refine wpList_store_vx rfl _ _ rfl w.heap.size St.none rfl rfl zeroVx Z7.out rfl ?_))
          refine bodyPost_ret (results_vx rfl _ _ w.heap.size St.none rfl (vset_heap St.none Z7.out)) rfl ⟨rfl, below_setRow' (b0.trans (B7.mono b0.size)) (Nat.le_refl _)⟩
      · have tj1 : ((j : Int) == 1) = false := by rw [beq_eq_false_iff_ne]; omega
        have tj1' : (j == 1) = false := by rw [beq_eq_false_iff_ne]; exact hj1
        by_cases hj4 : j = 4
        · have tj4 : ((j : Int) == 4) = true := by rw [beq_iff_eq]; omega
          have tj4' : (j == 4) = true := by rw [beq_iff_eq]; exact hj4
          have HJ := Lib.hid hj4; clear hj4
          have hq := refGet_any (FieldV.mk 1 0 0 0 ⟨#[]⟩ (List.replicate 32 0)) (zeroKind_ok 1 (by decide) (by decide)) (strOf S) (by rw [strOf_size]; exact HSL.out) wr
          rw [strOf_list] at hq
          have hkk : kindAt j = 1 := if_pos (.inr HJ.out)
          obtain ⟨fz, hfz⟩ : ∃ fz : FieldV, fz = FieldV.mk 1 0 0 0 ⟨#[]⟩ (List.replicate 32 0) := ⟨_, rfl⟩
          have hbk : Tryd.prog.built 75 [(0, .int .i64 1)] = some fz.cells.toArray := by rw [hfz]; exact FieldV.builtK _
          have HBK := Lib.hid hbk; clear hbk
          by_cases he : (Wire.rdNum S 0).2.2 = 0
          · obtain ⟨hg1, hg2⟩ := refV_good (K := 1) (by decide) he
            rw [hg1, ← hfz] at hq
            clear hg1 hfz
            have hlk := Wire.dec_len S
            obtain ⟨k, hk⟩ : ∃ k, k = (Wire.dec 0 0 S).2.1 := ⟨_, rfl⟩
            rw [← hk] at hq hg2 hlk
            clear hk
            obtain ⟨F, hF⟩ : ∃ F, F = fldOf 1 (Wire.rdNum S 0).1 := ⟨_, rfl⟩
            have hfo : F.ok := by rw [hF]; exact fldOf_ok (by decide) (Wire.rdNum_lt _ _)
            have hgs := gotF_succ l j
            rw [HCS.out, hkk, ← hF] at hgs
            rw [← hF] at hq
            obtain ⟨Dl, hDl⟩ : ∃ Dl, Dl = gotF l j := ⟨_, rfl⟩
            have hdl : Dl.length = j := by rw [hDl]; exact gotF_len l j
            rw [← hDl] at hgs HOW
            have HGS := Lib.hid hgs; clear hgs
            have HDL := Lib.hid hdl; clear hdl hDl hF
            have HRS : Hid (S.drop k = (chain l (j + 1)).2.1) := Lib.hid (by rw [HCS.out, hg2])
            have HE1 : Hid ((chain l (j + 1)).2.2 = 0) := Lib.hid (by rw [HCS.out]; exact he)
            have HFO := Lib.hid hfo; clear hfo hg2 he
            have HQ := Lib.hid hq; clear hq
            go_wp2_with (first | ((with_reducible show wpList _ _ _ (⟨some 25, _, _, _, _, _⟩ :: _) _ _); refine wpList_build1' (o := ⟨some 25, _, _, _, _, _⟩) rfl _ _ _ rfl (.int .i64 1) rfl fz.cells.toArray HBK.out ?_))
            refine HQ.out.mono ?_
            rintro e w5 ⟨rfl, b5⟩
            clear HQ HBK
            obtain ⟨W6, hW6⟩ : ∃ W6, W6 = w5.alloc (.cells zeroField.cells.toArray 75) := ⟨_, rfl⟩
            have z6 : W6.heap[w5.heap.size]? = some (.cells zeroField.cells.toArray 75 (0, 0)) := by rw [hW6]; exact heap_alloc_new w5 _
            have b6 : Below w5.heap.size w5 W6 := by rw [hW6]; exact (Below.refl _ _).alloc (Nat.le_refl _) _
            obtain ⟨W7, hW7⟩ : ∃ W7, W7 = W6.setRow w5.heap.size F.cells.toArray := ⟨_, rfl⟩
            have x7 : W7.heap[w5.heap.size]? = some (.cells F.cells.toArray 75 (0, 0)) := by rw [hW7]; exact setRow_heap _ _ _ _ _ _ z6
            have b7 : Below w5.heap.size w5 W7 := by rw [hW7]; exact below_setRow' b6 (Nat.le_refl _)
            have b57 := b5.trans (b7.mono b5.size)
            have B7 := Bw.trans (b57.mono Bw.size)
            have ho7 := ownsRow_below HOW.out fun i hi => b57.block i (HOW.out.lt i hi).2
            have hq1 := HOW.out.lt gq rfl
            have HQ5 : Hid (gq < w5.heap.size) := Lib.hid (Nat.lt_of_lt_of_le hq1.2 b5.size)
            have HGQ : Hid (gq < W7.heap.size) := Lib.hid (Nat.lt_of_lt_of_le hq1.2 b57.size)
            have HBQ : Hid (W0.heap.size ≤ gq) := Lib.hid hq1.1
            clear hq1
            have HO7 := Lib.hid ho7; clear ho7
            have Z6 := Lib.hid z6; clear z6
            have X7 := Lib.hid x7; clear x7
            have HW6 := Lib.hid hW6; clear hW6
            have HW7 := Lib.hid hW7; clear hW7
            have HZS := Lib.hid (field_size (f := zeroField) rfl)
            clear b6 b7 b5
            go_wp2_with (first | ((with_reducible show wpList _ _ _ (⟨none, .store _ (.tmp 7) (.tmp 27), _, _, _, _⟩ :: _) _ _); change wpList _ _ _ _ _ (w5.alloc (.cells zeroField.cells.toArray 75)); rw [← HW6.out]; refine wpList_store_fx rfl _ _ rfl w5.heap.size F HFO.out rfl rfl zeroField.cells.toArray Z6.out HZS.out ?_; rw [← HW7.out]))
            by_cases hrm : j + 1 ≤ c
            · refine wp_region_relW [[], [], [1], [0, 2], [], [], [4, 5], [3], [6]] (gfV gq c j k w5.heap.size F S) (gfR W0.heap.size gq c j F Dl) 93 (by kernel_rfl) (by kernel_rfl) (by kernel_rfl) 3 (by decide) (gfI W0 gq c j w5.heap.size F Dl) ?_ ?_ ?_ ?_ ?_
              · exact ⟨fun _ => ownsRow_below HO7.out fun i _ => rfl, (fun h => by cases h), B7.drew, X7.out, HGQ.out⟩
              · intro i b wa wb hI hb hr
                by_cases e1 : i = 3
                · subst e1
                  obtain rfl := hb rfl
                  obtain ⟨hgr, hon⟩ : wa.grownBy wb (some gq) ∧ wb.ownsRow W0.heap.size 75 37 (.slice (some ⟨gq, 0, none⟩) (j + 1) c) (j + 1) (fCells (Dl ++ [F])) := hr
                  obtain ⟨i1, i2, i3, i4, i5⟩ := hI
                  exact ⟨(fun h => by cases h), fun _ => hon, i3.trans (grown_below hgr (fun k hk => by cases hk; exact HBQ.out) i3.size), (hgr.block _ (lt_of_block i4) (fun e => by have := Option.some.inj e; have := HQ5.out; omega)).trans i4, Nat.lt_of_lt_of_le i5 hgr.size⟩
                · have hbl : Below wa.heap.size wa wb := by
                    have : gfR W0.heap.size gq c j F Dl i wa wb = Below wa.heap.size wa wb := by
                      unfold gfR
                      split
                      · exact absurd rfl e1
                      · rfl
                    rw [this] at hr; exact hr
                  rw [decide_eq_false (fun e => e1 e.symm), Bool.false_or]
                  obtain ⟨i1, i2, i3, i4, i5⟩ := hI
                  exact ⟨fun h => ownsRow_below (i1 h) fun k hk => hbl.block k ((i1 h).lt k hk).2, fun h => ownsRow_below (i2 h) fun k hk => hbl.block k ((i2 h).lt k hk).2, i3.trans (hbl.mono i3.size), (hbl.block _ (lt_of_block i4)).trans i4, Nat.lt_of_lt_of_le i5 hbl.size⟩
              · intro i jx hij b wa wb v hI hb hr h
                by_cases e1 : i = 3
                · subst e1
                  obtain rfl := hb rfl
                  obtain ⟨hgr, hon⟩ : wa.grownBy wb (some gq) ∧ wb.ownsRow W0.heap.size 75 37 (.slice (some ⟨gq, 0, none⟩) (j + 1) c) (j + 1) (fCells (Dl ++ [F])) := hr
                  match jx, h with
                  | 0, h => exact h
                  | 1, h => exact h
                  | 2, h => exact (let ⟨g, h1, h2, h3⟩ := h; ⟨g, h1, h2, (hgr.block g (lt_of_block h3) (fun e => by have := Option.some.inj e; omega)).trans h3⟩)
                  | 3, h => exact absurd rfl hij
                  | 4, h => exact h
                  | 5, h => exact h
                  | 6, h => exact h
                  | 7, h => exact h
                  | 8, h => exact h
                  | _ + 9, h => exact trivial
                · have hbl : Below wa.heap.size wa wb := by
                    have : gfR W0.heap.size gq c j F Dl i wa wb = Below wa.heap.size wa wb := by
                      unfold gfR
                      split
                      · exact absurd rfl e1
                      · rfl
                    rw [this] at hr; exact hr
                  exact gfV_mono gq c j k w5.heap.size F S jx wa wb v hbl h
              · intro ix op hi b w2 hI hs hd vs hv
                have him : ix < 9 := (List.getElem?_eq_some_iff.1 hi).1
                have hgq := hI.2.2.2.2
                have hBw := hI.2.2.1.size
                match ix, him, hi with
                | 0, _, hi =>
                  obtain rfl := Option.some.inj hi
                  simp only [relF, List.getD_cons_zero, List.getD_cons_succ, List.foldl_cons, List.foldl_nil, dstAt, List.getElem?_cons_zero, List.getElem?_cons_succ, Option.bind_some]
                  go_wp2_with fail
                  exact ⟨rfl, Below.refl _ _, rfl, rfl⟩
                | 1, _, hi =>
                  obtain rfl := Option.some.inj hi
                  simp only [relF, List.getD_cons_zero, List.getD_cons_succ, List.foldl_cons, List.foldl_nil, dstAt, List.getElem?_cons_zero, List.getElem?_cons_succ, Option.bind_some]
                  go_wp2_with ((with_reducible show wpList _ _ _ (⟨some 35, _, _, _, _, _⟩ :: _) _ _); refine wpList_load_fx (op := ⟨some 35, _, _, _, _, _⟩) rfl _ rfl w5.heap.size rfl F HFO.out hI.2.2.2.1 ?_)
                  exact ⟨rfl, Below.refl _ _, rfl, rfl⟩
                | 2, _, hi =>
                  obtain rfl := Option.some.inj hi
                  have h1 : vs 1 = _ := hv 1 (by decide)
                  have hvl := FieldV.len HFO.out
                  simp only [relF, List.getD_cons_zero, List.getD_cons_succ, List.foldl_cons, List.foldl_nil, dstAt, List.getElem?_cons_zero, List.getElem?_cons_succ, Option.bind_some]
                  go_frame
                  rw [h1]
                  go_wp2_with fail
                  exact ⟨rfl, (Below.refl _ _).alloc (Nat.le_refl _) _, rfl, w2.heap.size, rfl, hgq, alloc_builtF w2 (by rw [FieldV.len HFO.out]; rfl)⟩
                | 3, _, hi =>
                  obtain ⟨g2, e2, l2, x2⟩ := hv 2 (by decide)
                  obtain rfl := Option.some.inj hi
                  have h0 : vs 0 = _ := hv 0 (by decide)
                  obtain rfl := hs rfl
                  obtain ⟨wn, hrun, hon, hgr⟩ := fld_room' HDL.out (hI.1 rfl) (by omega) HFO.out hrm x2 hBw
                  simp only [relF, List.getD_cons_zero, List.getD_cons_succ, List.foldl_cons, List.foldl_nil, dstAt, List.getElem?_cons_zero, List.getElem?_cons_succ, Option.bind_some]
                  go_frame
                  rw [h0, e2]
                  go_wp2_with ((with_reducible show wpList _ _ _ (⟨some 37, _, _, _, _, _⟩ :: _) _ _); refine wpList_append_ran (by kernel_rfl) _ _ _ rfl _ _ rfl rfl hrun ?_)
                  exact ⟨rfl, ⟨hgr, hon⟩, rfl, rfl⟩
                | 4, _, hi =>
                  obtain rfl := Option.some.inj hi
                  simp only [relF, List.getD_cons_zero, List.getD_cons_succ, List.foldl_cons, List.foldl_nil, dstAt, List.getElem?_cons_zero, List.getElem?_cons_succ, Option.bind_some]
                  go_wp2_with fail
                  exact ⟨rfl, Below.refl _ _, rfl, rfl⟩
                | 5, _, hi =>
                  obtain rfl := Option.some.inj hi
                  simp only [relF, List.getD_cons_zero, List.getD_cons_succ, List.foldl_cons, List.foldl_nil, dstAt, List.getElem?_cons_zero, List.getElem?_cons_succ, Option.bind_some]
                  go_wp2_with fail
                  exact ⟨rfl, Below.refl _ _, rfl, rfl⟩
                | 6, _, hi =>
                  obtain rfl := Option.some.inj hi
                  have h4 : vs 4 = _ := hv 4 (by decide)
                  have h5 : vs 5 = _ := hv 5 (by decide)
                  have hx := strOf_from S k
                  have hsz := strOf_size S
                  simp only [relF, List.getD_cons_zero, List.getD_cons_succ, List.foldl_cons, List.foldl_nil, dstAt, List.getElem?_cons_zero, List.getElem?_cons_succ, Option.bind_some]
                  go_frame
                  rw [h4, h5]
                  go_wp2_with fail
                  exact ⟨rfl, Below.refl _ _, rfl, by first | rfl | (show slotOf _ _ = _; simp [slotOf, hx])⟩
                | 7, _, hi =>
                  obtain rfl := Option.some.inj hi
                  have h3 : vs 3 = _ := hv 3 (by decide)
                  simp only [relF, List.getD_cons_zero, List.getD_cons_succ, List.foldl_cons, List.foldl_nil, dstAt, List.getElem?_cons_zero, List.getElem?_cons_succ, Option.bind_some]
                  go_frame
                  rw [h3]
                  go_wp2_with fail
                  exact ⟨rfl, Below.refl _ _, rfl, rfl⟩
                | 8, _, hi =>
                  obtain rfl := Option.some.inj hi
                  have h6 : vs 6 = _ := hv 6 (by decide)
                  simp only [relF, List.getD_cons_zero, List.getD_cons_succ, List.foldl_cons, List.foldl_nil, dstAt, List.getElem?_cons_zero, List.getElem?_cons_succ, Option.bind_some]
                  go_frame
                  rw [h6]
                  go_wp2_with fail
                  exact ⟨rfl, Below.refl _ _, rfl, rfl⟩
                | nx + 9, him, _ => exact absurd him (by omega)
              · intro w2 hI vs hv
                have hgq := hI.2.2.2.2
                have hBw := hI.2.2.1.size
                have h7 : vs 7 = _ := hv 7 (by decide)
                have h8 : vs 8 = _ := hv 8 (by decide)
                simp only [relF, List.drop_succ_cons, List.drop_zero, List.length_cons, List.length_nil, Nat.zero_add, Nat.reduceAdd, List.range, List.range.loop, List.foldl_cons, List.foldl_nil, dstAt, List.getElem?_cons_zero, List.getElem?_cons_succ, Option.bind_some]
                go_frame
                rw [h7, h8]
                go_wp2_with fail
                go_roundw
                case rel => exact ⟨j + 1, gq, c, by omega, by rw [← HRS.out], rfl, by go_num, Lib.hid (by rw [HGS.out]; exact hI.2.1 rfl), hI.2.2.1, HE1⟩
                case measure => simp [intOf]; omega
            · refine wp_region_relW [[], [], [1], [0, 2], [], [], [4, 5], [3], [6]] (gfG W0.heap.size gq c j k w5.heap.size F Dl S) (fun _ w w' => Below w.heap.size w w') 93 (by kernel_rfl) (by kernel_rfl) (by kernel_rfl) 3 (by decide) (fun _ w => Below W7.heap.size W7 w) ?_ ?_ ?_ ?_ ?_
              · exact (Below.refl _ _).drew
              · intro i b wa wb hI hb hr
                exact Below.trans hI (Below.mono hr (Below.size hI))
              · intro i jx hij b wa wb v hI hb hr h
                exact gfG_mono W0.heap.size gq c j k w5.heap.size F Dl S jx wa wb v hr h
              · intro ix op hi b w2 hI hs hd vs hv
                have him : ix < 9 := (List.getElem?_eq_some_iff.1 hi).1
                have b2 : Below W7.heap.size W7 w2 := hI
                have hgq := Nat.lt_of_lt_of_le HGQ.out b2.size
                have hBw := Nat.le_trans B7.size b2.size
                match ix, him, hi with
                | 0, _, hi =>
                  obtain rfl := Option.some.inj hi
                  simp only [relF, List.getD_cons_zero, List.getD_cons_succ, List.foldl_cons, List.foldl_nil, dstAt, List.getElem?_cons_zero, List.getElem?_cons_succ, Option.bind_some]
                  go_wp2_with fail
                  exact ⟨rfl, Below.refl _ _, rfl, rfl⟩
                | 1, _, hi =>
                  obtain rfl := Option.some.inj hi
                  simp only [relF, List.getD_cons_zero, List.getD_cons_succ, List.foldl_cons, List.foldl_nil, dstAt, List.getElem?_cons_zero, List.getElem?_cons_succ, Option.bind_some]
                  go_wp2_with ((with_reducible show wpList _ _ _ (⟨some 35, _, _, _, _, _⟩ :: _) _ _); refine wpList_load_fx (op := ⟨some 35, _, _, _, _, _⟩) rfl _ rfl w5.heap.size rfl F HFO.out ((b2.block _ (lt_of_block X7.out)).trans X7.out) ?_)
                  exact ⟨rfl, Below.refl _ _, rfl, rfl⟩
                | 2, _, hi =>
                  obtain rfl := Option.some.inj hi
                  have h1 : vs 1 = _ := hv 1 (by decide)
                  have hvl := FieldV.len HFO.out
                  simp only [relF, List.getD_cons_zero, List.getD_cons_succ, List.foldl_cons, List.foldl_nil, dstAt, List.getElem?_cons_zero, List.getElem?_cons_succ, Option.bind_some]
                  go_frame
                  rw [h1]
                  go_wp2_with fail
                  exact ⟨rfl, (Below.refl _ _).alloc (Nat.le_refl _) _, rfl, w2.heap.size, rfl, hgq, alloc_builtF w2 (by rw [FieldV.len HFO.out]; rfl)⟩
                | 3, _, hi =>
                  obtain ⟨g2, e2, l2, x2⟩ := hv 2 (by decide)
                  obtain rfl := Option.some.inj hi
                  have h0 : vs 0 = _ := hv 0 (by decide)
                  obtain ⟨g', c', wn, hrun, hon, hbn⟩ := fld_grow' HDL.out (ownsRow_below HO7.out fun i hi => b2.block i (HO7.out.lt i hi).2) (by omega) HFO.out hrm x2 hBw
                  simp only [relF, List.getD_cons_zero, List.getD_cons_succ, List.foldl_cons, List.foldl_nil, dstAt, List.getElem?_cons_zero, List.getElem?_cons_succ, Option.bind_some]
                  go_frame
                  rw [h0, e2]
                  go_wp2_with ((with_reducible show wpList _ _ _ (⟨some 37, _, _, _, _, _⟩ :: _) _ _); refine wpList_append_ran (by kernel_rfl) _ _ _ rfl _ _ rfl rfl hrun ?_)
                  exact ⟨rfl, hbn, rfl, g', c', rfl, hon⟩
                | 4, _, hi =>
                  obtain rfl := Option.some.inj hi
                  simp only [relF, List.getD_cons_zero, List.getD_cons_succ, List.foldl_cons, List.foldl_nil, dstAt, List.getElem?_cons_zero, List.getElem?_cons_succ, Option.bind_some]
                  go_wp2_with fail
                  exact ⟨rfl, Below.refl _ _, rfl, rfl⟩
                | 5, _, hi =>
                  obtain rfl := Option.some.inj hi
                  simp only [relF, List.getD_cons_zero, List.getD_cons_succ, List.foldl_cons, List.foldl_nil, dstAt, List.getElem?_cons_zero, List.getElem?_cons_succ, Option.bind_some]
                  go_wp2_with fail
                  exact ⟨rfl, Below.refl _ _, rfl, rfl⟩
                | 6, _, hi =>
                  obtain rfl := Option.some.inj hi
                  have h4 : vs 4 = _ := hv 4 (by decide)
                  have h5 : vs 5 = _ := hv 5 (by decide)
                  have hx := strOf_from S k
                  have hsz := strOf_size S
                  simp only [relF, List.getD_cons_zero, List.getD_cons_succ, List.foldl_cons, List.foldl_nil, dstAt, List.getElem?_cons_zero, List.getElem?_cons_succ, Option.bind_some]
                  go_frame
                  rw [h4, h5]
                  go_wp2_with fail
                  exact ⟨rfl, Below.refl _ _, rfl, by first | rfl | (show slotOf _ _ = _; simp [slotOf, hx])⟩
                | 7, _, hi =>
                  obtain ⟨g3, c3, e3, s3⟩ := hv 3 (by decide)
                  obtain rfl := Option.some.inj hi
                  simp only [relF, List.getD_cons_zero, List.getD_cons_succ, List.foldl_cons, List.foldl_nil, dstAt, List.getElem?_cons_zero, List.getElem?_cons_succ, Option.bind_some]
                  go_frame
                  rw [e3]
                  go_wp2_with fail
                  exact ⟨rfl, Below.refl _ _, rfl, g3, c3, rfl, s3⟩
                | 8, _, hi =>
                  obtain rfl := Option.some.inj hi
                  have h6 : vs 6 = _ := hv 6 (by decide)
                  simp only [relF, List.getD_cons_zero, List.getD_cons_succ, List.foldl_cons, List.foldl_nil, dstAt, List.getElem?_cons_zero, List.getElem?_cons_succ, Option.bind_some]
                  go_frame
                  rw [h6]
                  go_wp2_with fail
                  exact ⟨rfl, Below.refl _ _, rfl, rfl⟩
                | nx + 9, him, _ => exact absurd him (by omega)
              · intro w2 hI vs hv
                have b2 : Below W7.heap.size W7 w2 := hI
                have hgq := Nat.lt_of_lt_of_le HGQ.out b2.size
                have hBw := Nat.le_trans B7.size b2.size
                obtain ⟨g7, c7, e7, s7⟩ := hv 7 (by decide)
                have h8 : vs 8 = _ := hv 8 (by decide)
                simp only [relF, List.drop_succ_cons, List.drop_zero, List.length_cons, List.length_nil, Nat.zero_add, Nat.reduceAdd, List.range, List.range.loop, List.foldl_cons, List.foldl_nil, dstAt, List.getElem?_cons_zero, List.getElem?_cons_succ, Option.bind_some]
                go_frame
                rw [e7, h8]
                go_wp2_with fail
                go_roundw
                case rel => exact ⟨j + 1, g7, c7, by omega, by rw [← HRS.out], rfl, by go_num, Lib.hid (by rw [HGS.out]; exact s7), B7.trans (b2.mono B7.size), HE1⟩
                case measure => simp [intOf]; omega
          · have hbad := refV_bad (K := 1) (by decide) he
            rw [hbad, ← hfz] at hq
            clear hbad hfz
            have her : r0 = (St.none, (Wire.rdNum S 0).2.2) := by
              have := get_err (er := 100) (l := l) (j := j + 1) (by omega) (by rw [HCS.out]; exact he)
              rw [HR0.out, this, HCS.out]
            obtain ⟨er, her2⟩ : ∃ er, er = (Wire.rdNum S 0).2.2 := ⟨_, rfl⟩
            rw [← her2] at her hq he
            clear her2
            have hne : ((er : Int) != 0) = true := by simp only [bne_iff_ne, ne_eq]; omega
            have HER := Lib.hid her; clear her
            have HQ := Lib.hid hq; clear hq
            obtain ⟨F, hF⟩ : ∃ F, F = zeroField := ⟨_, rfl⟩
            have HFO : Hid F.ok := Lib.hid (by rw [hF]; exact zeroField_ok)
            rw [← hF] at HQ
            have HZS : Hid (zeroField.cells.toArray.size = 37) := Lib.hid (field_size (f := zeroField) rfl)
            clear hF
            go_wp2_with (first | ((with_reducible show wpList _ _ _ (⟨some 25, _, _, _, _, _⟩ :: _) _ _); refine wpList_build1' (o := ⟨some 25, _, _, _, _, _⟩) rfl _ _ _ rfl (.int .i64 1) rfl fz.cells.toArray HBK.out ?_))
            refine HQ.out.mono ?_
            rintro e w5 ⟨rfl, b5⟩
            obtain ⟨W6, hW6⟩ : ∃ W6, W6 = w5.alloc (.cells zeroField.cells.toArray 75) := ⟨_, rfl⟩
            have z6 : W6.heap[w5.heap.size]? = some (.cells zeroField.cells.toArray 75 (0, 0)) := by rw [hW6]; exact heap_alloc_new w5 _
            have b6 : Below w5.heap.size w5 W6 := by rw [hW6]; exact (Below.refl _ _).alloc (Nat.le_refl _) _
            obtain ⟨W7, hW7⟩ : ∃ W7, W7 = W6.setRow w5.heap.size F.cells.toArray := ⟨_, rfl⟩
            have b7 : Below w5.heap.size w5 W7 := by rw [hW7]; exact below_setRow' b6 (Nat.le_refl _)
            have b57 := b5.trans (b7.mono b5.size)
            have B7 := Bw.trans (b57.mono Bw.size)
            have z7 := (B7.block _ hlt0).trans Z0.out
            have Z6 := Lib.hid z6; clear z6
            have Z7 := Lib.hid z7; clear z7
            have HW6 := Lib.hid hW6; clear hW6
            have HW7 := Lib.hid hW7; clear hW7
            have hgg := HER.out
            subst hgg
            go_wp2_with (first | ((with_reducible show wpList _ _ _ (⟨none, .store _ (.tmp 7) (.tmp 27), _, _, _, _⟩ :: _) _ _); change wpList _ _ _ _ _ (w5.alloc (.cells zeroField.cells.toArray 75)); rw [← HW6.out]; refine wpList_store_fx rfl _ _ rfl w5.heap.size F HFO.out rfl rfl zeroField.cells.toArray Z6.out HZS.out ?_; rw [← HW7.out]) | ((with_reducible show wpList _ _ _ (⟨some 32, _, _, _, _, _⟩ :: _) _ _); refine wpList_build0 rfl _ rfl _ vertex_built0 ?_) | ((with_reducible show wpList _ _ _ (⟨none, .store _ (.tmp 2) (.tmp 32), _, _, _, _⟩ :: _) _ _); refine wpList_store_vx rfl _ _ rfl w.heap.size St.none rfl rfl zeroVx Z7.out rfl ?_))
            refine bodyPost_ret (results_vx rfl _ _ w.heap.size St.none rfl (vset_heap St.none Z7.out)) rfl ⟨rfl, below_setRow' (b0.trans (B7.mono b0.size)) (Nat.le_refl _)⟩
        · have tj4 : ((j : Int) == 4) = false := by rw [beq_eq_false_iff_ne]; omega
          have tj4' : (j == 4) = false := by rw [beq_eq_false_iff_ne]; exact hj4
          have hq := refGet_any (FieldV.mk 0 0 0 0 ⟨#[]⟩ (List.replicate 32 0)) (zeroKind_ok 0 (by decide) (by decide)) (strOf S) (by rw [strOf_size]; exact HSL.out) wr
          rw [strOf_list] at hq
          have hkk : kindAt j = 0 := if_neg (fun h => h.elim hj1 hj4)
          obtain ⟨fz, hfz⟩ : ∃ fz : FieldV, fz = FieldV.mk 0 0 0 0 ⟨#[]⟩ (List.replicate 32 0) := ⟨_, rfl⟩
          have hbk : Tryd.prog.built 75 [(0, .int .i64 0)] = some fz.cells.toArray := by rw [hfz]; exact FieldV.builtK _
          have HBK := Lib.hid hbk; clear hbk
          by_cases he : (Wire.rdNum S 0).2.2 = 0
          · obtain ⟨hg1, hg2⟩ := refV_good (K := 0) (by decide) he
            rw [hg1, ← hfz] at hq
            clear hg1 hfz
            have hlk := Wire.dec_len S
            obtain ⟨k, hk⟩ : ∃ k, k = (Wire.dec 0 0 S).2.1 := ⟨_, rfl⟩
            rw [← hk] at hq hg2 hlk
            clear hk
            obtain ⟨F, hF⟩ : ∃ F, F = fldOf 0 (Wire.rdNum S 0).1 := ⟨_, rfl⟩
            have hfo : F.ok := by rw [hF]; exact fldOf_ok (by decide) (Wire.rdNum_lt _ _)
            have hgs := gotF_succ l j
            rw [HCS.out, hkk, ← hF] at hgs
            rw [← hF] at hq
            obtain ⟨Dl, hDl⟩ : ∃ Dl, Dl = gotF l j := ⟨_, rfl⟩
            have hdl : Dl.length = j := by rw [hDl]; exact gotF_len l j
            rw [← hDl] at hgs HOW
            have HGS := Lib.hid hgs; clear hgs
            have HDL := Lib.hid hdl; clear hdl hDl hF
            have HRS : Hid (S.drop k = (chain l (j + 1)).2.1) := Lib.hid (by rw [HCS.out, hg2])
            have HE1 : Hid ((chain l (j + 1)).2.2 = 0) := Lib.hid (by rw [HCS.out]; exact he)
            have HFO := Lib.hid hfo; clear hfo hg2 he
            have HQ := Lib.hid hq; clear hq
            go_wp2_with (first | ((with_reducible show wpList _ _ _ (⟨some 25, _, _, _, _, _⟩ :: _) _ _); refine wpList_build1' (o := ⟨some 25, _, _, _, _, _⟩) rfl _ _ _ rfl (.int .i64 0) rfl fz.cells.toArray HBK.out ?_))
            refine HQ.out.mono ?_
            rintro e w5 ⟨rfl, b5⟩
            clear HQ HBK
            obtain ⟨W6, hW6⟩ : ∃ W6, W6 = w5.alloc (.cells zeroField.cells.toArray 75) := ⟨_, rfl⟩
            have z6 : W6.heap[w5.heap.size]? = some (.cells zeroField.cells.toArray 75 (0, 0)) := by rw [hW6]; exact heap_alloc_new w5 _
            have b6 : Below w5.heap.size w5 W6 := by rw [hW6]; exact (Below.refl _ _).alloc (Nat.le_refl _) _
            obtain ⟨W7, hW7⟩ : ∃ W7, W7 = W6.setRow w5.heap.size F.cells.toArray := ⟨_, rfl⟩
            have x7 : W7.heap[w5.heap.size]? = some (.cells F.cells.toArray 75 (0, 0)) := by rw [hW7]; exact setRow_heap _ _ _ _ _ _ z6
            have b7 : Below w5.heap.size w5 W7 := by rw [hW7]; exact below_setRow' b6 (Nat.le_refl _)
            have b57 := b5.trans (b7.mono b5.size)
            have B7 := Bw.trans (b57.mono Bw.size)
            have ho7 := ownsRow_below HOW.out fun i hi => b57.block i (HOW.out.lt i hi).2
            have hq1 := HOW.out.lt gq rfl
            have HQ5 : Hid (gq < w5.heap.size) := Lib.hid (Nat.lt_of_lt_of_le hq1.2 b5.size)
            have HGQ : Hid (gq < W7.heap.size) := Lib.hid (Nat.lt_of_lt_of_le hq1.2 b57.size)
            have HBQ : Hid (W0.heap.size ≤ gq) := Lib.hid hq1.1
            clear hq1
            have HO7 := Lib.hid ho7; clear ho7
            have Z6 := Lib.hid z6; clear z6
            have X7 := Lib.hid x7; clear x7
            have HW6 := Lib.hid hW6; clear hW6
            have HW7 := Lib.hid hW7; clear hW7
            have HZS := Lib.hid (field_size (f := zeroField) rfl)
            clear b6 b7 b5
            go_wp2_with (first | ((with_reducible show wpList _ _ _ (⟨none, .store _ (.tmp 7) (.tmp 27), _, _, _, _⟩ :: _) _ _); change wpList _ _ _ _ _ (w5.alloc (.cells zeroField.cells.toArray 75)); rw [← HW6.out]; refine wpList_store_fx rfl _ _ rfl w5.heap.size F HFO.out rfl rfl zeroField.cells.toArray Z6.out HZS.out ?_; rw [← HW7.out]))
            by_cases hrm : j + 1 ≤ c
            · refine wp_region_relW [[], [], [1], [0, 2], [], [], [4, 5], [3], [6]] (gfV gq c j k w5.heap.size F S) (gfR W0.heap.size gq c j F Dl) 93 (by kernel_rfl) (by kernel_rfl) (by kernel_rfl) 3 (by decide) (gfI W0 gq c j w5.heap.size F Dl) ?_ ?_ ?_ ?_ ?_
              · exact ⟨fun _ => ownsRow_below HO7.out fun i _ => rfl, (fun h => by cases h), B7.drew, X7.out, HGQ.out⟩
              · intro i b wa wb hI hb hr
                by_cases e1 : i = 3
                · subst e1
                  obtain rfl := hb rfl
                  obtain ⟨hgr, hon⟩ : wa.grownBy wb (some gq) ∧ wb.ownsRow W0.heap.size 75 37 (.slice (some ⟨gq, 0, none⟩) (j + 1) c) (j + 1) (fCells (Dl ++ [F])) := hr
                  obtain ⟨i1, i2, i3, i4, i5⟩ := hI
                  exact ⟨(fun h => by cases h), fun _ => hon, i3.trans (grown_below hgr (fun k hk => by cases hk; exact HBQ.out) i3.size), (hgr.block _ (lt_of_block i4) (fun e => by have := Option.some.inj e; have := HQ5.out; omega)).trans i4, Nat.lt_of_lt_of_le i5 hgr.size⟩
                · have hbl : Below wa.heap.size wa wb := by
                    have : gfR W0.heap.size gq c j F Dl i wa wb = Below wa.heap.size wa wb := by
                      unfold gfR
                      split
                      · exact absurd rfl e1
                      · rfl
                    rw [this] at hr; exact hr
                  rw [decide_eq_false (fun e => e1 e.symm), Bool.false_or]
                  obtain ⟨i1, i2, i3, i4, i5⟩ := hI
                  exact ⟨fun h => ownsRow_below (i1 h) fun k hk => hbl.block k ((i1 h).lt k hk).2, fun h => ownsRow_below (i2 h) fun k hk => hbl.block k ((i2 h).lt k hk).2, i3.trans (hbl.mono i3.size), (hbl.block _ (lt_of_block i4)).trans i4, Nat.lt_of_lt_of_le i5 hbl.size⟩
              · intro i jx hij b wa wb v hI hb hr h
                by_cases e1 : i = 3
                · subst e1
                  obtain rfl := hb rfl
                  obtain ⟨hgr, hon⟩ : wa.grownBy wb (some gq) ∧ wb.ownsRow W0.heap.size 75 37 (.slice (some ⟨gq, 0, none⟩) (j + 1) c) (j + 1) (fCells (Dl ++ [F])) := hr
                  match jx, h with
                  | 0, h => exact h
                  | 1, h => exact h
                  | 2, h => exact (let ⟨g, h1, h2, h3⟩ := h; ⟨g, h1, h2, (hgr.block g (lt_of_block h3) (fun e => by have := Option.some.inj e; omega)).trans h3⟩)
                  | 3, h => exact absurd rfl hij
                  | 4, h => exact h
                  | 5, h => exact h
                  | 6, h => exact h
                  | 7, h => exact h
                  | 8, h => exact h
                  | _ + 9, h => exact trivial
                · have hbl : Below wa.heap.size wa wb := by
                    have : gfR W0.heap.size gq c j F Dl i wa wb = Below wa.heap.size wa wb := by
                      unfold gfR
                      split
                      · exact absurd rfl e1
                      · rfl
                    rw [this] at hr; exact hr
                  exact gfV_mono gq c j k w5.heap.size F S jx wa wb v hbl h
              · intro ix op hi b w2 hI hs hd vs hv
                have him : ix < 9 := (List.getElem?_eq_some_iff.1 hi).1
                have hgq := hI.2.2.2.2
                have hBw := hI.2.2.1.size
                match ix, him, hi with
                | 0, _, hi =>
                  obtain rfl := Option.some.inj hi
                  simp only [relF, List.getD_cons_zero, List.getD_cons_succ, List.foldl_cons, List.foldl_nil, dstAt, List.getElem?_cons_zero, List.getElem?_cons_succ, Option.bind_some]
                  go_wp2_with fail
                  exact ⟨rfl, Below.refl _ _, rfl, rfl⟩
                | 1, _, hi =>
                  obtain rfl := Option.some.inj hi
                  simp only [relF, List.getD_cons_zero, List.getD_cons_succ, List.foldl_cons, List.foldl_nil, dstAt, List.getElem?_cons_zero, List.getElem?_cons_succ, Option.bind_some]
                  go_wp2_with ((with_reducible show wpList _ _ _ (⟨some 35, _, _, _, _, _⟩ :: _) _ _); refine wpList_load_fx (op := ⟨some 35, _, _, _, _, _⟩) rfl _ rfl w5.heap.size rfl F HFO.out hI.2.2.2.1 ?_)
                  exact ⟨rfl, Below.refl _ _, rfl, rfl⟩
                | 2, _, hi =>
                  obtain rfl := Option.some.inj hi
                  have h1 : vs 1 = _ := hv 1 (by decide)
                  have hvl := FieldV.len HFO.out
                  simp only [relF, List.getD_cons_zero, List.getD_cons_succ, List.foldl_cons, List.foldl_nil, dstAt, List.getElem?_cons_zero, List.getElem?_cons_succ, Option.bind_some]
                  go_frame
                  rw [h1]
                  go_wp2_with fail
                  exact ⟨rfl, (Below.refl _ _).alloc (Nat.le_refl _) _, rfl, w2.heap.size, rfl, hgq, alloc_builtF w2 (by rw [FieldV.len HFO.out]; rfl)⟩
                | 3, _, hi =>
                  obtain ⟨g2, e2, l2, x2⟩ := hv 2 (by decide)
                  obtain rfl := Option.some.inj hi
                  have h0 : vs 0 = _ := hv 0 (by decide)
                  obtain rfl := hs rfl
                  obtain ⟨wn, hrun, hon, hgr⟩ := fld_room' HDL.out (hI.1 rfl) (by omega) HFO.out hrm x2 hBw
                  simp only [relF, List.getD_cons_zero, List.getD_cons_succ, List.foldl_cons, List.foldl_nil, dstAt, List.getElem?_cons_zero, List.getElem?_cons_succ, Option.bind_some]
                  go_frame
                  rw [h0, e2]
                  go_wp2_with ((with_reducible show wpList _ _ _ (⟨some 37, _, _, _, _, _⟩ :: _) _ _); refine wpList_append_ran (by kernel_rfl) _ _ _ rfl _ _ rfl rfl hrun ?_)
                  exact ⟨rfl, ⟨hgr, hon⟩, rfl, rfl⟩
                | 4, _, hi =>
                  obtain rfl := Option.some.inj hi
                  simp only [relF, List.getD_cons_zero, List.getD_cons_succ, List.foldl_cons, List.foldl_nil, dstAt, List.getElem?_cons_zero, List.getElem?_cons_succ, Option.bind_some]
                  go_wp2_with fail
                  exact ⟨rfl, Below.refl _ _, rfl, rfl⟩
                | 5, _, hi =>
                  obtain rfl := Option.some.inj hi
                  simp only [relF, List.getD_cons_zero, List.getD_cons_succ, List.foldl_cons, List.foldl_nil, dstAt, List.getElem?_cons_zero, List.getElem?_cons_succ, Option.bind_some]
                  go_wp2_with fail
                  exact ⟨rfl, Below.refl _ _, rfl, rfl⟩
                | 6, _, hi =>
                  obtain rfl := Option.some.inj hi
                  have h4 : vs 4 = _ := hv 4 (by decide)
                  have h5 : vs 5 = _ := hv 5 (by decide)
                  have hx := strOf_from S k
                  have hsz := strOf_size S
                  simp only [relF, List.getD_cons_zero, List.getD_cons_succ, List.foldl_cons, List.foldl_nil, dstAt, List.getElem?_cons_zero, List.getElem?_cons_succ, Option.bind_some]
                  go_frame
                  rw [h4, h5]
                  go_wp2_with fail
                  exact ⟨rfl, Below.refl _ _, rfl, by first | rfl | (show slotOf _ _ = _; simp [slotOf, hx])⟩
                | 7, _, hi =>
                  obtain rfl := Option.some.inj hi
                  have h3 : vs 3 = _ := hv 3 (by decide)
                  simp only [relF, List.getD_cons_zero, List.getD_cons_succ, List.foldl_cons, List.foldl_nil, dstAt, List.getElem?_cons_zero, List.getElem?_cons_succ, Option.bind_some]
                  go_frame
                  rw [h3]
                  go_wp2_with fail
                  exact ⟨rfl, Below.refl _ _, rfl, rfl⟩
                | 8, _, hi =>
                  obtain rfl := Option.some.inj hi
                  have h6 : vs 6 = _ := hv 6 (by decide)
                  simp only [relF, List.getD_cons_zero, List.getD_cons_succ, List.foldl_cons, List.foldl_nil, dstAt, List.getElem?_cons_zero, List.getElem?_cons_succ, Option.bind_some]
                  go_frame
                  rw [h6]
                  go_wp2_with fail
                  exact ⟨rfl, Below.refl _ _, rfl, rfl⟩
                | nx + 9, him, _ => exact absurd him (by omega)
              · intro w2 hI vs hv
                have hgq := hI.2.2.2.2
                have hBw := hI.2.2.1.size
                have h7 : vs 7 = _ := hv 7 (by decide)
                have h8 : vs 8 = _ := hv 8 (by decide)
                simp only [relF, List.drop_succ_cons, List.drop_zero, List.length_cons, List.length_nil, Nat.zero_add, Nat.reduceAdd, List.range, List.range.loop, List.foldl_cons, List.foldl_nil, dstAt, List.getElem?_cons_zero, List.getElem?_cons_succ, Option.bind_some]
                go_frame
                rw [h7, h8]
                go_wp2_with fail
                go_roundw
                case rel => exact ⟨j + 1, gq, c, by omega, by rw [← HRS.out], rfl, by go_num, Lib.hid (by rw [HGS.out]; exact hI.2.1 rfl), hI.2.2.1, HE1⟩
                case measure => simp [intOf]; omega
            · refine wp_region_relW [[], [], [1], [0, 2], [], [], [4, 5], [3], [6]] (gfG W0.heap.size gq c j k w5.heap.size F Dl S) (fun _ w w' => Below w.heap.size w w') 93 (by kernel_rfl) (by kernel_rfl) (by kernel_rfl) 3 (by decide) (fun _ w => Below W7.heap.size W7 w) ?_ ?_ ?_ ?_ ?_
              · exact (Below.refl _ _).drew
              · intro i b wa wb hI hb hr
                exact Below.trans hI (Below.mono hr (Below.size hI))
              · intro i jx hij b wa wb v hI hb hr h
                exact gfG_mono W0.heap.size gq c j k w5.heap.size F Dl S jx wa wb v hr h
              · intro ix op hi b w2 hI hs hd vs hv
                have him : ix < 9 := (List.getElem?_eq_some_iff.1 hi).1
                have b2 : Below W7.heap.size W7 w2 := hI
                have hgq := Nat.lt_of_lt_of_le HGQ.out b2.size
                have hBw := Nat.le_trans B7.size b2.size
                match ix, him, hi with
                | 0, _, hi =>
                  obtain rfl := Option.some.inj hi
                  simp only [relF, List.getD_cons_zero, List.getD_cons_succ, List.foldl_cons, List.foldl_nil, dstAt, List.getElem?_cons_zero, List.getElem?_cons_succ, Option.bind_some]
                  go_wp2_with fail
                  exact ⟨rfl, Below.refl _ _, rfl, rfl⟩
                | 1, _, hi =>
                  obtain rfl := Option.some.inj hi
                  simp only [relF, List.getD_cons_zero, List.getD_cons_succ, List.foldl_cons, List.foldl_nil, dstAt, List.getElem?_cons_zero, List.getElem?_cons_succ, Option.bind_some]
                  go_wp2_with ((with_reducible show wpList _ _ _ (⟨some 35, _, _, _, _, _⟩ :: _) _ _); refine wpList_load_fx (op := ⟨some 35, _, _, _, _, _⟩) rfl _ rfl w5.heap.size rfl F HFO.out ((b2.block _ (lt_of_block X7.out)).trans X7.out) ?_)
                  exact ⟨rfl, Below.refl _ _, rfl, rfl⟩
                | 2, _, hi =>
                  obtain rfl := Option.some.inj hi
                  have h1 : vs 1 = _ := hv 1 (by decide)
                  have hvl := FieldV.len HFO.out
                  simp only [relF, List.getD_cons_zero, List.getD_cons_succ, List.foldl_cons, List.foldl_nil, dstAt, List.getElem?_cons_zero, List.getElem?_cons_succ, Option.bind_some]
                  go_frame
                  rw [h1]
                  go_wp2_with fail
                  exact ⟨rfl, (Below.refl _ _).alloc (Nat.le_refl _) _, rfl, w2.heap.size, rfl, hgq, alloc_builtF w2 (by rw [FieldV.len HFO.out]; rfl)⟩
                | 3, _, hi =>
                  obtain ⟨g2, e2, l2, x2⟩ := hv 2 (by decide)
                  obtain rfl := Option.some.inj hi
                  have h0 : vs 0 = _ := hv 0 (by decide)
                  obtain ⟨g', c', wn, hrun, hon, hbn⟩ := fld_grow' HDL.out (ownsRow_below HO7.out fun i hi => b2.block i (HO7.out.lt i hi).2) (by omega) HFO.out hrm x2 hBw
                  simp only [relF, List.getD_cons_zero, List.getD_cons_succ, List.foldl_cons, List.foldl_nil, dstAt, List.getElem?_cons_zero, List.getElem?_cons_succ, Option.bind_some]
                  go_frame
                  rw [h0, e2]
                  go_wp2_with ((with_reducible show wpList _ _ _ (⟨some 37, _, _, _, _, _⟩ :: _) _ _); refine wpList_append_ran (by kernel_rfl) _ _ _ rfl _ _ rfl rfl hrun ?_)
                  exact ⟨rfl, hbn, rfl, g', c', rfl, hon⟩
                | 4, _, hi =>
                  obtain rfl := Option.some.inj hi
                  simp only [relF, List.getD_cons_zero, List.getD_cons_succ, List.foldl_cons, List.foldl_nil, dstAt, List.getElem?_cons_zero, List.getElem?_cons_succ, Option.bind_some]
                  go_wp2_with fail
                  exact ⟨rfl, Below.refl _ _, rfl, rfl⟩
                | 5, _, hi =>
                  obtain rfl := Option.some.inj hi
                  simp only [relF, List.getD_cons_zero, List.getD_cons_succ, List.foldl_cons, List.foldl_nil, dstAt, List.getElem?_cons_zero, List.getElem?_cons_succ, Option.bind_some]
                  go_wp2_with fail
                  exact ⟨rfl, Below.refl _ _, rfl, rfl⟩
                | 6, _, hi =>
                  obtain rfl := Option.some.inj hi
                  have h4 : vs 4 = _ := hv 4 (by decide)
                  have h5 : vs 5 = _ := hv 5 (by decide)
                  have hx := strOf_from S k
                  have hsz := strOf_size S
                  simp only [relF, List.getD_cons_zero, List.getD_cons_succ, List.foldl_cons, List.foldl_nil, dstAt, List.getElem?_cons_zero, List.getElem?_cons_succ, Option.bind_some]
                  go_frame
                  rw [h4, h5]
                  go_wp2_with fail
                  exact ⟨rfl, Below.refl _ _, rfl, by first | rfl | (show slotOf _ _ = _; simp [slotOf, hx])⟩
                | 7, _, hi =>
                  obtain ⟨g3, c3, e3, s3⟩ := hv 3 (by decide)
                  obtain rfl := Option.some.inj hi
                  simp only [relF, List.getD_cons_zero, List.getD_cons_succ, List.foldl_cons, List.foldl_nil, dstAt, List.getElem?_cons_zero, List.getElem?_cons_succ, Option.bind_some]
                  go_frame
                  rw [e3]
                  go_wp2_with fail
                  exact ⟨rfl, Below.refl _ _, rfl, g3, c3, rfl, s3⟩
                | 8, _, hi =>
                  obtain rfl := Option.some.inj hi
                  have h6 : vs 6 = _ := hv 6 (by decide)
                  simp only [relF, List.getD_cons_zero, List.getD_cons_succ, List.foldl_cons, List.foldl_nil, dstAt, List.getElem?_cons_zero, List.getElem?_cons_succ, Option.bind_some]
                  go_frame
                  rw [h6]
                  go_wp2_with fail
                  exact ⟨rfl, Below.refl _ _, rfl, rfl⟩
                | nx + 9, him, _ => exact absurd him (by omega)
              · intro w2 hI vs hv
                have b2 : Below W7.heap.size W7 w2 := hI
                have hgq := Nat.lt_of_lt_of_le HGQ.out b2.size
                have hBw := Nat.le_trans B7.size b2.size
                obtain ⟨g7, c7, e7, s7⟩ := hv 7 (by decide)
                have h8 : vs 8 = _ := hv 8 (by decide)
                simp only [relF, List.drop_succ_cons, List.drop_zero, List.length_cons, List.length_nil, Nat.zero_add, Nat.reduceAdd, List.range, List.range.loop, List.foldl_cons, List.foldl_nil, dstAt, List.getElem?_cons_zero, List.getElem?_cons_succ, Option.bind_some]
                go_frame
                rw [e7, h8]
                go_wp2_with fail
                go_roundw
                case rel => exact ⟨j + 1, g7, c7, by omega, by rw [← HRS.out], rfl, by go_num, Lib.hid (by rw [HGS.out]; exact s7), B7.trans (b2.mono B7.size), HE1⟩
                case measure => simp [intOf]; omega
          · have hbad := refV_bad (K := 0) (by decide) he
            rw [hbad, ← hfz] at hq
            clear hbad hfz
            have her : r0 = (St.none, (Wire.rdNum S 0).2.2) := by
              have := get_err (er := 100) (l := l) (j := j + 1) (by omega) (by rw [HCS.out]; exact he)
              rw [HR0.out, this, HCS.out]
            obtain ⟨er, her2⟩ : ∃ er, er = (Wire.rdNum S 0).2.2 := ⟨_, rfl⟩
            rw [← her2] at her hq he
            clear her2
            have hne : ((er : Int) != 0) = true := by simp only [bne_iff_ne, ne_eq]; omega
            have HER := Lib.hid her; clear her
            have HQ := Lib.hid hq; clear hq
            obtain ⟨F, hF⟩ : ∃ F, F = zeroField := ⟨_, rfl⟩
            have HFO : Hid F.ok := Lib.hid (by rw [hF]; exact zeroField_ok)
            rw [← hF] at HQ
            have HZS : Hid (zeroField.cells.toArray.size = 37) := Lib.hid (field_size (f := zeroField) rfl)
            clear hF
            go_wp2_with (first | ((with_reducible show wpList _ _ _ (⟨some 25, _, _, _, _, _⟩ :: _) _ _); refine wpList_build1' (o := ⟨some 25, _, _, _, _, _⟩) rfl _ _ _ rfl (.int .i64 0) rfl fz.cells.toArray HBK.out ?_))
            refine HQ.out.mono ?_
            rintro e w5 ⟨rfl, b5⟩
            obtain ⟨W6, hW6⟩ : ∃ W6, W6 = w5.alloc (.cells zeroField.cells.toArray 75) := ⟨_, rfl⟩
            have z6 : W6.heap[w5.heap.size]? = some (.cells zeroField.cells.toArray 75 (0, 0)) := by rw [hW6]; exact heap_alloc_new w5 _
            have b6 : Below w5.heap.size w5 W6 := by rw [hW6]; exact (Below.refl _ _).alloc (Nat.le_refl _) _
            obtain ⟨W7, hW7⟩ : ∃ W7, W7 = W6.setRow w5.heap.size F.cells.toArray := ⟨_, rfl⟩
            have b7 : Below w5.heap.size w5 W7 := by rw [hW7]; exact below_setRow' b6 (Nat.le_refl _)
            have b57 := b5.trans (b7.mono b5.size)
            have B7 := Bw.trans (b57.mono Bw.size)
            have z7 := (B7.block _ hlt0).trans Z0.out
            have Z6 := Lib.hid z6; clear z6
            have Z7 := Lib.hid z7; clear z7
            have HW6 := Lib.hid hW6; clear hW6
            have HW7 := Lib.hid hW7; clear hW7
            have hgg := HER.out
            subst hgg
            go_wp2_with (first | ((with_reducible show wpList _ _ _ (⟨none, .store _ (.tmp 7) (.tmp 27), _, _, _, _⟩ :: _) _ _); change wpList _ _ _ _ _ (w5.alloc (.cells zeroField.cells.toArray 75)); rw [← HW6.out]; refine wpList_store_fx rfl _ _ rfl w5.heap.size F HFO.out rfl rfl zeroField.cells.toArray Z6.out HZS.out ?_; rw [← HW7.out]) | ((with_reducible show wpList _ _ _ (⟨some 32, _, _, _, _, _⟩ :: _) _ _); refine wpList_build0 rfl _ rfl _ vertex_built0 ?_) | ((with_reducible show wpList _ _ _ (⟨none, .store _ (.tmp 2) (.tmp 32), _, _, _, _⟩ :: _) _ _); refine wpList_store_vx rfl _ _ rfl w.heap.size St.none rfl rfl zeroVx Z7.out rfl ?_))
            refine bodyPost_ret (results_vx rfl _ _ w.heap.size St.none rfl (vset_heap St.none Z7.out)) rfl ⟨rfl, below_setRow' (b0.trans (B7.mono b0.size)) (Nat.le_refl _)⟩
    · have t0 : decide ((j : Int) < 5) = false := decide_eq_false (by omega)
      have t0' : decide (j < 5) = false := decide_eq_false hlt
      obtain rfl : j = 5 := by omega
      have HS5 := Lib.hid hS
      rw [← hS]
      clear hS
      obtain ⟨gf, hgf0⟩ : ∃ gf, gf = gotF l 5 := ⟨_, rfl⟩
      rw [← hgf0] at HOW
      have hgf := gotF_five l
      rw [← hgf0] at hgf
      obtain ⟨a, ha⟩ : ∃ a, a = (chain l 1).1 := ⟨_, rfl⟩
      obtain ⟨bb, hbb⟩ : ∃ b, b = (chain l 2).1 := ⟨_, rfl⟩
      obtain ⟨cc, hcc⟩ : ∃ c, c = (chain l 3).1 := ⟨_, rfl⟩
      obtain ⟨dd, hdd⟩ : ∃ d, d = (chain l 4).1 := ⟨_, rfl⟩
      obtain ⟨ee, hee⟩ : ∃ e, e = (chain l 5).1 := ⟨_, rfl⟩
      have hget := get_chain 100 l
      rw [← HR0.out, ← ha, ← hbb, ← hcc, ← hdd, ← hee, if_neg (fun h => h HE.out)] at hget
      rw [← ha, ← hbb, ← hcc, ← hdd, ← hee] at hgf
      have hal : a < 18446744073709551616 := by rw [ha]; exact Wire.rdNum_lt _ _
      clear ha hbb hcc hdd hee
      rw [hgf] at HOW
      clear hgf hgf0
      have hcell : ∀ w' : World, Below wr.heap.size wr w' → w'.cell? ⟨gq, 2, none⟩ = some (.int .u64 (a : Int)) ∧ w'.cell? ⟨gq, 40, none⟩ = some (.int .i64 (Wire.unzig bb)) ∧ w'.cell? ⟨gq, 76, none⟩ = some (.int .u64 (cc : Int)) ∧ w'.cell? ⟨gq, 113, none⟩ = some (.int .u64 (dd : Int)) ∧ w'.cell? ⟨gq, 151, none⟩ = some (.int .i64 (Wire.unzig ee)) := by
        intro w' hb
        have ho := ownsRow_below HOW.out fun i hi => hb.block i (HOW.out.lt i hi).2
        have hc := ho.cells (g := gq) rfl
        obtain ⟨g0, g1, g2, g3, g4⟩ := got_cells a bb cc dd ee
        exact ⟨by have := hc 2 _ g0; rwa [Addr.add_mid] at this, by have := hc 40 _ g1; rwa [Addr.add_mid] at this, by have := hc 76 _ g2; rwa [Addr.add_mid] at this, by have := hc 113 _ g3; rwa [Addr.add_mid] at this, by have := hc 151 _ g4; rwa [Addr.add_mid] at this⟩
      have hc5 : 5 ≤ c := by
        rcases HOW.out.2 with ⟨h1, _⟩ | ⟨g, cap, cur, h1, _, _, h2, _⟩
        · cases h1
        · simp only [Value.slice.injEq] at h1; omega
      obtain ⟨k0, k1, k2, k3, k4⟩ := hcell wr (Below.refl _ _)
      have HCELL := Lib.hid hcell; clear hcell
      have zr := (Bw.block _ hlt0).trans Z0.out
      have ZR := Lib.hid zr; clear zr
      have hsz := strOf_size S
      by_cases hS : S = []
      · have hs0 : ((strOf S).toList == []) = true := by rw [hS, strOf_toList]; rfl
        have hs0' : ((strOf S).toList != []) = false := by rw [bne, hs0]; rfl
        rw [if_neg (fun h => h (HS5.out ▸ hS))] at hget
        have HSN := Lib.hid hS; clear hS
        have HGET := Lib.hid hget; clear hget
        by_cases h63 : 63 < a
        · have t1 : decide ((63 : Int) < (a : Int)) = true := decide_eq_true (by omega)
          have t1' : decide (63 < a) = true := decide_eq_true h63
          have hg : r0 = (St.none, 100) := by rw [HGET.out, if_pos (.inr (.inr (made_big h63)))]
          subst hg
          go_wp2_with (first | ((with_reducible show wpList _ _ _ (⟨some 63, _, _, _, _, _⟩ :: _) _ _); refine wpList_build0 rfl _ rfl _ vertex_built0 ?_) | ((with_reducible show wpList _ _ _ (⟨none, .store _ (.tmp 2) (.tmp 63), _, _, _, _⟩ :: _) _ _); refine wpList_store_vx rfl _ _ rfl w.heap.size St.none rfl rfl zeroVx ZR.out rfl ?_))
          refine bodyPost_ret (results_vx rfl _ _ w.heap.size St.none rfl (vset_heap St.none ZR.out)) rfl ⟨rfl, below_setRow' (b0.trans (Bw.mono b0.size)) (Nat.le_refl _)⟩
        · have t1 : decide ((63 : Int) < (a : Int)) = false := decide_eq_false (by omega)
          have t1' : decide (63 < a) = false := decide_eq_false h63
          by_cases hc1 : 1 < cc
          · have t2 : decide ((1 : Int) < (cc : Int)) = true := decide_eq_true (by omega)
            have t2' : decide (1 < cc) = true := decide_eq_true hc1
            have hg : r0 = (St.none, 100) := by rw [HGET.out, if_pos (.inl hc1)]
            subst hg
            go_wp2_with (first | ((with_reducible show wpList _ _ _ (⟨some 63, _, _, _, _, _⟩ :: _) _ _); refine wpList_build0 rfl _ rfl _ vertex_built0 ?_) | ((with_reducible show wpList _ _ _ (⟨none, .store _ (.tmp 2) (.tmp 63), _, _, _, _⟩ :: _) _ _); refine wpList_store_vx rfl _ _ rfl w.heap.size St.none rfl rfl zeroVx ZR.out rfl ?_))
            refine bodyPost_ret (results_vx rfl _ _ w.heap.size St.none rfl (vset_heap St.none ZR.out)) rfl ⟨rfl, below_setRow' (b0.trans (Bw.mono b0.size)) (Nat.le_refl _)⟩
          · have t2 : decide ((1 : Int) < (cc : Int)) = false := decide_eq_false (by omega)
            have t2' : decide (1 < cc) = false := decide_eq_false hc1
            by_cases hd1 : 1 < dd
            · have t3 : decide ((1 : Int) < (dd : Int)) = true := decide_eq_true (by omega)
              have t3' : decide (1 < dd) = true := decide_eq_true hd1
              have hg : r0 = (St.none, 100) := by rw [HGET.out, if_pos (.inr (.inl hd1))]
              subst hg
              go_wp2_with (first | ((with_reducible show wpList _ _ _ (⟨some 63, _, _, _, _, _⟩ :: _) _ _); refine wpList_build0 rfl _ rfl _ vertex_built0 ?_) | ((with_reducible show wpList _ _ _ (⟨none, .store _ (.tmp 2) (.tmp 63), _, _, _, _⟩ :: _) _ _); refine wpList_store_vx rfl _ _ rfl w.heap.size St.none rfl rfl zeroVx ZR.out rfl ?_))
              refine bodyPost_ret (results_vx rfl _ _ w.heap.size St.none rfl (vset_heap St.none ZR.out)) rfl ⟨rfl, below_setRow' (b0.trans (Bw.mono b0.size)) (Nat.le_refl _)⟩
            · have t3 : decide ((1 : Int) < (dd : Int)) = false := decide_eq_false (by omega)
              have t3' : decide (1 < dd) = false := decide_eq_false hd1
              obtain ⟨X, hX⟩ : ∃ X, X = St.made a bb cc dd ee := ⟨_, rfl⟩
              have HBADR : Hid (St.right X = false → r0 = (St.none, 100)) := Lib.hid fun h => by rw [HGET.out, if_pos (.inr (.inr (by rw [← hX]; exact h)))]
              have HGOOD : Hid (St.right X = true → r0 = (X, 0)) := Lib.hid fun h => by rw [HGET.out, ← hX, if_neg (by rw [h]; simp only [not_or]; exact ⟨hc1, hd1, by simp⟩)]
              have HX0 : Hid (X.id = (a : Int)) := Lib.hid (by rw [hX]; exact made_small h63)
              have HX1 : Hid (X.value = Wire.unzig bb) := Lib.hid (by rw [hX]; rfl)
              have HX2 : Hid (X.active = (cc == 1)) := Lib.hid (by rw [hX]; rfl)
              have HX3 : Hid (X.has = (dd == 1)) := Lib.hid (by rw [hX]; rfl)
              have HX4 : Hid (X.inn = Wire.unzig ee) := Lib.hid (by rw [hX]; rfl)
              have HTC : Hid (((cc : Int) == 1) = (cc == 1)) := Lib.hid (by rw [Bool.eq_iff_iff]; simp only [beq_iff_eq]; omega)
              have HTD : Hid (((dd : Int) == 1) = (dd == 1)) := Lib.hid (by rw [Bool.eq_iff_iff]; simp only [beq_iff_eq]; omega)
              clear hX
              obtain ⟨vb, hvb⟩ : ∃ vb, vb = Wire.unzig bb := ⟨_, rfl⟩
              obtain ⟨ve, hve⟩ : ∃ ve, ve = Wire.unzig ee := ⟨_, rfl⟩
              rw [← hvb] at HCELL HX1 k1
              rw [← hve] at HCELL HX4 k4
              clear hvb hve
              go_wp2_with fail
              refine wp_region_relW [[], [0], [1], [2], [3], [], [5], [6], [7], [], [9], [10], [11], [12], [], [14], [15], [16], [17], [], [19], [20], [21], [4, 8, 13, 18, 22], [], [23, 24]] (gxV wr.heap.size gq c a cc dd vb ve X) (gxR wr.heap.size X) 93 (by kernel_rfl) (by kernel_rfl) (by kernel_rfl) 24 (by decide) (gxI wr X) ?_ ?_ ?_ ?_ ?_
              · exact ⟨(Below.refl _ _).drew, fun _ => rfl, (fun h => by cases h)⟩
              · intro i b wa wb hI hb hr
                obtain ⟨i1, i2, i3⟩ := hI
                by_cases e1 : i = 24
                · subst e1
                  obtain rfl := hb rfl
                  obtain rfl : wb = wa.alloc (.cells zeroVx 36) := hr
                  exact ⟨i1.alloc i1.size _, (fun h => by cases h), fun _ => ⟨zeroVx, by have := heap_alloc_new wa (.cells zeroVx 36); rwa [i2 rfl] at this, rfl⟩⟩
                · rw [decide_eq_false (fun e => e1 e.symm), Bool.false_or]
                  by_cases e2 : i = 25
                  · subst e2
                    obtain rfl : wb = wa.setRow wr.heap.size (VertexV.cells X).toArray := hr
                    exact ⟨below_setRow' i1 (Nat.le_refl _), fun h => by rw [← i2 h]; simp [World.setRow], fun h => by obtain ⟨old, h1, h2⟩ := i3 h; exact ⟨_, vset_heap X h1, rfl⟩⟩
                  · obtain rfl : wb = wa := by
                      have : gxR wr.heap.size X i wa wb = (wb = wa) := by
                        unfold gxR
                        split
                        · exact absurd rfl e1
                        · exact absurd rfl e2
                        · rfl
                      rw [this] at hr; exact hr
                    exact ⟨i1, i2, i3⟩
              · intro i jx hij b wa wb v hI hb hr h
                by_cases e1 : i = 24
                · subst e1
                  obtain rfl := hb rfl
                  obtain rfl : wb = wa.alloc (.cells zeroVx 36) := hr
                  exact gxV_mono wr.heap.size gq c a cc dd vb ve X jx wa _ v ((Below.refl _ _).alloc (Nat.le_refl _) _) h
                · by_cases e2 : i = 25
                  · subst e2
                    obtain rfl : wb = wa.setRow wr.heap.size (VertexV.cells X).toArray := hr
                    exact gxV_store (fun e => hij e.symm) h
                  · obtain rfl : wb = wa := by
                      have : gxR wr.heap.size X i wa wb = (wb = wa) := by
                        unfold gxR
                        split
                        · exact absurd rfl e1
                        · exact absurd rfl e2
                        · rfl
                      rw [this] at hr; exact hr
                    exact h
              · intro ix op hi b w2 hI hs hd vs hv
                have him : ix < 26 := (List.getElem?_eq_some_iff.1 hi).1
                have b2 := hI.1
                match ix, him, hi with
                | 0, _, hi =>
                  obtain rfl := Option.some.inj hi
                  simp only [relF, List.getD_cons_zero, List.getD_cons_succ, List.foldl_cons, List.foldl_nil, dstAt, List.getElem?_cons_zero, List.getElem?_cons_succ, Option.bind_some]
                  go_wp2_with fail
                  exact ⟨rfl, rfl, rfl, rfl⟩
                | 1, _, hi =>
                  obtain rfl := Option.some.inj hi
                  have h0 : vs 0 = _ := hv 0 (by decide)
                  simp only [relF, List.getD_cons_zero, List.getD_cons_succ, List.foldl_cons, List.foldl_nil, dstAt, List.getElem?_cons_zero, List.getElem?_cons_succ, Option.bind_some]
                  go_frame
                  rw [h0]
                  go_wp2_with fail
                  exact ⟨rfl, rfl, rfl, rfl⟩
                | 2, _, hi =>
                  obtain rfl := Option.some.inj hi
                  have h1 : vs 1 = _ := hv 1 (by decide)
                  simp only [relF, List.getD_cons_zero, List.getD_cons_succ, List.foldl_cons, List.foldl_nil, dstAt, List.getElem?_cons_zero, List.getElem?_cons_succ, Option.bind_some]
                  go_frame
                  rw [h1]
                  go_wp2_with fail
                  exact ⟨rfl, rfl, rfl, rfl⟩
                | 3, _, hi =>
                  obtain rfl := Option.some.inj hi
                  have h2 : vs 2 = _ := hv 2 (by decide)
                  obtain ⟨k0, k1, k2, k3, k4⟩ := HCELL.out w2 b2
                  simp only [relF, List.getD_cons_zero, List.getD_cons_succ, List.foldl_cons, List.foldl_nil, dstAt, List.getElem?_cons_zero, List.getElem?_cons_succ, Option.bind_some]
                  go_frame
                  rw [h2]
                  go_wp2_with fail
                  exact ⟨rfl, rfl, rfl, rfl⟩
                | 4, _, hi =>
                  obtain rfl := Option.some.inj hi
                  have h3 : vs 3 = _ := hv 3 (by decide)
                  have hwa : IntKind.i64.wrap (a : Int) = (a : Int) := by rw [IntKind.wrap_i64] <;> omega
                  simp only [relF, List.getD_cons_zero, List.getD_cons_succ, List.foldl_cons, List.foldl_nil, dstAt, List.getElem?_cons_zero, List.getElem?_cons_succ, Option.bind_some]
                  go_frame
                  rw [h3]
                  go_wp2_with fail
                  exact ⟨rfl, rfl, rfl, by first | rfl | (show slotOf _ _ = _; simp [slotOf]; omega)⟩
                | 5, _, hi =>
                  obtain rfl := Option.some.inj hi
                  simp only [relF, List.getD_cons_zero, List.getD_cons_succ, List.foldl_cons, List.foldl_nil, dstAt, List.getElem?_cons_zero, List.getElem?_cons_succ, Option.bind_some]
                  go_wp2_with fail
                  exact ⟨rfl, rfl, rfl, rfl⟩
                | 6, _, hi =>
                  obtain rfl := Option.some.inj hi
                  have h5 : vs 5 = _ := hv 5 (by decide)
                  simp only [relF, List.getD_cons_zero, List.getD_cons_succ, List.foldl_cons, List.foldl_nil, dstAt, List.getElem?_cons_zero, List.getElem?_cons_succ, Option.bind_some]
                  go_frame
                  rw [h5]
                  go_wp2_with fail
                  exact ⟨rfl, rfl, rfl, rfl⟩
                | 7, _, hi =>
                  obtain rfl := Option.some.inj hi
                  have h6 : vs 6 = _ := hv 6 (by decide)
                  simp only [relF, List.getD_cons_zero, List.getD_cons_succ, List.foldl_cons, List.foldl_nil, dstAt, List.getElem?_cons_zero, List.getElem?_cons_succ, Option.bind_some]
                  go_frame
                  rw [h6]
                  go_wp2_with fail
                  exact ⟨rfl, rfl, rfl, rfl⟩
                | 8, _, hi =>
                  obtain rfl := Option.some.inj hi
                  have h7 : vs 7 = _ := hv 7 (by decide)
                  obtain ⟨k0, k1, k2, k3, k4⟩ := HCELL.out w2 b2
                  simp only [relF, List.getD_cons_zero, List.getD_cons_succ, List.foldl_cons, List.foldl_nil, dstAt, List.getElem?_cons_zero, List.getElem?_cons_succ, Option.bind_some]
                  go_frame
                  rw [h7]
                  go_wp2_with fail
                  exact ⟨rfl, rfl, rfl, rfl⟩
                | 9, _, hi =>
                  obtain rfl := Option.some.inj hi
                  simp only [relF, List.getD_cons_zero, List.getD_cons_succ, List.foldl_cons, List.foldl_nil, dstAt, List.getElem?_cons_zero, List.getElem?_cons_succ, Option.bind_some]
                  go_wp2_with fail
                  exact ⟨rfl, rfl, rfl, rfl⟩
                | 10, _, hi =>
                  obtain rfl := Option.some.inj hi
                  have h9 : vs 9 = _ := hv 9 (by decide)
                  simp only [relF, List.getD_cons_zero, List.getD_cons_succ, List.foldl_cons, List.foldl_nil, dstAt, List.getElem?_cons_zero, List.getElem?_cons_succ, Option.bind_some]
                  go_frame
                  rw [h9]
                  go_wp2_with fail
                  exact ⟨rfl, rfl, rfl, rfl⟩
                | 11, _, hi =>
                  obtain rfl := Option.some.inj hi
                  have h10 : vs 10 = _ := hv 10 (by decide)
                  simp only [relF, List.getD_cons_zero, List.getD_cons_succ, List.foldl_cons, List.foldl_nil, dstAt, List.getElem?_cons_zero, List.getElem?_cons_succ, Option.bind_some]
                  go_frame
                  rw [h10]
                  go_wp2_with fail
                  exact ⟨rfl, rfl, rfl, rfl⟩
                | 12, _, hi =>
                  obtain rfl := Option.some.inj hi
                  have h11 : vs 11 = _ := hv 11 (by decide)
                  obtain ⟨k0, k1, k2, k3, k4⟩ := HCELL.out w2 b2
                  simp only [relF, List.getD_cons_zero, List.getD_cons_succ, List.foldl_cons, List.foldl_nil, dstAt, List.getElem?_cons_zero, List.getElem?_cons_succ, Option.bind_some]
                  go_frame
                  rw [h11]
                  go_wp2_with fail
                  exact ⟨rfl, rfl, rfl, rfl⟩
                | 13, _, hi =>
                  obtain rfl := Option.some.inj hi
                  have h12 : vs 12 = _ := hv 12 (by decide)
                  have tcx := HTC.out
                  simp only [relF, List.getD_cons_zero, List.getD_cons_succ, List.foldl_cons, List.foldl_nil, dstAt, List.getElem?_cons_zero, List.getElem?_cons_succ, Option.bind_some]
                  go_frame
                  rw [h12]
                  go_wp2_with fail
                  exact ⟨rfl, rfl, rfl, by first | rfl | (show slotOf _ _ = _; simp [slotOf]; done) | (show slotOf _ _ = _; simp [slotOf]; omega)⟩
                | 14, _, hi =>
                  obtain rfl := Option.some.inj hi
                  simp only [relF, List.getD_cons_zero, List.getD_cons_succ, List.foldl_cons, List.foldl_nil, dstAt, List.getElem?_cons_zero, List.getElem?_cons_succ, Option.bind_some]
                  go_wp2_with fail
                  exact ⟨rfl, rfl, rfl, rfl⟩
                | 15, _, hi =>
                  obtain rfl := Option.some.inj hi
                  have h14 : vs 14 = _ := hv 14 (by decide)
                  simp only [relF, List.getD_cons_zero, List.getD_cons_succ, List.foldl_cons, List.foldl_nil, dstAt, List.getElem?_cons_zero, List.getElem?_cons_succ, Option.bind_some]
                  go_frame
                  rw [h14]
                  go_wp2_with fail
                  exact ⟨rfl, rfl, rfl, rfl⟩
                | 16, _, hi =>
                  obtain rfl := Option.some.inj hi
                  have h15 : vs 15 = _ := hv 15 (by decide)
                  simp only [relF, List.getD_cons_zero, List.getD_cons_succ, List.foldl_cons, List.foldl_nil, dstAt, List.getElem?_cons_zero, List.getElem?_cons_succ, Option.bind_some]
                  go_frame
                  rw [h15]
                  go_wp2_with fail
                  exact ⟨rfl, rfl, rfl, rfl⟩
                | 17, _, hi =>
                  obtain rfl := Option.some.inj hi
                  have h16 : vs 16 = _ := hv 16 (by decide)
                  obtain ⟨k0, k1, k2, k3, k4⟩ := HCELL.out w2 b2
                  simp only [relF, List.getD_cons_zero, List.getD_cons_succ, List.foldl_cons, List.foldl_nil, dstAt, List.getElem?_cons_zero, List.getElem?_cons_succ, Option.bind_some]
                  go_frame
                  rw [h16]
                  go_wp2_with fail
                  exact ⟨rfl, rfl, rfl, rfl⟩
                | 18, _, hi =>
                  obtain rfl := Option.some.inj hi
                  have h17 : vs 17 = _ := hv 17 (by decide)
                  have tdx := HTD.out
                  simp only [relF, List.getD_cons_zero, List.getD_cons_succ, List.foldl_cons, List.foldl_nil, dstAt, List.getElem?_cons_zero, List.getElem?_cons_succ, Option.bind_some]
                  go_frame
                  rw [h17]
                  go_wp2_with fail
                  exact ⟨rfl, rfl, rfl, by first | rfl | (show slotOf _ _ = _; simp [slotOf]; done) | (show slotOf _ _ = _; simp [slotOf]; omega)⟩
                | 19, _, hi =>
                  obtain rfl := Option.some.inj hi
                  simp only [relF, List.getD_cons_zero, List.getD_cons_succ, List.foldl_cons, List.foldl_nil, dstAt, List.getElem?_cons_zero, List.getElem?_cons_succ, Option.bind_some]
                  go_wp2_with fail
                  exact ⟨rfl, rfl, rfl, rfl⟩
                | 20, _, hi =>
                  obtain rfl := Option.some.inj hi
                  have h19 : vs 19 = _ := hv 19 (by decide)
                  simp only [relF, List.getD_cons_zero, List.getD_cons_succ, List.foldl_cons, List.foldl_nil, dstAt, List.getElem?_cons_zero, List.getElem?_cons_succ, Option.bind_some]
                  go_frame
                  rw [h19]
                  go_wp2_with fail
                  exact ⟨rfl, rfl, rfl, rfl⟩
                | 21, _, hi =>
                  obtain rfl := Option.some.inj hi
                  have h20 : vs 20 = _ := hv 20 (by decide)
                  simp only [relF, List.getD_cons_zero, List.getD_cons_succ, List.foldl_cons, List.foldl_nil, dstAt, List.getElem?_cons_zero, List.getElem?_cons_succ, Option.bind_some]
                  go_frame
                  rw [h20]
                  go_wp2_with fail
                  exact ⟨rfl, rfl, rfl, rfl⟩
                | 22, _, hi =>
                  obtain rfl := Option.some.inj hi
                  have h21 : vs 21 = _ := hv 21 (by decide)
                  obtain ⟨k0, k1, k2, k3, k4⟩ := HCELL.out w2 b2
                  simp only [relF, List.getD_cons_zero, List.getD_cons_succ, List.foldl_cons, List.foldl_nil, dstAt, List.getElem?_cons_zero, List.getElem?_cons_succ, Option.bind_some]
                  go_frame
                  rw [h21]
                  go_wp2_with fail
                  exact ⟨rfl, rfl, rfl, rfl⟩
                | 23, _, hi =>
                  obtain rfl := Option.some.inj hi
                  have h4 : vs 4 = _ := hv 4 (by decide)
                  have h8 : vs 8 = _ := hv 8 (by decide)
                  have h13 : vs 13 = _ := hv 13 (by decide)
                  have h18 : vs 18 = _ := hv 18 (by decide)
                  have h22 : vs 22 = _ := hv 22 (by decide)
                  simp only [relF, List.getD_cons_zero, List.getD_cons_succ, List.foldl_cons, List.foldl_nil, dstAt, List.getElem?_cons_zero, List.getElem?_cons_succ, Option.bind_some]
                  go_frame
                  rw [h4, h8, h13, h18, h22]
                  go_wp2_with ((with_reducible show wpList _ _ _ (⟨some 87, _, _, _, _, _⟩ :: _) _ _); refine wpList_build_vx5 (o := ⟨some 87, _, _, _, _, _⟩) rfl _ _ _ _ _ rfl X (by rw [HX0.out]; rfl) (by rw [HX1.out]; rfl) (by rw [HX2.out]; rfl) (by rw [HX3.out]; rfl) (by rw [HX4.out]; rfl) ?_)
                  exact ⟨rfl, rfl, rfl, rfl⟩
                | 24, _, hi =>
                  obtain rfl := Option.some.inj hi
                  obtain rfl := hs rfl
                  have hsz := hI.2.1 rfl
                  simp only [relF, List.getD_cons_zero, List.getD_cons_succ, List.foldl_cons, List.foldl_nil, dstAt, List.getElem?_cons_zero, List.getElem?_cons_succ, Option.bind_some]
                  go_wp2_with fail
                  exact ⟨rfl, rfl, rfl, rfl⟩
                | 25, _, hi =>
                  obtain rfl := Option.some.inj hi
                  have h23 : vs 23 = _ := hv 23 (by decide)
                  have h24 : vs 24 = _ := hv 24 (by decide)
                  have hbt := hd (by decide)
                  obtain ⟨old, xold, hold⟩ := hI.2.2 hbt
                  simp only [relF, List.getD_cons_zero, List.getD_cons_succ, List.foldl_cons, List.foldl_nil, dstAt, List.getElem?_cons_zero, List.getElem?_cons_succ, Option.bind_some]
                  go_frame
                  rw [h23, h24]
                  go_wp2_with ((with_reducible show wpList _ _ _ (⟨none, .store _ (.tmp 10) (.tmp 87), _, _, _, _⟩ :: _) _ _); refine wpList_store_vx (o := ⟨none, .store _ _ _, _, _, _, _⟩) rfl _ _ rfl wr.heap.size X rfl rfl old xold hold ?_)
                  exact ⟨rfl, rfl, rfl, vset_heap X xold⟩
                | nx + 26, him, _ => exact absurd him (by omega)
              · intro w2 hI vs hv
                have b2 := hI.1
                have h24 : vs 24 = _ := hv 24 (by decide)
                simp only [relF, List.drop_succ_cons, List.drop_zero, List.length_cons, List.length_nil, Nat.zero_add, Nat.reduceAdd, List.range, List.range.loop, List.foldl_cons, List.foldl_nil, dstAt, List.getElem?_cons_zero, List.getElem?_cons_succ, Option.bind_some]
                go_frame
                rw [h24]
                have x25 : w2.heap[wr.heap.size]? = some (.cells (VertexV.cells X).toArray 36 (0, 0)) := hv 25 (by decide)
                have b2 := hI.1
                have B2 := Bw.trans (b2.mono Bw.size)
                have z2 := (b2.block _ (lt_of_block ZR.out)).trans ZR.out
                have X25 := Lib.hid x25; clear x25
                have Z2 := Lib.hid z2; clear z2
                have hrt := refRight_any w2 X
                rcases hrx : St.right X with _ | _
                · rw [hrx] at hrt
                  have HRT := Lib.hid hrt; clear hrt
                  have hg := HBADR.out hrx
                  go_wp2_with (first | ((with_reducible show wpList _ _ _ (⟨some 88, _, _, _, _, _⟩ :: _) _ _); refine wpList_load_vx (by kernel_rfl) _ rfl wr.heap.size rfl X X25.out ?_))
                  refine HRT.out.mono ?_
                  rintro e w9 ⟨rfl, b9⟩
                  have z9 := (b9.block _ (lt_of_block Z2.out)).trans Z2.out
                  have B9 := B2.trans (b9.mono B2.size)
                  have Z9 := Lib.hid z9; clear z9
                  subst hg
                  go_wp2_with (first | ((with_reducible show wpList _ _ _ (⟨some 91, _, _, _, _, _⟩ :: _) _ _); refine wpList_build0 rfl _ rfl _ vertex_built0 ?_) | ((with_reducible show wpList _ _ _ (⟨none, .store _ (.tmp 2) (.tmp 91), _, _, _, _⟩ :: _) _ _); refine wpList_store_vx rfl _ _ rfl w.heap.size St.none rfl rfl zeroVx Z9.out rfl ?_))
                  refine bodyPost_ret (results_vx rfl _ _ w.heap.size St.none rfl (vset_heap St.none Z9.out)) rfl ⟨rfl, below_setRow' (b0.trans (B9.mono b0.size)) (Nat.le_refl _)⟩
                · rw [hrx] at hrt
                  have HRT := Lib.hid hrt; clear hrt
                  have hg := HGOOD.out hrx
                  go_wp2_with (first | ((with_reducible show wpList _ _ _ (⟨some 88, _, _, _, _, _⟩ :: _) _ _); refine wpList_load_vx (by kernel_rfl) _ rfl wr.heap.size rfl X X25.out ?_))
                  refine HRT.out.mono ?_
                  rintro e w9 ⟨rfl, b9⟩
                  have z9 := (b9.block _ (lt_of_block Z2.out)).trans Z2.out
                  have x9 := (b9.block _ (lt_of_block X25.out)).trans X25.out
                  have B9 := B2.trans (b9.mono B2.size)
                  have Z9 := Lib.hid z9; clear z9
                  have X9 := Lib.hid x9; clear x9
                  subst hg
                  go_wp2_with (first | ((with_reducible show wpList _ _ _ (⟨some 92, _, _, _, _, _⟩ :: _) _ _); refine wpList_load_vx (by kernel_rfl) _ rfl wr.heap.size rfl X X9.out ?_) | ((with_reducible show wpList _ _ _ (⟨none, .store _ (.tmp 2) (.tmp 92), _, _, _, _⟩ :: _) _ _); refine wpList_store_vx rfl _ _ rfl w.heap.size X rfl rfl zeroVx Z9.out rfl ?_))
                  refine bodyPost_ret (results_vx rfl _ _ w.heap.size X rfl (vset_heap X Z9.out)) rfl ⟨rfl, below_setRow' (b0.trans (B9.mono b0.size)) (Nat.le_refl _)⟩
      · have hs0 : ((strOf S).toList == []) = false := by rw [strOf_toList, beq_eq_false_iff_ne]; exact hS
        have hs0' : ((strOf S).toList != []) = true := by rw [bne, hs0]; rfl
        rw [if_pos (fun h => hS (by rw [HS5.out]; exact h))] at hget
        have HSN := Lib.hid hS; clear hS
        subst hget
        go_wp2_with (first | ((with_reducible show wpList _ _ _ (⟨some 43, _, _, _, _, _⟩ :: _) _ _); refine wpList_build0 rfl _ rfl _ vertex_built0 ?_) | ((with_reducible show wpList _ _ _ (⟨none, .store _ (.tmp 2) (.tmp 43), _, _, _, _⟩ :: _) _ _); refine wpList_store_vx rfl _ _ rfl w.heap.size St.none rfl rfl zeroVx ZR.out rfl ?_))
        refine bodyPost_ret (results_vx rfl _ _ w.heap.size St.none rfl (vset_heap St.none ZR.out)) rfl ⟨rfl, below_setRow' (b0.trans (Bw.mono b0.size)) (Nat.le_refl _)⟩

end Go.Proofs.YtaihojahccplcaaDoor
