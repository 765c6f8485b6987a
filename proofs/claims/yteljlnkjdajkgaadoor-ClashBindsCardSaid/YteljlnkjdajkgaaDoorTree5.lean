/- The walk of tree.Check. -/
import Derived.Test.YteljlnkjdajkgaaDoorTree4
namespace Go.Proofs.YteljlnkjdajkgaaDoor
open Go.RowKit
set_option linter.unusedSimpArgs false
set_option linter.unusedVariables false

/-- Sums in a row that came in. -/
def HashesAt (w : World) (o : Option Addr) (n cap : Nat) (P : List (List UInt8)) : Prop := RowsAt w o n cap 32 byteCells P ∧ ∀ p ∈ P, p.length = 32

theorem HashesAt.below {w w' : World} {B : Nat} {o : Option Addr} {n cap : Nat} {L : List (List UInt8)} (h : HashesAt w o n cap L) (hB : w.heap.size ≤ B) (hb : Below B w w') : HashesAt w' o n cap L := by
  refine ⟨⟨h.1.1, h.1.2.1, h.1.2.2.1, fun h0 => ?_⟩, h.2⟩
  obtain ⟨b, off, h5, h6, h7⟩ := h.1.2.2.2 h0
  exact ⟨b, off, h5, Nat.lt_of_lt_of_le h6 hb.size, fun i l hl j v hv => (hb.cell (p := ⟨b, _, none⟩) (by simp only; omega)).trans (h7 i l hl j v hv)⟩

theorem HashesAt.form {w : World} {o : Option Addr} {n cap : Nat} {L : List (List UInt8)} (h : HashesAt w o n cap L) (h0 : 0 < n) : ∃ b off, o = some ⟨b, off, none⟩ := by
  obtain ⟨b, off, h5, _⟩ := h.1.2.2.2 h0
  exact ⟨b, off, h5⟩

theorem HashesAt.get {w : World} {b off n cap : Nat} {L : List (List UInt8)} (h : HashesAt w (some ⟨b, off, none⟩) n cap L) {i : Nat} {l : List UInt8} (hl : L[i]? = some l) : b < w.heap.size ∧ w.rangeAt b (off + i * 32) (byteCells l) := by
  have hi := (List.getElem?_eq_some_iff.1 hl).1
  rw [h.1.1] at hi
  obtain ⟨b', off', h5, h6, h7⟩ := h.1.2.2.2 (by omega)
  cases h5
  exact ⟨h6, h7 i l hl⟩

theorem range_under {w w' : World} {b o B : Nat} {cs : List Value} (h : w.rangeAt b o cs) (hb : b < B) (hw : Below B w w') : w'.rangeAt b o cs :=
  fun j v hv => (hw.cell (p := ⟨b, _, none⟩) hb).trans (h j v hv)

/-- A sum loaded out of a row. -/
theorem wpList_load_hashAt {ops : Array Oper} {rest : List Oper} {op : Oper} {a : Act} {w : World} {Q : Exit → Act → World → Prop} (hgd : op.guard = none) (x : Operand) (ho : op.op = .load 39 x)
    (g off : Nat) (hx : a.eval x = .pointer (some ⟨g, off, none⟩)) (l : List UInt8) (hl : l.length = 32) (hg : w.rangeAt g off (byteCells l))
    (h : wpList Tryd.prog ops Q rest (a.put op.dst (.agg (byteCells l).toArray)) w) : wpList Tryd.prog ops Q (op :: rest) a w :=
  wpList_load_mid hgd 39 x ho g off hx (byteCells l) _ hg Tryd.under_hh rfl (by rw [Tryd.infoH, byteCells_length, hl]) h

def climbTo (t : List UInt8) (z : List (Bool × List UInt8)) (j : Nat) : List UInt8 := (z.take j).foldl Tree.step t
theorem climbTo_zero (t : List UInt8) (z : List (Bool × List UInt8)) : climbTo t z 0 = t := by simp [climbTo]
theorem climbTo_succ {t : List UInt8} {z : List (Bool × List UInt8)} {j : Nat} {b : Bool} {p : List UInt8} (h : z[j]? = some (b, p)) : climbTo t z (j + 1) = Tree.step (climbTo t z j) (b, p) := by
  unfold climbTo
  rw [List.take_add_one, h]
  simp [List.foldl_append]
theorem climbTo_len (t : List UInt8) (ht : t.length = 32) (z : List (Bool × List UInt8)) (j : Nat) : (climbTo t z j).length = 32 := by
  unfold climbTo
  generalize z.take j = y
  induction y generalizing t with
  | nil => exact ht
  | cons x z ih => exact ih _ (Tree.step_len _ _)
theorem climbTo_all {t : List UInt8} {sd : List Bool} {P : List (List UInt8)} (h : sd.length = P.length) : climbTo t (sd.reverse.zip P) P.length = Tree.climb t sd P := by
  unfold climbTo Tree.climb
  rw [List.take_of_length_le (by rw [List.length_zip, List.length_reverse]; omega)]

set_option maxRecDepth 100000 in
set_option maxHeartbeats 2000000 in
theorem treeCheck_bad (w : World) (want : List UInt8) (hw : want.length = 32) (n i : Int) (hb : badSide n i = true) (s : ByteArray) (o : Option Addr) (m cap : Nat) :
    Calls Tryd.prog 18 #[.agg (byteCells want).toArray, .int .i64 n, .int .i64 i, .string s, .slice o m cap] w fun e w' => e = .returned (.bool false) ∧ Below w.heap.size w w' := by
  go_enter Tryd.func18, Tryd.ntmps18
  go_wp2_with fail
  refine (treeSides_bad _ n i hb).mono ?_
  rintro e w' ⟨rfl, rfl⟩
  go_wp2_with fail
  go_ret
  exact ⟨rfl, (Below.refl _ _).alloc (Nat.le_refl _) _⟩

/-- What the region's operations leave. -/
def checkV (want t : List UInt8) (n : Nat) (i : Nat) (w : World) (v : Value) : Prop :=
  match i with
  | 0 => v = .int .i64 (n : Int)
  | 1 => v = .agg (byteCells t).toArray
  | 2 => v = .agg (byteCells (Tree.root n t)).toArray
  | 3 => v = .agg (byteCells want).toArray
  | 4 => v = .bool (Tree.root n t == want)
  | 5 => v = .bool (Tree.root n t == want)
  | _ => True

theorem checkV_mono (want t : List UInt8) (n : Nat) (j : Nat) (w w' : World) (v : Value) (hb : Below w.heap.size w w') (h : checkV want t n j w v) : checkV want t n j w' v := by
  match j, h with
  | 0, h => exact h
  | 1, h => exact h
  | 2, h => exact h
  | 3, h => exact h
  | 4, h => exact h
  | 5, h => exact h
  | _ + 6, h => exact trivial

set_option maxRecDepth 100000 in
set_option maxHeartbeats 4000000 in
theorem treeCheck_any (w : World) (want : List UInt8) (hw : want.length = 32) (n i : Nat) (h1 : i < n) (h2 : n ≤ 1073741824) (l : List UInt8) (hl : l.length ≤ 100000) (o : Option Addr) (m cap : Nat) (P : List (List UInt8)) (hP : HashesAt w o m cap P) (hL : Laid w) :
    Calls Tryd.prog 18 #[.agg (byteCells want).toArray, .int .i64 (n : Int), .int .i64 (i : Int), .string (strOf l), .slice o m cap] w fun e w' => e = .returned (.bool (Tree.check want n i l P)) ∧ Below w.heap.size w w' := by
  obtain ⟨sd, hsd⟩ : ∃ sd, sd = Tree.sides n i := ⟨_, rfl⟩
  have hs30 : sd.length ≤ 30 := by rw [hsd]; exact Tree.sides_len 30 n i h1 h2
  obtain ⟨W0, hW0⟩ : ∃ W0, W0 = w.alloc (.cells (byteCells want).toArray 39) := ⟨_, rfl⟩
  have xw : W0.heap[w.heap.size]? = some (.cells (byteCells want).toArray 39 (0, 0)) := by rw [hW0]; exact heap_alloc_new w _
  have b0 : Below w.heap.size w W0 := by rw [hW0]; exact (Below.refl _ _).alloc (Nat.le_refl _) _
  have s0 : W0.heap.size = w.heap.size + 1 := by rw [hW0]; simp
  have hsides := treeSides_any W0 n i h1 h2
  have hchk : Tree.check want n i l P = (decide (sd.length = P.length) && (Tree.root n (Tree.climb (Tree.leaf l) sd P) == want)) := by rw [hsd]; rfl
  rw [← hsd] at hsides
  rw [hchk]
  obtain ⟨R, hR⟩ : ∃ R, R = (decide (sd.length = P.length) && (Tree.root n (Tree.climb (Tree.leaf l) sd P) == want)) := ⟨_, rfl⟩
  rw [← hR]
  have HR := Lib.hid hR; clear hR
  have hPm : P.length = m := hP.1.1
  have hcap : m ≤ cap := hP.1.2.1
  have hmax : cap ≤ 9223372036854775807 := hP.1.2.2.1
  have HP := Lib.hid hP; clear hP
  have HS := Lib.hid hsides; clear hsides hsd hchk
  have HWL := Lib.hid hw; clear hw
  have HL0 := Lib.hid hL; clear hL
  have HPM := Lib.hid hPm; clear hPm
  go_enter Tryd.func18, Tryd.ntmps18
  go_wp2_with fail
  rw [← hW0]
  have HW0 := Lib.hid hW0; clear hW0
  refine HS.out.mono ?_
  rintro e w1 ⟨q, c, rfl, hown, b1⟩
  have B1 := b0.trans (b1.mono b0.size)
  have xw1 := (b1.block _ (lt_of_block xw)).trans xw
  clear HS
  by_cases hne : sd.length = m
  · have htn : ((sd.length : Int) != (m : Int)) = false := by rw [hne]; simp
    have hde : decide (sd.length = P.length) = true := decide_eq_true (by rw [hne, HPM.out])
    have hleaf := treeLeaf_any w1 l hl (HL0.out.below B1)
    have HLF := Lib.hid hleaf; clear hleaf
    have HO := Lib.hid hown; clear hown
    have HNE := Lib.hid hne
    go_wp2_with fail
    refine HLF.out.mono ?_
    rintro e w2 ⟨rfl, b2⟩
    have B2 := B1.trans (b2.mono B1.size)
    have xw2 := (b2.block _ (lt_of_block xw1)).trans xw1
    have ho2 := owns_below HO.out b2
    have HO2 := Lib.hid ho2; clear ho2 HO
    obtain ⟨W3, hW3⟩ : ∃ W3, W3 = hset (w2.alloc (.cells zero32 39)) w2.heap.size (Tree.leaf l) := ⟨_, rfl⟩
    have x3 : W3.heap[w2.heap.size]? = some (.cells (byteCells (Tree.leaf l)).toArray 39 (0, 0)) := by rw [hW3]; exact hset_heap _ (heap_alloc_new w2 _)
    have b3 : Below w2.heap.size w2 W3 := by rw [hW3]; exact hset_below _ ((Below.refl _ _).alloc (Nat.le_refl _) _) (Nat.le_refl _)
    have s3 : W3.heap.size = w2.heap.size + 1 := by rw [hW3, hset_size]; simp
    have HW3 := Lib.hid hW3; clear hW3
    have X3 := Lib.hid x3; clear x3
    obtain ⟨Z, hZ⟩ : ∃ Z, Z = sd.reverse.zip P := ⟨_, rfl⟩
    have HZd := Lib.hid hZ; clear hZ
    have hleafl := Tree.leaf_len l
    have HLL := Lib.hid hleafl; clear hleafl
    go_wp2_with ((with_reducible show wpList _ _ _ (⟨none, .store 39 (.tmp 13) (.tmp 32), _, _, _, _⟩ :: _) _ _); change wpList _ _ _ _ _ (World.alloc w2 (.cells zero32 39)); refine wpList_put_hash (o := ⟨none, .store _ _ _, _, _, _, _⟩) rfl _ _ rfl _ rfl (Tree.leaf l) HLL.out rfl _ _ (heap_alloc_new _ _) zero32_size ?_; rw [← HW3.out])
    go_loopw [35] (fun v wr => ∃ j : Nat, j ≤ m ∧ v = .int .i64 (j : Int) ∧ Hid (wr.heap[w2.heap.size]? = some (.cells (byteCells (climbTo (Tree.leaf l) Z j)).toArray 39 (0, 0))) ∧ w2.heap.size < wr.heap.size ∧ Below w2.heap.size w2 wr) (fun v _ => m - (intOf v).toNat)
    case atStart => exact ⟨0, by omega, rfl, Lib.hid (by rw [climbTo_zero]; exact X3.out), by omega, b3⟩
    case round =>
      obtain ⟨j, hj, rfl, hx, sr, Br⟩ := hrel
      have hcl := climbTo_len (Tree.leaf l) (Tree.leaf_len l) Z j
      have HCL := Lib.hid hcl; clear hcl
      have Bwr : Below w.heap.size w wr := B2.trans (Br.mono (by have := B2.size; omega))
      clear X3 b3 s3 HW3 HLF b2 b1 b0
      by_cases hlt : j < m
      · obtain ⟨b, off, rfl⟩ := HP.out.form (by omega)
        obtain ⟨p, hp⟩ : ∃ p, P[j]? = some p := ⟨_, List.getElem?_eq_getElem (by rw [HPM.out]; exact hlt)⟩
        obtain ⟨x, hx'⟩ : ∃ x, sd.reverse[j]? = some x := ⟨_, List.getElem?_eq_getElem (by rw [List.length_reverse, HNE.out]; exact hlt)⟩
        have hz : Z[j]? = some (x, p) := by
          rw [HZd.out, List.getElem?_zip_eq_some]
          exact ⟨hx', hp⟩
        have hpl := HP.out.2 p (List.mem_of_getElem? hp)
        have hpr0 := HP.out.get hp
        have hpr : wr.rangeAt b (off + j * 32) (byteCells p) := range_under hpr0.2 hpr0.1 Bwr
        have hsx : sd[sd.length - 1 - j]? = some x := by
          rw [List.getElem?_reverse (by rw [HNE.out]; exact hlt)] at hx'
          exact hx'
        have HZ := Lib.hid hz; clear hz
        have HPL := Lib.hid hpl; clear hpl
        have HPR := Lib.hid hpr; clear hpr hpr0 hp hx'
        obtain ⟨W4, hW4⟩ : ∃ W4, W4 = hset (wr.alloc (.cells zero32 39)) wr.heap.size p := ⟨_, rfl⟩
        have p4 : W4.heap[wr.heap.size]? = some (.cells (byteCells p).toArray 39 (0, 0)) := by rw [hW4]; exact hset_heap _ (heap_alloc_new wr _)
        have bq4 : Below wr.heap.size wr W4 := by rw [hW4]; exact hset_below _ ((Below.refl _ _).alloc (Nat.le_refl _) _) (Nat.le_refl _)
        have y4 := (bq4.block _ sr).trans hx.out
        have s4 : W4.heap.size = wr.heap.size + 1 := by rw [hW4, hset_size]; simp
        have B4 : Below w2.heap.size w2 W4 := Br.trans (bq4.mono (by omega))
        have hL4 := HL0.out.below (B2.trans (B4.mono (by have := B2.size; omega)))
        have ho4 := owns_below HO2.out B4
        rcases q with _ | ⟨qb, qo, qs⟩
        · exfalso
          rcases HO2.out.2 with ⟨_, h0⟩ | ⟨g, cp, cur, hc, _⟩
          · have := HNE.out; omega
          · cases hc
        obtain ⟨rfl, rfl⟩ : qo = 0 ∧ qs = none := by
          rcases HO2.out.2 with ⟨hc, _⟩ | ⟨g, cp, cur, hc, _⟩
          · cases hc
          · simp only [Value.slice.injEq, Option.some.injEq, Addr.mk.injEq] at hc
            exact ⟨hc.1.2.1, hc.1.2.2⟩
        have hcell := slice_cell ho4 (boolCells_get hsx)
        have hti : ((m : Int) - 1 - (j : Int)).toNat = m - 1 - j := by omega
        rw [HNE.out] at hcell
        have hc30 : sd.length ≤ c := by
          rcases HO2.out.2 with ⟨_, h0⟩ | ⟨g, cp, cur, hc, _, _, hle, _⟩
          · have := HNE.out; omega
          · simp only [Value.slice.injEq] at hc
            omega
        have HW4 := Lib.hid hW4; clear hW4
        have P4 := Lib.hid p4; clear p4
        have Y4 := Lib.hid y4; clear y4
        have HL4 := Lib.hid hL4; clear hL4
        clear ho4 bq4 hsx hx
        rcases x with _ | _
        · have hnode := treeNode_any W4 p (climbTo (Tree.leaf l) Z j) HPL.out HCL.out HL4.out
          have hst : climbTo (Tree.leaf l) Z (j + 1) = Tree.node p (climbTo (Tree.leaf l) Z j) := by rw [climbTo_succ HZ.out]; rfl
          rw [← hst] at hnode
          have HN := Lib.hid hnode; clear hnode
          have HST := Lib.hid hst; clear hst
          have hcl1 := climbTo_len (Tree.leaf l) (Tree.leaf_len l) Z (j + 1)
          have HCL1 := Lib.hid hcl1; clear hcl1
          go_wp2_with (first | ((with_reducible show wpList _ _ _ (⟨some 39, _, _, _, _, _⟩ :: _) _ _); refine wpList_load_hashAt (op := ⟨some 39, _, _, _, _, _⟩) rfl _ rfl b (off + j * 32) rfl p HPL.out HPR.out ?_) | ((with_reducible show wpList _ _ _ (⟨none, .store 39 (.tmp 15) (.tmp 39), _, _, _, _⟩ :: _) _ _); change wpList _ _ _ _ _ (World.alloc wr (.cells zero32 39)); refine wpList_put_hash (o := ⟨none, .store _ _ _, _, _, _, _⟩) rfl _ _ rfl _ rfl p HPL.out rfl _ _ (heap_alloc_new _ _) zero32_size ?_; rw [← HW4.out]) | ((with_reducible show wpList _ _ _ (⟨some 52, _, _, _, _, _⟩ :: _) _ _); refine wpList_load_hash (op := ⟨some 52, _, _, _, _, _⟩) (by kernel_rfl) _ rfl w2.heap.size rfl (climbTo (Tree.leaf l) Z j) HCL.out _ _ Y4.out ?_) | ((with_reducible show wpList _ _ _ (⟨some 51, _, _, _, _, _⟩ :: _) _ _); refine wpList_load_hash (op := ⟨some 51, _, _, _, _, _⟩) (by kernel_rfl) _ rfl wr.heap.size rfl p HPL.out _ _ P4.out ?_))
          refine HN.out.mono ?_
          rintro e w5 ⟨rfl, b5⟩
          have y5 := (b5.block _ (lt_of_block Y4.out)).trans Y4.out
          have B5 := B4.trans (b5.mono B4.size)
          go_wp2_with ((with_reducible show wpList _ _ _ (⟨none, .store 39 (.tmp 13) (.tmp 53), _, _, _, _⟩ :: _) _ _); refine wpList_put_hash (o := ⟨none, .store _ _ _, _, _, _, _⟩) rfl _ _ rfl w2.heap.size rfl (climbTo (Tree.leaf l) Z (j + 1)) HCL1.out rfl _ _ y5 (hash_cells_size _ HCL.out) ?_)
          go_roundw
          case rel => exact ⟨j + 1, by omega, by go_num, Lib.hid (hset_heap _ y5), by rw [hset_size]; have := b5.size; omega, hset_below _ B5 (by omega)⟩
          case measure => simp [intOf]; omega
        · have hnode := treeNode_any W4 (climbTo (Tree.leaf l) Z j) p HCL.out HPL.out HL4.out
          have hst : climbTo (Tree.leaf l) Z (j + 1) = Tree.node (climbTo (Tree.leaf l) Z j) p := by rw [climbTo_succ HZ.out]; rfl
          rw [← hst] at hnode
          have HN := Lib.hid hnode; clear hnode
          have HST := Lib.hid hst; clear hst
          have hcl1 := climbTo_len (Tree.leaf l) (Tree.leaf_len l) Z (j + 1)
          have HCL1 := Lib.hid hcl1; clear hcl1
          go_wp2_with (first | ((with_reducible show wpList _ _ _ (⟨some 39, _, _, _, _, _⟩ :: _) _ _); refine wpList_load_hashAt (op := ⟨some 39, _, _, _, _, _⟩) rfl _ rfl b (off + j * 32) rfl p HPL.out HPR.out ?_) | ((with_reducible show wpList _ _ _ (⟨none, .store 39 (.tmp 15) (.tmp 39), _, _, _, _⟩ :: _) _ _); change wpList _ _ _ _ _ (World.alloc wr (.cells zero32 39)); refine wpList_put_hash (o := ⟨none, .store _ _ _, _, _, _, _⟩) rfl _ _ rfl _ rfl p HPL.out rfl _ _ (heap_alloc_new _ _) zero32_size ?_; rw [← HW4.out]) | ((with_reducible show wpList _ _ _ (⟨some 48, _, _, _, _, _⟩ :: _) _ _); refine wpList_load_hash (op := ⟨some 48, _, _, _, _, _⟩) (by kernel_rfl) _ rfl w2.heap.size rfl (climbTo (Tree.leaf l) Z j) HCL.out _ _ Y4.out ?_) | ((with_reducible show wpList _ _ _ (⟨some 49, _, _, _, _, _⟩ :: _) _ _); refine wpList_load_hash (op := ⟨some 49, _, _, _, _, _⟩) (by kernel_rfl) _ rfl wr.heap.size rfl p HPL.out _ _ P4.out ?_))
          refine HN.out.mono ?_
          rintro e w5 ⟨rfl, b5⟩
          have y5 := (b5.block _ (lt_of_block Y4.out)).trans Y4.out
          have B5 := B4.trans (b5.mono B4.size)
          go_wp2_with ((with_reducible show wpList _ _ _ (⟨none, .store 39 (.tmp 13) (.tmp 50), _, _, _, _⟩ :: _) _ _); refine wpList_put_hash (o := ⟨none, .store _ _ _, _, _, _, _⟩) rfl _ _ rfl w2.heap.size rfl (climbTo (Tree.leaf l) Z (j + 1)) HCL1.out rfl _ _ y5 (hash_cells_size _ HCL.out) ?_)
          go_roundw
          case rel => exact ⟨j + 1, by omega, by go_num, Lib.hid (hset_heap _ y5), by rw [hset_size]; have := b5.size; omega, hset_below _ B5 (by omega)⟩
          case measure => simp [intOf]; omega
      · obtain rfl : j = m := by omega
        obtain ⟨t, ht⟩ : ∃ t, t = climbTo (Tree.leaf l) Z j := ⟨_, rfl⟩
        rw [← ht] at HCL hx
        have htc : Tree.climb (Tree.leaf l) sd P = t := by rw [ht, HZd.out, ← HPM.out]; exact (climbTo_all (by rw [HNE.out, HPM.out])).symm
        have hRt : R = (Tree.root n t == want) := by rw [HR.out, hde, Bool.true_and, htc]
        have HRT := Lib.hid hRt; clear hRt
        have HTL := HCL
        have XT := hx
        have XW := Lib.hid ((Br.block w.heap.size (by have := lt_of_block xw2; omega)).trans xw2)
        have HLR := Lib.hid (HL0.out.below Bwr)
        clear ht htc
        go_wp2_with fail

        refine wp_region_rel [[], [], [0, 1], [], [2, 3], [4]] (checkV want t n) 60 (by kernel_rfl) (by kernel_rfl) (by kernel_rfl) (checkV_mono want t n) ?_ ?_
        · intro i o hi wz b2 vs hv
          have him : i < 6 := (List.getElem?_eq_some_iff.1 hi).1
          have hL2 := HLR.out.below b2
          match i, him, hi with
          | 0, _, hi =>
            obtain rfl := Option.some.inj hi
            simp only [relF, List.getD_cons_zero, List.getD_cons_succ, List.foldl_cons, List.foldl_nil, dstAt, List.getElem?_cons_zero, List.getElem?_cons_succ, Option.bind_some]
            go_wp2_with fail
            exact ⟨rfl, Below.refl _ _, rfl, rfl⟩
          | 1, _, hi =>
            obtain rfl := Option.some.inj hi
            simp only [relF, List.getD_cons_zero, List.getD_cons_succ, List.foldl_cons, List.foldl_nil, dstAt, List.getElem?_cons_zero, List.getElem?_cons_succ, Option.bind_some]
            go_wp2_with ((with_reducible show wpList _ _ _ (⟨some 56, _, _, _, _, _⟩ :: _) _ _); refine wpList_load_hash (op := ⟨some 56, _, _, _, _, _⟩) (by kernel_rfl) _ rfl w2.heap.size rfl t HTL.out _ _ ((b2.block _ (lt_of_block XT.out)).trans XT.out) ?_)
            exact ⟨rfl, Below.refl _ _, rfl, rfl⟩
          | 2, _, hi =>
            obtain rfl := Option.some.inj hi
            have h0 : vs 0 = _ := hv 0 (by decide)
            have h1 : vs 1 = _ := hv 1 (by decide)
            have hr := treeRootOf_any wz n (by omega) t HTL.out hL2
            simp only [relF, List.getD_cons_zero, List.getD_cons_succ, List.foldl_cons, List.foldl_nil, dstAt, List.getElem?_cons_zero, List.getElem?_cons_succ, Option.bind_some]
            go_frame
            rw [h0, h1]
            go_wp2_with fail
            refine (hr).mono ?_
            rintro e w3 ⟨rfl, b3⟩
            go_wp2_with fail
            exact ⟨rfl, b3, rfl, rfl⟩
          | 3, _, hi =>
            obtain rfl := Option.some.inj hi
            simp only [relF, List.getD_cons_zero, List.getD_cons_succ, List.foldl_cons, List.foldl_nil, dstAt, List.getElem?_cons_zero, List.getElem?_cons_succ, Option.bind_some]
            go_wp2_with ((with_reducible show wpList _ _ _ (⟨some 58, _, _, _, _, _⟩ :: _) _ _); refine wpList_load_hash (op := ⟨some 58, _, _, _, _, _⟩) (by kernel_rfl) _ rfl w.heap.size rfl want HWL.out _ _ ((b2.block _ (lt_of_block XW.out)).trans XW.out) ?_)
            exact ⟨rfl, Below.refl _ _, rfl, rfl⟩
          | 4, _, hi =>
            obtain rfl := Option.some.inj hi
            have h2 : vs 2 = _ := hv 2 (by decide)
            have h3 : vs 3 = _ := hv 3 (by decide)
            simp only [relF, List.getD_cons_zero, List.getD_cons_succ, List.foldl_cons, List.foldl_nil, dstAt, List.getElem?_cons_zero, List.getElem?_cons_succ, Option.bind_some]
            go_frame
            rw [h2, h3]
            go_wp2_with ((with_reducible show wpList _ _ _ (⟨some 59, _, _, _, _, _⟩ :: _) _ _); refine wpList_eql_hash (op := ⟨some 59, _, _, _, _, _⟩) (by kernel_rfl) _ _ rfl (Tree.root n t) want (Tree.root_len n t) HWL.out rfl rfl ?_)
            exact ⟨rfl, Below.refl _ _, rfl, rfl⟩
          | 5, _, hi =>
            obtain rfl := Option.some.inj hi
            have h4 : vs 4 = _ := hv 4 (by decide)
            simp only [relF, List.getD_cons_zero, List.getD_cons_succ, List.foldl_cons, List.foldl_nil, dstAt, List.getElem?_cons_zero, List.getElem?_cons_succ, Option.bind_some]
            go_frame
            rw [h4]
            go_wp2_with fail
            exact ⟨rfl, Below.refl _ _, rfl, rfl⟩
          | n + 6, him, _ => exact absurd him (by omega)
        · intro wz b2 vs hv
          have hL2 := HLR.out.below b2
          have h5 : vs 5 = _ := hv 5 (by decide)
          simp only [relF, List.length_cons, List.length_nil, Nat.zero_add, Nat.reduceAdd, List.range, List.range.loop, List.foldl_cons, List.foldl_nil, dstAt, List.getElem?_cons_zero, List.getElem?_cons_succ, Option.bind_some]
          go_frame
          rw [h5]
          go_wp2_with fail
          go_ret
          exact ⟨by rw [HRT.out]; rfl, Bwr.trans (b2.mono Bwr.size)⟩
  · have htn : ((sd.length : Int) != (m : Int)) = true := by rw [bne_iff_ne]; omega
    have hde : decide (sd.length = P.length) = false := decide_eq_false (by rw [HPM.out]; exact hne)
    have hRf : R = false := by rw [HR.out, hde, Bool.false_and]
    have HRF := Lib.hid hRf; clear hRf
    go_wp2_with fail
    go_ret
    exact ⟨by rw [HRF.out]; rfl, B1⟩

end Go.Proofs.YteljlnkjdajkgaaDoor
