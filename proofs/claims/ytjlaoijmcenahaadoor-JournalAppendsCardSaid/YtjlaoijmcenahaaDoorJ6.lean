/- The walks of the reference's Read, Append, All, Few. -/
import Derived.Test.YtjlaoijmcenahaaDoorG8a
import Derived.Test.YtjlaoijmcenahaaDoorRefGet
namespace Go.Proofs.YtjlaoijmcenahaaDoor
open Go.RowKit
set_option linter.unusedSimpArgs false
set_option linter.unusedVariables false

/-- What a record is read as. -/
def recF : FieldV := { zeroField with kind := 2, most := 65536 }
theorem recF_ok : recF.ok :=
  ⟨(by decide : (-9223372036854775808 : Int) ≤ 2), (by decide : (2 : Int) ≤ 9223372036854775807), (by decide : (-9223372036854775808 : Int) ≤ 65536), (by decide : (65536 : Int) ≤ 9223372036854775807), (by decide : (0 : Nat) < 18446744073709551616), (by decide : (-9223372036854775808 : Int) ≤ 0), (by decide : (0 : Int) ≤ 9223372036854775807), Nat.zero_le _, rfl⟩
theorem recF_built : Tryd.prog.built 52 [(0, .int .i64 2), (1, .int .i64 65536)] = some recF.cells.toArray := by kernel_rfl

theorem refV_txt (l : List UInt8) : refV recF l = match Wire.txt 65536 l with
    | (some t, k, _) => ({ zeroField with kind := 2, s := strOf t }, k, 0)
    | (none, _, er) => (zeroField, 0, er) := by
  unfold refV Wire.txt
  have e1 : recF.kind = 2 := rfl
  have e2 : recF.most = 65536 := rfl
  rw [e1, e2]
  rw [if_neg (by decide)]
  by_cases h1 : (Wire.dec 0 0 l).2.2 ≠ 0
  · simp only [if_pos h1]
  · simp only [if_neg h1]
    rw [if_neg (by decide), if_neg (by decide)]
    by_cases h2 : (65536 : Int) < 0 ∨ (65536 : Int) < ((Wire.dec 0 0 l).1 : Int)
    · simp only [if_pos h2]
    · simp only [if_neg h2]
      by_cases h3 : l.length < (Wire.dec 0 0 l).2.1 + (Wire.dec 0 0 l).1
      · simp only [if_pos h3]
      · simp only [if_neg h3]

theorem owns_empty (w : World) (e : TypeId) : (w.alloc (.cells #[] e)).ownsRow w.heap.size e 1 (.slice (some ⟨w.heap.size, 0, none⟩) 0 0) 0 [] :=
  ⟨rfl, .inr ⟨w.heap.size, 0, #[], rfl, Nat.le_refl _, heap_alloc_new w _, Nat.le_refl _, by decide, rfl, rfl⟩⟩

/-- What the region's operations leave. -/
def rjN (u k : Nat) (log S : List UInt8) (ix : Nat) (w : World) (v : Value) : Prop :=
  match ix with
  | 0 => v = .string (strOf log)
  | 1 => v = .int .i64 (u : Int)
  | 2 => v = .int .i64 (k : Int)
  | 3 => v = .int .i64 (((u + k : Nat) : Int))
  | 4 => v = .int .i64 (u : Int)
  | 5 => v = .int .i64 (k : Int)
  | 6 => v = .int .i64 (((u + k : Nat) : Int))
  | 7 => v = .int .i64 (((u + k + 8 : Nat) : Int))
  | 8 => v = .string (strOf ((log.drop (u + k)).take 8))
  | 9 => v = .string (strOf S)
  | 10 => v = .string (strOf (S.take 8))
  | 11 => v = .bool true
  | _ => True

theorem rjN_mono (u k : Nat) (log S : List UInt8) (jx : Nat) (w w' : World) (v : Value) (hb : Below w.heap.size w w') (h : rjN u k log S jx w v) : rjN u k log S jx w' v := by
  match jx, h with
  | 0, h => exact h
  | 1, h => exact h
  | 2, h => exact h
  | 3, h => exact h
  | 4, h => exact h
  | 5, h => exact h
  | 6, h => exact h
  | 7, h => exact h
  | 8, h => exact h
  | 9, h => exact h
  | 10, h => exact h
  | 11, h => exact h
  | _ + 12, h => exact trivial

/-- What the region's operations leave. -/
def rjQ (u k : Nat) (log S : List UInt8) (ix : Nat) (w : World) (v : Value) : Prop :=
  match ix with
  | 0 => v = .string (strOf log)
  | 1 => v = .int .i64 (u : Int)
  | 2 => v = .int .i64 (k : Int)
  | 3 => v = .int .i64 (((u + k : Nat) : Int))
  | 4 => v = .int .i64 (u : Int)
  | 5 => v = .int .i64 (k : Int)
  | 6 => v = .int .i64 (((u + k : Nat) : Int))
  | 7 => v = .int .i64 (((u + k + 8 : Nat) : Int))
  | 8 => v = .string (strOf ((log.drop (u + k)).take 8))
  | 9 => v = .string (strOf S)
  | 10 => v = .string (strOf (S.take 8))
  | 11 => v = .bool false
  | _ => True

theorem rjQ_mono (u k : Nat) (log S : List UInt8) (jx : Nat) (w w' : World) (v : Value) (hb : Below w.heap.size w w') (h : rjQ u k log S jx w v) : rjQ u k log S jx w' v := by
  match jx, h with
  | 0, h => exact h
  | 1, h => exact h
  | 2, h => exact h
  | 3, h => exact h
  | 4, h => exact h
  | 5, h => exact h
  | 6, h => exact h
  | 7, h => exact h
  | 8, h => exact h
  | 9, h => exact h
  | 10, h => exact h
  | 11, h => exact h
  | _ + 12, h => exact trivial

set_option maxRecDepth 100000 in
set_option maxHeartbeats 8000000 in
theorem refJread_any (w : World) (log : List UInt8) (hl : log.length ≤ 100000) :
    Calls Tryd.prog 13 #[.string (strOf log)] w fun e w' => ∃ q c k, e = .returned (.tuple #[.slice q k c, .int .i64 ((J.read J.zero log).2.1 : Int), .string (strOf (J.read J.zero log).2.2)]) ∧ StrsAt w' q k c (J.read J.zero log).1 ∧ Below w.heap.size w w' := by
  obtain ⟨i0, hi, hz0, hz1, hz2⟩ := info_parts Tryd.info_string
  have HI0 := Lib.hid hi; clear hi
  have HZ0 := Lib.hid hz0; clear hz0
  have HZ1 := Lib.hid hz1; clear hz1
  have HZ2 := Lib.hid hz2; clear hz2
  have hst := strOf_size log
  have HRI : Hid (J.read J.zero log = ([] ++ (J.read J.zero (log.drop 0)).1, 0 + (J.read J.zero (log.drop 0)).2.1, (J.read J.zero (log.drop 0)).2.2)) := Lib.hid (by simp)
  have hrc := read_count log.length J.zero log (Nat.le_refl _)
  have HRC := Lib.hid hrc; clear hrc
  obtain ⟨R, hR⟩ : ∃ R, R = J.read J.zero log := ⟨_, rfl⟩
  rw [← hR] at HRI HRC ⊢
  clear hR
  obtain ⟨W1, hW1⟩ : ∃ W1, W1 = w.alloc (.cells #[] 9) := ⟨_, rfl⟩
  have b1 : Below w.heap.size w W1 := by rw [hW1]; exact (Below.refl _ _).alloc (Nat.le_refl _) _
  have o1 : W1.ownsRow w.heap.size 9 1 (.slice (some ⟨w.heap.size, 0, none⟩) 0 0) 0 [] := by rw [hW1]; exact owns_empty w _
  have HW1 := Lib.hid hW1; clear hW1
  go_enter Tryd.func13, Tryd.ntmps13
  go_wp2_with fail
  rw [← HW1.out]
  refine (refBegin_any W1).mono ?_
  rintro e w2 ⟨rfl, b2⟩
  have B2 := b1.trans (b2.mono b1.size)
  have o2 := ownsRow_below o1 fun k' hk' => b2.block k' (o1.lt k' hk').2
  have O2 := Lib.hid o2; clear o2 o1 b2 b1 HW1
  go_wp2_with fail
  go_loopw [5, 6, 7] (fun vo vu vl wr => ∃ (q : Option Addr) (c : Nat) (ts : List (List UInt8)) (u : Nat) (la : List UInt8), vo = .slice q ts.length c ∧ vu = .int .i64 (u : Int) ∧ vl = .string (strOf la) ∧ u ≤ log.length ∧ la.length = 32 ∧ Hid (R = (ts ++ (J.read la (log.drop u)).1, u + (J.read la (log.drop u)).2.1, (J.read la (log.drop u)).2.2)) ∧ Hid (wr.ownsRow w.heap.size 9 1 (.slice q ts.length c) ts.length (strCells ts)) ∧ Below w.heap.size w wr) (fun _ vu _ _ => log.length - (intOf vu).toNat)
  case atStart => exact ⟨_, _, [], 0, J.zero, rfl, rfl, rfl, Nat.zero_le _, J.zero_len, HRI, O2, B2⟩
  case round =>
    clear O2 B2 HRI
    obtain ⟨q, c, ts, u, la, rfl, rfl, rfl, hu, hla, HRE, OW, Br⟩ := hrel
    have HLA := Lib.hid hla; clear hla
    have hts : ts.length ≤ 100000 := by
      have := HRC.out
      rw [HRE.out] at this
      simp only [List.length_append] at this
      omega
    obtain ⟨l, hl0⟩ : ∃ l, l = log.drop u := ⟨_, rfl⟩
    have hll : l.length + u = log.length := by rw [hl0, List.length_drop]; omega
    have hext := strOf_from log u
    rw [← hl0] at hext HRE
    have HDR := Lib.hid hl0; clear hl0
    have hget := refGet_any recF recF_ok (strOf l) (by rw [strOf_size]; unfold maxLen; omega) wr
    rw [strOf_list, refV_txt, ← hext] at hget
    rcases htxt : Wire.txt 65536 l with ⟨_ | t, k, er⟩
    · rw [htxt] at hget
      simp only at hget
      have her : er ≠ 0 := by have := (Wire.txt_facts 65536 l).2; rw [htxt] at this; exact this rfl
      obtain ⟨ei, hei⟩ : ∃ ei : Int, ei = (er : Int) := ⟨_, rfl⟩
      rw [← hei] at hget
      have her' : (ei == 0) = false := by rw [beq_eq_false_iff_ne]; omega
      have her2 : (ei != 0) = true := by rw [bne_iff_ne]; omega
      have her3 : decide (ei = 0) = false := decide_eq_false (by omega)
      clear hei
      obtain ⟨G, hG⟩ : ∃ G : FieldV, G = zeroField := ⟨_, rfl⟩
      have HGS := Lib.hid (field_size (f := G) (by rw [hG]; rfl))
      have HGA := Lib.hid (field_all G)
      rw [← hG] at hget
      have HG := Lib.hid hget; clear hget hext hG
      go_wp2_with (first | ((with_reducible show wpList _ _ _ (⟨some 18, _, _, _, _, _⟩ :: _) _ _); refine wpList_build2 (o := ⟨some 18, _, _, _, _, _⟩) rfl _ _ _ _ _ rfl _ _ rfl rfl recF.cells.toArray recF_built ?_) | ((with_reducible show wpList _ _ _ (⟨none, .store 52 (.tmp 8) _, _, _, _, _⟩ :: _) _ _); change wpList _ _ _ _ _ (World.alloc w1 (.cells zeroField.cells.toArray 52)); refine wpList_store_row (o := ⟨none, .store 52 _ _, _, _, _, _⟩) rfl _ _ _ rfl w1.heap.size G.cells.toArray rfl rfl _ zeroField.cells.toArray (heap_alloc_new w1 _) (by rw [HGS.out]; exact Tryd.size_field) (by rw [HGS.out]; rfl) HGA.out ?_; rw [← HW5.out]))
      refine HG.out.mono ?_
      rintro e w1 ⟨rfl, b1⟩
      obtain ⟨W5, hW5⟩ : ∃ W5, W5 = (w1.alloc (.cells zeroField.cells.toArray 52)).setRow w1.heap.size G.cells.toArray := ⟨_, rfl⟩
      have Bw : Below wr.heap.size wr W5 := by rw [hW5]; exact b1.trans ((below_setRow' ((Below.refl w1.heap.size w1).alloc (Nat.le_refl _) _) (Nat.le_refl _)).mono b1.size)
      have HW5 := Lib.hid hW5; clear hW5 b1 HG
      go_wp2_with (first | ((with_reducible show wpList _ _ _ (⟨some 18, _, _, _, _, _⟩ :: _) _ _); refine wpList_build2 (o := ⟨some 18, _, _, _, _, _⟩) rfl _ _ _ _ _ rfl _ _ rfl rfl recF.cells.toArray recF_built ?_) | ((with_reducible show wpList _ _ _ (⟨none, .store 52 (.tmp 8) _, _, _, _, _⟩ :: _) _ _); change wpList _ _ _ _ _ (World.alloc w1 (.cells zeroField.cells.toArray 52)); refine wpList_store_row (o := ⟨none, .store 52 _ _, _, _, _, _⟩) rfl _ _ _ rfl w1.heap.size G.cells.toArray rfl rfl _ zeroField.cells.toArray (heap_alloc_new w1 _) (by rw [HGS.out]; exact Tryd.size_field) (by rw [HGS.out]; rfl) HGA.out ?_; rw [← HW5.out]))
      have hrd0 := HRE.out
      rw [J.read_none (J.step_bad htxt)] at hrd0
      simp only [List.append_nil, Nat.add_zero] at hrd0
      have HRD := Lib.hid hrd0; clear hrd0
      have hst8 := StrsAt.of_owns (d := ts) rfl (ownsRow_below OW.out fun k' hk' => Bw.block k' (OW.out.lt k' hk').2)
      have HST8 := Lib.hid hst8; clear hst8
      go_wp2_with fail
      go_ret3
      exact ⟨_, _, _, by rw [HRD.out]; rfl, by rw [HRD.out]; exact HST8.out, Br.trans (Bw.mono Br.size)⟩
    · obtain ⟨hft, -⟩ := Wire.txt_facts 65536 l
      rw [htxt] at hft
      obtain rfl : er = 0 := hft t rfl
      have hkl := Wire.txt_len 65536 l
      rw [htxt] at hkl
      simp only at hkl
      rw [htxt] at hget
      simp only at hget
      obtain ⟨ht16, -⟩ := J.txt_inv htxt
      have HTX := Lib.hid htxt.symm
      clear htxt hft
      obtain ⟨G, hG⟩ : ∃ G : FieldV, G = { zeroField with kind := 2, s := strOf t } := ⟨_, rfl⟩
      have HGS := Lib.hid (field_size (f := G) (by rw [hG]; rfl))
      have HGA := Lib.hid (field_all G)
      have hGs : G.s = strOf t := by rw [hG]
      rw [← hG] at hget
      have HGE := Lib.hid hGs; clear hGs
      have HG := Lib.hid hget; clear hget hext hG
      go_wp2_with (first | ((with_reducible show wpList _ _ _ (⟨some 18, _, _, _, _, _⟩ :: _) _ _); refine wpList_build2 (o := ⟨some 18, _, _, _, _, _⟩) rfl _ _ _ _ _ rfl _ _ rfl rfl recF.cells.toArray recF_built ?_) | ((with_reducible show wpList _ _ _ (⟨none, .store 52 (.tmp 8) _, _, _, _, _⟩ :: _) _ _); change wpList _ _ _ _ _ (World.alloc w1 (.cells zeroField.cells.toArray 52)); refine wpList_store_row (o := ⟨none, .store 52 _ _, _, _, _, _⟩) rfl _ _ _ rfl w1.heap.size G.cells.toArray rfl rfl _ zeroField.cells.toArray (heap_alloc_new w1 _) (by rw [HGS.out]; exact Tryd.size_field) (by rw [HGS.out]; rfl) HGA.out ?_; rw [← HW5.out]))
      refine HG.out.mono ?_
      rintro e w1 ⟨rfl, b1⟩
      obtain ⟨W5, hW5⟩ : ∃ W5, W5 = (w1.alloc (.cells zeroField.cells.toArray 52)).setRow w1.heap.size G.cells.toArray := ⟨_, rfl⟩
      have Bw : Below wr.heap.size wr W5 := by rw [hW5]; exact b1.trans ((below_setRow' ((Below.refl w1.heap.size w1).alloc (Nat.le_refl _) _) (Nat.le_refl _)).mono b1.size)
      have x5 : W5.heap[w1.heap.size]? = some (.cells G.cells.toArray 52 (0, 0)) := by rw [hW5]; exact setRow_heap _ _ _ _ _ _ (heap_alloc_new w1 _)
      have hd4 : W5.cell? ⟨w1.heap.size, 4, none⟩ = some (.string (strOf t)) := by rw [(field_cell x5).2.2.2.2.1, HGE.out]
      have X5 := Lib.hid x5; clear x5
      have HW5 := Lib.hid hW5; clear hW5 b1 HG
      by_cases h8 : log.length < u + k + 8
      · have t8 : decide ((log.length : Int) < (u : Int) + (k : Int) + 8) = true := decide_eq_true (by omega)
        have t8' : decide (log.length < u + k + 8) = true := decide_eq_true h8
        clear hd4
        go_wp2_with (first | ((with_reducible show wpList _ _ _ (⟨some 18, _, _, _, _, _⟩ :: _) _ _); refine wpList_build2 (o := ⟨some 18, _, _, _, _, _⟩) rfl _ _ _ _ _ rfl _ _ rfl rfl recF.cells.toArray recF_built ?_) | ((with_reducible show wpList _ _ _ (⟨none, .store 52 (.tmp 8) _, _, _, _, _⟩ :: _) _ _); change wpList _ _ _ _ _ (World.alloc w1 (.cells zeroField.cells.toArray 52)); refine wpList_store_row (o := ⟨none, .store 52 _ _, _, _, _, _⟩) rfl _ _ _ rfl w1.heap.size G.cells.toArray rfl rfl _ zeroField.cells.toArray (heap_alloc_new w1 _) (by rw [HGS.out]; exact Tryd.size_field) (by rw [HGS.out]; rfl) HGA.out ?_; rw [← HW5.out]))
        have hrd0 := HRE.out
        rw [J.read_none (J.step_short HTX.out.symm (by omega))] at hrd0
        simp only [List.append_nil, Nat.add_zero] at hrd0
        have HRD := Lib.hid hrd0; clear hrd0
        have hst8 := StrsAt.of_owns (d := ts) rfl (ownsRow_below OW.out fun k' hk' => Bw.block k' (OW.out.lt k' hk').2)
        have HST8 := Lib.hid hst8; clear hst8
        go_wp2_with fail
        go_ret3
        exact ⟨_, _, _, by rw [HRD.out]; rfl, by rw [HRD.out]; exact HST8.out, Br.trans (Bw.mono Br.size)⟩
      · have t8 : decide ((log.length : Int) < (u : Int) + (k : Int) + 8) = false := decide_eq_false (by omega)
        have t8' : decide (log.length < u + k + 8) = false := decide_eq_false h8
        have hsum := refJsum_any W5 la t (by have := HLA.out; omega) (by omega)
        obtain ⟨S, hS⟩ : ∃ S, S = J.sum la t := ⟨_, rfl⟩
        rw [← hS] at hsum
        have hsl : S.length = 32 := by rw [hS]; exact J.sum_len la t
        have HS32 := Lib.hid hsl; clear hsl
        have HSS := Lib.hid (strOf_size S)
        have HSE := Lib.hid hS; clear hS
        have HSUM := Lib.hid hsum; clear hsum
        have HB6 : Hid (u + k + 8 ≤ log.length) := Lib.hid (by omega)
        go_wp2_with (first | ((with_reducible show wpList _ _ _ (⟨some 18, _, _, _, _, _⟩ :: _) _ _); refine wpList_build2 (o := ⟨some 18, _, _, _, _, _⟩) rfl _ _ _ _ _ rfl _ _ rfl rfl recF.cells.toArray recF_built ?_) | ((with_reducible show wpList _ _ _ (⟨none, .store 52 (.tmp 8) _, _, _, _, _⟩ :: _) _ _); change wpList _ _ _ _ _ (World.alloc w1 (.cells zeroField.cells.toArray 52)); refine wpList_store_row (o := ⟨none, .store 52 _ _, _, _, _, _⟩) rfl _ _ _ rfl w1.heap.size G.cells.toArray rfl rfl _ zeroField.cells.toArray (heap_alloc_new w1 _) (by rw [HGS.out]; exact Tryd.size_field) (by rw [HGS.out]; rfl) HGA.out ?_; rw [← HW5.out]))
        refine HSUM.out.mono ?_
        rintro e w4 ⟨rfl, b4⟩
        have HD4 := Lib.hid ((b4.cell (p := ⟨w1.heap.size, 4, none⟩) (lt_of_block X5.out)).trans hd4)
        clear hd4 HSUM
        have X54 := (b4.block _ (lt_of_block X5.out)).trans X5.out
        replace X5 := Lib.hid X54; clear X54
        replace Bw := Bw.trans (b4.mono Bw.size)
        clear b4 HW5
        by_cases he : (log.drop (u + k)).take 8 = S.take 8
        · have h3 : ((strOf ((log.drop (u + k)).take 8)).toList == (strOf (S.take 8)).toList) = true := by rw [he]; simp
          have HNE := Lib.hid h3; clear h3
          have HN2 := Lib.hid he; clear he
          go_wp2_with fail
          refine wp_region_rel [[], [], [], [1, 2], [], [], [4, 5], [6], [0, 3, 7], [], [9], [8, 10]] (rjQ u k log S) 66 (by kernel_rfl) (by kernel_rfl) (by kernel_rfl) (rjQ_mono u k log S) ?_ ?_
          · intro ix op hi w6 b2 vs hv
            have him : ix < 12 := (List.getElem?_eq_some_iff.1 hi).1
            have hb6 := HB6.out
            have hs32 := HS32.out
            have hss := HSS.out
            match ix, him, hi with
            | 0, _, hi =>
              obtain rfl := Option.some.inj hi
              simp only [relF, List.getD_cons_zero, List.getD_cons_succ, List.foldl_cons, List.foldl_nil, dstAt, List.getElem?_cons_zero, List.getElem?_cons_succ, Option.bind_some]
              go_wp2_with fail
              exact ⟨rfl, Below.refl _ _, rfl, rfl⟩
            | 1, _, hi =>
              obtain rfl := Option.some.inj hi
              simp only [relF, List.getD_cons_zero, List.getD_cons_succ, List.foldl_cons, List.foldl_nil, dstAt, List.getElem?_cons_zero, List.getElem?_cons_succ, Option.bind_some]
              go_wp2_with fail
              exact ⟨rfl, Below.refl _ _, rfl, rfl⟩
            | 2, _, hi =>
              obtain rfl := Option.some.inj hi
              simp only [relF, List.getD_cons_zero, List.getD_cons_succ, List.foldl_cons, List.foldl_nil, dstAt, List.getElem?_cons_zero, List.getElem?_cons_succ, Option.bind_some]
              go_wp2_with fail
              exact ⟨rfl, Below.refl _ _, rfl, rfl⟩
            | 3, _, hi =>
              obtain rfl := Option.some.inj hi
              have h1 : vs 1 = _ := hv 1 (by decide)
              have h2 : vs 2 = _ := hv 2 (by decide)
              simp only [relF, List.getD_cons_zero, List.getD_cons_succ, List.foldl_cons, List.foldl_nil, dstAt, List.getElem?_cons_zero, List.getElem?_cons_succ, Option.bind_some]
              go_frame
              rw [h1, h2]
              go_wp2_with fail
              exact ⟨rfl, Below.refl _ _, rfl, by first | rfl | (show slotOf _ _ = _; simp [slotOf]; done) | (show slotOf _ _ = _; simp [slotOf]; omega)⟩
            | 4, _, hi =>
              obtain rfl := Option.some.inj hi
              simp only [relF, List.getD_cons_zero, List.getD_cons_succ, List.foldl_cons, List.foldl_nil, dstAt, List.getElem?_cons_zero, List.getElem?_cons_succ, Option.bind_some]
              go_wp2_with fail
              exact ⟨rfl, Below.refl _ _, rfl, rfl⟩
            | 5, _, hi =>
              obtain rfl := Option.some.inj hi
              simp only [relF, List.getD_cons_zero, List.getD_cons_succ, List.foldl_cons, List.foldl_nil, dstAt, List.getElem?_cons_zero, List.getElem?_cons_succ, Option.bind_some]
              go_wp2_with fail
              exact ⟨rfl, Below.refl _ _, rfl, rfl⟩
            | 6, _, hi =>
              obtain rfl := Option.some.inj hi
              have h4 : vs 4 = _ := hv 4 (by decide)
              have h5 : vs 5 = _ := hv 5 (by decide)
              simp only [relF, List.getD_cons_zero, List.getD_cons_succ, List.foldl_cons, List.foldl_nil, dstAt, List.getElem?_cons_zero, List.getElem?_cons_succ, Option.bind_some]
              go_frame
              rw [h4, h5]
              go_wp2_with fail
              exact ⟨rfl, Below.refl _ _, rfl, by first | rfl | (show slotOf _ _ = _; simp [slotOf]; done) | (show slotOf _ _ = _; simp [slotOf]; omega)⟩
            | 7, _, hi =>
              obtain rfl := Option.some.inj hi
              have h6 : vs 6 = _ := hv 6 (by decide)
              simp only [relF, List.getD_cons_zero, List.getD_cons_succ, List.foldl_cons, List.foldl_nil, dstAt, List.getElem?_cons_zero, List.getElem?_cons_succ, Option.bind_some]
              go_frame
              rw [h6]
              go_wp2_with fail
              exact ⟨rfl, Below.refl _ _, rfl, by first | rfl | (show slotOf _ _ = _; simp [slotOf]; done) | (show slotOf _ _ = _; simp [slotOf]; omega)⟩
            | 8, _, hi =>
              obtain rfl := Option.some.inj hi
              have h0 : vs 0 = _ := hv 0 (by decide)
              have h3 : vs 3 = _ := hv 3 (by decide)
              have h7 : vs 7 = _ := hv 7 (by decide)
              have hx := strOf_extract log (u + k) (u + k + 8)
              rw [Nat.add_sub_cancel_left] at hx
              simp only [relF, List.getD_cons_zero, List.getD_cons_succ, List.foldl_cons, List.foldl_nil, dstAt, List.getElem?_cons_zero, List.getElem?_cons_succ, Option.bind_some]
              go_frame
              rw [h0, h3, h7]
              go_wp2_with fail
              exact ⟨rfl, Below.refl _ _, rfl, by first | rfl | (show slotOf _ _ = _; simp [slotOf, strOf_extract]; done) | (show slotOf _ _ = _; simp only [slotOf]; first | rfl | (simp [hx]; done) | (simp [strOf_extract]; omega))⟩
            | 9, _, hi =>
              obtain rfl := Option.some.inj hi
              simp only [relF, List.getD_cons_zero, List.getD_cons_succ, List.foldl_cons, List.foldl_nil, dstAt, List.getElem?_cons_zero, List.getElem?_cons_succ, Option.bind_some]
              go_wp2_with fail
              exact ⟨rfl, Below.refl _ _, rfl, rfl⟩
            | 10, _, hi =>
              obtain rfl := Option.some.inj hi
              have h9 : vs 9 = _ := hv 9 (by decide)
              have hx := strOf_extract S 0 8
              rw [Nat.sub_zero, List.drop_zero] at hx
              simp only [relF, List.getD_cons_zero, List.getD_cons_succ, List.foldl_cons, List.foldl_nil, dstAt, List.getElem?_cons_zero, List.getElem?_cons_succ, Option.bind_some]
              go_frame
              rw [h9]
              go_wp2_with fail
              exact ⟨rfl, Below.refl _ _, rfl, by first | rfl | (show slotOf _ _ = _; simp [slotOf, strOf_extract]; done) | (show slotOf _ _ = _; simp only [slotOf]; first | rfl | (simp [hx]; done) | (simp [strOf_extract]; omega))⟩
            | 11, _, hi =>
              obtain rfl := Option.some.inj hi
              have h8 : vs 8 = _ := hv 8 (by decide)
              have h10 : vs 10 = _ := hv 10 (by decide)
              have hse := HNE.out
              simp only [relF, List.getD_cons_zero, List.getD_cons_succ, List.foldl_cons, List.foldl_nil, dstAt, List.getElem?_cons_zero, List.getElem?_cons_succ, Option.bind_some]
              go_frame
              rw [h8, h10]
              go_wp2_with fail
              exact ⟨rfl, Below.refl _ _, rfl, rfl⟩
            | nx + 12, him, _ => exact absurd him (by omega)
          · intro w6 b2 vs hv
            have hb6 := HB6.out
            have hs32 := HS32.out
            have hss := HSS.out
            have h11 : vs 11 = _ := hv 11 (by decide)
            simp only [relF, List.drop_succ_cons, List.drop_zero, List.length_cons, List.length_nil, Nat.zero_add, Nat.reduceAdd, List.range, List.range.loop, List.foldl_cons, List.foldl_nil, dstAt, List.getElem?_cons_zero, List.getElem?_cons_succ, Option.bind_some]
            go_frame
            rw [h11]
            have hn8 := ownsRow_below OW.out fun k' hk' => (Bw.trans (b2.mono Bw.size)).block k' (OW.out.lt k' hk').2
            have OW6 := Lib.hid hn8; clear hn8
            have d46 := (b2.cell (p := ⟨w1.heap.size, 4, none⟩) (lt_of_block X5.out)).trans HD4.out
            have hrn := HRE.out
            rw [J.read_some (J.step_good HTX.out.symm (by omega) (by rw [← HSE.out, HDR.out, List.drop_drop]; exact HN2.out)), ← HSE.out, HDR.out, List.drop_drop] at hrn
            simp only at hrn
            have HRN : Hid (R = (ts ++ (t :: (J.read S (log.drop (u + k + 8))).1), u + k + 8 + (J.read S (log.drop (u + k + 8))).2.1, (J.read S (log.drop (u + k + 8))).2.2)) := Lib.hid (by rw [hrn]; simp only [Nat.add_assoc])
            clear hrn hv
            have B6 := Br.trans ((Bw.trans (b2.mono Bw.size)).mono Br.size)
            have hws := B6.size
            go_wp2_with (at_builtin; refine wpList_append_own _ rfl _ _ 23 rfl w.heap.size 9 i0 (.string ⟨#[]⟩) 1 16 Tryd.under_strs HI0.out HZ0.out HZ1.out HZ2.out rfl (by decide) _ _ _ rfl (OW6.out.alloc _) ⟨w6.heap.size, 0, none⟩ 1 1 [.string (strOf t)] rfl rfl (cell_one_new _ _ _) (one_str _) (by unfold maxLen; omega) (by omega) (by simp; omega) ?_)
            intro v' w7 hown' hgrow _
            obtain ⟨p', c', rfl⟩ := ownsRow_slice hown'
            have hb7 : Below w.heap.size w w7 := B6.trans (by
              refine ⟨hgrow.os, hgrow.tape, hgrow.output, by have := hgrow.size; simp at this; omega, fun k' hk' => ?_⟩
              rw [hgrow.block k' (by simp; omega) (fun e => by have := (OW6.out.lt k' e.symm).1; omega)]
              exact Below.heap_alloc _ _ _ (by omega))
            have HO7 := Lib.hid hown'; clear hown' hgrow
            have HB7 := Lib.hid hb7; clear hb7
            go_wp2_with fail
            go_roundw
            case rel =>
              refine ⟨p', c', ts ++ [t], u + k + 8, S, by rw [List.length_append]; rfl, by go_num, rfl, by omega, HS32.out, Lib.hid ?_, Lib.hid ?_, HB7.out⟩
              · rw [HRN.out, List.append_assoc]; rfl
              · rw [List.length_append, strCells_app]; exact HO7.out
            case measure => simp [intOf]; omega
        · have h3 : ((strOf ((log.drop (u + k)).take 8)).toList == (strOf (S.take 8)).toList) = false := by rw [strOf_toList, strOf_toList, beq_eq_false_iff_ne]; exact he
          have HNE := Lib.hid h3; clear h3
          have HN2 := Lib.hid he; clear he
          go_wp2_with fail
          refine wp_region_rel [[], [], [], [1, 2], [], [], [4, 5], [6], [0, 3, 7], [], [9], [8, 10]] (rjN u k log S) 66 (by kernel_rfl) (by kernel_rfl) (by kernel_rfl) (rjN_mono u k log S) ?_ ?_
          · intro ix op hi w6 b2 vs hv
            have him : ix < 12 := (List.getElem?_eq_some_iff.1 hi).1
            have hb6 := HB6.out
            have hs32 := HS32.out
            have hss := HSS.out
            match ix, him, hi with
            | 0, _, hi =>
              obtain rfl := Option.some.inj hi
              simp only [relF, List.getD_cons_zero, List.getD_cons_succ, List.foldl_cons, List.foldl_nil, dstAt, List.getElem?_cons_zero, List.getElem?_cons_succ, Option.bind_some]
              go_wp2_with fail
              exact ⟨rfl, Below.refl _ _, rfl, rfl⟩
            | 1, _, hi =>
              obtain rfl := Option.some.inj hi
              simp only [relF, List.getD_cons_zero, List.getD_cons_succ, List.foldl_cons, List.foldl_nil, dstAt, List.getElem?_cons_zero, List.getElem?_cons_succ, Option.bind_some]
              go_wp2_with fail
              exact ⟨rfl, Below.refl _ _, rfl, rfl⟩
            | 2, _, hi =>
              obtain rfl := Option.some.inj hi
              simp only [relF, List.getD_cons_zero, List.getD_cons_succ, List.foldl_cons, List.foldl_nil, dstAt, List.getElem?_cons_zero, List.getElem?_cons_succ, Option.bind_some]
              go_wp2_with fail
              exact ⟨rfl, Below.refl _ _, rfl, rfl⟩
            | 3, _, hi =>
              obtain rfl := Option.some.inj hi
              have h1 : vs 1 = _ := hv 1 (by decide)
              have h2 : vs 2 = _ := hv 2 (by decide)
              simp only [relF, List.getD_cons_zero, List.getD_cons_succ, List.foldl_cons, List.foldl_nil, dstAt, List.getElem?_cons_zero, List.getElem?_cons_succ, Option.bind_some]
              go_frame
              rw [h1, h2]
              go_wp2_with fail
              exact ⟨rfl, Below.refl _ _, rfl, by first | rfl | (show slotOf _ _ = _; simp [slotOf]; done) | (show slotOf _ _ = _; simp [slotOf]; omega)⟩
            | 4, _, hi =>
              obtain rfl := Option.some.inj hi
              simp only [relF, List.getD_cons_zero, List.getD_cons_succ, List.foldl_cons, List.foldl_nil, dstAt, List.getElem?_cons_zero, List.getElem?_cons_succ, Option.bind_some]
              go_wp2_with fail
              exact ⟨rfl, Below.refl _ _, rfl, rfl⟩
            | 5, _, hi =>
              obtain rfl := Option.some.inj hi
              simp only [relF, List.getD_cons_zero, List.getD_cons_succ, List.foldl_cons, List.foldl_nil, dstAt, List.getElem?_cons_zero, List.getElem?_cons_succ, Option.bind_some]
              go_wp2_with fail
              exact ⟨rfl, Below.refl _ _, rfl, rfl⟩
            | 6, _, hi =>
              obtain rfl := Option.some.inj hi
              have h4 : vs 4 = _ := hv 4 (by decide)
              have h5 : vs 5 = _ := hv 5 (by decide)
              simp only [relF, List.getD_cons_zero, List.getD_cons_succ, List.foldl_cons, List.foldl_nil, dstAt, List.getElem?_cons_zero, List.getElem?_cons_succ, Option.bind_some]
              go_frame
              rw [h4, h5]
              go_wp2_with fail
              exact ⟨rfl, Below.refl _ _, rfl, by first | rfl | (show slotOf _ _ = _; simp [slotOf]; done) | (show slotOf _ _ = _; simp [slotOf]; omega)⟩
            | 7, _, hi =>
              obtain rfl := Option.some.inj hi
              have h6 : vs 6 = _ := hv 6 (by decide)
              simp only [relF, List.getD_cons_zero, List.getD_cons_succ, List.foldl_cons, List.foldl_nil, dstAt, List.getElem?_cons_zero, List.getElem?_cons_succ, Option.bind_some]
              go_frame
              rw [h6]
              go_wp2_with fail
              exact ⟨rfl, Below.refl _ _, rfl, by first | rfl | (show slotOf _ _ = _; simp [slotOf]; done) | (show slotOf _ _ = _; simp [slotOf]; omega)⟩
            | 8, _, hi =>
              obtain rfl := Option.some.inj hi
              have h0 : vs 0 = _ := hv 0 (by decide)
              have h3 : vs 3 = _ := hv 3 (by decide)
              have h7 : vs 7 = _ := hv 7 (by decide)
              have hx := strOf_extract log (u + k) (u + k + 8)
              rw [Nat.add_sub_cancel_left] at hx
              simp only [relF, List.getD_cons_zero, List.getD_cons_succ, List.foldl_cons, List.foldl_nil, dstAt, List.getElem?_cons_zero, List.getElem?_cons_succ, Option.bind_some]
              go_frame
              rw [h0, h3, h7]
              go_wp2_with fail
              exact ⟨rfl, Below.refl _ _, rfl, by first | rfl | (show slotOf _ _ = _; simp [slotOf, strOf_extract]; done) | (show slotOf _ _ = _; simp only [slotOf]; first | rfl | (simp [hx]; done) | (simp [strOf_extract]; omega))⟩
            | 9, _, hi =>
              obtain rfl := Option.some.inj hi
              simp only [relF, List.getD_cons_zero, List.getD_cons_succ, List.foldl_cons, List.foldl_nil, dstAt, List.getElem?_cons_zero, List.getElem?_cons_succ, Option.bind_some]
              go_wp2_with fail
              exact ⟨rfl, Below.refl _ _, rfl, rfl⟩
            | 10, _, hi =>
              obtain rfl := Option.some.inj hi
              have h9 : vs 9 = _ := hv 9 (by decide)
              have hx := strOf_extract S 0 8
              rw [Nat.sub_zero, List.drop_zero] at hx
              simp only [relF, List.getD_cons_zero, List.getD_cons_succ, List.foldl_cons, List.foldl_nil, dstAt, List.getElem?_cons_zero, List.getElem?_cons_succ, Option.bind_some]
              go_frame
              rw [h9]
              go_wp2_with fail
              exact ⟨rfl, Below.refl _ _, rfl, by first | rfl | (show slotOf _ _ = _; simp [slotOf, strOf_extract]; done) | (show slotOf _ _ = _; simp only [slotOf]; first | rfl | (simp [hx]; done) | (simp [strOf_extract]; omega))⟩
            | 11, _, hi =>
              obtain rfl := Option.some.inj hi
              have h8 : vs 8 = _ := hv 8 (by decide)
              have h10 : vs 10 = _ := hv 10 (by decide)
              have hse := HNE.out
              simp only [relF, List.getD_cons_zero, List.getD_cons_succ, List.foldl_cons, List.foldl_nil, dstAt, List.getElem?_cons_zero, List.getElem?_cons_succ, Option.bind_some]
              go_frame
              rw [h8, h10]
              go_wp2_with fail
              exact ⟨rfl, Below.refl _ _, rfl, rfl⟩
            | nx + 12, him, _ => exact absurd him (by omega)
          · intro w6 b2 vs hv
            have hb6 := HB6.out
            have hs32 := HS32.out
            have hss := HSS.out
            have h11 : vs 11 = _ := hv 11 (by decide)
            simp only [relF, List.drop_succ_cons, List.drop_zero, List.length_cons, List.length_nil, Nat.zero_add, Nat.reduceAdd, List.range, List.range.loop, List.foldl_cons, List.foldl_nil, dstAt, List.getElem?_cons_zero, List.getElem?_cons_succ, Option.bind_some]
            go_frame
            rw [h11]
            have hrd0 := HRE.out
            rw [J.read_none (J.step_tail HTX.out.symm (by rw [← HSE.out, HDR.out, List.drop_drop]; exact HN2.out))] at hrd0
            simp only [List.append_nil, Nat.add_zero] at hrd0
            have HRD := Lib.hid hrd0; clear hrd0
            have hst8 := StrsAt.of_owns (d := ts) rfl (ownsRow_below OW.out fun k' hk' => (Bw.trans (b2.mono Bw.size)).block k' (OW.out.lt k' hk').2)
            have HST8 := Lib.hid hst8; clear hst8
            clear hv
            go_wp2_with fail
            go_ret3
            exact ⟨_, _, _, by rw [HRD.out]; rfl, by rw [HRD.out]; exact HST8.out, Br.trans ((Bw.trans (b2.mono Bw.size)).mono Br.size)⟩

end Go.Proofs.YtjlaoijmcenahaaDoor
