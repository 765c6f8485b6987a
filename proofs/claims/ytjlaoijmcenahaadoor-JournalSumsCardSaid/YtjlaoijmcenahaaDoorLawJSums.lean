/- The walk of the law JournalSums. -/
import Derived.Test.YtjlaoijmcenahaaDoorG12a
import Derived.Test.YtjlaoijmcenahaaDoorG0c
namespace Go.Proofs.YtjlaoijmcenahaaDoor
open Go.RowKit
set_option linter.unusedSimpArgs false
set_option linter.unusedVariables false

theorem J.sums_succ {L : List (List UInt8)} {j : Nat} {l : List UInt8} (h : L[j]? = some l) (last : List UInt8) : J.sums last (L.take (j + 1)) = J.sum (J.sums last (L.take j)) l := by
  rw [List.take_add_one, h]
  simp [J.sums, List.foldl_append]

theorem J.sums_len {last : List UInt8} (h : last.length = 32) (L : List (List UInt8)) : (J.sums last L).length = 32 := by
  unfold J.sums
  induction L generalizing last with
  | nil => exact h
  | cons l L ih => exact ih (J.sum_len _ _)

theorem J.enc_tail {L : List (List UInt8)} {j : Nat} {l : List UInt8} (h : L[j]? = some l) : 8 ≤ (J.enc J.zero (L.take (j + 1))).length ∧ (J.enc J.zero (L.take (j + 1))).drop ((J.enc J.zero (L.take (j + 1))).length - 8) = (J.sums J.zero (L.take (j + 1))).take 8 := by
  have h1 : L.take (j + 1) = L.take j ++ [l] := by rw [List.take_add_one, h]; rfl
  rw [J.sums_succ h, h1, J.enc_snoc]
  have h8 := J.tail_len (J.sums J.zero (L.take j)) l
  unfold J.rec
  obtain ⟨T, hT⟩ : ∃ T, T = (J.sum (J.sums J.zero (L.take j)) l).take 8 := ⟨_, rfl⟩
  rw [← hT] at h8 ⊢
  rw [← List.append_assoc]
  refine ⟨by rw [List.length_append]; omega, ?_⟩
  rw [List.length_append, h8, Nat.add_sub_cancel, List.drop_left]

/-- What the region's operations leave. -/
def jsV (G b off mL cL j : Nat) (la l S : List UInt8) (ix : Nat) (w : World) (v : Value) : Prop :=
  match ix with
  | 0 => v = .agg (byteCells la).toArray
  | 1 => v = .slice (some ⟨b, off, none⟩) mL cL
  | 2 => v = .int .i64 (j : Int)
  | 3 => v = .pointer (some ⟨b, off + j, none⟩)
  | 4 => v = .string (strOf l)
  | 5 => v = .agg (byteCells S).toArray
  | _ => True

theorem jsV_mono (G b off mL cL j : Nat) (la l S : List UInt8) (jx : Nat) (w w' : World) (v : Value) (hb : Below w.heap.size w w') (h : jsV G b off mL cL j la l S jx w v) : jsV G b off mL cL j la l S jx w' v := by
  match jx, h with
  | 0, h => exact h
  | 1, h => exact h
  | 2, h => exact h
  | 3, h => exact h
  | 4, h => exact h
  | 5, h => exact h
  | _ + 6, h => exact trivial

/-- What the region's operations leave. -/
def jtV (G : Nat) (F S : List UInt8) (ix : Nat) (w : World) (v : Value) : Prop :=
  match ix with
  | 0 => v = .int .i64 (0)
  | 1 => v = .bool false
  | 2 => v = .bool false
  | 3 => v = .string (strOf F)
  | 4 => v = .int .i64 (F.length : Int)
  | 5 => v = .bool false
  | 6 => v = .bool false
  | 7 => v = .bool false
  | 8 => v = .string (strOf F)
  | 9 => v = .string (strOf F)
  | 10 => v = .int .i64 (F.length : Int)
  | 11 => v = .int .i64 (((F.length - 8 : Nat) : Int))
  | 12 => v = .string (strOf (F.drop (F.length - 8)))
  | 13 => v = .slice (some ⟨G, 0, none⟩) 8 32
  | 14 => v = .string (strOf (S.take 8))
  | 15 => v = .bool false
  | 16 => v = .bool false
  | _ => True

theorem jtV_mono (G : Nat) (F S : List UInt8) (jx : Nat) (w w' : World) (v : Value) (hb : Below w.heap.size w w') (h : jtV G F S jx w v) : jtV G F S jx w' v := by
  match jx, h with
  | 0, h => exact h
  | 1, h => exact h
  | 2, h => exact h
  | 3, h => exact h
  | 4, h => exact h
  | 5, h => exact h
  | 6, h => exact h
  | 7, h => exact h
  | 8, h => exact h
  | 9, h => exact h
  | 10, h => exact h
  | 11, h => exact h
  | 12, h => exact h
  | 13, h => exact h
  | 14, h => exact h
  | 15, h => exact h
  | 16, h => exact h
  | _ + 17, h => exact trivial

set_option maxRecDepth 100000 in
set_option maxHeartbeats 4000000 in
theorem jsums_list (w : World) (oL : Option Addr) (mL cL : Nat) (L : List (List UInt8)) (hL_ : StrsAt w oL mL cL L) (hxL : ∀ l ∈ L, l.length ≤ 9223372036854775807) (hL : Laid w) :
    Calls Tryd.prog 10 #[.slice oL mL cL] w fun e w' => e = .returned (.bool true) ∧ Below w.heap.size w w' := by
  have hmL : L.length = mL := hL_.len
  have hcL := hL_.cap
  have hyL := hL_.max
  have HLL := Lib.hid hL_; clear hL_
  have HXL := Lib.hid hxL; clear hxL
  have HL := Lib.hid hL; clear hL
  go_enter Tryd.func10, Tryd.ntmps10
  go_wp2_with fail
  refine (awake_any _ HL.out).mono ?_
  rintro e w1 ⟨rfl, b1⟩
  replace HL := Lib.hid (HL.out.below b1)
  replace HLL := Lib.hid (HLL.out.below (Nat.le_refl _) b1)
  rcases hf : few16 L with _ | _
  · have hfc := refFew_any w1 oL mL cL L HLL.out HXL.out
    rw [hf] at hfc
    have HFC := Lib.hid hfc; clear hfc hf
    go_wp2_with fail
    refine HFC.out.mono ?_
    rintro e w' ⟨rfl, rfl⟩
    go_wp2_with fail
    refine (awake_any _ HL.out).mono ?_
    rintro e w2 ⟨rfl, b2⟩
    go_wp2_with fail
    go_ret
    exact ⟨rfl, b1.trans (b2.mono b1.size)⟩
  · have hfc := refFew_any w1 oL mL cL L HLL.out HXL.out
    rw [hf] at hfc
    obtain ⟨h12, h300⟩ := few16_spec hf
    have HFC := Lib.hid hfc; clear hfc hf
    have H300 := Lib.hid h300; clear h300
    go_wp2_with fail
    refine HFC.out.mono ?_
    rintro e w' ⟨rfl, rfl⟩
    clear HFC
    have hn12 : mL ≤ 12 := by omega
    go_wp2_with fail
    go_loopw [3, 5] (fun s v wr => ∃ j : Nat, j ≤ mL ∧ s = .string (strOf (J.enc J.zero (L.take j))) ∧ v = .int .i64 (j : Int) ∧ Hid (wr.heap[w1.heap.size]? = some (.cells (byteCells (J.sums J.zero (L.take j))).toArray 31 (0, 0))) ∧ Below w1.heap.size w1 wr) (fun _ v _ => mL - (intOf v).toNat)
    case atStart => exact ⟨0, by omega, rfl, rfl, Lib.hid (heap_alloc_new w1 (.cells zero32 31)), (Below.refl _ _).alloc (Nat.le_refl _) _⟩
    case round =>
      obtain ⟨j, hj, rfl, rfl, xr, Br⟩ := hrel
      by_cases hlt : j < mL
      · have HLr0 := Lib.hid (HLL.out.below (Nat.le_refl _) Br)
        obtain ⟨b, off, rfl⟩ := HLL.out.form (by omega)
        obtain ⟨l, hl⟩ : ∃ l, L[j]? = some l := ⟨_, List.getElem?_eq_getElem (by omega)⟩
        have hcell := HLr0.out.get hl
        have hl3 := H300.out l (List.mem_of_getElem? hl)
        have htk : ∀ r ∈ L.take j, r.length ≤ 300 := fun r hr => H300.out r (List.mem_of_mem_take hr)
        have hel := J.enc_len (L.take j) J.zero htk
        have htl : (L.take j).length ≤ 12 := by rw [List.length_take]; omega
        have hc := journalAppend_any wr (J.enc J.zero (L.take j)) l (by omega) (by omega) (HL.out.below Br)
        have hap := J.append_enc (R := L.take j) (fun r hr => by have := htk r hr; omega) l
        rw [show L.take j ++ [l] = L.take (j + 1) by rw [List.take_add_one, hl]; rfl] at hap
        rw [hap] at hc
        have hla := J.sums_len J.zero_len (L.take j)
        have hS0 := J.sums_succ hl J.zero
        obtain ⟨hf8, htail⟩ := J.enc_tail hl
        have hel2 := J.enc_len (L.take (j + 1)) J.zero (fun r hr => H300.out r (List.mem_of_mem_take hr))
        have htl2 : (L.take (j + 1)).length ≤ 12 := by rw [List.length_take]; omega
        obtain ⟨la, hlae⟩ : ∃ la, la = J.sums J.zero (L.take j) := ⟨_, rfl⟩
        obtain ⟨S, hSe⟩ : ∃ S, S = J.sums J.zero (L.take (j + 1)) := ⟨_, rfl⟩
        obtain ⟨F, hFe⟩ : ∃ F, F = J.enc J.zero (L.take (j + 1)) := ⟨_, rfl⟩
        rw [← hSe, ← hlae] at hS0
        rw [← hlae] at hla
        rw [← hFe, ← hSe] at htail
        rw [← hFe] at hf8 hc hel2
        rw [← hlae] at xr
        have hsl : S.length = 32 := by rw [hS0]; exact J.sum_len _ _
        have hne : ((strOf (F.drop (F.length - 8))).toList == (strOf (S.take 8)).toList) = true := by rw [htail]; exact beq_self_eq_true _
        have HNE := Lib.hid hne; clear hne htail
        have HSE := Lib.hid hS0.symm; clear hS0
        have HSL := Lib.hid hsl; clear hsl
        have HLA := Lib.hid hla; clear hla
        have HSQ := Lib.hid hSe.symm; clear hSe
        have HFE := Lib.hid hFe; clear hFe
        have HF8 : Hid (8 ≤ F.length ∧ F.length ≤ 100000) := Lib.hid ⟨hf8, by omega⟩
        clear hf8 hel2 htl2
        have HJL := Lib.hid hl; clear hl
        have HLB : Hid (l.length ≤ 300) := Lib.hid hl3
        have HC := Lib.hid hc; clear hc htk hap hlae
        have t1 : decide ((j : Int) < (mL : Int)) = true := decide_eq_true (by omega)
        have t1' : decide (j < mL) = true := decide_eq_true hlt
        go_wp2_with fail
        refine HC.out.mono ?_
        rintro e w2 ⟨rfl, b2⟩
        have HB := Lib.hid (HLr0.out.below (Nat.le_refl _) b2)
        have XG := Lib.hid ((b2.block _ (lt_of_block xr.out)).trans xr.out)
        have Br2 := Br.trans (b2.mono Br.size)
        have HLr := Lib.hid (HL.out.below Br2)
        have hbs := Br2.size
        clear HC b2 hcell
        go_wp2_with fail
        refine wp_region_rel_tailM [[], [], [], [1, 2], [3], [0, 4], [5]] (jsV w1.heap.size b off mL cL j la l S) 55 6 (by kernel_rfl) (by kernel_rfl) (by kernel_rfl) (by kernel_rfl) (of_decide_eq_true (by kernel_rfl)) (jsV_mono w1.heap.size b off mL cL j la l S) ?_ ?_
        · intro ix op him hi w9 b9 vs hv
          have hL2 := HLr.out.below b9
          have hl3' := HLB.out
          match ix, him, hi with
          | 0, _, hi =>
            obtain rfl := Option.some.inj hi
            simp only [relF, List.getD_cons_zero, List.getD_cons_succ, List.foldl_cons, List.foldl_nil, dstAt, List.getElem?_cons_zero, List.getElem?_cons_succ, Option.bind_some]
            go_wp2_with ((with_reducible show wpList _ _ _ (⟨some 31, _, _, _, _, _⟩ :: _) _ _); refine wpList_load_hash (op := ⟨some 31, _, _, _, _, _⟩) (by kernel_rfl) _ rfl w1.heap.size rfl la HLA.out _ _ ((b9.block _ (lt_of_block XG.out)).trans XG.out) ?_)
            exact ⟨rfl, Below.refl _ _, rfl, rfl⟩
          | 1, _, hi =>
            obtain rfl := Option.some.inj hi
            simp only [relF, List.getD_cons_zero, List.getD_cons_succ, List.foldl_cons, List.foldl_nil, dstAt, List.getElem?_cons_zero, List.getElem?_cons_succ, Option.bind_some]
            go_wp2_with fail
            exact ⟨rfl, Below.refl _ _, rfl, rfl⟩
          | 2, _, hi =>
            obtain rfl := Option.some.inj hi
            simp only [relF, List.getD_cons_zero, List.getD_cons_succ, List.foldl_cons, List.foldl_nil, dstAt, List.getElem?_cons_zero, List.getElem?_cons_succ, Option.bind_some]
            go_wp2_with fail
            exact ⟨rfl, Below.refl _ _, rfl, rfl⟩
          | 3, _, hi =>
            obtain rfl := Option.some.inj hi
            have h1 : vs 1 = _ := hv 1 (by decide)
            have h2 : vs 2 = _ := hv 2 (by decide)
            simp only [relF, List.getD_cons_zero, List.getD_cons_succ, List.foldl_cons, List.foldl_nil, dstAt, List.getElem?_cons_zero, List.getElem?_cons_succ, Option.bind_some]
            go_frame
            rw [h1, h2]
            go_wp2_with fail
            exact ⟨rfl, Below.refl _ _, rfl, rfl⟩
          | 4, _, hi =>
            obtain rfl := Option.some.inj hi
            have h3 : vs 3 = _ := hv 3 (by decide)
            have hcell := (HB.out.below (Nat.le_refl _) b9).get HJL.out
            simp only [relF, List.getD_cons_zero, List.getD_cons_succ, List.foldl_cons, List.foldl_nil, dstAt, List.getElem?_cons_zero, List.getElem?_cons_succ, Option.bind_some]
            go_frame
            rw [h3]
            go_wp2_with fail
            exact ⟨rfl, Below.refl _ _, rfl, rfl⟩
          | 5, _, hi =>
            obtain rfl := Option.some.inj hi
            have h0 : vs 0 = _ := hv 0 (by decide)
            have h4 : vs 4 = _ := hv 4 (by decide)
            have hrn := jSum_any w9 la l HLA.out (by omega) hL2
            rw [HSE.out] at hrn
            simp only [relF, List.getD_cons_zero, List.getD_cons_succ, List.foldl_cons, List.foldl_nil, dstAt, List.getElem?_cons_zero, List.getElem?_cons_succ, Option.bind_some]
            go_frame
            rw [h0, h4]
            go_wp2_with fail
            refine (hrn).mono ?_
            rintro e w3 ⟨rfl, b3⟩
            go_wp2_with fail
            exact ⟨rfl, b3, rfl, rfl⟩
          | nx + 6, him, _ => exact absurd him (by omega)
        · intro w9 b9 vs hv
          have hL2 := HLr.out.below b9
          have hl3' := HLB.out
          have h0 : vs 0 = _ := hv 0 (by decide)
          have h5 : vs 5 = _ := hv 5 (by decide)
          simp only [relF, List.drop_succ_cons, List.drop_zero, List.length_cons, List.length_nil, Nat.zero_add, Nat.reduceAdd, List.range, List.range.loop, List.foldl_cons, List.foldl_nil, dstAt, List.getElem?_cons_zero, List.getElem?_cons_succ, Option.bind_some]
          go_frame
          rw [h0, h5]
          have z0 := (b9.block _ (lt_of_block XG.out)).trans XG.out
          obtain ⟨W9, hW9⟩ : ∃ W9, W9 = hset w9 w1.heap.size S := ⟨_, rfl⟩
          have x9 : W9.heap[w1.heap.size]? = some (.cells (byteCells S).toArray 31 (0, 0)) := by rw [hW9]; exact hset_heap _ z0
          have Br9 : Below w1.heap.size w1 W9 := by rw [hW9]; exact hset_below _ (Br2.trans (b9.mono Br2.size)) (Nat.le_refl _)
          have X9 := Lib.hid x9; clear x9
          have HW9 := Lib.hid hW9; clear hW9
          go_wp2_with ((with_reducible show wpList _ _ _ (⟨none, .store 31 (.tmp 4) (.tmp 36), _, _, _, _⟩ :: _) _ _); refine wpList_put_hash (o := ⟨none, .store _ _ _, _, _, _, _⟩) rfl _ _ rfl w1.heap.size rfl S HSL.out rfl _ _ z0 (hash_cells_size _ HLA.out) ?_; rw [← HW9.out])
          clear z0
          refine wp_region_rel [[], [0], [1], [2], [2, 3], [2, 4], [2, 5], [6], [7], [7], [7, 9], [7, 10], [7, 8, 11], [7], [7, 13], [7, 12, 14], [7, 15]] (jtV w1.heap.size F S) 55 (by kernel_rfl) (by kernel_rfl) (by kernel_rfl) (jtV_mono w1.heap.size F S) ?_ ?_
          · intro ix op hi w10 b2 vs hv
            have him : ix < 17 := (List.getElem?_eq_some_iff.1 hi).1
            obtain ⟨hf8, hf9⟩ := HF8.out
            have hsF2 := strOf_size F
            match ix, him, hi with
            | 0, _, hi =>
              obtain rfl := Option.some.inj hi
              simp only [relF, List.getD_cons_zero, List.getD_cons_succ, List.foldl_cons, List.foldl_nil, dstAt, List.getElem?_cons_zero, List.getElem?_cons_succ, Option.bind_some]
              go_wp2_with fail
              exact ⟨rfl, Below.refl _ _, rfl, rfl⟩
            | 1, _, hi =>
              obtain rfl := Option.some.inj hi
              have h0 : vs 0 = _ := hv 0 (by decide)
              simp only [relF, List.getD_cons_zero, List.getD_cons_succ, List.foldl_cons, List.foldl_nil, dstAt, List.getElem?_cons_zero, List.getElem?_cons_succ, Option.bind_some]
              go_frame
              rw [h0]
              go_wp2_with fail
              exact ⟨rfl, Below.refl _ _, rfl, by first | rfl | (show slotOf _ _ = _; simp [slotOf]; done) | (show slotOf _ _ = _; simp [slotOf]; omega)⟩
            | 2, _, hi =>
              obtain rfl := Option.some.inj hi
              have h1 : vs 1 = _ := hv 1 (by decide)
              simp only [relF, List.getD_cons_zero, List.getD_cons_succ, List.foldl_cons, List.foldl_nil, dstAt, List.getElem?_cons_zero, List.getElem?_cons_succ, Option.bind_some]
              go_frame
              rw [h1]
              go_wp2_with fail
              exact ⟨rfl, Below.refl _ _, rfl, rfl⟩
            | 3, _, hi =>
              obtain rfl := Option.some.inj hi
              have h2 : vs 2 = _ := hv 2 (by decide)
              simp only [relF, List.getD_cons_zero, List.getD_cons_succ, List.foldl_cons, List.foldl_nil, dstAt, List.getElem?_cons_zero, List.getElem?_cons_succ, Option.bind_some]
              go_frame
              rw [h2]
              go_wp2_with fail
              exact ⟨rfl, Below.refl _ _, rfl, rfl⟩
            | 4, _, hi =>
              obtain rfl := Option.some.inj hi
              have h2 : vs 2 = _ := hv 2 (by decide)
              have h3 : vs 3 = _ := hv 3 (by decide)
              have hst := strOf_size F
              simp only [relF, List.getD_cons_zero, List.getD_cons_succ, List.foldl_cons, List.foldl_nil, dstAt, List.getElem?_cons_zero, List.getElem?_cons_succ, Option.bind_some]
              go_frame
              rw [h2, h3]
              go_wp2_with fail
              exact ⟨rfl, Below.refl _ _, rfl, rfl⟩
            | 5, _, hi =>
              obtain rfl := Option.some.inj hi
              have h2 : vs 2 = _ := hv 2 (by decide)
              have h4 : vs 4 = _ := hv 4 (by decide)
              simp only [relF, List.getD_cons_zero, List.getD_cons_succ, List.foldl_cons, List.foldl_nil, dstAt, List.getElem?_cons_zero, List.getElem?_cons_succ, Option.bind_some]
              go_frame
              rw [h2, h4]
              go_wp2_with fail
              exact ⟨rfl, Below.refl _ _, rfl, by first | rfl | (show slotOf _ _ = _; simp [slotOf]; done) | (show slotOf _ _ = _; simp [slotOf]; omega)⟩
            | 6, _, hi =>
              obtain rfl := Option.some.inj hi
              have h2 : vs 2 = _ := hv 2 (by decide)
              have h5 : vs 5 = _ := hv 5 (by decide)
              simp only [relF, List.getD_cons_zero, List.getD_cons_succ, List.foldl_cons, List.foldl_nil, dstAt, List.getElem?_cons_zero, List.getElem?_cons_succ, Option.bind_some]
              go_frame
              rw [h2, h5]
              go_wp2_with fail
              exact ⟨rfl, Below.refl _ _, rfl, rfl⟩
            | 7, _, hi =>
              obtain rfl := Option.some.inj hi
              have h6 : vs 6 = _ := hv 6 (by decide)
              simp only [relF, List.getD_cons_zero, List.getD_cons_succ, List.foldl_cons, List.foldl_nil, dstAt, List.getElem?_cons_zero, List.getElem?_cons_succ, Option.bind_some]
              go_frame
              rw [h6]
              go_wp2_with fail
              exact ⟨rfl, Below.refl _ _, rfl, rfl⟩
            | 8, _, hi =>
              obtain rfl := Option.some.inj hi
              have h7 : vs 7 = _ := hv 7 (by decide)
              simp only [relF, List.getD_cons_zero, List.getD_cons_succ, List.foldl_cons, List.foldl_nil, dstAt, List.getElem?_cons_zero, List.getElem?_cons_succ, Option.bind_some]
              go_frame
              rw [h7]
              go_wp2_with fail
              exact ⟨rfl, Below.refl _ _, rfl, rfl⟩
            | 9, _, hi =>
              obtain rfl := Option.some.inj hi
              have h7 : vs 7 = _ := hv 7 (by decide)
              simp only [relF, List.getD_cons_zero, List.getD_cons_succ, List.foldl_cons, List.foldl_nil, dstAt, List.getElem?_cons_zero, List.getElem?_cons_succ, Option.bind_some]
              go_frame
              rw [h7]
              go_wp2_with fail
              exact ⟨rfl, Below.refl _ _, rfl, rfl⟩
            | 10, _, hi =>
              obtain rfl := Option.some.inj hi
              have h7 : vs 7 = _ := hv 7 (by decide)
              have h9 : vs 9 = _ := hv 9 (by decide)
              have hst := strOf_size F
              simp only [relF, List.getD_cons_zero, List.getD_cons_succ, List.foldl_cons, List.foldl_nil, dstAt, List.getElem?_cons_zero, List.getElem?_cons_succ, Option.bind_some]
              go_frame
              rw [h7, h9]
              go_wp2_with fail
              exact ⟨rfl, Below.refl _ _, rfl, rfl⟩
            | 11, _, hi =>
              obtain rfl := Option.some.inj hi
              have h7 : vs 7 = _ := hv 7 (by decide)
              have h10 : vs 10 = _ := hv 10 (by decide)
              simp only [relF, List.getD_cons_zero, List.getD_cons_succ, List.foldl_cons, List.foldl_nil, dstAt, List.getElem?_cons_zero, List.getElem?_cons_succ, Option.bind_some]
              go_frame
              rw [h7, h10]
              go_wp2_with fail
              exact ⟨rfl, Below.refl _ _, rfl, by first | rfl | (show slotOf _ _ = _; simp [slotOf]; done) | (show slotOf _ _ = _; simp [slotOf]; omega)⟩
            | 12, _, hi =>
              obtain rfl := Option.some.inj hi
              have h7 : vs 7 = _ := hv 7 (by decide)
              have h8 : vs 8 = _ := hv 8 (by decide)
              have h11 : vs 11 = _ := hv 11 (by decide)
              have hx := strOf_from F (F.length - 8)
              simp only [relF, List.getD_cons_zero, List.getD_cons_succ, List.foldl_cons, List.foldl_nil, dstAt, List.getElem?_cons_zero, List.getElem?_cons_succ, Option.bind_some]
              go_frame
              rw [h7, h8, h11]
              go_wp2_with fail
              exact ⟨rfl, Below.refl _ _, rfl, by first | rfl | (show slotOf _ _ = _; simp [slotOf, strOf_extract]; done) | (show slotOf _ _ = _; simp only [slotOf]; first | rfl | (simp [hx]; done) | (simp [strOf_extract]; omega))⟩
            | 13, _, hi =>
              obtain rfl := Option.some.inj hi
              have h7 : vs 7 = _ := hv 7 (by decide)
              simp only [relF, List.getD_cons_zero, List.getD_cons_succ, List.foldl_cons, List.foldl_nil, dstAt, List.getElem?_cons_zero, List.getElem?_cons_succ, Option.bind_some]
              go_frame
              rw [h7]
              go_wp2_with fail
              exact ⟨rfl, Below.refl _ _, rfl, rfl⟩
            | 14, _, hi =>
              obtain rfl := Option.some.inj hi
              have h7 : vs 7 = _ := hv 7 (by decide)
              have h13 : vs 13 = _ := hv 13 (by decide)
              have hcv := hash_str8 HSL.out ((b2.block _ (lt_of_block X9.out)).trans X9.out)
              simp only [relF, List.getD_cons_zero, List.getD_cons_succ, List.foldl_cons, List.foldl_nil, dstAt, List.getElem?_cons_zero, List.getElem?_cons_succ, Option.bind_some]
              go_frame
              rw [h7, h13]
              go_wp2_with fail
              exact ⟨rfl, Below.refl _ _, rfl, rfl⟩
            | 15, _, hi =>
              obtain rfl := Option.some.inj hi
              have h7 : vs 7 = _ := hv 7 (by decide)
              have h12 : vs 12 = _ := hv 12 (by decide)
              have h14 : vs 14 = _ := hv 14 (by decide)
              have hse := HNE.out
              simp only [relF, List.getD_cons_zero, List.getD_cons_succ, List.foldl_cons, List.foldl_nil, dstAt, List.getElem?_cons_zero, List.getElem?_cons_succ, Option.bind_some]
              go_frame
              rw [h7, h12, h14]
              go_wp2_with fail
              exact ⟨rfl, Below.refl _ _, rfl, rfl⟩
            | 16, _, hi =>
              obtain rfl := Option.some.inj hi
              have h7 : vs 7 = _ := hv 7 (by decide)
              have h15 : vs 15 = _ := hv 15 (by decide)
              simp only [relF, List.getD_cons_zero, List.getD_cons_succ, List.foldl_cons, List.foldl_nil, dstAt, List.getElem?_cons_zero, List.getElem?_cons_succ, Option.bind_some]
              go_frame
              rw [h7, h15]
              go_wp2_with fail
              exact ⟨rfl, Below.refl _ _, rfl, rfl⟩
            | nx + 17, him, _ => exact absurd him (by omega)
          · intro w10 b2 vs hv
            obtain ⟨hf8, hf9⟩ := HF8.out
            have hsF2 := strOf_size F
            have h16 : vs 16 = _ := hv 16 (by decide)
            simp only [relF, List.drop_succ_cons, List.drop_zero, List.length_cons, List.length_nil, Nat.zero_add, Nat.reduceAdd, List.range, List.range.loop, List.foldl_cons, List.foldl_nil, dstAt, List.getElem?_cons_zero, List.getElem?_cons_succ, Option.bind_some]
            go_frame
            rw [h16]
            go_wp2_with fail
            go_roundw
            case rel => exact ⟨j + 1, by omega, by rw [HFE.out], by go_num, by rw [HSQ.out]; exact Lib.hid ((b2.block _ (lt_of_block X9.out)).trans X9.out), Br9.trans (b2.mono Br9.size)⟩
            case measure => simp [intOf]; omega
      · obtain rfl : j = mL := by omega
        have t1 : decide ((j : Int) < (j : Int)) = false := decide_eq_false (by omega)
        go_wp2_with fail
        go_ret
        exact ⟨rfl, b1.trans (Br.mono b1.size)⟩

theorem jsums_law (w : World) (oL : Option Addr) (mL cL : Nat) (L : List ByteArray) (rL : RowsAt w oL mL cL 1 strCell L) (hxL : ∀ s ∈ L, s.size ≤ maxLen) (hL : Laid w) :
    Calls Tryd.prog 10 #[.slice oL mL cL] w fun e w' => e = .returned (.bool true) ∧ Below w.heap.size w w' := by
  have h := jsums_list w oL mL cL _ (StrsAt.of_rows rL) (strs_le hxL) hL
  exact h

end Go.Proofs.YtjlaoijmcenahaaDoor
