/- The walk of the law JournalLong. -/
import Derived.Test.YtjlaoijmcenahaaDoorG12a
import Derived.Deep.QuietTactic
import Derived.BigQuiet
namespace Go.Proofs.YtjlaoijmcenahaaDoor
open Go.RowKit
set_option linter.unusedSimpArgs false
set_option linter.unusedVariables false

/-- Bytes as a text. -/
theorem bytes_string {w : World} {b : Nat} {r : List UInt8} {t : TypeId} {fr : Nat × Nat} (h : w.heap[b]? = some (.cells (byteCells r).toArray t fr)) :
    (convert 44 9 (.slice (some ⟨b, 0, none⟩) r.length r.length)).run Tryd.prog w = .ok (.string (strOf r)) w :=
  run_convert_bytes_back (P := Tryd.prog) w 44 9 5 ⟨b, 0, none⟩ r.length r Tryd.under_bytes Tryd.under_byte Tryd.under_string (fun j hj => cells_row_at h j _ (by simp [byteCells, hj]))


/-- What the region's operations leave. -/
def jlV (G gb go c4 : Nat) (r : List UInt8) (ix : Nat) (w : World) (v : Value) : Prop :=
  match ix with
  | 0 => v = .int .i64 (0)
  | 1 => v = .bool true
  | 2 => v = .bool true
  | 3 => v = .slice (some ⟨gb, go, none⟩) 1 c4
  | 4 => v = .int .i64 (1)
  | 5 => v = .bool true
  | 6 => v = .bool true
  | 7 => v = .bool true
  | 8 => v = .slice (some ⟨gb, go, none⟩) 1 c4
  | 9 => v = .pointer (some ⟨gb, go, none⟩)
  | 10 => v = .string (strOf r)
  | 11 => v = .slice (some ⟨G, 0, none⟩) r.length r.length
  | 12 => v = .string (strOf r)
  | 13 => v = .bool true
  | 14 => v = .bool true
  | 15 => v = .bool true
  | _ => True

theorem jlV_mono (G gb go c4 : Nat) (r : List UInt8) (jx : Nat) (w w' : World) (v : Value) (hb : Below w.heap.size w w') (h : jlV G gb go c4 r jx w v) : jlV G gb go c4 r jx w' v := by
  match jx, h with
  | 0, h => exact h
  | 1, h => exact h
  | 2, h => exact h
  | 3, h => exact h
  | 4, h => exact h
  | 5, h => exact h
  | 6, h => exact h
  | 7, h => exact h
  | 8, h => exact h
  | 9, h => exact h
  | 10, h => exact h
  | 11, h => exact h
  | 12, h => exact h
  | 13, h => exact h
  | 14, h => exact h
  | 15, h => exact h
  | _ + 16, h => exact trivial

set_option maxRecDepth 100000 in
set_option maxHeartbeats 4000000 in
theorem jlong_list (w : World) (n : Int) (hn : (Lit.int .i64 n).wf = true) (x : Int) (hx : (Lit.int .u8 x).wf = true) (hL : Laid w) :
    Calls Tryd.prog 7 #[.int .i64 n, .int .u8 x] w fun e w' => e = .returned (.bool true) ∧ Below w.heap.size w w' := by
  have HL := Lib.hid hL; clear hL
  have hL0 := HL
  go_enter Tryd.func7, Tryd.ntmps7
  go_wp2_with fail
  refine (awake_any _ HL.out).mono ?_
  rintro e w1 ⟨rfl, b1⟩
  replace HL := Lib.hid (HL.out.below b1)
  by_cases hg0 : n < 0
  · have ht : decide (n < (0 : Int)) = true := decide_eq_true hg0
    go_wp2_with fail
    refine (awake_any _ HL.out).mono ?_
    rintro e w2 ⟨rfl, b2⟩
    go_wp2_with fail
    go_ret
    exact ⟨rfl, b1.trans (b2.mono b1.size)⟩
  · have ht0 : decide (n < (0 : Int)) = false := decide_eq_false hg0
    by_cases hg : 70000 < n
    · have ht : decide ((70000 : Int) < n) = true := decide_eq_true (by omega)
      go_wp2_with fail
      refine (awake_any _ HL.out).mono ?_
      rintro e w2 ⟨rfl, b2⟩
      go_wp2_with fail
      go_ret
      exact ⟨rfl, b1.trans (b2.mono b1.size)⟩
    · have ht : decide ((70000 : Int) < n) = false := decide_eq_false (by omega)
      obtain ⟨m, rfl⟩ := Int.eq_ofNat_of_zero_le (show 0 ≤ n by omega)
      obtain ⟨c, hcx⟩ : ∃ c : UInt8, x = (c.toNat : Int) := ⟨UInt8.ofNat x.toNat, by
        have h := wf_u8 hx
        simp only [UInt8.toNat_ofNat']
        omega⟩
      subst hcx
      obtain ⟨i0, hi, hz0, hz1, hz2⟩ := info_parts Tryd.info_byte
      have hm7 : m ≤ 70000 := by omega
      go_wp2_with ((with_reducible show wpList _ _ _ (⟨some 23, _, _, _, _, _⟩ :: _) _ _); refine wpList_make_full (o := ⟨some 23, _, _, _, _, _⟩) w1 rfl _ _ 44 rfl w1.heap.size 5 i0 (.int .u8 0) 1 Tryd.under_bytes hi hz0 hz1 .i64 .i64 (m : Int) (m : Int) m rfl rfl rfl rfl (by rw [hz2]; omega) (by unfold maxLen; omega) (Nat.le_refl _) ?_)
      intro w2 hown hg2
      have b2 := grown_below hg2 (fun k hk => by cases hk) (Nat.le_refl _)
      have x2 : w2.heap[w1.heap.size]? = some (.cells (byteCells (List.replicate m 0)).toArray 5 (0, 0)) := by
        rcases hown.2 with ⟨h0, _⟩ | ⟨g, cap, cur, hv, _, hgg, _, _, hcs, htk⟩
        · cases h0
        · simp only [Value.slice.injEq, Option.some.injEq, Addr.mk.injEq, true_and, and_true] at hv
          obtain ⟨rfl, rfl⟩ := hv
          have hmz := made_zero m
          rw [Nat.mul_one] at hmz
          rw [show (madeCells #[Value.int IntKind.u8 0] m).toList = byteCells (List.replicate m 0) from hmz] at htk
          have h5 : cur.toList = byteCells (List.replicate m 0) := by rw [← htk, List.take_of_length_le (by rw [Array.length_toList, hcs]; exact Nat.le_refl _)]
          rw [hgg, ← h5]
      have X2 := Lib.hid x2; clear x2 hown hg2
      clear hi hz0 hz1 hz2
      replace HL := Lib.hid (HL.out.below b2)
      have b12 := b1.trans (b2.mono b1.size)
      have hs2 := b2.size
      have hlt1 := lt_of_block X2.out
      go_wp2_with fail
      go_loopw [6] (fun v wr => ∃ j : Nat, j ≤ m ∧ v = .int .i64 (j : Int) ∧ Hid (wr.heap[w1.heap.size]? = some (.cells (byteCells (List.replicate j c ++ List.replicate (m - j) 0)).toArray 5 (0, 0))) ∧ Below w1.heap.size w1 wr ∧ w1.heap.size < wr.heap.size) (fun v _ => m - (intOf v).toNat)
      case atStart => exact ⟨0, by omega, rfl, X2, b2, hlt1⟩
      case round =>
        clear X2 hs2
        obtain ⟨j, hj, rfl, xr, Br, hltr⟩ := hrel
        by_cases hlt : j < m
        · have ht1 : decide ((j : Int) < (m : Int)) = true := decide_eq_true (by omega)
          have ht1' : decide (j < m) = true := decide_eq_true hlt
          have hz : (List.replicate j c ++ List.replicate (m - j) 0)[j]? = some 0 := by
            rw [List.getElem?_append_right (by rw [List.length_replicate]; exact Nat.le_refl _), List.length_replicate, List.getElem?_replicate, if_pos (by omega)]
          have hc2 : wr.cell? ⟨w1.heap.size, j, none⟩ = some (.int .u8 0) := by
            have := range_row xr.out j _ (byteCells_get hz)
            rwa [Nat.zero_add] at this
          have hf := wfree xr.out j
          have hset : (List.replicate j c ++ List.replicate (m - j) 0).set j c = List.replicate (j + 1) c ++ List.replicate (m - (j + 1)) 0 := by
            rw [List.set_append_right _ _ (by rw [List.length_replicate]; exact Nat.le_refl _), List.length_replicate, Nat.sub_self, show m - j = (m - (j + 1)) + 1 by omega, List.replicate_succ, List.set_cons_zero, List.replicate_succ', List.append_assoc]
            rfl
          have HSET := Lib.hid hset; clear hset hz
          go_wp2_with fail
          go_roundw
          case rel =>
            refine ⟨j + 1, by omega, by go_num, Lib.hid ?_, Br.setCell (p := ⟨w1.heap.size, j, none⟩) (Nat.le_refl _) _, by simpa using hltr⟩
            rw [heap_setCell_same _ _ _ _ _ _ xr.out, byteCells_set, HSET.out]
          case measure => simp [intOf]; omega
        · obtain rfl : j = m := by omega
          clear hlt hj
          have y1 : wr.heap[w1.heap.size]? = some (.cells (byteCells (List.replicate j c)).toArray 5 (0, 0)) := by
            rw [xr.out, Nat.sub_self, List.replicate_zero, List.append_nil]
          obtain ⟨r, hr⟩ : ∃ r, r = List.replicate j c := ⟨_, rfl⟩
          have hrl : r.length = j := by rw [hr]; exact List.length_replicate ..
          rw [← hr] at y1
          clear hr xr
          subst hrl
          have hcvt := fun (w' : World) (hb : Below wr.heap.size wr w') => bytes_string (r := r) ((hb.block _ (lt_of_block y1)).trans y1)
          have hcv := hcvt wr (Below.refl _ _)
          have HCV := Lib.hid hcvt; clear hcvt
          have Y0 := Lib.hid y1; clear y1
          have hLr := (HL.out : Laid w2)
          have hst := strOf_size r
          have B1 := b1.trans (Br.mono b1.size)
          have hLw : Laid wr := hL0.out.below B1
          by_cases h6 : 65536 < r.length
          · have t1 : decide ((65536 : Int) < (r.length : Int)) = true := decide_eq_true (by omega)
            have t1' : decide (65536 < r.length) = true := decide_eq_true h6
            go_wp2_with fail
            refine (journalAppend_long wr ⟨#[]⟩ (strOf r) (by rw [hst]; exact h6) (by rw [hst]; omega)).mono ?_
            rintro e w' ⟨rfl, rfl⟩
            go_wp2_with fail
            go_ret
            exact ⟨rfl, B1⟩
          · have t1 : decide ((65536 : Int) < (r.length : Int)) = false := decide_eq_false (by omega)
            have t1' : decide (65536 < r.length) = false := decide_eq_false h6
            have hap := journalAppend_any wr [] r (by decide) (by omega) hLw
            have hrap := J.read_append (l := []) (r := r) (by omega)
            have hapl := J.append_len [] r
            rw [J.read_nil] at hrap hapl
            simp only [List.nil_append] at hrap hapl
            have hxl := J.text_len r
            have hnl := Wire.num_length r.length (by omega)
            obtain ⟨F, hF⟩ : ∃ F, F = J.append [] r := ⟨_, rfl⟩
            rw [← hF] at hap hrap hapl
            have hFl : F.length ≤ 100000 := by omega
            have hrd := fun (w : World) (hLw : Laid w) => journalRead_any w F hFl hLw
            simp only [hrap] at hrd
            clear hrap hapl hF
            have HRD := Lib.hid hrd; clear hrd
            have HAP := Lib.hid hap; clear hap
            have hsF := strOf_size F
            go_wp2_with fail
            refine HAP.out.mono ?_
            rintro e w3 ⟨rfl, b3⟩
            clear HAP hcv
            have hrd := HRD.out w3 (hLw.below b3)
            have HRD2 := Lib.hid hrd; clear hrd HRD
            go_wp2_with fail
            refine HRD2.out.mono ?_
            rintro e w4 ⟨q4, c4, k4, rfl, s4, b4⟩
            clear HRD2
            have hk4 := s4.len
            obtain rfl : k4 = 1 := by simpa using hk4.symm
            obtain ⟨gb, go, rfl⟩ := s4.form (by decide)
            have hcell := s4.get (i := 0) (l := r) rfl
            rw [Nat.add_zero] at hcell
            have hcv := HCV.out w4 (b3.trans (b4.mono b3.size))
            have B4 := B1.trans ((b3.trans (b4.mono b3.size)).mono B1.size)
            have hc4 := s4.cap
            have hse : ((strOf r).toList == (strOf r).toList) = true := beq_self_eq_true _
            have S4 := Lib.hid s4
            have Y1 := Lib.hid ((b3.trans (b4.mono b3.size)).block _ (lt_of_block Y0.out) |>.trans Y0.out)
            clear hk4 s4 HCV hLr hcell hcv hse
            go_wp2_with fail
            refine wp_region_rel [[], [0], [1], [2], [2, 3], [2, 4], [2, 5], [6], [7], [7, 8], [7, 9], [7], [7, 11], [7, 10, 12], [7, 13], [14]] (jlV w1.heap.size gb go c4 r) 67 (by kernel_rfl) (by kernel_rfl) (by kernel_rfl) (jlV_mono w1.heap.size gb go c4 r) ?_ ?_
            · intro ix op hi w5 b2 vs hv
              have him : ix < 16 := (List.getElem?_eq_some_iff.1 hi).1
              have hc4' := hc4
              match ix, him, hi with
              | 0, _, hi =>
                obtain rfl := Option.some.inj hi
                simp only [relF, List.getD_cons_zero, List.getD_cons_succ, List.foldl_cons, List.foldl_nil, dstAt, List.getElem?_cons_zero, List.getElem?_cons_succ, Option.bind_some]
                go_wp2_with fail
                exact ⟨rfl, Below.refl _ _, rfl, rfl⟩
              | 1, _, hi =>
                obtain rfl := Option.some.inj hi
                have h0 : vs 0 = _ := hv 0 (by decide)
                simp only [relF, List.getD_cons_zero, List.getD_cons_succ, List.foldl_cons, List.foldl_nil, dstAt, List.getElem?_cons_zero, List.getElem?_cons_succ, Option.bind_some]
                go_frame
                rw [h0]
                go_wp2_with fail
                exact ⟨rfl, Below.refl _ _, rfl, by first | rfl | (show slotOf _ _ = _; simp [slotOf])⟩
              | 2, _, hi =>
                obtain rfl := Option.some.inj hi
                have h1 : vs 1 = _ := hv 1 (by decide)
                simp only [relF, List.getD_cons_zero, List.getD_cons_succ, List.foldl_cons, List.foldl_nil, dstAt, List.getElem?_cons_zero, List.getElem?_cons_succ, Option.bind_some]
                go_frame
                rw [h1]
                go_wp2_with fail
                exact ⟨rfl, Below.refl _ _, rfl, rfl⟩
              | 3, _, hi =>
                obtain rfl := Option.some.inj hi
                have h2 : vs 2 = _ := hv 2 (by decide)
                simp only [relF, List.getD_cons_zero, List.getD_cons_succ, List.foldl_cons, List.foldl_nil, dstAt, List.getElem?_cons_zero, List.getElem?_cons_succ, Option.bind_some]
                go_frame
                rw [h2]
                go_wp2_with fail
                exact ⟨rfl, Below.refl _ _, rfl, rfl⟩
              | 4, _, hi =>
                obtain rfl := Option.some.inj hi
                have h2 : vs 2 = _ := hv 2 (by decide)
                have h3 : vs 3 = _ := hv 3 (by decide)
                simp only [relF, List.getD_cons_zero, List.getD_cons_succ, List.foldl_cons, List.foldl_nil, dstAt, List.getElem?_cons_zero, List.getElem?_cons_succ, Option.bind_some]
                go_frame
                rw [h2, h3]
                go_wp2_with fail
                exact ⟨rfl, Below.refl _ _, rfl, rfl⟩
              | 5, _, hi =>
                obtain rfl := Option.some.inj hi
                have h2 : vs 2 = _ := hv 2 (by decide)
                have h4 : vs 4 = _ := hv 4 (by decide)
                simp only [relF, List.getD_cons_zero, List.getD_cons_succ, List.foldl_cons, List.foldl_nil, dstAt, List.getElem?_cons_zero, List.getElem?_cons_succ, Option.bind_some]
                go_frame
                rw [h2, h4]
                go_wp2_with fail
                exact ⟨rfl, Below.refl _ _, rfl, by first | rfl | (show slotOf _ _ = _; simp [slotOf])⟩
              | 6, _, hi =>
                obtain rfl := Option.some.inj hi
                have h2 : vs 2 = _ := hv 2 (by decide)
                have h5 : vs 5 = _ := hv 5 (by decide)
                simp only [relF, List.getD_cons_zero, List.getD_cons_succ, List.foldl_cons, List.foldl_nil, dstAt, List.getElem?_cons_zero, List.getElem?_cons_succ, Option.bind_some]
                go_frame
                rw [h2, h5]
                go_wp2_with fail
                exact ⟨rfl, Below.refl _ _, rfl, rfl⟩
              | 7, _, hi =>
                obtain rfl := Option.some.inj hi
                have h6 : vs 6 = _ := hv 6 (by decide)
                simp only [relF, List.getD_cons_zero, List.getD_cons_succ, List.foldl_cons, List.foldl_nil, dstAt, List.getElem?_cons_zero, List.getElem?_cons_succ, Option.bind_some]
                go_frame
                rw [h6]
                go_wp2_with fail
                exact ⟨rfl, Below.refl _ _, rfl, rfl⟩
              | 8, _, hi =>
                obtain rfl := Option.some.inj hi
                have h7 : vs 7 = _ := hv 7 (by decide)
                simp only [relF, List.getD_cons_zero, List.getD_cons_succ, List.foldl_cons, List.foldl_nil, dstAt, List.getElem?_cons_zero, List.getElem?_cons_succ, Option.bind_some]
                go_frame
                rw [h7]
                go_wp2_with fail
                exact ⟨rfl, Below.refl _ _, rfl, rfl⟩
              | 9, _, hi =>
                obtain rfl := Option.some.inj hi
                have h7 : vs 7 = _ := hv 7 (by decide)
                have h8 : vs 8 = _ := hv 8 (by decide)
                simp only [relF, List.getD_cons_zero, List.getD_cons_succ, List.foldl_cons, List.foldl_nil, dstAt, List.getElem?_cons_zero, List.getElem?_cons_succ, Option.bind_some]
                go_frame
                rw [h7, h8]
                go_wp2_with fail
                exact ⟨rfl, Below.refl _ _, rfl, rfl⟩
              | 10, _, hi =>
                obtain rfl := Option.some.inj hi
                have h7 : vs 7 = _ := hv 7 (by decide)
                have h9 : vs 9 = _ := hv 9 (by decide)
                have hcell := (S4.out.below (Nat.le_refl _) b2).get (rfl : ([r] : List (List UInt8))[0]? = some r)
                rw [Nat.add_zero] at hcell
                simp only [relF, List.getD_cons_zero, List.getD_cons_succ, List.foldl_cons, List.foldl_nil, dstAt, List.getElem?_cons_zero, List.getElem?_cons_succ, Option.bind_some]
                go_frame
                rw [h7, h9]
                go_wp2_with fail
                exact ⟨rfl, Below.refl _ _, rfl, rfl⟩
              | 11, _, hi =>
                obtain rfl := Option.some.inj hi
                have h7 : vs 7 = _ := hv 7 (by decide)
                simp only [relF, List.getD_cons_zero, List.getD_cons_succ, List.foldl_cons, List.foldl_nil, dstAt, List.getElem?_cons_zero, List.getElem?_cons_succ, Option.bind_some]
                go_frame
                rw [h7]
                go_wp2_with fail
                exact ⟨rfl, Below.refl _ _, rfl, rfl⟩
              | 12, _, hi =>
                obtain rfl := Option.some.inj hi
                have h7 : vs 7 = _ := hv 7 (by decide)
                have h11 : vs 11 = _ := hv 11 (by decide)
                have hcv := bytes_string (r := r) ((b2.block _ (lt_of_block Y1.out)).trans Y1.out)
                simp only [relF, List.getD_cons_zero, List.getD_cons_succ, List.foldl_cons, List.foldl_nil, dstAt, List.getElem?_cons_zero, List.getElem?_cons_succ, Option.bind_some]
                go_frame
                rw [h7, h11]
                go_wp2_with fail
                exact ⟨rfl, Below.refl _ _, rfl, rfl⟩
              | 13, _, hi =>
                obtain rfl := Option.some.inj hi
                have h7 : vs 7 = _ := hv 7 (by decide)
                have h10 : vs 10 = _ := hv 10 (by decide)
                have h12 : vs 12 = _ := hv 12 (by decide)
                have hse := (beq_self_eq_true (strOf r).toList)
                simp only [relF, List.getD_cons_zero, List.getD_cons_succ, List.foldl_cons, List.foldl_nil, dstAt, List.getElem?_cons_zero, List.getElem?_cons_succ, Option.bind_some]
                go_frame
                rw [h7, h10, h12]
                go_wp2_with fail
                exact ⟨rfl, Below.refl _ _, rfl, rfl⟩
              | 14, _, hi =>
                obtain rfl := Option.some.inj hi
                have h7 : vs 7 = _ := hv 7 (by decide)
                have h13 : vs 13 = _ := hv 13 (by decide)
                simp only [relF, List.getD_cons_zero, List.getD_cons_succ, List.foldl_cons, List.foldl_nil, dstAt, List.getElem?_cons_zero, List.getElem?_cons_succ, Option.bind_some]
                go_frame
                rw [h7, h13]
                go_wp2_with fail
                exact ⟨rfl, Below.refl _ _, rfl, rfl⟩
              | 15, _, hi =>
                obtain rfl := Option.some.inj hi
                have h14 : vs 14 = _ := hv 14 (by decide)
                simp only [relF, List.getD_cons_zero, List.getD_cons_succ, List.foldl_cons, List.foldl_nil, dstAt, List.getElem?_cons_zero, List.getElem?_cons_succ, Option.bind_some]
                go_frame
                rw [h14]
                go_wp2_with fail
                exact ⟨rfl, Below.refl _ _, rfl, rfl⟩
              | nx + 16, him, _ => exact absurd him (by omega)
            · intro w5 b2 vs hv
              have hc4' := hc4
              have h15 : vs 15 = _ := hv 15 (by decide)
              simp only [relF, List.drop_succ_cons, List.drop_zero, List.length_cons, List.length_nil, Nat.zero_add, Nat.reduceAdd, List.range, List.range.loop, List.foldl_cons, List.foldl_nil, dstAt, List.getElem?_cons_zero, List.getElem?_cons_succ, Option.bind_some]
              go_frame
              rw [h15]
              go_wp2_with fail
              go_ret
              exact ⟨rfl, B4.trans (b2.mono B4.size)⟩

theorem jlong_law (w : World) (n : Int) (hn : (Lit.int .i64 n).wf = true) (x : Int) (hx : (Lit.int .u8 x).wf = true) (hL : Laid w) :
    Calls Tryd.prog 7 #[.int .i64 n, .int .u8 x] w fun e w' => e = .returned (.bool true) ∧ Below w.heap.size w w' := by
  have h := jlong_list w n hn x hx hL
  exact h

end Go.Proofs.YtjlaoijmcenahaaDoor
