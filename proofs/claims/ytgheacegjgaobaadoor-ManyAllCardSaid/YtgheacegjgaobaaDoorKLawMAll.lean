/- The walk of the law ManyAll. -/
import Derived.Test.YtgheacegjgaobaaDoorKG14a
namespace Go.Proofs.YtgheacegjgaobaaDoor
open Go.RowKit
set_option linter.unusedSimpArgs false
set_option linter.unusedVariables false

/-- The cells of the numbers below j. -/
def upTo (j : Nat) : List Value := ((List.range j).map Int.ofNat).map fun l => Value.int .i64 l
theorem upTo_zero : upTo 0 = [] := rfl
theorem upTo_succ (j : Nat) : upTo (j + 1) = upTo j ++ [.int .i64 (j : Int)] := by
  unfold upTo
  rw [List.range_succ, List.map_append, List.map_append]
  rfl

/-- What the region's operations leave. -/
def mallA (B mK cK co cP cQ : Nat) (oK qo qP qQ : Option Addr) (K : List (List UInt8)) (ix : Nat) (w : World) (v : Value) : Prop :=
  match ix with
  | 0 => v = .int .i64 (0)
  | 1 => v = .bool false
  | 2 => v = .bool false
  | 3 => v = .int .i64 (0)
  | 4 => v = .bool false
  | 5 => v = .bool false
  | 6 => v = .bool false
  | 7 => v = .slice oK mK cK
  | 8 => v = .int .i64 (mK : Int)
  | 9 => v = .bool true
  | 10 => v = .bool true
  | 11 => v = .slice qP 0 cP
  | 12 => v = .int .i64 (0)
  | 13 => v = .bool false
  | 14 => v = .bool false
  | 15 => v = .bool false
  | 16 => v = .bool false
  | 17 => v = .agg (byteCells (Tree.root mK (Tree.top K))).toArray
  | 18 => v = .slice oK mK cK
  | 19 => v = .int .i64 (mK : Int)
  | 20 => v = .slice qo mK co
  | 21 => ∃ g : Nat, v = .slice (some ⟨g, 0, none⟩) 0 0
  | 22 => v = .slice oK mK cK
  | 23 => ∃ (q : Addr) (c : Nat), v = .slice (some q) mK c ∧ StrsAt w (some q) mK c K
  | 24 => v = .slice qP 0 cP
  | 25 => v = .bool true
  | 26 => v = .bool false
  | 27 => v = .bool false
  | 28 => v = .bool false
  | 29 => v = .agg (byteCells (Tree.root mK (Tree.top K))).toArray
  | 30 => v = .slice oK mK cK
  | 31 => v = .int .i64 (mK : Int)
  | 32 => v = .slice qQ 1 cQ
  | 33 => v = .bool true
  | 34 => v = .bool false
  | 35 => v = .bool false
  | _ => True

theorem mallA_mono (B mK cK co cP cQ : Nat) (oK qo qP qQ : Option Addr) (K : List (List UInt8)) (jx : Nat) (w w' : World) (v : Value) (hb : Below w.heap.size w w') (h : mallA B mK cK co cP cQ oK qo qP qQ K jx w v) : mallA B mK cK co cP cQ oK qo qP qQ K jx w' v := by
  match jx, h with
  | 0, h => exact h
  | 1, h => exact h
  | 2, h => exact h
  | 3, h => exact h
  | 4, h => exact h
  | 5, h => exact h
  | 6, h => exact h
  | 7, h => exact h
  | 8, h => exact h
  | 9, h => exact h
  | 10, h => exact h
  | 11, h => exact h
  | 12, h => exact h
  | 13, h => exact h
  | 14, h => exact h
  | 15, h => exact h
  | 16, h => exact h
  | 17, h => exact h
  | 18, h => exact h
  | 19, h => exact h
  | 20, h => exact h
  | 21, h => exact h
  | 22, h => exact h
  | 23, h => exact (let ⟨q, c, h1, h2⟩ := h; ⟨q, c, h1, h2.below (Nat.le_refl _) hb⟩)
  | 24, h => exact h
  | 25, h => exact h
  | 26, h => exact h
  | 27, h => exact h
  | 28, h => exact h
  | 29, h => exact h
  | 30, h => exact h
  | 31, h => exact h
  | 32, h => exact h
  | 33, h => exact h
  | 34, h => exact h
  | 35, h => exact h
  | _ + 36, h => exact trivial

/-- What the region's operations leave. -/
def mallA2 (bq oq mK cK cQ : Nat) (oK : Option Addr) (K : List (List UInt8)) (ix : Nat) (w : World) (v : Value) : Prop :=
  match ix with
  | 0 => v = .slice (some ⟨bq, oq, none⟩) 1 cQ
  | 1 => v = .int .i64 (1)
  | 2 => v = .bool true
  | 3 => v = .bool true
  | 4 => v = .slice (some ⟨bq, oq, none⟩) 1 cQ
  | 5 => v = .pointer (some ⟨bq, oq, none⟩)
  | 6 => v = .agg (byteCells (Tree.top K)).toArray
  | 7 => ∃ g : Nat, v = .slice (some ⟨g, 0, none⟩) 0 0
  | 8 => v = .slice oK mK cK
  | 9 => ∃ (q : Addr) (c : Nat), v = .slice (some q) mK c ∧ StrsAt w (some q) mK c K
  | 10 => v = .agg (byteCells (Tree.top K)).toArray
  | 11 => v = .bool true
  | 12 => v = .bool true
  | 13 => v = .bool true
  | _ => True

theorem mallA2_mono (bq oq mK cK cQ : Nat) (oK : Option Addr) (K : List (List UInt8)) (jx : Nat) (w w' : World) (v : Value) (hb : Below w.heap.size w w') (h : mallA2 bq oq mK cK cQ oK K jx w v) : mallA2 bq oq mK cK cQ oK K jx w' v := by
  match jx, h with
  | 0, h => exact h
  | 1, h => exact h
  | 2, h => exact h
  | 3, h => exact h
  | 4, h => exact h
  | 5, h => exact h
  | 6, h => exact h
  | 7, h => exact h
  | 8, h => exact h
  | 9, h => exact (let ⟨q, c, h1, h2⟩ := h; ⟨q, c, h1, h2.below (Nat.le_refl _) hb⟩)
  | 10, h => exact h
  | 11, h => exact h
  | 12, h => exact h
  | 13, h => exact h
  | _ + 14, h => exact trivial

/-- What the region's operations leave. -/
def mallB (B mK cK co cP cQ : Nat) (oK qo qP qQ : Option Addr) (K : List (List UInt8)) (ix : Nat) (w : World) (v : Value) : Prop :=
  match ix with
  | 0 => v = .int .i64 (0)
  | 1 => v = .bool false
  | 2 => v = .bool false
  | 3 => v = .int .i64 (0)
  | 4 => v = .bool false
  | 5 => v = .bool false
  | 6 => v = .bool false
  | 7 => v = .slice oK mK cK
  | 8 => v = .int .i64 (mK : Int)
  | 9 => v = .bool false
  | 10 => v = .bool false
  | 11 => True
  | 12 => True
  | 13 => True
  | 14 => v = .bool false
  | 15 => v = .bool false
  | 16 => v = .bool false
  | 17 => v = .agg (byteCells (Tree.root mK (Tree.top K))).toArray
  | 18 => v = .slice oK mK cK
  | 19 => v = .int .i64 (mK : Int)
  | 20 => v = .slice qo mK co
  | 21 => ∃ g : Nat, v = .slice (some ⟨g, 0, none⟩) 0 0
  | 22 => v = .slice oK mK cK
  | 23 => ∃ (q : Addr) (c : Nat), v = .slice (some q) mK c ∧ StrsAt w (some q) mK c K
  | 24 => v = .slice qP ((Many.prove K (List.range mK)).length) cP
  | 25 => v = .bool true
  | 26 => v = .bool false
  | 27 => v = .bool false
  | 28 => v = .bool false
  | 29 => v = .agg (byteCells (Tree.root mK (Tree.top K))).toArray
  | 30 => v = .slice oK mK cK
  | 31 => v = .int .i64 (mK : Int)
  | 32 => v = .slice qQ 1 cQ
  | 33 => v = .bool true
  | 34 => v = .bool false
  | 35 => v = .bool false
  | _ => True

theorem mallB_mono (B mK cK co cP cQ : Nat) (oK qo qP qQ : Option Addr) (K : List (List UInt8)) (jx : Nat) (w w' : World) (v : Value) (hb : Below w.heap.size w w') (h : mallB B mK cK co cP cQ oK qo qP qQ K jx w v) : mallB B mK cK co cP cQ oK qo qP qQ K jx w' v := by
  match jx, h with
  | 0, h => exact h
  | 1, h => exact h
  | 2, h => exact h
  | 3, h => exact h
  | 4, h => exact h
  | 5, h => exact h
  | 6, h => exact h
  | 7, h => exact h
  | 8, h => exact h
  | 9, h => exact h
  | 10, h => exact h
  | 11, h => exact trivial
  | 12, h => exact trivial
  | 13, h => exact trivial
  | 14, h => exact h
  | 15, h => exact h
  | 16, h => exact h
  | 17, h => exact h
  | 18, h => exact h
  | 19, h => exact h
  | 20, h => exact h
  | 21, h => exact h
  | 22, h => exact h
  | 23, h => exact (let ⟨q, c, h1, h2⟩ := h; ⟨q, c, h1, h2.below (Nat.le_refl _) hb⟩)
  | 24, h => exact h
  | 25, h => exact h
  | 26, h => exact h
  | 27, h => exact h
  | 28, h => exact h
  | 29, h => exact h
  | 30, h => exact h
  | 31, h => exact h
  | 32, h => exact h
  | 33, h => exact h
  | 34, h => exact h
  | 35, h => exact h
  | _ + 36, h => exact trivial

set_option maxRecDepth 100000 in
set_option maxHeartbeats 4000000 in
theorem mall_list (w : World) (oK : Option Addr) (mK cK : Nat) (K : List (List UInt8)) (hK : StrsAt w oK mK cK K) (hxK : ∀ l ∈ K, l.length ≤ 9223372036854775807) (hL : Laid w) :
    Calls Tryd.prog 7 #[.slice oK mK cK] w fun e w' => e = .returned (.bool true) ∧ Below w.heap.size w w' := by
  have hmK : K.length = mK := hK.len
  have hcK := hK.cap
  have hyK := hK.max
  have HK := Lib.hid hK; clear hK
  have HXK := Lib.hid hxK; clear hxK
  have HL := Lib.hid hL; clear hL
  go_enter Tryd.func7, Tryd.ntmps7
  go_wp2_with fail
  refine (awake4_any _ HL.out).mono ?_
  rintro e w1 ⟨rfl, b1⟩
  replace HK := Lib.hid (HK.out.below (Nat.le_refl _) b1)
  replace HL := Lib.hid (HL.out.below b1)
  rcases hf : few K with _ | _
  · have hfc := refFew_any w1 oK mK cK K HK.out HXK.out
    rw [hf] at hfc
    have HFC := Lib.hid hfc; clear hfc hf
    go_wp2_with fail
    refine HFC.out.mono ?_
    rintro e w' ⟨rfl, rfl⟩
    go_wp2_with fail
    refine (awake4_any _ HL.out).mono ?_
    rintro e w2 ⟨rfl, b2⟩
    go_wp2_with fail
    go_ret
    exact ⟨rfl, b1.trans (b2.mono b1.size)⟩
  · have hfc := refFew_any w1 oK mK cK K HK.out HXK.out
    rw [hf] at hfc
    obtain ⟨h20, h200⟩ := few_spec hf
    have HFC := Lib.hid hfc; clear hfc hf
    have HLE : Hid (∀ l ∈ K, l.length ≤ 100000) := Lib.hid fun l hl => by have := h200 l hl; omega
    have H200 := Lib.hid h200; clear h200
    go_wp2_with fail
    refine HFC.out.mono ?_
    rintro e w' ⟨rfl, rfl⟩
    clear HFC
    go_wp2_with fail
    obtain ⟨i0, hi, hz0, hz1, hz2⟩ := info_parts Tryd.info_int
    have HI0 := Lib.hid hi; clear hi
    have HZ0 := Lib.hid hz0; clear hz0
    have HZ1 := Lib.hid hz1; clear hz1
    have HZ2 := Lib.hid hz2; clear hz2
    have ho0 : (w1.alloc (.cells #[] 3)).ownsRow w1.heap.size 3 1 (.slice (some ⟨w1.heap.size, 0, none⟩) 0 0) 0 (upTo 0) := ⟨rfl, .inr ⟨w1.heap.size, 0, #[], rfl, Nat.le_refl _, heap_alloc_new w1 _, Nat.le_refl _, by decide, rfl, rfl⟩⟩
    have HO0 := Lib.hid ho0; clear ho0
    go_loopw [3, 4] (fun v u wr => ∃ (j : Nat) (qo : Option Addr) (co : Nat), j ≤ mK ∧ u = .int .i64 (j : Int) ∧ v = .slice qo j co ∧ Hid (wr.ownsRow w1.heap.size 3 1 (.slice qo j co) j (upTo j)) ∧ Below w1.heap.size w1 wr) (fun _ u _ => mK - (intOf u).toNat)
    case atStart => exact ⟨0, _, _, by omega, rfl, rfl, HO0, (Below.refl _ _).alloc (Nat.le_refl _) _⟩
    clear HO0
    obtain ⟨j, qo, co, hj, rfl, rfl, HOW, Bw⟩ := hrel
    by_cases hlt : j < mK
    · have t1 : decide ((j : Int) < (mK : Int)) = true := decide_eq_true (by omega)
      have t1' : decide (j < mK) = true := decide_eq_true hlt
      go_wp2_with (at_builtin; refine wpList_append_own _ rfl _ _ 32 rfl w1.heap.size 3 i0 (.int .i64 0) 1 8 Tryd.under_ints HI0.out HZ0.out HZ1.out HZ2.out rfl (by decide) _ _ _ rfl (HOW.out.alloc _) ⟨wr.heap.size, 0, none⟩ 1 1 [.int .i64 (j : Int)] rfl rfl (cell_one_new _ _ _) (fun u hu => by obtain rfl := List.mem_singleton.1 hu; rfl) (by unfold maxLen; omega) (by omega) (by have := Bw.size; simp; omega) ?_)
      intro v' w5 hown' hgrow _
      have B5 : Below w1.heap.size w1 w5 := (Bw.alloc Bw.size _).trans (grown_below hgrow (fun g' hg' => (HOW.out.lt g' hg').1) (by have := Bw.size; simp; omega))
      have hown2 : w5.ownsRow w1.heap.size 3 1 v' (j + 1) (upTo (j + 1)) := by rw [upTo_succ]; exact hown'
      rcases hown2.2 with ⟨_, h0⟩ | ⟨g', cp', cur', rfl, hrest⟩
      · omega
      have OW5 := Lib.hid hown2; clear hown2 hown' hrest hgrow HOW
      go_wp2_with fail
      go_roundw
      case rel => exact ⟨j + 1, _, cp', by omega, by go_num, rfl, OW5, B5⟩
      case measure => simp [intOf]; omega
    · obtain rfl : j = mK := by omega
      have t1 : decide ((j : Int) < (j : Int)) = false := decide_eq_false (by omega)
      have hia := IntsAt.of_owns (d := (List.range j).map Int.ofNat) (by rw [List.length_map, List.length_range]) HOW.out
      have HA := Lib.hid hia
      have hca := hia.cap
      have hma := hia.max
      clear hia HOW HI0 HZ0 HZ1 HZ2
      replace HK := Lib.hid (HK.out.below (Nat.le_refl _) Bw)
      replace HL := Lib.hid (HL.out.below Bw)
      replace b1 := b1.trans (Bw.mono b1.size)
      have HRP := Lib.hid (Many.range_rise j)
      have HQE := Lib.hid (Many.prove_none K)
      have hpf := prove_few K (List.range j)
      have hck1 := Many.check_all K
      have hck2 := Many.check_none K
      have hlk : K.length = j := hmK
      rw [hlk] at hpf hck1 hck2
      have hc1 := checkI_nat (r := Tree.root j (Tree.top K)) (X := K) (P := Many.prove K (List.range j)) (by omega) (Many.range_rise j).1 (Many.range_rise j).2
      have hc2 := checkI_nat (k := j) (B := []) (r := Tree.root j (Tree.top K)) (X := []) (P := [Tree.top K]) (by omega) List.Pairwise.nil (fun a h => by cases h)
      rw [hck1] at hc1
      rw [hck2, List.map_nil] at hc2
      have HC2 := Lib.hid hc2; clear hc2 hck1 hck2
      by_cases hp : 0 < j
      · have hpe := Many.prove_all (l := K) (by omega)
        rw [hlk] at hpe
        rw [hpe] at hc1
        have HPE := Lib.hid hpe; clear hpe hpf hlk
        have HC1 := Lib.hid hc1; clear hc1
        have t2 : decide ((0 : Int) < (j : Int)) = true := decide_eq_true (by omega)
        have t2' : decide (0 < j) = true := decide_eq_true (by omega)
        obtain ⟨q11, c11, v11, hrun, hs, dd⟩ := StrsAt.copy (HK.out.below (Nat.le_refl _) ((Below.refl wr.heap.size wr).alloc (Nat.le_refl _) (.cells #[] 9))) (by omega) ⟨wr.heap.size, 0, none⟩
        have d11 : Below wr.heap.size wr v11 := ((Below.refl _ _).alloc (Nat.le_refl _) _).trans (dd.mono (by simp))
        have hrun11 := hrun; clear hrun dd
        have C11 := Lib.hid hs; clear hs
        replace HK := Lib.hid (HK.out.below (Nat.le_refl _) d11)
        replace HA := Lib.hid (HA.out.below (Nat.le_refl _) d11)
        replace HL := Lib.hid (HL.out.below d11)
        replace b1 := b1.trans (d11.mono b1.size)
        have hrn := manyProve_any v11 _ _ _ _ _ _ K (List.range j) C11.out HA.out HRP.out.1 HRP.out.2 HLE.out (by omega) (by omega) HL.out
        rw [HPE.out, List.length_nil] at hrn
        have hc12 := hrn
        have HC12 := Lib.hid hc12; clear hc12
        go_wp2_with (first | ((with_reducible show wpList _ _ _ (⟨some 32, _, _, _, _, _⟩ :: _) _ _); refine wpList_append_ran (by kernel_rfl) _ _ _ rfl _ _ rfl rfl hrun11 ?_))
        refine HC12.out.mono ?_
        rintro e v12 ⟨q12, c12, rfl, hs, d12⟩
        replace HK := Lib.hid (HK.out.below (Nat.le_refl _) d12)
        replace HA := Lib.hid (HA.out.below (Nat.le_refl _) d12)
        replace HL := Lib.hid (HL.out.below d12)
        replace C11 := Lib.hid (C11.out.below (Nat.le_refl _) d12)
        replace b1 := b1.trans (d12.mono b1.size)
        have C12 := Lib.hid hs; clear hs
        clear HC12
        obtain ⟨q13, c13, v13, hrun, hs, dd⟩ := StrsAt.copy (HK.out.below (Nat.le_refl _) ((Below.refl v12.heap.size v12).alloc (Nat.le_refl _) (.cells #[] 9))) (by omega) ⟨v12.heap.size, 0, none⟩
        have d13 : Below v12.heap.size v12 v13 := ((Below.refl _ _).alloc (Nat.le_refl _) _).trans (dd.mono (by simp))
        have hrun13 := hrun; clear hrun dd
        have C13 := Lib.hid hs; clear hs
        replace HK := Lib.hid (HK.out.below (Nat.le_refl _) d13)
        replace HA := Lib.hid (HA.out.below (Nat.le_refl _) d13)
        replace HL := Lib.hid (HL.out.below d13)
        replace C11 := Lib.hid (C11.out.below (Nat.le_refl _) d13)
        replace C12 := Lib.hid (C12.out.below (Nat.le_refl _) d13)
        replace b1 := b1.trans (d13.mono b1.size)
        have hrn := manyProve_any v13 _ _ _ _ _ _ K [] C13.out ints_nil List.Pairwise.nil (fun a h => by cases h) HLE.out (by omega) (by omega) HL.out
        rw [HQE.out, List.length_singleton] at hrn
        have hc14 := hrn
        have HC14 := Lib.hid hc14; clear hc14
        go_wp2_with (first | ((with_reducible show wpList _ _ _ (⟨some 40, _, _, _, _, _⟩ :: _) _ _); refine wpList_append_ran (by kernel_rfl) _ _ _ rfl _ _ rfl rfl hrun13 ?_))
        refine HC14.out.mono ?_
        rintro e v14 ⟨q14, c14, rfl, hs, d14⟩
        replace HK := Lib.hid (HK.out.below (Nat.le_refl _) d14)
        replace HA := Lib.hid (HA.out.below (Nat.le_refl _) d14)
        replace HL := Lib.hid (HL.out.below d14)
        replace C11 := Lib.hid (C11.out.below (Nat.le_refl _) d14)
        replace C12 := Lib.hid (C12.out.below (Nat.le_refl _) d14)
        replace C13 := Lib.hid (C13.out.below (Nat.le_refl _) d14)
        replace b1 := b1.trans (d14.mono b1.size)
        have C14 := Lib.hid hs; clear hs
        clear HC14
        obtain ⟨q15, c15, v15, hrun, hs, dd⟩ := StrsAt.copy (HK.out.below (Nat.le_refl _) ((Below.refl v14.heap.size v14).alloc (Nat.le_refl _) (.cells #[] 9))) (by omega) ⟨v14.heap.size, 0, none⟩
        have d15 : Below v14.heap.size v14 v15 := ((Below.refl _ _).alloc (Nat.le_refl _) _).trans (dd.mono (by simp))
        have hrun15 := hrun; clear hrun dd
        have C15 := Lib.hid hs; clear hs
        replace HK := Lib.hid (HK.out.below (Nat.le_refl _) d15)
        replace HA := Lib.hid (HA.out.below (Nat.le_refl _) d15)
        replace HL := Lib.hid (HL.out.below d15)
        replace C11 := Lib.hid (C11.out.below (Nat.le_refl _) d15)
        replace C12 := Lib.hid (C12.out.below (Nat.le_refl _) d15)
        replace C13 := Lib.hid (C13.out.below (Nat.le_refl _) d15)
        replace C14 := Lib.hid (C14.out.below (Nat.le_refl _) d15)
        replace b1 := b1.trans (d15.mono b1.size)
        have hc16 := treeRoot_any v15 _ j _ K C15.out (by omega) HLE.out HL.out
        have HC16 := Lib.hid hc16; clear hc16
        go_wp2_with (first | ((with_reducible show wpList _ _ _ (⟨some 46, _, _, _, _, _⟩ :: _) _ _); refine wpList_append_ran (by kernel_rfl) _ _ _ rfl _ _ rfl rfl hrun15 ?_))
        refine HC16.out.mono ?_
        rintro e v16 ⟨rfl, d16⟩
        replace HK := Lib.hid (HK.out.below (Nat.le_refl _) d16)
        replace HA := Lib.hid (HA.out.below (Nat.le_refl _) d16)
        replace HL := Lib.hid (HL.out.below d16)
        replace C11 := Lib.hid (C11.out.below (Nat.le_refl _) d16)
        replace C12 := Lib.hid (C12.out.below (Nat.le_refl _) d16)
        replace C13 := Lib.hid (C13.out.below (Nat.le_refl _) d16)
        replace C14 := Lib.hid (C14.out.below (Nat.le_refl _) d16)
        replace C15 := Lib.hid (C15.out.below (Nat.le_refl _) d16)
        replace b1 := b1.trans (d16.mono b1.size)
        clear HC16
        obtain ⟨z17, hz17⟩ : ∃ z17, z17 = v16.alloc (.cells zero32 23) := ⟨_, rfl⟩
        have hzx : z17.heap[v16.heap.size]? = some (.cells zero32 23 (0, 0)) := by rw [hz17]; exact heap_alloc_new v16 _
        have hzb : Below v16.heap.size v16 z17 := by rw [hz17]; exact (Below.refl _ _).alloc (Nat.le_refl _) _
        obtain ⟨v17, hv17⟩ : ∃ v17, v17 = hset z17 v16.heap.size (Tree.root j (Tree.top K)) := ⟨_, rfl⟩
        have hx17 : v17.heap[v16.heap.size]? = some (.cells (byteCells (Tree.root j (Tree.top K))).toArray 23 (0, 0)) := by rw [hv17]; exact hset_heap _ hzx
        have d17 : Below v16.heap.size v16 v17 := by rw [hv17]; exact hset_below _ hzb (Nat.le_refl _)
        have ZX17 := Lib.hid hzx; have HZ17 := Lib.hid hz17; have HV17 := Lib.hid hv17; have X17 := Lib.hid hx17; clear hzx hzb hz17 hv17 hx17
        replace HK := Lib.hid (HK.out.below (Nat.le_refl _) d17)
        replace HA := Lib.hid (HA.out.below (Nat.le_refl _) d17)
        replace HL := Lib.hid (HL.out.below d17)
        replace C11 := Lib.hid (C11.out.below (Nat.le_refl _) d17)
        replace C12 := Lib.hid (C12.out.below (Nat.le_refl _) d17)
        replace C13 := Lib.hid (C13.out.below (Nat.le_refl _) d17)
        replace C14 := Lib.hid (C14.out.below (Nat.le_refl _) d17)
        replace C15 := Lib.hid (C15.out.below (Nat.le_refl _) d17)
        replace b1 := b1.trans (d17.mono b1.size)
        go_wp2_with (first | ((with_reducible show wpList _ _ _ (⟨none, .store 23 (.tmp 9) (.tmp 47), _, _, _, _⟩ :: _) _ _); change wpList _ _ _ _ _ (v16.alloc (.cells zero32 23)); rw [← HZ17.out]; refine wpList_put_hash (o := ⟨none, .store _ _ _, _, _, _, _⟩) rfl _ _ rfl v16.heap.size rfl (Tree.root j (Tree.top K)) (Tree.root_len _ _) rfl _ _ ZX17.out zero32_size ?_; rw [← HV17.out]))
        refine wp_region_rel [[], [0], [1], [2], [2, 3], [2, 4], [5], [6], [6, 7], [6, 8], [6, 9], [10], [10, 11], [10, 12], [6, 10, 13], [6, 14], [15], [16], [16], [16, 18], [16], [16], [16], [16, 21, 22], [16], [16, 17, 19, 20, 23, 24], [16, 25], [16, 26], [27], [28], [28], [28, 30], [28], [28, 29, 31, 32], [28, 33], [28, 34]] (mallA v16.heap.size j cK co c12 c14 oK qo q12 q14 K) 97 (by kernel_rfl) (by kernel_rfl) (by kernel_rfl) (mallA_mono v16.heap.size j cK co c12 c14 oK qo q12 q14 K) ?_ ?_
        · intro ix op hi w2 b2 vs hv
          have him : ix < 36 := (List.getElem?_eq_some_iff.1 hi).1
          have hL2 := HL.out.below b2
          match ix, him, hi with
          | 0, _, hi =>
            obtain rfl := Option.some.inj hi
            simp only [relF, List.getD_cons_zero, List.getD_cons_succ, List.foldl_cons, List.foldl_nil, dstAt, List.getElem?_cons_zero, List.getElem?_cons_succ, Option.bind_some]
            go_wp2_with fail
            exact ⟨rfl, Below.refl _ _, rfl, rfl⟩
          | 1, _, hi =>
            obtain rfl := Option.some.inj hi
            have h0 : vs 0 = _ := hv 0 (by decide)
            simp only [relF, List.getD_cons_zero, List.getD_cons_succ, List.foldl_cons, List.foldl_nil, dstAt, List.getElem?_cons_zero, List.getElem?_cons_succ, Option.bind_some]
            go_frame
            rw [h0]
            go_wp2_with fail
            exact ⟨rfl, Below.refl _ _, rfl, by first | rfl | (show slotOf _ _ = _; simp [slotOf]; done) | (show slotOf _ _ = _; simp [slotOf]; omega)⟩
          | 2, _, hi =>
            obtain rfl := Option.some.inj hi
            have h1 : vs 1 = _ := hv 1 (by decide)
            simp only [relF, List.getD_cons_zero, List.getD_cons_succ, List.foldl_cons, List.foldl_nil, dstAt, List.getElem?_cons_zero, List.getElem?_cons_succ, Option.bind_some]
            go_frame
            rw [h1]
            go_wp2_with fail
            exact ⟨rfl, Below.refl _ _, rfl, rfl⟩
          | 3, _, hi =>
            obtain rfl := Option.some.inj hi
            have h2 : vs 2 = _ := hv 2 (by decide)
            simp only [relF, List.getD_cons_zero, List.getD_cons_succ, List.foldl_cons, List.foldl_nil, dstAt, List.getElem?_cons_zero, List.getElem?_cons_succ, Option.bind_some]
            go_frame
            rw [h2]
            go_wp2_with fail
            exact ⟨rfl, Below.refl _ _, rfl, rfl⟩
          | 4, _, hi =>
            obtain rfl := Option.some.inj hi
            have h2 : vs 2 = _ := hv 2 (by decide)
            have h3 : vs 3 = _ := hv 3 (by decide)
            simp only [relF, List.getD_cons_zero, List.getD_cons_succ, List.foldl_cons, List.foldl_nil, dstAt, List.getElem?_cons_zero, List.getElem?_cons_succ, Option.bind_some]
            go_frame
            rw [h2, h3]
            go_wp2_with fail
            exact ⟨rfl, Below.refl _ _, rfl, by first | rfl | (show slotOf _ _ = _; simp [slotOf]; done) | (show slotOf _ _ = _; simp [slotOf]; omega)⟩
          | 5, _, hi =>
            obtain rfl := Option.some.inj hi
            have h2 : vs 2 = _ := hv 2 (by decide)
            have h4 : vs 4 = _ := hv 4 (by decide)
            simp only [relF, List.getD_cons_zero, List.getD_cons_succ, List.foldl_cons, List.foldl_nil, dstAt, List.getElem?_cons_zero, List.getElem?_cons_succ, Option.bind_some]
            go_frame
            rw [h2, h4]
            go_wp2_with fail
            exact ⟨rfl, Below.refl _ _, rfl, rfl⟩
          | 6, _, hi =>
            obtain rfl := Option.some.inj hi
            have h5 : vs 5 = _ := hv 5 (by decide)
            simp only [relF, List.getD_cons_zero, List.getD_cons_succ, List.foldl_cons, List.foldl_nil, dstAt, List.getElem?_cons_zero, List.getElem?_cons_succ, Option.bind_some]
            go_frame
            rw [h5]
            go_wp2_with fail
            exact ⟨rfl, Below.refl _ _, rfl, rfl⟩
          | 7, _, hi =>
            obtain rfl := Option.some.inj hi
            have h6 : vs 6 = _ := hv 6 (by decide)
            simp only [relF, List.getD_cons_zero, List.getD_cons_succ, List.foldl_cons, List.foldl_nil, dstAt, List.getElem?_cons_zero, List.getElem?_cons_succ, Option.bind_some]
            go_frame
            rw [h6]
            go_wp2_with fail
            exact ⟨rfl, Below.refl _ _, rfl, rfl⟩
          | 8, _, hi =>
            obtain rfl := Option.some.inj hi
            have h6 : vs 6 = _ := hv 6 (by decide)
            have h7 : vs 7 = _ := hv 7 (by decide)
            simp only [relF, List.getD_cons_zero, List.getD_cons_succ, List.foldl_cons, List.foldl_nil, dstAt, List.getElem?_cons_zero, List.getElem?_cons_succ, Option.bind_some]
            go_frame
            rw [h6, h7]
            go_wp2_with fail
            exact ⟨rfl, Below.refl _ _, rfl, rfl⟩
          | 9, _, hi =>
            obtain rfl := Option.some.inj hi
            have h6 : vs 6 = _ := hv 6 (by decide)
            have h8 : vs 8 = _ := hv 8 (by decide)
            simp only [relF, List.getD_cons_zero, List.getD_cons_succ, List.foldl_cons, List.foldl_nil, dstAt, List.getElem?_cons_zero, List.getElem?_cons_succ, Option.bind_some]
            go_frame
            rw [h6, h8]
            go_wp2_with fail
            exact ⟨rfl, Below.refl _ _, rfl, by first | rfl | (show slotOf _ _ = _; simp [slotOf]; done) | (show slotOf _ _ = _; simp [slotOf]; omega)⟩
          | 10, _, hi =>
            obtain rfl := Option.some.inj hi
            have h6 : vs 6 = _ := hv 6 (by decide)
            have h9 : vs 9 = _ := hv 9 (by decide)
            simp only [relF, List.getD_cons_zero, List.getD_cons_succ, List.foldl_cons, List.foldl_nil, dstAt, List.getElem?_cons_zero, List.getElem?_cons_succ, Option.bind_some]
            go_frame
            rw [h6, h9]
            go_wp2_with fail
            exact ⟨rfl, Below.refl _ _, rfl, rfl⟩
          | 11, _, hi =>
            obtain rfl := Option.some.inj hi
            have h10 : vs 10 = _ := hv 10 (by decide)
            simp only [relF, List.getD_cons_zero, List.getD_cons_succ, List.foldl_cons, List.foldl_nil, dstAt, List.getElem?_cons_zero, List.getElem?_cons_succ, Option.bind_some]
            go_frame
            rw [h10]
            go_wp2_with fail
            exact ⟨rfl, Below.refl _ _, rfl, rfl⟩
          | 12, _, hi =>
            obtain rfl := Option.some.inj hi
            have h10 : vs 10 = _ := hv 10 (by decide)
            have h11 : vs 11 = _ := hv 11 (by decide)
            simp only [relF, List.getD_cons_zero, List.getD_cons_succ, List.foldl_cons, List.foldl_nil, dstAt, List.getElem?_cons_zero, List.getElem?_cons_succ, Option.bind_some]
            go_frame
            rw [h10, h11]
            go_wp2_with fail
            exact ⟨rfl, Below.refl _ _, rfl, rfl⟩
          | 13, _, hi =>
            obtain rfl := Option.some.inj hi
            have h10 : vs 10 = _ := hv 10 (by decide)
            have h12 : vs 12 = _ := hv 12 (by decide)
            simp only [relF, List.getD_cons_zero, List.getD_cons_succ, List.foldl_cons, List.foldl_nil, dstAt, List.getElem?_cons_zero, List.getElem?_cons_succ, Option.bind_some]
            go_frame
            rw [h10, h12]
            go_wp2_with fail
            exact ⟨rfl, Below.refl _ _, rfl, by first | rfl | (show slotOf _ _ = _; simp [slotOf]; done) | (show slotOf _ _ = _; simp [slotOf]; omega)⟩
          | 14, _, hi =>
            obtain rfl := Option.some.inj hi
            have h6 : vs 6 = _ := hv 6 (by decide)
            have h10 : vs 10 = _ := hv 10 (by decide)
            have h13 : vs 13 = _ := hv 13 (by decide)
            simp only [relF, List.getD_cons_zero, List.getD_cons_succ, List.foldl_cons, List.foldl_nil, dstAt, List.getElem?_cons_zero, List.getElem?_cons_succ, Option.bind_some]
            go_frame
            rw [h6, h10, h13]
            go_wp2_with fail
            exact ⟨rfl, Below.refl _ _, rfl, rfl⟩
          | 15, _, hi =>
            obtain rfl := Option.some.inj hi
            have h6 : vs 6 = _ := hv 6 (by decide)
            have h14 : vs 14 = _ := hv 14 (by decide)
            simp only [relF, List.getD_cons_zero, List.getD_cons_succ, List.foldl_cons, List.foldl_nil, dstAt, List.getElem?_cons_zero, List.getElem?_cons_succ, Option.bind_some]
            go_frame
            rw [h6, h14]
            go_wp2_with fail
            exact ⟨rfl, Below.refl _ _, rfl, rfl⟩
          | 16, _, hi =>
            obtain rfl := Option.some.inj hi
            have h15 : vs 15 = _ := hv 15 (by decide)
            simp only [relF, List.getD_cons_zero, List.getD_cons_succ, List.foldl_cons, List.foldl_nil, dstAt, List.getElem?_cons_zero, List.getElem?_cons_succ, Option.bind_some]
            go_frame
            rw [h15]
            go_wp2_with fail
            exact ⟨rfl, Below.refl _ _, rfl, rfl⟩
          | 17, _, hi =>
            obtain rfl := Option.some.inj hi
            have h16 : vs 16 = _ := hv 16 (by decide)
            simp only [relF, List.getD_cons_zero, List.getD_cons_succ, List.foldl_cons, List.foldl_nil, dstAt, List.getElem?_cons_zero, List.getElem?_cons_succ, Option.bind_some]
            go_frame
            rw [h16]
            go_wp2_with ((with_reducible show wpList _ _ _ (⟨some 65, _, _, _, _, _⟩ :: _) _ _); refine wpList_load_hash (op := ⟨some 65, _, _, _, _, _⟩) (by kernel_rfl) _ rfl v16.heap.size rfl (Tree.root j (Tree.top K)) (Tree.root_len _ _) _ _ ((b2.block _ (lt_of_block X17.out)).trans X17.out) ?_)
            exact ⟨rfl, Below.refl _ _, rfl, rfl⟩
          | 18, _, hi =>
            obtain rfl := Option.some.inj hi
            have h16 : vs 16 = _ := hv 16 (by decide)
            simp only [relF, List.getD_cons_zero, List.getD_cons_succ, List.foldl_cons, List.foldl_nil, dstAt, List.getElem?_cons_zero, List.getElem?_cons_succ, Option.bind_some]
            go_frame
            rw [h16]
            go_wp2_with fail
            exact ⟨rfl, Below.refl _ _, rfl, rfl⟩
          | 19, _, hi =>
            obtain rfl := Option.some.inj hi
            have h16 : vs 16 = _ := hv 16 (by decide)
            have h18 : vs 18 = _ := hv 18 (by decide)
            simp only [relF, List.getD_cons_zero, List.getD_cons_succ, List.foldl_cons, List.foldl_nil, dstAt, List.getElem?_cons_zero, List.getElem?_cons_succ, Option.bind_some]
            go_frame
            rw [h16, h18]
            go_wp2_with fail
            exact ⟨rfl, Below.refl _ _, rfl, rfl⟩
          | 20, _, hi =>
            obtain rfl := Option.some.inj hi
            have h16 : vs 16 = _ := hv 16 (by decide)
            simp only [relF, List.getD_cons_zero, List.getD_cons_succ, List.foldl_cons, List.foldl_nil, dstAt, List.getElem?_cons_zero, List.getElem?_cons_succ, Option.bind_some]
            go_frame
            rw [h16]
            go_wp2_with fail
            exact ⟨rfl, Below.refl _ _, rfl, rfl⟩
          | 21, _, hi =>
            obtain rfl := Option.some.inj hi
            have h16 : vs 16 = _ := hv 16 (by decide)
            simp only [relF, List.getD_cons_zero, List.getD_cons_succ, List.foldl_cons, List.foldl_nil, dstAt, List.getElem?_cons_zero, List.getElem?_cons_succ, Option.bind_some]
            go_frame
            rw [h16]
            go_wp2_with fail
            exact ⟨rfl, (Below.refl _ _).alloc (Nat.le_refl _) _, rfl, w2.heap.size, rfl⟩
          | 22, _, hi =>
            obtain rfl := Option.some.inj hi
            have h16 : vs 16 = _ := hv 16 (by decide)
            simp only [relF, List.getD_cons_zero, List.getD_cons_succ, List.foldl_cons, List.foldl_nil, dstAt, List.getElem?_cons_zero, List.getElem?_cons_succ, Option.bind_some]
            go_frame
            rw [h16]
            go_wp2_with fail
            exact ⟨rfl, Below.refl _ _, rfl, rfl⟩
          | 23, _, hi =>
            obtain ⟨g21, e21⟩ := hv 21 (by decide)
            obtain rfl := Option.some.inj hi
            have h16 : vs 16 = _ := hv 16 (by decide)
            have h22 : vs 22 = _ := hv 22 (by decide)
            obtain ⟨q, cc, W, hrun, hs, hbb⟩ := StrsAt.copy (HK.out.below (Nat.le_refl _) b2) (by omega) ⟨g21, 0, none⟩
            simp only [relF, List.getD_cons_zero, List.getD_cons_succ, List.foldl_cons, List.foldl_nil, dstAt, List.getElem?_cons_zero, List.getElem?_cons_succ, Option.bind_some]
            go_frame
            rw [h16, e21, h22]
            go_wp2_with ((with_reducible show wpList _ _ _ (⟨some 71, _, _, _, _, _⟩ :: _) _ _); refine wpList_append_ran (by kernel_rfl) _ _ _ rfl _ _ rfl rfl hrun ?_)
            exact ⟨rfl, hbb, rfl, q, cc, rfl, hs⟩
          | 24, _, hi =>
            obtain rfl := Option.some.inj hi
            have h16 : vs 16 = _ := hv 16 (by decide)
            simp only [relF, List.getD_cons_zero, List.getD_cons_succ, List.foldl_cons, List.foldl_nil, dstAt, List.getElem?_cons_zero, List.getElem?_cons_succ, Option.bind_some]
            go_frame
            rw [h16]
            go_wp2_with fail
            exact ⟨rfl, Below.refl _ _, rfl, rfl⟩
          | 25, _, hi =>
            obtain ⟨q23, c23, e23, s23⟩ := hv 23 (by decide)
            obtain rfl := Option.some.inj hi
            have h16 : vs 16 = _ := hv 16 (by decide)
            have h17 : vs 17 = _ := hv 17 (by decide)
            have h19 : vs 19 = _ := hv 19 (by decide)
            have h20 : vs 20 = _ := hv 20 (by decide)
            have h24 : vs 24 = _ := hv 24 (by decide)
            have hrn := manyCheck_all w2 (Tree.root j (Tree.top K)) (Tree.root_len _ _) (j : Int) _ _ _ _ _ _ _ _ _ ((List.range j).map Int.ofNat) K [] (HA.out.below (Nat.le_refl _) b2) s23 (C12.out.below (Nat.le_refl _) b2) HLE.out (by omega) (by omega) (Nat.zero_le _) hL2
            rw [HC1.out] at hrn
            simp only [relF, List.getD_cons_zero, List.getD_cons_succ, List.foldl_cons, List.foldl_nil, dstAt, List.getElem?_cons_zero, List.getElem?_cons_succ, Option.bind_some]
            go_frame
            rw [h16, h17, h19, h20, e23, h24]
            go_wp2_with fail
            refine (hrn).mono ?_
            rintro e w3 ⟨rfl, b3⟩
            go_wp2_with fail
            exact ⟨rfl, b3, rfl, rfl⟩
          | 26, _, hi =>
            obtain rfl := Option.some.inj hi
            have h16 : vs 16 = _ := hv 16 (by decide)
            have h25 : vs 25 = _ := hv 25 (by decide)
            simp only [relF, List.getD_cons_zero, List.getD_cons_succ, List.foldl_cons, List.foldl_nil, dstAt, List.getElem?_cons_zero, List.getElem?_cons_succ, Option.bind_some]
            go_frame
            rw [h16, h25]
            go_wp2_with fail
            exact ⟨rfl, Below.refl _ _, rfl, rfl⟩
          | 27, _, hi =>
            obtain rfl := Option.some.inj hi
            have h16 : vs 16 = _ := hv 16 (by decide)
            have h26 : vs 26 = _ := hv 26 (by decide)
            simp only [relF, List.getD_cons_zero, List.getD_cons_succ, List.foldl_cons, List.foldl_nil, dstAt, List.getElem?_cons_zero, List.getElem?_cons_succ, Option.bind_some]
            go_frame
            rw [h16, h26]
            go_wp2_with fail
            exact ⟨rfl, Below.refl _ _, rfl, rfl⟩
          | 28, _, hi =>
            obtain rfl := Option.some.inj hi
            have h27 : vs 27 = _ := hv 27 (by decide)
            simp only [relF, List.getD_cons_zero, List.getD_cons_succ, List.foldl_cons, List.foldl_nil, dstAt, List.getElem?_cons_zero, List.getElem?_cons_succ, Option.bind_some]
            go_frame
            rw [h27]
            go_wp2_with fail
            exact ⟨rfl, Below.refl _ _, rfl, rfl⟩
          | 29, _, hi =>
            obtain rfl := Option.some.inj hi
            have h28 : vs 28 = _ := hv 28 (by decide)
            simp only [relF, List.getD_cons_zero, List.getD_cons_succ, List.foldl_cons, List.foldl_nil, dstAt, List.getElem?_cons_zero, List.getElem?_cons_succ, Option.bind_some]
            go_frame
            rw [h28]
            go_wp2_with ((with_reducible show wpList _ _ _ (⟨some 77, _, _, _, _, _⟩ :: _) _ _); refine wpList_load_hash (op := ⟨some 77, _, _, _, _, _⟩) (by kernel_rfl) _ rfl v16.heap.size rfl (Tree.root j (Tree.top K)) (Tree.root_len _ _) _ _ ((b2.block _ (lt_of_block X17.out)).trans X17.out) ?_)
            exact ⟨rfl, Below.refl _ _, rfl, rfl⟩
          | 30, _, hi =>
            obtain rfl := Option.some.inj hi
            have h28 : vs 28 = _ := hv 28 (by decide)
            simp only [relF, List.getD_cons_zero, List.getD_cons_succ, List.foldl_cons, List.foldl_nil, dstAt, List.getElem?_cons_zero, List.getElem?_cons_succ, Option.bind_some]
            go_frame
            rw [h28]
            go_wp2_with fail
            exact ⟨rfl, Below.refl _ _, rfl, rfl⟩
          | 31, _, hi =>
            obtain rfl := Option.some.inj hi
            have h28 : vs 28 = _ := hv 28 (by decide)
            have h30 : vs 30 = _ := hv 30 (by decide)
            simp only [relF, List.getD_cons_zero, List.getD_cons_succ, List.foldl_cons, List.foldl_nil, dstAt, List.getElem?_cons_zero, List.getElem?_cons_succ, Option.bind_some]
            go_frame
            rw [h28, h30]
            go_wp2_with fail
            exact ⟨rfl, Below.refl _ _, rfl, rfl⟩
          | 32, _, hi =>
            obtain rfl := Option.some.inj hi
            have h28 : vs 28 = _ := hv 28 (by decide)
            simp only [relF, List.getD_cons_zero, List.getD_cons_succ, List.foldl_cons, List.foldl_nil, dstAt, List.getElem?_cons_zero, List.getElem?_cons_succ, Option.bind_some]
            go_frame
            rw [h28]
            go_wp2_with fail
            exact ⟨rfl, Below.refl _ _, rfl, rfl⟩
          | 33, _, hi =>
            obtain rfl := Option.some.inj hi
            have h28 : vs 28 = _ := hv 28 (by decide)
            have h29 : vs 29 = _ := hv 29 (by decide)
            have h31 : vs 31 = _ := hv 31 (by decide)
            have h32 : vs 32 = _ := hv 32 (by decide)
            have hrn := manyCheck_all w2 (Tree.root j (Tree.top K)) (Tree.root_len _ _) (j : Int) _ _ _ _ _ _ _ _ _ [] [] [Tree.top K] ints_nil strs_nil (C14.out.below (Nat.le_refl _) b2) (by simp) (by decide) (by decide) (by decide) hL2
            rw [HC2.out] at hrn
            simp only [relF, List.getD_cons_zero, List.getD_cons_succ, List.foldl_cons, List.foldl_nil, dstAt, List.getElem?_cons_zero, List.getElem?_cons_succ, Option.bind_some]
            go_frame
            rw [h28, h29, h31, h32]
            go_wp2_with fail
            refine (hrn).mono ?_
            rintro e w3 ⟨rfl, b3⟩
            go_wp2_with fail
            exact ⟨rfl, b3, rfl, rfl⟩
          | 34, _, hi =>
            obtain rfl := Option.some.inj hi
            have h28 : vs 28 = _ := hv 28 (by decide)
            have h33 : vs 33 = _ := hv 33 (by decide)
            simp only [relF, List.getD_cons_zero, List.getD_cons_succ, List.foldl_cons, List.foldl_nil, dstAt, List.getElem?_cons_zero, List.getElem?_cons_succ, Option.bind_some]
            go_frame
            rw [h28, h33]
            go_wp2_with fail
            exact ⟨rfl, Below.refl _ _, rfl, rfl⟩
          | 35, _, hi =>
            obtain rfl := Option.some.inj hi
            have h28 : vs 28 = _ := hv 28 (by decide)
            have h34 : vs 34 = _ := hv 34 (by decide)
            simp only [relF, List.getD_cons_zero, List.getD_cons_succ, List.foldl_cons, List.foldl_nil, dstAt, List.getElem?_cons_zero, List.getElem?_cons_succ, Option.bind_some]
            go_frame
            rw [h28, h34]
            go_wp2_with fail
            exact ⟨rfl, Below.refl _ _, rfl, rfl⟩
          | nx + 36, him, _ => exact absurd him (by omega)
        · intro w2 b2 vs hv
          have hL2 := HL.out.below b2
          have h35 : vs 35 = _ := hv 35 (by decide)
          simp only [relF, List.drop_succ_cons, List.drop_zero, List.length_cons, List.length_nil, Nat.zero_add, Nat.reduceAdd, List.range, List.range.loop, List.foldl_cons, List.foldl_nil, dstAt, List.getElem?_cons_zero, List.getElem?_cons_succ, Option.bind_some]
          go_frame
          rw [h35]
          have B2 := b1.trans (b2.mono b1.size)
          have HK2 := Lib.hid (HK.out.below (Nat.le_refl _) b2)
          have HQ2 := Lib.hid (C14.out.below (Nat.le_refl _) b2)
          have HL2 := Lib.hid hL2; clear hL2
          clear hv
          have hq0 := HQ2.out.form (by decide)
          obtain ⟨bq, oq, hqe⟩ := hq0
          subst hqe
          have hqg := HQ2.out.get (i := 0) (l := Tree.top K) rfl
          rw [Nat.zero_mul, Nat.add_zero] at hqg
          have HQG := Lib.hid hqg; clear hqg
          go_wp2_with fail
          refine wp_region_rel [[], [0], [1], [2], [3], [3, 4], [3, 5], [3], [3], [3, 7, 8], [3, 9], [3, 6, 10], [3, 11], [12]] (mallA2 bq oq j cK c14 oK K) 97 (by kernel_rfl) (by kernel_rfl) (by kernel_rfl) (mallA2_mono bq oq j cK c14 oK K) ?_ ?_
          · intro ix op hi w4 b2 vs hv
            have him : ix < 14 := (List.getElem?_eq_some_iff.1 hi).1
            have hL2 := HL2.out.below b2
            match ix, him, hi with
            | 0, _, hi =>
              obtain rfl := Option.some.inj hi
              simp only [relF, List.getD_cons_zero, List.getD_cons_succ, List.foldl_cons, List.foldl_nil, dstAt, List.getElem?_cons_zero, List.getElem?_cons_succ, Option.bind_some]
              go_wp2_with fail
              exact ⟨rfl, Below.refl _ _, rfl, rfl⟩
            | 1, _, hi =>
              obtain rfl := Option.some.inj hi
              have h0 : vs 0 = _ := hv 0 (by decide)
              simp only [relF, List.getD_cons_zero, List.getD_cons_succ, List.foldl_cons, List.foldl_nil, dstAt, List.getElem?_cons_zero, List.getElem?_cons_succ, Option.bind_some]
              go_frame
              rw [h0]
              go_wp2_with fail
              exact ⟨rfl, Below.refl _ _, rfl, rfl⟩
            | 2, _, hi =>
              obtain rfl := Option.some.inj hi
              have h1 : vs 1 = _ := hv 1 (by decide)
              simp only [relF, List.getD_cons_zero, List.getD_cons_succ, List.foldl_cons, List.foldl_nil, dstAt, List.getElem?_cons_zero, List.getElem?_cons_succ, Option.bind_some]
              go_frame
              rw [h1]
              go_wp2_with fail
              exact ⟨rfl, Below.refl _ _, rfl, by first | rfl | (show slotOf _ _ = _; simp [slotOf])⟩
            | 3, _, hi =>
              obtain rfl := Option.some.inj hi
              have h2 : vs 2 = _ := hv 2 (by decide)
              simp only [relF, List.getD_cons_zero, List.getD_cons_succ, List.foldl_cons, List.foldl_nil, dstAt, List.getElem?_cons_zero, List.getElem?_cons_succ, Option.bind_some]
              go_frame
              rw [h2]
              go_wp2_with fail
              exact ⟨rfl, Below.refl _ _, rfl, rfl⟩
            | 4, _, hi =>
              obtain rfl := Option.some.inj hi
              have h3 : vs 3 = _ := hv 3 (by decide)
              simp only [relF, List.getD_cons_zero, List.getD_cons_succ, List.foldl_cons, List.foldl_nil, dstAt, List.getElem?_cons_zero, List.getElem?_cons_succ, Option.bind_some]
              go_frame
              rw [h3]
              go_wp2_with fail
              exact ⟨rfl, Below.refl _ _, rfl, rfl⟩
            | 5, _, hi =>
              obtain rfl := Option.some.inj hi
              have h3 : vs 3 = _ := hv 3 (by decide)
              have h4 : vs 4 = _ := hv 4 (by decide)
              simp only [relF, List.getD_cons_zero, List.getD_cons_succ, List.foldl_cons, List.foldl_nil, dstAt, List.getElem?_cons_zero, List.getElem?_cons_succ, Option.bind_some]
              go_frame
              rw [h3, h4]
              go_wp2_with fail
              exact ⟨rfl, Below.refl _ _, rfl, rfl⟩
            | 6, _, hi =>
              obtain rfl := Option.some.inj hi
              have h3 : vs 3 = _ := hv 3 (by decide)
              have h5 : vs 5 = _ := hv 5 (by decide)
              have hqg := range_under HQG.out.2 HQG.out.1 b2
              simp only [relF, List.getD_cons_zero, List.getD_cons_succ, List.foldl_cons, List.foldl_nil, dstAt, List.getElem?_cons_zero, List.getElem?_cons_succ, Option.bind_some]
              go_frame
              rw [h3, h5]
              go_wp2_with ((with_reducible show wpList _ _ _ (⟨some 90, _, _, _, _, _⟩ :: _) _ _); refine wpList_load_hashG (op := ⟨some 90, _, _, _, _, _⟩) (by kernel_rfl) _ rfl bq oq rfl (Tree.top K) (Tree.top_len _) hqg ?_)
              exact ⟨rfl, Below.refl _ _, rfl, rfl⟩
            | 7, _, hi =>
              obtain rfl := Option.some.inj hi
              have h3 : vs 3 = _ := hv 3 (by decide)
              simp only [relF, List.getD_cons_zero, List.getD_cons_succ, List.foldl_cons, List.foldl_nil, dstAt, List.getElem?_cons_zero, List.getElem?_cons_succ, Option.bind_some]
              go_frame
              rw [h3]
              go_wp2_with fail
              exact ⟨rfl, (Below.refl _ _).alloc (Nat.le_refl _) _, rfl, w4.heap.size, rfl⟩
            | 8, _, hi =>
              obtain rfl := Option.some.inj hi
              have h3 : vs 3 = _ := hv 3 (by decide)
              simp only [relF, List.getD_cons_zero, List.getD_cons_succ, List.foldl_cons, List.foldl_nil, dstAt, List.getElem?_cons_zero, List.getElem?_cons_succ, Option.bind_some]
              go_frame
              rw [h3]
              go_wp2_with fail
              exact ⟨rfl, Below.refl _ _, rfl, rfl⟩
            | 9, _, hi =>
              obtain ⟨g7, e7⟩ := hv 7 (by decide)
              obtain rfl := Option.some.inj hi
              have h3 : vs 3 = _ := hv 3 (by decide)
              have h8 : vs 8 = _ := hv 8 (by decide)
              obtain ⟨q, cc, W, hrun, hs, hbb⟩ := StrsAt.copy (HK2.out.below (Nat.le_refl _) b2) (by omega) ⟨g7, 0, none⟩
              simp only [relF, List.getD_cons_zero, List.getD_cons_succ, List.foldl_cons, List.foldl_nil, dstAt, List.getElem?_cons_zero, List.getElem?_cons_succ, Option.bind_some]
              go_frame
              rw [h3, e7, h8]
              go_wp2_with ((with_reducible show wpList _ _ _ (⟨some 93, _, _, _, _, _⟩ :: _) _ _); refine wpList_append_ran (by kernel_rfl) _ _ _ rfl _ _ rfl rfl hrun ?_)
              exact ⟨rfl, hbb, rfl, q, cc, rfl, hs⟩
            | 10, _, hi =>
              obtain ⟨q9, c9, e9, s9⟩ := hv 9 (by decide)
              obtain rfl := Option.some.inj hi
              have h3 : vs 3 = _ := hv 3 (by decide)
              simp only [relF, List.getD_cons_zero, List.getD_cons_succ, List.foldl_cons, List.foldl_nil, dstAt, List.getElem?_cons_zero, List.getElem?_cons_succ, Option.bind_some]
              go_frame
              rw [h3, e9]
              go_wp2_with fail
              refine (treeTop_any j w4 _ _ _ K rfl s9 (by omega) HLE.out hL2).mono ?_
              rintro e w3 ⟨rfl, b3⟩
              go_wp2_with fail
              exact ⟨rfl, b3, rfl, rfl⟩
            | 11, _, hi =>
              obtain rfl := Option.some.inj hi
              have h3 : vs 3 = _ := hv 3 (by decide)
              have h6 : vs 6 = _ := hv 6 (by decide)
              have h10 : vs 10 = _ := hv 10 (by decide)
              simp only [relF, List.getD_cons_zero, List.getD_cons_succ, List.foldl_cons, List.foldl_nil, dstAt, List.getElem?_cons_zero, List.getElem?_cons_succ, Option.bind_some]
              go_frame
              rw [h3, h6, h10]
              go_wp2_with ((with_reducible show wpList _ _ _ (⟨some 95, _, _, _, _, _⟩ :: _) _ _); refine wpList_eql_hash (op := ⟨some 95, _, _, _, _, _⟩) (by kernel_rfl) _ _ rfl (Tree.top K) (Tree.top K) (Tree.top_len _) (Tree.top_len _) rfl rfl ?_; rw [beq_self_eq_true])
              exact ⟨rfl, Below.refl _ _, rfl, rfl⟩
            | 12, _, hi =>
              obtain rfl := Option.some.inj hi
              have h3 : vs 3 = _ := hv 3 (by decide)
              have h11 : vs 11 = _ := hv 11 (by decide)
              simp only [relF, List.getD_cons_zero, List.getD_cons_succ, List.foldl_cons, List.foldl_nil, dstAt, List.getElem?_cons_zero, List.getElem?_cons_succ, Option.bind_some]
              go_frame
              rw [h3, h11]
              go_wp2_with fail
              exact ⟨rfl, Below.refl _ _, rfl, rfl⟩
            | 13, _, hi =>
              obtain rfl := Option.some.inj hi
              have h12 : vs 12 = _ := hv 12 (by decide)
              simp only [relF, List.getD_cons_zero, List.getD_cons_succ, List.foldl_cons, List.foldl_nil, dstAt, List.getElem?_cons_zero, List.getElem?_cons_succ, Option.bind_some]
              go_frame
              rw [h12]
              go_wp2_with fail
              exact ⟨rfl, Below.refl _ _, rfl, rfl⟩
            | nx + 14, him, _ => exact absurd him (by omega)
          · intro w4 b2 vs hv
            have hL2 := HL2.out.below b2
            have h13 : vs 13 = _ := hv 13 (by decide)
            simp only [relF, List.drop_succ_cons, List.drop_zero, List.length_cons, List.length_nil, Nat.zero_add, Nat.reduceAdd, List.range, List.range.loop, List.foldl_cons, List.foldl_nil, dstAt, List.getElem?_cons_zero, List.getElem?_cons_succ, Option.bind_some]
            go_frame
            rw [h13]
            go_wp2_with fail
            go_ret
            exact ⟨rfl, B2.trans (b2.mono B2.size)⟩
      · have HC1 := Lib.hid hc1; clear hc1 hlk
        have t2 : decide ((0 : Int) < (j : Int)) = false := decide_eq_false (by omega)
        have t2' : decide (0 < j) = false := decide_eq_false (by omega)
        obtain ⟨q11, c11, v11, hrun, hs, dd⟩ := StrsAt.copy (HK.out.below (Nat.le_refl _) ((Below.refl wr.heap.size wr).alloc (Nat.le_refl _) (.cells #[] 9))) (by omega) ⟨wr.heap.size, 0, none⟩
        have d11 : Below wr.heap.size wr v11 := ((Below.refl _ _).alloc (Nat.le_refl _) _).trans (dd.mono (by simp))
        have hrun11 := hrun; clear hrun dd
        have C11 := Lib.hid hs; clear hs
        replace HK := Lib.hid (HK.out.below (Nat.le_refl _) d11)
        replace HA := Lib.hid (HA.out.below (Nat.le_refl _) d11)
        replace HL := Lib.hid (HL.out.below d11)
        replace b1 := b1.trans (d11.mono b1.size)
        have hc12 := manyProve_any v11 _ _ _ _ _ _ K (List.range j) C11.out HA.out HRP.out.1 HRP.out.2 HLE.out (by omega) (by omega) HL.out
        have HC12 := Lib.hid hc12; clear hc12
        go_wp2_with (first | ((with_reducible show wpList _ _ _ (⟨some 32, _, _, _, _, _⟩ :: _) _ _); refine wpList_append_ran (by kernel_rfl) _ _ _ rfl _ _ rfl rfl hrun11 ?_))
        refine HC12.out.mono ?_
        rintro e v12 ⟨q12, c12, rfl, hs, d12⟩
        replace HK := Lib.hid (HK.out.below (Nat.le_refl _) d12)
        replace HA := Lib.hid (HA.out.below (Nat.le_refl _) d12)
        replace HL := Lib.hid (HL.out.below d12)
        replace C11 := Lib.hid (C11.out.below (Nat.le_refl _) d12)
        replace b1 := b1.trans (d12.mono b1.size)
        have C12 := Lib.hid hs; clear hs
        clear HC12
        obtain ⟨q13, c13, v13, hrun, hs, dd⟩ := StrsAt.copy (HK.out.below (Nat.le_refl _) ((Below.refl v12.heap.size v12).alloc (Nat.le_refl _) (.cells #[] 9))) (by omega) ⟨v12.heap.size, 0, none⟩
        have d13 : Below v12.heap.size v12 v13 := ((Below.refl _ _).alloc (Nat.le_refl _) _).trans (dd.mono (by simp))
        have hrun13 := hrun; clear hrun dd
        have C13 := Lib.hid hs; clear hs
        replace HK := Lib.hid (HK.out.below (Nat.le_refl _) d13)
        replace HA := Lib.hid (HA.out.below (Nat.le_refl _) d13)
        replace HL := Lib.hid (HL.out.below d13)
        replace C11 := Lib.hid (C11.out.below (Nat.le_refl _) d13)
        replace C12 := Lib.hid (C12.out.below (Nat.le_refl _) d13)
        replace b1 := b1.trans (d13.mono b1.size)
        have hrn := manyProve_any v13 _ _ _ _ _ _ K [] C13.out ints_nil List.Pairwise.nil (fun a h => by cases h) HLE.out (by omega) (by omega) HL.out
        rw [HQE.out, List.length_singleton] at hrn
        have hc14 := hrn
        have HC14 := Lib.hid hc14; clear hc14
        go_wp2_with (first | ((with_reducible show wpList _ _ _ (⟨some 40, _, _, _, _, _⟩ :: _) _ _); refine wpList_append_ran (by kernel_rfl) _ _ _ rfl _ _ rfl rfl hrun13 ?_))
        refine HC14.out.mono ?_
        rintro e v14 ⟨q14, c14, rfl, hs, d14⟩
        replace HK := Lib.hid (HK.out.below (Nat.le_refl _) d14)
        replace HA := Lib.hid (HA.out.below (Nat.le_refl _) d14)
        replace HL := Lib.hid (HL.out.below d14)
        replace C11 := Lib.hid (C11.out.below (Nat.le_refl _) d14)
        replace C12 := Lib.hid (C12.out.below (Nat.le_refl _) d14)
        replace C13 := Lib.hid (C13.out.below (Nat.le_refl _) d14)
        replace b1 := b1.trans (d14.mono b1.size)
        have C14 := Lib.hid hs; clear hs
        clear HC14
        obtain ⟨q15, c15, v15, hrun, hs, dd⟩ := StrsAt.copy (HK.out.below (Nat.le_refl _) ((Below.refl v14.heap.size v14).alloc (Nat.le_refl _) (.cells #[] 9))) (by omega) ⟨v14.heap.size, 0, none⟩
        have d15 : Below v14.heap.size v14 v15 := ((Below.refl _ _).alloc (Nat.le_refl _) _).trans (dd.mono (by simp))
        have hrun15 := hrun; clear hrun dd
        have C15 := Lib.hid hs; clear hs
        replace HK := Lib.hid (HK.out.below (Nat.le_refl _) d15)
        replace HA := Lib.hid (HA.out.below (Nat.le_refl _) d15)
        replace HL := Lib.hid (HL.out.below d15)
        replace C11 := Lib.hid (C11.out.below (Nat.le_refl _) d15)
        replace C12 := Lib.hid (C12.out.below (Nat.le_refl _) d15)
        replace C13 := Lib.hid (C13.out.below (Nat.le_refl _) d15)
        replace C14 := Lib.hid (C14.out.below (Nat.le_refl _) d15)
        replace b1 := b1.trans (d15.mono b1.size)
        have hc16 := treeRoot_any v15 _ j _ K C15.out (by omega) HLE.out HL.out
        have HC16 := Lib.hid hc16; clear hc16
        go_wp2_with (first | ((with_reducible show wpList _ _ _ (⟨some 46, _, _, _, _, _⟩ :: _) _ _); refine wpList_append_ran (by kernel_rfl) _ _ _ rfl _ _ rfl rfl hrun15 ?_))
        refine HC16.out.mono ?_
        rintro e v16 ⟨rfl, d16⟩
        replace HK := Lib.hid (HK.out.below (Nat.le_refl _) d16)
        replace HA := Lib.hid (HA.out.below (Nat.le_refl _) d16)
        replace HL := Lib.hid (HL.out.below d16)
        replace C11 := Lib.hid (C11.out.below (Nat.le_refl _) d16)
        replace C12 := Lib.hid (C12.out.below (Nat.le_refl _) d16)
        replace C13 := Lib.hid (C13.out.below (Nat.le_refl _) d16)
        replace C14 := Lib.hid (C14.out.below (Nat.le_refl _) d16)
        replace C15 := Lib.hid (C15.out.below (Nat.le_refl _) d16)
        replace b1 := b1.trans (d16.mono b1.size)
        clear HC16
        obtain ⟨z17, hz17⟩ : ∃ z17, z17 = v16.alloc (.cells zero32 23) := ⟨_, rfl⟩
        have hzx : z17.heap[v16.heap.size]? = some (.cells zero32 23 (0, 0)) := by rw [hz17]; exact heap_alloc_new v16 _
        have hzb : Below v16.heap.size v16 z17 := by rw [hz17]; exact (Below.refl _ _).alloc (Nat.le_refl _) _
        obtain ⟨v17, hv17⟩ : ∃ v17, v17 = hset z17 v16.heap.size (Tree.root j (Tree.top K)) := ⟨_, rfl⟩
        have hx17 : v17.heap[v16.heap.size]? = some (.cells (byteCells (Tree.root j (Tree.top K))).toArray 23 (0, 0)) := by rw [hv17]; exact hset_heap _ hzx
        have d17 : Below v16.heap.size v16 v17 := by rw [hv17]; exact hset_below _ hzb (Nat.le_refl _)
        have ZX17 := Lib.hid hzx; have HZ17 := Lib.hid hz17; have HV17 := Lib.hid hv17; have X17 := Lib.hid hx17; clear hzx hzb hz17 hv17 hx17
        replace HK := Lib.hid (HK.out.below (Nat.le_refl _) d17)
        replace HA := Lib.hid (HA.out.below (Nat.le_refl _) d17)
        replace HL := Lib.hid (HL.out.below d17)
        replace C11 := Lib.hid (C11.out.below (Nat.le_refl _) d17)
        replace C12 := Lib.hid (C12.out.below (Nat.le_refl _) d17)
        replace C13 := Lib.hid (C13.out.below (Nat.le_refl _) d17)
        replace C14 := Lib.hid (C14.out.below (Nat.le_refl _) d17)
        replace C15 := Lib.hid (C15.out.below (Nat.le_refl _) d17)
        replace b1 := b1.trans (d17.mono b1.size)
        go_wp2_with (first | ((with_reducible show wpList _ _ _ (⟨none, .store 23 (.tmp 9) (.tmp 47), _, _, _, _⟩ :: _) _ _); change wpList _ _ _ _ _ (v16.alloc (.cells zero32 23)); rw [← HZ17.out]; refine wpList_put_hash (o := ⟨none, .store _ _ _, _, _, _, _⟩) rfl _ _ rfl v16.heap.size rfl (Tree.root j (Tree.top K)) (Tree.root_len _ _) rfl _ _ ZX17.out zero32_size ?_; rw [← HV17.out]))
        refine wp_region_rel [[], [0], [1], [2], [2, 3], [2, 4], [5], [6], [6, 7], [6, 8], [6, 9], [10], [10, 11], [10, 12], [6, 10, 13], [6, 14], [15], [16], [16], [16, 18], [16], [16], [16], [16, 21, 22], [16], [16, 17, 19, 20, 23, 24], [16, 25], [16, 26], [27], [28], [28], [28, 30], [28], [28, 29, 31, 32], [28, 33], [28, 34]] (mallB v16.heap.size j cK co c12 c14 oK qo q12 q14 K) 97 (by kernel_rfl) (by kernel_rfl) (by kernel_rfl) (mallB_mono v16.heap.size j cK co c12 c14 oK qo q12 q14 K) ?_ ?_
        · intro ix op hi w2 b2 vs hv
          have him : ix < 36 := (List.getElem?_eq_some_iff.1 hi).1
          have hL2 := HL.out.below b2
          match ix, him, hi with
          | 0, _, hi =>
            obtain rfl := Option.some.inj hi
            simp only [relF, List.getD_cons_zero, List.getD_cons_succ, List.foldl_cons, List.foldl_nil, dstAt, List.getElem?_cons_zero, List.getElem?_cons_succ, Option.bind_some]
            go_wp2_with fail
            exact ⟨rfl, Below.refl _ _, rfl, rfl⟩
          | 1, _, hi =>
            obtain rfl := Option.some.inj hi
            have h0 : vs 0 = _ := hv 0 (by decide)
            simp only [relF, List.getD_cons_zero, List.getD_cons_succ, List.foldl_cons, List.foldl_nil, dstAt, List.getElem?_cons_zero, List.getElem?_cons_succ, Option.bind_some]
            go_frame
            rw [h0]
            go_wp2_with fail
            exact ⟨rfl, Below.refl _ _, rfl, by first | rfl | (show slotOf _ _ = _; simp [slotOf]; done) | (show slotOf _ _ = _; simp [slotOf]; omega)⟩
          | 2, _, hi =>
            obtain rfl := Option.some.inj hi
            have h1 : vs 1 = _ := hv 1 (by decide)
            simp only [relF, List.getD_cons_zero, List.getD_cons_succ, List.foldl_cons, List.foldl_nil, dstAt, List.getElem?_cons_zero, List.getElem?_cons_succ, Option.bind_some]
            go_frame
            rw [h1]
            go_wp2_with fail
            exact ⟨rfl, Below.refl _ _, rfl, rfl⟩
          | 3, _, hi =>
            obtain rfl := Option.some.inj hi
            have h2 : vs 2 = _ := hv 2 (by decide)
            simp only [relF, List.getD_cons_zero, List.getD_cons_succ, List.foldl_cons, List.foldl_nil, dstAt, List.getElem?_cons_zero, List.getElem?_cons_succ, Option.bind_some]
            go_frame
            rw [h2]
            go_wp2_with fail
            exact ⟨rfl, Below.refl _ _, rfl, rfl⟩
          | 4, _, hi =>
            obtain rfl := Option.some.inj hi
            have h2 : vs 2 = _ := hv 2 (by decide)
            have h3 : vs 3 = _ := hv 3 (by decide)
            simp only [relF, List.getD_cons_zero, List.getD_cons_succ, List.foldl_cons, List.foldl_nil, dstAt, List.getElem?_cons_zero, List.getElem?_cons_succ, Option.bind_some]
            go_frame
            rw [h2, h3]
            go_wp2_with fail
            exact ⟨rfl, Below.refl _ _, rfl, by first | rfl | (show slotOf _ _ = _; simp [slotOf]; done) | (show slotOf _ _ = _; simp [slotOf]; omega)⟩
          | 5, _, hi =>
            obtain rfl := Option.some.inj hi
            have h2 : vs 2 = _ := hv 2 (by decide)
            have h4 : vs 4 = _ := hv 4 (by decide)
            simp only [relF, List.getD_cons_zero, List.getD_cons_succ, List.foldl_cons, List.foldl_nil, dstAt, List.getElem?_cons_zero, List.getElem?_cons_succ, Option.bind_some]
            go_frame
            rw [h2, h4]
            go_wp2_with fail
            exact ⟨rfl, Below.refl _ _, rfl, rfl⟩
          | 6, _, hi =>
            obtain rfl := Option.some.inj hi
            have h5 : vs 5 = _ := hv 5 (by decide)
            simp only [relF, List.getD_cons_zero, List.getD_cons_succ, List.foldl_cons, List.foldl_nil, dstAt, List.getElem?_cons_zero, List.getElem?_cons_succ, Option.bind_some]
            go_frame
            rw [h5]
            go_wp2_with fail
            exact ⟨rfl, Below.refl _ _, rfl, rfl⟩
          | 7, _, hi =>
            obtain rfl := Option.some.inj hi
            have h6 : vs 6 = _ := hv 6 (by decide)
            simp only [relF, List.getD_cons_zero, List.getD_cons_succ, List.foldl_cons, List.foldl_nil, dstAt, List.getElem?_cons_zero, List.getElem?_cons_succ, Option.bind_some]
            go_frame
            rw [h6]
            go_wp2_with fail
            exact ⟨rfl, Below.refl _ _, rfl, rfl⟩
          | 8, _, hi =>
            obtain rfl := Option.some.inj hi
            have h6 : vs 6 = _ := hv 6 (by decide)
            have h7 : vs 7 = _ := hv 7 (by decide)
            simp only [relF, List.getD_cons_zero, List.getD_cons_succ, List.foldl_cons, List.foldl_nil, dstAt, List.getElem?_cons_zero, List.getElem?_cons_succ, Option.bind_some]
            go_frame
            rw [h6, h7]
            go_wp2_with fail
            exact ⟨rfl, Below.refl _ _, rfl, rfl⟩
          | 9, _, hi =>
            obtain rfl := Option.some.inj hi
            have h6 : vs 6 = _ := hv 6 (by decide)
            have h8 : vs 8 = _ := hv 8 (by decide)
            simp only [relF, List.getD_cons_zero, List.getD_cons_succ, List.foldl_cons, List.foldl_nil, dstAt, List.getElem?_cons_zero, List.getElem?_cons_succ, Option.bind_some]
            go_frame
            rw [h6, h8]
            go_wp2_with fail
            exact ⟨rfl, Below.refl _ _, rfl, by first | rfl | (show slotOf _ _ = _; simp [slotOf]; done) | (show slotOf _ _ = _; simp [slotOf]; omega)⟩
          | 10, _, hi =>
            obtain rfl := Option.some.inj hi
            have h6 : vs 6 = _ := hv 6 (by decide)
            have h9 : vs 9 = _ := hv 9 (by decide)
            simp only [relF, List.getD_cons_zero, List.getD_cons_succ, List.foldl_cons, List.foldl_nil, dstAt, List.getElem?_cons_zero, List.getElem?_cons_succ, Option.bind_some]
            go_frame
            rw [h6, h9]
            go_wp2_with fail
            exact ⟨rfl, Below.refl _ _, rfl, rfl⟩
          | 11, _, hi =>
            obtain rfl := Option.some.inj hi
            have h10 : vs 10 = _ := hv 10 (by decide)
            simp only [relF, List.getD_cons_zero, List.getD_cons_succ, List.foldl_cons, List.foldl_nil, dstAt, List.getElem?_cons_zero, List.getElem?_cons_succ, Option.bind_some]
            go_frame
            rw [h10]
            go_wp2_with fail
            exact ⟨rfl, Below.refl _ _, rfl, trivial⟩
          | 12, _, hi =>
            obtain rfl := Option.some.inj hi
            have h10 : vs 10 = _ := hv 10 (by decide)
            simp only [relF, List.getD_cons_zero, List.getD_cons_succ, List.foldl_cons, List.foldl_nil, dstAt, List.getElem?_cons_zero, List.getElem?_cons_succ, Option.bind_some]
            go_frame
            rw [h10]
            go_wp2_with fail
            exact ⟨rfl, Below.refl _ _, rfl, trivial⟩
          | 13, _, hi =>
            obtain rfl := Option.some.inj hi
            have h10 : vs 10 = _ := hv 10 (by decide)
            simp only [relF, List.getD_cons_zero, List.getD_cons_succ, List.foldl_cons, List.foldl_nil, dstAt, List.getElem?_cons_zero, List.getElem?_cons_succ, Option.bind_some]
            go_frame
            rw [h10]
            go_wp2_with fail
            exact ⟨rfl, Below.refl _ _, rfl, trivial⟩
          | 14, _, hi =>
            obtain rfl := Option.some.inj hi
            have h6 : vs 6 = _ := hv 6 (by decide)
            have h10 : vs 10 = _ := hv 10 (by decide)
            simp only [relF, List.getD_cons_zero, List.getD_cons_succ, List.foldl_cons, List.foldl_nil, dstAt, List.getElem?_cons_zero, List.getElem?_cons_succ, Option.bind_some]
            go_frame
            rw [h6, h10]
            go_wp2_with fail
            exact ⟨rfl, Below.refl _ _, rfl, rfl⟩
          | 15, _, hi =>
            obtain rfl := Option.some.inj hi
            have h6 : vs 6 = _ := hv 6 (by decide)
            have h14 : vs 14 = _ := hv 14 (by decide)
            simp only [relF, List.getD_cons_zero, List.getD_cons_succ, List.foldl_cons, List.foldl_nil, dstAt, List.getElem?_cons_zero, List.getElem?_cons_succ, Option.bind_some]
            go_frame
            rw [h6, h14]
            go_wp2_with fail
            exact ⟨rfl, Below.refl _ _, rfl, rfl⟩
          | 16, _, hi =>
            obtain rfl := Option.some.inj hi
            have h15 : vs 15 = _ := hv 15 (by decide)
            simp only [relF, List.getD_cons_zero, List.getD_cons_succ, List.foldl_cons, List.foldl_nil, dstAt, List.getElem?_cons_zero, List.getElem?_cons_succ, Option.bind_some]
            go_frame
            rw [h15]
            go_wp2_with fail
            exact ⟨rfl, Below.refl _ _, rfl, rfl⟩
          | 17, _, hi =>
            obtain rfl := Option.some.inj hi
            have h16 : vs 16 = _ := hv 16 (by decide)
            simp only [relF, List.getD_cons_zero, List.getD_cons_succ, List.foldl_cons, List.foldl_nil, dstAt, List.getElem?_cons_zero, List.getElem?_cons_succ, Option.bind_some]
            go_frame
            rw [h16]
            go_wp2_with ((with_reducible show wpList _ _ _ (⟨some 65, _, _, _, _, _⟩ :: _) _ _); refine wpList_load_hash (op := ⟨some 65, _, _, _, _, _⟩) (by kernel_rfl) _ rfl v16.heap.size rfl (Tree.root j (Tree.top K)) (Tree.root_len _ _) _ _ ((b2.block _ (lt_of_block X17.out)).trans X17.out) ?_)
            exact ⟨rfl, Below.refl _ _, rfl, rfl⟩
          | 18, _, hi =>
            obtain rfl := Option.some.inj hi
            have h16 : vs 16 = _ := hv 16 (by decide)
            simp only [relF, List.getD_cons_zero, List.getD_cons_succ, List.foldl_cons, List.foldl_nil, dstAt, List.getElem?_cons_zero, List.getElem?_cons_succ, Option.bind_some]
            go_frame
            rw [h16]
            go_wp2_with fail
            exact ⟨rfl, Below.refl _ _, rfl, rfl⟩
          | 19, _, hi =>
            obtain rfl := Option.some.inj hi
            have h16 : vs 16 = _ := hv 16 (by decide)
            have h18 : vs 18 = _ := hv 18 (by decide)
            simp only [relF, List.getD_cons_zero, List.getD_cons_succ, List.foldl_cons, List.foldl_nil, dstAt, List.getElem?_cons_zero, List.getElem?_cons_succ, Option.bind_some]
            go_frame
            rw [h16, h18]
            go_wp2_with fail
            exact ⟨rfl, Below.refl _ _, rfl, rfl⟩
          | 20, _, hi =>
            obtain rfl := Option.some.inj hi
            have h16 : vs 16 = _ := hv 16 (by decide)
            simp only [relF, List.getD_cons_zero, List.getD_cons_succ, List.foldl_cons, List.foldl_nil, dstAt, List.getElem?_cons_zero, List.getElem?_cons_succ, Option.bind_some]
            go_frame
            rw [h16]
            go_wp2_with fail
            exact ⟨rfl, Below.refl _ _, rfl, rfl⟩
          | 21, _, hi =>
            obtain rfl := Option.some.inj hi
            have h16 : vs 16 = _ := hv 16 (by decide)
            simp only [relF, List.getD_cons_zero, List.getD_cons_succ, List.foldl_cons, List.foldl_nil, dstAt, List.getElem?_cons_zero, List.getElem?_cons_succ, Option.bind_some]
            go_frame
            rw [h16]
            go_wp2_with fail
            exact ⟨rfl, (Below.refl _ _).alloc (Nat.le_refl _) _, rfl, w2.heap.size, rfl⟩
          | 22, _, hi =>
            obtain rfl := Option.some.inj hi
            have h16 : vs 16 = _ := hv 16 (by decide)
            simp only [relF, List.getD_cons_zero, List.getD_cons_succ, List.foldl_cons, List.foldl_nil, dstAt, List.getElem?_cons_zero, List.getElem?_cons_succ, Option.bind_some]
            go_frame
            rw [h16]
            go_wp2_with fail
            exact ⟨rfl, Below.refl _ _, rfl, rfl⟩
          | 23, _, hi =>
            obtain ⟨g21, e21⟩ := hv 21 (by decide)
            obtain rfl := Option.some.inj hi
            have h16 : vs 16 = _ := hv 16 (by decide)
            have h22 : vs 22 = _ := hv 22 (by decide)
            obtain ⟨q, cc, W, hrun, hs, hbb⟩ := StrsAt.copy (HK.out.below (Nat.le_refl _) b2) (by omega) ⟨g21, 0, none⟩
            simp only [relF, List.getD_cons_zero, List.getD_cons_succ, List.foldl_cons, List.foldl_nil, dstAt, List.getElem?_cons_zero, List.getElem?_cons_succ, Option.bind_some]
            go_frame
            rw [h16, e21, h22]
            go_wp2_with ((with_reducible show wpList _ _ _ (⟨some 71, _, _, _, _, _⟩ :: _) _ _); refine wpList_append_ran (by kernel_rfl) _ _ _ rfl _ _ rfl rfl hrun ?_)
            exact ⟨rfl, hbb, rfl, q, cc, rfl, hs⟩
          | 24, _, hi =>
            obtain rfl := Option.some.inj hi
            have h16 : vs 16 = _ := hv 16 (by decide)
            simp only [relF, List.getD_cons_zero, List.getD_cons_succ, List.foldl_cons, List.foldl_nil, dstAt, List.getElem?_cons_zero, List.getElem?_cons_succ, Option.bind_some]
            go_frame
            rw [h16]
            go_wp2_with fail
            exact ⟨rfl, Below.refl _ _, rfl, rfl⟩
          | 25, _, hi =>
            obtain ⟨q23, c23, e23, s23⟩ := hv 23 (by decide)
            obtain rfl := Option.some.inj hi
            have h16 : vs 16 = _ := hv 16 (by decide)
            have h17 : vs 17 = _ := hv 17 (by decide)
            have h19 : vs 19 = _ := hv 19 (by decide)
            have h20 : vs 20 = _ := hv 20 (by decide)
            have h24 : vs 24 = _ := hv 24 (by decide)
            have hrn := manyCheck_all w2 (Tree.root j (Tree.top K)) (Tree.root_len _ _) (j : Int) _ _ _ _ _ _ _ _ _ ((List.range j).map Int.ofNat) K (Many.prove K (List.range j)) (HA.out.below (Nat.le_refl _) b2) s23 (C12.out.below (Nat.le_refl _) b2) HLE.out (by omega) (by omega) (by omega) hL2
            rw [HC1.out] at hrn
            simp only [relF, List.getD_cons_zero, List.getD_cons_succ, List.foldl_cons, List.foldl_nil, dstAt, List.getElem?_cons_zero, List.getElem?_cons_succ, Option.bind_some]
            go_frame
            rw [h16, h17, h19, h20, e23, h24]
            go_wp2_with fail
            refine (hrn).mono ?_
            rintro e w3 ⟨rfl, b3⟩
            go_wp2_with fail
            exact ⟨rfl, b3, rfl, rfl⟩
          | 26, _, hi =>
            obtain rfl := Option.some.inj hi
            have h16 : vs 16 = _ := hv 16 (by decide)
            have h25 : vs 25 = _ := hv 25 (by decide)
            simp only [relF, List.getD_cons_zero, List.getD_cons_succ, List.foldl_cons, List.foldl_nil, dstAt, List.getElem?_cons_zero, List.getElem?_cons_succ, Option.bind_some]
            go_frame
            rw [h16, h25]
            go_wp2_with fail
            exact ⟨rfl, Below.refl _ _, rfl, rfl⟩
          | 27, _, hi =>
            obtain rfl := Option.some.inj hi
            have h16 : vs 16 = _ := hv 16 (by decide)
            have h26 : vs 26 = _ := hv 26 (by decide)
            simp only [relF, List.getD_cons_zero, List.getD_cons_succ, List.foldl_cons, List.foldl_nil, dstAt, List.getElem?_cons_zero, List.getElem?_cons_succ, Option.bind_some]
            go_frame
            rw [h16, h26]
            go_wp2_with fail
            exact ⟨rfl, Below.refl _ _, rfl, rfl⟩
          | 28, _, hi =>
            obtain rfl := Option.some.inj hi
            have h27 : vs 27 = _ := hv 27 (by decide)
            simp only [relF, List.getD_cons_zero, List.getD_cons_succ, List.foldl_cons, List.foldl_nil, dstAt, List.getElem?_cons_zero, List.getElem?_cons_succ, Option.bind_some]
            go_frame
            rw [h27]
            go_wp2_with fail
            exact ⟨rfl, Below.refl _ _, rfl, rfl⟩
          | 29, _, hi =>
            obtain rfl := Option.some.inj hi
            have h28 : vs 28 = _ := hv 28 (by decide)
            simp only [relF, List.getD_cons_zero, List.getD_cons_succ, List.foldl_cons, List.foldl_nil, dstAt, List.getElem?_cons_zero, List.getElem?_cons_succ, Option.bind_some]
            go_frame
            rw [h28]
            go_wp2_with ((with_reducible show wpList _ _ _ (⟨some 77, _, _, _, _, _⟩ :: _) _ _); refine wpList_load_hash (op := ⟨some 77, _, _, _, _, _⟩) (by kernel_rfl) _ rfl v16.heap.size rfl (Tree.root j (Tree.top K)) (Tree.root_len _ _) _ _ ((b2.block _ (lt_of_block X17.out)).trans X17.out) ?_)
            exact ⟨rfl, Below.refl _ _, rfl, rfl⟩
          | 30, _, hi =>
            obtain rfl := Option.some.inj hi
            have h28 : vs 28 = _ := hv 28 (by decide)
            simp only [relF, List.getD_cons_zero, List.getD_cons_succ, List.foldl_cons, List.foldl_nil, dstAt, List.getElem?_cons_zero, List.getElem?_cons_succ, Option.bind_some]
            go_frame
            rw [h28]
            go_wp2_with fail
            exact ⟨rfl, Below.refl _ _, rfl, rfl⟩
          | 31, _, hi =>
            obtain rfl := Option.some.inj hi
            have h28 : vs 28 = _ := hv 28 (by decide)
            have h30 : vs 30 = _ := hv 30 (by decide)
            simp only [relF, List.getD_cons_zero, List.getD_cons_succ, List.foldl_cons, List.foldl_nil, dstAt, List.getElem?_cons_zero, List.getElem?_cons_succ, Option.bind_some]
            go_frame
            rw [h28, h30]
            go_wp2_with fail
            exact ⟨rfl, Below.refl _ _, rfl, rfl⟩
          | 32, _, hi =>
            obtain rfl := Option.some.inj hi
            have h28 : vs 28 = _ := hv 28 (by decide)
            simp only [relF, List.getD_cons_zero, List.getD_cons_succ, List.foldl_cons, List.foldl_nil, dstAt, List.getElem?_cons_zero, List.getElem?_cons_succ, Option.bind_some]
            go_frame
            rw [h28]
            go_wp2_with fail
            exact ⟨rfl, Below.refl _ _, rfl, rfl⟩
          | 33, _, hi =>
            obtain rfl := Option.some.inj hi
            have h28 : vs 28 = _ := hv 28 (by decide)
            have h29 : vs 29 = _ := hv 29 (by decide)
            have h31 : vs 31 = _ := hv 31 (by decide)
            have h32 : vs 32 = _ := hv 32 (by decide)
            have hrn := manyCheck_all w2 (Tree.root j (Tree.top K)) (Tree.root_len _ _) (j : Int) _ _ _ _ _ _ _ _ _ [] [] [Tree.top K] ints_nil strs_nil (C14.out.below (Nat.le_refl _) b2) (by simp) (by decide) (by decide) (by decide) hL2
            rw [HC2.out] at hrn
            simp only [relF, List.getD_cons_zero, List.getD_cons_succ, List.foldl_cons, List.foldl_nil, dstAt, List.getElem?_cons_zero, List.getElem?_cons_succ, Option.bind_some]
            go_frame
            rw [h28, h29, h31, h32]
            go_wp2_with fail
            refine (hrn).mono ?_
            rintro e w3 ⟨rfl, b3⟩
            go_wp2_with fail
            exact ⟨rfl, b3, rfl, rfl⟩
          | 34, _, hi =>
            obtain rfl := Option.some.inj hi
            have h28 : vs 28 = _ := hv 28 (by decide)
            have h33 : vs 33 = _ := hv 33 (by decide)
            simp only [relF, List.getD_cons_zero, List.getD_cons_succ, List.foldl_cons, List.foldl_nil, dstAt, List.getElem?_cons_zero, List.getElem?_cons_succ, Option.bind_some]
            go_frame
            rw [h28, h33]
            go_wp2_with fail
            exact ⟨rfl, Below.refl _ _, rfl, rfl⟩
          | 35, _, hi =>
            obtain rfl := Option.some.inj hi
            have h28 : vs 28 = _ := hv 28 (by decide)
            have h34 : vs 34 = _ := hv 34 (by decide)
            simp only [relF, List.getD_cons_zero, List.getD_cons_succ, List.foldl_cons, List.foldl_nil, dstAt, List.getElem?_cons_zero, List.getElem?_cons_succ, Option.bind_some]
            go_frame
            rw [h28, h34]
            go_wp2_with fail
            exact ⟨rfl, Below.refl _ _, rfl, rfl⟩
          | nx + 36, him, _ => exact absurd him (by omega)
        · intro w2 b2 vs hv
          have hL2 := HL.out.below b2
          have h35 : vs 35 = _ := hv 35 (by decide)
          simp only [relF, List.drop_succ_cons, List.drop_zero, List.length_cons, List.length_nil, Nat.zero_add, Nat.reduceAdd, List.range, List.range.loop, List.foldl_cons, List.foldl_nil, dstAt, List.getElem?_cons_zero, List.getElem?_cons_succ, Option.bind_some]
          go_frame
          rw [h35]
          have B2 := b1.trans (b2.mono b1.size)
          have HK2 := Lib.hid (HK.out.below (Nat.le_refl _) b2)
          have HQ2 := Lib.hid (C14.out.below (Nat.le_refl _) b2)
          have HL2 := Lib.hid hL2; clear hL2
          clear hv
          have hq0 := HQ2.out.form (by decide)
          obtain ⟨bq, oq, hqe⟩ := hq0
          subst hqe
          have hqg := HQ2.out.get (i := 0) (l := Tree.top K) rfl
          rw [Nat.zero_mul, Nat.add_zero] at hqg
          have HQG := Lib.hid hqg; clear hqg
          go_wp2_with fail
          refine wp_region_rel [[], [0], [1], [2], [3], [3, 4], [3, 5], [3], [3], [3, 7, 8], [3, 9], [3, 6, 10], [3, 11], [12]] (mallA2 bq oq j cK c14 oK K) 97 (by kernel_rfl) (by kernel_rfl) (by kernel_rfl) (mallA2_mono bq oq j cK c14 oK K) ?_ ?_
          · intro ix op hi w4 b2 vs hv
            have him : ix < 14 := (List.getElem?_eq_some_iff.1 hi).1
            have hL2 := HL2.out.below b2
            match ix, him, hi with
            | 0, _, hi =>
              obtain rfl := Option.some.inj hi
              simp only [relF, List.getD_cons_zero, List.getD_cons_succ, List.foldl_cons, List.foldl_nil, dstAt, List.getElem?_cons_zero, List.getElem?_cons_succ, Option.bind_some]
              go_wp2_with fail
              exact ⟨rfl, Below.refl _ _, rfl, rfl⟩
            | 1, _, hi =>
              obtain rfl := Option.some.inj hi
              have h0 : vs 0 = _ := hv 0 (by decide)
              simp only [relF, List.getD_cons_zero, List.getD_cons_succ, List.foldl_cons, List.foldl_nil, dstAt, List.getElem?_cons_zero, List.getElem?_cons_succ, Option.bind_some]
              go_frame
              rw [h0]
              go_wp2_with fail
              exact ⟨rfl, Below.refl _ _, rfl, rfl⟩
            | 2, _, hi =>
              obtain rfl := Option.some.inj hi
              have h1 : vs 1 = _ := hv 1 (by decide)
              simp only [relF, List.getD_cons_zero, List.getD_cons_succ, List.foldl_cons, List.foldl_nil, dstAt, List.getElem?_cons_zero, List.getElem?_cons_succ, Option.bind_some]
              go_frame
              rw [h1]
              go_wp2_with fail
              exact ⟨rfl, Below.refl _ _, rfl, by first | rfl | (show slotOf _ _ = _; simp [slotOf])⟩
            | 3, _, hi =>
              obtain rfl := Option.some.inj hi
              have h2 : vs 2 = _ := hv 2 (by decide)
              simp only [relF, List.getD_cons_zero, List.getD_cons_succ, List.foldl_cons, List.foldl_nil, dstAt, List.getElem?_cons_zero, List.getElem?_cons_succ, Option.bind_some]
              go_frame
              rw [h2]
              go_wp2_with fail
              exact ⟨rfl, Below.refl _ _, rfl, rfl⟩
            | 4, _, hi =>
              obtain rfl := Option.some.inj hi
              have h3 : vs 3 = _ := hv 3 (by decide)
              simp only [relF, List.getD_cons_zero, List.getD_cons_succ, List.foldl_cons, List.foldl_nil, dstAt, List.getElem?_cons_zero, List.getElem?_cons_succ, Option.bind_some]
              go_frame
              rw [h3]
              go_wp2_with fail
              exact ⟨rfl, Below.refl _ _, rfl, rfl⟩
            | 5, _, hi =>
              obtain rfl := Option.some.inj hi
              have h3 : vs 3 = _ := hv 3 (by decide)
              have h4 : vs 4 = _ := hv 4 (by decide)
              simp only [relF, List.getD_cons_zero, List.getD_cons_succ, List.foldl_cons, List.foldl_nil, dstAt, List.getElem?_cons_zero, List.getElem?_cons_succ, Option.bind_some]
              go_frame
              rw [h3, h4]
              go_wp2_with fail
              exact ⟨rfl, Below.refl _ _, rfl, rfl⟩
            | 6, _, hi =>
              obtain rfl := Option.some.inj hi
              have h3 : vs 3 = _ := hv 3 (by decide)
              have h5 : vs 5 = _ := hv 5 (by decide)
              have hqg := range_under HQG.out.2 HQG.out.1 b2
              simp only [relF, List.getD_cons_zero, List.getD_cons_succ, List.foldl_cons, List.foldl_nil, dstAt, List.getElem?_cons_zero, List.getElem?_cons_succ, Option.bind_some]
              go_frame
              rw [h3, h5]
              go_wp2_with ((with_reducible show wpList _ _ _ (⟨some 90, _, _, _, _, _⟩ :: _) _ _); refine wpList_load_hashG (op := ⟨some 90, _, _, _, _, _⟩) (by kernel_rfl) _ rfl bq oq rfl (Tree.top K) (Tree.top_len _) hqg ?_)
              exact ⟨rfl, Below.refl _ _, rfl, rfl⟩
            | 7, _, hi =>
              obtain rfl := Option.some.inj hi
              have h3 : vs 3 = _ := hv 3 (by decide)
              simp only [relF, List.getD_cons_zero, List.getD_cons_succ, List.foldl_cons, List.foldl_nil, dstAt, List.getElem?_cons_zero, List.getElem?_cons_succ, Option.bind_some]
              go_frame
              rw [h3]
              go_wp2_with fail
              exact ⟨rfl, (Below.refl _ _).alloc (Nat.le_refl _) _, rfl, w4.heap.size, rfl⟩
            | 8, _, hi =>
              obtain rfl := Option.some.inj hi
              have h3 : vs 3 = _ := hv 3 (by decide)
              simp only [relF, List.getD_cons_zero, List.getD_cons_succ, List.foldl_cons, List.foldl_nil, dstAt, List.getElem?_cons_zero, List.getElem?_cons_succ, Option.bind_some]
              go_frame
              rw [h3]
              go_wp2_with fail
              exact ⟨rfl, Below.refl _ _, rfl, rfl⟩
            | 9, _, hi =>
              obtain ⟨g7, e7⟩ := hv 7 (by decide)
              obtain rfl := Option.some.inj hi
              have h3 : vs 3 = _ := hv 3 (by decide)
              have h8 : vs 8 = _ := hv 8 (by decide)
              obtain ⟨q, cc, W, hrun, hs, hbb⟩ := StrsAt.copy (HK2.out.below (Nat.le_refl _) b2) (by omega) ⟨g7, 0, none⟩
              simp only [relF, List.getD_cons_zero, List.getD_cons_succ, List.foldl_cons, List.foldl_nil, dstAt, List.getElem?_cons_zero, List.getElem?_cons_succ, Option.bind_some]
              go_frame
              rw [h3, e7, h8]
              go_wp2_with ((with_reducible show wpList _ _ _ (⟨some 93, _, _, _, _, _⟩ :: _) _ _); refine wpList_append_ran (by kernel_rfl) _ _ _ rfl _ _ rfl rfl hrun ?_)
              exact ⟨rfl, hbb, rfl, q, cc, rfl, hs⟩
            | 10, _, hi =>
              obtain ⟨q9, c9, e9, s9⟩ := hv 9 (by decide)
              obtain rfl := Option.some.inj hi
              have h3 : vs 3 = _ := hv 3 (by decide)
              simp only [relF, List.getD_cons_zero, List.getD_cons_succ, List.foldl_cons, List.foldl_nil, dstAt, List.getElem?_cons_zero, List.getElem?_cons_succ, Option.bind_some]
              go_frame
              rw [h3, e9]
              go_wp2_with fail
              refine (treeTop_any j w4 _ _ _ K rfl s9 (by omega) HLE.out hL2).mono ?_
              rintro e w3 ⟨rfl, b3⟩
              go_wp2_with fail
              exact ⟨rfl, b3, rfl, rfl⟩
            | 11, _, hi =>
              obtain rfl := Option.some.inj hi
              have h3 : vs 3 = _ := hv 3 (by decide)
              have h6 : vs 6 = _ := hv 6 (by decide)
              have h10 : vs 10 = _ := hv 10 (by decide)
              simp only [relF, List.getD_cons_zero, List.getD_cons_succ, List.foldl_cons, List.foldl_nil, dstAt, List.getElem?_cons_zero, List.getElem?_cons_succ, Option.bind_some]
              go_frame
              rw [h3, h6, h10]
              go_wp2_with ((with_reducible show wpList _ _ _ (⟨some 95, _, _, _, _, _⟩ :: _) _ _); refine wpList_eql_hash (op := ⟨some 95, _, _, _, _, _⟩) (by kernel_rfl) _ _ rfl (Tree.top K) (Tree.top K) (Tree.top_len _) (Tree.top_len _) rfl rfl ?_; rw [beq_self_eq_true])
              exact ⟨rfl, Below.refl _ _, rfl, rfl⟩
            | 12, _, hi =>
              obtain rfl := Option.some.inj hi
              have h3 : vs 3 = _ := hv 3 (by decide)
              have h11 : vs 11 = _ := hv 11 (by decide)
              simp only [relF, List.getD_cons_zero, List.getD_cons_succ, List.foldl_cons, List.foldl_nil, dstAt, List.getElem?_cons_zero, List.getElem?_cons_succ, Option.bind_some]
              go_frame
              rw [h3, h11]
              go_wp2_with fail
              exact ⟨rfl, Below.refl _ _, rfl, rfl⟩
            | 13, _, hi =>
              obtain rfl := Option.some.inj hi
              have h12 : vs 12 = _ := hv 12 (by decide)
              simp only [relF, List.getD_cons_zero, List.getD_cons_succ, List.foldl_cons, List.foldl_nil, dstAt, List.getElem?_cons_zero, List.getElem?_cons_succ, Option.bind_some]
              go_frame
              rw [h12]
              go_wp2_with fail
              exact ⟨rfl, Below.refl _ _, rfl, rfl⟩
            | nx + 14, him, _ => exact absurd him (by omega)
          · intro w4 b2 vs hv
            have hL2 := HL2.out.below b2
            have h13 : vs 13 = _ := hv 13 (by decide)
            simp only [relF, List.drop_succ_cons, List.drop_zero, List.length_cons, List.length_nil, Nat.zero_add, Nat.reduceAdd, List.range, List.range.loop, List.foldl_cons, List.foldl_nil, dstAt, List.getElem?_cons_zero, List.getElem?_cons_succ, Option.bind_some]
            go_frame
            rw [h13]
            go_wp2_with fail
            go_ret
            exact ⟨rfl, B2.trans (b2.mono B2.size)⟩

theorem mall_law (w : World) (oK : Option Addr) (mK cK : Nat) (K : List ByteArray) (rK : RowsAt w oK mK cK 1 strCell K) (hxK : ∀ s ∈ K, s.size ≤ maxLen) (hL : Laid w) :
    Calls Tryd.prog 7 #[.slice oK mK cK] w fun e w' => e = .returned (.bool true) ∧ Below w.heap.size w w' := by
  have h := mall_list w oK mK cK _ (StrsAt.of_rows rK) (strs_le hxK) hL
  exact h

end Go.Proofs.YtgheacegjgaobaaDoor
