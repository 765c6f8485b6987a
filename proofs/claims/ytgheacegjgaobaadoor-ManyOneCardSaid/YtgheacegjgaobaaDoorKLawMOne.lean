/- The walk of the law ManyOne. -/
import Derived.Test.YtgheacegjgaobaaDoorKG14a
namespace Go.Proofs.YtgheacegjgaobaaDoor
open Go.RowKit
set_option linter.unusedSimpArgs false
set_option linter.unusedVariables false

theorem Tree.prove_set (N : Nat) : ∀ (L : List (List UInt8)) (i : Nat) (x : List UInt8), L.length = N → Tree.prove (L.set i x) i = Tree.prove L i := by
  induction N using Nat.strongRecOn with
  | ind N ih =>
    intro L i x hL
    have hS : (L.set i x).length = N := by rw [List.length_set, hL]
    by_cases h : 2 ≤ N
    · have h1 := Tree.half_pos h
      have h2 := Tree.half_lt h
      by_cases hlt : i < Tree.half N
      · rw [Tree.prove_left (l := L.set i x) (by omega) (by rw [hS]; exact hlt), Tree.prove_left (l := L) (by omega) (by rw [hL]; exact hlt), hS, hL, List.take_set, List.drop_set_of_lt hlt,
          ih (Tree.half N) h2 (L.take (Tree.half N)) i x (by rw [List.length_take]; omega)]
      · rw [Tree.prove_right (l := L.set i x) (by omega) (by rw [hS]; exact hlt), Tree.prove_right (l := L) (by omega) (by rw [hL]; exact hlt), hS, hL, List.take_set_of_le (by omega), List.drop_set, if_neg (by omega),
          ih (N - Tree.half N) (by omega) (L.drop (Tree.half N)) (i - Tree.half N) x (by rw [List.length_drop, hL])]
    · rw [Tree.prove_small (by omega), Tree.prove_small (by omega)]

/-- A proof of one leaf, with another leaf. -/
theorem Tree.check_other {want : List UInt8} {L : List (List UInt8)} {i : Nat} (x : List UInt8) (h : i < L.length) : Tree.check want L.length i x (Tree.prove L i) = (Tree.root L.length (Tree.top (L.set i x)) == want) := by
  have hs := Tree.sides_prove L.length L i rfl h
  have hc := Tree.climb_prove L.length (L.set i x) i x (by rw [List.length_set]) (by rw [List.getElem?_set_self h])
  rw [Tree.prove_set L.length L i x rfl] at hc
  unfold Tree.check
  rw [hc, decide_eq_true hs, Bool.true_and]

theorem Many.check_other {want : List UInt8} {L : List (List UInt8)} {i : Nat} (x : List UInt8) (h : i < L.length) : Many.check want L.length [i] [x] (Many.prove L [i]) = (Tree.root L.length (Tree.top (L.set i x)) == want) := by
  unfold Many.check
  rw [Many.topOf_prove (m := L.set i x) (l := L) ⟨by simp, by simpa using h⟩ (by rw [List.length_set]) rfl ?_ ?_, Many.prove_len, decide_eq_true rfl]
  · simp
  · intro t a ht
    match t, ht with
    | 0, ht =>
      obtain rfl := Option.some.inj ht
      rw [List.getElem?_set_self h]; rfl
  · intro a ha
    rw [List.getElem?_set_ne (by rintro rfl; exact ha (List.mem_singleton.2 rfl))]

theorem one_eq {L : List (List UInt8)} {i : Nat} (h : i < L.length) (hn : L.length ≤ 65536) (want x : List UInt8) : checkI want (L.length : Int) [(i : Int)] [x] (Many.prove L [i]) = Tree.check want L.length i x (Tree.prove L i) := by
  have := checkI_nat (r := want) (X := [x]) (P := Many.prove L [i]) (k := L.length) (B := [i]) hn (by simp) (by simpa using h)
  rw [show ([i].map Int.ofNat) = [(i : Int)] from rfl] at this
  rw [this, Many.check_other x h, Tree.check_other x h]

theorem one_len {L : List (List UInt8)} {i : Nat} (h : i < L.length) : (Many.prove L [i]).length = (Tree.prove L i).length := by
  rw [Many.prove_len, Many.tops_single i L.length 0 (Nat.zero_le _) (by omega), Nat.sub_zero]
  exact Tree.sides_prove L.length L i rfl h

theorem treeProve_row (w : World) (o : Option Addr) (n cap i : Nat) (L : List (List UInt8)) (hS : StrsAt w o n cap L) (hi : i < n) (hn : n ≤ 500000) (hl : ∀ l ∈ L, l.length ≤ 100000) (hL : Laid w) :
    Calls Tryd.prog 12 #[.slice o n cap, .int .i64 (i : Int)] w fun e w' => ∃ q c, e = .returned (.tuple #[.slice q (Tree.prove L i).length c, .int .i64 0]) ∧ HashesAt w' q (Tree.prove L i).length c (Tree.prove L i) ∧ Below w.heap.size w w' :=
  (treeProve_any w o n cap i L hS hi hn hl hL).mono fun _ _ ⟨q, c, h1, h2, h3⟩ => ⟨q, c, h1, HashesAt.of_owns h2 (Tree.prove_32 L.length L i rfl), h3⟩

/-- What the region's operations leave. -/
def moneV (B0 B1 bK oK mK cK cP cQ i : Nat) (qP qQ : Option Addr) (K : List (List UInt8)) (r f l : List UInt8) (ix : Nat) (w : World) (v : Value) : Prop :=
  match ix with
  | 0 => v = .agg (byteCells r).toArray
  | 1 => v = .slice (some ⟨bK, oK, none⟩) mK cK
  | 2 => v = .int .i64 (mK : Int)
  | 3 => v = .int .i64 (i : Int)
  | 4 => v = .string (strOf f)
  | 5 => v = .slice qP ((Tree.prove K i).length) cP
  | 6 => v = .bool (Tree.check r mK i f (Tree.prove K i))
  | 7 => v = .agg (byteCells r).toArray
  | 8 => v = .slice (some ⟨bK, oK, none⟩) mK cK
  | 9 => v = .int .i64 (mK : Int)
  | 10 => v = .int .i64 (i : Int)
  | 11 => ∃ g : Nat, v = .slice (some ⟨g, 0, none⟩) 1 1 ∧ IntsAt w (some ⟨g, 0, none⟩) 1 1 [(i : Int)]
  | 12 => v = .string (strOf f)
  | 13 => ∃ g : Nat, v = .slice (some ⟨g, 0, none⟩) 1 1 ∧ StrsAt w (some ⟨g, 0, none⟩) 1 1 [f]
  | 14 => v = .slice qQ ((Tree.prove K i).length) cQ
  | 15 => v = .bool (Tree.check r mK i f (Tree.prove K i))
  | 16 => v = .bool true
  | 17 => v = .bool true
  | 18 => v = .agg (byteCells (Tree.root mK (Tree.top K))).toArray
  | 19 => v = .slice (some ⟨bK, oK, none⟩) mK cK
  | 20 => v = .int .i64 (mK : Int)
  | 21 => v = .int .i64 (i : Int)
  | 22 => ∃ g : Nat, v = .slice (some ⟨g, 0, none⟩) 1 1 ∧ IntsAt w (some ⟨g, 0, none⟩) 1 1 [(i : Int)]
  | 23 => v = .slice (some ⟨bK, oK, none⟩) mK cK
  | 24 => v = .int .i64 (i : Int)
  | 25 => v = .pointer (some ⟨bK, oK + i, none⟩)
  | 26 => v = .string (strOf l)
  | 27 => ∃ g : Nat, v = .slice (some ⟨g, 0, none⟩) 1 1 ∧ StrsAt w (some ⟨g, 0, none⟩) 1 1 [l]
  | 28 => v = .slice qQ ((Tree.prove K i).length) cQ
  | 29 => v = .bool true
  | 30 => v = .bool true
  | 31 => v = .bool true
  | 32 => v = .agg (byteCells (Tree.root mK (Tree.top K))).toArray
  | 33 => v = .slice (some ⟨bK, oK, none⟩) mK cK
  | 34 => v = .int .i64 (mK : Int)
  | 35 => v = .int .i64 (i : Int)
  | 36 => v = .string (strOf f)
  | 37 => v = .slice qP ((Tree.prove K i).length) cP
  | 38 => v = .bool (Tree.check (Tree.root mK (Tree.top K)) mK i f (Tree.prove K i))
  | 39 => v = .agg (byteCells (Tree.root mK (Tree.top K))).toArray
  | 40 => v = .slice (some ⟨bK, oK, none⟩) mK cK
  | 41 => v = .int .i64 (mK : Int)
  | 42 => v = .int .i64 (i : Int)
  | 43 => ∃ g : Nat, v = .slice (some ⟨g, 0, none⟩) 1 1 ∧ IntsAt w (some ⟨g, 0, none⟩) 1 1 [(i : Int)]
  | 44 => v = .string (strOf f)
  | 45 => ∃ g : Nat, v = .slice (some ⟨g, 0, none⟩) 1 1 ∧ StrsAt w (some ⟨g, 0, none⟩) 1 1 [f]
  | 46 => v = .slice qQ ((Tree.prove K i).length) cQ
  | 47 => v = .bool (Tree.check (Tree.root mK (Tree.top K)) mK i f (Tree.prove K i))
  | 48 => v = .bool true
  | 49 => v = .bool true
  | 50 => v = .bool true
  | _ => True

theorem moneV_mono (B0 B1 bK oK mK cK cP cQ i : Nat) (qP qQ : Option Addr) (K : List (List UInt8)) (r f l : List UInt8) (jx : Nat) (w w' : World) (v : Value) (hb : Below w.heap.size w w') (h : moneV B0 B1 bK oK mK cK cP cQ i qP qQ K r f l jx w v) : moneV B0 B1 bK oK mK cK cP cQ i qP qQ K r f l jx w' v := by
  match jx, h with
  | 0, h => exact h
  | 1, h => exact h
  | 2, h => exact h
  | 3, h => exact h
  | 4, h => exact h
  | 5, h => exact h
  | 6, h => exact h
  | 7, h => exact h
  | 8, h => exact h
  | 9, h => exact h
  | 10, h => exact h
  | 11, h => exact (let ⟨g, h1, h2⟩ := h; ⟨g, h1, h2.below (Nat.le_refl _) hb⟩)
  | 12, h => exact h
  | 13, h => exact (let ⟨g, h1, h2⟩ := h; ⟨g, h1, h2.below (Nat.le_refl _) hb⟩)
  | 14, h => exact h
  | 15, h => exact h
  | 16, h => exact h
  | 17, h => exact h
  | 18, h => exact h
  | 19, h => exact h
  | 20, h => exact h
  | 21, h => exact h
  | 22, h => exact (let ⟨g, h1, h2⟩ := h; ⟨g, h1, h2.below (Nat.le_refl _) hb⟩)
  | 23, h => exact h
  | 24, h => exact h
  | 25, h => exact h
  | 26, h => exact h
  | 27, h => exact (let ⟨g, h1, h2⟩ := h; ⟨g, h1, h2.below (Nat.le_refl _) hb⟩)
  | 28, h => exact h
  | 29, h => exact h
  | 30, h => exact h
  | 31, h => exact h
  | 32, h => exact h
  | 33, h => exact h
  | 34, h => exact h
  | 35, h => exact h
  | 36, h => exact h
  | 37, h => exact h
  | 38, h => exact h
  | 39, h => exact h
  | 40, h => exact h
  | 41, h => exact h
  | 42, h => exact h
  | 43, h => exact (let ⟨g, h1, h2⟩ := h; ⟨g, h1, h2.below (Nat.le_refl _) hb⟩)
  | 44, h => exact h
  | 45, h => exact (let ⟨g, h1, h2⟩ := h; ⟨g, h1, h2.below (Nat.le_refl _) hb⟩)
  | 46, h => exact h
  | 47, h => exact h
  | 48, h => exact h
  | 49, h => exact h
  | 50, h => exact h
  | _ + 51, h => exact trivial

set_option maxRecDepth 100000 in
set_option maxHeartbeats 4000000 in
theorem mone_list (w : World) (r : List UInt8) (hr : r.length = 32) (oK : Option Addr) (mK cK : Nat) (K : List (List UInt8)) (hK : StrsAt w oK mK cK K) (hxK : ∀ l ∈ K, l.length ≤ 9223372036854775807) (i : Int) (hi : (Lit.int .i64 i).wf = true) (f : List UInt8) (hf : f.length ≤ 140737488351232) (hL : Laid w) :
    Calls Tryd.prog 3 #[.agg (byteCells r).toArray, .slice oK mK cK, .int .i64 i, .string (strOf f)] w fun e w' => e = .returned (.bool true) ∧ Below w.heap.size w w' := by
  have hmK : K.length = mK := hK.len
  have hcK := hK.cap
  have hyK := hK.max
  have HK := Lib.hid hK; clear hK
  have HXK := Lib.hid hxK; clear hxK
  have hbi := wf_i64' hi
  have hstf := strOf_size f
  have HL := Lib.hid hL; clear hL
  obtain ⟨W0, hW0⟩ : ∃ W0, W0 = w.alloc (.cells (byteCells r).toArray 23) := ⟨_, rfl⟩
  have x7 : W0.heap[w.heap.size]? = some (.cells (byteCells r).toArray 23 (0, 0)) := by rw [hW0]; exact heap_alloc_new w _
  have b0 : Below w.heap.size w W0 := by rw [hW0]; exact (Below.refl _ _).alloc (Nat.le_refl _) _
  replace HK := Lib.hid (HK.out.below (Nat.le_refl _) b0)
  replace HL := Lib.hid (HL.out.below b0)
  have X7 := Lib.hid x7; clear x7
  have HW0 := Lib.hid hW0; clear hW0
  have HR := Lib.hid hr; clear hr
  go_enter Tryd.func3, Tryd.ntmps3
  go_wp2_with fail
  rw [← HW0.out]
  refine (awake4_any _ HL.out).mono ?_
  rintro e w1 ⟨rfl, b1⟩
  replace HK := Lib.hid (HK.out.below (Nat.le_refl _) b1)
  replace HL := Lib.hid (HL.out.below b1)
  replace X7 := Lib.hid ((b1.block _ (lt_of_block X7.out)).trans X7.out)
  replace b1 := b0.trans (b1.mono b0.size)
  clear b0
  rcases hf : few K with _ | _
  · have hfc := refFew_any w1 oK mK cK K HK.out HXK.out
    rw [hf] at hfc
    have HFC := Lib.hid hfc; clear hfc hf
    go_wp2_with fail
    refine HFC.out.mono ?_
    rintro e w' ⟨rfl, rfl⟩
    go_wp2_with fail
    refine (awake4_any _ HL.out).mono ?_
    rintro e w2 ⟨rfl, b2⟩
    go_wp2_with fail
    go_ret
    exact ⟨rfl, b1.trans (b2.mono b1.size)⟩
  · have hfc := refFew_any w1 oK mK cK K HK.out HXK.out
    rw [hf] at hfc
    obtain ⟨h20, h200⟩ := few_spec hf
    have HFC := Lib.hid hfc; clear hfc hf
    have HLE : Hid (∀ l ∈ K, l.length ≤ 100000) := Lib.hid fun l hl => by have := h200 l hl; omega
    have H200 := Lib.hid h200; clear h200
    go_wp2_with fail
    refine HFC.out.mono ?_
    rintro e w' ⟨rfl, rfl⟩
    clear HFC
    by_cases hg : i < 0
    · have ht : decide (i < 0) = true := decide_eq_true hg
      go_wp2_with fail
      refine (awake4_any _ HL.out).mono ?_
      rintro e w2 ⟨rfl, b2⟩
      go_wp2_with fail
      go_ret
      exact ⟨rfl, b1.trans (b2.mono b1.size)⟩
    · have ht : decide (i < 0) = false := decide_eq_false hg
      by_cases hg : (mK : Int) ≤ i
      · have ht : decide ((mK : Int) ≤ i) = true := decide_eq_true hg
        go_wp2_with fail
        refine (awake4_any _ HL.out).mono ?_
        rintro e w2 ⟨rfl, b2⟩
        go_wp2_with fail
        go_ret
        exact ⟨rfl, b1.trans (b2.mono b1.size)⟩
      · have ht : decide ((mK : Int) ≤ i) = false := decide_eq_false hg
        by_cases hg : 200 < f.length
        · have ht : decide ((200 : Int) < (f.length : Int)) = true := decide_eq_true (by omega)
          go_wp2_with fail
          refine (awake4_any _ HL.out).mono ?_
          rintro e w2 ⟨rfl, b2⟩
          go_wp2_with fail
          go_ret
          exact ⟨rfl, b1.trans (b2.mono b1.size)⟩
        · have ht : decide ((200 : Int) < (f.length : Int)) = false := decide_eq_false (by omega)
          obtain ⟨i, rfl⟩ : ∃ k : Nat, i = (k : Int) := ⟨i.toNat, by omega⟩
          have hin : i < mK := by omega
          obtain ⟨bK, oK, rfl⟩ := HK.out.form (by omega)
          obtain ⟨l, hl⟩ : ∃ l, K[i]? = some l := ⟨_, List.getElem?_eq_getElem (by omega)⟩
          have hll := HLE.out l (List.mem_of_getElem? hl)
          have hon := one_eq (L := K) (i := i) (by omega) (by omega)
          have hck := Tree.check_prove hl
          have hln := one_len (L := K) (i := i) (by omega)
          have hpl := Tree.prove_len K.length K i rfl
          have hlk : K.length = mK := hmK
          rw [hlk] at hon hck hpl
          have hcc := hon (Tree.root mK (Tree.top K)) l
          rw [hck] at hcc
          have HCK := Lib.hid hcc; clear hcc hck
          have HON := Lib.hid hon; clear hon
          have HLN := Lib.hid hln; clear hln
          have HLI := Lib.hid hl; clear hl
          have HIN : Hid (∀ a ∈ [i], a < mK) := Lib.hid (by simpa using hin)
          have hbne : (((Tree.prove K i).length : Int) != ((Tree.prove K i).length : Int)) = false := by simp
          obtain ⟨q11, c11, v11, hrun, hs, dd⟩ := StrsAt.copy (HK.out.below (Nat.le_refl _) ((Below.refl w1.heap.size w1).alloc (Nat.le_refl _) (.cells #[] 9))) (by omega) ⟨w1.heap.size, 0, none⟩
          have d11 : Below w1.heap.size w1 v11 := ((Below.refl _ _).alloc (Nat.le_refl _) _).trans (dd.mono (by simp))
          have hrun11 := hrun; clear hrun dd
          have C11 := Lib.hid hs; clear hs
          replace HK := Lib.hid (HK.out.below (Nat.le_refl _) d11)
          replace HL := Lib.hid (HL.out.below d11)
          replace X7 := Lib.hid ((d11.block _ (lt_of_block X7.out)).trans X7.out)
          replace b1 := b1.trans (d11.mono b1.size)
          have hc12 := treeProve_row v11 _ _ _ i K C11.out hin (by omega) HLE.out HL.out
          have HC12 := Lib.hid hc12; clear hc12
          go_wp2_with (first | ((with_reducible show wpList _ _ _ (⟨some 40, _, _, _, _, _⟩ :: _) _ _); refine wpList_append_ran (by kernel_rfl) _ _ _ rfl _ _ rfl rfl hrun11 ?_))
          refine HC12.out.mono ?_
          rintro e v12 ⟨q12, c12, rfl, hs, d12⟩
          replace HK := Lib.hid (HK.out.below (Nat.le_refl _) d12)
          replace HL := Lib.hid (HL.out.below d12)
          replace X7 := Lib.hid ((d12.block _ (lt_of_block X7.out)).trans X7.out)
          replace C11 := Lib.hid (C11.out.below (Nat.le_refl _) d12)
          replace b1 := b1.trans (d12.mono b1.size)
          have C12 := Lib.hid hs; clear hs
          clear HC12
          obtain ⟨q13, c13, v13, hrun, hs, dd⟩ := StrsAt.copy (HK.out.below (Nat.le_refl _) ((Below.refl v12.heap.size v12).alloc (Nat.le_refl _) (.cells #[] 9))) (by omega) ⟨v12.heap.size, 0, none⟩
          have d13 : Below v12.heap.size v12 v13 := ((Below.refl _ _).alloc (Nat.le_refl _) _).trans (dd.mono (by simp))
          have hrun13 := hrun; clear hrun dd
          have C13 := Lib.hid hs; clear hs
          replace HK := Lib.hid (HK.out.below (Nat.le_refl _) d13)
          replace HL := Lib.hid (HL.out.below d13)
          replace X7 := Lib.hid ((d13.block _ (lt_of_block X7.out)).trans X7.out)
          replace C11 := Lib.hid (C11.out.below (Nat.le_refl _) d13)
          replace C12 := Lib.hid (C12.out.below (Nat.le_refl _) d13)
          replace b1 := b1.trans (d13.mono b1.size)
          obtain ⟨v14, hv14⟩ : ∃ v14, v14 = v13.alloc (.cells #[.int .i64 (i : Int)] 3) := ⟨_, rfl⟩
          have hs : IntsAt v14 (some ⟨v13.heap.size, 0, none⟩) 1 1 [(i : Int)] := by rw [hv14]; exact ints_new v13 [(i : Int)] 1 rfl (by decide)
          have d14 : Below v13.heap.size v13 v14 := by rw [hv14]; exact (Below.refl _ _).alloc (Nat.le_refl _) _
          have C14 := Lib.hid hs; clear hs
          have HV14 := Lib.hid hv14; clear hv14
          replace HK := Lib.hid (HK.out.below (Nat.le_refl _) d14)
          replace HL := Lib.hid (HL.out.below d14)
          replace X7 := Lib.hid ((d14.block _ (lt_of_block X7.out)).trans X7.out)
          replace C11 := Lib.hid (C11.out.below (Nat.le_refl _) d14)
          replace C12 := Lib.hid (C12.out.below (Nat.le_refl _) d14)
          replace C13 := Lib.hid (C13.out.below (Nat.le_refl _) d14)
          replace b1 := b1.trans (d14.mono b1.size)
          have hrn := manyProve_any v14 _ _ _ _ _ _ K [i] C13.out C14.out (by simp) HIN.out HLE.out (by omega) (by decide) HL.out
          rw [HLN.out] at hrn
          have hc15 := hrn
          have HC15 := Lib.hid hc15; clear hc15
          go_wp2_with (first | ((with_reducible show wpList _ _ _ (⟨some 51, _, _, _, _, _⟩ :: _) _ _); change wpList _ _ _ _ _ (v13.alloc (.cells #[.int .i64 (i : Int)] 3)); rw [← HV14.out]) | ((with_reducible show wpList _ _ _ (⟨some 48, _, _, _, _, _⟩ :: _) _ _); refine wpList_append_ran (by kernel_rfl) _ _ _ rfl _ _ rfl rfl hrun13 ?_))
          refine HC15.out.mono ?_
          rintro e v15 ⟨q15, c15, rfl, hs, d15⟩
          replace HK := Lib.hid (HK.out.below (Nat.le_refl _) d15)
          replace HL := Lib.hid (HL.out.below d15)
          replace X7 := Lib.hid ((d15.block _ (lt_of_block X7.out)).trans X7.out)
          replace C11 := Lib.hid (C11.out.below (Nat.le_refl _) d15)
          replace C12 := Lib.hid (C12.out.below (Nat.le_refl _) d15)
          replace C13 := Lib.hid (C13.out.below (Nat.le_refl _) d15)
          replace C14 := Lib.hid (C14.out.below (Nat.le_refl _) d15)
          replace b1 := b1.trans (d15.mono b1.size)
          have C15 := Lib.hid hs; clear hs
          clear HC15
          have hc16 := refRoot_any v15 _ mK _ K HK.out (by omega) HLE.out
          have HC16 := Lib.hid hc16; clear hc16
          go_wp2_with fail
          refine HC16.out.mono ?_
          rintro e v16 ⟨rfl, d16⟩
          replace HK := Lib.hid (HK.out.below (Nat.le_refl _) d16)
          replace HL := Lib.hid (HL.out.below d16)
          replace X7 := Lib.hid ((d16.block _ (lt_of_block X7.out)).trans X7.out)
          replace C11 := Lib.hid (C11.out.below (Nat.le_refl _) d16)
          replace C12 := Lib.hid (C12.out.below (Nat.le_refl _) d16)
          replace C13 := Lib.hid (C13.out.below (Nat.le_refl _) d16)
          replace C14 := Lib.hid (C14.out.below (Nat.le_refl _) d16)
          replace C15 := Lib.hid (C15.out.below (Nat.le_refl _) d16)
          replace b1 := b1.trans (d16.mono b1.size)
          clear HC16
          obtain ⟨z17, hz17⟩ : ∃ z17, z17 = v16.alloc (.cells zero32 23) := ⟨_, rfl⟩
          have hzx : z17.heap[v16.heap.size]? = some (.cells zero32 23 (0, 0)) := by rw [hz17]; exact heap_alloc_new v16 _
          have hzb : Below v16.heap.size v16 z17 := by rw [hz17]; exact (Below.refl _ _).alloc (Nat.le_refl _) _
          obtain ⟨v17, hv17⟩ : ∃ v17, v17 = hset z17 v16.heap.size (Tree.root mK (Tree.top K)) := ⟨_, rfl⟩
          have hx17 : v17.heap[v16.heap.size]? = some (.cells (byteCells (Tree.root mK (Tree.top K))).toArray 23 (0, 0)) := by rw [hv17]; exact hset_heap _ hzx
          have d17 : Below v16.heap.size v16 v17 := by rw [hv17]; exact hset_below _ hzb (Nat.le_refl _)
          have ZX17 := Lib.hid hzx; have HZ17 := Lib.hid hz17; have HV17 := Lib.hid hv17; have X17 := Lib.hid hx17; clear hzx hzb hz17 hv17 hx17
          replace HK := Lib.hid (HK.out.below (Nat.le_refl _) d17)
          replace HL := Lib.hid (HL.out.below d17)
          replace X7 := Lib.hid ((d17.block _ (lt_of_block X7.out)).trans X7.out)
          replace C11 := Lib.hid (C11.out.below (Nat.le_refl _) d17)
          replace C12 := Lib.hid (C12.out.below (Nat.le_refl _) d17)
          replace C13 := Lib.hid (C13.out.below (Nat.le_refl _) d17)
          replace C14 := Lib.hid (C14.out.below (Nat.le_refl _) d17)
          replace C15 := Lib.hid (C15.out.below (Nat.le_refl _) d17)
          replace b1 := b1.trans (d17.mono b1.size)
          go_wp2_with (first | ((with_reducible show wpList _ _ _ (⟨none, .store 23 (.tmp 13) (.tmp 68), _, _, _, _⟩ :: _) _ _); change wpList _ _ _ _ _ (v16.alloc (.cells zero32 23)); rw [← HZ17.out]; refine wpList_put_hash (o := ⟨none, .store _ _ _, _, _, _, _⟩) rfl _ _ rfl v16.heap.size rfl (Tree.root mK (Tree.top K)) (Tree.root_len _ _) rfl _ _ ZX17.out zero32_size ?_; rw [← HV17.out]))
          refine wp_region_rel [[], [], [1], [], [], [], [0, 2, 3, 4, 5], [], [], [8], [], [10], [], [12], [], [7, 9, 11, 13, 14], [6, 15], [16], [17], [17], [17, 19], [17], [17, 21], [17], [17], [17, 23, 24], [17, 25], [17, 26], [17], [17, 18, 20, 22, 27, 28], [17, 29], [30], [31], [31], [31, 33], [31], [31], [31], [31, 32, 34, 35, 36, 37], [31], [31], [31, 40], [31], [31, 42], [31], [31, 44], [31], [31, 39, 41, 43, 45, 46], [31, 38, 47], [31, 48], [49]] (moneV w.heap.size v16.heap.size bK oK mK cK c12 c15 i q12 q15 K r f l) 119 (by kernel_rfl) (by kernel_rfl) (by kernel_rfl) (moneV_mono w.heap.size v16.heap.size bK oK mK cK c12 c15 i q12 q15 K r f l) ?_ ?_
          · intro ix op hi w2 b2 vs hv
            have him : ix < 51 := (List.getElem?_eq_some_iff.1 hi).1
            have hL2 := HL.out.below b2
            match ix, him, hi with
            | 0, _, hi =>
              obtain rfl := Option.some.inj hi
              simp only [relF, List.getD_cons_zero, List.getD_cons_succ, List.foldl_cons, List.foldl_nil, dstAt, List.getElem?_cons_zero, List.getElem?_cons_succ, Option.bind_some]
              go_wp2_with ((with_reducible show wpList _ _ _ (⟨some 69, _, _, _, _, _⟩ :: _) _ _); refine wpList_load_hash (op := ⟨some 69, _, _, _, _, _⟩) (by kernel_rfl) _ rfl w.heap.size rfl r HR.out _ _ ((b2.block _ (lt_of_block X7.out)).trans X7.out) ?_)
              exact ⟨rfl, Below.refl _ _, rfl, rfl⟩
            | 1, _, hi =>
              obtain rfl := Option.some.inj hi
              simp only [relF, List.getD_cons_zero, List.getD_cons_succ, List.foldl_cons, List.foldl_nil, dstAt, List.getElem?_cons_zero, List.getElem?_cons_succ, Option.bind_some]
              go_wp2_with fail
              exact ⟨rfl, Below.refl _ _, rfl, rfl⟩
            | 2, _, hi =>
              obtain rfl := Option.some.inj hi
              have h1 : vs 1 = _ := hv 1 (by decide)
              simp only [relF, List.getD_cons_zero, List.getD_cons_succ, List.foldl_cons, List.foldl_nil, dstAt, List.getElem?_cons_zero, List.getElem?_cons_succ, Option.bind_some]
              go_frame
              rw [h1]
              go_wp2_with fail
              exact ⟨rfl, Below.refl _ _, rfl, rfl⟩
            | 3, _, hi =>
              obtain rfl := Option.some.inj hi
              simp only [relF, List.getD_cons_zero, List.getD_cons_succ, List.foldl_cons, List.foldl_nil, dstAt, List.getElem?_cons_zero, List.getElem?_cons_succ, Option.bind_some]
              go_wp2_with fail
              exact ⟨rfl, Below.refl _ _, rfl, rfl⟩
            | 4, _, hi =>
              obtain rfl := Option.some.inj hi
              simp only [relF, List.getD_cons_zero, List.getD_cons_succ, List.foldl_cons, List.foldl_nil, dstAt, List.getElem?_cons_zero, List.getElem?_cons_succ, Option.bind_some]
              go_wp2_with fail
              exact ⟨rfl, Below.refl _ _, rfl, rfl⟩
            | 5, _, hi =>
              obtain rfl := Option.some.inj hi
              simp only [relF, List.getD_cons_zero, List.getD_cons_succ, List.foldl_cons, List.foldl_nil, dstAt, List.getElem?_cons_zero, List.getElem?_cons_succ, Option.bind_some]
              go_wp2_with fail
              exact ⟨rfl, Below.refl _ _, rfl, rfl⟩
            | 6, _, hi =>
              obtain rfl := Option.some.inj hi
              have h0 : vs 0 = _ := hv 0 (by decide)
              have h2 : vs 2 = _ := hv 2 (by decide)
              have h3 : vs 3 = _ := hv 3 (by decide)
              have h4 : vs 4 = _ := hv 4 (by decide)
              have h5 : vs 5 = _ := hv 5 (by decide)
              simp only [relF, List.getD_cons_zero, List.getD_cons_succ, List.foldl_cons, List.foldl_nil, dstAt, List.getElem?_cons_zero, List.getElem?_cons_succ, Option.bind_some]
              go_frame
              rw [h0, h2, h3, h4, h5]
              go_wp2_with fail
              refine (treeCheck_any w2 r HR.out mK i (by omega) (by omega) f (by omega) _ _ _ (Tree.prove K i) (C12.out.below (Nat.le_refl _) b2) hL2).mono ?_
              rintro e w3 ⟨rfl, b3⟩
              go_wp2_with fail
              exact ⟨rfl, b3, rfl, rfl⟩
            | 7, _, hi =>
              obtain rfl := Option.some.inj hi
              simp only [relF, List.getD_cons_zero, List.getD_cons_succ, List.foldl_cons, List.foldl_nil, dstAt, List.getElem?_cons_zero, List.getElem?_cons_succ, Option.bind_some]
              go_wp2_with ((with_reducible show wpList _ _ _ (⟨some 76, _, _, _, _, _⟩ :: _) _ _); refine wpList_load_hash (op := ⟨some 76, _, _, _, _, _⟩) (by kernel_rfl) _ rfl w.heap.size rfl r HR.out _ _ ((b2.block _ (lt_of_block X7.out)).trans X7.out) ?_)
              exact ⟨rfl, Below.refl _ _, rfl, rfl⟩
            | 8, _, hi =>
              obtain rfl := Option.some.inj hi
              simp only [relF, List.getD_cons_zero, List.getD_cons_succ, List.foldl_cons, List.foldl_nil, dstAt, List.getElem?_cons_zero, List.getElem?_cons_succ, Option.bind_some]
              go_wp2_with fail
              exact ⟨rfl, Below.refl _ _, rfl, rfl⟩
            | 9, _, hi =>
              obtain rfl := Option.some.inj hi
              have h8 : vs 8 = _ := hv 8 (by decide)
              simp only [relF, List.getD_cons_zero, List.getD_cons_succ, List.foldl_cons, List.foldl_nil, dstAt, List.getElem?_cons_zero, List.getElem?_cons_succ, Option.bind_some]
              go_frame
              rw [h8]
              go_wp2_with fail
              exact ⟨rfl, Below.refl _ _, rfl, rfl⟩
            | 10, _, hi =>
              obtain rfl := Option.some.inj hi
              simp only [relF, List.getD_cons_zero, List.getD_cons_succ, List.foldl_cons, List.foldl_nil, dstAt, List.getElem?_cons_zero, List.getElem?_cons_succ, Option.bind_some]
              go_wp2_with fail
              exact ⟨rfl, Below.refl _ _, rfl, rfl⟩
            | 11, _, hi =>
              obtain rfl := Option.some.inj hi
              have h10 : vs 10 = _ := hv 10 (by decide)
              simp only [relF, List.getD_cons_zero, List.getD_cons_succ, List.foldl_cons, List.foldl_nil, dstAt, List.getElem?_cons_zero, List.getElem?_cons_succ, Option.bind_some]
              go_frame
              rw [h10]
              go_wp2_with fail
              exact ⟨rfl, (Below.refl _ _).alloc (Nat.le_refl _) _, rfl, w2.heap.size, rfl, ints_new w2 [(i : Int)] 1 rfl (by decide)⟩
            | 12, _, hi =>
              obtain rfl := Option.some.inj hi
              simp only [relF, List.getD_cons_zero, List.getD_cons_succ, List.foldl_cons, List.foldl_nil, dstAt, List.getElem?_cons_zero, List.getElem?_cons_succ, Option.bind_some]
              go_wp2_with fail
              exact ⟨rfl, Below.refl _ _, rfl, rfl⟩
            | 13, _, hi =>
              obtain rfl := Option.some.inj hi
              have h12 : vs 12 = _ := hv 12 (by decide)
              simp only [relF, List.getD_cons_zero, List.getD_cons_succ, List.foldl_cons, List.foldl_nil, dstAt, List.getElem?_cons_zero, List.getElem?_cons_succ, Option.bind_some]
              go_frame
              rw [h12]
              go_wp2_with fail
              exact ⟨rfl, (Below.refl _ _).alloc (Nat.le_refl _) _, rfl, w2.heap.size, rfl, strs_new w2 [f] 1 rfl (by decide)⟩
            | 14, _, hi =>
              obtain rfl := Option.some.inj hi
              simp only [relF, List.getD_cons_zero, List.getD_cons_succ, List.foldl_cons, List.foldl_nil, dstAt, List.getElem?_cons_zero, List.getElem?_cons_succ, Option.bind_some]
              go_wp2_with fail
              exact ⟨rfl, Below.refl _ _, rfl, rfl⟩
            | 15, _, hi =>
              obtain ⟨g11, e11, s11⟩ := hv 11 (by decide)
              obtain ⟨g13, e13, s13⟩ := hv 13 (by decide)
              obtain rfl := Option.some.inj hi
              have h7 : vs 7 = _ := hv 7 (by decide)
              have h9 : vs 9 = _ := hv 9 (by decide)
              have h14 : vs 14 = _ := hv 14 (by decide)
              have hrn := manyCheck_all w2 r HR.out (mK : Int) _ _ _ _ _ _ _ _ _ [(i : Int)] [f] (Many.prove K [i]) s11 s13 (C15.out.below (Nat.le_refl _) b2) (by simp; omega) (by decide) (by decide) (by omega) hL2
              rw [(HON.out r f)] at hrn
              simp only [relF, List.getD_cons_zero, List.getD_cons_succ, List.foldl_cons, List.foldl_nil, dstAt, List.getElem?_cons_zero, List.getElem?_cons_succ, Option.bind_some]
              go_frame
              rw [h7, h9, e11, e13, h14]
              go_wp2_with fail
              refine (hrn).mono ?_
              rintro e w3 ⟨rfl, b3⟩
              go_wp2_with fail
              exact ⟨rfl, b3, rfl, rfl⟩
            | 16, _, hi =>
              obtain rfl := Option.some.inj hi
              have h6 : vs 6 = _ := hv 6 (by decide)
              have h15 : vs 15 = _ := hv 15 (by decide)
              simp only [relF, List.getD_cons_zero, List.getD_cons_succ, List.foldl_cons, List.foldl_nil, dstAt, List.getElem?_cons_zero, List.getElem?_cons_succ, Option.bind_some]
              go_frame
              rw [h6, h15]
              go_wp2_with fail
              exact ⟨rfl, Below.refl _ _, rfl, by first | rfl | (show slotOf _ _ = _; simp [slotOf])⟩
            | 17, _, hi =>
              obtain rfl := Option.some.inj hi
              have h16 : vs 16 = _ := hv 16 (by decide)
              simp only [relF, List.getD_cons_zero, List.getD_cons_succ, List.foldl_cons, List.foldl_nil, dstAt, List.getElem?_cons_zero, List.getElem?_cons_succ, Option.bind_some]
              go_frame
              rw [h16]
              go_wp2_with fail
              exact ⟨rfl, Below.refl _ _, rfl, rfl⟩
            | 18, _, hi =>
              obtain rfl := Option.some.inj hi
              have h17 : vs 17 = _ := hv 17 (by decide)
              simp only [relF, List.getD_cons_zero, List.getD_cons_succ, List.foldl_cons, List.foldl_nil, dstAt, List.getElem?_cons_zero, List.getElem?_cons_succ, Option.bind_some]
              go_frame
              rw [h17]
              go_wp2_with ((with_reducible show wpList _ _ _ (⟨some 87, _, _, _, _, _⟩ :: _) _ _); refine wpList_load_hash (op := ⟨some 87, _, _, _, _, _⟩) (by kernel_rfl) _ rfl v16.heap.size rfl (Tree.root mK (Tree.top K)) (Tree.root_len _ _) _ _ ((b2.block _ (lt_of_block X17.out)).trans X17.out) ?_)
              exact ⟨rfl, Below.refl _ _, rfl, rfl⟩
            | 19, _, hi =>
              obtain rfl := Option.some.inj hi
              have h17 : vs 17 = _ := hv 17 (by decide)
              simp only [relF, List.getD_cons_zero, List.getD_cons_succ, List.foldl_cons, List.foldl_nil, dstAt, List.getElem?_cons_zero, List.getElem?_cons_succ, Option.bind_some]
              go_frame
              rw [h17]
              go_wp2_with fail
              exact ⟨rfl, Below.refl _ _, rfl, rfl⟩
            | 20, _, hi =>
              obtain rfl := Option.some.inj hi
              have h17 : vs 17 = _ := hv 17 (by decide)
              have h19 : vs 19 = _ := hv 19 (by decide)
              simp only [relF, List.getD_cons_zero, List.getD_cons_succ, List.foldl_cons, List.foldl_nil, dstAt, List.getElem?_cons_zero, List.getElem?_cons_succ, Option.bind_some]
              go_frame
              rw [h17, h19]
              go_wp2_with fail
              exact ⟨rfl, Below.refl _ _, rfl, rfl⟩
            | 21, _, hi =>
              obtain rfl := Option.some.inj hi
              have h17 : vs 17 = _ := hv 17 (by decide)
              simp only [relF, List.getD_cons_zero, List.getD_cons_succ, List.foldl_cons, List.foldl_nil, dstAt, List.getElem?_cons_zero, List.getElem?_cons_succ, Option.bind_some]
              go_frame
              rw [h17]
              go_wp2_with fail
              exact ⟨rfl, Below.refl _ _, rfl, rfl⟩
            | 22, _, hi =>
              obtain rfl := Option.some.inj hi
              have h17 : vs 17 = _ := hv 17 (by decide)
              have h21 : vs 21 = _ := hv 21 (by decide)
              simp only [relF, List.getD_cons_zero, List.getD_cons_succ, List.foldl_cons, List.foldl_nil, dstAt, List.getElem?_cons_zero, List.getElem?_cons_succ, Option.bind_some]
              go_frame
              rw [h17, h21]
              go_wp2_with fail
              exact ⟨rfl, (Below.refl _ _).alloc (Nat.le_refl _) _, rfl, w2.heap.size, rfl, ints_new w2 [(i : Int)] 1 rfl (by decide)⟩
            | 23, _, hi =>
              obtain rfl := Option.some.inj hi
              have h17 : vs 17 = _ := hv 17 (by decide)
              simp only [relF, List.getD_cons_zero, List.getD_cons_succ, List.foldl_cons, List.foldl_nil, dstAt, List.getElem?_cons_zero, List.getElem?_cons_succ, Option.bind_some]
              go_frame
              rw [h17]
              go_wp2_with fail
              exact ⟨rfl, Below.refl _ _, rfl, rfl⟩
            | 24, _, hi =>
              obtain rfl := Option.some.inj hi
              have h17 : vs 17 = _ := hv 17 (by decide)
              simp only [relF, List.getD_cons_zero, List.getD_cons_succ, List.foldl_cons, List.foldl_nil, dstAt, List.getElem?_cons_zero, List.getElem?_cons_succ, Option.bind_some]
              go_frame
              rw [h17]
              go_wp2_with fail
              exact ⟨rfl, Below.refl _ _, rfl, rfl⟩
            | 25, _, hi =>
              obtain rfl := Option.some.inj hi
              have h17 : vs 17 = _ := hv 17 (by decide)
              have h23 : vs 23 = _ := hv 23 (by decide)
              have h24 : vs 24 = _ := hv 24 (by decide)
              simp only [relF, List.getD_cons_zero, List.getD_cons_succ, List.foldl_cons, List.foldl_nil, dstAt, List.getElem?_cons_zero, List.getElem?_cons_succ, Option.bind_some]
              go_frame
              rw [h17, h23, h24]
              go_wp2_with fail
              exact ⟨rfl, Below.refl _ _, rfl, rfl⟩
            | 26, _, hi =>
              obtain rfl := Option.some.inj hi
              have h17 : vs 17 = _ := hv 17 (by decide)
              have h25 : vs 25 = _ := hv 25 (by decide)
              have hcell := (HK.out.below (Nat.le_refl _) b2).get HLI.out
              simp only [relF, List.getD_cons_zero, List.getD_cons_succ, List.foldl_cons, List.foldl_nil, dstAt, List.getElem?_cons_zero, List.getElem?_cons_succ, Option.bind_some]
              go_frame
              rw [h17, h25]
              go_wp2_with fail
              exact ⟨rfl, Below.refl _ _, rfl, rfl⟩
            | 27, _, hi =>
              obtain rfl := Option.some.inj hi
              have h17 : vs 17 = _ := hv 17 (by decide)
              have h26 : vs 26 = _ := hv 26 (by decide)
              simp only [relF, List.getD_cons_zero, List.getD_cons_succ, List.foldl_cons, List.foldl_nil, dstAt, List.getElem?_cons_zero, List.getElem?_cons_succ, Option.bind_some]
              go_frame
              rw [h17, h26]
              go_wp2_with fail
              exact ⟨rfl, (Below.refl _ _).alloc (Nat.le_refl _) _, rfl, w2.heap.size, rfl, strs_new w2 [l] 1 rfl (by decide)⟩
            | 28, _, hi =>
              obtain rfl := Option.some.inj hi
              have h17 : vs 17 = _ := hv 17 (by decide)
              simp only [relF, List.getD_cons_zero, List.getD_cons_succ, List.foldl_cons, List.foldl_nil, dstAt, List.getElem?_cons_zero, List.getElem?_cons_succ, Option.bind_some]
              go_frame
              rw [h17]
              go_wp2_with fail
              exact ⟨rfl, Below.refl _ _, rfl, rfl⟩
            | 29, _, hi =>
              obtain ⟨g22, e22, s22⟩ := hv 22 (by decide)
              obtain ⟨g27, e27, s27⟩ := hv 27 (by decide)
              obtain rfl := Option.some.inj hi
              have h17 : vs 17 = _ := hv 17 (by decide)
              have h18 : vs 18 = _ := hv 18 (by decide)
              have h20 : vs 20 = _ := hv 20 (by decide)
              have h28 : vs 28 = _ := hv 28 (by decide)
              have hrn := manyCheck_all w2 (Tree.root mK (Tree.top K)) (Tree.root_len _ _) (mK : Int) _ _ _ _ _ _ _ _ _ [(i : Int)] [l] (Many.prove K [i]) s22 s27 (C15.out.below (Nat.le_refl _) b2) (by simp; omega) (by decide) (by decide) (by omega) hL2
              rw [HCK.out] at hrn
              simp only [relF, List.getD_cons_zero, List.getD_cons_succ, List.foldl_cons, List.foldl_nil, dstAt, List.getElem?_cons_zero, List.getElem?_cons_succ, Option.bind_some]
              go_frame
              rw [h17, h18, h20, e22, e27, h28]
              go_wp2_with fail
              refine (hrn).mono ?_
              rintro e w3 ⟨rfl, b3⟩
              go_wp2_with fail
              exact ⟨rfl, b3, rfl, rfl⟩
            | 30, _, hi =>
              obtain rfl := Option.some.inj hi
              have h17 : vs 17 = _ := hv 17 (by decide)
              have h29 : vs 29 = _ := hv 29 (by decide)
              simp only [relF, List.getD_cons_zero, List.getD_cons_succ, List.foldl_cons, List.foldl_nil, dstAt, List.getElem?_cons_zero, List.getElem?_cons_succ, Option.bind_some]
              go_frame
              rw [h17, h29]
              go_wp2_with fail
              exact ⟨rfl, Below.refl _ _, rfl, rfl⟩
            | 31, _, hi =>
              obtain rfl := Option.some.inj hi
              have h30 : vs 30 = _ := hv 30 (by decide)
              simp only [relF, List.getD_cons_zero, List.getD_cons_succ, List.foldl_cons, List.foldl_nil, dstAt, List.getElem?_cons_zero, List.getElem?_cons_succ, Option.bind_some]
              go_frame
              rw [h30]
              go_wp2_with fail
              exact ⟨rfl, Below.refl _ _, rfl, rfl⟩
            | 32, _, hi =>
              obtain rfl := Option.some.inj hi
              have h31 : vs 31 = _ := hv 31 (by decide)
              simp only [relF, List.getD_cons_zero, List.getD_cons_succ, List.foldl_cons, List.foldl_nil, dstAt, List.getElem?_cons_zero, List.getElem?_cons_succ, Option.bind_some]
              go_frame
              rw [h31]
              go_wp2_with ((with_reducible show wpList _ _ _ (⟨some 101, _, _, _, _, _⟩ :: _) _ _); refine wpList_load_hash (op := ⟨some 101, _, _, _, _, _⟩) (by kernel_rfl) _ rfl v16.heap.size rfl (Tree.root mK (Tree.top K)) (Tree.root_len _ _) _ _ ((b2.block _ (lt_of_block X17.out)).trans X17.out) ?_)
              exact ⟨rfl, Below.refl _ _, rfl, rfl⟩
            | 33, _, hi =>
              obtain rfl := Option.some.inj hi
              have h31 : vs 31 = _ := hv 31 (by decide)
              simp only [relF, List.getD_cons_zero, List.getD_cons_succ, List.foldl_cons, List.foldl_nil, dstAt, List.getElem?_cons_zero, List.getElem?_cons_succ, Option.bind_some]
              go_frame
              rw [h31]
              go_wp2_with fail
              exact ⟨rfl, Below.refl _ _, rfl, rfl⟩
            | 34, _, hi =>
              obtain rfl := Option.some.inj hi
              have h31 : vs 31 = _ := hv 31 (by decide)
              have h33 : vs 33 = _ := hv 33 (by decide)
              simp only [relF, List.getD_cons_zero, List.getD_cons_succ, List.foldl_cons, List.foldl_nil, dstAt, List.getElem?_cons_zero, List.getElem?_cons_succ, Option.bind_some]
              go_frame
              rw [h31, h33]
              go_wp2_with fail
              exact ⟨rfl, Below.refl _ _, rfl, rfl⟩
            | 35, _, hi =>
              obtain rfl := Option.some.inj hi
              have h31 : vs 31 = _ := hv 31 (by decide)
              simp only [relF, List.getD_cons_zero, List.getD_cons_succ, List.foldl_cons, List.foldl_nil, dstAt, List.getElem?_cons_zero, List.getElem?_cons_succ, Option.bind_some]
              go_frame
              rw [h31]
              go_wp2_with fail
              exact ⟨rfl, Below.refl _ _, rfl, rfl⟩
            | 36, _, hi =>
              obtain rfl := Option.some.inj hi
              have h31 : vs 31 = _ := hv 31 (by decide)
              simp only [relF, List.getD_cons_zero, List.getD_cons_succ, List.foldl_cons, List.foldl_nil, dstAt, List.getElem?_cons_zero, List.getElem?_cons_succ, Option.bind_some]
              go_frame
              rw [h31]
              go_wp2_with fail
              exact ⟨rfl, Below.refl _ _, rfl, rfl⟩
            | 37, _, hi =>
              obtain rfl := Option.some.inj hi
              have h31 : vs 31 = _ := hv 31 (by decide)
              simp only [relF, List.getD_cons_zero, List.getD_cons_succ, List.foldl_cons, List.foldl_nil, dstAt, List.getElem?_cons_zero, List.getElem?_cons_succ, Option.bind_some]
              go_frame
              rw [h31]
              go_wp2_with fail
              exact ⟨rfl, Below.refl _ _, rfl, rfl⟩
            | 38, _, hi =>
              obtain rfl := Option.some.inj hi
              have h31 : vs 31 = _ := hv 31 (by decide)
              have h32 : vs 32 = _ := hv 32 (by decide)
              have h34 : vs 34 = _ := hv 34 (by decide)
              have h35 : vs 35 = _ := hv 35 (by decide)
              have h36 : vs 36 = _ := hv 36 (by decide)
              have h37 : vs 37 = _ := hv 37 (by decide)
              simp only [relF, List.getD_cons_zero, List.getD_cons_succ, List.foldl_cons, List.foldl_nil, dstAt, List.getElem?_cons_zero, List.getElem?_cons_succ, Option.bind_some]
              go_frame
              rw [h31, h32, h34, h35, h36, h37]
              go_wp2_with fail
              refine (treeCheck_any w2 (Tree.root mK (Tree.top K)) (Tree.root_len _ _) mK i (by omega) (by omega) f (by omega) _ _ _ (Tree.prove K i) (C12.out.below (Nat.le_refl _) b2) hL2).mono ?_
              rintro e w3 ⟨rfl, b3⟩
              go_wp2_with fail
              exact ⟨rfl, b3, rfl, rfl⟩
            | 39, _, hi =>
              obtain rfl := Option.some.inj hi
              have h31 : vs 31 = _ := hv 31 (by decide)
              simp only [relF, List.getD_cons_zero, List.getD_cons_succ, List.foldl_cons, List.foldl_nil, dstAt, List.getElem?_cons_zero, List.getElem?_cons_succ, Option.bind_some]
              go_frame
              rw [h31]
              go_wp2_with ((with_reducible show wpList _ _ _ (⟨some 108, _, _, _, _, _⟩ :: _) _ _); refine wpList_load_hash (op := ⟨some 108, _, _, _, _, _⟩) (by kernel_rfl) _ rfl v16.heap.size rfl (Tree.root mK (Tree.top K)) (Tree.root_len _ _) _ _ ((b2.block _ (lt_of_block X17.out)).trans X17.out) ?_)
              exact ⟨rfl, Below.refl _ _, rfl, rfl⟩
            | 40, _, hi =>
              obtain rfl := Option.some.inj hi
              have h31 : vs 31 = _ := hv 31 (by decide)
              simp only [relF, List.getD_cons_zero, List.getD_cons_succ, List.foldl_cons, List.foldl_nil, dstAt, List.getElem?_cons_zero, List.getElem?_cons_succ, Option.bind_some]
              go_frame
              rw [h31]
              go_wp2_with fail
              exact ⟨rfl, Below.refl _ _, rfl, rfl⟩
            | 41, _, hi =>
              obtain rfl := Option.some.inj hi
              have h31 : vs 31 = _ := hv 31 (by decide)
              have h40 : vs 40 = _ := hv 40 (by decide)
              simp only [relF, List.getD_cons_zero, List.getD_cons_succ, List.foldl_cons, List.foldl_nil, dstAt, List.getElem?_cons_zero, List.getElem?_cons_succ, Option.bind_some]
              go_frame
              rw [h31, h40]
              go_wp2_with fail
              exact ⟨rfl, Below.refl _ _, rfl, rfl⟩
            | 42, _, hi =>
              obtain rfl := Option.some.inj hi
              have h31 : vs 31 = _ := hv 31 (by decide)
              simp only [relF, List.getD_cons_zero, List.getD_cons_succ, List.foldl_cons, List.foldl_nil, dstAt, List.getElem?_cons_zero, List.getElem?_cons_succ, Option.bind_some]
              go_frame
              rw [h31]
              go_wp2_with fail
              exact ⟨rfl, Below.refl _ _, rfl, rfl⟩
            | 43, _, hi =>
              obtain rfl := Option.some.inj hi
              have h31 : vs 31 = _ := hv 31 (by decide)
              have h42 : vs 42 = _ := hv 42 (by decide)
              simp only [relF, List.getD_cons_zero, List.getD_cons_succ, List.foldl_cons, List.foldl_nil, dstAt, List.getElem?_cons_zero, List.getElem?_cons_succ, Option.bind_some]
              go_frame
              rw [h31, h42]
              go_wp2_with fail
              exact ⟨rfl, (Below.refl _ _).alloc (Nat.le_refl _) _, rfl, w2.heap.size, rfl, ints_new w2 [(i : Int)] 1 rfl (by decide)⟩
            | 44, _, hi =>
              obtain rfl := Option.some.inj hi
              have h31 : vs 31 = _ := hv 31 (by decide)
              simp only [relF, List.getD_cons_zero, List.getD_cons_succ, List.foldl_cons, List.foldl_nil, dstAt, List.getElem?_cons_zero, List.getElem?_cons_succ, Option.bind_some]
              go_frame
              rw [h31]
              go_wp2_with fail
              exact ⟨rfl, Below.refl _ _, rfl, rfl⟩
            | 45, _, hi =>
              obtain rfl := Option.some.inj hi
              have h31 : vs 31 = _ := hv 31 (by decide)
              have h44 : vs 44 = _ := hv 44 (by decide)
              simp only [relF, List.getD_cons_zero, List.getD_cons_succ, List.foldl_cons, List.foldl_nil, dstAt, List.getElem?_cons_zero, List.getElem?_cons_succ, Option.bind_some]
              go_frame
              rw [h31, h44]
              go_wp2_with fail
              exact ⟨rfl, (Below.refl _ _).alloc (Nat.le_refl _) _, rfl, w2.heap.size, rfl, strs_new w2 [f] 1 rfl (by decide)⟩
            | 46, _, hi =>
              obtain rfl := Option.some.inj hi
              have h31 : vs 31 = _ := hv 31 (by decide)
              simp only [relF, List.getD_cons_zero, List.getD_cons_succ, List.foldl_cons, List.foldl_nil, dstAt, List.getElem?_cons_zero, List.getElem?_cons_succ, Option.bind_some]
              go_frame
              rw [h31]
              go_wp2_with fail
              exact ⟨rfl, Below.refl _ _, rfl, rfl⟩
            | 47, _, hi =>
              obtain ⟨g43, e43, s43⟩ := hv 43 (by decide)
              obtain ⟨g45, e45, s45⟩ := hv 45 (by decide)
              obtain rfl := Option.some.inj hi
              have h31 : vs 31 = _ := hv 31 (by decide)
              have h39 : vs 39 = _ := hv 39 (by decide)
              have h41 : vs 41 = _ := hv 41 (by decide)
              have h46 : vs 46 = _ := hv 46 (by decide)
              have hrn := manyCheck_all w2 (Tree.root mK (Tree.top K)) (Tree.root_len _ _) (mK : Int) _ _ _ _ _ _ _ _ _ [(i : Int)] [f] (Many.prove K [i]) s43 s45 (C15.out.below (Nat.le_refl _) b2) (by simp; omega) (by decide) (by decide) (by omega) hL2
              rw [(HON.out (Tree.root mK (Tree.top K)) f)] at hrn
              simp only [relF, List.getD_cons_zero, List.getD_cons_succ, List.foldl_cons, List.foldl_nil, dstAt, List.getElem?_cons_zero, List.getElem?_cons_succ, Option.bind_some]
              go_frame
              rw [h31, h39, h41, e43, e45, h46]
              go_wp2_with fail
              refine (hrn).mono ?_
              rintro e w3 ⟨rfl, b3⟩
              go_wp2_with fail
              exact ⟨rfl, b3, rfl, rfl⟩
            | 48, _, hi =>
              obtain rfl := Option.some.inj hi
              have h31 : vs 31 = _ := hv 31 (by decide)
              have h38 : vs 38 = _ := hv 38 (by decide)
              have h47 : vs 47 = _ := hv 47 (by decide)
              simp only [relF, List.getD_cons_zero, List.getD_cons_succ, List.foldl_cons, List.foldl_nil, dstAt, List.getElem?_cons_zero, List.getElem?_cons_succ, Option.bind_some]
              go_frame
              rw [h31, h38, h47]
              go_wp2_with fail
              exact ⟨rfl, Below.refl _ _, rfl, by first | rfl | (show slotOf _ _ = _; simp [slotOf])⟩
            | 49, _, hi =>
              obtain rfl := Option.some.inj hi
              have h31 : vs 31 = _ := hv 31 (by decide)
              have h48 : vs 48 = _ := hv 48 (by decide)
              simp only [relF, List.getD_cons_zero, List.getD_cons_succ, List.foldl_cons, List.foldl_nil, dstAt, List.getElem?_cons_zero, List.getElem?_cons_succ, Option.bind_some]
              go_frame
              rw [h31, h48]
              go_wp2_with fail
              exact ⟨rfl, Below.refl _ _, rfl, rfl⟩
            | 50, _, hi =>
              obtain rfl := Option.some.inj hi
              have h49 : vs 49 = _ := hv 49 (by decide)
              simp only [relF, List.getD_cons_zero, List.getD_cons_succ, List.foldl_cons, List.foldl_nil, dstAt, List.getElem?_cons_zero, List.getElem?_cons_succ, Option.bind_some]
              go_frame
              rw [h49]
              go_wp2_with fail
              exact ⟨rfl, Below.refl _ _, rfl, rfl⟩
            | nx + 51, him, _ => exact absurd him (by omega)
          · intro w2 b2 vs hv
            have hL2 := HL.out.below b2
            have h50 : vs 50 = _ := hv 50 (by decide)
            simp only [relF, List.drop_succ_cons, List.drop_zero, List.length_cons, List.length_nil, Nat.zero_add, Nat.reduceAdd, List.range, List.range.loop, List.foldl_cons, List.foldl_nil, dstAt, List.getElem?_cons_zero, List.getElem?_cons_succ, Option.bind_some]
            go_frame
            rw [h50]
            go_wp2_with fail
            go_ret
            exact ⟨rfl, b1.trans (b2.mono b1.size)⟩

theorem mone_law (w : World) (r : List UInt8) (hr : r.length = 32) (oK : Option Addr) (mK cK : Nat) (K : List ByteArray) (rK : RowsAt w oK mK cK 1 strCell K) (hxK : ∀ s ∈ K, s.size ≤ maxLen) (i : Int) (hi : (Lit.int .i64 i).wf = true) (f : ByteArray) (hf : f.size ≤ 140737488351232) (hL : Laid w) :
    Calls Tryd.prog 3 #[.agg (byteCells r).toArray, .slice oK mK cK, .int .i64 i, .string f] w fun e w' => e = .returned (.bool true) ∧ Below w.heap.size w w' := by
  have h := mone_list w r hr oK mK cK _ (StrsAt.of_rows rK) (strs_le hxK) i hi f.data.toList (by rw [← strOf_size, strOf_data]; exact hf) hL
  rwa [strOf_data] at h

end Go.Proofs.YtgheacegjgaobaaDoor
