/- The walk of the law TreeApart. -/
import Derived.Test.YtgheacegjgaobaaDoorKG6e
namespace Go.Proofs.YtgheacegjgaobaaDoor
open Go.RowKit
set_option linter.unusedSimpArgs false
set_option linter.unusedVariables false

set_option maxRecDepth 100000 in
set_option maxHeartbeats 4000000 in
theorem apart_list (w : World) (oK : Option Addr) (mK cK : Nat) (K : List (List UInt8)) (hK : StrsAt w oK mK cK K) (hxK : ∀ l ∈ K, l.length ≤ 9223372036854775807) (i : Int) (hi : (Lit.int .i64 i).wf = true) (x : Int) (hx : (Lit.int .i64 x).wf = true) (f : List UInt8) (hf : f.length ≤ 140737488351232) (hL : Laid w) :
  Calls Tryd.prog 9 #[.slice oK mK cK, .int .i64 i, .int .i64 x, .string (strOf f)] w fun e w' => e = .returned (.bool true) ∧ Below w.heap.size w w' := by
 have hmK : K.length = mK := hK.len
 have hcK := hK.cap
 have hyK := hK.max
 have HK := Lib.hid hK; clear hK
 have HXK := Lib.hid hxK; clear hxK
 have hbi := wf_i64' hi
 have hbx := wf_i64' hx
 have hstf := strOf_size f
 have HL := Lib.hid hL; clear hL
 go_enter Tryd.func9, Tryd.ntmps9
 go_wp2_with fail
 refine (awake_any _ HL.out).mono ?_
 rintro e w1 ⟨rfl, b1⟩
 replace HK := Lib.hid (HK.out.below (Nat.le_refl _) b1)
 replace HL := Lib.hid (HL.out.below b1)
 rcases hf : few K with _ | _
 ·
  have hfc := refFew_any w1 oK mK cK K HK.out HXK.out
  rw [hf] at hfc
  have HFC := Lib.hid hfc; clear hfc hf
  go_wp2_with fail
  refine HFC.out.mono ?_
  rintro e w' ⟨rfl, rfl⟩
  go_wp2_with fail
  refine (awake_any _ HL.out).mono ?_
  rintro e w2 ⟨rfl, b2⟩
  go_wp2_with fail
  go_ret
  exact ⟨rfl, b1.trans (b2.mono b1.size)⟩
 ·
  have hfc := refFew_any w1 oK mK cK K HK.out HXK.out
  rw [hf] at hfc
  obtain ⟨h20, h200⟩ := few_spec hf
  have HFC := Lib.hid hfc; clear hfc hf
  have HLE : Hid (∀ l ∈ K, l.length ≤ 100000) := Lib.hid fun l hl => by have := h200 l hl; omega
  have H200 := Lib.hid h200; clear h200
  go_wp2_with fail
  refine HFC.out.mono ?_
  rintro e w' ⟨rfl, rfl⟩
  clear HFC
  by_cases hg : i < 0
  ·
   have ht : decide (i < 0) = true := decide_eq_true hg
   go_wp2_with fail
   refine (awake_any _ HL.out).mono ?_
   rintro e w2 ⟨rfl, b2⟩
   go_wp2_with fail
   go_ret
   exact ⟨rfl, b1.trans (b2.mono b1.size)⟩
  ·
   have ht : decide (i < 0) = false := decide_eq_false hg
   by_cases hg : (mK : Int) ≤ i
   ·
    have ht : decide ((mK : Int) ≤ i) = true := decide_eq_true hg
    go_wp2_with fail
    refine (awake_any _ HL.out).mono ?_
    rintro e w2 ⟨rfl, b2⟩
    go_wp2_with fail
    go_ret
    exact ⟨rfl, b1.trans (b2.mono b1.size)⟩
   ·
    have ht : decide ((mK : Int) ≤ i) = false := decide_eq_false hg
    by_cases hg : 200 < f.length
    ·
     have ht : decide ((200 : Int) < (f.length : Int)) = true := decide_eq_true (by omega)
     go_wp2_with fail
     refine (awake_any _ HL.out).mono ?_
     rintro e w2 ⟨rfl, b2⟩
     go_wp2_with fail
     go_ret
     exact ⟨rfl, b1.trans (b2.mono b1.size)⟩
    ·
     have ht : decide ((200 : Int) < (f.length : Int)) = false := decide_eq_false (by omega)
     obtain ⟨i, rfl⟩ : ∃ k : Nat, i = (k : Int) := ⟨i.toNat, by omega⟩
     have hin : i < mK := by omega
     obtain ⟨bK, oK, rfl⟩ := HK.out.form (by omega)
     obtain ⟨l, hl⟩ : ∃ l, K[i]? = some l := ⟨_, List.getElem?_eq_getElem (by omega)⟩
     have hll := HLE.out l (List.mem_of_getElem? hl)
     have hpl := Tree.prove_len K.length K i rfl
     have hp32 := Tree.prove_32 K.length K i rfl
     have hsp := Tree.sides_prove K.length K i rfl (by omega)
     have hlk : K.length = mK := hmK
     rw [hlk] at hpl hsp
     obtain ⟨PR, hPR⟩ : ∃ PR, Tree.prove K i = PR := ⟨_, rfl⟩
     rw [hPR] at hpl hp32 hsp
     obtain ⟨N, hN⟩ : ∃ N, PR.length = N := ⟨_, rfl⟩
     rw [hN] at hpl hsp
     obtain ⟨R, hRE⟩ : ∃ R, Tree.root mK (Tree.top K) = R := ⟨_, rfl⟩
     have hRL : R.length = 32 := by rw [← hRE]; exact Tree.root_len _ _
     have hc2 := Tree.check_len (want := R) (n := mK) (i := i) (l := l) (P := PR ++ [R]) (by rw [hsp, List.length_append, hN]; simp)
     have HPE := Lib.hid hPR; clear hPR
     have HNE := Lib.hid hN
     have HN := Lib.hid hN
     have HRE := Lib.hid hRE; clear hRE
     have HRL := Lib.hid hRL; clear hRL
     have HP32 := Lib.hid hp32; clear hp32
     have HC2 := Lib.hid hc2; clear hc2
     have HLI := Lib.hid hl; clear hl
     obtain ⟨q11, c11, v11, hrun, hs, dd⟩ := StrsAt.copy (HK.out.below (Nat.le_refl _) ((Below.refl w1.heap.size w1).alloc (Nat.le_refl _) (.cells #[] 9))) (by omega) ⟨w1.heap.size, 0, none⟩
     have d11 : Below w1.heap.size w1 v11 := ((Below.refl _ _).alloc (Nat.le_refl _) _).trans (dd.mono (by simp))
     have hrun11 := hrun; clear hrun dd
     have C11 := Lib.hid hs; clear hs
     replace HK := Lib.hid (HK.out.below (Nat.le_refl _) d11)
     replace HL := Lib.hid (HL.out.below d11)
     replace b1 := b1.trans (d11.mono b1.size)
     have hrn := treeRoot_any v11 _ mK _ K C11.out (by omega) HLE.out HL.out
     rw [HRE.out] at hrn
     have hc12 := hrn
     have HC12 := Lib.hid hc12; clear hc12
     go_wp2_with (first | ((with_reducible show wpList _ _ _ (⟨some 37, _, _, _, _, _⟩ :: _) _ _); refine wpList_append_ran (by kernel_rfl) _ _ _ rfl _ _ rfl rfl hrun11 ?_))
     refine HC12.out.mono ?_
     rintro e v12 ⟨rfl, d12⟩
     replace HK := Lib.hid (HK.out.below (Nat.le_refl _) d12)
     replace HL := Lib.hid (HL.out.below d12)
     replace C11 := Lib.hid (C11.out.below (Nat.le_refl _) d12)
     replace b1 := b1.trans (d12.mono b1.size)
     clear HC12
     obtain ⟨z13, hz13⟩ : ∃ z13, z13 = v12.alloc (.cells zero32 23) := ⟨_, rfl⟩
     have hzx : z13.heap[v12.heap.size]? = some (.cells zero32 23 (0, 0)) := by rw [hz13]; exact heap_alloc_new v12 _
     have hzb : Below v12.heap.size v12 z13 := by rw [hz13]; exact (Below.refl _ _).alloc (Nat.le_refl _) _
     obtain ⟨v13, hv13⟩ : ∃ v13, v13 = hset z13 v12.heap.size R := ⟨_, rfl⟩
     have hx13 : v13.heap[v12.heap.size]? = some (.cells (byteCells R).toArray 23 (0, 0)) := by rw [hv13]; exact hset_heap _ hzx
     have d13 : Below v12.heap.size v12 v13 := by rw [hv13]; exact hset_below _ hzb (Nat.le_refl _)
     have ZX13 := Lib.hid hzx; have HZ13 := Lib.hid hz13; have HV13 := Lib.hid hv13; have X13 := Lib.hid hx13; clear hzx hzb hz13 hv13 hx13
     replace HK := Lib.hid (HK.out.below (Nat.le_refl _) d13)
     replace HL := Lib.hid (HL.out.below d13)
     replace C11 := Lib.hid (C11.out.below (Nat.le_refl _) d13)
     replace b1 := b1.trans (d13.mono b1.size)
     obtain ⟨q14, c14, v14, hrun, hs, dd⟩ := StrsAt.copy (HK.out.below (Nat.le_refl _) ((Below.refl v13.heap.size v13).alloc (Nat.le_refl _) (.cells #[] 9))) (by omega) ⟨v13.heap.size, 0, none⟩
     have d14 : Below v13.heap.size v13 v14 := ((Below.refl _ _).alloc (Nat.le_refl _) _).trans (dd.mono (by simp))
     have hrun14 := hrun; clear hrun dd
     have C14 := Lib.hid hs; clear hs
     replace HK := Lib.hid (HK.out.below (Nat.le_refl _) d14)
     replace HL := Lib.hid (HL.out.below d14)
     replace C11 := Lib.hid (C11.out.below (Nat.le_refl _) d14)
     replace X13 := Lib.hid ((d14.block _ (lt_of_block X13.out)).trans X13.out)
     replace b1 := b1.trans (d14.mono b1.size)
     have hrn := treeProve_row v14 _ _ _ i K C14.out hin (by omega) HLE.out HL.out
     rw [HPE.out, HNE.out] at hrn
     have hc15 := hrn
     have HC15 := Lib.hid hc15; clear hc15
     go_wp2_with (first | ((with_reducible show wpList _ _ _ (⟨none, .store 23 (.tmp 9) (.tmp 38), _, _, _, _⟩ :: _) _ _); change wpList _ _ _ _ _ (v12.alloc (.cells zero32 23)); rw [← HZ13.out]; refine wpList_put_hash (o := ⟨none, .store _ _ _, _, _, _, _⟩) rfl _ _ rfl v12.heap.size rfl R HRL.out rfl _ _ ZX13.out zero32_size ?_; rw [← HV13.out]) | ((with_reducible show wpList _ _ _ (⟨some 42, _, _, _, _, _⟩ :: _) _ _); refine wpList_append_ran (by kernel_rfl) _ _ _ rfl _ _ rfl rfl hrun14 ?_))
     refine HC15.out.mono ?_
     rintro e v15 ⟨q15, c15, rfl, hs, d15⟩
     replace HK := Lib.hid (HK.out.below (Nat.le_refl _) d15)
     replace HL := Lib.hid (HL.out.below d15)
     replace C11 := Lib.hid (C11.out.below (Nat.le_refl _) d15)
     replace X13 := Lib.hid ((d15.block _ (lt_of_block X13.out)).trans X13.out)
     replace C14 := Lib.hid (C14.out.below (Nat.le_refl _) d15)
     replace b1 := b1.trans (d15.mono b1.size)
     have C15 := Lib.hid hs; clear hs
     clear HC15
     go_wp2_with fail
     by_cases h0 : 0 < N
     ·
      have t1 : decide ((0 : Int) < (N : Int)) = true := decide_eq_true (by omega)
      have t1' : decide (0 < N) = true := decide_eq_true h0
      have hc1 := Tree.check_len (want := R) (n := mK) (i := i) (l := l) (P := PR.drop 1) (by rw [hsp, List.length_drop, hN]; omega)
      have HC1 := Lib.hid hc1; clear hc1 hsp
      have hcP := C15.out.1.2.1
      have hmP := C15.out.1.2.2.1
      obtain ⟨bP, oP, hqe⟩ := C15.out.form h0
      subst hqe
      by_cases h1 : 1 < c15
      ·
       have hdr := HashesAt.drop1 C15.out (by omega)
       have HD := Lib.hid hdr; clear hdr
       clear hN
       refine wp_region_relR [[], [0], [1], [2], [3], [3], [3, 5], [3], [3], [3], [3, 8, 9], [3, 10], [3], [3, 12], [3, 4, 6, 7, 11, 13], [3, 14], [15], [16], [16], [16, 18], [16], [16], [16], [16, 21, 22], [16, 23], [16], [16], [16, 25, 26], [16], [16, 28], [16, 27, 29], [16, 17, 19, 20, 24, 30], [16, 31]] (tapA v15.heap.size v12.heap.size bK oK mK cK c15 N i bP oP K PR R f l) (apR v15.heap.size R PR) 145 (by kernel_rfl) (by kernel_rfl) (by kernel_rfl) (fun i w w' h1 h2 => apR_below i w w' h1 h2) (tapA_keep v15.heap.size v12.heap.size bK oK mK cK c15 N i bP oP K PR R f l) ?_ ?_
       ·
        intro ix op hi w2 b2 vs hv
        have him : ix < 33 := (List.getElem?_eq_some_iff.1 hi).1
        have hL2 := HL.out.below b2
        match ix, him, hi with
        | 0, _, hi =>
         obtain rfl := Option.some.inj hi
         simp only [relF, List.getD_cons_zero, List.getD_cons_succ, List.foldl_cons, List.foldl_nil, dstAt, List.getElem?_cons_zero, List.getElem?_cons_succ, Option.bind_some]
         go_wp2_with fail
         exact ⟨rfl, Below.refl _ _, rfl, rfl⟩
        | 1, _, hi =>
         obtain rfl := Option.some.inj hi
         have h0 : vs 0 = _ := hv 0 (by decide)
         simp only [relF, List.getD_cons_zero, List.getD_cons_succ, List.foldl_cons, List.foldl_nil, dstAt, List.getElem?_cons_zero, List.getElem?_cons_succ, Option.bind_some]
         go_frame
         rw [h0]
         go_wp2_with fail
         exact ⟨rfl, Below.refl _ _, rfl, rfl⟩
        | 2, _, hi =>
         obtain rfl := Option.some.inj hi
         have h1 : vs 1 = _ := hv 1 (by decide)
         simp only [relF, List.getD_cons_zero, List.getD_cons_succ, List.foldl_cons, List.foldl_nil, dstAt, List.getElem?_cons_zero, List.getElem?_cons_succ, Option.bind_some]
         go_frame
         rw [h1]
         go_wp2_with fail
         exact ⟨rfl, Below.refl _ _, rfl, by first | rfl | (show slotOf _ _ = _; simp [slotOf]; done) | (show slotOf _ _ = _; simp [slotOf]; omega)⟩
        | 3, _, hi =>
         obtain rfl := Option.some.inj hi
         have h2 : vs 2 = _ := hv 2 (by decide)
         simp only [relF, List.getD_cons_zero, List.getD_cons_succ, List.foldl_cons, List.foldl_nil, dstAt, List.getElem?_cons_zero, List.getElem?_cons_succ, Option.bind_some]
         go_frame
         rw [h2]
         go_wp2_with fail
         exact ⟨rfl, Below.refl _ _, rfl, rfl⟩
        | 4, _, hi =>
         obtain rfl := Option.some.inj hi
         have h3 : vs 3 = _ := hv 3 (by decide)
         simp only [relF, List.getD_cons_zero, List.getD_cons_succ, List.foldl_cons, List.foldl_nil, dstAt, List.getElem?_cons_zero, List.getElem?_cons_succ, Option.bind_some]
         go_frame
         rw [h3]
         go_wp2_with ((with_reducible show wpList _ _ _ (⟨some 53, _, _, _, _, _⟩ :: _) _ _); refine wpList_load_hash (op := ⟨some 53, _, _, _, _, _⟩) (by kernel_rfl) _ rfl v12.heap.size rfl R HRL.out _ _ ((b2.block _ (lt_of_block X13.out)).trans X13.out) ?_)
         exact ⟨rfl, Below.refl _ _, rfl, rfl⟩
        | 5, _, hi =>
         obtain rfl := Option.some.inj hi
         have h3 : vs 3 = _ := hv 3 (by decide)
         simp only [relF, List.getD_cons_zero, List.getD_cons_succ, List.foldl_cons, List.foldl_nil, dstAt, List.getElem?_cons_zero, List.getElem?_cons_succ, Option.bind_some]
         go_frame
         rw [h3]
         go_wp2_with fail
         exact ⟨rfl, Below.refl _ _, rfl, rfl⟩
        | 6, _, hi =>
         obtain rfl := Option.some.inj hi
         have h3 : vs 3 = _ := hv 3 (by decide)
         have h5 : vs 5 = _ := hv 5 (by decide)
         simp only [relF, List.getD_cons_zero, List.getD_cons_succ, List.foldl_cons, List.foldl_nil, dstAt, List.getElem?_cons_zero, List.getElem?_cons_succ, Option.bind_some]
         go_frame
         rw [h3, h5]
         go_wp2_with fail
         exact ⟨rfl, Below.refl _ _, rfl, rfl⟩
        | 7, _, hi =>
         obtain rfl := Option.some.inj hi
         have h3 : vs 3 = _ := hv 3 (by decide)
         simp only [relF, List.getD_cons_zero, List.getD_cons_succ, List.foldl_cons, List.foldl_nil, dstAt, List.getElem?_cons_zero, List.getElem?_cons_succ, Option.bind_some]
         go_frame
         rw [h3]
         go_wp2_with fail
         exact ⟨rfl, Below.refl _ _, rfl, rfl⟩
        | 8, _, hi =>
         obtain rfl := Option.some.inj hi
         have h3 : vs 3 = _ := hv 3 (by decide)
         simp only [relF, List.getD_cons_zero, List.getD_cons_succ, List.foldl_cons, List.foldl_nil, dstAt, List.getElem?_cons_zero, List.getElem?_cons_succ, Option.bind_some]
         go_frame
         rw [h3]
         go_wp2_with fail
         exact ⟨rfl, Below.refl _ _, rfl, rfl⟩
        | 9, _, hi =>
         obtain rfl := Option.some.inj hi
         have h3 : vs 3 = _ := hv 3 (by decide)
         simp only [relF, List.getD_cons_zero, List.getD_cons_succ, List.foldl_cons, List.foldl_nil, dstAt, List.getElem?_cons_zero, List.getElem?_cons_succ, Option.bind_some]
         go_frame
         rw [h3]
         go_wp2_with fail
         exact ⟨rfl, Below.refl _ _, rfl, rfl⟩
        | 10, _, hi =>
         obtain rfl := Option.some.inj hi
         have h3 : vs 3 = _ := hv 3 (by decide)
         have h8 : vs 8 = _ := hv 8 (by decide)
         have h9 : vs 9 = _ := hv 9 (by decide)
         simp only [relF, List.getD_cons_zero, List.getD_cons_succ, List.foldl_cons, List.foldl_nil, dstAt, List.getElem?_cons_zero, List.getElem?_cons_succ, Option.bind_some]
         go_frame
         rw [h3, h8, h9]
         go_wp2_with fail
         exact ⟨rfl, Below.refl _ _, rfl, rfl⟩
        | 11, _, hi =>
         obtain rfl := Option.some.inj hi
         have h3 : vs 3 = _ := hv 3 (by decide)
         have h10 : vs 10 = _ := hv 10 (by decide)
         have hcell := (HK.out.below (Nat.le_refl _) b2).get HLI.out
         simp only [relF, List.getD_cons_zero, List.getD_cons_succ, List.foldl_cons, List.foldl_nil, dstAt, List.getElem?_cons_zero, List.getElem?_cons_succ, Option.bind_some]
         go_frame
         rw [h3, h10]
         go_wp2_with fail
         exact ⟨rfl, Below.refl _ _, rfl, rfl⟩
        | 12, _, hi =>
         obtain rfl := Option.some.inj hi
         have h3 : vs 3 = _ := hv 3 (by decide)
         simp only [relF, List.getD_cons_zero, List.getD_cons_succ, List.foldl_cons, List.foldl_nil, dstAt, List.getElem?_cons_zero, List.getElem?_cons_succ, Option.bind_some]
         go_frame
         rw [h3]
         go_wp2_with fail
         exact ⟨rfl, Below.refl _ _, rfl, rfl⟩
        | 13, _, hi =>
         obtain rfl := Option.some.inj hi
         have h3 : vs 3 = _ := hv 3 (by decide)
         have h12 : vs 12 = _ := hv 12 (by decide)
         simp only [relF, List.getD_cons_zero, List.getD_cons_succ, List.foldl_cons, List.foldl_nil, dstAt, List.getElem?_cons_zero, List.getElem?_cons_succ, Option.bind_some]
         go_frame
         rw [h3, h12]
         go_wp2_with fail
         exact ⟨rfl, Below.refl _ _, rfl, rfl⟩
        | 14, _, hi =>
         obtain rfl := Option.some.inj hi
         have h3 : vs 3 = _ := hv 3 (by decide)
         have h4 : vs 4 = _ := hv 4 (by decide)
         have h6 : vs 6 = _ := hv 6 (by decide)
         have h7 : vs 7 = _ := hv 7 (by decide)
         have h11 : vs 11 = _ := hv 11 (by decide)
         have h13 : vs 13 = _ := hv 13 (by decide)
         have hrn := treeCheck_any w2 R HRL.out mK i (by omega) (by omega) l (by omega) _ _ _ (PR.drop 1) (HD.out.below (Nat.le_refl _) b2) hL2
         rw [HC1.out] at hrn
         simp only [relF, List.getD_cons_zero, List.getD_cons_succ, List.foldl_cons, List.foldl_nil, dstAt, List.getElem?_cons_zero, List.getElem?_cons_succ, Option.bind_some]
         go_frame
         rw [h3, h4, h6, h7, h11, h13]
         go_wp2_with fail
         refine (hrn).mono ?_
         rintro e w3 ⟨rfl, b3⟩
         go_wp2_with fail
         exact ⟨rfl, b3, rfl, rfl⟩
        | 15, _, hi =>
         obtain rfl := Option.some.inj hi
         have h3 : vs 3 = _ := hv 3 (by decide)
         have h14 : vs 14 = _ := hv 14 (by decide)
         simp only [relF, List.getD_cons_zero, List.getD_cons_succ, List.foldl_cons, List.foldl_nil, dstAt, List.getElem?_cons_zero, List.getElem?_cons_succ, Option.bind_some]
         go_frame
         rw [h3, h14]
         go_wp2_with fail
         exact ⟨rfl, Below.refl _ _, rfl, rfl⟩
        | 16, _, hi =>
         obtain rfl := Option.some.inj hi
         have h15 : vs 15 = _ := hv 15 (by decide)
         simp only [relF, List.getD_cons_zero, List.getD_cons_succ, List.foldl_cons, List.foldl_nil, dstAt, List.getElem?_cons_zero, List.getElem?_cons_succ, Option.bind_some]
         go_frame
         rw [h15]
         go_wp2_with fail
         exact ⟨rfl, Below.refl _ _, rfl, rfl⟩
        | 17, _, hi =>
         obtain rfl := Option.some.inj hi
         have h16 : vs 16 = _ := hv 16 (by decide)
         simp only [relF, List.getD_cons_zero, List.getD_cons_succ, List.foldl_cons, List.foldl_nil, dstAt, List.getElem?_cons_zero, List.getElem?_cons_succ, Option.bind_some]
         go_frame
         rw [h16]
         go_wp2_with ((with_reducible show wpList _ _ _ (⟨some 66, _, _, _, _, _⟩ :: _) _ _); refine wpList_load_hash (op := ⟨some 66, _, _, _, _, _⟩) (by kernel_rfl) _ rfl v12.heap.size rfl R HRL.out _ _ ((b2.block _ (lt_of_block X13.out)).trans X13.out) ?_)
         exact ⟨rfl, Below.refl _ _, rfl, rfl⟩
        | 18, _, hi =>
         obtain rfl := Option.some.inj hi
         have h16 : vs 16 = _ := hv 16 (by decide)
         simp only [relF, List.getD_cons_zero, List.getD_cons_succ, List.foldl_cons, List.foldl_nil, dstAt, List.getElem?_cons_zero, List.getElem?_cons_succ, Option.bind_some]
         go_frame
         rw [h16]
         go_wp2_with fail
         exact ⟨rfl, Below.refl _ _, rfl, rfl⟩
        | 19, _, hi =>
         obtain rfl := Option.some.inj hi
         have h16 : vs 16 = _ := hv 16 (by decide)
         have h18 : vs 18 = _ := hv 18 (by decide)
         simp only [relF, List.getD_cons_zero, List.getD_cons_succ, List.foldl_cons, List.foldl_nil, dstAt, List.getElem?_cons_zero, List.getElem?_cons_succ, Option.bind_some]
         go_frame
         rw [h16, h18]
         go_wp2_with fail
         exact ⟨rfl, Below.refl _ _, rfl, rfl⟩
        | 20, _, hi =>
         obtain rfl := Option.some.inj hi
         have h16 : vs 16 = _ := hv 16 (by decide)
         simp only [relF, List.getD_cons_zero, List.getD_cons_succ, List.foldl_cons, List.foldl_nil, dstAt, List.getElem?_cons_zero, List.getElem?_cons_succ, Option.bind_some]
         go_frame
         rw [h16]
         go_wp2_with fail
         exact ⟨rfl, Below.refl _ _, rfl, rfl⟩
        | 21, _, hi =>
         obtain rfl := Option.some.inj hi
         have h16 : vs 16 = _ := hv 16 (by decide)
         simp only [relF, List.getD_cons_zero, List.getD_cons_succ, List.foldl_cons, List.foldl_nil, dstAt, List.getElem?_cons_zero, List.getElem?_cons_succ, Option.bind_some]
         go_frame
         rw [h16]
         go_wp2_with fail
         exact ⟨rfl, Below.refl _ _, rfl, rfl⟩
        | 22, _, hi =>
         obtain rfl := Option.some.inj hi
         have h16 : vs 16 = _ := hv 16 (by decide)
         simp only [relF, List.getD_cons_zero, List.getD_cons_succ, List.foldl_cons, List.foldl_nil, dstAt, List.getElem?_cons_zero, List.getElem?_cons_succ, Option.bind_some]
         go_frame
         rw [h16]
         go_wp2_with fail
         exact ⟨rfl, Below.refl _ _, rfl, rfl⟩
        | 23, _, hi =>
         obtain rfl := Option.some.inj hi
         have h16 : vs 16 = _ := hv 16 (by decide)
         have h21 : vs 21 = _ := hv 21 (by decide)
         have h22 : vs 22 = _ := hv 22 (by decide)
         simp only [relF, List.getD_cons_zero, List.getD_cons_succ, List.foldl_cons, List.foldl_nil, dstAt, List.getElem?_cons_zero, List.getElem?_cons_succ, Option.bind_some]
         go_frame
         rw [h16, h21, h22]
         go_wp2_with fail
         exact ⟨rfl, Below.refl _ _, rfl, rfl⟩
        | 24, _, hi =>
         obtain rfl := Option.some.inj hi
         have h16 : vs 16 = _ := hv 16 (by decide)
         have h23 : vs 23 = _ := hv 23 (by decide)
         have hcell := (HK.out.below (Nat.le_refl _) b2).get HLI.out
         simp only [relF, List.getD_cons_zero, List.getD_cons_succ, List.foldl_cons, List.foldl_nil, dstAt, List.getElem?_cons_zero, List.getElem?_cons_succ, Option.bind_some]
         go_frame
         rw [h16, h23]
         go_wp2_with fail
         exact ⟨rfl, Below.refl _ _, rfl, rfl⟩
        | 25, _, hi =>
         obtain rfl := Option.some.inj hi
         have h16 : vs 16 = _ := hv 16 (by decide)
         simp only [relF, List.getD_cons_zero, List.getD_cons_succ, List.foldl_cons, List.foldl_nil, dstAt, List.getElem?_cons_zero, List.getElem?_cons_succ, Option.bind_some]
         go_frame
         rw [h16]
         go_wp2_with fail
         exact ⟨rfl, (Below.refl _ _).alloc (Nat.le_refl _) _, rfl, w2.heap.size, rfl⟩
        | 26, _, hi =>
         obtain rfl := Option.some.inj hi
         have h16 : vs 16 = _ := hv 16 (by decide)
         simp only [relF, List.getD_cons_zero, List.getD_cons_succ, List.foldl_cons, List.foldl_nil, dstAt, List.getElem?_cons_zero, List.getElem?_cons_succ, Option.bind_some]
         go_frame
         rw [h16]
         go_wp2_with fail
         exact ⟨rfl, Below.refl _ _, rfl, rfl⟩
        | 27, _, hi =>
         obtain ⟨g25, e25⟩ := hv 25 (by decide)
         obtain rfl := Option.some.inj hi
         have h16 : vs 16 = _ := hv 16 (by decide)
         have h26 : vs 26 = _ := hv 26 (by decide)
         obtain ⟨q, cc, W, hrun, hrk, hbb⟩ := copyK (C15.out.below (Nat.le_refl _) b2) (by omega) b2.size ⟨g25, 0, none⟩
         simp only [relF, List.getD_cons_zero, List.getD_cons_succ, List.foldl_cons, List.foldl_nil, dstAt, List.getElem?_cons_zero, List.getElem?_cons_succ, Option.bind_some]
         go_frame
         rw [h16, e25, h26]
         go_wp2_with ((with_reducible show wpList _ _ _ (⟨some 76, _, _, _, _, _⟩ :: _) _ _); refine wpList_append_ran (by kernel_rfl) _ _ _ rfl _ _ rfl rfl hrun ?_)
         exact ⟨rfl, hbb, rfl, q, cc, rfl, HN.out.symm, hrk⟩
        | 28, _, hi =>
         obtain rfl := Option.some.inj hi
         have h16 : vs 16 = _ := hv 16 (by decide)
         simp only [relF, List.getD_cons_zero, List.getD_cons_succ, List.foldl_cons, List.foldl_nil, dstAt, List.getElem?_cons_zero, List.getElem?_cons_succ, Option.bind_some]
         go_frame
         rw [h16]
         go_wp2_with ((with_reducible show wpList _ _ _ (⟨some 77, _, _, _, _, _⟩ :: _) _ _); refine wpList_load_hash (op := ⟨some 77, _, _, _, _, _⟩) (by kernel_rfl) _ rfl v12.heap.size rfl R HRL.out _ _ ((b2.block _ (lt_of_block X13.out)).trans X13.out) ?_)
         exact ⟨rfl, Below.refl _ _, rfl, rfl⟩
        | 29, _, hi =>
         obtain rfl := Option.some.inj hi
         have h16 : vs 16 = _ := hv 16 (by decide)
         have h28 : vs 28 = _ := hv 28 (by decide)
         have hbc : (byteCells R).length = 32 := by rw [byteCells_length, HRL.out]
         simp only [relF, List.getD_cons_zero, List.getD_cons_succ, List.foldl_cons, List.foldl_nil, dstAt, List.getElem?_cons_zero, List.getElem?_cons_succ, Option.bind_some]
         go_frame
         rw [h16, h28]
         go_wp2_with fail
         exact ⟨rfl, (Below.refl _ _).alloc (Nat.le_refl _) _, rfl, w2.heap.size, rfl, alloc_built w2 hbc⟩
        | 30, _, hi =>
         obtain ⟨q27, c27, e27, n27, s27⟩ := hv 27 (by decide)
         obtain ⟨g29, e29, s29⟩ := hv 29 (by decide)
         obtain rfl := Option.some.inj hi
         have h16 : vs 16 = _ := hv 16 (by decide)
         obtain ⟨q', cc, W, hrun, hs, hk⟩ := pushK (B := v15.heap.size) HRL.out HP32.out HN.out (by omega) s27 s29 b2.size
         clear n27
         simp only [relF, List.getD_cons_zero, List.getD_cons_succ, List.foldl_cons, List.foldl_nil, dstAt, List.getElem?_cons_zero, List.getElem?_cons_succ, Option.bind_some]
         go_frame
         rw [h16, e27, e29]
         go_wp2_with ((with_reducible show wpList _ _ _ (⟨some 79, _, _, _, _, _⟩ :: _) _ _); refine wpList_append_ran (by kernel_rfl) _ _ _ rfl _ _ rfl rfl hrun ?_)
         exact ⟨rfl, hk, rfl, q', cc, rfl, hs⟩
        | 31, _, hi =>
         obtain ⟨q30, c30, e30, s30⟩ := hv 30 (by decide)
         obtain rfl := Option.some.inj hi
         have h16 : vs 16 = _ := hv 16 (by decide)
         have h17 : vs 17 = _ := hv 17 (by decide)
         have h19 : vs 19 = _ := hv 19 (by decide)
         have h20 : vs 20 = _ := hv 20 (by decide)
         have h24 : vs 24 = _ := hv 24 (by decide)
         have hrn := treeCheck_any w2 R HRL.out mK i (by omega) (by omega) l (by omega) _ _ _ (PR ++ [R]) s30 hL2
         rw [HC2.out] at hrn
         simp only [relF, List.getD_cons_zero, List.getD_cons_succ, List.foldl_cons, List.foldl_nil, dstAt, List.getElem?_cons_zero, List.getElem?_cons_succ, Option.bind_some]
         go_frame
         rw [h16, h17, h19, h20, h24, e30]
         go_wp2_with fail
         refine (hrn).mono ?_
         rintro e w3 ⟨rfl, b3⟩
         go_wp2_with fail
         exact ⟨rfl, b3, rfl, rfl⟩
        | 32, _, hi =>
         obtain rfl := Option.some.inj hi
         have h16 : vs 16 = _ := hv 16 (by decide)
         have h31 : vs 31 = _ := hv 31 (by decide)
         simp only [relF, List.getD_cons_zero, List.getD_cons_succ, List.foldl_cons, List.foldl_nil, dstAt, List.getElem?_cons_zero, List.getElem?_cons_succ, Option.bind_some]
         go_frame
         rw [h16, h31]
         go_wp2_with fail
         exact ⟨rfl, Below.refl _ _, rfl, rfl⟩
        | nx + 33, him, _ => exact absurd him (by omega)
       ·
        intro w2 b2 vs hv
        have hL2 := HL.out.below b2
        have h32 : vs 32 = _ := hv 32 (by decide)
        simp only [relF, List.drop_succ_cons, List.drop_zero, List.length_cons, List.length_nil, Nat.zero_add, Nat.reduceAdd, List.range, List.range.loop, List.foldl_cons, List.foldl_nil, dstAt, List.getElem?_cons_zero, List.getElem?_cons_succ, Option.bind_some]
        go_frame
        rw [h32]
        go_wp2_with fail
        have B2 := b1.trans (b2.mono b1.size)
        have HK2 := Lib.hid (HK.out.below (Nat.le_refl _) b2)
        have HP2 := Lib.hid (C15.out.below (Nat.le_refl _) b2)
        have HX2 := Lib.hid ((b2.block _ (lt_of_block X13.out)).trans X13.out)
        have HL2 := Lib.hid hL2; clear hL2
        clear hv
        rcases hb : badSide (mK : Int) x with _ | _
        ·
         obtain ⟨k, rfl, hkm⟩ := badSide_k hb
         clear hb
         refine wp_region_rel [[], [], [1], [], [], [], [0, 2, 3, 4, 5], [], [], [8], [], [], [], [7, 9, 10, 11, 12], [6, 13], [14], [15], [15], [15, 17], [15], [15], [15], [15, 20, 21], [15, 22], [15], [15, 16, 18, 19, 23, 24], [15], [15], [15, 27], [15], [15], [15], [15, 30, 31], [15, 32], [15], [15, 26, 28, 29, 33, 34], [15, 25, 35], [15, 36], [37], [38], [38], [38, 40], [38, 41], [38], [38], [38], [38, 44, 45], [38, 46], [38], [38, 39, 42, 43, 47, 48], [38], [38], [38, 51], [38, 52], [38], [38], [38], [38, 55, 56], [38, 57], [38], [38, 50, 53, 54, 58, 59], [38, 49, 60], [38, 61], [62]] (tarB v12.heap.size bK oK mK cK c15 N i k (some ⟨bP, oP, none⟩) K PR R f l) 145 (by kernel_rfl) (by kernel_rfl) (by kernel_rfl) (tarB_mono v12.heap.size bK oK mK cK c15 N i k (some ⟨bP, oP, none⟩) K PR R f l) ?_ ?_
         ·
          intro ix op hi w4 b2 vs hv
          have him : ix < 64 := (List.getElem?_eq_some_iff.1 hi).1
          have hL2 := HL2.out.below b2
          match ix, him, hi with
          | 0, _, hi =>
           obtain rfl := Option.some.inj hi
           simp only [relF, List.getD_cons_zero, List.getD_cons_succ, List.foldl_cons, List.foldl_nil, dstAt, List.getElem?_cons_zero, List.getElem?_cons_succ, Option.bind_some]
           go_wp2_with ((with_reducible show wpList _ _ _ (⟨some 82, _, _, _, _, _⟩ :: _) _ _); refine wpList_load_hash (op := ⟨some 82, _, _, _, _, _⟩) (by kernel_rfl) _ rfl v12.heap.size rfl R HRL.out _ _ ((b2.block _ (lt_of_block HX2.out)).trans HX2.out) ?_)
           exact ⟨rfl, Below.refl _ _, rfl, rfl⟩
          | 1, _, hi =>
           obtain rfl := Option.some.inj hi
           simp only [relF, List.getD_cons_zero, List.getD_cons_succ, List.foldl_cons, List.foldl_nil, dstAt, List.getElem?_cons_zero, List.getElem?_cons_succ, Option.bind_some]
           go_wp2_with fail
           exact ⟨rfl, Below.refl _ _, rfl, rfl⟩
          | 2, _, hi =>
           obtain rfl := Option.some.inj hi
           have h1 : vs 1 = _ := hv 1 (by decide)
           simp only [relF, List.getD_cons_zero, List.getD_cons_succ, List.foldl_cons, List.foldl_nil, dstAt, List.getElem?_cons_zero, List.getElem?_cons_succ, Option.bind_some]
           go_frame
           rw [h1]
           go_wp2_with fail
           exact ⟨rfl, Below.refl _ _, rfl, rfl⟩
          | 3, _, hi =>
           obtain rfl := Option.some.inj hi
           simp only [relF, List.getD_cons_zero, List.getD_cons_succ, List.foldl_cons, List.foldl_nil, dstAt, List.getElem?_cons_zero, List.getElem?_cons_succ, Option.bind_some]
           go_wp2_with fail
           exact ⟨rfl, Below.refl _ _, rfl, rfl⟩
          | 4, _, hi =>
           obtain rfl := Option.some.inj hi
           simp only [relF, List.getD_cons_zero, List.getD_cons_succ, List.foldl_cons, List.foldl_nil, dstAt, List.getElem?_cons_zero, List.getElem?_cons_succ, Option.bind_some]
           go_wp2_with fail
           exact ⟨rfl, Below.refl _ _, rfl, rfl⟩
          | 5, _, hi =>
           obtain rfl := Option.some.inj hi
           simp only [relF, List.getD_cons_zero, List.getD_cons_succ, List.foldl_cons, List.foldl_nil, dstAt, List.getElem?_cons_zero, List.getElem?_cons_succ, Option.bind_some]
           go_wp2_with fail
           exact ⟨rfl, Below.refl _ _, rfl, rfl⟩
          | 6, _, hi =>
           obtain rfl := Option.some.inj hi
           have h0 : vs 0 = _ := hv 0 (by decide)
           have h2 : vs 2 = _ := hv 2 (by decide)
           have h3 : vs 3 = _ := hv 3 (by decide)
           have h4 : vs 4 = _ := hv 4 (by decide)
           have h5 : vs 5 = _ := hv 5 (by decide)
           simp only [relF, List.getD_cons_zero, List.getD_cons_succ, List.foldl_cons, List.foldl_nil, dstAt, List.getElem?_cons_zero, List.getElem?_cons_succ, Option.bind_some]
           go_frame
           rw [h0, h2, h3, h4, h5]
           go_wp2_with fail
           refine (treeCheck_any w4 R HRL.out mK i (by omega) (by omega) f (by omega) _ _ _ PR (HP2.out.below (Nat.le_refl _) b2) hL2).mono ?_
           rintro e w3 ⟨rfl, b3⟩
           go_wp2_with fail
           exact ⟨rfl, b3, rfl, rfl⟩
          | 7, _, hi =>
           obtain rfl := Option.some.inj hi
           simp only [relF, List.getD_cons_zero, List.getD_cons_succ, List.foldl_cons, List.foldl_nil, dstAt, List.getElem?_cons_zero, List.getElem?_cons_succ, Option.bind_some]
           go_wp2_with ((with_reducible show wpList _ _ _ (⟨some 89, _, _, _, _, _⟩ :: _) _ _); refine wpList_load_hash (op := ⟨some 89, _, _, _, _, _⟩) (by kernel_rfl) _ rfl v12.heap.size rfl R HRL.out _ _ ((b2.block _ (lt_of_block HX2.out)).trans HX2.out) ?_)
           exact ⟨rfl, Below.refl _ _, rfl, rfl⟩
          | 8, _, hi =>
           obtain rfl := Option.some.inj hi
           simp only [relF, List.getD_cons_zero, List.getD_cons_succ, List.foldl_cons, List.foldl_nil, dstAt, List.getElem?_cons_zero, List.getElem?_cons_succ, Option.bind_some]
           go_wp2_with fail
           exact ⟨rfl, Below.refl _ _, rfl, rfl⟩
          | 9, _, hi =>
           obtain rfl := Option.some.inj hi
           have h8 : vs 8 = _ := hv 8 (by decide)
           simp only [relF, List.getD_cons_zero, List.getD_cons_succ, List.foldl_cons, List.foldl_nil, dstAt, List.getElem?_cons_zero, List.getElem?_cons_succ, Option.bind_some]
           go_frame
           rw [h8]
           go_wp2_with fail
           exact ⟨rfl, Below.refl _ _, rfl, rfl⟩
          | 10, _, hi =>
           obtain rfl := Option.some.inj hi
           simp only [relF, List.getD_cons_zero, List.getD_cons_succ, List.foldl_cons, List.foldl_nil, dstAt, List.getElem?_cons_zero, List.getElem?_cons_succ, Option.bind_some]
           go_wp2_with fail
           exact ⟨rfl, Below.refl _ _, rfl, rfl⟩
          | 11, _, hi =>
           obtain rfl := Option.some.inj hi
           simp only [relF, List.getD_cons_zero, List.getD_cons_succ, List.foldl_cons, List.foldl_nil, dstAt, List.getElem?_cons_zero, List.getElem?_cons_succ, Option.bind_some]
           go_wp2_with fail
           exact ⟨rfl, Below.refl _ _, rfl, rfl⟩
          | 12, _, hi =>
           obtain rfl := Option.some.inj hi
           simp only [relF, List.getD_cons_zero, List.getD_cons_succ, List.foldl_cons, List.foldl_nil, dstAt, List.getElem?_cons_zero, List.getElem?_cons_succ, Option.bind_some]
           go_wp2_with fail
           exact ⟨rfl, Below.refl _ _, rfl, rfl⟩
          | 13, _, hi =>
           obtain rfl := Option.some.inj hi
           have h7 : vs 7 = _ := hv 7 (by decide)
           have h9 : vs 9 = _ := hv 9 (by decide)
           have h10 : vs 10 = _ := hv 10 (by decide)
           have h11 : vs 11 = _ := hv 11 (by decide)
           have h12 : vs 12 = _ := hv 12 (by decide)
           simp only [relF, List.getD_cons_zero, List.getD_cons_succ, List.foldl_cons, List.foldl_nil, dstAt, List.getElem?_cons_zero, List.getElem?_cons_succ, Option.bind_some]
           go_frame
           rw [h7, h9, h10, h11, h12]
           go_wp2_with fail
           refine (refCheck_any w4 R HRL.out mK i (by omega) (by omega) f (by omega) _ _ _ PR (HP2.out.below (Nat.le_refl _) b2)).mono ?_
           rintro e w3 ⟨rfl, b3⟩
           go_wp2_with fail
           exact ⟨rfl, b3, rfl, rfl⟩
          | 14, _, hi =>
           obtain rfl := Option.some.inj hi
           have h6 : vs 6 = _ := hv 6 (by decide)
           have h13 : vs 13 = _ := hv 13 (by decide)
           simp only [relF, List.getD_cons_zero, List.getD_cons_succ, List.foldl_cons, List.foldl_nil, dstAt, List.getElem?_cons_zero, List.getElem?_cons_succ, Option.bind_some]
           go_frame
           rw [h6, h13]
           go_wp2_with fail
           exact ⟨rfl, Below.refl _ _, rfl, by first | rfl | (show slotOf _ _ = _; simp [slotOf])⟩
          | 15, _, hi =>
           obtain rfl := Option.some.inj hi
           have h14 : vs 14 = _ := hv 14 (by decide)
           simp only [relF, List.getD_cons_zero, List.getD_cons_succ, List.foldl_cons, List.foldl_nil, dstAt, List.getElem?_cons_zero, List.getElem?_cons_succ, Option.bind_some]
           go_frame
           rw [h14]
           go_wp2_with fail
           exact ⟨rfl, Below.refl _ _, rfl, rfl⟩
          | 16, _, hi =>
           obtain rfl := Option.some.inj hi
           have h15 : vs 15 = _ := hv 15 (by decide)
           simp only [relF, List.getD_cons_zero, List.getD_cons_succ, List.foldl_cons, List.foldl_nil, dstAt, List.getElem?_cons_zero, List.getElem?_cons_succ, Option.bind_some]
           go_frame
           rw [h15]
           go_wp2_with ((with_reducible show wpList _ _ _ (⟨some 98, _, _, _, _, _⟩ :: _) _ _); refine wpList_load_hash (op := ⟨some 98, _, _, _, _, _⟩) (by kernel_rfl) _ rfl v12.heap.size rfl R HRL.out _ _ ((b2.block _ (lt_of_block HX2.out)).trans HX2.out) ?_)
           exact ⟨rfl, Below.refl _ _, rfl, rfl⟩
          | 17, _, hi =>
           obtain rfl := Option.some.inj hi
           have h15 : vs 15 = _ := hv 15 (by decide)
           simp only [relF, List.getD_cons_zero, List.getD_cons_succ, List.foldl_cons, List.foldl_nil, dstAt, List.getElem?_cons_zero, List.getElem?_cons_succ, Option.bind_some]
           go_frame
           rw [h15]
           go_wp2_with fail
           exact ⟨rfl, Below.refl _ _, rfl, rfl⟩
          | 18, _, hi =>
           obtain rfl := Option.some.inj hi
           have h15 : vs 15 = _ := hv 15 (by decide)
           have h17 : vs 17 = _ := hv 17 (by decide)
           simp only [relF, List.getD_cons_zero, List.getD_cons_succ, List.foldl_cons, List.foldl_nil, dstAt, List.getElem?_cons_zero, List.getElem?_cons_succ, Option.bind_some]
           go_frame
           rw [h15, h17]
           go_wp2_with fail
           exact ⟨rfl, Below.refl _ _, rfl, rfl⟩
          | 19, _, hi =>
           obtain rfl := Option.some.inj hi
           have h15 : vs 15 = _ := hv 15 (by decide)
           simp only [relF, List.getD_cons_zero, List.getD_cons_succ, List.foldl_cons, List.foldl_nil, dstAt, List.getElem?_cons_zero, List.getElem?_cons_succ, Option.bind_some]
           go_frame
           rw [h15]
           go_wp2_with fail
           exact ⟨rfl, Below.refl _ _, rfl, rfl⟩
          | 20, _, hi =>
           obtain rfl := Option.some.inj hi
           have h15 : vs 15 = _ := hv 15 (by decide)
           simp only [relF, List.getD_cons_zero, List.getD_cons_succ, List.foldl_cons, List.foldl_nil, dstAt, List.getElem?_cons_zero, List.getElem?_cons_succ, Option.bind_some]
           go_frame
           rw [h15]
           go_wp2_with fail
           exact ⟨rfl, Below.refl _ _, rfl, rfl⟩
          | 21, _, hi =>
           obtain rfl := Option.some.inj hi
           have h15 : vs 15 = _ := hv 15 (by decide)
           simp only [relF, List.getD_cons_zero, List.getD_cons_succ, List.foldl_cons, List.foldl_nil, dstAt, List.getElem?_cons_zero, List.getElem?_cons_succ, Option.bind_some]
           go_frame
           rw [h15]
           go_wp2_with fail
           exact ⟨rfl, Below.refl _ _, rfl, rfl⟩
          | 22, _, hi =>
           obtain rfl := Option.some.inj hi
           have h15 : vs 15 = _ := hv 15 (by decide)
           have h20 : vs 20 = _ := hv 20 (by decide)
           have h21 : vs 21 = _ := hv 21 (by decide)
           simp only [relF, List.getD_cons_zero, List.getD_cons_succ, List.foldl_cons, List.foldl_nil, dstAt, List.getElem?_cons_zero, List.getElem?_cons_succ, Option.bind_some]
           go_frame
           rw [h15, h20, h21]
           go_wp2_with fail
           exact ⟨rfl, Below.refl _ _, rfl, rfl⟩
          | 23, _, hi =>
           obtain rfl := Option.some.inj hi
           have h15 : vs 15 = _ := hv 15 (by decide)
           have h22 : vs 22 = _ := hv 22 (by decide)
           have hcell := (HK2.out.below (Nat.le_refl _) b2).get HLI.out
           simp only [relF, List.getD_cons_zero, List.getD_cons_succ, List.foldl_cons, List.foldl_nil, dstAt, List.getElem?_cons_zero, List.getElem?_cons_succ, Option.bind_some]
           go_frame
           rw [h15, h22]
           go_wp2_with fail
           exact ⟨rfl, Below.refl _ _, rfl, rfl⟩
          | 24, _, hi =>
           obtain rfl := Option.some.inj hi
           have h15 : vs 15 = _ := hv 15 (by decide)
           simp only [relF, List.getD_cons_zero, List.getD_cons_succ, List.foldl_cons, List.foldl_nil, dstAt, List.getElem?_cons_zero, List.getElem?_cons_succ, Option.bind_some]
           go_frame
           rw [h15]
           go_wp2_with fail
           exact ⟨rfl, Below.refl _ _, rfl, rfl⟩
          | 25, _, hi =>
           obtain rfl := Option.some.inj hi
           have h15 : vs 15 = _ := hv 15 (by decide)
           have h16 : vs 16 = _ := hv 16 (by decide)
           have h18 : vs 18 = _ := hv 18 (by decide)
           have h19 : vs 19 = _ := hv 19 (by decide)
           have h23 : vs 23 = _ := hv 23 (by decide)
           have h24 : vs 24 = _ := hv 24 (by decide)
           simp only [relF, List.getD_cons_zero, List.getD_cons_succ, List.foldl_cons, List.foldl_nil, dstAt, List.getElem?_cons_zero, List.getElem?_cons_succ, Option.bind_some]
           go_frame
           rw [h15, h16, h18, h19, h23, h24]
           go_wp2_with fail
           refine (treeCheck_any w4 R HRL.out mK k (by omega) (by omega) l (by omega) _ _ _ PR (HP2.out.below (Nat.le_refl _) b2) hL2).mono ?_
           rintro e w3 ⟨rfl, b3⟩
           go_wp2_with fail
           exact ⟨rfl, b3, rfl, rfl⟩
          | 26, _, hi =>
           obtain rfl := Option.some.inj hi
           have h15 : vs 15 = _ := hv 15 (by decide)
           simp only [relF, List.getD_cons_zero, List.getD_cons_succ, List.foldl_cons, List.foldl_nil, dstAt, List.getElem?_cons_zero, List.getElem?_cons_succ, Option.bind_some]
           go_frame
           rw [h15]
           go_wp2_with ((with_reducible show wpList _ _ _ (⟨some 108, _, _, _, _, _⟩ :: _) _ _); refine wpList_load_hash (op := ⟨some 108, _, _, _, _, _⟩) (by kernel_rfl) _ rfl v12.heap.size rfl R HRL.out _ _ ((b2.block _ (lt_of_block HX2.out)).trans HX2.out) ?_)
           exact ⟨rfl, Below.refl _ _, rfl, rfl⟩
          | 27, _, hi =>
           obtain rfl := Option.some.inj hi
           have h15 : vs 15 = _ := hv 15 (by decide)
           simp only [relF, List.getD_cons_zero, List.getD_cons_succ, List.foldl_cons, List.foldl_nil, dstAt, List.getElem?_cons_zero, List.getElem?_cons_succ, Option.bind_some]
           go_frame
           rw [h15]
           go_wp2_with fail
           exact ⟨rfl, Below.refl _ _, rfl, rfl⟩
          | 28, _, hi =>
           obtain rfl := Option.some.inj hi
           have h15 : vs 15 = _ := hv 15 (by decide)
           have h27 : vs 27 = _ := hv 27 (by decide)
           simp only [relF, List.getD_cons_zero, List.getD_cons_succ, List.foldl_cons, List.foldl_nil, dstAt, List.getElem?_cons_zero, List.getElem?_cons_succ, Option.bind_some]
           go_frame
           rw [h15, h27]
           go_wp2_with fail
           exact ⟨rfl, Below.refl _ _, rfl, rfl⟩
          | 29, _, hi =>
           obtain rfl := Option.some.inj hi
           have h15 : vs 15 = _ := hv 15 (by decide)
           simp only [relF, List.getD_cons_zero, List.getD_cons_succ, List.foldl_cons, List.foldl_nil, dstAt, List.getElem?_cons_zero, List.getElem?_cons_succ, Option.bind_some]
           go_frame
           rw [h15]
           go_wp2_with fail
           exact ⟨rfl, Below.refl _ _, rfl, rfl⟩
          | 30, _, hi =>
           obtain rfl := Option.some.inj hi
           have h15 : vs 15 = _ := hv 15 (by decide)
           simp only [relF, List.getD_cons_zero, List.getD_cons_succ, List.foldl_cons, List.foldl_nil, dstAt, List.getElem?_cons_zero, List.getElem?_cons_succ, Option.bind_some]
           go_frame
           rw [h15]
           go_wp2_with fail
           exact ⟨rfl, Below.refl _ _, rfl, rfl⟩
          | 31, _, hi =>
           obtain rfl := Option.some.inj hi
           have h15 : vs 15 = _ := hv 15 (by decide)
           simp only [relF, List.getD_cons_zero, List.getD_cons_succ, List.foldl_cons, List.foldl_nil, dstAt, List.getElem?_cons_zero, List.getElem?_cons_succ, Option.bind_some]
           go_frame
           rw [h15]
           go_wp2_with fail
           exact ⟨rfl, Below.refl _ _, rfl, rfl⟩
          | 32, _, hi =>
           obtain rfl := Option.some.inj hi
           have h15 : vs 15 = _ := hv 15 (by decide)
           have h30 : vs 30 = _ := hv 30 (by decide)
           have h31 : vs 31 = _ := hv 31 (by decide)
           simp only [relF, List.getD_cons_zero, List.getD_cons_succ, List.foldl_cons, List.foldl_nil, dstAt, List.getElem?_cons_zero, List.getElem?_cons_succ, Option.bind_some]
           go_frame
           rw [h15, h30, h31]
           go_wp2_with fail
           exact ⟨rfl, Below.refl _ _, rfl, rfl⟩
          | 33, _, hi =>
           obtain rfl := Option.some.inj hi
           have h15 : vs 15 = _ := hv 15 (by decide)
           have h32 : vs 32 = _ := hv 32 (by decide)
           have hcell := (HK2.out.below (Nat.le_refl _) b2).get HLI.out
           simp only [relF, List.getD_cons_zero, List.getD_cons_succ, List.foldl_cons, List.foldl_nil, dstAt, List.getElem?_cons_zero, List.getElem?_cons_succ, Option.bind_some]
           go_frame
           rw [h15, h32]
           go_wp2_with fail
           exact ⟨rfl, Below.refl _ _, rfl, rfl⟩
          | 34, _, hi =>
           obtain rfl := Option.some.inj hi
           have h15 : vs 15 = _ := hv 15 (by decide)
           simp only [relF, List.getD_cons_zero, List.getD_cons_succ, List.foldl_cons, List.foldl_nil, dstAt, List.getElem?_cons_zero, List.getElem?_cons_succ, Option.bind_some]
           go_frame
           rw [h15]
           go_wp2_with fail
           exact ⟨rfl, Below.refl _ _, rfl, rfl⟩
          | 35, _, hi =>
           obtain rfl := Option.some.inj hi
           have h15 : vs 15 = _ := hv 15 (by decide)
           have h26 : vs 26 = _ := hv 26 (by decide)
           have h28 : vs 28 = _ := hv 28 (by decide)
           have h29 : vs 29 = _ := hv 29 (by decide)
           have h33 : vs 33 = _ := hv 33 (by decide)
           have h34 : vs 34 = _ := hv 34 (by decide)
           simp only [relF, List.getD_cons_zero, List.getD_cons_succ, List.foldl_cons, List.foldl_nil, dstAt, List.getElem?_cons_zero, List.getElem?_cons_succ, Option.bind_some]
           go_frame
           rw [h15, h26, h28, h29, h33, h34]
           go_wp2_with fail
           refine (refCheck_any w4 R HRL.out mK k (by omega) (by omega) l (by omega) _ _ _ PR (HP2.out.below (Nat.le_refl _) b2)).mono ?_
           rintro e w3 ⟨rfl, b3⟩
           go_wp2_with fail
           exact ⟨rfl, b3, rfl, rfl⟩
          | 36, _, hi =>
           obtain rfl := Option.some.inj hi
           have h15 : vs 15 = _ := hv 15 (by decide)
           have h25 : vs 25 = _ := hv 25 (by decide)
           have h35 : vs 35 = _ := hv 35 (by decide)
           simp only [relF, List.getD_cons_zero, List.getD_cons_succ, List.foldl_cons, List.foldl_nil, dstAt, List.getElem?_cons_zero, List.getElem?_cons_succ, Option.bind_some]
           go_frame
           rw [h15, h25, h35]
           go_wp2_with fail
           exact ⟨rfl, Below.refl _ _, rfl, by first | rfl | (show slotOf _ _ = _; simp [slotOf])⟩
          | 37, _, hi =>
           obtain rfl := Option.some.inj hi
           have h15 : vs 15 = _ := hv 15 (by decide)
           have h36 : vs 36 = _ := hv 36 (by decide)
           simp only [relF, List.getD_cons_zero, List.getD_cons_succ, List.foldl_cons, List.foldl_nil, dstAt, List.getElem?_cons_zero, List.getElem?_cons_succ, Option.bind_some]
           go_frame
           rw [h15, h36]
           go_wp2_with fail
           exact ⟨rfl, Below.refl _ _, rfl, rfl⟩
          | 38, _, hi =>
           obtain rfl := Option.some.inj hi
           have h37 : vs 37 = _ := hv 37 (by decide)
           simp only [relF, List.getD_cons_zero, List.getD_cons_succ, List.foldl_cons, List.foldl_nil, dstAt, List.getElem?_cons_zero, List.getElem?_cons_succ, Option.bind_some]
           go_frame
           rw [h37]
           go_wp2_with fail
           exact ⟨rfl, Below.refl _ _, rfl, rfl⟩
          | 39, _, hi =>
           obtain rfl := Option.some.inj hi
           have h38 : vs 38 = _ := hv 38 (by decide)
           simp only [relF, List.getD_cons_zero, List.getD_cons_succ, List.foldl_cons, List.foldl_nil, dstAt, List.getElem?_cons_zero, List.getElem?_cons_succ, Option.bind_some]
           go_frame
           rw [h38]
           go_wp2_with ((with_reducible show wpList _ _ _ (⟨some 121, _, _, _, _, _⟩ :: _) _ _); refine wpList_load_hash (op := ⟨some 121, _, _, _, _, _⟩) (by kernel_rfl) _ rfl v12.heap.size rfl R HRL.out _ _ ((b2.block _ (lt_of_block HX2.out)).trans HX2.out) ?_)
           exact ⟨rfl, Below.refl _ _, rfl, rfl⟩
          | 40, _, hi =>
           obtain rfl := Option.some.inj hi
           have h38 : vs 38 = _ := hv 38 (by decide)
           simp only [relF, List.getD_cons_zero, List.getD_cons_succ, List.foldl_cons, List.foldl_nil, dstAt, List.getElem?_cons_zero, List.getElem?_cons_succ, Option.bind_some]
           go_frame
           rw [h38]
           go_wp2_with fail
           exact ⟨rfl, Below.refl _ _, rfl, rfl⟩
          | 41, _, hi =>
           obtain rfl := Option.some.inj hi
           have h38 : vs 38 = _ := hv 38 (by decide)
           have h40 : vs 40 = _ := hv 40 (by decide)
           simp only [relF, List.getD_cons_zero, List.getD_cons_succ, List.foldl_cons, List.foldl_nil, dstAt, List.getElem?_cons_zero, List.getElem?_cons_succ, Option.bind_some]
           go_frame
           rw [h38, h40]
           go_wp2_with fail
           exact ⟨rfl, Below.refl _ _, rfl, rfl⟩
          | 42, _, hi =>
           obtain rfl := Option.some.inj hi
           have h38 : vs 38 = _ := hv 38 (by decide)
           have h41 : vs 41 = _ := hv 41 (by decide)
           simp only [relF, List.getD_cons_zero, List.getD_cons_succ, List.foldl_cons, List.foldl_nil, dstAt, List.getElem?_cons_zero, List.getElem?_cons_succ, Option.bind_some]
           go_frame
           rw [h38, h41]
           go_wp2_with fail
           exact ⟨rfl, Below.refl _ _, rfl, by first | rfl | (show slotOf _ _ = _; simp [slotOf]; done) | (show slotOf _ _ = _; simp [slotOf]; omega)⟩
          | 43, _, hi =>
           obtain rfl := Option.some.inj hi
           have h38 : vs 38 = _ := hv 38 (by decide)
           simp only [relF, List.getD_cons_zero, List.getD_cons_succ, List.foldl_cons, List.foldl_nil, dstAt, List.getElem?_cons_zero, List.getElem?_cons_succ, Option.bind_some]
           go_frame
           rw [h38]
           go_wp2_with fail
           exact ⟨rfl, Below.refl _ _, rfl, rfl⟩
          | 44, _, hi =>
           obtain rfl := Option.some.inj hi
           have h38 : vs 38 = _ := hv 38 (by decide)
           simp only [relF, List.getD_cons_zero, List.getD_cons_succ, List.foldl_cons, List.foldl_nil, dstAt, List.getElem?_cons_zero, List.getElem?_cons_succ, Option.bind_some]
           go_frame
           rw [h38]
           go_wp2_with fail
           exact ⟨rfl, Below.refl _ _, rfl, rfl⟩
          | 45, _, hi =>
           obtain rfl := Option.some.inj hi
           have h38 : vs 38 = _ := hv 38 (by decide)
           simp only [relF, List.getD_cons_zero, List.getD_cons_succ, List.foldl_cons, List.foldl_nil, dstAt, List.getElem?_cons_zero, List.getElem?_cons_succ, Option.bind_some]
           go_frame
           rw [h38]
           go_wp2_with fail
           exact ⟨rfl, Below.refl _ _, rfl, rfl⟩
          | 46, _, hi =>
           obtain rfl := Option.some.inj hi
           have h38 : vs 38 = _ := hv 38 (by decide)
           have h44 : vs 44 = _ := hv 44 (by decide)
           have h45 : vs 45 = _ := hv 45 (by decide)
           simp only [relF, List.getD_cons_zero, List.getD_cons_succ, List.foldl_cons, List.foldl_nil, dstAt, List.getElem?_cons_zero, List.getElem?_cons_succ, Option.bind_some]
           go_frame
           rw [h38, h44, h45]
           go_wp2_with fail
           exact ⟨rfl, Below.refl _ _, rfl, rfl⟩
          | 47, _, hi =>
           obtain rfl := Option.some.inj hi
           have h38 : vs 38 = _ := hv 38 (by decide)
           have h46 : vs 46 = _ := hv 46 (by decide)
           have hcell := (HK2.out.below (Nat.le_refl _) b2).get HLI.out
           simp only [relF, List.getD_cons_zero, List.getD_cons_succ, List.foldl_cons, List.foldl_nil, dstAt, List.getElem?_cons_zero, List.getElem?_cons_succ, Option.bind_some]
           go_frame
           rw [h38, h46]
           go_wp2_with fail
           exact ⟨rfl, Below.refl _ _, rfl, rfl⟩
          | 48, _, hi =>
           obtain rfl := Option.some.inj hi
           have h38 : vs 38 = _ := hv 38 (by decide)
           simp only [relF, List.getD_cons_zero, List.getD_cons_succ, List.foldl_cons, List.foldl_nil, dstAt, List.getElem?_cons_zero, List.getElem?_cons_succ, Option.bind_some]
           go_frame
           rw [h38]
           go_wp2_with fail
           exact ⟨rfl, Below.refl _ _, rfl, rfl⟩
          | 49, _, hi =>
           obtain rfl := Option.some.inj hi
           have h38 : vs 38 = _ := hv 38 (by decide)
           have h39 : vs 39 = _ := hv 39 (by decide)
           have h42 : vs 42 = _ := hv 42 (by decide)
           have h43 : vs 43 = _ := hv 43 (by decide)
           have h47 : vs 47 = _ := hv 47 (by decide)
           have h48 : vs 48 = _ := hv 48 (by decide)
           simp only [relF, List.getD_cons_zero, List.getD_cons_succ, List.foldl_cons, List.foldl_nil, dstAt, List.getElem?_cons_zero, List.getElem?_cons_succ, Option.bind_some]
           go_frame
           rw [h38, h39, h42, h43, h47, h48]
           go_wp2_with fail
           refine (treeCheck_any w4 R HRL.out (mK + 1) i (by omega) (by omega) l (by omega) _ _ _ PR (HP2.out.below (Nat.le_refl _) b2) hL2).mono ?_
           rintro e w3 ⟨rfl, b3⟩
           go_wp2_with fail
           exact ⟨rfl, b3, rfl, rfl⟩
          | 50, _, hi =>
           obtain rfl := Option.some.inj hi
           have h38 : vs 38 = _ := hv 38 (by decide)
           simp only [relF, List.getD_cons_zero, List.getD_cons_succ, List.foldl_cons, List.foldl_nil, dstAt, List.getElem?_cons_zero, List.getElem?_cons_succ, Option.bind_some]
           go_frame
           rw [h38]
           go_wp2_with ((with_reducible show wpList _ _ _ (⟨some 132, _, _, _, _, _⟩ :: _) _ _); refine wpList_load_hash (op := ⟨some 132, _, _, _, _, _⟩) (by kernel_rfl) _ rfl v12.heap.size rfl R HRL.out _ _ ((b2.block _ (lt_of_block HX2.out)).trans HX2.out) ?_)
           exact ⟨rfl, Below.refl _ _, rfl, rfl⟩
          | 51, _, hi =>
           obtain rfl := Option.some.inj hi
           have h38 : vs 38 = _ := hv 38 (by decide)
           simp only [relF, List.getD_cons_zero, List.getD_cons_succ, List.foldl_cons, List.foldl_nil, dstAt, List.getElem?_cons_zero, List.getElem?_cons_succ, Option.bind_some]
           go_frame
           rw [h38]
           go_wp2_with fail
           exact ⟨rfl, Below.refl _ _, rfl, rfl⟩
          | 52, _, hi =>
           obtain rfl := Option.some.inj hi
           have h38 : vs 38 = _ := hv 38 (by decide)
           have h51 : vs 51 = _ := hv 51 (by decide)
           simp only [relF, List.getD_cons_zero, List.getD_cons_succ, List.foldl_cons, List.foldl_nil, dstAt, List.getElem?_cons_zero, List.getElem?_cons_succ, Option.bind_some]
           go_frame
           rw [h38, h51]
           go_wp2_with fail
           exact ⟨rfl, Below.refl _ _, rfl, rfl⟩
          | 53, _, hi =>
           obtain rfl := Option.some.inj hi
           have h38 : vs 38 = _ := hv 38 (by decide)
           have h52 : vs 52 = _ := hv 52 (by decide)
           simp only [relF, List.getD_cons_zero, List.getD_cons_succ, List.foldl_cons, List.foldl_nil, dstAt, List.getElem?_cons_zero, List.getElem?_cons_succ, Option.bind_some]
           go_frame
           rw [h38, h52]
           go_wp2_with fail
           exact ⟨rfl, Below.refl _ _, rfl, by first | rfl | (show slotOf _ _ = _; simp [slotOf]; done) | (show slotOf _ _ = _; simp [slotOf]; omega)⟩
          | 54, _, hi =>
           obtain rfl := Option.some.inj hi
           have h38 : vs 38 = _ := hv 38 (by decide)
           simp only [relF, List.getD_cons_zero, List.getD_cons_succ, List.foldl_cons, List.foldl_nil, dstAt, List.getElem?_cons_zero, List.getElem?_cons_succ, Option.bind_some]
           go_frame
           rw [h38]
           go_wp2_with fail
           exact ⟨rfl, Below.refl _ _, rfl, rfl⟩
          | 55, _, hi =>
           obtain rfl := Option.some.inj hi
           have h38 : vs 38 = _ := hv 38 (by decide)
           simp only [relF, List.getD_cons_zero, List.getD_cons_succ, List.foldl_cons, List.foldl_nil, dstAt, List.getElem?_cons_zero, List.getElem?_cons_succ, Option.bind_some]
           go_frame
           rw [h38]
           go_wp2_with fail
           exact ⟨rfl, Below.refl _ _, rfl, rfl⟩
          | 56, _, hi =>
           obtain rfl := Option.some.inj hi
           have h38 : vs 38 = _ := hv 38 (by decide)
           simp only [relF, List.getD_cons_zero, List.getD_cons_succ, List.foldl_cons, List.foldl_nil, dstAt, List.getElem?_cons_zero, List.getElem?_cons_succ, Option.bind_some]
           go_frame
           rw [h38]
           go_wp2_with fail
           exact ⟨rfl, Below.refl _ _, rfl, rfl⟩
          | 57, _, hi =>
           obtain rfl := Option.some.inj hi
           have h38 : vs 38 = _ := hv 38 (by decide)
           have h55 : vs 55 = _ := hv 55 (by decide)
           have h56 : vs 56 = _ := hv 56 (by decide)
           simp only [relF, List.getD_cons_zero, List.getD_cons_succ, List.foldl_cons, List.foldl_nil, dstAt, List.getElem?_cons_zero, List.getElem?_cons_succ, Option.bind_some]
           go_frame
           rw [h38, h55, h56]
           go_wp2_with fail
           exact ⟨rfl, Below.refl _ _, rfl, rfl⟩
          | 58, _, hi =>
           obtain rfl := Option.some.inj hi
           have h38 : vs 38 = _ := hv 38 (by decide)
           have h57 : vs 57 = _ := hv 57 (by decide)
           have hcell := (HK2.out.below (Nat.le_refl _) b2).get HLI.out
           simp only [relF, List.getD_cons_zero, List.getD_cons_succ, List.foldl_cons, List.foldl_nil, dstAt, List.getElem?_cons_zero, List.getElem?_cons_succ, Option.bind_some]
           go_frame
           rw [h38, h57]
           go_wp2_with fail
           exact ⟨rfl, Below.refl _ _, rfl, rfl⟩
          | 59, _, hi =>
           obtain rfl := Option.some.inj hi
           have h38 : vs 38 = _ := hv 38 (by decide)
           simp only [relF, List.getD_cons_zero, List.getD_cons_succ, List.foldl_cons, List.foldl_nil, dstAt, List.getElem?_cons_zero, List.getElem?_cons_succ, Option.bind_some]
           go_frame
           rw [h38]
           go_wp2_with fail
           exact ⟨rfl, Below.refl _ _, rfl, rfl⟩
          | 60, _, hi =>
           obtain rfl := Option.some.inj hi
           have h38 : vs 38 = _ := hv 38 (by decide)
           have h50 : vs 50 = _ := hv 50 (by decide)
           have h53 : vs 53 = _ := hv 53 (by decide)
           have h54 : vs 54 = _ := hv 54 (by decide)
           have h58 : vs 58 = _ := hv 58 (by decide)
           have h59 : vs 59 = _ := hv 59 (by decide)
           simp only [relF, List.getD_cons_zero, List.getD_cons_succ, List.foldl_cons, List.foldl_nil, dstAt, List.getElem?_cons_zero, List.getElem?_cons_succ, Option.bind_some]
           go_frame
           rw [h38, h50, h53, h54, h58, h59]
           go_wp2_with fail
           refine (refCheck_any w4 R HRL.out (mK + 1) i (by omega) (by omega) l (by omega) _ _ _ PR (HP2.out.below (Nat.le_refl _) b2)).mono ?_
           rintro e w3 ⟨rfl, b3⟩
           go_wp2_with fail
           exact ⟨rfl, b3, rfl, rfl⟩
          | 61, _, hi =>
           obtain rfl := Option.some.inj hi
           have h38 : vs 38 = _ := hv 38 (by decide)
           have h49 : vs 49 = _ := hv 49 (by decide)
           have h60 : vs 60 = _ := hv 60 (by decide)
           simp only [relF, List.getD_cons_zero, List.getD_cons_succ, List.foldl_cons, List.foldl_nil, dstAt, List.getElem?_cons_zero, List.getElem?_cons_succ, Option.bind_some]
           go_frame
           rw [h38, h49, h60]
           go_wp2_with fail
           exact ⟨rfl, Below.refl _ _, rfl, by first | rfl | (show slotOf _ _ = _; simp [slotOf])⟩
          | 62, _, hi =>
           obtain rfl := Option.some.inj hi
           have h38 : vs 38 = _ := hv 38 (by decide)
           have h61 : vs 61 = _ := hv 61 (by decide)
           simp only [relF, List.getD_cons_zero, List.getD_cons_succ, List.foldl_cons, List.foldl_nil, dstAt, List.getElem?_cons_zero, List.getElem?_cons_succ, Option.bind_some]
           go_frame
           rw [h38, h61]
           go_wp2_with fail
           exact ⟨rfl, Below.refl _ _, rfl, rfl⟩
          | 63, _, hi =>
           obtain rfl := Option.some.inj hi
           have h62 : vs 62 = _ := hv 62 (by decide)
           simp only [relF, List.getD_cons_zero, List.getD_cons_succ, List.foldl_cons, List.foldl_nil, dstAt, List.getElem?_cons_zero, List.getElem?_cons_succ, Option.bind_some]
           go_frame
           rw [h62]
           go_wp2_with fail
           exact ⟨rfl, Below.refl _ _, rfl, rfl⟩
          | nx + 64, him, _ => exact absurd him (by omega)
         ·
          intro w4 b2 vs hv
          have hL2 := HL2.out.below b2
          have h63 : vs 63 = _ := hv 63 (by decide)
          simp only [relF, List.drop_succ_cons, List.drop_zero, List.length_cons, List.length_nil, Nat.zero_add, Nat.reduceAdd, List.range, List.range.loop, List.foldl_cons, List.foldl_nil, dstAt, List.getElem?_cons_zero, List.getElem?_cons_succ, Option.bind_some]
          go_frame
          rw [h63]
          go_wp2_with fail
          go_ret
          exact ⟨rfl, B2.trans (b2.mono B2.size)⟩
        ·
         have HBD := Lib.hid hb; clear hb
         refine wp_region_rel [[], [], [1], [], [], [], [0, 2, 3, 4, 5], [], [], [8], [], [], [], [7, 9, 10, 11, 12], [6, 13], [14], [15], [15], [15, 17], [15], [15], [15], [15, 20, 21], [15, 22], [15], [15, 16, 18, 19, 23, 24], [15], [15], [15, 27], [15], [15], [15], [15, 30, 31], [15, 32], [15], [15, 26, 28, 29, 33, 34], [15, 25, 35], [15, 36], [37], [38], [38], [38, 40], [38, 41], [38], [38], [38], [38, 44, 45], [38, 46], [38], [38, 39, 42, 43, 47, 48], [38], [38], [38, 51], [38, 52], [38], [38], [38], [38, 55, 56], [38, 57], [38], [38, 50, 53, 54, 58, 59], [38, 49, 60], [38, 61], [62]] (tarA v12.heap.size bK oK mK cK c15 N i x (some ⟨bP, oP, none⟩) K PR R f l) 145 (by kernel_rfl) (by kernel_rfl) (by kernel_rfl) (tarA_mono v12.heap.size bK oK mK cK c15 N i x (some ⟨bP, oP, none⟩) K PR R f l) ?_ ?_
         ·
          intro ix op hi w4 b2 vs hv
          have him : ix < 64 := (List.getElem?_eq_some_iff.1 hi).1
          have hL2 := HL2.out.below b2
          match ix, him, hi with
          | 0, _, hi =>
           obtain rfl := Option.some.inj hi
           simp only [relF, List.getD_cons_zero, List.getD_cons_succ, List.foldl_cons, List.foldl_nil, dstAt, List.getElem?_cons_zero, List.getElem?_cons_succ, Option.bind_some]
           go_wp2_with ((with_reducible show wpList _ _ _ (⟨some 82, _, _, _, _, _⟩ :: _) _ _); refine wpList_load_hash (op := ⟨some 82, _, _, _, _, _⟩) (by kernel_rfl) _ rfl v12.heap.size rfl R HRL.out _ _ ((b2.block _ (lt_of_block HX2.out)).trans HX2.out) ?_)
           exact ⟨rfl, Below.refl _ _, rfl, rfl⟩
          | 1, _, hi =>
           obtain rfl := Option.some.inj hi
           simp only [relF, List.getD_cons_zero, List.getD_cons_succ, List.foldl_cons, List.foldl_nil, dstAt, List.getElem?_cons_zero, List.getElem?_cons_succ, Option.bind_some]
           go_wp2_with fail
           exact ⟨rfl, Below.refl _ _, rfl, rfl⟩
          | 2, _, hi =>
           obtain rfl := Option.some.inj hi
           have h1 : vs 1 = _ := hv 1 (by decide)
           simp only [relF, List.getD_cons_zero, List.getD_cons_succ, List.foldl_cons, List.foldl_nil, dstAt, List.getElem?_cons_zero, List.getElem?_cons_succ, Option.bind_some]
           go_frame
           rw [h1]
           go_wp2_with fail
           exact ⟨rfl, Below.refl _ _, rfl, rfl⟩
          | 3, _, hi =>
           obtain rfl := Option.some.inj hi
           simp only [relF, List.getD_cons_zero, List.getD_cons_succ, List.foldl_cons, List.foldl_nil, dstAt, List.getElem?_cons_zero, List.getElem?_cons_succ, Option.bind_some]
           go_wp2_with fail
           exact ⟨rfl, Below.refl _ _, rfl, rfl⟩
          | 4, _, hi =>
           obtain rfl := Option.some.inj hi
           simp only [relF, List.getD_cons_zero, List.getD_cons_succ, List.foldl_cons, List.foldl_nil, dstAt, List.getElem?_cons_zero, List.getElem?_cons_succ, Option.bind_some]
           go_wp2_with fail
           exact ⟨rfl, Below.refl _ _, rfl, rfl⟩
          | 5, _, hi =>
           obtain rfl := Option.some.inj hi
           simp only [relF, List.getD_cons_zero, List.getD_cons_succ, List.foldl_cons, List.foldl_nil, dstAt, List.getElem?_cons_zero, List.getElem?_cons_succ, Option.bind_some]
           go_wp2_with fail
           exact ⟨rfl, Below.refl _ _, rfl, rfl⟩
          | 6, _, hi =>
           obtain rfl := Option.some.inj hi
           have h0 : vs 0 = _ := hv 0 (by decide)
           have h2 : vs 2 = _ := hv 2 (by decide)
           have h3 : vs 3 = _ := hv 3 (by decide)
           have h4 : vs 4 = _ := hv 4 (by decide)
           have h5 : vs 5 = _ := hv 5 (by decide)
           simp only [relF, List.getD_cons_zero, List.getD_cons_succ, List.foldl_cons, List.foldl_nil, dstAt, List.getElem?_cons_zero, List.getElem?_cons_succ, Option.bind_some]
           go_frame
           rw [h0, h2, h3, h4, h5]
           go_wp2_with fail
           refine (treeCheck_any w4 R HRL.out mK i (by omega) (by omega) f (by omega) _ _ _ PR (HP2.out.below (Nat.le_refl _) b2) hL2).mono ?_
           rintro e w3 ⟨rfl, b3⟩
           go_wp2_with fail
           exact ⟨rfl, b3, rfl, rfl⟩
          | 7, _, hi =>
           obtain rfl := Option.some.inj hi
           simp only [relF, List.getD_cons_zero, List.getD_cons_succ, List.foldl_cons, List.foldl_nil, dstAt, List.getElem?_cons_zero, List.getElem?_cons_succ, Option.bind_some]
           go_wp2_with ((with_reducible show wpList _ _ _ (⟨some 89, _, _, _, _, _⟩ :: _) _ _); refine wpList_load_hash (op := ⟨some 89, _, _, _, _, _⟩) (by kernel_rfl) _ rfl v12.heap.size rfl R HRL.out _ _ ((b2.block _ (lt_of_block HX2.out)).trans HX2.out) ?_)
           exact ⟨rfl, Below.refl _ _, rfl, rfl⟩
          | 8, _, hi =>
           obtain rfl := Option.some.inj hi
           simp only [relF, List.getD_cons_zero, List.getD_cons_succ, List.foldl_cons, List.foldl_nil, dstAt, List.getElem?_cons_zero, List.getElem?_cons_succ, Option.bind_some]
           go_wp2_with fail
           exact ⟨rfl, Below.refl _ _, rfl, rfl⟩
          | 9, _, hi =>
           obtain rfl := Option.some.inj hi
           have h8 : vs 8 = _ := hv 8 (by decide)
           simp only [relF, List.getD_cons_zero, List.getD_cons_succ, List.foldl_cons, List.foldl_nil, dstAt, List.getElem?_cons_zero, List.getElem?_cons_succ, Option.bind_some]
           go_frame
           rw [h8]
           go_wp2_with fail
           exact ⟨rfl, Below.refl _ _, rfl, rfl⟩
          | 10, _, hi =>
           obtain rfl := Option.some.inj hi
           simp only [relF, List.getD_cons_zero, List.getD_cons_succ, List.foldl_cons, List.foldl_nil, dstAt, List.getElem?_cons_zero, List.getElem?_cons_succ, Option.bind_some]
           go_wp2_with fail
           exact ⟨rfl, Below.refl _ _, rfl, rfl⟩
          | 11, _, hi =>
           obtain rfl := Option.some.inj hi
           simp only [relF, List.getD_cons_zero, List.getD_cons_succ, List.foldl_cons, List.foldl_nil, dstAt, List.getElem?_cons_zero, List.getElem?_cons_succ, Option.bind_some]
           go_wp2_with fail
           exact ⟨rfl, Below.refl _ _, rfl, rfl⟩
          | 12, _, hi =>
           obtain rfl := Option.some.inj hi
           simp only [relF, List.getD_cons_zero, List.getD_cons_succ, List.foldl_cons, List.foldl_nil, dstAt, List.getElem?_cons_zero, List.getElem?_cons_succ, Option.bind_some]
           go_wp2_with fail
           exact ⟨rfl, Below.refl _ _, rfl, rfl⟩
          | 13, _, hi =>
           obtain rfl := Option.some.inj hi
           have h7 : vs 7 = _ := hv 7 (by decide)
           have h9 : vs 9 = _ := hv 9 (by decide)
           have h10 : vs 10 = _ := hv 10 (by decide)
           have h11 : vs 11 = _ := hv 11 (by decide)
           have h12 : vs 12 = _ := hv 12 (by decide)
           simp only [relF, List.getD_cons_zero, List.getD_cons_succ, List.foldl_cons, List.foldl_nil, dstAt, List.getElem?_cons_zero, List.getElem?_cons_succ, Option.bind_some]
           go_frame
           rw [h7, h9, h10, h11, h12]
           go_wp2_with fail
           refine (refCheck_any w4 R HRL.out mK i (by omega) (by omega) f (by omega) _ _ _ PR (HP2.out.below (Nat.le_refl _) b2)).mono ?_
           rintro e w3 ⟨rfl, b3⟩
           go_wp2_with fail
           exact ⟨rfl, b3, rfl, rfl⟩
          | 14, _, hi =>
           obtain rfl := Option.some.inj hi
           have h6 : vs 6 = _ := hv 6 (by decide)
           have h13 : vs 13 = _ := hv 13 (by decide)
           simp only [relF, List.getD_cons_zero, List.getD_cons_succ, List.foldl_cons, List.foldl_nil, dstAt, List.getElem?_cons_zero, List.getElem?_cons_succ, Option.bind_some]
           go_frame
           rw [h6, h13]
           go_wp2_with fail
           exact ⟨rfl, Below.refl _ _, rfl, by first | rfl | (show slotOf _ _ = _; simp [slotOf])⟩
          | 15, _, hi =>
           obtain rfl := Option.some.inj hi
           have h14 : vs 14 = _ := hv 14 (by decide)
           simp only [relF, List.getD_cons_zero, List.getD_cons_succ, List.foldl_cons, List.foldl_nil, dstAt, List.getElem?_cons_zero, List.getElem?_cons_succ, Option.bind_some]
           go_frame
           rw [h14]
           go_wp2_with fail
           exact ⟨rfl, Below.refl _ _, rfl, rfl⟩
          | 16, _, hi =>
           obtain rfl := Option.some.inj hi
           have h15 : vs 15 = _ := hv 15 (by decide)
           simp only [relF, List.getD_cons_zero, List.getD_cons_succ, List.foldl_cons, List.foldl_nil, dstAt, List.getElem?_cons_zero, List.getElem?_cons_succ, Option.bind_some]
           go_frame
           rw [h15]
           go_wp2_with ((with_reducible show wpList _ _ _ (⟨some 98, _, _, _, _, _⟩ :: _) _ _); refine wpList_load_hash (op := ⟨some 98, _, _, _, _, _⟩) (by kernel_rfl) _ rfl v12.heap.size rfl R HRL.out _ _ ((b2.block _ (lt_of_block HX2.out)).trans HX2.out) ?_)
           exact ⟨rfl, Below.refl _ _, rfl, rfl⟩
          | 17, _, hi =>
           obtain rfl := Option.some.inj hi
           have h15 : vs 15 = _ := hv 15 (by decide)
           simp only [relF, List.getD_cons_zero, List.getD_cons_succ, List.foldl_cons, List.foldl_nil, dstAt, List.getElem?_cons_zero, List.getElem?_cons_succ, Option.bind_some]
           go_frame
           rw [h15]
           go_wp2_with fail
           exact ⟨rfl, Below.refl _ _, rfl, rfl⟩
          | 18, _, hi =>
           obtain rfl := Option.some.inj hi
           have h15 : vs 15 = _ := hv 15 (by decide)
           have h17 : vs 17 = _ := hv 17 (by decide)
           simp only [relF, List.getD_cons_zero, List.getD_cons_succ, List.foldl_cons, List.foldl_nil, dstAt, List.getElem?_cons_zero, List.getElem?_cons_succ, Option.bind_some]
           go_frame
           rw [h15, h17]
           go_wp2_with fail
           exact ⟨rfl, Below.refl _ _, rfl, rfl⟩
          | 19, _, hi =>
           obtain rfl := Option.some.inj hi
           have h15 : vs 15 = _ := hv 15 (by decide)
           simp only [relF, List.getD_cons_zero, List.getD_cons_succ, List.foldl_cons, List.foldl_nil, dstAt, List.getElem?_cons_zero, List.getElem?_cons_succ, Option.bind_some]
           go_frame
           rw [h15]
           go_wp2_with fail
           exact ⟨rfl, Below.refl _ _, rfl, rfl⟩
          | 20, _, hi =>
           obtain rfl := Option.some.inj hi
           have h15 : vs 15 = _ := hv 15 (by decide)
           simp only [relF, List.getD_cons_zero, List.getD_cons_succ, List.foldl_cons, List.foldl_nil, dstAt, List.getElem?_cons_zero, List.getElem?_cons_succ, Option.bind_some]
           go_frame
           rw [h15]
           go_wp2_with fail
           exact ⟨rfl, Below.refl _ _, rfl, rfl⟩
          | 21, _, hi =>
           obtain rfl := Option.some.inj hi
           have h15 : vs 15 = _ := hv 15 (by decide)
           simp only [relF, List.getD_cons_zero, List.getD_cons_succ, List.foldl_cons, List.foldl_nil, dstAt, List.getElem?_cons_zero, List.getElem?_cons_succ, Option.bind_some]
           go_frame
           rw [h15]
           go_wp2_with fail
           exact ⟨rfl, Below.refl _ _, rfl, rfl⟩
          | 22, _, hi =>
           obtain rfl := Option.some.inj hi
           have h15 : vs 15 = _ := hv 15 (by decide)
           have h20 : vs 20 = _ := hv 20 (by decide)
           have h21 : vs 21 = _ := hv 21 (by decide)
           simp only [relF, List.getD_cons_zero, List.getD_cons_succ, List.foldl_cons, List.foldl_nil, dstAt, List.getElem?_cons_zero, List.getElem?_cons_succ, Option.bind_some]
           go_frame
           rw [h15, h20, h21]
           go_wp2_with fail
           exact ⟨rfl, Below.refl _ _, rfl, rfl⟩
          | 23, _, hi =>
           obtain rfl := Option.some.inj hi
           have h15 : vs 15 = _ := hv 15 (by decide)
           have h22 : vs 22 = _ := hv 22 (by decide)
           have hcell := (HK2.out.below (Nat.le_refl _) b2).get HLI.out
           simp only [relF, List.getD_cons_zero, List.getD_cons_succ, List.foldl_cons, List.foldl_nil, dstAt, List.getElem?_cons_zero, List.getElem?_cons_succ, Option.bind_some]
           go_frame
           rw [h15, h22]
           go_wp2_with fail
           exact ⟨rfl, Below.refl _ _, rfl, rfl⟩
          | 24, _, hi =>
           obtain rfl := Option.some.inj hi
           have h15 : vs 15 = _ := hv 15 (by decide)
           simp only [relF, List.getD_cons_zero, List.getD_cons_succ, List.foldl_cons, List.foldl_nil, dstAt, List.getElem?_cons_zero, List.getElem?_cons_succ, Option.bind_some]
           go_frame
           rw [h15]
           go_wp2_with fail
           exact ⟨rfl, Below.refl _ _, rfl, rfl⟩
          | 25, _, hi =>
           obtain rfl := Option.some.inj hi
           have h15 : vs 15 = _ := hv 15 (by decide)
           have h16 : vs 16 = _ := hv 16 (by decide)
           have h18 : vs 18 = _ := hv 18 (by decide)
           have h19 : vs 19 = _ := hv 19 (by decide)
           have h23 : vs 23 = _ := hv 23 (by decide)
           have h24 : vs 24 = _ := hv 24 (by decide)
           simp only [relF, List.getD_cons_zero, List.getD_cons_succ, List.foldl_cons, List.foldl_nil, dstAt, List.getElem?_cons_zero, List.getElem?_cons_succ, Option.bind_some]
           go_frame
           rw [h15, h16, h18, h19, h23, h24]
           go_wp2_with fail
           refine (treeCheck_bad w4 R HRL.out _ _ HBD.out _ _ _ _).mono ?_
           rintro e w3 ⟨rfl, b3⟩
           go_wp2_with fail
           exact ⟨rfl, b3, rfl, rfl⟩
          | 26, _, hi =>
           obtain rfl := Option.some.inj hi
           have h15 : vs 15 = _ := hv 15 (by decide)
           simp only [relF, List.getD_cons_zero, List.getD_cons_succ, List.foldl_cons, List.foldl_nil, dstAt, List.getElem?_cons_zero, List.getElem?_cons_succ, Option.bind_some]
           go_frame
           rw [h15]
           go_wp2_with ((with_reducible show wpList _ _ _ (⟨some 108, _, _, _, _, _⟩ :: _) _ _); refine wpList_load_hash (op := ⟨some 108, _, _, _, _, _⟩) (by kernel_rfl) _ rfl v12.heap.size rfl R HRL.out _ _ ((b2.block _ (lt_of_block HX2.out)).trans HX2.out) ?_)
           exact ⟨rfl, Below.refl _ _, rfl, rfl⟩
          | 27, _, hi =>
           obtain rfl := Option.some.inj hi
           have h15 : vs 15 = _ := hv 15 (by decide)
           simp only [relF, List.getD_cons_zero, List.getD_cons_succ, List.foldl_cons, List.foldl_nil, dstAt, List.getElem?_cons_zero, List.getElem?_cons_succ, Option.bind_some]
           go_frame
           rw [h15]
           go_wp2_with fail
           exact ⟨rfl, Below.refl _ _, rfl, rfl⟩
          | 28, _, hi =>
           obtain rfl := Option.some.inj hi
           have h15 : vs 15 = _ := hv 15 (by decide)
           have h27 : vs 27 = _ := hv 27 (by decide)
           simp only [relF, List.getD_cons_zero, List.getD_cons_succ, List.foldl_cons, List.foldl_nil, dstAt, List.getElem?_cons_zero, List.getElem?_cons_succ, Option.bind_some]
           go_frame
           rw [h15, h27]
           go_wp2_with fail
           exact ⟨rfl, Below.refl _ _, rfl, rfl⟩
          | 29, _, hi =>
           obtain rfl := Option.some.inj hi
           have h15 : vs 15 = _ := hv 15 (by decide)
           simp only [relF, List.getD_cons_zero, List.getD_cons_succ, List.foldl_cons, List.foldl_nil, dstAt, List.getElem?_cons_zero, List.getElem?_cons_succ, Option.bind_some]
           go_frame
           rw [h15]
           go_wp2_with fail
           exact ⟨rfl, Below.refl _ _, rfl, rfl⟩
          | 30, _, hi =>
           obtain rfl := Option.some.inj hi
           have h15 : vs 15 = _ := hv 15 (by decide)
           simp only [relF, List.getD_cons_zero, List.getD_cons_succ, List.foldl_cons, List.foldl_nil, dstAt, List.getElem?_cons_zero, List.getElem?_cons_succ, Option.bind_some]
           go_frame
           rw [h15]
           go_wp2_with fail
           exact ⟨rfl, Below.refl _ _, rfl, rfl⟩
          | 31, _, hi =>
           obtain rfl := Option.some.inj hi
           have h15 : vs 15 = _ := hv 15 (by decide)
           simp only [relF, List.getD_cons_zero, List.getD_cons_succ, List.foldl_cons, List.foldl_nil, dstAt, List.getElem?_cons_zero, List.getElem?_cons_succ, Option.bind_some]
           go_frame
           rw [h15]
           go_wp2_with fail
           exact ⟨rfl, Below.refl _ _, rfl, rfl⟩
          | 32, _, hi =>
           obtain rfl := Option.some.inj hi
           have h15 : vs 15 = _ := hv 15 (by decide)
           have h30 : vs 30 = _ := hv 30 (by decide)
           have h31 : vs 31 = _ := hv 31 (by decide)
           simp only [relF, List.getD_cons_zero, List.getD_cons_succ, List.foldl_cons, List.foldl_nil, dstAt, List.getElem?_cons_zero, List.getElem?_cons_succ, Option.bind_some]
           go_frame
           rw [h15, h30, h31]
           go_wp2_with fail
           exact ⟨rfl, Below.refl _ _, rfl, rfl⟩
          | 33, _, hi =>
           obtain rfl := Option.some.inj hi
           have h15 : vs 15 = _ := hv 15 (by decide)
           have h32 : vs 32 = _ := hv 32 (by decide)
           have hcell := (HK2.out.below (Nat.le_refl _) b2).get HLI.out
           simp only [relF, List.getD_cons_zero, List.getD_cons_succ, List.foldl_cons, List.foldl_nil, dstAt, List.getElem?_cons_zero, List.getElem?_cons_succ, Option.bind_some]
           go_frame
           rw [h15, h32]
           go_wp2_with fail
           exact ⟨rfl, Below.refl _ _, rfl, rfl⟩
          | 34, _, hi =>
           obtain rfl := Option.some.inj hi
           have h15 : vs 15 = _ := hv 15 (by decide)
           simp only [relF, List.getD_cons_zero, List.getD_cons_succ, List.foldl_cons, List.foldl_nil, dstAt, List.getElem?_cons_zero, List.getElem?_cons_succ, Option.bind_some]
           go_frame
           rw [h15]
           go_wp2_with fail
           exact ⟨rfl, Below.refl _ _, rfl, rfl⟩
          | 35, _, hi =>
           obtain rfl := Option.some.inj hi
           have h15 : vs 15 = _ := hv 15 (by decide)
           have h26 : vs 26 = _ := hv 26 (by decide)
           have h28 : vs 28 = _ := hv 28 (by decide)
           have h29 : vs 29 = _ := hv 29 (by decide)
           have h33 : vs 33 = _ := hv 33 (by decide)
           have h34 : vs 34 = _ := hv 34 (by decide)
           simp only [relF, List.getD_cons_zero, List.getD_cons_succ, List.foldl_cons, List.foldl_nil, dstAt, List.getElem?_cons_zero, List.getElem?_cons_succ, Option.bind_some]
           go_frame
           rw [h15, h26, h28, h29, h33, h34]
           go_wp2_with fail
           refine (refCheck_bad w4 R _ _ HBD.out _ _ _ _).mono ?_
           rintro e w3 ⟨rfl, b3⟩
           go_wp2_with fail
           exact ⟨rfl, b3, rfl, rfl⟩
          | 36, _, hi =>
           obtain rfl := Option.some.inj hi
           have h15 : vs 15 = _ := hv 15 (by decide)
           have h25 : vs 25 = _ := hv 25 (by decide)
           have h35 : vs 35 = _ := hv 35 (by decide)
           simp only [relF, List.getD_cons_zero, List.getD_cons_succ, List.foldl_cons, List.foldl_nil, dstAt, List.getElem?_cons_zero, List.getElem?_cons_succ, Option.bind_some]
           go_frame
           rw [h15, h25, h35]
           go_wp2_with fail
           exact ⟨rfl, Below.refl _ _, rfl, by first | rfl | (show slotOf _ _ = _; simp [slotOf])⟩
          | 37, _, hi =>
           obtain rfl := Option.some.inj hi
           have h15 : vs 15 = _ := hv 15 (by decide)
           have h36 : vs 36 = _ := hv 36 (by decide)
           simp only [relF, List.getD_cons_zero, List.getD_cons_succ, List.foldl_cons, List.foldl_nil, dstAt, List.getElem?_cons_zero, List.getElem?_cons_succ, Option.bind_some]
           go_frame
           rw [h15, h36]
           go_wp2_with fail
           exact ⟨rfl, Below.refl _ _, rfl, rfl⟩
          | 38, _, hi =>
           obtain rfl := Option.some.inj hi
           have h37 : vs 37 = _ := hv 37 (by decide)
           simp only [relF, List.getD_cons_zero, List.getD_cons_succ, List.foldl_cons, List.foldl_nil, dstAt, List.getElem?_cons_zero, List.getElem?_cons_succ, Option.bind_some]
           go_frame
           rw [h37]
           go_wp2_with fail
           exact ⟨rfl, Below.refl _ _, rfl, rfl⟩
          | 39, _, hi =>
           obtain rfl := Option.some.inj hi
           have h38 : vs 38 = _ := hv 38 (by decide)
           simp only [relF, List.getD_cons_zero, List.getD_cons_succ, List.foldl_cons, List.foldl_nil, dstAt, List.getElem?_cons_zero, List.getElem?_cons_succ, Option.bind_some]
           go_frame
           rw [h38]
           go_wp2_with ((with_reducible show wpList _ _ _ (⟨some 121, _, _, _, _, _⟩ :: _) _ _); refine wpList_load_hash (op := ⟨some 121, _, _, _, _, _⟩) (by kernel_rfl) _ rfl v12.heap.size rfl R HRL.out _ _ ((b2.block _ (lt_of_block HX2.out)).trans HX2.out) ?_)
           exact ⟨rfl, Below.refl _ _, rfl, rfl⟩
          | 40, _, hi =>
           obtain rfl := Option.some.inj hi
           have h38 : vs 38 = _ := hv 38 (by decide)
           simp only [relF, List.getD_cons_zero, List.getD_cons_succ, List.foldl_cons, List.foldl_nil, dstAt, List.getElem?_cons_zero, List.getElem?_cons_succ, Option.bind_some]
           go_frame
           rw [h38]
           go_wp2_with fail
           exact ⟨rfl, Below.refl _ _, rfl, rfl⟩
          | 41, _, hi =>
           obtain rfl := Option.some.inj hi
           have h38 : vs 38 = _ := hv 38 (by decide)
           have h40 : vs 40 = _ := hv 40 (by decide)
           simp only [relF, List.getD_cons_zero, List.getD_cons_succ, List.foldl_cons, List.foldl_nil, dstAt, List.getElem?_cons_zero, List.getElem?_cons_succ, Option.bind_some]
           go_frame
           rw [h38, h40]
           go_wp2_with fail
           exact ⟨rfl, Below.refl _ _, rfl, rfl⟩
          | 42, _, hi =>
           obtain rfl := Option.some.inj hi
           have h38 : vs 38 = _ := hv 38 (by decide)
           have h41 : vs 41 = _ := hv 41 (by decide)
           simp only [relF, List.getD_cons_zero, List.getD_cons_succ, List.foldl_cons, List.foldl_nil, dstAt, List.getElem?_cons_zero, List.getElem?_cons_succ, Option.bind_some]
           go_frame
           rw [h38, h41]
           go_wp2_with fail
           exact ⟨rfl, Below.refl _ _, rfl, by first | rfl | (show slotOf _ _ = _; simp [slotOf]; done) | (show slotOf _ _ = _; simp [slotOf]; omega)⟩
          | 43, _, hi =>
           obtain rfl := Option.some.inj hi
           have h38 : vs 38 = _ := hv 38 (by decide)
           simp only [relF, List.getD_cons_zero, List.getD_cons_succ, List.foldl_cons, List.foldl_nil, dstAt, List.getElem?_cons_zero, List.getElem?_cons_succ, Option.bind_some]
           go_frame
           rw [h38]
           go_wp2_with fail
           exact ⟨rfl, Below.refl _ _, rfl, rfl⟩
          | 44, _, hi =>
           obtain rfl := Option.some.inj hi
           have h38 : vs 38 = _ := hv 38 (by decide)
           simp only [relF, List.getD_cons_zero, List.getD_cons_succ, List.foldl_cons, List.foldl_nil, dstAt, List.getElem?_cons_zero, List.getElem?_cons_succ, Option.bind_some]
           go_frame
           rw [h38]
           go_wp2_with fail
           exact ⟨rfl, Below.refl _ _, rfl, rfl⟩
          | 45, _, hi =>
           obtain rfl := Option.some.inj hi
           have h38 : vs 38 = _ := hv 38 (by decide)
           simp only [relF, List.getD_cons_zero, List.getD_cons_succ, List.foldl_cons, List.foldl_nil, dstAt, List.getElem?_cons_zero, List.getElem?_cons_succ, Option.bind_some]
           go_frame
           rw [h38]
           go_wp2_with fail
           exact ⟨rfl, Below.refl _ _, rfl, rfl⟩
          | 46, _, hi =>
           obtain rfl := Option.some.inj hi
           have h38 : vs 38 = _ := hv 38 (by decide)
           have h44 : vs 44 = _ := hv 44 (by decide)
           have h45 : vs 45 = _ := hv 45 (by decide)
           simp only [relF, List.getD_cons_zero, List.getD_cons_succ, List.foldl_cons, List.foldl_nil, dstAt, List.getElem?_cons_zero, List.getElem?_cons_succ, Option.bind_some]
           go_frame
           rw [h38, h44, h45]
           go_wp2_with fail
           exact ⟨rfl, Below.refl _ _, rfl, rfl⟩
          | 47, _, hi =>
           obtain rfl := Option.some.inj hi
           have h38 : vs 38 = _ := hv 38 (by decide)
           have h46 : vs 46 = _ := hv 46 (by decide)
           have hcell := (HK2.out.below (Nat.le_refl _) b2).get HLI.out
           simp only [relF, List.getD_cons_zero, List.getD_cons_succ, List.foldl_cons, List.foldl_nil, dstAt, List.getElem?_cons_zero, List.getElem?_cons_succ, Option.bind_some]
           go_frame
           rw [h38, h46]
           go_wp2_with fail
           exact ⟨rfl, Below.refl _ _, rfl, rfl⟩
          | 48, _, hi =>
           obtain rfl := Option.some.inj hi
           have h38 : vs 38 = _ := hv 38 (by decide)
           simp only [relF, List.getD_cons_zero, List.getD_cons_succ, List.foldl_cons, List.foldl_nil, dstAt, List.getElem?_cons_zero, List.getElem?_cons_succ, Option.bind_some]
           go_frame
           rw [h38]
           go_wp2_with fail
           exact ⟨rfl, Below.refl _ _, rfl, rfl⟩
          | 49, _, hi =>
           obtain rfl := Option.some.inj hi
           have h38 : vs 38 = _ := hv 38 (by decide)
           have h39 : vs 39 = _ := hv 39 (by decide)
           have h42 : vs 42 = _ := hv 42 (by decide)
           have h43 : vs 43 = _ := hv 43 (by decide)
           have h47 : vs 47 = _ := hv 47 (by decide)
           have h48 : vs 48 = _ := hv 48 (by decide)
           simp only [relF, List.getD_cons_zero, List.getD_cons_succ, List.foldl_cons, List.foldl_nil, dstAt, List.getElem?_cons_zero, List.getElem?_cons_succ, Option.bind_some]
           go_frame
           rw [h38, h39, h42, h43, h47, h48]
           go_wp2_with fail
           refine (treeCheck_any w4 R HRL.out (mK + 1) i (by omega) (by omega) l (by omega) _ _ _ PR (HP2.out.below (Nat.le_refl _) b2) hL2).mono ?_
           rintro e w3 ⟨rfl, b3⟩
           go_wp2_with fail
           exact ⟨rfl, b3, rfl, rfl⟩
          | 50, _, hi =>
           obtain rfl := Option.some.inj hi
           have h38 : vs 38 = _ := hv 38 (by decide)
           simp only [relF, List.getD_cons_zero, List.getD_cons_succ, List.foldl_cons, List.foldl_nil, dstAt, List.getElem?_cons_zero, List.getElem?_cons_succ, Option.bind_some]
           go_frame
           rw [h38]
           go_wp2_with ((with_reducible show wpList _ _ _ (⟨some 132, _, _, _, _, _⟩ :: _) _ _); refine wpList_load_hash (op := ⟨some 132, _, _, _, _, _⟩) (by kernel_rfl) _ rfl v12.heap.size rfl R HRL.out _ _ ((b2.block _ (lt_of_block HX2.out)).trans HX2.out) ?_)
           exact ⟨rfl, Below.refl _ _, rfl, rfl⟩
          | 51, _, hi =>
           obtain rfl := Option.some.inj hi
           have h38 : vs 38 = _ := hv 38 (by decide)
           simp only [relF, List.getD_cons_zero, List.getD_cons_succ, List.foldl_cons, List.foldl_nil, dstAt, List.getElem?_cons_zero, List.getElem?_cons_succ, Option.bind_some]
           go_frame
           rw [h38]
           go_wp2_with fail
           exact ⟨rfl, Below.refl _ _, rfl, rfl⟩
          | 52, _, hi =>
           obtain rfl := Option.some.inj hi
           have h38 : vs 38 = _ := hv 38 (by decide)
           have h51 : vs 51 = _ := hv 51 (by decide)
           simp only [relF, List.getD_cons_zero, List.getD_cons_succ, List.foldl_cons, List.foldl_nil, dstAt, List.getElem?_cons_zero, List.getElem?_cons_succ, Option.bind_some]
           go_frame
           rw [h38, h51]
           go_wp2_with fail
           exact ⟨rfl, Below.refl _ _, rfl, rfl⟩
          | 53, _, hi =>
           obtain rfl := Option.some.inj hi
           have h38 : vs 38 = _ := hv 38 (by decide)
           have h52 : vs 52 = _ := hv 52 (by decide)
           simp only [relF, List.getD_cons_zero, List.getD_cons_succ, List.foldl_cons, List.foldl_nil, dstAt, List.getElem?_cons_zero, List.getElem?_cons_succ, Option.bind_some]
           go_frame
           rw [h38, h52]
           go_wp2_with fail
           exact ⟨rfl, Below.refl _ _, rfl, by first | rfl | (show slotOf _ _ = _; simp [slotOf]; done) | (show slotOf _ _ = _; simp [slotOf]; omega)⟩
          | 54, _, hi =>
           obtain rfl := Option.some.inj hi
           have h38 : vs 38 = _ := hv 38 (by decide)
           simp only [relF, List.getD_cons_zero, List.getD_cons_succ, List.foldl_cons, List.foldl_nil, dstAt, List.getElem?_cons_zero, List.getElem?_cons_succ, Option.bind_some]
           go_frame
           rw [h38]
           go_wp2_with fail
           exact ⟨rfl, Below.refl _ _, rfl, rfl⟩
          | 55, _, hi =>
           obtain rfl := Option.some.inj hi
           have h38 : vs 38 = _ := hv 38 (by decide)
           simp only [relF, List.getD_cons_zero, List.getD_cons_succ, List.foldl_cons, List.foldl_nil, dstAt, List.getElem?_cons_zero, List.getElem?_cons_succ, Option.bind_some]
           go_frame
           rw [h38]
           go_wp2_with fail
           exact ⟨rfl, Below.refl _ _, rfl, rfl⟩
          | 56, _, hi =>
           obtain rfl := Option.some.inj hi
           have h38 : vs 38 = _ := hv 38 (by decide)
           simp only [relF, List.getD_cons_zero, List.getD_cons_succ, List.foldl_cons, List.foldl_nil, dstAt, List.getElem?_cons_zero, List.getElem?_cons_succ, Option.bind_some]
           go_frame
           rw [h38]
           go_wp2_with fail
           exact ⟨rfl, Below.refl _ _, rfl, rfl⟩
          | 57, _, hi =>
           obtain rfl := Option.some.inj hi
           have h38 : vs 38 = _ := hv 38 (by decide)
           have h55 : vs 55 = _ := hv 55 (by decide)
           have h56 : vs 56 = _ := hv 56 (by decide)
           simp only [relF, List.getD_cons_zero, List.getD_cons_succ, List.foldl_cons, List.foldl_nil, dstAt, List.getElem?_cons_zero, List.getElem?_cons_succ, Option.bind_some]
           go_frame
           rw [h38, h55, h56]
           go_wp2_with fail
           exact ⟨rfl, Below.refl _ _, rfl, rfl⟩
          | 58, _, hi =>
           obtain rfl := Option.some.inj hi
           have h38 : vs 38 = _ := hv 38 (by decide)
           have h57 : vs 57 = _ := hv 57 (by decide)
           have hcell := (HK2.out.below (Nat.le_refl _) b2).get HLI.out
           simp only [relF, List.getD_cons_zero, List.getD_cons_succ, List.foldl_cons, List.foldl_nil, dstAt, List.getElem?_cons_zero, List.getElem?_cons_succ, Option.bind_some]
           go_frame
           rw [h38, h57]
           go_wp2_with fail
           exact ⟨rfl, Below.refl _ _, rfl, rfl⟩
          | 59, _, hi =>
           obtain rfl := Option.some.inj hi
           have h38 : vs 38 = _ := hv 38 (by decide)
           simp only [relF, List.getD_cons_zero, List.getD_cons_succ, List.foldl_cons, List.foldl_nil, dstAt, List.getElem?_cons_zero, List.getElem?_cons_succ, Option.bind_some]
           go_frame
           rw [h38]
           go_wp2_with fail
           exact ⟨rfl, Below.refl _ _, rfl, rfl⟩
          | 60, _, hi =>
           obtain rfl := Option.some.inj hi
           have h38 : vs 38 = _ := hv 38 (by decide)
           have h50 : vs 50 = _ := hv 50 (by decide)
           have h53 : vs 53 = _ := hv 53 (by decide)
           have h54 : vs 54 = _ := hv 54 (by decide)
           have h58 : vs 58 = _ := hv 58 (by decide)
           have h59 : vs 59 = _ := hv 59 (by decide)
           simp only [relF, List.getD_cons_zero, List.getD_cons_succ, List.foldl_cons, List.foldl_nil, dstAt, List.getElem?_cons_zero, List.getElem?_cons_succ, Option.bind_some]
           go_frame
           rw [h38, h50, h53, h54, h58, h59]
           go_wp2_with fail
           refine (refCheck_any w4 R HRL.out (mK + 1) i (by omega) (by omega) l (by omega) _ _ _ PR (HP2.out.below (Nat.le_refl _) b2)).mono ?_
           rintro e w3 ⟨rfl, b3⟩
           go_wp2_with fail
           exact ⟨rfl, b3, rfl, rfl⟩
          | 61, _, hi =>
           obtain rfl := Option.some.inj hi
           have h38 : vs 38 = _ := hv 38 (by decide)
           have h49 : vs 49 = _ := hv 49 (by decide)
           have h60 : vs 60 = _ := hv 60 (by decide)
           simp only [relF, List.getD_cons_zero, List.getD_cons_succ, List.foldl_cons, List.foldl_nil, dstAt, List.getElem?_cons_zero, List.getElem?_cons_succ, Option.bind_some]
           go_frame
           rw [h38, h49, h60]
           go_wp2_with fail
           exact ⟨rfl, Below.refl _ _, rfl, by first | rfl | (show slotOf _ _ = _; simp [slotOf])⟩
          | 62, _, hi =>
           obtain rfl := Option.some.inj hi
           have h38 : vs 38 = _ := hv 38 (by decide)
           have h61 : vs 61 = _ := hv 61 (by decide)
           simp only [relF, List.getD_cons_zero, List.getD_cons_succ, List.foldl_cons, List.foldl_nil, dstAt, List.getElem?_cons_zero, List.getElem?_cons_succ, Option.bind_some]
           go_frame
           rw [h38, h61]
           go_wp2_with fail
           exact ⟨rfl, Below.refl _ _, rfl, rfl⟩
          | 63, _, hi =>
           obtain rfl := Option.some.inj hi
           have h62 : vs 62 = _ := hv 62 (by decide)
           simp only [relF, List.getD_cons_zero, List.getD_cons_succ, List.foldl_cons, List.foldl_nil, dstAt, List.getElem?_cons_zero, List.getElem?_cons_succ, Option.bind_some]
           go_frame
           rw [h62]
           go_wp2_with fail
           exact ⟨rfl, Below.refl _ _, rfl, rfl⟩
          | nx + 64, him, _ => exact absurd him (by omega)
         ·
          intro w4 b2 vs hv
          have hL2 := HL2.out.below b2
          have h63 : vs 63 = _ := hv 63 (by decide)
          simp only [relF, List.drop_succ_cons, List.drop_zero, List.length_cons, List.length_nil, Nat.zero_add, Nat.reduceAdd, List.range, List.range.loop, List.foldl_cons, List.foldl_nil, dstAt, List.getElem?_cons_zero, List.getElem?_cons_succ, Option.bind_some]
          go_frame
          rw [h63]
          go_wp2_with fail
          go_ret
          exact ⟨rfl, B2.trans (b2.mono B2.size)⟩
      ·
       obtain rfl : N = 1 := by omega
       obtain rfl : c15 = 1 := by omega
       have hdr : HashesAt v15 (some ⟨bP, oP, none⟩) 0 0 (PR.drop 1) := ⟨⟨by rw [List.length_drop]; omega, Nat.le_refl _, by decide, fun h => absurd h (by decide)⟩, fun q hq => HP32.out q (List.mem_of_mem_drop hq)⟩
       have HD := Lib.hid hdr; clear hdr
       clear hN
       refine wp_region_relR [[], [0], [1], [2], [3], [3], [3, 5], [3], [3], [3], [3, 8, 9], [3, 10], [3], [3, 12], [3, 4, 6, 7, 11, 13], [3, 14], [15], [16], [16], [16, 18], [16], [16], [16], [16, 21, 22], [16, 23], [16], [16], [16, 25, 26], [16], [16, 28], [16, 27, 29], [16, 17, 19, 20, 24, 30], [16, 31]] (tapB v15.heap.size v12.heap.size bK oK mK cK 1 1 i bP oP K PR R f l) (apR v15.heap.size R PR) 145 (by kernel_rfl) (by kernel_rfl) (by kernel_rfl) (fun i w w' h1 h2 => apR_below i w w' h1 h2) (tapB_keep v15.heap.size v12.heap.size bK oK mK cK 1 1 i bP oP K PR R f l) ?_ ?_
       ·
        intro ix op hi w2 b2 vs hv
        have him : ix < 33 := (List.getElem?_eq_some_iff.1 hi).1
        have hL2 := HL.out.below b2
        match ix, him, hi with
        | 0, _, hi =>
         obtain rfl := Option.some.inj hi
         simp only [relF, List.getD_cons_zero, List.getD_cons_succ, List.foldl_cons, List.foldl_nil, dstAt, List.getElem?_cons_zero, List.getElem?_cons_succ, Option.bind_some]
         go_wp2_with fail
         exact ⟨rfl, Below.refl _ _, rfl, rfl⟩
        | 1, _, hi =>
         obtain rfl := Option.some.inj hi
         have h0 : vs 0 = _ := hv 0 (by decide)
         simp only [relF, List.getD_cons_zero, List.getD_cons_succ, List.foldl_cons, List.foldl_nil, dstAt, List.getElem?_cons_zero, List.getElem?_cons_succ, Option.bind_some]
         go_frame
         rw [h0]
         go_wp2_with fail
         exact ⟨rfl, Below.refl _ _, rfl, rfl⟩
        | 2, _, hi =>
         obtain rfl := Option.some.inj hi
         have h1 : vs 1 = _ := hv 1 (by decide)
         simp only [relF, List.getD_cons_zero, List.getD_cons_succ, List.foldl_cons, List.foldl_nil, dstAt, List.getElem?_cons_zero, List.getElem?_cons_succ, Option.bind_some]
         go_frame
         rw [h1]
         go_wp2_with fail
         exact ⟨rfl, Below.refl _ _, rfl, by first | rfl | (show slotOf _ _ = _; simp [slotOf]; done) | (show slotOf _ _ = _; simp [slotOf]; omega)⟩
        | 3, _, hi =>
         obtain rfl := Option.some.inj hi
         have h2 : vs 2 = _ := hv 2 (by decide)
         simp only [relF, List.getD_cons_zero, List.getD_cons_succ, List.foldl_cons, List.foldl_nil, dstAt, List.getElem?_cons_zero, List.getElem?_cons_succ, Option.bind_some]
         go_frame
         rw [h2]
         go_wp2_with fail
         exact ⟨rfl, Below.refl _ _, rfl, rfl⟩
        | 4, _, hi =>
         obtain rfl := Option.some.inj hi
         have h3 : vs 3 = _ := hv 3 (by decide)
         simp only [relF, List.getD_cons_zero, List.getD_cons_succ, List.foldl_cons, List.foldl_nil, dstAt, List.getElem?_cons_zero, List.getElem?_cons_succ, Option.bind_some]
         go_frame
         rw [h3]
         go_wp2_with ((with_reducible show wpList _ _ _ (⟨some 53, _, _, _, _, _⟩ :: _) _ _); refine wpList_load_hash (op := ⟨some 53, _, _, _, _, _⟩) (by kernel_rfl) _ rfl v12.heap.size rfl R HRL.out _ _ ((b2.block _ (lt_of_block X13.out)).trans X13.out) ?_)
         exact ⟨rfl, Below.refl _ _, rfl, rfl⟩
        | 5, _, hi =>
         obtain rfl := Option.some.inj hi
         have h3 : vs 3 = _ := hv 3 (by decide)
         simp only [relF, List.getD_cons_zero, List.getD_cons_succ, List.foldl_cons, List.foldl_nil, dstAt, List.getElem?_cons_zero, List.getElem?_cons_succ, Option.bind_some]
         go_frame
         rw [h3]
         go_wp2_with fail
         exact ⟨rfl, Below.refl _ _, rfl, rfl⟩
        | 6, _, hi =>
         obtain rfl := Option.some.inj hi
         have h3 : vs 3 = _ := hv 3 (by decide)
         have h5 : vs 5 = _ := hv 5 (by decide)
         simp only [relF, List.getD_cons_zero, List.getD_cons_succ, List.foldl_cons, List.foldl_nil, dstAt, List.getElem?_cons_zero, List.getElem?_cons_succ, Option.bind_some]
         go_frame
         rw [h3, h5]
         go_wp2_with fail
         exact ⟨rfl, Below.refl _ _, rfl, rfl⟩
        | 7, _, hi =>
         obtain rfl := Option.some.inj hi
         have h3 : vs 3 = _ := hv 3 (by decide)
         simp only [relF, List.getD_cons_zero, List.getD_cons_succ, List.foldl_cons, List.foldl_nil, dstAt, List.getElem?_cons_zero, List.getElem?_cons_succ, Option.bind_some]
         go_frame
         rw [h3]
         go_wp2_with fail
         exact ⟨rfl, Below.refl _ _, rfl, rfl⟩
        | 8, _, hi =>
         obtain rfl := Option.some.inj hi
         have h3 : vs 3 = _ := hv 3 (by decide)
         simp only [relF, List.getD_cons_zero, List.getD_cons_succ, List.foldl_cons, List.foldl_nil, dstAt, List.getElem?_cons_zero, List.getElem?_cons_succ, Option.bind_some]
         go_frame
         rw [h3]
         go_wp2_with fail
         exact ⟨rfl, Below.refl _ _, rfl, rfl⟩
        | 9, _, hi =>
         obtain rfl := Option.some.inj hi
         have h3 : vs 3 = _ := hv 3 (by decide)
         simp only [relF, List.getD_cons_zero, List.getD_cons_succ, List.foldl_cons, List.foldl_nil, dstAt, List.getElem?_cons_zero, List.getElem?_cons_succ, Option.bind_some]
         go_frame
         rw [h3]
         go_wp2_with fail
         exact ⟨rfl, Below.refl _ _, rfl, rfl⟩
        | 10, _, hi =>
         obtain rfl := Option.some.inj hi
         have h3 : vs 3 = _ := hv 3 (by decide)
         have h8 : vs 8 = _ := hv 8 (by decide)
         have h9 : vs 9 = _ := hv 9 (by decide)
         simp only [relF, List.getD_cons_zero, List.getD_cons_succ, List.foldl_cons, List.foldl_nil, dstAt, List.getElem?_cons_zero, List.getElem?_cons_succ, Option.bind_some]
         go_frame
         rw [h3, h8, h9]
         go_wp2_with fail
         exact ⟨rfl, Below.refl _ _, rfl, rfl⟩
        | 11, _, hi =>
         obtain rfl := Option.some.inj hi
         have h3 : vs 3 = _ := hv 3 (by decide)
         have h10 : vs 10 = _ := hv 10 (by decide)
         have hcell := (HK.out.below (Nat.le_refl _) b2).get HLI.out
         simp only [relF, List.getD_cons_zero, List.getD_cons_succ, List.foldl_cons, List.foldl_nil, dstAt, List.getElem?_cons_zero, List.getElem?_cons_succ, Option.bind_some]
         go_frame
         rw [h3, h10]
         go_wp2_with fail
         exact ⟨rfl, Below.refl _ _, rfl, rfl⟩
        | 12, _, hi =>
         obtain rfl := Option.some.inj hi
         have h3 : vs 3 = _ := hv 3 (by decide)
         simp only [relF, List.getD_cons_zero, List.getD_cons_succ, List.foldl_cons, List.foldl_nil, dstAt, List.getElem?_cons_zero, List.getElem?_cons_succ, Option.bind_some]
         go_frame
         rw [h3]
         go_wp2_with fail
         exact ⟨rfl, Below.refl _ _, rfl, rfl⟩
        | 13, _, hi =>
         obtain rfl := Option.some.inj hi
         have h3 : vs 3 = _ := hv 3 (by decide)
         have h12 : vs 12 = _ := hv 12 (by decide)
         simp only [relF, List.getD_cons_zero, List.getD_cons_succ, List.foldl_cons, List.foldl_nil, dstAt, List.getElem?_cons_zero, List.getElem?_cons_succ, Option.bind_some]
         go_frame
         rw [h3, h12]
         go_wp2_with fail
         exact ⟨rfl, Below.refl _ _, rfl, rfl⟩
        | 14, _, hi =>
         obtain rfl := Option.some.inj hi
         have h3 : vs 3 = _ := hv 3 (by decide)
         have h4 : vs 4 = _ := hv 4 (by decide)
         have h6 : vs 6 = _ := hv 6 (by decide)
         have h7 : vs 7 = _ := hv 7 (by decide)
         have h11 : vs 11 = _ := hv 11 (by decide)
         have h13 : vs 13 = _ := hv 13 (by decide)
         have hrn := treeCheck_any w2 R HRL.out mK i (by omega) (by omega) l (by omega) _ _ _ (PR.drop 1) (HD.out.below (Nat.le_refl _) b2) hL2
         rw [HC1.out] at hrn
         simp only [relF, List.getD_cons_zero, List.getD_cons_succ, List.foldl_cons, List.foldl_nil, dstAt, List.getElem?_cons_zero, List.getElem?_cons_succ, Option.bind_some]
         go_frame
         rw [h3, h4, h6, h7, h11, h13]
         go_wp2_with fail
         refine (hrn).mono ?_
         rintro e w3 ⟨rfl, b3⟩
         go_wp2_with fail
         exact ⟨rfl, b3, rfl, rfl⟩
        | 15, _, hi =>
         obtain rfl := Option.some.inj hi
         have h3 : vs 3 = _ := hv 3 (by decide)
         have h14 : vs 14 = _ := hv 14 (by decide)
         simp only [relF, List.getD_cons_zero, List.getD_cons_succ, List.foldl_cons, List.foldl_nil, dstAt, List.getElem?_cons_zero, List.getElem?_cons_succ, Option.bind_some]
         go_frame
         rw [h3, h14]
         go_wp2_with fail
         exact ⟨rfl, Below.refl _ _, rfl, rfl⟩
        | 16, _, hi =>
         obtain rfl := Option.some.inj hi
         have h15 : vs 15 = _ := hv 15 (by decide)
         simp only [relF, List.getD_cons_zero, List.getD_cons_succ, List.foldl_cons, List.foldl_nil, dstAt, List.getElem?_cons_zero, List.getElem?_cons_succ, Option.bind_some]
         go_frame
         rw [h15]
         go_wp2_with fail
         exact ⟨rfl, Below.refl _ _, rfl, rfl⟩
        | 17, _, hi =>
         obtain rfl := Option.some.inj hi
         have h16 : vs 16 = _ := hv 16 (by decide)
         simp only [relF, List.getD_cons_zero, List.getD_cons_succ, List.foldl_cons, List.foldl_nil, dstAt, List.getElem?_cons_zero, List.getElem?_cons_succ, Option.bind_some]
         go_frame
         rw [h16]
         go_wp2_with ((with_reducible show wpList _ _ _ (⟨some 66, _, _, _, _, _⟩ :: _) _ _); refine wpList_load_hash (op := ⟨some 66, _, _, _, _, _⟩) (by kernel_rfl) _ rfl v12.heap.size rfl R HRL.out _ _ ((b2.block _ (lt_of_block X13.out)).trans X13.out) ?_)
         exact ⟨rfl, Below.refl _ _, rfl, rfl⟩
        | 18, _, hi =>
         obtain rfl := Option.some.inj hi
         have h16 : vs 16 = _ := hv 16 (by decide)
         simp only [relF, List.getD_cons_zero, List.getD_cons_succ, List.foldl_cons, List.foldl_nil, dstAt, List.getElem?_cons_zero, List.getElem?_cons_succ, Option.bind_some]
         go_frame
         rw [h16]
         go_wp2_with fail
         exact ⟨rfl, Below.refl _ _, rfl, rfl⟩
        | 19, _, hi =>
         obtain rfl := Option.some.inj hi
         have h16 : vs 16 = _ := hv 16 (by decide)
         have h18 : vs 18 = _ := hv 18 (by decide)
         simp only [relF, List.getD_cons_zero, List.getD_cons_succ, List.foldl_cons, List.foldl_nil, dstAt, List.getElem?_cons_zero, List.getElem?_cons_succ, Option.bind_some]
         go_frame
         rw [h16, h18]
         go_wp2_with fail
         exact ⟨rfl, Below.refl _ _, rfl, rfl⟩
        | 20, _, hi =>
         obtain rfl := Option.some.inj hi
         have h16 : vs 16 = _ := hv 16 (by decide)
         simp only [relF, List.getD_cons_zero, List.getD_cons_succ, List.foldl_cons, List.foldl_nil, dstAt, List.getElem?_cons_zero, List.getElem?_cons_succ, Option.bind_some]
         go_frame
         rw [h16]
         go_wp2_with fail
         exact ⟨rfl, Below.refl _ _, rfl, rfl⟩
        | 21, _, hi =>
         obtain rfl := Option.some.inj hi
         have h16 : vs 16 = _ := hv 16 (by decide)
         simp only [relF, List.getD_cons_zero, List.getD_cons_succ, List.foldl_cons, List.foldl_nil, dstAt, List.getElem?_cons_zero, List.getElem?_cons_succ, Option.bind_some]
         go_frame
         rw [h16]
         go_wp2_with fail
         exact ⟨rfl, Below.refl _ _, rfl, rfl⟩
        | 22, _, hi =>
         obtain rfl := Option.some.inj hi
         have h16 : vs 16 = _ := hv 16 (by decide)
         simp only [relF, List.getD_cons_zero, List.getD_cons_succ, List.foldl_cons, List.foldl_nil, dstAt, List.getElem?_cons_zero, List.getElem?_cons_succ, Option.bind_some]
         go_frame
         rw [h16]
         go_wp2_with fail
         exact ⟨rfl, Below.refl _ _, rfl, rfl⟩
        | 23, _, hi =>
         obtain rfl := Option.some.inj hi
         have h16 : vs 16 = _ := hv 16 (by decide)
         have h21 : vs 21 = _ := hv 21 (by decide)
         have h22 : vs 22 = _ := hv 22 (by decide)
         simp only [relF, List.getD_cons_zero, List.getD_cons_succ, List.foldl_cons, List.foldl_nil, dstAt, List.getElem?_cons_zero, List.getElem?_cons_succ, Option.bind_some]
         go_frame
         rw [h16, h21, h22]
         go_wp2_with fail
         exact ⟨rfl, Below.refl _ _, rfl, rfl⟩
        | 24, _, hi =>
         obtain rfl := Option.some.inj hi
         have h16 : vs 16 = _ := hv 16 (by decide)
         have h23 : vs 23 = _ := hv 23 (by decide)
         have hcell := (HK.out.below (Nat.le_refl _) b2).get HLI.out
         simp only [relF, List.getD_cons_zero, List.getD_cons_succ, List.foldl_cons, List.foldl_nil, dstAt, List.getElem?_cons_zero, List.getElem?_cons_succ, Option.bind_some]
         go_frame
         rw [h16, h23]
         go_wp2_with fail
         exact ⟨rfl, Below.refl _ _, rfl, rfl⟩
        | 25, _, hi =>
         obtain rfl := Option.some.inj hi
         have h16 : vs 16 = _ := hv 16 (by decide)
         simp only [relF, List.getD_cons_zero, List.getD_cons_succ, List.foldl_cons, List.foldl_nil, dstAt, List.getElem?_cons_zero, List.getElem?_cons_succ, Option.bind_some]
         go_frame
         rw [h16]
         go_wp2_with fail
         exact ⟨rfl, (Below.refl _ _).alloc (Nat.le_refl _) _, rfl, w2.heap.size, rfl⟩
        | 26, _, hi =>
         obtain rfl := Option.some.inj hi
         have h16 : vs 16 = _ := hv 16 (by decide)
         simp only [relF, List.getD_cons_zero, List.getD_cons_succ, List.foldl_cons, List.foldl_nil, dstAt, List.getElem?_cons_zero, List.getElem?_cons_succ, Option.bind_some]
         go_frame
         rw [h16]
         go_wp2_with fail
         exact ⟨rfl, Below.refl _ _, rfl, rfl⟩
        | 27, _, hi =>
         obtain ⟨g25, e25⟩ := hv 25 (by decide)
         obtain rfl := Option.some.inj hi
         have h16 : vs 16 = _ := hv 16 (by decide)
         have h26 : vs 26 = _ := hv 26 (by decide)
         obtain ⟨q, cc, W, hrun, hrk, hbb⟩ := copyK (C15.out.below (Nat.le_refl _) b2) (by omega) b2.size ⟨g25, 0, none⟩
         simp only [relF, List.getD_cons_zero, List.getD_cons_succ, List.foldl_cons, List.foldl_nil, dstAt, List.getElem?_cons_zero, List.getElem?_cons_succ, Option.bind_some]
         go_frame
         rw [h16, e25, h26]
         go_wp2_with ((with_reducible show wpList _ _ _ (⟨some 76, _, _, _, _, _⟩ :: _) _ _); refine wpList_append_ran (by kernel_rfl) _ _ _ rfl _ _ rfl rfl hrun ?_)
         exact ⟨rfl, hbb, rfl, q, cc, rfl, HN.out.symm, hrk⟩
        | 28, _, hi =>
         obtain rfl := Option.some.inj hi
         have h16 : vs 16 = _ := hv 16 (by decide)
         simp only [relF, List.getD_cons_zero, List.getD_cons_succ, List.foldl_cons, List.foldl_nil, dstAt, List.getElem?_cons_zero, List.getElem?_cons_succ, Option.bind_some]
         go_frame
         rw [h16]
         go_wp2_with ((with_reducible show wpList _ _ _ (⟨some 77, _, _, _, _, _⟩ :: _) _ _); refine wpList_load_hash (op := ⟨some 77, _, _, _, _, _⟩) (by kernel_rfl) _ rfl v12.heap.size rfl R HRL.out _ _ ((b2.block _ (lt_of_block X13.out)).trans X13.out) ?_)
         exact ⟨rfl, Below.refl _ _, rfl, rfl⟩
        | 29, _, hi =>
         obtain rfl := Option.some.inj hi
         have h16 : vs 16 = _ := hv 16 (by decide)
         have h28 : vs 28 = _ := hv 28 (by decide)
         have hbc : (byteCells R).length = 32 := by rw [byteCells_length, HRL.out]
         simp only [relF, List.getD_cons_zero, List.getD_cons_succ, List.foldl_cons, List.foldl_nil, dstAt, List.getElem?_cons_zero, List.getElem?_cons_succ, Option.bind_some]
         go_frame
         rw [h16, h28]
         go_wp2_with fail
         exact ⟨rfl, (Below.refl _ _).alloc (Nat.le_refl _) _, rfl, w2.heap.size, rfl, alloc_built w2 hbc⟩
        | 30, _, hi =>
         obtain ⟨q27, c27, e27, n27, s27⟩ := hv 27 (by decide)
         obtain ⟨g29, e29, s29⟩ := hv 29 (by decide)
         obtain rfl := Option.some.inj hi
         have h16 : vs 16 = _ := hv 16 (by decide)
         obtain ⟨q', cc, W, hrun, hs, hk⟩ := pushK (B := v15.heap.size) HRL.out HP32.out HN.out (by omega) s27 s29 b2.size
         clear n27
         simp only [relF, List.getD_cons_zero, List.getD_cons_succ, List.foldl_cons, List.foldl_nil, dstAt, List.getElem?_cons_zero, List.getElem?_cons_succ, Option.bind_some]
         go_frame
         rw [h16, e27, e29]
         go_wp2_with ((with_reducible show wpList _ _ _ (⟨some 79, _, _, _, _, _⟩ :: _) _ _); refine wpList_append_ran (by kernel_rfl) _ _ _ rfl _ _ rfl rfl hrun ?_)
         exact ⟨rfl, hk, rfl, q', cc, rfl, hs⟩
        | 31, _, hi =>
         obtain ⟨q30, c30, e30, s30⟩ := hv 30 (by decide)
         obtain rfl := Option.some.inj hi
         have h16 : vs 16 = _ := hv 16 (by decide)
         have h17 : vs 17 = _ := hv 17 (by decide)
         have h19 : vs 19 = _ := hv 19 (by decide)
         have h20 : vs 20 = _ := hv 20 (by decide)
         have h24 : vs 24 = _ := hv 24 (by decide)
         have hrn := treeCheck_any w2 R HRL.out mK i (by omega) (by omega) l (by omega) _ _ _ (PR ++ [R]) s30 hL2
         rw [HC2.out] at hrn
         simp only [relF, List.getD_cons_zero, List.getD_cons_succ, List.foldl_cons, List.foldl_nil, dstAt, List.getElem?_cons_zero, List.getElem?_cons_succ, Option.bind_some]
         go_frame
         rw [h16, h17, h19, h20, h24, e30]
         go_wp2_with fail
         refine (hrn).mono ?_
         rintro e w3 ⟨rfl, b3⟩
         go_wp2_with fail
         exact ⟨rfl, b3, rfl, rfl⟩
        | 32, _, hi =>
         obtain rfl := Option.some.inj hi
         have h16 : vs 16 = _ := hv 16 (by decide)
         have h31 : vs 31 = _ := hv 31 (by decide)
         simp only [relF, List.getD_cons_zero, List.getD_cons_succ, List.foldl_cons, List.foldl_nil, dstAt, List.getElem?_cons_zero, List.getElem?_cons_succ, Option.bind_some]
         go_frame
         rw [h16, h31]
         go_wp2_with fail
         exact ⟨rfl, Below.refl _ _, rfl, rfl⟩
        | nx + 33, him, _ => exact absurd him (by omega)
       ·
        intro w2 b2 vs hv
        have hL2 := HL.out.below b2
        have h32 : vs 32 = _ := hv 32 (by decide)
        simp only [relF, List.drop_succ_cons, List.drop_zero, List.length_cons, List.length_nil, Nat.zero_add, Nat.reduceAdd, List.range, List.range.loop, List.foldl_cons, List.foldl_nil, dstAt, List.getElem?_cons_zero, List.getElem?_cons_succ, Option.bind_some]
        go_frame
        rw [h32]
        go_wp2_with fail
        have B2 := b1.trans (b2.mono b1.size)
        have HK2 := Lib.hid (HK.out.below (Nat.le_refl _) b2)
        have HP2 := Lib.hid (C15.out.below (Nat.le_refl _) b2)
        have HX2 := Lib.hid ((b2.block _ (lt_of_block X13.out)).trans X13.out)
        have HL2 := Lib.hid hL2; clear hL2
        clear hv
        rcases hb : badSide (mK : Int) x with _ | _
        ·
         obtain ⟨k, rfl, hkm⟩ := badSide_k hb
         clear hb
         refine wp_region_rel [[], [], [1], [], [], [], [0, 2, 3, 4, 5], [], [], [8], [], [], [], [7, 9, 10, 11, 12], [6, 13], [14], [15], [15], [15, 17], [15], [15], [15], [15, 20, 21], [15, 22], [15], [15, 16, 18, 19, 23, 24], [15], [15], [15, 27], [15], [15], [15], [15, 30, 31], [15, 32], [15], [15, 26, 28, 29, 33, 34], [15, 25, 35], [15, 36], [37], [38], [38], [38, 40], [38, 41], [38], [38], [38], [38, 44, 45], [38, 46], [38], [38, 39, 42, 43, 47, 48], [38], [38], [38, 51], [38, 52], [38], [38], [38], [38, 55, 56], [38, 57], [38], [38, 50, 53, 54, 58, 59], [38, 49, 60], [38, 61], [62]] (tarB v12.heap.size bK oK mK cK 1 1 i k (some ⟨bP, oP, none⟩) K PR R f l) 145 (by kernel_rfl) (by kernel_rfl) (by kernel_rfl) (tarB_mono v12.heap.size bK oK mK cK 1 1 i k (some ⟨bP, oP, none⟩) K PR R f l) ?_ ?_
         ·
          intro ix op hi w4 b2 vs hv
          have him : ix < 64 := (List.getElem?_eq_some_iff.1 hi).1
          have hL2 := HL2.out.below b2
          match ix, him, hi with
          | 0, _, hi =>
           obtain rfl := Option.some.inj hi
           simp only [relF, List.getD_cons_zero, List.getD_cons_succ, List.foldl_cons, List.foldl_nil, dstAt, List.getElem?_cons_zero, List.getElem?_cons_succ, Option.bind_some]
           go_wp2_with ((with_reducible show wpList _ _ _ (⟨some 82, _, _, _, _, _⟩ :: _) _ _); refine wpList_load_hash (op := ⟨some 82, _, _, _, _, _⟩) (by kernel_rfl) _ rfl v12.heap.size rfl R HRL.out _ _ ((b2.block _ (lt_of_block HX2.out)).trans HX2.out) ?_)
           exact ⟨rfl, Below.refl _ _, rfl, rfl⟩
          | 1, _, hi =>
           obtain rfl := Option.some.inj hi
           simp only [relF, List.getD_cons_zero, List.getD_cons_succ, List.foldl_cons, List.foldl_nil, dstAt, List.getElem?_cons_zero, List.getElem?_cons_succ, Option.bind_some]
           go_wp2_with fail
           exact ⟨rfl, Below.refl _ _, rfl, rfl⟩
          | 2, _, hi =>
           obtain rfl := Option.some.inj hi
           have h1 : vs 1 = _ := hv 1 (by decide)
           simp only [relF, List.getD_cons_zero, List.getD_cons_succ, List.foldl_cons, List.foldl_nil, dstAt, List.getElem?_cons_zero, List.getElem?_cons_succ, Option.bind_some]
           go_frame
           rw [h1]
           go_wp2_with fail
           exact ⟨rfl, Below.refl _ _, rfl, rfl⟩
          | 3, _, hi =>
           obtain rfl := Option.some.inj hi
           simp only [relF, List.getD_cons_zero, List.getD_cons_succ, List.foldl_cons, List.foldl_nil, dstAt, List.getElem?_cons_zero, List.getElem?_cons_succ, Option.bind_some]
           go_wp2_with fail
           exact ⟨rfl, Below.refl _ _, rfl, rfl⟩
          | 4, _, hi =>
           obtain rfl := Option.some.inj hi
           simp only [relF, List.getD_cons_zero, List.getD_cons_succ, List.foldl_cons, List.foldl_nil, dstAt, List.getElem?_cons_zero, List.getElem?_cons_succ, Option.bind_some]
           go_wp2_with fail
           exact ⟨rfl, Below.refl _ _, rfl, rfl⟩
          | 5, _, hi =>
           obtain rfl := Option.some.inj hi
           simp only [relF, List.getD_cons_zero, List.getD_cons_succ, List.foldl_cons, List.foldl_nil, dstAt, List.getElem?_cons_zero, List.getElem?_cons_succ, Option.bind_some]
           go_wp2_with fail
           exact ⟨rfl, Below.refl _ _, rfl, rfl⟩
          | 6, _, hi =>
           obtain rfl := Option.some.inj hi
           have h0 : vs 0 = _ := hv 0 (by decide)
           have h2 : vs 2 = _ := hv 2 (by decide)
           have h3 : vs 3 = _ := hv 3 (by decide)
           have h4 : vs 4 = _ := hv 4 (by decide)
           have h5 : vs 5 = _ := hv 5 (by decide)
           simp only [relF, List.getD_cons_zero, List.getD_cons_succ, List.foldl_cons, List.foldl_nil, dstAt, List.getElem?_cons_zero, List.getElem?_cons_succ, Option.bind_some]
           go_frame
           rw [h0, h2, h3, h4, h5]
           go_wp2_with fail
           refine (treeCheck_any w4 R HRL.out mK i (by omega) (by omega) f (by omega) _ _ _ PR (HP2.out.below (Nat.le_refl _) b2) hL2).mono ?_
           rintro e w3 ⟨rfl, b3⟩
           go_wp2_with fail
           exact ⟨rfl, b3, rfl, rfl⟩
          | 7, _, hi =>
           obtain rfl := Option.some.inj hi
           simp only [relF, List.getD_cons_zero, List.getD_cons_succ, List.foldl_cons, List.foldl_nil, dstAt, List.getElem?_cons_zero, List.getElem?_cons_succ, Option.bind_some]
           go_wp2_with ((with_reducible show wpList _ _ _ (⟨some 89, _, _, _, _, _⟩ :: _) _ _); refine wpList_load_hash (op := ⟨some 89, _, _, _, _, _⟩) (by kernel_rfl) _ rfl v12.heap.size rfl R HRL.out _ _ ((b2.block _ (lt_of_block HX2.out)).trans HX2.out) ?_)
           exact ⟨rfl, Below.refl _ _, rfl, rfl⟩
          | 8, _, hi =>
           obtain rfl := Option.some.inj hi
           simp only [relF, List.getD_cons_zero, List.getD_cons_succ, List.foldl_cons, List.foldl_nil, dstAt, List.getElem?_cons_zero, List.getElem?_cons_succ, Option.bind_some]
           go_wp2_with fail
           exact ⟨rfl, Below.refl _ _, rfl, rfl⟩
          | 9, _, hi =>
           obtain rfl := Option.some.inj hi
           have h8 : vs 8 = _ := hv 8 (by decide)
           simp only [relF, List.getD_cons_zero, List.getD_cons_succ, List.foldl_cons, List.foldl_nil, dstAt, List.getElem?_cons_zero, List.getElem?_cons_succ, Option.bind_some]
           go_frame
           rw [h8]
           go_wp2_with fail
           exact ⟨rfl, Below.refl _ _, rfl, rfl⟩
          | 10, _, hi =>
           obtain rfl := Option.some.inj hi
           simp only [relF, List.getD_cons_zero, List.getD_cons_succ, List.foldl_cons, List.foldl_nil, dstAt, List.getElem?_cons_zero, List.getElem?_cons_succ, Option.bind_some]
           go_wp2_with fail
           exact ⟨rfl, Below.refl _ _, rfl, rfl⟩
          | 11, _, hi =>
           obtain rfl := Option.some.inj hi
           simp only [relF, List.getD_cons_zero, List.getD_cons_succ, List.foldl_cons, List.foldl_nil, dstAt, List.getElem?_cons_zero, List.getElem?_cons_succ, Option.bind_some]
           go_wp2_with fail
           exact ⟨rfl, Below.refl _ _, rfl, rfl⟩
          | 12, _, hi =>
           obtain rfl := Option.some.inj hi
           simp only [relF, List.getD_cons_zero, List.getD_cons_succ, List.foldl_cons, List.foldl_nil, dstAt, List.getElem?_cons_zero, List.getElem?_cons_succ, Option.bind_some]
           go_wp2_with fail
           exact ⟨rfl, Below.refl _ _, rfl, rfl⟩
          | 13, _, hi =>
           obtain rfl := Option.some.inj hi
           have h7 : vs 7 = _ := hv 7 (by decide)
           have h9 : vs 9 = _ := hv 9 (by decide)
           have h10 : vs 10 = _ := hv 10 (by decide)
           have h11 : vs 11 = _ := hv 11 (by decide)
           have h12 : vs 12 = _ := hv 12 (by decide)
           simp only [relF, List.getD_cons_zero, List.getD_cons_succ, List.foldl_cons, List.foldl_nil, dstAt, List.getElem?_cons_zero, List.getElem?_cons_succ, Option.bind_some]
           go_frame
           rw [h7, h9, h10, h11, h12]
           go_wp2_with fail
           refine (refCheck_any w4 R HRL.out mK i (by omega) (by omega) f (by omega) _ _ _ PR (HP2.out.below (Nat.le_refl _) b2)).mono ?_
           rintro e w3 ⟨rfl, b3⟩
           go_wp2_with fail
           exact ⟨rfl, b3, rfl, rfl⟩
          | 14, _, hi =>
           obtain rfl := Option.some.inj hi
           have h6 : vs 6 = _ := hv 6 (by decide)
           have h13 : vs 13 = _ := hv 13 (by decide)
           simp only [relF, List.getD_cons_zero, List.getD_cons_succ, List.foldl_cons, List.foldl_nil, dstAt, List.getElem?_cons_zero, List.getElem?_cons_succ, Option.bind_some]
           go_frame
           rw [h6, h13]
           go_wp2_with fail
           exact ⟨rfl, Below.refl _ _, rfl, by first | rfl | (show slotOf _ _ = _; simp [slotOf])⟩
          | 15, _, hi =>
           obtain rfl := Option.some.inj hi
           have h14 : vs 14 = _ := hv 14 (by decide)
           simp only [relF, List.getD_cons_zero, List.getD_cons_succ, List.foldl_cons, List.foldl_nil, dstAt, List.getElem?_cons_zero, List.getElem?_cons_succ, Option.bind_some]
           go_frame
           rw [h14]
           go_wp2_with fail
           exact ⟨rfl, Below.refl _ _, rfl, rfl⟩
          | 16, _, hi =>
           obtain rfl := Option.some.inj hi
           have h15 : vs 15 = _ := hv 15 (by decide)
           simp only [relF, List.getD_cons_zero, List.getD_cons_succ, List.foldl_cons, List.foldl_nil, dstAt, List.getElem?_cons_zero, List.getElem?_cons_succ, Option.bind_some]
           go_frame
           rw [h15]
           go_wp2_with ((with_reducible show wpList _ _ _ (⟨some 98, _, _, _, _, _⟩ :: _) _ _); refine wpList_load_hash (op := ⟨some 98, _, _, _, _, _⟩) (by kernel_rfl) _ rfl v12.heap.size rfl R HRL.out _ _ ((b2.block _ (lt_of_block HX2.out)).trans HX2.out) ?_)
           exact ⟨rfl, Below.refl _ _, rfl, rfl⟩
          | 17, _, hi =>
           obtain rfl := Option.some.inj hi
           have h15 : vs 15 = _ := hv 15 (by decide)
           simp only [relF, List.getD_cons_zero, List.getD_cons_succ, List.foldl_cons, List.foldl_nil, dstAt, List.getElem?_cons_zero, List.getElem?_cons_succ, Option.bind_some]
           go_frame
           rw [h15]
           go_wp2_with fail
           exact ⟨rfl, Below.refl _ _, rfl, rfl⟩
          | 18, _, hi =>
           obtain rfl := Option.some.inj hi
           have h15 : vs 15 = _ := hv 15 (by decide)
           have h17 : vs 17 = _ := hv 17 (by decide)
           simp only [relF, List.getD_cons_zero, List.getD_cons_succ, List.foldl_cons, List.foldl_nil, dstAt, List.getElem?_cons_zero, List.getElem?_cons_succ, Option.bind_some]
           go_frame
           rw [h15, h17]
           go_wp2_with fail
           exact ⟨rfl, Below.refl _ _, rfl, rfl⟩
          | 19, _, hi =>
           obtain rfl := Option.some.inj hi
           have h15 : vs 15 = _ := hv 15 (by decide)
           simp only [relF, List.getD_cons_zero, List.getD_cons_succ, List.foldl_cons, List.foldl_nil, dstAt, List.getElem?_cons_zero, List.getElem?_cons_succ, Option.bind_some]
           go_frame
           rw [h15]
           go_wp2_with fail
           exact ⟨rfl, Below.refl _ _, rfl, rfl⟩
          | 20, _, hi =>
           obtain rfl := Option.some.inj hi
           have h15 : vs 15 = _ := hv 15 (by decide)
           simp only [relF, List.getD_cons_zero, List.getD_cons_succ, List.foldl_cons, List.foldl_nil, dstAt, List.getElem?_cons_zero, List.getElem?_cons_succ, Option.bind_some]
           go_frame
           rw [h15]
           go_wp2_with fail
           exact ⟨rfl, Below.refl _ _, rfl, rfl⟩
          | 21, _, hi =>
           obtain rfl := Option.some.inj hi
           have h15 : vs 15 = _ := hv 15 (by decide)
           simp only [relF, List.getD_cons_zero, List.getD_cons_succ, List.foldl_cons, List.foldl_nil, dstAt, List.getElem?_cons_zero, List.getElem?_cons_succ, Option.bind_some]
           go_frame
           rw [h15]
           go_wp2_with fail
           exact ⟨rfl, Below.refl _ _, rfl, rfl⟩
          | 22, _, hi =>
           obtain rfl := Option.some.inj hi
           have h15 : vs 15 = _ := hv 15 (by decide)
           have h20 : vs 20 = _ := hv 20 (by decide)
           have h21 : vs 21 = _ := hv 21 (by decide)
           simp only [relF, List.getD_cons_zero, List.getD_cons_succ, List.foldl_cons, List.foldl_nil, dstAt, List.getElem?_cons_zero, List.getElem?_cons_succ, Option.bind_some]
           go_frame
           rw [h15, h20, h21]
           go_wp2_with fail
           exact ⟨rfl, Below.refl _ _, rfl, rfl⟩
          | 23, _, hi =>
           obtain rfl := Option.some.inj hi
           have h15 : vs 15 = _ := hv 15 (by decide)
           have h22 : vs 22 = _ := hv 22 (by decide)
           have hcell := (HK2.out.below (Nat.le_refl _) b2).get HLI.out
           simp only [relF, List.getD_cons_zero, List.getD_cons_succ, List.foldl_cons, List.foldl_nil, dstAt, List.getElem?_cons_zero, List.getElem?_cons_succ, Option.bind_some]
           go_frame
           rw [h15, h22]
           go_wp2_with fail
           exact ⟨rfl, Below.refl _ _, rfl, rfl⟩
          | 24, _, hi =>
           obtain rfl := Option.some.inj hi
           have h15 : vs 15 = _ := hv 15 (by decide)
           simp only [relF, List.getD_cons_zero, List.getD_cons_succ, List.foldl_cons, List.foldl_nil, dstAt, List.getElem?_cons_zero, List.getElem?_cons_succ, Option.bind_some]
           go_frame
           rw [h15]
           go_wp2_with fail
           exact ⟨rfl, Below.refl _ _, rfl, rfl⟩
          | 25, _, hi =>
           obtain rfl := Option.some.inj hi
           have h15 : vs 15 = _ := hv 15 (by decide)
           have h16 : vs 16 = _ := hv 16 (by decide)
           have h18 : vs 18 = _ := hv 18 (by decide)
           have h19 : vs 19 = _ := hv 19 (by decide)
           have h23 : vs 23 = _ := hv 23 (by decide)
           have h24 : vs 24 = _ := hv 24 (by decide)
           simp only [relF, List.getD_cons_zero, List.getD_cons_succ, List.foldl_cons, List.foldl_nil, dstAt, List.getElem?_cons_zero, List.getElem?_cons_succ, Option.bind_some]
           go_frame
           rw [h15, h16, h18, h19, h23, h24]
           go_wp2_with fail
           refine (treeCheck_any w4 R HRL.out mK k (by omega) (by omega) l (by omega) _ _ _ PR (HP2.out.below (Nat.le_refl _) b2) hL2).mono ?_
           rintro e w3 ⟨rfl, b3⟩
           go_wp2_with fail
           exact ⟨rfl, b3, rfl, rfl⟩
          | 26, _, hi =>
           obtain rfl := Option.some.inj hi
           have h15 : vs 15 = _ := hv 15 (by decide)
           simp only [relF, List.getD_cons_zero, List.getD_cons_succ, List.foldl_cons, List.foldl_nil, dstAt, List.getElem?_cons_zero, List.getElem?_cons_succ, Option.bind_some]
           go_frame
           rw [h15]
           go_wp2_with ((with_reducible show wpList _ _ _ (⟨some 108, _, _, _, _, _⟩ :: _) _ _); refine wpList_load_hash (op := ⟨some 108, _, _, _, _, _⟩) (by kernel_rfl) _ rfl v12.heap.size rfl R HRL.out _ _ ((b2.block _ (lt_of_block HX2.out)).trans HX2.out) ?_)
           exact ⟨rfl, Below.refl _ _, rfl, rfl⟩
          | 27, _, hi =>
           obtain rfl := Option.some.inj hi
           have h15 : vs 15 = _ := hv 15 (by decide)
           simp only [relF, List.getD_cons_zero, List.getD_cons_succ, List.foldl_cons, List.foldl_nil, dstAt, List.getElem?_cons_zero, List.getElem?_cons_succ, Option.bind_some]
           go_frame
           rw [h15]
           go_wp2_with fail
           exact ⟨rfl, Below.refl _ _, rfl, rfl⟩
          | 28, _, hi =>
           obtain rfl := Option.some.inj hi
           have h15 : vs 15 = _ := hv 15 (by decide)
           have h27 : vs 27 = _ := hv 27 (by decide)
           simp only [relF, List.getD_cons_zero, List.getD_cons_succ, List.foldl_cons, List.foldl_nil, dstAt, List.getElem?_cons_zero, List.getElem?_cons_succ, Option.bind_some]
           go_frame
           rw [h15, h27]
           go_wp2_with fail
           exact ⟨rfl, Below.refl _ _, rfl, rfl⟩
          | 29, _, hi =>
           obtain rfl := Option.some.inj hi
           have h15 : vs 15 = _ := hv 15 (by decide)
           simp only [relF, List.getD_cons_zero, List.getD_cons_succ, List.foldl_cons, List.foldl_nil, dstAt, List.getElem?_cons_zero, List.getElem?_cons_succ, Option.bind_some]
           go_frame
           rw [h15]
           go_wp2_with fail
           exact ⟨rfl, Below.refl _ _, rfl, rfl⟩
          | 30, _, hi =>
           obtain rfl := Option.some.inj hi
           have h15 : vs 15 = _ := hv 15 (by decide)
           simp only [relF, List.getD_cons_zero, List.getD_cons_succ, List.foldl_cons, List.foldl_nil, dstAt, List.getElem?_cons_zero, List.getElem?_cons_succ, Option.bind_some]
           go_frame
           rw [h15]
           go_wp2_with fail
           exact ⟨rfl, Below.refl _ _, rfl, rfl⟩
          | 31, _, hi =>
           obtain rfl := Option.some.inj hi
           have h15 : vs 15 = _ := hv 15 (by decide)
           simp only [relF, List.getD_cons_zero, List.getD_cons_succ, List.foldl_cons, List.foldl_nil, dstAt, List.getElem?_cons_zero, List.getElem?_cons_succ, Option.bind_some]
           go_frame
           rw [h15]
           go_wp2_with fail
           exact ⟨rfl, Below.refl _ _, rfl, rfl⟩
          | 32, _, hi =>
           obtain rfl := Option.some.inj hi
           have h15 : vs 15 = _ := hv 15 (by decide)
           have h30 : vs 30 = _ := hv 30 (by decide)
           have h31 : vs 31 = _ := hv 31 (by decide)
           simp only [relF, List.getD_cons_zero, List.getD_cons_succ, List.foldl_cons, List.foldl_nil, dstAt, List.getElem?_cons_zero, List.getElem?_cons_succ, Option.bind_some]
           go_frame
           rw [h15, h30, h31]
           go_wp2_with fail
           exact ⟨rfl, Below.refl _ _, rfl, rfl⟩
          | 33, _, hi =>
           obtain rfl := Option.some.inj hi
           have h15 : vs 15 = _ := hv 15 (by decide)
           have h32 : vs 32 = _ := hv 32 (by decide)
           have hcell := (HK2.out.below (Nat.le_refl _) b2).get HLI.out
           simp only [relF, List.getD_cons_zero, List.getD_cons_succ, List.foldl_cons, List.foldl_nil, dstAt, List.getElem?_cons_zero, List.getElem?_cons_succ, Option.bind_some]
           go_frame
           rw [h15, h32]
           go_wp2_with fail
           exact ⟨rfl, Below.refl _ _, rfl, rfl⟩
          | 34, _, hi =>
           obtain rfl := Option.some.inj hi
           have h15 : vs 15 = _ := hv 15 (by decide)
           simp only [relF, List.getD_cons_zero, List.getD_cons_succ, List.foldl_cons, List.foldl_nil, dstAt, List.getElem?_cons_zero, List.getElem?_cons_succ, Option.bind_some]
           go_frame
           rw [h15]
           go_wp2_with fail
           exact ⟨rfl, Below.refl _ _, rfl, rfl⟩
          | 35, _, hi =>
           obtain rfl := Option.some.inj hi
           have h15 : vs 15 = _ := hv 15 (by decide)
           have h26 : vs 26 = _ := hv 26 (by decide)
           have h28 : vs 28 = _ := hv 28 (by decide)
           have h29 : vs 29 = _ := hv 29 (by decide)
           have h33 : vs 33 = _ := hv 33 (by decide)
           have h34 : vs 34 = _ := hv 34 (by decide)
           simp only [relF, List.getD_cons_zero, List.getD_cons_succ, List.foldl_cons, List.foldl_nil, dstAt, List.getElem?_cons_zero, List.getElem?_cons_succ, Option.bind_some]
           go_frame
           rw [h15, h26, h28, h29, h33, h34]
           go_wp2_with fail
           refine (refCheck_any w4 R HRL.out mK k (by omega) (by omega) l (by omega) _ _ _ PR (HP2.out.below (Nat.le_refl _) b2)).mono ?_
           rintro e w3 ⟨rfl, b3⟩
           go_wp2_with fail
           exact ⟨rfl, b3, rfl, rfl⟩
          | 36, _, hi =>
           obtain rfl := Option.some.inj hi
           have h15 : vs 15 = _ := hv 15 (by decide)
           have h25 : vs 25 = _ := hv 25 (by decide)
           have h35 : vs 35 = _ := hv 35 (by decide)
           simp only [relF, List.getD_cons_zero, List.getD_cons_succ, List.foldl_cons, List.foldl_nil, dstAt, List.getElem?_cons_zero, List.getElem?_cons_succ, Option.bind_some]
           go_frame
           rw [h15, h25, h35]
           go_wp2_with fail
           exact ⟨rfl, Below.refl _ _, rfl, by first | rfl | (show slotOf _ _ = _; simp [slotOf])⟩
          | 37, _, hi =>
           obtain rfl := Option.some.inj hi
           have h15 : vs 15 = _ := hv 15 (by decide)
           have h36 : vs 36 = _ := hv 36 (by decide)
           simp only [relF, List.getD_cons_zero, List.getD_cons_succ, List.foldl_cons, List.foldl_nil, dstAt, List.getElem?_cons_zero, List.getElem?_cons_succ, Option.bind_some]
           go_frame
           rw [h15, h36]
           go_wp2_with fail
           exact ⟨rfl, Below.refl _ _, rfl, rfl⟩
          | 38, _, hi =>
           obtain rfl := Option.some.inj hi
           have h37 : vs 37 = _ := hv 37 (by decide)
           simp only [relF, List.getD_cons_zero, List.getD_cons_succ, List.foldl_cons, List.foldl_nil, dstAt, List.getElem?_cons_zero, List.getElem?_cons_succ, Option.bind_some]
           go_frame
           rw [h37]
           go_wp2_with fail
           exact ⟨rfl, Below.refl _ _, rfl, rfl⟩
          | 39, _, hi =>
           obtain rfl := Option.some.inj hi
           have h38 : vs 38 = _ := hv 38 (by decide)
           simp only [relF, List.getD_cons_zero, List.getD_cons_succ, List.foldl_cons, List.foldl_nil, dstAt, List.getElem?_cons_zero, List.getElem?_cons_succ, Option.bind_some]
           go_frame
           rw [h38]
           go_wp2_with ((with_reducible show wpList _ _ _ (⟨some 121, _, _, _, _, _⟩ :: _) _ _); refine wpList_load_hash (op := ⟨some 121, _, _, _, _, _⟩) (by kernel_rfl) _ rfl v12.heap.size rfl R HRL.out _ _ ((b2.block _ (lt_of_block HX2.out)).trans HX2.out) ?_)
           exact ⟨rfl, Below.refl _ _, rfl, rfl⟩
          | 40, _, hi =>
           obtain rfl := Option.some.inj hi
           have h38 : vs 38 = _ := hv 38 (by decide)
           simp only [relF, List.getD_cons_zero, List.getD_cons_succ, List.foldl_cons, List.foldl_nil, dstAt, List.getElem?_cons_zero, List.getElem?_cons_succ, Option.bind_some]
           go_frame
           rw [h38]
           go_wp2_with fail
           exact ⟨rfl, Below.refl _ _, rfl, rfl⟩
          | 41, _, hi =>
           obtain rfl := Option.some.inj hi
           have h38 : vs 38 = _ := hv 38 (by decide)
           have h40 : vs 40 = _ := hv 40 (by decide)
           simp only [relF, List.getD_cons_zero, List.getD_cons_succ, List.foldl_cons, List.foldl_nil, dstAt, List.getElem?_cons_zero, List.getElem?_cons_succ, Option.bind_some]
           go_frame
           rw [h38, h40]
           go_wp2_with fail
           exact ⟨rfl, Below.refl _ _, rfl, rfl⟩
          | 42, _, hi =>
           obtain rfl := Option.some.inj hi
           have h38 : vs 38 = _ := hv 38 (by decide)
           have h41 : vs 41 = _ := hv 41 (by decide)
           simp only [relF, List.getD_cons_zero, List.getD_cons_succ, List.foldl_cons, List.foldl_nil, dstAt, List.getElem?_cons_zero, List.getElem?_cons_succ, Option.bind_some]
           go_frame
           rw [h38, h41]
           go_wp2_with fail
           exact ⟨rfl, Below.refl _ _, rfl, by first | rfl | (show slotOf _ _ = _; simp [slotOf]; done) | (show slotOf _ _ = _; simp [slotOf]; omega)⟩
          | 43, _, hi =>
           obtain rfl := Option.some.inj hi
           have h38 : vs 38 = _ := hv 38 (by decide)
           simp only [relF, List.getD_cons_zero, List.getD_cons_succ, List.foldl_cons, List.foldl_nil, dstAt, List.getElem?_cons_zero, List.getElem?_cons_succ, Option.bind_some]
           go_frame
           rw [h38]
           go_wp2_with fail
           exact ⟨rfl, Below.refl _ _, rfl, rfl⟩
          | 44, _, hi =>
           obtain rfl := Option.some.inj hi
           have h38 : vs 38 = _ := hv 38 (by decide)
           simp only [relF, List.getD_cons_zero, List.getD_cons_succ, List.foldl_cons, List.foldl_nil, dstAt, List.getElem?_cons_zero, List.getElem?_cons_succ, Option.bind_some]
           go_frame
           rw [h38]
           go_wp2_with fail
           exact ⟨rfl, Below.refl _ _, rfl, rfl⟩
          | 45, _, hi =>
           obtain rfl := Option.some.inj hi
           have h38 : vs 38 = _ := hv 38 (by decide)
           simp only [relF, List.getD_cons_zero, List.getD_cons_succ, List.foldl_cons, List.foldl_nil, dstAt, List.getElem?_cons_zero, List.getElem?_cons_succ, Option.bind_some]
           go_frame
           rw [h38]
           go_wp2_with fail
           exact ⟨rfl, Below.refl _ _, rfl, rfl⟩
          | 46, _, hi =>
           obtain rfl := Option.some.inj hi
           have h38 : vs 38 = _ := hv 38 (by decide)
           have h44 : vs 44 = _ := hv 44 (by decide)
           have h45 : vs 45 = _ := hv 45 (by decide)
           simp only [relF, List.getD_cons_zero, List.getD_cons_succ, List.foldl_cons, List.foldl_nil, dstAt, List.getElem?_cons_zero, List.getElem?_cons_succ, Option.bind_some]
           go_frame
           rw [h38, h44, h45]
           go_wp2_with fail
           exact ⟨rfl, Below.refl _ _, rfl, rfl⟩
          | 47, _, hi =>
           obtain rfl := Option.some.inj hi
           have h38 : vs 38 = _ := hv 38 (by decide)
           have h46 : vs 46 = _ := hv 46 (by decide)
           have hcell := (HK2.out.below (Nat.le_refl _) b2).get HLI.out
           simp only [relF, List.getD_cons_zero, List.getD_cons_succ, List.foldl_cons, List.foldl_nil, dstAt, List.getElem?_cons_zero, List.getElem?_cons_succ, Option.bind_some]
           go_frame
           rw [h38, h46]
           go_wp2_with fail
           exact ⟨rfl, Below.refl _ _, rfl, rfl⟩
          | 48, _, hi =>
           obtain rfl := Option.some.inj hi
           have h38 : vs 38 = _ := hv 38 (by decide)
           simp only [relF, List.getD_cons_zero, List.getD_cons_succ, List.foldl_cons, List.foldl_nil, dstAt, List.getElem?_cons_zero, List.getElem?_cons_succ, Option.bind_some]
           go_frame
           rw [h38]
           go_wp2_with fail
           exact ⟨rfl, Below.refl _ _, rfl, rfl⟩
          | 49, _, hi =>
           obtain rfl := Option.some.inj hi
           have h38 : vs 38 = _ := hv 38 (by decide)
           have h39 : vs 39 = _ := hv 39 (by decide)
           have h42 : vs 42 = _ := hv 42 (by decide)
           have h43 : vs 43 = _ := hv 43 (by decide)
           have h47 : vs 47 = _ := hv 47 (by decide)
           have h48 : vs 48 = _ := hv 48 (by decide)
           simp only [relF, List.getD_cons_zero, List.getD_cons_succ, List.foldl_cons, List.foldl_nil, dstAt, List.getElem?_cons_zero, List.getElem?_cons_succ, Option.bind_some]
           go_frame
           rw [h38, h39, h42, h43, h47, h48]
           go_wp2_with fail
           refine (treeCheck_any w4 R HRL.out (mK + 1) i (by omega) (by omega) l (by omega) _ _ _ PR (HP2.out.below (Nat.le_refl _) b2) hL2).mono ?_
           rintro e w3 ⟨rfl, b3⟩
           go_wp2_with fail
           exact ⟨rfl, b3, rfl, rfl⟩
          | 50, _, hi =>
           obtain rfl := Option.some.inj hi
           have h38 : vs 38 = _ := hv 38 (by decide)
           simp only [relF, List.getD_cons_zero, List.getD_cons_succ, List.foldl_cons, List.foldl_nil, dstAt, List.getElem?_cons_zero, List.getElem?_cons_succ, Option.bind_some]
           go_frame
           rw [h38]
           go_wp2_with ((with_reducible show wpList _ _ _ (⟨some 132, _, _, _, _, _⟩ :: _) _ _); refine wpList_load_hash (op := ⟨some 132, _, _, _, _, _⟩) (by kernel_rfl) _ rfl v12.heap.size rfl R HRL.out _ _ ((b2.block _ (lt_of_block HX2.out)).trans HX2.out) ?_)
           exact ⟨rfl, Below.refl _ _, rfl, rfl⟩
          | 51, _, hi =>
           obtain rfl := Option.some.inj hi
           have h38 : vs 38 = _ := hv 38 (by decide)
           simp only [relF, List.getD_cons_zero, List.getD_cons_succ, List.foldl_cons, List.foldl_nil, dstAt, List.getElem?_cons_zero, List.getElem?_cons_succ, Option.bind_some]
           go_frame
           rw [h38]
           go_wp2_with fail
           exact ⟨rfl, Below.refl _ _, rfl, rfl⟩
          | 52, _, hi =>
           obtain rfl := Option.some.inj hi
           have h38 : vs 38 = _ := hv 38 (by decide)
           have h51 : vs 51 = _ := hv 51 (by decide)
           simp only [relF, List.getD_cons_zero, List.getD_cons_succ, List.foldl_cons, List.foldl_nil, dstAt, List.getElem?_cons_zero, List.getElem?_cons_succ, Option.bind_some]
           go_frame
           rw [h38, h51]
           go_wp2_with fail
           exact ⟨rfl, Below.refl _ _, rfl, rfl⟩
          | 53, _, hi =>
           obtain rfl := Option.some.inj hi
           have h38 : vs 38 = _ := hv 38 (by decide)
           have h52 : vs 52 = _ := hv 52 (by decide)
           simp only [relF, List.getD_cons_zero, List.getD_cons_succ, List.foldl_cons, List.foldl_nil, dstAt, List.getElem?_cons_zero, List.getElem?_cons_succ, Option.bind_some]
           go_frame
           rw [h38, h52]
           go_wp2_with fail
           exact ⟨rfl, Below.refl _ _, rfl, by first | rfl | (show slotOf _ _ = _; simp [slotOf]; done) | (show slotOf _ _ = _; simp [slotOf]; omega)⟩
          | 54, _, hi =>
           obtain rfl := Option.some.inj hi
           have h38 : vs 38 = _ := hv 38 (by decide)
           simp only [relF, List.getD_cons_zero, List.getD_cons_succ, List.foldl_cons, List.foldl_nil, dstAt, List.getElem?_cons_zero, List.getElem?_cons_succ, Option.bind_some]
           go_frame
           rw [h38]
           go_wp2_with fail
           exact ⟨rfl, Below.refl _ _, rfl, rfl⟩
          | 55, _, hi =>
           obtain rfl := Option.some.inj hi
           have h38 : vs 38 = _ := hv 38 (by decide)
           simp only [relF, List.getD_cons_zero, List.getD_cons_succ, List.foldl_cons, List.foldl_nil, dstAt, List.getElem?_cons_zero, List.getElem?_cons_succ, Option.bind_some]
           go_frame
           rw [h38]
           go_wp2_with fail
           exact ⟨rfl, Below.refl _ _, rfl, rfl⟩
          | 56, _, hi =>
           obtain rfl := Option.some.inj hi
           have h38 : vs 38 = _ := hv 38 (by decide)
           simp only [relF, List.getD_cons_zero, List.getD_cons_succ, List.foldl_cons, List.foldl_nil, dstAt, List.getElem?_cons_zero, List.getElem?_cons_succ, Option.bind_some]
           go_frame
           rw [h38]
           go_wp2_with fail
           exact ⟨rfl, Below.refl _ _, rfl, rfl⟩
          | 57, _, hi =>
           obtain rfl := Option.some.inj hi
           have h38 : vs 38 = _ := hv 38 (by decide)
           have h55 : vs 55 = _ := hv 55 (by decide)
           have h56 : vs 56 = _ := hv 56 (by decide)
           simp only [relF, List.getD_cons_zero, List.getD_cons_succ, List.foldl_cons, List.foldl_nil, dstAt, List.getElem?_cons_zero, List.getElem?_cons_succ, Option.bind_some]
           go_frame
           rw [h38, h55, h56]
           go_wp2_with fail
           exact ⟨rfl, Below.refl _ _, rfl, rfl⟩
          | 58, _, hi =>
           obtain rfl := Option.some.inj hi
           have h38 : vs 38 = _ := hv 38 (by decide)
           have h57 : vs 57 = _ := hv 57 (by decide)
           have hcell := (HK2.out.below (Nat.le_refl _) b2).get HLI.out
           simp only [relF, List.getD_cons_zero, List.getD_cons_succ, List.foldl_cons, List.foldl_nil, dstAt, List.getElem?_cons_zero, List.getElem?_cons_succ, Option.bind_some]
           go_frame
           rw [h38, h57]
           go_wp2_with fail
           exact ⟨rfl, Below.refl _ _, rfl, rfl⟩
          | 59, _, hi =>
           obtain rfl := Option.some.inj hi
           have h38 : vs 38 = _ := hv 38 (by decide)
           simp only [relF, List.getD_cons_zero, List.getD_cons_succ, List.foldl_cons, List.foldl_nil, dstAt, List.getElem?_cons_zero, List.getElem?_cons_succ, Option.bind_some]
           go_frame
           rw [h38]
           go_wp2_with fail
           exact ⟨rfl, Below.refl _ _, rfl, rfl⟩
          | 60, _, hi =>
           obtain rfl := Option.some.inj hi
           have h38 : vs 38 = _ := hv 38 (by decide)
           have h50 : vs 50 = _ := hv 50 (by decide)
           have h53 : vs 53 = _ := hv 53 (by decide)
           have h54 : vs 54 = _ := hv 54 (by decide)
           have h58 : vs 58 = _ := hv 58 (by decide)
           have h59 : vs 59 = _ := hv 59 (by decide)
           simp only [relF, List.getD_cons_zero, List.getD_cons_succ, List.foldl_cons, List.foldl_nil, dstAt, List.getElem?_cons_zero, List.getElem?_cons_succ, Option.bind_some]
           go_frame
           rw [h38, h50, h53, h54, h58, h59]
           go_wp2_with fail
           refine (refCheck_any w4 R HRL.out (mK + 1) i (by omega) (by omega) l (by omega) _ _ _ PR (HP2.out.below (Nat.le_refl _) b2)).mono ?_
           rintro e w3 ⟨rfl, b3⟩
           go_wp2_with fail
           exact ⟨rfl, b3, rfl, rfl⟩
          | 61, _, hi =>
           obtain rfl := Option.some.inj hi
           have h38 : vs 38 = _ := hv 38 (by decide)
           have h49 : vs 49 = _ := hv 49 (by decide)
           have h60 : vs 60 = _ := hv 60 (by decide)
           simp only [relF, List.getD_cons_zero, List.getD_cons_succ, List.foldl_cons, List.foldl_nil, dstAt, List.getElem?_cons_zero, List.getElem?_cons_succ, Option.bind_some]
           go_frame
           rw [h38, h49, h60]
           go_wp2_with fail
           exact ⟨rfl, Below.refl _ _, rfl, by first | rfl | (show slotOf _ _ = _; simp [slotOf])⟩
          | 62, _, hi =>
           obtain rfl := Option.some.inj hi
           have h38 : vs 38 = _ := hv 38 (by decide)
           have h61 : vs 61 = _ := hv 61 (by decide)
           simp only [relF, List.getD_cons_zero, List.getD_cons_succ, List.foldl_cons, List.foldl_nil, dstAt, List.getElem?_cons_zero, List.getElem?_cons_succ, Option.bind_some]
           go_frame
           rw [h38, h61]
           go_wp2_with fail
           exact ⟨rfl, Below.refl _ _, rfl, rfl⟩
          | 63, _, hi =>
           obtain rfl := Option.some.inj hi
           have h62 : vs 62 = _ := hv 62 (by decide)
           simp only [relF, List.getD_cons_zero, List.getD_cons_succ, List.foldl_cons, List.foldl_nil, dstAt, List.getElem?_cons_zero, List.getElem?_cons_succ, Option.bind_some]
           go_frame
           rw [h62]
           go_wp2_with fail
           exact ⟨rfl, Below.refl _ _, rfl, rfl⟩
          | nx + 64, him, _ => exact absurd him (by omega)
         ·
          intro w4 b2 vs hv
          have hL2 := HL2.out.below b2
          have h63 : vs 63 = _ := hv 63 (by decide)
          simp only [relF, List.drop_succ_cons, List.drop_zero, List.length_cons, List.length_nil, Nat.zero_add, Nat.reduceAdd, List.range, List.range.loop, List.foldl_cons, List.foldl_nil, dstAt, List.getElem?_cons_zero, List.getElem?_cons_succ, Option.bind_some]
          go_frame
          rw [h63]
          go_wp2_with fail
          go_ret
          exact ⟨rfl, B2.trans (b2.mono B2.size)⟩
        ·
         have HBD := Lib.hid hb; clear hb
         refine wp_region_rel [[], [], [1], [], [], [], [0, 2, 3, 4, 5], [], [], [8], [], [], [], [7, 9, 10, 11, 12], [6, 13], [14], [15], [15], [15, 17], [15], [15], [15], [15, 20, 21], [15, 22], [15], [15, 16, 18, 19, 23, 24], [15], [15], [15, 27], [15], [15], [15], [15, 30, 31], [15, 32], [15], [15, 26, 28, 29, 33, 34], [15, 25, 35], [15, 36], [37], [38], [38], [38, 40], [38, 41], [38], [38], [38], [38, 44, 45], [38, 46], [38], [38, 39, 42, 43, 47, 48], [38], [38], [38, 51], [38, 52], [38], [38], [38], [38, 55, 56], [38, 57], [38], [38, 50, 53, 54, 58, 59], [38, 49, 60], [38, 61], [62]] (tarA v12.heap.size bK oK mK cK 1 1 i x (some ⟨bP, oP, none⟩) K PR R f l) 145 (by kernel_rfl) (by kernel_rfl) (by kernel_rfl) (tarA_mono v12.heap.size bK oK mK cK 1 1 i x (some ⟨bP, oP, none⟩) K PR R f l) ?_ ?_
         ·
          intro ix op hi w4 b2 vs hv
          have him : ix < 64 := (List.getElem?_eq_some_iff.1 hi).1
          have hL2 := HL2.out.below b2
          match ix, him, hi with
          | 0, _, hi =>
           obtain rfl := Option.some.inj hi
           simp only [relF, List.getD_cons_zero, List.getD_cons_succ, List.foldl_cons, List.foldl_nil, dstAt, List.getElem?_cons_zero, List.getElem?_cons_succ, Option.bind_some]
           go_wp2_with ((with_reducible show wpList _ _ _ (⟨some 82, _, _, _, _, _⟩ :: _) _ _); refine wpList_load_hash (op := ⟨some 82, _, _, _, _, _⟩) (by kernel_rfl) _ rfl v12.heap.size rfl R HRL.out _ _ ((b2.block _ (lt_of_block HX2.out)).trans HX2.out) ?_)
           exact ⟨rfl, Below.refl _ _, rfl, rfl⟩
          | 1, _, hi =>
           obtain rfl := Option.some.inj hi
           simp only [relF, List.getD_cons_zero, List.getD_cons_succ, List.foldl_cons, List.foldl_nil, dstAt, List.getElem?_cons_zero, List.getElem?_cons_succ, Option.bind_some]
           go_wp2_with fail
           exact ⟨rfl, Below.refl _ _, rfl, rfl⟩
          | 2, _, hi =>
           obtain rfl := Option.some.inj hi
           have h1 : vs 1 = _ := hv 1 (by decide)
           simp only [relF, List.getD_cons_zero, List.getD_cons_succ, List.foldl_cons, List.foldl_nil, dstAt, List.getElem?_cons_zero, List.getElem?_cons_succ, Option.bind_some]
           go_frame
           rw [h1]
           go_wp2_with fail
           exact ⟨rfl, Below.refl _ _, rfl, rfl⟩
          | 3, _, hi =>
           obtain rfl := Option.some.inj hi
           simp only [relF, List.getD_cons_zero, List.getD_cons_succ, List.foldl_cons, List.foldl_nil, dstAt, List.getElem?_cons_zero, List.getElem?_cons_succ, Option.bind_some]
           go_wp2_with fail
           exact ⟨rfl, Below.refl _ _, rfl, rfl⟩
          | 4, _, hi =>
           obtain rfl := Option.some.inj hi
           simp only [relF, List.getD_cons_zero, List.getD_cons_succ, List.foldl_cons, List.foldl_nil, dstAt, List.getElem?_cons_zero, List.getElem?_cons_succ, Option.bind_some]
           go_wp2_with fail
           exact ⟨rfl, Below.refl _ _, rfl, rfl⟩
          | 5, _, hi =>
           obtain rfl := Option.some.inj hi
           simp only [relF, List.getD_cons_zero, List.getD_cons_succ, List.foldl_cons, List.foldl_nil, dstAt, List.getElem?_cons_zero, List.getElem?_cons_succ, Option.bind_some]
           go_wp2_with fail
           exact ⟨rfl, Below.refl _ _, rfl, rfl⟩
          | 6, _, hi =>
           obtain rfl := Option.some.inj hi
           have h0 : vs 0 = _ := hv 0 (by decide)
           have h2 : vs 2 = _ := hv 2 (by decide)
           have h3 : vs 3 = _ := hv 3 (by decide)
           have h4 : vs 4 = _ := hv 4 (by decide)
           have h5 : vs 5 = _ := hv 5 (by decide)
           simp only [relF, List.getD_cons_zero, List.getD_cons_succ, List.foldl_cons, List.foldl_nil, dstAt, List.getElem?_cons_zero, List.getElem?_cons_succ, Option.bind_some]
           go_frame
           rw [h0, h2, h3, h4, h5]
           go_wp2_with fail
           refine (treeCheck_any w4 R HRL.out mK i (by omega) (by omega) f (by omega) _ _ _ PR (HP2.out.below (Nat.le_refl _) b2) hL2).mono ?_
           rintro e w3 ⟨rfl, b3⟩
           go_wp2_with fail
           exact ⟨rfl, b3, rfl, rfl⟩
          | 7, _, hi =>
           obtain rfl := Option.some.inj hi
           simp only [relF, List.getD_cons_zero, List.getD_cons_succ, List.foldl_cons, List.foldl_nil, dstAt, List.getElem?_cons_zero, List.getElem?_cons_succ, Option.bind_some]
           go_wp2_with ((with_reducible show wpList _ _ _ (⟨some 89, _, _, _, _, _⟩ :: _) _ _); refine wpList_load_hash (op := ⟨some 89, _, _, _, _, _⟩) (by kernel_rfl) _ rfl v12.heap.size rfl R HRL.out _ _ ((b2.block _ (lt_of_block HX2.out)).trans HX2.out) ?_)
           exact ⟨rfl, Below.refl _ _, rfl, rfl⟩
          | 8, _, hi =>
           obtain rfl := Option.some.inj hi
           simp only [relF, List.getD_cons_zero, List.getD_cons_succ, List.foldl_cons, List.foldl_nil, dstAt, List.getElem?_cons_zero, List.getElem?_cons_succ, Option.bind_some]
           go_wp2_with fail
           exact ⟨rfl, Below.refl _ _, rfl, rfl⟩
          | 9, _, hi =>
           obtain rfl := Option.some.inj hi
           have h8 : vs 8 = _ := hv 8 (by decide)
           simp only [relF, List.getD_cons_zero, List.getD_cons_succ, List.foldl_cons, List.foldl_nil, dstAt, List.getElem?_cons_zero, List.getElem?_cons_succ, Option.bind_some]
           go_frame
           rw [h8]
           go_wp2_with fail
           exact ⟨rfl, Below.refl _ _, rfl, rfl⟩
          | 10, _, hi =>
           obtain rfl := Option.some.inj hi
           simp only [relF, List.getD_cons_zero, List.getD_cons_succ, List.foldl_cons, List.foldl_nil, dstAt, List.getElem?_cons_zero, List.getElem?_cons_succ, Option.bind_some]
           go_wp2_with fail
           exact ⟨rfl, Below.refl _ _, rfl, rfl⟩
          | 11, _, hi =>
           obtain rfl := Option.some.inj hi
           simp only [relF, List.getD_cons_zero, List.getD_cons_succ, List.foldl_cons, List.foldl_nil, dstAt, List.getElem?_cons_zero, List.getElem?_cons_succ, Option.bind_some]
           go_wp2_with fail
           exact ⟨rfl, Below.refl _ _, rfl, rfl⟩
          | 12, _, hi =>
           obtain rfl := Option.some.inj hi
           simp only [relF, List.getD_cons_zero, List.getD_cons_succ, List.foldl_cons, List.foldl_nil, dstAt, List.getElem?_cons_zero, List.getElem?_cons_succ, Option.bind_some]
           go_wp2_with fail
           exact ⟨rfl, Below.refl _ _, rfl, rfl⟩
          | 13, _, hi =>
           obtain rfl := Option.some.inj hi
           have h7 : vs 7 = _ := hv 7 (by decide)
           have h9 : vs 9 = _ := hv 9 (by decide)
           have h10 : vs 10 = _ := hv 10 (by decide)
           have h11 : vs 11 = _ := hv 11 (by decide)
           have h12 : vs 12 = _ := hv 12 (by decide)
           simp only [relF, List.getD_cons_zero, List.getD_cons_succ, List.foldl_cons, List.foldl_nil, dstAt, List.getElem?_cons_zero, List.getElem?_cons_succ, Option.bind_some]
           go_frame
           rw [h7, h9, h10, h11, h12]
           go_wp2_with fail
           refine (refCheck_any w4 R HRL.out mK i (by omega) (by omega) f (by omega) _ _ _ PR (HP2.out.below (Nat.le_refl _) b2)).mono ?_
           rintro e w3 ⟨rfl, b3⟩
           go_wp2_with fail
           exact ⟨rfl, b3, rfl, rfl⟩
          | 14, _, hi =>
           obtain rfl := Option.some.inj hi
           have h6 : vs 6 = _ := hv 6 (by decide)
           have h13 : vs 13 = _ := hv 13 (by decide)
           simp only [relF, List.getD_cons_zero, List.getD_cons_succ, List.foldl_cons, List.foldl_nil, dstAt, List.getElem?_cons_zero, List.getElem?_cons_succ, Option.bind_some]
           go_frame
           rw [h6, h13]
           go_wp2_with fail
           exact ⟨rfl, Below.refl _ _, rfl, by first | rfl | (show slotOf _ _ = _; simp [slotOf])⟩
          | 15, _, hi =>
           obtain rfl := Option.some.inj hi
           have h14 : vs 14 = _ := hv 14 (by decide)
           simp only [relF, List.getD_cons_zero, List.getD_cons_succ, List.foldl_cons, List.foldl_nil, dstAt, List.getElem?_cons_zero, List.getElem?_cons_succ, Option.bind_some]
           go_frame
           rw [h14]
           go_wp2_with fail
           exact ⟨rfl, Below.refl _ _, rfl, rfl⟩
          | 16, _, hi =>
           obtain rfl := Option.some.inj hi
           have h15 : vs 15 = _ := hv 15 (by decide)
           simp only [relF, List.getD_cons_zero, List.getD_cons_succ, List.foldl_cons, List.foldl_nil, dstAt, List.getElem?_cons_zero, List.getElem?_cons_succ, Option.bind_some]
           go_frame
           rw [h15]
           go_wp2_with ((with_reducible show wpList _ _ _ (⟨some 98, _, _, _, _, _⟩ :: _) _ _); refine wpList_load_hash (op := ⟨some 98, _, _, _, _, _⟩) (by kernel_rfl) _ rfl v12.heap.size rfl R HRL.out _ _ ((b2.block _ (lt_of_block HX2.out)).trans HX2.out) ?_)
           exact ⟨rfl, Below.refl _ _, rfl, rfl⟩
          | 17, _, hi =>
           obtain rfl := Option.some.inj hi
           have h15 : vs 15 = _ := hv 15 (by decide)
           simp only [relF, List.getD_cons_zero, List.getD_cons_succ, List.foldl_cons, List.foldl_nil, dstAt, List.getElem?_cons_zero, List.getElem?_cons_succ, Option.bind_some]
           go_frame
           rw [h15]
           go_wp2_with fail
           exact ⟨rfl, Below.refl _ _, rfl, rfl⟩
          | 18, _, hi =>
           obtain rfl := Option.some.inj hi
           have h15 : vs 15 = _ := hv 15 (by decide)
           have h17 : vs 17 = _ := hv 17 (by decide)
           simp only [relF, List.getD_cons_zero, List.getD_cons_succ, List.foldl_cons, List.foldl_nil, dstAt, List.getElem?_cons_zero, List.getElem?_cons_succ, Option.bind_some]
           go_frame
           rw [h15, h17]
           go_wp2_with fail
           exact ⟨rfl, Below.refl _ _, rfl, rfl⟩
          | 19, _, hi =>
           obtain rfl := Option.some.inj hi
           have h15 : vs 15 = _ := hv 15 (by decide)
           simp only [relF, List.getD_cons_zero, List.getD_cons_succ, List.foldl_cons, List.foldl_nil, dstAt, List.getElem?_cons_zero, List.getElem?_cons_succ, Option.bind_some]
           go_frame
           rw [h15]
           go_wp2_with fail
           exact ⟨rfl, Below.refl _ _, rfl, rfl⟩
          | 20, _, hi =>
           obtain rfl := Option.some.inj hi
           have h15 : vs 15 = _ := hv 15 (by decide)
           simp only [relF, List.getD_cons_zero, List.getD_cons_succ, List.foldl_cons, List.foldl_nil, dstAt, List.getElem?_cons_zero, List.getElem?_cons_succ, Option.bind_some]
           go_frame
           rw [h15]
           go_wp2_with fail
           exact ⟨rfl, Below.refl _ _, rfl, rfl⟩
          | 21, _, hi =>
           obtain rfl := Option.some.inj hi
           have h15 : vs 15 = _ := hv 15 (by decide)
           simp only [relF, List.getD_cons_zero, List.getD_cons_succ, List.foldl_cons, List.foldl_nil, dstAt, List.getElem?_cons_zero, List.getElem?_cons_succ, Option.bind_some]
           go_frame
           rw [h15]
           go_wp2_with fail
           exact ⟨rfl, Below.refl _ _, rfl, rfl⟩
          | 22, _, hi =>
           obtain rfl := Option.some.inj hi
           have h15 : vs 15 = _ := hv 15 (by decide)
           have h20 : vs 20 = _ := hv 20 (by decide)
           have h21 : vs 21 = _ := hv 21 (by decide)
           simp only [relF, List.getD_cons_zero, List.getD_cons_succ, List.foldl_cons, List.foldl_nil, dstAt, List.getElem?_cons_zero, List.getElem?_cons_succ, Option.bind_some]
           go_frame
           rw [h15, h20, h21]
           go_wp2_with fail
           exact ⟨rfl, Below.refl _ _, rfl, rfl⟩
          | 23, _, hi =>
           obtain rfl := Option.some.inj hi
           have h15 : vs 15 = _ := hv 15 (by decide)
           have h22 : vs 22 = _ := hv 22 (by decide)
           have hcell := (HK2.out.below (Nat.le_refl _) b2).get HLI.out
           simp only [relF, List.getD_cons_zero, List.getD_cons_succ, List.foldl_cons, List.foldl_nil, dstAt, List.getElem?_cons_zero, List.getElem?_cons_succ, Option.bind_some]
           go_frame
           rw [h15, h22]
           go_wp2_with fail
           exact ⟨rfl, Below.refl _ _, rfl, rfl⟩
          | 24, _, hi =>
           obtain rfl := Option.some.inj hi
           have h15 : vs 15 = _ := hv 15 (by decide)
           simp only [relF, List.getD_cons_zero, List.getD_cons_succ, List.foldl_cons, List.foldl_nil, dstAt, List.getElem?_cons_zero, List.getElem?_cons_succ, Option.bind_some]
           go_frame
           rw [h15]
           go_wp2_with fail
           exact ⟨rfl, Below.refl _ _, rfl, rfl⟩
          | 25, _, hi =>
           obtain rfl := Option.some.inj hi
           have h15 : vs 15 = _ := hv 15 (by decide)
           have h16 : vs 16 = _ := hv 16 (by decide)
           have h18 : vs 18 = _ := hv 18 (by decide)
           have h19 : vs 19 = _ := hv 19 (by decide)
           have h23 : vs 23 = _ := hv 23 (by decide)
           have h24 : vs 24 = _ := hv 24 (by decide)
           simp only [relF, List.getD_cons_zero, List.getD_cons_succ, List.foldl_cons, List.foldl_nil, dstAt, List.getElem?_cons_zero, List.getElem?_cons_succ, Option.bind_some]
           go_frame
           rw [h15, h16, h18, h19, h23, h24]
           go_wp2_with fail
           refine (treeCheck_bad w4 R HRL.out _ _ HBD.out _ _ _ _).mono ?_
           rintro e w3 ⟨rfl, b3⟩
           go_wp2_with fail
           exact ⟨rfl, b3, rfl, rfl⟩
          | 26, _, hi =>
           obtain rfl := Option.some.inj hi
           have h15 : vs 15 = _ := hv 15 (by decide)
           simp only [relF, List.getD_cons_zero, List.getD_cons_succ, List.foldl_cons, List.foldl_nil, dstAt, List.getElem?_cons_zero, List.getElem?_cons_succ, Option.bind_some]
           go_frame
           rw [h15]
           go_wp2_with ((with_reducible show wpList _ _ _ (⟨some 108, _, _, _, _, _⟩ :: _) _ _); refine wpList_load_hash (op := ⟨some 108, _, _, _, _, _⟩) (by kernel_rfl) _ rfl v12.heap.size rfl R HRL.out _ _ ((b2.block _ (lt_of_block HX2.out)).trans HX2.out) ?_)
           exact ⟨rfl, Below.refl _ _, rfl, rfl⟩
          | 27, _, hi =>
           obtain rfl := Option.some.inj hi
           have h15 : vs 15 = _ := hv 15 (by decide)
           simp only [relF, List.getD_cons_zero, List.getD_cons_succ, List.foldl_cons, List.foldl_nil, dstAt, List.getElem?_cons_zero, List.getElem?_cons_succ, Option.bind_some]
           go_frame
           rw [h15]
           go_wp2_with fail
           exact ⟨rfl, Below.refl _ _, rfl, rfl⟩
          | 28, _, hi =>
           obtain rfl := Option.some.inj hi
           have h15 : vs 15 = _ := hv 15 (by decide)
           have h27 : vs 27 = _ := hv 27 (by decide)
           simp only [relF, List.getD_cons_zero, List.getD_cons_succ, List.foldl_cons, List.foldl_nil, dstAt, List.getElem?_cons_zero, List.getElem?_cons_succ, Option.bind_some]
           go_frame
           rw [h15, h27]
           go_wp2_with fail
           exact ⟨rfl, Below.refl _ _, rfl, rfl⟩
          | 29, _, hi =>
           obtain rfl := Option.some.inj hi
           have h15 : vs 15 = _ := hv 15 (by decide)
           simp only [relF, List.getD_cons_zero, List.getD_cons_succ, List.foldl_cons, List.foldl_nil, dstAt, List.getElem?_cons_zero, List.getElem?_cons_succ, Option.bind_some]
           go_frame
           rw [h15]
           go_wp2_with fail
           exact ⟨rfl, Below.refl _ _, rfl, rfl⟩
          | 30, _, hi =>
           obtain rfl := Option.some.inj hi
           have h15 : vs 15 = _ := hv 15 (by decide)
           simp only [relF, List.getD_cons_zero, List.getD_cons_succ, List.foldl_cons, List.foldl_nil, dstAt, List.getElem?_cons_zero, List.getElem?_cons_succ, Option.bind_some]
           go_frame
           rw [h15]
           go_wp2_with fail
           exact ⟨rfl, Below.refl _ _, rfl, rfl⟩
          | 31, _, hi =>
           obtain rfl := Option.some.inj hi
           have h15 : vs 15 = _ := hv 15 (by decide)
           simp only [relF, List.getD_cons_zero, List.getD_cons_succ, List.foldl_cons, List.foldl_nil, dstAt, List.getElem?_cons_zero, List.getElem?_cons_succ, Option.bind_some]
           go_frame
           rw [h15]
           go_wp2_with fail
           exact ⟨rfl, Below.refl _ _, rfl, rfl⟩
          | 32, _, hi =>
           obtain rfl := Option.some.inj hi
           have h15 : vs 15 = _ := hv 15 (by decide)
           have h30 : vs 30 = _ := hv 30 (by decide)
           have h31 : vs 31 = _ := hv 31 (by decide)
           simp only [relF, List.getD_cons_zero, List.getD_cons_succ, List.foldl_cons, List.foldl_nil, dstAt, List.getElem?_cons_zero, List.getElem?_cons_succ, Option.bind_some]
           go_frame
           rw [h15, h30, h31]
           go_wp2_with fail
           exact ⟨rfl, Below.refl _ _, rfl, rfl⟩
          | 33, _, hi =>
           obtain rfl := Option.some.inj hi
           have h15 : vs 15 = _ := hv 15 (by decide)
           have h32 : vs 32 = _ := hv 32 (by decide)
           have hcell := (HK2.out.below (Nat.le_refl _) b2).get HLI.out
           simp only [relF, List.getD_cons_zero, List.getD_cons_succ, List.foldl_cons, List.foldl_nil, dstAt, List.getElem?_cons_zero, List.getElem?_cons_succ, Option.bind_some]
           go_frame
           rw [h15, h32]
           go_wp2_with fail
           exact ⟨rfl, Below.refl _ _, rfl, rfl⟩
          | 34, _, hi =>
           obtain rfl := Option.some.inj hi
           have h15 : vs 15 = _ := hv 15 (by decide)
           simp only [relF, List.getD_cons_zero, List.getD_cons_succ, List.foldl_cons, List.foldl_nil, dstAt, List.getElem?_cons_zero, List.getElem?_cons_succ, Option.bind_some]
           go_frame
           rw [h15]
           go_wp2_with fail
           exact ⟨rfl, Below.refl _ _, rfl, rfl⟩
          | 35, _, hi =>
           obtain rfl := Option.some.inj hi
           have h15 : vs 15 = _ := hv 15 (by decide)
           have h26 : vs 26 = _ := hv 26 (by decide)
           have h28 : vs 28 = _ := hv 28 (by decide)
           have h29 : vs 29 = _ := hv 29 (by decide)
           have h33 : vs 33 = _ := hv 33 (by decide)
           have h34 : vs 34 = _ := hv 34 (by decide)
           simp only [relF, List.getD_cons_zero, List.getD_cons_succ, List.foldl_cons, List.foldl_nil, dstAt, List.getElem?_cons_zero, List.getElem?_cons_succ, Option.bind_some]
           go_frame
           rw [h15, h26, h28, h29, h33, h34]
           go_wp2_with fail
           refine (refCheck_bad w4 R _ _ HBD.out _ _ _ _).mono ?_
           rintro e w3 ⟨rfl, b3⟩
           go_wp2_with fail
           exact ⟨rfl, b3, rfl, rfl⟩
          | 36, _, hi =>
           obtain rfl := Option.some.inj hi
           have h15 : vs 15 = _ := hv 15 (by decide)
           have h25 : vs 25 = _ := hv 25 (by decide)
           have h35 : vs 35 = _ := hv 35 (by decide)
           simp only [relF, List.getD_cons_zero, List.getD_cons_succ, List.foldl_cons, List.foldl_nil, dstAt, List.getElem?_cons_zero, List.getElem?_cons_succ, Option.bind_some]
           go_frame
           rw [h15, h25, h35]
           go_wp2_with fail
           exact ⟨rfl, Below.refl _ _, rfl, by first | rfl | (show slotOf _ _ = _; simp [slotOf])⟩
          | 37, _, hi =>
           obtain rfl := Option.some.inj hi
           have h15 : vs 15 = _ := hv 15 (by decide)
           have h36 : vs 36 = _ := hv 36 (by decide)
           simp only [relF, List.getD_cons_zero, List.getD_cons_succ, List.foldl_cons, List.foldl_nil, dstAt, List.getElem?_cons_zero, List.getElem?_cons_succ, Option.bind_some]
           go_frame
           rw [h15, h36]
           go_wp2_with fail
           exact ⟨rfl, Below.refl _ _, rfl, rfl⟩
          | 38, _, hi =>
           obtain rfl := Option.some.inj hi
           have h37 : vs 37 = _ := hv 37 (by decide)
           simp only [relF, List.getD_cons_zero, List.getD_cons_succ, List.foldl_cons, List.foldl_nil, dstAt, List.getElem?_cons_zero, List.getElem?_cons_succ, Option.bind_some]
           go_frame
           rw [h37]
           go_wp2_with fail
           exact ⟨rfl, Below.refl _ _, rfl, rfl⟩
          | 39, _, hi =>
           obtain rfl := Option.some.inj hi
           have h38 : vs 38 = _ := hv 38 (by decide)
           simp only [relF, List.getD_cons_zero, List.getD_cons_succ, List.foldl_cons, List.foldl_nil, dstAt, List.getElem?_cons_zero, List.getElem?_cons_succ, Option.bind_some]
           go_frame
           rw [h38]
           go_wp2_with ((with_reducible show wpList _ _ _ (⟨some 121, _, _, _, _, _⟩ :: _) _ _); refine wpList_load_hash (op := ⟨some 121, _, _, _, _, _⟩) (by kernel_rfl) _ rfl v12.heap.size rfl R HRL.out _ _ ((b2.block _ (lt_of_block HX2.out)).trans HX2.out) ?_)
           exact ⟨rfl, Below.refl _ _, rfl, rfl⟩
          | 40, _, hi =>
           obtain rfl := Option.some.inj hi
           have h38 : vs 38 = _ := hv 38 (by decide)
           simp only [relF, List.getD_cons_zero, List.getD_cons_succ, List.foldl_cons, List.foldl_nil, dstAt, List.getElem?_cons_zero, List.getElem?_cons_succ, Option.bind_some]
           go_frame
           rw [h38]
           go_wp2_with fail
           exact ⟨rfl, Below.refl _ _, rfl, rfl⟩
          | 41, _, hi =>
           obtain rfl := Option.some.inj hi
           have h38 : vs 38 = _ := hv 38 (by decide)
           have h40 : vs 40 = _ := hv 40 (by decide)
           simp only [relF, List.getD_cons_zero, List.getD_cons_succ, List.foldl_cons, List.foldl_nil, dstAt, List.getElem?_cons_zero, List.getElem?_cons_succ, Option.bind_some]
           go_frame
           rw [h38, h40]
           go_wp2_with fail
           exact ⟨rfl, Below.refl _ _, rfl, rfl⟩
          | 42, _, hi =>
           obtain rfl := Option.some.inj hi
           have h38 : vs 38 = _ := hv 38 (by decide)
           have h41 : vs 41 = _ := hv 41 (by decide)
           simp only [relF, List.getD_cons_zero, List.getD_cons_succ, List.foldl_cons, List.foldl_nil, dstAt, List.getElem?_cons_zero, List.getElem?_cons_succ, Option.bind_some]
           go_frame
           rw [h38, h41]
           go_wp2_with fail
           exact ⟨rfl, Below.refl _ _, rfl, by first | rfl | (show slotOf _ _ = _; simp [slotOf]; done) | (show slotOf _ _ = _; simp [slotOf]; omega)⟩
          | 43, _, hi =>
           obtain rfl := Option.some.inj hi
           have h38 : vs 38 = _ := hv 38 (by decide)
           simp only [relF, List.getD_cons_zero, List.getD_cons_succ, List.foldl_cons, List.foldl_nil, dstAt, List.getElem?_cons_zero, List.getElem?_cons_succ, Option.bind_some]
           go_frame
           rw [h38]
           go_wp2_with fail
           exact ⟨rfl, Below.refl _ _, rfl, rfl⟩
          | 44, _, hi =>
           obtain rfl := Option.some.inj hi
           have h38 : vs 38 = _ := hv 38 (by decide)
           simp only [relF, List.getD_cons_zero, List.getD_cons_succ, List.foldl_cons, List.foldl_nil, dstAt, List.getElem?_cons_zero, List.getElem?_cons_succ, Option.bind_some]
           go_frame
           rw [h38]
           go_wp2_with fail
           exact ⟨rfl, Below.refl _ _, rfl, rfl⟩
          | 45, _, hi =>
           obtain rfl := Option.some.inj hi
           have h38 : vs 38 = _ := hv 38 (by decide)
           simp only [relF, List.getD_cons_zero, List.getD_cons_succ, List.foldl_cons, List.foldl_nil, dstAt, List.getElem?_cons_zero, List.getElem?_cons_succ, Option.bind_some]
           go_frame
           rw [h38]
           go_wp2_with fail
           exact ⟨rfl, Below.refl _ _, rfl, rfl⟩
          | 46, _, hi =>
           obtain rfl := Option.some.inj hi
           have h38 : vs 38 = _ := hv 38 (by decide)
           have h44 : vs 44 = _ := hv 44 (by decide)
           have h45 : vs 45 = _ := hv 45 (by decide)
           simp only [relF, List.getD_cons_zero, List.getD_cons_succ, List.foldl_cons, List.foldl_nil, dstAt, List.getElem?_cons_zero, List.getElem?_cons_succ, Option.bind_some]
           go_frame
           rw [h38, h44, h45]
           go_wp2_with fail
           exact ⟨rfl, Below.refl _ _, rfl, rfl⟩
          | 47, _, hi =>
           obtain rfl := Option.some.inj hi
           have h38 : vs 38 = _ := hv 38 (by decide)
           have h46 : vs 46 = _ := hv 46 (by decide)
           have hcell := (HK2.out.below (Nat.le_refl _) b2).get HLI.out
           simp only [relF, List.getD_cons_zero, List.getD_cons_succ, List.foldl_cons, List.foldl_nil, dstAt, List.getElem?_cons_zero, List.getElem?_cons_succ, Option.bind_some]
           go_frame
           rw [h38, h46]
           go_wp2_with fail
           exact ⟨rfl, Below.refl _ _, rfl, rfl⟩
          | 48, _, hi =>
           obtain rfl := Option.some.inj hi
           have h38 : vs 38 = _ := hv 38 (by decide)
           simp only [relF, List.getD_cons_zero, List.getD_cons_succ, List.foldl_cons, List.foldl_nil, dstAt, List.getElem?_cons_zero, List.getElem?_cons_succ, Option.bind_some]
           go_frame
           rw [h38]
           go_wp2_with fail
           exact ⟨rfl, Below.refl _ _, rfl, rfl⟩
          | 49, _, hi =>
           obtain rfl := Option.some.inj hi
           have h38 : vs 38 = _ := hv 38 (by decide)
           have h39 : vs 39 = _ := hv 39 (by decide)
           have h42 : vs 42 = _ := hv 42 (by decide)
           have h43 : vs 43 = _ := hv 43 (by decide)
           have h47 : vs 47 = _ := hv 47 (by decide)
           have h48 : vs 48 = _ := hv 48 (by decide)
           simp only [relF, List.getD_cons_zero, List.getD_cons_succ, List.foldl_cons, List.foldl_nil, dstAt, List.getElem?_cons_zero, List.getElem?_cons_succ, Option.bind_some]
           go_frame
           rw [h38, h39, h42, h43, h47, h48]
           go_wp2_with fail
           refine (treeCheck_any w4 R HRL.out (mK + 1) i (by omega) (by omega) l (by omega) _ _ _ PR (HP2.out.below (Nat.le_refl _) b2) hL2).mono ?_
           rintro e w3 ⟨rfl, b3⟩
           go_wp2_with fail
           exact ⟨rfl, b3, rfl, rfl⟩
          | 50, _, hi =>
           obtain rfl := Option.some.inj hi
           have h38 : vs 38 = _ := hv 38 (by decide)
           simp only [relF, List.getD_cons_zero, List.getD_cons_succ, List.foldl_cons, List.foldl_nil, dstAt, List.getElem?_cons_zero, List.getElem?_cons_succ, Option.bind_some]
           go_frame
           rw [h38]
           go_wp2_with ((with_reducible show wpList _ _ _ (⟨some 132, _, _, _, _, _⟩ :: _) _ _); refine wpList_load_hash (op := ⟨some 132, _, _, _, _, _⟩) (by kernel_rfl) _ rfl v12.heap.size rfl R HRL.out _ _ ((b2.block _ (lt_of_block HX2.out)).trans HX2.out) ?_)
           exact ⟨rfl, Below.refl _ _, rfl, rfl⟩
          | 51, _, hi =>
           obtain rfl := Option.some.inj hi
           have h38 : vs 38 = _ := hv 38 (by decide)
           simp only [relF, List.getD_cons_zero, List.getD_cons_succ, List.foldl_cons, List.foldl_nil, dstAt, List.getElem?_cons_zero, List.getElem?_cons_succ, Option.bind_some]
           go_frame
           rw [h38]
           go_wp2_with fail
           exact ⟨rfl, Below.refl _ _, rfl, rfl⟩
          | 52, _, hi =>
           obtain rfl := Option.some.inj hi
           have h38 : vs 38 = _ := hv 38 (by decide)
           have h51 : vs 51 = _ := hv 51 (by decide)
           simp only [relF, List.getD_cons_zero, List.getD_cons_succ, List.foldl_cons, List.foldl_nil, dstAt, List.getElem?_cons_zero, List.getElem?_cons_succ, Option.bind_some]
           go_frame
           rw [h38, h51]
           go_wp2_with fail
           exact ⟨rfl, Below.refl _ _, rfl, rfl⟩
          | 53, _, hi =>
           obtain rfl := Option.some.inj hi
           have h38 : vs 38 = _ := hv 38 (by decide)
           have h52 : vs 52 = _ := hv 52 (by decide)
           simp only [relF, List.getD_cons_zero, List.getD_cons_succ, List.foldl_cons, List.foldl_nil, dstAt, List.getElem?_cons_zero, List.getElem?_cons_succ, Option.bind_some]
           go_frame
           rw [h38, h52]
           go_wp2_with fail
           exact ⟨rfl, Below.refl _ _, rfl, by first | rfl | (show slotOf _ _ = _; simp [slotOf]; done) | (show slotOf _ _ = _; simp [slotOf]; omega)⟩
          | 54, _, hi =>
           obtain rfl := Option.some.inj hi
           have h38 : vs 38 = _ := hv 38 (by decide)
           simp only [relF, List.getD_cons_zero, List.getD_cons_succ, List.foldl_cons, List.foldl_nil, dstAt, List.getElem?_cons_zero, List.getElem?_cons_succ, Option.bind_some]
           go_frame
           rw [h38]
           go_wp2_with fail
           exact ⟨rfl, Below.refl _ _, rfl, rfl⟩
          | 55, _, hi =>
           obtain rfl := Option.some.inj hi
           have h38 : vs 38 = _ := hv 38 (by decide)
           simp only [relF, List.getD_cons_zero, List.getD_cons_succ, List.foldl_cons, List.foldl_nil, dstAt, List.getElem?_cons_zero, List.getElem?_cons_succ, Option.bind_some]
           go_frame
           rw [h38]
           go_wp2_with fail
           exact ⟨rfl, Below.refl _ _, rfl, rfl⟩
          | 56, _, hi =>
           obtain rfl := Option.some.inj hi
           have h38 : vs 38 = _ := hv 38 (by decide)
           simp only [relF, List.getD_cons_zero, List.getD_cons_succ, List.foldl_cons, List.foldl_nil, dstAt, List.getElem?_cons_zero, List.getElem?_cons_succ, Option.bind_some]
           go_frame
           rw [h38]
           go_wp2_with fail
           exact ⟨rfl, Below.refl _ _, rfl, rfl⟩
          | 57, _, hi =>
           obtain rfl := Option.some.inj hi
           have h38 : vs 38 = _ := hv 38 (by decide)
           have h55 : vs 55 = _ := hv 55 (by decide)
           have h56 : vs 56 = _ := hv 56 (by decide)
           simp only [relF, List.getD_cons_zero, List.getD_cons_succ, List.foldl_cons, List.foldl_nil, dstAt, List.getElem?_cons_zero, List.getElem?_cons_succ, Option.bind_some]
           go_frame
           rw [h38, h55, h56]
           go_wp2_with fail
           exact ⟨rfl, Below.refl _ _, rfl, rfl⟩
          | 58, _, hi =>
           obtain rfl := Option.some.inj hi
           have h38 : vs 38 = _ := hv 38 (by decide)
           have h57 : vs 57 = _ := hv 57 (by decide)
           have hcell := (HK2.out.below (Nat.le_refl _) b2).get HLI.out
           simp only [relF, List.getD_cons_zero, List.getD_cons_succ, List.foldl_cons, List.foldl_nil, dstAt, List.getElem?_cons_zero, List.getElem?_cons_succ, Option.bind_some]
           go_frame
           rw [h38, h57]
           go_wp2_with fail
           exact ⟨rfl, Below.refl _ _, rfl, rfl⟩
          | 59, _, hi =>
           obtain rfl := Option.some.inj hi
           have h38 : vs 38 = _ := hv 38 (by decide)
           simp only [relF, List.getD_cons_zero, List.getD_cons_succ, List.foldl_cons, List.foldl_nil, dstAt, List.getElem?_cons_zero, List.getElem?_cons_succ, Option.bind_some]
           go_frame
           rw [h38]
           go_wp2_with fail
           exact ⟨rfl, Below.refl _ _, rfl, rfl⟩
          | 60, _, hi =>
           obtain rfl := Option.some.inj hi
           have h38 : vs 38 = _ := hv 38 (by decide)
           have h50 : vs 50 = _ := hv 50 (by decide)
           have h53 : vs 53 = _ := hv 53 (by decide)
           have h54 : vs 54 = _ := hv 54 (by decide)
           have h58 : vs 58 = _ := hv 58 (by decide)
           have h59 : vs 59 = _ := hv 59 (by decide)
           simp only [relF, List.getD_cons_zero, List.getD_cons_succ, List.foldl_cons, List.foldl_nil, dstAt, List.getElem?_cons_zero, List.getElem?_cons_succ, Option.bind_some]
           go_frame
           rw [h38, h50, h53, h54, h58, h59]
           go_wp2_with fail
           refine (refCheck_any w4 R HRL.out (mK + 1) i (by omega) (by omega) l (by omega) _ _ _ PR (HP2.out.below (Nat.le_refl _) b2)).mono ?_
           rintro e w3 ⟨rfl, b3⟩
           go_wp2_with fail
           exact ⟨rfl, b3, rfl, rfl⟩
          | 61, _, hi =>
           obtain rfl := Option.some.inj hi
           have h38 : vs 38 = _ := hv 38 (by decide)
           have h49 : vs 49 = _ := hv 49 (by decide)
           have h60 : vs 60 = _ := hv 60 (by decide)
           simp only [relF, List.getD_cons_zero, List.getD_cons_succ, List.foldl_cons, List.foldl_nil, dstAt, List.getElem?_cons_zero, List.getElem?_cons_succ, Option.bind_some]
           go_frame
           rw [h38, h49, h60]
           go_wp2_with fail
           exact ⟨rfl, Below.refl _ _, rfl, by first | rfl | (show slotOf _ _ = _; simp [slotOf])⟩
          | 62, _, hi =>
           obtain rfl := Option.some.inj hi
           have h38 : vs 38 = _ := hv 38 (by decide)
           have h61 : vs 61 = _ := hv 61 (by decide)
           simp only [relF, List.getD_cons_zero, List.getD_cons_succ, List.foldl_cons, List.foldl_nil, dstAt, List.getElem?_cons_zero, List.getElem?_cons_succ, Option.bind_some]
           go_frame
           rw [h38, h61]
           go_wp2_with fail
           exact ⟨rfl, Below.refl _ _, rfl, rfl⟩
          | 63, _, hi =>
           obtain rfl := Option.some.inj hi
           have h62 : vs 62 = _ := hv 62 (by decide)
           simp only [relF, List.getD_cons_zero, List.getD_cons_succ, List.foldl_cons, List.foldl_nil, dstAt, List.getElem?_cons_zero, List.getElem?_cons_succ, Option.bind_some]
           go_frame
           rw [h62]
           go_wp2_with fail
           exact ⟨rfl, Below.refl _ _, rfl, rfl⟩
          | nx + 64, him, _ => exact absurd him (by omega)
         ·
          intro w4 b2 vs hv
          have hL2 := HL2.out.below b2
          have h63 : vs 63 = _ := hv 63 (by decide)
          simp only [relF, List.drop_succ_cons, List.drop_zero, List.length_cons, List.length_nil, Nat.zero_add, Nat.reduceAdd, List.range, List.range.loop, List.foldl_cons, List.foldl_nil, dstAt, List.getElem?_cons_zero, List.getElem?_cons_succ, Option.bind_some]
          go_frame
          rw [h63]
          go_wp2_with fail
          go_ret
          exact ⟨rfl, B2.trans (b2.mono B2.size)⟩
     ·
      have t1 : decide ((0 : Int) < (N : Int)) = false := decide_eq_false (by omega)
      have t1' : decide (0 < N) = false := decide_eq_false h0
      clear hN
      refine wp_region_relR [[], [0], [1], [2], [3], [3], [3, 5], [3], [3], [3], [3, 8, 9], [3, 10], [3], [3, 12], [3, 4, 6, 7, 11, 13], [3, 14], [15], [16], [16], [16, 18], [16], [16], [16], [16, 21, 22], [16, 23], [16], [16], [16, 25, 26], [16], [16, 28], [16, 27, 29], [16, 17, 19, 20, 24, 30], [16, 31]] (tapC v15.heap.size v12.heap.size bK oK mK cK c15 N i q15 K PR R f l) (apR v15.heap.size R PR) 145 (by kernel_rfl) (by kernel_rfl) (by kernel_rfl) (fun i w w' h1 h2 => apR_below i w w' h1 h2) (tapC_keep v15.heap.size v12.heap.size bK oK mK cK c15 N i q15 K PR R f l) ?_ ?_
      ·
       intro ix op hi w2 b2 vs hv
       have him : ix < 33 := (List.getElem?_eq_some_iff.1 hi).1
       have hL2 := HL.out.below b2
       match ix, him, hi with
       | 0, _, hi =>
        obtain rfl := Option.some.inj hi
        simp only [relF, List.getD_cons_zero, List.getD_cons_succ, List.foldl_cons, List.foldl_nil, dstAt, List.getElem?_cons_zero, List.getElem?_cons_succ, Option.bind_some]
        go_wp2_with fail
        exact ⟨rfl, Below.refl _ _, rfl, rfl⟩
       | 1, _, hi =>
        obtain rfl := Option.some.inj hi
        have h0 : vs 0 = _ := hv 0 (by decide)
        simp only [relF, List.getD_cons_zero, List.getD_cons_succ, List.foldl_cons, List.foldl_nil, dstAt, List.getElem?_cons_zero, List.getElem?_cons_succ, Option.bind_some]
        go_frame
        rw [h0]
        go_wp2_with fail
        exact ⟨rfl, Below.refl _ _, rfl, rfl⟩
       | 2, _, hi =>
        obtain rfl := Option.some.inj hi
        have h1 : vs 1 = _ := hv 1 (by decide)
        simp only [relF, List.getD_cons_zero, List.getD_cons_succ, List.foldl_cons, List.foldl_nil, dstAt, List.getElem?_cons_zero, List.getElem?_cons_succ, Option.bind_some]
        go_frame
        rw [h1]
        go_wp2_with fail
        exact ⟨rfl, Below.refl _ _, rfl, by first | rfl | (show slotOf _ _ = _; simp [slotOf]; done) | (show slotOf _ _ = _; simp [slotOf]; omega)⟩
       | 3, _, hi =>
        obtain rfl := Option.some.inj hi
        have h2 : vs 2 = _ := hv 2 (by decide)
        simp only [relF, List.getD_cons_zero, List.getD_cons_succ, List.foldl_cons, List.foldl_nil, dstAt, List.getElem?_cons_zero, List.getElem?_cons_succ, Option.bind_some]
        go_frame
        rw [h2]
        go_wp2_with fail
        exact ⟨rfl, Below.refl _ _, rfl, rfl⟩
       | 4, _, hi =>
        obtain rfl := Option.some.inj hi
        have h3 : vs 3 = _ := hv 3 (by decide)
        simp only [relF, List.getD_cons_zero, List.getD_cons_succ, List.foldl_cons, List.foldl_nil, dstAt, List.getElem?_cons_zero, List.getElem?_cons_succ, Option.bind_some]
        go_frame
        rw [h3]
        go_wp2_with fail
        exact ⟨rfl, Below.refl _ _, rfl, trivial⟩
       | 5, _, hi =>
        obtain rfl := Option.some.inj hi
        have h3 : vs 3 = _ := hv 3 (by decide)
        simp only [relF, List.getD_cons_zero, List.getD_cons_succ, List.foldl_cons, List.foldl_nil, dstAt, List.getElem?_cons_zero, List.getElem?_cons_succ, Option.bind_some]
        go_frame
        rw [h3]
        go_wp2_with fail
        exact ⟨rfl, Below.refl _ _, rfl, trivial⟩
       | 6, _, hi =>
        obtain rfl := Option.some.inj hi
        have h3 : vs 3 = _ := hv 3 (by decide)
        simp only [relF, List.getD_cons_zero, List.getD_cons_succ, List.foldl_cons, List.foldl_nil, dstAt, List.getElem?_cons_zero, List.getElem?_cons_succ, Option.bind_some]
        go_frame
        rw [h3]
        go_wp2_with fail
        exact ⟨rfl, Below.refl _ _, rfl, trivial⟩
       | 7, _, hi =>
        obtain rfl := Option.some.inj hi
        have h3 : vs 3 = _ := hv 3 (by decide)
        simp only [relF, List.getD_cons_zero, List.getD_cons_succ, List.foldl_cons, List.foldl_nil, dstAt, List.getElem?_cons_zero, List.getElem?_cons_succ, Option.bind_some]
        go_frame
        rw [h3]
        go_wp2_with fail
        exact ⟨rfl, Below.refl _ _, rfl, trivial⟩
       | 8, _, hi =>
        obtain rfl := Option.some.inj hi
        have h3 : vs 3 = _ := hv 3 (by decide)
        simp only [relF, List.getD_cons_zero, List.getD_cons_succ, List.foldl_cons, List.foldl_nil, dstAt, List.getElem?_cons_zero, List.getElem?_cons_succ, Option.bind_some]
        go_frame
        rw [h3]
        go_wp2_with fail
        exact ⟨rfl, Below.refl _ _, rfl, trivial⟩
       | 9, _, hi =>
        obtain rfl := Option.some.inj hi
        have h3 : vs 3 = _ := hv 3 (by decide)
        simp only [relF, List.getD_cons_zero, List.getD_cons_succ, List.foldl_cons, List.foldl_nil, dstAt, List.getElem?_cons_zero, List.getElem?_cons_succ, Option.bind_some]
        go_frame
        rw [h3]
        go_wp2_with fail
        exact ⟨rfl, Below.refl _ _, rfl, trivial⟩
       | 10, _, hi =>
        obtain rfl := Option.some.inj hi
        have h3 : vs 3 = _ := hv 3 (by decide)
        simp only [relF, List.getD_cons_zero, List.getD_cons_succ, List.foldl_cons, List.foldl_nil, dstAt, List.getElem?_cons_zero, List.getElem?_cons_succ, Option.bind_some]
        go_frame
        rw [h3]
        go_wp2_with fail
        exact ⟨rfl, Below.refl _ _, rfl, trivial⟩
       | 11, _, hi =>
        obtain rfl := Option.some.inj hi
        have h3 : vs 3 = _ := hv 3 (by decide)
        simp only [relF, List.getD_cons_zero, List.getD_cons_succ, List.foldl_cons, List.foldl_nil, dstAt, List.getElem?_cons_zero, List.getElem?_cons_succ, Option.bind_some]
        go_frame
        rw [h3]
        go_wp2_with fail
        exact ⟨rfl, Below.refl _ _, rfl, trivial⟩
       | 12, _, hi =>
        obtain rfl := Option.some.inj hi
        have h3 : vs 3 = _ := hv 3 (by decide)
        simp only [relF, List.getD_cons_zero, List.getD_cons_succ, List.foldl_cons, List.foldl_nil, dstAt, List.getElem?_cons_zero, List.getElem?_cons_succ, Option.bind_some]
        go_frame
        rw [h3]
        go_wp2_with fail
        exact ⟨rfl, Below.refl _ _, rfl, trivial⟩
       | 13, _, hi =>
        obtain rfl := Option.some.inj hi
        have h3 : vs 3 = _ := hv 3 (by decide)
        simp only [relF, List.getD_cons_zero, List.getD_cons_succ, List.foldl_cons, List.foldl_nil, dstAt, List.getElem?_cons_zero, List.getElem?_cons_succ, Option.bind_some]
        go_frame
        rw [h3]
        go_wp2_with fail
        exact ⟨rfl, Below.refl _ _, rfl, trivial⟩
       | 14, _, hi =>
        obtain rfl := Option.some.inj hi
        have h3 : vs 3 = _ := hv 3 (by decide)
        simp only [relF, List.getD_cons_zero, List.getD_cons_succ, List.foldl_cons, List.foldl_nil, dstAt, List.getElem?_cons_zero, List.getElem?_cons_succ, Option.bind_some]
        go_frame
        rw [h3]
        go_wp2_with fail
        exact ⟨rfl, Below.refl _ _, rfl, trivial⟩
       | 15, _, hi =>
        obtain rfl := Option.some.inj hi
        have h3 : vs 3 = _ := hv 3 (by decide)
        simp only [relF, List.getD_cons_zero, List.getD_cons_succ, List.foldl_cons, List.foldl_nil, dstAt, List.getElem?_cons_zero, List.getElem?_cons_succ, Option.bind_some]
        go_frame
        rw [h3]
        go_wp2_with fail
        exact ⟨rfl, Below.refl _ _, rfl, rfl⟩
       | 16, _, hi =>
        obtain rfl := Option.some.inj hi
        have h15 : vs 15 = _ := hv 15 (by decide)
        simp only [relF, List.getD_cons_zero, List.getD_cons_succ, List.foldl_cons, List.foldl_nil, dstAt, List.getElem?_cons_zero, List.getElem?_cons_succ, Option.bind_some]
        go_frame
        rw [h15]
        go_wp2_with fail
        exact ⟨rfl, Below.refl _ _, rfl, rfl⟩
       | 17, _, hi =>
        obtain rfl := Option.some.inj hi
        have h16 : vs 16 = _ := hv 16 (by decide)
        simp only [relF, List.getD_cons_zero, List.getD_cons_succ, List.foldl_cons, List.foldl_nil, dstAt, List.getElem?_cons_zero, List.getElem?_cons_succ, Option.bind_some]
        go_frame
        rw [h16]
        go_wp2_with ((with_reducible show wpList _ _ _ (⟨some 66, _, _, _, _, _⟩ :: _) _ _); refine wpList_load_hash (op := ⟨some 66, _, _, _, _, _⟩) (by kernel_rfl) _ rfl v12.heap.size rfl R HRL.out _ _ ((b2.block _ (lt_of_block X13.out)).trans X13.out) ?_)
        exact ⟨rfl, Below.refl _ _, rfl, rfl⟩
       | 18, _, hi =>
        obtain rfl := Option.some.inj hi
        have h16 : vs 16 = _ := hv 16 (by decide)
        simp only [relF, List.getD_cons_zero, List.getD_cons_succ, List.foldl_cons, List.foldl_nil, dstAt, List.getElem?_cons_zero, List.getElem?_cons_succ, Option.bind_some]
        go_frame
        rw [h16]
        go_wp2_with fail
        exact ⟨rfl, Below.refl _ _, rfl, rfl⟩
       | 19, _, hi =>
        obtain rfl := Option.some.inj hi
        have h16 : vs 16 = _ := hv 16 (by decide)
        have h18 : vs 18 = _ := hv 18 (by decide)
        simp only [relF, List.getD_cons_zero, List.getD_cons_succ, List.foldl_cons, List.foldl_nil, dstAt, List.getElem?_cons_zero, List.getElem?_cons_succ, Option.bind_some]
        go_frame
        rw [h16, h18]
        go_wp2_with fail
        exact ⟨rfl, Below.refl _ _, rfl, rfl⟩
       | 20, _, hi =>
        obtain rfl := Option.some.inj hi
        have h16 : vs 16 = _ := hv 16 (by decide)
        simp only [relF, List.getD_cons_zero, List.getD_cons_succ, List.foldl_cons, List.foldl_nil, dstAt, List.getElem?_cons_zero, List.getElem?_cons_succ, Option.bind_some]
        go_frame
        rw [h16]
        go_wp2_with fail
        exact ⟨rfl, Below.refl _ _, rfl, rfl⟩
       | 21, _, hi =>
        obtain rfl := Option.some.inj hi
        have h16 : vs 16 = _ := hv 16 (by decide)
        simp only [relF, List.getD_cons_zero, List.getD_cons_succ, List.foldl_cons, List.foldl_nil, dstAt, List.getElem?_cons_zero, List.getElem?_cons_succ, Option.bind_some]
        go_frame
        rw [h16]
        go_wp2_with fail
        exact ⟨rfl, Below.refl _ _, rfl, rfl⟩
       | 22, _, hi =>
        obtain rfl := Option.some.inj hi
        have h16 : vs 16 = _ := hv 16 (by decide)
        simp only [relF, List.getD_cons_zero, List.getD_cons_succ, List.foldl_cons, List.foldl_nil, dstAt, List.getElem?_cons_zero, List.getElem?_cons_succ, Option.bind_some]
        go_frame
        rw [h16]
        go_wp2_with fail
        exact ⟨rfl, Below.refl _ _, rfl, rfl⟩
       | 23, _, hi =>
        obtain rfl := Option.some.inj hi
        have h16 : vs 16 = _ := hv 16 (by decide)
        have h21 : vs 21 = _ := hv 21 (by decide)
        have h22 : vs 22 = _ := hv 22 (by decide)
        simp only [relF, List.getD_cons_zero, List.getD_cons_succ, List.foldl_cons, List.foldl_nil, dstAt, List.getElem?_cons_zero, List.getElem?_cons_succ, Option.bind_some]
        go_frame
        rw [h16, h21, h22]
        go_wp2_with fail
        exact ⟨rfl, Below.refl _ _, rfl, rfl⟩
       | 24, _, hi =>
        obtain rfl := Option.some.inj hi
        have h16 : vs 16 = _ := hv 16 (by decide)
        have h23 : vs 23 = _ := hv 23 (by decide)
        have hcell := (HK.out.below (Nat.le_refl _) b2).get HLI.out
        simp only [relF, List.getD_cons_zero, List.getD_cons_succ, List.foldl_cons, List.foldl_nil, dstAt, List.getElem?_cons_zero, List.getElem?_cons_succ, Option.bind_some]
        go_frame
        rw [h16, h23]
        go_wp2_with fail
        exact ⟨rfl, Below.refl _ _, rfl, rfl⟩
       | 25, _, hi =>
        obtain rfl := Option.some.inj hi
        have h16 : vs 16 = _ := hv 16 (by decide)
        simp only [relF, List.getD_cons_zero, List.getD_cons_succ, List.foldl_cons, List.foldl_nil, dstAt, List.getElem?_cons_zero, List.getElem?_cons_succ, Option.bind_some]
        go_frame
        rw [h16]
        go_wp2_with fail
        exact ⟨rfl, (Below.refl _ _).alloc (Nat.le_refl _) _, rfl, w2.heap.size, rfl⟩
       | 26, _, hi =>
        obtain rfl := Option.some.inj hi
        have h16 : vs 16 = _ := hv 16 (by decide)
        simp only [relF, List.getD_cons_zero, List.getD_cons_succ, List.foldl_cons, List.foldl_nil, dstAt, List.getElem?_cons_zero, List.getElem?_cons_succ, Option.bind_some]
        go_frame
        rw [h16]
        go_wp2_with fail
        exact ⟨rfl, Below.refl _ _, rfl, rfl⟩
       | 27, _, hi =>
        obtain ⟨g25, e25⟩ := hv 25 (by decide)
        obtain rfl := Option.some.inj hi
        have h16 : vs 16 = _ := hv 16 (by decide)
        have h26 : vs 26 = _ := hv 26 (by decide)
        obtain ⟨q, cc, W, hrun, hrk, hbb⟩ := copyK (C15.out.below (Nat.le_refl _) b2) (by omega) b2.size ⟨g25, 0, none⟩
        simp only [relF, List.getD_cons_zero, List.getD_cons_succ, List.foldl_cons, List.foldl_nil, dstAt, List.getElem?_cons_zero, List.getElem?_cons_succ, Option.bind_some]
        go_frame
        rw [h16, e25, h26]
        go_wp2_with ((with_reducible show wpList _ _ _ (⟨some 76, _, _, _, _, _⟩ :: _) _ _); refine wpList_append_ran (by kernel_rfl) _ _ _ rfl _ _ rfl rfl hrun ?_)
        exact ⟨rfl, hbb, rfl, q, cc, rfl, HN.out.symm, hrk⟩
       | 28, _, hi =>
        obtain rfl := Option.some.inj hi
        have h16 : vs 16 = _ := hv 16 (by decide)
        simp only [relF, List.getD_cons_zero, List.getD_cons_succ, List.foldl_cons, List.foldl_nil, dstAt, List.getElem?_cons_zero, List.getElem?_cons_succ, Option.bind_some]
        go_frame
        rw [h16]
        go_wp2_with ((with_reducible show wpList _ _ _ (⟨some 77, _, _, _, _, _⟩ :: _) _ _); refine wpList_load_hash (op := ⟨some 77, _, _, _, _, _⟩) (by kernel_rfl) _ rfl v12.heap.size rfl R HRL.out _ _ ((b2.block _ (lt_of_block X13.out)).trans X13.out) ?_)
        exact ⟨rfl, Below.refl _ _, rfl, rfl⟩
       | 29, _, hi =>
        obtain rfl := Option.some.inj hi
        have h16 : vs 16 = _ := hv 16 (by decide)
        have h28 : vs 28 = _ := hv 28 (by decide)
        have hbc : (byteCells R).length = 32 := by rw [byteCells_length, HRL.out]
        simp only [relF, List.getD_cons_zero, List.getD_cons_succ, List.foldl_cons, List.foldl_nil, dstAt, List.getElem?_cons_zero, List.getElem?_cons_succ, Option.bind_some]
        go_frame
        rw [h16, h28]
        go_wp2_with fail
        exact ⟨rfl, (Below.refl _ _).alloc (Nat.le_refl _) _, rfl, w2.heap.size, rfl, alloc_built w2 hbc⟩
       | 30, _, hi =>
        obtain ⟨q27, c27, e27, n27, s27⟩ := hv 27 (by decide)
        obtain ⟨g29, e29, s29⟩ := hv 29 (by decide)
        obtain rfl := Option.some.inj hi
        have h16 : vs 16 = _ := hv 16 (by decide)
        obtain ⟨q', cc, W, hrun, hs, hk⟩ := pushK (B := v15.heap.size) HRL.out HP32.out HN.out (by omega) s27 s29 b2.size
        clear n27
        simp only [relF, List.getD_cons_zero, List.getD_cons_succ, List.foldl_cons, List.foldl_nil, dstAt, List.getElem?_cons_zero, List.getElem?_cons_succ, Option.bind_some]
        go_frame
        rw [h16, e27, e29]
        go_wp2_with ((with_reducible show wpList _ _ _ (⟨some 79, _, _, _, _, _⟩ :: _) _ _); refine wpList_append_ran (by kernel_rfl) _ _ _ rfl _ _ rfl rfl hrun ?_)
        exact ⟨rfl, hk, rfl, q', cc, rfl, hs⟩
       | 31, _, hi =>
        obtain ⟨q30, c30, e30, s30⟩ := hv 30 (by decide)
        obtain rfl := Option.some.inj hi
        have h16 : vs 16 = _ := hv 16 (by decide)
        have h17 : vs 17 = _ := hv 17 (by decide)
        have h19 : vs 19 = _ := hv 19 (by decide)
        have h20 : vs 20 = _ := hv 20 (by decide)
        have h24 : vs 24 = _ := hv 24 (by decide)
        have hrn := treeCheck_any w2 R HRL.out mK i (by omega) (by omega) l (by omega) _ _ _ (PR ++ [R]) s30 hL2
        rw [HC2.out] at hrn
        simp only [relF, List.getD_cons_zero, List.getD_cons_succ, List.foldl_cons, List.foldl_nil, dstAt, List.getElem?_cons_zero, List.getElem?_cons_succ, Option.bind_some]
        go_frame
        rw [h16, h17, h19, h20, h24, e30]
        go_wp2_with fail
        refine (hrn).mono ?_
        rintro e w3 ⟨rfl, b3⟩
        go_wp2_with fail
        exact ⟨rfl, b3, rfl, rfl⟩
       | 32, _, hi =>
        obtain rfl := Option.some.inj hi
        have h16 : vs 16 = _ := hv 16 (by decide)
        have h31 : vs 31 = _ := hv 31 (by decide)
        simp only [relF, List.getD_cons_zero, List.getD_cons_succ, List.foldl_cons, List.foldl_nil, dstAt, List.getElem?_cons_zero, List.getElem?_cons_succ, Option.bind_some]
        go_frame
        rw [h16, h31]
        go_wp2_with fail
        exact ⟨rfl, Below.refl _ _, rfl, rfl⟩
       | nx + 33, him, _ => exact absurd him (by omega)
      ·
       intro w2 b2 vs hv
       have hL2 := HL.out.below b2
       have h32 : vs 32 = _ := hv 32 (by decide)
       simp only [relF, List.drop_succ_cons, List.drop_zero, List.length_cons, List.length_nil, Nat.zero_add, Nat.reduceAdd, List.range, List.range.loop, List.foldl_cons, List.foldl_nil, dstAt, List.getElem?_cons_zero, List.getElem?_cons_succ, Option.bind_some]
       go_frame
       rw [h32]
       go_wp2_with fail
       have B2 := b1.trans (b2.mono b1.size)
       have HK2 := Lib.hid (HK.out.below (Nat.le_refl _) b2)
       have HP2 := Lib.hid (C15.out.below (Nat.le_refl _) b2)
       have HX2 := Lib.hid ((b2.block _ (lt_of_block X13.out)).trans X13.out)
       have HL2 := Lib.hid hL2; clear hL2
       clear hv
       rcases hb : badSide (mK : Int) x with _ | _
       ·
        obtain ⟨k, rfl, hkm⟩ := badSide_k hb
        clear hb
        refine wp_region_rel [[], [], [1], [], [], [], [0, 2, 3, 4, 5], [], [], [8], [], [], [], [7, 9, 10, 11, 12], [6, 13], [14], [15], [15], [15, 17], [15], [15], [15], [15, 20, 21], [15, 22], [15], [15, 16, 18, 19, 23, 24], [15], [15], [15, 27], [15], [15], [15], [15, 30, 31], [15, 32], [15], [15, 26, 28, 29, 33, 34], [15, 25, 35], [15, 36], [37], [38], [38], [38, 40], [38, 41], [38], [38], [38], [38, 44, 45], [38, 46], [38], [38, 39, 42, 43, 47, 48], [38], [38], [38, 51], [38, 52], [38], [38], [38], [38, 55, 56], [38, 57], [38], [38, 50, 53, 54, 58, 59], [38, 49, 60], [38, 61], [62]] (tarB v12.heap.size bK oK mK cK c15 N i k q15 K PR R f l) 145 (by kernel_rfl) (by kernel_rfl) (by kernel_rfl) (tarB_mono v12.heap.size bK oK mK cK c15 N i k q15 K PR R f l) ?_ ?_
        ·
         intro ix op hi w4 b2 vs hv
         have him : ix < 64 := (List.getElem?_eq_some_iff.1 hi).1
         have hL2 := HL2.out.below b2
         match ix, him, hi with
         | 0, _, hi =>
          obtain rfl := Option.some.inj hi
          simp only [relF, List.getD_cons_zero, List.getD_cons_succ, List.foldl_cons, List.foldl_nil, dstAt, List.getElem?_cons_zero, List.getElem?_cons_succ, Option.bind_some]
          go_wp2_with ((with_reducible show wpList _ _ _ (⟨some 82, _, _, _, _, _⟩ :: _) _ _); refine wpList_load_hash (op := ⟨some 82, _, _, _, _, _⟩) (by kernel_rfl) _ rfl v12.heap.size rfl R HRL.out _ _ ((b2.block _ (lt_of_block HX2.out)).trans HX2.out) ?_)
          exact ⟨rfl, Below.refl _ _, rfl, rfl⟩
         | 1, _, hi =>
          obtain rfl := Option.some.inj hi
          simp only [relF, List.getD_cons_zero, List.getD_cons_succ, List.foldl_cons, List.foldl_nil, dstAt, List.getElem?_cons_zero, List.getElem?_cons_succ, Option.bind_some]
          go_wp2_with fail
          exact ⟨rfl, Below.refl _ _, rfl, rfl⟩
         | 2, _, hi =>
          obtain rfl := Option.some.inj hi
          have h1 : vs 1 = _ := hv 1 (by decide)
          simp only [relF, List.getD_cons_zero, List.getD_cons_succ, List.foldl_cons, List.foldl_nil, dstAt, List.getElem?_cons_zero, List.getElem?_cons_succ, Option.bind_some]
          go_frame
          rw [h1]
          go_wp2_with fail
          exact ⟨rfl, Below.refl _ _, rfl, rfl⟩
         | 3, _, hi =>
          obtain rfl := Option.some.inj hi
          simp only [relF, List.getD_cons_zero, List.getD_cons_succ, List.foldl_cons, List.foldl_nil, dstAt, List.getElem?_cons_zero, List.getElem?_cons_succ, Option.bind_some]
          go_wp2_with fail
          exact ⟨rfl, Below.refl _ _, rfl, rfl⟩
         | 4, _, hi =>
          obtain rfl := Option.some.inj hi
          simp only [relF, List.getD_cons_zero, List.getD_cons_succ, List.foldl_cons, List.foldl_nil, dstAt, List.getElem?_cons_zero, List.getElem?_cons_succ, Option.bind_some]
          go_wp2_with fail
          exact ⟨rfl, Below.refl _ _, rfl, rfl⟩
         | 5, _, hi =>
          obtain rfl := Option.some.inj hi
          simp only [relF, List.getD_cons_zero, List.getD_cons_succ, List.foldl_cons, List.foldl_nil, dstAt, List.getElem?_cons_zero, List.getElem?_cons_succ, Option.bind_some]
          go_wp2_with fail
          exact ⟨rfl, Below.refl _ _, rfl, rfl⟩
         | 6, _, hi =>
          obtain rfl := Option.some.inj hi
          have h0 : vs 0 = _ := hv 0 (by decide)
          have h2 : vs 2 = _ := hv 2 (by decide)
          have h3 : vs 3 = _ := hv 3 (by decide)
          have h4 : vs 4 = _ := hv 4 (by decide)
          have h5 : vs 5 = _ := hv 5 (by decide)
          simp only [relF, List.getD_cons_zero, List.getD_cons_succ, List.foldl_cons, List.foldl_nil, dstAt, List.getElem?_cons_zero, List.getElem?_cons_succ, Option.bind_some]
          go_frame
          rw [h0, h2, h3, h4, h5]
          go_wp2_with fail
          refine (treeCheck_any w4 R HRL.out mK i (by omega) (by omega) f (by omega) _ _ _ PR (HP2.out.below (Nat.le_refl _) b2) hL2).mono ?_
          rintro e w3 ⟨rfl, b3⟩
          go_wp2_with fail
          exact ⟨rfl, b3, rfl, rfl⟩
         | 7, _, hi =>
          obtain rfl := Option.some.inj hi
          simp only [relF, List.getD_cons_zero, List.getD_cons_succ, List.foldl_cons, List.foldl_nil, dstAt, List.getElem?_cons_zero, List.getElem?_cons_succ, Option.bind_some]
          go_wp2_with ((with_reducible show wpList _ _ _ (⟨some 89, _, _, _, _, _⟩ :: _) _ _); refine wpList_load_hash (op := ⟨some 89, _, _, _, _, _⟩) (by kernel_rfl) _ rfl v12.heap.size rfl R HRL.out _ _ ((b2.block _ (lt_of_block HX2.out)).trans HX2.out) ?_)
          exact ⟨rfl, Below.refl _ _, rfl, rfl⟩
         | 8, _, hi =>
          obtain rfl := Option.some.inj hi
          simp only [relF, List.getD_cons_zero, List.getD_cons_succ, List.foldl_cons, List.foldl_nil, dstAt, List.getElem?_cons_zero, List.getElem?_cons_succ, Option.bind_some]
          go_wp2_with fail
          exact ⟨rfl, Below.refl _ _, rfl, rfl⟩
         | 9, _, hi =>
          obtain rfl := Option.some.inj hi
          have h8 : vs 8 = _ := hv 8 (by decide)
          simp only [relF, List.getD_cons_zero, List.getD_cons_succ, List.foldl_cons, List.foldl_nil, dstAt, List.getElem?_cons_zero, List.getElem?_cons_succ, Option.bind_some]
          go_frame
          rw [h8]
          go_wp2_with fail
          exact ⟨rfl, Below.refl _ _, rfl, rfl⟩
         | 10, _, hi =>
          obtain rfl := Option.some.inj hi
          simp only [relF, List.getD_cons_zero, List.getD_cons_succ, List.foldl_cons, List.foldl_nil, dstAt, List.getElem?_cons_zero, List.getElem?_cons_succ, Option.bind_some]
          go_wp2_with fail
          exact ⟨rfl, Below.refl _ _, rfl, rfl⟩
         | 11, _, hi =>
          obtain rfl := Option.some.inj hi
          simp only [relF, List.getD_cons_zero, List.getD_cons_succ, List.foldl_cons, List.foldl_nil, dstAt, List.getElem?_cons_zero, List.getElem?_cons_succ, Option.bind_some]
          go_wp2_with fail
          exact ⟨rfl, Below.refl _ _, rfl, rfl⟩
         | 12, _, hi =>
          obtain rfl := Option.some.inj hi
          simp only [relF, List.getD_cons_zero, List.getD_cons_succ, List.foldl_cons, List.foldl_nil, dstAt, List.getElem?_cons_zero, List.getElem?_cons_succ, Option.bind_some]
          go_wp2_with fail
          exact ⟨rfl, Below.refl _ _, rfl, rfl⟩
         | 13, _, hi =>
          obtain rfl := Option.some.inj hi
          have h7 : vs 7 = _ := hv 7 (by decide)
          have h9 : vs 9 = _ := hv 9 (by decide)
          have h10 : vs 10 = _ := hv 10 (by decide)
          have h11 : vs 11 = _ := hv 11 (by decide)
          have h12 : vs 12 = _ := hv 12 (by decide)
          simp only [relF, List.getD_cons_zero, List.getD_cons_succ, List.foldl_cons, List.foldl_nil, dstAt, List.getElem?_cons_zero, List.getElem?_cons_succ, Option.bind_some]
          go_frame
          rw [h7, h9, h10, h11, h12]
          go_wp2_with fail
          refine (refCheck_any w4 R HRL.out mK i (by omega) (by omega) f (by omega) _ _ _ PR (HP2.out.below (Nat.le_refl _) b2)).mono ?_
          rintro e w3 ⟨rfl, b3⟩
          go_wp2_with fail
          exact ⟨rfl, b3, rfl, rfl⟩
         | 14, _, hi =>
          obtain rfl := Option.some.inj hi
          have h6 : vs 6 = _ := hv 6 (by decide)
          have h13 : vs 13 = _ := hv 13 (by decide)
          simp only [relF, List.getD_cons_zero, List.getD_cons_succ, List.foldl_cons, List.foldl_nil, dstAt, List.getElem?_cons_zero, List.getElem?_cons_succ, Option.bind_some]
          go_frame
          rw [h6, h13]
          go_wp2_with fail
          exact ⟨rfl, Below.refl _ _, rfl, by first | rfl | (show slotOf _ _ = _; simp [slotOf])⟩
         | 15, _, hi =>
          obtain rfl := Option.some.inj hi
          have h14 : vs 14 = _ := hv 14 (by decide)
          simp only [relF, List.getD_cons_zero, List.getD_cons_succ, List.foldl_cons, List.foldl_nil, dstAt, List.getElem?_cons_zero, List.getElem?_cons_succ, Option.bind_some]
          go_frame
          rw [h14]
          go_wp2_with fail
          exact ⟨rfl, Below.refl _ _, rfl, rfl⟩
         | 16, _, hi =>
          obtain rfl := Option.some.inj hi
          have h15 : vs 15 = _ := hv 15 (by decide)
          simp only [relF, List.getD_cons_zero, List.getD_cons_succ, List.foldl_cons, List.foldl_nil, dstAt, List.getElem?_cons_zero, List.getElem?_cons_succ, Option.bind_some]
          go_frame
          rw [h15]
          go_wp2_with ((with_reducible show wpList _ _ _ (⟨some 98, _, _, _, _, _⟩ :: _) _ _); refine wpList_load_hash (op := ⟨some 98, _, _, _, _, _⟩) (by kernel_rfl) _ rfl v12.heap.size rfl R HRL.out _ _ ((b2.block _ (lt_of_block HX2.out)).trans HX2.out) ?_)
          exact ⟨rfl, Below.refl _ _, rfl, rfl⟩
         | 17, _, hi =>
          obtain rfl := Option.some.inj hi
          have h15 : vs 15 = _ := hv 15 (by decide)
          simp only [relF, List.getD_cons_zero, List.getD_cons_succ, List.foldl_cons, List.foldl_nil, dstAt, List.getElem?_cons_zero, List.getElem?_cons_succ, Option.bind_some]
          go_frame
          rw [h15]
          go_wp2_with fail
          exact ⟨rfl, Below.refl _ _, rfl, rfl⟩
         | 18, _, hi =>
          obtain rfl := Option.some.inj hi
          have h15 : vs 15 = _ := hv 15 (by decide)
          have h17 : vs 17 = _ := hv 17 (by decide)
          simp only [relF, List.getD_cons_zero, List.getD_cons_succ, List.foldl_cons, List.foldl_nil, dstAt, List.getElem?_cons_zero, List.getElem?_cons_succ, Option.bind_some]
          go_frame
          rw [h15, h17]
          go_wp2_with fail
          exact ⟨rfl, Below.refl _ _, rfl, rfl⟩
         | 19, _, hi =>
          obtain rfl := Option.some.inj hi
          have h15 : vs 15 = _ := hv 15 (by decide)
          simp only [relF, List.getD_cons_zero, List.getD_cons_succ, List.foldl_cons, List.foldl_nil, dstAt, List.getElem?_cons_zero, List.getElem?_cons_succ, Option.bind_some]
          go_frame
          rw [h15]
          go_wp2_with fail
          exact ⟨rfl, Below.refl _ _, rfl, rfl⟩
         | 20, _, hi =>
          obtain rfl := Option.some.inj hi
          have h15 : vs 15 = _ := hv 15 (by decide)
          simp only [relF, List.getD_cons_zero, List.getD_cons_succ, List.foldl_cons, List.foldl_nil, dstAt, List.getElem?_cons_zero, List.getElem?_cons_succ, Option.bind_some]
          go_frame
          rw [h15]
          go_wp2_with fail
          exact ⟨rfl, Below.refl _ _, rfl, rfl⟩
         | 21, _, hi =>
          obtain rfl := Option.some.inj hi
          have h15 : vs 15 = _ := hv 15 (by decide)
          simp only [relF, List.getD_cons_zero, List.getD_cons_succ, List.foldl_cons, List.foldl_nil, dstAt, List.getElem?_cons_zero, List.getElem?_cons_succ, Option.bind_some]
          go_frame
          rw [h15]
          go_wp2_with fail
          exact ⟨rfl, Below.refl _ _, rfl, rfl⟩
         | 22, _, hi =>
          obtain rfl := Option.some.inj hi
          have h15 : vs 15 = _ := hv 15 (by decide)
          have h20 : vs 20 = _ := hv 20 (by decide)
          have h21 : vs 21 = _ := hv 21 (by decide)
          simp only [relF, List.getD_cons_zero, List.getD_cons_succ, List.foldl_cons, List.foldl_nil, dstAt, List.getElem?_cons_zero, List.getElem?_cons_succ, Option.bind_some]
          go_frame
          rw [h15, h20, h21]
          go_wp2_with fail
          exact ⟨rfl, Below.refl _ _, rfl, rfl⟩
         | 23, _, hi =>
          obtain rfl := Option.some.inj hi
          have h15 : vs 15 = _ := hv 15 (by decide)
          have h22 : vs 22 = _ := hv 22 (by decide)
          have hcell := (HK2.out.below (Nat.le_refl _) b2).get HLI.out
          simp only [relF, List.getD_cons_zero, List.getD_cons_succ, List.foldl_cons, List.foldl_nil, dstAt, List.getElem?_cons_zero, List.getElem?_cons_succ, Option.bind_some]
          go_frame
          rw [h15, h22]
          go_wp2_with fail
          exact ⟨rfl, Below.refl _ _, rfl, rfl⟩
         | 24, _, hi =>
          obtain rfl := Option.some.inj hi
          have h15 : vs 15 = _ := hv 15 (by decide)
          simp only [relF, List.getD_cons_zero, List.getD_cons_succ, List.foldl_cons, List.foldl_nil, dstAt, List.getElem?_cons_zero, List.getElem?_cons_succ, Option.bind_some]
          go_frame
          rw [h15]
          go_wp2_with fail
          exact ⟨rfl, Below.refl _ _, rfl, rfl⟩
         | 25, _, hi =>
          obtain rfl := Option.some.inj hi
          have h15 : vs 15 = _ := hv 15 (by decide)
          have h16 : vs 16 = _ := hv 16 (by decide)
          have h18 : vs 18 = _ := hv 18 (by decide)
          have h19 : vs 19 = _ := hv 19 (by decide)
          have h23 : vs 23 = _ := hv 23 (by decide)
          have h24 : vs 24 = _ := hv 24 (by decide)
          simp only [relF, List.getD_cons_zero, List.getD_cons_succ, List.foldl_cons, List.foldl_nil, dstAt, List.getElem?_cons_zero, List.getElem?_cons_succ, Option.bind_some]
          go_frame
          rw [h15, h16, h18, h19, h23, h24]
          go_wp2_with fail
          refine (treeCheck_any w4 R HRL.out mK k (by omega) (by omega) l (by omega) _ _ _ PR (HP2.out.below (Nat.le_refl _) b2) hL2).mono ?_
          rintro e w3 ⟨rfl, b3⟩
          go_wp2_with fail
          exact ⟨rfl, b3, rfl, rfl⟩
         | 26, _, hi =>
          obtain rfl := Option.some.inj hi
          have h15 : vs 15 = _ := hv 15 (by decide)
          simp only [relF, List.getD_cons_zero, List.getD_cons_succ, List.foldl_cons, List.foldl_nil, dstAt, List.getElem?_cons_zero, List.getElem?_cons_succ, Option.bind_some]
          go_frame
          rw [h15]
          go_wp2_with ((with_reducible show wpList _ _ _ (⟨some 108, _, _, _, _, _⟩ :: _) _ _); refine wpList_load_hash (op := ⟨some 108, _, _, _, _, _⟩) (by kernel_rfl) _ rfl v12.heap.size rfl R HRL.out _ _ ((b2.block _ (lt_of_block HX2.out)).trans HX2.out) ?_)
          exact ⟨rfl, Below.refl _ _, rfl, rfl⟩
         | 27, _, hi =>
          obtain rfl := Option.some.inj hi
          have h15 : vs 15 = _ := hv 15 (by decide)
          simp only [relF, List.getD_cons_zero, List.getD_cons_succ, List.foldl_cons, List.foldl_nil, dstAt, List.getElem?_cons_zero, List.getElem?_cons_succ, Option.bind_some]
          go_frame
          rw [h15]
          go_wp2_with fail
          exact ⟨rfl, Below.refl _ _, rfl, rfl⟩
         | 28, _, hi =>
          obtain rfl := Option.some.inj hi
          have h15 : vs 15 = _ := hv 15 (by decide)
          have h27 : vs 27 = _ := hv 27 (by decide)
          simp only [relF, List.getD_cons_zero, List.getD_cons_succ, List.foldl_cons, List.foldl_nil, dstAt, List.getElem?_cons_zero, List.getElem?_cons_succ, Option.bind_some]
          go_frame
          rw [h15, h27]
          go_wp2_with fail
          exact ⟨rfl, Below.refl _ _, rfl, rfl⟩
         | 29, _, hi =>
          obtain rfl := Option.some.inj hi
          have h15 : vs 15 = _ := hv 15 (by decide)
          simp only [relF, List.getD_cons_zero, List.getD_cons_succ, List.foldl_cons, List.foldl_nil, dstAt, List.getElem?_cons_zero, List.getElem?_cons_succ, Option.bind_some]
          go_frame
          rw [h15]
          go_wp2_with fail
          exact ⟨rfl, Below.refl _ _, rfl, rfl⟩
         | 30, _, hi =>
          obtain rfl := Option.some.inj hi
          have h15 : vs 15 = _ := hv 15 (by decide)
          simp only [relF, List.getD_cons_zero, List.getD_cons_succ, List.foldl_cons, List.foldl_nil, dstAt, List.getElem?_cons_zero, List.getElem?_cons_succ, Option.bind_some]
          go_frame
          rw [h15]
          go_wp2_with fail
          exact ⟨rfl, Below.refl _ _, rfl, rfl⟩
         | 31, _, hi =>
          obtain rfl := Option.some.inj hi
          have h15 : vs 15 = _ := hv 15 (by decide)
          simp only [relF, List.getD_cons_zero, List.getD_cons_succ, List.foldl_cons, List.foldl_nil, dstAt, List.getElem?_cons_zero, List.getElem?_cons_succ, Option.bind_some]
          go_frame
          rw [h15]
          go_wp2_with fail
          exact ⟨rfl, Below.refl _ _, rfl, rfl⟩
         | 32, _, hi =>
          obtain rfl := Option.some.inj hi
          have h15 : vs 15 = _ := hv 15 (by decide)
          have h30 : vs 30 = _ := hv 30 (by decide)
          have h31 : vs 31 = _ := hv 31 (by decide)
          simp only [relF, List.getD_cons_zero, List.getD_cons_succ, List.foldl_cons, List.foldl_nil, dstAt, List.getElem?_cons_zero, List.getElem?_cons_succ, Option.bind_some]
          go_frame
          rw [h15, h30, h31]
          go_wp2_with fail
          exact ⟨rfl, Below.refl _ _, rfl, rfl⟩
         | 33, _, hi =>
          obtain rfl := Option.some.inj hi
          have h15 : vs 15 = _ := hv 15 (by decide)
          have h32 : vs 32 = _ := hv 32 (by decide)
          have hcell := (HK2.out.below (Nat.le_refl _) b2).get HLI.out
          simp only [relF, List.getD_cons_zero, List.getD_cons_succ, List.foldl_cons, List.foldl_nil, dstAt, List.getElem?_cons_zero, List.getElem?_cons_succ, Option.bind_some]
          go_frame
          rw [h15, h32]
          go_wp2_with fail
          exact ⟨rfl, Below.refl _ _, rfl, rfl⟩
         | 34, _, hi =>
          obtain rfl := Option.some.inj hi
          have h15 : vs 15 = _ := hv 15 (by decide)
          simp only [relF, List.getD_cons_zero, List.getD_cons_succ, List.foldl_cons, List.foldl_nil, dstAt, List.getElem?_cons_zero, List.getElem?_cons_succ, Option.bind_some]
          go_frame
          rw [h15]
          go_wp2_with fail
          exact ⟨rfl, Below.refl _ _, rfl, rfl⟩
         | 35, _, hi =>
          obtain rfl := Option.some.inj hi
          have h15 : vs 15 = _ := hv 15 (by decide)
          have h26 : vs 26 = _ := hv 26 (by decide)
          have h28 : vs 28 = _ := hv 28 (by decide)
          have h29 : vs 29 = _ := hv 29 (by decide)
          have h33 : vs 33 = _ := hv 33 (by decide)
          have h34 : vs 34 = _ := hv 34 (by decide)
          simp only [relF, List.getD_cons_zero, List.getD_cons_succ, List.foldl_cons, List.foldl_nil, dstAt, List.getElem?_cons_zero, List.getElem?_cons_succ, Option.bind_some]
          go_frame
          rw [h15, h26, h28, h29, h33, h34]
          go_wp2_with fail
          refine (refCheck_any w4 R HRL.out mK k (by omega) (by omega) l (by omega) _ _ _ PR (HP2.out.below (Nat.le_refl _) b2)).mono ?_
          rintro e w3 ⟨rfl, b3⟩
          go_wp2_with fail
          exact ⟨rfl, b3, rfl, rfl⟩
         | 36, _, hi =>
          obtain rfl := Option.some.inj hi
          have h15 : vs 15 = _ := hv 15 (by decide)
          have h25 : vs 25 = _ := hv 25 (by decide)
          have h35 : vs 35 = _ := hv 35 (by decide)
          simp only [relF, List.getD_cons_zero, List.getD_cons_succ, List.foldl_cons, List.foldl_nil, dstAt, List.getElem?_cons_zero, List.getElem?_cons_succ, Option.bind_some]
          go_frame
          rw [h15, h25, h35]
          go_wp2_with fail
          exact ⟨rfl, Below.refl _ _, rfl, by first | rfl | (show slotOf _ _ = _; simp [slotOf])⟩
         | 37, _, hi =>
          obtain rfl := Option.some.inj hi
          have h15 : vs 15 = _ := hv 15 (by decide)
          have h36 : vs 36 = _ := hv 36 (by decide)
          simp only [relF, List.getD_cons_zero, List.getD_cons_succ, List.foldl_cons, List.foldl_nil, dstAt, List.getElem?_cons_zero, List.getElem?_cons_succ, Option.bind_some]
          go_frame
          rw [h15, h36]
          go_wp2_with fail
          exact ⟨rfl, Below.refl _ _, rfl, rfl⟩
         | 38, _, hi =>
          obtain rfl := Option.some.inj hi
          have h37 : vs 37 = _ := hv 37 (by decide)
          simp only [relF, List.getD_cons_zero, List.getD_cons_succ, List.foldl_cons, List.foldl_nil, dstAt, List.getElem?_cons_zero, List.getElem?_cons_succ, Option.bind_some]
          go_frame
          rw [h37]
          go_wp2_with fail
          exact ⟨rfl, Below.refl _ _, rfl, rfl⟩
         | 39, _, hi =>
          obtain rfl := Option.some.inj hi
          have h38 : vs 38 = _ := hv 38 (by decide)
          simp only [relF, List.getD_cons_zero, List.getD_cons_succ, List.foldl_cons, List.foldl_nil, dstAt, List.getElem?_cons_zero, List.getElem?_cons_succ, Option.bind_some]
          go_frame
          rw [h38]
          go_wp2_with ((with_reducible show wpList _ _ _ (⟨some 121, _, _, _, _, _⟩ :: _) _ _); refine wpList_load_hash (op := ⟨some 121, _, _, _, _, _⟩) (by kernel_rfl) _ rfl v12.heap.size rfl R HRL.out _ _ ((b2.block _ (lt_of_block HX2.out)).trans HX2.out) ?_)
          exact ⟨rfl, Below.refl _ _, rfl, rfl⟩
         | 40, _, hi =>
          obtain rfl := Option.some.inj hi
          have h38 : vs 38 = _ := hv 38 (by decide)
          simp only [relF, List.getD_cons_zero, List.getD_cons_succ, List.foldl_cons, List.foldl_nil, dstAt, List.getElem?_cons_zero, List.getElem?_cons_succ, Option.bind_some]
          go_frame
          rw [h38]
          go_wp2_with fail
          exact ⟨rfl, Below.refl _ _, rfl, rfl⟩
         | 41, _, hi =>
          obtain rfl := Option.some.inj hi
          have h38 : vs 38 = _ := hv 38 (by decide)
          have h40 : vs 40 = _ := hv 40 (by decide)
          simp only [relF, List.getD_cons_zero, List.getD_cons_succ, List.foldl_cons, List.foldl_nil, dstAt, List.getElem?_cons_zero, List.getElem?_cons_succ, Option.bind_some]
          go_frame
          rw [h38, h40]
          go_wp2_with fail
          exact ⟨rfl, Below.refl _ _, rfl, rfl⟩
         | 42, _, hi =>
          obtain rfl := Option.some.inj hi
          have h38 : vs 38 = _ := hv 38 (by decide)
          have h41 : vs 41 = _ := hv 41 (by decide)
          simp only [relF, List.getD_cons_zero, List.getD_cons_succ, List.foldl_cons, List.foldl_nil, dstAt, List.getElem?_cons_zero, List.getElem?_cons_succ, Option.bind_some]
          go_frame
          rw [h38, h41]
          go_wp2_with fail
          exact ⟨rfl, Below.refl _ _, rfl, by first | rfl | (show slotOf _ _ = _; simp [slotOf]; done) | (show slotOf _ _ = _; simp [slotOf]; omega)⟩
         | 43, _, hi =>
          obtain rfl := Option.some.inj hi
          have h38 : vs 38 = _ := hv 38 (by decide)
          simp only [relF, List.getD_cons_zero, List.getD_cons_succ, List.foldl_cons, List.foldl_nil, dstAt, List.getElem?_cons_zero, List.getElem?_cons_succ, Option.bind_some]
          go_frame
          rw [h38]
          go_wp2_with fail
          exact ⟨rfl, Below.refl _ _, rfl, rfl⟩
         | 44, _, hi =>
          obtain rfl := Option.some.inj hi
          have h38 : vs 38 = _ := hv 38 (by decide)
          simp only [relF, List.getD_cons_zero, List.getD_cons_succ, List.foldl_cons, List.foldl_nil, dstAt, List.getElem?_cons_zero, List.getElem?_cons_succ, Option.bind_some]
          go_frame
          rw [h38]
          go_wp2_with fail
          exact ⟨rfl, Below.refl _ _, rfl, rfl⟩
         | 45, _, hi =>
          obtain rfl := Option.some.inj hi
          have h38 : vs 38 = _ := hv 38 (by decide)
          simp only [relF, List.getD_cons_zero, List.getD_cons_succ, List.foldl_cons, List.foldl_nil, dstAt, List.getElem?_cons_zero, List.getElem?_cons_succ, Option.bind_some]
          go_frame
          rw [h38]
          go_wp2_with fail
          exact ⟨rfl, Below.refl _ _, rfl, rfl⟩
         | 46, _, hi =>
          obtain rfl := Option.some.inj hi
          have h38 : vs 38 = _ := hv 38 (by decide)
          have h44 : vs 44 = _ := hv 44 (by decide)
          have h45 : vs 45 = _ := hv 45 (by decide)
          simp only [relF, List.getD_cons_zero, List.getD_cons_succ, List.foldl_cons, List.foldl_nil, dstAt, List.getElem?_cons_zero, List.getElem?_cons_succ, Option.bind_some]
          go_frame
          rw [h38, h44, h45]
          go_wp2_with fail
          exact ⟨rfl, Below.refl _ _, rfl, rfl⟩
         | 47, _, hi =>
          obtain rfl := Option.some.inj hi
          have h38 : vs 38 = _ := hv 38 (by decide)
          have h46 : vs 46 = _ := hv 46 (by decide)
          have hcell := (HK2.out.below (Nat.le_refl _) b2).get HLI.out
          simp only [relF, List.getD_cons_zero, List.getD_cons_succ, List.foldl_cons, List.foldl_nil, dstAt, List.getElem?_cons_zero, List.getElem?_cons_succ, Option.bind_some]
          go_frame
          rw [h38, h46]
          go_wp2_with fail
          exact ⟨rfl, Below.refl _ _, rfl, rfl⟩
         | 48, _, hi =>
          obtain rfl := Option.some.inj hi
          have h38 : vs 38 = _ := hv 38 (by decide)
          simp only [relF, List.getD_cons_zero, List.getD_cons_succ, List.foldl_cons, List.foldl_nil, dstAt, List.getElem?_cons_zero, List.getElem?_cons_succ, Option.bind_some]
          go_frame
          rw [h38]
          go_wp2_with fail
          exact ⟨rfl, Below.refl _ _, rfl, rfl⟩
         | 49, _, hi =>
          obtain rfl := Option.some.inj hi
          have h38 : vs 38 = _ := hv 38 (by decide)
          have h39 : vs 39 = _ := hv 39 (by decide)
          have h42 : vs 42 = _ := hv 42 (by decide)
          have h43 : vs 43 = _ := hv 43 (by decide)
          have h47 : vs 47 = _ := hv 47 (by decide)
          have h48 : vs 48 = _ := hv 48 (by decide)
          simp only [relF, List.getD_cons_zero, List.getD_cons_succ, List.foldl_cons, List.foldl_nil, dstAt, List.getElem?_cons_zero, List.getElem?_cons_succ, Option.bind_some]
          go_frame
          rw [h38, h39, h42, h43, h47, h48]
          go_wp2_with fail
          refine (treeCheck_any w4 R HRL.out (mK + 1) i (by omega) (by omega) l (by omega) _ _ _ PR (HP2.out.below (Nat.le_refl _) b2) hL2).mono ?_
          rintro e w3 ⟨rfl, b3⟩
          go_wp2_with fail
          exact ⟨rfl, b3, rfl, rfl⟩
         | 50, _, hi =>
          obtain rfl := Option.some.inj hi
          have h38 : vs 38 = _ := hv 38 (by decide)
          simp only [relF, List.getD_cons_zero, List.getD_cons_succ, List.foldl_cons, List.foldl_nil, dstAt, List.getElem?_cons_zero, List.getElem?_cons_succ, Option.bind_some]
          go_frame
          rw [h38]
          go_wp2_with ((with_reducible show wpList _ _ _ (⟨some 132, _, _, _, _, _⟩ :: _) _ _); refine wpList_load_hash (op := ⟨some 132, _, _, _, _, _⟩) (by kernel_rfl) _ rfl v12.heap.size rfl R HRL.out _ _ ((b2.block _ (lt_of_block HX2.out)).trans HX2.out) ?_)
          exact ⟨rfl, Below.refl _ _, rfl, rfl⟩
         | 51, _, hi =>
          obtain rfl := Option.some.inj hi
          have h38 : vs 38 = _ := hv 38 (by decide)
          simp only [relF, List.getD_cons_zero, List.getD_cons_succ, List.foldl_cons, List.foldl_nil, dstAt, List.getElem?_cons_zero, List.getElem?_cons_succ, Option.bind_some]
          go_frame
          rw [h38]
          go_wp2_with fail
          exact ⟨rfl, Below.refl _ _, rfl, rfl⟩
         | 52, _, hi =>
          obtain rfl := Option.some.inj hi
          have h38 : vs 38 = _ := hv 38 (by decide)
          have h51 : vs 51 = _ := hv 51 (by decide)
          simp only [relF, List.getD_cons_zero, List.getD_cons_succ, List.foldl_cons, List.foldl_nil, dstAt, List.getElem?_cons_zero, List.getElem?_cons_succ, Option.bind_some]
          go_frame
          rw [h38, h51]
          go_wp2_with fail
          exact ⟨rfl, Below.refl _ _, rfl, rfl⟩
         | 53, _, hi =>
          obtain rfl := Option.some.inj hi
          have h38 : vs 38 = _ := hv 38 (by decide)
          have h52 : vs 52 = _ := hv 52 (by decide)
          simp only [relF, List.getD_cons_zero, List.getD_cons_succ, List.foldl_cons, List.foldl_nil, dstAt, List.getElem?_cons_zero, List.getElem?_cons_succ, Option.bind_some]
          go_frame
          rw [h38, h52]
          go_wp2_with fail
          exact ⟨rfl, Below.refl _ _, rfl, by first | rfl | (show slotOf _ _ = _; simp [slotOf]; done) | (show slotOf _ _ = _; simp [slotOf]; omega)⟩
         | 54, _, hi =>
          obtain rfl := Option.some.inj hi
          have h38 : vs 38 = _ := hv 38 (by decide)
          simp only [relF, List.getD_cons_zero, List.getD_cons_succ, List.foldl_cons, List.foldl_nil, dstAt, List.getElem?_cons_zero, List.getElem?_cons_succ, Option.bind_some]
          go_frame
          rw [h38]
          go_wp2_with fail
          exact ⟨rfl, Below.refl _ _, rfl, rfl⟩
         | 55, _, hi =>
          obtain rfl := Option.some.inj hi
          have h38 : vs 38 = _ := hv 38 (by decide)
          simp only [relF, List.getD_cons_zero, List.getD_cons_succ, List.foldl_cons, List.foldl_nil, dstAt, List.getElem?_cons_zero, List.getElem?_cons_succ, Option.bind_some]
          go_frame
          rw [h38]
          go_wp2_with fail
          exact ⟨rfl, Below.refl _ _, rfl, rfl⟩
         | 56, _, hi =>
          obtain rfl := Option.some.inj hi
          have h38 : vs 38 = _ := hv 38 (by decide)
          simp only [relF, List.getD_cons_zero, List.getD_cons_succ, List.foldl_cons, List.foldl_nil, dstAt, List.getElem?_cons_zero, List.getElem?_cons_succ, Option.bind_some]
          go_frame
          rw [h38]
          go_wp2_with fail
          exact ⟨rfl, Below.refl _ _, rfl, rfl⟩
         | 57, _, hi =>
          obtain rfl := Option.some.inj hi
          have h38 : vs 38 = _ := hv 38 (by decide)
          have h55 : vs 55 = _ := hv 55 (by decide)
          have h56 : vs 56 = _ := hv 56 (by decide)
          simp only [relF, List.getD_cons_zero, List.getD_cons_succ, List.foldl_cons, List.foldl_nil, dstAt, List.getElem?_cons_zero, List.getElem?_cons_succ, Option.bind_some]
          go_frame
          rw [h38, h55, h56]
          go_wp2_with fail
          exact ⟨rfl, Below.refl _ _, rfl, rfl⟩
         | 58, _, hi =>
          obtain rfl := Option.some.inj hi
          have h38 : vs 38 = _ := hv 38 (by decide)
          have h57 : vs 57 = _ := hv 57 (by decide)
          have hcell := (HK2.out.below (Nat.le_refl _) b2).get HLI.out
          simp only [relF, List.getD_cons_zero, List.getD_cons_succ, List.foldl_cons, List.foldl_nil, dstAt, List.getElem?_cons_zero, List.getElem?_cons_succ, Option.bind_some]
          go_frame
          rw [h38, h57]
          go_wp2_with fail
          exact ⟨rfl, Below.refl _ _, rfl, rfl⟩
         | 59, _, hi =>
          obtain rfl := Option.some.inj hi
          have h38 : vs 38 = _ := hv 38 (by decide)
          simp only [relF, List.getD_cons_zero, List.getD_cons_succ, List.foldl_cons, List.foldl_nil, dstAt, List.getElem?_cons_zero, List.getElem?_cons_succ, Option.bind_some]
          go_frame
          rw [h38]
          go_wp2_with fail
          exact ⟨rfl, Below.refl _ _, rfl, rfl⟩
         | 60, _, hi =>
          obtain rfl := Option.some.inj hi
          have h38 : vs 38 = _ := hv 38 (by decide)
          have h50 : vs 50 = _ := hv 50 (by decide)
          have h53 : vs 53 = _ := hv 53 (by decide)
          have h54 : vs 54 = _ := hv 54 (by decide)
          have h58 : vs 58 = _ := hv 58 (by decide)
          have h59 : vs 59 = _ := hv 59 (by decide)
          simp only [relF, List.getD_cons_zero, List.getD_cons_succ, List.foldl_cons, List.foldl_nil, dstAt, List.getElem?_cons_zero, List.getElem?_cons_succ, Option.bind_some]
          go_frame
          rw [h38, h50, h53, h54, h58, h59]
          go_wp2_with fail
          refine (refCheck_any w4 R HRL.out (mK + 1) i (by omega) (by omega) l (by omega) _ _ _ PR (HP2.out.below (Nat.le_refl _) b2)).mono ?_
          rintro e w3 ⟨rfl, b3⟩
          go_wp2_with fail
          exact ⟨rfl, b3, rfl, rfl⟩
         | 61, _, hi =>
          obtain rfl := Option.some.inj hi
          have h38 : vs 38 = _ := hv 38 (by decide)
          have h49 : vs 49 = _ := hv 49 (by decide)
          have h60 : vs 60 = _ := hv 60 (by decide)
          simp only [relF, List.getD_cons_zero, List.getD_cons_succ, List.foldl_cons, List.foldl_nil, dstAt, List.getElem?_cons_zero, List.getElem?_cons_succ, Option.bind_some]
          go_frame
          rw [h38, h49, h60]
          go_wp2_with fail
          exact ⟨rfl, Below.refl _ _, rfl, by first | rfl | (show slotOf _ _ = _; simp [slotOf])⟩
         | 62, _, hi =>
          obtain rfl := Option.some.inj hi
          have h38 : vs 38 = _ := hv 38 (by decide)
          have h61 : vs 61 = _ := hv 61 (by decide)
          simp only [relF, List.getD_cons_zero, List.getD_cons_succ, List.foldl_cons, List.foldl_nil, dstAt, List.getElem?_cons_zero, List.getElem?_cons_succ, Option.bind_some]
          go_frame
          rw [h38, h61]
          go_wp2_with fail
          exact ⟨rfl, Below.refl _ _, rfl, rfl⟩
         | 63, _, hi =>
          obtain rfl := Option.some.inj hi
          have h62 : vs 62 = _ := hv 62 (by decide)
          simp only [relF, List.getD_cons_zero, List.getD_cons_succ, List.foldl_cons, List.foldl_nil, dstAt, List.getElem?_cons_zero, List.getElem?_cons_succ, Option.bind_some]
          go_frame
          rw [h62]
          go_wp2_with fail
          exact ⟨rfl, Below.refl _ _, rfl, rfl⟩
         | nx + 64, him, _ => exact absurd him (by omega)
        ·
         intro w4 b2 vs hv
         have hL2 := HL2.out.below b2
         have h63 : vs 63 = _ := hv 63 (by decide)
         simp only [relF, List.drop_succ_cons, List.drop_zero, List.length_cons, List.length_nil, Nat.zero_add, Nat.reduceAdd, List.range, List.range.loop, List.foldl_cons, List.foldl_nil, dstAt, List.getElem?_cons_zero, List.getElem?_cons_succ, Option.bind_some]
         go_frame
         rw [h63]
         go_wp2_with fail
         go_ret
         exact ⟨rfl, B2.trans (b2.mono B2.size)⟩
       ·
        have HBD := Lib.hid hb; clear hb
        refine wp_region_rel [[], [], [1], [], [], [], [0, 2, 3, 4, 5], [], [], [8], [], [], [], [7, 9, 10, 11, 12], [6, 13], [14], [15], [15], [15, 17], [15], [15], [15], [15, 20, 21], [15, 22], [15], [15, 16, 18, 19, 23, 24], [15], [15], [15, 27], [15], [15], [15], [15, 30, 31], [15, 32], [15], [15, 26, 28, 29, 33, 34], [15, 25, 35], [15, 36], [37], [38], [38], [38, 40], [38, 41], [38], [38], [38], [38, 44, 45], [38, 46], [38], [38, 39, 42, 43, 47, 48], [38], [38], [38, 51], [38, 52], [38], [38], [38], [38, 55, 56], [38, 57], [38], [38, 50, 53, 54, 58, 59], [38, 49, 60], [38, 61], [62]] (tarA v12.heap.size bK oK mK cK c15 N i x q15 K PR R f l) 145 (by kernel_rfl) (by kernel_rfl) (by kernel_rfl) (tarA_mono v12.heap.size bK oK mK cK c15 N i x q15 K PR R f l) ?_ ?_
        ·
         intro ix op hi w4 b2 vs hv
         have him : ix < 64 := (List.getElem?_eq_some_iff.1 hi).1
         have hL2 := HL2.out.below b2
         match ix, him, hi with
         | 0, _, hi =>
          obtain rfl := Option.some.inj hi
          simp only [relF, List.getD_cons_zero, List.getD_cons_succ, List.foldl_cons, List.foldl_nil, dstAt, List.getElem?_cons_zero, List.getElem?_cons_succ, Option.bind_some]
          go_wp2_with ((with_reducible show wpList _ _ _ (⟨some 82, _, _, _, _, _⟩ :: _) _ _); refine wpList_load_hash (op := ⟨some 82, _, _, _, _, _⟩) (by kernel_rfl) _ rfl v12.heap.size rfl R HRL.out _ _ ((b2.block _ (lt_of_block HX2.out)).trans HX2.out) ?_)
          exact ⟨rfl, Below.refl _ _, rfl, rfl⟩
         | 1, _, hi =>
          obtain rfl := Option.some.inj hi
          simp only [relF, List.getD_cons_zero, List.getD_cons_succ, List.foldl_cons, List.foldl_nil, dstAt, List.getElem?_cons_zero, List.getElem?_cons_succ, Option.bind_some]
          go_wp2_with fail
          exact ⟨rfl, Below.refl _ _, rfl, rfl⟩
         | 2, _, hi =>
          obtain rfl := Option.some.inj hi
          have h1 : vs 1 = _ := hv 1 (by decide)
          simp only [relF, List.getD_cons_zero, List.getD_cons_succ, List.foldl_cons, List.foldl_nil, dstAt, List.getElem?_cons_zero, List.getElem?_cons_succ, Option.bind_some]
          go_frame
          rw [h1]
          go_wp2_with fail
          exact ⟨rfl, Below.refl _ _, rfl, rfl⟩
         | 3, _, hi =>
          obtain rfl := Option.some.inj hi
          simp only [relF, List.getD_cons_zero, List.getD_cons_succ, List.foldl_cons, List.foldl_nil, dstAt, List.getElem?_cons_zero, List.getElem?_cons_succ, Option.bind_some]
          go_wp2_with fail
          exact ⟨rfl, Below.refl _ _, rfl, rfl⟩
         | 4, _, hi =>
          obtain rfl := Option.some.inj hi
          simp only [relF, List.getD_cons_zero, List.getD_cons_succ, List.foldl_cons, List.foldl_nil, dstAt, List.getElem?_cons_zero, List.getElem?_cons_succ, Option.bind_some]
          go_wp2_with fail
          exact ⟨rfl, Below.refl _ _, rfl, rfl⟩
         | 5, _, hi =>
          obtain rfl := Option.some.inj hi
          simp only [relF, List.getD_cons_zero, List.getD_cons_succ, List.foldl_cons, List.foldl_nil, dstAt, List.getElem?_cons_zero, List.getElem?_cons_succ, Option.bind_some]
          go_wp2_with fail
          exact ⟨rfl, Below.refl _ _, rfl, rfl⟩
         | 6, _, hi =>
          obtain rfl := Option.some.inj hi
          have h0 : vs 0 = _ := hv 0 (by decide)
          have h2 : vs 2 = _ := hv 2 (by decide)
          have h3 : vs 3 = _ := hv 3 (by decide)
          have h4 : vs 4 = _ := hv 4 (by decide)
          have h5 : vs 5 = _ := hv 5 (by decide)
          simp only [relF, List.getD_cons_zero, List.getD_cons_succ, List.foldl_cons, List.foldl_nil, dstAt, List.getElem?_cons_zero, List.getElem?_cons_succ, Option.bind_some]
          go_frame
          rw [h0, h2, h3, h4, h5]
          go_wp2_with fail
          refine (treeCheck_any w4 R HRL.out mK i (by omega) (by omega) f (by omega) _ _ _ PR (HP2.out.below (Nat.le_refl _) b2) hL2).mono ?_
          rintro e w3 ⟨rfl, b3⟩
          go_wp2_with fail
          exact ⟨rfl, b3, rfl, rfl⟩
         | 7, _, hi =>
          obtain rfl := Option.some.inj hi
          simp only [relF, List.getD_cons_zero, List.getD_cons_succ, List.foldl_cons, List.foldl_nil, dstAt, List.getElem?_cons_zero, List.getElem?_cons_succ, Option.bind_some]
          go_wp2_with ((with_reducible show wpList _ _ _ (⟨some 89, _, _, _, _, _⟩ :: _) _ _); refine wpList_load_hash (op := ⟨some 89, _, _, _, _, _⟩) (by kernel_rfl) _ rfl v12.heap.size rfl R HRL.out _ _ ((b2.block _ (lt_of_block HX2.out)).trans HX2.out) ?_)
          exact ⟨rfl, Below.refl _ _, rfl, rfl⟩
         | 8, _, hi =>
          obtain rfl := Option.some.inj hi
          simp only [relF, List.getD_cons_zero, List.getD_cons_succ, List.foldl_cons, List.foldl_nil, dstAt, List.getElem?_cons_zero, List.getElem?_cons_succ, Option.bind_some]
          go_wp2_with fail
          exact ⟨rfl, Below.refl _ _, rfl, rfl⟩
         | 9, _, hi =>
          obtain rfl := Option.some.inj hi
          have h8 : vs 8 = _ := hv 8 (by decide)
          simp only [relF, List.getD_cons_zero, List.getD_cons_succ, List.foldl_cons, List.foldl_nil, dstAt, List.getElem?_cons_zero, List.getElem?_cons_succ, Option.bind_some]
          go_frame
          rw [h8]
          go_wp2_with fail
          exact ⟨rfl, Below.refl _ _, rfl, rfl⟩
         | 10, _, hi =>
          obtain rfl := Option.some.inj hi
          simp only [relF, List.getD_cons_zero, List.getD_cons_succ, List.foldl_cons, List.foldl_nil, dstAt, List.getElem?_cons_zero, List.getElem?_cons_succ, Option.bind_some]
          go_wp2_with fail
          exact ⟨rfl, Below.refl _ _, rfl, rfl⟩
         | 11, _, hi =>
          obtain rfl := Option.some.inj hi
          simp only [relF, List.getD_cons_zero, List.getD_cons_succ, List.foldl_cons, List.foldl_nil, dstAt, List.getElem?_cons_zero, List.getElem?_cons_succ, Option.bind_some]
          go_wp2_with fail
          exact ⟨rfl, Below.refl _ _, rfl, rfl⟩
         | 12, _, hi =>
          obtain rfl := Option.some.inj hi
          simp only [relF, List.getD_cons_zero, List.getD_cons_succ, List.foldl_cons, List.foldl_nil, dstAt, List.getElem?_cons_zero, List.getElem?_cons_succ, Option.bind_some]
          go_wp2_with fail
          exact ⟨rfl, Below.refl _ _, rfl, rfl⟩
         | 13, _, hi =>
          obtain rfl := Option.some.inj hi
          have h7 : vs 7 = _ := hv 7 (by decide)
          have h9 : vs 9 = _ := hv 9 (by decide)
          have h10 : vs 10 = _ := hv 10 (by decide)
          have h11 : vs 11 = _ := hv 11 (by decide)
          have h12 : vs 12 = _ := hv 12 (by decide)
          simp only [relF, List.getD_cons_zero, List.getD_cons_succ, List.foldl_cons, List.foldl_nil, dstAt, List.getElem?_cons_zero, List.getElem?_cons_succ, Option.bind_some]
          go_frame
          rw [h7, h9, h10, h11, h12]
          go_wp2_with fail
          refine (refCheck_any w4 R HRL.out mK i (by omega) (by omega) f (by omega) _ _ _ PR (HP2.out.below (Nat.le_refl _) b2)).mono ?_
          rintro e w3 ⟨rfl, b3⟩
          go_wp2_with fail
          exact ⟨rfl, b3, rfl, rfl⟩
         | 14, _, hi =>
          obtain rfl := Option.some.inj hi
          have h6 : vs 6 = _ := hv 6 (by decide)
          have h13 : vs 13 = _ := hv 13 (by decide)
          simp only [relF, List.getD_cons_zero, List.getD_cons_succ, List.foldl_cons, List.foldl_nil, dstAt, List.getElem?_cons_zero, List.getElem?_cons_succ, Option.bind_some]
          go_frame
          rw [h6, h13]
          go_wp2_with fail
          exact ⟨rfl, Below.refl _ _, rfl, by first | rfl | (show slotOf _ _ = _; simp [slotOf])⟩
         | 15, _, hi =>
          obtain rfl := Option.some.inj hi
          have h14 : vs 14 = _ := hv 14 (by decide)
          simp only [relF, List.getD_cons_zero, List.getD_cons_succ, List.foldl_cons, List.foldl_nil, dstAt, List.getElem?_cons_zero, List.getElem?_cons_succ, Option.bind_some]
          go_frame
          rw [h14]
          go_wp2_with fail
          exact ⟨rfl, Below.refl _ _, rfl, rfl⟩
         | 16, _, hi =>
          obtain rfl := Option.some.inj hi
          have h15 : vs 15 = _ := hv 15 (by decide)
          simp only [relF, List.getD_cons_zero, List.getD_cons_succ, List.foldl_cons, List.foldl_nil, dstAt, List.getElem?_cons_zero, List.getElem?_cons_succ, Option.bind_some]
          go_frame
          rw [h15]
          go_wp2_with ((with_reducible show wpList _ _ _ (⟨some 98, _, _, _, _, _⟩ :: _) _ _); refine wpList_load_hash (op := ⟨some 98, _, _, _, _, _⟩) (by kernel_rfl) _ rfl v12.heap.size rfl R HRL.out _ _ ((b2.block _ (lt_of_block HX2.out)).trans HX2.out) ?_)
          exact ⟨rfl, Below.refl _ _, rfl, rfl⟩
         | 17, _, hi =>
          obtain rfl := Option.some.inj hi
          have h15 : vs 15 = _ := hv 15 (by decide)
          simp only [relF, List.getD_cons_zero, List.getD_cons_succ, List.foldl_cons, List.foldl_nil, dstAt, List.getElem?_cons_zero, List.getElem?_cons_succ, Option.bind_some]
          go_frame
          rw [h15]
          go_wp2_with fail
          exact ⟨rfl, Below.refl _ _, rfl, rfl⟩
         | 18, _, hi =>
          obtain rfl := Option.some.inj hi
          have h15 : vs 15 = _ := hv 15 (by decide)
          have h17 : vs 17 = _ := hv 17 (by decide)
          simp only [relF, List.getD_cons_zero, List.getD_cons_succ, List.foldl_cons, List.foldl_nil, dstAt, List.getElem?_cons_zero, List.getElem?_cons_succ, Option.bind_some]
          go_frame
          rw [h15, h17]
          go_wp2_with fail
          exact ⟨rfl, Below.refl _ _, rfl, rfl⟩
         | 19, _, hi =>
          obtain rfl := Option.some.inj hi
          have h15 : vs 15 = _ := hv 15 (by decide)
          simp only [relF, List.getD_cons_zero, List.getD_cons_succ, List.foldl_cons, List.foldl_nil, dstAt, List.getElem?_cons_zero, List.getElem?_cons_succ, Option.bind_some]
          go_frame
          rw [h15]
          go_wp2_with fail
          exact ⟨rfl, Below.refl _ _, rfl, rfl⟩
         | 20, _, hi =>
          obtain rfl := Option.some.inj hi
          have h15 : vs 15 = _ := hv 15 (by decide)
          simp only [relF, List.getD_cons_zero, List.getD_cons_succ, List.foldl_cons, List.foldl_nil, dstAt, List.getElem?_cons_zero, List.getElem?_cons_succ, Option.bind_some]
          go_frame
          rw [h15]
          go_wp2_with fail
          exact ⟨rfl, Below.refl _ _, rfl, rfl⟩
         | 21, _, hi =>
          obtain rfl := Option.some.inj hi
          have h15 : vs 15 = _ := hv 15 (by decide)
          simp only [relF, List.getD_cons_zero, List.getD_cons_succ, List.foldl_cons, List.foldl_nil, dstAt, List.getElem?_cons_zero, List.getElem?_cons_succ, Option.bind_some]
          go_frame
          rw [h15]
          go_wp2_with fail
          exact ⟨rfl, Below.refl _ _, rfl, rfl⟩
         | 22, _, hi =>
          obtain rfl := Option.some.inj hi
          have h15 : vs 15 = _ := hv 15 (by decide)
          have h20 : vs 20 = _ := hv 20 (by decide)
          have h21 : vs 21 = _ := hv 21 (by decide)
          simp only [relF, List.getD_cons_zero, List.getD_cons_succ, List.foldl_cons, List.foldl_nil, dstAt, List.getElem?_cons_zero, List.getElem?_cons_succ, Option.bind_some]
          go_frame
          rw [h15, h20, h21]
          go_wp2_with fail
          exact ⟨rfl, Below.refl _ _, rfl, rfl⟩
         | 23, _, hi =>
          obtain rfl := Option.some.inj hi
          have h15 : vs 15 = _ := hv 15 (by decide)
          have h22 : vs 22 = _ := hv 22 (by decide)
          have hcell := (HK2.out.below (Nat.le_refl _) b2).get HLI.out
          simp only [relF, List.getD_cons_zero, List.getD_cons_succ, List.foldl_cons, List.foldl_nil, dstAt, List.getElem?_cons_zero, List.getElem?_cons_succ, Option.bind_some]
          go_frame
          rw [h15, h22]
          go_wp2_with fail
          exact ⟨rfl, Below.refl _ _, rfl, rfl⟩
         | 24, _, hi =>
          obtain rfl := Option.some.inj hi
          have h15 : vs 15 = _ := hv 15 (by decide)
          simp only [relF, List.getD_cons_zero, List.getD_cons_succ, List.foldl_cons, List.foldl_nil, dstAt, List.getElem?_cons_zero, List.getElem?_cons_succ, Option.bind_some]
          go_frame
          rw [h15]
          go_wp2_with fail
          exact ⟨rfl, Below.refl _ _, rfl, rfl⟩
         | 25, _, hi =>
          obtain rfl := Option.some.inj hi
          have h15 : vs 15 = _ := hv 15 (by decide)
          have h16 : vs 16 = _ := hv 16 (by decide)
          have h18 : vs 18 = _ := hv 18 (by decide)
          have h19 : vs 19 = _ := hv 19 (by decide)
          have h23 : vs 23 = _ := hv 23 (by decide)
          have h24 : vs 24 = _ := hv 24 (by decide)
          simp only [relF, List.getD_cons_zero, List.getD_cons_succ, List.foldl_cons, List.foldl_nil, dstAt, List.getElem?_cons_zero, List.getElem?_cons_succ, Option.bind_some]
          go_frame
          rw [h15, h16, h18, h19, h23, h24]
          go_wp2_with fail
          refine (treeCheck_bad w4 R HRL.out _ _ HBD.out _ _ _ _).mono ?_
          rintro e w3 ⟨rfl, b3⟩
          go_wp2_with fail
          exact ⟨rfl, b3, rfl, rfl⟩
         | 26, _, hi =>
          obtain rfl := Option.some.inj hi
          have h15 : vs 15 = _ := hv 15 (by decide)
          simp only [relF, List.getD_cons_zero, List.getD_cons_succ, List.foldl_cons, List.foldl_nil, dstAt, List.getElem?_cons_zero, List.getElem?_cons_succ, Option.bind_some]
          go_frame
          rw [h15]
          go_wp2_with ((with_reducible show wpList _ _ _ (⟨some 108, _, _, _, _, _⟩ :: _) _ _); refine wpList_load_hash (op := ⟨some 108, _, _, _, _, _⟩) (by kernel_rfl) _ rfl v12.heap.size rfl R HRL.out _ _ ((b2.block _ (lt_of_block HX2.out)).trans HX2.out) ?_)
          exact ⟨rfl, Below.refl _ _, rfl, rfl⟩
         | 27, _, hi =>
          obtain rfl := Option.some.inj hi
          have h15 : vs 15 = _ := hv 15 (by decide)
          simp only [relF, List.getD_cons_zero, List.getD_cons_succ, List.foldl_cons, List.foldl_nil, dstAt, List.getElem?_cons_zero, List.getElem?_cons_succ, Option.bind_some]
          go_frame
          rw [h15]
          go_wp2_with fail
          exact ⟨rfl, Below.refl _ _, rfl, rfl⟩
         | 28, _, hi =>
          obtain rfl := Option.some.inj hi
          have h15 : vs 15 = _ := hv 15 (by decide)
          have h27 : vs 27 = _ := hv 27 (by decide)
          simp only [relF, List.getD_cons_zero, List.getD_cons_succ, List.foldl_cons, List.foldl_nil, dstAt, List.getElem?_cons_zero, List.getElem?_cons_succ, Option.bind_some]
          go_frame
          rw [h15, h27]
          go_wp2_with fail
          exact ⟨rfl, Below.refl _ _, rfl, rfl⟩
         | 29, _, hi =>
          obtain rfl := Option.some.inj hi
          have h15 : vs 15 = _ := hv 15 (by decide)
          simp only [relF, List.getD_cons_zero, List.getD_cons_succ, List.foldl_cons, List.foldl_nil, dstAt, List.getElem?_cons_zero, List.getElem?_cons_succ, Option.bind_some]
          go_frame
          rw [h15]
          go_wp2_with fail
          exact ⟨rfl, Below.refl _ _, rfl, rfl⟩
         | 30, _, hi =>
          obtain rfl := Option.some.inj hi
          have h15 : vs 15 = _ := hv 15 (by decide)
          simp only [relF, List.getD_cons_zero, List.getD_cons_succ, List.foldl_cons, List.foldl_nil, dstAt, List.getElem?_cons_zero, List.getElem?_cons_succ, Option.bind_some]
          go_frame
          rw [h15]
          go_wp2_with fail
          exact ⟨rfl, Below.refl _ _, rfl, rfl⟩
         | 31, _, hi =>
          obtain rfl := Option.some.inj hi
          have h15 : vs 15 = _ := hv 15 (by decide)
          simp only [relF, List.getD_cons_zero, List.getD_cons_succ, List.foldl_cons, List.foldl_nil, dstAt, List.getElem?_cons_zero, List.getElem?_cons_succ, Option.bind_some]
          go_frame
          rw [h15]
          go_wp2_with fail
          exact ⟨rfl, Below.refl _ _, rfl, rfl⟩
         | 32, _, hi =>
          obtain rfl := Option.some.inj hi
          have h15 : vs 15 = _ := hv 15 (by decide)
          have h30 : vs 30 = _ := hv 30 (by decide)
          have h31 : vs 31 = _ := hv 31 (by decide)
          simp only [relF, List.getD_cons_zero, List.getD_cons_succ, List.foldl_cons, List.foldl_nil, dstAt, List.getElem?_cons_zero, List.getElem?_cons_succ, Option.bind_some]
          go_frame
          rw [h15, h30, h31]
          go_wp2_with fail
          exact ⟨rfl, Below.refl _ _, rfl, rfl⟩
         | 33, _, hi =>
          obtain rfl := Option.some.inj hi
          have h15 : vs 15 = _ := hv 15 (by decide)
          have h32 : vs 32 = _ := hv 32 (by decide)
          have hcell := (HK2.out.below (Nat.le_refl _) b2).get HLI.out
          simp only [relF, List.getD_cons_zero, List.getD_cons_succ, List.foldl_cons, List.foldl_nil, dstAt, List.getElem?_cons_zero, List.getElem?_cons_succ, Option.bind_some]
          go_frame
          rw [h15, h32]
          go_wp2_with fail
          exact ⟨rfl, Below.refl _ _, rfl, rfl⟩
         | 34, _, hi =>
          obtain rfl := Option.some.inj hi
          have h15 : vs 15 = _ := hv 15 (by decide)
          simp only [relF, List.getD_cons_zero, List.getD_cons_succ, List.foldl_cons, List.foldl_nil, dstAt, List.getElem?_cons_zero, List.getElem?_cons_succ, Option.bind_some]
          go_frame
          rw [h15]
          go_wp2_with fail
          exact ⟨rfl, Below.refl _ _, rfl, rfl⟩
         | 35, _, hi =>
          obtain rfl := Option.some.inj hi
          have h15 : vs 15 = _ := hv 15 (by decide)
          have h26 : vs 26 = _ := hv 26 (by decide)
          have h28 : vs 28 = _ := hv 28 (by decide)
          have h29 : vs 29 = _ := hv 29 (by decide)
          have h33 : vs 33 = _ := hv 33 (by decide)
          have h34 : vs 34 = _ := hv 34 (by decide)
          simp only [relF, List.getD_cons_zero, List.getD_cons_succ, List.foldl_cons, List.foldl_nil, dstAt, List.getElem?_cons_zero, List.getElem?_cons_succ, Option.bind_some]
          go_frame
          rw [h15, h26, h28, h29, h33, h34]
          go_wp2_with fail
          refine (refCheck_bad w4 R _ _ HBD.out _ _ _ _).mono ?_
          rintro e w3 ⟨rfl, b3⟩
          go_wp2_with fail
          exact ⟨rfl, b3, rfl, rfl⟩
         | 36, _, hi =>
          obtain rfl := Option.some.inj hi
          have h15 : vs 15 = _ := hv 15 (by decide)
          have h25 : vs 25 = _ := hv 25 (by decide)
          have h35 : vs 35 = _ := hv 35 (by decide)
          simp only [relF, List.getD_cons_zero, List.getD_cons_succ, List.foldl_cons, List.foldl_nil, dstAt, List.getElem?_cons_zero, List.getElem?_cons_succ, Option.bind_some]
          go_frame
          rw [h15, h25, h35]
          go_wp2_with fail
          exact ⟨rfl, Below.refl _ _, rfl, by first | rfl | (show slotOf _ _ = _; simp [slotOf])⟩
         | 37, _, hi =>
          obtain rfl := Option.some.inj hi
          have h15 : vs 15 = _ := hv 15 (by decide)
          have h36 : vs 36 = _ := hv 36 (by decide)
          simp only [relF, List.getD_cons_zero, List.getD_cons_succ, List.foldl_cons, List.foldl_nil, dstAt, List.getElem?_cons_zero, List.getElem?_cons_succ, Option.bind_some]
          go_frame
          rw [h15, h36]
          go_wp2_with fail
          exact ⟨rfl, Below.refl _ _, rfl, rfl⟩
         | 38, _, hi =>
          obtain rfl := Option.some.inj hi
          have h37 : vs 37 = _ := hv 37 (by decide)
          simp only [relF, List.getD_cons_zero, List.getD_cons_succ, List.foldl_cons, List.foldl_nil, dstAt, List.getElem?_cons_zero, List.getElem?_cons_succ, Option.bind_some]
          go_frame
          rw [h37]
          go_wp2_with fail
          exact ⟨rfl, Below.refl _ _, rfl, rfl⟩
         | 39, _, hi =>
          obtain rfl := Option.some.inj hi
          have h38 : vs 38 = _ := hv 38 (by decide)
          simp only [relF, List.getD_cons_zero, List.getD_cons_succ, List.foldl_cons, List.foldl_nil, dstAt, List.getElem?_cons_zero, List.getElem?_cons_succ, Option.bind_some]
          go_frame
          rw [h38]
          go_wp2_with ((with_reducible show wpList _ _ _ (⟨some 121, _, _, _, _, _⟩ :: _) _ _); refine wpList_load_hash (op := ⟨some 121, _, _, _, _, _⟩) (by kernel_rfl) _ rfl v12.heap.size rfl R HRL.out _ _ ((b2.block _ (lt_of_block HX2.out)).trans HX2.out) ?_)
          exact ⟨rfl, Below.refl _ _, rfl, rfl⟩
         | 40, _, hi =>
          obtain rfl := Option.some.inj hi
          have h38 : vs 38 = _ := hv 38 (by decide)
          simp only [relF, List.getD_cons_zero, List.getD_cons_succ, List.foldl_cons, List.foldl_nil, dstAt, List.getElem?_cons_zero, List.getElem?_cons_succ, Option.bind_some]
          go_frame
          rw [h38]
          go_wp2_with fail
          exact ⟨rfl, Below.refl _ _, rfl, rfl⟩
         | 41, _, hi =>
          obtain rfl := Option.some.inj hi
          have h38 : vs 38 = _ := hv 38 (by decide)
          have h40 : vs 40 = _ := hv 40 (by decide)
          simp only [relF, List.getD_cons_zero, List.getD_cons_succ, List.foldl_cons, List.foldl_nil, dstAt, List.getElem?_cons_zero, List.getElem?_cons_succ, Option.bind_some]
          go_frame
          rw [h38, h40]
          go_wp2_with fail
          exact ⟨rfl, Below.refl _ _, rfl, rfl⟩
         | 42, _, hi =>
          obtain rfl := Option.some.inj hi
          have h38 : vs 38 = _ := hv 38 (by decide)
          have h41 : vs 41 = _ := hv 41 (by decide)
          simp only [relF, List.getD_cons_zero, List.getD_cons_succ, List.foldl_cons, List.foldl_nil, dstAt, List.getElem?_cons_zero, List.getElem?_cons_succ, Option.bind_some]
          go_frame
          rw [h38, h41]
          go_wp2_with fail
          exact ⟨rfl, Below.refl _ _, rfl, by first | rfl | (show slotOf _ _ = _; simp [slotOf]; done) | (show slotOf _ _ = _; simp [slotOf]; omega)⟩
         | 43, _, hi =>
          obtain rfl := Option.some.inj hi
          have h38 : vs 38 = _ := hv 38 (by decide)
          simp only [relF, List.getD_cons_zero, List.getD_cons_succ, List.foldl_cons, List.foldl_nil, dstAt, List.getElem?_cons_zero, List.getElem?_cons_succ, Option.bind_some]
          go_frame
          rw [h38]
          go_wp2_with fail
          exact ⟨rfl, Below.refl _ _, rfl, rfl⟩
         | 44, _, hi =>
          obtain rfl := Option.some.inj hi
          have h38 : vs 38 = _ := hv 38 (by decide)
          simp only [relF, List.getD_cons_zero, List.getD_cons_succ, List.foldl_cons, List.foldl_nil, dstAt, List.getElem?_cons_zero, List.getElem?_cons_succ, Option.bind_some]
          go_frame
          rw [h38]
          go_wp2_with fail
          exact ⟨rfl, Below.refl _ _, rfl, rfl⟩
         | 45, _, hi =>
          obtain rfl := Option.some.inj hi
          have h38 : vs 38 = _ := hv 38 (by decide)
          simp only [relF, List.getD_cons_zero, List.getD_cons_succ, List.foldl_cons, List.foldl_nil, dstAt, List.getElem?_cons_zero, List.getElem?_cons_succ, Option.bind_some]
          go_frame
          rw [h38]
          go_wp2_with fail
          exact ⟨rfl, Below.refl _ _, rfl, rfl⟩
         | 46, _, hi =>
          obtain rfl := Option.some.inj hi
          have h38 : vs 38 = _ := hv 38 (by decide)
          have h44 : vs 44 = _ := hv 44 (by decide)
          have h45 : vs 45 = _ := hv 45 (by decide)
          simp only [relF, List.getD_cons_zero, List.getD_cons_succ, List.foldl_cons, List.foldl_nil, dstAt, List.getElem?_cons_zero, List.getElem?_cons_succ, Option.bind_some]
          go_frame
          rw [h38, h44, h45]
          go_wp2_with fail
          exact ⟨rfl, Below.refl _ _, rfl, rfl⟩
         | 47, _, hi =>
          obtain rfl := Option.some.inj hi
          have h38 : vs 38 = _ := hv 38 (by decide)
          have h46 : vs 46 = _ := hv 46 (by decide)
          have hcell := (HK2.out.below (Nat.le_refl _) b2).get HLI.out
          simp only [relF, List.getD_cons_zero, List.getD_cons_succ, List.foldl_cons, List.foldl_nil, dstAt, List.getElem?_cons_zero, List.getElem?_cons_succ, Option.bind_some]
          go_frame
          rw [h38, h46]
          go_wp2_with fail
          exact ⟨rfl, Below.refl _ _, rfl, rfl⟩
         | 48, _, hi =>
          obtain rfl := Option.some.inj hi
          have h38 : vs 38 = _ := hv 38 (by decide)
          simp only [relF, List.getD_cons_zero, List.getD_cons_succ, List.foldl_cons, List.foldl_nil, dstAt, List.getElem?_cons_zero, List.getElem?_cons_succ, Option.bind_some]
          go_frame
          rw [h38]
          go_wp2_with fail
          exact ⟨rfl, Below.refl _ _, rfl, rfl⟩
         | 49, _, hi =>
          obtain rfl := Option.some.inj hi
          have h38 : vs 38 = _ := hv 38 (by decide)
          have h39 : vs 39 = _ := hv 39 (by decide)
          have h42 : vs 42 = _ := hv 42 (by decide)
          have h43 : vs 43 = _ := hv 43 (by decide)
          have h47 : vs 47 = _ := hv 47 (by decide)
          have h48 : vs 48 = _ := hv 48 (by decide)
          simp only [relF, List.getD_cons_zero, List.getD_cons_succ, List.foldl_cons, List.foldl_nil, dstAt, List.getElem?_cons_zero, List.getElem?_cons_succ, Option.bind_some]
          go_frame
          rw [h38, h39, h42, h43, h47, h48]
          go_wp2_with fail
          refine (treeCheck_any w4 R HRL.out (mK + 1) i (by omega) (by omega) l (by omega) _ _ _ PR (HP2.out.below (Nat.le_refl _) b2) hL2).mono ?_
          rintro e w3 ⟨rfl, b3⟩
          go_wp2_with fail
          exact ⟨rfl, b3, rfl, rfl⟩
         | 50, _, hi =>
          obtain rfl := Option.some.inj hi
          have h38 : vs 38 = _ := hv 38 (by decide)
          simp only [relF, List.getD_cons_zero, List.getD_cons_succ, List.foldl_cons, List.foldl_nil, dstAt, List.getElem?_cons_zero, List.getElem?_cons_succ, Option.bind_some]
          go_frame
          rw [h38]
          go_wp2_with ((with_reducible show wpList _ _ _ (⟨some 132, _, _, _, _, _⟩ :: _) _ _); refine wpList_load_hash (op := ⟨some 132, _, _, _, _, _⟩) (by kernel_rfl) _ rfl v12.heap.size rfl R HRL.out _ _ ((b2.block _ (lt_of_block HX2.out)).trans HX2.out) ?_)
          exact ⟨rfl, Below.refl _ _, rfl, rfl⟩
         | 51, _, hi =>
          obtain rfl := Option.some.inj hi
          have h38 : vs 38 = _ := hv 38 (by decide)
          simp only [relF, List.getD_cons_zero, List.getD_cons_succ, List.foldl_cons, List.foldl_nil, dstAt, List.getElem?_cons_zero, List.getElem?_cons_succ, Option.bind_some]
          go_frame
          rw [h38]
          go_wp2_with fail
          exact ⟨rfl, Below.refl _ _, rfl, rfl⟩
         | 52, _, hi =>
          obtain rfl := Option.some.inj hi
          have h38 : vs 38 = _ := hv 38 (by decide)
          have h51 : vs 51 = _ := hv 51 (by decide)
          simp only [relF, List.getD_cons_zero, List.getD_cons_succ, List.foldl_cons, List.foldl_nil, dstAt, List.getElem?_cons_zero, List.getElem?_cons_succ, Option.bind_some]
          go_frame
          rw [h38, h51]
          go_wp2_with fail
          exact ⟨rfl, Below.refl _ _, rfl, rfl⟩
         | 53, _, hi =>
          obtain rfl := Option.some.inj hi
          have h38 : vs 38 = _ := hv 38 (by decide)
          have h52 : vs 52 = _ := hv 52 (by decide)
          simp only [relF, List.getD_cons_zero, List.getD_cons_succ, List.foldl_cons, List.foldl_nil, dstAt, List.getElem?_cons_zero, List.getElem?_cons_succ, Option.bind_some]
          go_frame
          rw [h38, h52]
          go_wp2_with fail
          exact ⟨rfl, Below.refl _ _, rfl, by first | rfl | (show slotOf _ _ = _; simp [slotOf]; done) | (show slotOf _ _ = _; simp [slotOf]; omega)⟩
         | 54, _, hi =>
          obtain rfl := Option.some.inj hi
          have h38 : vs 38 = _ := hv 38 (by decide)
          simp only [relF, List.getD_cons_zero, List.getD_cons_succ, List.foldl_cons, List.foldl_nil, dstAt, List.getElem?_cons_zero, List.getElem?_cons_succ, Option.bind_some]
          go_frame
          rw [h38]
          go_wp2_with fail
          exact ⟨rfl, Below.refl _ _, rfl, rfl⟩
         | 55, _, hi =>
          obtain rfl := Option.some.inj hi
          have h38 : vs 38 = _ := hv 38 (by decide)
          simp only [relF, List.getD_cons_zero, List.getD_cons_succ, List.foldl_cons, List.foldl_nil, dstAt, List.getElem?_cons_zero, List.getElem?_cons_succ, Option.bind_some]
          go_frame
          rw [h38]
          go_wp2_with fail
          exact ⟨rfl, Below.refl _ _, rfl, rfl⟩
         | 56, _, hi =>
          obtain rfl := Option.some.inj hi
          have h38 : vs 38 = _ := hv 38 (by decide)
          simp only [relF, List.getD_cons_zero, List.getD_cons_succ, List.foldl_cons, List.foldl_nil, dstAt, List.getElem?_cons_zero, List.getElem?_cons_succ, Option.bind_some]
          go_frame
          rw [h38]
          go_wp2_with fail
          exact ⟨rfl, Below.refl _ _, rfl, rfl⟩
         | 57, _, hi =>
          obtain rfl := Option.some.inj hi
          have h38 : vs 38 = _ := hv 38 (by decide)
          have h55 : vs 55 = _ := hv 55 (by decide)
          have h56 : vs 56 = _ := hv 56 (by decide)
          simp only [relF, List.getD_cons_zero, List.getD_cons_succ, List.foldl_cons, List.foldl_nil, dstAt, List.getElem?_cons_zero, List.getElem?_cons_succ, Option.bind_some]
          go_frame
          rw [h38, h55, h56]
          go_wp2_with fail
          exact ⟨rfl, Below.refl _ _, rfl, rfl⟩
         | 58, _, hi =>
          obtain rfl := Option.some.inj hi
          have h38 : vs 38 = _ := hv 38 (by decide)
          have h57 : vs 57 = _ := hv 57 (by decide)
          have hcell := (HK2.out.below (Nat.le_refl _) b2).get HLI.out
          simp only [relF, List.getD_cons_zero, List.getD_cons_succ, List.foldl_cons, List.foldl_nil, dstAt, List.getElem?_cons_zero, List.getElem?_cons_succ, Option.bind_some]
          go_frame
          rw [h38, h57]
          go_wp2_with fail
          exact ⟨rfl, Below.refl _ _, rfl, rfl⟩
         | 59, _, hi =>
          obtain rfl := Option.some.inj hi
          have h38 : vs 38 = _ := hv 38 (by decide)
          simp only [relF, List.getD_cons_zero, List.getD_cons_succ, List.foldl_cons, List.foldl_nil, dstAt, List.getElem?_cons_zero, List.getElem?_cons_succ, Option.bind_some]
          go_frame
          rw [h38]
          go_wp2_with fail
          exact ⟨rfl, Below.refl _ _, rfl, rfl⟩
         | 60, _, hi =>
          obtain rfl := Option.some.inj hi
          have h38 : vs 38 = _ := hv 38 (by decide)
          have h50 : vs 50 = _ := hv 50 (by decide)
          have h53 : vs 53 = _ := hv 53 (by decide)
          have h54 : vs 54 = _ := hv 54 (by decide)
          have h58 : vs 58 = _ := hv 58 (by decide)
          have h59 : vs 59 = _ := hv 59 (by decide)
          simp only [relF, List.getD_cons_zero, List.getD_cons_succ, List.foldl_cons, List.foldl_nil, dstAt, List.getElem?_cons_zero, List.getElem?_cons_succ, Option.bind_some]
          go_frame
          rw [h38, h50, h53, h54, h58, h59]
          go_wp2_with fail
          refine (refCheck_any w4 R HRL.out (mK + 1) i (by omega) (by omega) l (by omega) _ _ _ PR (HP2.out.below (Nat.le_refl _) b2)).mono ?_
          rintro e w3 ⟨rfl, b3⟩
          go_wp2_with fail
          exact ⟨rfl, b3, rfl, rfl⟩
         | 61, _, hi =>
          obtain rfl := Option.some.inj hi
          have h38 : vs 38 = _ := hv 38 (by decide)
          have h49 : vs 49 = _ := hv 49 (by decide)
          have h60 : vs 60 = _ := hv 60 (by decide)
          simp only [relF, List.getD_cons_zero, List.getD_cons_succ, List.foldl_cons, List.foldl_nil, dstAt, List.getElem?_cons_zero, List.getElem?_cons_succ, Option.bind_some]
          go_frame
          rw [h38, h49, h60]
          go_wp2_with fail
          exact ⟨rfl, Below.refl _ _, rfl, by first | rfl | (show slotOf _ _ = _; simp [slotOf])⟩
         | 62, _, hi =>
          obtain rfl := Option.some.inj hi
          have h38 : vs 38 = _ := hv 38 (by decide)
          have h61 : vs 61 = _ := hv 61 (by decide)
          simp only [relF, List.getD_cons_zero, List.getD_cons_succ, List.foldl_cons, List.foldl_nil, dstAt, List.getElem?_cons_zero, List.getElem?_cons_succ, Option.bind_some]
          go_frame
          rw [h38, h61]
          go_wp2_with fail
          exact ⟨rfl, Below.refl _ _, rfl, rfl⟩
         | 63, _, hi =>
          obtain rfl := Option.some.inj hi
          have h62 : vs 62 = _ := hv 62 (by decide)
          simp only [relF, List.getD_cons_zero, List.getD_cons_succ, List.foldl_cons, List.foldl_nil, dstAt, List.getElem?_cons_zero, List.getElem?_cons_succ, Option.bind_some]
          go_frame
          rw [h62]
          go_wp2_with fail
          exact ⟨rfl, Below.refl _ _, rfl, rfl⟩
         | nx + 64, him, _ => exact absurd him (by omega)
        ·
         intro w4 b2 vs hv
         have hL2 := HL2.out.below b2
         have h63 : vs 63 = _ := hv 63 (by decide)
         simp only [relF, List.drop_succ_cons, List.drop_zero, List.length_cons, List.length_nil, Nat.zero_add, Nat.reduceAdd, List.range, List.range.loop, List.foldl_cons, List.foldl_nil, dstAt, List.getElem?_cons_zero, List.getElem?_cons_succ, Option.bind_some]
         go_frame
         rw [h63]
         go_wp2_with fail
         go_ret
         exact ⟨rfl, B2.trans (b2.mono B2.size)⟩

theorem apart_law3 (w : World) (oK : Option Addr) (mK cK : Nat) (K : List ByteArray) (rK : RowsAt w oK mK cK 1 strCell K) (hxK : ∀ s ∈ K, s.size ≤ maxLen) (i : Int) (hi : (Lit.int .i64 i).wf = true) (x : Int) (hx : (Lit.int .i64 x).wf = true) (f : ByteArray) (hf : f.size ≤ 140737488351232) (hL : Laid w) :
  Calls Tryd.prog 9 #[.slice oK mK cK, .int .i64 i, .int .i64 x, .string f] w fun e w' => e = .returned (.bool true) ∧ Below w.heap.size w w' := by
 have h := apart_list w oK mK cK _ (StrsAt.of_rows rK) (strs_le hxK) i hi x hx f.data.toList (by rw [← strOf_size, strOf_data]; exact hf) hL
 rwa [strOf_data] at h

end Go.Proofs.YtgheacegjgaobaaDoor
