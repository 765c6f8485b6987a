/- The walk of the hash laws' awake: it returns true. -/
import Derived.Test.YtabkndpilnapfaaDoorHashEq
import Derived.Test.YtabkndpilnapfaaDoorRead
import Derived.Test.YtabkndpilnapfaaDoorLess
import Derived.Test.YtabkndpilnapfaaDoorText
namespace Go.Proofs.YtabkndpilnapfaaDoor
open Go.RowKit
set_option linter.unusedSimpArgs false
set_option linter.unusedVariables false

theorem hex_abc : Sha.hex (Sha.of [97, 98, 99]) = [98, 97, 55, 56, 49, 54, 98, 102, 56, 102, 48, 49, 99, 102, 101, 97, 52, 49, 52, 49, 52, 48, 100, 101, 53, 100, 97, 101, 50, 50, 50, 51, 98, 48, 48, 51, 54, 49, 97, 51, 57, 54, 49, 55, 55, 97, 57, 99, 98, 52, 49, 48, 102, 102, 54, 49, 102, 50, 48, 48, 49, 53, 97, 100] := by
  rw [Sha.of_abc]; decide

theorem rd_hex (l : List UInt8) (hl : l.length = 32) : rdSum (Sha.hex l) = (l, 0) := by
  unfold rdSum
  rw [if_pos (by rw [Sha.hex_len, hl]), Sha.unhex_hex]

theorem less_zero : lessB (List.replicate 32 0) (Sha.of [97, 98, 99]) = true := by rw [Sha.of_abc]; decide
theorem cmp_self : ∀ l : List UInt8, Lib.compareBytes l l = 0
  | [] => rfl
  | a :: l => by
    have h : ¬ a < a := by simp
    rw [Lib.compareBytes, if_neg h, if_neg h, cmp_self l]
theorem less_self (l : List UInt8) : lessB l l = false := by unfold lessB; rw [cmp_self]; rfl

set_option maxRecDepth 100000 in
set_option maxHeartbeats 2000000 in
theorem awake_any (w : World) (hL : Laid w) :
    Calls Tryd.prog 11 #[] w fun e w' => e = .returned (.bool true) ∧ Below w.heap.size w w' := by
  have kc0 := Lib.run_convert_bytes_const (P := Tryd.prog) w 27 5 #[.int .u8 97] 1 1 Tryd.under_u8s Tryd.under_bb
  have kc1 := Lib.run_convert_bytes_const (P := Tryd.prog) (w.alloc (.cells #[.int .u8 97] 5 (1, 2))) 27 5 #[.int .u8 98, .int .u8 99] 2 2 Tryd.under_u8s Tryd.under_bb
  rw [show (w.alloc (.cells #[.int .u8 97] 5 (1, 2))).heap.size = w.heap.size + 1 by simp] at kc1
  obtain ⟨W2, hW2⟩ : ∃ W2, W2 = (w.alloc (.cells #[.int .u8 97] 5 (1, 2))).alloc (.cells #[.int .u8 98, .int .u8 99] 5 (2, 3)) := ⟨_, rfl⟩
  have b2 : Below w.heap.size w W2 := by rw [hW2]; exact ((Below.refl _ _).alloc (Nat.le_refl _) _).alloc (by simp) _
  have hs2 : W2.heap.size = w.heap.size + 2 := by rw [hW2]; simp
  have x0 : W2.heap[w.heap.size]? = some (.cells #[.int .u8 97] 5 (1, 2)) := by
    rw [hW2, Below.heap_alloc _ _ _ (by simp)]; exact heap_alloc_new w _
  have x1 : W2.heap[w.heap.size + 1]? = some (.cells #[.int .u8 98, .int .u8 99] 5 (2, 3)) := by
    rw [hW2]; have := heap_alloc_new (w.alloc (.cells #[.int .u8 97] 5 (1, 2))) (.cells #[.int .u8 98, .int .u8 99] 5 (2, 3)); simpa using this
  have hp : PartsV (W2.alloc (.cells [Value.slice (some ⟨w.heap.size, 0, none⟩) 1 1, Value.slice (some ⟨w.heap.size + 1, 0, none⟩) 2 2].toArray 27)) (.slice (some ⟨W2.heap.size, 0, none⟩) 2 2) [[97], [98, 99]] := by
    refine parts_new W2 _ _ _ 2 rfl rfl fun i v l hv hl => ?_
    match i, hv, hl with
    | 0, hv, hl =>
      simp only [List.getElem?_cons_zero, Option.some.injEq] at hv hl
      subst hv; subst hl
      refine ⟨_, 1, rfl, (by intro h; cases h), fun a ha i x hx => ?_⟩
      cases ha
      rw [Addr.add_lit]
      match i, hx with
      | 0, hx =>
        simp only [List.getElem?_cons_zero, Option.some.injEq] at hx
        subst hx
        simp [World.cell?, x0]
    | 1, hv, hl =>
      simp only [List.getElem?_cons_succ, List.getElem?_cons_zero, Option.some.injEq] at hv hl
      subst hv; subst hl
      refine ⟨_, 2, rfl, (by intro h; cases h), fun a ha i x hx => ?_⟩
      cases ha
      rw [Addr.add_lit]
      match i, hx with
      | 0, hx =>
        simp only [List.getElem?_cons_zero, Option.some.injEq] at hx
        subst hx
        simp [World.cell?, x1]
      | 1, hx =>
        simp only [List.getElem?_cons_succ, List.getElem?_cons_zero, Option.some.injEq] at hx
        subst hx
        simp [World.cell?, x1]
  have hl2 := Laid.below (hL.below b2) ((Below.refl _ W2).alloc (Nat.le_refl _) (.cells [Value.slice (some ⟨w.heap.size, 0, none⟩) 1 1, Value.slice (some ⟨w.heap.size + 1, 0, none⟩) 2 2].toArray 27))
  obtain ⟨W3, hW3⟩ : ∃ W3, W3 = W2.alloc (.cells [Value.slice (some ⟨w.heap.size, 0, none⟩) 1 1, Value.slice (some ⟨w.heap.size + 1, 0, none⟩) 2 2].toArray 27) := ⟨_, rfl⟩
  rw [← hW3, hs2] at hp
  rw [← hW3] at hl2
  have hW3' : W3 = ((w.alloc (.cells #[.int .u8 97] 5 (1, 2))).alloc (.cells #[.int .u8 98, .int .u8 99] 5 (2, 3))).alloc (.cells #[Value.slice (some ⟨w.heap.size, 0, none⟩) 1 1, Value.slice (some ⟨w.heap.size + 1, 0, none⟩) 2 2] 27) := by rw [hW3, hW2]
  have b3 : Below w.heap.size w W3 := by rw [hW3]; exact b2.alloc (by omega) _
  have HL := Lib.hid hl2; clear hl2 hL
  have HP := Lib.hid hp; clear hp
  have HW3 := Lib.hid hW3'; clear hW3' hW3 hW2 x0 x1 hs2 b2
  have hsl := Sha.of_len [97, 98, 99]
  have hhx := hex_abc
  have hrd := rd_hex _ hsl
  have hlz := less_zero
  have hls := less_self (Sha.of [97, 98, 99])
  have hof : ([[97], [98, 99]] : List (List UInt8)).flatten = [97, 98, 99] := rfl
  have h := of_any W3 _ _ HP.out (by decide) (by decide) HL.out
  rw [hof] at h
  obtain ⟨S, hS⟩ : ∃ S, S = Sha.of [97, 98, 99] := ⟨_, rfl⟩
  rw [← hS] at h hsl hhx hrd hlz hls
  have hs64 : (Sha.hex S).length ≤ 9223372036854775807 := by rw [Sha.hex_len, hsl]; decide
  have H := Lib.hid h; clear h hS hof
  have HSL := Lib.hid hsl; clear hsl
  have HHX := Lib.hid hhx; clear hhx
  have HRD := Lib.hid hrd; clear hrd
  have HSA : Hid ((byteCells S).toArray.all (·.oneCell') = true) := Lib.hid (all_oneCell_toArray (byteCells_one _))
  have HSS : Hid ((Tryd.prog.info? 25).map (·.size) = some (byteCells S).toArray.size) := Lib.hid (by rw [Tryd.infoH]; simp [byteCells_length, HSL.out])
  have HZS : Hid (zero32.size = (byteCells S).toArray.size) := Lib.hid (by simp [zero32, byteCells_length, HSL.out])
  go_enter Tryd.func11, Tryd.ntmps11
  go_wp2_with fail
  rw [← HW3.out]
  refine H.out.mono ?_
  rintro e w4 ⟨rfl, b4⟩
  clear kc0 kc1 HP HL H HW3
  replace b4 : Below w.heap.size w w4 := b3.trans (b4.mono b3.size)
  clear b3
  obtain ⟨W5, hW5⟩ : ∃ W5, W5 = (w4.alloc (.cells zero32 25)).setRow w4.heap.size (byteCells S).toArray := ⟨_, rfl⟩
  have z5 : (w4.alloc (.cells zero32 25)).heap[w4.heap.size]? = some (.cells zero32 25 (0, 0)) := heap_alloc_new w4 _
  have x5 : W5.heap[w4.heap.size]? = some (.cells (byteCells S).toArray 25 (0, 0)) := by rw [hW5]; exact setRow_heap _ _ _ _ _ _ z5
  have b5 : Below w.heap.size w W5 := by rw [hW5]; exact below_setRow' (b4.alloc b4.size _) b4.size
  have HW5 := Lib.hid hW5; clear hW5
  have Z5 := Lib.hid z5; clear z5
  have X5 := Lib.hid x5; clear x5
  go_wp2_with (first | ((with_reducible show wpList _ _ _ (⟨none, .store 25 (.tmp 1) (.tmp 9), _, _, _, _⟩ :: _) _ _); change wpList _ _ _ _ _ (w4.alloc (.cells zero32 25)); refine wpList_store_row (o := ⟨none, .store 25 _ _, _, _, _, _⟩) rfl _ _ _ rfl w4.heap.size (byteCells S).toArray rfl rfl _ zero32 Z5.out HSS.out HZS.out HSA.out ?_; change wpList _ _ _ _ _ ((w4.alloc (.cells zero32 25)).setRow w4.heap.size (byteCells S).toArray); rw [← HW5.out]) | ((with_reducible show wpList _ _ _ (⟨some 11, _, _, _, _, _⟩ :: _) _ _); refine wpList_load_hash (op := ⟨some 11, _, _, _, _, _⟩) rfl _ rfl w4.heap.size rfl S HSL.out _ _ X5.out ?_))
  have b50 := b5
  refine (hashText_any S HSL.out W5).mono ?_
  rintro e w6 ⟨rfl, b6⟩
  go_wp2_with fail
  refine (read_any (Sha.hex S) hs64 w6).mono ?_
  rintro e w7 ⟨rfl, b7⟩
  rw [HRD.out]
  have hlt5 : w4.heap.size < W5.heap.size := (Array.getElem?_eq_some_iff.1 X5.out).1
  have b57 : Below W5.heap.size W5 w7 := b6.trans (b7.mono b6.size)
  have x7 : w7.heap[w4.heap.size]? = some (.cells (byteCells S).toArray 25 (0, 0)) := (b57.block _ hlt5).trans X5.out
  have b07 : Below w.heap.size w w7 := b5.trans (b57.mono b5.size)
  have hlt7 : w4.heap.size < w7.heap.size := (Array.getElem?_eq_some_iff.1 x7).1
  obtain ⟨W8, hW8⟩ : ∃ W8, W8 = (w7.alloc (.cells zero32 25)).setRow w7.heap.size (byteCells S).toArray := ⟨_, rfl⟩
  have z8 : (w7.alloc (.cells zero32 25)).heap[w7.heap.size]? = some (.cells zero32 25 (0, 0)) := heap_alloc_new w7 _
  have y8 : W8.heap[w7.heap.size]? = some (.cells (byteCells S).toArray 25 (0, 0)) := by rw [hW8]; exact setRow_heap _ _ _ _ _ _ z8
  have b78 : Below w7.heap.size w7 W8 := by rw [hW8]; exact below_setRow' ((Below.refl _ _).alloc (Nat.le_refl _) _) (Nat.le_refl _)
  have x8 : W8.heap[w4.heap.size]? = some (.cells (byteCells S).toArray 25 (0, 0)) := (b78.block _ hlt7).trans x7
  have b08 : Below w.heap.size w W8 := b07.trans (b78.mono b07.size)
  have HW8 := Lib.hid hW8; clear hW8
  have Z8 := Lib.hid z8; clear z8
  have Y8 := Lib.hid y8; clear y8
  have X8 := Lib.hid x8; clear x8 x7 b57 b07 b78 b6 b7 b5 b50 b4
  go_wp2_with (first | ((with_reducible show wpList _ _ _ (⟨none, .store 25 (.tmp 2) (.tmp 14), _, _, _, _⟩ :: _) _ _); change wpList _ _ _ _ _ (w7.alloc (.cells zero32 25)); refine wpList_store_row (o := ⟨none, .store 25 _ _, _, _, _, _⟩) rfl _ _ _ rfl w7.heap.size (byteCells S).toArray rfl rfl _ zero32 Z8.out HSS.out HZS.out HSA.out ?_; change wpList _ _ _ _ _ ((w7.alloc (.cells zero32 25)).setRow w7.heap.size (byteCells S).toArray); rw [← HW8.out]) | ((with_reducible show wpList _ _ _ (⟨some 16, _, _, _, _, _⟩ :: _) _ _); refine wpList_load_hash (op := ⟨some 16, _, _, _, _, _⟩) rfl _ rfl w4.heap.size rfl S HSL.out _ _ X8.out ?_))
  refine (hashText_any S HSL.out W8).mono ?_
  rintro e w9 ⟨rfl, b9⟩
  rw [HHX.out]
  have x9 := (b9.block _ (Array.getElem?_eq_some_iff.1 X8.out).1).trans X8.out
  have y9 := (b9.block _ (Array.getElem?_eq_some_iff.1 Y8.out).1).trans Y8.out
  have b09 : Below w.heap.size w w9 := b08.trans (b9.mono b08.size)
  have X9 := Lib.hid x9; clear x9
  have Y9 := Lib.hid y9; clear y9 b08
  have hss : (S == S) = true := beq_self_eq_true S
  have hstr : ((strOf [98, 97, 55, 56, 49, 54, 98, 102, 56, 102, 48, 49, 99, 102, 101, 97, 52, 49, 52, 49, 52, 48, 100, 101, 53, 100, 97, 101, 50, 50, 50, 51, 98, 48, 48, 51, 54, 49, 97, 51, 57, 54, 49, 55, 55, 97, 57, 99, 98, 52, 49, 48, 102, 102, 54, 49, 102, 50, 48, 48, 49, 53, 97, 100]).toList == [98, 97, 55, 56, 49, 54, 98, 102, 56, 102, 48, 49, 99, 102, 101, 97, 52, 49, 52, 49, 52, 48, 100, 101, 53, 100, 97, 101, 50, 50, 50, 51, 98, 48, 48, 51, 54, 49, 97, 51, 57, 54, 49, 55, 55, 97, 57, 99, 98, 52, 49, 48, 102, 102, 54, 49, 102, 50, 48, 48, 49, 53, 97, 100]) = true := by rw [strOf_toList]; exact beq_self_eq_true _
  go_wp2_with (first | ((with_reducible show wpList _ _ _ (⟨some 20, _, _, _, _, _⟩ :: _) _ _); refine wpList_load_hash (op := ⟨some 20, _, _, _, _, _⟩) (by kernel_rfl) _ rfl w7.heap.size rfl S HSL.out _ _ Y9.out ?_) | ((with_reducible show wpList _ _ _ (⟨some 21, _, _, _, _, _⟩ :: _) _ _); refine wpList_load_hash (op := ⟨some 21, _, _, _, _, _⟩) (by kernel_rfl) _ rfl w4.heap.size rfl S HSL.out _ _ X9.out ?_) | ((with_reducible show wpList _ _ _ (⟨some 30, _, _, _, _, _⟩ :: _) _ _); refine wpList_load_hash (op := ⟨some 30, _, _, _, _, _⟩) (by kernel_rfl) _ rfl w4.heap.size rfl S HSL.out _ _ X9.out ?_) | ((with_reducible show wpList _ _ _ (⟨some 22, _, _, _, _, _⟩ :: _) _ _); refine wpList_eql_hash (op := ⟨some 22, _, _, _, _, _⟩) (by kernel_rfl) _ _ rfl S S HSL.out HSL.out rfl rfl ?_; rw [hss]) | ((with_reducible show wpList _ _ _ (⟨some 29, _, _, _, _, _⟩ :: _) _ _); refine wpList_zero_hash (op := ⟨some 29, _, _, _, _, _⟩) (by kernel_rfl) rfl ?_))
  refine (less_any (List.replicate 32 0) S (by simp) HSL.out w9).mono ?_
  rintro e w10 ⟨rfl, b10⟩
  rw [hlz]
  have x10 := (b10.block _ (Array.getElem?_eq_some_iff.1 X9.out).1).trans X9.out
  have X10 := Lib.hid x10; clear x10
  have b010 : Below w.heap.size w w10 := b09.trans (b10.mono b09.size)
  go_wp2_with (first | ((with_reducible show wpList _ _ _ (⟨some 34, _, _, _, _, _⟩ :: _) _ _); refine wpList_load_hash (op := ⟨some 34, _, _, _, _, _⟩) (by kernel_rfl) _ rfl w4.heap.size rfl S HSL.out _ _ X10.out ?_) | ((with_reducible show wpList _ _ _ (⟨some 35, _, _, _, _, _⟩ :: _) _ _); refine wpList_load_hash (op := ⟨some 35, _, _, _, _, _⟩) (by kernel_rfl) _ rfl w4.heap.size rfl S HSL.out _ _ X10.out ?_))
  refine (less_any S S HSL.out HSL.out w10).mono ?_
  rintro e w11 ⟨rfl, b11⟩
  rw [hls]
  go_wp2_with fail
  go_ret
  exact ⟨rfl, b010.trans (b11.mono b010.size)⟩

end Go.Proofs.YtabkndpilnapfaaDoor
