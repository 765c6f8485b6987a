/- The walk of the law ManyChecks. -/
import Derived.Test.YtgheacegjgaobaaDoorKG14a
namespace Go.Proofs.YtgheacegjgaobaaDoor
open Go.RowKit
set_option linter.unusedSimpArgs false
set_option linter.unusedVariables false

/-- What the region's operations leave. -/
def mchV (B mA cA mX cX mP cP : Nat) (oA oX oP : Option Addr) (n : Int) (A : List Int) (r : List UInt8) (X P : List (List UInt8)) (ix : Nat) (w : World) (v : Value) : Prop :=
  match ix with
  | 0 => v = .agg (byteCells r).toArray
  | 1 => v = .int .i64 (n)
  | 2 => ∃ g : Nat, v = .slice (some ⟨g, 0, none⟩) 0 0
  | 3 => v = .slice oA mA cA
  | 4 => ∃ (q : Addr) (c : Nat), v = .slice (some q) mA c ∧ IntsAt w (some q) mA c A
  | 5 => ∃ g : Nat, v = .slice (some ⟨g, 0, none⟩) 0 0
  | 6 => v = .slice oX mX cX
  | 7 => ∃ (q : Addr) (c : Nat), v = .slice (some q) mX c ∧ StrsAt w (some q) mX c X
  | 8 => ∃ g : Nat, v = .slice (some ⟨g, 0, none⟩) 0 0
  | 9 => v = .slice oP mP cP
  | 10 => ∃ (q : Addr) (c : Nat), v = .slice (some q) mP c ∧ HashesAt w (some q) mP c P
  | 11 => v = .bool (checkI r n A X P)
  | 12 => v = .agg (byteCells r).toArray
  | 13 => v = .int .i64 (n)
  | 14 => v = .slice oA mA cA
  | 15 => v = .slice oX mX cX
  | 16 => v = .slice oP mP cP
  | 17 => v = .bool (checkI r n A X P)
  | 18 => v = .bool true
  | 19 => v = .bool true
  | 20 => v = .int .i64 (n)
  | 21 => ∃ g : Nat, v = .slice (some ⟨g, 0, none⟩) 0 0
  | 22 => v = .slice oA mA cA
  | 23 => ∃ (q : Addr) (c : Nat), v = .slice (some q) mA c ∧ IntsAt w (some q) mA c A
  | 24 => v = .int .i64 ((sizeI n A : Int))
  | 25 => v = .int .i64 (n)
  | 26 => v = .slice oA mA cA
  | 27 => v = .int .i64 ((sizeI n A : Int))
  | 28 => v = .bool true
  | 29 => v = .bool true
  | 30 => v = .bool true
  | _ => True

theorem mchV_mono (B mA cA mX cX mP cP : Nat) (oA oX oP : Option Addr) (n : Int) (A : List Int) (r : List UInt8) (X P : List (List UInt8)) (jx : Nat) (w w' : World) (v : Value) (hb : Below w.heap.size w w') (h : mchV B mA cA mX cX mP cP oA oX oP n A r X P jx w v) : mchV B mA cA mX cX mP cP oA oX oP n A r X P jx w' v := by
  match jx, h with
  | 0, h => exact h
  | 1, h => exact h
  | 2, h => exact h
  | 3, h => exact h
  | 4, h => exact (let ⟨q, c, h1, h2⟩ := h; ⟨q, c, h1, h2.below (Nat.le_refl _) hb⟩)
  | 5, h => exact h
  | 6, h => exact h
  | 7, h => exact (let ⟨q, c, h1, h2⟩ := h; ⟨q, c, h1, h2.below (Nat.le_refl _) hb⟩)
  | 8, h => exact h
  | 9, h => exact h
  | 10, h => exact (let ⟨q, c, h1, h2⟩ := h; ⟨q, c, h1, h2.below (Nat.le_refl _) hb⟩)
  | 11, h => exact h
  | 12, h => exact h
  | 13, h => exact h
  | 14, h => exact h
  | 15, h => exact h
  | 16, h => exact h
  | 17, h => exact h
  | 18, h => exact h
  | 19, h => exact h
  | 20, h => exact h
  | 21, h => exact h
  | 22, h => exact h
  | 23, h => exact (let ⟨q, c, h1, h2⟩ := h; ⟨q, c, h1, h2.below (Nat.le_refl _) hb⟩)
  | 24, h => exact h
  | 25, h => exact h
  | 26, h => exact h
  | 27, h => exact h
  | 28, h => exact h
  | 29, h => exact h
  | 30, h => exact h
  | _ + 31, h => exact trivial

set_option maxRecDepth 100000 in
set_option maxHeartbeats 4000000 in
theorem mchecks_list (w : World) (r : List UInt8) (hr : r.length = 32) (n : Int) (hn : (Lit.int .i64 n).wf = true) (oA : Option Addr) (mA cA : Nat) (A : List Int) (hA : IntsAt w oA mA cA A) (oX : Option Addr) (mX cX : Nat) (X : List (List UInt8)) (hX : StrsAt w oX mX cX X) (hxX : ∀ l ∈ X, l.length ≤ 9223372036854775807) (oP : Option Addr) (mP cP : Nat) (P : List (List UInt8)) (hP : HashesAt w oP mP cP P) (hL : Laid w) :
    Calls Tryd.prog 5 #[.agg (byteCells r).toArray, .int .i64 n, .slice oA mA cA, .slice oX mX cX, .slice oP mP cP] w fun e w' => e = .returned (.bool true) ∧ Below w.heap.size w w' := by
  have hbn := wf_i64' hn
  have hmA : A.length = mA := hA.len
  have hcA := hA.cap
  have hyA := hA.max
  have HA := Lib.hid hA; clear hA
  have hmX : X.length = mX := hX.len
  have hcX := hX.cap
  have hyX := hX.max
  have HX := Lib.hid hX; clear hX
  have HXX := Lib.hid hxX; clear hxX
  have hmP : P.length = mP := hP.1.1
  have hcP : mP ≤ cP := hP.1.2.1
  have hyP : cP ≤ 9223372036854775807 := hP.1.2.2.1
  have HP := Lib.hid hP; clear hP
  have HL := Lib.hid hL; clear hL
  obtain ⟨W0, hW0⟩ : ∃ W0, W0 = w.alloc (.cells (byteCells r).toArray 23) := ⟨_, rfl⟩
  have x7 : W0.heap[w.heap.size]? = some (.cells (byteCells r).toArray 23 (0, 0)) := by rw [hW0]; exact heap_alloc_new w _
  have b0 : Below w.heap.size w W0 := by rw [hW0]; exact (Below.refl _ _).alloc (Nat.le_refl _) _
  replace HA := Lib.hid (HA.out.below (Nat.le_refl _) b0)
  replace HX := Lib.hid (HX.out.below (Nat.le_refl _) b0)
  replace HP := Lib.hid (HP.out.below (Nat.le_refl _) b0)
  replace HL := Lib.hid (HL.out.below b0)
  have X7 := Lib.hid x7; clear x7
  have HW0 := Lib.hid hW0; clear hW0
  have HR := Lib.hid hr; clear hr
  go_enter Tryd.func5, Tryd.ntmps5
  go_wp2_with fail
  rw [← HW0.out]
  refine (awake4_any _ HL.out).mono ?_
  rintro e w1 ⟨rfl, b1⟩
  replace HA := Lib.hid (HA.out.below (Nat.le_refl _) b1)
  replace HX := Lib.hid (HX.out.below (Nat.le_refl _) b1)
  replace HP := Lib.hid (HP.out.below (Nat.le_refl _) b1)
  replace HL := Lib.hid (HL.out.below b1)
  replace X7 := Lib.hid ((b1.block _ (lt_of_block X7.out)).trans X7.out)
  replace b1 := b0.trans (b1.mono b0.size)
  clear b0
  rcases hf : few X with _ | _
  · have hfc := refFew_any w1 oX mX cX X HX.out HXX.out
    rw [hf] at hfc
    have HFC := Lib.hid hfc; clear hfc hf
    go_wp2_with fail
    refine HFC.out.mono ?_
    rintro e w' ⟨rfl, rfl⟩
    go_wp2_with fail
    refine (awake4_any _ HL.out).mono ?_
    rintro e w2 ⟨rfl, b2⟩
    go_wp2_with fail
    go_ret
    exact ⟨rfl, b1.trans (b2.mono b1.size)⟩
  · have hfc := refFew_any w1 oX mX cX X HX.out HXX.out
    rw [hf] at hfc
    obtain ⟨h20, h200⟩ := few_spec hf
    have HFC := Lib.hid hfc; clear hfc hf
    have HLE : Hid (∀ l ∈ X, l.length ≤ 100000) := Lib.hid fun l hl => by have := h200 l hl; omega
    have H200 := Lib.hid h200; clear h200
    go_wp2_with fail
    refine HFC.out.mono ?_
    rintro e w' ⟨rfl, rfl⟩
    clear HFC
    by_cases hg : 20 < mA
    · have ht : decide ((20 : Int) < (mA : Int)) = true := decide_eq_true (by omega)
      go_wp2_with fail
      refine (awake4_any _ HL.out).mono ?_
      rintro e w2 ⟨rfl, b2⟩
      go_wp2_with fail
      go_ret
      exact ⟨rfl, b1.trans (b2.mono b1.size)⟩
    · have ht : decide ((20 : Int) < (mA : Int)) = false := decide_eq_false (by omega)
      by_cases hg : 300 < mP
      · have ht : decide ((300 : Int) < (mP : Int)) = true := decide_eq_true (by omega)
        go_wp2_with fail
        refine (awake4_any _ HL.out).mono ?_
        rintro e w2 ⟨rfl, b2⟩
        go_wp2_with fail
        go_ret
        exact ⟨rfl, b1.trans (b2.mono b1.size)⟩
      · have ht : decide ((300 : Int) < (mP : Int)) = false := decide_eq_false (by omega)
        go_wp2_with fail
        refine wp_region_rel [[], [], [], [], [2, 3], [], [], [5, 6], [], [], [8, 9], [0, 1, 4, 7, 10], [], [], [], [], [], [12, 13, 14, 15, 16], [11, 17], [18], [19], [19], [19], [19, 21, 22], [19, 20, 23], [19], [19], [19, 25, 26], [19, 24, 27], [19, 28], [29]] (mchV w.heap.size mA cA mX cX mP cP oA oX oP n A r X P) 59 (by kernel_rfl) (by kernel_rfl) (by kernel_rfl) (mchV_mono w.heap.size mA cA mX cX mP cP oA oX oP n A r X P) ?_ ?_
        · intro ix op hi w2 b2 vs hv
          have him : ix < 31 := (List.getElem?_eq_some_iff.1 hi).1
          have hL2 := HL.out.below b2
          match ix, him, hi with
          | 0, _, hi =>
            obtain rfl := Option.some.inj hi
            simp only [relF, List.getD_cons_zero, List.getD_cons_succ, List.foldl_cons, List.foldl_nil, dstAt, List.getElem?_cons_zero, List.getElem?_cons_succ, Option.bind_some]
            go_wp2_with ((with_reducible show wpList _ _ _ (⟨some 29, _, _, _, _, _⟩ :: _) _ _); refine wpList_load_hash (op := ⟨some 29, _, _, _, _, _⟩) (by kernel_rfl) _ rfl w.heap.size rfl r HR.out _ _ ((b2.block _ (lt_of_block X7.out)).trans X7.out) ?_)
            exact ⟨rfl, Below.refl _ _, rfl, rfl⟩
          | 1, _, hi =>
            obtain rfl := Option.some.inj hi
            simp only [relF, List.getD_cons_zero, List.getD_cons_succ, List.foldl_cons, List.foldl_nil, dstAt, List.getElem?_cons_zero, List.getElem?_cons_succ, Option.bind_some]
            go_wp2_with fail
            exact ⟨rfl, Below.refl _ _, rfl, rfl⟩
          | 2, _, hi =>
            obtain rfl := Option.some.inj hi
            simp only [relF, List.getD_cons_zero, List.getD_cons_succ, List.foldl_cons, List.foldl_nil, dstAt, List.getElem?_cons_zero, List.getElem?_cons_succ, Option.bind_some]
            go_wp2_with fail
            exact ⟨rfl, (Below.refl _ _).alloc (Nat.le_refl _) _, rfl, w2.heap.size, rfl⟩
          | 3, _, hi =>
            obtain rfl := Option.some.inj hi
            simp only [relF, List.getD_cons_zero, List.getD_cons_succ, List.foldl_cons, List.foldl_nil, dstAt, List.getElem?_cons_zero, List.getElem?_cons_succ, Option.bind_some]
            go_wp2_with fail
            exact ⟨rfl, Below.refl _ _, rfl, rfl⟩
          | 4, _, hi =>
            obtain rfl := Option.some.inj hi
            obtain ⟨g2, e2⟩ := hv 2 (by decide)
            have h3 : vs 3 = _ := hv 3 (by decide)
            obtain ⟨q, cc, W, hrun, hs, hbb⟩ := IntsAt.copy (HA.out.below (Nat.le_refl _) b2) (by omega) ⟨g2, 0, none⟩
            simp only [relF, List.getD_cons_zero, List.getD_cons_succ, List.foldl_cons, List.foldl_nil, dstAt, List.getElem?_cons_zero, List.getElem?_cons_succ, Option.bind_some]
            go_frame
            rw [e2, h3]
            go_wp2_with ((with_reducible show wpList _ _ _ (⟨some 33, _, _, _, _, _⟩ :: _) _ _); refine wpList_append_ran (by kernel_rfl) _ _ _ rfl _ _ rfl rfl hrun ?_)
            exact ⟨rfl, hbb, rfl, q, cc, rfl, hs⟩
          | 5, _, hi =>
            obtain rfl := Option.some.inj hi
            simp only [relF, List.getD_cons_zero, List.getD_cons_succ, List.foldl_cons, List.foldl_nil, dstAt, List.getElem?_cons_zero, List.getElem?_cons_succ, Option.bind_some]
            go_wp2_with fail
            exact ⟨rfl, (Below.refl _ _).alloc (Nat.le_refl _) _, rfl, w2.heap.size, rfl⟩
          | 6, _, hi =>
            obtain rfl := Option.some.inj hi
            simp only [relF, List.getD_cons_zero, List.getD_cons_succ, List.foldl_cons, List.foldl_nil, dstAt, List.getElem?_cons_zero, List.getElem?_cons_succ, Option.bind_some]
            go_wp2_with fail
            exact ⟨rfl, Below.refl _ _, rfl, rfl⟩
          | 7, _, hi =>
            obtain rfl := Option.some.inj hi
            obtain ⟨g5, e5⟩ := hv 5 (by decide)
            have h6 : vs 6 = _ := hv 6 (by decide)
            obtain ⟨q, cc, W, hrun, hs, hbb⟩ := StrsAt.copy (HX.out.below (Nat.le_refl _) b2) (by omega) ⟨g5, 0, none⟩
            simp only [relF, List.getD_cons_zero, List.getD_cons_succ, List.foldl_cons, List.foldl_nil, dstAt, List.getElem?_cons_zero, List.getElem?_cons_succ, Option.bind_some]
            go_frame
            rw [e5, h6]
            go_wp2_with ((with_reducible show wpList _ _ _ (⟨some 36, _, _, _, _, _⟩ :: _) _ _); refine wpList_append_ran (by kernel_rfl) _ _ _ rfl _ _ rfl rfl hrun ?_)
            exact ⟨rfl, hbb, rfl, q, cc, rfl, hs⟩
          | 8, _, hi =>
            obtain rfl := Option.some.inj hi
            simp only [relF, List.getD_cons_zero, List.getD_cons_succ, List.foldl_cons, List.foldl_nil, dstAt, List.getElem?_cons_zero, List.getElem?_cons_succ, Option.bind_some]
            go_wp2_with fail
            exact ⟨rfl, (Below.refl _ _).alloc (Nat.le_refl _) _, rfl, w2.heap.size, rfl⟩
          | 9, _, hi =>
            obtain rfl := Option.some.inj hi
            simp only [relF, List.getD_cons_zero, List.getD_cons_succ, List.foldl_cons, List.foldl_nil, dstAt, List.getElem?_cons_zero, List.getElem?_cons_succ, Option.bind_some]
            go_wp2_with fail
            exact ⟨rfl, Below.refl _ _, rfl, rfl⟩
          | 10, _, hi =>
            obtain rfl := Option.some.inj hi
            obtain ⟨g8, e8⟩ := hv 8 (by decide)
            have h9 : vs 9 = _ := hv 9 (by decide)
            obtain ⟨q, cc, W, hrun, hs, hbb⟩ := HashesAt.copy (HP.out.below (Nat.le_refl _) b2) (by omega) ⟨g8, 0, none⟩
            simp only [relF, List.getD_cons_zero, List.getD_cons_succ, List.foldl_cons, List.foldl_nil, dstAt, List.getElem?_cons_zero, List.getElem?_cons_succ, Option.bind_some]
            go_frame
            rw [e8, h9]
            go_wp2_with ((with_reducible show wpList _ _ _ (⟨some 39, _, _, _, _, _⟩ :: _) _ _); refine wpList_append_ran (by kernel_rfl) _ _ _ rfl _ _ rfl rfl hrun ?_)
            exact ⟨rfl, hbb, rfl, q, cc, rfl, hs⟩
          | 11, _, hi =>
            obtain rfl := Option.some.inj hi
            have h0 : vs 0 = _ := hv 0 (by decide)
            have h1 : vs 1 = _ := hv 1 (by decide)
            obtain ⟨q4, c4, e4, s4⟩ := hv 4 (by decide)
            obtain ⟨q7, c7, e7, s7⟩ := hv 7 (by decide)
            obtain ⟨q10, c10, e10, s10⟩ := hv 10 (by decide)
            simp only [relF, List.getD_cons_zero, List.getD_cons_succ, List.foldl_cons, List.foldl_nil, dstAt, List.getElem?_cons_zero, List.getElem?_cons_succ, Option.bind_some]
            go_frame
            rw [h0, h1, e4, e7, e10]
            go_wp2_with fail
            refine (manyCheck_all w2 r HR.out n _ _ _ _ _ _ _ _ _ A X P s4 s7 s10 HLE.out (by omega) (by omega) (by omega) hL2).mono ?_
            rintro e w3 ⟨rfl, b3⟩
            go_wp2_with fail
            exact ⟨rfl, b3, rfl, rfl⟩
          | 12, _, hi =>
            obtain rfl := Option.some.inj hi
            simp only [relF, List.getD_cons_zero, List.getD_cons_succ, List.foldl_cons, List.foldl_nil, dstAt, List.getElem?_cons_zero, List.getElem?_cons_succ, Option.bind_some]
            go_wp2_with ((with_reducible show wpList _ _ _ (⟨some 41, _, _, _, _, _⟩ :: _) _ _); refine wpList_load_hash (op := ⟨some 41, _, _, _, _, _⟩) (by kernel_rfl) _ rfl w.heap.size rfl r HR.out _ _ ((b2.block _ (lt_of_block X7.out)).trans X7.out) ?_)
            exact ⟨rfl, Below.refl _ _, rfl, rfl⟩
          | 13, _, hi =>
            obtain rfl := Option.some.inj hi
            simp only [relF, List.getD_cons_zero, List.getD_cons_succ, List.foldl_cons, List.foldl_nil, dstAt, List.getElem?_cons_zero, List.getElem?_cons_succ, Option.bind_some]
            go_wp2_with fail
            exact ⟨rfl, Below.refl _ _, rfl, rfl⟩
          | 14, _, hi =>
            obtain rfl := Option.some.inj hi
            simp only [relF, List.getD_cons_zero, List.getD_cons_succ, List.foldl_cons, List.foldl_nil, dstAt, List.getElem?_cons_zero, List.getElem?_cons_succ, Option.bind_some]
            go_wp2_with fail
            exact ⟨rfl, Below.refl _ _, rfl, rfl⟩
          | 15, _, hi =>
            obtain rfl := Option.some.inj hi
            simp only [relF, List.getD_cons_zero, List.getD_cons_succ, List.foldl_cons, List.foldl_nil, dstAt, List.getElem?_cons_zero, List.getElem?_cons_succ, Option.bind_some]
            go_wp2_with fail
            exact ⟨rfl, Below.refl _ _, rfl, rfl⟩
          | 16, _, hi =>
            obtain rfl := Option.some.inj hi
            simp only [relF, List.getD_cons_zero, List.getD_cons_succ, List.foldl_cons, List.foldl_nil, dstAt, List.getElem?_cons_zero, List.getElem?_cons_succ, Option.bind_some]
            go_wp2_with fail
            exact ⟨rfl, Below.refl _ _, rfl, rfl⟩
          | 17, _, hi =>
            obtain rfl := Option.some.inj hi
            have h12 : vs 12 = _ := hv 12 (by decide)
            have h13 : vs 13 = _ := hv 13 (by decide)
            have h14 : vs 14 = _ := hv 14 (by decide)
            have h15 : vs 15 = _ := hv 15 (by decide)
            have h16 : vs 16 = _ := hv 16 (by decide)
            simp only [relF, List.getD_cons_zero, List.getD_cons_succ, List.foldl_cons, List.foldl_nil, dstAt, List.getElem?_cons_zero, List.getElem?_cons_succ, Option.bind_some]
            go_frame
            rw [h12, h13, h14, h15, h16]
            go_wp2_with fail
            refine (refMCheck_all w2 r HR.out n _ _ _ _ _ _ _ _ _ A X P (HA.out.below (Nat.le_refl _) b2) (HX.out.below (Nat.le_refl _) b2) (HP.out.below (Nat.le_refl _) b2) HLE.out (by omega)).mono ?_
            rintro e w3 ⟨rfl, b3⟩
            go_wp2_with fail
            exact ⟨rfl, b3, rfl, rfl⟩
          | 18, _, hi =>
            obtain rfl := Option.some.inj hi
            have h11 : vs 11 = _ := hv 11 (by decide)
            have h17 : vs 17 = _ := hv 17 (by decide)
            simp only [relF, List.getD_cons_zero, List.getD_cons_succ, List.foldl_cons, List.foldl_nil, dstAt, List.getElem?_cons_zero, List.getElem?_cons_succ, Option.bind_some]
            go_frame
            rw [h11, h17]
            go_wp2_with fail
            exact ⟨rfl, Below.refl _ _, rfl, by first | rfl | (show slotOf _ _ = _; simp [slotOf])⟩
          | 19, _, hi =>
            obtain rfl := Option.some.inj hi
            have h18 : vs 18 = _ := hv 18 (by decide)
            simp only [relF, List.getD_cons_zero, List.getD_cons_succ, List.foldl_cons, List.foldl_nil, dstAt, List.getElem?_cons_zero, List.getElem?_cons_succ, Option.bind_some]
            go_frame
            rw [h18]
            go_wp2_with fail
            exact ⟨rfl, Below.refl _ _, rfl, rfl⟩
          | 20, _, hi =>
            obtain rfl := Option.some.inj hi
            have h19 : vs 19 = _ := hv 19 (by decide)
            simp only [relF, List.getD_cons_zero, List.getD_cons_succ, List.foldl_cons, List.foldl_nil, dstAt, List.getElem?_cons_zero, List.getElem?_cons_succ, Option.bind_some]
            go_frame
            rw [h19]
            go_wp2_with fail
            exact ⟨rfl, Below.refl _ _, rfl, rfl⟩
          | 21, _, hi =>
            obtain rfl := Option.some.inj hi
            have h19 : vs 19 = _ := hv 19 (by decide)
            simp only [relF, List.getD_cons_zero, List.getD_cons_succ, List.foldl_cons, List.foldl_nil, dstAt, List.getElem?_cons_zero, List.getElem?_cons_succ, Option.bind_some]
            go_frame
            rw [h19]
            go_wp2_with fail
            exact ⟨rfl, (Below.refl _ _).alloc (Nat.le_refl _) _, rfl, w2.heap.size, rfl⟩
          | 22, _, hi =>
            obtain rfl := Option.some.inj hi
            have h19 : vs 19 = _ := hv 19 (by decide)
            simp only [relF, List.getD_cons_zero, List.getD_cons_succ, List.foldl_cons, List.foldl_nil, dstAt, List.getElem?_cons_zero, List.getElem?_cons_succ, Option.bind_some]
            go_frame
            rw [h19]
            go_wp2_with fail
            exact ⟨rfl, Below.refl _ _, rfl, rfl⟩
          | 23, _, hi =>
            obtain rfl := Option.some.inj hi
            have h19 : vs 19 = _ := hv 19 (by decide)
            obtain ⟨g21, e21⟩ := hv 21 (by decide)
            have h22 : vs 22 = _ := hv 22 (by decide)
            obtain ⟨q, cc, W, hrun, hs, hbb⟩ := IntsAt.copy (HA.out.below (Nat.le_refl _) b2) (by omega) ⟨g21, 0, none⟩
            simp only [relF, List.getD_cons_zero, List.getD_cons_succ, List.foldl_cons, List.foldl_nil, dstAt, List.getElem?_cons_zero, List.getElem?_cons_succ, Option.bind_some]
            go_frame
            rw [h19, e21, h22]
            go_wp2_with ((with_reducible show wpList _ _ _ (⟨some 52, _, _, _, _, _⟩ :: _) _ _); refine wpList_append_ran (by kernel_rfl) _ _ _ rfl _ _ rfl rfl hrun ?_)
            exact ⟨rfl, hbb, rfl, q, cc, rfl, hs⟩
          | 24, _, hi =>
            obtain rfl := Option.some.inj hi
            have h19 : vs 19 = _ := hv 19 (by decide)
            have h20 : vs 20 = _ := hv 20 (by decide)
            obtain ⟨q23, c23, e23, s23⟩ := hv 23 (by decide)
            simp only [relF, List.getD_cons_zero, List.getD_cons_succ, List.foldl_cons, List.foldl_nil, dstAt, List.getElem?_cons_zero, List.getElem?_cons_succ, Option.bind_some]
            go_frame
            rw [h19, h20, e23]
            go_wp2_with fail
            refine (manySize_all w2 n _ _ _ A s23 (by omega) hL2).mono ?_
            rintro e w3 ⟨rfl, b3⟩
            go_wp2_with fail
            exact ⟨rfl, b3, rfl, rfl⟩
          | 25, _, hi =>
            obtain rfl := Option.some.inj hi
            have h19 : vs 19 = _ := hv 19 (by decide)
            simp only [relF, List.getD_cons_zero, List.getD_cons_succ, List.foldl_cons, List.foldl_nil, dstAt, List.getElem?_cons_zero, List.getElem?_cons_succ, Option.bind_some]
            go_frame
            rw [h19]
            go_wp2_with fail
            exact ⟨rfl, Below.refl _ _, rfl, rfl⟩
          | 26, _, hi =>
            obtain rfl := Option.some.inj hi
            have h19 : vs 19 = _ := hv 19 (by decide)
            simp only [relF, List.getD_cons_zero, List.getD_cons_succ, List.foldl_cons, List.foldl_nil, dstAt, List.getElem?_cons_zero, List.getElem?_cons_succ, Option.bind_some]
            go_frame
            rw [h19]
            go_wp2_with fail
            exact ⟨rfl, Below.refl _ _, rfl, rfl⟩
          | 27, _, hi =>
            obtain rfl := Option.some.inj hi
            have h19 : vs 19 = _ := hv 19 (by decide)
            have h25 : vs 25 = _ := hv 25 (by decide)
            have h26 : vs 26 = _ := hv 26 (by decide)
            simp only [relF, List.getD_cons_zero, List.getD_cons_succ, List.foldl_cons, List.foldl_nil, dstAt, List.getElem?_cons_zero, List.getElem?_cons_succ, Option.bind_some]
            go_frame
            rw [h19, h25, h26]
            go_wp2_with fail
            refine (refMSize_all w2 n _ _ _ A (HA.out.below (Nat.le_refl _) b2)).mono ?_
            rintro e w3 ⟨rfl, b3⟩
            go_wp2_with fail
            exact ⟨rfl, b3, rfl, rfl⟩
          | 28, _, hi =>
            obtain rfl := Option.some.inj hi
            have h19 : vs 19 = _ := hv 19 (by decide)
            have h24 : vs 24 = _ := hv 24 (by decide)
            have h27 : vs 27 = _ := hv 27 (by decide)
            simp only [relF, List.getD_cons_zero, List.getD_cons_succ, List.foldl_cons, List.foldl_nil, dstAt, List.getElem?_cons_zero, List.getElem?_cons_succ, Option.bind_some]
            go_frame
            rw [h19, h24, h27]
            go_wp2_with fail
            exact ⟨rfl, Below.refl _ _, rfl, by first | rfl | (show slotOf _ _ = _; simp [slotOf])⟩
          | 29, _, hi =>
            obtain rfl := Option.some.inj hi
            have h19 : vs 19 = _ := hv 19 (by decide)
            have h28 : vs 28 = _ := hv 28 (by decide)
            simp only [relF, List.getD_cons_zero, List.getD_cons_succ, List.foldl_cons, List.foldl_nil, dstAt, List.getElem?_cons_zero, List.getElem?_cons_succ, Option.bind_some]
            go_frame
            rw [h19, h28]
            go_wp2_with fail
            exact ⟨rfl, Below.refl _ _, rfl, rfl⟩
          | 30, _, hi =>
            obtain rfl := Option.some.inj hi
            have h29 : vs 29 = _ := hv 29 (by decide)
            simp only [relF, List.getD_cons_zero, List.getD_cons_succ, List.foldl_cons, List.foldl_nil, dstAt, List.getElem?_cons_zero, List.getElem?_cons_succ, Option.bind_some]
            go_frame
            rw [h29]
            go_wp2_with fail
            exact ⟨rfl, Below.refl _ _, rfl, rfl⟩
          | nx + 31, him, _ => exact absurd him (by omega)
        · intro w2 b2 vs hv
          have hL2 := HL.out.below b2
          have h30 : vs 30 = _ := hv 30 (by decide)
          simp only [relF, List.drop_succ_cons, List.drop_zero, List.length_cons, List.length_nil, Nat.zero_add, Nat.reduceAdd, List.range, List.range.loop, List.foldl_cons, List.foldl_nil, dstAt, List.getElem?_cons_zero, List.getElem?_cons_succ, Option.bind_some]
          go_frame
          rw [h30]
          go_wp2_with fail
          go_ret
          exact ⟨rfl, b1.trans (b2.mono b1.size)⟩

theorem mchecks_law (w : World) (r : List UInt8) (hr : r.length = 32) (n : Int) (hn : (Lit.int .i64 n).wf = true) (oA : Option Addr) (mA cA : Nat) (A : List Int) (hA : RowsAt w oA mA cA 1 (intCell .i64) A) (hwA : ∀ x ∈ A, (Lit.int .i64 x).wf = true) (oX : Option Addr) (mX cX : Nat) (X : List ByteArray) (rX : RowsAt w oX mX cX 1 strCell X) (hxX : ∀ s ∈ X, s.size ≤ maxLen) (oP : Option Addr) (mP cP : Nat) (P : List (List UInt8)) (hP : RowsAt w oP mP cP 32 byteCells P) (h32P : ∀ p ∈ P, p.length = 32) (hL : Laid w) :
    Calls Tryd.prog 5 #[.agg (byteCells r).toArray, .int .i64 n, .slice oA mA cA, .slice oX mX cX, .slice oP mP cP] w fun e w' => e = .returned (.bool true) ∧ Below w.heap.size w w' := by
  have h := mchecks_list w r hr n hn oA mA cA A hA oX mX cX _ (StrsAt.of_rows rX) (strs_le hxX) oP mP cP P ⟨hP, h32P⟩ hL
  exact h

end Go.Proofs.YtgheacegjgaobaaDoor
