/- The walk of the law HashBits. -/
import Derived.Test.YtabkndpilnapfaaDoorLawOf
import Derived.Test.YtabkndpilnapfaaDoorRel
import Derived.Test.YtabkndpilnapfaaDoorOpenC
import Derived.Test.YtabkndpilnapfaaDoorRefText
namespace Go.Proofs.YtabkndpilnapfaaDoor
open Go.RowKit
set_option linter.unusedSimpArgs false
set_option linter.unusedVariables false

/-- What region 3's operations leave. -/
def bitsV (l : List UInt8) (b : UInt8) (i : Nat) (w : World) (v : Value) : Prop :=
  match i with
  | 0 => v = .string (strOf l)
  | 1 => Lib.HoldsBytes w v l
  | 2 => v = .int .u8 (b.toNat : Int)
  | 3 => Lib.HoldsBytes w v [b]
  | 4 => PartsV w v [l, [b]] ∧ w.heap.size = w.heap.size
  | 5 => v = .agg (byteCells (Sha.of (l ++ [b]))).toArray
  | 6 => v = .string (strOf (Sha.of (l ++ [b])))
  | 7 => v = .string (strOf l)
  | 8 => v = .int .u8 (b.toNat : Int)
  | 9 => ∃ g, v = .slice (some ⟨g, 0, none⟩) 1 1 ∧ w.cell? ⟨g, 0, none⟩ = some (.int .u8 (b.toNat : Int))
  | 10 => v = .string (strOf [b])
  | 11 => v = .string (strOf (l ++ [b]))
  | 12 => v = .string (strOf (Sha.of (l ++ [b])))
  | _ => v = .bool true

theorem holds_below {w w' : World} {v : Value} {l : List UInt8} (h : Lib.HoldsBytes w v l) (hb : Below w.heap.size w w') : Lib.HoldsBytes w' v l := by
  obtain ⟨p, cap, h1, h2, h3⟩ := h
  exact ⟨p, cap, h1, h2, fun a ha j x hx => Lib.Below.cellOf hb (h3 a ha j x hx) (Nat.le_refl _)⟩

theorem bitsV_mono (l : List UInt8) (b : UInt8) (j : Nat) (w w' : World) (v : Value) (hb : Below w.heap.size w w') (h : bitsV l b j w v) : bitsV l b j w' v := by
  match j, h with
  | 0, h => exact h
  | 1, h => exact holds_below h hb
  | 2, h => exact h
  | 3, h => exact holds_below h hb
  | 4, h => exact ⟨h.1.below hb, rfl⟩
  | 5, h => exact h
  | 6, h => exact h
  | 7, h => exact h
  | 8, h => exact h
  | 9, ⟨g, h1, h2⟩ => exact ⟨g, h1, Lib.Below.cellOf hb h2 (Nat.le_refl _)⟩
  | 10, h => exact h
  | 11, h => exact h
  | 12, h => exact h
  | _ + 13, h => exact h

theorem cell_one_new' (w : World) (v : Value) (t : TypeId) : (w.alloc (.cells #[v] t)).cell? ⟨w.heap.size, 0, none⟩ = some v := by
  have := heap_alloc_new w (.cells #[v] t)
  unfold World.cell?
  simp only [this]
  rfl

theorem holds_one (w : World) (t : TypeId) (b : UInt8) : Lib.HoldsBytes (w.alloc (.cells #[.int .u8 (b.toNat : Int)] t)) (.slice (some ⟨w.heap.size, 0, none⟩) 1 1) [b] := by
  refine ⟨some ⟨w.heap.size, 0, none⟩, 1, rfl, (by intro h; cases h), fun a ha i x hx => ?_⟩
  cases ha
  rw [Addr.add_lit]
  match i, hx with
  | 0, hx =>
    simp only [List.getElem?_cons_zero, Option.some.injEq] at hx
    subst hx
    exact cell_one_new' w _ t

theorem parts_two {w : World} {v1 v2 : Value} {l1 l2 : List UInt8} (h1 : Lib.HoldsBytes w v1 l1) (h2 : Lib.HoldsBytes w v2 l2) : ∀ (i : Nat) v l, [v1, v2][i]? = some v → [l1, l2][i]? = some l → Lib.HoldsBytes w v l := by
  intro i v l hv hl
  match i, hv, hl with
  | 0, hv, hl =>
    simp only [List.getElem?_cons_zero, Option.some.injEq] at hv hl
    subst hv; subst hl; exact h1
  | 1, hv, hl =>
    simp only [List.getElem?_cons_succ, List.getElem?_cons_zero, Option.some.injEq] at hv hl
    subst hv; subst hl; exact h2

set_option maxRecDepth 100000 in
set_option maxHeartbeats 2000000 in
theorem bits_list (w : World) (l : List UInt8) (b : UInt8) (hl : l.length ≤ 140737488351232) (hL : Laid w) :
    Calls Tryd.prog 10 #[.string (strOf l), .int .u8 (b.toNat : Int)] w fun e w' => e = .returned (.bool true) ∧ Below w.heap.size w w' := by
  have hst := strOf_size l
  have HL := Lib.hid hL; clear hL
  go_enter Tryd.func10, Tryd.ntmps10
  go_wp2_with fail
  refine (awake_any w HL.out).mono ?_
  rintro e w1 ⟨rfl, b1⟩
  have HL1 := Lib.hid (HL.out.below b1)
  by_cases h200 : 200 < l.length
  · have ht : decide ((200 : Int) < (l.length : Int)) = true := decide_eq_true (by omega)
    go_wp2_with fail
    refine (awake_any w1 HL1.out).mono ?_
    rintro e w2 ⟨rfl, b2⟩
    go_wp2_with fail
    go_ret
    exact ⟨rfl, b1.trans (b2.mono b1.size)⟩
  · have ht : decide ((200 : Int) < (l.length : Int)) = false := decide_eq_false (by omega)
    go_wp2_with fail
    refine wp_region_rel [[], [0], [], [2], [1, 3], [4], [5], [], [], [8], [9], [7, 10], [11], [6, 12], [13]] (bitsV l b) 27 (by kernel_rfl) (by kernel_rfl) (by kernel_rfl) (bitsV_mono l b) ?_ ?_
    · intro i o hi w2 b2 vs hv
      have hL2 := HL1.out.below b2
      match i, hi with
      | 0, hi =>
        obtain rfl := Option.some.inj hi
        simp only [relF, List.getD_cons_zero, List.getD_cons_succ, List.foldl_cons, List.foldl_nil, dstAt, List.getElem?_cons_zero, List.getElem?_cons_succ, Option.bind_some]
        go_wp2_with fail
        exact ⟨rfl, Below.refl _ _, rfl, rfl⟩
      | 1, hi =>
        obtain rfl := Option.some.inj hi
        have h0 : vs 0 = _ := hv 0 (by decide)
        obtain ⟨cap, W, hcv, m, bb, ss⟩ := str_bytes Tryd.under_str Tryd.under_u8s Tryd.under_b8 w2 l (by omega)
        simp only [relF, List.getD_cons_zero, List.getD_cons_succ, List.foldl_cons, List.foldl_nil, dstAt, List.getElem?_cons_zero, List.getElem?_cons_succ, Option.bind_some]
        go_frame
        rw [h0]
        go_wp2_with fail
        exact ⟨rfl, bb, rfl, m.holds⟩
      | 2, hi =>
        obtain rfl := Option.some.inj hi
        simp only [relF, List.getD_cons_zero, List.getD_cons_succ, List.foldl_cons, List.foldl_nil, dstAt, List.getElem?_cons_zero, List.getElem?_cons_succ, Option.bind_some]
        go_wp2_with fail
        exact ⟨rfl, Below.refl _ _, rfl, rfl⟩
      | 3, hi =>
        obtain rfl := Option.some.inj hi
        have h2 : vs 2 = _ := hv 2 (by decide)
        simp only [relF, List.getD_cons_zero, List.getD_cons_succ, List.foldl_cons, List.foldl_nil, dstAt, List.getElem?_cons_zero, List.getElem?_cons_succ, Option.bind_some]
        go_frame
        rw [h2]
        go_wp2_with fail
        exact ⟨rfl, (Below.refl _ _).alloc (Nat.le_refl _) _, rfl, holds_one _ _ _⟩
      | 4, hi =>
        obtain rfl := Option.some.inj hi
        have k1 : Lib.HoldsBytes w2 (vs 1) l := hv 1 (by decide)
        have k3 : Lib.HoldsBytes w2 (vs 3) [b] := hv 3 (by decide)
        have hp := parts_new w2 27 [vs 1, vs 3] [l, [b]] 2 rfl rfl (parts_two k1 k3)
        obtain ⟨p1, c1, e1, _⟩ := k1
        obtain ⟨p3, c3, e3, _⟩ := k3
        rw [e1, e3] at hp
        simp only [relF, List.getD_cons_zero, List.getD_cons_succ, List.foldl_cons, List.foldl_nil, dstAt, List.getElem?_cons_zero, List.getElem?_cons_succ, Option.bind_some]
        go_frame
        rw [e1, e3]
        go_wp2_with fail
        exact ⟨rfl, (Below.refl _ _).alloc (Nat.le_refl _) _, rfl, hp, rfl⟩
      | 5, hi =>
        obtain rfl := Option.some.inj hi
        have k4 : PartsV w2 (vs 4) _ ∧ _ := hv 4 (by decide)
        have hof := of_any w2 (vs 4) [l, [b]] k4.1 (by simp) (by simp; omega) hL2
        have hfl : [l, [b]].flatten = l ++ [b] := by simp
        rw [hfl] at hof
        simp only [relF, List.getD_cons_zero, List.getD_cons_succ, List.foldl_cons, List.foldl_nil, dstAt, List.getElem?_cons_zero, List.getElem?_cons_succ, Option.bind_some]
        go_frame
        go_wp2_with fail
        refine hof.mono ?_
        rintro e w3 ⟨rfl, b3⟩
        go_wp2_with fail
        exact ⟨rfl, b3, rfl, rfl⟩
      | 6, hi =>
        obtain rfl := Option.some.inj hi
        have h5 : vs 5 = _ := hv 5 (by decide)
        simp only [relF, List.getD_cons_zero, List.getD_cons_succ, List.foldl_cons, List.foldl_nil, dstAt, List.getElem?_cons_zero, List.getElem?_cons_succ, Option.bind_some]
        go_frame
        rw [h5]
        go_wp2_with fail
        refine (text_any _ (Sha.of_len _) w2).mono ?_
        rintro e w3 ⟨rfl, b3⟩
        go_wp2_with fail
        exact ⟨rfl, b3, rfl, rfl⟩
      | 7, hi =>
        obtain rfl := Option.some.inj hi
        simp only [relF, List.getD_cons_zero, List.getD_cons_succ, List.foldl_cons, List.foldl_nil, dstAt, List.getElem?_cons_zero, List.getElem?_cons_succ, Option.bind_some]
        go_wp2_with fail
        exact ⟨rfl, Below.refl _ _, rfl, rfl⟩
      | 8, hi =>
        obtain rfl := Option.some.inj hi
        simp only [relF, List.getD_cons_zero, List.getD_cons_succ, List.foldl_cons, List.foldl_nil, dstAt, List.getElem?_cons_zero, List.getElem?_cons_succ, Option.bind_some]
        go_wp2_with fail
        exact ⟨rfl, Below.refl _ _, rfl, rfl⟩
      | 9, hi =>
        obtain rfl := Option.some.inj hi
        have h8 : vs 8 = _ := hv 8 (by decide)
        simp only [relF, List.getD_cons_zero, List.getD_cons_succ, List.foldl_cons, List.foldl_nil, dstAt, List.getElem?_cons_zero, List.getElem?_cons_succ, Option.bind_some]
        go_frame
        rw [h8]
        go_wp2_with fail
        exact ⟨rfl, (Below.refl _ _).alloc (Nat.le_refl _) _, rfl, _, rfl, cell_one_new' _ _ _⟩
      | 10, hi =>
        obtain rfl := Option.some.inj hi
        obtain ⟨g9, h9, k9⟩ : ∃ g, vs 9 = .slice (some ⟨g, 0, none⟩) 1 1 ∧ w2.cell? ⟨g, 0, none⟩ = some (.int .u8 (b.toNat : Int)) := hv 9 (by decide)
        have hc := one_char g9 b w2 k9
        simp only [relF, List.getD_cons_zero, List.getD_cons_succ, List.foldl_cons, List.foldl_nil, dstAt, List.getElem?_cons_zero, List.getElem?_cons_succ, Option.bind_some]
        go_frame
        rw [h9]
        go_wp2_with fail
        exact ⟨rfl, Below.refl _ _, rfl, rfl⟩
      | 11, hi =>
        obtain rfl := Option.some.inj hi
        have h7 : vs 7 = _ := hv 7 (by decide)
        have h10 : vs 10 = _ := hv 10 (by decide)
        have hs1 : (strOf [b]).size = 1 := strOf_size [b]
        have hadd := add_str l [b]
        simp only [relF, List.getD_cons_zero, List.getD_cons_succ, List.foldl_cons, List.foldl_nil, dstAt, List.getElem?_cons_zero, List.getElem?_cons_succ, Option.bind_some]
        go_frame
        rw [h7, h10]
        go_wp2_with fail
        exact ⟨rfl, Below.refl _ _, rfl, rfl⟩
      | 12, hi =>
        obtain rfl := Option.some.inj hi
        have h11 : vs 11 = _ := hv 11 (by decide)
        simp only [relF, List.getD_cons_zero, List.getD_cons_succ, List.foldl_cons, List.foldl_nil, dstAt, List.getElem?_cons_zero, List.getElem?_cons_succ, Option.bind_some]
        go_frame
        rw [h11]
        go_wp2_with fail
        refine (refOf_any w2 (l ++ [b]) (by simp; omega)).mono ?_
        rintro e w3 ⟨rfl, b3⟩
        go_wp2_with fail
        exact ⟨rfl, b3, rfl, rfl⟩
      | 13, hi =>
        obtain rfl := Option.some.inj hi
        have h6 : vs 6 = _ := hv 6 (by decide)
        have h12 : vs 12 = _ := hv 12 (by decide)
        simp only [relF, List.getD_cons_zero, List.getD_cons_succ, List.foldl_cons, List.foldl_nil, dstAt, List.getElem?_cons_zero, List.getElem?_cons_succ, Option.bind_some]
        go_frame
        rw [h6, h12]
        go_wp2_with fail
        exact ⟨rfl, Below.refl _ _, rfl, rfl⟩
      | 14, hi =>
        obtain rfl := Option.some.inj hi
        have h13 : vs 13 = _ := hv 13 (by decide)
        simp only [relF, List.getD_cons_zero, List.getD_cons_succ, List.foldl_cons, List.foldl_nil, dstAt, List.getElem?_cons_zero, List.getElem?_cons_succ, Option.bind_some]
        go_frame
        rw [h13]
        go_wp2_with fail
        exact ⟨rfl, Below.refl _ _, rfl, rfl⟩
      | n + 15, hi => simp at hi
    · intro w2 b2 vs hv
      have h14 : vs 14 = .bool true := hv 14 (by decide)
      simp only [relF, List.length_cons, List.length_nil, Nat.zero_add, Nat.reduceAdd, List.range, List.range.loop, List.foldl_cons, List.foldl_nil, dstAt, List.getElem?_cons_zero, List.getElem?_cons_succ, Option.bind_some]
      go_frame
      rw [h14]
      go_wp2_with fail
      go_ret
      exact ⟨rfl, b1.trans (b2.mono b1.size)⟩

theorem bits_law (w : World) (s : ByteArray) (hs : s.size ≤ 140737488351232) (x : Int) (hx : (Lit.int .u8 x).wf = true) (hL : Laid w) :
    Calls Tryd.prog 10 #[.string s, .int .u8 x] w fun e w' => e = .returned (.bool true) ∧ Below w.heap.size w w' := by
  have hb := wf_u8 hx
  have h := bits_list w s.data.toList (UInt8.ofNat x.toNat) (by rw [← strOf_size, strOf_data]; exact hs) hL
  rw [strOf_data] at h
  have e : (((UInt8.ofNat x.toNat).toNat : Nat) : Int) = x := by rw [UInt8.toNat_ofNat']; omega
  rwa [e] at h

end Go.Proofs.YtabkndpilnapfaaDoor
