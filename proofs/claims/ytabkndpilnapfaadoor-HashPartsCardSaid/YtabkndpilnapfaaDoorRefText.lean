/- The walks of the reference's Text and Read. -/
import Derived.Test.YtabkndpilnapfaaDoorMine
import Derived.Test.YtabkndpilnapfaaDoorHex2
import Derived.Test.YtabkndpilnapfaaDoorQuietTail
import Derived.WalkSpells
import Derived.WalkLawsBesides
import Derived.Deep.QuietTactic
import Derived.BigQuiet
import Derived.IntWalk
import Derived.Maps.RangeWalk
namespace Go.Proofs.YtabkndpilnapfaaDoor
open Go.RowKit
set_option linter.unusedSimpArgs false
set_option linter.unusedVariables false

theorem ext_digit (m : Nat) (hm : m < 16) : (⟨#[48, 49, 50, 51, 52, 53, 54, 55, 56, 57, 97, 98, 99, 100, 101, 102]⟩ : ByteArray).extract m (m + 1) = strOf [Sha.digit m] := by
  have h : (⟨#[48, 49, 50, 51, 52, 53, 54, 55, 56, 57, 97, 98, 99, 100, 101, 102]⟩ : ByteArray) = strOf Sha.digits := rfl
  rw [h, strOf_extract, Nat.add_sub_cancel_left]
  have : ∀ m, m < 16 → (Sha.digits.drop m).take 1 = [Sha.digit m] := by decide
  rw [this m hm]

theorem hex_more (l : List UInt8) (t : Nat) (x : UInt8) (h : l[t]? = some x) : Sha.hex (l.take t) ++ ([Sha.digit (x.toNat / 16)] ++ [Sha.digit (x.toNat % 16)]) = Sha.hex (l.take (t + 1)) := by
  rw [List.take_add_one, h]
  unfold Sha.hex
  rw [List.map_append, List.flatten_append]
  simp [Sha.hex2]

set_option maxHeartbeats 1000000 in
set_option maxRecDepth 100000 in
theorem refHex_any (s : List UInt8) (hs : s.length ≤ 1000000) (w : World) :
    Calls Tryd.prog 17 #[.string (strOf s)] w fun e w' => e = .returned (.string (strOf (Sha.hex s))) ∧ Below w.heap.size w w' := by
  have hst := strOf_size s
  go_enter Tryd.func17, Tryd.ntmps17
  go_wp2_with fail
  go_loopw [3, 4] (fun o i wr => ∃ t : Nat, t ≤ s.length ∧ i = .int .i64 t ∧ o = .string (strOf (Sha.hex (s.take t))) ∧ Below w.heap.size w wr) (fun _ i _ => s.length - (intOf i).toNat)
  case atStart => exact ⟨0, by omega, rfl, rfl, Below.refl _ _⟩
  case round =>
    obtain ⟨t, ht, rfl, rfl, Br⟩ := hrel
    by_cases hlt : t < s.length
    · obtain ⟨x, hx⟩ : ∃ x, s[t]? = some x := ⟨_, List.getElem?_eq_getElem hlt⟩
      have hsx : (strOf s)[t]'(by rw [hst]; exact hlt) = x := by
        have := (List.getElem?_eq_some_iff.1 hx).2
        rw [← this]; simp [strOf, ByteArray.getElem_eq_getElem_data]
      have hxl := x.toNat_lt
      have HM := Lib.hid (hex_more s t x hx); clear hx
      have he1 := ext_digit (x.toNat / 16) (by omega)
      have he2 := ext_digit (x.toNat % 16) (by omega)
      have HE1 := Lib.hid he1; clear he1
      have HE2 := Lib.hid he2; clear he2
      go_wp2_with fail
      refine wp_region_quiet_lit (by kernel_rfl) (by kernel_rfl) ?_
      repeat (go_big_quiet_step (fail))
      rw [HE1.out, HE2.out, add_str]
      refine quiet_run (.string (strOf (Sha.hex (s.take t) ++ ([Sha.digit (x.toNat / 16)] ++ [Sha.digit (x.toNat % 16)])))) (by rfl) (fun n => by rw [run_cat _ _ _ _ _ _ _ (by rfl) Tryd.underlying9 (strOf (Sha.hex (s.take t))) (strOf ([Sha.digit (x.toNat / 16)] ++ [Sha.digit (x.toNat % 16)])) (by rfl) (by rfl) (by rw [strOf_size, strOf_size, Sha.hex_len, List.length_take]; simp; omega), add_str]) ?_
      go_frame
      repeat (go_big_quiet_step (fail))
      refine wpQuiet_nil ?_
      rintro w3 ⟨nq, rfl⟩
      go_wp2_with fail
      go_roundw
      case rel => exact ⟨t + 1, by omega, by go_num, by rw [HM.out], ⟨Br.os, Br.tape, Br.output, Br.size, Br.block⟩⟩
      case measure => simp [intOf]; omega
    · obtain rfl : t = s.length := by omega
      go_wp2_with fail
      go_ret
      exact ⟨congrArg (fun z => Ending.returned (.string (strOf (Sha.hex z)))) (List.take_of_length_le (Nat.le_refl _) : s.take s.length = s), Br⟩

/-- The last of the first j digits that is c; -1: none is. -/
def dAt (c : UInt8) : Nat → Int
  | 0 => -1
  | j + 1 => if Sha.digits.getD j 0 = c then (j : Int) else dAt c j

theorem dAt_all (c : UInt8) : dAt c 16 = Sha.nib c := by
  have : ∀ n, n < 256 → dAt (UInt8.ofNat n) 16 = Sha.nib (UInt8.ofNat n) := by decide +kernel
  exact Sha.all_bytes (fun c => dAt c 16 = Sha.nib c) this c

theorem dAt_range (c : UInt8) (j : Nat) (h : j ≤ 16) : -1 ≤ dAt c j ∧ dAt c j < 16 := by
  induction j with
  | zero => simp [dAt]
  | succ j ih => have := ih (by omega); rw [dAt]; split <;> omega

/-- What the reference makes of a text. -/
def refRd (s : List UInt8) : List UInt8 × Bool :=
  match Sha.unhex s with
  | some l => (l, s.length == 64)
  | none => ([], false)

theorem str_digit2 (m : Nat) (hm : m < 16) : ((⟨#[48, 49, 50, 51, 52, 53, 54, 55, 56, 57, 97, 98, 99, 100, 101, 102]⟩ : ByteArray)[m]'hm) = Sha.digits.getD m 0 := by
  have : ∀ m, (hm : m < 16) → ((⟨#[48, 49, 50, 51, 52, 53, 54, 55, 56, 57, 97, 98, 99, 100, 101, 102]⟩ : ByteArray)[m]'hm) = Sha.digits.getD m 0 := by decide
  exact this m hm

theorem one_char (g : Nat) (c : UInt8) (W : World) (h : W.cell? ⟨g, 0, none⟩ = some (.int .u8 c.toNat)) :
    (convert 27 9 (.slice (some ⟨g, 0, none⟩) 1 1)).run Tryd.prog W = .ok (.string (strOf [c])) W := by
  refine run_convert_bytes_back _ _ _ 5 _ _ [c] (by kernel_rfl) (by kernel_rfl) (by kernel_rfl) ?_
  intro j hj
  match j, hj with
  | 0, _ => exact h

theorem unhex_short (l : List UInt8) (h : l.length ≤ 1) : Sha.unhex l = some [] := by
  match l, h with
  | [], _ => rfl
  | [_], _ => rfl

/-- The digits of a pair so far. -/
def numAt (s : List UInt8) (i : Nat) : Nat → Int
  | 0 => 0
  | k + 1 => 16 * numAt s i k + Sha.nib (s.getD (i + k) 0)

set_option maxHeartbeats 1000000 in
set_option maxRecDepth 100000 in
theorem refRead_any (s : List UInt8) (hs : s.length ≤ 1000000) (w : World) :
    Calls Tryd.prog 18 #[.string (strOf s)] w fun e w' => e = .returned (.tuple #[.string (strOf (refRd s).1), .bool (refRd s).2]) ∧ Below w.heap.size w w' := by
  have hst := strOf_size s
  obtain ⟨R, hR⟩ : ∃ R, R = refRd s := ⟨_, rfl⟩
  rw [← hR]
  have HR := Lib.hid hR; clear hR
  go_enter Tryd.func18, Tryd.ntmps18
  go_wp2_with fail
  go_loopw [4, 5] (fun o i wr => ∃ t x : Nat, ∃ l : List UInt8, x = 2 * t ∧ x ≤ s.length ∧ i = .int .i64 x ∧ o = .string (strOf l) ∧ l.length = t ∧ Hid (Sha.unhex s = (Sha.unhex (s.drop x)).map fun r => l ++ r) ∧ Below w.heap.size w wr) (fun _ i _ => s.length - (intOf i).toNat)
  case atStart => exact ⟨0, 0, [], rfl, by omega, rfl, rfl, rfl, Lib.hid (by simp), Below.refl _ _⟩
  case round =>
    obtain ⟨t, x, l, hx, hxs, rfl, rfl, hll, hun, Br⟩ := hrel
    have HX := Lib.hid hx; clear hx
    have HLL := Lib.hid hll; clear hll
    by_cases hlt : x + 1 < s.length
    · have ht1 : decide ((x : Int) + 1 < (s.length : Int)) = true := decide_eq_true (by omega)
      have hdr : s.drop x = s.getD x 0 :: s.getD (x + 1) 0 :: s.drop (x + 2) := by
        rw [List.drop_eq_getElem_cons (by omega), List.drop_eq_getElem_cons (by omega)]
        simp only [List.getD_eq_getElem?_getD]
        rw [List.getElem?_eq_getElem (by omega), List.getElem?_eq_getElem (by omega)]
        rfl
      have HDR := Lib.hid hdr; clear hdr
      go_wp2_with fail
      obtain ⟨wo, rfl⟩ : ∃ wo : World, wo = wr := ⟨_, rfl⟩
      go_loopw [6, 7] (fun nn k wr => ∃ k' : Nat, ∃ v : Int, k' ≤ 2 ∧ k = .int .i64 k' ∧ nn = .int .i64 v ∧ 0 ≤ v ∧ v ≤ 255 ∧ Hid (v = numAt s x k') ∧ Hid (k' = 1 → v ≤ 15) ∧ Hid (k' = 0 → v = 0) ∧ Hid (∀ j, j < k' → 0 ≤ Sha.nib (s.getD (x + j) 0)) ∧ Below w.heap.size w wr) (fun _ k _ => 2 - (intOf k).toNat)
      case atStart => exact ⟨0, 0, by omega, rfl, rfl, by omega, by omega, Lib.hid rfl, Lib.hid (by omega), Lib.hid (fun _ => rfl), Lib.hid (by omega), Br⟩
      case round =>
        clear Br
        obtain ⟨k, v, hk, rfl, rfl, hv0, hv1, hv, hv15, hv00, hd, Br⟩ := hrel
        by_cases hk2 : k < 2
        · obtain ⟨c, hc⟩ : ∃ c, s[x + k]? = some c := ⟨_, List.getElem?_eq_getElem (by omega)⟩
          have hsx : (strOf s)[x + k]'(by rw [hst]; omega) = c := by
            have := (List.getElem?_eq_some_iff.1 hc).2
            rw [← this]; simp [strOf, ByteArray.getElem_eq_getElem_data]
          have hcg : s.getD (x + k) 0 = c := by rw [List.getD_eq_getElem?_getD, hc]; rfl
          have HCG := Lib.hid hcg; clear hcg hc
          have ftk : decide ((k : Int) < 2) = true := decide_eq_true (by omega)
          have hvk : 16 * v + 15 ≤ 255 := by
            have h1 := hv15.out; have h0 := hv00.out
            rcases (show k = 0 ∨ k = 1 by omega) with h | h
            · have := h0 h; omega
            · have := h1 h; omega
          have hcl := c.toNat_lt
          go_wp2_with fail
          obtain ⟨wz, rfl⟩ : ∃ wz : World, wz = wr := ⟨_, rfl⟩
          go_loopw [8, 9] (fun d j wr => ∃ j' : Nat, j' ≤ 16 ∧ j = .int .i64 j' ∧ d = .int .i64 (dAt c j') ∧ Below w.heap.size w wr) (fun _ j _ => 16 - (intOf j).toNat)
          case atStart => exact ⟨0, by omega, rfl, rfl, Br⟩
          case round =>
            clear Br
            obtain ⟨j, hj, rfl, rfl, Br⟩ := hrel
            by_cases hj16 : j < 16
            · have hdg := str_digit2 j hj16
              obtain ⟨y, hy⟩ : ∃ y, y = Sha.digits.getD j 0 := ⟨_, rfl⟩
              rw [← hy] at hdg
              have HY := Lib.hid hy; clear hy
              have ftj : decide ((j : Int) < 16) = true := decide_eq_true (by omega)
              have hsum : IntKind.i64.wrap ((x : Int) + (k : Int)) = (x : Int) + (k : Int) := IntWalk.i64_in _ (by omega)
              have htn : ((x : Int) + (k : Int)).toNat = x + k := by omega
              have hb0 : (0 : Int) ≤ (x : Int) + (k : Int) := by omega
              have hb1 : (x : Int) + (k : Int) < (s.length : Int) := by omega
              by_cases hyc : y = c
              · have heq : ((y.toNat : Int) == (c.toNat : Int)) = true := by rw [hyc]; simp
                go_wp2_with fail
                refine wp_region_quiet_lit (by kernel_rfl) (by kernel_rfl) ?_
                repeat (go_big_quiet_step (fail))
                refine wpQuiet_nil ?_
                rintro w3 ⟨nq, rfl⟩
                go_wp2_with fail
                go_roundw
                case rel => exact ⟨j + 1, by omega, by go_num, by rw [dAt, if_pos (by rw [← HY.out]; exact hyc)], ⟨Br.os, Br.tape, Br.output, Br.size, Br.block⟩⟩
                case measure => simp [intOf]; omega
              · have hne : ((y.toNat : Int) == (c.toNat : Int)) = false := by
                  rw [beq_eq_false_iff_ne]
                  intro h
                  exact hyc (UInt8.toNat_inj.1 (by omega))
                go_wp2_with fail
                refine wp_region_quiet_lit (by kernel_rfl) (by kernel_rfl) ?_
                repeat (go_big_quiet_step (fail))
                refine wpQuiet_nil ?_
                rintro w3 ⟨nq, rfl⟩
                go_wp2_with fail
                go_roundw
                case rel => exact ⟨j + 1, by omega, by go_num, by rw [dAt, if_neg (by rw [← HY.out]; exact hyc)], ⟨Br.os, Br.tape, Br.output, Br.size, Br.block⟩⟩
                case measure => simp [intOf]; omega
            · obtain rfl : j = 16 := by omega
              rw [dAt_all c]
              have hnr := Sha.nib_range c
              obtain ⟨q, hq⟩ : ∃ q, q = Sha.nib c := ⟨_, rfl⟩
              rw [← hq] at hnr ⊢
              have HQ := Lib.hid hq; clear hq
              by_cases hneg : q < 0
              · have hvR : R = ([], false) := by
                  rw [HR.out]; unfold refRd
                  rw [hun.out, HDR.out, Sha.unhex]
                  rw [if_pos]
                  · rfl
                  · rcases (show k = 0 ∨ k = 1 by omega) with h | h
                    · left; rw [HQ.out, ← HCG.out, h] at hneg; exact hneg
                    · right; rw [HQ.out, ← HCG.out, h] at hneg; exact hneg
                have ftn : decide (q < 0) = true := decide_eq_true hneg
                have HvR := Lib.hid hvR; clear hvR
                go_wp2_with fail
                go_ret2
                exact ⟨by rw [HvR.out]; rfl, Br⟩
              · have ftn : decide (q < 0) = false := decide_eq_false hneg
                have hq0 : 0 ≤ q := by omega
                have hq1 : q ≤ 15 := by omega
                have hw1 : IntKind.i64.wrap (16 * v) = 16 * v := IntWalk.i64_in _ (by omega)
                have hw2 : IntKind.i64.wrap (16 * v + q) = 16 * v + q := IntWalk.i64_in _ (by omega)
                clear hneg hnr
                go_wp2_with fail
                go_roundw
                case rel => exact ⟨k + 1, 16 * v + q, by omega, by go_num, rfl, by omega, by omega, Lib.hid (by rw [numAt, ← hv.out, HCG.out, ← HQ.out]), Lib.hid (fun h => by have := hv00.out (by omega); omega), Lib.hid (fun h => by omega), Lib.hid (fun j hj => by
                  by_cases e : j = k
                  · rw [e, HCG.out, ← HQ.out]; exact hq0
                  · exact hd.out j (by omega)), Br⟩
                case measure => simp [intOf]; omega
        · obtain rfl : k = 2 := by omega
          have hn0 := hd.out 0 (by omega)
          have hn1 := hd.out 1 (by omega)
          have hv2 : v = 16 * Sha.nib (s.getD x 0) + Sha.nib (s.getD (x + 1) 0) := by rw [hv.out]; simp [numAt]
          have hr0 := Sha.nib_range (s.getD x 0)
          have hr1 := Sha.nib_range (s.getD (x + 1) 0)
          rw [Nat.add_zero] at hn0
          obtain ⟨c, hc⟩ : ∃ c, c = UInt8.ofNat (16 * (Sha.nib (s.getD x 0)).toNat + (Sha.nib (s.getD (x + 1) 0)).toNat) := ⟨_, rfl⟩
          have hcv : IntKind.u8.wrap v = (c.toNat : Int) := by
            rw [hc, IntKind.wrap_u8, UInt8.toNat_ofNat', hv2]; omega
          have hun2 : Sha.unhex s = (Sha.unhex (s.drop (x + 2))).map fun r => (l ++ [c]) ++ r := by
            rw [hun.out, HDR.out, Sha.unhex, if_neg (by omega), ← hc, Option.map_map]
            congr 1
            funext r
            simp
          have HU2 := Lib.hid hun2
          have hll := HLL.out
          have hx2 := HX.out
          have hb1 : (strOf l).size ≤ 1000000 := by rw [strOf_size]; omega
          have hs1 : (strOf [c]).size = 1 := strOf_size [c]
          have hadd := add_str l [c]
          have hconv := fun g => one_char g c
          clear hn0 hn1 hv2 hr0 hr1 hc hun2 hll hx2
          go_wp2_with fail
          go_roundw
          case rel => exact ⟨t + 1, x + 2, l ++ [c], by have := HX.out; omega, by omega, by go_num, rfl, by rw [List.length_append, HLL.out]; rfl, HU2, Br.alloc Br.size _⟩
          case measure => simp [intOf]; omega
    · have hdx := unhex_short (s.drop x) (by rw [List.length_drop]; omega)
      have hR2 : R = (l, s.length == 64) := by
        rw [HR.out]; unfold refRd
        rw [hun.out, hdx]; simp
      have HR2 := Lib.hid hR2
      have ft1 : decide ((x : Int) + 1 < (s.length : Int)) = false := decide_eq_false (by omega)
      obtain ⟨b, hb⟩ : ∃ b, b = (s.length == 64) := ⟨_, rfl⟩
      have hbi : ((s.length : Int) == 64) = b := by
        rw [hb, Bool.eq_iff_iff, beq_iff_eq, beq_iff_eq]; omega
      have HB := Lib.hid hb
      clear hR2 hb hdx
      go_wp2_with fail
      go_ret2
      exact ⟨by rw [HR2.out, HB.out]; rfl, Br⟩

end Go.Proofs.YtabkndpilnapfaaDoor
