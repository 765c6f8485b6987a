/- J7, in one text. -/
import Derived.Test.YtjlaoijmcenahaaDoorJ6
/- The walks of the reference's Append, All, Few. -/
namespace Go.Proofs.YtjlaoijmcenahaaDoor
open Go.RowKit
set_option linter.unusedSimpArgs false
set_option linter.unusedVariables false

/-- What the region's operations leave. -/
def raV (u : Nat) (log r la S : List UInt8) (ix : Nat) (w : World) (v : Value) : Prop :=
  match ix with
  | 0 => v = .string (strOf log)
  | 1 => v = .int .i64 (u : Int)
  | 2 => v = .string (strOf (log.take u))
  | 3 => v = .string (strOf r)
  | 4 => v = .string (strOf (J.text r))
  | 5 => v = .string (strOf ((log.take u) ++ (J.text r)))
  | 6 => v = .string (strOf la)
  | 7 => v = .string (strOf r)
  | 8 => v = .string (strOf S)
  | 9 => v = .string (strOf (S.take 8))
  | 10 => v = .string (strOf ((log.take u) ++ ((J.text r) ++ (S.take 8))))
  | 11 => v = .string (strOf ((log.take u) ++ ((J.text r) ++ (S.take 8))))
  | _ => True

theorem raV_mono (u : Nat) (log r la S : List UInt8) (jx : Nat) (w w' : World) (v : Value) (hb : Below w.heap.size w w') (h : raV u log r la S jx w v) : raV u log r la S jx w' v := by
  match jx, h with
  | 0, h => exact h
  | 1, h => exact h
  | 2, h => exact h
  | 3, h => exact h
  | 4, h => exact h
  | 5, h => exact h
  | 6, h => exact h
  | 7, h => exact h
  | 8, h => exact h
  | 9, h => exact h
  | 10, h => exact h
  | 11, h => exact h
  | _ + 12, h => exact trivial

set_option maxRecDepth 100000 in
set_option maxHeartbeats 2000000 in
theorem refJappend_any (w : World) (log r : List UInt8) (hl : log.length ≤ 100000) (hr : r.length ≤ 65536) :
    Calls Tryd.prog 16 #[.string (strOf log), .string (strOf r)] w fun e w' => e = .returned (.string (strOf (J.append log r))) ∧ Below w.heap.size w w' := by
  have hst := strOf_size log
  have hsr := strOf_size r
  have hc := refJread_any w log hl
  have hlast := J.last_len (l := log) J.zero_len
  have hul := J.used_le J.zero log
  have HAP : Hid (J.append log r = (log.take (J.read J.zero log).2.1 ++ (J.text r ++ (J.sum (J.read J.zero log).2.2 r).take 8))) := Lib.hid rfl
  obtain ⟨u, hu⟩ : ∃ u, u = (J.read J.zero log).2.1 := ⟨_, rfl⟩
  obtain ⟨la, hla⟩ : ∃ la, la = (J.read J.zero log).2.2 := ⟨_, rfl⟩
  rw [← hu, ← hla] at hc HAP
  rw [← hu] at hul
  rw [← hla] at hlast
  clear hu hla
  have HC := Lib.hid hc; clear hc
  obtain ⟨S, hS⟩ : ∃ S, S = J.sum la r := ⟨_, rfl⟩
  have hSl : S.length = 32 := by rw [hS]; exact J.sum_len la r
  rw [← hS] at HAP
  have HSS := Lib.hid (strOf_size S)
  have HSE := Lib.hid hS; clear hS
  have hxl := J.text_len r
  have hnl := Wire.num_length r.length (by omega)
  have HLX : Hid ((log.take u).length = u ∧ (J.text r).length ≤ r.length + 10 ∧ (S.take 8).length = 8 ∧ u ≤ log.length ∧ S.length = 32) := Lib.hid ⟨by rw [List.length_take]; omega, by omega, by rw [List.length_take, hSl]; rfl, hul, hSl⟩
  go_enter Tryd.func16, Tryd.ntmps16
  go_wp2_with fail
  refine HC.out.mono ?_
  rintro e w1 ⟨q, c, k, rfl, -, b1⟩
  clear HC
  go_wp2_with fail
  refine wp_region_rel [[], [], [0, 1], [], [3], [2, 4], [], [], [6, 7], [8], [5, 9], [10]] (raV u log r la S) 25 (by kernel_rfl) (by kernel_rfl) (by kernel_rfl) (raV_mono u log r la S) ?_ ?_
  · intro ix op hi w2 b2 vs hv
    have him : ix < 12 := (List.getElem?_eq_some_iff.1 hi).1
    have hlx := HLX.out
    have hss := HSS.out
    match ix, him, hi with
    | 0, _, hi =>
      obtain rfl := Option.some.inj hi
      simp only [relF, List.getD_cons_zero, List.getD_cons_succ, List.foldl_cons, List.foldl_nil, dstAt, List.getElem?_cons_zero, List.getElem?_cons_succ, Option.bind_some]
      go_wp2_with fail
      exact ⟨rfl, Below.refl _ _, rfl, rfl⟩
    | 1, _, hi =>
      obtain rfl := Option.some.inj hi
      simp only [relF, List.getD_cons_zero, List.getD_cons_succ, List.foldl_cons, List.foldl_nil, dstAt, List.getElem?_cons_zero, List.getElem?_cons_succ, Option.bind_some]
      go_wp2_with fail
      exact ⟨rfl, Below.refl _ _, rfl, rfl⟩
    | 2, _, hi =>
      obtain rfl := Option.some.inj hi
      have h0 : vs 0 = _ := hv 0 (by decide)
      have h1 : vs 1 = _ := hv 1 (by decide)
      have hx := strOf_extract log 0 u
      rw [Nat.sub_zero, List.drop_zero] at hx
      simp only [relF, List.getD_cons_zero, List.getD_cons_succ, List.foldl_cons, List.foldl_nil, dstAt, List.getElem?_cons_zero, List.getElem?_cons_succ, Option.bind_some]
      go_frame
      rw [h0, h1]
      go_wp2_with fail
      exact ⟨rfl, Below.refl _ _, rfl, by first | rfl | (show slotOf _ _ = _; simp [slotOf, strOf_extract])⟩
    | 3, _, hi =>
      obtain rfl := Option.some.inj hi
      simp only [relF, List.getD_cons_zero, List.getD_cons_succ, List.foldl_cons, List.foldl_nil, dstAt, List.getElem?_cons_zero, List.getElem?_cons_succ, Option.bind_some]
      go_wp2_with fail
      exact ⟨rfl, Below.refl _ _, rfl, rfl⟩
    | 4, _, hi =>
      obtain rfl := Option.some.inj hi
      have h3 : vs 3 = _ := hv 3 (by decide)
      simp only [relF, List.getD_cons_zero, List.getD_cons_succ, List.foldl_cons, List.foldl_nil, dstAt, List.getElem?_cons_zero, List.getElem?_cons_succ, Option.bind_some]
      go_frame
      rw [h3]
      go_wp2_with fail
      refine ((refText_any r (by omega) w2)).mono ?_
      rintro e w3 ⟨rfl, b3⟩
      go_wp2_with fail
      exact ⟨rfl, b3, rfl, rfl⟩
    | 5, _, hi =>
      obtain rfl := Option.some.inj hi
      have h2 : vs 2 = _ := hv 2 (by decide)
      have h4 : vs 4 = _ := hv 4 (by decide)
      have hz1 := strOf_size (log.take u)
      have hz2 := strOf_size (J.text r)
      have hadd : ((strOf (log.take u)) : ByteArray) ++ (strOf (J.text r)) = strOf ((log.take u) ++ (J.text r)) := by first | exact add_str (log.take u) (J.text r) | (rw [add_str]; simp only [List.append_assoc, List.cons_append])
      simp only [relF, List.getD_cons_zero, List.getD_cons_succ, List.foldl_cons, List.foldl_nil, dstAt, List.getElem?_cons_zero, List.getElem?_cons_succ, Option.bind_some]
      go_frame
      rw [h2, h4]
      go_wp2_with fail
      exact ⟨rfl, Below.refl _ _, rfl, rfl⟩
    | 6, _, hi =>
      obtain rfl := Option.some.inj hi
      simp only [relF, List.getD_cons_zero, List.getD_cons_succ, List.foldl_cons, List.foldl_nil, dstAt, List.getElem?_cons_zero, List.getElem?_cons_succ, Option.bind_some]
      go_wp2_with fail
      exact ⟨rfl, Below.refl _ _, rfl, rfl⟩
    | 7, _, hi =>
      obtain rfl := Option.some.inj hi
      simp only [relF, List.getD_cons_zero, List.getD_cons_succ, List.foldl_cons, List.foldl_nil, dstAt, List.getElem?_cons_zero, List.getElem?_cons_succ, Option.bind_some]
      go_wp2_with fail
      exact ⟨rfl, Below.refl _ _, rfl, rfl⟩
    | 8, _, hi =>
      obtain rfl := Option.some.inj hi
      have h6 : vs 6 = _ := hv 6 (by decide)
      have h7 : vs 7 = _ := hv 7 (by decide)
      have hsm := refJsum_any w2 la r (by omega) (by omega)
      rw [← HSE.out] at hsm
      simp only [relF, List.getD_cons_zero, List.getD_cons_succ, List.foldl_cons, List.foldl_nil, dstAt, List.getElem?_cons_zero, List.getElem?_cons_succ, Option.bind_some]
      go_frame
      rw [h6, h7]
      go_wp2_with fail
      refine (hsm).mono ?_
      rintro e w3 ⟨rfl, b3⟩
      go_wp2_with fail
      exact ⟨rfl, b3, rfl, rfl⟩
    | 9, _, hi =>
      obtain rfl := Option.some.inj hi
      have h8 : vs 8 = _ := hv 8 (by decide)
      have hx := strOf_extract S 0 8
      rw [Nat.sub_zero, List.drop_zero] at hx
      simp only [relF, List.getD_cons_zero, List.getD_cons_succ, List.foldl_cons, List.foldl_nil, dstAt, List.getElem?_cons_zero, List.getElem?_cons_succ, Option.bind_some]
      go_frame
      rw [h8]
      go_wp2_with fail
      exact ⟨rfl, Below.refl _ _, rfl, by first | rfl | (show slotOf _ _ = _; simp [slotOf, strOf_extract])⟩
    | 10, _, hi =>
      obtain rfl := Option.some.inj hi
      have h5 : vs 5 = _ := hv 5 (by decide)
      have h9 : vs 9 = _ := hv 9 (by decide)
      have hz1 : ((strOf ((log.take u) ++ (J.text r))) : ByteArray).size = ((log.take u) ++ (J.text r)).length := by first | rfl | exact strOf_size _
      have hz2 : ((strOf (S.take 8)) : ByteArray).size = (S.take 8).length := by first | rfl | exact strOf_size _
      simp only [List.length_cons, List.length_append, List.length_nil] at hz1 hz2
      have hadd : ((strOf ((log.take u) ++ (J.text r))) : ByteArray) ++ (strOf (S.take 8)) = strOf ((log.take u) ++ ((J.text r) ++ (S.take 8))) := by first | exact add_str ((log.take u) ++ (J.text r)) (S.take 8) | (rw [add_str]; simp only [List.append_assoc, List.cons_append])
      simp only [relF, List.getD_cons_zero, List.getD_cons_succ, List.foldl_cons, List.foldl_nil, dstAt, List.getElem?_cons_zero, List.getElem?_cons_succ, Option.bind_some]
      go_frame
      rw [h5, h9]
      go_wp2_with fail
      exact ⟨rfl, Below.refl _ _, rfl, rfl⟩
    | 11, _, hi =>
      obtain rfl := Option.some.inj hi
      have h10 : vs 10 = _ := hv 10 (by decide)
      simp only [relF, List.getD_cons_zero, List.getD_cons_succ, List.foldl_cons, List.foldl_nil, dstAt, List.getElem?_cons_zero, List.getElem?_cons_succ, Option.bind_some]
      go_frame
      rw [h10]
      go_wp2_with fail
      exact ⟨rfl, Below.refl _ _, rfl, rfl⟩
    | nx + 12, him, _ => exact absurd him (by omega)
  · intro w2 b2 vs hv
    have hlx := HLX.out
    have hss := HSS.out
    have h11 : vs 11 = _ := hv 11 (by decide)
    simp only [relF, List.drop_succ_cons, List.drop_zero, List.length_cons, List.length_nil, Nat.zero_add, Nat.reduceAdd, List.range, List.range.loop, List.foldl_cons, List.foldl_nil, dstAt, List.getElem?_cons_zero, List.getElem?_cons_succ, Option.bind_some]
    go_frame
    rw [h11]
    go_wp2_with fail
    go_ret
    exact ⟨by rw [HAP.out]; rfl, b1.trans (b2.mono b1.size)⟩

theorem J.enc_len (R : List (List UInt8)) : ∀ last, (∀ r ∈ R, r.length ≤ 300) → (J.enc last R).length ≤ R.length * 318 := by
  induction R with
  | nil => intro last h; exact Nat.zero_le _
  | cons r R ih =>
    intro last h
    have h1 := h r (by simp)
    have h2 := ih (J.sum last r) (fun t ht => h t (by simp [ht]))
    have h3 := J.rec_len last r
    have h4 := J.text_len r
    have h5 := Wire.num_length r.length (by omega)
    rw [J.enc, List.length_append, List.length_cons, Nat.add_mul]
    omega

set_option maxRecDepth 100000 in
set_option maxHeartbeats 2000000 in
theorem refAll_any (w : World) (o : Option Addr) (n cap : Nat) (L : List (List UInt8)) (hS : StrsAt w o n cap L) (h300 : ∀ r ∈ L, r.length ≤ 300) (h12 : L.length ≤ 12) :
    Calls Tryd.prog 21 #[.slice o n cap] w fun e w' => e = .returned (.string (strOf (J.enc J.zero L))) ∧ Below w.heap.size w w' := by
  have hlen := hS.len
  have hcap := hS.cap
  have hmax := hS.max
  have HS := Lib.hid hS; clear hS
  have HLEN := Lib.hid hlen; clear hlen
  have H300 := Lib.hid h300; clear h300
  have hn12 : n ≤ 12 := by rw [← HLEN.out]; exact h12
  go_enter Tryd.func21, Tryd.ntmps21
  go_wp2_with fail
  go_loopw [3, 4] (fun s v wr => ∃ j : Nat, j ≤ n ∧ v = .int .i64 (j : Int) ∧ s = .string (strOf (J.enc J.zero (L.take j))) ∧ Below w.heap.size w wr) (fun _ v _ => n - (intOf v).toNat)
  case atStart => exact ⟨0, by omega, rfl, rfl, Below.refl _ _⟩
  case round =>
    obtain ⟨j, hj, rfl, rfl, Br⟩ := hrel
    by_cases hlt : j < n
    · obtain ⟨b, off, rfl⟩ := HS.out.form (by omega)
      obtain ⟨l, hl⟩ : ∃ l, L[j]? = some l := ⟨_, List.getElem?_eq_getElem (by rw [HLEN.out]; exact hlt)⟩
      have hcell := (HS.out.below (Nat.le_refl _) Br).get hl
      have hl3 := H300.out l (List.mem_of_getElem? hl)
      have htk : ∀ r ∈ L.take j, r.length ≤ 300 := fun r hr => H300.out r (List.mem_of_mem_take hr)
      have hel := J.enc_len (L.take j) J.zero htk
      have htl : (L.take j).length ≤ 12 := by rw [List.length_take]; omega
      have hc := refJappend_any wr (J.enc J.zero (L.take j)) l (by omega) (by omega)
      rw [J.append_enc (fun r hr => by have := htk r hr; omega), show L.take j ++ [l] = L.take (j + 1) by rw [List.take_add_one, hl]; rfl] at hc
      have HC := Lib.hid hc; clear hc hl htk
      have t1 : decide ((j : Int) < (n : Int)) = true := decide_eq_true (by omega)
      have t1' : decide (j < n) = true := decide_eq_true hlt
      go_wp2_with fail
      refine HC.out.mono ?_
      rintro e w2 ⟨rfl, b2⟩
      go_wp2_with fail
      go_roundw
      case rel => exact ⟨j + 1, by omega, by go_num, rfl, Br.trans (b2.mono Br.size)⟩
      case measure => simp [intOf]; omega
    · obtain rfl : j = n := by omega
      have htk : L.take j = L := List.take_of_length_le (by rw [HLEN.out]; exact Nat.le_refl _)
      have HTK := Lib.hid htk; clear htk
      go_wp2_with fail
      go_ret
      exact ⟨by rw [HTK.out]; rfl, Br⟩

/-- The leaves aren't too many or long. -/
def few16 (L : List (List UInt8)) : Bool := L.all (fun l => decide (l.length ≤ 300)) && decide (L.length ≤ 12)

theorem few16_spec {L : List (List UInt8)} (h : few16 L = true) : L.length ≤ 12 ∧ ∀ l ∈ L, l.length ≤ 300 := by
  unfold few16 at h
  rw [Bool.and_eq_true, List.all_eq_true] at h
  exact ⟨of_decide_eq_true h.2, fun l hl => of_decide_eq_true (h.1 l hl)⟩

set_option maxRecDepth 100000 in
theorem refFew_any (w : World) (o : Option Addr) (n cap : Nat) (L : List (List UInt8)) (hS : StrsAt w o n cap L) (hmx : ∀ l ∈ L, l.length ≤ 9223372036854775807) :
    Calls Tryd.prog 19 #[.slice o n cap] w fun e w' => w = w' ∧ e = .returned (.bool (few16 L)) := by
  have hlen := hS.len
  have hcap := hS.cap
  have hmax := hS.max
  have HS := Lib.hid hS; clear hS
  have HLEN := Lib.hid hlen; clear hlen
  obtain ⟨R, hR⟩ : ∃ R, R = few16 L := ⟨_, rfl⟩
  rw [← hR]
  have HR := Lib.hid hR; clear hR
  go_enter Tryd.func19, Tryd.ntmps19
  go_wp2_with fail
  go_loopw [3] (fun v wr => Hid (w = wr) ∧ ∃ j : Nat, j ≤ n ∧ v = .int .i64 (j : Int) ∧ Hid ((L.take j).all (fun l => decide (l.length ≤ 300)) = true)) (fun v _ => n - (intOf v).toNat)
  case atStart => exact ⟨Lib.hid rfl, 0, by omega, rfl, Lib.hid rfl⟩
  case round =>
    obtain ⟨hw, j, hj, rfl, hall⟩ := hrel
    by_cases hlt : j < n
    · obtain ⟨b, off, rfl⟩ := HS.out.form (by omega)
      obtain ⟨l, hl⟩ : ∃ l, L[j]? = some l := ⟨_, List.getElem?_eq_getElem (by rw [HLEN.out]; exact hlt)⟩
      have hcell := HS.out.get hl
      rw [hw.out] at hcell
      have hst := strOf_size l
      have hmx' := hmx l (List.mem_of_getElem? hl)
      have HLJ := Lib.hid hl; clear hl
      by_cases h300 : 300 < l.length
      · have ht : decide ((300 : Int) < (l.length : Int)) = true := decide_eq_true (by omega)
        have hRf : R = false := by
          rw [HR.out]
          unfold few16
          rw [Bool.and_eq_false_iff]
          left
          rw [List.all_eq_false]
          exact ⟨l, List.mem_of_getElem? HLJ.out, by simp; omega⟩
        have HRF := Lib.hid hRf; clear hRf
        go_wp2_with fail
        go_ret
        exact ⟨hw.out, by rw [HRF.out]; rfl⟩
      · have ht : decide ((300 : Int) < (l.length : Int)) = false := decide_eq_false (by omega)
        go_wp2_with fail
        go_roundw
        case rel => exact ⟨hw, j + 1, by omega, by go_num, Lib.hid (by rw [List.take_add_one, HLJ.out, List.all_append, hall.out]; simp; omega)⟩
        case measure => simp [intOf]; omega
    · obtain rfl : j = n := by omega
      have hRt : R = decide ((j : Int) ≤ 12) := by
        rw [HR.out]
        unfold few16
        have h := hall.out
        rw [List.take_of_length_le (by rw [HLEN.out]; exact Nat.le_refl _)] at h
        rw [h, Bool.true_and, HLEN.out]
        congr 1
        simp; omega
      have HRT := Lib.hid hRt; clear hRt
      go_wp2_with fail
      go_ret
      exact ⟨hw.out, by rw [HRT.out]; rfl⟩


end Go.Proofs.YtjlaoijmcenahaaDoor
