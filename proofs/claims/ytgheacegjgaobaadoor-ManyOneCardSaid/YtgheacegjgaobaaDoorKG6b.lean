/- M1, Ran, M8, M2, TreeLaw, in one text. -/
import Derived.Test.YtgheacegjgaobaaDoorKG0a
import Derived.Test.YtgheacegjgaobaaDoorKG6a
import Derived.Deep.QuietTactic
import Derived.BigQuiet
/- Rows of whole numbers; the walks of many.Rises, the reference's Rises and in, sort.SearchInts. -/
namespace Go.Proofs.YtgheacegjgaobaaDoor
open Go.RowKit
set_option linter.unusedSimpArgs false
set_option linter.unusedVariables false

/-- A slice of whole numbers. -/
def IntsAt (w : World) (o : Option Addr) (n cap : Nat) (A : List Int) : Prop := RowsAt w o n cap 1 (intCell .i64) A

theorem IntsAt.len {w : World} {o : Option Addr} {n cap : Nat} {A : List Int} (h : IntsAt w o n cap A) : A.length = n := h.1
theorem IntsAt.cap {w : World} {o : Option Addr} {n cap : Nat} {A : List Int} (h : IntsAt w o n cap A) : n ≤ cap := h.2.1
theorem IntsAt.max {w : World} {o : Option Addr} {n cap : Nat} {A : List Int} (h : IntsAt w o n cap A) : cap ≤ 9223372036854775807 := h.2.2.1

theorem IntsAt.kept {w w' : World} {o : Option Addr} {n cap : Nat} {A : List Int} (h : IntsAt w o n cap A) (hk : ∀ k, (∃ i, o = some ⟨k, i, none⟩) → k < w.heap.size → w'.heap[k]? = w.heap[k]?) (hs : w.heap.size ≤ w'.heap.size) : IntsAt w' o n cap A := by
  refine ⟨h.1, h.2.1, h.2.2.1, fun h0 => ?_⟩
  obtain ⟨b, off, h5, h6, h7⟩ := h.2.2.2 h0
  refine ⟨b, off, h5, Nat.lt_of_lt_of_le h6 hs, fun i l hl j v hv => ?_⟩
  rw [World.cell?_of_block (a := ⟨b, _, none⟩) (hk b ⟨off, h5⟩ h6)]
  exact h7 i l hl j v hv

theorem IntsAt.below {w w' : World} {B : Nat} {o : Option Addr} {n cap : Nat} {A : List Int} (h : IntsAt w o n cap A) (hB : w.heap.size ≤ B) (hb : Below B w w') : IntsAt w' o n cap A :=
  h.kept (fun k _ hk => hb.block k (by omega)) hb.size

theorem IntsAt.take {w : World} {o : Option Addr} {n cap : Nat} {A : List Int} (h : IntsAt w o n cap A) (k c : Nat) (hk : k ≤ n) (hc : k ≤ c) (hm : c ≤ 9223372036854775807) : IntsAt w o k c (A.take k) := by
  refine ⟨by rw [List.length_take, h.1]; omega, hc, hm, fun h0 => ?_⟩
  obtain ⟨b, off, h5, h6, h7⟩ := h.2.2.2 (by omega)
  refine ⟨b, off, h5, h6, fun i l hl => h7 i l ?_⟩
  rw [List.getElem?_take] at hl
  split at hl
  · exact hl
  · cases hl

theorem IntsAt.drop {w : World} {b off n cap : Nat} {A : List Int} (h : IntsAt w (some ⟨b, off, none⟩) n cap A) (k : Nat) (hk : k ≤ n) : IntsAt w (some ⟨b, off + k, none⟩) (n - k) (cap - k) (A.drop k) := by
  have h8 := h.2.1
  have h9 := h.2.2.1
  refine ⟨by rw [List.length_drop, h.1], by omega, by omega, fun h0 => ?_⟩
  obtain ⟨b', off', h5, h6, h7⟩ := h.2.2.2 (by omega)
  cases h5
  refine ⟨b, off + k, rfl, h6, fun i l hl => ?_⟩
  rw [List.getElem?_drop] at hl
  have := h7 (k + i) l hl
  rwa [show off + (k + i) * 1 = off + k + i * 1 by omega] at this

/-- Nothing of it: wherever it lies. -/
theorem IntsAt.empty {w : World} (o : Option Addr) (c : Nat) (hc : c ≤ 9223372036854775807) : IntsAt w o 0 c [] := ⟨rfl, Nat.zero_le _, hc, fun h => absurd h (by decide)⟩

theorem IntsAt.form {w : World} {o : Option Addr} {n cap : Nat} {A : List Int} (h : IntsAt w o n cap A) (h0 : 0 < n) : ∃ b off, o = some ⟨b, off, none⟩ := by
  obtain ⟨b, off, h5, _⟩ := h.2.2.2 h0
  exact ⟨b, off, h5⟩

theorem IntsAt.get {w : World} {b off n cap : Nat} {A : List Int} (h : IntsAt w (some ⟨b, off, none⟩) n cap A) {i : Nat} {a : Int} (hl : A[i]? = some a) : w.cell? ⟨b, off + i, none⟩ = some (.int .i64 a) := by
  have hi := (List.getElem?_eq_some_iff.1 hl).1
  rw [h.1] at hi
  obtain ⟨b', off', h5, h6, h7⟩ := h.2.2.2 (by omega)
  cases h5
  have := h7 i a hl 0 _ rfl
  simpa using this

theorem Tryd.under_ints : Tryd.prog.underlying 32 = some (.slice 3) := by kernel_rfl
theorem Tryd.info_int : (Tryd.prog.info? 3).map (fun i => (i.zero, i.size, i.bytes)) = some (some (.int .i64 0), 1, 8) := by kernel_rfl

theorem IntsAt.copy {w : World} {o : Option Addr} {m c : Nat} {L : List Int} (h : IntsAt w o m c L) (hm : m ≤ 1000000) (b : Addr) :
    ∃ q cc w', (Builtin.append_ #[32, 32] 32 #[.slice (some b) 0 0, .slice o m c]).run Tryd.prog w = .ok (.slice (some q) m cc) w' ∧ IntsAt w' (some q) m cc L ∧ Below w.heap.size w w' := by
  obtain ⟨i, hi, hz0, hz1, hz2⟩ := info_parts Tryd.info_int
  have hlen := h.len
  obtain ⟨q, cc, w', h1, h2, h3, h4, h5⟩ := run_copy_row (P := Tryd.prog) w 32 32 3 i (.int .i64 0) 1 8 Tryd.under_ints hi hz0 hz1 hz2 rfl (by decide) b o m c (L.map fun l => .int .i64 l) (by rw [List.length_map, hlen, Nat.mul_one]) (fun h0 => by
    obtain ⟨b', off, rfl⟩ := h.form h0
    refine ⟨_, rfl, fun j u hu => ?_⟩
    rw [List.getElem?_map] at hu
    obtain ⟨l, hl, rfl⟩ := Option.map_eq_some_iff.1 hu
    rw [Addr.add_mid]
    exact h.get hl) (by unfold maxLen; omega) (by omega)
  refine ⟨q, cc, w', h1, ⟨hlen, h2, h3, fun h0 => ?_⟩, h4⟩
  obtain ⟨g, rfl, hg, hr⟩ := h5 h0
  refine ⟨g, 0, rfl, hg, fun i l hl => ?_⟩
  intro j u hu
  match j, hu with
  | 0, hu =>
    obtain rfl := Option.some.inj hu
    have := hr i _ (show (L.map fun l => Value.int .i64 l)[i]? = some (.int .i64 l) by simp [hl])
    simpa using this

/-- The place ahead. -/
def lastOf (A : List Int) (k : Nat) : Int := if k = 0 then -1 else (A[k - 1]?).getD 0
theorem lastOf_zero (A : List Int) : lastOf A 0 = -1 := rfl
theorem lastOf_succ {A : List Int} {k : Nat} {a : Int} (h : A[k]? = some a) : lastOf A (k + 1) = a := by
  unfold lastOf; rw [if_neg (by omega), Nat.add_sub_cancel, h]; rfl

theorem rises_bad {n : Int} {A : List Int} {k : Nat} {a : Int} (h : A[k]? = some a) (hc : a ≤ lastOf A k ∨ n ≤ a) : Many.rises n (A.drop k) (lastOf A k) = false := by
  rw [List.drop_eq_getElem_cons (List.getElem?_eq_some_iff.1 h).1, (List.getElem?_eq_some_iff.1 h).2, Many.rises, if_pos hc]
theorem rises_good {n : Int} {A : List Int} {k : Nat} {a : Int} (h : A[k]? = some a) (hc : ¬ (a ≤ lastOf A k ∨ n ≤ a)) : Many.rises n (A.drop k) (lastOf A k) = Many.rises n (A.drop (k + 1)) (lastOf A (k + 1)) := by
  rw [lastOf_succ h, List.drop_eq_getElem_cons (List.getElem?_eq_some_iff.1 h).1, (List.getElem?_eq_some_iff.1 h).2, Many.rises, if_neg hc]
theorem rises_end {n : Int} {A : List Int} {l : Int} : Many.rises n (A.drop A.length) l = true := by rw [List.drop_length]; rfl

theorem drewN_below (w : World) (n : Nat) : Below w.heap.size w (w.drewN n) := ⟨rfl, rfl, rfl, Nat.le_refl _, fun _ _ => rfl⟩

/-- Do places rise, and are they there? -/
def risesB (n : Int) (A : List Int) : Bool := Many.rises n A (-1)

set_option maxRecDepth 100000 in
set_option maxHeartbeats 2000000 in
theorem manyRises_any (w : World) (n : Int) (o : Option Addr) (m c : Nat) (A : List Int) (hA : IntsAt w o m c A) :
    Calls Tryd.prog 18 #[.int .i64 n, .slice o m c] w fun e w' => e = .returned (.bool (risesB n A)) ∧ Below w.heap.size w w' := by
  have hm := hA.len
  have hc := hA.cap
  have hx := hA.max
  have HM := Lib.hid hm; clear hm
  have HA := Lib.hid hA; clear hA
  obtain ⟨R, hR⟩ : ∃ R, R = risesB n A := ⟨_, rfl⟩
  rw [← hR]
  have HR := Lib.hid hR; clear hR
  go_enter Tryd.func18, Tryd.ntmps18
  go_wp2_with fail
  go_loopw [8] (fun v wr => ∃ k : Nat, k ≤ m ∧ v = .int .i64 (k : Int) ∧ Hid (R = Many.rises n (A.drop k) (lastOf A k)) ∧ Hid (-1 ≤ lastOf A k) ∧ Below w.heap.size w wr) (fun v _ => m - (intOf v).toNat)
  case atStart => exact ⟨0, by omega, rfl, Lib.hid HR.out, Lib.hid (by rw [lastOf_zero]; decide), Below.refl _ _⟩
  case round =>
    clear HR
    obtain ⟨k, hk, rfl, HR, HLA, Br⟩ := hrel
    by_cases hlt : k < m
    · have t1 : decide ((k : Int) < (m : Int)) = true := decide_eq_true (by omega)
      have t1' : decide (k < m) = true := decide_eq_true hlt
      obtain ⟨b, off, rfl⟩ := HA.out.form (by omega)
      obtain ⟨a, ha⟩ : ∃ a, A[k]? = some a := ⟨_, List.getElem?_eq_getElem (by rw [HM.out]; exact hlt)⟩
      have hcell := (HA.out.below (Nat.le_refl _) Br).get ha
      have HAK := Lib.hid ha; clear ha
      by_cases h0 : a < 0
      · have u1 : decide (a < 0) = true := decide_eq_true h0
        have hR := HR.out
        rw [rises_bad HAK.out (.inl (by have := HLA.out; omega))] at hR
        subst hR
        go_wp2_with fail
        refine wp_region_quiet_lit (by kernel_rfl) (by kernel_rfl) ?_
        repeat (go_big_quiet_step (fail))
        refine wpQuiet_nil ?_
        rintro w5 ⟨nq, rfl⟩
        go_wp2_with fail
        go_ret
        exact ⟨rfl, Br.trans ((drewN_below _ _).mono Br.size)⟩
      · have u1 : decide (a < 0) = false := decide_eq_false h0
        by_cases h1 : n ≤ a
        · have u2 : decide (n ≤ a) = true := decide_eq_true h1
          have hR := HR.out
          rw [rises_bad HAK.out (.inr h1)] at hR
          subst hR
          go_wp2_with fail
          refine wp_region_quiet_lit (by kernel_rfl) (by kernel_rfl) ?_
          repeat (go_big_quiet_step (fail))
          refine wpQuiet_nil ?_
          rintro w5 ⟨nq, rfl⟩
          go_wp2_with fail
          go_ret
          exact ⟨rfl, Br.trans ((drewN_below _ _).mono Br.size)⟩
        · have u2 : decide (n ≤ a) = false := decide_eq_false h1
          rcases k with _ | k
          · have hR := HR.out
            rw [rises_good HAK.out (by rw [lastOf_zero]; omega)] at hR
            have HR2 := Lib.hid hR; clear hR HR
            have hL2 : -1 ≤ lastOf A (0 + 1) := by rw [lastOf_succ HAK.out]; omega
            have HL2 := Lib.hid hL2; clear hL2
            clear HLA
            rw [Nat.add_zero] at hcell
            have u3 : decide ((0 : Int) < 0) = false := by decide
            have hm0 : (0 : Int) < (m : Int) := by omega
            go_wp2_with fail
            refine wp_region_quiet_lit (by kernel_rfl) (by kernel_rfl) ?_
            repeat (go_big_quiet_step (fail))
            refine wpQuiet_nil ?_
            rintro w5 ⟨nq, rfl⟩
            go_wp2_with fail
            go_roundw
            case rel => exact ⟨0 + 1, by omega, by go_num, HR2, HL2, Br.trans ((drewN_below _ _).mono Br.size)⟩
            case measure => simp [intOf]; omega
          · obtain ⟨p, hp⟩ : ∃ p, A[k]? = some p := ⟨_, List.getElem?_eq_getElem (by rw [HM.out]; omega)⟩
            have hcp := (HA.out.below (Nat.le_refl _) Br).get hp
            have HP := Lib.hid hp; clear hp
            have hw : IntKind.i64.wrap (((k + 1 : Nat) : Int) - 1) = (k : Int) := by rw [IntWalk.i64_in _ (by omega)]; omega
            have hw' : IntKind.i64.wrap ((k : Int) + 1 - 1) = (k : Int) := by rw [IntWalk.i64_in _ (by omega)]; omega
            have hsub : ((k : Int) + 1 - 1) = (k : Int) := by omega
            have u3 : decide ((0 : Int) < ((k + 1 : Nat) : Int)) = true := decide_eq_true (by omega)
            have u3' : decide (0 < k + 1) = true := decide_eq_true (by omega)
            have hkk : (k : Int) < (m : Int) := by omega
            by_cases h2 : a ≤ p
            · have u4 : decide (a ≤ p) = true := decide_eq_true h2
              have hR := HR.out
              rw [rises_bad HAK.out (.inl (by rw [lastOf_succ HP.out]; exact h2))] at hR
              subst hR
              go_wp2_with fail
              refine wp_region_quiet_lit (by kernel_rfl) (by kernel_rfl) ?_
              repeat (go_big_quiet_step (fail))
              refine wpQuiet_nil ?_
              rintro w5 ⟨nq, rfl⟩
              go_wp2_with fail
              go_ret
              exact ⟨rfl, Br.trans ((drewN_below _ _).mono Br.size)⟩
            · have u4 : decide (a ≤ p) = false := decide_eq_false h2
              have hR := HR.out
              rw [rises_good HAK.out (by rw [lastOf_succ HP.out]; omega)] at hR
              have HR2 := Lib.hid hR; clear hR HR
              have hL2 : -1 ≤ lastOf A (k + 1 + 1) := by rw [lastOf_succ HAK.out]; omega
              have HL2 := Lib.hid hL2; clear hL2
              clear HLA
              go_wp2_with fail
              refine wp_region_quiet_lit (by kernel_rfl) (by kernel_rfl) ?_
              repeat (go_big_quiet_step (fail))
              refine wpQuiet_nil ?_
              rintro w5 ⟨nq, rfl⟩
              go_wp2_with fail
              go_roundw
              case rel => exact ⟨k + 1 + 1, by omega, by go_num, HR2, HL2, Br.trans ((drewN_below _ _).mono Br.size)⟩
              case measure => simp [intOf]; omega
    · obtain rfl : k = m := by omega
      have hR := HR.out
      rw [← HM.out, rises_end] at hR
      subst hR
      have t1 : decide ((k : Int) < (k : Int)) = false := decide_eq_false (by omega)
      go_wp2_with fail
      go_ret
      exact ⟨rfl, Br⟩

set_option maxRecDepth 100000 in
set_option maxHeartbeats 2000000 in
theorem refRises_any (w : World) (n : Int) (o : Option Addr) (m c : Nat) (A : List Int) (hA : IntsAt w o m c A) :
    Calls Tryd.prog 17 #[.int .i64 n, .slice o m c] w fun e w' => e = .returned (.bool (risesB n A)) ∧ Below w.heap.size w w' := by
  have hm := hA.len
  have hc := hA.cap
  have hx := hA.max
  have HM := Lib.hid hm; clear hm
  have HA := Lib.hid hA; clear hA
  obtain ⟨R, hR⟩ : ∃ R, R = risesB n A := ⟨_, rfl⟩
  rw [← hR]
  have HR := Lib.hid hR; clear hR
  go_enter Tryd.func17, Tryd.ntmps17
  go_wp2_with fail
  go_loopw [5, 6] (fun l v wr => ∃ k : Nat, k ≤ m ∧ v = .int .i64 (k : Int) ∧ l = .int .i64 (lastOf A k) ∧ Hid (R = Many.rises n (A.drop k) (lastOf A k)) ∧ Below w.heap.size w wr) (fun _ v _ => m - (intOf v).toNat)
  case atStart => exact ⟨0, by omega, rfl, rfl, Lib.hid HR.out, Below.refl _ _⟩
  case round =>
    clear HR
    obtain ⟨k, hk, rfl, rfl, HR, Br⟩ := hrel
    by_cases hlt : k < m
    · have t1 : decide ((k : Int) < (m : Int)) = true := decide_eq_true (by omega)
      have t1' : decide (k < m) = true := decide_eq_true hlt
      obtain ⟨b, off, rfl⟩ := HA.out.form (by omega)
      obtain ⟨a, ha⟩ : ∃ a, A[k]? = some a := ⟨_, List.getElem?_eq_getElem (by rw [HM.out]; exact hlt)⟩
      have hcell := (HA.out.below (Nat.le_refl _) Br).get ha
      have HAK := Lib.hid ha; clear ha
      obtain ⟨l, hl⟩ : ∃ l, l = lastOf A k := ⟨_, rfl⟩
      rw [← hl]
      have HLL := Lib.hid hl; clear hl
      by_cases h0 : a ≤ l
      · have u1 : decide (a ≤ l) = true := decide_eq_true h0
        have hR := HR.out
        rw [rises_bad HAK.out (.inl (by rw [← HLL.out]; exact h0))] at hR
        subst hR
        go_wp2_with fail
        go_ret
        exact ⟨rfl, Br⟩
      · have u1 : decide (a ≤ l) = false := decide_eq_false h0
        by_cases h1 : n ≤ a
        · have u2 : decide (n ≤ a) = true := decide_eq_true h1
          have hR := HR.out
          rw [rises_bad HAK.out (.inr h1)] at hR
          subst hR
          go_wp2_with fail
          go_ret
          exact ⟨rfl, Br⟩
        · have u2 : decide (n ≤ a) = false := decide_eq_false h1
          have hR := HR.out
          rw [rises_good HAK.out (by rw [← HLL.out]; omega)] at hR
          have HR2 := Lib.hid hR; clear hR HR
          have hL2 := lastOf_succ HAK.out
          have HL2 := Lib.hid hL2; clear hL2
          go_wp2_with fail
          go_roundw
          case rel => exact ⟨k + 1, by omega, by go_num, by rw [HL2.out], HR2, Br⟩
          case measure => simp [intOf]; omega
    · obtain rfl : k = m := by omega
      have hR := HR.out
      rw [← HM.out, rises_end] at hR
      subst hR
      have t1 : decide ((k : Int) < (k : Int)) = false := decide_eq_false (by omega)
      go_wp2_with fail
      go_ret
      exact ⟨rfl, Br⟩

/-- Is one asked for? -/
def asksB (A : List Int) (f t : Int) : Bool := A.any fun a => decide (f ≤ a) && decide (a < t)

theorem asksB_nat (A : List Nat) (f t : Nat) : asksB (A.map Int.ofNat) (f : Int) (t : Int) = !decide (Many.inr A f t = []) := by
  unfold asksB Many.inr
  rw [List.any_map]
  induction A with
  | nil => rfl
  | cons a A ih =>
    rw [List.any_cons, ih, List.filter_cons]
    simp only [Function.comp, Int.ofNat_eq_natCast]
    by_cases h : f ≤ a ∧ a < t
    · simp [h]
    · rw [if_neg (by simp; omega)]
      have h1 : (decide ((f : Int) ≤ (a : Int)) && decide ((a : Int) < (t : Int))) = false := by
        rw [Bool.and_eq_false_iff]
        by_cases h2 : f ≤ a
        · right; exact decide_eq_false (by omega)
        · left; exact decide_eq_false (by omega)
      rw [h1]; rfl

set_option maxRecDepth 100000 in
set_option maxHeartbeats 2000000 in
theorem refIn_any (w : World) (o : Option Addr) (m c : Nat) (A : List Int) (f t : Int) (hA : IntsAt w o m c A) :
    Calls Tryd.prog 63 #[.slice o m c, .int .i64 f, .int .i64 t] w fun e w' => e = .returned (.bool (asksB A f t)) ∧ Below w.heap.size w w' := by
  have hm := hA.len
  have hc := hA.cap
  have hx := hA.max
  have HM := Lib.hid hm; clear hm
  have HA := Lib.hid hA; clear hA
  obtain ⟨R, hR⟩ : ∃ R, R = asksB A f t := ⟨_, rfl⟩
  rw [← hR]
  have HR := Lib.hid hR; clear hR
  go_enter Tryd.func63, Tryd.ntmps63
  go_wp2_with fail
  go_loopw [7] (fun v wr => ∃ k : Nat, k ≤ m ∧ v = .int .i64 (k : Int) ∧ Hid (R = asksB (A.drop k) f t) ∧ Below w.heap.size w wr) (fun v _ => m - (intOf v).toNat)
  case atStart => exact ⟨0, by omega, rfl, Lib.hid HR.out, Below.refl _ _⟩
  case round =>
    clear HR
    obtain ⟨k, hk, rfl, HR, Br⟩ := hrel
    by_cases hlt : k < m
    · have t1 : decide ((k : Int) < (m : Int)) = true := decide_eq_true (by omega)
      have t1' : decide (k < m) = true := decide_eq_true hlt
      obtain ⟨b, off, rfl⟩ := HA.out.form (by omega)
      obtain ⟨a, ha⟩ : ∃ a, A[k]? = some a := ⟨_, List.getElem?_eq_getElem (by rw [HM.out]; exact hlt)⟩
      have hcell := (HA.out.below (Nat.le_refl _) Br).get ha
      have hdr : A.drop k = a :: A.drop (k + 1) := by rw [List.drop_eq_getElem_cons (List.getElem?_eq_some_iff.1 ha).1, (List.getElem?_eq_some_iff.1 ha).2]
      have HDR := Lib.hid hdr; clear hdr ha
      have hR := HR.out
      rw [HDR.out, asksB, List.any_cons] at hR
      by_cases h0 : f ≤ a
      · have u1 : decide (f ≤ a) = true := decide_eq_true h0
        by_cases h1 : a < t
        · have u2 : decide (a < t) = true := decide_eq_true h1
          rw [u1, u2] at hR
          simp only [Bool.and_self, Bool.true_or] at hR
          subst hR
          go_wp2_with fail
          go_ret
          exact ⟨rfl, Br⟩
        · have u2 : decide (a < t) = false := decide_eq_false h1
          rw [u1, u2] at hR
          simp only [Bool.and_false, Bool.false_or] at hR
          have HR2 : Hid (R = asksB (A.drop (k + 1)) f t) := Lib.hid hR
          clear hR HR
          go_wp2_with fail
          go_roundw
          case rel => exact ⟨k + 1, by omega, by go_num, HR2, Br⟩
          case measure => simp [intOf]; omega
      · have u1 : decide (f ≤ a) = false := decide_eq_false h0
        rw [u1] at hR
        simp only [Bool.false_and, Bool.false_or] at hR
        have HR2 : Hid (R = asksB (A.drop (k + 1)) f t) := Lib.hid hR
        clear hR HR
        go_wp2_with fail
        go_roundw
        case rel => exact ⟨k + 1, by omega, by go_num, HR2, Br⟩
        case measure => simp [intOf]; omega
    · obtain rfl : k = m := by omega
      have hR := HR.out
      rw [← HM.out, List.drop_length] at hR
      subst hR
      have t1 : decide ((k : Int) < (k : Int)) = false := decide_eq_false (by omega)
      go_wp2_with fail
      go_ret
      exact ⟨rfl, Br⟩

/-- What is below a bound stands ahead: so many. -/
def CutAt (A : List Int) (x : Int) (p : Nat) : Prop := p ≤ A.length ∧ ∀ (i : Nat) (a : Int), A[i]? = some a → (a < x ↔ i < p)

set_option maxRecDepth 100000 in
set_option maxHeartbeats 2000000 in
theorem searchLess_any (w w0 : World) (b1 b2 i : Nat) (x a : Int) (o : Option Addr) (m c : Nat) (A : List Int) (hA : IntsAt w0 o m c A) (hb : Below w0.heap.size w0 w) (h1 : w.heap[b1]? = some (.cells #[.slice o m c] 32 (0, 0))) (h2 : w.heap[b2]? = some (.cells #[.int .i64 x] 3 (0, 0))) (ha : A[i]? = some a) :
    Calls Tryd.prog 71 #[.int .i64 (i : Int), .pointer (some ⟨b1, 0, none⟩), .pointer (some ⟨b2, 0, none⟩)] w fun e w' => e = .returned (.bool (decide (x ≤ a))) ∧ Below w.heap.size w w' := by
  have hil : i < m := by have := (List.getElem?_eq_some_iff.1 ha).1; rw [hA.len] at this; exact this
  have hc := hA.cap
  have hx := hA.max
  obtain ⟨b, off, rfl⟩ := hA.form (by omega)
  have hcell := (hA.below (Nat.le_refl _) hb).get ha
  have hc1 := cell_of_one h1
  have hc2 := cell_of_one h2
  clear ha h1 h2 hA hb
  have hii : (i : Int) < (m : Int) := by omega
  go_enter Tryd.func71, Tryd.ntmps71
  go_wp2_with fail
  refine wp_region_quiet_lit (by kernel_rfl) (by kernel_rfl) ?_
  repeat (go_big_quiet_step (fail))
  refine wpQuiet_nil ?_
  rintro w5 ⟨nq, rfl⟩
  go_wp2_with fail
  go_ret
  exact ⟨rfl, drewN_below _ _⟩

theorem Tryd.callLess (args : Array Value) (w : World) : Sem.run Tryd.prog (callFunc 71 args) w = .ok (.enter 71 args) w := by kernel_rfl

end Go.Proofs.YtgheacegjgaobaaDoor

/- An append whose run is known, in a walk. -/
namespace Go.Proofs.YtgheacegjgaobaaDoor
open Go.RowKit
set_option linter.unusedSimpArgs false
set_option linter.unusedVariables false

theorem wpList_append_ran {P : Program} {ops : Array Oper} {rest : List Oper} {o : Oper} {a : Act} {w : World} {Q : Exit → Act → World → Prop} (hgd : Region.wanted o (yielded ops a.tmps) = true) (x y : Operand) (t : TypeId) (ho : o.op = .call { callee := .builtin .append, args := #[x, y], argTypes := #[t, t] })
    (vx vy : Value) (hx : a.eval x = vx) (hy : a.eval y = vy) {v : Value} {w' : World} (hr : (Builtin.append_ #[t, t] o.type #[vx, vy]).run P w = .ok v w')
    (h : wpList P ops Q rest (a.put o.dst v) w') : wpList P ops Q (o :: rest) a w :=
  wpList_step fun _ hK => by
    rw [if_pos hgd]
    exact Lib.wp_append_run_sl w x y t ho vx vy hx hy hr (hK _ _ h)

end Go.Proofs.YtgheacegjgaobaaDoor

/- Rows of two whole numbers; the walk of the reference's Tops. -/
namespace Go.Proofs.YtgheacegjgaobaaDoor
open Go.RowKit
set_option linter.unusedSimpArgs false
set_option linter.unusedVariables false

/-- Two whole numbers, as cells. -/
def pairC (x : Nat × Nat) : List Value := [.int .i64 (x.1 : Int), .int .i64 (x.2 : Int)]
def pairsC (d : List (Nat × Nat)) : List Value := (d.map pairC).flatten
theorem pairsC_app (a b : List (Nat × Nat)) : pairsC (a ++ b) = pairsC a ++ pairsC b := by simp [pairsC]
theorem pairsC_one (a : Nat × Nat) : pairsC [a] = pairC a := by simp [pairsC]
theorem pairsC_len (d : List (Nat × Nat)) : (pairsC d).length = d.length * 2 := by
  induction d with
  | nil => rfl
  | cons a d ih => rw [show a :: d = [a] ++ d from rfl, pairsC_app, List.length_append, ih, pairsC_one]; simp [pairC]; omega
theorem pairsC_get : ∀ {d : List (Nat × Nat)} {i : Nat} {x : Nat × Nat}, d[i]? = some x → (pairsC d)[i * 2]? = some (.int .i64 (x.1 : Int)) ∧ (pairsC d)[i * 2 + 1]? = some (.int .i64 (x.2 : Int)) := by
  intro d
  induction d with
  | nil => intro i x h; simp at h
  | cons a d ih =>
    intro i x h
    rw [show a :: d = [a] ++ d from rfl, pairsC_app, pairsC_one]
    rcases i with _ | i
    · rw [List.getElem?_cons_zero, Option.some.injEq] at h
      subst h
      exact ⟨rfl, rfl⟩
    · rw [List.getElem?_cons_succ] at h
      obtain ⟨h1, h2⟩ := ih h
      have e1 : (i + 1) * 2 = i * 2 + 2 := by omega
      have e2 : (i + 1) * 2 + 1 = i * 2 + 1 + 2 := by omega
      refine ⟨?_, ?_⟩
      · rw [e1, List.getElem?_append_right (by simp [pairC])]; simpa [pairC] using h1
      · rw [e2, List.getElem?_append_right (by simp [pairC])]; simpa [pairC] using h2
theorem pairsC_one' (d : List (Nat × Nat)) : ∀ u ∈ pairsC d, u.oneCell' = true := by
  intro u hu
  unfold pairsC at hu
  obtain ⟨l, hl, hul⟩ := List.mem_flatten.1 hu
  obtain ⟨x, _, rfl⟩ := List.mem_map.1 hl
  simp only [pairC, List.mem_cons, List.not_mem_nil, or_false] at hul
  rcases hul with rfl | rfl <;> rfl

/-- A slice of such. -/
def PairsAt (w : World) (o : Option Addr) (n c : Nat) (d : List (Nat × Nat)) : Prop :=
  d.length = n ∧ n ≤ c ∧ c ≤ 9223372036854775807 ∧ (0 < n → ∃ g, o = some ⟨g, 0, none⟩ ∧ g < w.heap.size ∧ ∀ (j : Nat) (u : Value), (pairsC d)[j]? = some u → w.cell? ⟨g, j, none⟩ = some u)

theorem PairsAt.below {w w' : World} {o : Option Addr} {n c : Nat} {d : List (Nat × Nat)} (h : PairsAt w o n c d) (hb : Below w.heap.size w w') : PairsAt w' o n c d := by
  obtain ⟨h1, h2, h3, h4⟩ := h
  refine ⟨h1, h2, h3, fun h0 => ?_⟩
  obtain ⟨g, h5, h6, h7⟩ := h4 h0
  exact ⟨g, h5, Nat.lt_of_lt_of_le h6 hb.size, fun j u hu => (hb.cell (p := ⟨g, j, none⟩) h6).trans (h7 j u hu)⟩

theorem PairsAt.of_owns {w : World} {base n c : Nat} {q : Option Addr} {d : List (Nat × Nat)} (hn : d.length = n) (h : w.ownsRow base 68 2 (.slice q n c) n (pairsC d)) : PairsAt w q n c d := by
  have hcell := fun g hg => h.cells (g := g) hg
  rcases h.2 with ⟨hv, h0⟩ | ⟨g, cap, cur, hv, hb, hg, hnc, hcm, _⟩
  · simp only [Value.slice.injEq] at hv
    obtain ⟨rfl, h1, rfl⟩ := hv
    exact ⟨hn, by omega, by decide, fun h => by omega⟩
  · simp only [Value.slice.injEq, true_and] at hv
    obtain ⟨rfl, rfl⟩ := hv
    refine ⟨hn, hnc, hcm, fun _ => ⟨g, rfl, lt_of_block hg, fun j u hu => ?_⟩⟩
    have := hcell g rfl j u hu
    rwa [Addr.add_mid, Nat.zero_add] at this

theorem Tryd.under_pairs : Tryd.prog.underlying 66 = some (.slice 68) := by kernel_rfl
theorem Tryd.info_pair : (Tryd.prog.info? 68).map (fun i => (i.zero, i.size, i.bytes)) = some (some (.agg #[.int .i64 0, .int .i64 0]), 2, 16) := by kernel_rfl

/-- 'append(p, q...)' of a row of one's own, and another one. -/
theorem pairs_append {w : World} {base B2 : Nat} {v : Value} {q : Option Addr} {c : Nat} {d e : List (Nat × Nat)} (h : w.ownsRow base 68 2 v d.length (pairsC d)) (h2 : w.ownsRow B2 68 2 (.slice q e.length c) e.length (pairsC e)) (hd : d.length + e.length ≤ 1000000) (hB : base ≤ w.heap.size) :
    ∃ q' c' w', (Builtin.append_ #[66, 66] 66 #[v, .slice q e.length c]).run Tryd.prog w = .ok (.slice q' (d.length + e.length) c') w' ∧ w'.ownsRow base 68 2 (.slice q' (d.length + e.length) c') (d.length + e.length) (pairsC (d ++ e)) ∧ w.grownBy w' v.ownBlock := by
  obtain ⟨i, hi, hz0, hz1, hz2⟩ := info_parts Tryd.info_pair
  have hcell := fun g hg => h2.cells (g := g) hg
  rcases h2.2 with ⟨hv, h0⟩ | ⟨g, cap, cur, hv, hb, hg, hnc, hcm, _⟩
  · simp only [Value.slice.injEq] at hv
    obtain ⟨rfl, -, rfl⟩ := hv
    obtain rfl := List.eq_nil_of_length_eq_zero h0
    obtain ⟨a, cc, rfl⟩ := ownsRow_slice h
    refine ⟨a, cc, w, ?_, by rw [List.append_nil]; exact h, ⟨rfl, rfl, rfl, Nat.le_refl _, fun _ _ _ => rfl⟩⟩
    have hf := run_firstCells_none (P := Tryd.prog) w i.size
    rcases h.2 with ⟨hv, hn⟩ | ⟨g, cap, cur, hv, hbg, hgg, hnc, _⟩
    · simp only [Value.slice.injEq] at hv
      obtain ⟨rfl, hn2, rfl⟩ := hv
      simp [Builtin.append_, run_underlying Tryd.under_pairs, sizeOf, typeInfo, hi, hz0, Builtin.lenOf, Builtin.firstCells, storeCells, loadCells, loadCellsFrom, hn2]
    · simp only [Value.slice.injEq, true_and] at hv
      obtain ⟨rfl, rfl⟩ := hv
      simp [Builtin.append_, run_underlying Tryd.under_pairs, sizeOf, typeInfo, hi, hz0, Builtin.lenOf, Builtin.firstCells, storeCells, loadCells, loadCellsFrom, hnc]
  · simp only [Value.slice.injEq, true_and] at hv
    obtain ⟨rfl, rfl⟩ := hv
    obtain ⟨v', w', r1, r2, r3, r4⟩ := run_append_own (P := Tryd.prog) w base 66 66 68 i (.agg #[.int .i64 0, .int .i64 0]) 2 16 Tryd.under_pairs hi hz0 hz1 hz2 rfl (by decide) v d.length _ h ⟨g, 0, none⟩ e.length c (pairsC e) (pairsC_len e) (hcell g rfl) (pairsC_one' e) (by unfold maxLen; omega) (by omega) hB
    obtain ⟨a, cc, rfl⟩ : ∃ a cc, v' = .slice a (d.length + e.length) cc := by
      rcases r2.2 with ⟨h5, h6⟩ | ⟨g', cap, cur, h5, _⟩
      · exact ⟨_, _, by rw [h6]; exact h5⟩
      · exact ⟨_, _, h5⟩
    exact ⟨a, cc, w', r1, by rw [pairsC_app]; exact r2, r3⟩

theorem ownsRow_low {w : World} {B B' : Nat} {e : TypeId} {z : Nat} {v : Value} {n : Nat} {xs : List Value} (h : w.ownsRow B e z v n xs) (hB : B' ≤ B) : w.ownsRow B' e z v n xs := by
  refine ⟨h.1, ?_⟩
  rcases h.2 with h2 | ⟨g, cap, cur, h1, h2, h3⟩
  · exact .inl h2
  · exact .inr ⟨g, cap, cur, h1, Nat.le_trans hB h2, h3⟩

set_option maxRecDepth 100000 in
set_option maxHeartbeats 4000000 in
theorem refTops_any (B : List Nat) (o : Option Addr) (m c : Nat) : ∀ (n f : Nat) (w : World), IntsAt w o m c (B.map Int.ofNat) → f + n ≤ 100000 →
    Calls Tryd.prog 50 #[.int .i64 (f : Int), .int .i64 (n : Int), .slice o m c] w fun e w' => ∃ q cc, e = .returned (.slice q (Many.tops B f n).length cc) ∧ w'.ownsRow w.heap.size 68 2 (.slice q (Many.tops B f n).length cc) (Many.tops B f n).length (pairsC (Many.tops B f n)) ∧ Below w.heap.size w w' := by
  intro n
  induction n using Nat.strongRecOn with
  | ind n ih =>
    intro f w hA hfn
    have hin := refIn_any w o m c (B.map Int.ofNat) (f : Int) ((f + n : Nat) : Int) hA
    rw [asksB_nat] at hin
    have hsum : ((f : Int) + (n : Int)) = ((f + n : Nat) : Int) := by omega
    have HSUM := Lib.hid hsum; clear hsum
    by_cases he : Many.inr B f (f + n) = []
    · rw [decide_eq_true he] at hin
      rw [Many.tops_none he]
      have HI := Lib.hid hin; clear hin hA he
      go_enter Tryd.func50, Tryd.ntmps50
      go_wp2_with fail
      rw [HSUM.out]
      refine HI.out.mono ?_
      rintro e w1 ⟨rfl, b1⟩
      go_wp2_with fail
      go_ret
      exact ⟨some ⟨w1.heap.size, 0, none⟩, 1, rfl, ⟨rfl, .inr ⟨w1.heap.size, 1, _, rfl, b1.size, heap_alloc_new w1 _, by decide, by decide, rfl, rfl⟩⟩, b1.alloc b1.size _⟩
    · rw [decide_eq_false he] at hin
      have HI := Lib.hid hin; clear hin
      by_cases h2 : 2 ≤ n
      · have k1 := Tree.half_pos h2
        have k2 := Tree.half_lt h2
        have hhc := fun (w : World) => refHalf_nat w n (by omega)
        have htw := Many.tops_two he h2
        have hil := ih (Tree.half n) k2
        have hir := ih (n - Tree.half n) (by omega)
        clear ih he
        obtain ⟨h, hh⟩ : ∃ h, h = Tree.half n := ⟨_, rfl⟩
        rw [← hh] at k1 k2 htw hil hir
        simp only [← hh] at hhc
        clear hh
        have hl1 := (Many.tops_len B h f).1
        have hl2 := (Many.tops_len B (n - h) (f + h)).1
        have hLc := fun (w1 : World) (b1 : Below w.heap.size w w1) => hil f w1 (hA.below (Nat.le_refl _) b1) (by omega)
        have hRc := fun (w1 : World) (b1 : Below w.heap.size w w1) => hir (f + h) w1 (hA.below (Nat.le_refl _) b1) (by omega)
        clear hil hir hA
        rw [htw]
        obtain ⟨dl, hdl⟩ : ∃ dl, dl = Many.tops B f h := ⟨_, rfl⟩
        obtain ⟨dr, hdr⟩ : ∃ dr, dr = Many.tops B (f + h) (n - h) := ⟨_, rfl⟩
        rw [← hdl] at hl1
        rw [← hdr] at hl2
        simp only [← hdl] at hLc
        simp only [← hdr] at hRc
        rw [← hdl, ← hdr]
        clear hdl hdr htw
        have HHC := Lib.hid hhc; clear hhc
        have HLC := Lib.hid hLc; clear hLc
        have HRC := Lib.hid hRc; clear hRc
        have t1 : ((n : Int) == 1) = false := by rw [beq_eq_false_iff_ne]; omega
        have t1' : (n == 1) = false := by rw [beq_eq_false_iff_ne]; omega
        have e1 : ((f : Int) + (h : Int)) = ((f + h : Nat) : Int) := by omega
        have e2 : ((n : Int) - (h : Int)) = ((n - h : Nat) : Int) := by omega
        have E1 := Lib.hid e1; clear e1
        have E2 := Lib.hid e2; clear e2
        have hhn : (h : Int) ≤ (n : Int) := by omega
        go_enter Tryd.func50, Tryd.ntmps50
        go_wp2_with fail
        rw [HSUM.out]
        refine HI.out.mono ?_
        rintro e w1 ⟨rfl, b1⟩
        clear HI
        go_wp2_with fail
        refine (HHC.out _).mono ?_
        rintro e w' ⟨rfl, rfl⟩
        have hc := HLC.out w1 b1
        have HC := Lib.hid hc; clear hc HLC HHC
        go_wp2_with fail
        refine HC.out.mono ?_
        rintro e w2 ⟨q2, c2, rfl, o2, b2⟩
        clear HC
        have B2 := b1.trans (b2.mono b1.size)
        have hc := HRC.out w2 B2
        have HC := Lib.hid hc; clear hc HRC
        have O2 := Lib.hid o2; clear o2
        go_wp2_with fail
        rw [E1.out, E2.out]
        refine HC.out.mono ?_
        rintro e w3 ⟨q3, c3, rfl, o3, b3⟩
        clear HC
        have o23 := ownsRow_below O2.out fun k hk => b3.block k (O2.out.lt k hk).2
        have B3 := B2.trans (b3.mono B2.size)
        obtain ⟨q4, c4, w4, hrun, o4, g4⟩ := pairs_append (ownsRow_low o23 b1.size) o3 (by omega) B3.size
        have B4 := B3.trans (grown_below g4 (fun k hk => Nat.le_trans b1.size (o23.lt k hk).1) B3.size)
        have O4 := Lib.hid o4; clear o4 o23 o3 g4
        go_wp2_with ((with_reducible show wpList _ _ _ (⟨some 35, _, _, _, _, _⟩ :: _) _ _); refine wpList_append_ran (by kernel_rfl) _ _ _ rfl _ _ rfl rfl hrun ?_)
        go_ret
        exact ⟨q4, c4, by rw [List.length_append]; rfl, by rw [List.length_append]; exact O4.out, B4⟩
      · obtain rfl : n = 1 := by
          rcases n with _ | _ | n
          · exact absurd (Many.inr_empty B (by omega)) he
          · rfl
          · omega
        rw [Many.tops_one he h2]
        clear he hA ih
        have hs1 : ((f : Int) + 1) = ((f + 1 : Nat) : Int) := by omega
        have HS1 := Lib.hid hs1; clear hs1
        go_enter Tryd.func50, Tryd.ntmps50
        go_wp2_with fail
        rw [HS1.out]
        refine HI.out.mono ?_
        rintro e w1 ⟨rfl, b1⟩
        go_wp2_with fail
        go_ret
        exact ⟨none, 0, rfl, World.ownsRow_nil _ _ _ _, b1⟩

end Go.Proofs.YtgheacegjgaobaaDoor

/- The walks of sort.Search and sort.SearchInts. -/
namespace Go.Proofs.YtgheacegjgaobaaDoor
open Go.RowKit
set_option linter.unusedSimpArgs false
set_option linter.unusedVariables false

set_option maxRecDepth 100000 in
set_option maxHeartbeats 2000000 in
theorem search_any (w0 w : World) (b1 b2 : Nat) (x : Int) (o : Option Addr) (m c : Nat) (A : List Int) (p : Nat) (hp : CutAt A x p) (hmb : m ≤ 1000000) (hA : IntsAt w0 o m c A) (hb : Below w0.heap.size w0 w) (h1 : w.heap[b1]? = some (.cells #[.slice o m c] 32 (0, 0))) (h2 : w.heap[b2]? = some (.cells #[.int .i64 x] 3 (0, 0))) :
    Calls Tryd.prog 70 #[.int .i64 (m : Int), .func (.func 71) #[] #[.pointer (some ⟨b1, 0, none⟩), .pointer (some ⟨b2, 0, none⟩)]] w fun e w' => e = .returned (.int .i64 (p : Int)) ∧ Below w.heap.size w w' := by
  have hm := hA.len
  have hc := hA.cap
  have hx := hA.max
  have hp1 : p ≤ m := by rw [← hm]; exact hp.1
  have HM := Lib.hid hm; clear hm
  have HP := Lib.hid hp; clear hp
  have HA := Lib.hid hA; clear hA
  have HB := Lib.hid hb; clear hb
  have H1 := Lib.hid h1; clear h1
  have H2 := Lib.hid h2; clear h2
  go_enter Tryd.func70, Tryd.ntmps70
  go_wp2_with fail
  go_loopw [5, 6] (fun u v wr => ∃ lo hi : Nat, lo ≤ p ∧ p ≤ hi ∧ hi ≤ m ∧ u = .int .i64 (lo : Int) ∧ v = .int .i64 (hi : Int) ∧ Below w.heap.size w wr) (fun u v _ => (intOf v).toNat - (intOf u).toNat)
  case atStart => exact ⟨0, m, by omega, by omega, by omega, rfl, rfl, Below.refl _ _⟩
  case round =>
    obtain ⟨lo, hi, q1, q2, q3, rfl, rfl, Br⟩ := hrel
    by_cases hlt : lo < hi
    · have t1 : decide ((lo : Int) < (hi : Int)) = true := decide_eq_true (by omega)
      have t1' : decide (lo < hi) = true := decide_eq_true hlt
      obtain ⟨h, hh⟩ : ∃ h, h = (lo + hi) / 2 := ⟨_, rfl⟩
      have hlo : lo ≤ h := by omega
      have hhi : h < hi := by omega
      have e1 : ((lo : Int) + (hi : Int)) / 2 = (h : Int) := by omega
      have E1 := Lib.hid e1; clear e1
      clear hh
      obtain ⟨a, ha⟩ : ∃ a, A[h]? = some a := ⟨_, List.getElem?_eq_getElem (by rw [HM.out]; omega)⟩
      have hside := HP.out.2 h a ha
      have hcall := searchLess_any wr w0 b1 b2 h x a o m c A HA.out (HB.out.trans (Br.mono HB.out.size)) ((Br.block _ (lt_of_block H1.out)).trans H1.out) ((Br.block _ (lt_of_block H2.out)).trans H2.out) ha
      have HC := Lib.hid hcall; clear hcall ha
      have hcf := Tryd.callLess
      by_cases hxa : x ≤ a
      · have u1 : decide (x ≤ a) = true := decide_eq_true hxa
        have hph : p ≤ h := by omega
        go_wp2_with fail
        rw [E1.out]
        refine HC.out.mono ?_
        rintro e w1 ⟨rfl, b1'⟩
        try rw [E1.out]
        go_wp2_with fail
        go_roundw
        case rel => exact ⟨lo, h, by omega, by omega, by omega, rfl, rfl, Br.trans (b1'.mono Br.size)⟩
        case measure => simp [intOf]; omega
      · have u1 : decide (x ≤ a) = false := decide_eq_false hxa
        have hph : h < p := by omega
        go_wp2_with fail
        rw [E1.out]
        refine HC.out.mono ?_
        rintro e w1 ⟨rfl, b1'⟩
        try rw [E1.out]
        go_wp2_with fail
        go_roundw
        case rel => exact ⟨h + 1, hi, by omega, by omega, by omega, by go_num, rfl, Br.trans (b1'.mono Br.size)⟩
        case measure => simp [intOf]; omega
    · obtain rfl : lo = p := by omega
      have t1 : decide ((lo : Int) < (hi : Int)) = false := decide_eq_false (by omega)
      have t1' : decide (lo < hi) = false := decide_eq_false hlt
      go_wp2_with fail
      go_ret
      exact ⟨rfl, Br⟩

set_option maxRecDepth 100000 in
set_option maxHeartbeats 1000000 in
theorem searchInts_any (w : World) (x : Int) (o : Option Addr) (m c : Nat) (A : List Int) (p : Nat) (hp : CutAt A x p) (hmb : m ≤ 1000000) (hA : IntsAt w o m c A) :
    Calls Tryd.prog 58 #[.slice o m c, .int .i64 x] w fun e w' => e = .returned (.int .i64 (p : Int)) ∧ Below w.heap.size w w' := by
  obtain ⟨W, hW⟩ : ∃ W, W = (w.alloc (.cells #[.slice o m c] 32)).alloc (.cells #[.int .i64 x] 3) := ⟨_, rfl⟩
  have b0 : Below w.heap.size w W := by rw [hW]; exact ((Below.refl _ _).alloc (Nat.le_refl _) _).alloc (by simp) _
  have x1 : W.heap[w.heap.size]? = some (.cells #[.slice o m c] 32 (0, 0)) := by rw [hW, Below.heap_alloc _ _ _ (by simp)]; exact heap_alloc_new w _
  have x2 : W.heap[w.heap.size + 1]? = some (.cells #[.int .i64 x] 3 (0, 0)) := by
    rw [hW]; have := heap_alloc_new (w.alloc (.cells #[.slice o m c] 32)) (.cells #[.int .i64 x] 3); simpa using this
  have hc := search_any w W w.heap.size (w.heap.size + 1) x o m c A p hp hmb hA b0 x1 x2
  have hcap := hA.cap
  have hmax := hA.max
  have HC := Lib.hid hc; clear hc x2 hA hp
  have hc1 := cell_of_one x1
  clear x1
  have HC1 := Lib.hid hc1; clear hc1
  have HW := Lib.hid hW; clear hW
  have hcw : (w.alloc (.cells #[.slice o m c] 32)).alloc (.cells #[.int .i64 x] 3) = W := HW.out.symm
  have hcell : ((w.alloc (.cells #[.slice o m c] 32)).alloc (.cells #[.int .i64 x] 3)).cell? ⟨w.heap.size, 0, none⟩ = some (.slice o m c) := by rw [hcw]; exact HC1.out
  clear hcw
  go_enter Tryd.func58, Tryd.ntmps58
  go_wp2_with fail
  rw [← HW.out]
  refine HC.out.mono ?_
  rintro e w1 ⟨rfl, b1⟩
  go_wp2_with fail
  go_ret
  exact ⟨rfl, b0.trans (b1.mono b0.size)⟩

end Go.Proofs.YtgheacegjgaobaaDoor

/- What the tree's laws ask, plain. -/
namespace Go.Proofs.YtgheacegjgaobaaDoor
open Go.RowKit
set_option linter.unusedSimpArgs false
set_option linter.unusedVariables false

theorem Tree.sides_prove (N : Nat) : ∀ (L : List (List UInt8)) (i : Nat), L.length = N → i < N → (Tree.sides N i).length = (Tree.prove L i).length := by
  induction N using Nat.strongRecOn with
  | ind N ih =>
    intro L i hL hi
    by_cases h : 2 ≤ N
    · have h1 := Tree.half_pos h
      have h2 := Tree.half_lt h
      by_cases hl : i < Tree.half N
      · rw [Tree.sides_left h hl, Tree.prove_left (by omega) (by rw [hL]; exact hl), List.length_append, List.length_cons, hL]
        rw [ih (Tree.half N) h2 (L.take (Tree.half N)) i (by rw [List.length_take]; omega) hl]
        rfl
      · rw [Tree.sides_right h hl, Tree.prove_right (by omega) (by rw [hL]; exact hl), List.length_append, List.length_cons, hL]
        rw [ih (N - Tree.half N) (by omega) (L.drop (Tree.half N)) (i - Tree.half N) (by rw [List.length_drop, hL]) (by omega)]
        rfl
    · rw [Tree.sides_small h, Tree.prove_small (by omega)]; rfl

theorem Tree.climb_prove (N : Nat) : ∀ (L : List (List UInt8)) (i : Nat) (l : List UInt8), L.length = N → L[i]? = some l → Tree.climb (Tree.leaf l) (Tree.sides N i) (Tree.prove L i) = Tree.top L := by
  induction N using Nat.strongRecOn with
  | ind N ih =>
    intro L i l hL hl
    have hi : i < N := by have := (List.getElem?_eq_some_iff.1 hl).1; omega
    by_cases h : 2 ≤ N
    · have h1 := Tree.half_pos h
      have h2 := Tree.half_lt h
      by_cases hlt : i < Tree.half N
      · have hs := Tree.sides_prove (Tree.half N) (L.take (Tree.half N)) i (by rw [List.length_take]; omega) hlt
        rw [Tree.sides_left h hlt, Tree.prove_left (by omega) (by rw [hL]; exact hlt), hL, climb_snoc hs,
          ih (Tree.half N) h2 (L.take (Tree.half N)) i l (by rw [List.length_take]; omega) (by rw [List.getElem?_take, if_pos hlt]; exact hl), Tree.top_two (l := L) (by omega), hL]
        rfl
      · have hs := Tree.sides_prove (N - Tree.half N) (L.drop (Tree.half N)) (i - Tree.half N) (by rw [List.length_drop, hL]) (by omega)
        rw [Tree.sides_right h hlt, Tree.prove_right (by omega) (by rw [hL]; exact hlt), hL, climb_snoc hs,
          ih (N - Tree.half N) (by omega) (L.drop (Tree.half N)) (i - Tree.half N) l (by rw [List.length_drop, hL]) (by rw [List.getElem?_drop]; rw [show Tree.half N + (i - Tree.half N) = i by omega]; exact hl), Tree.top_two (l := L) (by omega), hL]
        rfl
    · obtain rfl : N = 1 := by omega
      obtain rfl : i = 0 := by omega
      obtain ⟨a, rfl⟩ := List.length_eq_one_iff.1 hL
      rw [Tree.sides_small h, Tree.prove_small (by simp), Tree.top_one]
      simp only [List.getElem?_cons_zero, Option.some.injEq] at hl
      subst hl
      simp [Tree.climb]

theorem Tree.check_prove {L : List (List UInt8)} {i : Nat} {l : List UInt8} (hl : L[i]? = some l) : Tree.check (Tree.root L.length (Tree.top L)) L.length i l (Tree.prove L i) = true := by
  have hi := (List.getElem?_eq_some_iff.1 hl).1
  unfold Tree.check
  rw [Tree.climb_prove L.length L i l rfl hl, Tree.sides_prove L.length L i rfl hi]
  simp

theorem Tree.check_len {want : List UInt8} {n i : Nat} {l : List UInt8} {P : List (List UInt8)} (h : (Tree.sides n i).length ≠ P.length) : Tree.check want n i l P = false := by
  unfold Tree.check
  rw [decide_eq_false h, Bool.false_and]

theorem Tree.half_3 : Tree.half 3 = 2 := Tree.half_of (i := 1) (by decide) (by decide)
theorem Tree.half_2 : Tree.half 2 = 1 := Tree.half_of (i := 0) (by decide) (by decide)

/-- The chapter's example. -/
theorem Tree.ex_prove : Tree.prove [[97], [98], [99]] 2 = [Tree.node (Tree.leaf [97]) (Tree.leaf [98])] := by
  rw [Tree.prove_right (by decide) (by rw [show ([[97], [98], [99]] : List (List UInt8)).length = 3 from rfl, Tree.half_3]; decide)]
  rw [show ([[97], [98], [99]] : List (List UInt8)).length = 3 from rfl, Tree.half_3]
  rw [show (([[97], [98], [99]] : List (List UInt8)).drop 2) = [[99]] from rfl, show (([[97], [98], [99]] : List (List UInt8)).take 2) = [[97], [98]] from rfl, Tree.prove_small (by decide)]
  rw [Tree.top_two (by decide), show ([[97], [98]] : List (List UInt8)).length = 2 from rfl, Tree.half_2]
  rw [show (([[97], [98]] : List (List UInt8)).take 1) = [[97]] from rfl, show (([[97], [98]] : List (List UInt8)).drop 1) = [[98]] from rfl, Tree.top_one, Tree.top_one]
  rfl

theorem Tree.ex_top : Tree.top [[97], [98], [99]] = Tree.node (Tree.node (Tree.leaf [97]) (Tree.leaf [98])) (Tree.leaf [99]) := by
  rw [Tree.top_two (by decide), show ([[97], [98], [99]] : List (List UInt8)).length = 3 from rfl, Tree.half_3]
  rw [show (([[97], [98], [99]] : List (List UInt8)).drop 2) = [[99]] from rfl, show (([[97], [98], [99]] : List (List UInt8)).take 2) = [[97], [98]] from rfl, Tree.top_one]
  rw [Tree.top_two (by decide), show ([[97], [98]] : List (List UInt8)).length = 2 from rfl, Tree.half_2]
  rw [show (([[97], [98]] : List (List UInt8)).take 1) = [[97]] from rfl, show (([[97], [98]] : List (List UInt8)).drop 1) = [[98]] from rfl, Tree.top_one, Tree.top_one]

theorem Tree.ex_sides2 : Tree.sides 3 2 = [false] := by
  rw [Tree.sides_right (by decide) (by rw [Tree.half_3]; decide), Tree.half_3, Tree.sides_small (by decide)]
theorem Tree.ex_sides0 : Tree.sides 3 0 = [true, true] := by
  rw [Tree.sides_left (by decide) (by rw [Tree.half_3]; decide), Tree.half_3, Tree.sides_left (by decide) (by rw [Tree.half_2]; decide), Tree.half_2, Tree.sides_small (by decide)]

theorem Tree.num_3 : Wire.num 3 = [3] := Wire.num_small 3 (by decide)

set_option maxRecDepth 100000 in
theorem Tree.ex_apart : (Sha.of (3 :: ([3] ++ Sha.of (1 :: (Sha.of (1 :: (Sha.of [0, 97] ++ Sha.of [0, 98])) ++ Sha.of [0, 100])))) == Sha.of (3 :: ([3] ++ Sha.of (1 :: (Sha.of (1 :: (Sha.of [0, 97] ++ Sha.of [0, 98])) ++ Sha.of [0, 99]))))) = false := by decide +kernel

theorem Tree.ex_check : Tree.check (Tree.root 3 (Tree.top [[97], [98], [99]])) 3 2 [99] (Tree.prove [[97], [98], [99]] 2) = true :=
  Tree.check_prove (L := [[97], [98], [99]]) (i := 2) rfl

theorem Tree.ex_not : Tree.check (Tree.root 3 (Tree.top [[97], [98], [99]])) 3 2 [100] (Tree.prove [[97], [98], [99]] 2) = false := by
  unfold Tree.check
  rw [Tree.ex_sides2, Tree.ex_prove, Tree.ex_top]
  have : ∀ t x : List UInt8, Tree.climb t [false] [x] = Tree.node x t := fun t x => by simp [Tree.climb, Tree.step]
  rw [this]
  have h := Tree.ex_apart
  unfold Tree.root
  rw [Tree.num_3]
  rw [Bool.and_eq_false_iff]
  right
  exact h

/-- At a power of two all proofs are as long. -/
theorem Tree.sides_pow (d : Nat) : ∀ (i : Nat), i < 2 ^ d → (Tree.sides (2 ^ d) i).length = d := by
  induction d with
  | zero => intro i hi; rw [Tree.sides_small (by decide)]; rfl
  | succ d ih =>
    intro i hi
    have hp := Nat.two_pow_pos d
    have h2 : 2 ≤ 2 ^ (d + 1) := by rw [Nat.pow_succ]; omega
    have hh : Tree.half (2 ^ (d + 1)) = 2 ^ d := Tree.half_of (by rw [Nat.pow_succ]; omega) (by rw [Nat.pow_succ]; omega)
    by_cases hl : i < 2 ^ d
    · rw [Tree.sides_left h2 (by rw [hh]; exact hl), hh, List.length_cons, ih i hl]
    · rw [Tree.sides_right h2 (by rw [hh]; exact hl), hh, List.length_cons, show 2 ^ (d + 1) - 2 ^ d = 2 ^ d by rw [Nat.pow_succ]; omega, ih (i - 2 ^ d) (by rw [Nat.pow_succ] at hi; omega)]

theorem Tree.sides_zero {n i : Nat} (hi : i < n) : (Tree.sides n i).length = 0 ↔ n = 1 := by
  by_cases h : 2 ≤ n
  · constructor
    · intro h0
      by_cases hl : i < Tree.half n
      · rw [Tree.sides_left h hl] at h0; simp at h0
      · rw [Tree.sides_right h hl] at h0; simp at h0
    · omega
  · rw [Tree.sides_small h]
    constructor
    · intro _; omega
    · intro _; rfl

end Go.Proofs.YtgheacegjgaobaaDoor
