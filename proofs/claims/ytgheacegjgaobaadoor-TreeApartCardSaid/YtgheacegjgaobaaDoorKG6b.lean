/- TA1, M1, Ran, M8, M2, M3, M4, in one text. -/
import Derived.Test.YtgheacegjgaobaaDoorKG6a
import Derived.Test.YtgheacegjgaobaaDoorKG0b
import Derived.Deep.QuietTactic
import Derived.BigQuiet
import Derived.Test.YtgheacegjgaobaaDoorKG0c
import Derived.Test.YtgheacegjgaobaaDoorKG4a
/- Two appends, one into the row of the other, in a region that draws its order: what the second one keeps. -/
namespace Go.Proofs.YtgheacegjgaobaaDoor
open Go.RowKit
set_option linter.unusedSimpArgs false
set_option linter.unusedVariables false

/-- The row of the sums P that an append to nothing made: at or behind B. -/
def RowK (B : Nat) (P : List (List UInt8)) (w : World) (q : Addr) (n c : Nat) : Prop :=
  (n = 0 ∧ c = 0) ∨ ∃ g cur, q = ⟨g, 0, none⟩ ∧ B ≤ g ∧ w.heap[g]? = some (.cells cur 23 (0, 0)) ∧ n ≤ c ∧ c ≤ maxLen ∧ cur.size = c * 32 ∧ cur.toList.take (n * 32) = hashCells P

/-- A row of the one sum R, by itself. -/
def OneK (R : List UInt8) (w : World) (g : Nat) : Prop := w.heap[g]? = some (.cells (byteCells R).toArray 23 (0, 0))

theorem RowK.below {B : Nat} {P : List (List UInt8)} {w w' : World} {q : Addr} {n c : Nat} (h : RowK B P w q n c) (hb : Below w.heap.size w w') : RowK B P w' q n c := by
  rcases h with h | ⟨g, cur, h1, h2, h3, h4⟩
  · exact .inl h
  · exact .inr ⟨g, cur, h1, h2, (hb.block g (lt_of_block h3)).trans h3, h4⟩

/-- What the second append keeps. -/
def KeepK (B : Nat) (R : List UInt8) (P : List (List UInt8)) (w w' : World) : Prop :=
  Below B w w' ∧ (∀ g, OneK R w g → OneK R w' g) ∧ (∀ q n c, RowK B P w q n c → n = P.length → RowK B P w' q n c)

theorem KeepK.of_below {B : Nat} {R : List UInt8} {P : List (List UInt8)} {w w' : World} (h : Below w.heap.size w w') (hB : B ≤ w.heap.size) : KeepK B R P w w' :=
  ⟨h.mono hB, fun g hg => (h.block g (lt_of_block hg)).trans hg, fun q n c hr _ => hr.below h⟩

/-- The first append: the proof's sums anew. -/
theorem copyK {w : World} {B : Nat} {o : Option Addr} {m c : Nat} {L : List (List UInt8)} (h : HashesAt w o m c L) (hm : m ≤ 1000000) (hB : B ≤ w.heap.size) (b : Addr) :
    ∃ q cc w', (Builtin.append_ #[27, 27] 27 #[.slice (some b) 0 0, .slice o m c]).run Tryd.prog w = .ok (.slice (some q) m cc) w' ∧ RowK B L w' q m cc ∧ Below w.heap.size w w' := by
  obtain ⟨i, hi, hz0, hz1, hz2⟩ := info_parts Tryd.info_hs
  have hlen := h.1.1
  rcases Nat.eq_zero_or_pos m with rfl | hp
  · exact ⟨b, 0, w, run_append_zero w _ _ _ i (.agg zero32) Tryd.under_hs hi hz0 b o c, .inl ⟨rfl, rfl⟩, Below.refl _ _⟩
  · obtain ⟨b', off, rfl⟩ := h.form hp
    obtain ⟨v', w', h1, h2, h3⟩ := run_append_arg_grows (P := Tryd.prog) w 27 27 23 i (.agg zero32) 32 32 Tryd.under_hs hi hz0 hz1 hz2 zero32_size (by decide) b 0 0 [] (by simp) (by simp) ⟨b', off, none⟩ m c (hashCells L) (by rw [hashCells_len h.2, hlen]) (fun j u hu => by
      rw [Addr.add_mid]
      exact hashCells_at (fun i p hp => (h.get hp).2) h.2 j u hu) (by omega) (by unfold maxLen; omega) (by omega)
    rw [Nat.zero_add, List.nil_append] at h2
    rcases h2.2 with ⟨_, h0⟩ | ⟨g, cap, cur, rfl, hb, hg, hnc, hcm, hcs, htk⟩
    · omega
    · exact ⟨⟨g, 0, none⟩, cap, w', h1, .inr ⟨g, cur, rfl, by omega, hg, hnc, hcm, hcs, htk⟩, grown_below h3 (fun k hk => by cases hk) (Nat.le_refl _)⟩

/-- The second append: one sum more. -/
theorem pushK {w : World} {B : Nat} {R : List UInt8} {P : List (List UInt8)} {q : Addr} {n c g1 : Nat} (hR : R.length = 32) (hP : ∀ p ∈ P, p.length = 32) (hn : P.length = n) (hn2 : n ≤ 1000000) (h : RowK B P w q n c) (h1 : OneK R w g1) (hB : B ≤ w.heap.size) :
    ∃ q' cc w', (Builtin.append_ #[27, 27] 27 #[.slice (some q) n c, .slice (some ⟨g1, 0, none⟩) 1 1]).run Tryd.prog w = .ok (.slice q' (n + 1) cc) w' ∧ HashesAt w' q' (n + 1) cc (P ++ [R]) ∧ KeepK B R P w w' := by
  obtain ⟨i, hi, hz0, hz1, hz2⟩ := info_parts Tryd.info_hs
  have hPl : (hashCells P).length = n * 32 := by rw [hashCells_len hP, hn]
  have hRl : (byteCells R).length = 1 * 32 := by rw [byteCells_length, hR]
  have hcs : hashCells (P ++ [R]) = hashCells P ++ byteCells R := by simp [hashCells]
  have h32 : ∀ p ∈ P ++ [R], p.length = 32 := fun p hp => by
    rcases List.mem_append.1 hp with h | h
    · exact hP p h
    · obtain rfl := List.mem_singleton.1 h; exact hR
  have hPR : (P ++ [R]).length = n + 1 := by rw [List.length_append, hn]; rfl
  have grow : ∀ (olds : List Value), olds = hashCells P → (∀ j u, olds[j]? = some u → w.cell? (q.add j) = some u) → c < n + 1 →
      ∃ q' cc w', (Builtin.append_ #[27, 27] 27 #[.slice (some q) n c, .slice (some ⟨g1, 0, none⟩) 1 1]).run Tryd.prog w = .ok (.slice q' (n + 1) cc) w' ∧ HashesAt w' q' (n + 1) cc (P ++ [R]) ∧ KeepK B R P w w' := by
    intro olds ho hc hlt
    subst ho
    obtain ⟨v', w', r1, r2, r3⟩ := run_append_arg_grows (P := Tryd.prog) w 27 27 23 i (.agg zero32) 32 32 Tryd.under_hs hi hz0 hz1 hz2 zero32_size (by decide) q n c (hashCells P) hPl hc ⟨g1, 0, none⟩ 1 1 (byteCells R) hRl (cells_row_at h1) hlt (by unfold maxLen; omega) (by omega)
    rcases r2.2 with ⟨_, h0⟩ | ⟨g', cap', cur', rfl, hrest⟩
    · omega
    refine ⟨_, _, w', r1, ?_, KeepK.of_below (grown_below r3 (fun k hk => by cases hk) (Nat.le_refl _)) hB⟩
    have := HashesAt.of_owns (d := P ++ [R]) (by rw [hPR, hcs]; exact r2) h32
    rwa [hPR] at this
  rcases h with ⟨rfl, rfl⟩ | ⟨g, cur, rfl, hBg, hg, hnc, hcm, hsz, htk⟩
  · obtain rfl := List.eq_nil_of_length_eq_zero hn
    exact grow [] rfl (by simp) (by omega)
  · have hcell : ∀ j u, (hashCells P)[j]? = some u → w.cell? ((⟨g, 0, none⟩ : Addr).add j) = some u := by
      intro j u hu
      have hg' : w.heap[g]? = some (.cells cur.toList.toArray 23 (0, 0)) := by simpa using hg
      refine cells_row_at hg' j u ?_
      rw [← htk] at hu
      have hj := (List.getElem?_eq_some_iff.1 hu).1
      rw [List.getElem?_take] at hu
      split at hu
      · exact hu
      · cases hu
    by_cases hr : n + 1 ≤ c
    · have hsi : i.size = 32 := hz1
      have hlc : cur.toList.length = c * 32 := by rw [Array.length_toList, hsz]
      have hrun := run_append_room (P := Tryd.prog) w 27 27 23 i Tryd.under_hs hi g n c cur hg ⟨g1, 0, none⟩ 1 1 (byteCells R) (by rw [hsi]; exact hRl) (cells_row_at h1) (byteCells_one R) hr (by rw [hsi, hRl, hsz]; omega)
      rw [hsi, htk, hRl] at hrun
      have hhp := setRow_heap w g cur (hashCells P ++ byteCells R ++ cur.toList.drop (n * 32 + 1 * 32)).toArray 23 (0, 0) hg
      refine ⟨_, _, _, hrun, ?_, below_setRow' (Below.refl _ _) hBg, ?_, ?_⟩
      · have := HashesAt.of_owns (base := 0) (q := some ⟨g, 0, none⟩) (c := c) (d := P ++ [R]) (w := w.setRow g (hashCells P ++ byteCells R ++ cur.toList.drop (n * 32 + 1 * 32)).toArray) ⟨by rw [hashCells_len h32], .inr ⟨g, c, _, rfl, Nat.zero_le _, hhp, by rw [hPR]; exact hr, hcm, by
          simp only [List.size_toArray, List.length_append, List.length_drop, hPl, hRl, hlc]; omega, ?_⟩⟩ h32
        · rwa [hPR] at this
        · rw [hPR, hcs]
          have : (hashCells P ++ byteCells R).length = (n + 1) * 32 := by rw [List.length_append, hPl, hRl]; omega
          rw [← this]
          exact List.take_left
      · intro g' hg'
        by_cases e : g' = g
        · subst e
          unfold OneK at hg' ⊢
          rw [hg] at hg'
          have hcur : cur = (byteCells R).toArray := by simpa using hg'
          have hc1 : c = 1 := by rw [hcur] at hsz; simp only [List.size_toArray, hRl] at hsz; omega
          obtain rfl : n = 0 := by omega
          obtain rfl := List.eq_nil_of_length_eq_zero hn
          rw [hhp]
          have hd : cur.toList.drop (0 * 32 + 1 * 32) = [] := List.drop_of_length_le (by omega)
          rw [hd]
          simp [hashCells]
        · exact (setRow_other w g g' _ e).trans hg'
      · intro q' n' c' hrow hn'
        rcases hrow with hz | ⟨g', cur', rfl, k1, k2, k3, k4, k5, k6⟩
        · exact .inl hz
        · by_cases e : g' = g
          · subst e
            rw [hg] at k2
            have hcur : cur = cur' := by simpa using k2
            subst hcur
            refine .inr ⟨g', _, rfl, k1, hhp, k3, k4, ?_, ?_⟩
            · simp only [List.size_toArray, List.length_append, List.length_drop, hPl, hRl, hlc]; omega
            · rw [hn', hn, ← hPl]
              simp only [List.append_assoc]
              exact List.take_left
          · exact .inr ⟨g', cur', rfl, k1, (setRow_other w g g' _ e).trans k2, k3, k4, k5, k6⟩
    · exact grow _ rfl hcell (by omega)

end Go.Proofs.YtgheacegjgaobaaDoor

/- Rows of whole numbers; the walks of many.Rises, the reference's Rises and in, sort.SearchInts. -/
namespace Go.Proofs.YtgheacegjgaobaaDoor
open Go.RowKit
set_option linter.unusedSimpArgs false
set_option linter.unusedVariables false

/-- A slice of whole numbers. -/
def IntsAt (w : World) (o : Option Addr) (n cap : Nat) (A : List Int) : Prop := RowsAt w o n cap 1 (intCell .i64) A

theorem IntsAt.len {w : World} {o : Option Addr} {n cap : Nat} {A : List Int} (h : IntsAt w o n cap A) : A.length = n := h.1
theorem IntsAt.cap {w : World} {o : Option Addr} {n cap : Nat} {A : List Int} (h : IntsAt w o n cap A) : n ≤ cap := h.2.1
theorem IntsAt.max {w : World} {o : Option Addr} {n cap : Nat} {A : List Int} (h : IntsAt w o n cap A) : cap ≤ 9223372036854775807 := h.2.2.1

theorem IntsAt.kept {w w' : World} {o : Option Addr} {n cap : Nat} {A : List Int} (h : IntsAt w o n cap A) (hk : ∀ k, (∃ i, o = some ⟨k, i, none⟩) → k < w.heap.size → w'.heap[k]? = w.heap[k]?) (hs : w.heap.size ≤ w'.heap.size) : IntsAt w' o n cap A := by
  refine ⟨h.1, h.2.1, h.2.2.1, fun h0 => ?_⟩
  obtain ⟨b, off, h5, h6, h7⟩ := h.2.2.2 h0
  refine ⟨b, off, h5, Nat.lt_of_lt_of_le h6 hs, fun i l hl j v hv => ?_⟩
  rw [World.cell?_of_block (a := ⟨b, _, none⟩) (hk b ⟨off, h5⟩ h6)]
  exact h7 i l hl j v hv

theorem IntsAt.below {w w' : World} {B : Nat} {o : Option Addr} {n cap : Nat} {A : List Int} (h : IntsAt w o n cap A) (hB : w.heap.size ≤ B) (hb : Below B w w') : IntsAt w' o n cap A :=
  h.kept (fun k _ hk => hb.block k (by omega)) hb.size

theorem IntsAt.take {w : World} {o : Option Addr} {n cap : Nat} {A : List Int} (h : IntsAt w o n cap A) (k c : Nat) (hk : k ≤ n) (hc : k ≤ c) (hm : c ≤ 9223372036854775807) : IntsAt w o k c (A.take k) := by
  refine ⟨by rw [List.length_take, h.1]; omega, hc, hm, fun h0 => ?_⟩
  obtain ⟨b, off, h5, h6, h7⟩ := h.2.2.2 (by omega)
  refine ⟨b, off, h5, h6, fun i l hl => h7 i l ?_⟩
  rw [List.getElem?_take] at hl
  split at hl
  · exact hl
  · cases hl

theorem IntsAt.drop {w : World} {b off n cap : Nat} {A : List Int} (h : IntsAt w (some ⟨b, off, none⟩) n cap A) (k : Nat) (hk : k ≤ n) : IntsAt w (some ⟨b, off + k, none⟩) (n - k) (cap - k) (A.drop k) := by
  have h8 := h.2.1
  have h9 := h.2.2.1
  refine ⟨by rw [List.length_drop, h.1], by omega, by omega, fun h0 => ?_⟩
  obtain ⟨b', off', h5, h6, h7⟩ := h.2.2.2 (by omega)
  cases h5
  refine ⟨b, off + k, rfl, h6, fun i l hl => ?_⟩
  rw [List.getElem?_drop] at hl
  have := h7 (k + i) l hl
  rwa [show off + (k + i) * 1 = off + k + i * 1 by omega] at this

/-- Nothing of it: wherever it lies. -/
theorem IntsAt.empty {w : World} (o : Option Addr) (c : Nat) (hc : c ≤ 9223372036854775807) : IntsAt w o 0 c [] := ⟨rfl, Nat.zero_le _, hc, fun h => absurd h (by decide)⟩

theorem IntsAt.form {w : World} {o : Option Addr} {n cap : Nat} {A : List Int} (h : IntsAt w o n cap A) (h0 : 0 < n) : ∃ b off, o = some ⟨b, off, none⟩ := by
  obtain ⟨b, off, h5, _⟩ := h.2.2.2 h0
  exact ⟨b, off, h5⟩

theorem IntsAt.get {w : World} {b off n cap : Nat} {A : List Int} (h : IntsAt w (some ⟨b, off, none⟩) n cap A) {i : Nat} {a : Int} (hl : A[i]? = some a) : w.cell? ⟨b, off + i, none⟩ = some (.int .i64 a) := by
  have hi := (List.getElem?_eq_some_iff.1 hl).1
  rw [h.1] at hi
  obtain ⟨b', off', h5, h6, h7⟩ := h.2.2.2 (by omega)
  cases h5
  have := h7 i a hl 0 _ rfl
  simpa using this

theorem Tryd.under_ints : Tryd.prog.underlying 32 = some (.slice 3) := by kernel_rfl
theorem Tryd.info_int : (Tryd.prog.info? 3).map (fun i => (i.zero, i.size, i.bytes)) = some (some (.int .i64 0), 1, 8) := by kernel_rfl

theorem IntsAt.copy {w : World} {o : Option Addr} {m c : Nat} {L : List Int} (h : IntsAt w o m c L) (hm : m ≤ 1000000) (b : Addr) :
    ∃ q cc w', (Builtin.append_ #[32, 32] 32 #[.slice (some b) 0 0, .slice o m c]).run Tryd.prog w = .ok (.slice (some q) m cc) w' ∧ IntsAt w' (some q) m cc L ∧ Below w.heap.size w w' := by
  obtain ⟨i, hi, hz0, hz1, hz2⟩ := info_parts Tryd.info_int
  have hlen := h.len
  obtain ⟨q, cc, w', h1, h2, h3, h4, h5⟩ := run_copy_row (P := Tryd.prog) w 32 32 3 i (.int .i64 0) 1 8 Tryd.under_ints hi hz0 hz1 hz2 rfl (by decide) b o m c (L.map fun l => .int .i64 l) (by rw [List.length_map, hlen, Nat.mul_one]) (fun h0 => by
    obtain ⟨b', off, rfl⟩ := h.form h0
    refine ⟨_, rfl, fun j u hu => ?_⟩
    rw [List.getElem?_map] at hu
    obtain ⟨l, hl, rfl⟩ := Option.map_eq_some_iff.1 hu
    rw [Addr.add_mid]
    exact h.get hl) (by unfold maxLen; omega) (by omega)
  refine ⟨q, cc, w', h1, ⟨hlen, h2, h3, fun h0 => ?_⟩, h4⟩
  obtain ⟨g, rfl, hg, hr⟩ := h5 h0
  refine ⟨g, 0, rfl, hg, fun i l hl => ?_⟩
  intro j u hu
  match j, hu with
  | 0, hu =>
    obtain rfl := Option.some.inj hu
    have := hr i _ (show (L.map fun l => Value.int .i64 l)[i]? = some (.int .i64 l) by simp [hl])
    simpa using this

/-- The place ahead. -/
def lastOf (A : List Int) (k : Nat) : Int := if k = 0 then -1 else (A[k - 1]?).getD 0
theorem lastOf_zero (A : List Int) : lastOf A 0 = -1 := rfl
theorem lastOf_succ {A : List Int} {k : Nat} {a : Int} (h : A[k]? = some a) : lastOf A (k + 1) = a := by
  unfold lastOf; rw [if_neg (by omega), Nat.add_sub_cancel, h]; rfl

theorem rises_bad {n : Int} {A : List Int} {k : Nat} {a : Int} (h : A[k]? = some a) (hc : a ≤ lastOf A k ∨ n ≤ a) : Many.rises n (A.drop k) (lastOf A k) = false := by
  rw [List.drop_eq_getElem_cons (List.getElem?_eq_some_iff.1 h).1, (List.getElem?_eq_some_iff.1 h).2, Many.rises, if_pos hc]
theorem rises_good {n : Int} {A : List Int} {k : Nat} {a : Int} (h : A[k]? = some a) (hc : ¬ (a ≤ lastOf A k ∨ n ≤ a)) : Many.rises n (A.drop k) (lastOf A k) = Many.rises n (A.drop (k + 1)) (lastOf A (k + 1)) := by
  rw [lastOf_succ h, List.drop_eq_getElem_cons (List.getElem?_eq_some_iff.1 h).1, (List.getElem?_eq_some_iff.1 h).2, Many.rises, if_neg hc]
theorem rises_end {n : Int} {A : List Int} {l : Int} : Many.rises n (A.drop A.length) l = true := by rw [List.drop_length]; rfl

theorem drewN_below (w : World) (n : Nat) : Below w.heap.size w (w.drewN n) := ⟨rfl, rfl, rfl, Nat.le_refl _, fun _ _ => rfl⟩

/-- Do places rise, and are they there? -/
def risesB (n : Int) (A : List Int) : Bool := Many.rises n A (-1)

set_option maxRecDepth 100000 in
set_option maxHeartbeats 2000000 in
theorem manyRises_any (w : World) (n : Int) (o : Option Addr) (m c : Nat) (A : List Int) (hA : IntsAt w o m c A) :
    Calls Tryd.prog 18 #[.int .i64 n, .slice o m c] w fun e w' => e = .returned (.bool (risesB n A)) ∧ Below w.heap.size w w' := by
  have hm := hA.len
  have hc := hA.cap
  have hx := hA.max
  have HM := Lib.hid hm; clear hm
  have HA := Lib.hid hA; clear hA
  obtain ⟨R, hR⟩ : ∃ R, R = risesB n A := ⟨_, rfl⟩
  rw [← hR]
  have HR := Lib.hid hR; clear hR
  go_enter Tryd.func18, Tryd.ntmps18
  go_wp2_with fail
  go_loopw [8] (fun v wr => ∃ k : Nat, k ≤ m ∧ v = .int .i64 (k : Int) ∧ Hid (R = Many.rises n (A.drop k) (lastOf A k)) ∧ Hid (-1 ≤ lastOf A k) ∧ Below w.heap.size w wr) (fun v _ => m - (intOf v).toNat)
  case atStart => exact ⟨0, by omega, rfl, Lib.hid HR.out, Lib.hid (by rw [lastOf_zero]; decide), Below.refl _ _⟩
  case round =>
    clear HR
    obtain ⟨k, hk, rfl, HR, HLA, Br⟩ := hrel
    by_cases hlt : k < m
    · have t1 : decide ((k : Int) < (m : Int)) = true := decide_eq_true (by omega)
      have t1' : decide (k < m) = true := decide_eq_true hlt
      obtain ⟨b, off, rfl⟩ := HA.out.form (by omega)
      obtain ⟨a, ha⟩ : ∃ a, A[k]? = some a := ⟨_, List.getElem?_eq_getElem (by rw [HM.out]; exact hlt)⟩
      have hcell := (HA.out.below (Nat.le_refl _) Br).get ha
      have HAK := Lib.hid ha; clear ha
      by_cases h0 : a < 0
      · have u1 : decide (a < 0) = true := decide_eq_true h0
        have hR := HR.out
        rw [rises_bad HAK.out (.inl (by have := HLA.out; omega))] at hR
        subst hR
        go_wp2_with fail
        refine wp_region_quiet_lit (by kernel_rfl) (by kernel_rfl) ?_
        repeat (go_big_quiet_step (fail))
        refine wpQuiet_nil ?_
        rintro w5 ⟨nq, rfl⟩
        go_wp2_with fail
        go_ret
        exact ⟨rfl, Br.trans ((drewN_below _ _).mono Br.size)⟩
      · have u1 : decide (a < 0) = false := decide_eq_false h0
        by_cases h1 : n ≤ a
        · have u2 : decide (n ≤ a) = true := decide_eq_true h1
          have hR := HR.out
          rw [rises_bad HAK.out (.inr h1)] at hR
          subst hR
          go_wp2_with fail
          refine wp_region_quiet_lit (by kernel_rfl) (by kernel_rfl) ?_
          repeat (go_big_quiet_step (fail))
          refine wpQuiet_nil ?_
          rintro w5 ⟨nq, rfl⟩
          go_wp2_with fail
          go_ret
          exact ⟨rfl, Br.trans ((drewN_below _ _).mono Br.size)⟩
        · have u2 : decide (n ≤ a) = false := decide_eq_false h1
          rcases k with _ | k
          · have hR := HR.out
            rw [rises_good HAK.out (by rw [lastOf_zero]; omega)] at hR
            have HR2 := Lib.hid hR; clear hR HR
            have hL2 : -1 ≤ lastOf A (0 + 1) := by rw [lastOf_succ HAK.out]; omega
            have HL2 := Lib.hid hL2; clear hL2
            clear HLA
            rw [Nat.add_zero] at hcell
            have u3 : decide ((0 : Int) < 0) = false := by decide
            have hm0 : (0 : Int) < (m : Int) := by omega
            go_wp2_with fail
            refine wp_region_quiet_lit (by kernel_rfl) (by kernel_rfl) ?_
            repeat (go_big_quiet_step (fail))
            refine wpQuiet_nil ?_
            rintro w5 ⟨nq, rfl⟩
            go_wp2_with fail
            go_roundw
            case rel => exact ⟨0 + 1, by omega, by go_num, HR2, HL2, Br.trans ((drewN_below _ _).mono Br.size)⟩
            case measure => simp [intOf]; omega
          · obtain ⟨p, hp⟩ : ∃ p, A[k]? = some p := ⟨_, List.getElem?_eq_getElem (by rw [HM.out]; omega)⟩
            have hcp := (HA.out.below (Nat.le_refl _) Br).get hp
            have HP := Lib.hid hp; clear hp
            have hw : IntKind.i64.wrap (((k + 1 : Nat) : Int) - 1) = (k : Int) := by rw [IntWalk.i64_in _ (by omega)]; omega
            have hw' : IntKind.i64.wrap ((k : Int) + 1 - 1) = (k : Int) := by rw [IntWalk.i64_in _ (by omega)]; omega
            have hsub : ((k : Int) + 1 - 1) = (k : Int) := by omega
            have u3 : decide ((0 : Int) < ((k + 1 : Nat) : Int)) = true := decide_eq_true (by omega)
            have u3' : decide (0 < k + 1) = true := decide_eq_true (by omega)
            have hkk : (k : Int) < (m : Int) := by omega
            by_cases h2 : a ≤ p
            · have u4 : decide (a ≤ p) = true := decide_eq_true h2
              have hR := HR.out
              rw [rises_bad HAK.out (.inl (by rw [lastOf_succ HP.out]; exact h2))] at hR
              subst hR
              go_wp2_with fail
              refine wp_region_quiet_lit (by kernel_rfl) (by kernel_rfl) ?_
              repeat (go_big_quiet_step (fail))
              refine wpQuiet_nil ?_
              rintro w5 ⟨nq, rfl⟩
              go_wp2_with fail
              go_ret
              exact ⟨rfl, Br.trans ((drewN_below _ _).mono Br.size)⟩
            · have u4 : decide (a ≤ p) = false := decide_eq_false h2
              have hR := HR.out
              rw [rises_good HAK.out (by rw [lastOf_succ HP.out]; omega)] at hR
              have HR2 := Lib.hid hR; clear hR HR
              have hL2 : -1 ≤ lastOf A (k + 1 + 1) := by rw [lastOf_succ HAK.out]; omega
              have HL2 := Lib.hid hL2; clear hL2
              clear HLA
              go_wp2_with fail
              refine wp_region_quiet_lit (by kernel_rfl) (by kernel_rfl) ?_
              repeat (go_big_quiet_step (fail))
              refine wpQuiet_nil ?_
              rintro w5 ⟨nq, rfl⟩
              go_wp2_with fail
              go_roundw
              case rel => exact ⟨k + 1 + 1, by omega, by go_num, HR2, HL2, Br.trans ((drewN_below _ _).mono Br.size)⟩
              case measure => simp [intOf]; omega
    · obtain rfl : k = m := by omega
      have hR := HR.out
      rw [← HM.out, rises_end] at hR
      subst hR
      have t1 : decide ((k : Int) < (k : Int)) = false := decide_eq_false (by omega)
      go_wp2_with fail
      go_ret
      exact ⟨rfl, Br⟩

set_option maxRecDepth 100000 in
set_option maxHeartbeats 2000000 in
theorem refRises_any (w : World) (n : Int) (o : Option Addr) (m c : Nat) (A : List Int) (hA : IntsAt w o m c A) :
    Calls Tryd.prog 17 #[.int .i64 n, .slice o m c] w fun e w' => e = .returned (.bool (risesB n A)) ∧ Below w.heap.size w w' := by
  have hm := hA.len
  have hc := hA.cap
  have hx := hA.max
  have HM := Lib.hid hm; clear hm
  have HA := Lib.hid hA; clear hA
  obtain ⟨R, hR⟩ : ∃ R, R = risesB n A := ⟨_, rfl⟩
  rw [← hR]
  have HR := Lib.hid hR; clear hR
  go_enter Tryd.func17, Tryd.ntmps17
  go_wp2_with fail
  go_loopw [5, 6] (fun l v wr => ∃ k : Nat, k ≤ m ∧ v = .int .i64 (k : Int) ∧ l = .int .i64 (lastOf A k) ∧ Hid (R = Many.rises n (A.drop k) (lastOf A k)) ∧ Below w.heap.size w wr) (fun _ v _ => m - (intOf v).toNat)
  case atStart => exact ⟨0, by omega, rfl, rfl, Lib.hid HR.out, Below.refl _ _⟩
  case round =>
    clear HR
    obtain ⟨k, hk, rfl, rfl, HR, Br⟩ := hrel
    by_cases hlt : k < m
    · have t1 : decide ((k : Int) < (m : Int)) = true := decide_eq_true (by omega)
      have t1' : decide (k < m) = true := decide_eq_true hlt
      obtain ⟨b, off, rfl⟩ := HA.out.form (by omega)
      obtain ⟨a, ha⟩ : ∃ a, A[k]? = some a := ⟨_, List.getElem?_eq_getElem (by rw [HM.out]; exact hlt)⟩
      have hcell := (HA.out.below (Nat.le_refl _) Br).get ha
      have HAK := Lib.hid ha; clear ha
      obtain ⟨l, hl⟩ : ∃ l, l = lastOf A k := ⟨_, rfl⟩
      rw [← hl]
      have HLL := Lib.hid hl; clear hl
      by_cases h0 : a ≤ l
      · have u1 : decide (a ≤ l) = true := decide_eq_true h0
        have hR := HR.out
        rw [rises_bad HAK.out (.inl (by rw [← HLL.out]; exact h0))] at hR
        subst hR
        go_wp2_with fail
        go_ret
        exact ⟨rfl, Br⟩
      · have u1 : decide (a ≤ l) = false := decide_eq_false h0
        by_cases h1 : n ≤ a
        · have u2 : decide (n ≤ a) = true := decide_eq_true h1
          have hR := HR.out
          rw [rises_bad HAK.out (.inr h1)] at hR
          subst hR
          go_wp2_with fail
          go_ret
          exact ⟨rfl, Br⟩
        · have u2 : decide (n ≤ a) = false := decide_eq_false h1
          have hR := HR.out
          rw [rises_good HAK.out (by rw [← HLL.out]; omega)] at hR
          have HR2 := Lib.hid hR; clear hR HR
          have hL2 := lastOf_succ HAK.out
          have HL2 := Lib.hid hL2; clear hL2
          go_wp2_with fail
          go_roundw
          case rel => exact ⟨k + 1, by omega, by go_num, by rw [HL2.out], HR2, Br⟩
          case measure => simp [intOf]; omega
    · obtain rfl : k = m := by omega
      have hR := HR.out
      rw [← HM.out, rises_end] at hR
      subst hR
      have t1 : decide ((k : Int) < (k : Int)) = false := decide_eq_false (by omega)
      go_wp2_with fail
      go_ret
      exact ⟨rfl, Br⟩

/-- Is one asked for? -/
def asksB (A : List Int) (f t : Int) : Bool := A.any fun a => decide (f ≤ a) && decide (a < t)

theorem asksB_nat (A : List Nat) (f t : Nat) : asksB (A.map Int.ofNat) (f : Int) (t : Int) = !decide (Many.inr A f t = []) := by
  unfold asksB Many.inr
  rw [List.any_map]
  induction A with
  | nil => rfl
  | cons a A ih =>
    rw [List.any_cons, ih, List.filter_cons]
    simp only [Function.comp, Int.ofNat_eq_natCast]
    by_cases h : f ≤ a ∧ a < t
    · simp [h]
    · rw [if_neg (by simp; omega)]
      have h1 : (decide ((f : Int) ≤ (a : Int)) && decide ((a : Int) < (t : Int))) = false := by
        rw [Bool.and_eq_false_iff]
        by_cases h2 : f ≤ a
        · right; exact decide_eq_false (by omega)
        · left; exact decide_eq_false (by omega)
      rw [h1]; rfl

set_option maxRecDepth 100000 in
set_option maxHeartbeats 2000000 in
theorem refIn_any (w : World) (o : Option Addr) (m c : Nat) (A : List Int) (f t : Int) (hA : IntsAt w o m c A) :
    Calls Tryd.prog 63 #[.slice o m c, .int .i64 f, .int .i64 t] w fun e w' => e = .returned (.bool (asksB A f t)) ∧ Below w.heap.size w w' := by
  have hm := hA.len
  have hc := hA.cap
  have hx := hA.max
  have HM := Lib.hid hm; clear hm
  have HA := Lib.hid hA; clear hA
  obtain ⟨R, hR⟩ : ∃ R, R = asksB A f t := ⟨_, rfl⟩
  rw [← hR]
  have HR := Lib.hid hR; clear hR
  go_enter Tryd.func63, Tryd.ntmps63
  go_wp2_with fail
  go_loopw [7] (fun v wr => ∃ k : Nat, k ≤ m ∧ v = .int .i64 (k : Int) ∧ Hid (R = asksB (A.drop k) f t) ∧ Below w.heap.size w wr) (fun v _ => m - (intOf v).toNat)
  case atStart => exact ⟨0, by omega, rfl, Lib.hid HR.out, Below.refl _ _⟩
  case round =>
    clear HR
    obtain ⟨k, hk, rfl, HR, Br⟩ := hrel
    by_cases hlt : k < m
    · have t1 : decide ((k : Int) < (m : Int)) = true := decide_eq_true (by omega)
      have t1' : decide (k < m) = true := decide_eq_true hlt
      obtain ⟨b, off, rfl⟩ := HA.out.form (by omega)
      obtain ⟨a, ha⟩ : ∃ a, A[k]? = some a := ⟨_, List.getElem?_eq_getElem (by rw [HM.out]; exact hlt)⟩
      have hcell := (HA.out.below (Nat.le_refl _) Br).get ha
      have hdr : A.drop k = a :: A.drop (k + 1) := by rw [List.drop_eq_getElem_cons (List.getElem?_eq_some_iff.1 ha).1, (List.getElem?_eq_some_iff.1 ha).2]
      have HDR := Lib.hid hdr; clear hdr ha
      have hR := HR.out
      rw [HDR.out, asksB, List.any_cons] at hR
      by_cases h0 : f ≤ a
      · have u1 : decide (f ≤ a) = true := decide_eq_true h0
        by_cases h1 : a < t
        · have u2 : decide (a < t) = true := decide_eq_true h1
          rw [u1, u2] at hR
          simp only [Bool.and_self, Bool.true_or] at hR
          subst hR
          go_wp2_with fail
          go_ret
          exact ⟨rfl, Br⟩
        · have u2 : decide (a < t) = false := decide_eq_false h1
          rw [u1, u2] at hR
          simp only [Bool.and_false, Bool.false_or] at hR
          have HR2 : Hid (R = asksB (A.drop (k + 1)) f t) := Lib.hid hR
          clear hR HR
          go_wp2_with fail
          go_roundw
          case rel => exact ⟨k + 1, by omega, by go_num, HR2, Br⟩
          case measure => simp [intOf]; omega
      · have u1 : decide (f ≤ a) = false := decide_eq_false h0
        rw [u1] at hR
        simp only [Bool.false_and, Bool.false_or] at hR
        have HR2 : Hid (R = asksB (A.drop (k + 1)) f t) := Lib.hid hR
        clear hR HR
        go_wp2_with fail
        go_roundw
        case rel => exact ⟨k + 1, by omega, by go_num, HR2, Br⟩
        case measure => simp [intOf]; omega
    · obtain rfl : k = m := by omega
      have hR := HR.out
      rw [← HM.out, List.drop_length] at hR
      subst hR
      have t1 : decide ((k : Int) < (k : Int)) = false := decide_eq_false (by omega)
      go_wp2_with fail
      go_ret
      exact ⟨rfl, Br⟩

/-- What is below a bound stands ahead: so many. -/
def CutAt (A : List Int) (x : Int) (p : Nat) : Prop := p ≤ A.length ∧ ∀ (i : Nat) (a : Int), A[i]? = some a → (a < x ↔ i < p)

set_option maxRecDepth 100000 in
set_option maxHeartbeats 2000000 in
theorem searchLess_any (w w0 : World) (b1 b2 i : Nat) (x a : Int) (o : Option Addr) (m c : Nat) (A : List Int) (hA : IntsAt w0 o m c A) (hb : Below w0.heap.size w0 w) (h1 : w.heap[b1]? = some (.cells #[.slice o m c] 32 (0, 0))) (h2 : w.heap[b2]? = some (.cells #[.int .i64 x] 3 (0, 0))) (ha : A[i]? = some a) :
    Calls Tryd.prog 71 #[.int .i64 (i : Int), .pointer (some ⟨b1, 0, none⟩), .pointer (some ⟨b2, 0, none⟩)] w fun e w' => e = .returned (.bool (decide (x ≤ a))) ∧ Below w.heap.size w w' := by
  have hil : i < m := by have := (List.getElem?_eq_some_iff.1 ha).1; rw [hA.len] at this; exact this
  have hc := hA.cap
  have hx := hA.max
  obtain ⟨b, off, rfl⟩ := hA.form (by omega)
  have hcell := (hA.below (Nat.le_refl _) hb).get ha
  have hc1 := cell_of_one h1
  have hc2 := cell_of_one h2
  clear ha h1 h2 hA hb
  have hii : (i : Int) < (m : Int) := by omega
  go_enter Tryd.func71, Tryd.ntmps71
  go_wp2_with fail
  refine wp_region_quiet_lit (by kernel_rfl) (by kernel_rfl) ?_
  repeat (go_big_quiet_step (fail))
  refine wpQuiet_nil ?_
  rintro w5 ⟨nq, rfl⟩
  go_wp2_with fail
  go_ret
  exact ⟨rfl, drewN_below _ _⟩

theorem Tryd.callLess (args : Array Value) (w : World) : Sem.run Tryd.prog (callFunc 71 args) w = .ok (.enter 71 args) w := by kernel_rfl

end Go.Proofs.YtgheacegjgaobaaDoor

/- An append whose run is known, in a walk. -/
namespace Go.Proofs.YtgheacegjgaobaaDoor
open Go.RowKit
set_option linter.unusedSimpArgs false
set_option linter.unusedVariables false

end Go.Proofs.YtgheacegjgaobaaDoor

/- Rows of two whole numbers; the walk of the reference's Tops. -/
namespace Go.Proofs.YtgheacegjgaobaaDoor
open Go.RowKit
set_option linter.unusedSimpArgs false
set_option linter.unusedVariables false

/-- Two whole numbers, as cells. -/
def pairC (x : Nat × Nat) : List Value := [.int .i64 (x.1 : Int), .int .i64 (x.2 : Int)]
def pairsC (d : List (Nat × Nat)) : List Value := (d.map pairC).flatten
theorem pairsC_app (a b : List (Nat × Nat)) : pairsC (a ++ b) = pairsC a ++ pairsC b := by simp [pairsC]
theorem pairsC_one (a : Nat × Nat) : pairsC [a] = pairC a := by simp [pairsC]
theorem pairsC_len (d : List (Nat × Nat)) : (pairsC d).length = d.length * 2 := by
  induction d with
  | nil => rfl
  | cons a d ih => rw [show a :: d = [a] ++ d from rfl, pairsC_app, List.length_append, ih, pairsC_one]; simp [pairC]; omega
theorem pairsC_get : ∀ {d : List (Nat × Nat)} {i : Nat} {x : Nat × Nat}, d[i]? = some x → (pairsC d)[i * 2]? = some (.int .i64 (x.1 : Int)) ∧ (pairsC d)[i * 2 + 1]? = some (.int .i64 (x.2 : Int)) := by
  intro d
  induction d with
  | nil => intro i x h; simp at h
  | cons a d ih =>
    intro i x h
    rw [show a :: d = [a] ++ d from rfl, pairsC_app, pairsC_one]
    rcases i with _ | i
    · rw [List.getElem?_cons_zero, Option.some.injEq] at h
      subst h
      exact ⟨rfl, rfl⟩
    · rw [List.getElem?_cons_succ] at h
      obtain ⟨h1, h2⟩ := ih h
      have e1 : (i + 1) * 2 = i * 2 + 2 := by omega
      have e2 : (i + 1) * 2 + 1 = i * 2 + 1 + 2 := by omega
      refine ⟨?_, ?_⟩
      · rw [e1, List.getElem?_append_right (by simp [pairC])]; simpa [pairC] using h1
      · rw [e2, List.getElem?_append_right (by simp [pairC])]; simpa [pairC] using h2
theorem pairsC_one' (d : List (Nat × Nat)) : ∀ u ∈ pairsC d, u.oneCell' = true := by
  intro u hu
  unfold pairsC at hu
  obtain ⟨l, hl, hul⟩ := List.mem_flatten.1 hu
  obtain ⟨x, _, rfl⟩ := List.mem_map.1 hl
  simp only [pairC, List.mem_cons, List.not_mem_nil, or_false] at hul
  rcases hul with rfl | rfl <;> rfl

/-- A slice of such. -/
def PairsAt (w : World) (o : Option Addr) (n c : Nat) (d : List (Nat × Nat)) : Prop :=
  d.length = n ∧ n ≤ c ∧ c ≤ 9223372036854775807 ∧ (0 < n → ∃ g, o = some ⟨g, 0, none⟩ ∧ g < w.heap.size ∧ ∀ (j : Nat) (u : Value), (pairsC d)[j]? = some u → w.cell? ⟨g, j, none⟩ = some u)

theorem PairsAt.below {w w' : World} {o : Option Addr} {n c : Nat} {d : List (Nat × Nat)} (h : PairsAt w o n c d) (hb : Below w.heap.size w w') : PairsAt w' o n c d := by
  obtain ⟨h1, h2, h3, h4⟩ := h
  refine ⟨h1, h2, h3, fun h0 => ?_⟩
  obtain ⟨g, h5, h6, h7⟩ := h4 h0
  exact ⟨g, h5, Nat.lt_of_lt_of_le h6 hb.size, fun j u hu => (hb.cell (p := ⟨g, j, none⟩) h6).trans (h7 j u hu)⟩

theorem PairsAt.of_owns {w : World} {base n c : Nat} {q : Option Addr} {d : List (Nat × Nat)} (hn : d.length = n) (h : w.ownsRow base 68 2 (.slice q n c) n (pairsC d)) : PairsAt w q n c d := by
  have hcell := fun g hg => h.cells (g := g) hg
  rcases h.2 with ⟨hv, h0⟩ | ⟨g, cap, cur, hv, hb, hg, hnc, hcm, _⟩
  · simp only [Value.slice.injEq] at hv
    obtain ⟨rfl, h1, rfl⟩ := hv
    exact ⟨hn, by omega, by decide, fun h => by omega⟩
  · simp only [Value.slice.injEq, true_and] at hv
    obtain ⟨rfl, rfl⟩ := hv
    refine ⟨hn, hnc, hcm, fun _ => ⟨g, rfl, lt_of_block hg, fun j u hu => ?_⟩⟩
    have := hcell g rfl j u hu
    rwa [Addr.add_mid, Nat.zero_add] at this

theorem Tryd.under_pairs : Tryd.prog.underlying 66 = some (.slice 68) := by kernel_rfl
theorem Tryd.info_pair : (Tryd.prog.info? 68).map (fun i => (i.zero, i.size, i.bytes)) = some (some (.agg #[.int .i64 0, .int .i64 0]), 2, 16) := by kernel_rfl

/-- 'append(p, q...)' of a row of one's own, and another one. -/
theorem pairs_append {w : World} {base B2 : Nat} {v : Value} {q : Option Addr} {c : Nat} {d e : List (Nat × Nat)} (h : w.ownsRow base 68 2 v d.length (pairsC d)) (h2 : w.ownsRow B2 68 2 (.slice q e.length c) e.length (pairsC e)) (hd : d.length + e.length ≤ 1000000) (hB : base ≤ w.heap.size) :
    ∃ q' c' w', (Builtin.append_ #[66, 66] 66 #[v, .slice q e.length c]).run Tryd.prog w = .ok (.slice q' (d.length + e.length) c') w' ∧ w'.ownsRow base 68 2 (.slice q' (d.length + e.length) c') (d.length + e.length) (pairsC (d ++ e)) ∧ w.grownBy w' v.ownBlock := by
  obtain ⟨i, hi, hz0, hz1, hz2⟩ := info_parts Tryd.info_pair
  have hcell := fun g hg => h2.cells (g := g) hg
  rcases h2.2 with ⟨hv, h0⟩ | ⟨g, cap, cur, hv, hb, hg, hnc, hcm, _⟩
  · simp only [Value.slice.injEq] at hv
    obtain ⟨rfl, -, rfl⟩ := hv
    obtain rfl := List.eq_nil_of_length_eq_zero h0
    obtain ⟨a, cc, rfl⟩ := ownsRow_slice h
    refine ⟨a, cc, w, ?_, by rw [List.append_nil]; exact h, ⟨rfl, rfl, rfl, Nat.le_refl _, fun _ _ _ => rfl⟩⟩
    have hf := run_firstCells_none (P := Tryd.prog) w i.size
    rcases h.2 with ⟨hv, hn⟩ | ⟨g, cap, cur, hv, hbg, hgg, hnc, _⟩
    · simp only [Value.slice.injEq] at hv
      obtain ⟨rfl, hn2, rfl⟩ := hv
      simp [Builtin.append_, run_underlying Tryd.under_pairs, sizeOf, typeInfo, hi, hz0, Builtin.lenOf, Builtin.firstCells, storeCells, loadCells, loadCellsFrom, hn2]
    · simp only [Value.slice.injEq, true_and] at hv
      obtain ⟨rfl, rfl⟩ := hv
      simp [Builtin.append_, run_underlying Tryd.under_pairs, sizeOf, typeInfo, hi, hz0, Builtin.lenOf, Builtin.firstCells, storeCells, loadCells, loadCellsFrom, hnc]
  · simp only [Value.slice.injEq, true_and] at hv
    obtain ⟨rfl, rfl⟩ := hv
    obtain ⟨v', w', r1, r2, r3, r4⟩ := run_append_own (P := Tryd.prog) w base 66 66 68 i (.agg #[.int .i64 0, .int .i64 0]) 2 16 Tryd.under_pairs hi hz0 hz1 hz2 rfl (by decide) v d.length _ h ⟨g, 0, none⟩ e.length c (pairsC e) (pairsC_len e) (hcell g rfl) (pairsC_one' e) (by unfold maxLen; omega) (by omega) hB
    obtain ⟨a, cc, rfl⟩ : ∃ a cc, v' = .slice a (d.length + e.length) cc := by
      rcases r2.2 with ⟨h5, h6⟩ | ⟨g', cap, cur, h5, _⟩
      · exact ⟨_, _, by rw [h6]; exact h5⟩
      · exact ⟨_, _, h5⟩
    exact ⟨a, cc, w', r1, by rw [pairsC_app]; exact r2, r3⟩

theorem ownsRow_low {w : World} {B B' : Nat} {e : TypeId} {z : Nat} {v : Value} {n : Nat} {xs : List Value} (h : w.ownsRow B e z v n xs) (hB : B' ≤ B) : w.ownsRow B' e z v n xs := by
  refine ⟨h.1, ?_⟩
  rcases h.2 with h2 | ⟨g, cap, cur, h1, h2, h3⟩
  · exact .inl h2
  · exact .inr ⟨g, cap, cur, h1, Nat.le_trans hB h2, h3⟩

set_option maxRecDepth 100000 in
set_option maxHeartbeats 4000000 in
theorem refTops_any (B : List Nat) (o : Option Addr) (m c : Nat) : ∀ (n f : Nat) (w : World), IntsAt w o m c (B.map Int.ofNat) → f + n ≤ 100000 →
    Calls Tryd.prog 50 #[.int .i64 (f : Int), .int .i64 (n : Int), .slice o m c] w fun e w' => ∃ q cc, e = .returned (.slice q (Many.tops B f n).length cc) ∧ w'.ownsRow w.heap.size 68 2 (.slice q (Many.tops B f n).length cc) (Many.tops B f n).length (pairsC (Many.tops B f n)) ∧ Below w.heap.size w w' := by
  intro n
  induction n using Nat.strongRecOn with
  | ind n ih =>
    intro f w hA hfn
    have hin := refIn_any w o m c (B.map Int.ofNat) (f : Int) ((f + n : Nat) : Int) hA
    rw [asksB_nat] at hin
    have hsum : ((f : Int) + (n : Int)) = ((f + n : Nat) : Int) := by omega
    have HSUM := Lib.hid hsum; clear hsum
    by_cases he : Many.inr B f (f + n) = []
    · rw [decide_eq_true he] at hin
      rw [Many.tops_none he]
      have HI := Lib.hid hin; clear hin hA he
      go_enter Tryd.func50, Tryd.ntmps50
      go_wp2_with fail
      rw [HSUM.out]
      refine HI.out.mono ?_
      rintro e w1 ⟨rfl, b1⟩
      go_wp2_with fail
      go_ret
      exact ⟨some ⟨w1.heap.size, 0, none⟩, 1, rfl, ⟨rfl, .inr ⟨w1.heap.size, 1, _, rfl, b1.size, heap_alloc_new w1 _, by decide, by decide, rfl, rfl⟩⟩, b1.alloc b1.size _⟩
    · rw [decide_eq_false he] at hin
      have HI := Lib.hid hin; clear hin
      by_cases h2 : 2 ≤ n
      · have k1 := Tree.half_pos h2
        have k2 := Tree.half_lt h2
        have hhc := fun (w : World) => refHalf_nat w n (by omega)
        have htw := Many.tops_two he h2
        have hil := ih (Tree.half n) k2
        have hir := ih (n - Tree.half n) (by omega)
        clear ih he
        obtain ⟨h, hh⟩ : ∃ h, h = Tree.half n := ⟨_, rfl⟩
        rw [← hh] at k1 k2 htw hil hir
        simp only [← hh] at hhc
        clear hh
        have hl1 := (Many.tops_len B h f).1
        have hl2 := (Many.tops_len B (n - h) (f + h)).1
        have hLc := fun (w1 : World) (b1 : Below w.heap.size w w1) => hil f w1 (hA.below (Nat.le_refl _) b1) (by omega)
        have hRc := fun (w1 : World) (b1 : Below w.heap.size w w1) => hir (f + h) w1 (hA.below (Nat.le_refl _) b1) (by omega)
        clear hil hir hA
        rw [htw]
        obtain ⟨dl, hdl⟩ : ∃ dl, dl = Many.tops B f h := ⟨_, rfl⟩
        obtain ⟨dr, hdr⟩ : ∃ dr, dr = Many.tops B (f + h) (n - h) := ⟨_, rfl⟩
        rw [← hdl] at hl1
        rw [← hdr] at hl2
        simp only [← hdl] at hLc
        simp only [← hdr] at hRc
        rw [← hdl, ← hdr]
        clear hdl hdr htw
        have HHC := Lib.hid hhc; clear hhc
        have HLC := Lib.hid hLc; clear hLc
        have HRC := Lib.hid hRc; clear hRc
        have t1 : ((n : Int) == 1) = false := by rw [beq_eq_false_iff_ne]; omega
        have t1' : (n == 1) = false := by rw [beq_eq_false_iff_ne]; omega
        have e1 : ((f : Int) + (h : Int)) = ((f + h : Nat) : Int) := by omega
        have e2 : ((n : Int) - (h : Int)) = ((n - h : Nat) : Int) := by omega
        have E1 := Lib.hid e1; clear e1
        have E2 := Lib.hid e2; clear e2
        have hhn : (h : Int) ≤ (n : Int) := by omega
        go_enter Tryd.func50, Tryd.ntmps50
        go_wp2_with fail
        rw [HSUM.out]
        refine HI.out.mono ?_
        rintro e w1 ⟨rfl, b1⟩
        clear HI
        go_wp2_with fail
        refine (HHC.out _).mono ?_
        rintro e w' ⟨rfl, rfl⟩
        have hc := HLC.out w1 b1
        have HC := Lib.hid hc; clear hc HLC HHC
        go_wp2_with fail
        refine HC.out.mono ?_
        rintro e w2 ⟨q2, c2, rfl, o2, b2⟩
        clear HC
        have B2 := b1.trans (b2.mono b1.size)
        have hc := HRC.out w2 B2
        have HC := Lib.hid hc; clear hc HRC
        have O2 := Lib.hid o2; clear o2
        go_wp2_with fail
        rw [E1.out, E2.out]
        refine HC.out.mono ?_
        rintro e w3 ⟨q3, c3, rfl, o3, b3⟩
        clear HC
        have o23 := ownsRow_below O2.out fun k hk => b3.block k (O2.out.lt k hk).2
        have B3 := B2.trans (b3.mono B2.size)
        obtain ⟨q4, c4, w4, hrun, o4, g4⟩ := pairs_append (ownsRow_low o23 b1.size) o3 (by omega) B3.size
        have B4 := B3.trans (grown_below g4 (fun k hk => Nat.le_trans b1.size (o23.lt k hk).1) B3.size)
        have O4 := Lib.hid o4; clear o4 o23 o3 g4
        go_wp2_with ((with_reducible show wpList _ _ _ (⟨some 35, _, _, _, _, _⟩ :: _) _ _); refine wpList_append_ran (by kernel_rfl) _ _ _ rfl _ _ rfl rfl hrun ?_)
        go_ret
        exact ⟨q4, c4, by rw [List.length_append]; rfl, by rw [List.length_append]; exact O4.out, B4⟩
      · obtain rfl : n = 1 := by
          rcases n with _ | _ | n
          · exact absurd (Many.inr_empty B (by omega)) he
          · rfl
          · omega
        rw [Many.tops_one he h2]
        clear he hA ih
        have hs1 : ((f : Int) + 1) = ((f + 1 : Nat) : Int) := by omega
        have HS1 := Lib.hid hs1; clear hs1
        go_enter Tryd.func50, Tryd.ntmps50
        go_wp2_with fail
        rw [HS1.out]
        refine HI.out.mono ?_
        rintro e w1 ⟨rfl, b1⟩
        go_wp2_with fail
        go_ret
        exact ⟨none, 0, rfl, World.ownsRow_nil _ _ _ _, b1⟩

end Go.Proofs.YtgheacegjgaobaaDoor

/- The walks of sort.Search and sort.SearchInts. -/
namespace Go.Proofs.YtgheacegjgaobaaDoor
open Go.RowKit
set_option linter.unusedSimpArgs false
set_option linter.unusedVariables false

set_option maxRecDepth 100000 in
set_option maxHeartbeats 2000000 in
theorem search_any (w0 w : World) (b1 b2 : Nat) (x : Int) (o : Option Addr) (m c : Nat) (A : List Int) (p : Nat) (hp : CutAt A x p) (hmb : m ≤ 1000000) (hA : IntsAt w0 o m c A) (hb : Below w0.heap.size w0 w) (h1 : w.heap[b1]? = some (.cells #[.slice o m c] 32 (0, 0))) (h2 : w.heap[b2]? = some (.cells #[.int .i64 x] 3 (0, 0))) :
    Calls Tryd.prog 70 #[.int .i64 (m : Int), .func (.func 71) #[] #[.pointer (some ⟨b1, 0, none⟩), .pointer (some ⟨b2, 0, none⟩)]] w fun e w' => e = .returned (.int .i64 (p : Int)) ∧ Below w.heap.size w w' := by
  have hm := hA.len
  have hc := hA.cap
  have hx := hA.max
  have hp1 : p ≤ m := by rw [← hm]; exact hp.1
  have HM := Lib.hid hm; clear hm
  have HP := Lib.hid hp; clear hp
  have HA := Lib.hid hA; clear hA
  have HB := Lib.hid hb; clear hb
  have H1 := Lib.hid h1; clear h1
  have H2 := Lib.hid h2; clear h2
  go_enter Tryd.func70, Tryd.ntmps70
  go_wp2_with fail
  go_loopw [5, 6] (fun u v wr => ∃ lo hi : Nat, lo ≤ p ∧ p ≤ hi ∧ hi ≤ m ∧ u = .int .i64 (lo : Int) ∧ v = .int .i64 (hi : Int) ∧ Below w.heap.size w wr) (fun u v _ => (intOf v).toNat - (intOf u).toNat)
  case atStart => exact ⟨0, m, by omega, by omega, by omega, rfl, rfl, Below.refl _ _⟩
  case round =>
    obtain ⟨lo, hi, q1, q2, q3, rfl, rfl, Br⟩ := hrel
    by_cases hlt : lo < hi
    · have t1 : decide ((lo : Int) < (hi : Int)) = true := decide_eq_true (by omega)
      have t1' : decide (lo < hi) = true := decide_eq_true hlt
      obtain ⟨h, hh⟩ : ∃ h, h = (lo + hi) / 2 := ⟨_, rfl⟩
      have hlo : lo ≤ h := by omega
      have hhi : h < hi := by omega
      have e1 : ((lo : Int) + (hi : Int)) / 2 = (h : Int) := by omega
      have E1 := Lib.hid e1; clear e1
      clear hh
      obtain ⟨a, ha⟩ : ∃ a, A[h]? = some a := ⟨_, List.getElem?_eq_getElem (by rw [HM.out]; omega)⟩
      have hside := HP.out.2 h a ha
      have hcall := searchLess_any wr w0 b1 b2 h x a o m c A HA.out (HB.out.trans (Br.mono HB.out.size)) ((Br.block _ (lt_of_block H1.out)).trans H1.out) ((Br.block _ (lt_of_block H2.out)).trans H2.out) ha
      have HC := Lib.hid hcall; clear hcall ha
      have hcf := Tryd.callLess
      by_cases hxa : x ≤ a
      · have u1 : decide (x ≤ a) = true := decide_eq_true hxa
        have hph : p ≤ h := by omega
        go_wp2_with fail
        rw [E1.out]
        refine HC.out.mono ?_
        rintro e w1 ⟨rfl, b1'⟩
        try rw [E1.out]
        go_wp2_with fail
        go_roundw
        case rel => exact ⟨lo, h, by omega, by omega, by omega, rfl, rfl, Br.trans (b1'.mono Br.size)⟩
        case measure => simp [intOf]; omega
      · have u1 : decide (x ≤ a) = false := decide_eq_false hxa
        have hph : h < p := by omega
        go_wp2_with fail
        rw [E1.out]
        refine HC.out.mono ?_
        rintro e w1 ⟨rfl, b1'⟩
        try rw [E1.out]
        go_wp2_with fail
        go_roundw
        case rel => exact ⟨h + 1, hi, by omega, by omega, by omega, by go_num, rfl, Br.trans (b1'.mono Br.size)⟩
        case measure => simp [intOf]; omega
    · obtain rfl : lo = p := by omega
      have t1 : decide ((lo : Int) < (hi : Int)) = false := decide_eq_false (by omega)
      have t1' : decide (lo < hi) = false := decide_eq_false hlt
      go_wp2_with fail
      go_ret
      exact ⟨rfl, Br⟩

set_option maxRecDepth 100000 in
set_option maxHeartbeats 1000000 in
theorem searchInts_any (w : World) (x : Int) (o : Option Addr) (m c : Nat) (A : List Int) (p : Nat) (hp : CutAt A x p) (hmb : m ≤ 1000000) (hA : IntsAt w o m c A) :
    Calls Tryd.prog 58 #[.slice o m c, .int .i64 x] w fun e w' => e = .returned (.int .i64 (p : Int)) ∧ Below w.heap.size w w' := by
  obtain ⟨W, hW⟩ : ∃ W, W = (w.alloc (.cells #[.slice o m c] 32)).alloc (.cells #[.int .i64 x] 3) := ⟨_, rfl⟩
  have b0 : Below w.heap.size w W := by rw [hW]; exact ((Below.refl _ _).alloc (Nat.le_refl _) _).alloc (by simp) _
  have x1 : W.heap[w.heap.size]? = some (.cells #[.slice o m c] 32 (0, 0)) := by rw [hW, Below.heap_alloc _ _ _ (by simp)]; exact heap_alloc_new w _
  have x2 : W.heap[w.heap.size + 1]? = some (.cells #[.int .i64 x] 3 (0, 0)) := by
    rw [hW]; have := heap_alloc_new (w.alloc (.cells #[.slice o m c] 32)) (.cells #[.int .i64 x] 3); simpa using this
  have hc := search_any w W w.heap.size (w.heap.size + 1) x o m c A p hp hmb hA b0 x1 x2
  have hcap := hA.cap
  have hmax := hA.max
  have HC := Lib.hid hc; clear hc x2 hA hp
  have hc1 := cell_of_one x1
  clear x1
  have HC1 := Lib.hid hc1; clear hc1
  have HW := Lib.hid hW; clear hW
  have hcw : (w.alloc (.cells #[.slice o m c] 32)).alloc (.cells #[.int .i64 x] 3) = W := HW.out.symm
  have hcell : ((w.alloc (.cells #[.slice o m c] 32)).alloc (.cells #[.int .i64 x] 3)).cell? ⟨w.heap.size, 0, none⟩ = some (.slice o m c) := by rw [hcw]; exact HC1.out
  clear hcw
  go_enter Tryd.func58, Tryd.ntmps58
  go_wp2_with fail
  rw [← HW.out]
  refine HC.out.mono ?_
  rintro e w1 ⟨rfl, b1⟩
  go_wp2_with fail
  go_ret
  exact ⟨rfl, b0.trans (b1.mono b0.size)⟩

end Go.Proofs.YtgheacegjgaobaaDoor

/- The walk of many.parts, over any two functions that it is given. -/
namespace Go.Proofs.YtgheacegjgaobaaDoor
open Go.RowKit
set_option linter.unusedSimpArgs false
set_option linter.unusedVariables false

/-- What a step of the two functions may change: what is theirs. -/
structure Stp (Foot : World → Nat → Prop) (w w' : World) : Prop where
  os : w'.os = w.os
  tape : w'.tape = w.tape
  output : w'.output = w.output
  size : w.heap.size ≤ w'.heap.size
  block : ∀ k, k < w.heap.size → ¬ Foot w k → w'.heap[k]? = w.heap[k]?
  foot : ∀ k, Foot w' k → Foot w k ∨ w.heap.size ≤ k

theorem Stp.refl (Foot : World → Nat → Prop) (w : World) : Stp Foot w w := ⟨rfl, rfl, rfl, Nat.le_refl _, fun _ _ _ => rfl, fun _ h => .inl h⟩

theorem Stp.trans {Foot : World → Nat → Prop} {x y z : World} (h : Stp Foot x y) (k : Stp Foot y z) : Stp Foot x z := by
  refine ⟨k.os.trans h.os, k.tape.trans h.tape, k.output.trans h.output, Nat.le_trans h.size k.size, fun b hb hf => ?_, fun b hb => ?_⟩
  · rw [k.block b (Nat.lt_of_lt_of_le hb h.size) (fun hy => by rcases h.foot b hy with h1 | h1; exact hf h1; omega)]
    exact h.block b hb hf
  · rcases k.foot b hb with h1 | h1
    · exact h.foot b h1
    · exact .inr (Nat.le_trans h.size h1)

/-- A block that is not theirs. -/
def Apart (Foot : World → Nat → Prop) (w : World) (a : Nat) : Prop := a < w.heap.size ∧ ¬ Foot w a

theorem Apart.stp {Foot : World → Nat → Prop} {w w' : World} {a : Nat} (h : Apart Foot w a) (s : Stp Foot w w') : Apart Foot w' a ∧ w'.heap[a]? = w.heap[a]? :=
  ⟨⟨Nat.lt_of_lt_of_le h.1 s.size, fun hf => by rcases s.foot a hf with h1 | h1; exact h.2 h1; have := h.1; omega⟩, s.block a h.1 h.2⟩

/-- Two functions that many.parts is given: the one for parts in which nothing is asked for, the one for leaves. -/
structure Clo (fn fo : FuncId) (cn co : Array Value) (w00 : World) (N T M : Nat) (K : List (Nat × Nat) → Nat → World → Prop) (Foot : World → Nat → Prop) (NH : Nat → Nat → Nat → List UInt8) (OH : Nat → Nat → List UInt8) : Prop where
  keep : ∀ D j w w', K D j w → w.heap.size ≤ w'.heap.size → (∀ k, Foot w k → w'.heap[k]? = w.heap[k]?) → K D j w' ∧ ∀ k, Foot w' k → Foot w k
  bound : ∀ D j w k, K D j w → Foot w k → w00.heap.size ≤ k ∧ k < w.heap.size
  cfn : ∀ (args : Array Value) (w : World), Sem.run Tryd.prog (callFunc fn args) w = .ok (.enter fn args) w
  cfo : ∀ (args : Array Value) (w : World), Sem.run Tryd.prog (callFunc fo args) w = .ok (.enter fo args) w
  none : ∀ (D : List (Nat × Nat)) (j f n : Nat) (w : World), K D j w → Below w00.heap.size w00 w → D.length < T → f + n ≤ N → (1 ≤ n ∨ N = 0) → Calls Tryd.prog fn (#[.int .i64 (f : Int), .int .i64 (n : Int)] ++ cn) w fun x w' => x = .returned (.agg (byteCells (NH D.length f n)).toArray) ∧ K (D ++ [(f, n)]) j w' ∧ Stp Foot w w'
  one : ∀ (D : List (Nat × Nat)) (j f : Nat) (w : World), K D j w → Below w00.heap.size w00 w → j < M → f < N → Calls Tryd.prog fo (#[.int .i64 (f : Int)] ++ co) w fun x w' => x = .returned (.agg (byteCells (OH j f)).toArray) ∧ K D (j + 1) w' ∧ Stp Foot w w'
  lenN : ∀ i f n, (NH i f n).length = 32
  lenO : ∀ j f, (OH j f).length = 32

section
variable {fn fo : FuncId} {cn co : Array Value} {w00 : World} {N T M : Nat} {K : List (Nat × Nat) → Nat → World → Prop} {Foot : World → Nat → Prop} {NH : Nat → Nat → Nat → List UInt8} {OH : Nat → Nat → List UInt8}

theorem Clo.stp (C : Clo fn fo cn co w00 N T M K Foot NH OH) {D : List (Nat × Nat)} {j : Nat} {w w' : World} (hK : K D j w) (hb : Below w.heap.size w w') : K D j w' ∧ Stp Foot w w' := by
  obtain ⟨h1, h2⟩ := C.keep D j w w' hK hb.size (fun k hk => hb.block k (C.bound D j w k hK hk).2)
  exact ⟨h1, hb.os, hb.tape, hb.output, hb.size, fun k hk _ => hb.block k hk, fun k hk => .inl (h2 k hk)⟩

theorem Clo.low (C : Clo fn fo cn co w00 N T M K Foot NH OH) {D : List (Nat × Nat)} {j : Nat} {w w' : World} (hK : K D j w) (hb : Below w00.heap.size w00 w) (hs : Stp Foot w w') : Below w00.heap.size w00 w' :=
  ⟨hs.os.trans hb.os, hs.tape.trans hb.tape, hs.output.trans hb.output, Nat.le_trans hb.size hs.size, fun k hk => by
    rw [hs.block k (Nat.lt_of_lt_of_le hk hb.size) (fun hf => by have := (C.bound D j w k hK hf).1; omega)]; exact hb.block k hk⟩

theorem Clo.fresh (C : Clo fn fo cn co w00 N T M K Foot NH OH) {D : List (Nat × Nat)} {j : Nat} {w : World} (hK : K D j w) (o : Obj) : Apart Foot (w.alloc o) w.heap.size := by
  refine ⟨by simp, fun hf => ?_⟩
  have h := (C.keep D j w (w.alloc o) hK (by simp) (fun k hk => Below.heap_alloc _ _ _ (C.bound D j w k hK hk).2)).2 _ hf
  exact Nat.lt_irrefl _ (C.bound D j w _ hK h).2

theorem Clo.put (C : Clo fn fo cn co w00 N T M K Foot NH OH) {D : List (Nat × Nat)} {j a : Nat} {w0 w : World} (hK : K D j w) (ha : Apart Foot w a) (h0 : w0.heap.size ≤ a) (hs : Stp Foot w0 w) (S : List UInt8) : K D j (hset w a S) ∧ Stp Foot w0 (hset w a S) := by
  obtain ⟨h1, h2⟩ := C.keep D j w (hset w a S) hK (by rw [hset_size]; exact Nat.le_refl _) (fun k hk => hset_other S (fun e => ha.2 (e ▸ hk)))
  refine ⟨h1, hs.os, hs.tape, hs.output, by rw [hset_size]; exact hs.size, fun k hk hf => ?_, fun k hk => hs.foot k (h2 k hk)⟩
  rw [hset_other S (by omega)]; exact hs.block k hk hf

theorem Clo.put' (C : Clo fn fo cn co w00 N T M K Foot NH OH) {D : List (Nat × Nat)} {j a : Nat} {w : World} (hK : K D j w) (ha : Apart Foot w a) (S : List UInt8) : K D j (hset w a S) ∧ ∀ k, Foot (hset w a S) k → Foot w k :=
  C.keep D j w (hset w a S) hK (by rw [hset_size]; exact Nat.le_refl _) (fun k hk => hset_other S (fun e => ha.2 (e ▸ hk)))

/-- What holds while the last region goes on: ahead of the right side's call, and behind it. -/
def partsI (K : List (Nat × Nat) → Nat → World → Prop) (Foot : World → Nat → Prop) (w00 w0 : World) (D1 D2 : List (Nat × Nat)) (j1 j2 a10 a13 : Nat) (SL : List UInt8) (b : Bool) (w : World) : Prop :=
  (b = false → K D1 j1 w) ∧ (b = true → K D2 j2 w) ∧ Stp Foot w0 w ∧ Below w00.heap.size w00 w ∧ Apart Foot w a10 ∧ Apart Foot w a13 ∧
  w.heap[a13]? = some (.cells (byteCells SL).toArray 23 (0, 0)) ∧ ∃ cs, w.heap[a10]? = some (.cells cs 23 (0, 0)) ∧ cs.size = 32

/-- What each operation changes. -/
def partsR (K : List (Nat × Nat) → Nat → World → Prop) (Foot : World → Nat → Prop) (D2 : List (Nat × Nat)) (j2 a : Nat) (i : Nat) (w w' : World) : Prop :=
  match i with
  | 12 => Stp Foot w w' ∧ K D2 j2 w'
  | 14 => ∃ S : List UInt8, S.length = 32 ∧ w' = hset w a S
  | _ => Below w.heap.size w w'

theorem partsR_else {K : List (Nat × Nat) → Nat → World → Prop} {Foot : World → Nat → Prop} {D2 : List (Nat × Nat)} {j2 a i : Nat} {w w' : World} (h : partsR K Foot D2 j2 a i w w') (e1 : i ≠ 12) (e2 : i ≠ 14) : Below w.heap.size w w' := by
  unfold partsR at h
  split at h
  · exact absurd rfl e1
  · exact absurd rfl e2
  · exact h

theorem partsI_step (C : Clo fn fo cn co w00 N T M K Foot NH OH) {w0 : World} {D1 D2 : List (Nat × Nat)} {j1 j2 a10 a13 : Nat} {SL : List UInt8} (h0 : w0.heap.size ≤ a10) (hlow : w00.heap.size ≤ a10) (hne : a13 ≠ a10) (i : Nat) (b : Bool) (wa wb : World) (hI : partsI K Foot w00 w0 D1 D2 j1 j2 a10 a13 SL b wa) (hb : i = 12 → b = false) (hr : partsR K Foot D2 j2 a10 i wa wb) :
    partsI K Foot w00 w0 D1 D2 j1 j2 a10 a13 SL (decide (12 = i) || b) wb := by
  obtain ⟨g1, g2, g3, g4, g5, g6, g7, cs, g8, g9⟩ := hI
  have hstp : Stp Foot wa wb → Apart Foot wb a10 ∧ Apart Foot wb a13 ∧ wb.heap[a13]? = some (.cells (byteCells SL).toArray 23 (0, 0)) ∧ ∃ cs, wb.heap[a10]? = some (.cells cs 23 (0, 0)) ∧ cs.size = 32 := fun hs => by
    obtain ⟨u1, u2⟩ := g5.stp hs
    obtain ⟨u3, u4⟩ := g6.stp hs
    exact ⟨u1, u3, u4.trans g7, cs, u2.trans g8, g9⟩
  by_cases e1 : i = 12
  · subst e1
    obtain rfl := hb rfl
    obtain ⟨r1, r2⟩ : Stp Foot wa wb ∧ K D2 j2 wb := hr
    exact ⟨(fun h => by cases h), fun _ => r2, g3.trans r1, C.low (g1 rfl) g4 r1, hstp r1⟩
  · rw [decide_eq_false (fun e => e1 e.symm), Bool.false_or]
    by_cases e2 : i = 14
    · subst e2
      obtain ⟨S, hS, rfl⟩ : ∃ S : List UInt8, S.length = 32 ∧ wb = hset wa a10 S := hr
      have hbw : Below w00.heap.size w00 (hset wa a10 S) := hset_below S g4 hlow
      have hx := hset_heap S g8
      have hy : (hset wa a10 S).heap[a13]? = some (.cells (byteCells SL).toArray 23 (0, 0)) := by rw [hset_other S hne]; exact g7
      have hz := hash_cells_size S hS
      rcases b with _ | _
      · obtain ⟨q1, q2⟩ := C.put (g1 rfl) g5 h0 g3 S
        have q3 := (C.put' (g1 rfl) g5 S).2
        exact ⟨fun _ => q1, (fun h => by cases h), q2, hbw, ⟨by rw [hset_size]; exact g5.1, fun h => g5.2 (q3 _ h)⟩, ⟨by rw [hset_size]; exact g6.1, fun h => g6.2 (q3 _ h)⟩, hy, _, hx, hz⟩
      · obtain ⟨q1, q2⟩ := C.put (g2 rfl) g5 h0 g3 S
        have q3 := (C.put' (g2 rfl) g5 S).2
        exact ⟨(fun h => by cases h), fun _ => q1, q2, hbw, ⟨by rw [hset_size]; exact g5.1, fun h => g5.2 (q3 _ h)⟩, ⟨by rw [hset_size]; exact g6.1, fun h => g6.2 (q3 _ h)⟩, hy, _, hx, hz⟩
    · have hbl := partsR_else hr e1 e2
      rcases b with _ | _
      · obtain ⟨q1, q2⟩ := C.stp (g1 rfl) hbl
        exact ⟨fun _ => q1, (fun h => by cases h), g3.trans q2, C.low (g1 rfl) g4 q2, hstp q2⟩
      · obtain ⟨q1, q2⟩ := C.stp (g2 rfl) hbl
        exact ⟨(fun h => by cases h), fun _ => q1, g3.trans q2, C.low (g2 rfl) g4 q2, hstp q2⟩

theorem inr_one {A : List Nat} (hA : A.Pairwise (· < ·)) {f : Nat} (h : Many.inr A f (f + 1) ≠ []) : Many.inr A f (f + 1) = [f] := by
  obtain ⟨h1, h2⟩ := Many.leaf_at hA h
  have hp : (Many.inr A f (f + 1)).Pairwise (· < ·) := hA.filter _
  match hx : Many.inr A f (f + 1), h with
  | [], h => exact absurd rfl h
  | [a], _ =>
    have := Many.mem_inr.1 (show a ∈ Many.inr A f (f + 1) by rw [hx]; simp)
    rw [show a = f by omega]
  | a :: b :: R, _ =>
    rw [hx] at hp
    have hab := (List.pairwise_cons.1 hp).1 b (by simp)
    have m1 := Many.mem_inr.1 (show a ∈ Many.inr A f (f + 1) by rw [hx]; simp)
    have m2 := Many.mem_inr.1 (show b ∈ Many.inr A f (f + 1) by rw [hx]; simp)
    omega

/-- What the region's operations leave. -/
def partsV (w00 : World) (fn fo : FuncId) (cn co : Array Value) (f n h p m c B13 a10 ba oa : Nat) (SL SR : List UInt8) (RA : List Int) (ix : Nat) (w : World) (v : Value) : Prop :=
  match ix with
  | 0 => v = .agg (byteCells SL).toArray
  | 1 => v = .int .i64 (f : Int)
  | 2 => v = .int .i64 (h : Int)
  | 3 => v = .int .i64 (((f + h : Nat) : Int))
  | 4 => v = .int .i64 (n : Int)
  | 5 => v = .int .i64 (h : Int)
  | 6 => v = .int .i64 (((n - h : Nat) : Int))
  | 7 => v = .slice (some ⟨ba, oa, none⟩) m c
  | 8 => v = .int .i64 (p : Int)
  | 9 => ∃ q : Option Addr, v = .slice q (m - p) (c - p) ∧ IntsAt w00 q (m - p) (c - p) RA
  | 10 => v = .func (.func fn) #[] cn
  | 11 => v = .func (.func fo) #[] co
  | 12 => v = .agg (byteCells SR).toArray
  | 13 => v = .agg (byteCells (Tree.node SL SR)).toArray
  | 14 => w.heap[a10]? = some (.cells (byteCells (Tree.node SL SR)).toArray 23 (0, 0))
  | _ => True



theorem partsV_keep {w00 : World} {fn fo : FuncId} {cn co : Array Value} {f n h p m c B13 a10 ba oa : Nat} {SL SR : List UInt8} {RA : List Int} (j : Nat) (w w' : World) (v : Value) (hk : w'.heap[a10]? = w.heap[a10]?) (hv : partsV w00 fn fo cn co f n h p m c B13 a10 ba oa SL SR RA j w v) : partsV w00 fn fo cn co f n h p m c B13 a10 ba oa SL SR RA j w' v := by
  match j, hv with
  | 0, h => exact h
  | 1, h => exact h
  | 2, h => exact h
  | 3, h => exact h
  | 4, h => exact h
  | 5, h => exact h
  | 6, h => exact h
  | 7, h => exact h
  | 8, h => exact h
  | 9, h => exact h
  | 10, h => exact h
  | 11, h => exact h
  | 12, h => exact h
  | 13, h => exact h
  | 14, h => exact hk.trans h
  | _ + 15, h => exact trivial


theorem partsV_store {w00 : World} {fn fo : FuncId} {cn co : Array Value} {f n h p m c B13 a10 ba oa : Nat} {SL SR : List UInt8} {RA : List Int} (j : Nat) (w w' : World) (v : Value) (hj : j ≠ 14) (hv : partsV w00 fn fo cn co f n h p m c B13 a10 ba oa SL SR RA j w v) : partsV w00 fn fo cn co f n h p m c B13 a10 ba oa SL SR RA j w' v := by
  match j, hv, hj with
  | 0, h, _ => exact h
  | 1, h, _ => exact h
  | 2, h, _ => exact h
  | 3, h, _ => exact h
  | 4, h, _ => exact h
  | 5, h, _ => exact h
  | 6, h, _ => exact h
  | 7, h, _ => exact h
  | 8, h, _ => exact h
  | 9, h, _ => exact h
  | 10, h, _ => exact h
  | 11, h, _ => exact h
  | 12, h, _ => exact h
  | 13, h, _ => exact h
  | 14, h, hj => exact absurd rfl hj
  | _ + 15, h, _ => exact trivial


set_option maxRecDepth 100000 in
set_option maxHeartbeats 8000000 in
theorem parts_any (C : Clo fn fo cn co w00 N T M K Foot NH OH) (hL : Laid w00) (A : List Nat) (hA : A.Pairwise (· < ·)) (hN : N ≤ 1000000) (hM : M ≤ 1000000) :
    ∀ (n f : Nat) (D : List (Nat × Nat)) (j : Nat) (o : Option Addr) (m c : Nat) (w : World), K D j w → Below w00.heap.size w00 w → IntsAt w00 o m c ((Many.inr A f (f + n)).map Int.ofNat) → f + n ≤ N → D.length + (Many.tops A f n).length ≤ T → j + (Many.inr A f (f + n)).length ≤ M → (1 ≤ n ∨ N = 0) →
    Calls Tryd.prog 34 #[.int .i64 (f : Int), .int .i64 (n : Int), .slice o m c, .func (.func fn) #[] cn, .func (.func fo) #[] co] w fun x w' => x = .returned (.agg (byteCells (Many.val A NH OH D.length j f n)).toArray) ∧ K (D ++ Many.tops A f n) (j + (Many.inr A f (f + n)).length) w' ∧ Stp Foot w w' := by
  intro n
  induction n using Nat.strongRecOn with
  | ind n ih =>
    intro f D j o m c w hK hB hI hfn hT hJ hn1
    have hm := hI.len
    rw [List.length_map] at hm
    have hcap := hI.cap
    have hmax := hI.max
    have hcfn := C.cfn
    have hcfo := C.cfo
    have HCN := Lib.hid hcfn; clear hcfn
    have HCO := Lib.hid hcfo; clear hcfo
    have hb1 : Below w.heap.size w (w.alloc (.cells zero32 23)) := (Below.refl _ _).alloc (Nat.le_refl _) _
    obtain ⟨hk1, hs1⟩ := C.stp hK hb1
    have hB1 := C.low hK hB hs1
    have ha1 := C.fresh hK (.cells zero32 23)
    have hx1 := heap_alloc_new w (.cells zero32 23)
    have hwb := hB.size
    by_cases he : Many.inr A f (f + n) = []
    · rw [he] at hm hJ ⊢
      obtain rfl : m = 0 := by simpa using hm.symm
      rw [Many.tops_none he] at hT
      rw [Many.val_none he, Many.tops_none he]
      have hc := C.none D j f n _ hk1 hB1 (by simp at hT; omega) hfn hn1
      have HC := Lib.hid hc; clear hc
      have HA1 := Lib.hid ha1; clear ha1
      have HX1 := Lib.hid hx1; clear hx1
      have HS1 := Lib.hid hs1; clear hs1 hk1 hB1 hb1
      clear hm hI hK hB
      have hcf := HCN.out
      go_enter Tryd.func34, Tryd.ntmps34
      go_wp2_with fail
      refine HC.out.mono ?_
      rintro e w2 ⟨rfl, hk2, hs2⟩
      obtain ⟨ha2, hx2⟩ := HA1.out.stp hs2
      have x10 := hx2.trans HX1.out
      have hln := C.lenN D.length f n
      have HK2 := Lib.hid hk2; clear hk2
      have HS2 := Lib.hid hs2; clear hs2
      have HX10 := Lib.hid x10; clear x10 hx2
      have HLN := Lib.hid hln; clear hln
      have HA2 := Lib.hid ha2; clear ha2
      clear hcf
      go_wp2_with ((with_reducible show wpList _ _ _ (⟨none, .store 23 (.tmp 10) (.tmp 21), _, _, _, _⟩ :: _) _ _); refine wpList_put_hash (o := ⟨none, .store _ _ _, _, _, _, _⟩) rfl _ _ rfl w.heap.size rfl (NH D.length f n) HLN.out rfl _ _ HX10.out zero32_size ?_)
      obtain ⟨q1, q2⟩ := C.put HK2.out HA2.out (Nat.le_refl _) (HS1.out.trans HS2.out) (NH D.length f n)
      refine bodyPost_ret (results_hash rfl _ _ _ _ _ _ rfl HLN.out (hset_heap _ HX10.out)) rfl ⟨rfl, ?_, q2⟩
      exact q1
    · have hmp : 0 < m := by rw [← hm]; exact List.length_pos_iff.2 he
      obtain ⟨ba, oa, rfl⟩ := hI.form hmp
      have t0 : ((m : Int) == 0) = false := by rw [beq_eq_false_iff_ne]; omega
      have t0' : (m == 0) = false := by rw [beq_eq_false_iff_ne]; omega
      by_cases h2 : 2 ≤ n
      · have k1 := Tree.half_pos h2
        have k2 := Tree.half_lt h2
        have t1 : ((n : Int) == 1) = false := by rw [beq_eq_false_iff_ne]; omega
        have t1' : (n == 1) = false := by rw [beq_eq_false_iff_ne]; omega
        have hhc := fun (w : World) => treeHalf_nat w n (by omega)
        have HVAL : Hid (Many.val A NH OH D.length j f n = _) := Lib.hid (Many.val_two he h2)
        have htw := Many.tops_two he h2
        obtain ⟨cu1, cu2, cu3, cu4⟩ := Many.cut_at hA (f := f) (m := f + Tree.half n) (t := f + n) (by omega) (by omega)
        have hsd := fun (i a : Nat) (hh : (Many.inr A f (f + n))[i]? = some a) => Many.cut_side hA (f := f) (m := f + Tree.half n) (t := f + n) (by omega) (by omega) hh
        have hil := ih (Tree.half n) k2
        have hir := ih (n - Tree.half n) (by omega)
        clear ih
        obtain ⟨h, hh⟩ : ∃ h, h = Tree.half n := ⟨_, rfl⟩
        rw [← hh] at k1 k2 HVAL htw cu1 cu2 cu3 cu4 hil hir
        simp only [← hh] at hhc hsd
        clear hh
        have htl := Many.tops_in A h f k1
        clear htl
        obtain ⟨p, hp⟩ : ∃ p, p = (Many.inr A f (f + h)).length := ⟨_, rfl⟩
        rw [← hp] at cu1 cu2 cu3 cu4
        simp only [← hp] at hsd
        have hpm : p ≤ m := by rw [← hm]; exact cu3
        have hcut : CutAt ((Many.inr A f (f + n)).map Int.ofNat) ((f + h : Nat) : Int) p := by
          refine ⟨by rw [List.length_map]; exact cu3, fun i a ha => ?_⟩
          rw [List.getElem?_map] at ha
          obtain ⟨b, hb, rfl⟩ := Option.map_eq_some_iff.1 ha
          have := hsd i b hb
          simp only [Int.ofNat_eq_natCast]
          omega
        have hIL : IntsAt w00 (some ⟨ba, oa, none⟩) p c ((Many.inr A f (f + h)).map Int.ofNat) := by
          have := hI.take p c hpm (by omega) (by omega)
          rwa [← List.map_take, cu1] at this
        obtain ⟨RA, hRA⟩ : ∃ RA, RA = (Many.inr A (f + h) (f + n)).map Int.ofNat := ⟨_, rfl⟩
        have hRAl : RA.length = m - p := by rw [hRA, List.length_map, ← cu4, hm]
        have hIR : IntsAt w00 (some ⟨ba, oa + p, none⟩) (m - p) (c - p) RA := by
          have := hI.drop p hpm
          rwa [← List.map_drop, cu2, ← hRA] at this
        have hIE : ∀ (q : Option Addr) (c' : Nat), m - p = 0 → c' ≤ 9223372036854775807 → IntsAt w00 q (m - p) c' RA := fun q c' h0 hc' => by
          obtain rfl : RA = [] := List.eq_nil_of_length_eq_zero (by omega)
          rw [h0]; exact IntsAt.empty q c' hc'
        have hsc := searchInts_any (w.alloc (.cells zero32 23)) ((f + h : Nat) : Int) _ m c _ p hcut (by omega) (hI.below (Nat.le_refl _) hB1)
        have hjl : j + p + (Many.inr A (f + h) (f + n)).length ≤ M := by rw [← cu4, hm]; omega
        rw [htw, List.length_append] at hT
        have HSC := Lib.hid hsc; clear hsc
        have HHC := Lib.hid hhc; clear hhc
        have HIR := Lib.hid hIR; clear hIR
        have HIE := Lib.hid hIE; clear hIE
        have HL := Lib.hid hL
        have hsum : ((f : Int) + (h : Int)) = ((f + h : Nat) : Int) := by omega
        have hL1 := hil f D j (some ⟨ba, oa, none⟩) p c
        rw [← hp] at hL1
        have hR1 := hir (f + h) (D ++ Many.tops A f h) (j + p)
        rw [show f + h + (n - h) = f + n by omega, ← hRA] at hR1
        clear hil hir
        have HSUM := Lib.hid hsum; clear hsum
        obtain ⟨SL, hSL⟩ : ∃ SL, SL = Many.val A NH OH D.length j f h := ⟨_, rfl⟩
        obtain ⟨SR, hSR⟩ : ∃ SR, SR = Many.val A NH OH (D ++ Many.tops A f h).length (j + p) (f + h) (n - h) := ⟨_, rfl⟩
        have hSLl : SL.length = 32 := by rw [hSL]; exact Many.val_len C.lenN C.lenO _ _ _ _
        have hSRl : SR.length = 32 := by rw [hSR]; exact Many.val_len C.lenN C.lenO _ _ _ _
        have hval2 := HVAL.out
        rw [← hp, ← hSL, ← List.length_append, ← hSR] at hval2
        clear HVAL
        have HVAL := Lib.hid hval2; clear hval2
        rw [← hSL] at hL1
        rw [← hSR] at hR1
        obtain ⟨D2, hD2⟩ : ∃ D2, D2 = D ++ Many.tops A f h ++ Many.tops A (f + h) (n - h) := ⟨_, rfl⟩
        obtain ⟨j2, hj2⟩ : ∃ j2, j2 = j + p + (Many.inr A (f + h) (f + n)).length := ⟨_, rfl⟩
        rw [← hD2, ← hj2] at hR1
        rw [← hj2] at hjl
        have HDD : Hid (D ++ Many.tops A f n = D2) := Lib.hid (by rw [htw, hD2, List.append_assoc])
        have HJJ : Hid (j + (Many.inr A f (f + n)).length = j2) := Lib.hid (by rw [hj2, ← cu4, hm]; omega)
        obtain ⟨D1, hD1⟩ : ∃ D1, D1 = D ++ Many.tops A f h := ⟨_, rfl⟩
        have hD1l : D1.length + (Many.tops A (f + h) (n - h)).length ≤ T := by rw [hD1, List.length_append]; omega
        rw [← hD1] at hL1 hR1
        have hLc := fun (w : World) hK hB => hL1 w hK hB hIL (by omega) (by omega) (by omega) (.inl k1)
        have hRc := fun (w : World) (q : Option Addr) hK hB hI => hR1 q (m - p) (c - p) w hK hB hI (by omega) hD1l hjl (.inl (by omega))
        have HLC := Lib.hid hLc; clear hLc hL1
        have HRC := Lib.hid hRc; clear hRc hR1
        have HSL := Lib.hid hSLl; clear hSLl
        have HSR := Lib.hid hSRl; clear hSRl
        clear hSL hSR hD1 hD2 hj2 hRA hp htw cu1 cu2 cu3 cu4 hsd hcut hIL hI he hm hRAl
        have HK1 := Lib.hid hk1; clear hk1
        have HB1 := Lib.hid hB1; clear hB1
        have HS1 := Lib.hid hs1; clear hs1
        have HA1 := Lib.hid ha1; clear ha1
        have HX1 := Lib.hid hx1; clear hx1
        clear hb1 hK hB
        go_enter Tryd.func34, Tryd.ntmps34
        go_wp2_with fail
        refine (HHC.out _).mono ?_
        rintro e w' ⟨rfl, rfl⟩
        clear HHC
        go_wp2_with fail
        rw [HSUM.out]
        refine HSC.out.mono ?_
        rintro e w2 ⟨rfl, b2⟩
        obtain ⟨hk2, hs2⟩ := C.stp HK1.out b2
        have hB2 := C.low HK1.out HB1.out hs2
        have ha2 := HA1.out.stp hs2
        have hlc := HLC.out w2 hk2 hB2
        have HLC2 := Lib.hid hlc; clear hlc HLC HSC
        have HB2 := Lib.hid hB2; clear hB2
        have HK2 := Lib.hid hk2; clear hk2
        have HS2 := Lib.hid (HS1.out.trans hs2); clear hs2
        have HA2 := Lib.hid ha2.1
        have HX2 := Lib.hid (ha2.2.trans HX1.out); clear ha2 b2
        clear HS1 HA1 HX1 HK1 HB1
        go_wp2_with fail
        refine HLC2.out.mono ?_
        rintro e w3 ⟨rfl, hk3, hs3⟩
        have hB3 := C.low HK2.out HB2.out hs3
        have ha3 := HA2.out.stp hs3
        have hx3 := ha3.2.trans HX2.out
        have hs03 := HS2.out.trans hs3
        have b4 : Below w3.heap.size w3 (w3.alloc (.cells zero32 23)) := (Below.refl _ _).alloc (Nat.le_refl _) _
        obtain ⟨hk4, hs4⟩ := C.stp hk3 b4
        have ha4 := C.fresh hk3 (.cells zero32 23)
        have ha40 := ha3.1.stp hs4
        have hne : w3.heap.size ≠ w.heap.size := fun e => by have := ha3.1.1; omega
        obtain ⟨ws, hws⟩ : ∃ ws, ws = hset (w3.alloc (.cells zero32 23)) w3.heap.size SL := ⟨_, rfl⟩
        have hKs := C.put hk4 ha4 (w0 := w) (by have := hs03.size; omega) (hs03.trans hs4) SL
        have hfs := (C.put' hk4 ha4 SL).2
        have hBs : Below w00.heap.size w00 ws := by rw [hws]; exact hset_below SL (C.low hk3 hB3 hs4) (by have := hB3.size; omega)
        have x13 : ws.heap[w3.heap.size]? = some (.cells (byteCells SL).toArray 23 (0, 0)) := by rw [hws]; exact hset_heap _ (heap_alloc_new w3 _)
        have x10 : ws.heap[w.heap.size]? = some (.cells zero32 23 (0, 0)) := by rw [hws, hset_other SL (fun e => hne e.symm)]; exact ha40.2.trans hx3
        have HA10 : Hid (Apart Foot ws w.heap.size) := Lib.hid ⟨by rw [hws, hset_size]; exact ha40.1.1, fun hf => ha40.1.2 (hfs _ (by rw [← hws]; exact hf))⟩
        have HA13 : Hid (Apart Foot ws w3.heap.size) := Lib.hid ⟨by rw [hws, hset_size]; exact ha4.1, fun hf => ha4.2 (hfs _ (by rw [← hws]; exact hf))⟩
        rw [← hws] at hKs
        have HKS := Lib.hid hKs.1
        have HSS := Lib.hid hKs.2
        clear hKs hfs
        have HBS := Lib.hid hBs; clear hBs
        have X13 := Lib.hid x13; clear x13
        have X10 := Lib.hid x10; clear x10
        have HW4 := Lib.hid hws; clear hws
        have HNE := Lib.hid hne; clear hne
        have HLOW : Hid (w00.heap.size ≤ w.heap.size) := Lib.hid hwb
        clear hk3 hs3 hB3 ha3 hx3 hs03 b4 hk4 hs4 ha4 ha40
        clear HLC2 HS2 HA2 HX2 HK2 HB2
        have HFB : Hid (f + n ≤ 1000000 ∧ h ≤ n ∧ p ≤ m ∧ m ≤ c ∧ c ≤ 9223372036854775807) := Lib.hid ⟨by omega, by omega, hpm, hcap, hmax⟩
        go_wp2_with ((with_reducible show wpList _ _ _ (⟨none, .store 23 (.tmp 13) (.tmp 42), _, _, _, _⟩ :: _) _ _); change wpList _ _ _ _ _ (World.alloc w3 (.cells zero32 23)); refine wpList_put_hash (o := ⟨none, .store _ _ _, _, _, _, _⟩) rfl _ _ rfl _ rfl SL HSL.out rfl _ _ (heap_alloc_new _ _) zero32_size ?_; rw [← HW4.out])
        refine wp_region_relS [[], [], [], [1, 2], [], [], [4, 5], [], [], [7, 8], [], [], [3, 6, 9, 10, 11], [0, 12], [13]] (partsV w00 fn fo cn co f n h p m c w3.heap.size w.heap.size ba oa SL SR RA) (partsR K Foot D2 j2 w.heap.size) 57 (by kernel_rfl) (by kernel_rfl) (by kernel_rfl) 12 (by decide) (partsI K Foot w00 w D1 D2 (j + p) j2 w.heap.size w3.heap.size SL) ?_ ?_ ?_ ?_ ?_
        · obtain ⟨hd1, hd2⟩ := C.stp HKS.out ((Below.refl ws.heap.size ws).drew)
          exact ⟨fun _ => hd1, (fun h => by cases h), HSS.out.trans hd2, C.low HKS.out HBS.out hd2, (HA10.out.stp hd2).1, (HA13.out.stp hd2).1, X13.out, _, X10.out, zero32_size⟩
        · intro i b wa wb hI hb hr
          exact partsI_step C (Nat.le_refl _) HLOW.out HNE.out i b wa wb hI hb hr
        · intro i jj hij b wa wb v hI hb hr hv
          by_cases e3 : i = 14
          · subst e3
            exact partsV_store jj wa wb v (fun e => hij e.symm) hv
          refine partsV_keep jj wa wb v ?_ hv
          obtain ⟨g1, g2, g3, g4, g5, g6, g7, cs, g8, g9⟩ := hI
          by_cases e1 : i = 12
          · subst e1
            exact (g5.stp (show Stp Foot wa wb ∧ K D2 j2 wb from hr).1).2
          · exact (partsR_else hr e1 e3).block _ g5.1
        · intro ix op hi b w2 hI hs hd vs hv
          have him : ix < 15 := (List.getElem?_eq_some_iff.1 hi).1
          obtain ⟨hK1, hK2, hSt, hBl, hA10, hA13, x13, cs10, x10, hcs10⟩ := hI
          have hL2 := HL.out.below hBl
          have hfb := HFB.out
          match ix, him, hi with
          | 0, _, hi =>
            obtain rfl := Option.some.inj hi
            simp only [relF, List.getD_cons_zero, List.getD_cons_succ, List.foldl_cons, List.foldl_nil, dstAt, List.getElem?_cons_zero, List.getElem?_cons_succ, Option.bind_some]
            go_wp2_with ((with_reducible show wpList _ _ _ (⟨some 43, _, _, _, _, _⟩ :: _) _ _); refine wpList_load_hash (op := ⟨some 43, _, _, _, _, _⟩) (by kernel_rfl) _ rfl w3.heap.size rfl SL HSL.out _ _ x13 ?_)
            exact ⟨rfl, Below.refl _ _, rfl, rfl⟩
          | 1, _, hi =>
            obtain rfl := Option.some.inj hi
            simp only [relF, List.getD_cons_zero, List.getD_cons_succ, List.foldl_cons, List.foldl_nil, dstAt, List.getElem?_cons_zero, List.getElem?_cons_succ, Option.bind_some]
            go_wp2_with fail
            exact ⟨rfl, Below.refl _ _, rfl, rfl⟩
          | 2, _, hi =>
            obtain rfl := Option.some.inj hi
            simp only [relF, List.getD_cons_zero, List.getD_cons_succ, List.foldl_cons, List.foldl_nil, dstAt, List.getElem?_cons_zero, List.getElem?_cons_succ, Option.bind_some]
            go_wp2_with fail
            exact ⟨rfl, Below.refl _ _, rfl, rfl⟩
          | 3, _, hi =>
            obtain rfl := Option.some.inj hi
            have h1 : vs 1 = _ := hv 1 (by decide)
            have h2 : vs 2 = _ := hv 2 (by decide)
            simp only [relF, List.getD_cons_zero, List.getD_cons_succ, List.foldl_cons, List.foldl_nil, dstAt, List.getElem?_cons_zero, List.getElem?_cons_succ, Option.bind_some]
            go_frame
            rw [h1, h2]
            go_wp2_with fail
            exact ⟨rfl, Below.refl _ _, rfl, by first | rfl | (show slotOf _ _ = _; simp [slotOf]; done) | (show slotOf _ _ = _; simp [slotOf]; omega)⟩
          | 4, _, hi =>
            obtain rfl := Option.some.inj hi
            simp only [relF, List.getD_cons_zero, List.getD_cons_succ, List.foldl_cons, List.foldl_nil, dstAt, List.getElem?_cons_zero, List.getElem?_cons_succ, Option.bind_some]
            go_wp2_with fail
            exact ⟨rfl, Below.refl _ _, rfl, rfl⟩
          | 5, _, hi =>
            obtain rfl := Option.some.inj hi
            simp only [relF, List.getD_cons_zero, List.getD_cons_succ, List.foldl_cons, List.foldl_nil, dstAt, List.getElem?_cons_zero, List.getElem?_cons_succ, Option.bind_some]
            go_wp2_with fail
            exact ⟨rfl, Below.refl _ _, rfl, rfl⟩
          | 6, _, hi =>
            obtain rfl := Option.some.inj hi
            have h4 : vs 4 = _ := hv 4 (by decide)
            have h5 : vs 5 = _ := hv 5 (by decide)
            simp only [relF, List.getD_cons_zero, List.getD_cons_succ, List.foldl_cons, List.foldl_nil, dstAt, List.getElem?_cons_zero, List.getElem?_cons_succ, Option.bind_some]
            go_frame
            rw [h4, h5]
            go_wp2_with fail
            exact ⟨rfl, Below.refl _ _, rfl, by first | rfl | (show slotOf _ _ = _; simp [slotOf]; done) | (show slotOf _ _ = _; simp [slotOf]; omega)⟩
          | 7, _, hi =>
            obtain rfl := Option.some.inj hi
            simp only [relF, List.getD_cons_zero, List.getD_cons_succ, List.foldl_cons, List.foldl_nil, dstAt, List.getElem?_cons_zero, List.getElem?_cons_succ, Option.bind_some]
            go_wp2_with fail
            exact ⟨rfl, Below.refl _ _, rfl, rfl⟩
          | 8, _, hi =>
            obtain rfl := Option.some.inj hi
            simp only [relF, List.getD_cons_zero, List.getD_cons_succ, List.foldl_cons, List.foldl_nil, dstAt, List.getElem?_cons_zero, List.getElem?_cons_succ, Option.bind_some]
            go_wp2_with fail
            exact ⟨rfl, Below.refl _ _, rfl, rfl⟩
          | 9, _, hi =>
            obtain rfl := Option.some.inj hi
            have h7 : vs 7 = _ := hv 7 (by decide)
            have h8 : vs 8 = _ := hv 8 (by decide)
            simp only [relF, List.getD_cons_zero, List.getD_cons_succ, List.foldl_cons, List.foldl_nil, dstAt, List.getElem?_cons_zero, List.getElem?_cons_succ, Option.bind_some]
            go_frame
            rw [h7, h8]
            by_cases hcp : c = p
            · subst hcp
              go_wp2_with fail
              exact ⟨rfl, Below.refl _ _, rfl, some ⟨ba, oa, none⟩, by first | rfl | (show slotOf _ _ = _; simp [slotOf]; omega), HIE.out _ _ (by omega) (by omega)⟩
            · have hcp2 : p < c := by omega
              have t9 : ((c : Int) == (p : Int)) = false := by rw [beq_eq_false_iff_ne]; omega
              have t9' : (c == p) = false := by rw [beq_eq_false_iff_ne]; exact hcp
              go_wp2_with fail
              exact ⟨rfl, Below.refl _ _, rfl, _, rfl, HIR.out⟩
          | 10, _, hi =>
            obtain rfl := Option.some.inj hi
            simp only [relF, List.getD_cons_zero, List.getD_cons_succ, List.foldl_cons, List.foldl_nil, dstAt, List.getElem?_cons_zero, List.getElem?_cons_succ, Option.bind_some]
            go_wp2_with fail
            exact ⟨rfl, Below.refl _ _, rfl, rfl⟩
          | 11, _, hi =>
            obtain rfl := Option.some.inj hi
            simp only [relF, List.getD_cons_zero, List.getD_cons_succ, List.foldl_cons, List.foldl_nil, dstAt, List.getElem?_cons_zero, List.getElem?_cons_succ, Option.bind_some]
            go_wp2_with fail
            exact ⟨rfl, Below.refl _ _, rfl, rfl⟩
          | 12, _, hi =>
            obtain rfl := Option.some.inj hi
            have h3 : vs 3 = _ := hv 3 (by decide)
            have h6 : vs 6 = _ := hv 6 (by decide)
            obtain ⟨q9, e9, k9⟩ := hv 9 (by decide)
            have h10 : vs 10 = _ := hv 10 (by decide)
            have h11 : vs 11 = _ := hv 11 (by decide)
            obtain rfl := hs rfl
            have hc := HRC.out w2 _ (hK1 rfl) hBl k9
            have HC := Lib.hid hc; clear hc
            simp only [relF, List.getD_cons_zero, List.getD_cons_succ, List.foldl_cons, List.foldl_nil, dstAt, List.getElem?_cons_zero, List.getElem?_cons_succ, Option.bind_some]
            go_frame
            rw [h3, h6, e9, h10, h11]
            go_wp2_with fail
            refine HC.out.mono ?_
            rintro e w3 ⟨rfl, hk3, hs3⟩
            go_wp2_with fail
            exact ⟨rfl, ⟨hs3, hk3⟩, rfl, rfl⟩
          | 13, _, hi =>
            obtain rfl := Option.some.inj hi
            have h0 : vs 0 = _ := hv 0 (by decide)
            have h12 : vs 12 = _ := hv 12 (by decide)
            simp only [relF, List.getD_cons_zero, List.getD_cons_succ, List.foldl_cons, List.foldl_nil, dstAt, List.getElem?_cons_zero, List.getElem?_cons_succ, Option.bind_some]
            go_frame
            rw [h0, h12]
            go_wp2_with fail
            refine (treeNode_any w2 SL SR HSL.out HSR.out hL2).mono ?_
            rintro e w3 ⟨rfl, b3⟩
            go_wp2_with fail
            exact ⟨rfl, b3, rfl, rfl⟩
          | 14, _, hi =>
            obtain rfl := Option.some.inj hi
            have h13 : vs 13 = _ := hv 13 (by decide)
            simp only [relF, List.getD_cons_zero, List.getD_cons_succ, List.foldl_cons, List.foldl_nil, dstAt, List.getElem?_cons_zero, List.getElem?_cons_succ, Option.bind_some]
            go_frame
            rw [h13]
            go_wp2_with ((with_reducible show wpList _ _ _ (⟨none, .store 23 (.tmp 10) (.tmp 56), _, _, _, _⟩ :: _) _ _); refine wpList_put_hash (o := ⟨none, .store _ _ _, _, _, _, _⟩) rfl _ _ rfl w.heap.size rfl (Tree.node SL SR) (Tree.node_len _ _) rfl _ _ x10 hcs10 ?_)
            exact ⟨rfl, ⟨_, Tree.node_len _ _, rfl⟩, rfl, hset_heap _ x10⟩
          | nx + 15, him, _ => exact absurd him (by omega)
        · intro w2 hI vs hv
          simp only [relF, List.drop_succ_cons, List.drop_zero, List.length_cons, List.length_nil, Nat.zero_add, Nat.reduceAdd, List.range, List.range.loop, List.foldl_cons, List.foldl_nil, dstAt, List.getElem?_cons_zero, List.getElem?_cons_succ, Option.bind_some]
          go_frame
          have x14 := hv 14 (by decide)
          obtain ⟨hK1, hK2, hSt, hBl, hA10, hA13, x13, cs10, x10, hcs10⟩ := hI
          go_wp2_with fail
          refine bodyPost_ret (results_hash rfl _ _ _ _ _ _ rfl (Tree.node_len _ _) x14) rfl ⟨by rw [HVAL.out], ?_, hSt⟩
          rw [HDD.out, HJJ.out]
          exact hK2 (by trivial)
      · obtain rfl : n = 1 := by
          rcases n with _ | _ | n
          · exact absurd (Many.inr_empty A (by omega)) he
          · rfl
          · omega
        rw [Many.val_one he h2, Many.tops_one he h2]
        have hone := inr_one hA he
        rw [hone] at hJ ⊢
        have hc := C.one D j f _ hk1 hB1 (by simp at hJ; omega) (by omega)
        have HC := Lib.hid hc; clear hc
        have HA1 := Lib.hid ha1; clear ha1
        have HX1 := Lib.hid hx1; clear hx1
        have HS1 := Lib.hid hs1; clear hs1 hk1 hB1 hb1
        clear hm hI hK hB hone he
        have hcf := HCO.out
        go_enter Tryd.func34, Tryd.ntmps34
        go_wp2_with fail
        refine HC.out.mono ?_
        rintro e w2 ⟨rfl, hk2, hs2⟩
        obtain ⟨ha2, hx2⟩ := HA1.out.stp hs2
        have x10 := hx2.trans HX1.out
        have hln := C.lenO j f
        have HK2 := Lib.hid hk2; clear hk2
        have HS2 := Lib.hid hs2; clear hs2
        have HX10 := Lib.hid x10; clear x10 hx2
        have HLN := Lib.hid hln; clear hln
        have HA2 := Lib.hid ha2; clear ha2
        clear hcf
        go_wp2_with ((with_reducible show wpList _ _ _ (⟨none, .store 23 (.tmp 10) (.tmp 27), _, _, _, _⟩ :: _) _ _); refine wpList_put_hash (o := ⟨none, .store _ _ _, _, _, _, _⟩) rfl _ _ rfl w.heap.size rfl (OH j f) HLN.out rfl _ _ HX10.out zero32_size ?_)
        obtain ⟨q1, q2⟩ := C.put HK2.out HA2.out (Nat.le_refl _) (HS1.out.trans HS2.out) (OH j f)
        refine bodyPost_ret (results_hash rfl _ _ _ _ _ _ rfl HLN.out (hset_heap _ HX10.out)) rfl ⟨rfl, ?_, q2⟩
        rw [List.append_nil]
        exact q1

end

end Go.Proofs.YtgheacegjgaobaaDoor

/- The walks of the functions that many.Prove, Size and Check hand to many.parts. -/
namespace Go.Proofs.YtgheacegjgaobaaDoor
open Go.RowKit
set_option linter.unusedSimpArgs false
set_option linter.unusedVariables false

/-- No sum. -/
def zeroS : List UInt8 := List.replicate 32 0
theorem zeroS_len : zeroS.length = 32 := by unfold zeroS; exact List.length_replicate
theorem zero32_zeroS : zero32 = (byteCells zeroS).toArray := rfl

theorem zero_back (w : World) : (hset (w.alloc (.cells zero32 23)) w.heap.size zeroS).heap[w.heap.size]? = some (.cells (byteCells zeroS).toArray 23 (0, 0)) := hset_heap _ (heap_alloc_new w _)


set_option maxRecDepth 100000 in
set_option maxHeartbeats 1000000 in
theorem proveOne_any (w : World) (a : Int) :
    Calls Tryd.prog 35 #[.int .i64 a] w fun x w' => x = .returned (.agg (byteCells zeroS).toArray) ∧ Below w.heap.size w w' := by
  have hx := heap_alloc_new w (.cells zero32 23)
  have hz := zeroS_len
  have HX := Lib.hid hx; clear hx
  have HZ := Lib.hid hz; clear hz
  go_enter Tryd.func35, Tryd.ntmps35
  go_wp2_with (first | ((with_reducible show wpList _ _ _ (⟨some 3, _, _, _, _, _⟩ :: _) _ _); refine wpList_zero_hash (op := ⟨some 3, _, _, _, _, _⟩) (by kernel_rfl) rfl ?_) | ((with_reducible show wpList _ _ _ (⟨none, .store 23 (.tmp 2) (.tmp 3), _, _, _, _⟩ :: _) _ _); change wpList _ _ _ _ _ (World.alloc w (.cells zero32 23)); refine wpList_put_hash (o := ⟨none, .store _ _ _, _, _, _, _⟩) rfl _ _ rfl w.heap.size rfl zeroS HZ.out rfl _ _ HX.out zero32_size ?_))
  refine bodyPost_ret (results_hash rfl _ _ _ _ _ _ rfl HZ.out (hset_heap _ HX.out)) rfl ⟨rfl, hset_below _ ((Below.refl _ _).alloc (Nat.le_refl _) _) (Nat.le_refl _)⟩


set_option maxRecDepth 100000 in
set_option maxHeartbeats 1000000 in
theorem sizeOne_any (w : World) (a : Int) :
    Calls Tryd.prog 49 #[.int .i64 a] w fun x w' => x = .returned (.agg (byteCells zeroS).toArray) ∧ Below w.heap.size w w' := by
  have hx := heap_alloc_new w (.cells zero32 23)
  have hz := zeroS_len
  have HX := Lib.hid hx; clear hx
  have HZ := Lib.hid hz; clear hz
  go_enter Tryd.func49, Tryd.ntmps49
  go_wp2_with (first | ((with_reducible show wpList _ _ _ (⟨some 3, _, _, _, _, _⟩ :: _) _ _); refine wpList_zero_hash (op := ⟨some 3, _, _, _, _, _⟩) (by kernel_rfl) rfl ?_) | ((with_reducible show wpList _ _ _ (⟨none, .store 23 (.tmp 2) (.tmp 3), _, _, _, _⟩ :: _) _ _); change wpList _ _ _ _ _ (World.alloc w (.cells zero32 23)); refine wpList_put_hash (o := ⟨none, .store _ _ _, _, _, _, _⟩) rfl _ _ rfl w.heap.size rfl zeroS HZ.out rfl _ _ HX.out zero32_size ?_))
  refine bodyPost_ret (results_hash rfl _ _ _ _ _ _ rfl HZ.out (hset_heap _ HX.out)) rfl ⟨rfl, hset_below _ ((Below.refl _ _).alloc (Nat.le_refl _) _) (Nat.le_refl _)⟩


theorem Tryd.callProve1 (args : Array Value) (w : World) : Sem.run Tryd.prog (callFunc 33 args) w = .ok (.enter 33 args) w := by kernel_rfl
theorem Tryd.callProve2 (args : Array Value) (w : World) : Sem.run Tryd.prog (callFunc 35 args) w = .ok (.enter 35 args) w := by kernel_rfl
theorem Tryd.callSize1 (args : Array Value) (w : World) : Sem.run Tryd.prog (callFunc 48 args) w = .ok (.enter 48 args) w := by kernel_rfl
theorem Tryd.callSize2 (args : Array Value) (w : World) : Sem.run Tryd.prog (callFunc 49 args) w = .ok (.enter 49 args) w := by kernel_rfl
theorem Tryd.callCheck1 (args : Array Value) (w : World) : Sem.run Tryd.prog (callFunc 42 args) w = .ok (.enter 42 args) w := by kernel_rfl
theorem Tryd.callCheck2 (args : Array Value) (w : World) : Sem.run Tryd.prog (callFunc 43 args) w = .ok (.enter 43 args) w := by kernel_rfl

/-- A counter, a step on, beside a new sum's cell. -/
theorem count_world {w : World} {p L : Nat} (hp : w.heap[p]? = some (.cells #[.int .i64 (L : Int)] 3 (0, 0))) (W : World) (hW : W = (w.setCell ⟨p, 0, none⟩ (.int .i64 ((L : Int) + 1))).alloc (.cells zero32 23)) :
    W.heap[p]? = some (.cells #[.int .i64 ((L + 1 : Nat) : Int)] 3 (0, 0)) ∧ W.heap[w.heap.size]? = some (.cells zero32 23 (0, 0)) ∧ BelowBut w.heap.size p w W ∧ w.heap.size < W.heap.size := by
  have hl := lt_of_block hp
  subst hW
  refine ⟨?_, ?_, ⟨rfl, rfl, rfl, by simp, fun k hk hkp => ?_⟩, by simp⟩
  · rw [Below.heap_alloc _ _ _ (by simpa using hl), one_setCell hp]; rfl
  · have := heap_alloc_new (w.setCell ⟨p, 0, none⟩ (.int .i64 ((L : Int) + 1))) (.cells zero32 23)
    simpa using this
  · rw [Below.heap_alloc _ _ _ (by simpa using hk), Below.heap_setCell _ _ _ _ (by simp only; omega)]

set_option maxRecDepth 100000 in
set_option maxHeartbeats 1000000 in
theorem sizeNone_any (w : World) (p L : Nat) (hp : w.heap[p]? = some (.cells #[.int .i64 (L : Int)] 3 (0, 0))) (hL : L ≤ 1000000) (f n : Int) :
    Calls Tryd.prog 48 #[.int .i64 f, .int .i64 n, .pointer (some ⟨p, 0, none⟩)] w fun x w' => x = .returned (.agg (byteCells zeroS).toArray) ∧ w'.heap[p]? = some (.cells #[.int .i64 ((L + 1 : Nat) : Int)] 3 (0, 0)) ∧ BelowBut w.heap.size p w w' := by
  obtain ⟨W, hW⟩ : ∃ W, W = (w.setCell ⟨p, 0, none⟩ (.int .i64 ((L : Int) + 1))).alloc (.cells zero32 23) := ⟨_, rfl⟩
  obtain ⟨c1, c2, c3, c4⟩ := count_world hp W hW
  have hl := lt_of_block hp
  have hc1 : ∀ o, (w.alloc o).cell? ⟨p, 0, none⟩ = some (.int .i64 (L : Int)) := fun o => cell_of_one ((Below.heap_alloc w o p hl).trans hp)
  have hf1 : ∀ o, (w.alloc o).frozen? ⟨p, 0, none⟩ = false := fun o => free_of_one ((Below.heap_alloc w o p hl).trans hp)
  have C1 := Lib.hid c1; clear c1
  have C2 := Lib.hid c2; clear c2
  have C3 := Lib.hid c3; clear c3
  have HW := Lib.hid hW; clear hW
  have HZ := Lib.hid zeroS_len
  clear hp
  go_enter Tryd.func48, Tryd.ntmps48
  go_wp2_with (first | ((with_reducible show wpList _ _ _ (⟨some 8, _, _, _, _, _⟩ :: _) _ _); change wpList _ _ _ _ _ (World.alloc (w.setCell ⟨p, 0, none⟩ (.int .i64 ((L : Int) + 1))) (.cells zero32 23)); rw [← HW.out]) | ((with_reducible show wpList _ _ _ (⟨some 8, _, _, _, _, _⟩ :: _) _ _); refine wpList_zero_hash (op := ⟨some 8, _, _, _, _, _⟩) (by kernel_rfl) rfl ?_) | ((with_reducible show wpList _ _ _ (⟨none, .store 23 (.tmp 5) (.tmp 8), _, _, _, _⟩ :: _) _ _); refine wpList_put_hash (o := ⟨none, .store _ _ _, _, _, _, _⟩) rfl _ _ rfl w.heap.size rfl zeroS HZ.out rfl _ _ C2.out zero32_size ?_))
  refine bodyPost_ret (results_hash rfl _ _ _ _ _ _ rfl HZ.out (hset_heap _ C2.out)) rfl ⟨rfl, ?_, C3.out.trans (.of (hset_below _ (Below.refl _ _) (Nat.le_refl _)))⟩
  rw [hset_other _ (by omega)]; exact C1.out

set_option maxRecDepth 100000 in
set_option maxHeartbeats 2000000 in
theorem checkNone_any (w : World) (p q L : Nat) (hp : w.heap[p]? = some (.cells #[.int .i64 (L : Int)] 3 (0, 0))) (hpq : p ≠ q) (o : Option Addr) (m c : Nat) (P : List (List UInt8)) (hq : w.heap[q]? = some (.cells #[.slice o m c] 27 (0, 0))) (hP : HashesAt w o m c P) (hpo : ∀ b off, o = some ⟨b, off, none⟩ → b ≠ p) (h : List UInt8) (hh : P[L]? = some h) (hm : m ≤ 1000000) (f n : Int) :
    Calls Tryd.prog 42 #[.int .i64 f, .int .i64 n, .pointer (some ⟨p, 0, none⟩), .pointer (some ⟨q, 0, none⟩)] w fun x w' => x = .returned (.agg (byteCells h).toArray) ∧ w'.heap[p]? = some (.cells #[.int .i64 ((L + 1 : Nat) : Int)] 3 (0, 0)) ∧ BelowBut w.heap.size p w w' := by
  obtain ⟨W, hW⟩ : ∃ W, W = (w.setCell ⟨p, 0, none⟩ (.int .i64 ((L : Int) + 1))).alloc (.cells zero32 23) := ⟨_, rfl⟩
  obtain ⟨c1, c2, c3, c4⟩ := count_world hp W hW
  have hl := lt_of_block hp
  have hlm : L < m := by have := (List.getElem?_eq_some_iff.1 hh).1; rw [hP.1.1] at this; exact this
  have h32 := hP.2 h (List.mem_of_getElem? hh)
  obtain ⟨b, off, rfl⟩ := hP.form (by omega)
  have hcap := hP.1.2.1
  have hmax := hP.1.2.2.1
  obtain ⟨hbl, hr⟩ := hP.get hh
  have hrW : W.rangeAt b (off + L * 32) (byteCells h) := fun j v hv => by
    rw [World.cell?_of_block (a := ⟨b, _, none⟩) (c3.block b hbl (hpo b off rfl))]; exact hr j v hv
  have hc1 : ∀ o, (w.alloc o).cell? ⟨p, 0, none⟩ = some (.int .i64 (L : Int)) := fun o => cell_of_one ((Below.heap_alloc w o p hl).trans hp)
  have hf1 : ∀ o, (w.alloc o).frozen? ⟨p, 0, none⟩ = false := fun o => free_of_one ((Below.heap_alloc w o p hl).trans hp)
  have hcq : W.cell? ⟨q, 0, none⟩ = some (.slice (some ⟨b, off, none⟩) m c) := cell_of_one ((c3.block q (lt_of_block hq) (fun e => hpq e.symm)).trans hq)
  have hcp : W.cell? ⟨p, 0, none⟩ = some (.int .i64 ((L : Int) + 1)) := cell_of_one c1
  have C1 := Lib.hid c1; clear c1
  have C2 := Lib.hid c2; clear c2
  have C3 := Lib.hid c3; clear c3
  have HW := Lib.hid hW; clear hW
  have HR := Lib.hid hrW; clear hrW hr
  have H32 := Lib.hid h32; clear h32
  have hlm2 : (L : Int) < (m : Int) := by omega
  clear hp hq hP hh
  go_enter Tryd.func42, Tryd.ntmps42
  go_wp2_with (first | ((with_reducible show wpList _ _ _ (⟨some 9, _, _, _, _, _⟩ :: _) _ _); change wpList _ _ _ _ _ (World.alloc (w.setCell ⟨p, 0, none⟩ (.int .i64 ((L : Int) + 1))) (.cells zero32 23)); rw [← HW.out]) | ((with_reducible show wpList _ _ _ (⟨some 13, _, _, _, _, _⟩ :: _) _ _); refine wpList_load_hashAt (op := ⟨some 13, _, _, _, _, _⟩) rfl _ rfl b (off + L * 32) rfl h H32.out HR.out ?_) | ((with_reducible show wpList _ _ _ (⟨none, .store 23 (.tmp 6) (.tmp 13), _, _, _, _⟩ :: _) _ _); refine wpList_put_hash (o := ⟨none, .store _ _ _, _, _, _, _⟩) rfl _ _ rfl w.heap.size rfl h H32.out rfl _ _ C2.out zero32_size ?_))
  refine bodyPost_ret (results_hash rfl _ _ _ _ _ _ rfl H32.out (hset_heap _ C2.out)) rfl ⟨rfl, ?_, C3.out.trans (.of (hset_below _ (Below.refl _ _) (Nat.le_refl _)))⟩
  rw [hset_other _ (by omega)]; exact C1.out

set_option maxRecDepth 100000 in
set_option maxHeartbeats 2000000 in
theorem checkOne_any (w : World) (p q L : Nat) (hp : w.heap[p]? = some (.cells #[.int .i64 (L : Int)] 3 (0, 0))) (hpq : p ≠ q) (o : Option Addr) (m c : Nat) (X : List (List UInt8)) (hq : w.heap[q]? = some (.cells #[.slice o m c] 24 (0, 0))) (hX : StrsAt w o m c X) (hpo : ∀ b off, o = some ⟨b, off, none⟩ → b ≠ p) (l : List UInt8) (hh : X[L]? = some l) (hl5 : l.length ≤ 100000) (hm : m ≤ 1000000) (hLd : ∀ w', BelowBut w.heap.size p w w' → Laid w') (f : Int) :
    Calls Tryd.prog 43 #[.int .i64 f, .pointer (some ⟨p, 0, none⟩), .pointer (some ⟨q, 0, none⟩)] w fun x w' => x = .returned (.agg (byteCells (Tree.leaf l)).toArray) ∧ w'.heap[p]? = some (.cells #[.int .i64 ((L + 1 : Nat) : Int)] 3 (0, 0)) ∧ BelowBut w.heap.size p w w' := by
  obtain ⟨W, hW⟩ : ∃ W, W = (w.setCell ⟨p, 0, none⟩ (.int .i64 ((L : Int) + 1))).alloc (.cells zero32 23) := ⟨_, rfl⟩
  obtain ⟨c1, c2, c3, c4⟩ := count_world hp W hW
  have hl := lt_of_block hp
  have hlm : L < m := by have := (List.getElem?_eq_some_iff.1 hh).1; rw [hX.len] at this; exact this
  obtain ⟨b, off, rfl⟩ := hX.form (by omega)
  have hcap := hX.cap
  have hmax := hX.max
  have hbl : b < w.heap.size := by
    obtain ⟨b', off', h5, h6, _⟩ := hX.2.2.2 (by omega)
    cases h5; exact h6
  have hcX : W.cell? ⟨b, off + L, none⟩ = some (.string (strOf l)) := by
    rw [World.cell?_of_block (a := ⟨b, _, none⟩) (c3.block b hbl (hpo b off rfl))]; exact hX.get hh
  have hc1 : ∀ o, (w.alloc o).cell? ⟨p, 0, none⟩ = some (.int .i64 (L : Int)) := fun o => cell_of_one ((Below.heap_alloc w o p hl).trans hp)
  have hf1 : ∀ o, (w.alloc o).frozen? ⟨p, 0, none⟩ = false := fun o => free_of_one ((Below.heap_alloc w o p hl).trans hp)
  have hcq : W.cell? ⟨q, 0, none⟩ = some (.slice (some ⟨b, off, none⟩) m c) := cell_of_one ((c3.block q (lt_of_block hq) (fun e => hpq e.symm)).trans hq)
  have hcp : W.cell? ⟨p, 0, none⟩ = some (.int .i64 ((L : Int) + 1)) := cell_of_one c1
  have hlf := treeLeaf_any W l hl5 (hLd W c3)
  have HLF := Lib.hid hlf; clear hlf
  have C1 := Lib.hid c1; clear c1
  have C2 := Lib.hid c2; clear c2
  have C3 := Lib.hid c3; clear c3
  have HW := Lib.hid hW; clear hW
  have hlm2 : (L : Int) < (m : Int) := by omega
  have H32 := Lib.hid (Tree.leaf_len l)
  clear hp hq hX hh hLd
  go_enter Tryd.func43, Tryd.ntmps43
  go_wp2_with ((with_reducible show wpList _ _ _ (⟨some 7, _, _, _, _, _⟩ :: _) _ _); change wpList _ _ _ _ _ (World.alloc (w.setCell ⟨p, 0, none⟩ (.int .i64 ((L : Int) + 1))) (.cells zero32 23)); rw [← HW.out])
  refine HLF.out.mono ?_
  rintro e w2 ⟨rfl, b2⟩
  have x2 := (b2.block _ (lt_of_block C2.out)).trans C2.out
  have y2 := (b2.block _ (lt_of_block C1.out)).trans C1.out
  have X2 := Lib.hid x2; clear x2
  have Y2 := Lib.hid y2; clear y2
  have B2 := Lib.hid (C3.out.trans ((BelowBut.of b2).mono (Nat.le_of_lt c4))); clear b2
  go_wp2_with ((with_reducible show wpList _ _ _ (⟨none, .store 23 (.tmp 4) (.tmp 12), _, _, _, _⟩ :: _) _ _); refine wpList_put_hash (o := ⟨none, .store _ _ _, _, _, _, _⟩) rfl _ _ rfl w.heap.size rfl (Tree.leaf l) H32.out rfl _ _ X2.out zero32_size ?_)
  refine bodyPost_ret (results_hash rfl _ _ _ _ _ _ rfl H32.out (hset_heap _ X2.out)) rfl ⟨rfl, ?_, B2.out.trans (.of (hset_below _ (Below.refl _ _) (Nat.le_refl _)))⟩
  rw [hset_other _ (by omega)]; exact Y2.out

end Go.Proofs.YtgheacegjgaobaaDoor
