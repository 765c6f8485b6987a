/- The walk of the law JournalAppends. -/
import Derived.Test.YtjlaoijmcenahaaDoorG12a
import Derived.Test.YtjlaoijmcenahaaDoorRelS
namespace Go.Proofs.YtjlaoijmcenahaaDoor
open Go.RowKit
set_option linter.unusedSimpArgs false
set_option linter.unusedVariables false
set_option maxRecDepth 100000 in
set_option maxHeartbeats 2000000 in
theorem journalRead_own (w : World) (log : List UInt8) (hl : log.length ≤ 100000) (hL : Laid w) :
    Calls Tryd.prog 12 #[.string (strOf log)] w fun e w' => ∃ q c k, e = .returned (.tuple #[.slice q k c, .int .i64 ((J.read J.zero log).2.1 : Int)]) ∧ StrsAt w' q k c (J.read J.zero log).1 ∧ w'.ownsRow w.heap.size 9 1 (.slice q k c) k ((J.read J.zero log).1.map fun l => Value.string (strOf l)) ∧ Below w.heap.size w w' := by
  obtain ⟨W1, hW1⟩ : ∃ W1, W1 = w.alloc (.cells #[.slice none 0 0] 23) := ⟨_, rfl⟩
  have x1 : W1.heap[w.heap.size]? = some (.cells #[.slice none 0 0] 23 (0, 0)) := by rw [hW1]; exact heap_alloc_new w _
  have b1 : Below w.heap.size w W1 := by rw [hW1]; exact (Below.refl _ _).alloc (Nat.le_refl _) _
  have s1 : W1.heap.size = w.heap.size + 1 := by rw [hW1]; simp
  have hc := walk_any w W1 hL b1 w.heap.size (Nat.le_refl _) (.inl (by omega)) log hl 23 #[.pointer (some ⟨w.heap.size, 0, none⟩)] (fun ts w' => TellIs w' (W1.heap.size + 2) w.heap.size ts) Tryd.callTell
    (fun ts w1 w2 h hk => h.kept hk)
    (fun ts t w0 w1 h hb hs hn => tell_any (W1.heap.size + 2) w.heap.size ts t w0 w1 h hb hs (by omega) hn)
    ⟨_, x1, World.ownsRow_nil _ _ _ _⟩
  have hlast := J.last_len (l := log) J.zero_len
  obtain ⟨R, hR⟩ : ∃ R, R = J.read J.zero log := ⟨_, rfl⟩
  rw [← hR] at hc hlast ⊢
  clear hR
  have HC := Lib.hid hc; clear hc
  have HLA := Lib.hid hlast; clear hlast
  have HW1 := Lib.hid hW1; clear hW1
  have HX1 := Lib.hid x1; clear x1
  go_enter Tryd.func12, Tryd.ntmps12
  go_wp2_with fail
  rw [← HW1.out]
  refine HC.out.mono ?_
  rintro e w2 ⟨rfl, ht, bb⟩
  obtain ⟨v, hv, ho⟩ := ht
  obtain ⟨a0, c0, rfl⟩ := ownsRow_slice ho
  obtain ⟨W3, hW3⟩ : ∃ W3, W3 = hset (w2.alloc (.cells zero32 31)) w2.heap.size R.2.2 := ⟨_, rfl⟩
  have b3 : Below w2.heap.size w2 W3 := by rw [hW3]; exact hset_below _ ((Below.refl _ _).alloc (Nat.le_refl _) _) (Nat.le_refl _)
  have hv3 := (b3.block _ (lt_of_block hv)).trans hv
  have hc3 := cell_of_one hv3
  have hst := StrsAt.of_owns rfl (ownsRow_below ho fun k hk => b3.block k (ho.lt k hk).2)
  have hown := ownsRow_lower (B' := w.heap.size) (ownsRow_below ho fun k hk => b3.block k (ho.lt k hk).2) (by omega)
  have HOW := Lib.hid hown; clear hown
  have HST := Lib.hid hst; clear hst ho
  have BB : Hid (Below w.heap.size w W3) := Lib.hid ((Below.more b1 bb (Nat.le_refl _) (by omega)).trans (b3.mono (by have := bb.size; omega)))
  have HW3 := Lib.hid hW3; clear hW3 b3 hv3 bb b1
  go_wp2_with ((with_reducible show wpList _ _ _ (⟨none, .store 31 (.tmp 6) (.tmp 12), _, _, _, _⟩ :: _) _ _); change wpList _ _ _ _ _ (World.alloc w2 (.cells zero32 31)); refine wpList_put_hash (o := ⟨none, .store _ _ _, _, _, _, _⟩) rfl _ _ rfl _ rfl R.2.2 HLA.out rfl _ _ (heap_alloc_new _ _) zero32_size ?_; rw [← HW3.out])
  go_ret2
  exact ⟨a0, c0, _, rfl, HST.out, HOW.out, BB.out⟩


theorem StrsAt.grown {w w' : World} {o : Option Addr} {n cap : Nat} {L : List (List UInt8)} {row : Option Nat} (h : StrsAt w o n cap L) (hg : w.grownBy w' row) (hr : ∀ b off, o = some ⟨b, off, none⟩ → 0 < n → some b ≠ row) : StrsAt w' o n cap L := by
  refine ⟨h.1, h.2.1, h.2.2.1, fun h0 => ?_⟩
  obtain ⟨b, off, h5, h6, h7⟩ := h.2.2.2 h0
  refine ⟨b, off, h5, Nat.lt_of_lt_of_le h6 hg.size, fun i l hl j v hv => ?_⟩
  rw [World.cell?_of_block (a := ⟨b, _, none⟩) (hg.block b h6 (hr b off h5 h0))]
  exact h7 i l hl j v hv

theorem grownBy_below {w w1 w2 : World} {row : Option Nat} (h : w.grownBy w1 row) (hb : Below w1.heap.size w1 w2) : w.grownBy w2 row :=
  ⟨hb.os.trans h.os, hb.tape.trans h.tape, hb.output.trans h.output, Nat.le_trans h.size hb.size, fun k hk hr => by
    rw [hb.block k (Nat.lt_of_lt_of_le hk h.size)]; exact h.block k hk hr⟩
theorem below_grownBy {w w1 w2 : World} {row : Option Nat} (hb : Below w.heap.size w w1) (h : w1.grownBy w2 row) : w.grownBy w2 row :=
  ⟨h.os.trans hb.os, h.tape.trans hb.tape, h.output.trans hb.output, Nat.le_trans hb.size h.size, fun k hk hr => by
    rw [h.block k (Nat.lt_of_lt_of_le hk hb.size) hr]; exact hb.block k hk⟩
theorem grownBy_of_below {w w1 : World} (row : Option Nat) (hb : Below w.heap.size w w1) : w.grownBy w1 row :=
  ⟨hb.os, hb.tape, hb.output, hb.size, fun k hk _ => hb.block k hk⟩

def appI (w0 : World) (row : Option Nat) (b : Bool) (w : World) : Prop := (b = false → Below w0.heap.size w0 w) ∧ w0.grownBy w row
def appR (row : Option Nat) (i : Nat) (w w' : World) : Prop :=
  match i with
  | 14 => w.grownBy w' row
  | _ => Below w.heap.size w w'
theorem appR_else {row : Option Nat} {i : Nat} {w w' : World} (h : appR row i w w') (e : i ≠ 14) : Below w.heap.size w w' := by
  unfold appR at h
  split at h
  · exact absurd rfl e
  · exact h
theorem appI_step {w0 : World} {row : Option Nat} (i : Nat) (b : Bool) (w w' : World) (hI : appI w0 row b w) (hb : i = 14 → b = false) (hr : appR row i w w') : appI w0 row (decide (14 = i) || b) w' := by
  by_cases e : i = 14
  · subst e
    obtain rfl := hb rfl
    exact ⟨(fun h => by cases h), below_grownBy (hI.1 rfl) hr⟩
  · rw [decide_eq_false (fun e' => e e'.symm), Bool.false_or]
    have hbl := appR_else hr e
    exact ⟨fun h => (hI.1 h).trans (hbl.mono (hI.1 h).size), grownBy_below hI.2 hbl⟩

theorem J.append_take (log r : List UInt8) : (J.append log r).take (J.read J.zero log).2.1 = log.take (J.read J.zero log).2.1 := by
  have := J.used_le J.zero log
  unfold J.append
  rw [List.take_append_of_le_length (by rw [List.length_take]; omega), List.take_take, Nat.min_self]

/-- What the region's operations leave. -/
def appV (B B0 u k3 c3 k4 c4 : Nat) (q3 q4 : Option Addr) (log r la F : List UInt8) (A : List (List UInt8)) (ix : Nat) (w : World) (v : Value) : Prop :=
  match ix with
  | 0 => v = .int .i64 (0)
  | 1 => v = .bool true
  | 2 => v = .bool true
  | 3 => v = .string (strOf F)
  | 4 => v = .string (strOf log)
  | 5 => v = .string (strOf r)
  | 6 => v = .string (strOf F)
  | 7 => v = .bool true
  | 8 => v = .bool true
  | 9 => v = .bool true
  | 10 => v = .slice q4 k4 c4
  | 11 => v = .slice q3 k3 c3
  | 12 => v = .string (strOf r)
  | 13 => ∃ g, v = .slice (some ⟨g, 0, none⟩) 1 1 ∧ w.heap[g]? = some (.cells #[.string (strOf r)] 9 (0, 0)) ∧ B0 ≤ g
  | 14 => ∃ (q : Option Addr) (c : Nat), v = .slice q (k3 + 1) c ∧ StrsAt w q (k3 + 1) c (A ++ [r])
  | 15 => v = .bool true
  | 16 => v = .bool true
  | 17 => v = .bool true
  | 18 => v = .int .i64 (F.length : Int)
  | 19 => v = .string (strOf F)
  | 20 => v = .int .i64 (F.length : Int)
  | 21 => v = .bool true
  | 22 => v = .bool true
  | 23 => v = .bool true
  | 24 => v = .string (strOf F)
  | 25 => v = .int .i64 (u : Int)
  | 26 => v = .string (strOf (F.take u))
  | 27 => v = .string (strOf log)
  | 28 => v = .int .i64 (u : Int)
  | 29 => v = .string (strOf (log.take u))
  | 30 => v = .bool true
  | 31 => v = .bool true
  | 32 => v = .bool true
  | 33 => v = .agg (byteCells la).toArray
  | 34 => v = .string (strOf r)
  | 35 => v = .agg (byteCells (J.sum la r)).toArray
  | 36 => v = .agg (byteCells la).toArray
  | 37 => v = .string (strOf r)
  | 38 => v = .agg (byteCells (J.sum la r)).toArray
  | 39 => v = .bool true
  | 40 => v = .bool true
  | 41 => v = .bool true
  | _ => True

theorem appV_mono (B B0 u k3 c3 k4 c4 : Nat) (q3 q4 : Option Addr) (log r la F : List UInt8) (A : List (List UInt8)) (jx : Nat) (w w' : World) (v : Value) (hb : Below w.heap.size w w') (h : appV B B0 u k3 c3 k4 c4 q3 q4 log r la F A jx w v) : appV B B0 u k3 c3 k4 c4 q3 q4 log r la F A jx w' v := by
  match jx, h with
  | 0, h => exact h
  | 1, h => exact h
  | 2, h => exact h
  | 3, h => exact h
  | 4, h => exact h
  | 5, h => exact h
  | 6, h => exact h
  | 7, h => exact h
  | 8, h => exact h
  | 9, h => exact h
  | 10, h => exact h
  | 11, h => exact h
  | 12, h => exact h
  | 13, h => exact (let ⟨g, h1, h2, h3⟩ := h; ⟨g, h1, (hb.block g (lt_of_block h2)).trans h2, h3⟩)
  | 14, h => exact (let ⟨q, c, h1, h2⟩ := h; ⟨q, c, h1, h2.below (Nat.le_refl _) hb⟩)
  | 15, h => exact h
  | 16, h => exact h
  | 17, h => exact h
  | 18, h => exact h
  | 19, h => exact h
  | 20, h => exact h
  | 21, h => exact h
  | 22, h => exact h
  | 23, h => exact h
  | 24, h => exact h
  | 25, h => exact h
  | 26, h => exact h
  | 27, h => exact h
  | 28, h => exact h
  | 29, h => exact h
  | 30, h => exact h
  | 31, h => exact h
  | 32, h => exact h
  | 33, h => exact h
  | 34, h => exact h
  | 35, h => exact h
  | 36, h => exact h
  | 37, h => exact h
  | 38, h => exact h
  | 39, h => exact h
  | 40, h => exact h
  | 41, h => exact h
  | _ + 42, h => exact trivial

theorem appV_grown {B B0 u k3 c3 k4 c4 : Nat} {q3 q4 : Option Addr} {log r la F : List UInt8} {A : List (List UInt8)} {row : Option Nat} (jx : Nat) (w w' : World) (v : Value) (hg : w.grownBy w' row) (hrow : ∀ k, row = some k → k < B0) (hj : jx ≠ 14) (h : appV B B0 u k3 c3 k4 c4 q3 q4 log r la F A jx w v) : appV B B0 u k3 c3 k4 c4 q3 q4 log r la F A jx w' v := by
  match jx, h, hj with
  | 0, h, hj => exact h
  | 1, h, hj => exact h
  | 2, h, hj => exact h
  | 3, h, hj => exact h
  | 4, h, hj => exact h
  | 5, h, hj => exact h
  | 6, h, hj => exact h
  | 7, h, hj => exact h
  | 8, h, hj => exact h
  | 9, h, hj => exact h
  | 10, h, hj => exact h
  | 11, h, hj => exact h
  | 12, h, hj => exact h
  | 13, h, hj => exact (let ⟨g, h1, h2, h3⟩ := h; ⟨g, h1, (hg.block g (lt_of_block h2) (fun e => by have := hrow g e.symm; omega)).trans h2, h3⟩)
  | 14, h, hj => exact absurd rfl hj
  | 15, h, hj => exact h
  | 16, h, hj => exact h
  | 17, h, hj => exact h
  | 18, h, hj => exact h
  | 19, h, hj => exact h
  | 20, h, hj => exact h
  | 21, h, hj => exact h
  | 22, h, hj => exact h
  | 23, h, hj => exact h
  | 24, h, hj => exact h
  | 25, h, hj => exact h
  | 26, h, hj => exact h
  | 27, h, hj => exact h
  | 28, h, hj => exact h
  | 29, h, hj => exact h
  | 30, h, hj => exact h
  | 31, h, hj => exact h
  | 32, h, hj => exact h
  | 33, h, hj => exact h
  | 34, h, hj => exact h
  | 35, h, hj => exact h
  | 36, h, hj => exact h
  | 37, h, hj => exact h
  | 38, h, hj => exact h
  | 39, h, hj => exact h
  | 40, h, hj => exact h
  | 41, h, hj => exact h
  | _ + 42, h, hj => exact trivial

set_option maxRecDepth 100000 in
set_option maxHeartbeats 4000000 in
theorem jappends_list (w : World) (log : List UInt8) (hlog : log.length ≤ 140737488351232) (r : List UInt8) (hr : r.length ≤ 140737488351232) (la : List UInt8) (hla : la.length = 32) (hL : Laid w) :
    Calls Tryd.prog 4 #[.string (strOf log), .string (strOf r), .agg (byteCells la).toArray] w fun e w' => e = .returned (.bool true) ∧ Below w.heap.size w w' := by
  have hstlog := strOf_size log
  have hstr := strOf_size r
  have HL := Lib.hid hL; clear hL
  obtain ⟨W0, hW0⟩ : ∃ W0, W0 = w.alloc (.cells (byteCells la).toArray 31) := ⟨_, rfl⟩
  have xb0 : W0.heap[w.heap.size]? = some (.cells (byteCells la).toArray 31 (0, 0)) := by rw [hW0]; exact heap_alloc_new w _
  have b0 : Below w.heap.size w W0 := by rw [hW0]; exact (Below.refl _ _).alloc (Nat.le_refl _) _
  replace HL := Lib.hid (HL.out.below b0)
  have HW0 := Lib.hid hW0; clear hW0
  have hcw := awake_any W0 HL.out
  rw [HW0.out] at hcw
  have HCW := Lib.hid hcw; clear hcw
  go_enter Tryd.func4, Tryd.ntmps4
  go_wp2_with fail
  refine HCW.out.mono ?_
  rintro e w1 ⟨rfl, b1⟩
  rw [← HW0.out] at b1
  have XB1 : Hid (w1.heap[w.heap.size]? = some (.cells (byteCells la).toArray 31 (0, 0))) := Lib.hid ((b1.block _ (lt_of_block xb0)).trans xb0)
  replace HL := Lib.hid (HL.out.below b1)
  replace b1 := b0.trans (b1.mono b0.size)
  clear xb0 b0 HCW HW0
  by_cases hg : 3000 < log.length
  · have ht : decide ((3000 : Int) < (log.length : Int)) = true := decide_eq_true (by omega)
    go_wp2_with fail
    refine (awake_any _ HL.out).mono ?_
    rintro e w2 ⟨rfl, b2⟩
    go_wp2_with fail
    go_ret
    exact ⟨rfl, b1.trans (b2.mono b1.size)⟩
  · have ht : decide ((3000 : Int) < (log.length : Int)) = false := decide_eq_false (by omega)
    by_cases hg : 300 < r.length
    · have ht : decide ((300 : Int) < (r.length : Int)) = true := decide_eq_true (by omega)
      go_wp2_with fail
      refine (awake_any _ HL.out).mono ?_
      rintro e w2 ⟨rfl, b2⟩
      go_wp2_with fail
      go_ret
      exact ⟨rfl, b1.trans (b2.mono b1.size)⟩
    · have ht : decide ((300 : Int) < (r.length : Int)) = false := decide_eq_false (by omega)
      have hul := J.used_le J.zero log
      have hapl := J.append_len log r
      have hxl := J.text_len r
      have hnl := Wire.num_length r.length (by omega)
      have hcnt := read_count log.length J.zero log (Nat.le_refl _)
      have hrap := J.read_append (l := log) (r := r) (by omega)
      have htk := J.append_take log r
      have hca := journalAppend_any w1 log r (by omega) (by omega) HL.out
      have hcr := fun (w : World) (hLw : Laid w) => journalRead_own w log (by omega) hLw
      obtain ⟨R, hR⟩ : ∃ R, R = J.read J.zero log := ⟨_, rfl⟩
      simp only [← hR] at hcr
      rw [← hR] at hul hapl hcnt hrap htk
      clear hR
      obtain ⟨A, u, la'⟩ := R
      simp only at hcr hul hapl hcnt hrap htk
      obtain ⟨F, hF⟩ : ∃ F, F = J.append log r := ⟨_, rfl⟩
      rw [← hF] at hapl hrap htk hca
      have hFl : F.length ≤ 100000 := by omega
      have hFu : u ≤ F.length := by omega
      have hcf := fun (w : World) (hLw : Laid w) => journalRead_own w F hFl hLw
      simp only [hrap] at hcf
      have htk2 : ((strOf (F.take u)).toList == (strOf (log.take u)).toList) = true := by rw [htk]; exact beq_self_eq_true _
      have HTK := Lib.hid htk2; clear htk htk2
      have HFE := Lib.hid hF.symm; clear hF
      have HCA := Lib.hid hca; clear hca
      have HCR := Lib.hid hcr; clear hcr
      have HCF := Lib.hid hcf; clear hcf hrap
      have HLA := Lib.hid hla
      go_wp2_with fail
      refine HCA.out.mono ?_
      rintro e w2 ⟨rfl, b2⟩
      have hB2 := b1.trans (b2.mono b1.size)
      replace HL := Lib.hid (HL.out.below b2)
      have hc := HCR.out w2 HL.out
      have HC := Lib.hid hc; clear hc HCR HCA
      go_wp2_with fail
      refine HC.out.mono ?_
      rintro e w3 ⟨q3, c3, k3, rfl, s3, ho3, b3⟩
      clear HC
      have hB3 := hB2.trans (b3.mono hB2.size)
      have HL3 := Lib.hid (HL.out.below b3)
      have hc := HCF.out w3 HL3.out
      have HC := Lib.hid hc; clear hc HCF
      go_wp2_with fail
      refine HC.out.mono ?_
      rintro e w4 ⟨q4, c4, k4, rfl, s4, ho4, b4⟩
      clear HC
      have hk3 := s3.len
      obtain ⟨row, hrow⟩ : ∃ row, row = Value.ownBlock (.slice q3 k3 c3) := ⟨_, rfl⟩
      have ho34 := ownsRow_below ho3 fun k hk => b4.block k (ho3.lt k hk).2
      have hlt3 := ho3.lt
      have HRL : Hid (∀ k, row = some k → w2.heap.size ≤ k) := Lib.hid fun k hk => (hlt3 k (by rw [← hrow]; exact hk)).1
      have HR3 : Hid (∀ k, row = some k → k < w3.heap.size) := Lib.hid fun k hk => (hlt3 k (by rw [← hrow]; exact hk)).2
      have HRW : Hid (∀ k, row = some k → k < w4.heap.size) := Lib.hid fun k hk => Nat.lt_of_lt_of_le (HR3.out k hk) b4.size
      have HRL0 : Hid (∀ k, row = some k → w.heap.size ≤ k) := Lib.hid fun k hk => Nat.le_trans hB2.size (HRL.out k hk)
      have HBW : Hid (Below w2.heap.size w2 w4) := Lib.hid (b3.trans (b4.mono b3.size))
      have HB0 : Hid (Below w.heap.size w w4) := Lib.hid (hB3.trans (b4.mono hB3.size))
      have hx4 := ((b2.trans (b3.mono b2.size)).trans (b4.mono (b2.trans (b3.mono b2.size)).size)).block _ (lt_of_block XB1.out)
      have XB : Hid (w4.heap[w.heap.size]? = some (.cells (byteCells la).toArray 31 (0, 0))) := Lib.hid (hx4.trans XB1.out)
      have hlb := lt_of_block XB1.out
      have HBR : Hid (some w.heap.size ≠ row) := Lib.hid fun e => by have := HRL.out _ e.symm; have := b2.size; omega
      have HOWN : Hid (w4.ownsRow w2.heap.size 9 1 (.slice q3 k3 c3) k3 (A.map fun l => Value.string (strOf l))) := Lib.hid ho34
      have HOB : Hid (w2.heap.size ≤ w4.heap.size) := Lib.hid (b3.trans (b4.mono b3.size)).size
      have HAL : Hid (A.length = k3) := Lib.hid hk3
      have HM := Lib.hid s4; clear s4
      have HMR : Hid (∀ b off, q4 = some ⟨b, off, none⟩ → 0 < k4 → some b ≠ row) := Lib.hid fun b off hq h0 e => by
        have h1 := HR3.out _ e.symm
        have h2 := (ho4.lt b (by rw [hq]; rfl)).1
        omega
      subst hrow
      obtain ⟨row, hrow⟩ : ∃ row, row = Value.ownBlock (.slice q3 k3 c3) := ⟨_, rfl⟩
      rw [← hrow] at HRL HR3 HRW HRL0 HBR HMR
      have HNN : Hid (u ≤ log.length ∧ u ≤ F.length ∧ F.length ≤ 100000 ∧ log.length ≤ 3000 ∧ k3 ≤ 3000 ∧ r.length ≤ 300) := Lib.hid ⟨hul, hFu, hFl, by omega, by omega, by omega⟩
      have HG14 : Hid (Value.ownBlock (.slice q3 k3 c3) = row) := Lib.hid hrow.symm
      clear hrow ho3 ho34 ho4 hlt3 s3 hk3 hx4 hlb hapl hcnt b2 b3 b4 hB2 hB3
      go_wp2_with fail
      refine wp_region_relS [[], [0], [1], [2], [2], [2], [2, 4, 5], [2, 3, 6], [2, 7], [8], [9], [9], [9], [9, 12], [9, 11, 13], [9, 10, 14], [9, 15], [16], [17], [17], [17, 19], [17, 18, 20], [17, 21], [22], [23], [23], [23, 24, 25], [23], [23], [23, 27, 28], [23, 26, 29], [23, 30], [31], [32], [32], [32, 33, 34], [32], [32], [32, 36, 37], [32, 35, 38], [32, 39], [40]] (appV w.heap.size w4.heap.size u k3 c3 k4 c4 q3 q4 log r la F A) (appR row) 83 (by kernel_rfl) (by kernel_rfl) (by kernel_rfl) 14 (by decide) (appI w4 row) ?_ ?_ ?_ ?_ ?_
      · exact ⟨fun _ => (Below.refl _ _).drew, grownBy_of_below _ ((Below.refl _ _).drew)⟩
      · exact fun i b wa wb hI hb hr => appI_step i b wa wb hI hb hr
      · intro i jj hij b wa wb v hI hb hr hv
        by_cases e : i = 14
        · subst e
          exact appV_grown jj wa wb v hr HRW.out (fun e => hij e.symm) hv
        · exact appV_mono _ _ _ _ _ _ _ _ _ _ _ _ _ _ jj wa wb v (appR_else hr e) hv
      · intro ix op hi b w2 hI hs hd vs hv
        have him : ix < 42 := (List.getElem?_eq_some_iff.1 hi).1
        obtain ⟨hbf0, hg⟩ := hI
        have hL2 := HL.out.below (HBW.out.trans (grown_below hg HRL.out HBW.out.size))
        obtain ⟨hn1, hn2, hn3, hn4, hn5, hn6⟩ := HNN.out
        match ix, him, hi with
        | 0, _, hi =>
          obtain rfl := Option.some.inj hi
          simp only [relF, List.getD_cons_zero, List.getD_cons_succ, List.foldl_cons, List.foldl_nil, dstAt, List.getElem?_cons_zero, List.getElem?_cons_succ, Option.bind_some]
          go_wp2_with fail
          exact ⟨rfl, Below.refl _ _, rfl, rfl⟩
        | 1, _, hi =>
          obtain rfl := Option.some.inj hi
          have h0 : vs 0 = _ := hv 0 (by decide)
          simp only [relF, List.getD_cons_zero, List.getD_cons_succ, List.foldl_cons, List.foldl_nil, dstAt, List.getElem?_cons_zero, List.getElem?_cons_succ, Option.bind_some]
          go_frame
          rw [h0]
          go_wp2_with fail
          exact ⟨rfl, Below.refl _ _, rfl, by first | rfl | (show slotOf _ _ = _; simp [slotOf])⟩
        | 2, _, hi =>
          obtain rfl := Option.some.inj hi
          have h1 : vs 1 = _ := hv 1 (by decide)
          simp only [relF, List.getD_cons_zero, List.getD_cons_succ, List.foldl_cons, List.foldl_nil, dstAt, List.getElem?_cons_zero, List.getElem?_cons_succ, Option.bind_some]
          go_frame
          rw [h1]
          go_wp2_with fail
          exact ⟨rfl, Below.refl _ _, rfl, rfl⟩
        | 3, _, hi =>
          obtain rfl := Option.some.inj hi
          have h2 : vs 2 = _ := hv 2 (by decide)
          simp only [relF, List.getD_cons_zero, List.getD_cons_succ, List.foldl_cons, List.foldl_nil, dstAt, List.getElem?_cons_zero, List.getElem?_cons_succ, Option.bind_some]
          go_frame
          rw [h2]
          go_wp2_with fail
          exact ⟨rfl, Below.refl _ _, rfl, rfl⟩
        | 4, _, hi =>
          obtain rfl := Option.some.inj hi
          have h2 : vs 2 = _ := hv 2 (by decide)
          simp only [relF, List.getD_cons_zero, List.getD_cons_succ, List.foldl_cons, List.foldl_nil, dstAt, List.getElem?_cons_zero, List.getElem?_cons_succ, Option.bind_some]
          go_frame
          rw [h2]
          go_wp2_with fail
          exact ⟨rfl, Below.refl _ _, rfl, rfl⟩
        | 5, _, hi =>
          obtain rfl := Option.some.inj hi
          have h2 : vs 2 = _ := hv 2 (by decide)
          simp only [relF, List.getD_cons_zero, List.getD_cons_succ, List.foldl_cons, List.foldl_nil, dstAt, List.getElem?_cons_zero, List.getElem?_cons_succ, Option.bind_some]
          go_frame
          rw [h2]
          go_wp2_with fail
          exact ⟨rfl, Below.refl _ _, rfl, rfl⟩
        | 6, _, hi =>
          obtain rfl := Option.some.inj hi
          have h2 : vs 2 = _ := hv 2 (by decide)
          have h4 : vs 4 = _ := hv 4 (by decide)
          have h5 : vs 5 = _ := hv 5 (by decide)
          have hra := refJappend_any w2 log r (by omega) (by omega)
          rw [HFE.out] at hra
          simp only [relF, List.getD_cons_zero, List.getD_cons_succ, List.foldl_cons, List.foldl_nil, dstAt, List.getElem?_cons_zero, List.getElem?_cons_succ, Option.bind_some]
          go_frame
          rw [h2, h4, h5]
          go_wp2_with fail
          refine (hra).mono ?_
          rintro e w3 ⟨rfl, b3⟩
          go_wp2_with fail
          exact ⟨rfl, b3, rfl, rfl⟩
        | 7, _, hi =>
          obtain rfl := Option.some.inj hi
          have h2 : vs 2 = _ := hv 2 (by decide)
          have h3 : vs 3 = _ := hv 3 (by decide)
          have h6 : vs 6 = _ := hv 6 (by decide)
          have hse := (beq_self_eq_true (strOf F).toList)
          simp only [relF, List.getD_cons_zero, List.getD_cons_succ, List.foldl_cons, List.foldl_nil, dstAt, List.getElem?_cons_zero, List.getElem?_cons_succ, Option.bind_some]
          go_frame
          rw [h2, h3, h6]
          go_wp2_with fail
          exact ⟨rfl, Below.refl _ _, rfl, rfl⟩
        | 8, _, hi =>
          obtain rfl := Option.some.inj hi
          have h2 : vs 2 = _ := hv 2 (by decide)
          have h7 : vs 7 = _ := hv 7 (by decide)
          simp only [relF, List.getD_cons_zero, List.getD_cons_succ, List.foldl_cons, List.foldl_nil, dstAt, List.getElem?_cons_zero, List.getElem?_cons_succ, Option.bind_some]
          go_frame
          rw [h2, h7]
          go_wp2_with fail
          exact ⟨rfl, Below.refl _ _, rfl, rfl⟩
        | 9, _, hi =>
          obtain rfl := Option.some.inj hi
          have h8 : vs 8 = _ := hv 8 (by decide)
          simp only [relF, List.getD_cons_zero, List.getD_cons_succ, List.foldl_cons, List.foldl_nil, dstAt, List.getElem?_cons_zero, List.getElem?_cons_succ, Option.bind_some]
          go_frame
          rw [h8]
          go_wp2_with fail
          exact ⟨rfl, Below.refl _ _, rfl, rfl⟩
        | 10, _, hi =>
          obtain rfl := Option.some.inj hi
          have h9 : vs 9 = _ := hv 9 (by decide)
          simp only [relF, List.getD_cons_zero, List.getD_cons_succ, List.foldl_cons, List.foldl_nil, dstAt, List.getElem?_cons_zero, List.getElem?_cons_succ, Option.bind_some]
          go_frame
          rw [h9]
          go_wp2_with fail
          exact ⟨rfl, Below.refl _ _, rfl, rfl⟩
        | 11, _, hi =>
          obtain rfl := Option.some.inj hi
          have h9 : vs 9 = _ := hv 9 (by decide)
          simp only [relF, List.getD_cons_zero, List.getD_cons_succ, List.foldl_cons, List.foldl_nil, dstAt, List.getElem?_cons_zero, List.getElem?_cons_succ, Option.bind_some]
          go_frame
          rw [h9]
          go_wp2_with fail
          exact ⟨rfl, Below.refl _ _, rfl, rfl⟩
        | 12, _, hi =>
          obtain rfl := Option.some.inj hi
          have h9 : vs 9 = _ := hv 9 (by decide)
          simp only [relF, List.getD_cons_zero, List.getD_cons_succ, List.foldl_cons, List.foldl_nil, dstAt, List.getElem?_cons_zero, List.getElem?_cons_succ, Option.bind_some]
          go_frame
          rw [h9]
          go_wp2_with fail
          exact ⟨rfl, Below.refl _ _, rfl, rfl⟩
        | 13, _, hi =>
          obtain rfl := Option.some.inj hi
          have h9 : vs 9 = _ := hv 9 (by decide)
          have h12 : vs 12 = _ := hv 12 (by decide)
          simp only [relF, List.getD_cons_zero, List.getD_cons_succ, List.foldl_cons, List.foldl_nil, dstAt, List.getElem?_cons_zero, List.getElem?_cons_succ, Option.bind_some]
          go_frame
          rw [h9, h12]
          go_wp2_with fail
          exact ⟨rfl, (Below.refl _ _).alloc (Nat.le_refl _) _, rfl, w2.heap.size, rfl, heap_alloc_new _ _, hg.size⟩
        | 14, _, hi =>
          obtain rfl := Option.some.inj hi
          have h9 : vs 9 = _ := hv 9 (by decide)
          have h11 : vs 11 = _ := hv 11 (by decide)
          obtain ⟨g13, e13, s13, t13⟩ := hv 13 (by decide)
          obtain rfl := hs rfl
          have hbf := hbf0 rfl
          have own2 := ownsRow_below HOWN.out fun k hk => hbf.block k (HOWN.out.lt k hk).2
          obtain ⟨q, cc, W, hrun, hst14, hgr⟩ := StrsAt.snocO own2 HAL.out (by omega) (Nat.le_trans HOB.out hbf.size) s13
          simp only [relF, List.getD_cons_zero, List.getD_cons_succ, List.foldl_cons, List.foldl_nil, dstAt, List.getElem?_cons_zero, List.getElem?_cons_succ, Option.bind_some]
          go_frame
          rw [h9, h11, e13]
          go_wp2_with ((with_reducible show wpList _ _ _ (⟨some 56, _, _, _, _, _⟩ :: _) _ _); refine wpList_append_ran (by kernel_rfl) _ _ _ rfl _ _ rfl rfl hrun ?_)
          exact ⟨rfl, (by rw [HG14.out] at hgr; exact hgr), rfl, q, cc, rfl, hst14⟩
        | 15, _, hi =>
          obtain rfl := Option.some.inj hi
          have h9 : vs 9 = _ := hv 9 (by decide)
          have h10 : vs 10 = _ := hv 10 (by decide)
          obtain ⟨q14, c14, e14, s14⟩ := hv 14 (by decide)
          have hsm := refSame_any w2 _ _ _ _ _ _ _ _ (HM.out.grown hg HMR.out) s14
          rw [decide_eq_true rfl] at hsm
          simp only [relF, List.getD_cons_zero, List.getD_cons_succ, List.foldl_cons, List.foldl_nil, dstAt, List.getElem?_cons_zero, List.getElem?_cons_succ, Option.bind_some]
          go_frame
          rw [h9, h10, e14]
          go_wp2_with fail
          refine (hsm).mono ?_
          rintro e w3 ⟨rfl, b3⟩
          go_wp2_with fail
          exact ⟨rfl, b3, rfl, rfl⟩
        | 16, _, hi =>
          obtain rfl := Option.some.inj hi
          have h9 : vs 9 = _ := hv 9 (by decide)
          have h15 : vs 15 = _ := hv 15 (by decide)
          simp only [relF, List.getD_cons_zero, List.getD_cons_succ, List.foldl_cons, List.foldl_nil, dstAt, List.getElem?_cons_zero, List.getElem?_cons_succ, Option.bind_some]
          go_frame
          rw [h9, h15]
          go_wp2_with fail
          exact ⟨rfl, Below.refl _ _, rfl, rfl⟩
        | 17, _, hi =>
          obtain rfl := Option.some.inj hi
          have h16 : vs 16 = _ := hv 16 (by decide)
          simp only [relF, List.getD_cons_zero, List.getD_cons_succ, List.foldl_cons, List.foldl_nil, dstAt, List.getElem?_cons_zero, List.getElem?_cons_succ, Option.bind_some]
          go_frame
          rw [h16]
          go_wp2_with fail
          exact ⟨rfl, Below.refl _ _, rfl, rfl⟩
        | 18, _, hi =>
          obtain rfl := Option.some.inj hi
          have h17 : vs 17 = _ := hv 17 (by decide)
          simp only [relF, List.getD_cons_zero, List.getD_cons_succ, List.foldl_cons, List.foldl_nil, dstAt, List.getElem?_cons_zero, List.getElem?_cons_succ, Option.bind_some]
          go_frame
          rw [h17]
          go_wp2_with fail
          exact ⟨rfl, Below.refl _ _, rfl, rfl⟩
        | 19, _, hi =>
          obtain rfl := Option.some.inj hi
          have h17 : vs 17 = _ := hv 17 (by decide)
          simp only [relF, List.getD_cons_zero, List.getD_cons_succ, List.foldl_cons, List.foldl_nil, dstAt, List.getElem?_cons_zero, List.getElem?_cons_succ, Option.bind_some]
          go_frame
          rw [h17]
          go_wp2_with fail
          exact ⟨rfl, Below.refl _ _, rfl, rfl⟩
        | 20, _, hi =>
          obtain rfl := Option.some.inj hi
          have h17 : vs 17 = _ := hv 17 (by decide)
          have h19 : vs 19 = _ := hv 19 (by decide)
          have hst := strOf_size F
          simp only [relF, List.getD_cons_zero, List.getD_cons_succ, List.foldl_cons, List.foldl_nil, dstAt, List.getElem?_cons_zero, List.getElem?_cons_succ, Option.bind_some]
          go_frame
          rw [h17, h19]
          go_wp2_with fail
          exact ⟨rfl, Below.refl _ _, rfl, rfl⟩
        | 21, _, hi =>
          obtain rfl := Option.some.inj hi
          have h17 : vs 17 = _ := hv 17 (by decide)
          have h18 : vs 18 = _ := hv 18 (by decide)
          have h20 : vs 20 = _ := hv 20 (by decide)
          simp only [relF, List.getD_cons_zero, List.getD_cons_succ, List.foldl_cons, List.foldl_nil, dstAt, List.getElem?_cons_zero, List.getElem?_cons_succ, Option.bind_some]
          go_frame
          rw [h17, h18, h20]
          go_wp2_with fail
          exact ⟨rfl, Below.refl _ _, rfl, by first | rfl | (show slotOf _ _ = _; simp [slotOf])⟩
        | 22, _, hi =>
          obtain rfl := Option.some.inj hi
          have h17 : vs 17 = _ := hv 17 (by decide)
          have h21 : vs 21 = _ := hv 21 (by decide)
          simp only [relF, List.getD_cons_zero, List.getD_cons_succ, List.foldl_cons, List.foldl_nil, dstAt, List.getElem?_cons_zero, List.getElem?_cons_succ, Option.bind_some]
          go_frame
          rw [h17, h21]
          go_wp2_with fail
          exact ⟨rfl, Below.refl _ _, rfl, rfl⟩
        | 23, _, hi =>
          obtain rfl := Option.some.inj hi
          have h22 : vs 22 = _ := hv 22 (by decide)
          simp only [relF, List.getD_cons_zero, List.getD_cons_succ, List.foldl_cons, List.foldl_nil, dstAt, List.getElem?_cons_zero, List.getElem?_cons_succ, Option.bind_some]
          go_frame
          rw [h22]
          go_wp2_with fail
          exact ⟨rfl, Below.refl _ _, rfl, rfl⟩
        | 24, _, hi =>
          obtain rfl := Option.some.inj hi
          have h23 : vs 23 = _ := hv 23 (by decide)
          simp only [relF, List.getD_cons_zero, List.getD_cons_succ, List.foldl_cons, List.foldl_nil, dstAt, List.getElem?_cons_zero, List.getElem?_cons_succ, Option.bind_some]
          go_frame
          rw [h23]
          go_wp2_with fail
          exact ⟨rfl, Below.refl _ _, rfl, rfl⟩
        | 25, _, hi =>
          obtain rfl := Option.some.inj hi
          have h23 : vs 23 = _ := hv 23 (by decide)
          simp only [relF, List.getD_cons_zero, List.getD_cons_succ, List.foldl_cons, List.foldl_nil, dstAt, List.getElem?_cons_zero, List.getElem?_cons_succ, Option.bind_some]
          go_frame
          rw [h23]
          go_wp2_with fail
          exact ⟨rfl, Below.refl _ _, rfl, rfl⟩
        | 26, _, hi =>
          obtain rfl := Option.some.inj hi
          have h23 : vs 23 = _ := hv 23 (by decide)
          have h24 : vs 24 = _ := hv 24 (by decide)
          have h25 : vs 25 = _ := hv 25 (by decide)
          have hx := strOf_extract F 0 u
          rw [Nat.sub_zero, List.drop_zero] at hx
          have hsF := strOf_size F
          simp only [relF, List.getD_cons_zero, List.getD_cons_succ, List.foldl_cons, List.foldl_nil, dstAt, List.getElem?_cons_zero, List.getElem?_cons_succ, Option.bind_some]
          go_frame
          rw [h23, h24, h25]
          go_wp2_with fail
          exact ⟨rfl, Below.refl _ _, rfl, by first | rfl | (show slotOf _ _ = _; simp [slotOf, strOf_extract])⟩
        | 27, _, hi =>
          obtain rfl := Option.some.inj hi
          have h23 : vs 23 = _ := hv 23 (by decide)
          simp only [relF, List.getD_cons_zero, List.getD_cons_succ, List.foldl_cons, List.foldl_nil, dstAt, List.getElem?_cons_zero, List.getElem?_cons_succ, Option.bind_some]
          go_frame
          rw [h23]
          go_wp2_with fail
          exact ⟨rfl, Below.refl _ _, rfl, rfl⟩
        | 28, _, hi =>
          obtain rfl := Option.some.inj hi
          have h23 : vs 23 = _ := hv 23 (by decide)
          simp only [relF, List.getD_cons_zero, List.getD_cons_succ, List.foldl_cons, List.foldl_nil, dstAt, List.getElem?_cons_zero, List.getElem?_cons_succ, Option.bind_some]
          go_frame
          rw [h23]
          go_wp2_with fail
          exact ⟨rfl, Below.refl _ _, rfl, rfl⟩
        | 29, _, hi =>
          obtain rfl := Option.some.inj hi
          have h23 : vs 23 = _ := hv 23 (by decide)
          have h27 : vs 27 = _ := hv 27 (by decide)
          have h28 : vs 28 = _ := hv 28 (by decide)
          have hx := strOf_extract log 0 u
          rw [Nat.sub_zero, List.drop_zero] at hx
          have hsl := strOf_size log
          simp only [relF, List.getD_cons_zero, List.getD_cons_succ, List.foldl_cons, List.foldl_nil, dstAt, List.getElem?_cons_zero, List.getElem?_cons_succ, Option.bind_some]
          go_frame
          rw [h23, h27, h28]
          go_wp2_with fail
          exact ⟨rfl, Below.refl _ _, rfl, by first | rfl | (show slotOf _ _ = _; simp [slotOf, strOf_extract])⟩
        | 30, _, hi =>
          obtain rfl := Option.some.inj hi
          have h23 : vs 23 = _ := hv 23 (by decide)
          have h26 : vs 26 = _ := hv 26 (by decide)
          have h29 : vs 29 = _ := hv 29 (by decide)
          have hse := HTK.out
          simp only [relF, List.getD_cons_zero, List.getD_cons_succ, List.foldl_cons, List.foldl_nil, dstAt, List.getElem?_cons_zero, List.getElem?_cons_succ, Option.bind_some]
          go_frame
          rw [h23, h26, h29]
          go_wp2_with fail
          exact ⟨rfl, Below.refl _ _, rfl, rfl⟩
        | 31, _, hi =>
          obtain rfl := Option.some.inj hi
          have h23 : vs 23 = _ := hv 23 (by decide)
          have h30 : vs 30 = _ := hv 30 (by decide)
          simp only [relF, List.getD_cons_zero, List.getD_cons_succ, List.foldl_cons, List.foldl_nil, dstAt, List.getElem?_cons_zero, List.getElem?_cons_succ, Option.bind_some]
          go_frame
          rw [h23, h30]
          go_wp2_with fail
          exact ⟨rfl, Below.refl _ _, rfl, rfl⟩
        | 32, _, hi =>
          obtain rfl := Option.some.inj hi
          have h31 : vs 31 = _ := hv 31 (by decide)
          simp only [relF, List.getD_cons_zero, List.getD_cons_succ, List.foldl_cons, List.foldl_nil, dstAt, List.getElem?_cons_zero, List.getElem?_cons_succ, Option.bind_some]
          go_frame
          rw [h31]
          go_wp2_with fail
          exact ⟨rfl, Below.refl _ _, rfl, rfl⟩
        | 33, _, hi =>
          obtain rfl := Option.some.inj hi
          have h32 : vs 32 = _ := hv 32 (by decide)
          have xb := (hg.block w.heap.size (lt_of_block XB.out) HBR.out).trans XB.out
          simp only [relF, List.getD_cons_zero, List.getD_cons_succ, List.foldl_cons, List.foldl_nil, dstAt, List.getElem?_cons_zero, List.getElem?_cons_succ, Option.bind_some]
          go_frame
          rw [h32]
          go_wp2_with ((with_reducible show wpList _ _ _ (⟨some 75, _, _, _, _, _⟩ :: _) _ _); refine wpList_load_hash (op := ⟨some 75, _, _, _, _, _⟩) (by kernel_rfl) _ rfl w.heap.size rfl la HLA.out _ _ xb ?_)
          exact ⟨rfl, Below.refl _ _, rfl, rfl⟩
        | 34, _, hi =>
          obtain rfl := Option.some.inj hi
          have h32 : vs 32 = _ := hv 32 (by decide)
          simp only [relF, List.getD_cons_zero, List.getD_cons_succ, List.foldl_cons, List.foldl_nil, dstAt, List.getElem?_cons_zero, List.getElem?_cons_succ, Option.bind_some]
          go_frame
          rw [h32]
          go_wp2_with fail
          exact ⟨rfl, Below.refl _ _, rfl, rfl⟩
        | 35, _, hi =>
          obtain rfl := Option.some.inj hi
          have h32 : vs 32 = _ := hv 32 (by decide)
          have h33 : vs 33 = _ := hv 33 (by decide)
          have h34 : vs 34 = _ := hv 34 (by decide)
          simp only [relF, List.getD_cons_zero, List.getD_cons_succ, List.foldl_cons, List.foldl_nil, dstAt, List.getElem?_cons_zero, List.getElem?_cons_succ, Option.bind_some]
          go_frame
          rw [h32, h33, h34]
          go_wp2_with fail
          refine (jSum_any w2 la r HLA.out (by omega) hL2).mono ?_
          rintro e w3 ⟨rfl, b3⟩
          go_wp2_with fail
          exact ⟨rfl, b3, rfl, rfl⟩
        | 36, _, hi =>
          obtain rfl := Option.some.inj hi
          have h32 : vs 32 = _ := hv 32 (by decide)
          have xb := (hg.block w.heap.size (lt_of_block XB.out) HBR.out).trans XB.out
          simp only [relF, List.getD_cons_zero, List.getD_cons_succ, List.foldl_cons, List.foldl_nil, dstAt, List.getElem?_cons_zero, List.getElem?_cons_succ, Option.bind_some]
          go_frame
          rw [h32]
          go_wp2_with ((with_reducible show wpList _ _ _ (⟨some 78, _, _, _, _, _⟩ :: _) _ _); refine wpList_load_hash (op := ⟨some 78, _, _, _, _, _⟩) (by kernel_rfl) _ rfl w.heap.size rfl la HLA.out _ _ xb ?_)
          exact ⟨rfl, Below.refl _ _, rfl, rfl⟩
        | 37, _, hi =>
          obtain rfl := Option.some.inj hi
          have h32 : vs 32 = _ := hv 32 (by decide)
          simp only [relF, List.getD_cons_zero, List.getD_cons_succ, List.foldl_cons, List.foldl_nil, dstAt, List.getElem?_cons_zero, List.getElem?_cons_succ, Option.bind_some]
          go_frame
          rw [h32]
          go_wp2_with fail
          exact ⟨rfl, Below.refl _ _, rfl, rfl⟩
        | 38, _, hi =>
          obtain rfl := Option.some.inj hi
          have h32 : vs 32 = _ := hv 32 (by decide)
          have h36 : vs 36 = _ := hv 36 (by decide)
          have h37 : vs 37 = _ := hv 37 (by decide)
          simp only [relF, List.getD_cons_zero, List.getD_cons_succ, List.foldl_cons, List.foldl_nil, dstAt, List.getElem?_cons_zero, List.getElem?_cons_succ, Option.bind_some]
          go_frame
          rw [h32, h36, h37]
          go_wp2_with fail
          refine (refSumH_any w2 la r HLA.out (by omega)).mono ?_
          rintro e w3 ⟨rfl, b3⟩
          go_wp2_with fail
          exact ⟨rfl, b3, rfl, rfl⟩
        | 39, _, hi =>
          obtain rfl := Option.some.inj hi
          have h32 : vs 32 = _ := hv 32 (by decide)
          have h35 : vs 35 = _ := hv 35 (by decide)
          have h38 : vs 38 = _ := hv 38 (by decide)
          simp only [relF, List.getD_cons_zero, List.getD_cons_succ, List.foldl_cons, List.foldl_nil, dstAt, List.getElem?_cons_zero, List.getElem?_cons_succ, Option.bind_some]
          go_frame
          rw [h32, h35, h38]
          go_wp2_with ((with_reducible show wpList _ _ _ (⟨some 81, _, _, _, _, _⟩ :: _) _ _); refine wpList_eql_hash (op := ⟨some 81, _, _, _, _, _⟩) (by kernel_rfl) _ _ rfl (J.sum la r) (J.sum la r) (J.sum_len _ _) (J.sum_len _ _) rfl rfl ?_; rw [beq_self_eq_true])
          exact ⟨rfl, Below.refl _ _, rfl, rfl⟩
        | 40, _, hi =>
          obtain rfl := Option.some.inj hi
          have h32 : vs 32 = _ := hv 32 (by decide)
          have h39 : vs 39 = _ := hv 39 (by decide)
          simp only [relF, List.getD_cons_zero, List.getD_cons_succ, List.foldl_cons, List.foldl_nil, dstAt, List.getElem?_cons_zero, List.getElem?_cons_succ, Option.bind_some]
          go_frame
          rw [h32, h39]
          go_wp2_with fail
          exact ⟨rfl, Below.refl _ _, rfl, rfl⟩
        | 41, _, hi =>
          obtain rfl := Option.some.inj hi
          have h40 : vs 40 = _ := hv 40 (by decide)
          simp only [relF, List.getD_cons_zero, List.getD_cons_succ, List.foldl_cons, List.foldl_nil, dstAt, List.getElem?_cons_zero, List.getElem?_cons_succ, Option.bind_some]
          go_frame
          rw [h40]
          go_wp2_with fail
          exact ⟨rfl, Below.refl _ _, rfl, rfl⟩
        | nx + 42, him, _ => exact absurd him (by omega)
      · intro w2 hI vs hv
        obtain ⟨hbf0, hg⟩ := hI
        have hL2 := HL.out.below (HBW.out.trans (grown_below hg HRL.out HBW.out.size))
        obtain ⟨hn1, hn2, hn3, hn4, hn5, hn6⟩ := HNN.out
        have h41 : vs 41 = _ := hv 41 (by decide)
        simp only [relF, List.drop_succ_cons, List.drop_zero, List.length_cons, List.length_nil, Nat.zero_add, Nat.reduceAdd, List.range, List.range.loop, List.foldl_cons, List.foldl_nil, dstAt, List.getElem?_cons_zero, List.getElem?_cons_succ, Option.bind_some]
        go_frame
        rw [h41]
        go_wp2_with fail
        go_ret
        exact ⟨rfl, HB0.out.trans (grown_below hg HRL0.out HB0.out.size)⟩

theorem jappends_law (w : World) (log : ByteArray) (hlog : log.size ≤ 140737488351232) (r : ByteArray) (hr : r.size ≤ 140737488351232) (la : List UInt8) (hla : la.length = 32) (hL : Laid w) :
    Calls Tryd.prog 4 #[.string log, .string r, .agg (byteCells la).toArray] w fun e w' => e = .returned (.bool true) ∧ Below w.heap.size w w' := by
  have h := jappends_list w log.data.toList (by rw [← strOf_size, strOf_data]; exact hlog) r.data.toList (by rw [← strOf_size, strOf_data]; exact hr) la hla hL
  rwa [strOf_data, strOf_data] at h

end Go.Proofs.YtjlaoijmcenahaaDoor
