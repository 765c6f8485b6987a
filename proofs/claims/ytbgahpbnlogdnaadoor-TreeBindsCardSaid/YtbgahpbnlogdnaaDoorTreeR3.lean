/- The walks of the reference's Deep, up, Check. -/
import Derived.Test.YtbgahpbnlogdnaaDoorTreeR2
namespace Go.Proofs.YtbgahpbnlogdnaaDoor
open Go.RowKit
set_option linter.unusedSimpArgs false
set_option linter.unusedVariables false

theorem HashesAt.take {w : World} {o : Option Addr} {n cap : Nat} {P : List (List UInt8)} (h : HashesAt w o n cap P) (k c : Nat) (hk : k ≤ n) (hc : k ≤ c) (hm : c ≤ 9223372036854775807) : HashesAt w o k c (P.take k) := by
  refine ⟨⟨by rw [List.length_take, h.1.1]; omega, hc, hm, fun h0 => ?_⟩, fun p hp => h.2 p (List.mem_of_mem_take hp)⟩
  obtain ⟨b, off, h5, h6, h7⟩ := h.1.2.2.2 (by omega)
  refine ⟨b, off, h5, h6, fun i l hl => h7 i l ?_⟩
  rw [List.getElem?_take] at hl
  split at hl
  · exact hl
  · cases hl

/-- The reference's Deep: bad and good. -/
def badDeep (n i : Int) : Bool := badSide n i

set_option maxRecDepth 100000 in
theorem refDeep_bad (w : World) (n i : Int) (hb : badSide n i = true) :
    Calls Tryd.prog 30 #[.int .i64 n, .int .i64 i] w fun e w' => w = w' ∧ e = .returned (.int .i64 0) := by
  unfold badSide at hb
  rcases hx : decide ((1073741824 : Int) < n) with _ | _
  · rcases hy : decide (i < 0) with _ | _
    · have hz : decide (n ≤ i) = true := by rw [hx, hy] at hb; simpa using hb
      clear hb
      go_enter Tryd.func30, Tryd.ntmps30
      go_wp2_with fail
      go_ret
      exact ⟨rfl, rfl⟩
    · clear hb
      go_enter Tryd.func30, Tryd.ntmps30
      go_wp2_with fail
      go_ret
      exact ⟨rfl, rfl⟩
  · clear hb
    go_enter Tryd.func30, Tryd.ntmps30
    go_wp2_with fail
    go_ret
    exact ⟨rfl, rfl⟩

set_option maxRecDepth 100000 in
set_option maxHeartbeats 1000000 in
theorem refDeep_any (N : Nat) : ∀ (w : World) (n i : Nat), n = N → i < n → n ≤ 1073741824 →
    Calls Tryd.prog 30 #[.int .i64 (n : Int), .int .i64 (i : Int)] w fun e w' => w = w' ∧ e = .returned (.int .i64 ((Tree.sides n i).length : Int)) := by
  induction N using Nat.strongRecOn with
  | ind N ih =>
  intro w n i hN h1 h2
  subst hN
  have IH := Lib.hid ih; clear ih
  have hx : decide ((1073741824 : Int) < (n : Int)) = false := decide_eq_false (by omega)
  have hy : decide ((i : Int) < 0) = false := decide_eq_false (by omega)
  have hz : decide ((n : Int) ≤ (i : Int)) = false := decide_eq_false (by omega)
  have hz' : decide (n ≤ i) = false := decide_eq_false (by omega)
  have hlen := Tree.sides_len 30 n i h1 h2
  by_cases h : 2 ≤ n
  · have ht1 : ((n : Int) == 1) = false := by rw [beq_eq_false_iff_ne]; omega
    obtain ⟨k, hk⟩ : ∃ k, k = Tree.half n := ⟨_, rfl⟩
    have hk1 : 1 ≤ k := by rw [hk]; exact Tree.half_pos h
    have hkn : k < n := by rw [hk]; exact Tree.half_lt h
    have hhalf := refHalfOf_any w n h (by omega)
    rw [← hk] at hhalf
    have HH := Lib.hid hhalf; clear hhalf
    by_cases hl : i < k
    · have hsd := Tree.sides_left h (by rw [← hk]; exact hl)
      rw [← hk] at hsd
      rw [hsd] at hlen ⊢
      have ht2 : decide ((i : Int) < (k : Int)) = true := decide_eq_true (by omega)
      have ht2' : decide (i < k) = true := decide_eq_true (by omega)
      have hc := IH.out k hkn w k i rfl hl (by omega)
      have HC := Lib.hid hc; clear hc hsd hk
      rw [List.length_cons] at hlen ⊢
      go_enter Tryd.func30, Tryd.ntmps30
      go_wp2_with fail
      refine HH.out.mono ?_
      rintro e w' ⟨rfl, rfl⟩
      go_wp2_with fail
      refine HC.out.mono ?_
      rintro e w' ⟨rfl, rfl⟩
      go_wp2_with fail
      go_ret
      exact ⟨rfl, by go_num⟩
    · have hsd := Tree.sides_right h (by rw [← hk]; exact hl)
      rw [← hk] at hsd
      rw [hsd] at hlen ⊢
      have ht2 : decide ((i : Int) < (k : Int)) = false := decide_eq_false (by omega)
      have ht2' : decide (i < k) = false := decide_eq_false (by omega)
      have hc := IH.out (n - k) (by omega) w (n - k) (i - k) rfl (by omega) (by omega)
      have e1 : ((n - k : Nat) : Int) = (n : Int) - k := by omega
      have e2 : ((i - k : Nat) : Int) = (i : Int) - k := by omega
      rw [e1, e2] at hc
      have HC := Lib.hid hc; clear hc hsd hk e1 e2
      rw [List.length_cons] at hlen ⊢
      go_enter Tryd.func30, Tryd.ntmps30
      go_wp2_with fail
      refine HH.out.mono ?_
      rintro e w' ⟨rfl, rfl⟩
      go_wp2_with fail
      refine HC.out.mono ?_
      rintro e w' ⟨rfl, rfl⟩
      go_wp2_with fail
      go_ret
      exact ⟨rfl, by go_num⟩
  · obtain rfl : n = 1 := by omega
    obtain rfl : i = 0 := by omega
    have hsd := Tree.sides_small (n := 1) h 0
    rw [hsd]
    clear hsd
    go_enter Tryd.func30, Tryd.ntmps30
    go_wp2_with fail
    go_ret
    exact ⟨rfl, rfl⟩

theorem climb_snoc {t x : List UInt8} {b : Bool} {sd : List Bool} {p : List (List UInt8)} (h : sd.length = p.length) : Tree.climb t (b :: sd) (p ++ [x]) = Tree.step (Tree.climb t sd p) (b, x) := by
  unfold Tree.climb
  rw [List.reverse_cons, List.zip_append (by rw [List.length_reverse, h]), List.foldl_append]
  rfl

theorem take_last {P : List (List UInt8)} {m : Nat} {x : List UInt8} (hl : P.length = m + 1) (hx : P[m]? = some x) : P = P.take m ++ [x] := by
  have := List.take_add_one (l := P) (i := m)
  rw [hx, List.take_of_length_le (by omega)] at this
  exact this

set_option maxRecDepth 100000 in
set_option maxHeartbeats 2000000 in
theorem refUp_any (N : Nat) : ∀ (w : World) (n i : Nat) (l : List UInt8) (o : Option Addr) (m cap : Nat) (P : List (List UInt8)), n = N → i < n → n ≤ 1073741824 → l.length ≤ 100000 → HashesAt w o m cap P →
    Calls Tryd.prog 42 #[.int .i64 (n : Int), .int .i64 (i : Int), .string (strOf l), .slice o m cap] w fun e w' => ∃ T, e = .returned (.tuple #[.string (strOf T), .bool (decide ((Tree.sides n i).length = P.length))]) ∧ T.length ≤ 32 ∧ ((Tree.sides n i).length = P.length → T = Tree.climb (Tree.leaf l) (Tree.sides n i) P) ∧ Below w.heap.size w w' := by
  induction N using Nat.strongRecOn with
  | ind N ih =>
  intro w n i l o m cap P hN h1 h2 hl hP
  subst hN
  have IH := Lib.hid ih; clear ih
  have hPm : P.length = m := hP.1.1
  have hcap : m ≤ cap := hP.1.2.1
  have hmax : cap ≤ 9223372036854775807 := hP.1.2.2.1
  have HP := Lib.hid hP; clear hP
  by_cases h : 2 ≤ n
  · have ht1 : ((n : Int) == 1) = false := by rw [beq_eq_false_iff_ne]; omega
    have hs1 : 1 ≤ (Tree.sides n i).length := by
      by_cases hl : i < Tree.half n
      · rw [Tree.sides_left h hl]; simp
      · rw [Tree.sides_right h hl]; simp
    rcases m with _ | m
    · have hf : decide ((Tree.sides n i).length = P.length) = false := decide_eq_false (by omega)
      have hne : ¬ (Tree.sides n i).length = P.length := by omega
      rw [hf]
      have HNE := Lib.hid hne; clear hne
      clear hf
      go_enter Tryd.func42, Tryd.ntmps42
      go_wp2_with fail
      go_ret2
      exact ⟨[], rfl, by simp, fun hh => absurd hh HNE.out, Below.refl _ _⟩
    · obtain ⟨b, off, rfl⟩ := HP.out.form (by omega)
      have ht3 : (((m + 1 : Nat) : Int) == 0) = false := by rw [beq_eq_false_iff_ne]; omega
      have ht3' : ((m : Int) + 1 == 0) = false := by rw [beq_eq_false_iff_ne]; omega
      obtain ⟨x, hx⟩ : ∃ x, P[m]? = some x := ⟨_, List.getElem?_eq_getElem (by omega)⟩
      have hxl := HP.out.2 x (List.mem_of_getElem? hx)
      have hxr := HP.out.get hx
      have hPt := take_last hPm hx
      have HXL := Lib.hid hxl; clear hxl
      have HXR := Lib.hid hxr.2
      have hbw := hxr.1
      clear hxr
      obtain ⟨P', hP'⟩ : ∃ P', P' = P.take m := ⟨_, rfl⟩
      rw [← hP'] at hPt
      have hPl' : P'.length = m := by rw [hP', List.length_take]; omega
      have HP' := Lib.hid (HP.out.take m cap (by omega) (by omega) hmax)
      rw [← hP'] at HP'
      have HPT := Lib.hid hPt; clear hPt hP'
      obtain ⟨k, hk⟩ : ∃ k, k = Tree.half n := ⟨_, rfl⟩
      have hk1 : 1 ≤ k := by rw [hk]; exact Tree.half_pos h
      have hkn : k < n := by rw [hk]; exact Tree.half_lt h
      have hhalf := refHalfOf_any w n h (by omega)
      rw [← hk] at hhalf
      have HH := Lib.hid hhalf; clear hhalf
      obtain ⟨W1, hW1⟩ : ∃ W1, W1 = hset (w.alloc (.cells zero32 26)) w.heap.size x := ⟨_, rfl⟩
      have x1 : W1.heap[w.heap.size]? = some (.cells (byteCells x).toArray 26 (0, 0)) := by rw [hW1]; exact hset_heap _ (heap_alloc_new w _)
      have b1 : Below w.heap.size w W1 := by rw [hW1]; exact hset_below _ ((Below.refl _ _).alloc (Nat.le_refl _) _) (Nat.le_refl _)
      have HW1 := Lib.hid hW1; clear hW1
      have X1 := Lib.hid x1; clear x1
      have hP1 := HP'.out.below (Nat.le_refl _) b1
      have HP1 := Lib.hid hP1; clear hP1
      have HK := Lib.hid hk; clear hk
      have HPL' := Lib.hid hPl'; clear hPl'
      have HX := Lib.hid hx; clear hx
      clear hs1
      have htm : ((m : Int) + 1 - 1) = (m : Int) := by omega
      by_cases hlt : i < k
      · have hsd := Tree.sides_left h (by rw [← HK.out]; exact hlt)
        rw [← HK.out] at hsd
        have ht2 : decide ((i : Int) < (k : Int)) = true := decide_eq_true (by omega)
        have ht2' : decide (i < k) = true := decide_eq_true (by omega)
        obtain ⟨sd, hsd'⟩ : ∃ sd, sd = Tree.sides k i := ⟨_, rfl⟩
        have hc := IH.out k (by omega) W1 k i l _ m cap P' rfl (by omega) (by omega) hl HP1.out
        rw [← hsd'] at hc hsd
        have hde : decide ((Tree.sides n i).length = P.length) = decide (sd.length = P'.length) := by rw [hsd, HPT.out, List.length_append, List.length_cons, List.length_cons, List.length_nil]; congr 1; simp
        have hcl : (Tree.sides n i).length = P.length → sd.length = P'.length ∧ Tree.climb (Tree.leaf l) (Tree.sides n i) P = Tree.step (Tree.climb (Tree.leaf l) sd P') (true, x) := fun hh => by
          have hq : sd.length = P'.length := by rw [hsd, HPT.out, List.length_append, List.length_cons, List.length_cons, List.length_nil] at hh; omega
          exact ⟨hq, by rw [hsd, HPT.out]; exact climb_snoc hq⟩
        rw [hde]
        have HC := Lib.hid hc; clear hc
        have HCL := Lib.hid hcl; clear hcl hde hsd hsd'
        go_enter Tryd.func42, Tryd.ntmps42
        go_wp2_with fail
        refine HH.out.mono ?_
        rintro e w' ⟨rfl, rfl⟩
        go_wp2_with (first | ((with_reducible show wpList _ _ _ (⟨some 33, _, _, _, _, _⟩ :: _) _ _); refine wpList_load_hashAt (op := ⟨some 33, _, _, _, _, _⟩) rfl _ rfl b (off + m * 32) rfl x HXL.out HXR.out ?_) | ((with_reducible show wpList _ _ _ (⟨none, .store 26 (.tmp 11) (.tmp 33), _, _, _, _⟩ :: _) _ _); change wpList _ _ _ _ _ (World.alloc w (.cells zero32 26)); refine wpList_put_hash (o := ⟨none, .store _ _ _, _, _, _, _⟩) rfl _ _ rfl _ rfl x HXL.out rfl _ _ (heap_alloc_new _ _) zero32_size ?_; rw [← HW1.out]))
        refine HC.out.mono ?_
        rintro e w2 ⟨T, rfl, hT, hT2, b2⟩
        have x2 := (b2.block _ (lt_of_block X1.out)).trans X1.out
        have B2 := b1.trans (b2.mono b1.size)
        have hcv := hash_str HXL.out x2
        have hn := refNodeOf_any w2 T x hT (by have := HXL.out; omega)
        have HN := Lib.hid hn; clear hn
        have HT2 := Lib.hid hT2; clear hT2
        obtain ⟨R, hR⟩ : ∃ R, R = decide (sd.length = P'.length) := ⟨_, rfl⟩
        rw [← hR]
        have HR := Lib.hid hR; clear hR
        go_wp2_with fail
        refine HN.out.mono ?_
        rintro e w3 ⟨rfl, b3⟩
        go_wp2_with fail
        go_ret2
        exact ⟨Tree.node T x, by rw [← HR.out]; rfl, by rw [Tree.node_len]; omega, fun hh => by rw [(HCL.out hh).2, ← HT2.out (HCL.out hh).1]; rfl, B2.trans (b3.mono B2.size)⟩
      · have hsd := Tree.sides_right h (by rw [← HK.out]; exact hlt)
        rw [← HK.out] at hsd
        have ht2 : decide ((i : Int) < (k : Int)) = false := decide_eq_false (by omega)
        have ht2' : decide (i < k) = false := decide_eq_false (by omega)
        obtain ⟨sd, hsd'⟩ : ∃ sd, sd = Tree.sides (n - k) (i - k) := ⟨_, rfl⟩
        have hc := IH.out (n - k) (by omega) W1 (n - k) (i - k) l _ m cap P' rfl (by omega) (by omega) hl HP1.out
        have e1 : ((n - k : Nat) : Int) = (n : Int) - k := by omega
        have e2 : ((i - k : Nat) : Int) = (i : Int) - k := by omega
        rw [e1, e2] at hc
        rw [← hsd'] at hc hsd
        have hde : decide ((Tree.sides n i).length = P.length) = decide (sd.length = P'.length) := by rw [hsd, HPT.out, List.length_append, List.length_cons, List.length_cons, List.length_nil]; congr 1; simp
        have hcl : (Tree.sides n i).length = P.length → sd.length = P'.length ∧ Tree.climb (Tree.leaf l) (Tree.sides n i) P = Tree.step (Tree.climb (Tree.leaf l) sd P') (false, x) := fun hh => by
          have hq : sd.length = P'.length := by rw [hsd, HPT.out, List.length_append, List.length_cons, List.length_cons, List.length_nil] at hh; omega
          exact ⟨hq, by rw [hsd, HPT.out]; exact climb_snoc hq⟩
        rw [hde]
        have HC := Lib.hid hc; clear hc
        have HCL := Lib.hid hcl; clear hcl hde hsd hsd'
        go_enter Tryd.func42, Tryd.ntmps42
        go_wp2_with fail
        refine HH.out.mono ?_
        rintro e w' ⟨rfl, rfl⟩
        go_wp2_with (first | ((with_reducible show wpList _ _ _ (⟨some 33, _, _, _, _, _⟩ :: _) _ _); refine wpList_load_hashAt (op := ⟨some 33, _, _, _, _, _⟩) rfl _ rfl b (off + m * 32) rfl x HXL.out HXR.out ?_) | ((with_reducible show wpList _ _ _ (⟨none, .store 26 (.tmp 11) (.tmp 33), _, _, _, _⟩ :: _) _ _); change wpList _ _ _ _ _ (World.alloc w (.cells zero32 26)); refine wpList_put_hash (o := ⟨none, .store _ _ _, _, _, _, _⟩) rfl _ _ rfl _ rfl x HXL.out rfl _ _ (heap_alloc_new _ _) zero32_size ?_; rw [← HW1.out]))
        refine HC.out.mono ?_
        rintro e w2 ⟨T, rfl, hT, hT2, b2⟩
        have x2 := (b2.block _ (lt_of_block X1.out)).trans X1.out
        have B2 := b1.trans (b2.mono b1.size)
        have hcv := hash_str HXL.out x2
        have hn := refNodeOf_any w2 x T (by have := HXL.out; omega) hT
        have HN := Lib.hid hn; clear hn
        have HT2 := Lib.hid hT2; clear hT2
        obtain ⟨R, hR⟩ : ∃ R, R = decide (sd.length = P'.length) := ⟨_, rfl⟩
        rw [← hR]
        have HR := Lib.hid hR; clear hR
        go_wp2_with fail
        refine HN.out.mono ?_
        rintro e w3 ⟨rfl, b3⟩
        go_wp2_with fail
        go_ret2
        exact ⟨Tree.node x T, by rw [← HR.out]; rfl, by rw [Tree.node_len]; omega, fun hh => by rw [(HCL.out hh).2, ← HT2.out (HCL.out hh).1]; rfl, B2.trans (b3.mono B2.size)⟩
  · obtain rfl : n = 1 := by omega
    have hsd := Tree.sides_small (n := 1) h i
    rw [hsd]
    have hlf := refLeafOf_any w l hl
    have HLF := Lib.hid hlf; clear hlf
    have hde : decide (([] : List Bool).length = P.length) = ((m : Int) == 0) := by
      rw [hPm]
      rcases m with _ | m
      · simp
      · simp; omega
    rw [hde]
    have hcl : ([] : List Bool).length = P.length → Tree.leaf l = Tree.climb (Tree.leaf l) [] P := fun _ => by simp [Tree.climb]
    have HCL := Lib.hid hcl; clear hcl hde hsd
    go_enter Tryd.func42, Tryd.ntmps42
    go_wp2_with fail
    refine HLF.out.mono ?_
    rintro e w1 ⟨rfl, b1⟩
    rcases m with _ | m
    · go_wp2_with fail
      go_ret2
      exact ⟨_, rfl, by rw [Tree.leaf_len]; omega, HCL.out, b1⟩
    · have ht4 : (((m + 1 : Nat) : Int) == 0) = false := by rw [beq_eq_false_iff_ne]; omega
      have ht4' : ((m : Int) + 1 == 0) = false := by rw [beq_eq_false_iff_ne]; omega
      go_wp2_with fail
      go_ret2
      exact ⟨_, rfl, by rw [Tree.leaf_len]; omega, HCL.out, b1⟩

set_option maxRecDepth 100000 in
set_option maxHeartbeats 1000000 in
theorem refCheck_bad (w : World) (want : List UInt8) (n i : Int) (hb : badSide n i = true) (s : ByteArray) (o : Option Addr) (m cap : Nat) :
    Calls Tryd.prog 29 #[.agg (byteCells want).toArray, .int .i64 n, .int .i64 i, .string s, .slice o m cap] w fun e w' => e = .returned (.bool false) ∧ Below w.heap.size w w' := by
  unfold badSide at hb
  rcases hx : decide ((1073741824 : Int) < n) with _ | _
  · rcases hy : decide (i < 0) with _ | _
    · have hz : decide (n ≤ i) = true := by rw [hx, hy] at hb; simpa using hb
      clear hb
      go_enter Tryd.func29, Tryd.ntmps29
      go_wp2_with fail
      go_ret
      exact ⟨rfl, (Below.refl _ _).alloc (Nat.le_refl _) _⟩
    · clear hb
      go_enter Tryd.func29, Tryd.ntmps29
      go_wp2_with fail
      go_ret
      exact ⟨rfl, (Below.refl _ _).alloc (Nat.le_refl _) _⟩
  · clear hb
    go_enter Tryd.func29, Tryd.ntmps29
    go_wp2_with fail
    go_ret
    exact ⟨rfl, (Below.refl _ _).alloc (Nat.le_refl _) _⟩

/-- What the region's operations leave. -/
def rcheckV (want t : List UInt8) (n : Nat) (ix : Nat) (w : World) (v : Value) : Prop :=
  match ix with
  | 0 => v = .bool true
  | 1 => v = .bool true
  | 2 => v = .int .i64 (n : Int)
  | 3 => v = .string (strOf t)
  | 4 => v = .agg (byteCells (Tree.root n t)).toArray
  | 5 => v = .agg (byteCells want).toArray
  | 6 => v = .bool (Tree.root n t == want)
  | 7 => v = .bool (Tree.root n t == want)
  | 8 => v = .bool (Tree.root n t == want)
  | _ => True

theorem rcheckV_mono (want t : List UInt8) (n : Nat) (j : Nat) (w w' : World) (v : Value) (hb : Below w.heap.size w w') (h : rcheckV want t n j w v) : rcheckV want t n j w' v := by
  match j, h with
  | 0, h => exact h
  | 1, h => exact h
  | 2, h => exact h
  | 3, h => exact h
  | 4, h => exact h
  | 5, h => exact h
  | 6, h => exact h
  | 7, h => exact h
  | 8, h => exact h
  | _ + 9, h => exact trivial

/-- What the region's operations leave. -/
def rcheckV0 (want t : List UInt8) (n : Nat) (ix : Nat) (w : World) (v : Value) : Prop :=
  match ix with
  | 0 => v = .bool false
  | 1 => v = .bool false
  | 2 => True
  | 3 => True
  | 4 => True
  | 5 => True
  | 6 => True
  | 7 => v = .bool false
  | 8 => v = .bool false
  | _ => True

theorem rcheckV0_mono (want t : List UInt8) (n : Nat) (j : Nat) (w w' : World) (v : Value) (hb : Below w.heap.size w w') (h : rcheckV0 want t n j w v) : rcheckV0 want t n j w' v := by
  match j, h with
  | 0, h => exact h
  | 1, h => exact h
  | 2, h => exact trivial
  | 3, h => exact trivial
  | 4, h => exact trivial
  | 5, h => exact trivial
  | 6, h => exact trivial
  | 7, h => exact h
  | 8, h => exact h
  | _ + 9, h => exact trivial

set_option maxRecDepth 100000 in
set_option maxHeartbeats 2000000 in
theorem refCheck_any (w : World) (want : List UInt8) (hw : want.length = 32) (n i : Nat) (h1 : i < n) (h2 : n ≤ 1073741824) (l : List UInt8) (hl : l.length ≤ 100000) (o : Option Addr) (m cap : Nat) (P : List (List UInt8)) (hP : HashesAt w o m cap P) :
    Calls Tryd.prog 29 #[.agg (byteCells want).toArray, .int .i64 (n : Int), .int .i64 (i : Int), .string (strOf l), .slice o m cap] w fun e w' => e = .returned (.bool (Tree.check want n i l P)) ∧ Below w.heap.size w w' := by
  have hx : decide ((1073741824 : Int) < (n : Int)) = false := decide_eq_false (by omega)
  have hy : decide ((i : Int) < 0) = false := decide_eq_false (by omega)
  have hz : decide ((n : Int) ≤ (i : Int)) = false := decide_eq_false (by omega)
  have hz' : decide (n ≤ i) = false := decide_eq_false (by omega)
  have hPm : P.length = m := hP.1.1
  have hcap : m ≤ cap := hP.1.2.1
  have hmax : cap ≤ 9223372036854775807 := hP.1.2.2.1
  have hlen := Tree.sides_len 30 n i h1 h2
  obtain ⟨R, hR⟩ : ∃ R, R = Tree.check want n i l P := ⟨_, rfl⟩
  rw [← hR]
  have hR2 : R = (decide ((Tree.sides n i).length = P.length) && (Tree.root n (Tree.climb (Tree.leaf l) (Tree.sides n i) P) == want)) := by rw [hR]; rfl
  clear hR
  have HR := Lib.hid hR2; clear hR2
  by_cases h40 : 40 < m
  · have ht : decide ((40 : Int) < (m : Int)) = true := decide_eq_true (by omega)
    have hRf : R = false := by rw [HR.out, decide_eq_false (by omega), Bool.false_and]
    have HRF := Lib.hid hRf; clear hRf
    go_enter Tryd.func29, Tryd.ntmps29
    go_wp2_with fail
    go_ret
    exact ⟨by rw [HRF.out]; rfl, (Below.refl _ _).alloc (Nat.le_refl _) _⟩
  · have ht : decide ((40 : Int) < (m : Int)) = false := decide_eq_false (by omega)
    obtain ⟨W0, hW0⟩ : ∃ W0, W0 = w.alloc (.cells (byteCells want).toArray 26) := ⟨_, rfl⟩
    have xw : W0.heap[w.heap.size]? = some (.cells (byteCells want).toArray 26 (0, 0)) := by rw [hW0]; exact heap_alloc_new w _
    have b0 : Below w.heap.size w W0 := by rw [hW0]; exact (Below.refl _ _).alloc (Nat.le_refl _) _
    have hc := refUp_any n W0 n i l o m cap P rfl h1 h2 hl (hP.below (Nat.le_refl _) b0)
    have HC := Lib.hid hc; clear hc hP
    have HWL := Lib.hid hw; clear hw
    have HW0 := Lib.hid hW0; clear hW0
    go_enter Tryd.func29, Tryd.ntmps29
    go_wp2_with fail
    rw [← HW0.out]
    refine HC.out.mono ?_
    rintro e w1 ⟨t, rfl, htl, ht2, b1⟩
    have XW := Lib.hid ((b1.block _ (lt_of_block xw)).trans xw)
    have B1 := b0.trans (b1.mono b0.size)
    clear xw
    by_cases hq : (Tree.sides n i).length = P.length
    · have hde : decide ((Tree.sides n i).length = P.length) = true := decide_eq_true hq
      have htc := ht2 hq
      have htl' : t.length = 32 := by rw [htc]; exact Tree.climb_len _ (Tree.leaf_len _) _ _
      have hRt : R = (Tree.root n t == want) := by rw [HR.out, hde, Bool.true_and, ← htc]
      rw [hde]
      have HTL := Lib.hid htl'; clear htl'
      have HRT := Lib.hid hRt; clear hRt
      clear htc ht2 hde hq
      go_wp2_with fail

      refine wp_region_rel [[], [0], [1], [1], [1, 2, 3], [1], [1, 4, 5], [1, 6], [7]] (rcheckV want t n) 45 (by kernel_rfl) (by kernel_rfl) (by kernel_rfl) (rcheckV_mono want t n) ?_ ?_
      · intro ix op hi w2 b2 vs hv
        have him : ix < 9 := (List.getElem?_eq_some_iff.1 hi).1
        have hb0 := b2
        match ix, him, hi with
        | 0, _, hi =>
          obtain rfl := Option.some.inj hi
          simp only [relF, List.getD_cons_zero, List.getD_cons_succ, List.foldl_cons, List.foldl_nil, dstAt, List.getElem?_cons_zero, List.getElem?_cons_succ, Option.bind_some]
          go_wp2_with fail
          exact ⟨rfl, Below.refl _ _, rfl, rfl⟩
        | 1, _, hi =>
          obtain rfl := Option.some.inj hi
          have h0 : vs 0 = _ := hv 0 (by decide)
          simp only [relF, List.getD_cons_zero, List.getD_cons_succ, List.foldl_cons, List.foldl_nil, dstAt, List.getElem?_cons_zero, List.getElem?_cons_succ, Option.bind_some]
          go_frame
          rw [h0]
          go_wp2_with fail
          exact ⟨rfl, Below.refl _ _, rfl, rfl⟩
        | 2, _, hi =>
          obtain rfl := Option.some.inj hi
          have h1 : vs 1 = _ := hv 1 (by decide)
          simp only [relF, List.getD_cons_zero, List.getD_cons_succ, List.foldl_cons, List.foldl_nil, dstAt, List.getElem?_cons_zero, List.getElem?_cons_succ, Option.bind_some]
          go_frame
          rw [h1]
          go_wp2_with fail
          exact ⟨rfl, Below.refl _ _, rfl, rfl⟩
        | 3, _, hi =>
          obtain rfl := Option.some.inj hi
          have h1 : vs 1 = _ := hv 1 (by decide)
          simp only [relF, List.getD_cons_zero, List.getD_cons_succ, List.foldl_cons, List.foldl_nil, dstAt, List.getElem?_cons_zero, List.getElem?_cons_succ, Option.bind_some]
          go_frame
          rw [h1]
          go_wp2_with fail
          exact ⟨rfl, Below.refl _ _, rfl, rfl⟩
        | 4, _, hi =>
          obtain rfl := Option.some.inj hi
          have h1 : vs 1 = _ := hv 1 (by decide)
          have h2 : vs 2 = _ := hv 2 (by decide)
          have h3 : vs 3 = _ := hv 3 (by decide)
          have hr := refRootOf_any w2 n (by omega) t HTL.out
          simp only [relF, List.getD_cons_zero, List.getD_cons_succ, List.foldl_cons, List.foldl_nil, dstAt, List.getElem?_cons_zero, List.getElem?_cons_succ, Option.bind_some]
          go_frame
          rw [h1, h2, h3]
          go_wp2_with fail
          refine (hr).mono ?_
          rintro e w3 ⟨rfl, b3⟩
          go_wp2_with fail
          exact ⟨rfl, b3, rfl, rfl⟩
        | 5, _, hi =>
          obtain rfl := Option.some.inj hi
          have h1 : vs 1 = _ := hv 1 (by decide)
          simp only [relF, List.getD_cons_zero, List.getD_cons_succ, List.foldl_cons, List.foldl_nil, dstAt, List.getElem?_cons_zero, List.getElem?_cons_succ, Option.bind_some]
          go_frame
          rw [h1]
          go_wp2_with ((with_reducible show wpList _ _ _ (⟨some 42, _, _, _, _, _⟩ :: _) _ _); refine wpList_load_hash (op := ⟨some 42, _, _, _, _, _⟩) (by kernel_rfl) _ rfl w.heap.size rfl want HWL.out _ _ ((b2.block _ (lt_of_block XW.out)).trans XW.out) ?_)
          exact ⟨rfl, Below.refl _ _, rfl, rfl⟩
        | 6, _, hi =>
          obtain rfl := Option.some.inj hi
          have h1 : vs 1 = _ := hv 1 (by decide)
          have h4 : vs 4 = _ := hv 4 (by decide)
          have h5 : vs 5 = _ := hv 5 (by decide)
          simp only [relF, List.getD_cons_zero, List.getD_cons_succ, List.foldl_cons, List.foldl_nil, dstAt, List.getElem?_cons_zero, List.getElem?_cons_succ, Option.bind_some]
          go_frame
          rw [h1, h4, h5]
          go_wp2_with ((with_reducible show wpList _ _ _ (⟨some 43, _, _, _, _, _⟩ :: _) _ _); refine wpList_eql_hash (op := ⟨some 43, _, _, _, _, _⟩) (by kernel_rfl) _ _ rfl (Tree.root n t) want (Tree.root_len n t) HWL.out rfl rfl ?_)
          exact ⟨rfl, Below.refl _ _, rfl, rfl⟩
        | 7, _, hi =>
          obtain rfl := Option.some.inj hi
          have h1 : vs 1 = _ := hv 1 (by decide)
          have h6 : vs 6 = _ := hv 6 (by decide)
          simp only [relF, List.getD_cons_zero, List.getD_cons_succ, List.foldl_cons, List.foldl_nil, dstAt, List.getElem?_cons_zero, List.getElem?_cons_succ, Option.bind_some]
          go_frame
          rw [h1, h6]
          go_wp2_with fail
          exact ⟨rfl, Below.refl _ _, rfl, rfl⟩
        | 8, _, hi =>
          obtain rfl := Option.some.inj hi
          have h7 : vs 7 = _ := hv 7 (by decide)
          simp only [relF, List.getD_cons_zero, List.getD_cons_succ, List.foldl_cons, List.foldl_nil, dstAt, List.getElem?_cons_zero, List.getElem?_cons_succ, Option.bind_some]
          go_frame
          rw [h7]
          go_wp2_with fail
          exact ⟨rfl, Below.refl _ _, rfl, rfl⟩
        | nx + 9, him, _ => exact absurd him (by omega)
      · intro w2 b2 vs hv
        have hb0 := b2
        have h8 : vs 8 = _ := hv 8 (by decide)
        simp only [relF, List.length_cons, List.length_nil, Nat.zero_add, Nat.reduceAdd, List.range, List.range.loop, List.foldl_cons, List.foldl_nil, dstAt, List.getElem?_cons_zero, List.getElem?_cons_succ, Option.bind_some]
        go_frame
        rw [h8]
        go_wp2_with fail
        go_ret
        exact ⟨by rw [HRT.out]; rfl, B1.trans (b2.mono B1.size)⟩
    · have hde : decide ((Tree.sides n i).length = P.length) = false := decide_eq_false hq
      have hRf : R = false := by rw [HR.out, hde, Bool.false_and]
      rw [hde]
      have HRF := Lib.hid hRf; clear hRf
      clear ht2 hde hq
      go_wp2_with fail

      refine wp_region_rel [[], [0], [1], [1], [1, 2, 3], [1], [1, 4, 5], [1, 6], [7]] (rcheckV0 want t n) 45 (by kernel_rfl) (by kernel_rfl) (by kernel_rfl) (rcheckV0_mono want t n) ?_ ?_
      · intro ix op hi w2 b2 vs hv
        have him : ix < 9 := (List.getElem?_eq_some_iff.1 hi).1
        have hb0 := b2
        match ix, him, hi with
        | 0, _, hi =>
          obtain rfl := Option.some.inj hi
          simp only [relF, List.getD_cons_zero, List.getD_cons_succ, List.foldl_cons, List.foldl_nil, dstAt, List.getElem?_cons_zero, List.getElem?_cons_succ, Option.bind_some]
          go_wp2_with fail
          exact ⟨rfl, Below.refl _ _, rfl, rfl⟩
        | 1, _, hi =>
          obtain rfl := Option.some.inj hi
          have h0 : vs 0 = _ := hv 0 (by decide)
          simp only [relF, List.getD_cons_zero, List.getD_cons_succ, List.foldl_cons, List.foldl_nil, dstAt, List.getElem?_cons_zero, List.getElem?_cons_succ, Option.bind_some]
          go_frame
          rw [h0]
          go_wp2_with fail
          exact ⟨rfl, Below.refl _ _, rfl, rfl⟩
        | 2, _, hi =>
          obtain rfl := Option.some.inj hi
          have h1 : vs 1 = _ := hv 1 (by decide)
          simp only [relF, List.getD_cons_zero, List.getD_cons_succ, List.foldl_cons, List.foldl_nil, dstAt, List.getElem?_cons_zero, List.getElem?_cons_succ, Option.bind_some]
          go_frame
          rw [h1]
          go_wp2_with fail
          exact ⟨rfl, Below.refl _ _, rfl, trivial⟩
        | 3, _, hi =>
          obtain rfl := Option.some.inj hi
          have h1 : vs 1 = _ := hv 1 (by decide)
          simp only [relF, List.getD_cons_zero, List.getD_cons_succ, List.foldl_cons, List.foldl_nil, dstAt, List.getElem?_cons_zero, List.getElem?_cons_succ, Option.bind_some]
          go_frame
          rw [h1]
          go_wp2_with fail
          exact ⟨rfl, Below.refl _ _, rfl, trivial⟩
        | 4, _, hi =>
          obtain rfl := Option.some.inj hi
          have h1 : vs 1 = _ := hv 1 (by decide)
          simp only [relF, List.getD_cons_zero, List.getD_cons_succ, List.foldl_cons, List.foldl_nil, dstAt, List.getElem?_cons_zero, List.getElem?_cons_succ, Option.bind_some]
          go_frame
          rw [h1]
          go_wp2_with fail
          exact ⟨rfl, Below.refl _ _, rfl, trivial⟩
        | 5, _, hi =>
          obtain rfl := Option.some.inj hi
          have h1 : vs 1 = _ := hv 1 (by decide)
          simp only [relF, List.getD_cons_zero, List.getD_cons_succ, List.foldl_cons, List.foldl_nil, dstAt, List.getElem?_cons_zero, List.getElem?_cons_succ, Option.bind_some]
          go_frame
          rw [h1]
          go_wp2_with fail
          exact ⟨rfl, Below.refl _ _, rfl, trivial⟩
        | 6, _, hi =>
          obtain rfl := Option.some.inj hi
          have h1 : vs 1 = _ := hv 1 (by decide)
          simp only [relF, List.getD_cons_zero, List.getD_cons_succ, List.foldl_cons, List.foldl_nil, dstAt, List.getElem?_cons_zero, List.getElem?_cons_succ, Option.bind_some]
          go_frame
          rw [h1]
          go_wp2_with fail
          exact ⟨rfl, Below.refl _ _, rfl, trivial⟩
        | 7, _, hi =>
          obtain rfl := Option.some.inj hi
          have h1 : vs 1 = _ := hv 1 (by decide)
          simp only [relF, List.getD_cons_zero, List.getD_cons_succ, List.foldl_cons, List.foldl_nil, dstAt, List.getElem?_cons_zero, List.getElem?_cons_succ, Option.bind_some]
          go_frame
          rw [h1]
          go_wp2_with fail
          exact ⟨rfl, Below.refl _ _, rfl, rfl⟩
        | 8, _, hi =>
          obtain rfl := Option.some.inj hi
          have h7 : vs 7 = _ := hv 7 (by decide)
          simp only [relF, List.getD_cons_zero, List.getD_cons_succ, List.foldl_cons, List.foldl_nil, dstAt, List.getElem?_cons_zero, List.getElem?_cons_succ, Option.bind_some]
          go_frame
          rw [h7]
          go_wp2_with fail
          exact ⟨rfl, Below.refl _ _, rfl, rfl⟩
        | nx + 9, him, _ => exact absurd him (by omega)
      · intro w2 b2 vs hv
        have hb0 := b2
        have h8 : vs 8 = _ := hv 8 (by decide)
        simp only [relF, List.length_cons, List.length_nil, Nat.zero_add, Nat.reduceAdd, List.range, List.range.loop, List.foldl_cons, List.foldl_nil, dstAt, List.getElem?_cons_zero, List.getElem?_cons_succ, Option.bind_some]
        go_frame
        rw [h8]
        go_wp2_with fail
        go_ret
        exact ⟨by rw [HRF.out]; rfl, B1.trans (b2.mono B1.size)⟩

end Go.Proofs.YtbgahpbnlogdnaaDoor
