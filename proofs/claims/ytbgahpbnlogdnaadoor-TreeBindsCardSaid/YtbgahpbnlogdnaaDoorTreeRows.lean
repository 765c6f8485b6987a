/- The walks of the reference's rows and Twice. -/
import Derived.Test.YtbgahpbnlogdnaaDoorLawTreeE
import Derived.Test.YtbgahpbnlogdnaaDoorTreeClash
namespace Go.Proofs.YtbgahpbnlogdnaaDoor
open Go.RowKit
set_option linter.unusedSimpArgs false
set_option linter.unusedVariables false

/-- 'append([]string{x}, l...)' of a row that isn't empty. -/
theorem StrsAt.cons {w : World} {o : Option Addr} {m c g : Nat} {L : List (List UInt8)} {x : List UInt8} (h : StrsAt w o m c L) (h0 : 0 < m) (hm : m ≤ 1000000) (hg : w.heap[g]? = some (.cells #[.string (strOf x)] 9 (0, 0))) :
    ∃ q cc w', (Builtin.append_ #[22, 22] 22 #[.slice (some ⟨g, 0, none⟩) 1 1, .slice o m c]).run Tryd.prog w = .ok (.slice (some q) (1 + m) cc) w' ∧ StrsAt w' (some q) (1 + m) cc (x :: L) ∧ Below w.heap.size w w' := by
  obtain ⟨i, hi, hz0, hz1, hz2⟩ := info_parts Tryd.info_string
  have hlen := h.len
  obtain ⟨b', off, rfl⟩ := h.form h0
  obtain ⟨v', w', h1, h2, h3⟩ := run_append_arg_grows (P := Tryd.prog) w 22 22 9 i (.string ⟨#[]⟩) 1 16 Tryd.under_strs hi hz0 hz1 hz2 rfl (by decide) ⟨g, 0, none⟩ 1 1 [.string (strOf x)] rfl (cells_row_at hg) ⟨b', off, none⟩ m c (L.map fun l => .string (strOf l)) (by rw [List.length_map, hlen, Nat.mul_one]) (fun j u hu => by
    rw [List.getElem?_map] at hu
    obtain ⟨l, hl, rfl⟩ := Option.map_eq_some_iff.1 hu
    rw [Addr.add_mid]
    exact h.get hl) (by omega) (by unfold maxLen; omega) (by omega)
  have hcell := fun g hg => h2.cells (g := g) hg
  rcases h2.2 with ⟨_, h0⟩ | ⟨g', cap, cur, rfl, hb, hg', hnc, hcm, _⟩
  · omega
  · refine ⟨⟨g', 0, none⟩, cap, w', h1, ⟨by rw [List.length_cons, hlen, Nat.add_comm], hnc, hcm, fun _ => ⟨g', 0, rfl, lt_of_block hg', fun i l hl => ?_⟩⟩, grown_below h3 (fun k hk => by cases hk) (Nat.le_refl _)⟩
    intro j u hu
    match j, hu with
    | 0, hu =>
      obtain rfl := Option.some.inj hu
      have := hcell g' rfl i (.string (strOf l)) (by
        have := sCells_get (x :: L) i l hl
        simpa using this)
      rw [Addr.add_mid] at this
      simpa using this

/-- What the region's operations leave. -/
def rowL (B b' off' n' c' : Nat) (r0 x : List UInt8) (R' : List (List UInt8)) (ix : Nat) (w : World) (v : Value) : Prop :=
  match ix with
  | 0 => v = .slice (some ⟨b', off', none⟩) n' c'
  | 1 => v = .pointer (some ⟨b', off', none⟩)
  | 2 => v = .string (strOf r0)
  | 3 => v = .string (strOf (Sha.of r0))
  | 4 => v = .string (strOf (1 :: (Sha.of r0)))
  | 5 => v = .slice (some ⟨B, 0, none⟩) 32 32
  | 6 => v = .string (strOf x)
  | 7 => v = .string (strOf (1 :: ((Sha.of r0) ++ x)))
  | 8 => ∃ g, v = .slice (some ⟨g, 0, none⟩) 1 1 ∧ w.heap[g]? = some (.cells #[.string (strOf (1 :: ((Sha.of r0) ++ x)))] 9 (0, 0))
  | 9 => v = .slice (some ⟨b', off', none⟩) n' c'
  | 10 => ∃ (q : Addr) (c : Nat), v = .slice (some q) (1 + n') c ∧ StrsAt w (some q) (1 + n') c ((1 :: ((Sha.of r0) ++ x)) :: R')
  | 11 => ∃ (q : Addr) (c : Nat), v = .slice (some q) (1 + n') c ∧ StrsAt w (some q) (1 + n') c ((1 :: ((Sha.of r0) ++ x)) :: R')
  | _ => True

theorem rowL_mono (B b' off' n' c' : Nat) (r0 x : List UInt8) (R' : List (List UInt8)) (jx : Nat) (w w' : World) (v : Value) (hb : Below w.heap.size w w') (h : rowL B b' off' n' c' r0 x R' jx w v) : rowL B b' off' n' c' r0 x R' jx w' v := by
  match jx, h with
  | 0, h => exact h
  | 1, h => exact h
  | 2, h => exact h
  | 3, h => exact h
  | 4, h => exact h
  | 5, h => exact h
  | 6, h => exact h
  | 7, h => exact h
  | 8, h => exact (let ⟨g, h1, h2⟩ := h; ⟨g, h1, (hb.block g (lt_of_block h2)).trans h2⟩)
  | 9, h => exact h
  | 10, h => exact (let ⟨q, c, h1, h2⟩ := h; ⟨q, c, h1, h2.below (Nat.le_refl _) hb⟩)
  | 11, h => exact (let ⟨q, c, h1, h2⟩ := h; ⟨q, c, h1, h2.below (Nat.le_refl _) hb⟩)
  | _ + 12, h => exact trivial

/-- What the region's operations leave. -/
def rowR (B b' off' n' c' : Nat) (r0 x : List UInt8) (R' : List (List UInt8)) (ix : Nat) (w : World) (v : Value) : Prop :=
  match ix with
  | 0 => v = .slice (some ⟨B, 0, none⟩) 32 32
  | 1 => v = .string (strOf x)
  | 2 => v = .string (strOf (1 :: x))
  | 3 => v = .slice (some ⟨b', off', none⟩) n' c'
  | 4 => v = .pointer (some ⟨b', off', none⟩)
  | 5 => v = .string (strOf r0)
  | 6 => v = .string (strOf (Sha.of r0))
  | 7 => v = .string (strOf (1 :: (x ++ (Sha.of r0))))
  | 8 => ∃ g, v = .slice (some ⟨g, 0, none⟩) 1 1 ∧ w.heap[g]? = some (.cells #[.string (strOf (1 :: (x ++ (Sha.of r0))))] 9 (0, 0))
  | 9 => v = .slice (some ⟨b', off', none⟩) n' c'
  | 10 => ∃ (q : Addr) (c : Nat), v = .slice (some q) (1 + n') c ∧ StrsAt w (some q) (1 + n') c ((1 :: (x ++ (Sha.of r0))) :: R')
  | 11 => ∃ (q : Addr) (c : Nat), v = .slice (some q) (1 + n') c ∧ StrsAt w (some q) (1 + n') c ((1 :: (x ++ (Sha.of r0))) :: R')
  | _ => True

theorem rowR_mono (B b' off' n' c' : Nat) (r0 x : List UInt8) (R' : List (List UInt8)) (jx : Nat) (w w' : World) (v : Value) (hb : Below w.heap.size w w') (h : rowR B b' off' n' c' r0 x R' jx w v) : rowR B b' off' n' c' r0 x R' jx w' v := by
  match jx, h with
  | 0, h => exact h
  | 1, h => exact h
  | 2, h => exact h
  | 3, h => exact h
  | 4, h => exact h
  | 5, h => exact h
  | 6, h => exact h
  | 7, h => exact h
  | 8, h => exact (let ⟨g, h1, h2⟩ := h; ⟨g, h1, (hb.block g (lt_of_block h2)).trans h2⟩)
  | 9, h => exact h
  | 10, h => exact (let ⟨q, c, h1, h2⟩ := h; ⟨q, c, h1, h2.below (Nat.le_refl _) hb⟩)
  | 11, h => exact (let ⟨q, c, h1, h2⟩ := h; ⟨q, c, h1, h2.below (Nat.le_refl _) hb⟩)
  | _ + 12, h => exact trivial

set_option maxRecDepth 100000 in
set_option maxHeartbeats 2000000 in
theorem refRows_any (N : Nat) : ∀ (w : World) (n i : Nat) (l : List UInt8) (o : Option Addr) (m cap : Nat) (P : List (List UInt8)), n = N → i < n → n ≤ 1073741824 → l.length ≤ 100000 → HashesAt w o m cap P → (Tree.sides n i).length = P.length →
    Calls Tryd.prog 43 #[.int .i64 (n : Int), .int .i64 (i : Int), .string (strOf l), .slice o m cap] w fun e w' => ∃ q c k, e = .returned (.slice q k c) ∧ StrsAt w' q k c (Tree.rowsS (Tree.sides n i) l P) ∧ Below w.heap.size w w' := by
  induction N using Nat.strongRecOn with
  | ind N ih =>
  intro w n i l o m cap P hN h1 h2 hl hP hsp
  subst hN
  have IH := Lib.hid ih; clear ih
  have hPm : P.length = m := hP.1.1
  have hcap : m ≤ cap := hP.1.2.1
  have hmax : cap ≤ 9223372036854775807 := hP.1.2.2.1
  have HP := Lib.hid hP; clear hP
  have hst := strOf_size l
  by_cases h : 2 ≤ n
  · have ht1 : ((n : Int) == 1) = false := by rw [beq_eq_false_iff_ne]; omega
    have hs1 : 1 ≤ (Tree.sides n i).length := by
      by_cases hl : i < Tree.half n
      · rw [Tree.sides_left h hl]; simp
      · rw [Tree.sides_right h hl]; simp
    rcases m with _ | m
    · omega
    · obtain ⟨b, off, rfl⟩ := HP.out.form (by omega)
      have ht3 : (((m + 1 : Nat) : Int) == 0) = false := by rw [beq_eq_false_iff_ne]; omega
      have ht3' : ((m : Int) + 1 == 0) = false := by rw [beq_eq_false_iff_ne]; omega
      obtain ⟨x, hx⟩ : ∃ x, P[m]? = some x := ⟨_, List.getElem?_eq_getElem (by omega)⟩
      have hxl := HP.out.2 x (List.mem_of_getElem? hx)
      have hxr := HP.out.get hx
      have hPt := take_last hPm hx
      have HXL := Lib.hid hxl; clear hxl
      have HXR := Lib.hid hxr.2
      have hbw := hxr.1
      clear hxr
      obtain ⟨P', hP'⟩ : ∃ P', P' = P.take m := ⟨_, rfl⟩
      rw [← hP'] at hPt
      have hPl' : P'.length = m := by rw [hP', List.length_take]; omega
      have HP' := Lib.hid (HP.out.take m cap (by omega) (by omega) hmax)
      rw [← hP'] at HP'
      have HPT := Lib.hid hPt; clear hPt hP'
      obtain ⟨k, hk⟩ : ∃ k, k = Tree.half n := ⟨_, rfl⟩
      have hk1 : 1 ≤ k := by rw [hk]; exact Tree.half_pos h
      have hkn : k < n := by rw [hk]; exact Tree.half_lt h
      have hhalf := refHalfOf_any w n h (by omega)
      rw [← hk] at hhalf
      have HH := Lib.hid hhalf; clear hhalf
      obtain ⟨W1, hW1⟩ : ∃ W1, W1 = hset (w.alloc (.cells zero32 26)) w.heap.size x := ⟨_, rfl⟩
      have x1 : W1.heap[w.heap.size]? = some (.cells (byteCells x).toArray 26 (0, 0)) := by rw [hW1]; exact hset_heap _ (heap_alloc_new w _)
      have b1 : Below w.heap.size w W1 := by rw [hW1]; exact hset_below _ ((Below.refl _ _).alloc (Nat.le_refl _) _) (Nat.le_refl _)
      have HW1 := Lib.hid hW1; clear hW1
      have X1 := Lib.hid x1; clear x1
      have hP1 := HP'.out.below (Nat.le_refl _) b1
      have HP1 := Lib.hid hP1; clear hP1
      have HK := Lib.hid hk; clear hk
      have HX := Lib.hid hx; clear hx
      clear hs1
      have htm : ((m : Int) + 1 - 1) = (m : Int) := by omega
      by_cases hlt : i < k
      · have hsd := Tree.sides_left h (by rw [← HK.out]; exact hlt)
        rw [← HK.out] at hsd
        have ht2 : decide ((i : Int) < (k : Int)) = true := decide_eq_true (by omega)
        have ht2' : decide (i < k) = true := decide_eq_true (by omega)
        obtain ⟨sd, hsd'⟩ : ∃ sd, sd = Tree.sides k i := ⟨_, rfl⟩
        have hsl : sd.length = P'.length := by rw [← hsd'] at hsd; rw [hsd, HPT.out, List.length_append, List.length_cons, List.length_cons, List.length_nil] at hsp; omega
        have hs30 : sd.length ≤ 30 := by rw [hsd']; exact Tree.sides_len 30 _ _ (by omega) (by omega)
        have hc := IH.out k (by omega) W1 k i l _ m cap P' rfl (by omega) (by omega) hl HP1.out (by rw [← hsd']; exact hsl)
        rw [← hsd'] at hc hsd
        obtain ⟨R', hR'⟩ : ∃ R', R' = Tree.rowsS sd l P' := ⟨_, rfl⟩
        have hRl : R'.length = sd.length + 1 := by rw [hR', Tree.rowsS_len]
        obtain ⟨r0, hr0⟩ : ∃ r0, R'[0]? = some r0 := ⟨_, List.getElem?_eq_getElem (by omega)⟩
        have hr0h : R'.headD [] = r0 := by rw [List.headD_eq_head?_getD, List.head?_eq_getElem?, hr0]; rfl
        have hrb : r0.length ≤ 100001 := Tree.rows_bound sd l P' hsl HP1.out.2 hl r0 (by rw [← hR']; exact List.mem_of_getElem? hr0)
        have hre : Tree.rowsS (Tree.sides n i) l P = (1 :: (Sha.of r0 ++ x)) :: R' := by rw [hsd, HPT.out, Tree.rowsS_snoc, ← hR', hr0h]; rfl
        rw [← hR'] at hc
        obtain ⟨RR, hRR⟩ : ∃ RR, RR = Tree.rowsS (Tree.sides n i) l P := ⟨_, rfl⟩
        rw [← hRR] at hre ⊢
        have HRE := Lib.hid hre; clear hre hRR hR' hr0h
        have HC := Lib.hid hc; clear hc hsd hsd'
        have HR0 := Lib.hid hr0; clear hr0
        have HB0 := Lib.hid hrb; clear hrb
        go_enter Tryd.func43, Tryd.ntmps43
        go_wp2_with fail
        refine HH.out.mono ?_
        rintro e w' ⟨rfl, rfl⟩
        go_wp2_with (first | ((with_reducible show wpList _ _ _ (⟨some 28, _, _, _, _, _⟩ :: _) _ _); refine wpList_load_hashAt (op := ⟨some 28, _, _, _, _, _⟩) rfl _ rfl b (off + m * 32) rfl x HXL.out HXR.out ?_) | ((with_reducible show wpList _ _ _ (⟨none, .store 26 (.tmp 10) (.tmp 28), _, _, _, _⟩ :: _) _ _); change wpList _ _ _ _ _ (World.alloc w (.cells zero32 26)); refine wpList_put_hash (o := ⟨none, .store _ _ _, _, _, _, _⟩) rfl _ _ rfl _ rfl x HXL.out rfl _ _ (heap_alloc_new _ _) zero32_size ?_; rw [← HW1.out]))
        refine HC.out.mono ?_
        rintro e w2 ⟨q', c', n', rfl, hr2, d2⟩
        have X2 := Lib.hid ((d2.block _ (lt_of_block X1.out)).trans X1.out)
        have B2 := b1.trans (d2.mono b1.size)
        have hn' : R'.length = n' := hr2.len
        have hcn := hr2.cap
        have hcm := hr2.max
        obtain ⟨b', off', rfl⟩ := hr2.form (by omega)
        have HR2 := Lib.hid hr2; clear hr2
        have hn0 : 0 < n' := by omega
        have hn31 : n' ≤ 31 := by omega
        have tz : ((n' : Int) == 0) = false := by rw [beq_eq_false_iff_ne]; omega
        go_wp2_with fail
        refine wp_region_rel [[], [0], [1], [2], [3], [], [5], [4, 6], [7], [], [8, 9], [10]] (rowL w.heap.size b' off' n' c' r0 x R') 82 (by kernel_rfl) (by kernel_rfl) (by kernel_rfl) (rowL_mono w.heap.size b' off' n' c' r0 x R') ?_ ?_
        · intro ix op hi w2 b2 vs hv
          have him : ix < 12 := (List.getElem?_eq_some_iff.1 hi).1
          have hr0b := HB0.out
          match ix, him, hi with
          | 0, _, hi =>
            obtain rfl := Option.some.inj hi
            simp only [relF, List.getD_cons_zero, List.getD_cons_succ, List.foldl_cons, List.foldl_nil, dstAt, List.getElem?_cons_zero, List.getElem?_cons_succ, Option.bind_some]
            go_wp2_with fail
            exact ⟨rfl, Below.refl _ _, rfl, rfl⟩
          | 1, _, hi =>
            obtain rfl := Option.some.inj hi
            have h0 : vs 0 = _ := hv 0 (by decide)
            simp only [relF, List.getD_cons_zero, List.getD_cons_succ, List.foldl_cons, List.foldl_nil, dstAt, List.getElem?_cons_zero, List.getElem?_cons_succ, Option.bind_some]
            go_frame
            rw [h0]
            go_wp2_with fail
            exact ⟨rfl, Below.refl _ _, rfl, rfl⟩
          | 2, _, hi =>
            obtain rfl := Option.some.inj hi
            have h1 : vs 1 = _ := hv 1 (by decide)
            have hcell := (HR2.out.below (Nat.le_refl _) b2).get HR0.out
            rw [Nat.add_zero] at hcell
            simp only [relF, List.getD_cons_zero, List.getD_cons_succ, List.foldl_cons, List.foldl_nil, dstAt, List.getElem?_cons_zero, List.getElem?_cons_succ, Option.bind_some]
            go_frame
            rw [h1]
            go_wp2_with fail
            exact ⟨rfl, Below.refl _ _, rfl, rfl⟩
          | 3, _, hi =>
            obtain rfl := Option.some.inj hi
            have h2 : vs 2 = _ := hv 2 (by decide)
            simp only [relF, List.getD_cons_zero, List.getD_cons_succ, List.foldl_cons, List.foldl_nil, dstAt, List.getElem?_cons_zero, List.getElem?_cons_succ, Option.bind_some]
            go_frame
            rw [h2]
            go_wp2_with fail
            refine (refOf_any w2 r0 (by omega)).mono ?_
            rintro e w3 ⟨rfl, b3⟩
            go_wp2_with fail
            exact ⟨rfl, b3, rfl, rfl⟩
          | 4, _, hi =>
            obtain rfl := Option.some.inj hi
            have h3 : vs 3 = _ := hv 3 (by decide)
            have hlen0 := Sha.of_len r0
            have hz1 : (⟨#[1]⟩ : ByteArray).size = [1].length := by first | rfl | exact strOf_size _
            have hz2 : ((strOf (Sha.of r0)) : ByteArray).size = (Sha.of r0).length := by first | rfl | exact strOf_size _
            simp only [List.length_cons, List.length_append, List.length_nil] at hz1 hz2
            have hadd : (⟨#[1]⟩ : ByteArray) ++ (strOf (Sha.of r0)) = strOf (1 :: (Sha.of r0)) := add_str [1] (Sha.of r0)
            simp only [relF, List.getD_cons_zero, List.getD_cons_succ, List.foldl_cons, List.foldl_nil, dstAt, List.getElem?_cons_zero, List.getElem?_cons_succ, Option.bind_some]
            go_frame
            rw [h3]
            go_wp2_with fail
            exact ⟨rfl, Below.refl _ _, rfl, rfl⟩
          | 5, _, hi =>
            obtain rfl := Option.some.inj hi
            simp only [relF, List.getD_cons_zero, List.getD_cons_succ, List.foldl_cons, List.foldl_nil, dstAt, List.getElem?_cons_zero, List.getElem?_cons_succ, Option.bind_some]
            go_wp2_with fail
            exact ⟨rfl, Below.refl _ _, rfl, rfl⟩
          | 6, _, hi =>
            obtain rfl := Option.some.inj hi
            have h5 : vs 5 = _ := hv 5 (by decide)
            have hcv := hash_str HXL.out ((b2.block _ (lt_of_block X2.out)).trans X2.out)
            simp only [relF, List.getD_cons_zero, List.getD_cons_succ, List.foldl_cons, List.foldl_nil, dstAt, List.getElem?_cons_zero, List.getElem?_cons_succ, Option.bind_some]
            go_frame
            rw [h5]
            go_wp2_with fail
            exact ⟨rfl, Below.refl _ _, rfl, rfl⟩
          | 7, _, hi =>
            obtain rfl := Option.some.inj hi
            have h4 : vs 4 = _ := hv 4 (by decide)
            have h6 : vs 6 = _ := hv 6 (by decide)
            have hlen0 := Sha.of_len r0
            have hlen1 := HXL.out
            have hz1 : ((strOf (1 :: (Sha.of r0))) : ByteArray).size = (1 :: (Sha.of r0)).length := by first | rfl | exact strOf_size _
            have hz2 : ((strOf x) : ByteArray).size = x.length := by first | rfl | exact strOf_size _
            simp only [List.length_cons, List.length_append, List.length_nil] at hz1 hz2
            have hadd : ((strOf (1 :: (Sha.of r0))) : ByteArray) ++ (strOf x) = strOf (1 :: ((Sha.of r0) ++ x)) := add_str (1 :: (Sha.of r0)) x
            simp only [relF, List.getD_cons_zero, List.getD_cons_succ, List.foldl_cons, List.foldl_nil, dstAt, List.getElem?_cons_zero, List.getElem?_cons_succ, Option.bind_some]
            go_frame
            rw [h4, h6]
            go_wp2_with fail
            exact ⟨rfl, Below.refl _ _, rfl, rfl⟩
          | 8, _, hi =>
            obtain rfl := Option.some.inj hi
            have h7 : vs 7 = _ := hv 7 (by decide)
            simp only [relF, List.getD_cons_zero, List.getD_cons_succ, List.foldl_cons, List.foldl_nil, dstAt, List.getElem?_cons_zero, List.getElem?_cons_succ, Option.bind_some]
            go_frame
            rw [h7]
            go_wp2_with fail
            exact ⟨rfl, (Below.refl _ _).alloc (Nat.le_refl _) _, rfl, w2.heap.size, rfl, heap_alloc_new _ _⟩
          | 9, _, hi =>
            obtain rfl := Option.some.inj hi
            simp only [relF, List.getD_cons_zero, List.getD_cons_succ, List.foldl_cons, List.foldl_nil, dstAt, List.getElem?_cons_zero, List.getElem?_cons_succ, Option.bind_some]
            go_wp2_with fail
            exact ⟨rfl, Below.refl _ _, rfl, rfl⟩
          | 10, _, hi =>
            obtain rfl := Option.some.inj hi
            obtain ⟨g8, e8, s8⟩ := hv 8 (by decide)
            have h9 : vs 9 = _ := hv 9 (by decide)
            obtain ⟨q, cc, W, hrun, hs, hbb⟩ := StrsAt.cons (HR2.out.below (Nat.le_refl _) b2) (by omega) (by omega) s8
            simp only [relF, List.getD_cons_zero, List.getD_cons_succ, List.foldl_cons, List.foldl_nil, dstAt, List.getElem?_cons_zero, List.getElem?_cons_succ, Option.bind_some]
            go_frame
            rw [e8, h9]
            go_wp2_with ((with_reducible show wpList _ _ _ (⟨some 54, _, _, _, _, _⟩ :: _) _ _); refine wpList_append_ran (by kernel_rfl) _ _ _ rfl _ _ rfl rfl hrun ?_)
            exact ⟨rfl, hbb, rfl, q, cc, rfl, hs⟩
          | 11, _, hi =>
            obtain rfl := Option.some.inj hi
            obtain ⟨q10, c10, e10, s10⟩ := hv 10 (by decide)
            simp only [relF, List.getD_cons_zero, List.getD_cons_succ, List.foldl_cons, List.foldl_nil, dstAt, List.getElem?_cons_zero, List.getElem?_cons_succ, Option.bind_some]
            go_frame
            rw [e10]
            go_wp2_with fail
            exact ⟨rfl, Below.refl _ _, rfl, q10, c10, rfl, s10⟩
          | nx + 12, him, _ => exact absurd him (by omega)
        · intro w2 b2 vs hv
          have hr0b := HB0.out
          obtain ⟨q11, c11, e11, s11⟩ := hv 11 (by decide)
          simp only [relF, List.drop_succ_cons, List.drop_zero, List.length_cons, List.length_nil, Nat.zero_add, Nat.reduceAdd, List.range, List.range.loop, List.foldl_cons, List.foldl_nil, dstAt, List.getElem?_cons_zero, List.getElem?_cons_succ, Option.bind_some]
          go_frame
          rw [e11]
          go_wp2_with fail
          go_ret
          refine ⟨some q11, c11, 1 + n', rfl, ?_, B2.trans (b2.mono B2.size)⟩
          rw [HRE.out]
          exact s11
      · have hsd := Tree.sides_right h (by rw [← HK.out]; exact hlt)
        rw [← HK.out] at hsd
        have ht2 : decide ((i : Int) < (k : Int)) = false := decide_eq_false (by omega)
        have ht2' : decide (i < k) = false := decide_eq_false (by omega)
        obtain ⟨sd, hsd'⟩ : ∃ sd, sd = Tree.sides (n - k) (i - k) := ⟨_, rfl⟩
        have hsl : sd.length = P'.length := by rw [← hsd'] at hsd; rw [hsd, HPT.out, List.length_append, List.length_cons, List.length_cons, List.length_nil] at hsp; omega
        have hs30 : sd.length ≤ 30 := by rw [hsd']; exact Tree.sides_len 30 _ _ (by omega) (by omega)
        have hc := IH.out (n - k) (by omega) W1 (n - k) (i - k) l _ m cap P' rfl (by omega) (by omega) hl HP1.out (by rw [← hsd']; exact hsl)
        have e1 : ((n - k : Nat) : Int) = (n : Int) - k := by omega
        have e2 : ((i - k : Nat) : Int) = (i : Int) - k := by omega
        rw [e1, e2] at hc
        rw [← hsd'] at hc hsd
        obtain ⟨R', hR'⟩ : ∃ R', R' = Tree.rowsS sd l P' := ⟨_, rfl⟩
        have hRl : R'.length = sd.length + 1 := by rw [hR', Tree.rowsS_len]
        obtain ⟨r0, hr0⟩ : ∃ r0, R'[0]? = some r0 := ⟨_, List.getElem?_eq_getElem (by omega)⟩
        have hr0h : R'.headD [] = r0 := by rw [List.headD_eq_head?_getD, List.head?_eq_getElem?, hr0]; rfl
        have hrb : r0.length ≤ 100001 := Tree.rows_bound sd l P' hsl HP1.out.2 hl r0 (by rw [← hR']; exact List.mem_of_getElem? hr0)
        have hre : Tree.rowsS (Tree.sides n i) l P = (1 :: (x ++ Sha.of r0)) :: R' := by rw [hsd, HPT.out, Tree.rowsS_snoc, ← hR', hr0h]; rfl
        rw [← hR'] at hc
        obtain ⟨RR, hRR⟩ : ∃ RR, RR = Tree.rowsS (Tree.sides n i) l P := ⟨_, rfl⟩
        rw [← hRR] at hre ⊢
        have HRE := Lib.hid hre; clear hre hRR hR' hr0h
        have HC := Lib.hid hc; clear hc hsd hsd'
        have HR0 := Lib.hid hr0; clear hr0
        have HB0 := Lib.hid hrb; clear hrb
        go_enter Tryd.func43, Tryd.ntmps43
        go_wp2_with fail
        refine HH.out.mono ?_
        rintro e w' ⟨rfl, rfl⟩
        go_wp2_with (first | ((with_reducible show wpList _ _ _ (⟨some 28, _, _, _, _, _⟩ :: _) _ _); refine wpList_load_hashAt (op := ⟨some 28, _, _, _, _, _⟩) rfl _ rfl b (off + m * 32) rfl x HXL.out HXR.out ?_) | ((with_reducible show wpList _ _ _ (⟨none, .store 26 (.tmp 10) (.tmp 28), _, _, _, _⟩ :: _) _ _); change wpList _ _ _ _ _ (World.alloc w (.cells zero32 26)); refine wpList_put_hash (o := ⟨none, .store _ _ _, _, _, _, _⟩) rfl _ _ rfl _ rfl x HXL.out rfl _ _ (heap_alloc_new _ _) zero32_size ?_; rw [← HW1.out]))
        refine HC.out.mono ?_
        rintro e w2 ⟨q', c', n', rfl, hr2, d2⟩
        have X2 := Lib.hid ((d2.block _ (lt_of_block X1.out)).trans X1.out)
        have B2 := b1.trans (d2.mono b1.size)
        have hn' : R'.length = n' := hr2.len
        have hcn := hr2.cap
        have hcm := hr2.max
        obtain ⟨b', off', rfl⟩ := hr2.form (by omega)
        have HR2 := Lib.hid hr2; clear hr2
        have hn0 : 0 < n' := by omega
        have hn31 : n' ≤ 31 := by omega
        have tz : ((n' : Int) == 0) = false := by rw [beq_eq_false_iff_ne]; omega
        go_wp2_with fail
        refine wp_region_rel [[], [0], [1], [], [3], [4], [5], [2, 6], [7], [], [8, 9], [10]] (rowR w.heap.size b' off' n' c' r0 x R') 82 (by kernel_rfl) (by kernel_rfl) (by kernel_rfl) (rowR_mono w.heap.size b' off' n' c' r0 x R') ?_ ?_
        · intro ix op hi w2 b2 vs hv
          have him : ix < 12 := (List.getElem?_eq_some_iff.1 hi).1
          have hr0b := HB0.out
          match ix, him, hi with
          | 0, _, hi =>
            obtain rfl := Option.some.inj hi
            simp only [relF, List.getD_cons_zero, List.getD_cons_succ, List.foldl_cons, List.foldl_nil, dstAt, List.getElem?_cons_zero, List.getElem?_cons_succ, Option.bind_some]
            go_wp2_with fail
            exact ⟨rfl, Below.refl _ _, rfl, rfl⟩
          | 1, _, hi =>
            obtain rfl := Option.some.inj hi
            have h0 : vs 0 = _ := hv 0 (by decide)
            have hcv := hash_str HXL.out ((b2.block _ (lt_of_block X2.out)).trans X2.out)
            simp only [relF, List.getD_cons_zero, List.getD_cons_succ, List.foldl_cons, List.foldl_nil, dstAt, List.getElem?_cons_zero, List.getElem?_cons_succ, Option.bind_some]
            go_frame
            rw [h0]
            go_wp2_with fail
            exact ⟨rfl, Below.refl _ _, rfl, rfl⟩
          | 2, _, hi =>
            obtain rfl := Option.some.inj hi
            have h1 : vs 1 = _ := hv 1 (by decide)
            have hlen0 := HXL.out
            have hz1 : (⟨#[1]⟩ : ByteArray).size = [1].length := by first | rfl | exact strOf_size _
            have hz2 : ((strOf x) : ByteArray).size = x.length := by first | rfl | exact strOf_size _
            simp only [List.length_cons, List.length_append, List.length_nil] at hz1 hz2
            have hadd : (⟨#[1]⟩ : ByteArray) ++ (strOf x) = strOf (1 :: x) := add_str [1] x
            simp only [relF, List.getD_cons_zero, List.getD_cons_succ, List.foldl_cons, List.foldl_nil, dstAt, List.getElem?_cons_zero, List.getElem?_cons_succ, Option.bind_some]
            go_frame
            rw [h1]
            go_wp2_with fail
            exact ⟨rfl, Below.refl _ _, rfl, rfl⟩
          | 3, _, hi =>
            obtain rfl := Option.some.inj hi
            simp only [relF, List.getD_cons_zero, List.getD_cons_succ, List.foldl_cons, List.foldl_nil, dstAt, List.getElem?_cons_zero, List.getElem?_cons_succ, Option.bind_some]
            go_wp2_with fail
            exact ⟨rfl, Below.refl _ _, rfl, rfl⟩
          | 4, _, hi =>
            obtain rfl := Option.some.inj hi
            have h3 : vs 3 = _ := hv 3 (by decide)
            simp only [relF, List.getD_cons_zero, List.getD_cons_succ, List.foldl_cons, List.foldl_nil, dstAt, List.getElem?_cons_zero, List.getElem?_cons_succ, Option.bind_some]
            go_frame
            rw [h3]
            go_wp2_with fail
            exact ⟨rfl, Below.refl _ _, rfl, rfl⟩
          | 5, _, hi =>
            obtain rfl := Option.some.inj hi
            have h4 : vs 4 = _ := hv 4 (by decide)
            have hcell := (HR2.out.below (Nat.le_refl _) b2).get HR0.out
            rw [Nat.add_zero] at hcell
            simp only [relF, List.getD_cons_zero, List.getD_cons_succ, List.foldl_cons, List.foldl_nil, dstAt, List.getElem?_cons_zero, List.getElem?_cons_succ, Option.bind_some]
            go_frame
            rw [h4]
            go_wp2_with fail
            exact ⟨rfl, Below.refl _ _, rfl, rfl⟩
          | 6, _, hi =>
            obtain rfl := Option.some.inj hi
            have h5 : vs 5 = _ := hv 5 (by decide)
            simp only [relF, List.getD_cons_zero, List.getD_cons_succ, List.foldl_cons, List.foldl_nil, dstAt, List.getElem?_cons_zero, List.getElem?_cons_succ, Option.bind_some]
            go_frame
            rw [h5]
            go_wp2_with fail
            refine (refOf_any w2 r0 (by omega)).mono ?_
            rintro e w3 ⟨rfl, b3⟩
            go_wp2_with fail
            exact ⟨rfl, b3, rfl, rfl⟩
          | 7, _, hi =>
            obtain rfl := Option.some.inj hi
            have h2 : vs 2 = _ := hv 2 (by decide)
            have h6 : vs 6 = _ := hv 6 (by decide)
            have hlen0 := HXL.out
            have hlen1 := Sha.of_len r0
            have hz1 : ((strOf (1 :: x)) : ByteArray).size = (1 :: x).length := by first | rfl | exact strOf_size _
            have hz2 : ((strOf (Sha.of r0)) : ByteArray).size = (Sha.of r0).length := by first | rfl | exact strOf_size _
            simp only [List.length_cons, List.length_append, List.length_nil] at hz1 hz2
            have hadd : ((strOf (1 :: x)) : ByteArray) ++ (strOf (Sha.of r0)) = strOf (1 :: (x ++ (Sha.of r0))) := add_str (1 :: x) (Sha.of r0)
            simp only [relF, List.getD_cons_zero, List.getD_cons_succ, List.foldl_cons, List.foldl_nil, dstAt, List.getElem?_cons_zero, List.getElem?_cons_succ, Option.bind_some]
            go_frame
            rw [h2, h6]
            go_wp2_with fail
            exact ⟨rfl, Below.refl _ _, rfl, rfl⟩
          | 8, _, hi =>
            obtain rfl := Option.some.inj hi
            have h7 : vs 7 = _ := hv 7 (by decide)
            simp only [relF, List.getD_cons_zero, List.getD_cons_succ, List.foldl_cons, List.foldl_nil, dstAt, List.getElem?_cons_zero, List.getElem?_cons_succ, Option.bind_some]
            go_frame
            rw [h7]
            go_wp2_with fail
            exact ⟨rfl, (Below.refl _ _).alloc (Nat.le_refl _) _, rfl, w2.heap.size, rfl, heap_alloc_new _ _⟩
          | 9, _, hi =>
            obtain rfl := Option.some.inj hi
            simp only [relF, List.getD_cons_zero, List.getD_cons_succ, List.foldl_cons, List.foldl_nil, dstAt, List.getElem?_cons_zero, List.getElem?_cons_succ, Option.bind_some]
            go_wp2_with fail
            exact ⟨rfl, Below.refl _ _, rfl, rfl⟩
          | 10, _, hi =>
            obtain rfl := Option.some.inj hi
            obtain ⟨g8, e8, s8⟩ := hv 8 (by decide)
            have h9 : vs 9 = _ := hv 9 (by decide)
            obtain ⟨q, cc, W, hrun, hs, hbb⟩ := StrsAt.cons (HR2.out.below (Nat.le_refl _) b2) (by omega) (by omega) s8
            simp only [relF, List.getD_cons_zero, List.getD_cons_succ, List.foldl_cons, List.foldl_nil, dstAt, List.getElem?_cons_zero, List.getElem?_cons_succ, Option.bind_some]
            go_frame
            rw [e8, h9]
            go_wp2_with ((with_reducible show wpList _ _ _ (⟨some 81, _, _, _, _, _⟩ :: _) _ _); refine wpList_append_ran (by kernel_rfl) _ _ _ rfl _ _ rfl rfl hrun ?_)
            exact ⟨rfl, hbb, rfl, q, cc, rfl, hs⟩
          | 11, _, hi =>
            obtain rfl := Option.some.inj hi
            obtain ⟨q10, c10, e10, s10⟩ := hv 10 (by decide)
            simp only [relF, List.getD_cons_zero, List.getD_cons_succ, List.foldl_cons, List.foldl_nil, dstAt, List.getElem?_cons_zero, List.getElem?_cons_succ, Option.bind_some]
            go_frame
            rw [e10]
            go_wp2_with fail
            exact ⟨rfl, Below.refl _ _, rfl, q10, c10, rfl, s10⟩
          | nx + 12, him, _ => exact absurd him (by omega)
        · intro w2 b2 vs hv
          have hr0b := HB0.out
          obtain ⟨q11, c11, e11, s11⟩ := hv 11 (by decide)
          simp only [relF, List.drop_succ_cons, List.drop_zero, List.length_cons, List.length_nil, Nat.zero_add, Nat.reduceAdd, List.range, List.range.loop, List.foldl_cons, List.foldl_nil, dstAt, List.getElem?_cons_zero, List.getElem?_cons_succ, Option.bind_some]
          go_frame
          rw [e11]
          go_wp2_with fail
          go_ret
          refine ⟨some q11, c11, 1 + n', rfl, ?_, B2.trans (b2.mono B2.size)⟩
          rw [HRE.out]
          exact s11
  · obtain rfl : n = 1 := by omega
    have hsd := Tree.sides_small (n := 1) h i
    rw [hsd]
    clear hsd
    have hadd : (⟨#[0]⟩ : ByteArray) ++ strOf l = strOf (0 :: l) := add_str [0] l
    have hs0 : (⟨#[0]⟩ : ByteArray).size = 1 := rfl
    go_enter Tryd.func43, Tryd.ntmps43
    go_wp2_with fail
    go_ret
    refine ⟨_, 1, 1, rfl, ⟨rfl, Nat.le_refl _, by decide, fun _ => ⟨_, 0, rfl, by simp, fun j r hr => ?_⟩⟩, (Below.refl _ _).alloc (Nat.le_refl _) _⟩
    match j, hr with
    | 0, hr =>
      obtain rfl := Option.some.inj hr
      exact range_row (heap_alloc_new w (.cells [Value.string (strOf (0 :: l))].toArray 9))

end Go.Proofs.YtbgahpbnlogdnaaDoor
