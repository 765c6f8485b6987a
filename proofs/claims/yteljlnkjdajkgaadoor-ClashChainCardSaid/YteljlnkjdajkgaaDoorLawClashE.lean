/- The walk of the law ClashChain. -/
import Derived.Test.YteljlnkjdajkgaaDoorLawClashC
import Derived.Test.YteljlnkjdajkgaaDoorRelTail2
namespace Go.Proofs.YteljlnkjdajkgaaDoor
open Go.RowKit
set_option linter.unusedSimpArgs false
set_option linter.unusedVariables false

/-- The sum stands somewhere ahead of k. -/
def hasIn (s S : List UInt8) (k : Nat) : Bool := (List.range k).any fun j => (s.drop j).take 32 == S

theorem hasIn_zero (s S : List UInt8) : hasIn s S 0 = false := rfl
theorem hasIn_succ (s S : List UInt8) (k : Nat) : hasIn s S (k + 1) = (hasIn s S k || ((s.drop k).take 32 == S)) := by
  unfold hasIn
  rw [List.range_succ, List.any_append]
  simp
theorem hasIn_true {s S : List UInt8} {p k : Nat} (h : p < k) (hp : (s.drop p).take 32 = S) : hasIn s S k = true := by
  unfold hasIn
  rw [List.any_eq_true]
  exact ⟨p, List.mem_range.2 h, by rw [hp]; exact beq_self_eq_true _⟩

/-- A row stands in the one ahead of it. -/
def InRow (s S : List UInt8) : Prop := ∃ p, p + 32 ≤ s.length ∧ (s.drop p).take 32 = S

theorem inRow_mk (a S b : List UInt8) (hS : S.length = 32) : InRow (a ++ (S ++ b)) S := by
  refine ⟨a.length, by simp only [List.length_append]; omega, ?_⟩
  rw [List.drop_left, List.take_left' hS]

theorem rowsS_in (sd : List Bool) (l : List UInt8) : ∀ (P : List (List UInt8)) (j : Nat) (s x : List UInt8), (Tree.rowsS sd l P)[j]? = some s → (Tree.rowsS sd l P)[j + 1]? = some x → InRow s (Sha.of x) := by
  induction sd with
  | nil => intro P j s x h1 h2; simp [Tree.rowsS] at h2
  | cons b sd ih =>
    intro P j s x h1 h2
    rw [Tree.rowsS] at h1 h2
    rw [List.getElem?_cons_succ] at h2
    cases j with
    | zero =>
      rw [List.getElem?_cons_zero] at h1
      obtain rfl := Option.some.inj h1
      have hx : (Tree.rowsS sd l P.dropLast).headD [] = x := by rw [List.headD_eq_head?_getD, List.head?_eq_getElem?, h2]; rfl
      rw [hx]
      have hS := Sha.of_len x
      unfold Tree.rowOf
      cases b
      · have := inRow_mk (1 :: (P.getLast?).getD []) (Sha.of x) [] hS
        rw [List.append_nil] at this
        exact this
      · exact inRow_mk [1] (Sha.of x) _ hS
    | succ j =>
      rw [List.getElem?_cons_succ] at h1
      exact ih P.dropLast j s x h1 h2

theorem rowsAll_in (n : Nat) (sd : List Bool) (l : List UInt8) (P : List (List UInt8)) (j : Nat) (s x : List UInt8) (h1 : (Tree.rowsAll n (Tree.rowsS sd l P))[j]? = some s) (h2 : (Tree.rowsAll n (Tree.rowsS sd l P))[j + 1]? = some x) : InRow s (Sha.of x) := by
  unfold Tree.rowsAll at h1 h2
  rw [List.getElem?_cons_succ] at h2
  cases j with
  | zero =>
    rw [List.getElem?_cons_zero] at h1
    obtain rfl := Option.some.inj h1
    have hx : (Tree.rowsS sd l P).headD [] = x := by rw [List.headD_eq_head?_getD, List.head?_eq_getElem?, h2]; rfl
    rw [hx]
    have := inRow_mk (3 :: Wire.num n) (Sha.of x) [] (Sha.of_len x)
    rw [List.append_nil] at this
    exact this
  | succ j =>
    rw [List.getElem?_cons_succ] at h1
    exact rowsS_in sd l P j s x h1 h2

theorem rowsS_last (sd : List Bool) (l : List UInt8) : ∀ P : List (List UInt8), (Tree.rowsS sd l P)[sd.length]? = some (0 :: l) := by
  induction sd with
  | nil => intro P; rfl
  | cons b sd ih => intro P; rw [Tree.rowsS, List.length_cons, List.getElem?_cons_succ]; exact ih _

/-- What the region's operations leave. -/
def chA (B5 k : Nat) (s S : List UInt8) (ix : Nat) (w : World) (v : Value) : Prop :=
  match ix with
  | 0 => v = .bool true
  | 1 => v = .bool true
  | 2 => True
  | 3 => True
  | 4 => True
  | 5 => True
  | 6 => True
  | 7 => True
  | 8 => True
  | 9 => True
  | 10 => v = .bool true
  | _ => True

theorem chA_mono (B5 k : Nat) (s S : List UInt8) (jx : Nat) (w w' : World) (v : Value) (hb : Below w.heap.size w w') (h : chA B5 k s S jx w v) : chA B5 k s S jx w' v := by
  match jx, h with
  | 0, h => exact h
  | 1, h => exact h
  | 2, h => exact trivial
  | 3, h => exact trivial
  | 4, h => exact trivial
  | 5, h => exact trivial
  | 6, h => exact trivial
  | 7, h => exact trivial
  | 8, h => exact trivial
  | 9, h => exact trivial
  | 10, h => exact h
  | _ + 11, h => exact trivial

/-- What the region's operations leave. -/
def chB (B5 k : Nat) (s S : List UInt8) (ix : Nat) (w : World) (v : Value) : Prop :=
  match ix with
  | 0 => v = .bool false
  | 1 => v = .bool false
  | 2 => v = .string (strOf s)
  | 3 => v = .int .i64 (k : Int)
  | 4 => v = .int .i64 (k : Int)
  | 5 => v = .int .i64 (((k + 32 : Nat) : Int))
  | 6 => v = .string (strOf ((s.drop k).take 32))
  | 7 => v = .slice (some ⟨B5, 0, none⟩) 32 32
  | 8 => v = .string (strOf S)
  | 9 => v = .bool true
  | 10 => v = .bool true
  | _ => True

theorem chB_mono (B5 k : Nat) (s S : List UInt8) (jx : Nat) (w w' : World) (v : Value) (hb : Below w.heap.size w w') (h : chB B5 k s S jx w v) : chB B5 k s S jx w' v := by
  match jx, h with
  | 0, h => exact h
  | 1, h => exact h
  | 2, h => exact h
  | 3, h => exact h
  | 4, h => exact h
  | 5, h => exact h
  | 6, h => exact h
  | 7, h => exact h
  | 8, h => exact h
  | 9, h => exact h
  | 10, h => exact h
  | _ + 11, h => exact trivial

/-- What the region's operations leave. -/
def chC (B5 k : Nat) (s S : List UInt8) (ix : Nat) (w : World) (v : Value) : Prop :=
  match ix with
  | 0 => v = .bool false
  | 1 => v = .bool false
  | 2 => v = .string (strOf s)
  | 3 => v = .int .i64 (k : Int)
  | 4 => v = .int .i64 (k : Int)
  | 5 => v = .int .i64 (((k + 32 : Nat) : Int))
  | 6 => v = .string (strOf ((s.drop k).take 32))
  | 7 => v = .slice (some ⟨B5, 0, none⟩) 32 32
  | 8 => v = .string (strOf S)
  | 9 => v = .bool false
  | 10 => v = .bool false
  | _ => True

theorem chC_mono (B5 k : Nat) (s S : List UInt8) (jx : Nat) (w w' : World) (v : Value) (hb : Below w.heap.size w w') (h : chC B5 k s S jx w v) : chC B5 k s S jx w' v := by
  match jx, h with
  | 0, h => exact h
  | 1, h => exact h
  | 2, h => exact h
  | 3, h => exact h
  | 4, h => exact h
  | 5, h => exact h
  | 6, h => exact h
  | 7, h => exact h
  | 8, h => exact h
  | 9, h => exact h
  | 10, h => exact h
  | _ + 11, h => exact trivial

set_option maxRecDepth 100000 in
set_option maxHeartbeats 4000000 in
theorem chain_list (w : World) (n : Int) (hn : (Lit.int .i64 n).wf = true) (i : Int) (hi : (Lit.int .i64 i).wf = true) (l : List UInt8) (hl : l.length ≤ 140737488351232) (oP : Option Addr) (mP cP : Nat) (P : List (List UInt8)) (hP : HashesAt w oP mP cP P) (hL : Laid w) :
    Calls Tryd.prog 7 #[.int .i64 n, .int .i64 i, .string (strOf l), .slice oP mP cP] w fun e w' => e = .returned (.bool true) ∧ Below w.heap.size w w' := by
  have hstl := strOf_size l
  have hmP : P.length = mP := hP.1.1
  have hcP : mP ≤ cP := hP.1.2.1
  have hxP : cP ≤ 9223372036854775807 := hP.1.2.2.1
  have HP := Lib.hid hP; clear hP
  have HL := Lib.hid hL; clear hL
  go_enter Tryd.func7, Tryd.ntmps7
  go_wp2_with fail
  refine (awake_any _ HL.out).mono ?_
  rintro e w1 ⟨rfl, b1⟩
  replace HP := Lib.hid (HP.out.below (Nat.le_refl _) b1)
  replace HL := Lib.hid (HL.out.below b1)
  by_cases hg : 200 < l.length
  · have ht : decide ((200 : Int) < (l.length : Int)) = true := decide_eq_true (by omega)
    go_wp2_with fail
    refine (awake_any _ HL.out).mono ?_
    rintro e w2 ⟨rfl, b2⟩
    go_wp2_with fail
    go_ret
    exact ⟨rfl, b1.trans (b2.mono b1.size)⟩
  · have ht : decide ((200 : Int) < (l.length : Int)) = false := decide_eq_false (by omega)
    by_cases hg : 40 < mP
    · have ht : decide ((40 : Int) < (mP : Int)) = true := decide_eq_true (by omega)
      go_wp2_with fail
      refine (awake_any _ HL.out).mono ?_
      rintro e w2 ⟨rfl, b2⟩
      go_wp2_with fail
      go_ret
      exact ⟨rfl, b1.trans (b2.mono b1.size)⟩
    · have ht : decide ((40 : Int) < (mP : Int)) = false := decide_eq_false (by omega)
      obtain ⟨q2, c2, v2, hrun, hs, dd⟩ := HashesAt.copy (HP.out.below (Nat.le_refl _) ((Below.refl w1.heap.size w1).alloc (Nat.le_refl _) (.cells #[] 39))) (by omega) ⟨w1.heap.size, 0, none⟩
      have d2 : Below w1.heap.size w1 v2 := ((Below.refl _ _).alloc (Nat.le_refl _) _).trans (dd.mono (by simp))
      have hrun2 := hrun; clear hrun dd
      have C2 := Lib.hid hs; clear hs
      replace HP := Lib.hid (HP.out.below (Nat.le_refl _) d2)
      replace HL := Lib.hid (HL.out.below d2)
      replace b1 := b1.trans (d2.mono b1.size)
      have hra := clashRows_all v2 n i l (by omega) _ _ _ P C2.out HL.out
      rcases hb : badSide n i with _ | _
      · obtain ⟨n, i, rfl, rfl, h1, h2⟩ := badSide_nat hb
        have hs30 := Tree.sides_len 30 n i h1 h2
        by_cases he : (Tree.sides n i).length = P.length
        · have hf := rowsR_facts (n := (n : Int)) (i := (i : Int)) (l := l) (P := P) (by omega) HP.out.2 (by rw [rowsR_ok hb he])
          obtain ⟨_, _, -, -, -, -, -, -, -, -, hXB⟩ := hf
          rw [rowsR_ok (l := l) hb he] at hra hXB
          have hrc := Tree.rows_climb (Tree.sides n i) l P he
          have hlen := Tree.rowsS_len (Tree.sides n i) l P
          have hin0 := rowsAll_in n (Tree.sides n i) l P
          have hla := rowsS_last (Tree.sides n i) l P
          obtain ⟨Y, hY⟩ : ∃ Y, Y = Tree.rowsS (Tree.sides n i) l P := ⟨_, rfl⟩
          rw [← hY] at hra hrc hXB hlen hla
          simp only [← hY] at hin0
          obtain ⟨x0, hx0⟩ : ∃ x0, x0 = (3 :: (Wire.num n ++ Sha.of (Y.headD [])) : List UInt8) := ⟨_, rfl⟩
          have hck : Tree.check (Sha.of x0) n i l P = true := by
            unfold Tree.check Tree.root
            rw [decide_eq_true he, ← hrc, ← hx0, Bool.true_and, beq_self_eq_true]
          obtain ⟨X, hX⟩ : ∃ X, X = Tree.rowsAll n Y := ⟨_, rfl⟩
          rw [← hX] at hra hXB
          simp only [← hX] at hin0
          have hxx : X[0]? = some x0 := by rw [hX, hx0]; rfl
          obtain ⟨m, hm⟩ : ∃ m, m = mP := ⟨_, rfl⟩
          have hXn : X.length = m + 2 := by rw [hX]; unfold Tree.rowsAll; rw [List.length_cons]; omega
          have hlast : X[m + 1]? = some (0 :: l) := by
            rw [hX]; unfold Tree.rowsAll; rw [List.getElem?_cons_succ]
            rw [show m = (Tree.sides n i).length by omega]; exact hla
          have hx0l := hXB x0 (List.mem_of_getElem? hxx)
          subst hm
          have HCK := Lib.hid hck; clear hck
          have HX0 := Lib.hid hxx; clear hxx
          have HXN := Lib.hid hXn; clear hXn
          have HXB := Lib.hid hXB; clear hXB
          have HLA := Lib.hid hlast; clear hlast
          have HIN0 := Lib.hid hin0; clear hin0
          clear hX hx0 hrc hY he hlen hla hs30
          simp only [Bool.false_eq_true, if_false, if_true] at hra
          have HRA := Lib.hid hra; clear hra
          go_wp2_with ((with_reducible show wpList _ _ _ (⟨some 35, _, _, _, _, _⟩ :: _) _ _); refine wpList_append_ran (by kernel_rfl) _ _ _ rfl _ _ rfl rfl hrun2 ?_)
          refine HRA.out.mono ?_
          rintro e w3 ⟨q3, cx, kk, rfl, s3, b3⟩
          have HX := Lib.hid s3; clear s3 HRA hrun2
          replace HP := Lib.hid (HP.out.below (Nat.le_refl _) b3)
          replace HL := Lib.hid (HL.out.below b3)
          replace b1 := b1.trans (b3.mono b1.size)
          have hkx := HX.out.len
          rw [HXN.out] at hkx
          subst hkx
          have hkc := HX.out.cap
          have hkm := HX.out.max
          obtain ⟨bx, ox, rfl⟩ := HX.out.form (by omega)
          go_wp2_with fail
          go_loopw [11] (fun v wr => ∃ j : Nat, j ≤ m + 1 ∧ v = .int .i64 ((j + 1 : Nat) : Int) ∧ Below w3.heap.size w3 wr) (fun v _ => m + 2 - (intOf v).toNat)
          case atStart => exact ⟨0, by omega, rfl, Below.refl _ _⟩
          case round =>
            obtain ⟨j, hj, rfl, Br⟩ := hrel
            have HXr := Lib.hid (HX.out.below (Nat.le_refl _) Br)
            by_cases hlt : j + 1 < m + 2
            · obtain ⟨s, hs⟩ : ∃ s, X[j]? = some s := ⟨_, List.getElem?_eq_getElem (by rw [HXN.out]; omega)⟩
              obtain ⟨x, hx⟩ : ∃ x, X[j + 1]? = some x := ⟨_, List.getElem?_eq_getElem (by rw [HXN.out]; omega)⟩
              have hxb := HXB.out x (List.mem_of_getElem? hx)
              have hsb := HXB.out s (List.mem_of_getElem? hs)
              have hin := HIN0.out j s x hs hx
              have hcx := HXr.out.get hx
              have hcs := HXr.out.get hs
              have HSJ := Lib.hid hs
              clear hs hx
              obtain ⟨c1, W1, hcv1, d1, hof⟩ := of_one wr x (by omega) (HL.out.below Br)
              have HOF := Lib.hid hof; clear hof
              obtain ⟨S, hS⟩ : ∃ S, S = Sha.of x := ⟨_, rfl⟩
              have hSl : S.length = 32 := by rw [hS]; exact Sha.of_len x
              rw [← hS] at HOF hin
              have HSL := Lib.hid hSl; clear hSl
              have HINR := Lib.hid hin; clear hin hS
              have hsx := strOf_size x
              have hss := strOf_size s
              have u1 : decide (((j + 1 : Nat) : Int) < ((m + 2 : Nat) : Int)) = true := decide_eq_true (by omega)
              have u1' : decide (j + 1 < m + 2) = true := decide_eq_true hlt
              have hsub : ((j : Int) + 1 - 1) = (j : Int) := by omega
              go_wp2_with fail
              refine HOF.out.mono ?_
              rintro e w4 ⟨rfl, b4⟩
              have HX4 := HXr.out.below (Nat.le_refl _) b4
              have hcs4 := HX4.get HSJ.out
              obtain ⟨W5, hW5⟩ : ∃ W5, W5 = hset (w4.alloc (.cells zero32 39)) w4.heap.size S := ⟨_, rfl⟩
              have x5 : W5.heap[w4.heap.size]? = some (.cells (byteCells S).toArray 39 (0, 0)) := by rw [hW5]; exact hset_heap _ (heap_alloc_new _ _)
              have b5 : Below w4.heap.size w4 W5 := by rw [hW5]; exact hset_below _ ((Below.refl _ _).alloc (Nat.le_refl _) _) (Nat.le_refl _)
              have hcs5 := (HX4.below (Nat.le_refl _) b5).get HSJ.out
              have X50 := Lib.hid x5; clear x5
              have HW5 := Lib.hid hW5; clear hW5
              have B5 := Br.trans ((b4.trans (b5.mono b4.size)).mono Br.size)
              clear b4 b5 HX4 hcs hcs4 hcx d1 HOF
              obtain ⟨p, hp1, hp2⟩ := HINR.out
              have HPP := Lib.hid hp2; clear hp2
              go_wp2_with ((with_reducible show wpList _ _ _ (⟨none, .store 39 (.tmp 12) (.tmp 56), _, _, _, _⟩ :: _) _ _); change wpList _ _ _ _ _ (World.alloc w4 (.cells zero32 39)); refine wpList_put_hash (o := ⟨none, .store _ _ _, _, _, _, _⟩) rfl _ _ rfl _ rfl S HSL.out rfl _ _ (heap_alloc_new _ _) zero32_size ?_; rw [← HW5.out])
              obtain ⟨wo, hwo⟩ : ∃ wo : World, wo = wr := ⟨_, rfl⟩
              subst hwo
              go_loopw [14, 15] (fun vin vk wi => ∃ k : Nat, k ≤ s.length - 31 ∧ vin = .bool (hasIn s S k) ∧ vk = .int .i64 (k : Int) ∧ Below W5.heap.size W5 wi) (fun _ vk _ => s.length + 1 - (intOf vk).toNat)
              case atStart => exact ⟨0, by omega, rfl, rfl, Below.refl _ _⟩
              case round =>
                clear hcs5
                obtain ⟨k, hk, rfl, rfl, Bi⟩ := hrel
                have X5 := Lib.hid ((Bi.block _ (lt_of_block X50.out)).trans X50.out)
                by_cases hk32 : k + 32 ≤ s.length
                · have u2 : decide (((k : Int) + 32) ≤ (s.length : Int)) = true := decide_eq_true (by omega)
                  have u2' : decide (k + 32 ≤ s.length) = true := decide_eq_true hk32
                  have HSZ := Lib.hid hss
                  rcases hin : hasIn s S k with _ | _
                  · have HIN := Lib.hid hin; clear hin
                    by_cases he : (s.drop k).take 32 = S
                    · have h3 : ((strOf ((s.drop k).take 32)).toList == (strOf S).toList) = true := by rw [he]; simp
                      have h4 : ((s.drop k).take 32 == S) = true := by rw [he]; simp
                      have HSE := Lib.hid h3; clear h3
                      have HEQ := Lib.hid h4; clear h4 he
                      go_wp2_with fail
                      refine wp_region_rel_tailM [[], [0], [1], [1], [1], [1, 4], [1, 2, 3, 5], [1], [1, 7], [1, 6, 8], [1, 9], [10]] (chB w4.heap.size k s S) 114 11 (by kernel_rfl) (by kernel_rfl) (by kernel_rfl) (by kernel_rfl) (of_decide_eq_true (by kernel_rfl)) (chB_mono w4.heap.size k s S) ?_ ?_
                      · intro ix op him hi w6 b2 vs hv
                        have hsl0 := HSZ.out
                        match ix, him, hi with
                        | 0, _, hi =>
                          obtain rfl := Option.some.inj hi
                          simp only [relF, List.getD_cons_zero, List.getD_cons_succ, List.foldl_cons, List.foldl_nil, dstAt, List.getElem?_cons_zero, List.getElem?_cons_succ, Option.bind_some]
                          go_wp2_with fail
                          exact ⟨rfl, Below.refl _ _, rfl, rfl⟩
                        | 1, _, hi =>
                          obtain rfl := Option.some.inj hi
                          have h0 : vs 0 = _ := hv 0 (by decide)
                          simp only [relF, List.getD_cons_zero, List.getD_cons_succ, List.foldl_cons, List.foldl_nil, dstAt, List.getElem?_cons_zero, List.getElem?_cons_succ, Option.bind_some]
                          go_frame
                          rw [h0]
                          go_wp2_with fail
                          exact ⟨rfl, Below.refl _ _, rfl, rfl⟩
                        | 2, _, hi =>
                          obtain rfl := Option.some.inj hi
                          have h1 : vs 1 = _ := hv 1 (by decide)
                          simp only [relF, List.getD_cons_zero, List.getD_cons_succ, List.foldl_cons, List.foldl_nil, dstAt, List.getElem?_cons_zero, List.getElem?_cons_succ, Option.bind_some]
                          go_frame
                          rw [h1]
                          go_wp2_with fail
                          exact ⟨rfl, Below.refl _ _, rfl, rfl⟩
                        | 3, _, hi =>
                          obtain rfl := Option.some.inj hi
                          have h1 : vs 1 = _ := hv 1 (by decide)
                          simp only [relF, List.getD_cons_zero, List.getD_cons_succ, List.foldl_cons, List.foldl_nil, dstAt, List.getElem?_cons_zero, List.getElem?_cons_succ, Option.bind_some]
                          go_frame
                          rw [h1]
                          go_wp2_with fail
                          exact ⟨rfl, Below.refl _ _, rfl, rfl⟩
                        | 4, _, hi =>
                          obtain rfl := Option.some.inj hi
                          have h1 : vs 1 = _ := hv 1 (by decide)
                          simp only [relF, List.getD_cons_zero, List.getD_cons_succ, List.foldl_cons, List.foldl_nil, dstAt, List.getElem?_cons_zero, List.getElem?_cons_succ, Option.bind_some]
                          go_frame
                          rw [h1]
                          go_wp2_with fail
                          exact ⟨rfl, Below.refl _ _, rfl, rfl⟩
                        | 5, _, hi =>
                          obtain rfl := Option.some.inj hi
                          have h1 : vs 1 = _ := hv 1 (by decide)
                          have h4 : vs 4 = _ := hv 4 (by decide)
                          simp only [relF, List.getD_cons_zero, List.getD_cons_succ, List.foldl_cons, List.foldl_nil, dstAt, List.getElem?_cons_zero, List.getElem?_cons_succ, Option.bind_some]
                          go_frame
                          rw [h1, h4]
                          go_wp2_with fail
                          exact ⟨rfl, Below.refl _ _, rfl, by first | rfl | (show slotOf _ _ = _; simp [slotOf]; done) | (show slotOf _ _ = _; simp [slotOf]; omega)⟩
                        | 6, _, hi =>
                          obtain rfl := Option.some.inj hi
                          have h1 : vs 1 = _ := hv 1 (by decide)
                          have h2 : vs 2 = _ := hv 2 (by decide)
                          have h3 : vs 3 = _ := hv 3 (by decide)
                          have h5 : vs 5 = _ := hv 5 (by decide)
                          have hx := strOf_extract s k (k + 32)
                          rw [Nat.add_sub_cancel_left] at hx
                          simp only [relF, List.getD_cons_zero, List.getD_cons_succ, List.foldl_cons, List.foldl_nil, dstAt, List.getElem?_cons_zero, List.getElem?_cons_succ, Option.bind_some]
                          go_frame
                          rw [h1, h2, h3, h5]
                          go_wp2_with fail
                          exact ⟨rfl, Below.refl _ _, rfl, by first | rfl | (show slotOf _ _ = _; simp [slotOf, strOf_extract])⟩
                        | 7, _, hi =>
                          obtain rfl := Option.some.inj hi
                          have h1 : vs 1 = _ := hv 1 (by decide)
                          simp only [relF, List.getD_cons_zero, List.getD_cons_succ, List.foldl_cons, List.foldl_nil, dstAt, List.getElem?_cons_zero, List.getElem?_cons_succ, Option.bind_some]
                          go_frame
                          rw [h1]
                          go_wp2_with fail
                          exact ⟨rfl, Below.refl _ _, rfl, rfl⟩
                        | 8, _, hi =>
                          obtain rfl := Option.some.inj hi
                          have h1 : vs 1 = _ := hv 1 (by decide)
                          have h7 : vs 7 = _ := hv 7 (by decide)
                          have hcv := hash_str HSL.out ((b2.block _ (lt_of_block X5.out)).trans X5.out)
                          simp only [relF, List.getD_cons_zero, List.getD_cons_succ, List.foldl_cons, List.foldl_nil, dstAt, List.getElem?_cons_zero, List.getElem?_cons_succ, Option.bind_some]
                          go_frame
                          rw [h1, h7]
                          go_wp2_with fail
                          exact ⟨rfl, Below.refl _ _, rfl, rfl⟩
                        | 9, _, hi =>
                          obtain rfl := Option.some.inj hi
                          have h1 : vs 1 = _ := hv 1 (by decide)
                          have h6 : vs 6 = _ := hv 6 (by decide)
                          have h8 : vs 8 = _ := hv 8 (by decide)
                          have hse := HSE.out
                          simp only [relF, List.getD_cons_zero, List.getD_cons_succ, List.foldl_cons, List.foldl_nil, dstAt, List.getElem?_cons_zero, List.getElem?_cons_succ, Option.bind_some]
                          go_frame
                          rw [h1, h6, h8]
                          go_wp2_with fail
                          exact ⟨rfl, Below.refl _ _, rfl, rfl⟩
                        | 10, _, hi =>
                          obtain rfl := Option.some.inj hi
                          have h1 : vs 1 = _ := hv 1 (by decide)
                          have h9 : vs 9 = _ := hv 9 (by decide)
                          simp only [relF, List.getD_cons_zero, List.getD_cons_succ, List.foldl_cons, List.foldl_nil, dstAt, List.getElem?_cons_zero, List.getElem?_cons_succ, Option.bind_some]
                          go_frame
                          rw [h1, h9]
                          go_wp2_with fail
                          exact ⟨rfl, Below.refl _ _, rfl, rfl⟩
                        | nx + 11, him, _ => exact absurd him (by omega)
                      · intro w6 b2 vs hv
                        have hsl0 := HSZ.out
                        have h10 : vs 10 = _ := hv 10 (by decide)
                        simp only [relF, List.drop_succ_cons, List.drop_zero, List.length_cons, List.length_nil, Nat.zero_add, Nat.reduceAdd, List.range, List.range.loop, List.foldl_cons, List.foldl_nil, dstAt, List.getElem?_cons_zero, List.getElem?_cons_succ, Option.bind_some]
                        go_frame
                        rw [h10]
                        go_wp2_with fail
                        go_roundw
                        case rel => exact ⟨k + 1, by omega, by rw [hasIn_succ, HIN.out, HEQ.out]; first | rfl | simp, by go_num, Bi.trans (b2.mono Bi.size)⟩
                        case measure => simp [intOf]; omega
                    · have h3 : ((strOf ((s.drop k).take 32)).toList == (strOf S).toList) = false := by rw [strOf_toList, strOf_toList, beq_eq_false_iff_ne]; exact he
                      have h4 : ((s.drop k).take 32 == S) = false := beq_eq_false_iff_ne.2 he
                      have HSE := Lib.hid h3; clear h3
                      have HEQ := Lib.hid h4; clear h4 he
                      go_wp2_with fail
                      refine wp_region_rel_tailM [[], [0], [1], [1], [1], [1, 4], [1, 2, 3, 5], [1], [1, 7], [1, 6, 8], [1, 9], [10]] (chC w4.heap.size k s S) 114 11 (by kernel_rfl) (by kernel_rfl) (by kernel_rfl) (by kernel_rfl) (of_decide_eq_true (by kernel_rfl)) (chC_mono w4.heap.size k s S) ?_ ?_
                      · intro ix op him hi w6 b2 vs hv
                        have hsl0 := HSZ.out
                        match ix, him, hi with
                        | 0, _, hi =>
                          obtain rfl := Option.some.inj hi
                          simp only [relF, List.getD_cons_zero, List.getD_cons_succ, List.foldl_cons, List.foldl_nil, dstAt, List.getElem?_cons_zero, List.getElem?_cons_succ, Option.bind_some]
                          go_wp2_with fail
                          exact ⟨rfl, Below.refl _ _, rfl, rfl⟩
                        | 1, _, hi =>
                          obtain rfl := Option.some.inj hi
                          have h0 : vs 0 = _ := hv 0 (by decide)
                          simp only [relF, List.getD_cons_zero, List.getD_cons_succ, List.foldl_cons, List.foldl_nil, dstAt, List.getElem?_cons_zero, List.getElem?_cons_succ, Option.bind_some]
                          go_frame
                          rw [h0]
                          go_wp2_with fail
                          exact ⟨rfl, Below.refl _ _, rfl, rfl⟩
                        | 2, _, hi =>
                          obtain rfl := Option.some.inj hi
                          have h1 : vs 1 = _ := hv 1 (by decide)
                          simp only [relF, List.getD_cons_zero, List.getD_cons_succ, List.foldl_cons, List.foldl_nil, dstAt, List.getElem?_cons_zero, List.getElem?_cons_succ, Option.bind_some]
                          go_frame
                          rw [h1]
                          go_wp2_with fail
                          exact ⟨rfl, Below.refl _ _, rfl, rfl⟩
                        | 3, _, hi =>
                          obtain rfl := Option.some.inj hi
                          have h1 : vs 1 = _ := hv 1 (by decide)
                          simp only [relF, List.getD_cons_zero, List.getD_cons_succ, List.foldl_cons, List.foldl_nil, dstAt, List.getElem?_cons_zero, List.getElem?_cons_succ, Option.bind_some]
                          go_frame
                          rw [h1]
                          go_wp2_with fail
                          exact ⟨rfl, Below.refl _ _, rfl, rfl⟩
                        | 4, _, hi =>
                          obtain rfl := Option.some.inj hi
                          have h1 : vs 1 = _ := hv 1 (by decide)
                          simp only [relF, List.getD_cons_zero, List.getD_cons_succ, List.foldl_cons, List.foldl_nil, dstAt, List.getElem?_cons_zero, List.getElem?_cons_succ, Option.bind_some]
                          go_frame
                          rw [h1]
                          go_wp2_with fail
                          exact ⟨rfl, Below.refl _ _, rfl, rfl⟩
                        | 5, _, hi =>
                          obtain rfl := Option.some.inj hi
                          have h1 : vs 1 = _ := hv 1 (by decide)
                          have h4 : vs 4 = _ := hv 4 (by decide)
                          simp only [relF, List.getD_cons_zero, List.getD_cons_succ, List.foldl_cons, List.foldl_nil, dstAt, List.getElem?_cons_zero, List.getElem?_cons_succ, Option.bind_some]
                          go_frame
                          rw [h1, h4]
                          go_wp2_with fail
                          exact ⟨rfl, Below.refl _ _, rfl, by first | rfl | (show slotOf _ _ = _; simp [slotOf]; done) | (show slotOf _ _ = _; simp [slotOf]; omega)⟩
                        | 6, _, hi =>
                          obtain rfl := Option.some.inj hi
                          have h1 : vs 1 = _ := hv 1 (by decide)
                          have h2 : vs 2 = _ := hv 2 (by decide)
                          have h3 : vs 3 = _ := hv 3 (by decide)
                          have h5 : vs 5 = _ := hv 5 (by decide)
                          have hx := strOf_extract s k (k + 32)
                          rw [Nat.add_sub_cancel_left] at hx
                          simp only [relF, List.getD_cons_zero, List.getD_cons_succ, List.foldl_cons, List.foldl_nil, dstAt, List.getElem?_cons_zero, List.getElem?_cons_succ, Option.bind_some]
                          go_frame
                          rw [h1, h2, h3, h5]
                          go_wp2_with fail
                          exact ⟨rfl, Below.refl _ _, rfl, by first | rfl | (show slotOf _ _ = _; simp [slotOf, strOf_extract])⟩
                        | 7, _, hi =>
                          obtain rfl := Option.some.inj hi
                          have h1 : vs 1 = _ := hv 1 (by decide)
                          simp only [relF, List.getD_cons_zero, List.getD_cons_succ, List.foldl_cons, List.foldl_nil, dstAt, List.getElem?_cons_zero, List.getElem?_cons_succ, Option.bind_some]
                          go_frame
                          rw [h1]
                          go_wp2_with fail
                          exact ⟨rfl, Below.refl _ _, rfl, rfl⟩
                        | 8, _, hi =>
                          obtain rfl := Option.some.inj hi
                          have h1 : vs 1 = _ := hv 1 (by decide)
                          have h7 : vs 7 = _ := hv 7 (by decide)
                          have hcv := hash_str HSL.out ((b2.block _ (lt_of_block X5.out)).trans X5.out)
                          simp only [relF, List.getD_cons_zero, List.getD_cons_succ, List.foldl_cons, List.foldl_nil, dstAt, List.getElem?_cons_zero, List.getElem?_cons_succ, Option.bind_some]
                          go_frame
                          rw [h1, h7]
                          go_wp2_with fail
                          exact ⟨rfl, Below.refl _ _, rfl, rfl⟩
                        | 9, _, hi =>
                          obtain rfl := Option.some.inj hi
                          have h1 : vs 1 = _ := hv 1 (by decide)
                          have h6 : vs 6 = _ := hv 6 (by decide)
                          have h8 : vs 8 = _ := hv 8 (by decide)
                          have hse := HSE.out
                          simp only [relF, List.getD_cons_zero, List.getD_cons_succ, List.foldl_cons, List.foldl_nil, dstAt, List.getElem?_cons_zero, List.getElem?_cons_succ, Option.bind_some]
                          go_frame
                          rw [h1, h6, h8]
                          go_wp2_with fail
                          exact ⟨rfl, Below.refl _ _, rfl, rfl⟩
                        | 10, _, hi =>
                          obtain rfl := Option.some.inj hi
                          have h1 : vs 1 = _ := hv 1 (by decide)
                          have h9 : vs 9 = _ := hv 9 (by decide)
                          simp only [relF, List.getD_cons_zero, List.getD_cons_succ, List.foldl_cons, List.foldl_nil, dstAt, List.getElem?_cons_zero, List.getElem?_cons_succ, Option.bind_some]
                          go_frame
                          rw [h1, h9]
                          go_wp2_with fail
                          exact ⟨rfl, Below.refl _ _, rfl, rfl⟩
                        | nx + 11, him, _ => exact absurd him (by omega)
                      · intro w6 b2 vs hv
                        have hsl0 := HSZ.out
                        have h10 : vs 10 = _ := hv 10 (by decide)
                        simp only [relF, List.drop_succ_cons, List.drop_zero, List.length_cons, List.length_nil, Nat.zero_add, Nat.reduceAdd, List.range, List.range.loop, List.foldl_cons, List.foldl_nil, dstAt, List.getElem?_cons_zero, List.getElem?_cons_succ, Option.bind_some]
                        go_frame
                        rw [h10]
                        go_wp2_with fail
                        go_roundw
                        case rel => exact ⟨k + 1, by omega, by rw [hasIn_succ, HIN.out, HEQ.out]; first | rfl | simp, by go_num, Bi.trans (b2.mono Bi.size)⟩
                        case measure => simp [intOf]; omega
                  · have HIN := Lib.hid hin; clear hin
                    go_wp2_with fail
                    refine wp_region_rel_tailM [[], [0], [1], [1], [1], [1, 4], [1, 2, 3, 5], [1], [1, 7], [1, 6, 8], [1, 9], [10]] (chA w4.heap.size k s S) 114 11 (by kernel_rfl) (by kernel_rfl) (by kernel_rfl) (by kernel_rfl) (of_decide_eq_true (by kernel_rfl)) (chA_mono w4.heap.size k s S) ?_ ?_
                    · intro ix op him hi w6 b2 vs hv
                      have hsl0 := HSZ.out
                      match ix, him, hi with
                      | 0, _, hi =>
                        obtain rfl := Option.some.inj hi
                        simp only [relF, List.getD_cons_zero, List.getD_cons_succ, List.foldl_cons, List.foldl_nil, dstAt, List.getElem?_cons_zero, List.getElem?_cons_succ, Option.bind_some]
                        go_wp2_with fail
                        exact ⟨rfl, Below.refl _ _, rfl, rfl⟩
                      | 1, _, hi =>
                        obtain rfl := Option.some.inj hi
                        have h0 : vs 0 = _ := hv 0 (by decide)
                        simp only [relF, List.getD_cons_zero, List.getD_cons_succ, List.foldl_cons, List.foldl_nil, dstAt, List.getElem?_cons_zero, List.getElem?_cons_succ, Option.bind_some]
                        go_frame
                        rw [h0]
                        go_wp2_with fail
                        exact ⟨rfl, Below.refl _ _, rfl, rfl⟩
                      | 2, _, hi =>
                        obtain rfl := Option.some.inj hi
                        have h1 : vs 1 = _ := hv 1 (by decide)
                        simp only [relF, List.getD_cons_zero, List.getD_cons_succ, List.foldl_cons, List.foldl_nil, dstAt, List.getElem?_cons_zero, List.getElem?_cons_succ, Option.bind_some]
                        go_frame
                        rw [h1]
                        go_wp2_with fail
                        exact ⟨rfl, Below.refl _ _, rfl, trivial⟩
                      | 3, _, hi =>
                        obtain rfl := Option.some.inj hi
                        have h1 : vs 1 = _ := hv 1 (by decide)
                        simp only [relF, List.getD_cons_zero, List.getD_cons_succ, List.foldl_cons, List.foldl_nil, dstAt, List.getElem?_cons_zero, List.getElem?_cons_succ, Option.bind_some]
                        go_frame
                        rw [h1]
                        go_wp2_with fail
                        exact ⟨rfl, Below.refl _ _, rfl, trivial⟩
                      | 4, _, hi =>
                        obtain rfl := Option.some.inj hi
                        have h1 : vs 1 = _ := hv 1 (by decide)
                        simp only [relF, List.getD_cons_zero, List.getD_cons_succ, List.foldl_cons, List.foldl_nil, dstAt, List.getElem?_cons_zero, List.getElem?_cons_succ, Option.bind_some]
                        go_frame
                        rw [h1]
                        go_wp2_with fail
                        exact ⟨rfl, Below.refl _ _, rfl, trivial⟩
                      | 5, _, hi =>
                        obtain rfl := Option.some.inj hi
                        have h1 : vs 1 = _ := hv 1 (by decide)
                        simp only [relF, List.getD_cons_zero, List.getD_cons_succ, List.foldl_cons, List.foldl_nil, dstAt, List.getElem?_cons_zero, List.getElem?_cons_succ, Option.bind_some]
                        go_frame
                        rw [h1]
                        go_wp2_with fail
                        exact ⟨rfl, Below.refl _ _, rfl, trivial⟩
                      | 6, _, hi =>
                        obtain rfl := Option.some.inj hi
                        have h1 : vs 1 = _ := hv 1 (by decide)
                        simp only [relF, List.getD_cons_zero, List.getD_cons_succ, List.foldl_cons, List.foldl_nil, dstAt, List.getElem?_cons_zero, List.getElem?_cons_succ, Option.bind_some]
                        go_frame
                        rw [h1]
                        go_wp2_with fail
                        exact ⟨rfl, Below.refl _ _, rfl, trivial⟩
                      | 7, _, hi =>
                        obtain rfl := Option.some.inj hi
                        have h1 : vs 1 = _ := hv 1 (by decide)
                        simp only [relF, List.getD_cons_zero, List.getD_cons_succ, List.foldl_cons, List.foldl_nil, dstAt, List.getElem?_cons_zero, List.getElem?_cons_succ, Option.bind_some]
                        go_frame
                        rw [h1]
                        go_wp2_with fail
                        exact ⟨rfl, Below.refl _ _, rfl, trivial⟩
                      | 8, _, hi =>
                        obtain rfl := Option.some.inj hi
                        have h1 : vs 1 = _ := hv 1 (by decide)
                        simp only [relF, List.getD_cons_zero, List.getD_cons_succ, List.foldl_cons, List.foldl_nil, dstAt, List.getElem?_cons_zero, List.getElem?_cons_succ, Option.bind_some]
                        go_frame
                        rw [h1]
                        go_wp2_with fail
                        exact ⟨rfl, Below.refl _ _, rfl, trivial⟩
                      | 9, _, hi =>
                        obtain rfl := Option.some.inj hi
                        have h1 : vs 1 = _ := hv 1 (by decide)
                        simp only [relF, List.getD_cons_zero, List.getD_cons_succ, List.foldl_cons, List.foldl_nil, dstAt, List.getElem?_cons_zero, List.getElem?_cons_succ, Option.bind_some]
                        go_frame
                        rw [h1]
                        go_wp2_with fail
                        exact ⟨rfl, Below.refl _ _, rfl, trivial⟩
                      | 10, _, hi =>
                        obtain rfl := Option.some.inj hi
                        have h1 : vs 1 = _ := hv 1 (by decide)
                        simp only [relF, List.getD_cons_zero, List.getD_cons_succ, List.foldl_cons, List.foldl_nil, dstAt, List.getElem?_cons_zero, List.getElem?_cons_succ, Option.bind_some]
                        go_frame
                        rw [h1]
                        go_wp2_with fail
                        exact ⟨rfl, Below.refl _ _, rfl, rfl⟩
                      | nx + 11, him, _ => exact absurd him (by omega)
                    · intro w6 b2 vs hv
                      have hsl0 := HSZ.out
                      have h10 : vs 10 = _ := hv 10 (by decide)
                      simp only [relF, List.drop_succ_cons, List.drop_zero, List.length_cons, List.length_nil, Nat.zero_add, Nat.reduceAdd, List.range, List.range.loop, List.foldl_cons, List.foldl_nil, dstAt, List.getElem?_cons_zero, List.getElem?_cons_succ, Option.bind_some]
                      go_frame
                      rw [h10]
                      go_wp2_with fail
                      go_roundw
                      case rel => exact ⟨k + 1, by omega, by rw [hasIn_succ, HIN.out]; first | rfl | simp, by go_num, Bi.trans (b2.mono Bi.size)⟩
                      case measure => simp [intOf]; omega
                · obtain rfl : k = s.length - 31 := by omega
                  have hin := hasIn_true (k := s.length - 31) (by omega) HPP.out
                  rw [hin]
                  clear hin
                  have hcast : ((s.length - 31 : Nat) : Int) = (s.length : Int) - 31 := by omega
                  rw [hcast]
                  clear hk hcast
                  have u2 : decide (((s.length : Int) - 31 + 32) ≤ (s.length : Int)) = false := decide_eq_false (by omega)
                  go_wp2_with fail
                  go_roundw
                  case rel => exact ⟨j + 1, by omega, by go_num, B5.trans (Bi.mono B5.size)⟩
                  case measure => simp [intOf]; omega
            · obtain rfl : j = m + 1 := by omega
              clear hj hlt
              have HXl := Lib.hid hkm
              have hc0 := of_one wr x0 (by omega) (HL.out.below Br)
              obtain ⟨c1, W1, hcv1, d1, hof⟩ := hc0
              have HOF := Lib.hid hof; clear hof
              have hxl := HXl.out
              have hlast := HXr.out.get HLA.out
              have hfirst := HXr.out.get HX0.out
              rw [Nat.add_zero] at hfirst
              have hadd : (⟨#[0]⟩ : ByteArray) ++ strOf l = strOf (0 :: l) := add_str [0] _
              have hs0 : (⟨#[0]⟩ : ByteArray).size = 1 := rfl
              have hsx0 := strOf_size x0
              have hlx0 := Sha.of_len x0
              go_wp2_with fail
              refine HOF.out.mono ?_
              rintro e w4 ⟨rfl, b4⟩
              have B4 := Br.trans (b4.mono Br.size)
              obtain ⟨q6, c6, v6, hrun, hs, dd⟩ := HashesAt.copy (HP.out.below (Nat.le_refl _) (B4.alloc B4.size (.cells #[] 39))) (by omega) ⟨w4.heap.size, 0, none⟩
              have d6 : Below w4.heap.size w4 v6 := ((Below.refl _ _).alloc (Nat.le_refl _) _).trans (dd.mono (by simp))
              have B6 := B4.trans (d6.mono B4.size)
              have hck := treeCheck_any v6 (Sha.of x0) hlx0 n i h1 h2 l (by omega) _ _ _ P hs (HL.out.below B6)
              rw [HCK.out] at hck
              have HC := Lib.hid hck; clear hck hs dd
              clear hlast hfirst
              go_wp2_with ((with_reducible show wpList _ _ _ (⟨some 111, _, _, _, _, _⟩ :: _) _ _); refine wpList_append_ran (by kernel_rfl) _ _ _ rfl _ _ rfl rfl hrun ?_)
              refine HC.out.mono ?_
              rintro e w7 ⟨rfl, b7⟩
              go_wp2_with fail
              go_ret
              exact ⟨rfl, b1.trans ((B6.trans (b7.mono B6.size)).mono b1.size)⟩
        · rw [rowsR_short (l := l) hb he] at hra
          simp only [Bool.false_eq_true, if_false, if_true] at hra
          have HRA := Lib.hid hra; clear hra
          go_wp2_with ((with_reducible show wpList _ _ _ (⟨some 35, _, _, _, _, _⟩ :: _) _ _); refine wpList_append_ran (by kernel_rfl) _ _ _ rfl _ _ rfl rfl hrun2 ?_)
          refine HRA.out.mono ?_
          rintro e w3 ⟨q3, cx, kk, rfl, s3, b3⟩
          have HX := Lib.hid s3; clear s3 HRA hrun2
          replace HP := Lib.hid (HP.out.below (Nat.le_refl _) b3)
          replace HL := Lib.hid (HL.out.below b3)
          replace b1 := b1.trans (b3.mono b1.size)
          obtain rfl : kk = 0 := by simpa using HX.out.len.symm
          go_wp2_with fail
          go_ret
          exact ⟨rfl, b1⟩
      · rw [rowsR_bad (l := l) (P := P) hb] at hra
        clear hb
        simp only [Bool.false_eq_true, if_false, if_true] at hra
        have HRA := Lib.hid hra; clear hra
        go_wp2_with ((with_reducible show wpList _ _ _ (⟨some 35, _, _, _, _, _⟩ :: _) _ _); refine wpList_append_ran (by kernel_rfl) _ _ _ rfl _ _ rfl rfl hrun2 ?_)
        refine HRA.out.mono ?_
        rintro e w3 ⟨q3, cx, kk, rfl, s3, b3⟩
        have HX := Lib.hid s3; clear s3 HRA hrun2
        replace HP := Lib.hid (HP.out.below (Nat.le_refl _) b3)
        replace HL := Lib.hid (HL.out.below b3)
        replace b1 := b1.trans (b3.mono b1.size)
        obtain rfl : kk = 0 := by simpa using HX.out.len.symm
        go_wp2_with fail
        go_ret
        exact ⟨rfl, b1⟩

theorem chain_law (w : World) (n : Int) (hn : (Lit.int .i64 n).wf = true) (i : Int) (hi : (Lit.int .i64 i).wf = true) (l : ByteArray) (hl : l.size ≤ 140737488351232) (oP : Option Addr) (mP cP : Nat) (P : List (List UInt8)) (hP : RowsAt w oP mP cP 32 byteCells P) (h32P : ∀ p ∈ P, p.length = 32) (hL : Laid w) :
    Calls Tryd.prog 7 #[.int .i64 n, .int .i64 i, .string l, .slice oP mP cP] w fun e w' => e = .returned (.bool true) ∧ Below w.heap.size w w' := by
  have h := chain_list w n hn i hi l.data.toList (by rw [← strOf_size, strOf_data]; exact hl) oP mP cP P ⟨hP, h32P⟩ hL
  rwa [strOf_data] at h

end Go.Proofs.YteljlnkjdajkgaaDoor
