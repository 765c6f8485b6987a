/- The walks of the reference's Size, Prove, top, Check. -/
import Derived.Test.YtgheacegjgaobaaDoorKG6b
import Derived.Test.YtgheacegjgaobaaDoorKG0b
import Derived.Test.YtgheacegjgaobaaDoorKG8a
import Derived.Test.YtgheacegjgaobaaDoorKG6a
import Derived.Stop.BytesEq
namespace Go.Proofs.YtgheacegjgaobaaDoor
open Go.RowKit
set_option linter.unusedSimpArgs false
set_option linter.unusedVariables false

theorem Tryd.under_pair : Tryd.prog.underlying 68 = some (.array 2 3) := by kernel_rfl
theorem Tryd.under_i : Tryd.prog.underlying 3 = some (.int .i64) := by kernel_rfl
theorem Tryd.size_i (w : World) : (sizeOf 3).run Tryd.prog w = .ok 1 w := by kernel_rfl

theorem pair_eql (w : World) (a b c d : Int) :
    (binOp .eql 68 (.agg #[.int .i64 a, .int .i64 b]) (.agg #[.int .i64 c, .int .i64 d])).run Tryd.prog w = .ok (.bool (a == c && b == d)) w := by
  have px0 : (part 3 #[.int .i64 a, .int .i64 b] 0).run Tryd.prog w = .ok (.int .i64 a) w := by simp [part, isAgg, run_underlying Tryd.under_i]
  have px1 : (part 3 #[.int .i64 a, .int .i64 b] 1).run Tryd.prog w = .ok (.int .i64 b) w := by simp [part, isAgg, run_underlying Tryd.under_i]
  have py0 : (part 3 #[.int .i64 c, .int .i64 d] 0).run Tryd.prog w = .ok (.int .i64 c) w := by simp [part, isAgg, run_underlying Tryd.under_i]
  have py1 : (part 3 #[.int .i64 c, .int .i64 d] 1).run Tryd.prog w = .ok (.int .i64 d) w := by simp [part, isAgg, run_underlying Tryd.under_i]
  have e0 := run_equalIn_int (P := Tryd.prog) w 9998 3 .i64 .i64 a c Tryd.under_i
  have e1 := run_equalIn_int (P := Tryd.prog) w 9998 3 .i64 .i64 b d Tryd.under_i
  rw [run_eql_struct, show (10000 : Nat) = 9998 + 2 from rfl, Op.equalIn]
  simp only [Sem.run_bind, run_underlying Tryd.under_pair, Result.andThen_ok, Tryd.size_i, Std.Legacy.Range.forIn_eq_forIn_range', Std.Legacy.Range.size, Nat.sub_zero, Nat.add_sub_cancel, Nat.div_one]
  rw [show List.range' 0 2 1 = [0, 1] from rfl]
  simp only [List.forIn_cons, List.forIn_nil, Sem.run_bind, Nat.zero_mul, Nat.one_mul, px0, px1, py0, py1, e0, e1, Result.andThen_ok]
  cases h0 : (a == c)
  · simp
  · cases h1 : (b == d)
    · simp [px1, py1, e1, h1]
    · simp [px1, py1, e1, h1]

theorem Tryd.eqg_pair : Tryd.prog.eqGuardType Tryd.prog.depth 68 = false := by kernel_rfl

theorem wpList_eql_pair {ops : Array Oper} {rest : List Oper} {op : Oper} {a : Act} {w : World} {Q : Exit → Act → World → Prop} (hgd : Region.wanted op (yielded ops a.tmps) = true) (x y : Operand) (ho : op.op = .binOp .eql 68 x y 68)
    (p q r s : Int) (hx : a.eval x = .agg #[.int .i64 p, .int .i64 q]) (hy : a.eval y = .agg #[.int .i64 r, .int .i64 s])
    (h : wpList Tryd.prog ops Q rest (a.put op.dst (.bool (p == r && q == s))) w) : wpList Tryd.prog ops Q (op :: rest) a w :=
  wpList_step fun K hK => by
    rw [if_pos hgd]
    have hg := run_eqGuard_agg (P := Tryd.prog) w .eql 68 x y #[.int .i64 p, .int .i64 q] #[.int .i64 r, .int .i64 s] Tryd.eqg_pair
    have he := pair_eql w p q r s
    unfold Oper.wp execOp
    simp only [ho, hx, hy, Sem.run_bind, hg, he, Result.andThen_ok, Sem.run_pure]
    exact hK _ _ h

theorem rows_differ {w : World} {B B' : Nat} {e e' : TypeId} {z z' : Nat} {v v' : Value} {n n' : Nat} {xs xs' : List Value} (h : w.ownsRow B e z v n xs) (h' : w.ownsRow B' e' z' v' n' xs') (he : e ≠ e') {k : Nat} (hk : v.ownBlock = some k) : v'.ownBlock ≠ some k := by
  intro hk'
  rcases h.2 with ⟨rfl, _⟩ | ⟨g, cap, cur, rfl, _, hgg, _⟩
  · cases hk
  · rcases h'.2 with ⟨rfl, _⟩ | ⟨g', cap', cur', rfl, _, hgg', _⟩
    · cases hk'
    · simp only [Value.ownBlock, Option.some.injEq] at hk hk'
      subst hk
      subst hk'
      rw [hgg] at hgg'
      simp only [Option.some.injEq, Obj.cells.injEq] at hgg'
      exact he hgg'.2.1

theorem PairsAt.cells {w : World} {q : Option Addr} {n c : Nat} {d : List (Nat × Nat)} (h : PairsAt w q n c d) {i : Nat} {x : Nat × Nat} (hx : d[i]? = some x) : ∃ g, q = some ⟨g, 0, none⟩ ∧ g < w.heap.size ∧ w.cell? ⟨g, i * 2, none⟩ = some (.int .i64 (x.1 : Int)) ∧ w.cell? ⟨g, i * 2 + 1, none⟩ = some (.int .i64 (x.2 : Int)) := by
  have hi := (List.getElem?_eq_some_iff.1 hx).1
  rw [h.1] at hi
  obtain ⟨g, h5, h6, h7⟩ := h.2.2.2 (by omega)
  obtain ⟨g1, g2⟩ := pairsC_get hx
  exact ⟨g, h5, h6, h7 _ _ g1, h7 _ _ g2⟩

set_option maxRecDepth 100000 in
set_option maxHeartbeats 1000000 in
theorem refMSize_bad (w : World) (n : Int) (o : Option Addr) (m c : Nat) (A : List Int) (hA : IntsAt w o m c A) (h : sizeBad n A = true) :
    Calls Tryd.prog 24 #[.int .i64 n, .slice o m c] w fun e w' => e = .returned (.int .i64 0) ∧ Below w.heap.size w w' := by
  have hr := refRises_any w n o m c A hA
  have HR := Lib.hid hr; clear hr hA
  unfold sizeBad at h
  rcases h1 : decide (n < 0) with _ | _
  · rcases h2 : decide (65536 < n) with _ | _
    · have h3 : risesB n A = false := by rw [h1, h2] at h; simpa using h
      have hr := HR.out
      rw [h3] at hr
      have HR2 := Lib.hid hr; clear hr HR h3 h
      go_enter Tryd.func24, Tryd.ntmps24
      go_wp2_with fail
      refine HR2.out.mono ?_
      rintro e w1 ⟨rfl, b1⟩
      go_wp2_with fail
      go_ret
      exact ⟨rfl, b1⟩
    · clear h HR
      go_enter Tryd.func24, Tryd.ntmps24
      go_wp2_with fail
      go_ret
      exact ⟨rfl, Below.refl _ _⟩
  · clear h HR
    go_enter Tryd.func24, Tryd.ntmps24
    go_wp2_with fail
    go_ret
    exact ⟨rfl, Below.refl _ _⟩

set_option maxRecDepth 100000 in
set_option maxHeartbeats 2000000 in
theorem refMSize_any (w : World) (n : Nat) (hn : n ≤ 65536) (o : Option Addr) (m c : Nat) (B : List Nat) (hA : IntsAt w o m c (B.map Int.ofNat)) (hB : B.Pairwise (· < ·)) (hBn : ∀ a ∈ B, a < n) :
    Calls Tryd.prog 24 #[.int .i64 (n : Int), .slice o m c] w fun e w' => e = .returned (.int .i64 ((Many.tops B 0 n).length : Int)) ∧ Below w.heap.size w w' := by
  have hr := refRises_any w n o m c _ hA
  rw [rises_intro hB (fun a ha => by have := hBn a ha; omega)] at hr
  have HR := Lib.hid hr; clear hr
  have ht := fun (w1 : World) (b1 : Below w.heap.size w w1) => refTops_any B o m c n 0 w1 (hA.below (Nat.le_refl _) b1) (by omega)
  have HT := Lib.hid ht; clear ht hA hB hBn
  have t1 : decide ((n : Int) < 0) = false := decide_eq_false (by omega)
  have t2 : decide ((65536 : Int) < (n : Int)) = false := decide_eq_false (by omega)
  have t2' : decide (65536 < n) = false := decide_eq_false (by omega)
  go_enter Tryd.func24, Tryd.ntmps24
  go_wp2_with fail
  refine HR.out.mono ?_
  rintro e w1 ⟨rfl, b1⟩
  have hc := HT.out w1 b1
  have HC := Lib.hid hc; clear hc HT HR
  go_wp2_with fail
  refine HC.out.mono ?_
  rintro e w2 ⟨q, cc, rfl, o2, b2⟩
  clear o2
  go_wp2_with fail
  go_ret
  exact ⟨rfl, b1.trans (b2.mono b1.size)⟩

/-- What the region's operations leave. -/
def rmV (w00 : World) (gp f n m c j co np cp : Nat) (o qo : Option Addr) (L : List (List UInt8)) (S : List UInt8) (ix : Nat) (w : World) (v : Value) : Prop :=
  match ix with
  | 0 => v = .slice qo j co
  | 1 => v = .slice o m c
  | 2 => v = .slice (some ⟨gp, 0, none⟩) np cp
  | 3 => v = .int .i64 (j : Int)
  | 4 => v = .pointer (some ⟨gp, j * 2, none⟩)
  | 5 => v = .pointer (some ⟨gp, j * 2, none⟩)
  | 6 => v = .int .i64 (f : Int)
  | 7 => v = .slice (some ⟨gp, 0, none⟩) np cp
  | 8 => v = .int .i64 (j : Int)
  | 9 => v = .pointer (some ⟨gp, j * 2, none⟩)
  | 10 => v = .pointer (some ⟨gp, j * 2, none⟩)
  | 11 => v = .int .i64 (f : Int)
  | 12 => v = .slice (some ⟨gp, 0, none⟩) np cp
  | 13 => v = .int .i64 (j : Int)
  | 14 => v = .pointer (some ⟨gp, j * 2, none⟩)
  | 15 => v = .pointer (some ⟨gp, j * 2 + 1, none⟩)
  | 16 => v = .int .i64 (n : Int)
  | 17 => v = .int .i64 (((f + n : Nat) : Int))
  | 18 => ∃ (qq : Option Addr) (cc : Nat), v = .slice qq n cc ∧ StrsAt w00 qq n cc ((L.drop f).take n)
  | 19 => v = .agg (byteCells S).toArray
  | 20 => ∃ g, v = .slice (some ⟨g, 0, none⟩) 1 1 ∧ w.heap[g]? = some (.cells (byteCells S).toArray 23 (0, 0))
  | _ => True

theorem rmV_mono (w00 : World) (gp f n m c j co np cp : Nat) (o qo : Option Addr) (L : List (List UInt8)) (S : List UInt8) (jx : Nat) (w w' : World) (v : Value) (hb : Below w.heap.size w w') (h : rmV w00 gp f n m c j co np cp o qo L S jx w v) : rmV w00 gp f n m c j co np cp o qo L S jx w' v := by
  match jx, h with
  | 0, h => exact h
  | 1, h => exact h
  | 2, h => exact h
  | 3, h => exact h
  | 4, h => exact h
  | 5, h => exact h
  | 6, h => exact h
  | 7, h => exact h
  | 8, h => exact h
  | 9, h => exact h
  | 10, h => exact h
  | 11, h => exact h
  | 12, h => exact h
  | 13, h => exact h
  | 14, h => exact h
  | 15, h => exact h
  | 16, h => exact h
  | 17, h => exact h
  | 18, h => exact h
  | 19, h => exact h
  | 20, h => exact (let ⟨g, h1, h2⟩ := h; ⟨g, h1, (hb.block g (lt_of_block h2)).trans h2⟩)
  | _ + 21, h => exact trivial


/-- The sums so far. -/
def provS (L : List (List UInt8)) (Q : List (Nat × Nat)) (j : Nat) : List (List UInt8) := (Q.take j).map fun x => Tree.top ((L.drop x.1).take x.2)
theorem provS_len {L : List (List UInt8)} {Q : List (Nat × Nat)} {j : Nat} (h : j ≤ Q.length) : (provS L Q j).length = j := by unfold provS; rw [List.length_map, List.length_take]; omega
theorem provS_succ {L : List (List UInt8)} {Q : List (Nat × Nat)} {j : Nat} {x : Nat × Nat} (h : Q[j]? = some x) : provS L Q (j + 1) = provS L Q j ++ [Tree.top ((L.drop x.1).take x.2)] := by
  unfold provS; rw [List.take_add_one, h, List.map_append]; rfl

set_option maxRecDepth 100000 in
set_option maxHeartbeats 4000000 in
theorem refMProve_any (w : World) (o oA : Option Addr) (m c mA cA : Nat) (L : List (List UInt8)) (B : List Nat) (hS : StrsAt w o m c L) (hA : IntsAt w oA mA cA (B.map Int.ofNat)) (hlen : ∀ l ∈ L, l.length ≤ 100000) (hm : m ≤ 60000) :
    Calls Tryd.prog 21 #[.slice o m c, .slice oA mA cA] w fun e w' => ∃ q cc, e = .returned (.slice q (Many.prove L B).length cc) ∧ HashesAt w' q (Many.prove L B).length cc (Many.prove L B) ∧ Below w.heap.size w w' := by
  have hlL := hS.len
  have hcap := hS.cap
  have hmax := hS.max
  have hT := tops_small (B := B) (n := m) (by omega)
  obtain ⟨Q, hQ⟩ : ∃ Q, Q = Many.tops B 0 m := ⟨_, rfl⟩
  have hPr : Many.prove L B = provS L Q Q.length := by unfold Many.prove provS; rw [hQ, hlL, List.take_length]
  have hPl : (Many.prove L B).length = Q.length := by rw [hPr, provS_len (Nat.le_refl _)]
  have hin : ∀ x ∈ Q, x.1 + x.2 ≤ m ∧ (1 ≤ x.2 ∨ m = 0) := fun x hx => by
    rcases Nat.eq_zero_or_pos m with h0 | h0
    · subst h0
      have he : Many.inr B 0 (0 + 0) = [] := Many.inr_empty B (Nat.le_refl _)
      rw [hQ, Many.tops_none he] at hx
      obtain rfl := List.mem_singleton.1 hx
      exact ⟨Nat.le_refl _, .inr rfl⟩
    · rw [hQ] at hx
      have := Many.tops_in B m 0 h0 x hx
      exact ⟨by omega, .inl (by omega)⟩
  have ht := fun (w1 : World) (b1 : Below w.heap.size w w1) => refTops_any B oA mA cA m 0 w1 (hA.below (Nat.le_refl _) b1) (by omega)
  simp only [← hQ] at ht
  rw [← hQ] at hT
  rw [hPl, hPr]
  have HT := Lib.hid ht; clear ht hA
  have HIN := Lib.hid hin; clear hin
  have HLE := Lib.hid hlen; clear hlen
  have HS := Lib.hid hS; clear hS
  clear hPr hPl hQ hlL
  have hlow : Below w.heap.size w (w.alloc (.cells #[] 23)) := (Below.refl _ _).alloc (Nat.le_refl _) _
  have hc := HT.out _ hlow
  have HC := Lib.hid hc; clear hc HT
  have ho0 : (w.alloc (.cells #[] 23)).ownsRow w.heap.size 23 32 (.slice (some ⟨w.heap.size, 0, none⟩) 0 0) 0 (hashCells (provS L Q 0)) := ⟨rfl, .inr ⟨w.heap.size, 0, #[], rfl, Nat.le_refl _, heap_alloc_new w _, Nat.le_refl _, by decide, rfl, rfl⟩⟩
  have HO0 := Lib.hid ho0; clear ho0
  go_enter Tryd.func21, Tryd.ntmps21
  go_wp2_with fail
  refine HC.out.mono ?_
  rintro e w1 ⟨qp, cp, rfl, op, bp⟩
  clear HC
  have b1 := hlow.trans (bp.mono hlow.size)
  have HPO0 := Lib.hid op
  have HP := Lib.hid (PairsAt.of_owns rfl op); clear op
  obtain ⟨BP, hBP⟩ : ∃ BP, BP = (w.alloc (.cells #[] 23)).heap.size := ⟨_, rfl⟩
  rw [← hBP] at HPO0
  clear hBP
  have hpc := HP.out.2.1
  have hpm := HP.out.2.2.1
  obtain ⟨np, hnp⟩ : ∃ np, np = Q.length := ⟨_, rfl⟩
  rw [← hnp] at HP HPO0 hpc hT ⊢
  have HPO : Hid (w1.ownsRow BP 68 2 (.slice qp np cp) np (pairsC Q)) := Lib.hid HPO0.out
  clear HPO0
  have HNP := Lib.hid hnp; clear hnp
  go_wp2_with fail
  go_loopw [5, 7] (fun v u wr => ∃ (j : Nat) (qo : Option Addr) (co : Nat), j ≤ np ∧ u = .int .i64 (j : Int) ∧ v = .slice qo j co ∧ Hid (wr.ownsRow w.heap.size 23 32 (.slice qo j co) j (hashCells (provS L Q j))) ∧ Below w.heap.size w wr ∧ Hid (wr.ownsRow BP 68 2 (.slice qp np cp) np (pairsC Q))) (fun _ u _ => np - (intOf u).toNat)
  case atStart => exact ⟨0, _, _, by omega, rfl, rfl, Lib.hid (ownsRow_below HO0.out fun k hk => bp.block k (HO0.out.lt k hk).2), b1, HPO⟩
  case round =>
    obtain ⟨j, qo, co, hj, rfl, rfl, HOW, Bw, HPr⟩ := hrel
    by_cases hlt : j < np
    · obtain ⟨x, hx⟩ : ∃ x, Q[j]? = some x := ⟨_, List.getElem?_eq_getElem (by rw [← HNP.out]; exact hlt)⟩
      obtain ⟨gp, rfl, hgp, hc1, hc2⟩ := (PairsAt.of_owns HNP.out.symm HPr.out).cells hx
      obtain ⟨hx1, hx2⟩ := HIN.out x (List.mem_of_getElem? hx)
      have hds := provS_succ (L := L) hx
      have hdl := provS_len (L := L) (Q := Q) (j := j) (by rw [← HNP.out]; exact hj)
      obtain ⟨f, n⟩ := x
      simp only at hc1 hc2 hx1 hx2 hds
      obtain ⟨S, hSe⟩ : ∃ S, S = Tree.top ((L.drop f).take n) := ⟨_, rfl⟩
      have hSl : S.length = 32 := by rw [hSe]; exact Tree.top_len _
      rw [← hSe] at hds
      obtain ⟨D, hD⟩ : ∃ D, D = provS L Q j := ⟨_, rfl⟩
      rw [← hD] at HOW hds hdl
      have HDS := Lib.hid hds; clear hds hx
      have HDL := Lib.hid hdl; clear hdl hD
      have HSE := Lib.hid hSe; clear hSe
      have HSL := Lib.hid hSl; clear hSl
      have HC1 := Lib.hid hc1; clear hc1
      have HC2 := Lib.hid hc2; clear hc2
      have HGP := Lib.hid hgp; clear hgp
      have BW := Lib.hid Bw
      have HLT : Hid (∀ l ∈ (L.drop f).take n, l.length ≤ 100000) := Lib.hid fun l hl => HLE.out l (List.mem_of_mem_drop (List.mem_of_mem_take hl))
      have HNN : Hid (f + n ≤ m ∧ (1 ≤ n ∨ m = 0) ∧ m ≤ c ∧ c ≤ 9223372036854775807 ∧ m ≤ 60000 ∧ j < np) := Lib.hid ⟨hx1, hx2, hcap, hmax, hm, hlt⟩
      have t1 : decide ((j : Int) < (np : Int)) = true := decide_eq_true (by omega)
      have t1' : decide (j < np) = true := decide_eq_true hlt
      go_wp2_with fail
      refine wp_region_rel_tailM [[], [], [], [], [2, 3], [4], [5], [], [], [7, 8], [9], [10], [], [], [12, 13], [14], [15], [11, 16], [1, 6, 17], [18], [19], [0, 20], [21]] (rmV w gp f n m c j co np cp o qo L S) 42 21 (by kernel_rfl) (by kernel_rfl) (by kernel_rfl) (by kernel_rfl) (of_decide_eq_true (by kernel_rfl)) (rmV_mono w gp f n m c j co np cp o qo L S) ?_ ?_
      · intro ix op him hi w2 b2 vs hv
        obtain ⟨hn1, hn2, hn3, hn4, hn5, hn6⟩ := HNN.out
        match ix, him, hi with
        | 0, _, hi =>
          obtain rfl := Option.some.inj hi
          simp only [relF, List.getD_cons_zero, List.getD_cons_succ, List.foldl_cons, List.foldl_nil, dstAt, List.getElem?_cons_zero, List.getElem?_cons_succ, Option.bind_some]
          go_wp2_with fail
          exact ⟨rfl, Below.refl _ _, rfl, rfl⟩
        | 1, _, hi =>
          obtain rfl := Option.some.inj hi
          simp only [relF, List.getD_cons_zero, List.getD_cons_succ, List.foldl_cons, List.foldl_nil, dstAt, List.getElem?_cons_zero, List.getElem?_cons_succ, Option.bind_some]
          go_wp2_with fail
          exact ⟨rfl, Below.refl _ _, rfl, rfl⟩
        | 2, _, hi =>
          obtain rfl := Option.some.inj hi
          simp only [relF, List.getD_cons_zero, List.getD_cons_succ, List.foldl_cons, List.foldl_nil, dstAt, List.getElem?_cons_zero, List.getElem?_cons_succ, Option.bind_some]
          go_wp2_with fail
          exact ⟨rfl, Below.refl _ _, rfl, rfl⟩
        | 3, _, hi =>
          obtain rfl := Option.some.inj hi
          simp only [relF, List.getD_cons_zero, List.getD_cons_succ, List.foldl_cons, List.foldl_nil, dstAt, List.getElem?_cons_zero, List.getElem?_cons_succ, Option.bind_some]
          go_wp2_with fail
          exact ⟨rfl, Below.refl _ _, rfl, rfl⟩
        | 4, _, hi =>
          obtain rfl := Option.some.inj hi
          have h2 : vs 2 = _ := hv 2 (by decide)
          have h3 : vs 3 = _ := hv 3 (by decide)
          simp only [relF, List.getD_cons_zero, List.getD_cons_succ, List.foldl_cons, List.foldl_nil, dstAt, List.getElem?_cons_zero, List.getElem?_cons_succ, Option.bind_some]
          go_frame
          rw [h2, h3]
          go_wp2_with fail
          exact ⟨rfl, Below.refl _ _, rfl, by first | rfl | (show slotOf _ _ = _; simp [slotOf])⟩
        | 5, _, hi =>
          obtain rfl := Option.some.inj hi
          have h4 : vs 4 = _ := hv 4 (by decide)
          simp only [relF, List.getD_cons_zero, List.getD_cons_succ, List.foldl_cons, List.foldl_nil, dstAt, List.getElem?_cons_zero, List.getElem?_cons_succ, Option.bind_some]
          go_frame
          rw [h4]
          go_wp2_with fail
          exact ⟨rfl, Below.refl _ _, rfl, by first | rfl | (show slotOf _ _ = _; simp [slotOf])⟩
        | 6, _, hi =>
          obtain rfl := Option.some.inj hi
          have h5 : vs 5 = _ := hv 5 (by decide)
          have hcx := (b2.cell (p := ⟨gp, j * 2, none⟩) HGP.out).trans HC1.out
          simp only [relF, List.getD_cons_zero, List.getD_cons_succ, List.foldl_cons, List.foldl_nil, dstAt, List.getElem?_cons_zero, List.getElem?_cons_succ, Option.bind_some]
          go_frame
          rw [h5]
          go_wp2_with fail
          exact ⟨rfl, Below.refl _ _, rfl, by first | rfl | (show slotOf _ _ = _; simp [slotOf])⟩
        | 7, _, hi =>
          obtain rfl := Option.some.inj hi
          simp only [relF, List.getD_cons_zero, List.getD_cons_succ, List.foldl_cons, List.foldl_nil, dstAt, List.getElem?_cons_zero, List.getElem?_cons_succ, Option.bind_some]
          go_wp2_with fail
          exact ⟨rfl, Below.refl _ _, rfl, rfl⟩
        | 8, _, hi =>
          obtain rfl := Option.some.inj hi
          simp only [relF, List.getD_cons_zero, List.getD_cons_succ, List.foldl_cons, List.foldl_nil, dstAt, List.getElem?_cons_zero, List.getElem?_cons_succ, Option.bind_some]
          go_wp2_with fail
          exact ⟨rfl, Below.refl _ _, rfl, rfl⟩
        | 9, _, hi =>
          obtain rfl := Option.some.inj hi
          have h7 : vs 7 = _ := hv 7 (by decide)
          have h8 : vs 8 = _ := hv 8 (by decide)
          simp only [relF, List.getD_cons_zero, List.getD_cons_succ, List.foldl_cons, List.foldl_nil, dstAt, List.getElem?_cons_zero, List.getElem?_cons_succ, Option.bind_some]
          go_frame
          rw [h7, h8]
          go_wp2_with fail
          exact ⟨rfl, Below.refl _ _, rfl, by first | rfl | (show slotOf _ _ = _; simp [slotOf])⟩
        | 10, _, hi =>
          obtain rfl := Option.some.inj hi
          have h9 : vs 9 = _ := hv 9 (by decide)
          simp only [relF, List.getD_cons_zero, List.getD_cons_succ, List.foldl_cons, List.foldl_nil, dstAt, List.getElem?_cons_zero, List.getElem?_cons_succ, Option.bind_some]
          go_frame
          rw [h9]
          go_wp2_with fail
          exact ⟨rfl, Below.refl _ _, rfl, by first | rfl | (show slotOf _ _ = _; simp [slotOf])⟩
        | 11, _, hi =>
          obtain rfl := Option.some.inj hi
          have h10 : vs 10 = _ := hv 10 (by decide)
          have hcx := (b2.cell (p := ⟨gp, j * 2, none⟩) HGP.out).trans HC1.out
          simp only [relF, List.getD_cons_zero, List.getD_cons_succ, List.foldl_cons, List.foldl_nil, dstAt, List.getElem?_cons_zero, List.getElem?_cons_succ, Option.bind_some]
          go_frame
          rw [h10]
          go_wp2_with fail
          exact ⟨rfl, Below.refl _ _, rfl, by first | rfl | (show slotOf _ _ = _; simp [slotOf])⟩
        | 12, _, hi =>
          obtain rfl := Option.some.inj hi
          simp only [relF, List.getD_cons_zero, List.getD_cons_succ, List.foldl_cons, List.foldl_nil, dstAt, List.getElem?_cons_zero, List.getElem?_cons_succ, Option.bind_some]
          go_wp2_with fail
          exact ⟨rfl, Below.refl _ _, rfl, rfl⟩
        | 13, _, hi =>
          obtain rfl := Option.some.inj hi
          simp only [relF, List.getD_cons_zero, List.getD_cons_succ, List.foldl_cons, List.foldl_nil, dstAt, List.getElem?_cons_zero, List.getElem?_cons_succ, Option.bind_some]
          go_wp2_with fail
          exact ⟨rfl, Below.refl _ _, rfl, rfl⟩
        | 14, _, hi =>
          obtain rfl := Option.some.inj hi
          have h12 : vs 12 = _ := hv 12 (by decide)
          have h13 : vs 13 = _ := hv 13 (by decide)
          simp only [relF, List.getD_cons_zero, List.getD_cons_succ, List.foldl_cons, List.foldl_nil, dstAt, List.getElem?_cons_zero, List.getElem?_cons_succ, Option.bind_some]
          go_frame
          rw [h12, h13]
          go_wp2_with fail
          exact ⟨rfl, Below.refl _ _, rfl, by first | rfl | (show slotOf _ _ = _; simp [slotOf])⟩
        | 15, _, hi =>
          obtain rfl := Option.some.inj hi
          have h14 : vs 14 = _ := hv 14 (by decide)
          simp only [relF, List.getD_cons_zero, List.getD_cons_succ, List.foldl_cons, List.foldl_nil, dstAt, List.getElem?_cons_zero, List.getElem?_cons_succ, Option.bind_some]
          go_frame
          rw [h14]
          go_wp2_with fail
          exact ⟨rfl, Below.refl _ _, rfl, by first | rfl | (show slotOf _ _ = _; simp [slotOf])⟩
        | 16, _, hi =>
          obtain rfl := Option.some.inj hi
          have h15 : vs 15 = _ := hv 15 (by decide)
          have hcx := (b2.cell (p := ⟨gp, j * 2 + 1, none⟩) HGP.out).trans HC2.out
          simp only [relF, List.getD_cons_zero, List.getD_cons_succ, List.foldl_cons, List.foldl_nil, dstAt, List.getElem?_cons_zero, List.getElem?_cons_succ, Option.bind_some]
          go_frame
          rw [h15]
          go_wp2_with fail
          exact ⟨rfl, Below.refl _ _, rfl, by first | rfl | (show slotOf _ _ = _; simp [slotOf])⟩
        | 17, _, hi =>
          obtain rfl := Option.some.inj hi
          have h11 : vs 11 = _ := hv 11 (by decide)
          have h16 : vs 16 = _ := hv 16 (by decide)
          simp only [relF, List.getD_cons_zero, List.getD_cons_succ, List.foldl_cons, List.foldl_nil, dstAt, List.getElem?_cons_zero, List.getElem?_cons_succ, Option.bind_some]
          go_frame
          rw [h11, h16]
          go_wp2_with fail
          exact ⟨rfl, Below.refl _ _, rfl, by first | rfl | (show slotOf _ _ = _; simp [slotOf]; done) | (show slotOf _ _ = _; simp [slotOf]; omega)⟩
        | 18, _, hi =>
          obtain rfl := Option.some.inj hi
          have h1 : vs 1 = _ := hv 1 (by decide)
          have h6 : vs 6 = _ := hv 6 (by decide)
          have h17 : vs 17 = _ := hv 17 (by decide)
          simp only [relF, List.getD_cons_zero, List.getD_cons_succ, List.foldl_cons, List.foldl_nil, dstAt, List.getElem?_cons_zero, List.getElem?_cons_succ, Option.bind_some]
          go_frame
          rw [h1, h6, h17]
          by_cases hn0 : n = 0
          · obtain rfl : m = 0 := by omega
            obtain rfl : f = 0 := by omega
            subst hn0
            rcases o with _ | a
            · by_cases hc0 : c = 0
              · subst hc0
                go_wp2_with fail
                exact ⟨rfl, Below.refl _ _, rfl, _, _, by first | rfl | (show slotOf _ _ = _; simp [slotOf]; rfl), strs_part HS.out rfl _ _ (by omega)⟩
              · have hcb : (c == 0) = false := by rw [beq_eq_false_iff_ne]; exact hc0
                go_wp2_with fail
                exact ⟨rfl, Below.refl _ _, rfl, _, _, by first | rfl | (show slotOf _ _ = _; simp [slotOf]; rfl), strs_part HS.out rfl _ _ (by omega)⟩
            · by_cases hc0 : c = 0
              · subst hc0
                go_wp2_with fail
                exact ⟨rfl, Below.refl _ _, rfl, _, _, by first | rfl | (show slotOf _ _ = _; simp [slotOf]; rfl), strs_part HS.out rfl _ _ (by omega)⟩
              · have hcb : (c == 0) = false := by rw [beq_eq_false_iff_ne]; exact hc0
                go_wp2_with fail
                exact ⟨rfl, Below.refl _ _, rfl, _, _, by first | rfl | (show slotOf _ _ = _; simp [slotOf]; rfl), strs_part HS.out rfl _ _ (by omega)⟩
          · obtain ⟨b, off, rfl⟩ := HS.out.form (by omega)
            have hcf : (c == f) = false := by rw [beq_eq_false_iff_ne]; omega
            have hcf' : ((c : Int) == (f : Int)) = false := by rw [beq_eq_false_iff_ne]; omega
            have hcne : ¬ c = f := by omega
            have hsub : f + n - f = n := by omega
            go_wp2_with fail
            exact ⟨rfl, Below.refl _ _, rfl, some ⟨b, off + f, none⟩, c - f, by first | rfl | (show slotOf _ _ = _; simp [slotOf]; done) | (show slotOf _ _ = _; simp [slotOf]; omega), (HS.out.drop f (by omega)).take n (c - f) (by omega) (by omega) (by omega)⟩
        | 19, _, hi =>
          obtain rfl := Option.some.inj hi
          obtain ⟨qq18, cc18, e18, k18⟩ := hv 18 (by decide)
          have htc := refTop_any w2 _ _ _ ((L.drop f).take n) (k18.below (Nat.le_refl _) (BW.out.trans (b2.mono BW.out.size))) (by omega) HLT.out
          rw [← HSE.out] at htc
          simp only [relF, List.getD_cons_zero, List.getD_cons_succ, List.foldl_cons, List.foldl_nil, dstAt, List.getElem?_cons_zero, List.getElem?_cons_succ, Option.bind_some]
          go_frame
          rw [e18]
          go_wp2_with fail
          refine (htc).mono ?_
          rintro e w3 ⟨rfl, b3⟩
          go_wp2_with fail
          exact ⟨rfl, b3, rfl, rfl⟩
        | 20, _, hi =>
          obtain rfl := Option.some.inj hi
          have h19 : vs 19 = _ := hv 19 (by decide)
          have hbc : (byteCells S).length = 32 := by rw [byteCells_length, HSL.out]
          simp only [relF, List.getD_cons_zero, List.getD_cons_succ, List.foldl_cons, List.foldl_nil, dstAt, List.getElem?_cons_zero, List.getElem?_cons_succ, Option.bind_some]
          go_frame
          rw [h19]
          go_wp2_with fail
          exact ⟨rfl, (Below.refl _ _).alloc (Nat.le_refl _) _, rfl, w2.heap.size, rfl, alloc_built w2 hbc⟩
        | nx + 21, him, _ => exact absurd him (by omega)
      · intro w2 b2 vs hv
        obtain ⟨hn1, hn2, hn3, hn4, hn5, hn6⟩ := HNN.out
        have h0 : vs 0 = _ := hv 0 (by decide)
        obtain ⟨g20, e20, s20⟩ := hv 20 (by decide)
        simp only [relF, List.drop_succ_cons, List.drop_zero, List.length_cons, List.length_nil, Nat.zero_add, Nat.reduceAdd, List.range, List.range.loop, List.foldl_cons, List.foldl_nil, dstAt, List.getElem?_cons_zero, List.getElem?_cons_succ, Option.bind_some]
        go_frame
        rw [h0, e20]
        have own2 := ownsRow_below HOW.out fun k hk => b2.block k (HOW.out.lt k hk).2
        obtain ⟨q', c', w5, hrun, hown5, hgr5, -⟩ := hashes_push (d := D) (by rw [HDL.out]; exact own2) (by rw [HDL.out]; omega) HSL.out s20 (by have := BW.out.size; have := b2.size; omega)
        rw [HDL.out] at hrun hown5
        have B5 : Below w.heap.size w w5 := (BW.out.trans (b2.mono BW.out.size)).trans (grown_below hgr5 (fun k hk => (own2.lt k hk).1) (by have := BW.out.size; have := b2.size; omega))
        have HP5 : w5.ownsRow BP 68 2 (.slice (some ⟨gp, 0, none⟩) np cp) np (pairsC Q) := ownsRow_below HPr.out fun k hk => by
          have hk2 := (HPr.out.lt k hk).2
          rw [hgr5.block k (Nat.lt_of_lt_of_le hk2 b2.size) (fun e => rows_differ HPr.out HOW.out (by decide) hk e.symm)]
          exact b2.block k hk2
        have HOWN5 := Lib.hid hown5; clear hown5 own2 hgr5
        go_wp2_with ((with_reducible show wpList _ _ _ (⟨some 40, _, _, _, _, _⟩ :: _) _ _); refine wpList_append_ran (by kernel_rfl) _ _ _ rfl _ _ rfl rfl hrun ?_)
        clear hrun
        go_roundw
        case rel => exact ⟨j + 1, q', c', by omega, by go_num, rfl, Lib.hid (by rw [HDS.out]; exact HOWN5.out), B5, Lib.hid HP5⟩
        case measure => simp [intOf]; omega
    · obtain rfl : j = np := by omega
      have t1 : decide ((j : Int) < (j : Int)) = false := decide_eq_false (by omega)
      go_wp2_with fail
      go_ret
      refine ⟨qo, co, by rw [← HNP.out]; rfl, ?_, Bw⟩
      have hl : (provS L Q j).length = j := by rw [HNP.out]; exact provS_len (Nat.le_refl _)
      have hh := HashesAt.of_owns (base := w.heap.size) (d := provS L Q j) (by rw [hl]; exact HOW.out) (fun p hp => by
        unfold provS at hp
        obtain ⟨x, _, rfl⟩ := List.mem_map.1 hp
        exact Tree.top_len _)
      rw [hl] at hh
      rw [← HNP.out]
      exact hh

end Go.Proofs.YtgheacegjgaobaaDoor
