/- The walk of the law StateRoots. -/
import Derived.Test.YtaihojahccplcaaDoorKG6b
import Derived.Test.YtaihojahccplcaaDoorKG0a
import Derived.Test.YtaihojahccplcaaDoorKG4a
import Derived.Test.YtaihojahccplcaaDoorKG6a
import Derived.Test.YtaihojahccplcaaDoorKG6c
namespace Go.Proofs.YtaihojahccplcaaDoor
open Go.RowKit
set_option linter.unusedSimpArgs false
set_option linter.unusedVariables false

/-- What the region's operations leave. -/
def srfV (n cap c g4 : Nat) (o q : Option Addr) (P : List (List UInt8)) (R : List UInt8) (ix : Nat) (w : World) (v : Value) : Prop :=
  match ix with
  | 0 => v = .slice q n c
  | 1 => v = .int .i64 (n : Int)
  | 2 => v = .slice o n cap
  | 3 => v = .int .i64 (n : Int)
  | 4 => v = .bool false
  | 5 => v = .bool false
  | 6 => v = .agg (byteCells R).toArray
  | 7 => v = .slice q n c
  | 8 => v = .agg (byteCells R).toArray
  | 9 => v = .bool false
  | 10 => v = .bool false
  | _ => True

theorem srfV_mono (n cap c g4 : Nat) (o q : Option Addr) (P : List (List UInt8)) (R : List UInt8) (jx : Nat) (w w' : World) (v : Value) (hb : Below w.heap.size w w') (h : srfV n cap c g4 o q P R jx w v) : srfV n cap c g4 o q P R jx w' v := by
  match jx, h with
  | 0, h => exact h
  | 1, h => exact h
  | 2, h => exact h
  | 3, h => exact h
  | 4, h => exact h
  | 5, h => exact h
  | 6, h => exact h
  | 7, h => exact h
  | 8, h => exact h
  | 9, h => exact h
  | 10, h => exact h
  | _ + 11, h => exact trivial
/-- What the region's operations leave. -/
def srtV (b off n cap bq oq c g4 i cQ : Nat) (qQ : Option Addr) (x : St.V) (P Q : List (List UInt8)) (R p : List UInt8) (ix : Nat) (w : World) (v : Value) : Prop :=
  match ix with
  | 0 => v = .int .i64 (0)
  | 1 => v = .bool false
  | 2 => v = .bool false
  | 3 => v = .slice (some ⟨bq, oq, none⟩) n c
  | 4 => v = .int .i64 ((i : Int))
  | 5 => v = .pointer (some ⟨bq, oq + i, none⟩)
  | 6 => v = .string (strOf p)
  | 7 => v = .slice (some ⟨b, off, none⟩) n cap
  | 8 => v = .int .i64 ((i : Int))
  | 9 => v = .pointer (some ⟨b, off + i * 5, none⟩)
  | 10 => v = .agg (VertexV.cells x).toArray
  | 11 => v = .string (strOf p)
  | 12 => v = .bool false
  | 13 => v = .bool false
  | 14 => v = .bool false
  | 15 => v = .agg (byteCells R).toArray
  | 16 => v = .slice (some ⟨b, off, none⟩) n cap
  | 17 => v = .int .i64 (n : Int)
  | 18 => v = .int .i64 ((i : Int))
  | 19 => v = .slice (some ⟨bq, oq, none⟩) n c
  | 20 => v = .int .i64 ((i : Int))
  | 21 => v = .pointer (some ⟨bq, oq + i, none⟩)
  | 22 => v = .string (strOf p)
  | 23 => v = .slice qQ Q.length cQ
  | 24 => v = .bool true
  | 25 => v = .bool false
  | 26 => v = .bool false
  | _ => True

theorem srtV_mono (b off n cap bq oq c g4 i cQ : Nat) (qQ : Option Addr) (x : St.V) (P Q : List (List UInt8)) (R p : List UInt8) (jx : Nat) (w w' : World) (v : Value) (hb : Below w.heap.size w w') (h : srtV b off n cap bq oq c g4 i cQ qQ x P Q R p jx w v) : srtV b off n cap bq oq c g4 i cQ qQ x P Q R p jx w' v := by
  match jx, h with
  | 0, h => exact h
  | 1, h => exact h
  | 2, h => exact h
  | 3, h => exact h
  | 4, h => exact h
  | 5, h => exact h
  | 6, h => exact h
  | 7, h => exact h
  | 8, h => exact h
  | 9, h => exact h
  | 10, h => exact h
  | 11, h => exact h
  | 12, h => exact h
  | 13, h => exact h
  | 14, h => exact h
  | 15, h => exact h
  | 16, h => exact h
  | 17, h => exact h
  | 18, h => exact h
  | 19, h => exact h
  | 20, h => exact h
  | 21, h => exact h
  | 22, h => exact h
  | 23, h => exact h
  | 24, h => exact h
  | 25, h => exact h
  | 26, h => exact h
  | _ + 27, h => exact trivial

set_option maxRecDepth 100000 in
set_option maxHeartbeats 8000000 in
theorem sroots_law (w : World) (o : Option Addr) (n cap : Nat) (L : List St.V) (hS0 : RowsAt w o n cap 5 VertexV.cells L) (hok : ∀ f ∈ L, f.ok) (hL : Laid w) :
    Calls Tryd.prog 3 #[.slice o n cap] w fun e w' => e = .returned (.bool true) ∧ Below w.heap.size w w' := by
  have hS : VsAt w o n cap L := hS0
  clear hS0 hok
  have hlen := hS.len
  have hcap := hS.cap
  have hmax := hS.max
  have HS0 := Lib.hid hS; clear hS
  have HLEN := Lib.hid hlen; clear hlen
  have HL := Lib.hid hL; clear hL
  go_enter Tryd.func3, Tryd.ntmps3
  go_wp2_with fail
  refine (awake10_any w HL.out).mono ?_
  rintro e w1 ⟨rfl, b1⟩
  have HL1 := Lib.hid (HL.out.below b1)
  have HS1 := Lib.hid (HS0.out.below (Nat.le_refl _) b1)
  by_cases h30 : 30 < n
  · have t1 : decide ((30 : Int) < (n : Int)) = true := decide_eq_true (by omega)
    have t1' : decide (30 < n) = true := decide_eq_true h30
    go_wp2_with fail
    refine (awake10_any _ HL1.out).mono ?_
    rintro e w2 ⟨rfl, b2⟩
    go_wp2_with fail
    go_ret
    exact ⟨rfl, b1.trans (b2.mono b1.size)⟩
  · have t1 : decide ((30 : Int) < (n : Int)) = false := decide_eq_false (by omega)
    have t1' : decide (30 < n) = false := decide_eq_false h30
    obtain ⟨P, hP⟩ : ∃ P, P = L.map St.put := ⟨_, rfl⟩
    have hPL : ∀ l ∈ P, l.length ≤ 100000 := by
      intro l hl
      rw [hP] at hl
      obtain ⟨x, _, rfl⟩ := List.mem_map.1 hl
      have := put_le x; omega
    have hRl := Tree.root_len n (Tree.top P)
    obtain ⟨R, hR⟩ : ∃ R, R = Tree.root n (Tree.top P) := ⟨_, rfl⟩
    rw [← hR] at hRl
    obtain ⟨q3, c3, v3, hrun3, hs3, dd⟩ := VsAt.copy (HS1.out.below (Nat.le_refl _) ((Below.refl w1.heap.size w1).alloc (Nat.le_refl _) (.cells #[] 36))) (by omega) ⟨w1.heap.size, 0, none⟩
    have d3 : Below w1.heap.size w1 v3 := ((Below.refl _ _).alloc (Nat.le_refl _) _).trans (dd.mono (by simp))
    clear dd
    have hsc3 := hs3.cap
    have hsm3 := hs3.max
    have hrows := stRows_any v3 (some q3) n c3 L hs3 (by omega)
    rw [← hP] at hrows
    have HROWS := Lib.hid hrows; clear hrows hs3
    have HPE := Lib.hid hP; clear hP
    have HPL := Lib.hid hPL; clear hPL
    have HRE := Lib.hid hR; clear hR
    have HRL := Lib.hid hRl; clear hRl
    have B3 := b1.trans (d3.mono b1.size)
    have HS3 := Lib.hid (HS1.out.below (Nat.le_refl _) d3)
    have HL3 := Lib.hid (HL1.out.below d3)
    clear d3
    go_wp2_with ((with_reducible show wpList _ _ _ (⟨some 18, _, _, _, _, _⟩ :: _) _ _); refine wpList_append_ran (by kernel_rfl) _ _ _ rfl _ _ rfl rfl hrun3 ?_)
    refine HROWS.out.mono ?_
    rintro e v4 ⟨q, c, rfl, hr4, d4⟩
    have hrc := hr4.cap
    have hrm := hr4.max
    have HR4 := Lib.hid hr4; clear hr4 HROWS hrun3
    have B4 := B3.trans (d4.mono B3.size)
    have HS4 := Lib.hid (HS3.out.below (Nat.le_refl _) d4)
    have HL4 := Lib.hid (HL3.out.below d4)
    clear HS3 HL3 d4
    obtain ⟨q5, c5, v5, hrun5, hs5, dd⟩ := VsAt.copy (HS4.out.below (Nat.le_refl _) ((Below.refl v4.heap.size v4).alloc (Nat.le_refl _) (.cells #[] 36))) (by omega) ⟨v4.heap.size, 0, none⟩
    have d5 : Below v4.heap.size v4 v5 := ((Below.refl _ _).alloc (Nat.le_refl _) _).trans (dd.mono (by simp))
    clear dd
    have hsc5 := hs5.cap
    have hsm5 := hs5.max
    have B5 := B4.trans (d5.mono B4.size)
    have HR5 := Lib.hid (HR4.out.below (Nat.le_refl _) d5)
    have HS5 := Lib.hid (HS4.out.below (Nat.le_refl _) d5)
    have HL5 := Lib.hid (HL4.out.below d5)
    have hroot := stRoot_any v5 (some q5) n c5 L hs5 (by omega) HL5.out
    rw [← HPE.out, ← HRE.out] at hroot
    have HROOT := Lib.hid hroot; clear hroot hs5 d5 HS4 HL4 HR4
    go_wp2_with ((with_reducible show wpList _ _ _ (⟨some 22, _, _, _, _, _⟩ :: _) _ _); refine wpList_append_ran (by kernel_rfl) _ _ _ rfl _ _ rfl rfl hrun5 ?_)
    refine HROOT.out.mono ?_
    rintro e v6 ⟨rfl, d6⟩
    obtain ⟨z7, hz7⟩ : ∃ z7, z7 = v6.alloc (.cells zero32 27) := ⟨_, rfl⟩
    have hzx : z7.heap[v6.heap.size]? = some (.cells zero32 27 (0, 0)) := by rw [hz7]; exact heap_alloc_new v6 _
    have hzb : Below v6.heap.size v6 z7 := by rw [hz7]; exact (Below.refl _ _).alloc (Nat.le_refl _) _
    obtain ⟨v7, hv7⟩ : ∃ v7, v7 = hset z7 v6.heap.size R := ⟨_, rfl⟩
    have hx7 : v7.heap[v6.heap.size]? = some (.cells (byteCells R).toArray 27 (0, 0)) := by rw [hv7]; exact hset_heap _ hzx
    have d7 : Below v6.heap.size v6 v7 := by rw [hv7]; exact hset_below _ hzb (Nat.le_refl _)
    have d57 := d6.trans (d7.mono d6.size)
    have B7 := B5.trans (d57.mono B5.size)
    have HR := Lib.hid (HR5.out.below (Nat.le_refl _) d57)
    have HS := Lib.hid (HS5.out.below (Nat.le_refl _) d57)
    have HL7 := Lib.hid (HL5.out.below d57)
    have ZX7 := Lib.hid hzx; have HZ7 := Lib.hid hz7; have HV7 := Lib.hid hv7; have XR := Lib.hid hx7; clear hzx hzb hz7 hv7 hx7 hrun5 HROOT HR5 HS5 HL5 d57
    go_wp2_with ((with_reducible show wpList _ _ _ (⟨none, .store 27 (.tmp 4) (.tmp 23), _, _, _, _⟩ :: _) _ _); change wpList _ _ _ _ _ (v6.alloc (.cells zero32 27)); rw [← HZ7.out]; refine wpList_put_hash (o := ⟨none, .store _ _ _, _, _, _, _⟩) rfl _ _ rfl v6.heap.size rfl R HRL.out rfl _ _ ZX7.out zero32_size ?_; rw [← HV7.out])
    refine wp_region_rel [[], [0], [], [2], [1, 3], [4], [5], [5], [5, 7], [5, 6, 8], [5, 9]] (srfV n cap c v6.heap.size o q P R) 74 (by kernel_rfl) (by kernel_rfl) (by kernel_rfl) (srfV_mono n cap c v6.heap.size o q P R) ?_ ?_
    · intro ix op hi w5 b2 vs hv
      have him : ix < 11 := (List.getElem?_eq_some_iff.1 hi).1
      have hL2 := HL7.out.below b2
      match ix, him, hi with
      | 0, _, hi =>
        obtain rfl := Option.some.inj hi
        simp only [relF, List.getD_cons_zero, List.getD_cons_succ, List.foldl_cons, List.foldl_nil, dstAt, List.getElem?_cons_zero, List.getElem?_cons_succ, Option.bind_some]
        go_wp2_with fail
        exact ⟨rfl, Below.refl _ _, rfl, rfl⟩
      | 1, _, hi =>
        obtain rfl := Option.some.inj hi
        have h0 : vs 0 = _ := hv 0 (by decide)
        simp only [relF, List.getD_cons_zero, List.getD_cons_succ, List.foldl_cons, List.foldl_nil, dstAt, List.getElem?_cons_zero, List.getElem?_cons_succ, Option.bind_some]
        go_frame
        rw [h0]
        go_wp2_with fail
        exact ⟨rfl, Below.refl _ _, rfl, rfl⟩
      | 2, _, hi =>
        obtain rfl := Option.some.inj hi
        simp only [relF, List.getD_cons_zero, List.getD_cons_succ, List.foldl_cons, List.foldl_nil, dstAt, List.getElem?_cons_zero, List.getElem?_cons_succ, Option.bind_some]
        go_wp2_with fail
        exact ⟨rfl, Below.refl _ _, rfl, rfl⟩
      | 3, _, hi =>
        obtain rfl := Option.some.inj hi
        have h2 : vs 2 = _ := hv 2 (by decide)
        simp only [relF, List.getD_cons_zero, List.getD_cons_succ, List.foldl_cons, List.foldl_nil, dstAt, List.getElem?_cons_zero, List.getElem?_cons_succ, Option.bind_some]
        go_frame
        rw [h2]
        go_wp2_with fail
        exact ⟨rfl, Below.refl _ _, rfl, rfl⟩
      | 4, _, hi =>
        obtain rfl := Option.some.inj hi
        have h1 : vs 1 = _ := hv 1 (by decide)
        have h3 : vs 3 = _ := hv 3 (by decide)
        simp only [relF, List.getD_cons_zero, List.getD_cons_succ, List.foldl_cons, List.foldl_nil, dstAt, List.getElem?_cons_zero, List.getElem?_cons_succ, Option.bind_some]
        go_frame
        rw [h1, h3]
        go_wp2_with fail
        exact ⟨rfl, Below.refl _ _, rfl, by first | rfl | (show slotOf _ _ = _; simp [slotOf]; done) | (show slotOf _ _ = _; simp [slotOf]; omega)⟩
      | 5, _, hi =>
        obtain rfl := Option.some.inj hi
        have h4 : vs 4 = _ := hv 4 (by decide)
        simp only [relF, List.getD_cons_zero, List.getD_cons_succ, List.foldl_cons, List.foldl_nil, dstAt, List.getElem?_cons_zero, List.getElem?_cons_succ, Option.bind_some]
        go_frame
        rw [h4]
        go_wp2_with fail
        exact ⟨rfl, Below.refl _ _, rfl, rfl⟩
      | 6, _, hi =>
        obtain rfl := Option.some.inj hi
        have h5 : vs 5 = _ := hv 5 (by decide)
        simp only [relF, List.getD_cons_zero, List.getD_cons_succ, List.foldl_cons, List.foldl_nil, dstAt, List.getElem?_cons_zero, List.getElem?_cons_succ, Option.bind_some]
        go_frame
        rw [h5]
        go_wp2_with ((with_reducible show wpList _ _ _ (⟨some 30, _, _, _, _, _⟩ :: _) _ _); refine wpList_load_hash (op := ⟨some 30, _, _, _, _, _⟩) (by kernel_rfl) _ rfl (v6.heap.size) rfl R HRL.out _ _ ((b2.block _ (lt_of_block XR.out)).trans XR.out) ?_)
        exact ⟨rfl, Below.refl _ _, rfl, rfl⟩
      | 7, _, hi =>
        obtain rfl := Option.some.inj hi
        have h5 : vs 5 = _ := hv 5 (by decide)
        simp only [relF, List.getD_cons_zero, List.getD_cons_succ, List.foldl_cons, List.foldl_nil, dstAt, List.getElem?_cons_zero, List.getElem?_cons_succ, Option.bind_some]
        go_frame
        rw [h5]
        go_wp2_with fail
        exact ⟨rfl, Below.refl _ _, rfl, rfl⟩
      | 8, _, hi =>
        obtain rfl := Option.some.inj hi
        have h5 : vs 5 = _ := hv 5 (by decide)
        have h7 : vs 7 = _ := hv 7 (by decide)
        have hrn := treeRoot_any w5 _ n _ P (HR.out.below (Nat.le_refl _) b2) (by omega) HPL.out hL2
        rw [← HRE.out] at hrn
        simp only [relF, List.getD_cons_zero, List.getD_cons_succ, List.foldl_cons, List.foldl_nil, dstAt, List.getElem?_cons_zero, List.getElem?_cons_succ, Option.bind_some]
        go_frame
        rw [h5, h7]
        go_wp2_with fail
        refine (hrn).mono ?_
        rintro e w3 ⟨rfl, b3⟩
        go_wp2_with fail
        exact ⟨rfl, b3, rfl, rfl⟩
      | 9, _, hi =>
        obtain rfl := Option.some.inj hi
        have h5 : vs 5 = _ := hv 5 (by decide)
        have h6 : vs 6 = _ := hv 6 (by decide)
        have h8 : vs 8 = _ := hv 8 (by decide)
        simp only [relF, List.getD_cons_zero, List.getD_cons_succ, List.foldl_cons, List.foldl_nil, dstAt, List.getElem?_cons_zero, List.getElem?_cons_succ, Option.bind_some]
        go_frame
        rw [h5, h6, h8]
        go_wp2_with ((with_reducible show wpList _ _ _ (⟨some 33, _, _, _, _, _⟩ :: _) _ _); refine wpList_neq_hash (op := ⟨some 33, _, _, _, _, _⟩) (by kernel_rfl) _ _ rfl R R HRL.out HRL.out rfl rfl ?_; rw [show (!(R == R)) = false by rw [beq_self_eq_true]; rfl])
        exact ⟨rfl, Below.refl _ _, rfl, rfl⟩
      | 10, _, hi =>
        obtain rfl := Option.some.inj hi
        have h5 : vs 5 = _ := hv 5 (by decide)
        have h9 : vs 9 = _ := hv 9 (by decide)
        simp only [relF, List.getD_cons_zero, List.getD_cons_succ, List.foldl_cons, List.foldl_nil, dstAt, List.getElem?_cons_zero, List.getElem?_cons_succ, Option.bind_some]
        go_frame
        rw [h5, h9]
        go_wp2_with fail
        exact ⟨rfl, Below.refl _ _, rfl, rfl⟩
      | nx + 11, him, _ => exact absurd him (by omega)
    · intro w5 b2 vs hv
      have hL2 := HL7.out.below b2
      have h10 : vs 10 = _ := hv 10 (by decide)
      simp only [relF, List.drop_succ_cons, List.drop_zero, List.length_cons, List.length_nil, Nat.zero_add, Nat.reduceAdd, List.range, List.range.loop, List.foldl_cons, List.foldl_nil, dstAt, List.getElem?_cons_zero, List.getElem?_cons_succ, Option.bind_some]
      go_frame
      rw [h10]
      have B8 := B7.trans (b2.mono B7.size)
      have b8 := b2
      obtain ⟨v8, hv8⟩ : ∃ v8, v8 = w5 := ⟨_, rfl⟩
      rw [← hv8] at b8 B8 ⊢
      clear hv8 b2 hv
      have HS8 := Lib.hid (HS.out.below (Nat.le_refl _) b8)
      have HR8 := Lib.hid (HR.out.below (Nat.le_refl _) b8)
      have HL8 := Lib.hid (HL7.out.below b8)
      have XR8 := Lib.hid ((b8.block _ (lt_of_block XR.out)).trans XR.out)
      go_wp2_with fail
      go_loopw [5] (fun v wr => ∃ i : Nat, i ≤ n ∧ v = .int .i64 (i : Int) ∧ Below v8.heap.size v8 wr) (fun v _ => n - (intOf v).toNat)
      case atStart => exact ⟨0, by omega, rfl, Below.refl _ _⟩
      case round =>
        obtain ⟨i, hi, rfl, Bi⟩ := hrel
        by_cases hlt : i < n
        · have t5 : decide ((i : Int) < (n : Int)) = true := decide_eq_true (by omega)
          have t5' : decide (i < n) = true := decide_eq_true hlt
          obtain ⟨x, hx⟩ : ∃ x, L[i]? = some x := ⟨_, List.getElem?_eq_getElem (by rw [HLEN.out]; exact hlt)⟩
          have hpi : P[i]? = some (St.put x) := by rw [HPE.out, List.getElem?_map, hx]; rfl
          have hpx := fun w => stPut_any w x
          have hple := put_le x
          obtain ⟨p, hp⟩ : ∃ p, p = St.put x := ⟨_, rfl⟩
          rw [← hp] at hpi hpx hple
          have hpn : P.length = n := by rw [HPE.out, List.length_map]; exact HLEN.out
          have hck := Tree.check_prove hpi
          rw [hpn, ← HRE.out] at hck
          have h32 := Tree.prove_32 n P i hpn
          have hqn := Tree.prove_len n P i hpn
          have hpr := treeProve_any wr q n c i P (HR8.out.below (Nat.le_refl _) Bi) hlt (by omega) HPL.out (HL8.out.below Bi)
          obtain ⟨Q, hQ⟩ : ∃ Q, Q = Tree.prove P i := ⟨_, rfl⟩
          rw [← hQ] at hck h32 hqn hpr
          have HPR := Lib.hid hpr; clear hpr
          have HCK := Lib.hid hck; clear hck
          have H32 := Lib.hid h32; clear h32
          have HPI := Lib.hid hpi; clear hpi
          have HPX := Lib.hid hpx; clear hpx
          have HPLE : Hid (p.length ≤ 19) := Lib.hid hple; clear hple
          have hxr := fun b off (h : o = some ⟨b, off, none⟩) => (show VsAt v8 (some ⟨b, off, none⟩) n cap L by rw [← h]; exact HS8.out).get hx
          clear hx hQ hp
          go_wp2_with fail
          refine HPR.out.mono ?_
          rintro e w9 ⟨qQ, cQ, rfl, hown, b9⟩
          have hq := HashesAt.of_owns hown H32.out
          have hqc := hq.1.2.1
          have hqm := hq.1.2.2.1
          have b89 := Bi.trans (b9.mono Bi.size)
          have BQ := b89
          have HLQ := Lib.hid (HL8.out.below b89)
          have HQ := Lib.hid hq; clear hq hown HPR
          have HR := Lib.hid (HR8.out.below (Nat.le_refl _) b89)
          have HS := Lib.hid (HS8.out.below (Nat.le_refl _) b89)
          have XR := Lib.hid ((b89.block _ (lt_of_block XR8.out)).trans XR8.out)
          obtain ⟨b, off, rfl⟩ := HS.out.form (by omega)
          obtain ⟨bq, oq, rfl⟩ := HR.out.form (by omega)
          have hxr := hxr b off rfl
          have HXR : Hid (b < w9.heap.size ∧ w9.rangeAt b (off + i * 5) (VertexV.cells x)) := Lib.hid ⟨Nat.lt_of_lt_of_le hxr.1 b89.size, range_under hxr.2 hxr.1 b89⟩
          clear hxr HR8 HS8 XR8 HL8
          go_wp2_with fail
          refine wp_region_rel [[], [0], [1], [2], [2], [2, 3, 4], [2, 5], [2], [2], [2, 7, 8], [2, 9], [2, 10], [2, 6, 11], [2, 12], [13], [14], [14], [14, 16], [14], [14], [14], [14, 19, 20], [14, 21], [14], [14, 15, 17, 18, 22, 23], [14, 24], [14, 25]] (srtV b off n cap bq oq c v6.heap.size i cQ qQ x P Q R p) 74 (by kernel_rfl) (by kernel_rfl) (by kernel_rfl) (srtV_mono b off n cap bq oq c v6.heap.size i cQ qQ x P Q R p) ?_ ?_
          · intro ix op hi w2 b2 vs hv
            have him : ix < 27 := (List.getElem?_eq_some_iff.1 hi).1
            have hL2 := HLQ.out.below b2
            have hin := hlt
            have hpl := HPLE.out
            match ix, him, hi with
            | 0, _, hi =>
              obtain rfl := Option.some.inj hi
              simp only [relF, List.getD_cons_zero, List.getD_cons_succ, List.foldl_cons, List.foldl_nil, dstAt, List.getElem?_cons_zero, List.getElem?_cons_succ, Option.bind_some]
              go_wp2_with fail
              exact ⟨rfl, Below.refl _ _, rfl, rfl⟩
            | 1, _, hi =>
              obtain rfl := Option.some.inj hi
              have h0 : vs 0 = _ := hv 0 (by decide)
              simp only [relF, List.getD_cons_zero, List.getD_cons_succ, List.foldl_cons, List.foldl_nil, dstAt, List.getElem?_cons_zero, List.getElem?_cons_succ, Option.bind_some]
              go_frame
              rw [h0]
              go_wp2_with fail
              exact ⟨rfl, Below.refl _ _, rfl, by first | rfl | (show slotOf _ _ = _; simp [slotOf]; done) | (show slotOf _ _ = _; simp [slotOf]; omega)⟩
            | 2, _, hi =>
              obtain rfl := Option.some.inj hi
              have h1 : vs 1 = _ := hv 1 (by decide)
              simp only [relF, List.getD_cons_zero, List.getD_cons_succ, List.foldl_cons, List.foldl_nil, dstAt, List.getElem?_cons_zero, List.getElem?_cons_succ, Option.bind_some]
              go_frame
              rw [h1]
              go_wp2_with fail
              exact ⟨rfl, Below.refl _ _, rfl, rfl⟩
            | 3, _, hi =>
              obtain rfl := Option.some.inj hi
              have h2 : vs 2 = _ := hv 2 (by decide)
              simp only [relF, List.getD_cons_zero, List.getD_cons_succ, List.foldl_cons, List.foldl_nil, dstAt, List.getElem?_cons_zero, List.getElem?_cons_succ, Option.bind_some]
              go_frame
              rw [h2]
              go_wp2_with fail
              exact ⟨rfl, Below.refl _ _, rfl, rfl⟩
            | 4, _, hi =>
              obtain rfl := Option.some.inj hi
              have h2 : vs 2 = _ := hv 2 (by decide)
              simp only [relF, List.getD_cons_zero, List.getD_cons_succ, List.foldl_cons, List.foldl_nil, dstAt, List.getElem?_cons_zero, List.getElem?_cons_succ, Option.bind_some]
              go_frame
              rw [h2]
              go_wp2_with fail
              exact ⟨rfl, Below.refl _ _, rfl, rfl⟩
            | 5, _, hi =>
              obtain rfl := Option.some.inj hi
              have h2 : vs 2 = _ := hv 2 (by decide)
              have h3 : vs 3 = _ := hv 3 (by decide)
              have h4 : vs 4 = _ := hv 4 (by decide)
              simp only [relF, List.getD_cons_zero, List.getD_cons_succ, List.foldl_cons, List.foldl_nil, dstAt, List.getElem?_cons_zero, List.getElem?_cons_succ, Option.bind_some]
              go_frame
              rw [h2, h3, h4]
              go_wp2_with fail
              exact ⟨rfl, Below.refl _ _, rfl, rfl⟩
            | 6, _, hi =>
              obtain rfl := Option.some.inj hi
              have h2 : vs 2 = _ := hv 2 (by decide)
              have h5 : vs 5 = _ := hv 5 (by decide)
              have hcell := (HR.out.below (Nat.le_refl _) b2).get HPI.out
              simp only [relF, List.getD_cons_zero, List.getD_cons_succ, List.foldl_cons, List.foldl_nil, dstAt, List.getElem?_cons_zero, List.getElem?_cons_succ, Option.bind_some]
              go_frame
              rw [h2, h5]
              go_wp2_with fail
              exact ⟨rfl, Below.refl _ _, rfl, rfl⟩
            | 7, _, hi =>
              obtain rfl := Option.some.inj hi
              have h2 : vs 2 = _ := hv 2 (by decide)
              simp only [relF, List.getD_cons_zero, List.getD_cons_succ, List.foldl_cons, List.foldl_nil, dstAt, List.getElem?_cons_zero, List.getElem?_cons_succ, Option.bind_some]
              go_frame
              rw [h2]
              go_wp2_with fail
              exact ⟨rfl, Below.refl _ _, rfl, rfl⟩
            | 8, _, hi =>
              obtain rfl := Option.some.inj hi
              have h2 : vs 2 = _ := hv 2 (by decide)
              simp only [relF, List.getD_cons_zero, List.getD_cons_succ, List.foldl_cons, List.foldl_nil, dstAt, List.getElem?_cons_zero, List.getElem?_cons_succ, Option.bind_some]
              go_frame
              rw [h2]
              go_wp2_with fail
              exact ⟨rfl, Below.refl _ _, rfl, rfl⟩
            | 9, _, hi =>
              obtain rfl := Option.some.inj hi
              have h2 : vs 2 = _ := hv 2 (by decide)
              have h7 : vs 7 = _ := hv 7 (by decide)
              have h8 : vs 8 = _ := hv 8 (by decide)
              simp only [relF, List.getD_cons_zero, List.getD_cons_succ, List.foldl_cons, List.foldl_nil, dstAt, List.getElem?_cons_zero, List.getElem?_cons_succ, Option.bind_some]
              go_frame
              rw [h2, h7, h8]
              go_wp2_with fail
              exact ⟨rfl, Below.refl _ _, rfl, rfl⟩
            | 10, _, hi =>
              obtain rfl := Option.some.inj hi
              have h2 : vs 2 = _ := hv 2 (by decide)
              have h9 : vs 9 = _ := hv 9 (by decide)
              simp only [relF, List.getD_cons_zero, List.getD_cons_succ, List.foldl_cons, List.foldl_nil, dstAt, List.getElem?_cons_zero, List.getElem?_cons_succ, Option.bind_some]
              go_frame
              rw [h2, h9]
              go_wp2_with ((with_reducible show wpList _ _ _ (⟨some 57, _, _, _, _, _⟩ :: _) _ _); refine wpList_load_vRow (op := ⟨some 57, _, _, _, _, _⟩) (by kernel_rfl) _ rfl b (off + i * 5) (by first | rfl | (simp; done)) x (range_under HXR.out.2 HXR.out.1 b2) ?_)
              exact ⟨rfl, Below.refl _ _, rfl, rfl⟩
            | 11, _, hi =>
              obtain rfl := Option.some.inj hi
              have h2 : vs 2 = _ := hv 2 (by decide)
              have h10 : vs 10 = _ := hv 10 (by decide)
              simp only [relF, List.getD_cons_zero, List.getD_cons_succ, List.foldl_cons, List.foldl_nil, dstAt, List.getElem?_cons_zero, List.getElem?_cons_succ, Option.bind_some]
              go_frame
              rw [h2, h10]
              go_wp2_with fail
              refine (HPX.out w2).mono ?_
              rintro e w3 ⟨rfl, b3⟩
              go_wp2_with fail
              exact ⟨rfl, b3, rfl, rfl⟩
            | 12, _, hi =>
              obtain rfl := Option.some.inj hi
              have h2 : vs 2 = _ := hv 2 (by decide)
              have h6 : vs 6 = _ := hv 6 (by decide)
              have h11 : vs 11 = _ := hv 11 (by decide)
              have hse := (bne_self_eq_false ((strOf p).toList) : ((strOf p).toList != (strOf p).toList) = false)
              simp only [relF, List.getD_cons_zero, List.getD_cons_succ, List.foldl_cons, List.foldl_nil, dstAt, List.getElem?_cons_zero, List.getElem?_cons_succ, Option.bind_some]
              go_frame
              rw [h2, h6, h11]
              go_wp2_with fail
              exact ⟨rfl, Below.refl _ _, rfl, rfl⟩
            | 13, _, hi =>
              obtain rfl := Option.some.inj hi
              have h2 : vs 2 = _ := hv 2 (by decide)
              have h12 : vs 12 = _ := hv 12 (by decide)
              simp only [relF, List.getD_cons_zero, List.getD_cons_succ, List.foldl_cons, List.foldl_nil, dstAt, List.getElem?_cons_zero, List.getElem?_cons_succ, Option.bind_some]
              go_frame
              rw [h2, h12]
              go_wp2_with fail
              exact ⟨rfl, Below.refl _ _, rfl, rfl⟩
            | 14, _, hi =>
              obtain rfl := Option.some.inj hi
              have h13 : vs 13 = _ := hv 13 (by decide)
              simp only [relF, List.getD_cons_zero, List.getD_cons_succ, List.foldl_cons, List.foldl_nil, dstAt, List.getElem?_cons_zero, List.getElem?_cons_succ, Option.bind_some]
              go_frame
              rw [h13]
              go_wp2_with fail
              exact ⟨rfl, Below.refl _ _, rfl, rfl⟩
            | 15, _, hi =>
              obtain rfl := Option.some.inj hi
              have h14 : vs 14 = _ := hv 14 (by decide)
              simp only [relF, List.getD_cons_zero, List.getD_cons_succ, List.foldl_cons, List.foldl_nil, dstAt, List.getElem?_cons_zero, List.getElem?_cons_succ, Option.bind_some]
              go_frame
              rw [h14]
              go_wp2_with ((with_reducible show wpList _ _ _ (⟨some 62, _, _, _, _, _⟩ :: _) _ _); refine wpList_load_hash (op := ⟨some 62, _, _, _, _, _⟩) (by kernel_rfl) _ rfl (v6.heap.size) rfl R HRL.out _ _ ((b2.block _ (lt_of_block XR.out)).trans XR.out) ?_)
              exact ⟨rfl, Below.refl _ _, rfl, rfl⟩
            | 16, _, hi =>
              obtain rfl := Option.some.inj hi
              have h14 : vs 14 = _ := hv 14 (by decide)
              simp only [relF, List.getD_cons_zero, List.getD_cons_succ, List.foldl_cons, List.foldl_nil, dstAt, List.getElem?_cons_zero, List.getElem?_cons_succ, Option.bind_some]
              go_frame
              rw [h14]
              go_wp2_with fail
              exact ⟨rfl, Below.refl _ _, rfl, rfl⟩
            | 17, _, hi =>
              obtain rfl := Option.some.inj hi
              have h14 : vs 14 = _ := hv 14 (by decide)
              have h16 : vs 16 = _ := hv 16 (by decide)
              simp only [relF, List.getD_cons_zero, List.getD_cons_succ, List.foldl_cons, List.foldl_nil, dstAt, List.getElem?_cons_zero, List.getElem?_cons_succ, Option.bind_some]
              go_frame
              rw [h14, h16]
              go_wp2_with fail
              exact ⟨rfl, Below.refl _ _, rfl, rfl⟩
            | 18, _, hi =>
              obtain rfl := Option.some.inj hi
              have h14 : vs 14 = _ := hv 14 (by decide)
              simp only [relF, List.getD_cons_zero, List.getD_cons_succ, List.foldl_cons, List.foldl_nil, dstAt, List.getElem?_cons_zero, List.getElem?_cons_succ, Option.bind_some]
              go_frame
              rw [h14]
              go_wp2_with fail
              exact ⟨rfl, Below.refl _ _, rfl, rfl⟩
            | 19, _, hi =>
              obtain rfl := Option.some.inj hi
              have h14 : vs 14 = _ := hv 14 (by decide)
              simp only [relF, List.getD_cons_zero, List.getD_cons_succ, List.foldl_cons, List.foldl_nil, dstAt, List.getElem?_cons_zero, List.getElem?_cons_succ, Option.bind_some]
              go_frame
              rw [h14]
              go_wp2_with fail
              exact ⟨rfl, Below.refl _ _, rfl, rfl⟩
            | 20, _, hi =>
              obtain rfl := Option.some.inj hi
              have h14 : vs 14 = _ := hv 14 (by decide)
              simp only [relF, List.getD_cons_zero, List.getD_cons_succ, List.foldl_cons, List.foldl_nil, dstAt, List.getElem?_cons_zero, List.getElem?_cons_succ, Option.bind_some]
              go_frame
              rw [h14]
              go_wp2_with fail
              exact ⟨rfl, Below.refl _ _, rfl, rfl⟩
            | 21, _, hi =>
              obtain rfl := Option.some.inj hi
              have h14 : vs 14 = _ := hv 14 (by decide)
              have h19 : vs 19 = _ := hv 19 (by decide)
              have h20 : vs 20 = _ := hv 20 (by decide)
              simp only [relF, List.getD_cons_zero, List.getD_cons_succ, List.foldl_cons, List.foldl_nil, dstAt, List.getElem?_cons_zero, List.getElem?_cons_succ, Option.bind_some]
              go_frame
              rw [h14, h19, h20]
              go_wp2_with fail
              exact ⟨rfl, Below.refl _ _, rfl, rfl⟩
            | 22, _, hi =>
              obtain rfl := Option.some.inj hi
              have h14 : vs 14 = _ := hv 14 (by decide)
              have h21 : vs 21 = _ := hv 21 (by decide)
              have hcell := (HR.out.below (Nat.le_refl _) b2).get HPI.out
              simp only [relF, List.getD_cons_zero, List.getD_cons_succ, List.foldl_cons, List.foldl_nil, dstAt, List.getElem?_cons_zero, List.getElem?_cons_succ, Option.bind_some]
              go_frame
              rw [h14, h21]
              go_wp2_with fail
              exact ⟨rfl, Below.refl _ _, rfl, rfl⟩
            | 23, _, hi =>
              obtain rfl := Option.some.inj hi
              have h14 : vs 14 = _ := hv 14 (by decide)
              simp only [relF, List.getD_cons_zero, List.getD_cons_succ, List.foldl_cons, List.foldl_nil, dstAt, List.getElem?_cons_zero, List.getElem?_cons_succ, Option.bind_some]
              go_frame
              rw [h14]
              go_wp2_with fail
              exact ⟨rfl, Below.refl _ _, rfl, rfl⟩
            | 24, _, hi =>
              obtain rfl := Option.some.inj hi
              have h14 : vs 14 = _ := hv 14 (by decide)
              have h15 : vs 15 = _ := hv 15 (by decide)
              have h17 : vs 17 = _ := hv 17 (by decide)
              have h18 : vs 18 = _ := hv 18 (by decide)
              have h22 : vs 22 = _ := hv 22 (by decide)
              have h23 : vs 23 = _ := hv 23 (by decide)
              have hrn := treeCheck_any w2 R HRL.out n i (by omega) (by omega) p (by omega) _ _ _ Q (HQ.out.below (Nat.le_refl _) b2) hL2
              rw [HCK.out] at hrn
              simp only [relF, List.getD_cons_zero, List.getD_cons_succ, List.foldl_cons, List.foldl_nil, dstAt, List.getElem?_cons_zero, List.getElem?_cons_succ, Option.bind_some]
              go_frame
              rw [h14, h15, h17, h18, h22, h23]
              go_wp2_with fail
              refine (hrn).mono ?_
              rintro e w3 ⟨rfl, b3⟩
              go_wp2_with fail
              exact ⟨rfl, b3, rfl, rfl⟩
            | 25, _, hi =>
              obtain rfl := Option.some.inj hi
              have h14 : vs 14 = _ := hv 14 (by decide)
              have h24 : vs 24 = _ := hv 24 (by decide)
              simp only [relF, List.getD_cons_zero, List.getD_cons_succ, List.foldl_cons, List.foldl_nil, dstAt, List.getElem?_cons_zero, List.getElem?_cons_succ, Option.bind_some]
              go_frame
              rw [h14, h24]
              go_wp2_with fail
              exact ⟨rfl, Below.refl _ _, rfl, rfl⟩
            | 26, _, hi =>
              obtain rfl := Option.some.inj hi
              have h14 : vs 14 = _ := hv 14 (by decide)
              have h25 : vs 25 = _ := hv 25 (by decide)
              simp only [relF, List.getD_cons_zero, List.getD_cons_succ, List.foldl_cons, List.foldl_nil, dstAt, List.getElem?_cons_zero, List.getElem?_cons_succ, Option.bind_some]
              go_frame
              rw [h14, h25]
              go_wp2_with fail
              exact ⟨rfl, Below.refl _ _, rfl, rfl⟩
            | nx + 27, him, _ => exact absurd him (by omega)
          · intro w2 b2 vs hv
            have hL2 := HLQ.out.below b2
            have hin := hlt
            have hpl := HPLE.out
            have h26 : vs 26 = _ := hv 26 (by decide)
            simp only [relF, List.drop_succ_cons, List.drop_zero, List.length_cons, List.length_nil, Nat.zero_add, Nat.reduceAdd, List.range, List.range.loop, List.foldl_cons, List.foldl_nil, dstAt, List.getElem?_cons_zero, List.getElem?_cons_succ, Option.bind_some]
            go_frame
            rw [h26]
            go_wp2_with fail
            go_roundw
            case rel => exact ⟨i + 1, by omega, by go_num, BQ.trans (b2.mono BQ.size)⟩
            case measure => simp [intOf]; omega
        · have t5 : decide ((i : Int) < (n : Int)) = false := decide_eq_false (by omega)
          have t5' : decide (i < n) = false := decide_eq_false hlt
          go_wp2_with fail
          go_ret
          exact ⟨rfl, B8.trans (Bi.mono B8.size)⟩

end Go.Proofs.YtaihojahccplcaaDoor
