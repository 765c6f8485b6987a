/- The walk of many.parts, over any two functions that it is given. -/
import Derived.Test.YtgheacegjgaobaaDoorKG6b
import Derived.Test.YtgheacegjgaobaaDoorKG0c
import Derived.Test.YtgheacegjgaobaaDoorKG4a
namespace Go.Proofs.YtgheacegjgaobaaDoor
open Go.RowKit
set_option linter.unusedSimpArgs false
set_option linter.unusedVariables false

/-- What a step of the two functions may change: what is theirs. -/
structure Stp (Foot : World → Nat → Prop) (w w' : World) : Prop where
  os : w'.os = w.os
  tape : w'.tape = w.tape
  output : w'.output = w.output
  size : w.heap.size ≤ w'.heap.size
  block : ∀ k, k < w.heap.size → ¬ Foot w k → w'.heap[k]? = w.heap[k]?
  foot : ∀ k, Foot w' k → Foot w k ∨ w.heap.size ≤ k

theorem Stp.refl (Foot : World → Nat → Prop) (w : World) : Stp Foot w w := ⟨rfl, rfl, rfl, Nat.le_refl _, fun _ _ _ => rfl, fun _ h => .inl h⟩

theorem Stp.trans {Foot : World → Nat → Prop} {x y z : World} (h : Stp Foot x y) (k : Stp Foot y z) : Stp Foot x z := by
  refine ⟨k.os.trans h.os, k.tape.trans h.tape, k.output.trans h.output, Nat.le_trans h.size k.size, fun b hb hf => ?_, fun b hb => ?_⟩
  · rw [k.block b (Nat.lt_of_lt_of_le hb h.size) (fun hy => by rcases h.foot b hy with h1 | h1; exact hf h1; omega)]
    exact h.block b hb hf
  · rcases k.foot b hb with h1 | h1
    · exact h.foot b h1
    · exact .inr (Nat.le_trans h.size h1)

/-- A block that is not theirs. -/
def Apart (Foot : World → Nat → Prop) (w : World) (a : Nat) : Prop := a < w.heap.size ∧ ¬ Foot w a

theorem Apart.stp {Foot : World → Nat → Prop} {w w' : World} {a : Nat} (h : Apart Foot w a) (s : Stp Foot w w') : Apart Foot w' a ∧ w'.heap[a]? = w.heap[a]? :=
  ⟨⟨Nat.lt_of_lt_of_le h.1 s.size, fun hf => by rcases s.foot a hf with h1 | h1; exact h.2 h1; have := h.1; omega⟩, s.block a h.1 h.2⟩

/-- Two functions that many.parts is given: the one for parts in which nothing is asked for, the one for leaves. -/
structure Clo (fn fo : FuncId) (cn co : Array Value) (w00 : World) (N T M : Nat) (K : List (Nat × Nat) → Nat → World → Prop) (Foot : World → Nat → Prop) (NH : Nat → Nat → Nat → List UInt8) (OH : Nat → Nat → List UInt8) : Prop where
  keep : ∀ D j w w', K D j w → w.heap.size ≤ w'.heap.size → (∀ k, Foot w k → w'.heap[k]? = w.heap[k]?) → K D j w' ∧ ∀ k, Foot w' k → Foot w k
  bound : ∀ D j w k, K D j w → Foot w k → w00.heap.size ≤ k ∧ k < w.heap.size
  cfn : ∀ (args : Array Value) (w : World), Sem.run Tryd.prog (callFunc fn args) w = .ok (.enter fn args) w
  cfo : ∀ (args : Array Value) (w : World), Sem.run Tryd.prog (callFunc fo args) w = .ok (.enter fo args) w
  none : ∀ (D : List (Nat × Nat)) (j f n : Nat) (w : World), K D j w → Below w00.heap.size w00 w → D.length < T → f + n ≤ N → (1 ≤ n ∨ N = 0) → Calls Tryd.prog fn (#[.int .i64 (f : Int), .int .i64 (n : Int)] ++ cn) w fun x w' => x = .returned (.agg (byteCells (NH D.length f n)).toArray) ∧ K (D ++ [(f, n)]) j w' ∧ Stp Foot w w'
  one : ∀ (D : List (Nat × Nat)) (j f : Nat) (w : World), K D j w → Below w00.heap.size w00 w → j < M → f < N → Calls Tryd.prog fo (#[.int .i64 (f : Int)] ++ co) w fun x w' => x = .returned (.agg (byteCells (OH j f)).toArray) ∧ K D (j + 1) w' ∧ Stp Foot w w'
  lenN : ∀ i f n, (NH i f n).length = 32
  lenO : ∀ j f, (OH j f).length = 32

section
variable {fn fo : FuncId} {cn co : Array Value} {w00 : World} {N T M : Nat} {K : List (Nat × Nat) → Nat → World → Prop} {Foot : World → Nat → Prop} {NH : Nat → Nat → Nat → List UInt8} {OH : Nat → Nat → List UInt8}

theorem Clo.stp (C : Clo fn fo cn co w00 N T M K Foot NH OH) {D : List (Nat × Nat)} {j : Nat} {w w' : World} (hK : K D j w) (hb : Below w.heap.size w w') : K D j w' ∧ Stp Foot w w' := by
  obtain ⟨h1, h2⟩ := C.keep D j w w' hK hb.size (fun k hk => hb.block k (C.bound D j w k hK hk).2)
  exact ⟨h1, hb.os, hb.tape, hb.output, hb.size, fun k hk _ => hb.block k hk, fun k hk => .inl (h2 k hk)⟩

theorem Clo.low (C : Clo fn fo cn co w00 N T M K Foot NH OH) {D : List (Nat × Nat)} {j : Nat} {w w' : World} (hK : K D j w) (hb : Below w00.heap.size w00 w) (hs : Stp Foot w w') : Below w00.heap.size w00 w' :=
  ⟨hs.os.trans hb.os, hs.tape.trans hb.tape, hs.output.trans hb.output, Nat.le_trans hb.size hs.size, fun k hk => by
    rw [hs.block k (Nat.lt_of_lt_of_le hk hb.size) (fun hf => by have := (C.bound D j w k hK hf).1; omega)]; exact hb.block k hk⟩

theorem Clo.fresh (C : Clo fn fo cn co w00 N T M K Foot NH OH) {D : List (Nat × Nat)} {j : Nat} {w : World} (hK : K D j w) (o : Obj) : Apart Foot (w.alloc o) w.heap.size := by
  refine ⟨by simp, fun hf => ?_⟩
  have h := (C.keep D j w (w.alloc o) hK (by simp) (fun k hk => Below.heap_alloc _ _ _ (C.bound D j w k hK hk).2)).2 _ hf
  exact Nat.lt_irrefl _ (C.bound D j w _ hK h).2

theorem Clo.put (C : Clo fn fo cn co w00 N T M K Foot NH OH) {D : List (Nat × Nat)} {j a : Nat} {w0 w : World} (hK : K D j w) (ha : Apart Foot w a) (h0 : w0.heap.size ≤ a) (hs : Stp Foot w0 w) (S : List UInt8) : K D j (hset w a S) ∧ Stp Foot w0 (hset w a S) := by
  obtain ⟨h1, h2⟩ := C.keep D j w (hset w a S) hK (by rw [hset_size]; exact Nat.le_refl _) (fun k hk => hset_other S (fun e => ha.2 (e ▸ hk)))
  refine ⟨h1, hs.os, hs.tape, hs.output, by rw [hset_size]; exact hs.size, fun k hk hf => ?_, fun k hk => hs.foot k (h2 k hk)⟩
  rw [hset_other S (by omega)]; exact hs.block k hk hf

theorem Clo.put' (C : Clo fn fo cn co w00 N T M K Foot NH OH) {D : List (Nat × Nat)} {j a : Nat} {w : World} (hK : K D j w) (ha : Apart Foot w a) (S : List UInt8) : K D j (hset w a S) ∧ ∀ k, Foot (hset w a S) k → Foot w k :=
  C.keep D j w (hset w a S) hK (by rw [hset_size]; exact Nat.le_refl _) (fun k hk => hset_other S (fun e => ha.2 (e ▸ hk)))

/-- What holds while the last region goes on: ahead of the right side's call, and behind it. -/
def partsI (K : List (Nat × Nat) → Nat → World → Prop) (Foot : World → Nat → Prop) (w00 w0 : World) (D1 D2 : List (Nat × Nat)) (j1 j2 a10 a13 : Nat) (SL : List UInt8) (b : Bool) (w : World) : Prop :=
  (b = false → K D1 j1 w) ∧ (b = true → K D2 j2 w) ∧ Stp Foot w0 w ∧ Below w00.heap.size w00 w ∧ Apart Foot w a10 ∧ Apart Foot w a13 ∧
  w.heap[a13]? = some (.cells (byteCells SL).toArray 23 (0, 0)) ∧ ∃ cs, w.heap[a10]? = some (.cells cs 23 (0, 0)) ∧ cs.size = 32

/-- What each operation changes. -/
def partsR (K : List (Nat × Nat) → Nat → World → Prop) (Foot : World → Nat → Prop) (D2 : List (Nat × Nat)) (j2 a : Nat) (i : Nat) (w w' : World) : Prop :=
  match i with
  | 12 => Stp Foot w w' ∧ K D2 j2 w'
  | 14 => ∃ S : List UInt8, S.length = 32 ∧ w' = hset w a S
  | _ => Below w.heap.size w w'

theorem partsR_else {K : List (Nat × Nat) → Nat → World → Prop} {Foot : World → Nat → Prop} {D2 : List (Nat × Nat)} {j2 a i : Nat} {w w' : World} (h : partsR K Foot D2 j2 a i w w') (e1 : i ≠ 12) (e2 : i ≠ 14) : Below w.heap.size w w' := by
  unfold partsR at h
  split at h
  · exact absurd rfl e1
  · exact absurd rfl e2
  · exact h

theorem partsI_step (C : Clo fn fo cn co w00 N T M K Foot NH OH) {w0 : World} {D1 D2 : List (Nat × Nat)} {j1 j2 a10 a13 : Nat} {SL : List UInt8} (h0 : w0.heap.size ≤ a10) (hlow : w00.heap.size ≤ a10) (hne : a13 ≠ a10) (i : Nat) (b : Bool) (wa wb : World) (hI : partsI K Foot w00 w0 D1 D2 j1 j2 a10 a13 SL b wa) (hb : i = 12 → b = false) (hr : partsR K Foot D2 j2 a10 i wa wb) :
    partsI K Foot w00 w0 D1 D2 j1 j2 a10 a13 SL (decide (12 = i) || b) wb := by
  obtain ⟨g1, g2, g3, g4, g5, g6, g7, cs, g8, g9⟩ := hI
  have hstp : Stp Foot wa wb → Apart Foot wb a10 ∧ Apart Foot wb a13 ∧ wb.heap[a13]? = some (.cells (byteCells SL).toArray 23 (0, 0)) ∧ ∃ cs, wb.heap[a10]? = some (.cells cs 23 (0, 0)) ∧ cs.size = 32 := fun hs => by
    obtain ⟨u1, u2⟩ := g5.stp hs
    obtain ⟨u3, u4⟩ := g6.stp hs
    exact ⟨u1, u3, u4.trans g7, cs, u2.trans g8, g9⟩
  by_cases e1 : i = 12
  · subst e1
    obtain rfl := hb rfl
    obtain ⟨r1, r2⟩ : Stp Foot wa wb ∧ K D2 j2 wb := hr
    exact ⟨(fun h => by cases h), fun _ => r2, g3.trans r1, C.low (g1 rfl) g4 r1, hstp r1⟩
  · rw [decide_eq_false (fun e => e1 e.symm), Bool.false_or]
    by_cases e2 : i = 14
    · subst e2
      obtain ⟨S, hS, rfl⟩ : ∃ S : List UInt8, S.length = 32 ∧ wb = hset wa a10 S := hr
      have hbw : Below w00.heap.size w00 (hset wa a10 S) := hset_below S g4 hlow
      have hx := hset_heap S g8
      have hy : (hset wa a10 S).heap[a13]? = some (.cells (byteCells SL).toArray 23 (0, 0)) := by rw [hset_other S hne]; exact g7
      have hz := hash_cells_size S hS
      rcases b with _ | _
      · obtain ⟨q1, q2⟩ := C.put (g1 rfl) g5 h0 g3 S
        have q3 := (C.put' (g1 rfl) g5 S).2
        exact ⟨fun _ => q1, (fun h => by cases h), q2, hbw, ⟨by rw [hset_size]; exact g5.1, fun h => g5.2 (q3 _ h)⟩, ⟨by rw [hset_size]; exact g6.1, fun h => g6.2 (q3 _ h)⟩, hy, _, hx, hz⟩
      · obtain ⟨q1, q2⟩ := C.put (g2 rfl) g5 h0 g3 S
        have q3 := (C.put' (g2 rfl) g5 S).2
        exact ⟨(fun h => by cases h), fun _ => q1, q2, hbw, ⟨by rw [hset_size]; exact g5.1, fun h => g5.2 (q3 _ h)⟩, ⟨by rw [hset_size]; exact g6.1, fun h => g6.2 (q3 _ h)⟩, hy, _, hx, hz⟩
    · have hbl := partsR_else hr e1 e2
      rcases b with _ | _
      · obtain ⟨q1, q2⟩ := C.stp (g1 rfl) hbl
        exact ⟨fun _ => q1, (fun h => by cases h), g3.trans q2, C.low (g1 rfl) g4 q2, hstp q2⟩
      · obtain ⟨q1, q2⟩ := C.stp (g2 rfl) hbl
        exact ⟨(fun h => by cases h), fun _ => q1, g3.trans q2, C.low (g2 rfl) g4 q2, hstp q2⟩

theorem inr_one {A : List Nat} (hA : A.Pairwise (· < ·)) {f : Nat} (h : Many.inr A f (f + 1) ≠ []) : Many.inr A f (f + 1) = [f] := by
  obtain ⟨h1, h2⟩ := Many.leaf_at hA h
  have hp : (Many.inr A f (f + 1)).Pairwise (· < ·) := hA.filter _
  match hx : Many.inr A f (f + 1), h with
  | [], h => exact absurd rfl h
  | [a], _ =>
    have := Many.mem_inr.1 (show a ∈ Many.inr A f (f + 1) by rw [hx]; simp)
    rw [show a = f by omega]
  | a :: b :: R, _ =>
    rw [hx] at hp
    have hab := (List.pairwise_cons.1 hp).1 b (by simp)
    have m1 := Many.mem_inr.1 (show a ∈ Many.inr A f (f + 1) by rw [hx]; simp)
    have m2 := Many.mem_inr.1 (show b ∈ Many.inr A f (f + 1) by rw [hx]; simp)
    omega

/-- What the region's operations leave. -/
def partsV (w00 : World) (fn fo : FuncId) (cn co : Array Value) (f n h p m c B13 a10 ba oa : Nat) (SL SR : List UInt8) (RA : List Int) (ix : Nat) (w : World) (v : Value) : Prop :=
  match ix with
  | 0 => v = .agg (byteCells SL).toArray
  | 1 => v = .int .i64 (f : Int)
  | 2 => v = .int .i64 (h : Int)
  | 3 => v = .int .i64 (((f + h : Nat) : Int))
  | 4 => v = .int .i64 (n : Int)
  | 5 => v = .int .i64 (h : Int)
  | 6 => v = .int .i64 (((n - h : Nat) : Int))
  | 7 => v = .slice (some ⟨ba, oa, none⟩) m c
  | 8 => v = .int .i64 (p : Int)
  | 9 => ∃ q : Option Addr, v = .slice q (m - p) (c - p) ∧ IntsAt w00 q (m - p) (c - p) RA
  | 10 => v = .func (.func fn) #[] cn
  | 11 => v = .func (.func fo) #[] co
  | 12 => v = .agg (byteCells SR).toArray
  | 13 => v = .agg (byteCells (Tree.node SL SR)).toArray
  | 14 => w.heap[a10]? = some (.cells (byteCells (Tree.node SL SR)).toArray 23 (0, 0))
  | _ => True



theorem partsV_keep {w00 : World} {fn fo : FuncId} {cn co : Array Value} {f n h p m c B13 a10 ba oa : Nat} {SL SR : List UInt8} {RA : List Int} (j : Nat) (w w' : World) (v : Value) (hk : w'.heap[a10]? = w.heap[a10]?) (hv : partsV w00 fn fo cn co f n h p m c B13 a10 ba oa SL SR RA j w v) : partsV w00 fn fo cn co f n h p m c B13 a10 ba oa SL SR RA j w' v := by
  match j, hv with
  | 0, h => exact h
  | 1, h => exact h
  | 2, h => exact h
  | 3, h => exact h
  | 4, h => exact h
  | 5, h => exact h
  | 6, h => exact h
  | 7, h => exact h
  | 8, h => exact h
  | 9, h => exact h
  | 10, h => exact h
  | 11, h => exact h
  | 12, h => exact h
  | 13, h => exact h
  | 14, h => exact hk.trans h
  | _ + 15, h => exact trivial


theorem partsV_store {w00 : World} {fn fo : FuncId} {cn co : Array Value} {f n h p m c B13 a10 ba oa : Nat} {SL SR : List UInt8} {RA : List Int} (j : Nat) (w w' : World) (v : Value) (hj : j ≠ 14) (hv : partsV w00 fn fo cn co f n h p m c B13 a10 ba oa SL SR RA j w v) : partsV w00 fn fo cn co f n h p m c B13 a10 ba oa SL SR RA j w' v := by
  match j, hv, hj with
  | 0, h, _ => exact h
  | 1, h, _ => exact h
  | 2, h, _ => exact h
  | 3, h, _ => exact h
  | 4, h, _ => exact h
  | 5, h, _ => exact h
  | 6, h, _ => exact h
  | 7, h, _ => exact h
  | 8, h, _ => exact h
  | 9, h, _ => exact h
  | 10, h, _ => exact h
  | 11, h, _ => exact h
  | 12, h, _ => exact h
  | 13, h, _ => exact h
  | 14, h, hj => exact absurd rfl hj
  | _ + 15, h, _ => exact trivial


set_option maxRecDepth 100000 in
set_option maxHeartbeats 8000000 in
theorem parts_any (C : Clo fn fo cn co w00 N T M K Foot NH OH) (hL : Laid w00) (A : List Nat) (hA : A.Pairwise (· < ·)) (hN : N ≤ 1000000) (hM : M ≤ 1000000) :
    ∀ (n f : Nat) (D : List (Nat × Nat)) (j : Nat) (o : Option Addr) (m c : Nat) (w : World), K D j w → Below w00.heap.size w00 w → IntsAt w00 o m c ((Many.inr A f (f + n)).map Int.ofNat) → f + n ≤ N → D.length + (Many.tops A f n).length ≤ T → j + (Many.inr A f (f + n)).length ≤ M → (1 ≤ n ∨ N = 0) →
    Calls Tryd.prog 34 #[.int .i64 (f : Int), .int .i64 (n : Int), .slice o m c, .func (.func fn) #[] cn, .func (.func fo) #[] co] w fun x w' => x = .returned (.agg (byteCells (Many.val A NH OH D.length j f n)).toArray) ∧ K (D ++ Many.tops A f n) (j + (Many.inr A f (f + n)).length) w' ∧ Stp Foot w w' := by
  intro n
  induction n using Nat.strongRecOn with
  | ind n ih =>
    intro f D j o m c w hK hB hI hfn hT hJ hn1
    have hm := hI.len
    rw [List.length_map] at hm
    have hcap := hI.cap
    have hmax := hI.max
    have hcfn := C.cfn
    have hcfo := C.cfo
    have HCN := Lib.hid hcfn; clear hcfn
    have HCO := Lib.hid hcfo; clear hcfo
    have hb1 : Below w.heap.size w (w.alloc (.cells zero32 23)) := (Below.refl _ _).alloc (Nat.le_refl _) _
    obtain ⟨hk1, hs1⟩ := C.stp hK hb1
    have hB1 := C.low hK hB hs1
    have ha1 := C.fresh hK (.cells zero32 23)
    have hx1 := heap_alloc_new w (.cells zero32 23)
    have hwb := hB.size
    by_cases he : Many.inr A f (f + n) = []
    · rw [he] at hm hJ ⊢
      obtain rfl : m = 0 := by simpa using hm.symm
      rw [Many.tops_none he] at hT
      rw [Many.val_none he, Many.tops_none he]
      have hc := C.none D j f n _ hk1 hB1 (by simp at hT; omega) hfn hn1
      have HC := Lib.hid hc; clear hc
      have HA1 := Lib.hid ha1; clear ha1
      have HX1 := Lib.hid hx1; clear hx1
      have HS1 := Lib.hid hs1; clear hs1 hk1 hB1 hb1
      clear hm hI hK hB
      have hcf := HCN.out
      go_enter Tryd.func34, Tryd.ntmps34
      go_wp2_with fail
      refine HC.out.mono ?_
      rintro e w2 ⟨rfl, hk2, hs2⟩
      obtain ⟨ha2, hx2⟩ := HA1.out.stp hs2
      have x10 := hx2.trans HX1.out
      have hln := C.lenN D.length f n
      have HK2 := Lib.hid hk2; clear hk2
      have HS2 := Lib.hid hs2; clear hs2
      have HX10 := Lib.hid x10; clear x10 hx2
      have HLN := Lib.hid hln; clear hln
      have HA2 := Lib.hid ha2; clear ha2
      clear hcf
      go_wp2_with ((with_reducible show wpList _ _ _ (⟨none, .store 23 (.tmp 10) (.tmp 21), _, _, _, _⟩ :: _) _ _); refine wpList_put_hash (o := ⟨none, .store _ _ _, _, _, _, _⟩) rfl _ _ rfl w.heap.size rfl (NH D.length f n) HLN.out rfl _ _ HX10.out zero32_size ?_)
      obtain ⟨q1, q2⟩ := C.put HK2.out HA2.out (Nat.le_refl _) (HS1.out.trans HS2.out) (NH D.length f n)
      refine bodyPost_ret (results_hash rfl _ _ _ _ _ _ rfl HLN.out (hset_heap _ HX10.out)) rfl ⟨rfl, ?_, q2⟩
      exact q1
    · have hmp : 0 < m := by rw [← hm]; exact List.length_pos_iff.2 he
      obtain ⟨ba, oa, rfl⟩ := hI.form hmp
      have t0 : ((m : Int) == 0) = false := by rw [beq_eq_false_iff_ne]; omega
      have t0' : (m == 0) = false := by rw [beq_eq_false_iff_ne]; omega
      by_cases h2 : 2 ≤ n
      · have k1 := Tree.half_pos h2
        have k2 := Tree.half_lt h2
        have t1 : ((n : Int) == 1) = false := by rw [beq_eq_false_iff_ne]; omega
        have t1' : (n == 1) = false := by rw [beq_eq_false_iff_ne]; omega
        have hhc := fun (w : World) => treeHalf_nat w n (by omega)
        have HVAL : Hid (Many.val A NH OH D.length j f n = _) := Lib.hid (Many.val_two he h2)
        have htw := Many.tops_two he h2
        obtain ⟨cu1, cu2, cu3, cu4⟩ := Many.cut_at hA (f := f) (m := f + Tree.half n) (t := f + n) (by omega) (by omega)
        have hsd := fun (i a : Nat) (hh : (Many.inr A f (f + n))[i]? = some a) => Many.cut_side hA (f := f) (m := f + Tree.half n) (t := f + n) (by omega) (by omega) hh
        have hil := ih (Tree.half n) k2
        have hir := ih (n - Tree.half n) (by omega)
        clear ih
        obtain ⟨h, hh⟩ : ∃ h, h = Tree.half n := ⟨_, rfl⟩
        rw [← hh] at k1 k2 HVAL htw cu1 cu2 cu3 cu4 hil hir
        simp only [← hh] at hhc hsd
        clear hh
        have htl := Many.tops_in A h f k1
        clear htl
        obtain ⟨p, hp⟩ : ∃ p, p = (Many.inr A f (f + h)).length := ⟨_, rfl⟩
        rw [← hp] at cu1 cu2 cu3 cu4
        simp only [← hp] at hsd
        have hpm : p ≤ m := by rw [← hm]; exact cu3
        have hcut : CutAt ((Many.inr A f (f + n)).map Int.ofNat) ((f + h : Nat) : Int) p := by
          refine ⟨by rw [List.length_map]; exact cu3, fun i a ha => ?_⟩
          rw [List.getElem?_map] at ha
          obtain ⟨b, hb, rfl⟩ := Option.map_eq_some_iff.1 ha
          have := hsd i b hb
          simp only [Int.ofNat_eq_natCast]
          omega
        have hIL : IntsAt w00 (some ⟨ba, oa, none⟩) p c ((Many.inr A f (f + h)).map Int.ofNat) := by
          have := hI.take p c hpm (by omega) (by omega)
          rwa [← List.map_take, cu1] at this
        obtain ⟨RA, hRA⟩ : ∃ RA, RA = (Many.inr A (f + h) (f + n)).map Int.ofNat := ⟨_, rfl⟩
        have hRAl : RA.length = m - p := by rw [hRA, List.length_map, ← cu4, hm]
        have hIR : IntsAt w00 (some ⟨ba, oa + p, none⟩) (m - p) (c - p) RA := by
          have := hI.drop p hpm
          rwa [← List.map_drop, cu2, ← hRA] at this
        have hIE : ∀ (q : Option Addr) (c' : Nat), m - p = 0 → c' ≤ 9223372036854775807 → IntsAt w00 q (m - p) c' RA := fun q c' h0 hc' => by
          obtain rfl : RA = [] := List.eq_nil_of_length_eq_zero (by omega)
          rw [h0]; exact IntsAt.empty q c' hc'
        have hsc := searchInts_any (w.alloc (.cells zero32 23)) ((f + h : Nat) : Int) _ m c _ p hcut (by omega) (hI.below (Nat.le_refl _) hB1)
        have hjl : j + p + (Many.inr A (f + h) (f + n)).length ≤ M := by rw [← cu4, hm]; omega
        rw [htw, List.length_append] at hT
        have HSC := Lib.hid hsc; clear hsc
        have HHC := Lib.hid hhc; clear hhc
        have HIR := Lib.hid hIR; clear hIR
        have HIE := Lib.hid hIE; clear hIE
        have HL := Lib.hid hL
        have hsum : ((f : Int) + (h : Int)) = ((f + h : Nat) : Int) := by omega
        have hL1 := hil f D j (some ⟨ba, oa, none⟩) p c
        rw [← hp] at hL1
        have hR1 := hir (f + h) (D ++ Many.tops A f h) (j + p)
        rw [show f + h + (n - h) = f + n by omega, ← hRA] at hR1
        clear hil hir
        have HSUM := Lib.hid hsum; clear hsum
        obtain ⟨SL, hSL⟩ : ∃ SL, SL = Many.val A NH OH D.length j f h := ⟨_, rfl⟩
        obtain ⟨SR, hSR⟩ : ∃ SR, SR = Many.val A NH OH (D ++ Many.tops A f h).length (j + p) (f + h) (n - h) := ⟨_, rfl⟩
        have hSLl : SL.length = 32 := by rw [hSL]; exact Many.val_len C.lenN C.lenO _ _ _ _
        have hSRl : SR.length = 32 := by rw [hSR]; exact Many.val_len C.lenN C.lenO _ _ _ _
        have hval2 := HVAL.out
        rw [← hp, ← hSL, ← List.length_append, ← hSR] at hval2
        clear HVAL
        have HVAL := Lib.hid hval2; clear hval2
        rw [← hSL] at hL1
        rw [← hSR] at hR1
        obtain ⟨D2, hD2⟩ : ∃ D2, D2 = D ++ Many.tops A f h ++ Many.tops A (f + h) (n - h) := ⟨_, rfl⟩
        obtain ⟨j2, hj2⟩ : ∃ j2, j2 = j + p + (Many.inr A (f + h) (f + n)).length := ⟨_, rfl⟩
        rw [← hD2, ← hj2] at hR1
        rw [← hj2] at hjl
        have HDD : Hid (D ++ Many.tops A f n = D2) := Lib.hid (by rw [htw, hD2, List.append_assoc])
        have HJJ : Hid (j + (Many.inr A f (f + n)).length = j2) := Lib.hid (by rw [hj2, ← cu4, hm]; omega)
        obtain ⟨D1, hD1⟩ : ∃ D1, D1 = D ++ Many.tops A f h := ⟨_, rfl⟩
        have hD1l : D1.length + (Many.tops A (f + h) (n - h)).length ≤ T := by rw [hD1, List.length_append]; omega
        rw [← hD1] at hL1 hR1
        have hLc := fun (w : World) hK hB => hL1 w hK hB hIL (by omega) (by omega) (by omega) (.inl k1)
        have hRc := fun (w : World) (q : Option Addr) hK hB hI => hR1 q (m - p) (c - p) w hK hB hI (by omega) hD1l hjl (.inl (by omega))
        have HLC := Lib.hid hLc; clear hLc hL1
        have HRC := Lib.hid hRc; clear hRc hR1
        have HSL := Lib.hid hSLl; clear hSLl
        have HSR := Lib.hid hSRl; clear hSRl
        clear hSL hSR hD1 hD2 hj2 hRA hp htw cu1 cu2 cu3 cu4 hsd hcut hIL hI he hm hRAl
        have HK1 := Lib.hid hk1; clear hk1
        have HB1 := Lib.hid hB1; clear hB1
        have HS1 := Lib.hid hs1; clear hs1
        have HA1 := Lib.hid ha1; clear ha1
        have HX1 := Lib.hid hx1; clear hx1
        clear hb1 hK hB
        go_enter Tryd.func34, Tryd.ntmps34
        go_wp2_with fail
        refine (HHC.out _).mono ?_
        rintro e w' ⟨rfl, rfl⟩
        clear HHC
        go_wp2_with fail
        rw [HSUM.out]
        refine HSC.out.mono ?_
        rintro e w2 ⟨rfl, b2⟩
        obtain ⟨hk2, hs2⟩ := C.stp HK1.out b2
        have hB2 := C.low HK1.out HB1.out hs2
        have ha2 := HA1.out.stp hs2
        have hlc := HLC.out w2 hk2 hB2
        have HLC2 := Lib.hid hlc; clear hlc HLC HSC
        have HB2 := Lib.hid hB2; clear hB2
        have HK2 := Lib.hid hk2; clear hk2
        have HS2 := Lib.hid (HS1.out.trans hs2); clear hs2
        have HA2 := Lib.hid ha2.1
        have HX2 := Lib.hid (ha2.2.trans HX1.out); clear ha2 b2
        clear HS1 HA1 HX1 HK1 HB1
        go_wp2_with fail
        refine HLC2.out.mono ?_
        rintro e w3 ⟨rfl, hk3, hs3⟩
        have hB3 := C.low HK2.out HB2.out hs3
        have ha3 := HA2.out.stp hs3
        have hx3 := ha3.2.trans HX2.out
        have hs03 := HS2.out.trans hs3
        have b4 : Below w3.heap.size w3 (w3.alloc (.cells zero32 23)) := (Below.refl _ _).alloc (Nat.le_refl _) _
        obtain ⟨hk4, hs4⟩ := C.stp hk3 b4
        have ha4 := C.fresh hk3 (.cells zero32 23)
        have ha40 := ha3.1.stp hs4
        have hne : w3.heap.size ≠ w.heap.size := fun e => by have := ha3.1.1; omega
        obtain ⟨ws, hws⟩ : ∃ ws, ws = hset (w3.alloc (.cells zero32 23)) w3.heap.size SL := ⟨_, rfl⟩
        have hKs := C.put hk4 ha4 (w0 := w) (by have := hs03.size; omega) (hs03.trans hs4) SL
        have hfs := (C.put' hk4 ha4 SL).2
        have hBs : Below w00.heap.size w00 ws := by rw [hws]; exact hset_below SL (C.low hk3 hB3 hs4) (by have := hB3.size; omega)
        have x13 : ws.heap[w3.heap.size]? = some (.cells (byteCells SL).toArray 23 (0, 0)) := by rw [hws]; exact hset_heap _ (heap_alloc_new w3 _)
        have x10 : ws.heap[w.heap.size]? = some (.cells zero32 23 (0, 0)) := by rw [hws, hset_other SL (fun e => hne e.symm)]; exact ha40.2.trans hx3
        have HA10 : Hid (Apart Foot ws w.heap.size) := Lib.hid ⟨by rw [hws, hset_size]; exact ha40.1.1, fun hf => ha40.1.2 (hfs _ (by rw [← hws]; exact hf))⟩
        have HA13 : Hid (Apart Foot ws w3.heap.size) := Lib.hid ⟨by rw [hws, hset_size]; exact ha4.1, fun hf => ha4.2 (hfs _ (by rw [← hws]; exact hf))⟩
        rw [← hws] at hKs
        have HKS := Lib.hid hKs.1
        have HSS := Lib.hid hKs.2
        clear hKs hfs
        have HBS := Lib.hid hBs; clear hBs
        have X13 := Lib.hid x13; clear x13
        have X10 := Lib.hid x10; clear x10
        have HW4 := Lib.hid hws; clear hws
        have HNE := Lib.hid hne; clear hne
        have HLOW : Hid (w00.heap.size ≤ w.heap.size) := Lib.hid hwb
        clear hk3 hs3 hB3 ha3 hx3 hs03 b4 hk4 hs4 ha4 ha40
        clear HLC2 HS2 HA2 HX2 HK2 HB2
        have HFB : Hid (f + n ≤ 1000000 ∧ h ≤ n ∧ p ≤ m ∧ m ≤ c ∧ c ≤ 9223372036854775807) := Lib.hid ⟨by omega, by omega, hpm, hcap, hmax⟩
        go_wp2_with ((with_reducible show wpList _ _ _ (⟨none, .store 23 (.tmp 13) (.tmp 42), _, _, _, _⟩ :: _) _ _); change wpList _ _ _ _ _ (World.alloc w3 (.cells zero32 23)); refine wpList_put_hash (o := ⟨none, .store _ _ _, _, _, _, _⟩) rfl _ _ rfl _ rfl SL HSL.out rfl _ _ (heap_alloc_new _ _) zero32_size ?_; rw [← HW4.out])
        refine wp_region_relS [[], [], [], [1, 2], [], [], [4, 5], [], [], [7, 8], [], [], [3, 6, 9, 10, 11], [0, 12], [13]] (partsV w00 fn fo cn co f n h p m c w3.heap.size w.heap.size ba oa SL SR RA) (partsR K Foot D2 j2 w.heap.size) 57 (by kernel_rfl) (by kernel_rfl) (by kernel_rfl) 12 (by decide) (partsI K Foot w00 w D1 D2 (j + p) j2 w.heap.size w3.heap.size SL) ?_ ?_ ?_ ?_ ?_
        · obtain ⟨hd1, hd2⟩ := C.stp HKS.out ((Below.refl ws.heap.size ws).drew)
          exact ⟨fun _ => hd1, (fun h => by cases h), HSS.out.trans hd2, C.low HKS.out HBS.out hd2, (HA10.out.stp hd2).1, (HA13.out.stp hd2).1, X13.out, _, X10.out, zero32_size⟩
        · intro i b wa wb hI hb hr
          exact partsI_step C (Nat.le_refl _) HLOW.out HNE.out i b wa wb hI hb hr
        · intro i jj hij b wa wb v hI hb hr hv
          by_cases e3 : i = 14
          · subst e3
            exact partsV_store jj wa wb v (fun e => hij e.symm) hv
          refine partsV_keep jj wa wb v ?_ hv
          obtain ⟨g1, g2, g3, g4, g5, g6, g7, cs, g8, g9⟩ := hI
          by_cases e1 : i = 12
          · subst e1
            exact (g5.stp (show Stp Foot wa wb ∧ K D2 j2 wb from hr).1).2
          · exact (partsR_else hr e1 e3).block _ g5.1
        · intro ix op hi b w2 hI hs hd vs hv
          have him : ix < 15 := (List.getElem?_eq_some_iff.1 hi).1
          obtain ⟨hK1, hK2, hSt, hBl, hA10, hA13, x13, cs10, x10, hcs10⟩ := hI
          have hL2 := HL.out.below hBl
          have hfb := HFB.out
          match ix, him, hi with
          | 0, _, hi =>
            obtain rfl := Option.some.inj hi
            simp only [relF, List.getD_cons_zero, List.getD_cons_succ, List.foldl_cons, List.foldl_nil, dstAt, List.getElem?_cons_zero, List.getElem?_cons_succ, Option.bind_some]
            go_wp2_with ((with_reducible show wpList _ _ _ (⟨some 43, _, _, _, _, _⟩ :: _) _ _); refine wpList_load_hash (op := ⟨some 43, _, _, _, _, _⟩) (by kernel_rfl) _ rfl w3.heap.size rfl SL HSL.out _ _ x13 ?_)
            exact ⟨rfl, Below.refl _ _, rfl, rfl⟩
          | 1, _, hi =>
            obtain rfl := Option.some.inj hi
            simp only [relF, List.getD_cons_zero, List.getD_cons_succ, List.foldl_cons, List.foldl_nil, dstAt, List.getElem?_cons_zero, List.getElem?_cons_succ, Option.bind_some]
            go_wp2_with fail
            exact ⟨rfl, Below.refl _ _, rfl, rfl⟩
          | 2, _, hi =>
            obtain rfl := Option.some.inj hi
            simp only [relF, List.getD_cons_zero, List.getD_cons_succ, List.foldl_cons, List.foldl_nil, dstAt, List.getElem?_cons_zero, List.getElem?_cons_succ, Option.bind_some]
            go_wp2_with fail
            exact ⟨rfl, Below.refl _ _, rfl, rfl⟩
          | 3, _, hi =>
            obtain rfl := Option.some.inj hi
            have h1 : vs 1 = _ := hv 1 (by decide)
            have h2 : vs 2 = _ := hv 2 (by decide)
            simp only [relF, List.getD_cons_zero, List.getD_cons_succ, List.foldl_cons, List.foldl_nil, dstAt, List.getElem?_cons_zero, List.getElem?_cons_succ, Option.bind_some]
            go_frame
            rw [h1, h2]
            go_wp2_with fail
            exact ⟨rfl, Below.refl _ _, rfl, by first | rfl | (show slotOf _ _ = _; simp [slotOf]; done) | (show slotOf _ _ = _; simp [slotOf]; omega)⟩
          | 4, _, hi =>
            obtain rfl := Option.some.inj hi
            simp only [relF, List.getD_cons_zero, List.getD_cons_succ, List.foldl_cons, List.foldl_nil, dstAt, List.getElem?_cons_zero, List.getElem?_cons_succ, Option.bind_some]
            go_wp2_with fail
            exact ⟨rfl, Below.refl _ _, rfl, rfl⟩
          | 5, _, hi =>
            obtain rfl := Option.some.inj hi
            simp only [relF, List.getD_cons_zero, List.getD_cons_succ, List.foldl_cons, List.foldl_nil, dstAt, List.getElem?_cons_zero, List.getElem?_cons_succ, Option.bind_some]
            go_wp2_with fail
            exact ⟨rfl, Below.refl _ _, rfl, rfl⟩
          | 6, _, hi =>
            obtain rfl := Option.some.inj hi
            have h4 : vs 4 = _ := hv 4 (by decide)
            have h5 : vs 5 = _ := hv 5 (by decide)
            simp only [relF, List.getD_cons_zero, List.getD_cons_succ, List.foldl_cons, List.foldl_nil, dstAt, List.getElem?_cons_zero, List.getElem?_cons_succ, Option.bind_some]
            go_frame
            rw [h4, h5]
            go_wp2_with fail
            exact ⟨rfl, Below.refl _ _, rfl, by first | rfl | (show slotOf _ _ = _; simp [slotOf]; done) | (show slotOf _ _ = _; simp [slotOf]; omega)⟩
          | 7, _, hi =>
            obtain rfl := Option.some.inj hi
            simp only [relF, List.getD_cons_zero, List.getD_cons_succ, List.foldl_cons, List.foldl_nil, dstAt, List.getElem?_cons_zero, List.getElem?_cons_succ, Option.bind_some]
            go_wp2_with fail
            exact ⟨rfl, Below.refl _ _, rfl, rfl⟩
          | 8, _, hi =>
            obtain rfl := Option.some.inj hi
            simp only [relF, List.getD_cons_zero, List.getD_cons_succ, List.foldl_cons, List.foldl_nil, dstAt, List.getElem?_cons_zero, List.getElem?_cons_succ, Option.bind_some]
            go_wp2_with fail
            exact ⟨rfl, Below.refl _ _, rfl, rfl⟩
          | 9, _, hi =>
            obtain rfl := Option.some.inj hi
            have h7 : vs 7 = _ := hv 7 (by decide)
            have h8 : vs 8 = _ := hv 8 (by decide)
            simp only [relF, List.getD_cons_zero, List.getD_cons_succ, List.foldl_cons, List.foldl_nil, dstAt, List.getElem?_cons_zero, List.getElem?_cons_succ, Option.bind_some]
            go_frame
            rw [h7, h8]
            by_cases hcp : c = p
            · subst hcp
              go_wp2_with fail
              exact ⟨rfl, Below.refl _ _, rfl, some ⟨ba, oa, none⟩, by first | rfl | (show slotOf _ _ = _; simp [slotOf]; omega), HIE.out _ _ (by omega) (by omega)⟩
            · have hcp2 : p < c := by omega
              have t9 : ((c : Int) == (p : Int)) = false := by rw [beq_eq_false_iff_ne]; omega
              have t9' : (c == p) = false := by rw [beq_eq_false_iff_ne]; exact hcp
              go_wp2_with fail
              exact ⟨rfl, Below.refl _ _, rfl, _, rfl, HIR.out⟩
          | 10, _, hi =>
            obtain rfl := Option.some.inj hi
            simp only [relF, List.getD_cons_zero, List.getD_cons_succ, List.foldl_cons, List.foldl_nil, dstAt, List.getElem?_cons_zero, List.getElem?_cons_succ, Option.bind_some]
            go_wp2_with fail
            exact ⟨rfl, Below.refl _ _, rfl, rfl⟩
          | 11, _, hi =>
            obtain rfl := Option.some.inj hi
            simp only [relF, List.getD_cons_zero, List.getD_cons_succ, List.foldl_cons, List.foldl_nil, dstAt, List.getElem?_cons_zero, List.getElem?_cons_succ, Option.bind_some]
            go_wp2_with fail
            exact ⟨rfl, Below.refl _ _, rfl, rfl⟩
          | 12, _, hi =>
            obtain rfl := Option.some.inj hi
            have h3 : vs 3 = _ := hv 3 (by decide)
            have h6 : vs 6 = _ := hv 6 (by decide)
            obtain ⟨q9, e9, k9⟩ := hv 9 (by decide)
            have h10 : vs 10 = _ := hv 10 (by decide)
            have h11 : vs 11 = _ := hv 11 (by decide)
            obtain rfl := hs rfl
            have hc := HRC.out w2 _ (hK1 rfl) hBl k9
            have HC := Lib.hid hc; clear hc
            simp only [relF, List.getD_cons_zero, List.getD_cons_succ, List.foldl_cons, List.foldl_nil, dstAt, List.getElem?_cons_zero, List.getElem?_cons_succ, Option.bind_some]
            go_frame
            rw [h3, h6, e9, h10, h11]
            go_wp2_with fail
            refine HC.out.mono ?_
            rintro e w3 ⟨rfl, hk3, hs3⟩
            go_wp2_with fail
            exact ⟨rfl, ⟨hs3, hk3⟩, rfl, rfl⟩
          | 13, _, hi =>
            obtain rfl := Option.some.inj hi
            have h0 : vs 0 = _ := hv 0 (by decide)
            have h12 : vs 12 = _ := hv 12 (by decide)
            simp only [relF, List.getD_cons_zero, List.getD_cons_succ, List.foldl_cons, List.foldl_nil, dstAt, List.getElem?_cons_zero, List.getElem?_cons_succ, Option.bind_some]
            go_frame
            rw [h0, h12]
            go_wp2_with fail
            refine (treeNode_any w2 SL SR HSL.out HSR.out hL2).mono ?_
            rintro e w3 ⟨rfl, b3⟩
            go_wp2_with fail
            exact ⟨rfl, b3, rfl, rfl⟩
          | 14, _, hi =>
            obtain rfl := Option.some.inj hi
            have h13 : vs 13 = _ := hv 13 (by decide)
            simp only [relF, List.getD_cons_zero, List.getD_cons_succ, List.foldl_cons, List.foldl_nil, dstAt, List.getElem?_cons_zero, List.getElem?_cons_succ, Option.bind_some]
            go_frame
            rw [h13]
            go_wp2_with ((with_reducible show wpList _ _ _ (⟨none, .store 23 (.tmp 10) (.tmp 56), _, _, _, _⟩ :: _) _ _); refine wpList_put_hash (o := ⟨none, .store _ _ _, _, _, _, _⟩) rfl _ _ rfl w.heap.size rfl (Tree.node SL SR) (Tree.node_len _ _) rfl _ _ x10 hcs10 ?_)
            exact ⟨rfl, ⟨_, Tree.node_len _ _, rfl⟩, rfl, hset_heap _ x10⟩
          | nx + 15, him, _ => exact absurd him (by omega)
        · intro w2 hI vs hv
          simp only [relF, List.drop_succ_cons, List.drop_zero, List.length_cons, List.length_nil, Nat.zero_add, Nat.reduceAdd, List.range, List.range.loop, List.foldl_cons, List.foldl_nil, dstAt, List.getElem?_cons_zero, List.getElem?_cons_succ, Option.bind_some]
          go_frame
          have x14 := hv 14 (by decide)
          obtain ⟨hK1, hK2, hSt, hBl, hA10, hA13, x13, cs10, x10, hcs10⟩ := hI
          go_wp2_with fail
          refine bodyPost_ret (results_hash rfl _ _ _ _ _ _ rfl (Tree.node_len _ _) x14) rfl ⟨by rw [HVAL.out], ?_, hSt⟩
          rw [HDD.out, HJJ.out]
          exact hK2 (by trivial)
      · obtain rfl : n = 1 := by
          rcases n with _ | _ | n
          · exact absurd (Many.inr_empty A (by omega)) he
          · rfl
          · omega
        rw [Many.val_one he h2, Many.tops_one he h2]
        have hone := inr_one hA he
        rw [hone] at hJ ⊢
        have hc := C.one D j f _ hk1 hB1 (by simp at hJ; omega) (by omega)
        have HC := Lib.hid hc; clear hc
        have HA1 := Lib.hid ha1; clear ha1
        have HX1 := Lib.hid hx1; clear hx1
        have HS1 := Lib.hid hs1; clear hs1 hk1 hB1 hb1
        clear hm hI hK hB hone he
        have hcf := HCO.out
        go_enter Tryd.func34, Tryd.ntmps34
        go_wp2_with fail
        refine HC.out.mono ?_
        rintro e w2 ⟨rfl, hk2, hs2⟩
        obtain ⟨ha2, hx2⟩ := HA1.out.stp hs2
        have x10 := hx2.trans HX1.out
        have hln := C.lenO j f
        have HK2 := Lib.hid hk2; clear hk2
        have HS2 := Lib.hid hs2; clear hs2
        have HX10 := Lib.hid x10; clear x10 hx2
        have HLN := Lib.hid hln; clear hln
        have HA2 := Lib.hid ha2; clear ha2
        clear hcf
        go_wp2_with ((with_reducible show wpList _ _ _ (⟨none, .store 23 (.tmp 10) (.tmp 27), _, _, _, _⟩ :: _) _ _); refine wpList_put_hash (o := ⟨none, .store _ _ _, _, _, _, _⟩) rfl _ _ rfl w.heap.size rfl (OH j f) HLN.out rfl _ _ HX10.out zero32_size ?_)
        obtain ⟨q1, q2⟩ := C.put HK2.out HA2.out (Nat.le_refl _) (HS1.out.trans HS2.out) (OH j f)
        refine bodyPost_ret (results_hash rfl _ _ _ _ _ _ rfl HLN.out (hset_heap _ HX10.out)) rfl ⟨rfl, ?_, q2⟩
        rw [List.append_nil]
        exact q1

end

end Go.Proofs.YtgheacegjgaobaaDoor
