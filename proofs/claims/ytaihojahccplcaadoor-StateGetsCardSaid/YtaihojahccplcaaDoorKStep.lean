/- The walk of hash.step. -/
import Derived.Test.YtaihojahccplcaaDoorKG0a
import Derived.Deep.QuietTactic
import Derived.BigQuiet
import Derived.BigRegion
import Derived.StillTailTactics
import Derived.Laws.Tables
import Derived.Deep.MidRow
import Derived.Great.BuildSlice
namespace Go.Proofs.YtaihojahccplcaaDoor
open Go.RowKit
set_option linter.unusedSimpArgs false
set_option linter.unusedVariables false

def wCells (ws : List Nat) : List Value := ws.map fun n : Nat => .int .u32 (n : Int)
def zero8 : Array Value := (wCells (List.replicate 8 0)).toArray
def zero64 : Array Value := (wCells (List.replicate 64 0)).toArray

theorem wCells_len (ws : List Nat) : (wCells ws).length = ws.length := by simp [wCells]
theorem wCells_get {ws : List Nat} {i n : Nat} (h : ws[i]? = some n) : (wCells ws)[i]? = some (.int .u32 (n : Int)) := by simp [wCells, h]
theorem wCells_set (ws : List Nat) (i n : Nat) : (wCells ws).toArray.setIfInBounds i (.int .u32 (n : Int)) = (wCells (ws.set i n)).toArray := by
  simp [wCells, List.map_set]

theorem wcell {w : World} {b : Nat} {ws : List Nat} {t : TypeId} (h : w.heap[b]? = some (.cells (wCells ws).toArray t (0, 0))) {i n : Nat} (hi : ws[i]? = some n) : w.cell? ⟨b, i, none⟩ = some (.int .u32 (n : Int)) := by
  simp [World.cell?, h, wCells_get hi]
theorem wfree {w : World} {b : Nat} {cs : Array Value} {t : TypeId} (h : w.heap[b]? = some (.cells cs t (0, 0))) (i : Nat) : w.frozen? ⟨b, i, none⟩ = false := by simp [World.frozen?, h]

theorem words_put (p : List UInt8) (t : Nat) (h : t < 64) : (Sha.words p t ++ List.replicate (64 - t) 0).set t (Sha.word (p.drop (4 * t))) = Sha.words p (t + 1) ++ List.replicate (64 - (t + 1)) 0 := by
  have e : List.replicate (64 - t) 0 = 0 :: List.replicate (64 - (t + 1)) 0 := by rw [← List.replicate_succ]; congr 1; omega
  rw [e, List.set_append_right _ _ (by rw [Sha.words_len]; exact Nat.le_refl _), Sha.words_len, Nat.sub_self, List.set_cons_zero]
  unfold Sha.words
  rw [List.range_succ, List.map_append, List.append_assoc]; rfl

theorem word_or (a b c d : Nat) (ha : a < 256) (hb : b < 256) (hc : c < 256) (hd : d < 256) :
    bits BinOp.or IntKind.u32 (bits BinOp.or IntKind.u32 (bits BinOp.or IntKind.u32 ((a : Int) * 16777216) ((b : Int) * 65536)) ((c : Int) * 256)) (d : Int) = ((a * 16777216 + b * 65536 + c * 256 + d : Nat) : Int) := by
  have e1 : ((a : Int) * 16777216) = ((a * 16777216 : Nat) : Int) := by rw [Int.natCast_mul]; rfl
  have e2 : ((b : Int) * 65536) = ((b * 65536 : Nat) : Int) := by rw [Int.natCast_mul]; rfl
  have e3 : ((c : Int) * 256) = ((c * 256 : Nat) : Int) := by rw [Int.natCast_mul]; rfl
  have f1 : a * 16777216 ||| b * 65536 = a * 16777216 + b * 65536 := by
    have := Nat.two_pow_add_eq_or_of_lt (i := 24) (b := b * 65536) (by omega) a
    rw [show (2 : Nat) ^ 24 = 16777216 from rfl, Nat.mul_comm 16777216 a] at this
    exact this.symm
  have f2 : (a * 16777216 + b * 65536) ||| c * 256 = a * 16777216 + b * 65536 + c * 256 := by
    have := Nat.two_pow_add_eq_or_of_lt (i := 16) (b := c * 256) (by omega) (a * 256 + b)
    rw [show (2 : Nat) ^ 16 = 65536 from rfl, show 65536 * (a * 256 + b) = a * 16777216 + b * 65536 by omega] at this
    exact this.symm
  have f3 : (a * 16777216 + b * 65536 + c * 256) ||| d = a * 16777216 + b * 65536 + c * 256 + d := by
    have := Nat.two_pow_add_eq_or_of_lt (i := 8) (b := d) (by omega) (a * 65536 + b * 256 + c)
    rw [show (2 : Nat) ^ 8 = 256 from rfl, show 256 * (a * 65536 + b * 256 + c) = a * 16777216 + b * 65536 + c * 256 by omega] at this
    exact this.symm
  rw [e1, e2, e3, u32_or_nat _ _ (by omega) (by omega), f1, u32_or_nat _ _ (by omega) (by omega), f2, u32_or_nat _ _ (by omega) (by omega), f3]

/-- The package variable with the rounds' constants holds what its initialiser lays. -/
def KAt (w : World) : Prop := w.rangeAt 1 0 (wCells Sha.K)
/-- So does the one with what a sum begins with. -/
def HAt (w : World) : Prop := w.rangeAt 0 0 (wCells Sha.H0)
/-- Both. -/
def Laid (w : World) : Prop := KAt w ∧ HAt w

theorem range_lt {w : World} {b o : Nat} {v : Value} {cs : List Value} (h : w.rangeAt b o (v :: cs)) : b < w.heap.size :=
  World.block_lt_of_cell? w ⟨b, o + 0, none⟩ (h 0 v rfl)
theorem range_kept {w w' : World} {b o : Nat} {cs : List Value} (h : w.rangeAt b o cs) (hb : b < w.heap.size) (hw : Below w.heap.size w w') : w'.rangeAt b o cs :=
  fun j v hv => (hw.cell (p := ⟨b, _, none⟩) hb).trans (h j v hv)
theorem KAt.lt {w : World} (h : KAt w) : 1 < w.heap.size := range_lt h
theorem HAt.lt {w : World} (h : HAt w) : 0 < w.heap.size := range_lt h
theorem KAt.below {w w' : World} (h : KAt w) (hw : Below w.heap.size w w') : KAt w' := range_kept h h.lt hw
theorem HAt.below {w w' : World} (h : HAt w) (hw : Below w.heap.size w w') : HAt w' := range_kept h h.lt hw
theorem Laid.below {w w' : World} (h : Laid w) (hw : Below w.heap.size w w') : Laid w' := ⟨h.1.below hw, h.2.below hw⟩
theorem KAt.cell {w : World} (h : KAt w) {i n : Nat} (hi : Sha.K[i]? = some n) : w.cell? ⟨1, i, none⟩ = some (.int .u32 (n : Int)) := by
  have := h i _ (wCells_get hi)
  rwa [Nat.zero_add] at this

theorem wCells_all (ws : List Nat) : (wCells ws).toArray.all (·.oneCell') = true := by
  rw [Array.all_eq_true_iff_forall_mem]
  intro v hv
  have hv : v ∈ wCells ws := by simpa using hv
  obtain ⟨n, _, rfl⟩ := List.mem_map.1 hv
  rfl
theorem lt_of_block {w : World} {b : Nat} {o : Obj} (h : w.heap[b]? = some o) : b < w.heap.size := by
  rcases Nat.lt_or_ge b w.heap.size with h1 | h1
  · exact h1
  · rw [Array.getElem?_eq_none h1] at h; cases h
theorem Tryd.under_a8 : Tryd.prog.underlying 98 = some (.array 8 92) := by kernel_rfl
theorem Tryd.size_a8 : (Tryd.prog.info? 98).map (·.size) = some 8 := by kernel_rfl
theorem Tryd.under_u32 : Tryd.prog.underlying 92 = some (.int .u32) := by kernel_rfl
theorem Tryd.size_u32 : (Tryd.prog.info? 92).map (·.size) = some 1 := by kernel_rfl
theorem Tryd.built8 (x0 x1 x2 x3 x4 x5 x6 x7 : Int) : Tryd.prog.built 98 [(0, .int .u32 x0), (1, .int .u32 x1), (2, .int .u32 x2), (3, .int .u32 x3), (4, .int .u32 x4), (5, .int .u32 x5), (6, .int .u32 x6), (7, .int .u32 x7)] = some #[.int .u32 x0, .int .u32 x1, .int .u32 x2, .int .u32 x3, .int .u32 x4, .int .u32 x5, .int .u32 x6, .int .u32 x7] := by kernel_rfl
theorem wpList_build8 {P : Program} {ops : Array Oper} {rest : List Oper} {o : Oper} {a : Act} {w : World} {Q : Exit → Act → World → Prop} (hg : o.guard = none) (t : TypeId) (x0 x1 x2 x3 x4 x5 x6 x7 : Operand) (ho : o.op = .build t #[(0, x0), (1, x1), (2, x2), (3, x3), (4, x4), (5, x5), (6, x6), (7, x7)])
    (u0 u1 u2 u3 u4 u5 u6 u7 : Value) (h0 : a.eval x0 = u0) (h1 : a.eval x1 = u1) (h2 : a.eval x2 = u2) (h3 : a.eval x3 = u3) (h4 : a.eval x4 = u4) (h5 : a.eval x5 = u5) (h6 : a.eval x6 = u6) (h7 : a.eval x7 = u7)
    (cs : Array Value) (hb : P.built t [(0, u0), (1, u1), (2, u2), (3, u3), (4, u4), (5, u5), (6, u6), (7, u7)] = some cs)
    (h : wpList P ops Q rest (a.put o.dst (.agg cs)) w) : wpList P ops Q (o :: rest) a w := by
  have e : ((#[(0, x0), (1, x1), (2, x2), (3, x3), (4, x4), (5, x5), (6, x6), (7, x7)] : Array (Nat × Operand)).map fun (p : Nat × Operand) => (p.1, a.eval p.2)).toList = [(0, u0), (1, u1), (2, u2), (3, u3), (4, u4), (5, u5), (6, u6), (7, u7)] := by
    simp [h0, h1, h2, h3, h4, h5, h6, h7]
  refine wpList_build hg t _ ho ?_ ?_
  · show (P.built t ((#[(0, x0), (1, x1), (2, x2), (3, x3), (4, x4), (5, x5), (6, x6), (7, x7)] : Array (Nat × Operand)).map fun (p : Nat × Operand) => (p.1, a.eval p.2)).toList).isSome = true
    rw [e, hb]; rfl
  · show wpList P ops Q rest (a.put o.dst (.agg ((P.built t ((#[(0, x0), (1, x1), (2, x2), (3, x3), (4, x4), (5, x5), (6, x6), (7, x7)] : Array (Nat × Operand)).map fun (p : Nat × Operand) => (p.1, a.eval p.2)).toList).getD #[]))) w
    rw [e, hb]; exact h
theorem below_setRow {B b : Nat} {w w' : World} {cs : Array Value} (h : Below B w w') (hb : B ≤ b) : Below B w (w'.setRow b cs) :=
  ⟨h.os, h.tape, h.output, by simpa [World.setRow] using h.size, fun k hk => by rw [setRow_other _ _ _ _ (by omega)]; exact h.block k hk⟩

theorem put_set (v : List Nat) (t x : Nat) (hv : v.length = t) (h : t < 64) : (v ++ List.replicate (64 - t) 0).set t x = (v ++ [x]) ++ List.replicate (64 - (t + 1)) 0 := by
  have e : List.replicate (64 - t) 0 = 0 :: List.replicate (64 - (t + 1)) 0 := by rw [← List.replicate_succ]; congr 1; omega
  rw [e, List.set_append_right _ _ (by omega), hv, Nat.sub_self, List.set_cons_zero, List.append_assoc]; rfl

theorem nat_div (x d : Nat) : ((x : Int) / (d : Int)) = ((x / d : Nat) : Int) := by rw [Int.natCast_ediv]


theorem xor3 (a b c : Nat) (ha : a < 4294967296) (hb : b < 4294967296) (hc : c < 4294967296) : bits BinOp.xor IntKind.u32 (bits BinOp.xor IntKind.u32 (a : Int) (b : Int)) (c : Int) = ((a ^^^ b ^^^ c : Nat) : Int) := by
  have h1 : a ^^^ b < 2 ^ 32 := Nat.xor_lt_two_pow ha hb
  rw [u32_xor_nat _ _ ha hb, u32_xor_nat _ _ h1 hc]

theorem s0_bits (x : Nat) (hx : x < 4294967296) : bits BinOp.xor IntKind.u32 (bits BinOp.xor IntKind.u32 (Sha.rot 7 x : Int) (Sha.rot 18 x : Int)) ((x : Int) / 8) = (Sha.s0 x : Int) := by
  have := nat_div x 8
  rw [show ((x : Int) / 8) = ((x / 8 : Nat) : Int) from this, xor3 _ _ _ (Sha.rot_lt 7 x (by decide) hx) (Sha.rot_lt 18 x (by decide) hx) (by omega)]; rfl
theorem s1_bits (x : Nat) (hx : x < 4294967296) : bits BinOp.xor IntKind.u32 (bits BinOp.xor IntKind.u32 (Sha.rot 17 x : Int) (Sha.rot 19 x : Int)) ((x : Int) / 1024) = (Sha.s1 x : Int) := by
  have := nat_div x 1024
  rw [show ((x : Int) / 1024) = ((x / 1024 : Nat) : Int) from this, xor3 _ _ _ (Sha.rot_lt 17 x (by decide) hx) (Sha.rot_lt 19 x (by decide) hx) (by omega)]; rfl
def xOf (k e f g kn sn : Nat) : Nat := (k + Sha.S1 e + Sha.ch e f g + (kn + sn)) % 4294967296
theorem S1_bits (x : Nat) (hx : x < 4294967296) : bits BinOp.xor IntKind.u32 (bits BinOp.xor IntKind.u32 (Sha.rot 6 x : Int) (Sha.rot 11 x : Int)) (Sha.rot 25 x : Int) = (Sha.S1 x : Int) := by
  rw [xor3 _ _ _ (Sha.rot_lt 6 x (by decide) hx) (Sha.rot_lt 11 x (by decide) hx) (Sha.rot_lt 25 x (by decide) hx)]; rfl
theorem S0_bits (x : Nat) (hx : x < 4294967296) : bits BinOp.xor IntKind.u32 (bits BinOp.xor IntKind.u32 (Sha.rot 2 x : Int) (Sha.rot 13 x : Int)) (Sha.rot 22 x : Int) = (Sha.S0 x : Int) := by
  rw [xor3 _ _ _ (Sha.rot_lt 2 x (by decide) hx) (Sha.rot_lt 13 x (by decide) hx) (Sha.rot_lt 22 x (by decide) hx)]; rfl
theorem ch_bits (e f g : Nat) (he : e < 4294967296) (hf : f < 4294967296) (hg : g < 4294967296) : bits BinOp.xor IntKind.u32 (g : Int) (bits BinOp.and IntKind.u32 (e : Int) (bits BinOp.xor IntKind.u32 (f : Int) (g : Int))) = (Sha.ch e f g : Int) := by
  have h1 : f ^^^ g < 2 ^ 32 := Nat.xor_lt_two_pow hf hg
  have h2 : e &&& (f ^^^ g) < 2 ^ 32 := Nat.and_lt_two_pow _ h1
  rw [u32_xor_nat _ _ hf hg, u32_and_nat _ _ he h1, u32_xor_nat _ _ hg h2]; rfl
theorem mj_bits (a b c : Nat) (ha : a < 4294967296) (hb : b < 4294967296) (hc : c < 4294967296) : bits BinOp.or IntKind.u32 (bits BinOp.and IntKind.u32 (a : Int) (b : Int)) (bits BinOp.and IntKind.u32 (c : Int) (bits BinOp.or IntKind.u32 (a : Int) (b : Int))) = (Sha.mj a b c : Int) := by
  have h1 : a &&& b < 2 ^ 32 := Nat.and_lt_two_pow _ hb
  have h2 : a ||| b < 2 ^ 32 := Nat.or_lt_two_pow ha hb
  have h3 : c &&& (a ||| b) < 2 ^ 32 := Nat.and_lt_two_pow _ h2
  rw [u32_and_nat _ _ ha hb, u32_or_nat _ _ ha hb, u32_and_nat _ _ hc h2, u32_or_nat _ _ h1 h3]; rfl
theorem x_val (k e f g kn sn : Nat) (hk : k < 4294967296) (he : e < 4294967296) (hf : f < 4294967296) (hg : g < 4294967296) :
    ((((k : Int) + bits BinOp.xor IntKind.u32 (bits BinOp.xor IntKind.u32 (Sha.rot 6 e : Int) (Sha.rot 11 e : Int)) (Sha.rot 25 e : Int) + bits BinOp.xor IntKind.u32 (g : Int) (bits BinOp.and IntKind.u32 (e : Int) (bits BinOp.xor IntKind.u32 (f : Int) (g : Int))) + (kn : Int)) % 4294967296 + (sn : Int)) % 4294967296) = (xOf k e f g kn sn : Int) := by
  rw [S1_bits e he, ch_bits e f g he hf hg]
  unfold xOf
  omega
def yOf (a b c : Nat) : Nat := (Sha.S0 a + Sha.mj a b c) % 4294967296
theorem xy_val (X a b c : Nat) (ha : a < 4294967296) (hb : b < 4294967296) (hc : c < 4294967296) :
    (((X : Int) + (bits BinOp.xor IntKind.u32 (bits BinOp.xor IntKind.u32 (Sha.rot 2 a : Int) (Sha.rot 13 a : Int)) (Sha.rot 22 a : Int) + bits BinOp.or IntKind.u32 (bits BinOp.and IntKind.u32 (a : Int) (b : Int)) (bits BinOp.and IntKind.u32 (c : Int) (bits BinOp.or IntKind.u32 (a : Int) (b : Int))))) % 4294967296) = (((X + yOf a b c) % 4294967296 : Nat) : Int) := by
  rw [S0_bits a ha, mj_bits a b c ha hb hc]
  unfold yOf
  omega
theorem v4_val (d X : Nat) : (((d : Int) + (X : Int)) % 4294967296) = (((d + X) % 4294967296 : Nat) : Int) := by omega
theorem cells8 (a b c d e f g k : Nat) : #[Value.int .u32 (a : Int), .int .u32 (b : Int), .int .u32 (c : Int), .int .u32 (d : Int), .int .u32 (e : Int), .int .u32 (f : Int), .int .u32 (g : Int), .int .u32 (k : Int)] = (wCells [a, b, c, d, e, f, g, k]).toArray := rfl
theorem round_val (S : List Nat) (t kn sn : Nat) (h1 : Sha.K[t]? = some kn) (h2 : S[t]? = some sn) (a b c d e f g k : Nat) :
    Sha.round (Sha.K.getD t 0 + S.getD t 0) [a, b, c, d, e, f, g, k] = [(xOf k e f g kn sn + yOf a b c) % 4294967296, a, b, c, (d + xOf k e f g kn sn) % 4294967296, e, f, g] := by
  rw [List.getD_eq_getElem?_getD, List.getD_eq_getElem?_getD, h1, h2]
  unfold Sha.round xOf yOf Sha.M
  simp only [Option.getD_some]
  have e1 : ∀ p q : Nat, (p + q) % 4294967296 = (p % 4294967296 + q % 4294967296) % 4294967296 := fun p q => by omega
  have e2 : ∀ p q : Nat, (p + q) % 4294967296 = (p + q % 4294967296) % 4294967296 := fun p q => by omega
  rw [e1 (k + Sha.S1 e + Sha.ch e f g + (kn + sn)), e2 d]
theorem s0_lt (x : Nat) (hx : x < 4294967296) : Sha.s0 x < 4294967296 := Sha.xor3_lt _ _ _ (Sha.rot_lt 7 x (by decide) hx) (Sha.rot_lt 18 x (by decide) hx) (by omega)
theorem s1_lt (x : Nat) (hx : x < 4294967296) : Sha.s1 x < 4294967296 := Sha.xor3_lt _ _ _ (Sha.rot_lt 17 x (by decide) hx) (Sha.rot_lt 19 x (by decide) hx) (by omega)

set_option maxRecDepth 100000 in
set_option maxHeartbeats 2000000 in
theorem step_any (h : List Nat) (hl : h.length = 8) (hh : ∀ x ∈ h, x < 4294967296) (p : List UInt8) (hp : p.length = 64) (pb po cap : Nat) (w : World) (hb : pb < w.heap.size) (hr : w.rangeAt pb po (byteCells p)) (hcap : 64 ≤ cap) (hcap2 : cap ≤ maxLen) (hk : KAt w) :
    Calls Tryd.prog 61 #[.agg (wCells h).toArray, .slice (some ⟨pb, po, none⟩) 64 cap] w fun e w' => e = .returned (.agg (wCells (Sha.step h p)).toArray) ∧ Below w.heap.size w w' := by
  unfold maxLen at hcap2
  have HR := Lib.hid hr; clear hr
  have HK := Lib.hid hk; clear hk
  obtain ⟨W, hW⟩ : ∃ W, W = ((w.alloc (.cells (wCells h).toArray 98)).alloc (.cells zero8 98)).alloc (.cells zero64 107) := ⟨_, rfl⟩
  have b1 : Below w.heap.size w W := by rw [hW]; exact (((Below.refl _ _).alloc (Nat.le_refl _) _).alloc (by simp) _).alloc (by simp; omega) _
  have x2 : W.heap[w.heap.size]? = some (.cells (wCells h).toArray 98 (0, 0)) := by
    rw [hW, Below.heap_alloc _ _ _ (by simp; omega), Below.heap_alloc _ _ _ (by simp)]; exact heap_alloc_new w _
  have x4 : W.heap[w.heap.size + 1]? = some (.cells zero8 98 (0, 0)) := by
    rw [hW, Below.heap_alloc _ _ _ (by simp)]; have := heap_alloc_new (w.alloc (.cells (wCells h).toArray 98)) (.cells zero8 98); simpa using this
  have x5 : W.heap[w.heap.size + 1 + 1]? = some (.cells zero64 107 (0, 0)) := by
    rw [hW]; have := heap_alloc_new ((w.alloc (.cells (wCells h).toArray 98)).alloc (.cells zero8 98)) (.cells zero64 107); simpa using this
  have HW := Lib.hid hW; clear hW
  have X2 := Lib.hid x2; clear x2
  have X4 := Lib.hid x4; clear x4
  have X5 := Lib.hid x5; clear x5
  go_enter Tryd.func61, Tryd.ntmps61
  go_wp2_with fail
  change Code.wp _ _ _ _ (((w.alloc (.cells (wCells h).toArray 98)).alloc (.cells zero8 98)).alloc (.cells zero64 107))
  rw [← HW.out]
  go_loopw [23] (fun i wr => ∃ t : Nat, t ≤ 16 ∧ i = .int .i64 t ∧ Hid (wr.heap[w.heap.size + 1 + 1]? = some (.cells (wCells (Sha.words p t ++ List.replicate (64 - t) 0)).toArray 107 (0, 0))) ∧ Hid (wr.heap[w.heap.size]? = some (.cells (wCells h).toArray 98 (0, 0))) ∧ Hid (wr.heap[w.heap.size + 1]? = some (.cells zero8 98 (0, 0))) ∧ Below w.heap.size w wr) (fun i _ => 16 - (intOf i).toNat)
  case atStart => exact ⟨0, by omega, rfl, X5, X2, X4, b1⟩
  case round =>
    obtain ⟨t, ht, rfl, x5, x2, x4, Br⟩ := hrel
    clear b1
    by_cases hlt : t < 16
    · have hbyte : ∀ j : Nat, 4 * t + j < 64 → wr.cell? ⟨pb, po + 4 * t + j, none⟩ = some (.int .u8 ((p.getD (4 * t + j) 0).toNat : Int)) := by
        intro j hj
        rw [Nat.add_assoc, Br.cell (p := ⟨pb, po + (4 * t + j), none⟩) hb]
        refine HR.out (4 * t + j) _ ?_
        unfold byteCells
        rw [List.getElem?_map, List.getElem?_eq_getElem (by omega), List.getD_eq_getElem?_getD, List.getElem?_eq_getElem (by omega)]
        rfl
      obtain ⟨q0, h0⟩ : ∃ q : Nat, q = (p.getD (4 * t) 0).toNat := ⟨_, rfl⟩
      obtain ⟨q1, h1⟩ : ∃ q : Nat, q = (p.getD (4 * t + 1) 0).toNat := ⟨_, rfl⟩
      obtain ⟨q2, h2⟩ : ∃ q : Nat, q = (p.getD (4 * t + 2) 0).toNat := ⟨_, rfl⟩
      obtain ⟨q3, h3⟩ : ∃ q : Nat, q = (p.getD (4 * t + 3) 0).toNat := ⟨_, rfl⟩
      have c0 : wr.cell? ⟨pb, po + 4 * t, none⟩ = some (.int .u8 (q0 : Int)) := by rw [h0]; exact hbyte 0 (by omega)
      have c1 : wr.cell? ⟨pb, po + 4 * t + 1, none⟩ = some (.int .u8 (q1 : Int)) := by rw [h1]; exact hbyte 1 (by omega)
      have c2 : wr.cell? ⟨pb, po + 4 * t + 2, none⟩ = some (.int .u8 (q2 : Int)) := by rw [h2]; exact hbyte 2 (by omega)
      have c3 : wr.cell? ⟨pb, po + 4 * t + 3, none⟩ = some (.int .u8 (q3 : Int)) := by rw [h3]; exact hbyte 3 (by omega)
      have l0 : q0 < 256 := by rw [h0]; exact UInt8.toNat_lt _
      have l1 : q1 < 256 := by rw [h1]; exact UInt8.toNat_lt _
      have l2 : q2 < 256 := by rw [h2]; exact UInt8.toNat_lt _
      have l3 : q3 < 256 := by rw [h3]; exact UInt8.toNat_lt _
      have H0 := Lib.hid h0; clear h0
      have H1 := Lib.hid h1; clear h1
      have H2 := Lib.hid h2; clear h2
      have H3 := Lib.hid h3; clear h3
      clear hbyte
      go_wp2_with fail
      go_still_tail 23, (by kernel_rfl)
      change wpList _ _ _ _ _ wr.drew
      obtain ⟨w2, hw2⟩ : ∃ w2, w2 = wr.drew := ⟨_, rfl⟩
      rw [← hw2]
      have y5 : w2.heap[w.heap.size + 1 + 1]? = some (.cells (wCells (Sha.words p t ++ List.replicate (64 - t) 0)).toArray 107 (0, 0)) := by rw [hw2]; exact x5.out
      have y2 : w2.heap[w.heap.size]? = some (.cells (wCells h).toArray 98 (0, 0)) := by rw [hw2]; exact x2.out
      have y4 : w2.heap[w.heap.size + 1]? = some (.cells zero8 98 (0, 0)) := by rw [hw2]; exact x4.out
      have B2 : Below w.heap.size w w2 := by rw [hw2]; exact Br.drew
      have hz : (Sha.words p t ++ List.replicate (64 - t) 0)[t]? = some 0 := by
        rw [List.getElem?_append_right (by rw [Sha.words_len]; exact Nat.le_refl _), Sha.words_len, Nat.sub_self, List.getElem?_replicate]
        rw [if_pos (by omega)]
      have hc := wcell y5 hz
      have hf := wfree y5 t
      have Y5 := Lib.hid y5; clear y5
      have Y2 := Lib.hid y2; clear y2
      have Y4 := Lib.hid y4; clear y4
      clear hw2 hz c0 c1 c2 c3 x5 x2 x4 Br
      go_wp2_with fail
      go_roundw
      case rel =>
        rw [word_or q0 q1 q2 q3 l0 l1 l2 l3]
        have hw : q0 * 16777216 + q1 * 65536 + q2 * 256 + q3 = Sha.word (p.drop (4 * t)) := by
          unfold Sha.word
          rw [H0.out, H1.out, H2.out, H3.out]
          simp only [List.getD_eq_getElem?_getD, List.getElem?_drop, Nat.add_zero]
        rw [hw]
        refine ⟨t + 1, by omega, by go_num, Lib.hid ?_, Lib.hid ?_, Lib.hid ?_, B2.setCell (p := ⟨w.heap.size + 1 + 1, t, none⟩) (by simp only; omega) _⟩
        · rw [heap_setCell_same _ _ _ _ _ _ Y5.out, wCells_set, words_put p t (by omega)]
        · rw [heap_setCell_other _ _ _ _ (by simp only; omega)]; exact Y2.out
        · rw [heap_setCell_other _ _ _ _ (by simp only; omega)]; exact Y4.out
      case measure => simp [intOf]; omega
    · obtain rfl : t = 16 := by omega
      clear hlt ht
      go_wp2_with fail
      have hg0 : Sha.words p 16 = Sha.grow (16 - 16) (Sha.words p 16) := rfl
      go_loopw [8] (fun i wr => ∃ t : Nat, 16 ≤ t ∧ t ≤ 64 ∧ i = .int .i64 t ∧ Hid (wr.heap[w.heap.size + 1 + 1]? = some (.cells (wCells (Sha.grow (t - 16) (Sha.words p 16) ++ List.replicate (64 - t) 0)).toArray 107 (0, 0))) ∧ Hid (wr.heap[w.heap.size]? = some (.cells (wCells h).toArray 98 (0, 0))) ∧ Hid (wr.heap[w.heap.size + 1]? = some (.cells zero8 98 (0, 0))) ∧ Below w.heap.size w wr) (fun i _ => 64 - (intOf i).toNat)
      case atStart => exact ⟨16, by omega, by omega, rfl, x5, x2, x4, Br⟩
      case round =>
        clear x5 x2 x4 Br
        obtain ⟨t, ht0, ht, rfl, x5, x2, x4, Br⟩ := hrel
        by_cases hlt : t < 64
        · obtain ⟨v, hv⟩ : ∃ v, v = Sha.grow (t - 16) (Sha.words p 16) := ⟨_, rfl⟩
          have hvl : v.length = t := by rw [hv, Sha.grow_len, Sha.words_len]; omega
          have hvM : ∀ x ∈ v, x < 4294967296 := by rw [hv]; exact Sha.grow_lt _ _ (Sha.words_lt p 16)
          rw [← hv] at x5
          have hget : ∀ i, i < t → ∃ n, n < 4294967296 ∧ v.getD i 0 = n ∧ (v ++ List.replicate (64 - t) 0)[i]? = some n := by
            intro i hi
            refine ⟨v[i]'(by omega), hvM _ (List.getElem_mem _), ?_, ?_⟩
            · rw [List.getD_eq_getElem?_getD, List.getElem?_eq_getElem (by omega)]; rfl
            · rw [List.getElem?_append_left (by omega), List.getElem?_eq_getElem]
          obtain ⟨n15, m15, g15, k15⟩ := hget (t - 15) (by omega)
          obtain ⟨n16, m16, g16, k16⟩ := hget (t - 16) (by omega)
          obtain ⟨n7, m7, g7, k7⟩ := hget (t - 7) (by omega)
          obtain ⟨n2, m2, g2, k2⟩ := hget (t - 2) (by omega)
          have d15 := wcell x5.out k15
          clear k15 hget hvM
          go_wp2_with fail
          refine wp_region_quiet_lit (by kernel_rfl) (by kernel_rfl) ?_
          repeat (go_big_quiet_step (first | (go_at_call 67; exact Calls.quiet_of_same ((turn_7 n15 m15 (wr.drewN _)).mono fun _ _ h => ⟨h.2, h.1.symm⟩)) | (go_at_call 67; exact Calls.quiet_of_same ((turn_18 n15 m15 (wr.drewN _)).mono fun _ _ h => ⟨h.2, h.1.symm⟩))))
          refine wpQuiet_nil ?_
          rintro w3 ⟨nq, hw3⟩
          rw [s0_bits n15 m15]
          obtain ⟨z0, hz0⟩ : ∃ z, z = Sha.s0 n15 := ⟨_, rfl⟩
          have lz0 : z0 < 4294967296 := by rw [hz0]; exact s0_lt _ m15
          rw [← hz0]
          have HZ0 := Lib.hid hz0; clear hz0
          have y5 := (show w3.heap[w.heap.size + 1 + 1]? = wr.heap[w.heap.size + 1 + 1]? by rw [hw3]; rfl).trans x5.out
          have y2 := (show w3.heap[w.heap.size]? = wr.heap[w.heap.size]? by rw [hw3]; rfl).trans x2.out
          have y4 := (show w3.heap[w.heap.size + 1]? = wr.heap[w.heap.size + 1]? by rw [hw3]; rfl).trans x4.out
          have B3 : Below w.heap.size w w3 := by rw [hw3]; exact ⟨Br.os, Br.tape, Br.output, Br.size, Br.block⟩
          have e2 := wcell y5 k2
          have e16 := wcell y5 k16
          have e7 := wcell y5 k7
          have Y5 := Lib.hid y5; clear y5
          have Y2 := Lib.hid y2; clear y2
          have Y4 := Lib.hid y4; clear y4
          clear hw3 d15 k16 k7 k2 x5 x2 x4 Br
          go_wp2_with fail
          refine wp_region_quiet_lit (by kernel_rfl) (by kernel_rfl) ?_
          repeat (go_big_quiet_step (first | (go_at_call 67; exact Calls.quiet_of_same ((turn_17 n2 m2 (w3.drewN _)).mono fun _ _ h => ⟨h.2, h.1.symm⟩)) | (go_at_call 67; exact Calls.quiet_of_same ((turn_19 n2 m2 (w3.drewN _)).mono fun _ _ h => ⟨h.2, h.1.symm⟩))))
          refine wpQuiet_nil ?_
          rintro w4 ⟨nq2, hw4⟩
          rw [s1_bits n2 m2]
          obtain ⟨z1, hz1⟩ : ∃ z, z = Sha.s1 n2 := ⟨_, rfl⟩
          have lz1 : z1 < 4294967296 := by rw [hz1]; exact s1_lt _ m2
          rw [← hz1]
          have HZ1 := Lib.hid hz1; clear hz1
          have f5 := (show w4.heap[w.heap.size + 1 + 1]? = w3.heap[w.heap.size + 1 + 1]? by rw [hw4]; rfl).trans Y5.out
          have f2 := (show w4.heap[w.heap.size]? = w3.heap[w.heap.size]? by rw [hw4]; rfl).trans Y2.out
          have f4 := (show w4.heap[w.heap.size + 1]? = w3.heap[w.heap.size + 1]? by rw [hw4]; rfl).trans Y4.out
          have e16' : w4.cell? ⟨w.heap.size + 1 + 1, t - 16, none⟩ = some (.int .u32 n16) := by rw [hw4]; exact e16
          have e7' : w4.cell? ⟨w.heap.size + 1 + 1, t - 7, none⟩ = some (.int .u32 n7) := by rw [hw4]; exact e7
          have B4 : Below w.heap.size w w4 := by rw [hw4]; exact ⟨B3.os, B3.tape, B3.output, B3.size, B3.block⟩
          have F5 := Lib.hid f5; clear f5
          have F2 := Lib.hid f2; clear f2
          have F4 := Lib.hid f4; clear f4
          clear hw4 e2 e16 e7 Y5 Y2 Y4 B3
          go_wp2_with fail
          have i0 : (0 : Int) ≤ (t : Int) - 16 := by omega
          have i1 : (t : Int) - 16 < 64 := by omega
          have i2 : (0 : Int) ≤ (t : Int) - 7 := by omega
          have i3 : (t : Int) - 7 < 64 := by omega
          have i4 : (t : Int) < 64 := by omega
          have hz : (v ++ List.replicate (64 - t) 0)[t]? = some 0 := by
            rw [List.getElem?_append_right (by omega), hvl, Nat.sub_self, List.getElem?_replicate, if_pos (by omega)]
          have hc := wcell F5.out hz
          have hf := wfree F5.out t
          clear hz
          go_big_region
          go_wp2_with fail
          go_roundw
          case rel =>
            have hn : ((n16 : Int) + (n7 : Int) + (z0 : Int) + (z1 : Int)) % 4294967296 = ((Sha.next v : Nat) : Int) := by
              unfold Sha.next
              rw [hvl, g16, g7, g15, g2, ← HZ0.out, ← HZ1.out]
              unfold Sha.M
              omega
            rw [hn]
            refine ⟨t + 1, by omega, by omega, by go_num, Lib.hid ?_, Lib.hid ?_, Lib.hid ?_, (B4.setCell (p := ⟨w.heap.size + 1 + 1, t, none⟩) (by simp only; omega) _).drew⟩
            · show (w4.setCell ⟨w.heap.size + 1 + 1, t, none⟩ (.int .u32 ((Sha.next v : Nat) : Int))).heap[w.heap.size + 1 + 1]? = _
              rw [heap_setCell_same _ _ _ _ _ _ F5.out, wCells_set, show t + 1 - 16 = (t - 16) + 1 by omega]
              show _ = some (Obj.cells (wCells ((Sha.grow (t - 16) (Sha.words p 16) ++ [Sha.next (Sha.grow (t - 16) (Sha.words p 16))]) ++ List.replicate (64 - (t + 1)) 0)).toArray _ _)
              rw [← hv, put_set v t (Sha.next v) hvl (by omega)]
            · show (w4.setCell ⟨w.heap.size + 1 + 1, t, none⟩ (.int .u32 ((Sha.next v : Nat) : Int))).heap[w.heap.size]? = _
              rw [heap_setCell_other _ _ _ _ (by simp only; omega)]; exact F2.out
            · show (w4.setCell ⟨w.heap.size + 1 + 1, t, none⟩ (.int .u32 ((Sha.next v : Nat) : Int))).heap[w.heap.size + 1]? = _
              rw [heap_setCell_other _ _ _ _ (by simp only; omega)]; exact F4.out
          case measure => simp [intOf]; omega
        · obtain rfl : t = 64 := by omega
          clear hlt ht ht0
          obtain ⟨S, hS⟩ : ∃ S, S = Sha.sched p := ⟨_, rfl⟩
          have hSl : S.length = 64 := by rw [hS]; exact Sha.sched_len p
          have hSM : ∀ x ∈ S, x < 4294967296 := by rw [hS]; exact Sha.grow_lt _ _ (Sha.words_lt p 16)
          have z5 : wr.heap[w.heap.size + 1 + 1]? = some (.cells (wCells S).toArray 107 (0, 0)) := by
            rw [x5.out, hS]
            show some (Obj.cells (wCells (Sha.sched p ++ [])).toArray _ _) = _
            rw [List.append_nil]
          have HS := Lib.hid hS; clear hS
          have srw := lt_of_block z5
          have Z5 := Lib.hid z5; clear z5 x5
          obtain ⟨W1, hW1⟩ : ∃ W1, W1 = (wr.alloc (.cells zero8 98)).setRow wr.heap.size (wCells h).toArray := ⟨_, rfl⟩
          have r1 : W1.heap[wr.heap.size]? = some (.cells (wCells h).toArray 98 (0, 0)) := by rw [hW1]; exact setRow_heap _ _ _ _ _ _ (heap_alloc_new wr _)
          have b1 : Below wr.heap.size wr W1 := by rw [hW1]; exact below_setRow ((Below.refl _ _).alloc (Nat.le_refl _) _) (Nat.le_refl _)
          have u5 := (b1.block (w.heap.size + 1 + 1) srw).trans Z5.out
          have u2 := (b1.block w.heap.size (by omega)).trans x2.out
          have u4 := (b1.block (w.heap.size + 1) (by omega)).trans x4.out
          have B1 := Br.trans (b1.mono (by omega))
          have h8s : (wCells h).toArray.size = 8 := by rw [List.size_toArray, wCells_len, hl]
          have H8 := Lib.hid h8s; clear h8s
          have H8A := Lib.hid (wCells_all h)
          have HW1 := Lib.hid hW1; clear hW1
          have s1 : W1.heap.size = wr.heap.size + 1 := by rw [HW1.out]; simp [World.setRow]
          go_wp2_with (first | ((with_reducible show wpList _ _ _ (⟨some 111, _, _, _, _, _⟩ :: _) _ _); refine wpList_load_row (o := ⟨some 111, _, _, _, _, _⟩) rfl _ _ rfl w.heap.size rfl _ (wCells h).toArray _ _ x2.out Tryd.under_a8 rfl (by rw [H8.out]; exact Tryd.size_a8) ?_) | ((with_reducible show wpList _ _ _ (⟨none, .store 98 (.tmp 11) (.tmp 111), _, _, _, _⟩ :: _) _ _); refine wpList_store_row (o := ⟨none, .store 98 _ _, _, _, _, _⟩) rfl _ _ _ rfl wr.heap.size (wCells h).toArray rfl rfl _ zero8 (heap_alloc_new wr (.cells zero8 98)) (by rw [H8.out]; exact Tryd.size_a8) (by rw [H8.out]; rfl) H8A.out ?_; change wpList _ _ _ _ _ ((wr.alloc (.cells zero8 98)).setRow wr.heap.size (wCells h).toArray); rw [← HW1.out]))
          obtain ⟨wo, rfl⟩ : ∃ wo : World, wo = wr := ⟨_, rfl⟩
          have U5 := Lib.hid u5; clear u5
          have U2 := Lib.hid u2; clear u2
          have U4 := Lib.hid u4; clear u4
          have R1 := Lib.hid r1; clear r1
          have hwo : w.heap.size + 1 + 1 < wo.heap.size := srw
          have HL8 := Lib.hid hl; clear hl
          have HHM := Lib.hid hh; clear hh
          have HSM := Lib.hid hSM; clear hSM
          have HSL := Lib.hid hSl; clear hSl
          clear x2 x4 Br b1 HW1 H8 H8A Z5 hg0 s1
          go_loopw [112] (fun i wr => ∃ t : Nat, t ≤ 64 ∧ i = .int .i64 t ∧ Hid (wr.heap[wo.heap.size]? = some (.cells (wCells (Sha.rounds S h t)).toArray 98 (0, 0))) ∧ Hid (wr.heap[w.heap.size + 1 + 1]? = some (.cells (wCells S).toArray 107 (0, 0))) ∧ Hid (wr.heap[w.heap.size]? = some (.cells (wCells h).toArray 98 (0, 0))) ∧ Hid (wr.heap[w.heap.size + 1]? = some (.cells zero8 98 (0, 0))) ∧ Below w.heap.size w wr) (fun i _ => 64 - (intOf i).toNat)
          case atStart => exact ⟨0, by omega, rfl, R1, U5, U2, U4, B1⟩
          case round =>
            clear R1 U5 U2 U4 B1
            obtain ⟨t, ht, rfl, x1, x5, x2, x4, Br⟩ := hrel
            by_cases hlt : t < 64
            · obtain ⟨a, b, c, d, e, f, g, k, hv⟩ := Sha.list8 (Sha.rounds S h t) (Sha.rounds_len _ _ _ HL8.out)
              have hm := Sha.rounds_lt S h t HL8.out HHM.out
              rw [hv] at hm x1
              unfold Sha.M at hm
              have ma : a < 4294967296 := hm a (by simp)
              have mb : b < 4294967296 := hm b (by simp)
              have mc : c < 4294967296 := hm c (by simp)
              have md : d < 4294967296 := hm d (by simp)
              have me : e < 4294967296 := hm e (by simp)
              have mf : f < 4294967296 := hm f (by simp)
              have mg : g < 4294967296 := hm g (by simp)
              have mk : k < 4294967296 := hm k (by simp)
              clear hm
              obtain ⟨kn, hkn⟩ : ∃ kn, Sha.K[t]? = some kn := ⟨_, List.getElem?_eq_getElem (by rw [Sha.K_len]; exact hlt)⟩
              obtain ⟨sn, hsn⟩ : ∃ sn, S[t]? = some sn := ⟨_, List.getElem?_eq_getElem (by rw [HSL.out]; exact hlt)⟩
              have mkn : kn < 4294967296 := Sha.K_lt kn (List.mem_of_getElem? hkn)
              have msn : sn < 4294967296 := HSM.out sn (List.mem_of_getElem? hsn)
              have c0 := wcell x1.out (i := 0) rfl
              have c1 := wcell x1.out (i := 1) rfl
              have c2 := wcell x1.out (i := 2) rfl
              have c4 := wcell x1.out (i := 4) rfl
              have c5 := wcell x1.out (i := 5) rfl
              have c6 := wcell x1.out (i := 6) rfl
              have HV := Lib.hid hv; clear hv
              have HKN := Lib.hid hkn; clear hkn
              have HSN := Lib.hid hsn; clear hsn
              go_wp2_with fail
              refine wp_region_quiet_lit (by kernel_rfl) (by kernel_rfl) ?_
              repeat (go_big_quiet_step (fail))
              refine wpQuiet_nil ?_
              rintro w3 ⟨nq, hw3⟩
              have y1 := (show w3.heap[wo.heap.size]? = wr.heap[wo.heap.size]? by rw [hw3]; rfl).trans x1.out
              have y5 := (show w3.heap[w.heap.size + 1 + 1]? = wr.heap[w.heap.size + 1 + 1]? by rw [hw3]; rfl).trans x5.out
              have y2 := (show w3.heap[w.heap.size]? = wr.heap[w.heap.size]? by rw [hw3]; rfl).trans x2.out
              have y4 := (show w3.heap[w.heap.size + 1]? = wr.heap[w.heap.size + 1]? by rw [hw3]; rfl).trans x4.out
              have B3 : Below w.heap.size w w3 := by rw [hw3]; exact ⟨Br.os, Br.tape, Br.output, Br.size, Br.block⟩
              have e7 := wcell y1 (i := 7) rfl
              have e5 := wcell y5 HSN.out
              have eK := (HK.out.below B3).cell HKN.out
              have i0 : (0 : Int) ≤ (t : Int) := by omega
              have i1 : (t : Int) < 64 := by omega
              have Y1 := Lib.hid y1; clear y1
              have Y5 := Lib.hid y5; clear y5
              have Y2 := Lib.hid y2; clear y2
              have Y4 := Lib.hid y4; clear y4
              clear hw3 c0 c1 c2 c4 c5 c6 x1 x5 x2 x4 Br
              go_wp2_with fail
              refine wp_region_quiet_lit (by kernel_rfl) (by kernel_rfl) ?_
              repeat (go_big_quiet_step (first | (go_at_call 67; with_reducible exact Calls.quiet_of_same ((turn_6 e me (w3.drewN _)).mono fun _ _ h => ⟨h.2, h.1.symm⟩)) | (go_at_call 67; with_reducible exact Calls.quiet_of_same ((turn_11 e me (w3.drewN _)).mono fun _ _ h => ⟨h.2, h.1.symm⟩)) | (go_at_call 67; with_reducible exact Calls.quiet_of_same ((turn_25 e me (w3.drewN _)).mono fun _ _ h => ⟨h.2, h.1.symm⟩))))
              refine wpQuiet_nil ?_
              rintro w4 ⟨nq2, hw4⟩
              have HX0 := Lib.hid (x_val k e f g kn sn mk me mf mg)
              rw [HX0.out]
              obtain ⟨X, hX⟩ : ∃ X, X = xOf k e f g kn sn := ⟨_, rfl⟩
              have mX : X < 4294967296 := by rw [hX]; exact Nat.mod_lt _ (by decide)
              rw [← hX]
              have HX := Lib.hid hX; clear hX HX0
              have f1 := (show w4.heap[wo.heap.size]? = w3.heap[wo.heap.size]? by rw [hw4]; rfl).trans Y1.out
              have f5 := (show w4.heap[w.heap.size + 1 + 1]? = w3.heap[w.heap.size + 1 + 1]? by rw [hw4]; rfl).trans Y5.out
              have f2 := (show w4.heap[w.heap.size]? = w3.heap[w.heap.size]? by rw [hw4]; rfl).trans Y2.out
              have f4 := (show w4.heap[w.heap.size + 1]? = w3.heap[w.heap.size + 1]? by rw [hw4]; rfl).trans Y4.out
              have B4 : Below w.heap.size w w4 := by rw [hw4]; exact ⟨B3.os, B3.tape, B3.output, B3.size, B3.block⟩
              have d3 := wcell f1 (i := 3) rfl
              have F1 := Lib.hid f1; clear f1
              have F5 := Lib.hid f5; clear f5
              have F2 := Lib.hid f2; clear f2
              have F4 := Lib.hid f4; clear f4
              clear hw4 e7 e5 eK Y1 Y5 Y2 Y4 B3
              obtain ⟨Y, hY⟩ : ∃ Y, Y = yOf a b c := ⟨_, rfl⟩
              have mY : Y < 4294967296 := by rw [hY]; exact Nat.mod_lt _ (by decide)
              have HY := Lib.hid hY; clear hY
              go_wp2_with (first | ((with_reducible show wpList _ _ _ (⟨some 185, .build _ _, _, _, _, _⟩ :: _) _ _); refine wpList_build8 (o := ⟨some 185, .build 98 _, _, _, _, _⟩) (by rfl) _ _ _ _ _ _ _ _ _ (by rfl) (.int .u32 ?v0) (.int .u32 (a : Int)) (.int .u32 (b : Int)) (.int .u32 (c : Int)) (.int .u32 ?v4) (.int .u32 (e : Int)) (.int .u32 (f : Int)) (.int .u32 (g : Int)) (by rfl) (by rfl) (by rfl) (by rfl) (by rfl) (by rfl) (by rfl) (by rfl) _ (Tryd.built8 _ _ _ _ _ _ _ _) ?_) | ((with_reducible show wpList _ _ _ (⟨none, .store 98 (.tmp 11) (.tmp 185), _, _, _, _⟩ :: _) _ _); refine wpList_store_row (o := ⟨none, .store 98 _ _, _, _, _, _⟩) (by rfl) _ _ _ (by rfl) wo.heap.size #[.int .u32 ?w0, .int .u32 (a : Int), .int .u32 (b : Int), .int .u32 (c : Int), .int .u32 ?w4, .int .u32 (e : Int), .int .u32 (f : Int), .int .u32 (g : Int)] (by rfl) (by rfl) _ _ F1.out (by exact Tryd.size_a8) (Eq.trans (b := 8) rfl rfl) (by simp [Value.oneCell']) ?_) | (go_at_call 67; first | ((with_reducible refine (turn_2 a ma _).mono ?_); rintro _ _ ⟨rfl, rfl⟩) | ((with_reducible refine (turn_13 a ma _).mono ?_); rintro _ _ ⟨rfl, rfl⟩) | ((with_reducible refine (turn_22 a ma _).mono ?_); rintro _ _ ⟨rfl, rfl⟩)))
              rw [xy_val X a b c ma mb mc, ← HY.out, v4_val d X, cells8]
              go_roundw
              case rel =>
                refine ⟨t + 1, by omega, by go_num, Lib.hid ?_, Lib.hid ?_, Lib.hid ?_, Lib.hid ?_, below_setRow B4 (by omega)⟩
                · rw [setRow_heap _ _ _ _ _ _ F1.out, Sha.rounds, HV.out, round_val S t kn sn HKN.out HSN.out, HX.out, HY.out]
                · rw [setRow_other _ _ _ _ (by omega)]; exact F5.out
                · rw [setRow_other _ _ _ _ (by omega)]; exact F2.out
                · rw [setRow_other _ _ _ _ (by omega)]; exact F4.out
              case measure => simp [intOf]; omega
            · obtain rfl : t = 64 := by omega
              clear hlt ht
              obtain ⟨V, hV⟩ : ∃ V, V = Sha.rounds S h 64 := ⟨_, rfl⟩
              have hVl : V.length = 8 := by rw [hV]; exact Sha.rounds_len _ _ _ HL8.out
              rw [← hV] at x1
              have HV := Lib.hid hV; clear hV
              have HVL := Lib.hid hVl; clear hVl
              have h8s : (wCells V).toArray.size = 8 := by rw [List.size_toArray, wCells_len, HVL.out]
              have H8 := Lib.hid h8s; clear h8s
              have a0 : Sha.addTo h V 0 = h := Sha.addTo_zero h V
              have xa : wr.heap[w.heap.size]? = some (.cells (wCells (Sha.addTo h V 0)).toArray 98 (0, 0)) := by rw [a0]; exact x2.out
              have XA := Lib.hid xa; clear xa a0 x2 x5
              go_wp2_with ((with_reducible show wpList _ _ _ (⟨some 187, _, _, _, _, _⟩ :: _) _ _); refine wpList_load_row (o := ⟨some 187, _, _, _, _, _⟩) rfl _ _ rfl wo.heap.size rfl _ (wCells V).toArray _ _ x1.out Tryd.under_a8 rfl (by rw [H8.out]; exact Tryd.size_a8) ?_)
              obtain ⟨wq, rfl⟩ : ∃ wq : World, wq = wr := ⟨_, rfl⟩
              go_loopw [188] (fun i wr => ∃ t : Nat, t ≤ 8 ∧ i = .int .i64 t ∧ Hid (wr.heap[w.heap.size]? = some (.cells (wCells (Sha.addTo h V t)).toArray 98 (0, 0))) ∧ Hid (wr.heap[w.heap.size + 1]? = some (.cells zero8 98 (0, 0))) ∧ Below w.heap.size w wr) (fun i _ => 8 - (intOf i).toNat)
              case atStart => exact ⟨0, by omega, rfl, XA, x4, Br⟩
              case round =>
                clear XA x4 Br x1
                obtain ⟨t, ht, rfl, x2, x4, Br⟩ := hrel
                by_cases hlt : t < 8
                · obtain ⟨hn, hhn⟩ : ∃ n, h[t]? = some n := ⟨_, List.getElem?_eq_getElem (by rw [HL8.out]; exact hlt)⟩
                  obtain ⟨vn, hvn⟩ : ∃ n, V[t]? = some n := ⟨_, List.getElem?_eq_getElem (by rw [HVL.out]; exact hlt)⟩
                  obtain ⟨g1, g2⟩ := Sha.addTo_get h V t hn vn hhn hvn
                  have hc := wcell x2.out g1
                  have hf := wfree x2.out t
                  have hix := fun w => run_index_arr (P := Tryd.prog) w 98 92 8 .u32 (wCells V).toArray (.int .u32 (vn : Int)) t Tryd.under_a8 Tryd.under_u32 Tryd.size_u32 hlt (by simpa using wCells_get hvn)
                  have i0 : (0 : Int) ≤ (t : Int) := by omega
                  have i1 : (t : Int) < 8 := by omega
                  have G2 := Lib.hid g2; clear g2 g1 hhn hvn
                  go_wp2_with fail
                  go_roundw
                  case rel =>
                    have ev : (((hn : Int) + (vn : Int)) % 4294967296) = (((hn + vn) % Sha.M : Nat) : Int) := by unfold Sha.M; omega
                    rw [ev]
                    refine ⟨t + 1, by omega, by go_num, Lib.hid ?_, Lib.hid ?_, Br.setCell (p := ⟨w.heap.size, t, none⟩) (by simp only; omega) _⟩
                    · rw [heap_setCell_same _ _ _ _ _ _ x2.out, wCells_set, G2.out]
                    · rw [heap_setCell_other _ _ _ _ (by simp only; omega)]; exact x4.out
                  case measure => simp [intOf]; omega
                · obtain rfl : t = 8 := by omega
                  clear hlt ht
                  have hR : Sha.addTo h V 8 = Sha.step h p := by
                    rw [Sha.addTo_all h V 8 HL8.out HVL.out, HV.out, HS.out]; rfl
                  have x3 := x2.out
                  rw [hR] at x3
                  have X3 := Lib.hid x3; clear x3 x2 hR
                  obtain ⟨R, hR⟩ : ∃ R, R = Sha.step h p := ⟨_, rfl⟩
                  have hRl : R.length = 8 := by rw [hR]; exact Sha.step_len _ _ HL8.out
                  rw [← hR] at X3
                  have HR := Lib.hid hR; clear hR
                  have h8r : (wCells R).toArray.size = 8 := by rw [List.size_toArray, wCells_len, hRl]
                  have H8R := Lib.hid h8r; clear h8r hRl
                  have HRA := Lib.hid (wCells_all R)
                  obtain ⟨W2, hW2⟩ : ∃ W2, W2 = wr.setRow (w.heap.size + 1) (wCells R).toArray := ⟨_, rfl⟩
                  have HW2 := Lib.hid hW2; clear hW2
                  go_wp2_with (first | ((with_reducible show wpList _ _ _ (⟨some 199, _, _, _, _, _⟩ :: _) _ _); refine wpList_load_row (o := ⟨some 199, _, _, _, _, _⟩) rfl _ _ rfl w.heap.size rfl _ (wCells R).toArray _ _ X3.out Tryd.under_a8 rfl (by rw [H8R.out]; exact Tryd.size_a8) ?_) | ((with_reducible show wpList _ _ _ (⟨none, .store 98 (.tmp 4) (.tmp 199), _, _, _, _⟩ :: _) _ _); refine wpList_store_row (o := ⟨none, .store 98 _ _, _, _, _, _⟩) rfl _ _ _ rfl (w.heap.size + 1) (wCells R).toArray rfl rfl _ zero8 x4.out (by rw [H8R.out]; exact Tryd.size_a8) (by rw [H8R.out]; rfl) HRA.out ?_; change wpList _ _ _ _ _ (wr.setRow (w.heap.size + 1) (wCells R).toArray); rw [← HW2.out]))
                  refine bodyPost_ret (results_cell_row rfl _ _ _ _ (wCells R).toArray _ _ rfl (by rw [HW2.out]; exact setRow_heap wr _ _ _ _ _ x4.out) Tryd.under_a8 rfl (by rw [H8R.out]; exact Tryd.size_a8)) rfl ⟨by rw [HR.out], ?_⟩
                  rw [HW2.out]
                  exact below_setRow Br (by omega)
end Go.Proofs.YtaihojahccplcaaDoor
