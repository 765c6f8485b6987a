/- The walk of the reference's sum: it is Sha.of. -/
import Derived.Test.YtaihojahccplcaaDoorKOf
import Derived.Test.YtaihojahccplcaaDoorKG0b
import Derived.Test.YtaihojahccplcaaDoorKG0a
import Derived.Great.BuildSlice
import Derived.IntWalk
namespace Go.Proofs.YtaihojahccplcaaDoor
open Go.RowKit
set_option linter.unusedSimpArgs false
set_option linter.unusedVariables false

def uCells (ws : List Nat) : List Value := ws.map fun n : Nat => .int .u64 (n : Int)
theorem uCells_len (ws : List Nat) : (uCells ws).length = ws.length := by simp [uCells]
theorem uCells_get {ws : List Nat} {i n : Nat} (h : ws[i]? = some n) : (uCells ws)[i]? = some (.int .u64 (n : Int)) := by simp [uCells, h]
theorem uCells_set (ws : List Nat) (i n : Nat) : (uCells ws).toArray.setIfInBounds i (.int .u64 (n : Int)) = (uCells (ws.set i n)).toArray := by
  simp [uCells, List.map_set]
theorem uCells_one (ws : List Nat) : ∀ u ∈ uCells ws, u.oneCell' = true := by
  intro u hu
  obtain ⟨_, _, rfl⟩ := List.mem_map.1 hu
  rfl
theorem uCells_app (a b : List Nat) : uCells (a ++ b) = uCells a ++ uCells b := by simp [uCells]
theorem ucell {w : World} {b : Nat} {ws : List Nat} (h : w.rangeAt b 0 (uCells ws)) {i n : Nat} (hi : ws[i]? = some n) : w.cell? ⟨b, i, none⟩ = some (.int .u64 (n : Int)) := by
  have := h i _ (uCells_get hi)
  rwa [Nat.zero_add] at this

theorem Tryd.under_u64s : Tryd.prog.underlying 102 = some (.slice 53) := by kernel_rfl
theorem Tryd.info_w64 : (Tryd.prog.info? 53).map (fun i => (i.zero, i.size, i.bytes)) = some (some (.int .u64 0), 1, 8) := by kernel_rfl
theorem Tryd.size_w64 : (Tryd.prog.info? 53).map (·.size) = some 1 := by kernel_rfl
theorem Tryd.zero_w64 : ((Tryd.prog.info? 53).bind (·.zero)).isSome = true := by kernel_rfl
theorem Tryd.under_str : Tryd.prog.underlying 9 = some .string := by kernel_rfl
theorem Tryd.under_b8 : Tryd.prog.underlying 5 = some (.int .u8) := by kernel_rfl

set_option maxRecDepth 100000 in
theorem constants_any (w : World) :
    Calls Tryd.prog 63 #[] w fun e w' => e = .returned (.slice (some ⟨w.heap.size, 0, none⟩) 64 64) ∧ w' = w.alloc (.cells (uCells Sha.K).toArray 53) := by
  go_enter Tryd.func63, Tryd.ntmps63
  go_wp2_with ((with_reducible show wpList _ _ _ (⟨some 1, _, _, _, _, _⟩ :: _) _ _); refine wpList_buildFlat (o := ⟨some 1, _, _, _, _, _⟩) rfl 102 53 64 _ rfl .u64 (Sha.K.map fun n : Nat => (n : Int)) Tryd.under_u64s Tryd.size_w64 Tryd.zero_w64 rfl (by decide) (by decide) (by kernel_rfl) ?_)
  go_ret
  exact ⟨rfl, rfl⟩

/-- One number more, at a walk's world. -/
theorem push_w {w : World} {B : Nat} {v : Value} {l : List Nat} (m : Nat) (h : w.ownsRow B 53 1 v m (uCells l)) (hB : B ≤ w.heap.size) (hl : m ≤ 1000000) (x : Nat) (n : Int) (hx : n = (x : Int)) :
    ∃ v' w', (Builtin.append_ #[102, 102] 102 #[v, .slice (some ⟨w.heap.size, 0, none⟩) 1 1]).run Tryd.prog (w.alloc (.cells #[.int .u64 n] 53)) = .ok v' w' ∧ w'.ownsRow B 53 1 v' (m + 1) (uCells (l ++ [x])) ∧ Below B w w' ∧ w.heap.size < w'.heap.size ∧ ∃ g cap, v' = .slice (some ⟨g, 0, none⟩) (m + 1) cap := by
  obtain ⟨i, hi, hz0, hz1, hz2⟩ := info_parts Tryd.info_w64
  subst hx
  obtain ⟨v', w', h1, h2, h3, _⟩ := run_append_own (P := Tryd.prog) (w.alloc (.cells #[.int .u64 (x : Int)] 53)) B 102 102 53 i (.int .u64 0) 1 8 Tryd.under_u64s hi hz0 hz1 hz2 rfl (by decide) v m (uCells l) (h.alloc _) ⟨w.heap.size, 0, none⟩ 1 1 [.int .u64 (x : Int)] rfl (cell_one_new _ _ _) (by intro u hu; simp at hu; subst hu; rfl) (by unfold maxLen; omega) (by omega) (by simp; omega)
  rw [show uCells l ++ [Value.int .u64 (x : Int)] = uCells (l ++ [x]) by rw [uCells_app]; rfl] at h2
  have hs := h3.size
  simp at hs
  refine ⟨v', w', h1, h2, ((Below.refl _ _).alloc hB _).grown h3 (by simp; omega) (fun k hk => (h.lt k hk).1), by omega, ?_⟩
  rcases h2.2 with ⟨_, h0⟩ | ⟨g, cap, _, rfl, _⟩
  · omega
  · exact ⟨g, cap, rfl⟩

theorem range_kept' {w w' : World} {B b o : Nat} {cs : List Value} (h : w.rangeAt b o cs) (hb : b < B) (hw : Below B w w') : w'.rangeAt b o cs :=
  fun j v hv => (hw.cell (p := ⟨b, _, none⟩) hb).trans (h j v hv)

/-- 'append([]uint64{}, h...)'. -/
theorem copy_w {w : World} {b : Nat} {l : List Nat} (hl : l.length = 8) (h : w.heap[b]? = some (.cells (uCells l).toArray 53 (0, 0))) :
    ∃ v' w', (Builtin.append_ #[102, 102] 102 #[.slice (some ⟨w.heap.size, 0, none⟩) 0 0, .slice (some ⟨b, 0, none⟩) 8 8]).run Tryd.prog (w.alloc (.cells #[] 53)) = .ok v' w' ∧ w'.ownsRow w.heap.size 53 1 v' 8 (uCells l) ∧ Below w.heap.size w w' ∧ w.heap.size < w'.heap.size ∧ ∃ g cap, v' = .slice (some ⟨g, 0, none⟩) 8 cap := by
  obtain ⟨i, hi, hz0, hz1, hz2⟩ := info_parts Tryd.info_w64
  have hb := lt_of_block h
  obtain ⟨v', w', h1, h2, h3, _⟩ := run_append_own (P := Tryd.prog) (w.alloc (.cells #[] 53)) w.heap.size 102 102 53 i (.int .u64 0) 1 8 Tryd.under_u64s hi hz0 hz1 hz2 rfl (by decide) (.slice (some ⟨w.heap.size, 0, none⟩) 0 0) 0 [] (World.ownsRow_made w #[] 0 (Nat.le_refl _) (by decide) rfl) ⟨b, 0, none⟩ 8 8 (uCells l) (by rw [uCells_len, hl])
    (fun j u hu => by
      rw [Addr.add_mid, Nat.zero_add]
      have := range_row ((Below.heap_alloc w (.cells #[] 53) b hb).trans h) j u hu
      rwa [Nat.zero_add] at this)
    (uCells_one _) (by decide) (by decide) (by simp)
  rw [Nat.zero_add, List.nil_append] at h2
  have hs := h3.size
  simp at hs
  refine ⟨v', w', h1, h2, ((Below.refl _ _).alloc (Nat.le_refl _) _).grown h3 (by simp) (fun k hk => by simp [Value.ownBlock] at hk; omega), by omega, ?_⟩
  rcases h2.2 with ⟨_, h0⟩ | ⟨g, cap, _, rfl, _⟩
  · omega
  · exact ⟨g, cap, rfl⟩

theorem own_range {w : World} {B : Nat} {e : TypeId} {g cap n : Nat} {l : List Nat} (h : w.ownsRow B e 1 (.slice (some ⟨g, 0, none⟩) n cap) n (uCells l)) : w.rangeAt g 0 (uCells l) := by
  intro j u hu
  have := h.cells (g := g) rfl j u hu
  rwa [Addr.add_mid] at this

/-- A byte of the block at hand, behind later blocks. -/
theorem ref_byte {W7 wq wr : World} {g kb1 x i : Nat} {A p8 : List UInt8} (h : W7.rangeAt g 0 (byteCells A)) (hg : g < W7.heap.size) (B1 : Below kb1 W7 wq) (h1 : g < kb1) (B2 : Below wq.heap.size wq wr) (h2 : g < wq.heap.size)
    (hp : p8 = (A.drop x).take 64) (hi : i < p8.length) : wr.cell? ⟨g, x + i, none⟩ = some (.int .u8 ((p8.getD i 0).toNat : Int)) := by
  rw [B2.cell (p := ⟨g, x + i, none⟩) h2, B1.cell (p := ⟨g, x + i, none⟩) h1]
  have hl := hi
  rw [hp, List.length_take, List.length_drop] at hl
  have e : p8.getD i 0 = A[x + i]'(by omega) := by
    rw [List.getD_eq_getElem?_getD, hp, List.getElem?_take, if_pos (by omega), List.getElem?_drop, List.getElem?_eq_getElem (by omega)]; rfl
  have := h (x + i) _ (byteCells_get (List.getElem?_eq_getElem (by omega : x + i < A.length)))
  rw [Nat.zero_add] at this
  rw [this, e]

theorem xor3_u64 (a b c : Nat) (ha : a < 4294967296) (hb : b < 4294967296) (hc : c < 4294967296) : bits BinOp.xor IntKind.u64 (bits BinOp.xor IntKind.u64 (a : Int) (b : Int)) (c : Int) = ((a ^^^ b ^^^ c : Nat) : Int) := by
  have h1 : a ^^^ b < 2 ^ 32 := Nat.xor_lt_two_pow ha hb
  have h2 : (2 : Nat) ^ 32 < 18446744073709551616 := by decide
  rw [u64_xor_nat _ _ (by omega) (by omega), u64_xor_nat _ _ (by omega) (by omega)]

theorem pick_bits (e f g : Nat) (he : e < 4294967296) (hf : f < 4294967296) (hg : g < 4294967296) : bits BinOp.xor IntKind.u64 (bits BinOp.and IntKind.u64 (e : Int) (f : Int)) (bits BinOp.and IntKind.u64 (4294967295 - (e : Int)) (g : Int)) = (Sha.ch e f g : Int) := by
  have h1 : e &&& f < 2 ^ 32 := Nat.and_lt_two_pow _ hf
  have h2 : (4294967295 - e) &&& g < 2 ^ 32 := Nat.and_lt_two_pow _ hg
  have h3 : (2 : Nat) ^ 32 < 18446744073709551616 := by decide
  rw [show (4294967295 - (e : Int)) = ((4294967295 - e : Nat) : Int) by omega, u64_and_nat _ _ (by omega) (by omega), u64_and_nat _ _ (by omega) (by omega), u64_xor_nat _ _ (by omega) (by omega), Sha.ch_ref e f g he hf hg]

theorem most_bits (a b c : Nat) (ha : a < 4294967296) (hb : b < 4294967296) (hc : c < 4294967296) : bits BinOp.xor IntKind.u64 (bits BinOp.xor IntKind.u64 (bits BinOp.and IntKind.u64 (a : Int) (b : Int)) (bits BinOp.and IntKind.u64 (a : Int) (c : Int))) (bits BinOp.and IntKind.u64 (b : Int) (c : Int)) = (Sha.mj a b c : Int) := by
  have h1 : a &&& b < 2 ^ 32 := Nat.and_lt_two_pow _ hb
  have h2 : a &&& c < 2 ^ 32 := Nat.and_lt_two_pow _ hc
  have h4 : b &&& c < 2 ^ 32 := Nat.and_lt_two_pow _ hc
  have h5 : (a &&& b) ^^^ (a &&& c) < 2 ^ 32 := Nat.xor_lt_two_pow h1 h2
  have h3 : (2 : Nat) ^ 32 < 18446744073709551616 := by decide
  rw [u64_and_nat _ _ (by omega) (by omega), u64_and_nat _ _ (by omega) (by omega), u64_and_nat _ _ (by omega) (by omega), u64_xor_nat _ _ (by omega) (by omega), u64_xor_nat _ _ (by omega) (by omega), Sha.mj_ref]

theorem x_val64 (k e pk kn sn X : Nat) (hk : k < 4294967296) (he : e < 4294967296) (hp : pk < 4294967296) (hkn : kn < 4294967296) (hsn : sn < 4294967296) (hX : X = k + Sha.S1 e + pk + kn + sn) :
    IntKind.u64.wrap (IntKind.u64.wrap (IntKind.u64.wrap (IntKind.u64.wrap ((k : Int) + bits BinOp.xor IntKind.u64 (bits BinOp.xor IntKind.u64 (Sha.rot 6 e : Int) (Sha.rot 11 e : Int)) (Sha.rot 25 e : Int)) + (pk : Int)) + (kn : Int)) + (sn : Int)) = (X : Int) := by
  have h1 := Sha.S1_lt e he
  unfold Sha.M at h1
  rw [xor3_u64 _ _ _ (Sha.rot_lt 6 e (by decide) he) (Sha.rot_lt 11 e (by decide) he) (Sha.rot_lt 25 e (by decide) he)]
  unfold Sha.S1 at h1 hX
  rw [IntKind.wrap_u64, IntKind.wrap_u64, IntKind.wrap_u64, IntKind.wrap_u64]
  omega

theorem y_val64 (a mj Y : Nat) (ha : a < 4294967296) (hm : mj < 4294967296) (hY : Y = Sha.S0 a + mj) :
    IntKind.u64.wrap (bits BinOp.xor IntKind.u64 (bits BinOp.xor IntKind.u64 (Sha.rot 2 a : Int) (Sha.rot 13 a : Int)) (Sha.rot 22 a : Int) + (mj : Int)) = (Y : Int) := by
  have h1 := Sha.S0_lt a ha
  unfold Sha.M at h1
  rw [xor3_u64 _ _ _ (Sha.rot_lt 2 a (by decide) ha) (Sha.rot_lt 13 a (by decide) ha) (Sha.rot_lt 22 a (by decide) ha)]
  unfold Sha.S0 at h1 hY
  rw [IntKind.wrap_u64]
  omega

theorem cut_sum (x y u : Nat) (hu : u = (x + y) % 4294967296) (w : World) : Calls Tryd.prog 64 #[.int .u64 ((x : Int) + (y : Int))] w fun e w' => e = .returned (.int .u64 (u : Int)) ∧ w' = w := by
  subst hu
  have := cut_any (x + y) w
  rw [Int.natCast_add] at this
  exact this.mono fun _ _ h => ⟨h.2, h.1.symm⟩

theorem round_val64 (S : List Nat) (t kn sn : Nat) (h1 : Sha.K[t]? = some kn) (h2 : S[t]? = some sn) (a b c d e f g k : Nat) :
    Sha.round (Sha.K.getD t 0 + S.getD t 0) [a, b, c, d, e, f, g, k] = [(k + Sha.S1 e + Sha.ch e f g + kn + sn + (Sha.S0 a + Sha.mj a b c)) % 4294967296, a, b, c, (d + (k + Sha.S1 e + Sha.ch e f g + kn + sn)) % 4294967296, e, f, g] := by
  rw [List.getD_eq_getElem?_getD, List.getD_eq_getElem?_getD, h1, h2]
  unfold Sha.round Sha.M
  simp only [Option.getD_some]
  rw [Nat.add_assoc (k + Sha.S1 e + Sha.ch e f g) kn sn]

theorem be4_of {O : List UInt8} {H : List Nat} {t u : Nat} (hO : O = (H.map (Sha.be 4)).flatten) (hu : H[t]? = some u) : O.take (4 * t) ++ Sha.be 4 u = O.take (4 * t + 4) := by
  subst hO
  induction H generalizing t with
  | nil => simp at hu
  | cons a H ih =>
    rw [List.map_cons, List.flatten_cons]
    cases t with
    | zero =>
      simp only [List.getElem?_cons_zero, Option.some.injEq] at hu
      subst hu
      rw [Nat.mul_zero, List.take_zero, List.nil_append, Nat.zero_add, List.take_left' (Sha.be_len 4 a)]
    | succ t =>
      have h := ih (t := t) (by simpa using hu)
      obtain ⟨L, hL⟩ : ∃ L, L = (H.map (Sha.be 4)).flatten := ⟨_, rfl⟩
      rw [← hL] at h ⊢
      have e : ∀ k, (Sha.be 4 a ++ L).take (4 + k) = Sha.be 4 a ++ L.take k := by
        intro k
        rw [List.take_append, Sha.be_len, Nat.add_sub_cancel_left, List.take_of_length_le (l := Sha.be 4 a) (by rw [Sha.be_len]; omega)]
      rw [show 4 * (t + 1) = 4 + 4 * t by omega, show 4 + 4 * t + 4 = 4 + (4 * t + 4) by omega, e, e, List.append_assoc, h]

/-- Four bytes more, at a walk's world. -/
theorem push_four {w : World} {B : Nat} {v : Value} {l : List UInt8} (h : Mine w B v l) (hB : B ≤ w.heap.size) (m : Nat) (hm : l.length = m) (hl : m ≤ 1000000) (u : Nat) (hu : u < 4294967296) :
    ∃ v' w', (Builtin.append_ #[82, 82] 82 #[v, .slice (some ⟨w.heap.size, 0, none⟩) 4 4]).run Tryd.prog (w.alloc (.cells #[.int .u8 ((u : Int) / 16777216), .int .u8 ((u : Int) / 65536 % 256), .int .u8 ((u : Int) / 256 % 256), .int .u8 ((u : Int) % 256)] 5)) = .ok v' w' ∧ Mine w' B v' (l ++ Sha.be 4 u) ∧ Below B w w' ∧ w.heap.size < w'.heap.size ∧ ∃ g cap, v' = .slice (some ⟨g, 0, none⟩) (m + 4) cap := by
  obtain ⟨i, hi, hz0, hz1, hz2⟩ := info_parts Tryd.info_u8
  subst hm
  have hc : #[Value.int .u8 ((u : Int) / 16777216), .int .u8 ((u : Int) / 65536 % 256), .int .u8 ((u : Int) / 256 % 256), .int .u8 ((u : Int) % 256)] = (byteCells (Sha.be 4 u)).toArray := by
    have e : Sha.be 4 u = [UInt8.ofNat (u / 16777216), UInt8.ofNat (u / 65536), UInt8.ofNat (u / 256), UInt8.ofNat (u / 1)] := rfl
    rw [e]
    simp only [byteCells, List.map_cons, List.map_nil, UInt8.toNat_ofNat']
    have e1 : ((u : Int) / 16777216) = ((u / 16777216 % 2 ^ 8 : Nat) : Int) := by omega
    have e2 : ((u : Int) / 65536 % 256) = ((u / 65536 % 2 ^ 8 : Nat) : Int) := by omega
    have e3 : ((u : Int) / 256 % 256) = ((u / 256 % 2 ^ 8 : Nat) : Int) := by omega
    have e4 : ((u : Int) % 256) = ((u / 1 % 2 ^ 8 : Nat) : Int) := by omega
    rw [e1, e2, e3, e4]
  rw [hc]
  obtain ⟨v', w', h1, h2, h3, g, cap, h4⟩ := Mine.push (ty := 82) (z := .int .u8 0) Tryd.under_u8s hi hz0 hz1 hz2 rfl (h.alloc (.cells (byteCells (Sha.be 4 u)).toArray 5)) (by simp; omega) (Sha.be 4 u) (by rw [Sha.be_len]; omega) (by rw [Sha.be_len]; omega) ⟨w.heap.size, 0, none⟩ 4
    (fun j x hx => by
      rw [Addr.add_mid]
      exact range_row (heap_alloc_new w (.cells (byteCells (Sha.be 4 u)).toArray 5)) j x hx)
  rw [Sha.be_len] at h1
  refine ⟨v', w', h1, h2, ((Below.refl _ _).alloc hB _).trans h3, ?_, g, cap, by rw [h4, List.length_append, Sha.be_len]⟩
  have := h3.size
  simp at this; omega

/-- What a new word is cut of. -/
theorem next_val (n16 n7 n15 n2 : Nat) (h16 : n16 < 4294967296) (h7 : n7 < 4294967296) (h15 : n15 < 4294967296) (h2 : n2 < 4294967296) :
    ∃ z : Nat, IntKind.u64.wrap (IntKind.u64.wrap ((n16 : Int) + (n7 : Int) + bits BinOp.xor IntKind.u64 (bits BinOp.xor IntKind.u64 (Sha.rot 7 n15 : Int) (Sha.rot 18 n15 : Int)) ((n15 : Int) / 8)) + bits BinOp.xor IntKind.u64 (bits BinOp.xor IntKind.u64 (Sha.rot 17 n2 : Int) (Sha.rot 19 n2 : Int)) ((n2 : Int) / 1024)) = (z : Int) ∧
      z % 4294967296 = (n16 + n7 + Sha.s0 n15 + Sha.s1 n2) % 4294967296 := by
  refine ⟨n16 + n7 + Sha.s0 n15 + Sha.s1 n2, ?_, rfl⟩
  have d8 : ((n15 : Int) / 8) = ((n15 / 8 : Nat) : Int) := by omega
  have d1024 : ((n2 : Int) / 1024) = ((n2 / 1024 : Nat) : Int) := by omega
  rw [d8, d1024, xor3_u64 _ _ _ (Sha.rot_lt 7 n15 (by decide) h15) (Sha.rot_lt 18 n15 (by decide) h15) (by omega), xor3_u64 _ _ _ (Sha.rot_lt 17 n2 (by decide) h2) (Sha.rot_lt 19 n2 (by decide) h2) (by omega)]
  have x1 : Sha.s0 n15 < 4294967296 := Sha.xor3_lt _ _ _ (Sha.rot_lt 7 n15 (by decide) h15) (Sha.rot_lt 18 n15 (by decide) h15) (by omega)
  have x2 : Sha.s1 n2 < 4294967296 := Sha.xor3_lt _ _ _ (Sha.rot_lt 17 n2 (by decide) h2) (Sha.rot_lt 19 n2 (by decide) h2) (by omega)
  unfold Sha.s0 at x1 ⊢
  unfold Sha.s1 at x2 ⊢
  rw [IntKind.wrap_u64, IntKind.wrap_u64]
  omega

theorem byte_at2 (n0 j m A q : Nat) (x : UInt8) (h : (Sha.be 8 (8 * n0))[j]? = some x) (hm : m + j = 7) (hA : A = 2 ^ (8 * m)) (hq : q = 8 * n0 / A) : ((q : Int) % 256) = (x.toNat : Int) := by
  unfold Sha.be at h
  rw [List.getElem?_map] at h
  obtain ⟨i, hi, rfl⟩ := Option.map_eq_some_iff.1 h
  obtain ⟨hj, rfl⟩ := List.getElem?_eq_some_iff.1 hi
  rw [List.getElem_range, UInt8.toNat_ofNat']
  have e1 : (256 : Nat) ^ (8 - 1 - j) = A := by
    rw [hA, show (256 : Nat) = 2 ^ 8 from rfl, ← Nat.pow_mul]; congr 1; omega
  rw [e1, ← hq, show (2 : Nat) ^ 8 = 256 from rfl]
  omega

def loopsOf : Code → List Code
  | .loop c => [c]
  | .seq a b => loopsOf a ++ loopsOf b
  | .block _ c => loopsOf c
  | .scope c => loopsOf c
  | .cond _ a b => loopsOf a ++ loopsOf b
  | _ => []
noncomputable def refBody (n : Nat) : Code := ((Tryd.f56.body.map loopsOf).getD []).getD n .skip
noncomputable def refBodyIn (n : Nat) : Code := (loopsOf (refBody 2)).getD n .skip

end Go.Proofs.YtaihojahccplcaaDoor
