/- The walks of wire.Out: what is written is what Wire.num and its kin say. -/
import Derived.Test.YteljlnkjdajkgaaDoorRows
import Derived.Test.YteljlnkjdajkgaaDoorPure
import Derived.Test.YteljlnkjdajkgaaDoorBits
import Derived.Test.YteljlnkjdajkgaaDoorMine
import Derived.WalkKit
import Derived.WalkSpells
import Derived.WalkLawsBesides
import Derived.Lib.Hide
import Derived.Lib.AppendStr
namespace Go.Proofs.YteljlnkjdajkgaaDoor
open Go.RowKit

theorem Tryd.under_bytes : Tryd.prog.underlying 42 = some (.slice 5) := by kernel_rfl
theorem Tryd.info_byte : (Tryd.prog.info? 5).map (fun i => (i.zero, i.size, i.bytes)) = some (some (.int .u8 0), 1, 1) := by kernel_rfl

/-- Below block B the world w' is as w was, but for block b. -/
structure BelowBut (B b : Nat) (w w' : World) : Prop where
  os : w'.os = w.os
  tape : w'.tape = w.tape
  output : w'.output = w.output
  size : w.heap.size ≤ w'.heap.size
  block : ∀ k, k < B → k ≠ b → w'.heap[k]? = w.heap[k]?

theorem BelowBut.refl (B b : Nat) (w : World) : BelowBut B b w w := ⟨rfl, rfl, rfl, Nat.le_refl _, fun _ _ _ => rfl⟩
theorem BelowBut.trans {B b : Nat} {x y z : World} (h : BelowBut B b x y) (k : BelowBut B b y z) : BelowBut B b x z :=
  ⟨k.os.trans h.os, k.tape.trans h.tape, k.output.trans h.output, Nat.le_trans h.size k.size, fun i hi hb => (k.block i hi hb).trans (h.block i hi hb)⟩
theorem BelowBut.mono {B B' b : Nat} {w w' : World} (h : BelowBut B b w w') (hB : B' ≤ B) : BelowBut B' b w w' :=
  ⟨h.os, h.tape, h.output, h.size, fun k hk => h.block k (Nat.lt_of_lt_of_le hk hB)⟩
theorem BelowBut.below {B b : Nat} {w w' : World} (h : BelowBut B b w w') (hB : B ≤ b) : Below B w w' :=
  ⟨h.os, h.tape, h.output, h.size, fun k hk => h.block k hk (by omega)⟩
theorem BelowBut.of {B b : Nat} {w w' : World} (h : Below B w w') : BelowBut B b w w' :=
  ⟨h.os, h.tape, h.output, h.size, fun k hk _ => h.block k hk⟩



/-- Block b is a wire.Out whose bytes are bs; the row lies from block 'base' on. -/
def OutIs (w : World) (base b : Nat) (bs : List UInt8) : Prop :=
  ∃ v, w.heap[b]? = some (.cells #[v] 72 (0, 0)) ∧ w.ownsRow base 5 1 v bs.length (byteCells bs)

theorem OutIs.lt {w : World} {base b : Nat} {bs : List UInt8} (h : OutIs w base b bs) : b < w.heap.size := by
  obtain ⟨v, h1, _⟩ := h
  exact lt_of_block h1

theorem ownsRow_below {w w' : World} {base : Nat} {e size : Nat} {v : Value} {n : Nat} {xs : List Value} (h : w.ownsRow base e size v n xs) (hk : ∀ k, v.ownBlock = some k → w'.heap[k]? = w.heap[k]?) : w'.ownsRow base e size v n xs := by
  refine ⟨h.1, ?_⟩
  rcases h.2 with hn | ⟨g, cap, cur, rfl, hb, hgg, rest⟩
  · exact .inl hn
  · exact .inr ⟨g, cap, cur, rfl, hb, (hk g (by simp [Value.ownBlock])).trans hgg, rest⟩

/-- An Out is kept where its two blocks are. -/
theorem OutIs.kept {w w' : World} {base b : Nat} {bs : List UInt8} (h : OutIs w base b bs) (hk : ∀ k, k < w.heap.size → w'.heap[k]? = w.heap[k]?) : OutIs w' base b bs := by
  obtain ⟨v, h1, h2⟩ := h
  exact ⟨v, (hk b (lt_of_block h1)).trans h1, ownsRow_below h2 fun k hk' => hk k (h2.lt k hk').2⟩

theorem outBlock_ne {w : World} {base b : Nat} {v v0 : Value} {n : Nat} {xs : List Value} (hb : w.heap[b]? = some (.cells #[v0] 72 (0, 0)))
    (hown : w.ownsRow base 5 1 v n xs) : v.ownBlock ≠ some b := by
  intro e
  rcases hown.2 with ⟨rfl, _⟩ | ⟨g, cap, cur, rfl, _, hgg, _⟩
  · simp [Value.ownBlock] at e
  · simp [Value.ownBlock] at e
    subst e
    rw [hb] at hgg
    simp at hgg

/-- What a write leaves: the cells behind an append, and the store of the slice. -/
theorem out_store {w w0 w1 : World} {base b : Nat} {v v' : Value} {bs news : List UInt8} (hb : w.heap[b]? = some (.cells #[v] 72 (0, 0)))
    (hown : w.ownsRow base 5 1 v bs.length (byteCells bs)) (h0 : Below w.heap.size w w0) (hbase : base ≤ w.heap.size)
    {k : Nat} {cs : List Value} (hown' : w1.ownsRow base 5 1 v' k (byteCells bs ++ cs)) (hg : w0.grownBy w1 v.ownBlock) (hk : k = bs.length + news.length) (hcs : cs = byteCells news) :
    OutIs (w1.setCell ⟨b, 0, none⟩ v') base b (bs ++ news) ∧ BelowBut base b w (w1.setCell ⟨b, 0, none⟩ v') := by
  subst hk hcs
  have hlt := lt_of_block hb
  have hne := outBlock_ne hb hown
  have hb1 : w1.heap[b]? = some (.cells #[v] 72 (0, 0)) := by
    rw [hg.block b (Nat.lt_of_lt_of_le hlt h0.size) (fun e => hne e.symm), h0.block b hlt]; exact hb
  refine ⟨⟨v', one_setCell hb1, ?_⟩, ?_⟩
  · rw [List.length_append, byteCells_append]
    exact ownsRow_setCell_other hown' (outBlock_ne hb1 hown') _
  · refine ⟨hg.os.trans h0.os, hg.tape.trans h0.tape, hg.output.trans h0.output, ?_, ?_⟩
    · have := hg.size; have := h0.size; simp; omega
    · intro k hk hkb
      rw [Below.heap_setCell _ _ _ _ hkb, hg.block k (by have := h0.size; omega) (fun e => by have := hown.lt k e.symm; omega), h0.block k (by omega)]

theorem out_cell {w w0 w1 : World} {base b : Nat} {v : Value} {n : Nat} {xs : List Value} (hb : w.heap[b]? = some (.cells #[v] 72 (0, 0)))
    (hown : w.ownsRow base 5 1 v n xs) (h0 : Below w.heap.size w w0) (hg : w0.grownBy w1 v.ownBlock) :
    w1.cell? ⟨b, 0, none⟩ = some v ∧ w1.frozen? ⟨b, 0, none⟩ = false := by
  have hlt := lt_of_block hb
  have hne := outBlock_ne hb hown
  have hb1 : w1.heap[b]? = some (.cells #[v] 72 (0, 0)) := by
    rw [hg.block b (Nat.lt_of_lt_of_le hlt h0.size) (fun e => hne e.symm), h0.block b hlt]; exact hb
  exact ⟨cell_of_one hb1, free_of_one hb1⟩

set_option maxRecDepth 100000 in
set_option maxHeartbeats 400000 in
theorem newOut_any (w : World) :
    Calls Tryd.prog 22 #[] w fun e w' => e = .returned (.pointer (some ⟨w.heap.size, 0, none⟩)) ∧ w' = w.alloc (.cells #[.slice none 0 0] 72 (0, 0)) := by
  go_enter Tryd.func22, Tryd.ntmps22
  go_wp2
  go_ret
  exact ⟨rfl, rfl⟩

theorem OutIs.fresh (w : World) (base : Nat) : OutIs (w.alloc (.cells #[.slice none 0 0] 72 (0, 0))) base w.heap.size [] :=
  ⟨_, heap_alloc_new w _, World.ownsRow_nil _ _ _ _⟩

theorem one_int (k : IntKind) (x : Int) : ∀ u ∈ [Value.int k x], u.oneCell' = true := by
  intro u hu
  obtain rfl := List.mem_singleton.1 hu
  rfl

theorem byte_cell (x : Int) (c : UInt8) (h : x = c.toNat) : [Value.int .u8 x] = byteCells [c] := by rw [h]; rfl

theorem byte_high (m : Nat) : bits .or .u8 ((m : Int) % 256) 128 = ((UInt8.ofNat (m % 128 + 128)).toNat : Int) := by
  have e1 : ((m : Int) % 256) = (((m % 256 : Nat)) : Int) := by omega
  have key : ∀ x : Fin 256, bits .or .u8 ((x.val : Nat) : Int) 128 = (((UInt8.ofNat (x.val % 128 + 128)).toNat : Nat) : Int) := by decide +kernel
  rw [e1, key ⟨m % 256, by omega⟩]
  congr 3
  simp only; omega

theorem ownsRow_slice {w : World} {base : Nat} {e size : Nat} {v : Value} {n : Nat} {xs : List Value} (h : w.ownsRow base e size v n xs) : ∃ a c, v = .slice a n c := by
  rcases h.2 with ⟨rfl, rfl⟩ | ⟨g, cap, cur, rfl, _⟩
  · exact ⟨_, _, rfl⟩
  · exact ⟨_, _, rfl⟩

theorem byte_low (m : Nat) (h : ¬ 128 ≤ m) : (m : Int) = ((UInt8.ofNat m).toNat : Int) := by
  rw [UInt8.toNat_ofNat']; omega

theorem loop_num (done : List UInt8) (m n : Nat) (hm : 128 ≤ m) (hd : done ++ Wire.num m = Wire.num n) :
    (done ++ [UInt8.ofNat (m % 128 + 128)]) ++ Wire.num (m / 128) = Wire.num n := by
  rw [← hd, List.append_assoc]
  congr 1
  rw [Wire.num.eq_def m, dif_neg (by omega)]; rfl

theorem last_num (done : List UInt8) (m n : Nat) (hm : ¬ 128 ≤ m) (hd : done ++ Wire.num m = Wire.num n) : done ++ [UInt8.ofNat m] = Wire.num n := by
  rw [← hd, Wire.num.eq_def m, dif_pos (by omega)]

set_option maxRecDepth 100000 in
set_option maxHeartbeats 400000 in
theorem outNum_any (n : Nat) (hn : n < 18446744073709551616) (base b : Nat) (bs : List UInt8) (w : World) (h : OutIs w base b bs) (hbase : base ≤ w.heap.size) (hl : bs.length + 10 ≤ 140737488355328) :
    Calls Tryd.prog 23 #[.pointer (some ⟨b, 0, none⟩), .int .u64 n] w fun e w' => e = .returned (.tuple #[]) ∧ OutIs w' base b (bs ++ Wire.num n) ∧ BelowBut base b w w' := by
  have hnl := Wire.num_length n hn
  have HN := Lib.hid hn; clear hn
  go_enter Tryd.func23, Tryd.ntmps23
  obtain ⟨i0, hi, hz0, hz1, hz2⟩ := info_parts Tryd.info_byte
  go_wp2
  go_loopw [1] (fun x wr => ∃ m : Nat, ∃ done : List UInt8, x = .int .u64 m ∧ OutIs wr base b (bs ++ done) ∧ Hid (done ++ Wire.num m = Wire.num n) ∧ BelowBut base b w wr)
    (fun x _ => (intOf x).toNat)
  case atStart => exact ⟨n, [], rfl, by simpa using h, rfl, BelowBut.refl _ _ _⟩
  case round =>
    obtain ⟨m, done, rfl, ⟨v, hb, hown⟩, hd, ht⟩ := hrel
    have hc := cell_of_one hb
    have hf := free_of_one hb
    have hsz := ht.size
    have hdl : done.length + 1 ≤ 10 := by
      have h1 := congrArg List.length hd.out
      have h2 := Wire.num_pos m
      rw [List.length_append] at h1; omega
    have hll : (bs ++ done).length ≤ bs.length + done.length := Nat.le_of_eq List.length_append
    have h0 : ∀ o, Below wr.heap.size wr (wr.alloc o) := fun o => (Below.refl _ _).alloc (Nat.le_refl _) _
    by_cases hm : 128 ≤ m
    all_goals
      go_wp2_with (at_builtin; refine wpList_append_own _ rfl _ _ 42 rfl base 5 i0 (.int .u8 0) 1 1 Tryd.under_bytes hi hz0 hz1 hz2 rfl (by decide) _ _ _ rfl (hown.alloc _) ⟨wr.heap.size, 0, none⟩ 1 1 [.int .u8 _] rfl rfl (cell_one_new _ _ _) (one_int _ _) (by unfold maxLen; omega) (by omega) (by simp; omega) ?_)
      intro v' w1 hown' hgrow _
      obtain ⟨a', c', rfl⟩ := ownsRow_slice hown'
      obtain ⟨hc1, hf1⟩ := out_cell hb hown (h0 _) hgrow
    · have R := out_store (news := [UInt8.ofNat (m % 128 + 128)]) hb hown (h0 _) (by omega) hown' hgrow (by simp) (byte_cell _ _ (byte_high m))
      have HR := Lib.hid R; clear R hown' hgrow
      go_wp2
      go_roundw
      case rel => exact ⟨m / 128, done ++ [UInt8.ofNat (m % 128 + 128)], by go_num, by rw [← List.append_assoc]; exact HR.out.1, loop_num done m n hm hd.out, ht.trans HR.out.2⟩
      case measure => simp [intOf]; omega
    · have R := out_store (news := [UInt8.ofNat m]) hb hown (h0 _) (by omega) hown' hgrow (by simp) (byte_cell _ _ (byte_low m hm))
      rw [List.append_assoc, last_num done m n hm hd.out] at R
      have HR := Lib.hid R; clear R hown' hgrow
      go_wp2
      go_end0
      exact ⟨rfl, HR.out.1, ht.trans HR.out.2⟩

end Go.Proofs.YteljlnkjdajkgaaDoor
