/- The walk of wire.Out.Num once more: with the blocks that it leaves alone. -/
import Derived.Test.YtnohbamjcadfaaaOut
import Derived.Maps.AppendAt
namespace Go.Proofs.Ytnohbamjcadfaaa
open Go.RowKit
set_option linter.unusedSimpArgs false

/-- An Out whose row is told. -/
def OutAt (w : World) (base b : Nat) (v : Value) (bs : List UInt8) : Prop :=
  w.heap[b]? = some (.cells #[v] 61 (0, 0)) ∧ w.ownsRow base 5 1 v bs.length (byteCells bs)

theorem OutAt.is {w : World} {base b : Nat} {v : Value} {bs : List UInt8} (h : OutAt w base b v bs) : OutIs w base b bs := ⟨v, h.1, h.2⟩

/-- What a write leaves alone: every block but the Out's own and its row's. -/
structure Alone (b : Nat) (w w' : World) (v v' : Value) : Prop where
  block : ∀ k, k < w.heap.size → k ≠ b → v.ownBlock ≠ some k → w'.heap[k]? = w.heap[k]?
  own : v'.ownBlock = v.ownBlock ∨ ∃ g, v'.ownBlock = some g ∧ w.heap.size ≤ g
  size : w.heap.size ≤ w'.heap.size

theorem Alone.refl (b : Nat) (w : World) (v : Value) : Alone b w w v v := ⟨fun _ _ _ _ => rfl, .inl rfl, Nat.le_refl _⟩

theorem Alone.trans {b : Nat} {w w1 w2 : World} {v v1 v2 : Value} (h1 : Alone b w w1 v v1) (h2 : Alone b w1 w2 v1 v2) : Alone b w w2 v v2 := by
  refine ⟨fun k hk hb hv => ?_, ?_, Nat.le_trans h1.size h2.size⟩
  · rw [h2.block k (Nat.lt_of_lt_of_le hk h1.size) hb, h1.block k hk hb hv]
    intro e
    rcases h1.own with h | ⟨g, hg, hl⟩
    · exact hv (h ▸ e)
    · rw [hg] at e; injection e with e; omega
  · rcases h2.own with h | ⟨g, hg, hl⟩
    · rw [h]; exact h1.own
    · exact .inr ⟨g, hg, Nat.le_trans h1.size hl⟩

theorem out_alone {w w0 w1 : World} {b : Nat} {v v' : Value} (h0 : Below w.heap.size w w0) (hg : w0.grownBy w1 v.ownBlock) (hat : v'.ownBlock = v.ownBlock ∨ ∃ g, v'.ownBlock = some g ∧ w.heap.size ≤ g) :
    Alone b w (w1.setCell ⟨b, 0, none⟩ v') v v' := by
  refine ⟨fun k hk hb hv => ?_, ?_, ?_⟩
  · rw [Below.heap_setCell _ _ _ _ hb, hg.block k (Nat.lt_of_lt_of_le hk h0.size) (fun e => hv e.symm), h0.block k hk]
  · exact hat
  · have := hg.size; have := h0.size; simp; omega

theorem out_store_at {w w0 w1 : World} {base b : Nat} {v v' : Value} {bs news : List UInt8} (hb : w.heap[b]? = some (.cells #[v] 61 (0, 0)))
    (hown : w.ownsRow base 5 1 v bs.length (byteCells bs)) (h0 : Below w.heap.size w w0) (hbase : base ≤ w.heap.size)
    {k : Nat} {cs : List Value} (hown' : w1.ownsRow base 5 1 v' k (byteCells bs ++ cs)) (hg : w0.grownBy w1 v.ownBlock) (hk : k = bs.length + news.length) (hcs : cs = byteCells news)
    (hat : v'.ownBlock = v.ownBlock ∨ ∃ g, v'.ownBlock = some g ∧ w.heap.size ≤ g) :
    OutAt (w1.setCell ⟨b, 0, none⟩ v') base b v' (bs ++ news) ∧ BelowBut base b w (w1.setCell ⟨b, 0, none⟩ v') ∧ Alone b w (w1.setCell ⟨b, 0, none⟩ v') v v' := by
  have hS := out_store hb hown h0 hbase hown' hg hk hcs
  refine ⟨?_, hS.2, out_alone h0 hg hat⟩
  subst hk hcs
  have hlt := lt_of_block hb
  have hne := outBlock_ne hb hown
  have hb1 : w1.heap[b]? = some (.cells #[v] 61 (0, 0)) := by
    rw [hg.block b (Nat.lt_of_lt_of_le hlt h0.size) (fun e => hne e.symm), h0.block b hlt]; exact hb
  refine ⟨one_setCell hb1, ?_⟩
  rw [List.length_append, byteCells_append]
  exact ownsRow_setCell_other hown' (outBlock_ne hb1 hown') _

set_option maxRecDepth 100000 in
set_option maxHeartbeats 400000 in
theorem outNum_at (n : Nat) (hn : n < 18446744073709551616) (base b : Nat) (v0 : Value) (bs : List UInt8) (w : World) (h : OutAt w base b v0 bs) (hbase : base ≤ w.heap.size) (hl : bs.length + 10 ≤ 140737488355328) :
    Calls Try.prog 13 #[.pointer (some ⟨b, 0, none⟩), .int .u64 n] w fun e w' => e = .returned (.tuple #[]) ∧ ∃ v', OutAt w' base b v' (bs ++ Wire.num n) ∧ BelowBut base b w w' ∧ Alone b w w' v0 v' := by
  have hnl := Wire.num_length n hn
  have HN := Lib.hid hn; clear hn
  go_enter Try.func13, Try.ntmps13
  obtain ⟨i0, hi, hz0, hz1, hz2⟩ := info_parts Try.info_byte
  go_wp2
  go_loopw [1] (fun x wr => ∃ m : Nat, ∃ done : List UInt8, ∃ v : Value, x = .int .u64 m ∧ OutAt wr base b v (bs ++ done) ∧ Hid (done ++ Wire.num m = Wire.num n) ∧ BelowBut base b w wr ∧ Alone b w wr v0 v)
    (fun x _ => (intOf x).toNat)
  case atStart => exact ⟨n, [], v0, rfl, by simpa using h, rfl, BelowBut.refl _ _ _, Alone.refl _ _ _⟩
  case round =>
    obtain ⟨m, done, v, rfl, ⟨hb, hown⟩, hd, ht, hal⟩ := hrel
    have hc := cell_of_one hb
    have hf := free_of_one hb
    have hsz := ht.size
    have hdl : done.length + 1 ≤ 10 := by
      have h1 := congrArg List.length hd.out
      have h2 := Wire.num_pos m
      rw [List.length_append] at h1; omega
    have hll : (bs ++ done).length ≤ bs.length + done.length := Nat.le_of_eq List.length_append
    have h0 : ∀ o, Below wr.heap.size wr (wr.alloc o) := fun o => (Below.refl _ _).alloc (Nat.le_refl _) _
    by_cases hm : 128 ≤ m
    all_goals
      go_wp2_with (at_builtin; refine wpList_append_own_at _ rfl _ _ 59 rfl base 5 i0 (.int .u8 0) 1 1 Try.under_bytes hi hz0 hz1 hz2 rfl (by decide) _ _ _ rfl (hown.alloc _) ⟨wr.heap.size, 0, none⟩ 1 1 [.int .u8 _] rfl rfl (cell_one_new _ _ _) (one_int _ _) (by unfold maxLen; omega) (by omega) (by simp; omega) ?_)
      intro v' w1 hown' hgrow _ hat
      obtain ⟨a', c', rfl⟩ := ownsRow_slice hown'
      obtain ⟨hc1, hf1⟩ := out_cell hb hown (h0 _) hgrow
    · have R := out_store_at (news := [UInt8.ofNat (m % 128 + 128)]) hb hown (h0 _) (by omega) hown' hgrow (by simp) (byte_cell _ _ (byte_high m)) (hat.imp id fun h => ⟨_, h, by omega⟩)
      have HR := Lib.hid R; clear R hown' hgrow hat
      go_wp2
      go_roundw
      case rel => exact ⟨m / 128, done ++ [UInt8.ofNat (m % 128 + 128)], _, by go_num, by rw [← List.append_assoc]; exact HR.out.1, loop_num done m n hm hd.out, ht.trans HR.out.2.1, hal.trans HR.out.2.2⟩
      case measure => simp [intOf]; omega
    · have R := out_store_at (news := [UInt8.ofNat m]) hb hown (h0 _) (by omega) hown' hgrow (by simp) (byte_cell _ _ (byte_low m hm)) (hat.imp id fun h => ⟨_, h, by omega⟩)
      rw [List.append_assoc, last_num done m n hm hd.out] at R
      have HR := Lib.hid R; clear R hown' hgrow hat
      go_wp2
      go_end0
      exact ⟨rfl, _, HR.out.1, ht.trans HR.out.2.1, hal.trans HR.out.2.2⟩
end Go.Proofs.Ytnohbamjcadfaaa
