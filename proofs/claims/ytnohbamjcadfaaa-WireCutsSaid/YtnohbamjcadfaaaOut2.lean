/- The walks of wire.Out: Int, Text, Hash, Done. -/
import Derived.Test.YtnohbamjcadfaaaOut
import Derived.RegionTactic
import Derived.Deep.RegionLaw
import Derived.Deep.AppendLies
namespace Go.Proofs.Ytnohbamjcadfaaa
open Go.RowKit

theorem Try.under_string : Try.prog.underlying 9 = some .string := by kernel_rfl
theorem Try.under_byte : Try.prog.underlying 5 = some (.int .u8) := by kernel_rfl

set_option maxRecDepth 100000 in
set_option maxHeartbeats 400000 in
theorem outInt_any (n : Int) (h0 : -9223372036854775808 ≤ n) (h1 : n ≤ 9223372036854775807) (base b : Nat) (bs : List UInt8) (w : World) (h : OutIs w base b bs) (hbase : base ≤ w.heap.size) (hl : bs.length + 10 ≤ 140737488355328) :
    Calls Try.prog 19 #[.pointer (some ⟨b, 0, none⟩), .int .i64 n] w fun e w' => e = .returned (.tuple #[]) ∧ OutIs w' base b (bs ++ Wire.num (Wire.zig n)) ∧ BelowBut base b w w' := by
  have hz := zig_u64 n h0 h1
  have hlt : Wire.zig n < 18446744073709551616 := by unfold Wire.zig; split <;> omega
  have HZ := Lib.hid hz; clear hz
  have HL := Lib.hid hlt; clear hlt
  go_enter Try.func19, Try.ntmps19
  go_wp2_with fail
  rw [HZ.out]
  refine (outNum_any _ HL.out base b bs _ h hbase (by omega)).mono ?_
  rintro e wr ⟨rfl, h1, ht⟩
  go_wp2_with fail
  go_end0
  exact ⟨rfl, h1, ht⟩

/-- What an Out holds, as a string. -/
theorem out_string {w : World} {base : Nat} {v : Value} {bs : List UInt8} (hown : w.ownsRow base 5 1 v bs.length (byteCells bs)) :
    (convert 59 9 v).run Try.prog w = .ok (.string ⟨bs.toArray⟩) w := by
  rcases hown.2 with ⟨rfl, hn⟩ | ⟨g, cap, cur, rfl, _, hg, _, _, _, htk⟩
  · obtain rfl := List.eq_nil_of_length_eq_zero hn
    rw [run_convert_bytes_string w _ _ _ _ _ _ Try.under_bytes Try.under_byte Try.under_string]
    simp [Conv.bytesToString]
    rfl
  · refine run_convert_bytes_back w _ _ _ _ _ bs Try.under_bytes Try.under_byte Try.under_string ?_
    intro j hj
    have := hown.cells (g := g) rfl j (.int .u8 (bs[j].toNat : Int)) (by simp [byteCells, hj])
    exact this

set_option maxRecDepth 100000 in
set_option maxHeartbeats 400000 in
theorem outDone_any (base b : Nat) (bs : List UInt8) (w : World) (h : OutIs w base b bs) :
    Calls Try.prog 14 #[.pointer (some ⟨b, 0, none⟩)] w fun e w' => w = w' ∧ e = .returned (.string ⟨bs.toArray⟩) := by
  obtain ⟨v, hb, hown⟩ := h
  obtain ⟨a', c', rfl⟩ := ownsRow_slice hown
  have hcv := out_string hown
  have hc := cell_of_one hb
  clear hown hb
  go_enter Try.func14, Try.ntmps14
  go_wp2
  go_ret
  exact ⟨rfl, rfl⟩

set_option maxRecDepth 100000 in
set_option maxHeartbeats 400000 in
theorem outText_any (s : ByteArray) (hs : s.size ≤ 140737488351232) (base b : Nat) (bs : List UInt8) (w : World) (h : OutIs w base b bs) (hbase : base ≤ w.heap.size) (hl : bs.length + 10 + s.size ≤ 140737488355328) :
    Calls Try.prog 20 #[.pointer (some ⟨b, 0, none⟩), .string s] w fun e w' => e = .returned (.tuple #[]) ∧ OutIs w' base b (bs ++ Wire.num s.size ++ s.data.toList) ∧ BelowBut base b w w' := by
  have hnl := Wire.num_length s.size (by omega)
  obtain ⟨i0, hi, hz0, hz1, hz2⟩ := info_parts Try.info_byte
  go_enter Try.func20, Try.ntmps20
  go_wp2_with fail
  refine (outNum_any s.size (by omega) base b bs _ h hbase (by omega)).mono ?_
  rintro e wr ⟨rfl, ⟨v, hb, hown⟩, ht⟩
  have hc := cell_of_one hb
  have hf := free_of_one hb
  have hsz := ht.size
  have hll : (bs ++ Wire.num s.size).length ≤ bs.length + (Wire.num s.size).length := Nat.le_of_eq List.length_append
  go_wp2_with (at_builtin; refine Lib.wpList_append_own_string _ rfl _ _ 59 9 rfl base 5 i0 Try.under_bytes Try.under_string hi hz0 hz1 hz2 _ _ _ rfl hown s rfl (by unfold maxLen; omega) (by omega) (by omega) ?_)
  intro v' w1 hown' hgrow _
  obtain ⟨a', c', rfl⟩ := ownsRow_slice hown'
  obtain ⟨hc1, hf1⟩ := out_cell hb hown (Below.refl _ _) hgrow
  have R := out_store (news := s.data.toList) hb hown (Below.refl _ _) (by omega) hown' hgrow (by simp) rfl
  have HR := Lib.hid R; clear R hown' hgrow
  go_wp2
  go_end0
  exact ⟨rfl, HR.out.1, ht.trans HR.out.2⟩

set_option maxRecDepth 100000 in
set_option maxHeartbeats 400000 in
theorem outHash_any (hs : List UInt8) (hl32 : hs.length = 32) (base b : Nat) (bs : List UInt8) (w : World) (h : OutIs w base b bs) (hbase : base ≤ w.heap.size) (hl : bs.length + 32 ≤ 140737488355328) :
    Calls Try.prog 33 #[.pointer (some ⟨b, 0, none⟩), .agg (byteCells hs).toArray] w fun e w' => e = .returned (.tuple #[]) ∧ OutIs w' base b (bs ++ hs) ∧ BelowBut base b w w' := by
  obtain ⟨i0, hi, hz0, hz1, hz2⟩ := info_parts Try.info_byte
  obtain ⟨v, hb, hown⟩ := h
  obtain ⟨a0, c0, rfl⟩ := ownsRow_slice hown
  have hc := cell_of_one hb
  have hf := free_of_one hb
  have hca : ∀ o, (w.alloc o).cell? ⟨b, 0, none⟩ = some (.slice a0 bs.length c0) := fun o => cell_of_one ((Below.heap_alloc w o b (lt_of_block hb)).trans hb)
  have hfa : ∀ o, (w.alloc o).frozen? ⟨b, 0, none⟩ = false := fun o => free_of_one ((Below.heap_alloc w o b (lt_of_block hb)).trans hb)
  go_enter Try.func33, Try.ntmps33
  go_wp2
  have hcells : ∀ j u, (byteCells hs)[j]? = some u → ((w.alloc (.cells (byteCells hs).toArray 45)).drew).cell? ((⟨w.heap.size, 0, none⟩ : Addr).add j) = some u := by
    intro j u hj
    have e : (⟨w.heap.size, 0, none⟩ : Addr).add j = ⟨w.heap.size, j, none⟩ := by unfold Addr.add; split <;> simp_all
    rw [e]
    show (w.alloc _).cell? _ = _
    rw [World.cell?_alloc_mark]; simpa using hj
  have HC := Lib.hid hcells; clear hcells
  have h0 : Below w.heap.size w (w.alloc (.cells (byteCells hs).toArray 45)).drew := ((Below.refl _ _).alloc (Nat.le_refl _) _).drew
  go_region_law (refine step_append_lies _ rfl _ _ 59 rfl base 5 i0 (.int .u8 0) 1 1 Try.under_bytes hi hz0 hz1 hz2 rfl (by decide) _ _ _ rfl (hown.alloc _).drew ⟨w.heap.size, 0, none⟩ 32 32 (byteCells hs) rfl (by rw [byteCells_length, hl32]) HC.out (byteCells_one _) (by decide) (by unfold maxLen; omega) (by omega) (by simp; omega) (w.heap.size + 1) (by simp) ?_; intro g cap w1 hown' hgrow _ _; obtain ⟨hc1, hf1⟩ := out_cell hb hown h0 hgrow; have HR := Lib.hid (out_store (news := hs) hb hown h0 hbase hown' hgrow (by rw [hl32]) rfl); clear hown' hgrow)
  go_end0
  exact ⟨rfl, HR.out.1, HR.out.2⟩

end Go.Proofs.Ytnohbamjcadfaaa
