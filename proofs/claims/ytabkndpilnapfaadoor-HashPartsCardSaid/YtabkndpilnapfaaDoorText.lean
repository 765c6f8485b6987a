/- The walks of (*strings.Builder).WriteByte and of hash.Text: the text of a sum. -/
import Derived.Test.YtabkndpilnapfaaDoorMine
import Derived.Test.YtabkndpilnapfaaDoorHex
import Derived.Test.YtabkndpilnapfaaDoorShelf
import Derived.Lib.Walk
import Derived.Lib.Builder
import Derived.Lib.UnsafeStr
import Derived.Laws.Externs
import Derived.WalkSpells
import Derived.WalkLawsBesides
import Derived.Laws.BitsAllLaws
namespace Go.Proofs.YtabkndpilnapfaaDoor
open Go.RowKit
set_option linter.unusedSimpArgs false
set_option linter.unusedVariables false

theorem Tryd.sizeBuilder : (Tryd.prog.info? 55).map (·.size) = some 2 := by kernel_rfl
theorem Tryd.liesBuilder : liesAt Tryd.prog Tryd.prog.depth 55 (2 / Tryd.prog.cellsOf 55) 0 55 1 = true := by kernel_rfl
theorem Tryd.info_u8b : (Tryd.prog.info? 5).map (fun i => (i.zero, i.size, i.bytes)) = some (some (.int .u8 0), 1, 1) := by kernel_rfl
theorem Tryd.under_u8b : Tryd.prog.underlying 27 = some (.slice 5) := by kernel_rfl

set_option maxRecDepth 100000 in
theorem copyCheck_used (b : Nat) (w : World) (h0 : w.cell? ⟨b, 0, none⟩ = some (.pointer (some ⟨b, 0, none⟩))) :
    Calls Tryd.prog 32 #[.pointer (some ⟨b, 0, none⟩)] w fun e w' => e = .returned (.tuple #[]) ∧ w' = w := by
  obtain ⟨j, hj, _⟩ := Option.map_eq_some_iff.1 Tryd.sizeBuilder
  go_enter Tryd.func32, Tryd.ntmps32
  go_wp2
  rw [Lib.run_neq_ptr_same w _ Tryd.underlying53 hj]
  go_wp2
  go_end0
  exact ⟨rfl, rfl⟩

set_option maxRecDepth 100000 in
theorem copyCheck_fresh (b : Nat) (w : World) (h0 : w.cell? ⟨b, 0, none⟩ = some (.pointer none)) (hsh : w.shape? b = some (55, 2)) (hfz : w.frozen? ⟨b, 0, none⟩ = false) :
    Calls Tryd.prog 32 #[.pointer (some ⟨b, 0, none⟩)] w fun e w' => e = .returned (.tuple #[]) ∧ w' = w.setCell ⟨b, 0, none⟩ (.pointer (some ⟨b, 0, none⟩)) := by
  obtain ⟨j, hj, hjs⟩ := Option.map_eq_some_iff.1 Tryd.sizeBuilder
  go_enter Tryd.func32, Tryd.ntmps32
  go_wp2
  rw [Lib.run_to_unsafe w ⟨b, 0, none⟩ Tryd.underlying53 Tryd.underlying66 hj (by rw [hjs]; decide) hsh (Nat.zero_lt_succ 1)]
  simp only [Result.andThen]
  rw [Oper.upon_value]
  go_wp2
  rw [run_callFunc_extern Tryd.func36 (by kernel_rfl) (by kernel_rfl) (by kernel_rfl) (e := Extern.AbiNoEscape.same) (by kernel_rfl)]
  rw [Lib.run_noEscape]
  simp only [Result.andThen]
  rw [Oper.upon_value]
  go_wp2
  rw [Lib.run_from_unsafe w ⟨b, 0, none⟩ Tryd.underlying66 Tryd.underlying53 hj hsh Tryd.liesBuilder]
  simp only [Result.andThen]
  rw [Oper.upon_value]
  go_wp2
  go_end0
  exact ⟨rfl, rfl⟩

theorem copyCheck_any (B b : Nat) (bs : List Value) (w : World) (h : Lib.IsBuilder 55 5 B b bs w) :
    Calls Tryd.prog 32 #[.pointer (some ⟨b, 0, none⟩)] w fun e w' => e = .returned (.tuple #[]) ∧ (Lib.BuilderAt 55 5 B b (.pointer (some ⟨b, 0, none⟩)) bs w' ∧ Below B w w') := by
  rcases h with h | h
  · refine (copyCheck_fresh b w h.cell0 h.shape h.frozen0).mono ?_
    rintro e w' ⟨rfl, rfl⟩
    exact ⟨rfl, h.used _, (Below.refl B w).setCell (p := ⟨b, 0, none⟩) h.1 _⟩
  · refine (copyCheck_used b w h.cell0).mono ?_
    rintro e w' ⟨rfl, rfl⟩
    exact ⟨rfl, h, Below.refl B _⟩

set_option maxHeartbeats 400000 in
set_option maxRecDepth 100000 in
theorem writeByte_any (B b : Nat) (bs : List Value) (c : Int) (w : World) (h : Lib.IsBuilder 55 5 B b bs w) (hlen : bs.length + 1 ≤ 140737488355328) (hBw : B ≤ w.heap.size) :
    Calls Tryd.prog 26 #[.pointer (some ⟨b, 0, none⟩), .int .u8 c] w fun e w' => e = .returned .nilIface ∧ (Lib.IsBuilder 55 5 B b (bs ++ [.int .u8 c]) w' ∧ Below B w w') := by
  obtain ⟨i0, hi, hz0, hz1, hz2⟩ := info_parts Tryd.info_u8b
  go_enter Tryd.func26, Tryd.ntmps26
  go_wp2_with fail
  refine (copyCheck_any B b bs _ h).mono ?_
  rintro e w1 ⟨rfl, h1, hb1⟩
  obtain ⟨hB, v, hbk, hown, hne⟩ := h1
  have c0 : w1.cell? ⟨b, 0, none⟩ = some (.pointer (some ⟨b, 0, none⟩)) := by rw [Lib.cell_of_heap hbk]; rfl
  have c1 : w1.cell? ⟨b, 1, none⟩ = some v := by rw [Lib.cell_of_heap hbk]; rfl
  go_wp2_with (at_builtin; refine wpList_append_own _ rfl _ _ 27 rfl B 5 i0 (.int .u8 0) 1 1 Tryd.under_u8b hi hz0 hz1 hz2 rfl (by decide) _ _ _ rfl (hown.alloc _) ⟨w1.heap.size, 0, none⟩ 1 1 [.int .u8 c] rfl rfl ?c1 ?c2 ?c3 ?c4 ?c5 ?_)
  case c1 =>
    intro j u hj
    match j, hj with
    | 0, hj => simp at hj; subst hj; simp [Addr.add]
  case c2 => intro u hu; simp at hu; subst hu; rfl
  case c3 => unfold maxLen; omega
  case c4 => omega
  case c5 => have := hb1.size; simp; omega
  intro v' w2 hown' hgrow _
  have hlt : b < w1.heap.size := by
    rcases Nat.lt_or_ge b w1.heap.size with h' | h'
    · exact h'
    · simp [Array.getElem?_eq_none h'] at hbk
  have hb2 : w2.heap[b]? = some (.cells #[.pointer (some ⟨b, 0, none⟩), v] 55 (0, 0)) := by
    rw [hgrow.block b (by simp; omega) (fun e => hne e.symm), Below.heap_alloc w1 _ b hlt]
    exact hbk
  have d0 : w2.cell? ⟨b, 0, none⟩ = some (.pointer (some ⟨b, 0, none⟩)) := by rw [Lib.cell_of_heap hb2]; rfl
  have d1 : w2.cell? ⟨b, 1, none⟩ = some v := by rw [Lib.cell_of_heap hb2]; rfl
  have df : w2.frozen? ⟨b, 1, none⟩ = false := by simp [World.frozen?, hb2]
  obtain ⟨g, cap, rfl⟩ : ∃ g cap, v' = .slice (some ⟨g, 0, none⟩) (bs.length + 1) cap := by
    rcases hown'.2 with ⟨_, h0⟩ | ⟨g, cap, cur, hv, _⟩
    · omega
    · exact ⟨g, cap, hv⟩
  have hl2 : (bs ++ [Value.int .u8 c]).length = bs.length + 1 := by simp
  have R := Lib.hid (Lib.BuilderAt.put (T := 55) (e := 5) hB hb2 (bs' := bs ++ [.int .u8 c]) (by simpa using hown') (by decide))
  have hbel : Below B w w2 := hb1.trans (((Below.refl B w1).alloc (by have := hb1.size; omega) _).grown hgrow (by have := hb1.size; simp; omega) (fun k hk => (hown.lt k hk).1))
  clear hown' hgrow hown
  go_wp2
  go_ret
  exact ⟨rfl, .inr R.out, hbel.setCell (p := ⟨b, 1, none⟩) hB _⟩

theorem str_digit (m : Nat) (hm : m < 16) : ((⟨#[48, 49, 50, 51, 52, 53, 54, 55, 56, 57, 97, 98, 99, 100, 101, 102]⟩ : ByteArray)[m]'hm) = Sha.digit m := by
  have : ∀ m, (hm : m < 16) → ((⟨#[48, 49, 50, 51, 52, 53, 54, 55, 56, 57, 97, 98, 99, 100, 101, 102]⟩ : ByteArray)[m]'hm) = Sha.digit m := by decide
  exact this m hm

theorem hex_snoc (l : List UInt8) (t : Nat) (x : UInt8) (h : l[t]? = some x) : byteCells (Sha.hex (l.take t)) ++ [Value.int .u8 ((Sha.digit (x.toNat / 16)).toNat : Int)] ++ [Value.int .u8 ((Sha.digit (x.toNat % 16)).toNat : Int)] = byteCells (Sha.hex (l.take (t + 1))) := by
  rw [List.take_add_one, h]
  unfold Sha.hex
  rw [List.map_append, List.flatten_append, byteCells_append]
  simp [Sha.hex2, byteCells]

theorem Tryd.under_h25 : Tryd.prog.underlying 25 = some (.array 32 5) := by kernel_rfl
theorem Tryd.size_h25 : (Tryd.prog.info? 25).map (·.size) = some 32 := by kernel_rfl
theorem Tryd.under_e8 : Tryd.prog.underlying 5 = some (.int .u8) := by kernel_rfl
theorem Tryd.size_e8 : (Tryd.prog.info? 5).map (·.size) = some 1 := by kernel_rfl

set_option maxHeartbeats 1000000 in
set_option maxRecDepth 100000 in
theorem hashText_any (l : List UInt8) (hl : l.length = 32) (w : World) :
    Calls Tryd.prog 15 #[.agg (byteCells l).toArray] w fun e w' => e = .returned (.string (strOf (Sha.hex l))) ∧ Below w.heap.size w w' := by
  obtain ⟨W, hW⟩ : ∃ W, W = (w.alloc (.cells (byteCells l).toArray 25)).alloc (.cells #[.pointer none, .slice none 0 0] 55) := ⟨_, rfl⟩
  have b0 : Below w.heap.size w W := by rw [hW]; exact ((Below.refl _ _).alloc (Nat.le_refl _) _).alloc (by simp) _
  have x1 : W.heap[w.heap.size]? = some (.cells (byteCells l).toArray 25 (0, 0)) := by
    rw [hW, Below.heap_alloc _ _ _ (by simp)]; exact heap_alloc_new w _
  have x2 : W.heap[w.heap.size + 1]? = some (.cells #[.pointer none, .slice none 0 0] 55 (0, 0)) := by
    rw [hW]; have := heap_alloc_new (w.alloc (.cells (byteCells l).toArray 25)) (.cells #[.pointer none, .slice none 0 0] 55); simpa using this
  have s0 : W.heap.size = w.heap.size + 2 := by rw [hW]; simp
  have i0 : Lib.IsBuilder 55 5 (w.heap.size + 1) (w.heap.size + 1) (byteCells (Sha.hex (l.take 0))) W :=
    .inl ⟨Nat.le_refl _, .slice none 0 0, x2, World.ownsRow_nil _ _ _ _, by simp [Value.ownBlock]⟩
  have HW := Lib.hid hW; clear hW
  have X1 := Lib.hid x1; clear x1 x2
  have hs32 : (byteCells l).toArray.size = 32 := by rw [List.size_toArray, byteCells_length, hl]
  have HS := Lib.hid hs32; clear hs32
  have HL := Lib.hid hl; clear hl
  go_enter Tryd.func15, Tryd.ntmps15
  go_wp2_with ((with_reducible show wpList _ _ _ (⟨some 8, _, _, _, _, _⟩ :: _) _ _); change wpList _ _ _ _ _ ((w.alloc (.cells (byteCells l).toArray 25)).alloc (.cells #[.pointer none, .slice none 0 0] 55)); rw [← HW.out]; refine wpList_load_row (o := ⟨some 8, _, _, _, _, _⟩) rfl _ _ rfl w.heap.size rfl _ (byteCells l).toArray _ _ X1.out Tryd.under_h25 rfl (by rw [HS.out]; exact Tryd.size_h25) ?_)
  go_loopw [9] (fun i wr => ∃ t : Nat, t ≤ 32 ∧ i = .int .i64 t ∧ Hid (Lib.IsBuilder 55 5 (w.heap.size + 1) (w.heap.size + 1) (byteCells (Sha.hex (l.take t))) wr) ∧ w.heap.size + 2 ≤ wr.heap.size ∧ Below w.heap.size w wr) (fun i _ => 32 - (intOf i).toNat)
  case atStart => exact ⟨0, by omega, rfl, Lib.hid i0, by omega, b0⟩
  case round =>
    clear i0 b0
    obtain ⟨t, ht, rfl, ib, sr, Br⟩ := hrel
    by_cases hlt : t < 32
    · obtain ⟨x, hx⟩ : ∃ x, l[t]? = some x := ⟨_, List.getElem?_eq_getElem (by rw [HL.out]; exact hlt)⟩
      have hxl := x.toNat_lt
      have hix := fun w => run_index_arr (P := Tryd.prog) w 25 5 32 .u8 (byteCells l).toArray (.int .u8 (x.toNat : Int)) t Tryd.under_h25 Tryd.under_e8 Tryd.size_e8 hlt (by simpa using byteCells_get hx)
      have hlen : (byteCells (Sha.hex (l.take t))).length = 2 * t := by rw [byteCells_length, Sha.hex_len, List.length_take, HL.out]; omega
      have HLEN := Lib.hid hlen; clear hlen
      have i2 : (0 : Int) ≤ (t : Int) := by omega
      have i3 : (t : Int) < 32 := by omega
      have HSN := Lib.hid (hex_snoc l t x hx); clear hx
      go_wp2_with fail
      refine (writeByte_any _ _ _ _ _ ib.out (by rw [HLEN.out]; omega) (by omega)).mono ?_
      rintro e w1 ⟨rfl, ib1, b1⟩
      rw [str_digit] at ib1
      have s1 := b1.size
      have IB1 := Lib.hid ib1; clear ib1 ib
      go_wp2_with fail
      refine (writeByte_any _ _ _ _ _ IB1.out (by rw [List.length_append, HLEN.out]; simp; omega) (by omega)).mono ?_
      rintro e w2 ⟨rfl, ib2, b2⟩
      rw [str_digit, HSN.out] at ib2
      have s2 := b2.size
      have B2 := Br.trans ((b1.mono (by omega)).trans (b2.mono (by omega)))
      have IB2 := Lib.hid ib2; clear ib2 IB1 b1 b2 hix
      go_wp2_with fail
      go_roundw
      case rel => exact ⟨t + 1, by omega, by go_num, IB2, by omega, B2⟩
      case measure => simp [intOf]; omega
    · obtain rfl : t = 32 := by omega
      have ib2 := ib.out
      rw [List.take_of_length_le (by rw [HL.out]; exact Nat.le_refl _)] at ib2
      have IB := Lib.hid ib2; clear ib2 ib
      go_wp2_with fail
      refine (Tryd.Builder_String_any _ _ _ _ IB.out (by omega)).mono ?_
      rintro e w3 ⟨rfl, b3⟩
      go_wp2_with fail
      go_ret
      exact ⟨rfl, Br.trans (b3.mono (by omega))⟩

end Go.Proofs.YtabkndpilnapfaaDoor
