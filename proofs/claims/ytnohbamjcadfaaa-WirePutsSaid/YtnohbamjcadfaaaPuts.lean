/- WirePuts: any fields are the document's bytes, and read again, whatever stands behind. The walk of the law. -/
import Derived.Test.YtnohbamjcadfaaaEq
import Derived.Test.YtnohbamjcadfaaaRefPut
namespace Go.Proofs.Ytnohbamjcadfaaa
open Go.RowKit

/-- The bytes of the first k fields. -/
def tot (F : List FieldV) (k : Nat) : List UInt8 := ((F.take k).map putV).flatten
/-- The bytes from the k-th field on. -/
def rest (F : List FieldV) (k : Nat) : List UInt8 := ((F.drop k).map putV).flatten

theorem tot_succ {F : List FieldV} {k : Nat} {f : FieldV} (h : F[k]? = some f) : tot F (k + 1) = tot F k ++ putV f := by
  obtain ⟨hlt, rfl⟩ := List.getElem?_eq_some_iff.1 h
  unfold tot
  rw [List.take_succ_eq_append_getElem hlt, List.map_append, List.flatten_append]
  congr 1
  exact List.append_nil _
theorem rest_cons {F : List FieldV} {k : Nat} {f : FieldV} (h : F[k]? = some f) : rest F k = putV f ++ rest F (k + 1) := by
  obtain ⟨hlt, rfl⟩ := List.getElem?_eq_some_iff.1 h
  unfold rest
  rw [List.drop_eq_getElem_cons hlt, List.map_cons, List.flatten_cons]
theorem rest_zero (F : List FieldV) (k : Nat) (h : F.length ≤ k) : tot F k = rest F 0 := by
  unfold tot rest
  rw [List.take_of_length_le h]; rfl
theorem rest_end (F : List FieldV) (k : Nat) (h : F.length ≤ k) : rest F k = [] := by
  unfold rest
  rw [List.drop_of_length_le h]; rfl

theorem rest_len (F : List FieldV) (j : Nat) : (rest F j).length ≤ (rest F 0).length := by
  induction j with
  | zero => exact Nat.le_refl _
  | succ j ih =>
    rcases Nat.lt_or_ge j F.length with h | h
    · rw [rest_cons (List.getElem?_eq_getElem h), List.length_append] at ih
      omega
    · rw [rest_end F (j + 1) (by omega)]; simp

theorem putV_len (f : FieldV) (hf : f.ok) (hs : f.s.size ≤ 300) : (putV f).length ≤ 310 := by
  unfold putV
  split
  · have := Wire.num_length f.n hf.n1; omega
  · split
    · have := Wire.num_length _ (Wire.zig_lt f.i hf.i0 hf.i1); omega
    · split
      · have := Wire.num_length f.s.size (by omega)
        rw [List.length_append, bytes_len]; omega
      · have := hf.h1; omega

theorem tot_len {F : List FieldV} (h : fewB F = true) (hok : ∀ f ∈ F, f.ok) : ∀ k, (tot F k).length ≤ 310 * k := by
  intro k
  induction k with
  | zero => simp [tot]
  | succ k ih =>
    rcases Nat.lt_or_ge k F.length with hk | hk
    · have hf := List.getElem?_eq_getElem hk
      rw [tot_succ hf, List.length_append]
      have := putV_len F[k] (hok _ (List.getElem_mem hk)) (few_one h hf).1
      omega
    · have : tot F (k + 1) = tot F k := by unfold tot; rw [List.take_of_length_le (by omega), List.take_of_length_le hk]
      rw [this]; omega

/-- A field as it is read again. -/
def canonV (f : FieldV) : FieldV :=
  if f.kind = 0 then { zeroField with n := f.n } else if f.kind = 1 then { zeroField with kind := 1, i := f.i } else if f.kind = 2 then { zeroField with kind := 2, s := f.s } else { zeroField with kind := 3, h := f.h }

theorem getV_put (f : FieldV) (hf : f.ok) (hs : f.s.size ≤ 300) (r : List UInt8) : getV { f with most := 300 } (putV f ++ r) 0 = (canonV f, r, 0) := by
  unfold getV canonV
  show (if f.kind = 0 then _ else if f.kind = 1 then _ else if f.kind = 2 then _ else _) = _
  split
  · rename_i k
    rw [putV_0 f k, Wire.rdNum_num f.n hf.n1 r]
  · split
    · rename_i k
      rw [putV_1 f k, Wire.rdNum_num _ (Wire.zig_lt f.i hf.i0 hf.i1) r, show Wire.unzig ((Wire.zig f.i, r, 0) : Nat × List UInt8 × Nat).1 = f.i from Wire.unzig_zig f.i]
    · split
      · rename_i k
        have hl := bytes_len f.s
        rw [putV_2 f k, ← hl, List.append_assoc, Wire.rdText_text 300 f.s.data.toList r (by omega) (by omega), show strOf ((f.s.data.toList, r, 0) : List UInt8 × List UInt8 × Nat).1 = f.s from strOf_data f.s]
      · rename_i k0 k1 k2
        have hp : putV f = f.h := by simp [putV, k0, k1, k2]
        have h1 : ¬ (f.h ++ r).length < 32 := by rw [List.length_append, hf.h1]; omega
        have hr : Wire.rdHash (f.h ++ r) 0 = (f.h, r, 0) := by
          unfold Wire.rdHash
          rw [if_neg (by simp), if_neg h1, ← hf.h1, List.take_left, List.drop_left]
        rw [hp, hr]

theorem canonV_ok (f : FieldV) (hf : f.ok) : (canonV f).ok := by
  have a0 : (-9223372036854775808 : Int) ≤ 0 := by decide
  have a1 : (0 : Int) ≤ 9223372036854775807 := by decide
  have a2 : (0 : Nat) < 18446744073709551616 := by decide
  have k1 : ∀ k : Int, 0 ≤ k → k ≤ 3 → -9223372036854775808 ≤ k ∧ k ≤ 9223372036854775807 := fun k _ _ => by omega
  have c1 := k1 1 (by omega) (by omega)
  have c2 := k1 2 (by omega) (by omega)
  have c3 := k1 3 (by omega) (by omega)
  unfold canonV
  split
  · exact ⟨a0, a1, a0, a1, hf.n1, a0, a1, Nat.zero_le _, rfl⟩
  · split
    · exact ⟨c1.1, c1.2, a0, a1, a2, hf.i0, hf.i1, Nat.zero_le _, rfl⟩
    · split
      · exact ⟨c2.1, c2.2, a0, a1, a2, a0, a1, hf.s1, rfl⟩
      · exact ⟨c3.1, c3.2, a0, a1, a2, a0, a1, Nat.zero_le _, hf.h1⟩

theorem set_most (f : FieldV) (m : Int) : f.cells.toArray.setIfInBounds 1 (.int .i64 m) = ({ f with most := m } : FieldV).cells.toArray := by
  simp [FieldV.cells]

theorem most_ok {f : FieldV} (hf : f.ok) (m : Int) (h0 : -9223372036854775808 ≤ m) (h1 : m ≤ 9223372036854775807) : ({ f with most := m } : FieldV).ok :=
  ⟨hf.kind0, hf.kind1, h0, h1, hf.n1, hf.i0, hf.i1, hf.s1, hf.h1⟩

theorem free_row {w : World} {b j : Nat} {cs : Array Value} {t : TypeId} (h : w.heap[b]? = some (.cells cs t (0, 0))) : w.frozen? ⟨b, j, none⟩ = false := by simp [World.frozen?, h]

/-- A composite of one part. -/
theorem wpList_build1 {P : Program} {ops : Array Oper} {rest : List Oper} {o : Oper} {a : Act} {w : World} {Q : Exit → Act → World → Prop} (hg : o.guard = none) (t : TypeId) (i : Nat) (x : Operand) (ho : o.op = .build t #[(i, x)])
    (u : Value) (hx : a.eval x = u) (cs : Array Value) (hb : P.built t [(i, u)] = some cs)
    (h : wpList P ops Q rest (a.put o.dst (.agg cs)) w) : wpList P ops Q (o :: rest) a w := by
  have e : ((#[(i, x)] : Array (Nat × Operand)).map fun (p : Nat × Operand) => (p.1, a.eval p.2)).toList = [(i, u)] := by
    simp [hx]
  refine wpList_build hg t #[(i, x)] ho ?_ ?_
  · show (P.built t ((#[(i, x)] : Array (Nat × Operand)).map fun (p : Nat × Operand) => (p.1, a.eval p.2)).toList).isSome = true
    rw [e, hb]; rfl
  · show wpList P ops Q rest (a.put o.dst (.agg ((P.built t ((#[(i, x)] : Array (Nat × Operand)).map fun (p : Nat × Operand) => (p.1, a.eval p.2)).toList).getD #[]))) w
    rw [e, hb]; exact h

set_option maxRecDepth 100000 in
set_option maxHeartbeats 2000000 in
theorem puts_walk (w : World) (o0 : Option Addr) (len cap : Nat) (F : List FieldV) (hF : RowsAt w o0 len cap 37 FieldV.cells F) (hok : ∀ f ∈ F, f.ok) (more : List UInt8) (hmore : more.length ≤ 140737488351232) :
    Calls Try.prog 9 #[.slice o0 len cap, .string (strOf more)] w fun e w' => e = .returned (.bool true) ∧ Below w.heap.size w w' := by
  have hs := strOf_size more
  have HF := Lib.hid hF
  obtain ⟨hlen, hcap, hm, _⟩ := hF
  unfold maxLen at hm
  have HLEN := Lib.hid hlen; clear hlen
  have HOK := Lib.hid hok; clear hok
  obtain ⟨fs, hfs⟩ := Try.under_field
  have HFS := Lib.hid hfs; clear hfs
  go_enter Try.func9, Try.ntmps9
  go_wp2_with fail
  refine (newOut_use _).mono ?_
  rintro e w1 ⟨rfl, n1, b1, s1⟩
  go_wp2_with fail
  refine (awake_any _).mono ?_
  rintro e w2 ⟨rfl, b2⟩
  replace n1 := n1.below b2
  have s2 := b2.size
  have B2 := b1.trans (b2.mono (by omega))
  clear b1 b2
  have hF2 : RowsAt w2 o0 len cap 37 FieldV.cells F := HF.out.below B2
  go_wp2_with fail
  refine (few_any w2 o0 len cap F hF2).mono ?_
  rintro e w' ⟨rfl, rfl⟩
  clear hF2
  by_cases hg : fewB F = true ∧ more.length ≤ 100
  · obtain ⟨hfew, hg⟩ := hg
    have HTL := Lib.hid (tot_len hfew HOK.out)
    have hl40 := few_len hfew
    rw [HLEN.out] at hl40
    have HFEW := Lib.hid hfew
    rw [hfew]
    clear hfew
    go_wp2_with fail
    have hnull : (⟨#[]⟩ : ByteArray) = strOf (tot F 0) := rfl
    go_loopw [6, 7] (fun s i wr => ∃ k : Nat, k ≤ len ∧ s = .string (strOf (tot F k)) ∧ i = .int .i64 k ∧ OutIs wr w2.heap.size w.heap.size (tot F k) ∧ w2.heap.size ≤ wr.heap.size ∧ Below w.heap.size w wr) (fun _ i _ => len - (intOf i).toNat)
    case atStart => exact ⟨0, by omega, congrArg _ hnull, rfl, n1.is _, Nat.le_refl _, B2⟩
    case round =>
      obtain ⟨k, hk, rfl, rfl, or, sr, Br⟩ := hrel
      clear n1 B2 hnull
      have hlr := or.lt
      by_cases hlt : k < len
      · obtain ⟨b, off, rfl, hb, hr⟩ := HF.out.2.2.2 (by omega)
        obtain ⟨f, hf⟩ : ∃ f, F[k]? = some f := ⟨_, List.getElem?_eq_getElem (by rw [HLEN.out]; exact hlt)⟩
        have hrk := range_below (hr k f hf) hb Br
        have hfok := HOK.out f (List.mem_of_getElem? hf)
        have hf1 := few_one HFEW.out hf
        have hts := tot_succ hf
        have hlf := FieldV.len hfok
        have hpl := putV_len f hfok hf1.1
        have htl := HTL.out k
        have HR := Lib.hid hr; clear hr
        have HRK := Lib.hid hrk; clear hrk
        have HLF := Lib.hid hlf; clear hlf
        have HTS := Lib.hid hts; clear hts
        have H1 := Lib.hid hf; clear hf
        have HF1 := Lib.hid hf1; clear hf1
        have HO := Lib.hid or; clear or
        have sB := Br.size
        go_wp2_with ((with_reducible show wpList _ _ _ (⟨some 41, _, _, _, _, _⟩ :: _) _ _); refine wpList_load_mid (op := ⟨some 41, _, _, _, _, _⟩) rfl _ _ rfl b (off + k * 37) rfl f.cells _ HRK.out HFS.out rfl (by rw [HLF.out]; exact Try.size_field) ?_)
        refine (put_any f hfok (by have := HF1.out.1; omega) w2.heap.size _ _ _ HO.out sr (by have := HF1.out.1; omega)).mono ?_
        rintro e w4 ⟨rfl, o4, b4⟩
        have s4 := b4.size
        have B4 := Below.more Br b4 (by omega) (by omega)
        have hrk4 := range_below (HR.out k f H1.out) hb B4
        have HRK4 := Lib.hid hrk4; clear hrk4
        rw [← HTS.out] at o4
        clear HO HRK b4
        go_wp2_with ((with_reducible show wpList _ _ _ (⟨some 47, _, _, _, _, _⟩ :: _) _ _); refine wpList_load_mid (op := ⟨some 47, _, _, _, _, _⟩) rfl _ _ rfl b (off + k * 37) rfl f.cells _ HRK4.out HFS.out rfl (by rw [HLF.out]; exact Try.size_field) ?_)
        refine (refPut_any f hfok (by have := HF1.out.1; omega) _).mono ?_
        rintro e w5 ⟨rfl, b5⟩
        have o5 := o4.below b5
        have s5 := b5.size
        have B5 := B4.trans (b5.mono (by omega))
        clear o4 b5 B4 HRK4
        have ha1 := strOf_size (tot F k)
        have ha2 := strOf_size (putV f)
        have hadd := add_str (tot F k) (putV f)
        rw [← HTS.out] at hadd
        go_wp2_with fail
        refine (outDone_str _ _ _ _ o5).mono ?_
        rintro e w' ⟨rfl, rfl⟩
        have hst := strOf_toList (tot F (k + 1))
        go_wp2_with fail
        go_roundw
        case rel => exact ⟨k + 1, by omega, rfl, by go_num, o5, by omega, B5⟩
        case measure => simp [intOf]; omega
      · have hkl : k = len := by omega
        have htot := rest_zero F k (by rw [HLEN.out]; omega)
        have htl := HTL.out k
        have ha1 := strOf_size (tot F k)
        have hadd := add_str (tot F k) more
        have HADD := Lib.hid hadd; clear hadd
        have HTOT := Lib.hid htot; clear htot
        have HKL := Lib.hid hkl; clear hkl
        have sB := Br.size
        clear or
        go_wp2_with fail
        rw [HADD.out, HTOT.out]
        refine (newIn_use _ _).mono ?_
        rintro e w3 ⟨rfl, i3, b3, s3⟩
        have B3 := Br.trans (b3.mono (by omega))
        have hrl : (rest F 0 ++ more).length ≤ maxLen := by rw [← HTOT.out, List.length_append]; unfold maxLen; have := HTL.out k; omega
        have HRL := Lib.hid hrl; clear hrl
        clear b3 ha1 htl
        go_wp2_with fail
        have hlen_rest : ∀ j, j ≤ len → (rest F j ++ more).length ≤ maxLen := fun j _ => Nat.le_trans (by rw [List.length_append, List.length_append]; have := rest_len F j; omega) HRL.out
        have HRL2 := Lib.hid hlen_rest; clear hlen_rest
        obtain ⟨wo, rfl⟩ : ∃ wo : World, wo = wr := ⟨_, rfl⟩
        have sBo := Br.size
        clear Br
        go_loopw [9] (fun i wq => ∃ j : Nat, j ≤ len ∧ i = .int .i64 j ∧ InIs wq wo.heap.size (rest F j ++ more) 0 ∧ Below w.heap.size w wq) (fun i _ => len - (intOf i).toNat)
        case atStart => exact ⟨0, by omega, rfl, i3, B3⟩
        case round =>
          obtain ⟨wq, rfl⟩ : ∃ wq : World, wq = wr := ⟨_, rfl⟩
          obtain ⟨j, hj, rfl, iq, Bq⟩ := hrel
          clear i3 B3 s3 hk hlt
          have hlq := iq.lt
          have sq := Bq.size
          by_cases hjt : j < len
          · obtain ⟨b, off, rfl, hb, hr⟩ := HF.out.2.2.2 (by omega)
            obtain ⟨f, hf⟩ : ∃ f, F[j]? = some f := ⟨_, List.getElem?_eq_getElem (by rw [HLEN.out]; exact hjt)⟩
            have hrk := range_below (hr j f hf) hb Bq
            have hfok := HOK.out f (List.mem_of_getElem? hf)
            have hf1 := few_one HFEW.out hf
            have HFF := Lib.hid (field_size hfok.h1)
            have HFA := Lib.hid (field_all f)
            have HLF := Lib.hid (FieldV.len hfok)
            have HRK := Lib.hid hrk; clear hrk hr
            -- the field's own block
            obtain ⟨W3, hW3⟩ : ∃ W3, W3 = (wq.alloc (.cells zeroField.cells.toArray 47)).setRow wq.heap.size f.cells.toArray := ⟨_, rfl⟩
            have r3 : W3.heap[wq.heap.size]? = some (.cells f.cells.toArray 47 (0, 0)) := by rw [hW3]; exact setRow_heap _ _ _ _ _ _ (heap_alloc_new wq _)
            have b3 : Below wq.heap.size wq W3 := by rw [hW3]; exact below_setRow ((Below.refl _ _).alloc (Nat.le_refl _) _) (Nat.le_refl _) _
            have s3 : W3.heap.size = wq.heap.size + 1 := by rw [hW3]; simp [World.setRow]
            have c1 : W3.cell? ⟨wq.heap.size, 1, none⟩ = some (.int .i64 f.most) := (field_cell r3).2.1
            have f1 : W3.frozen? ⟨wq.heap.size, 1, none⟩ = false := free_row r3
            have r4 : (W3.setCell ⟨wq.heap.size, 1, none⟩ (.int .i64 300)).heap[wq.heap.size]? = some (.cells ({ f with most := 300 } : FieldV).cells.toArray 47 (0, 0)) := by
              rw [heap_setCell_same W3 _ 1 _ _ _ r3, set_most]
            have b4 : Below wq.heap.size wq (W3.setCell ⟨wq.heap.size, 1, none⟩ (.int .i64 300)) := b3.setCell (p := ⟨wq.heap.size, 1, none⟩) (Nat.le_refl _) _
            have i4 := iq.below b4
            have B4 := Bq.trans (b4.mono (by omega))
            have hs34 : (W3.setCell ⟨wq.heap.size, 1, none⟩ (.int .i64 300)).heap.size = wq.heap.size + 1 := by rw [World.size_setCell, s3]
            have hok4 : ({ f with most := 300 } : FieldV).ok := most_ok hfok 300 (by decide) (by decide)
            have hg4 := getV_put f hfok hf1.1 (rest F (j + 1) ++ more)
            rw [← List.append_assoc, ← rest_cons hf] at hg4
            have HG4 := Lib.hid hg4; clear hg4
            have HFF4 := Lib.hid (field_size hok4.h1)
            have HW3 := Lib.hid hW3; clear hW3
            have R3 := Lib.hid r3; clear r3
            have R4 := Lib.hid r4; clear r4
            have H1 := Lib.hid hf; clear hf
            have HF1 := Lib.hid hf1; clear hf1
            clear b3 iq
            go_wp2_with (first | ((with_reducible show wpList _ _ _ (⟨some 69, _, _, _, _, _⟩ :: _) _ _); refine wpList_load_mid (op := ⟨some 69, _, _, _, _, _⟩) rfl _ _ rfl b (off + j * 37) rfl f.cells _ HRK.out HFS.out rfl (by rw [HLF.out]; exact Try.size_field) ?_) | ((with_reducible show wpList _ _ _ (⟨none, .store 47 (.tmp 10) (.tmp 69), _, _, _, _⟩ :: _) _ _); refine wpList_store_row (o := ⟨none, .store 47 _ _, _, _, _, _⟩) rfl _ _ _ rfl wq.heap.size f.cells.toArray rfl rfl _ zeroField.cells.toArray (heap_alloc_new wq (.cells zeroField.cells.toArray 47)) (by rw [HFF.out]; exact Try.size_field) (by rw [HFF.out]; rfl) HFA.out ?_; change wpList _ _ _ _ _ ((wq.alloc (.cells zeroField.cells.toArray 47)).setRow wq.heap.size f.cells.toArray); rw [← HW3.out]) | ((with_reducible show wpList _ _ _ (⟨some 72, _, _, _, _, _⟩ :: _) _ _); refine wpList_load_row (o := ⟨some 72, _, _, _, _, _⟩) rfl _ _ rfl wq.heap.size rfl _ ({ f with most := 300 } : FieldV).cells.toArray _ _ R4.out HFS.out rfl (by rw [HFF4.out]; exact Try.size_field) ?_))
            refine (get_any ({ f with most := 300 } : FieldV) hok4 _ _ 0 (HRL2.out j (by omega)) _ i4).mono ?_
            rintro e w4 ⟨rfl, i5, b5⟩
            rw [HG4.out] at i5 ⊢
            obtain ⟨G, hG⟩ : ∃ G : FieldV, G = canonV f := ⟨_, rfl⟩
            simp only [← hG] at i5 ⊢
            have hGok : G.ok := by rw [hG]; exact canonV_ok f hfok
            have HGS := Lib.hid (field_size hGok.h1)
            have HGA := Lib.hid (field_all G)
            have s5 := b5.size
            rw [hs34] at s5 b5
            have r4 := (b5.block wq.heap.size (by omega) (by omega)).trans R4.out
            have B5 := Below.more B4 b5 (by omega) (by omega)
            -- the block of what was read
            obtain ⟨W5, hW5⟩ : ∃ W5, W5 = (w4.alloc (.cells zeroField.cells.toArray 47)).setRow w4.heap.size G.cells.toArray := ⟨_, rfl⟩
            have r5 : W5.heap[w4.heap.size]? = some (.cells G.cells.toArray 47 (0, 0)) := by rw [hW5]; exact setRow_heap _ _ _ _ _ _ (heap_alloc_new w4 _)
            have b6 : Below w4.heap.size w4 W5 := by rw [hW5]; exact below_setRow ((Below.refl _ _).alloc (Nat.le_refl _) _) (Nat.le_refl _) _
            have s6 : W5.heap.size = w4.heap.size + 1 := by rw [hW5]; simp [World.setRow]
            have q5 := (b6.block wq.heap.size (by omega)).trans r4
            have i6 := i5.below b6
            have B6 := B5.trans (b6.mono (by omega))
            have c5 : W5.cell? ⟨wq.heap.size, 1, none⟩ = some (.int .i64 300) := (field_cell q5).2.1
            have f5 : W5.frozen? ⟨wq.heap.size, 1, none⟩ = false := free_row q5
            -- the most is taken back
            obtain ⟨W6, hW6⟩ : ∃ W6, W6 = W5.setCell ⟨wq.heap.size, 1, none⟩ (.int .i64 0) := ⟨_, rfl⟩
            have q6 : W6.heap[wq.heap.size]? = some (.cells ({ f with most := 0 } : FieldV).cells.toArray 47 (0, 0)) := by
              rw [hW6, heap_setCell_same W5 _ 1 _ _ _ q5, set_most]
            have b7 : Below wq.heap.size W5 W6 := by rw [hW6]; exact (Below.refl _ _).setCell (p := ⟨wq.heap.size, 1, none⟩) (Nat.le_refl _) _
            have r6 : W6.heap[w4.heap.size]? = some (.cells G.cells.toArray 47 (0, 0)) := by rw [hW6, heap_setCell_other _ _ _ _ (by simp only; omega)]; exact r5
            have s7 : W6.heap.size = w4.heap.size + 1 := by rw [hW6, World.size_setCell, s6]
            have i7 := i6.kept (b7.block _ hlq)
            have B7 := B6.trans (b7.mono (by omega))
            have d5 := (field_cell q6).2.2.2.2.2
            obtain ⟨d0, _, d2, d3, d4, _⟩ := field_cell q5
            simp only at d0 d2 d3 d4 d5
            -- and the field is rebuilt
            obtain ⟨W7, hW7⟩ : ∃ W7, W7 = W6.setRow wq.heap.size G.cells.toArray := ⟨_, rfl⟩
            have q7 : W7.heap[wq.heap.size]? = some (.cells G.cells.toArray 47 (0, 0)) := by rw [hW7]; exact setRow_heap _ _ _ _ _ _ q6
            have r7 : W7.heap[w4.heap.size]? = some (.cells G.cells.toArray 47 (0, 0)) := by rw [hW7, setRow_other _ _ _ _ (by omega)]; exact r6
            have b8 : Below wq.heap.size W6 W7 := by rw [hW7]; exact below_setRow (Below.refl _ _) (Nat.le_refl _) _
            have i8 := i7.kept (b8.block _ hlq)
            have B8 := B7.trans (b8.mono (by omega))
            rw [hW6] at d5 q6 hW7
            clear hW6
            have D5 := Lib.hid d5; clear d5
            have HW5 := Lib.hid hW5; clear hW5
            have HW7 := Lib.hid hW7; clear hW7
            have Q6 := Lib.hid q6; clear q6
            have Q7 := Lib.hid q7; clear q7
            have R7 := Lib.hid r7; clear r7
            have HFM := Lib.hid (field_size (f := { f with most := 0 }) hfok.h1)
            have HSELF := Lib.hid (fieldEq_self G)
            have hlh : (byteCells f.h).length = 32 := by rw [byteCells_length, hfok.h1]
            have HLH := Lib.hid hlh; clear hlh
            have HB3 := Lib.hid (FieldV.built3 f.h hfok.h1)
            clear i4 i5 i6 i7 r4 r5 r6 q5 b4 b5 b6 b7 b8 B4 B5 B6 B7 HRK HFF HFA HLF R3 R4 HW3 HFF4 hok4
            by_cases k0 : f.kind = 0
            · have e0 : (f.kind == 0) = true := by simpa using k0
              have HG := Lib.hid (show G = { zeroField with n := f.n } by rw [hG]; simp [canonV, k0])
              have HBT : Hid (Try.prog.built 47 [(2, .int .u64 f.n)] = some G.cells.toArray) := Lib.hid (by rw [HG.out]; exact FieldV.built0 f.n)
              clear hG k0
              go_wp2_with (first | ((with_reducible show wpList _ _ _ (⟨none, .store 47 (.tmp 11) (.tmp 73), _, _, _, _⟩ :: _) _ _); refine wpList_store_row (o := ⟨none, .store 47 _ _, _, _, _, _⟩) rfl _ _ _ rfl w4.heap.size G.cells.toArray rfl rfl _ zeroField.cells.toArray (heap_alloc_new w4 (.cells zeroField.cells.toArray 47)) (by rw [HGS.out]; exact Try.size_field) (by rw [HGS.out]; rfl) HGA.out ?_; change wpList _ _ _ _ _ ((w4.alloc (.cells zeroField.cells.toArray 47)).setRow w4.heap.size G.cells.toArray); rw [← HW5.out]) | ((with_reducible show wpList _ _ _ (⟨some 84, _, _, _, _, _⟩ :: _) _ _); refine wpList_build1 (o := ⟨some 84, _, _, _, _, _⟩) rfl _ _ _ rfl _ rfl G.cells.toArray HBT.out ?_) | ((with_reducible show wpList _ _ _ (⟨some 95, _, _, _, _, _⟩ :: _) _ _); refine wpList_load_row (o := ⟨some 95, _, _, _, _, _⟩) rfl _ _ rfl w4.heap.size rfl _ G.cells.toArray _ _ R7.out HFS.out rfl (by rw [HGS.out]; exact Try.size_field) ?_) | ((with_reducible show wpList _ _ _ (⟨some 96, _, _, _, _, _⟩ :: _) _ _); refine wpList_load_row (o := ⟨some 96, _, _, _, _, _⟩) rfl _ _ rfl wq.heap.size rfl _ G.cells.toArray _ _ Q7.out HFS.out rfl (by rw [HGS.out]; exact Try.size_field) ?_) | ((with_reducible show wpList _ _ _ (⟨some 97, _, _, _, _, _⟩ :: _) _ _); refine wpList_neq_field (op := ⟨some 97, _, _, _, _, _⟩) rfl _ _ rfl G G hGok hGok rfl rfl ?_; rw [HSELF.out]) | ((with_reducible show wpList _ _ _ (⟨none, .store 47 (.tmp 10) (.tmp 84), _, _, _, _⟩ :: _) _ _); refine wpList_store_row (o := ⟨none, .store 47 _ _, _, _, _, _⟩) rfl _ _ _ rfl wq.heap.size G.cells.toArray rfl rfl _ ({ f with most := 0 } : FieldV).cells.toArray Q6.out (by rw [HGS.out]; exact Try.size_field) (by rw [HGS.out, HFM.out]) HGA.out ?_; change wpList _ _ _ _ _ ((W5.setCell ⟨wq.heap.size, 1, none⟩ (.int .i64 0)).setRow wq.heap.size G.cells.toArray); rw [← HW7.out]))
              go_roundw
              case rel => exact ⟨j + 1, by omega, by go_num, i8, B8⟩
              case measure => simp [intOf]; omega
            · have e0 : (f.kind == 0) = false := by simpa using k0
              by_cases k1 : f.kind = 1
              · have e1 : (f.kind == 1) = true := by simpa using k1
                have HG := Lib.hid (show G = { zeroField with kind := 1, i := f.i } by rw [hG]; simp [canonV, k1])
                have HBT : Hid (Try.prog.built 47 [(0, .int .i64 1), (3, .int .i64 f.i)] = some G.cells.toArray) := Lib.hid (by rw [HG.out]; exact FieldV.built1 f.i)
                clear hG k0 k1
                go_wp2_with (first | ((with_reducible show wpList _ _ _ (⟨none, .store 47 (.tmp 11) (.tmp 73), _, _, _, _⟩ :: _) _ _); refine wpList_store_row (o := ⟨none, .store 47 _ _, _, _, _, _⟩) rfl _ _ _ rfl w4.heap.size G.cells.toArray rfl rfl _ zeroField.cells.toArray (heap_alloc_new w4 (.cells zeroField.cells.toArray 47)) (by rw [HGS.out]; exact Try.size_field) (by rw [HGS.out]; rfl) HGA.out ?_; change wpList _ _ _ _ _ ((w4.alloc (.cells zeroField.cells.toArray 47)).setRow w4.heap.size G.cells.toArray); rw [← HW5.out]) | ((with_reducible show wpList _ _ _ (⟨some 89, _, _, _, _, _⟩ :: _) _ _); refine wpList_build2 (o := ⟨some 89, _, _, _, _, _⟩) rfl _ _ _ _ _ rfl _ _ rfl rfl G.cells.toArray HBT.out ?_) | ((with_reducible show wpList _ _ _ (⟨some 95, _, _, _, _, _⟩ :: _) _ _); refine wpList_load_row (o := ⟨some 95, _, _, _, _, _⟩) rfl _ _ rfl w4.heap.size rfl _ G.cells.toArray _ _ R7.out HFS.out rfl (by rw [HGS.out]; exact Try.size_field) ?_) | ((with_reducible show wpList _ _ _ (⟨some 96, _, _, _, _, _⟩ :: _) _ _); refine wpList_load_row (o := ⟨some 96, _, _, _, _, _⟩) rfl _ _ rfl wq.heap.size rfl _ G.cells.toArray _ _ Q7.out HFS.out rfl (by rw [HGS.out]; exact Try.size_field) ?_) | ((with_reducible show wpList _ _ _ (⟨some 97, _, _, _, _, _⟩ :: _) _ _); refine wpList_neq_field (op := ⟨some 97, _, _, _, _, _⟩) rfl _ _ rfl G G hGok hGok rfl rfl ?_; rw [HSELF.out]) | ((with_reducible show wpList _ _ _ (⟨none, .store 47 (.tmp 10) (.tmp 89), _, _, _, _⟩ :: _) _ _); refine wpList_store_row (o := ⟨none, .store 47 _ _, _, _, _, _⟩) rfl _ _ _ rfl wq.heap.size G.cells.toArray rfl rfl _ ({ f with most := 0 } : FieldV).cells.toArray Q6.out (by rw [HGS.out]; exact Try.size_field) (by rw [HGS.out, HFM.out]) HGA.out ?_; change wpList _ _ _ _ _ ((W5.setCell ⟨wq.heap.size, 1, none⟩ (.int .i64 0)).setRow wq.heap.size G.cells.toArray); rw [← HW7.out]))
                go_roundw
                case rel => exact ⟨j + 1, by omega, by go_num, i8, B8⟩
                case measure => simp [intOf]; omega
              · have e1 : (f.kind == 1) = false := by simpa using k1
                by_cases k2 : f.kind = 2
                · have e2 : (f.kind == 2) = true := by simpa using k2
                  have HG := Lib.hid (show G = { zeroField with kind := 2, s := f.s } by rw [hG]; simp [canonV, k2])
                  have HBT : Hid (Try.prog.built 47 [(0, .int .i64 2), (4, .string f.s)] = some G.cells.toArray) := Lib.hid (by rw [HG.out]; exact FieldV.built2 f.s)
                  clear hG k0 k1 k2
                  go_wp2_with (first | ((with_reducible show wpList _ _ _ (⟨none, .store 47 (.tmp 11) (.tmp 73), _, _, _, _⟩ :: _) _ _); refine wpList_store_row (o := ⟨none, .store 47 _ _, _, _, _, _⟩) rfl _ _ _ rfl w4.heap.size G.cells.toArray rfl rfl _ zeroField.cells.toArray (heap_alloc_new w4 (.cells zeroField.cells.toArray 47)) (by rw [HGS.out]; exact Try.size_field) (by rw [HGS.out]; rfl) HGA.out ?_; change wpList _ _ _ _ _ ((w4.alloc (.cells zeroField.cells.toArray 47)).setRow w4.heap.size G.cells.toArray); rw [← HW5.out]) | ((with_reducible show wpList _ _ _ (⟨some 94, _, _, _, _, _⟩ :: _) _ _); refine wpList_build2 (o := ⟨some 94, _, _, _, _, _⟩) rfl _ _ _ _ _ rfl _ _ rfl rfl G.cells.toArray HBT.out ?_) | ((with_reducible show wpList _ _ _ (⟨some 95, _, _, _, _, _⟩ :: _) _ _); refine wpList_load_row (o := ⟨some 95, _, _, _, _, _⟩) rfl _ _ rfl w4.heap.size rfl _ G.cells.toArray _ _ R7.out HFS.out rfl (by rw [HGS.out]; exact Try.size_field) ?_) | ((with_reducible show wpList _ _ _ (⟨some 96, _, _, _, _, _⟩ :: _) _ _); refine wpList_load_row (o := ⟨some 96, _, _, _, _, _⟩) rfl _ _ rfl wq.heap.size rfl _ G.cells.toArray _ _ Q7.out HFS.out rfl (by rw [HGS.out]; exact Try.size_field) ?_) | ((with_reducible show wpList _ _ _ (⟨some 97, _, _, _, _, _⟩ :: _) _ _); refine wpList_neq_field (op := ⟨some 97, _, _, _, _, _⟩) rfl _ _ rfl G G hGok hGok rfl rfl ?_; rw [HSELF.out]) | ((with_reducible show wpList _ _ _ (⟨none, .store 47 (.tmp 10) (.tmp 94), _, _, _, _⟩ :: _) _ _); refine wpList_store_row (o := ⟨none, .store 47 _ _, _, _, _, _⟩) rfl _ _ _ rfl wq.heap.size G.cells.toArray rfl rfl _ ({ f with most := 0 } : FieldV).cells.toArray Q6.out (by rw [HGS.out]; exact Try.size_field) (by rw [HGS.out, HFM.out]) HGA.out ?_; change wpList _ _ _ _ _ ((W5.setCell ⟨wq.heap.size, 1, none⟩ (.int .i64 0)).setRow wq.heap.size G.cells.toArray); rw [← HW7.out]))
                  go_roundw
                  case rel => exact ⟨j + 1, by omega, by go_num, i8, B8⟩
                  case measure => simp [intOf]; omega
                · have e2 : (f.kind == 2) = false := by simpa using k2
                  have HG := Lib.hid (show G = { zeroField with kind := 3, h := f.h } by rw [hG]; simp [canonV, k0, k1, k2])
                  have HBT : Hid (Try.prog.built 47 [(0, .int .i64 3), (5, .agg (byteCells f.h).toArray)] = some G.cells.toArray) := Lib.hid (by rw [HG.out]; exact HB3.out)
                  clear hG k0 k1 k2
                  go_wp2_with (first | ((with_reducible show wpList _ _ _ (⟨none, .store 47 (.tmp 11) (.tmp 73), _, _, _, _⟩ :: _) _ _); refine wpList_store_row (o := ⟨none, .store 47 _ _, _, _, _, _⟩) rfl _ _ _ rfl w4.heap.size G.cells.toArray rfl rfl _ zeroField.cells.toArray (heap_alloc_new w4 (.cells zeroField.cells.toArray 47)) (by rw [HGS.out]; exact Try.size_field) (by rw [HGS.out]; rfl) HGA.out ?_; change wpList _ _ _ _ _ ((w4.alloc (.cells zeroField.cells.toArray 47)).setRow w4.heap.size G.cells.toArray); rw [← HW5.out]) | ((with_reducible show wpList _ _ _ (⟨some 78, _, _, _, _, _⟩ :: _) _ _); refine wpList_load_mid (op := ⟨some 78, _, _, _, _, _⟩) rfl _ _ rfl wq.heap.size 5 rfl (byteCells f.h) _ D5.out Try.under_hash rfl (by rw [HLH.out]; exact Try.size_hash) ?_) | ((with_reducible show wpList _ _ _ (⟨some 79, _, _, _, _, _⟩ :: _) _ _); refine wpList_build2 (o := ⟨some 79, _, _, _, _, _⟩) rfl _ _ _ _ _ rfl _ _ rfl rfl G.cells.toArray HBT.out ?_) | ((with_reducible show wpList _ _ _ (⟨some 95, _, _, _, _, _⟩ :: _) _ _); refine wpList_load_row (o := ⟨some 95, _, _, _, _, _⟩) rfl _ _ rfl w4.heap.size rfl _ G.cells.toArray _ _ R7.out HFS.out rfl (by rw [HGS.out]; exact Try.size_field) ?_) | ((with_reducible show wpList _ _ _ (⟨some 96, _, _, _, _, _⟩ :: _) _ _); refine wpList_load_row (o := ⟨some 96, _, _, _, _, _⟩) rfl _ _ rfl wq.heap.size rfl _ G.cells.toArray _ _ Q7.out HFS.out rfl (by rw [HGS.out]; exact Try.size_field) ?_) | ((with_reducible show wpList _ _ _ (⟨some 97, _, _, _, _, _⟩ :: _) _ _); refine wpList_neq_field (op := ⟨some 97, _, _, _, _, _⟩) rfl _ _ rfl G G hGok hGok rfl rfl ?_; rw [HSELF.out]) | ((with_reducible show wpList _ _ _ (⟨none, .store 47 (.tmp 10) (.tmp 79), _, _, _, _⟩ :: _) _ _); refine wpList_store_row (o := ⟨none, .store 47 _ _, _, _, _, _⟩) rfl _ _ _ rfl wq.heap.size G.cells.toArray rfl rfl _ ({ f with most := 0 } : FieldV).cells.toArray Q6.out (by rw [HGS.out]; exact Try.size_field) (by rw [HGS.out, HFM.out]) HGA.out ?_; change wpList _ _ _ _ _ ((W5.setCell ⟨wq.heap.size, 1, none⟩ (.int .i64 0)).setRow wq.heap.size G.cells.toArray); rw [← HW7.out]))
                  go_roundw
                  case rel => exact ⟨j + 1, by omega, by go_num, i8, B8⟩
                  case measure => simp [intOf]; omega
          · have hjl : j = len := by omega
            have hrest := rest_end F j (by rw [HLEN.out]; omega)
            rw [hrest, List.nil_append] at iq
            have HE : Hid (endErr more 0 = if more = [] then 0 else 22) := Lib.hid (by unfold endErr; by_cases h : more = [] <;> simp [h])
            have hst := strOf_toList more
            clear HFS HFEW HTL HADD HTOT HKL HRL HRL2 HF HOK hrest
            by_cases hm0 : more = []
            · have hme : (!(strOf more).toList.isEmpty) = false := by rw [hst, hm0]; rfl
              rw [if_pos hm0] at HE
              clear hst hm0
              go_wp2_with fail
              refine (inErr_any _ _ _ _ iq).mono ?_
              rintro e w' ⟨rfl, rfl⟩
              go_wp2_with fail
              refine (inLeft_any _ _ _ _ iq).mono ?_
              rintro e w' ⟨rfl, rfl⟩
              go_wp2_with fail
              refine (inEnd_any _ _ _ _ iq).mono ?_
              rintro e w' ⟨rfl, rfl⟩
              rw [HE.out]
              go_wp2_with fail
              go_ret
              exact ⟨rfl, Bq⟩
            · have hme : (!(strOf more).toList.isEmpty) = true := by rw [hst]; cases more with
                | nil => exact absurd rfl hm0
                | cons c r => rfl
              rw [if_neg hm0] at HE
              clear hst hm0
              go_wp2_with fail
              refine (inErr_any _ _ _ _ iq).mono ?_
              rintro e w' ⟨rfl, rfl⟩
              go_wp2_with fail
              refine (inLeft_any _ _ _ _ iq).mono ?_
              rintro e w' ⟨rfl, rfl⟩
              go_wp2_with fail
              refine (inEnd_any _ _ _ _ iq).mono ?_
              rintro e w' ⟨rfl, rfl⟩
              rw [HE.out]
              go_wp2_with fail
              go_ret
              exact ⟨rfl, Bq⟩
  · have B3 := B2
    cases hfew : fewB F with
    | false =>
      go_wp2_with fail
      refine (awake_any _).mono ?_
      rintro e w3 ⟨rfl, b3⟩
      go_wp2_with fail
      go_ret
      exact ⟨rfl, B2.trans (b3.mono (by omega))⟩
    | true =>
      have hg2 : ¬ more.length ≤ 100 := fun h => hg ⟨hfew, h⟩
      clear hg
      go_wp2_with fail
      refine (awake_any _).mono ?_
      rintro e w3 ⟨rfl, b3⟩
      go_wp2_with fail
      go_ret
      exact ⟨rfl, B2.trans (b3.mono (by omega))⟩

theorem puts_law (w : World) (o0 : Option Addr) (len cap : Nat) (F : List FieldV) (hF : RowsAt w o0 len cap 37 FieldV.cells F) (hok : ∀ f ∈ F, f.ok) (a0 : ByteArray) (w0 : a0.size ≤ 140737488351232) :
    Calls Try.prog 9 #[.slice o0 len cap, .string a0] w fun e w' => e = .returned (.bool true) ∧ Below w.heap.size w w' := by
  obtain ⟨l, rfl⟩ := str_eta a0
  rw [strOf_size] at w0
  exact puts_walk w o0 len cap F hF hok l w0
end Go.Proofs.Ytnohbamjcadfaaa
