/- WireCuts: numbers cut off anywhere are read as far as they go, and then the error of too few bytes. The walk of the law. -/
import Derived.Test.YtnohbamjcadfaaaOutAt
import Derived.Test.YtnohbamjcadfaaaKeeps
namespace Go.Proofs.Ytnohbamjcadfaaa
open Go.RowKit
set_option linter.unusedSimpArgs false
set_option linter.unusedVariables false

/-- The bytes of the first k numbers. -/
def numsB (N : List Nat) (k : Nat) : List UInt8 := ((N.take k).map Wire.num).flatten
def szAt (N : List Nat) (k : Nat) : Nat := (numsB N k).length
/-- The sizes behind 0, 1, .. k numbers. -/
def szCells (N : List Nat) (k : Nat) : List Value := (List.range (k + 1)).map fun j => .int .i64 (szAt N j)
def natCell (n : Nat) : List Value := [.int .u64 n]

theorem numsB_succ {N : List Nat} {k n : Nat} (h : N[k]? = some n) : numsB N (k + 1) = numsB N k ++ Wire.num n := by
  obtain ⟨hlt, rfl⟩ := List.getElem?_eq_some_iff.1 h
  unfold numsB
  rw [List.take_succ_eq_append_getElem hlt, List.map_append, List.flatten_append]
  congr 1
  exact List.append_nil _

theorem numsB_split {N : List Nat} {k : Nat} (j : Nat) (h : j ≤ k) : ∃ R, numsB N k = numsB N j ++ R := by
  induction k with
  | zero => obtain rfl : j = 0 := by omega
            exact ⟨[], by simp⟩
  | succ k ih =>
    rcases Nat.lt_or_ge k j with h1 | h1
    · obtain rfl : j = k + 1 := by omega
      exact ⟨[], by simp⟩
    · obtain ⟨R, hR⟩ := ih h1
      rcases Nat.lt_or_ge k N.length with h2 | h2
      · rw [numsB_succ (List.getElem?_eq_getElem h2), hR]
        exact ⟨R ++ Wire.num N[k], by rw [List.append_assoc]⟩
      · refine ⟨R, ?_⟩
        rw [← hR]
        unfold numsB
        rw [List.take_of_length_le (by omega), List.take_of_length_le h2]

theorem szCells_succ (N : List Nat) (k : Nat) : szCells N (k + 1) = szCells N k ++ [.int .i64 (szAt N (k + 1))] := by
  unfold szCells
  rw [List.range_succ (n := k + 1), List.map_append]; rfl

theorem szCells_get (N : List Nat) (k j : Nat) (h : j ≤ k) : (szCells N k)[j]? = some (.int .i64 (szAt N j)) := by
  unfold szCells
  rw [List.getElem?_map, List.getElem?_range (by omega)]; rfl

theorem szCells_len (N : List Nat) (k : Nat) : (szCells N k).length = k + 1 := by simp [szCells]

theorem sz_succ {N : List Nat} {k n : Nat} (h : N[k]? = some n) : szAt N (k + 1) = szAt N k + (Wire.num n).length := by
  unfold szAt; rw [numsB_succ h, List.length_append]

theorem sz_bound {N : List Nat} (hN : ∀ n ∈ N, n < 18446744073709551616) : ∀ k, szAt N k ≤ 10 * k := by
  intro k
  induction k with
  | zero => simp [szAt, numsB]
  | succ k ih =>
    rcases Nat.lt_or_ge k N.length with h | h
    · rw [sz_succ (List.getElem?_eq_getElem h)]
      have := Wire.num_length N[k] (hN _ (List.getElem_mem h))
      omega
    · have : szAt N (k + 1) = szAt N k := by unfold szAt numsB; rw [List.take_of_length_le (by omega), List.take_of_length_le h]
      omega

/-- What is left of the first c bytes behind j numbers. -/
theorem cut_drop {N : List Nat} {k j n c : Nat} (h : N[j]? = some n) (hj : j + 1 ≤ k) (hc : szAt N j ≤ c) :
    ((numsB N k).take c).drop (szAt N j) = if szAt N (j + 1) ≤ c then Wire.num n ++ ((numsB N k).take c).drop (szAt N (j + 1)) else (Wire.num n).take (c - szAt N j) := by
  obtain ⟨R, hR⟩ := numsB_split (N := N) (k := k) (j + 1) hj
  have hs := sz_succ h
  have e1 : numsB N k = numsB N j ++ (Wire.num n ++ R) := by rw [hR, numsB_succ h, List.append_assoc]
  have d1 : ((numsB N k).take c).drop (szAt N j) = (Wire.num n ++ R).take (c - szAt N j) := by
    rw [List.drop_take, e1]
    unfold szAt
    rw [List.drop_left]
  rw [d1]
  split
  · rename_i hle
    have d2 : ((numsB N k).take c).drop (szAt N (j + 1)) = R.take (c - szAt N (j + 1)) := by
      rw [List.drop_take, hR]
      unfold szAt
      rw [List.drop_left]
    rw [d2, List.take_append, List.take_of_length_le (by omega)]
    congr 2
    omega
  · rename_i hgt
    rw [List.take_append_of_le_length (by omega)]

/-- Where the reading stands behind j numbers of the first c bytes. -/
def Cut (N : List Nat) (k c j : Nat) (l : List UInt8) (e : Nat) : Prop :=
  (szAt N j ≤ c ∧ e = 0 ∧ l = ((numsB N k).take c).drop (szAt N j)) ∨ (c < szAt N j ∧ e = 20 ∧ l.length ≤ c)

theorem cut_step {N : List Nat} (hN : ∀ n ∈ N, n < 18446744073709551616) {k j n c e : Nat} {l : List UInt8} (h : N[j]? = some n) (hj : j + 1 ≤ k) (hc : c ≤ szAt N k) (hl : Cut N k c j l e) :
    Cut N k c (j + 1) (Wire.rdNum l e).2.1 (Wire.rdNum l e).2.2 ∧
    ((szAt N (j + 1) ≤ c ∧ (Wire.rdNum l e).1 = n ∧ (Wire.rdNum l e).2.2 = 0 ∧ ((Wire.rdNum l e).2.1.length : Int) = c - szAt N (j + 1)) ∨ (c < szAt N (j + 1) ∧ (Wire.rdNum l e).1 = 0 ∧ (Wire.rdNum l e).2.2 = 20)) := by
  have hs := sz_succ h
  have hn := hN n (List.mem_of_getElem? h)
  rcases hl with ⟨h1, rfl, rfl⟩ | ⟨h1, rfl, h2⟩
  · have hd := cut_drop h hj h1
    by_cases hle : szAt N (j + 1) ≤ c
    · rw [if_pos hle] at hd
      rw [hd, Wire.rdNum_num n hn]
      refine ⟨.inl ⟨hle, rfl, rfl⟩, .inl ⟨hle, rfl, rfl, ?_⟩⟩
      have : (numsB N k).length = szAt N k := rfl
      show ((((numsB N k).take c).drop (szAt N (j + 1))).length : Int) = _
      rw [List.length_drop, List.length_take]; omega
    · rw [if_neg hle] at hd
      have hlen : (((numsB N k).take c).drop (szAt N j)).length ≤ c := by rw [List.length_drop, List.length_take]; omega
      have hdec := Wire.dec_cut n hn (c - szAt N j) (by omega)
      rw [← hd] at hdec
      have hr : Wire.rdNum (((numsB N k).take c).drop (szAt N j)) 0 = (0, ((numsB N k).take c).drop (szAt N j), 20) := by
        unfold Wire.rdNum; rw [hdec]; rfl
      rw [hr]
      exact ⟨.inr ⟨by omega, rfl, hlen⟩, .inr ⟨by omega, rfl, rfl⟩⟩
  · have hr : Wire.rdNum l 20 = (0, l, 20) := by simp [Wire.rdNum]
    rw [hr]
    exact ⟨.inr ⟨by omega, rfl, h2⟩, .inr ⟨by omega, rfl, rfl⟩⟩

theorem Try.under_ints : Try.prog.underlying 27 = some (.slice 3) := by kernel_rfl
theorem Try.info_int : (Try.prog.info? 3).map (fun i => (i.zero, i.size, i.bytes)) = some (some (.int .i64 0), 1, 8) := by kernel_rfl

/-- The sizes' row and the Out's row are of two types. -/
theorem rows_apart {w : World} {base base' n m : Nat} {v u : Value} {xs ys : List Value} (h1 : w.ownsRow base 3 1 v (n + 1) xs) (h2 : w.ownsRow base' 5 1 u m ys) {g : Nat} (hg : v.ownBlock = some g) : u.ownBlock ≠ some g := by
  intro hu
  rcases h1.2 with ⟨_, h⟩ | ⟨a, c, cur, rfl, _, ha, _⟩
  · omega
  · rcases h2.2 with ⟨rfl, _⟩ | ⟨a', c', cur', rfl, _, ha', _⟩
    · simp [Value.ownBlock] at hu
    · simp [Value.ownBlock] at hu hg
      subst hu
      subst hg
      rw [ha] at ha'
      simp at ha'

theorem row_not_out {w : World} {base n b : Nat} {v u : Value} {xs : List Value} (h1 : w.ownsRow base 3 1 v (n + 1) xs) (h2 : w.heap[b]? = some (.cells #[u] 61 (0, 0))) : v.ownBlock ≠ some b := by
  intro hv
  rcases h1.2 with ⟨_, h⟩ | ⟨a, c, cur, rfl, _, ha, _⟩
  · omega
  · simp [Value.ownBlock] at hv
    subst hv
    rw [h2] at ha
    simp at ha

theorem row_not_in {w : World} {base n b : Nat} {v : Value} {l : List UInt8} {e : Int} {xs : List Value} (h1 : w.ownsRow base 3 1 v (n + 1) xs) (h2 : InIs w b l e) : v.ownBlock ≠ some b := by
  intro hv
  rcases h1.2 with ⟨_, h⟩ | ⟨a, c, cur, rfl, _, ha, _⟩
  · omega
  · simp [Value.ownBlock] at hv
    subst hv
    unfold InIs at h2
    rw [h2] at ha
    simp at ha

theorem grown_below {w w' : World} {row : Option Nat} {B : Nat} (h : w.grownBy w' row) (hr : ∀ g, row = some g → B ≤ g) (hB : B ≤ w.heap.size) : Below B w w' :=
  ⟨h.os, h.tape, h.output, h.size, fun k hk => h.block k (by omega) (fun e => by have := hr k e.symm; omega)⟩

theorem slice_cell {w : World} {base n g cap : Nat} {e : TypeId} {xs : List Value} {u : Value} {j : Nat} (h : w.ownsRow base e 1 (.slice (some ⟨g, 0, none⟩) n cap) n xs) (hj : xs[j]? = some u) : w.cell? ⟨g, j, none⟩ = some u := by
  have := h.cells (g := g) rfl j u hj
  rw [Addr.add_mid, Nat.zero_add] at this
  exact this

set_option maxRecDepth 100000 in
set_option maxHeartbeats 2000000 in
theorem cuts_walk (w : World) (o0 : Option Addr) (len cap : Nat) (N : List Nat) (hF : RowsAt w o0 len cap 1 natCell N) (hN : ∀ n ∈ N, n < 18446744073709551616) (a : Nat) (ha : a < 65536) :
    Calls Try.prog 3 #[.slice o0 len cap, .int .u16 a] w fun e w' => e = .returned (.bool true) ∧ Below w.heap.size w w' := by
  have HF := Lib.hid hF
  obtain ⟨hlen, hcap, hm, _⟩ := hF
  unfold maxLen at hm
  have HLEN := Lib.hid hlen; clear hlen
  have HNN := Lib.hid hN; clear hN
  obtain ⟨i0, hi, hz0, hz1, hz2⟩ := info_parts Try.info_int
  have HI0 := Lib.hid hi; clear hi
  have HZ0 := Lib.hid hz0; clear hz0
  have HZ1 := Lib.hid hz1; clear hz1
  have HZ2 := Lib.hid hz2; clear hz2
  go_enter Try.func3, Try.ntmps3
  go_wp2_with fail
  refine (newOut_use _).mono ?_
  rintro e w1 ⟨rfl, n1, b1, s1⟩
  go_wp2_with fail
  refine (awake_any _).mono ?_
  rintro e w2 ⟨rfl, b2⟩
  replace n1 := n1.below b2
  have s2 := b2.size
  have B2 := b1.trans (b2.mono (by omega))
  clear b1 b2
  by_cases hg : len ≤ 20
  · go_wp2_with fail
    have hz : szAt N 0 = 0 := by simp [szAt, numsB]
    obtain ⟨W, hW⟩ : ∃ W, W = w2.alloc (.cells #[.int .i64 0] 3) := ⟨_, rfl⟩
    have x1 : W.ownsRow w.heap.size 3 1 (.slice (some ⟨w2.heap.size, 0, none⟩) 1 1) (0 + 1) (szCells N 0) := by
      rw [hW]
      refine ⟨by rw [szCells_len], .inr ⟨w2.heap.size, 1, #[.int .i64 0], rfl, by omega, heap_alloc_new w2 _, by omega, by decide, rfl, ?_⟩⟩
      simp [szCells, hz, List.range_succ]
    have bW : Below w.heap.size w W := by rw [hW]; exact B2.alloc (by omega) _
    have oW : OutAt W w.heap.size w.heap.size (.slice none 0 0) (numsB N 0) := by
      rw [hW]
      exact ⟨(Below.heap_alloc w2 _ _ n1.lt).trans n1, by simpa [numsB, byteCells] using World.ownsRow_nil _ _ _ _⟩
    have sW : W.heap.size = w2.heap.size + 1 := by rw [hW]; simp
    have HB10 := Lib.hid (sz_bound HNN.out)
    go_loopw [6, 7] (fun sl i wr => ∃ k : Nat, ∃ g cp : Nat, ∃ vo : Value, k ≤ len ∧ sl = .slice (some ⟨g, 0, none⟩) (k + 1) cp ∧ i = .int .i64 k ∧ wr.ownsRow w.heap.size 3 1 (.slice (some ⟨g, 0, none⟩) (k + 1) cp) (k + 1) (szCells N k) ∧ OutAt wr w.heap.size w.heap.size vo (numsB N k) ∧ w.heap.size < wr.heap.size ∧ Below w.heap.size w wr) (fun _ i _ => len - (intOf i).toNat)
    case atStart => exact ⟨0, w2.heap.size, 1, _, by omega, rfl, rfl, by rw [← hW]; exact x1, by rw [← hW]; exact oW, by rw [← hW]; omega, by rw [← hW]; exact bW⟩
    case round =>
      obtain ⟨k, g, cp, vo, hk, rfl, rfl, xr, or, sr, Br⟩ := hrel
      clear x1 bW oW sW hW B2 n1 s2
      by_cases hlt : k < len
      · obtain ⟨b, off, rfl, hb, hr⟩ := HF.out.2.2.2 (by omega)
        obtain ⟨n, hn⟩ : ∃ n, N[k]? = some n := ⟨_, List.getElem?_eq_getElem (by rw [HLEN.out]; exact hlt)⟩
        have hcell : wr.cell? ⟨b, off + k, none⟩ = some (.int .u64 n) := by
          have := range_below (hr k n hn) hb Br 0 _ rfl
          simpa using this
        have hnn := HNN.out n (List.mem_of_getElem? hn)
        have hszb := HB10.out k
        have hszk : (numsB N k).length ≤ 200 := by have : (numsB N k).length = szAt N k := rfl; omega
        have HSN := Lib.hid (numsB_succ hn)
        have HSC := Lib.hid (szCells_succ N k)
        have HN1 := Lib.hid hn; clear hn
        have HX := Lib.hid xr; clear xr
        have HO := Lib.hid or; clear or
        clear hr
        go_wp2_with fail
        refine (outNum_at n hnn w.heap.size _ vo _ _ HO.out (by omega) (by omega)).mono ?_
        rintro e w4 ⟨rfl, vo', o4, b4, al⟩
        have s4 := b4.size
        rw [← HSN.out] at o4
        have x4 := ownsRow_below HX.out (fun k' hk' => al.block k' (HX.out.lt k' hk').2 (fun e => row_not_out HX.out HO.out.1 (e ▸ hk')) (rows_apart HX.out HO.out.2 hk'))
        have B4 : Below w.heap.size w w4 := Below.more Br b4 (Nat.le_refl _) (Nat.le_refl _)
        have HX4 := Lib.hid x4; clear x4
        have HO4 := Lib.hid o4; clear o4
        clear HX HO b4 al
        go_wp2_with fail
        refine (outDone_str _ _ _ _ HO4.out.is).mono ?_
        rintro e w' ⟨rfl, rfl⟩
        have hst := strOf_size (numsB N (k + 1))
        have hsz1 : ((numsB N (k + 1)).length : Int) = szAt N (k + 1) := rfl
        go_wp2_with (at_builtin; refine wpList_append_own _ rfl _ _ 27 rfl w.heap.size 3 i0 (.int .i64 0) 1 8 Try.under_ints HI0.out HZ0.out HZ1.out HZ2.out rfl (by decide) _ _ _ rfl (HX4.out.alloc _) ⟨w4.heap.size, 0, none⟩ 1 1 [.int .i64 _] rfl rfl (cell_one_new _ _ _) (one_int _ _) (by unfold maxLen; omega) (by omega) (by simp; omega) ?_)
        intro v' w5 hown' hgrow _
        rw [← HSC.out] at hown'
        have o5 : OutAt w5 w.heap.size w.heap.size vo' (numsB N (k + 1)) := by
          have hlt4 := lt_of_block HO4.out.1
          refine ⟨?_, ownsRow_below HO4.out.2 fun k' hk' => ?_⟩
          · rw [hgrow.block _ (by simp; omega) (fun e => row_not_out HX4.out HO4.out.1 e.symm), Below.heap_alloc _ _ _ hlt4]; exact HO4.out.1
          · have hk4 := (HO4.out.2.lt k' hk').2
            rw [hgrow.block _ (by simp; omega) (fun e => rows_apart HX4.out HO4.out.2 e.symm hk'), Below.heap_alloc _ _ _ hk4]
        have B5 : Below w.heap.size w w5 := (B4.alloc (by omega) _).trans (grown_below hgrow (fun g' hg' => (HX4.out.lt g' hg').1) (by simp; omega))
        have s5 := hgrow.size
        simp at s5
        rcases hown'.2 with ⟨_, h0⟩ | ⟨g', cp', cur', rfl, hrest⟩
        · omega
        have HX5 := Lib.hid hown'; clear hown' hrest
        have HO5 := Lib.hid o5; clear o5 hgrow
        clear HX4 HO4 B4
        go_wp2_with fail
        go_roundw
        case rel => exact ⟨k + 1, g', cp', vo', by omega, rfl, by go_num, HX5.out, HO5.out, by omega, B5⟩
        case measure => simp [intOf]; omega
      · obtain rfl : k = len := by omega
        obtain ⟨T, hT⟩ : ∃ T, T = numsB N k := ⟨_, rfl⟩
        have hTs : T.length = szAt N k := by rw [hT]; rfl
        have hszb := HB10.out k
        have hst := strOf_size T
        rw [← hT] at or
        have HT := Lib.hid hT; clear hT
        obtain ⟨c, hc⟩ : ∃ c : Nat, c = a % (T.length + 1) := ⟨_, rfl⟩
        have hcT : c ≤ T.length := by rw [hc]; exact Nat.le_of_lt_succ (Nat.mod_lt _ (by omega))
        have hmod : (a : Int) % ((T.length : Int) + 1) = (c : Int) := by rw [hc]; rfl
        clear hc
        have hext := strOf_extract T 0 c
        rw [Nat.sub_zero, List.drop_zero] at hext
        have hsc := strOf_size (T.take c)
        have hTs' : T.length ≤ 200 := by omega
        have HTS := Lib.hid hTs; clear hTs
        have HX := Lib.hid xr; clear xr
        have HO := Lib.hid or; clear or
        go_wp2_with fail
        refine (outDone_str _ _ _ _ HO.out.is).mono ?_
        rintro e w' ⟨rfl, rfl⟩
        go_wp2_with fail
        refine (newIn_use _ _).mono ?_
        rintro e w3 ⟨rfl, i3, b3, s3⟩
        have B3 := Br.trans (b3.mono (by omega))
        have X3 := Lib.hid (ownsRow_below HX.out fun k' hk' => b3.block k' (HX.out.lt k' hk').2)
        clear b3 HX HO
        go_wp2_with fail
        obtain ⟨Bi, hBi⟩ : ∃ Bi, Bi = wr.heap.size := ⟨_, rfl⟩
        simp only [← hBi] at *
        have hBi' : w.heap.size < Bi := by omega
        clear Br sr
        have HC0 : Hid (Cut N k c 0 (T.take c) 0) := Lib.hid (.inl ⟨by simp [szAt, numsB], rfl, by simp [szAt, numsB, HT.out]⟩)
        go_loopw [11] (fun i wq => ∃ j : Nat, ∃ l : List UInt8, ∃ er : Nat, j ≤ k ∧ i = .int .i64 j ∧ InIs wq Bi l er ∧ Hid (Cut N k c j l er) ∧ Hid (wq.ownsRow w.heap.size 3 1 (.slice (some ⟨g, 0, none⟩) (k + 1) cp) (k + 1) (szCells N k)) ∧ Below w.heap.size w wq) (fun i _ => k - (intOf i).toNat)
        case atStart => exact ⟨0, T.take c, 0, by omega, rfl, i3, HC0, X3, B3⟩
        case round =>
          obtain ⟨wq, rfl⟩ : ∃ wq : World, wq = wr := ⟨_, rfl⟩
          obtain ⟨j, l, er, hj, rfl, iq, hcut, hx, Bq⟩ := hrel
          clear i3 B3 s3 X3 HC0
          by_cases hlt2 : j < k
          · obtain ⟨b, off, rfl, hb, hr⟩ := HF.out.2.2.2 (by omega)
            obtain ⟨n, hn⟩ : ∃ n, N[j]? = some n := ⟨_, List.getElem?_eq_getElem (by rw [HLEN.out]; exact hlt2)⟩
            have hll : l.length ≤ 200 := by
              rcases hcut.out with ⟨_, _, h⟩ | ⟨_, _, h⟩
              · rw [h, List.length_drop, List.length_take, ← HT.out]; omega
              · omega
            have hst2 := cut_step HNN.out hn (by omega) (by have := HTS.out; omega) hcut.out
            have hrw := hr j n hn
            go_wp2_with fail
            refine (inNum_any _ l er (by unfold maxLen; omega) _ iq).mono ?_
            rintro e w5 ⟨rfl, i5, b5⟩
            have B5 : Below w.heap.size w w5 := Below.more Bq b5 (by omega) (by have := Bq.size; omega)
            have hcell : w5.cell? ⟨b, off + j, none⟩ = some (.int .u64 n) := by
              have := range_below hrw hb B5 0 _ rfl
              simpa using this
            have X5 := ownsRow_below hx.out fun k' hk' => b5.block k' (hx.out.lt k' hk').2 (fun e => row_not_in hx.out iq (e ▸ hk'))
            have hszc := slice_cell X5 (szCells_get N k (j + 1) (by omega))
            have HX5 := Lib.hid X5; clear X5
            have hb1 := HB10.out (j + 1)
            have h64 := Wire.rdNum_lt l er
            obtain ⟨v, l', er', hrd⟩ : ∃ v l' er', Wire.rdNum l er = (v, l', er') := ⟨_, _, _, rfl⟩
            rw [hrd] at i5 hst2 h64 ⊢
            simp only at i5 hst2 h64 ⊢
            obtain ⟨hc1, hc2⟩ := hst2
            have HC1 := Lib.hid hc1; clear hc1
            clear hrd hr hrw hcut hx b5 Bq iq
            rcases hc2 with ⟨h1, rfl, rfl, h4⟩ | ⟨h1, rfl, rfl⟩
            · go_wp2_with fail
              refine wp_region_quiet_lit (by kernel_rfl) (by kernel_rfl) ?_
              go_simp
              repeat (go_big_quiet_step (first | (go_at_call 17; exact Calls.quiet_of_same ((inErr_any _ _ _ (w5.drewN _) i5).mono fun _ _ h => ⟨h.2, h.1.symm⟩)) | (go_at_call 18; exact Calls.quiet_of_same ((inLeft_any _ _ _ (w5.drewN _) i5).mono fun _ _ h => ⟨h.2, h.1.symm⟩))))
              refine wpQuiet_nil ?_
              intro nq
              go_wp2_with fail
              go_roundw
              case rel => exact ⟨j + 1, l', 0, by omega, by go_num, i5, HC1.out, HX5.out, B5.drewN nq⟩
              case measure => simp [intOf]; omega
            · go_wp2_with fail
              refine (inErr_any _ _ _ _ i5).mono ?_
              rintro e w' ⟨rfl, rfl⟩
              go_wp2_with fail
              go_roundw
              case rel => exact ⟨j + 1, l', 20, by omega, by go_num, i5, HC1.out, HX5.out, B5⟩
              case measure => simp [intOf]; omega
          · go_wp2_with fail
            go_ret
            exact ⟨rfl, Bq⟩
  · go_wp2_with fail
    refine (awake_any _).mono ?_
    rintro e w3 ⟨rfl, b3⟩
    go_wp2_with fail
    go_ret
    exact ⟨rfl, B2.trans (b3.mono (by omega))⟩

theorem cuts_law (w : World) (o0 : Option Addr) (len cap : Nat) (F : List Int) (hF : RowsAt w o0 len cap 1 (intCell .u64) F) (hok : ∀ f ∈ F, (fun x : Int => (Lit.int .u64 x).wf = true) f) (a1 : Int) (w1 : (Lit.int .u16 a1).wf = true) :
    Calls Try.prog 3 #[.slice o0 len cap, .int .u16 a1] w fun e w' => e = .returned (.bool true) ∧ Below w.heap.size w w' := by
  have hw : 0 ≤ a1 ∧ a1 < 65536 := by have := bounds_u16 w1; omega
  obtain ⟨a, rfl⟩ : ∃ a : Nat, a1 = a := ⟨a1.toNat, by omega⟩
  have hb : ∀ x ∈ F, 0 ≤ x ∧ x < 18446744073709551616 := by
    intro x hx
    have := hok x hx
    have := bounds_u64 this; omega
  refine cuts_walk w o0 len cap (F.map Int.toNat) ?_ ?_ a (by omega)
  · obtain ⟨h1, h2, h3, h4⟩ := hF
    refine ⟨by simpa using h1, h2, h3, fun h => ?_⟩
    obtain ⟨b, off, hb1, hb2, hr⟩ := h4 h
    refine ⟨b, off, hb1, hb2, fun i n hn => ?_⟩
    rw [List.getElem?_map] at hn
    obtain ⟨x, hx, rfl⟩ := Option.map_eq_some_iff.1 hn
    have h0 := (hb x (List.mem_of_getElem? hx)).1
    have := hr i x hx
    have e : natCell x.toNat = intCell .u64 x := by unfold natCell intCell; rw [Int.toNat_of_nonneg h0]
    rw [e]; exact this
  · intro n hn
    obtain ⟨x, hx, rfl⟩ := List.mem_map.1 hn
    have := hb x hx
    omega

end Go.Proofs.Ytnohbamjcadfaaa
