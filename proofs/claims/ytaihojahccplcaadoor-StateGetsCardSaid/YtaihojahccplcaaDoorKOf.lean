/- The walk of hash.Of: the sum of parts is Sha.of of all of them. -/
import Derived.Test.YtaihojahccplcaaDoorKStep
import Derived.Test.YtaihojahccplcaaDoorShelf
import Derived.Deep.RegionHeld3
namespace Go.Proofs.YtaihojahccplcaaDoor
open Go.RowKit
set_option linter.unusedSimpArgs false
set_option linter.unusedVariables false

theorem join_flat : ∀ ls : List (List UInt8), Lib.join ls [] = ls.flatten
  | [] => rfl
  | [x] => by simp [Lib.join, List.intercalate]
  | x :: y :: r => by
    have ih := join_flat (y :: r)
    unfold Lib.join List.intercalate at ih ⊢
    rw [List.intersperse_cons_cons]
    simp only [List.flatten_cons, List.nil_append] at ih ⊢
    rw [ih]

theorem lens_flat (ls : List (List UInt8)) : Lib.lens ls = ls.flatten.length := by
  simp [Lib.lens, List.length_flatten]

/-- bytes.Join, whatever the parts. -/
theorem join_any (w : World) (v : Value) (ls : List (List UInt8)) (hP : PartsV w v ls) (hn : ls.length ≤ 1000000) (hlen : ls.flatten.length ≤ 1000000000) :
    Calls Tryd.prog 60 #[v, .slice none 0 0] w fun e w' => ∃ v', e = .returned v' ∧ Mine w' w.heap.size v' ls.flatten ∧ Below w.heap.size w w' := by
  obtain ⟨p, c, rfl, hc, hp⟩ := hP
  match ls, hn, hlen, hc, hp with
  | [], _, _, _, _ =>
    refine (Tryd.bytes_Join_none p c _ w).mono fun e w' ⟨h1, h2⟩ => ⟨_, h1, ?_, ?_⟩
    · exact .inr ⟨w.heap.size, 0, rfl, Nat.le_refl _, fun h => absurd h (by decide), Nat.le_refl _, by decide, fun j u hu => by simp [byteCells] at hu, fun j hj => by simp at hj⟩
    · rw [h2]; exact (Below.refl _ _).alloc (Nat.le_refl _) _
  | [x], _, hlen, _, hp =>
    obtain ⟨b, o, vs, rfl, hparts⟩ := hp (by simp)
    obtain ⟨q, cap, l, h1, h2, h3, h4⟩ := hparts.get 0 (by simp)
    simp only [List.getElem?_cons_zero, Option.some.injEq] at h1
    subst h1
    rw [Addr.add_mid, Nat.add_zero] at h2
    have ef : [x].flatten = x := by simp
    rw [ef] at hlen ⊢
    rcases q with _ | ad
    · obtain rfl := h3 rfl
      refine (Tryd.bytes_Join_one_empty b o c none cap _ w h2).mono fun e w' ⟨h5, h6⟩ => ⟨_, h5, .inl ⟨rfl, rfl⟩, by rw [h6]; exact Below.refl _ _⟩
    · by_cases hx : x = []
      · subst hx
        refine (Tryd.bytes_Join_one_empty b o c (some ad) cap _ w h2).mono fun e w' ⟨h5, h6⟩ => ⟨_, h5, .inl ⟨rfl, rfl⟩, by rw [h6]; exact Below.refl _ _⟩
      · refine (Tryd.bytes_Join_one b o c ad cap x _ w h2 (h4 ad rfl) (List.length_pos_iff.2 hx) (by omega)).mono fun e w' ⟨v', h5, h6, h7⟩ => ⟨v', h5, Mine.fresh h6, h7⟩
  | x :: y :: r, hn, hlen, hc, hp =>
    obtain ⟨b, o, vs, rfl, hparts⟩ := hp (by simp)
    refine (Tryd.bytes_Join_many b o _ c vs (x :: y :: r) (.slice none 0 0) [] w rfl (by simp) hparts hc ⟨none, 0, rfl, fun _ => rfl, fun a h => by cases h⟩ (by omega) (by rw [lens_flat]; simp only [List.length_nil, Nat.zero_mul, Nat.add_zero]; omega)).mono fun e w' ⟨v', h5, h6, h7⟩ => ⟨v', h5, ?_, h7⟩
    rw [join_flat] at h6
    exact Mine.fresh h6

theorem Tryd.under_u8s : Tryd.prog.underlying 82 = some (.slice 5) := by kernel_rfl
theorem Tryd.info_u8 : (Tryd.prog.info? 5).map (fun i => (i.zero, i.size, i.bytes)) = some (some (.int .u8 0), 1, 1) := by kernel_rfl

def sliceLen : Value → Nat
  | .slice _ n _ => n
  | _ => 0

/-- One byte more, at a walk's world. -/
theorem push_one {w : World} {B : Nat} {v : Value} {l : List UInt8} (h : Mine w B v l) (hB : B ≤ w.heap.size) (m : Nat) (hm : l.length = m) (hl : m + 1 ≤ 140737488355328) (x : UInt8) (n : Int) (hx : n = (x.toNat : Int)) :
    ∃ v' w', (Builtin.append_ #[82, 82] 82 #[v, .slice (some ⟨w.heap.size, 0, none⟩) 1 1]).run Tryd.prog (w.alloc (.cells #[.int .u8 n] 5)) = .ok v' w' ∧ Mine w' B v' (l ++ [x]) ∧ Below B w w' ∧ w.heap.size < w'.heap.size ∧ ∃ g cap, v' = .slice (some ⟨g, 0, none⟩) (m + 1) cap := by
  subst hm
  obtain ⟨i, hi, hz0, hz1, hz2⟩ := info_parts Tryd.info_u8
  subst hx
  obtain ⟨v', w', h1, h2, h3, g, cap, h4⟩ := Mine.push (ty := 82) (z := .int .u8 0) Tryd.under_u8s hi hz0 hz1 hz2 rfl (h.alloc (.cells #[.int .u8 x.toNat] 5)) (by simp; omega) [x] (by simp) (by simpa using hl) ⟨w.heap.size, 0, none⟩ 1
    (fun j u hu => by
      rw [Addr.add_mid, World.cell?_of_block (a := ⟨w.heap.size, 0 + j, none⟩) (w := w.alloc (.cells #[.int .u8 x.toNat] 5)) rfl, World.cell?, heap_alloc_new]
      simpa [byteCells] using hu)
  refine ⟨v', w', h1, h2, ((Below.refl _ _).alloc hB _).trans h3, ?_, g, cap, by rw [h4]; simp⟩
  have := h3.size
  simp at this; omega

theorem Tryd.under_h32 : Tryd.prog.underlying 27 = some (.array 32 5) := by kernel_rfl
theorem Tryd.size_h32 : (Tryd.prog.info? 27).map (·.size) = some 32 := by kernel_rfl

theorem flat_get : ∀ (l : List Nat) (q r : Nat), r < 4 → ((l.map (Sha.be 4)).flatten)[4 * q + r]? = (l[q]?).bind fun a => (Sha.be 4 a)[r]?
  | [], q, r, _ => by simp
  | a :: l, 0, r, h => by
    rw [List.map_cons, List.flatten_cons, Nat.mul_zero, Nat.zero_add, List.getElem?_append_left (by rw [Sha.be_len]; exact h)]; rfl
  | a :: l, q + 1, r, h => by
    rw [List.map_cons, List.flatten_cons, List.getElem?_append_right (by rw [Sha.be_len]; omega), Sha.be_len, show 4 * (q + 1) + r - 4 = 4 * q + r by omega, flat_get l q r h]; rfl

theorem out_byte {O : List UInt8} {H : List Nat} {t u : Nat} (hO : O = (H.map (Sha.be 4)).flatten) (hu : H[t / 4]? = some u) (ht : t < O.length) :
    ∃ y, O[t]? = some y ∧ ((u : Int) / 2 ^ (24 - 8 * (t % 4)) % 256) = (y.toNat : Int) := by
  have h1 := flat_get H (t / 4) (t % 4) (Nat.mod_lt _ (by decide))
  rw [← hO, show 4 * (t / 4) + t % 4 = t by omega, hu] at h1
  refine ⟨O[t], List.getElem?_eq_getElem ht, ?_⟩
  rw [List.getElem?_eq_getElem ht] at h1
  simp only [Option.bind_some] at h1
  unfold Sha.be at h1
  rw [List.getElem?_map, List.getElem?_range (Nat.mod_lt _ (by decide))] at h1
  simp only [Option.map_some, Option.some.injEq] at h1
  rw [h1, UInt8.toNat_ofNat']
  have e1 : (256 : Nat) ^ (4 - 1 - t % 4) = 2 ^ (24 - 8 * (t % 4)) := by
    rw [show (256 : Nat) = 2 ^ 8 from rfl, ← Nat.pow_mul]; congr 1; omega
  rw [e1]
  have e2 : (2 : Int) ^ (24 - 8 * (t % 4)) = ((2 ^ (24 - 8 * (t % 4)) : Nat) : Int) := by rw [Int.natCast_pow]; rfl
  rw [e2, ← Int.natCast_ediv, show (2 : Nat) ^ 8 = 256 from rfl]
  omega


theorem take_set (O : List UInt8) (t : Nat) (y : UInt8) (hl : O.length = 32) (h : O[t]? = some y) : (O.take t ++ List.replicate (32 - t) 0).set t y = O.take (t + 1) ++ List.replicate (32 - (t + 1)) 0 := by
  have ht := (List.getElem?_eq_some_iff.1 h).1
  have e : List.replicate (32 - t) (0 : UInt8) = 0 :: List.replicate (32 - (t + 1)) 0 := by rw [← List.replicate_succ]; congr 1; omega
  rw [e, List.set_append_right _ _ (by rw [List.length_take]; omega), List.length_take, show t - min t O.length = 0 by omega, List.set_cons_zero, List.take_add_one, h, List.append_assoc]; rfl

theorem still_load {P : Program} {ops : Array Oper} {w : World} {Q : Act → Prop} {a : Act} {o : Oper} {rest : List Oper} (hw : Region.wanted o (yielded ops a.tmps) = true) (ty : TypeId) (x : Operand) (ho : o.op = .load ty x)
    (b off : Nat) (hx : a.eval x = .pointer (some ⟨b, off, none⟩)) (cs : List Value) (d : TypeDesc) (hc : w.rangeAt b off cs)
    (hu : P.underlying ty = some d) (hd : d.isRow = true) (hi : (P.info? ty).map (·.size) = some cs.length)
    (hk : wpStill P ops w Q rest (a.put o.dst (.agg cs.toArray))) : wpStill P ops w Q (o :: rest) a := by
  unfold wpStill
  rw [if_pos hw]
  have := run_loadVar_mid (P := P) w b off ty cs d hc hu hd hi
  unfold Oper.still execOp
  simp only [ho, hx, Instr.loadAt, Instr.sureAddr, Sem.run_bind, Sem.run_pure, Result.andThen_ok, this]
  exact ⟨rfl, hk⟩


theorem range_sub {w : World} {g : Nat} {A : List UInt8} (h : w.rangeAt g 0 (byteCells A)) (o k : Nat) : w.rangeAt g o (byteCells ((A.drop o).take k)) := by
  intro i v hv
  have e : (byteCells ((A.drop o).take k))[i]? = if i < k then (byteCells A)[o + i]? else none := by
    unfold byteCells
    rw [List.getElem?_map, List.getElem?_take]
    split
    · rw [List.getElem?_drop, List.getElem?_map]
    · rfl
  rw [e] at hv
  split at hv
  · have := h (o + i) v hv
    rwa [Nat.zero_add] at this
  · cases hv

theorem byte_at (n0 j : Nat) (x : UInt8) (h : (Sha.be 8 (8 * n0))[j]? = some x) : ((n0 : Int) * 8 / 2 ^ (56 - 8 * j) % 256) = (x.toNat : Int) := by
  unfold Sha.be at h
  rw [List.getElem?_map] at h
  obtain ⟨i, hi, rfl⟩ := Option.map_eq_some_iff.1 h
  obtain ⟨hj, rfl⟩ := List.getElem?_eq_some_iff.1 hi
  rw [List.getElem_range, UInt8.toNat_ofNat']
  rw [List.length_range] at hj
  have e1 : (256 : Nat) ^ (8 - 1 - j) = 2 ^ (56 - 8 * j) := by
    rw [show (256 : Nat) = 2 ^ 8 from rfl, ← Nat.pow_mul]; congr 1; omega
  rw [e1]
  have e2 : (2 : Int) ^ (56 - 8 * j) = ((2 ^ (56 - 8 * j) : Nat) : Int) := by rw [Int.natCast_pow]; rfl
  rw [e2, Nat.mul_comm 8 n0, show (n0 : Int) * 8 = ((n0 * 8 : Nat) : Int) by omega, ← Int.natCast_ediv, show (2 : Nat) ^ 8 = 256 from rfl]
  omega

set_option maxRecDepth 100000 in
set_option maxHeartbeats 2000000 in
theorem of_any (w : World) (v : Value) (ls : List (List UInt8)) (hP : PartsV w v ls) (hn : ls.length ≤ 1000000) (hlen : ls.flatten.length ≤ 1000000000) (hL : Laid w) :
    Calls Tryd.prog 49 #[v] w fun e w' => e = .returned (.agg (byteCells (Sha.of ls.flatten)).toArray) ∧ Below w.heap.size w w' := by
  obtain ⟨T, hT⟩ : ∃ T, T = ls.flatten := ⟨_, rfl⟩
  rw [← hT] at hlen ⊢
  have HT := Lib.hid hT; clear hT
  obtain ⟨W, hW⟩ : ∃ W, W = w.alloc (.cells zero32 27) := ⟨_, rfl⟩
  have b1 : Below w.heap.size w W := by rw [hW]; exact (Below.refl _ _).alloc (Nat.le_refl _) _
  have x2 : W.heap[w.heap.size]? = some (.cells zero32 27 (0, 0)) := by rw [hW]; exact heap_alloc_new w _
  have s1 : W.heap.size = w.heap.size + 1 := by rw [hW]; simp
  have P1 := Lib.hid (hP.below b1)
  have HL1 := Lib.hid (hL.below b1)
  obtain ⟨p, c, rfl, _, _⟩ := hP
  have X2 := Lib.hid x2; clear x2
  have S1 := Lib.hid s1; clear s1
  have HW := Lib.hid hW; clear hW
  have HL0 := Lib.hid hL; clear hL
  go_enter Tryd.func49, Tryd.ntmps49
  go_wp2_with fail
  change Calls _ _ _ (w.alloc (.cells zero32 27)) _
  rw [← HW.out]
  refine (join_any _ _ ls P1.out hn (by rw [← HT.out]; exact hlen)).mono ?_
  rintro e w1 ⟨v1, rfl, m1, b2⟩
  rw [← HT.out] at m1
  have hs1 := b2.size
  have hsz := S1.out
  have y2 := (b2.block w.heap.size (by omega)).trans X2.out
  have B1 := b1.trans (b2.mono (by omega))
  replace m1 : Mine w1 (w.heap.size + 1) v1 T := m1.mono (by omega)
  obtain ⟨a1, c1, rfl⟩ := m1.form
  obtain ⟨v2, w2, hr2, m2, b3, hs2, g2, c2, rfl⟩ := push_one m1 (by omega) _ rfl (by omega) 128 128 rfl
  have z2 := (b3.block w.heap.size (by omega)).trans y2
  have B2 := B1.trans (b3.mono (by omega))
  have Y2 := Lib.hid z2; clear z2 y2 hsz
  have hs0 : w.heap.size < w2.heap.size := by have := S1.out; omega
  clear b1 b2 b3 B1
  go_wp2_with (at_builtin; refine Lib.wpList_append_run_sl _ rfl _ _ 82 rfl _ _ rfl rfl hr2 ?_)
  clear hr2 m1
  obtain ⟨n0, hn0⟩ : ∃ n0, n0 = T.length := ⟨_, rfl⟩
  rw [← hn0] at hlen m2 ⊢
  have HN0 := Lib.hid hn0; clear hn0
  have hzz : Sha.zeros n0 < 64 := Nat.mod_lt _ (by decide)
  obtain ⟨z0, hz0⟩ : ∃ z0, z0 = Sha.zeros n0 := ⟨_, rfl⟩
  rw [← hz0] at hzz
  have HZ0 := Lib.hid hz0; clear hz0
  have m3 : Mine w2 (w.heap.size + 1) (.slice (some ⟨g2, 0, none⟩) (n0 + 1) c2) (T ++ [128] ++ List.replicate 0 0) := by rw [List.replicate_zero, List.append_nil]; exact m2
  clear m2
  go_loopw [3] (fun v wr => ∃ n k g cap : Nat, k ≤ z0 ∧ v = .slice (some ⟨g, 0, none⟩) n cap ∧ Hid (n = n0 + 1 + k) ∧ Mine wr (w.heap.size + 1) (.slice (some ⟨g, 0, none⟩) n cap) (T ++ [128] ++ List.replicate k 0) ∧ w.heap.size < wr.heap.size ∧ Hid (wr.heap[w.heap.size]? = some (.cells zero32 27 (0, 0))) ∧ Below w.heap.size w wr) (fun v _ => n0 + 100 - sliceLen v)
  case atStart => exact ⟨n0 + 1, 0, g2, c2, by omega, rfl, Lib.hid rfl, m3, by omega, Y2, B2⟩
  case round =>
    clear m3 Y2 B2
    obtain ⟨n, k, g, cap, hk, rfl, hN, mr, sr, Yr, Br⟩ := hrel
    by_cases hlt : k < z0
    · have ht : ((n : Int) % 64 != 56) = true := by
        rw [bne_iff_ne]
        have h1 := hN.out
        have h2 := HZ0.out
        unfold Sha.zeros at h2
        omega
      have hnb : n ≤ 1000000100 := by have := hN.out; omega
      obtain ⟨v2, w2, hr2, m2, b3, hs2, g2, c2, rfl⟩ := push_one mr (by omega) n (by have := hN.out; have := HN0.out; simp; omega) (by omega) 0 0 rfl
      have z2 := (b3.block w.heap.size (by omega)).trans Yr.out
      have B2 := Br.trans (b3.mono (by omega))
      have Y2 := Lib.hid z2; clear z2
      clear b3
      go_wp2_with (at_builtin; refine Lib.wpList_append_run_sl _ rfl _ _ 82 rfl _ _ rfl rfl hr2 ?_)
      clear hr2
      go_roundw
      case rel => exact ⟨n + 1, k + 1, g2, c2, by omega, rfl, Lib.hid (by rw [hN.out]; omega), by rw [List.replicate_succ', ← List.append_assoc]; exact m2, by omega, Y2, B2⟩
      case measure => have := hN.out; simp [sliceLen]; omega
    · obtain rfl : k = z0 := by omega
      have ht : ((n : Int) % 64 != 56) = false := by
        rw [bne_eq_false_iff_eq]
        have h1 := hN.out
        have h2 := HZ0.out
        unfold Sha.zeros at h2
        omega
      obtain ⟨Z, hZ⟩ : ∃ Z, Z = T ++ [128] ++ List.replicate k 0 := ⟨_, rfl⟩
      have hZl : Z.length = n := by rw [hZ]; have := hN.out; have := HN0.out; simp; omega
      rw [← hZ] at mr
      have HZ := Lib.hid hZ; clear hZ
      have HZL := Lib.hid hZl; clear hZl
      obtain ⟨bs, hbs⟩ : ∃ bs, bs = Sha.be 8 (8 * n0) := ⟨_, rfl⟩
      have hbl : bs.length = 8 := by rw [hbs, Sha.be_len]
      have HBS := Lib.hid hbs; clear hbs
      have HBL := Lib.hid hbl; clear hbl
      have m3 : Mine wr (w.heap.size + 1) (.slice (some ⟨g, 0, none⟩) (n + 0) cap) (Z ++ bs.take 0) := by rw [List.take_zero, List.append_nil]; exact mr
      have hnb : n ≤ 1000000100 := by have := hN.out; omega
      clear mr
      go_wp2_with fail
      obtain ⟨wo, rfl⟩ : ∃ wo : World, wo = wr := ⟨_, rfl⟩
      go_loopw [3, 25] (fun v i wr => ∃ j g cap : Nat, j ≤ 8 ∧ i = .int .i64 j ∧ v = .slice (some ⟨g, 0, none⟩) (n + j) cap ∧ Mine wr (w.heap.size + 1) (.slice (some ⟨g, 0, none⟩) (n + j) cap) (Z ++ bs.take j) ∧ w.heap.size < wr.heap.size ∧ Hid (wr.heap[w.heap.size]? = some (.cells zero32 27 (0, 0))) ∧ Below w.heap.size w wr) (fun _ i _ => 8 - (intOf i).toNat)
      case atStart => exact ⟨0, g, cap, by omega, rfl, rfl, m3, sr, Yr, Br⟩
      case round =>
        clear m3 sr Yr Br ht hlt hk
        obtain ⟨j, g, cap, hj, rfl, rfl, mr, sr, Yr, Br⟩ := hrel
        by_cases hlt : j < 8
        · obtain ⟨x, hx⟩ : ∃ x, bs[j]? = some x := ⟨_, List.getElem?_eq_getElem (by rw [HBL.out]; exact hlt)⟩
          have hxv : ((n0 : Int) * 8 / 2 ^ (56 - 8 * j) % 256) = (x.toNat : Int) := by
            rw [HBS.out] at hx
            exact byte_at n0 j x hx
          obtain ⟨v2, w2, hr2, m2, b3, hs2, g2, c2, rfl⟩ := push_one mr (by omega) (n + j) (by rw [List.length_append, HZL.out, List.length_take, HBL.out]; omega) (by omega) x _ hxv
          have z2 := (b3.block w.heap.size (by omega)).trans Yr.out
          have B2 := Br.trans (b3.mono (by omega))
          have Y2 := Lib.hid z2; clear z2
          have htk : bs.take j ++ [x] = bs.take (j + 1) := by rw [List.take_add_one, hx]; rfl
          rw [List.append_assoc, htk] at m2
          clear b3 htk hx hxv
          go_wp2_with (at_builtin; refine Lib.wpList_append_run_sl _ rfl _ _ 82 rfl _ _ rfl rfl hr2 ?_)
          clear hr2
          go_roundw
          case rel => exact ⟨j + 1, g2, c2, by omega, by go_num, rfl, m2, by omega, Y2, B2⟩
          case measure => simp [intOf]; omega
        · obtain rfl : j = 8 := by omega
          obtain ⟨A, hA⟩ : ∃ A, A = Sha.pad T := ⟨_, rfl⟩
          have hA1 : Z ++ bs.take 8 = A := by
            rw [hA, HZ.out, List.take_of_length_le (by rw [HBL.out]; exact Nat.le_refl _), HBS.out]
            unfold Sha.pad
            rw [← HN0.out, ← HZ0.out]
          rw [hA1] at mr
          have HA := Lib.hid hA; clear hA
          have HAZ := Lib.hid hA1.symm; clear hA1
          clear hlt hj
          have hAl : A.length = n + 8 := by
            have h1 := HA.out
            have h2 := HZL.out
            rw [show A = Z ++ bs.take 8 from HAZ.out, List.length_append, List.length_take, HBL.out, h2]; rfl
          obtain ⟨N, hN64⟩ : ∃ N, n + 8 = 64 * N := by
            have h1 := (Sha.pad_len T).1
            rw [← HA.out, hAl] at h1
            exact ⟨(n + 8) / 64, by omega⟩
          have HAL := Lib.hid hAl; clear hAl
          have HN64 := Lib.hid hN64; clear hN64
          rcases mr with ⟨hv0, _⟩ | ⟨g', cap', hv, hgB, hgs, hgc, hgm, hgr, _⟩
          · exact absurd hv0 (by simp)
          obtain ⟨rfl, hlen8, rfl⟩ : g = g' ∧ n + 8 = A.length ∧ cap = cap' := by
            simp only [Value.slice.injEq, Option.some.injEq, Addr.mk.injEq, and_true] at hv
            exact ⟨hv.1, hv.2.1, hv.2.2⟩
          rw [← hlen8] at hgc
          unfold maxLen at hgm
          replace hgs : g < wr.heap.size := hgs (by omega)
          have HGR := Lib.hid hgr; clear hgr
          clear hv hlen8
          have HLr := Lib.hid ((HL0.out).below Br)
          obtain ⟨W3, hW3⟩ : ∃ W3, W3 = (wr.alloc (.cells zero8 98)).setRow wr.heap.size (wCells Sha.H0).toArray := ⟨_, rfl⟩
          have r1 : W3.heap[wr.heap.size]? = some (.cells (wCells Sha.H0).toArray 98 (0, 0)) := by rw [hW3]; exact setRow_heap _ _ _ _ _ _ (heap_alloc_new wr _)
          have b1 : Below wr.heap.size wr W3 := by rw [hW3]; exact below_setRow ((Below.refl _ _).alloc (Nat.le_refl _) _) (Nat.le_refl _)
          have s3 : W3.heap.size = wr.heap.size + 1 := by rw [hW3]; simp [World.setRow]
          have HW3 := Lib.hid hW3; clear hW3
          have R1 := Lib.hid r1; clear r1
          have S3 := Lib.hid s3; clear s3
          have HH0A := Lib.hid (wCells_all Sha.H0)
          go_wp2_with (first | ((with_reducible show wpList _ _ _ (⟨some 39, _, _, _, _, _⟩ :: _) _ _); refine wpList_load_mid (op := ⟨some 39, _, _, _, _, _⟩) rfl _ _ rfl 0 0 rfl (wCells Sha.H0) _ HLr.out.2 Tryd.under_a8 rfl (by rw [wCells_len]; exact Tryd.size_a8) ?_) | ((with_reducible show wpList _ _ _ (⟨none, .store 98 (.tmp 6) (.tmp 39), _, _, _, _⟩ :: _) _ _); refine wpList_store_row (o := ⟨none, .store 98 _ _, _, _, _, _⟩) rfl _ _ _ rfl wr.heap.size (wCells Sha.H0).toArray rfl rfl _ zero8 (heap_alloc_new wr (.cells zero8 98)) (by exact Tryd.size_a8) rfl HH0A.out ?_; change wpList _ _ _ _ _ ((wr.alloc (.cells zero8 98)).setRow wr.heap.size (wCells Sha.H0).toArray); rw [← HW3.out]))
          go_frame
          obtain ⟨wp, rfl⟩ : ∃ wp : World, wp = wr := ⟨_, rfl⟩
          go_loopw [3] (fun v wr => ∃ j m cp : Nat, ∃ a : Option Addr, j ≤ N ∧ m + 64 * j = 64 * N ∧ v = .slice a m cp ∧ m ≤ cp ∧ cp ≤ 9223372036854775807 ∧ (j < N → a = some ⟨g, 64 * j, none⟩) ∧ Hid (wr.heap[wp.heap.size]? = some (.cells (wCells (Sha.after j Sha.H0 A)).toArray 98 (0, 0))) ∧ wp.heap.size < wr.heap.size ∧ Below wp.heap.size wp wr) (fun v _ => sliceLen v)
          case atStart => exact ⟨0, n + 8, cap, _, by omega, by have := HN64.out; omega, rfl, by omega, hgm, fun _ => rfl, R1, by rw [S3.out]; omega, b1⟩
          case round =>
            clear R1 S3 b1
            obtain ⟨j, m, cp, a, hj, hm, rfl, hmc, hcm, ha, xh, sr, Br3⟩ := hrel
            by_cases hlt : j < N
            · obtain rfl := ha hlt
              have hm64 : 64 ≤ m := by omega
              have htest : decide ((0 : Int) < (m : Int)) = true := decide_eq_true (by omega)
              have HG0 := Lib.hid (range_kept HGR.out hgs Br3)
              have HBK := Lib.hid (range_sub HG0.out (64 * j) 64)
              have HKr := Lib.hid (HLr.out.1.below Br3)
              obtain ⟨H, hH⟩ : ∃ H, H = Sha.after j Sha.H0 A := ⟨_, rfl⟩
              have hHl : H.length = 8 := by rw [hH]; exact Sha.after_len _ _ _ Sha.H0_len
              have hHM : ∀ x ∈ H, x < 4294967296 := by rw [hH]; exact Sha.after_lt _ _ _ Sha.H0_lt
              rw [← hH] at xh
              have HH := Lib.hid hH; clear hH
              have hbl : ((A.drop (64 * j)).take 64).length = 64 := by rw [List.length_take, List.length_drop, HAL.out]; have := HN64.out; omega
              have HLB := Lib.hid hbl; clear hbl
              have hsz8 : (wCells H).toArray.size = 8 := by rw [List.size_toArray, wCells_len, hHl]
              have HS8 := Lib.hid hsz8; clear hsz8
              have i64 : (64 : Int) ≤ (cp : Int) := by omega
              go_wp2_with fail
              go_still_tail 3, (by kernel_rfl)
              refine still_load rfl _ _ rfl wp.heap.size 0 rfl (wCells H) _ (range_row xh.out) Tryd.under_a8 rfl (by rw [wCells_len, hHl]; exact Tryd.size_a8) ?_
              repeat still_step
              refine wpStill_nil ?_
              change wpList _ _ _ _ _ wr.drew
              obtain ⟨w4, hw4⟩ : ∃ w4, w4 = wr.drew := ⟨_, rfl⟩
              rw [← hw4]
              have q1 : w4.rangeAt g (64 * j) (byteCells ((A.drop (64 * j)).take 64)) := by rw [hw4]; exact HBK.out
              have q2 : KAt w4 := by rw [hw4]; exact HKr.out
              have q3 : w4.heap[wp.heap.size]? = some (.cells (wCells H).toArray 98 (0, 0)) := by rw [hw4]; exact xh.out
              have q4 : Below wp.heap.size wp w4 := by rw [hw4]; exact Br3.drew
              have q5 : wp.heap.size < w4.heap.size := by rw [hw4]; exact sr
              have Q1 := Lib.hid q1; clear q1
              have Q2 := Lib.hid q2; clear q2
              have Q3 := Lib.hid q3; clear q3
              clear hw4 HBK HKr xh Br3 sr HG0
              have hst := step_any H hHl hHM ((A.drop (64 * j)).take 64) HLB.out g (64 * j) cp w4 (by omega) Q1.out (by omega) (by unfold maxLen; omega) Q2.out
              have HST := Lib.hid hst; clear hst
              have HHL := Lib.hid hHl; clear hHl
              have HHM := Lib.hid hHM; clear hHM
              go_wp2_with fail
              refine HST.out.mono ?_
              rintro e w5 ⟨rfl, b5⟩
              have q6 := (b5.block wp.heap.size (by omega)).trans Q3.out
              have B5 := q4.trans (b5.mono (by omega))
              have s5 := b5.size
              obtain ⟨H', hH'⟩ : ∃ H', H' = Sha.step H ((A.drop (64 * j)).take 64) := ⟨_, rfl⟩
              rw [← hH']
              have hl' : H'.length = 8 := by rw [hH']; exact Sha.step_len _ _ HHL.out
              have hs8 : (wCells H').toArray.size = 8 := by rw [List.size_toArray, wCells_len, hl']
              have HS8' := Lib.hid hs8; clear hs8
              have HA' := Lib.hid (wCells_all H')
              have HH' := Lib.hid hH'; clear hH'
              have Q6 := Lib.hid q6; clear q6
              clear b5 HST hl'
              obtain ⟨W6, hW6⟩ : ∃ W6, W6 = w5.setRow wp.heap.size (wCells H').toArray := ⟨_, rfl⟩
              have q7 : W6.heap[wp.heap.size]? = some (.cells (wCells H').toArray 98 (0, 0)) := by rw [hW6]; exact setRow_heap _ _ _ _ _ _ Q6.out
              have B6 : Below wp.heap.size wp W6 := by rw [hW6]; exact below_setRow B5 (Nat.le_refl _)
              have s6 : wp.heap.size < W6.heap.size := by rw [hW6]; simp only [World.setRow, Array.size_modify]; omega
              have HW6 := Lib.hid hW6; clear hW6
              have Q7 := Lib.hid q7; clear q7
              clear B5
              have hafter : Sha.after (j + 1) Sha.H0 A = H' := by rw [HH'.out, HH.out]; rfl
              have HAF := Lib.hid hafter; clear hafter
              by_cases hcap : cp = 64
              · subst hcap
                go_wp2_with ((with_reducible show wpList _ _ _ (⟨none, .store 98 (.tmp 6) (.tmp 48), _, _, _, _⟩ :: _) _ _); refine wpList_store_row (o := ⟨none, .store 98 _ _, _, _, _, _⟩) rfl _ _ _ rfl wp.heap.size (wCells H').toArray rfl rfl _ (wCells H).toArray Q6.out (by rw [HS8'.out]; exact Tryd.size_a8) (by rw [HS8'.out, HS8.out]) HA'.out ?_; change wpList _ _ _ _ _ (w5.setRow wp.heap.size (wCells H').toArray); rw [← HW6.out])
                go_roundw
                case rel =>
                  exact ⟨j + 1, 0, 0, _, by omega, by omega, rfl, by omega, by omega, fun h => by omega, Lib.hid (by rw [HAF.out]; exact Q7.out), s6, B6⟩
                case measure => simp [sliceLen]; omega
              · have hne : ((cp : Int) == 64) = false := by simp; omega
                go_wp2_with ((with_reducible show wpList _ _ _ (⟨none, .store 98 (.tmp 6) (.tmp 48), _, _, _, _⟩ :: _) _ _); refine wpList_store_row (o := ⟨none, .store 98 _ _, _, _, _, _⟩) rfl _ _ _ rfl wp.heap.size (wCells H').toArray rfl rfl _ (wCells H).toArray Q6.out (by rw [HS8'.out]; exact Tryd.size_a8) (by rw [HS8'.out, HS8.out]) HA'.out ?_; change wpList _ _ _ _ _ (w5.setRow wp.heap.size (wCells H').toArray); rw [← HW6.out])
                go_roundw
                case rel =>
                  exact ⟨j + 1, m - 64, cp - 64, _, by omega, by omega, rfl, by omega, by omega, fun _ => by rw [show 64 * (j + 1) = 64 * j + 64 by omega], Lib.hid (by rw [HAF.out]; exact Q7.out), s6, B6⟩
                case measure => simp [sliceLen]; omega
            · obtain rfl : j = N := by omega
              obtain rfl : m = 0 := by omega
              obtain ⟨H, hH⟩ : ∃ H, H = Sha.after j Sha.H0 A := ⟨_, rfl⟩
              have hHl : H.length = 8 := by rw [hH]; exact Sha.after_len _ _ _ Sha.H0_len
              have hHM : ∀ x ∈ H, x < 4294967296 := by rw [hH]; exact Sha.after_lt _ _ _ Sha.H0_lt
              rw [← hH] at xh
              obtain ⟨O, hO⟩ : ∃ O, O = Sha.of T := ⟨_, rfl⟩
              have hOl : O.length = 32 := by rw [hO]; exact Sha.of_len T
              have hOH : O = (H.map (Sha.be 4)).flatten := by
                rw [hO, Sha.of_eq, ← HA.out, HAL.out, hH, show (n + 8) / 64 = j by have := HN64.out; omega]
              have hres := (Br3.block w.heap.size (by omega)).trans Yr.out
              have B4 := Br.trans (Br3.mono (by omega))
              have HRES := Lib.hid hres; clear hres
              have HO := Lib.hid hO; clear hO hH
              have HOL := Lib.hid hOl; clear hOl
              have HOH := Lib.hid hOH; clear hOH
              have HHL := Lib.hid hHl; clear hHl
              have HHM := Lib.hid hHM; clear hHM
              obtain ⟨W5, hW5⟩ : ∃ W5, W5 = wr.alloc (.cells zero32 27) := ⟨_, rfl⟩
              have o1 : W5.heap[wr.heap.size]? = some (.cells (byteCells (O.take 0 ++ List.replicate (32 - 0) 0)).toArray 27 (0, 0)) := by rw [hW5]; exact heap_alloc_new wr _
              have o2 : W5.heap[wp.heap.size]? = some (.cells (wCells H).toArray 98 (0, 0)) := by rw [hW5]; exact (Below.heap_alloc wr _ _ sr).trans xh.out
              have o3 : W5.heap[w.heap.size]? = some (.cells zero32 27 (0, 0)) := by rw [hW5]; exact (Below.heap_alloc wr _ _ (by omega)).trans HRES.out
              have o4 : Below w.heap.size w W5 := by rw [hW5]; exact B4.alloc (by omega) _
              have HW5 := Lib.hid hW5; clear hW5
              have O1 := Lib.hid o1; clear o1
              have O2 := Lib.hid o2; clear o2
              have O3 := Lib.hid o3; clear o3
              have hsr : wp.heap.size < wr.heap.size := sr
              have hsw : w.heap.size < wp.heap.size := by omega
              clear xh Br3 sr hlt hj hm hmc ha HRES B4
              go_wp2_with fail
              change Code.wp _ _ _ _ (wr.alloc (.cells zero32 27))
              rw [← HW5.out]
              obtain ⟨wq, rfl⟩ : ∃ wq : World, wq = wr := ⟨_, rfl⟩
              go_loopw [49] (fun i wr => ∃ t : Nat, t ≤ 32 ∧ i = .int .i64 t ∧ Hid (wr.heap[wq.heap.size]? = some (.cells (byteCells (O.take t ++ List.replicate (32 - t) 0)).toArray 27 (0, 0))) ∧ Hid (wr.heap[wp.heap.size]? = some (.cells (wCells H).toArray 98 (0, 0))) ∧ Hid (wr.heap[w.heap.size]? = some (.cells zero32 27 (0, 0))) ∧ Below w.heap.size w wr) (fun i _ => 32 - (intOf i).toNat)
              case atStart => exact ⟨0, by omega, rfl, O1, O2, O3, o4⟩
              case round =>
                clear O1 O2 O3 o4
                obtain ⟨t, ht, rfl, x1, x2, x3, Bq⟩ := hrel
                by_cases hlt : t < 32
                · obtain ⟨u, hu⟩ : ∃ u, H[t / 4]? = some u := ⟨_, List.getElem?_eq_getElem (by rw [HHL.out]; omega)⟩
                  have mu : u < 4294967296 := HHM.out u (List.mem_of_getElem? hu)
                  have hc := wcell x2.out hu
                  have i0 : (0 : Int) ≤ (t : Int) / 4 := by omega
                  have i1 : (t : Int) / 4 < 8 := by omega
                  have i2 : (0 : Int) ≤ (t : Int) := by omega
                  have i3 : (t : Int) < 32 := by omega
                  have hz : (O.take t ++ List.replicate (32 - t) 0)[t]? = some 0 := by
                    rw [List.getElem?_append_right (by rw [List.length_take]; omega), List.length_take, HOL.out, List.getElem?_replicate]
                    rw [if_pos (by omega)]
                  have hc2 : wr.cell? ⟨wq.heap.size, t, none⟩ = some (.int .u8 0) := by
                    have := range_row x1.out t _ (byteCells_get hz)
                    rwa [Nat.zero_add] at this
                  have hf := wfree x1.out t
                  have HU := Lib.hid hu; clear hu hz
                  go_wp2_with fail
                  go_roundw
                  case rel =>
                    obtain ⟨y, hy1, hy2⟩ := out_byte HOH.out HU.out (by rw [HOL.out]; exact hlt)
                    rw [hy2]
                    refine ⟨t + 1, by omega, by go_num, Lib.hid ?_, Lib.hid ?_, Lib.hid ?_, Bq.setCell (p := ⟨wq.heap.size, t, none⟩) (by simp only; omega) _⟩
                    · rw [heap_setCell_same _ _ _ _ _ _ x1.out, byteCells_set, take_set O t y HOL.out hy1]
                    · rw [heap_setCell_other _ _ _ _ (by simp only; omega)]; exact x2.out
                    · rw [heap_setCell_other _ _ _ _ (by simp only; omega)]; exact x3.out
                  case measure => simp [intOf]; omega
                · obtain rfl : t = 32 := by omega
                  clear hlt ht
                  have y1 : wr.heap[wq.heap.size]? = some (.cells (byteCells O).toArray 27 (0, 0)) := by
                    rw [x1.out, List.take_of_length_le (by rw [HOL.out]; exact Nat.le_refl _), Nat.sub_self, List.replicate_zero, List.append_nil]
                  have Y1 := Lib.hid y1; clear y1 x1 x2
                  have hsO : (byteCells O).toArray.size = 32 := by rw [List.size_toArray, byteCells_length, HOL.out]
                  have HSO := Lib.hid hsO; clear hsO
                  have HAO : Hid ((byteCells O).toArray.all (·.oneCell') = true) := Lib.hid (all_oneCell_toArray (byteCells_one O))
                  obtain ⟨W6, hW6⟩ : ∃ W6, W6 = wr.setRow w.heap.size (byteCells O).toArray := ⟨_, rfl⟩
                  have HW6 := Lib.hid hW6; clear hW6
                  go_wp2_with (first | ((with_reducible show wpList _ _ _ (⟨some 66, _, _, _, _, _⟩ :: _) _ _); refine wpList_load_row (o := ⟨some 66, _, _, _, _, _⟩) rfl _ _ rfl wq.heap.size rfl _ (byteCells O).toArray _ _ Y1.out Tryd.under_h32 rfl (by rw [HSO.out]; exact Tryd.size_h32) ?_) | ((with_reducible show wpList _ _ _ (⟨none, .store 27 (.tmp 2) (.tmp 66), _, _, _, _⟩ :: _) _ _); refine wpList_store_row (o := ⟨none, .store 27 _ _, _, _, _, _⟩) rfl _ _ _ rfl w.heap.size (byteCells O).toArray rfl rfl _ zero32 x3.out (by rw [HSO.out]; exact Tryd.size_h32) (by rw [HSO.out]; rfl) HAO.out ?_; change wpList _ _ _ _ _ (wr.setRow w.heap.size (byteCells O).toArray); rw [← HW6.out]))
                  refine bodyPost_ret (results_cell_row rfl _ _ _ _ (byteCells O).toArray _ _ rfl (by rw [HW6.out]; exact setRow_heap wr _ _ _ _ _ x3.out) Tryd.under_h32 rfl (by rw [HSO.out]; exact Tryd.size_h32)) rfl ⟨by rw [HO.out], ?_⟩
                  rw [HW6.out]
                  exact below_setRow Bq (Nat.le_refl _)
end Go.Proofs.YtaihojahccplcaaDoor
