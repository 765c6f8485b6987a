/- A slice of bytes that a call holds for itself, with or without room: one byte more. And the parts that bytes.Join takes. -/
import Derived.Test.YteljlnkjdajkgaaDoorRows
import Derived.Deep.MidRow
import Derived.Deep.RegionHeldLaw
import Derived.ArgAppend
import Derived.Below
import Derived.WalkKit
import Derived.Lib.Hide
import Derived.Lib.SlFresh
import Derived.Lib.SlBuf
import Derived.Lib.SlParts
import Derived.Laws.Tables
import Derived.Lib.ConvBytes
namespace Go.Proofs.YteljlnkjdajkgaaDoor
open Go.RowKit
set_option linter.unusedSimpArgs false

/-- An array of numbers, by value: its part i. -/
theorem run_index_arr {P : Program} (w : World) (t e : TypeId) (n : Nat) (k : IntKind) (cs : Array Value) (v : Value) (i : Nat) (ht : P.underlying t = some (.array n e)) (he : P.underlying e = some (.int k)) (hs : (P.info? e).map (·.size) = some 1) (hi : i < n) (hv : cs[i]? = some v) :
    (Instr.index t (.agg cs) (.int .i64 (i : Int))).run P w = .ok v w := by
  obtain ⟨ie, h1, h2⟩ := Option.map_eq_some_iff.1 hs
  simp [Instr.index, asIntOf, run_underlying ht, run_underlying he, hi, part, isAgg, sizeOf, typeInfo, h1, h2, hv]

/-- A composite of no part. -/
theorem wpList_build0 {P : Program} {ops : Array Oper} {rest : List Oper} {o : Oper} {a : Act} {w : World} {Q : Exit → Act → World → Prop} (hg : o.guard = none) (t : TypeId) (ho : o.op = .build t #[])
    (cs : Array Value) (hb : P.built t [] = some cs)
    (h : wpList P ops Q rest (a.put o.dst (.agg cs)) w) : wpList P ops Q (o :: rest) a w := by
  have e : ((#[] : Array (Nat × Operand)).map fun (p : Nat × Operand) => (p.1, a.eval p.2)).toList = [] := by simp
  refine wpList_build hg t #[] ho ?_ ?_
  · show (P.built t ((#[] : Array (Nat × Operand)).map fun (p : Nat × Operand) => (p.1, a.eval p.2)).toList).isSome = true
    rw [e, hb]; rfl
  · show wpList P ops Q rest (a.put o.dst (.agg ((P.built t ((#[] : Array (Nat × Operand)).map fun (p : Nat × Operand) => (p.1, a.eval p.2)).toList).getD #[]))) w
    rw [e, hb]; exact h

/-- The cells of bytes. -/
def byteCells (l : List UInt8) : List Value := l.map fun x => .int .u8 x.toNat
theorem byteCells_length (l : List UInt8) : (byteCells l).length = l.length := by simp [byteCells]
theorem byteCells_append (a b : List UInt8) : byteCells (a ++ b) = byteCells a ++ byteCells b := by simp [byteCells]
theorem byteCells_one (l : List UInt8) : ∀ u ∈ byteCells l, u.oneCell' = true := by
  intro u hu
  obtain ⟨_, _, rfl⟩ := List.mem_map.1 hu
  rfl
theorem byteCells_get {l : List UInt8} {i : Nat} {x : UInt8} (h : l[i]? = some x) : (byteCells l)[i]? = some (.int .u8 (x.toNat : Int)) := by simp [byteCells, h]

/-- Bytes as a string. -/
def strOf (l : List UInt8) : ByteArray := ⟨l.toArray⟩
theorem strOf_size (l : List UInt8) : (strOf l).size = l.length := by simp [strOf, ByteArray.size]
theorem strOf_list (l : List UInt8) : (strOf l).data.toList = l := by simp [strOf]
theorem strOf_toList (l : List UInt8) : (strOf l).toList = l := by rw [ByteArray.toList_eq, strOf_list]
theorem strOf_data (s : ByteArray) : strOf s.data.toList = s := by simp [strOf]
theorem strOf_extract (l : List UInt8) (a b : Nat) : (strOf l).extract a b = strOf ((l.drop a).take (b - a)) := by
  apply ByteArray.ext
  simp [strOf, ByteArray.data_extract]
theorem strOf_from (l : List UInt8) (a : Nat) : (strOf l).extract a l.length = strOf (l.drop a) := by
  rw [strOf_extract, List.take_of_length_le (by simp)]

theorem add_str (a b : List UInt8) : strOf a ++ strOf b = strOf (a ++ b) := by
  apply ByteArray.ext
  simp [strOf, ByteArray.data_append]

/-- The cells of a sum that is all 0. -/
def zero32 : Array Value := (byteCells (List.replicate 32 0)).toArray
theorem byteCells_set (l : List UInt8) (i : Nat) (x : UInt8) : (byteCells l).toArray.setIfInBounds i (.int .u8 (x.toNat : Int)) = (byteCells (l.set i x)).toArray := by
  simp [byteCells, List.map_set]
theorem range_row {w : World} {b : Nat} {cs : List Value} {t : TypeId} {fr : Nat × Nat} (h : w.heap[b]? = some (.cells cs.toArray t fr)) : w.rangeAt b 0 cs := by
  intro j v hv
  rw [Nat.zero_add]
  unfold World.cell?
  rw [h]
  simpa using hv

/-- The value v is a slice of the bytes l, of the call's own: its block stands from B on. -/
def Mine (w : World) (B : Nat) (v : Value) (l : List UInt8) : Prop :=
  (v = .slice none 0 0 ∧ l = []) ∨ ∃ g cap, v = .slice (some ⟨g, 0, none⟩) l.length cap ∧ B ≤ g ∧ (0 < cap → g < w.heap.size) ∧ l.length ≤ cap ∧ cap ≤ maxLen ∧ w.rangeAt g 0 (byteCells l) ∧ w.there g l.length (cap - l.length)

theorem Mine.nil (w : World) (B : Nat) : Mine w B (.slice none 0 0) [] := .inl ⟨rfl, rfl⟩

theorem Mine.mono {w : World} {B B' : Nat} {v : Value} {l : List UInt8} (h : Mine w B v l) (hB : B' ≤ B) : Mine w B' v l :=
  h.imp id fun ⟨g, cap, h1, h2, h3⟩ => ⟨g, cap, h1, Nat.le_trans hB h2, h3⟩

theorem Mine.kept {w w' : World} {B : Nat} {v : Value} {l : List UInt8} (h : Mine w B v l) (hs : w.heap.size ≤ w'.heap.size) (hb : ∀ k, v.ownBlock = some k → k < w.heap.size → w'.heap[k]? = w.heap[k]?) : Mine w' B v l := by
  rcases h with h | ⟨g, cap, rfl, h1, h2, h3, h4, h5, h6⟩
  · exact .inl h
  · refine .inr ⟨g, cap, rfl, h1, fun h0 => Nat.lt_of_lt_of_le (h2 h0) hs, h3, h4, fun j u hu => ?_, fun j hj => ?_⟩
    · have := (List.getElem?_eq_some_iff.1 hu).1
      rw [byteCells_length] at this
      have e := hb g rfl (h2 (by omega))
      rw [World.cell?_of_block (a := ⟨g, 0 + j, none⟩) e]; exact h5 j u hu
    · have e := hb g rfl (h2 (by omega))
      rw [World.cell?_of_block (a := ⟨g, l.length + j, none⟩) e, World.frozen?_of_block (a := ⟨g, l.length + j, none⟩) e]; exact h6 j hj

theorem Mine.lt {w : World} {B : Nat} {v : Value} {l : List UInt8} (h : Mine w B v l) : ∀ k, v.ownBlock = some k → B ≤ k := by
  intro k hk
  rcases h with ⟨rfl, _⟩ | ⟨g, cap, rfl, h1, _⟩
  · simp [Value.ownBlock] at hk
  · simp [Value.ownBlock] at hk
    subst hk
    exact h1

theorem Mine.below {w w' : World} {B : Nat} {v : Value} {l : List UInt8} (h : Mine w B v l) (hb : Below w.heap.size w w') : Mine w' B v l :=
  h.kept hb.size fun k _ hk => hb.block k hk

theorem Mine.alloc {w : World} {B : Nat} {v : Value} {l : List UInt8} (h : Mine w B v l) (o : Obj) : Mine (w.alloc o) B v l :=
  h.below ((Below.refl _ _).alloc (Nat.le_refl _) _)

theorem Mine.of_own {w : World} {B : Nat} {e : TypeId} {v : Value} {n : Nat} {l : List UInt8} (h : w.ownsRow B e 1 v n (byteCells l)) : Mine w B v l := by
  have hl := h.1
  rw [byteCells_length, Nat.mul_one] at hl
  subst hl
  have hcell := fun g hg => h.cells (g := g) hg
  rcases h.2 with ⟨rfl, h0⟩ | ⟨g, cap, cur, rfl, hb, hg, hnc, hcm, hcs, _⟩
  · exact .inl ⟨rfl, List.eq_nil_of_length_eq_zero h0⟩
  · refine .inr ⟨g, cap, rfl, hb, fun _ => (Array.getElem?_eq_some_iff.1 hg).1, hnc, hcm, fun j u hu => ?_, fun j hj => ?_⟩
    · have := hcell g rfl j u hu
      rw [Addr.add_mid] at this; exact this
    · have hlt : l.length + j < cur.size := by omega
      simp [World.cell?, World.frozen?, hg, hlt]

theorem setCells_size (g : Nat) : ∀ (vs : List Value) (o : Nat) (w : World), (w.setCells g o vs).heap.size = w.heap.size
  | [], _, _ => rfl
  | _ :: r, o, w => by
    show ((w.setCell _ _).setCells g (o + 1) r).heap.size = _
    rw [setCells_size g r]; simp

theorem Below.setCells' {B g : Nat} (hg : B ≤ g) : ∀ (vs : List Value) (o : Nat) (w : World), Below B w (w.setCells g o vs)
  | [], _, w => Below.refl _ w
  | v :: r, o, w => ((Below.refl B w).setCell (p := ⟨g, o, none⟩) hg v).trans (Below.setCells' hg r (o + 1) _)

theorem below_setRow' {B b : Nat} {w w' : World} {cs : Array Value} (h : Below B w w') (hb : B ≤ b) : Below B w (w'.setRow b cs) :=
  ⟨h.os, h.tape, h.output, by simpa [World.setRow] using h.size, fun k hk => by rw [setRow_other _ _ _ _ (by omega)]; exact h.block k hk⟩

/-- ONE BYTE MORE, or several, that lie somewhere. -/
theorem Mine.push {P : Program} {t ty e : TypeId} {i : TypeInfo} {z : Value} (ht : P.underlying t = some (.slice e)) (hi : P.info? e = some i) (hz : i.zero = some z) (hs : i.size = 1) (hby : i.bytes = 1) (hzs : z.cells.size = 1)
    {W : World} {B : Nat} {v : Value} {l : List UInt8} (h : Mine W B v l) (hB : B ≤ W.heap.size) (news : List UInt8) (hpos : 0 < news.length) (hl : l.length + news.length ≤ 140737488355328) (a : Addr) (c : Nat) (hx : ∀ j u, (byteCells news)[j]? = some u → W.cell? (a.add j) = some u) :
    ∃ v' w', (Builtin.append_ #[t, t] ty #[v, .slice (some a) news.length c]).run P W = .ok v' w' ∧ Mine w' B v' (l ++ news) ∧ Below B W w' ∧ ∃ g cap, v' = .slice (some ⟨g, 0, none⟩) (l ++ news).length cap := by
  have fin : ∀ (v' : Value) (w' : World), w'.ownsRow B e 1 v' (l.length + news.length) (byteCells (l ++ news)) → ∃ g cap, v' = .slice (some ⟨g, 0, none⟩) (l ++ news).length cap := by
    intro v' w' ho
    rcases ho.2 with ⟨_, h0⟩ | ⟨g, cap, _, rfl, _⟩
    · omega
    · exact ⟨g, cap, by rw [List.length_append]⟩
  rcases h with ⟨rfl, rfl⟩ | ⟨g, cap, rfl, hg, hlt, hle, hm, hr, hth⟩
  · obtain ⟨v', w', h1, h2, h3, _⟩ := run_append_own (P := P) W B t ty e i z 1 1 ht hi hz hs hby hzs (by decide) (.slice none 0 0) 0 [] (World.ownsRow_nil _ _ _ _) a news.length c (byteCells news) (by rw [byteCells_length, Nat.mul_one]) hx (byteCells_one _) (by unfold maxLen; simp at hl; omega) (by simp at hl; omega) hB
    rw [List.nil_append] at h2
    refine ⟨v', w', h1, Mine.of_own h2, (Below.refl _ _).grown h3 hB (fun k hk => by simp [Value.ownBlock] at hk), fin v' w' ?_⟩
    simpa using h2
  · by_cases hroom : l.length + news.length ≤ cap
    · have hr1 := run_append_room_cells (P := P) W t ty e i ht hi g 0 l.length cap a news.length c (byteCells news) (by rw [byteCells_length, hs, Nat.mul_one]) hx (byteCells_one _) hroom
        (fun j hj => by rw [byteCells_length] at hj; have := (hth j (by omega)).1; rw [hs]; simpa using this) (fun j hj => by rw [byteCells_length] at hj; have := (hth j (by omega)).2; rw [hs]; simpa using this)
      rw [hs, Nat.zero_add, Nat.mul_one] at hr1
      refine ⟨_, _, hr1, .inr ⟨g, cap, by rw [List.length_append], hg, fun h0 => by rw [setCells_size]; exact hlt h0, by rw [List.length_append]; exact hroom, hm, fun j u hu => ?_, fun j hj => ?_⟩, Below.setCells' hg _ _ _, ⟨g, cap, by rw [List.length_append]⟩⟩
      · rw [byteCells_append] at hu
        by_cases hj : j < l.length
        · rw [List.getElem?_append_left (by rw [byteCells_length]; exact hj)] at hu
          rw [World.cell?_setCells_out _ _ _ _ _ (fun _ _ => by simp only; omega)]
          exact hr j u hu
        · rw [List.getElem?_append_right (by rw [byteCells_length]; omega), byteCells_length] at hu
          have hjl := (List.getElem?_eq_some_iff.1 hu).1
          have := World.cell?_setCells_in g (byteCells news) l.length W (fun j hj => (hth j (by rw [byteCells_length] at hj; omega)).1) (j - l.length) hjl
          rw [show 0 + j = l.length + (j - l.length) by omega, this]
          rw [List.getElem?_eq_getElem hjl] at hu; exact hu
      · rw [List.length_append] at hj
        rw [World.frozen?_setCells, World.cell?_setCells_out _ _ _ _ _ (fun _ _ => by simp only [List.length_append, byteCells_length]; omega)]
        have := hth (news.length + j) (by omega)
        rw [List.length_append, Nat.add_assoc]; exact this
    · obtain ⟨v', w', h1, h2, h3⟩ := run_append_arg_grows (P := P) W t ty e i z 1 1 ht hi hz hs hby hzs (by decide) ⟨g, 0, none⟩ l.length cap (byteCells l) (by rw [byteCells_length, Nat.mul_one]) (fun j u hu => by rw [Addr.add_mid]; exact hr j u hu)
        a news.length c (byteCells news) (by rw [byteCells_length, Nat.mul_one]) hx (by omega) (by unfold maxLen; omega) (by omega)
      rw [← byteCells_append] at h2
      have h2' : w'.ownsRow B e 1 v' (l.length + news.length) (byteCells (l ++ news)) := ⟨h2.1, h2.2.imp id fun ⟨g, cap, cur, a1, a2, a3⟩ => ⟨g, cap, cur, a1, Nat.le_trans hB a2, a3⟩⟩
      exact ⟨v', w', h1, Mine.of_own h2', (Below.refl _ _).grown h3 hB (fun k hk => by cases hk), fin v' w' h2'⟩

theorem Mine.fresh {w : World} {B : Nat} {v : Value} {l : List UInt8} (h : Lib.FreshBytes B w v l) : Mine w B v l := by
  obtain ⟨g, cap, zs, rfl, hB, hle, hm, hzl, hz, hb, hc, hf⟩ := h
  refine .inr ⟨g, cap, rfl, hB, fun h0 => World.block_lt_of_cell? w ⟨g, 0, none⟩ (hc 0 h0), hle, hm, fun j u hu => ?_, fun j hj => ?_⟩
  · have hjl := (List.getElem?_eq_some_iff.1 hu).1
    rw [byteCells_length] at hjl
    rw [Nat.zero_add, hc j (by omega), ← hu]
    have hl : l[j]? = some (UInt8.ofNat (zs.getD j 0).toNat) := by
      have e : (Lib.bytesOf (zs.take l.length))[j]? = some (UInt8.ofNat (zs.getD j 0).toNat) := by
        unfold Lib.bytesOf
        rw [List.getElem?_map, List.getElem?_take, if_pos hjl, List.getD_eq_getElem?_getD, List.getElem?_eq_getElem (by omega)]; rfl
      rwa [hb] at e
    rw [byteCells_get hl]
    have := hz (zs.getD j 0) (by rw [List.getD_eq_getElem?_getD, List.getElem?_eq_getElem (by omega)]; exact List.getElem_mem _)
    congr 2
    rw [UInt8.toNat_ofNat']
    omega
  · rw [hf _ (by omega), hc _ (by omega)]; simp

theorem Mine.form {w : World} {B : Nat} {v : Value} {l : List UInt8} (h : Mine w B v l) : ∃ a cap, v = .slice a l.length cap := by
  rcases h with ⟨rfl, rfl⟩ | ⟨g, cap, rfl, _⟩
  · exact ⟨none, 0, rfl⟩
  · exact ⟨_, cap, rfl⟩

/-- 'string(b)'. -/
theorem Mine.string {P : Program} {src dst e : TypeId} (h1 : P.underlying src = some (.slice e)) (h2 : P.underlying e = some (.int .u8)) (h3 : P.underlying dst = some .string) {w : World} {B : Nat} {v : Value} {l : List UInt8} (h : Mine w B v l) :
    (convert src dst v).run P w = .ok (.string (strOf l)) w := by
  rcases h with ⟨rfl, rfl⟩ | ⟨g, cap, rfl, _, _, _, _, hr, _⟩
  · rw [run_convert_bytes_string w _ _ _ _ _ _ h1 h2 h3]
    simp [Conv.bytesToString]
    rfl
  · refine run_convert_bytes_back w _ _ _ _ _ l h1 h2 h3 ?_
    intro j hj
    rw [Addr.add_mid]
    exact hr j _ (by simp [byteCells, hj])

/-- '[]byte(s)': a new slice. -/
theorem str_bytes {P : Program} {src dst e : TypeId} (hs : P.underlying src = some .string) (hd : P.underlying dst = some (.slice e)) (he : P.underlying e = some (.int .u8)) (w : World) (l : List UInt8) (hl : l.length ≤ 9223372036854775807) :
    ∃ cap W, (convert src dst (.string (strOf l))).run P w = .ok (.slice (some ⟨w.heap.size, 0, none⟩) l.length cap) W ∧ Mine W w.heap.size (.slice (some ⟨w.heap.size, 0, none⟩) l.length cap) l ∧ Below w.heap.size w W ∧ w.heap.size < W.heap.size := by
  have hr := Lib.run_convert_string_bytes (P := P) w src dst e (strOf l) hs hd he
  rw [strOf_size] at hr
  have hge := grownCap_ge w l.length 0 e
  have hcm := grownCap_le_maxLen w l.length 0 e (by unfold maxLen; omega)
  have hnew := Lib.bytesWorld_at_new w e (strOf l)
  have hcells : Lib.bytesCells w e (strOf l) = (byteCells l).toArray ++ Array.replicate (grownCap w l.length 0 e - l.length) (.int .u8 0) := by
    unfold Lib.bytesCells
    rw [strOf_size]
    congr 1
    apply Array.ext'
    simp [strOf, byteCells]
  rw [hcells] at hnew
  refine ⟨_, _, hr, .inr ⟨w.heap.size, _, rfl, Nat.le_refl _, fun _ => by rw [Lib.bytesWorld_size]; omega, hge, hcm, fun j u hu => ?_, fun j hj => ?_⟩, ⟨rfl, rfl, rfl, by rw [Lib.bytesWorld_size]; omega, fun k hk => Lib.bytesWorld_at_old w e _ k hk⟩, by rw [Lib.bytesWorld_size]; omega⟩
  · have hj := (List.getElem?_eq_some_iff.1 hu).1
    rw [byteCells_length] at hj
    simp only [World.cell?, hnew, Nat.zero_add]
    rw [Array.getElem?_append_left (by rw [List.size_toArray, byteCells_length]; exact hj)]
    simpa using hu
  · refine ⟨?_, ?_⟩
    · simp only [World.cell?, hnew]
      rw [Array.getElem?_eq_getElem (by simp [byteCells_length]; omega)]; rfl
    · simp only [World.frozen?, hnew]
      simp [byteCells_length]
      omega

/-- What bytes.Join takes. -/
def PartsV (w : World) (v : Value) (ls : List (List UInt8)) : Prop :=
  ∃ p c, v = .slice p ls.length c ∧ ls.length ≤ c ∧ (0 < ls.length → ∃ b o vs, p = some ⟨b, o, none⟩ ∧ Lib.PartsAt w ⟨b, o, none⟩ vs ls)

theorem PartsV.below {w w' : World} {v : Value} {ls : List (List UInt8)} (h : PartsV w v ls) (hb : Below w.heap.size w w') : PartsV w' v ls := by
  obtain ⟨p, c, h1, h2, h3⟩ := h
  refine ⟨p, c, h1, h2, fun h0 => ?_⟩
  obtain ⟨b, o, vs, h4, h5, h6, h7⟩ := h3 h0
  refine ⟨b, o, vs, h4, h5, fun i v hv => Lib.Below.cellOf hb (h6 i v hv) (Nat.le_refl _), fun i v l hv hl => ?_⟩
  obtain ⟨q, cap, h8, h9, h10⟩ := h7 i v l hv hl
  exact ⟨q, cap, h8, h9, fun a ha j x hx => Lib.Below.cellOf hb (h10 a ha j x hx) (Nat.le_refl _)⟩

end Go.Proofs.YteljlnkjdajkgaaDoor
