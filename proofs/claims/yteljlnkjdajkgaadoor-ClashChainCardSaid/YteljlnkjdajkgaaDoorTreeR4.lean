/- Rows copied; the walks of the reference's Prove, Same, Few. -/
import Derived.Test.YteljlnkjdajkgaaDoorTreeR3
import Derived.ArgAppend
namespace Go.Proofs.YteljlnkjdajkgaaDoor
open Go.RowKit
set_option linter.unusedSimpArgs false
set_option linter.unusedVariables false

/-- 'append(x, ..)' of nothing to nothing. -/
theorem run_append_zero {P : Program} (w : World) (t ty e : TypeId) (i : TypeInfo) (z : Value) (ht : P.underlying t = some (.slice e)) (hi : P.info? e = some i) (hz : i.zero = some z) (b : Addr) (o : Option Addr) (c : Nat) :
    (Builtin.append_ #[t, t] ty #[.slice (some b) 0 0, .slice o 0 c]).run P w = .ok (.slice (some b) 0 0) w := by
  rcases o with _ | a
  · have hf := run_firstCells_none (P := P) w i.size
    simp [Builtin.append_, run_underlying ht, sizeOf, typeInfo, hi, hz, Builtin.lenOf, Builtin.firstCells, storeCells]
  · have hf := run_firstCells_some (P := P) w i.size 0 a 0 c [] (by simp) (by simp)
    simp [Builtin.append_, run_underlying ht, sizeOf, typeInfo, hi, hz, Builtin.lenOf, hf, storeCells]

/-- 'append([]T{}, row...)': the row anew. -/
theorem run_copy_row {P : Program} (w : World) (t ty e : TypeId) (i : TypeInfo) (z : Value) (size bytes : Nat) (ht : P.underlying t = some (.slice e)) (hi : P.info? e = some i) (hz : i.zero = some z) (hsize : i.size = size) (hby : i.bytes = bytes) (hzs : z.cells.size = size) (hsz : 0 < size)
    (b : Addr) (o : Option Addr) (m c : Nat) (news : List Value) (hl : news.length = m * size) (hnews : 0 < m → ∃ a, o = some a ∧ ∀ j u, news[j]? = some u → w.cell? (a.add j) = some u) (b1 : m ≤ maxLen) (b2 : m * bytes ≤ 140737488355328) :
    ∃ q cc w', (Builtin.append_ #[t, t] ty #[.slice (some b) 0 0, .slice o m c]).run P w = .ok (.slice (some q) m cc) w' ∧ m ≤ cc ∧ cc ≤ maxLen ∧ Below w.heap.size w w' ∧ (0 < m → ∃ g, q = ⟨g, 0, none⟩ ∧ g < w'.heap.size ∧ w'.rangeAt g 0 news) := by
  rcases Nat.eq_zero_or_pos m with rfl | hm
  · exact ⟨b, 0, w, run_append_zero w t ty e i z ht hi hz b o c, Nat.le_refl _, by decide, Below.refl _ _, fun h => absurd h (by decide)⟩
  · obtain ⟨a, rfl, hn⟩ := hnews hm
    obtain ⟨v', w', h1, h2, h3⟩ := run_append_arg_grows w t ty e i z size bytes ht hi hz hsize hby hzs hsz b 0 0 [] (by simp) (by simp) a m c news hl hn (by omega) (by omega) (by rw [Nat.zero_add]; exact b2)
    rw [Nat.zero_add, List.nil_append] at h2
    have hcell := fun g hg => h2.cells (g := g) hg
    rcases h2.2 with ⟨_, h0⟩ | ⟨g, cap, cur, rfl, hb, hg, hnc, hcm, _⟩
    · omega
    · refine ⟨⟨g, 0, none⟩, cap, w', h1, hnc, hcm, grown_below h3 (fun k hk => by cases hk) (Nat.le_refl _), fun _ => ⟨g, rfl, lt_of_block hg, fun j u hu => ?_⟩⟩
      have := hcell g rfl j u hu
      rw [Addr.add_mid] at this; exact this

theorem sCells_get (L : List (List UInt8)) (i : Nat) (l : List UInt8) (h : L[i]? = some l) : (L.map fun l => Value.string (strOf l))[i]? = some (.string (strOf l)) := by simp [h]

theorem Tryd.under_strs : Tryd.prog.underlying 24 = some (.slice 9) := by kernel_rfl
theorem Tryd.info_string : (Tryd.prog.info? 9).map (fun i => (i.zero, i.size, i.bytes)) = some (some (.string ⟨#[]⟩), 1, 16) := by kernel_rfl

theorem StrsAt.copy {w : World} {o : Option Addr} {m c : Nat} {L : List (List UInt8)} (h : StrsAt w o m c L) (hm : m ≤ 1000000) (b : Addr) :
    ∃ q cc w', (Builtin.append_ #[24, 24] 24 #[.slice (some b) 0 0, .slice o m c]).run Tryd.prog w = .ok (.slice (some q) m cc) w' ∧ StrsAt w' (some q) m cc L ∧ Below w.heap.size w w' := by
  obtain ⟨i, hi, hz0, hz1, hz2⟩ := info_parts Tryd.info_string
  have hlen := h.len
  obtain ⟨q, cc, w', h1, h2, h3, h4, h5⟩ := run_copy_row (P := Tryd.prog) w 24 24 9 i (.string ⟨#[]⟩) 1 16 Tryd.under_strs hi hz0 hz1 hz2 rfl (by decide) b o m c (L.map fun l => .string (strOf l)) (by rw [List.length_map, hlen, Nat.mul_one]) (fun h0 => by
    obtain ⟨b', off, rfl⟩ := h.form h0
    refine ⟨_, rfl, fun j u hu => ?_⟩
    rw [List.getElem?_map] at hu
    obtain ⟨l, hl, rfl⟩ := Option.map_eq_some_iff.1 hu
    rw [Addr.add_mid]
    exact h.get hl) (by unfold maxLen; omega) (by omega)
  refine ⟨q, cc, w', h1, ⟨hlen, h2, h3, fun h0 => ?_⟩, h4⟩
  obtain ⟨g, rfl, hg, hr⟩ := h5 h0
  refine ⟨g, 0, rfl, hg, fun i l hl => ?_⟩
  intro j u hu
  match j, hu with
  | 0, hu =>
    obtain rfl := Option.some.inj hu
    have := hr i _ (sCells_get L i l hl)
    simpa using this

theorem hashCells_len {d : List (List UInt8)} (h : ∀ p ∈ d, p.length = 32) : (hashCells d).length = d.length * 32 := by
  induction d with
  | nil => rfl
  | cons a d ih =>
    have h1 := h a (by simp)
    have h2 := ih fun p hp => h p (by simp [hp])
    rw [show a :: d = [a] ++ d from rfl, hashCells_app, hashCells_one, List.length_append, h2, byteCells_length, h1]
    simp; omega

theorem hashCells_get {d : List (List UInt8)} (h : ∀ p ∈ d, p.length = 32) {i : Nat} {p : List UInt8} (hp : d[i]? = some p) : ∀ j u, (byteCells p)[j]? = some u → (hashCells d)[i * 32 + j]? = some u := by
  induction d generalizing i with
  | nil => simp at hp
  | cons a d ih =>
    intro j u hu
    have h1 := h a (by simp)
    rw [show a :: d = [a] ++ d from rfl, hashCells_app, hashCells_one]
    have hj := (List.getElem?_eq_some_iff.1 hu).1
    rw [byteCells_length] at hj
    rcases i with _ | i
    · rw [List.getElem?_cons_zero, Option.some.injEq] at hp
      subst hp
      rw [List.getElem?_append_left (by rw [byteCells_length]; omega)]
      simpa using hu
    · rw [List.getElem?_cons_succ] at hp
      rw [List.getElem?_append_right (by rw [byteCells_length]; omega), byteCells_length, h1]
      have := ih (fun p hp => h p (by simp [hp])) hp j u hu
      rwa [show (i + 1) * 32 + j - 32 = i * 32 + j by omega]

theorem hashCells_at {w : World} {b off : Nat} {d : List (List UInt8)} (h : ∀ i p, d[i]? = some p → w.rangeAt b (off + i * 32) (byteCells p)) (h32 : ∀ p ∈ d, p.length = 32) : ∀ j u, (hashCells d)[j]? = some u → w.cell? ⟨b, off + j, none⟩ = some u := by
  intro j u hu
  have hj := (List.getElem?_eq_some_iff.1 hu).1
  rw [hashCells_len h32] at hj
  obtain ⟨p, hp⟩ : ∃ p, d[j / 32]? = some p := ⟨_, List.getElem?_eq_getElem (by omega)⟩
  have hpl := h32 p (List.mem_of_getElem? hp)
  obtain ⟨v, hv⟩ : ∃ v, (byteCells p)[j % 32]? = some v := ⟨_, List.getElem?_eq_getElem (by rw [byteCells_length]; omega)⟩
  have h1 := hashCells_get h32 hp (j % 32) v hv
  rw [show j / 32 * 32 + j % 32 = j by omega] at h1
  obtain rfl := Option.some.inj (h1.symm.trans hu)
  have := h _ p hp (j % 32) v hv
  rwa [show off + j / 32 * 32 + j % 32 = off + j by omega] at this

theorem HashesAt.copy {w : World} {o : Option Addr} {m c : Nat} {L : List (List UInt8)} (h : HashesAt w o m c L) (hm : m ≤ 1000000) (b : Addr) :
    ∃ q cc w', (Builtin.append_ #[22, 22] 22 #[.slice (some b) 0 0, .slice o m c]).run Tryd.prog w = .ok (.slice (some q) m cc) w' ∧ HashesAt w' (some q) m cc L ∧ Below w.heap.size w w' := by
  obtain ⟨i, hi, hz0, hz1, hz2⟩ := info_parts Tryd.info_hs
  have hlen := h.1.1
  obtain ⟨q, cc, w', h1, h2, h3, h4, h5⟩ := run_copy_row (P := Tryd.prog) w 22 22 39 i (.agg zero32) 32 32 Tryd.under_hs hi hz0 hz1 hz2 zero32_size (by decide) b o m c (hashCells L) (by rw [hashCells_len h.2, hlen]) (fun h0 => by
    obtain ⟨b', off, rfl⟩ := h.form h0
    refine ⟨_, rfl, fun j u hu => ?_⟩
    rw [Addr.add_mid]
    exact hashCells_at (fun i p hp => (h.get hp).2) h.2 j u hu) (by unfold maxLen; omega) (by omega)
  refine ⟨q, cc, w', h1, ⟨⟨hlen, h2, h3, fun h0 => ?_⟩, h.2⟩, h4⟩
  obtain ⟨g, rfl, hg, hr⟩ := h5 h0
  refine ⟨g, 0, rfl, hg, fun i p hp j u hu => ?_⟩
  have := hr _ _ (hashCells_get h.2 hp j u hu)
  rwa [show 0 + (i * 32 + j) = 0 + i * 32 + j by omega] at this

/-- A row of the call's own, as one that came in. -/
theorem HashesAt.of_owns {w : World} {base c : Nat} {q : Option Addr} {d : List (List UInt8)} (h : w.ownsRow base 39 32 (.slice q d.length c) d.length (hashCells d)) (h32 : ∀ p ∈ d, p.length = 32) : HashesAt w q d.length c d := by
  have hcell := fun g hg => h.cells (g := g) hg
  rcases h.2 with ⟨hv, h0⟩ | ⟨g, cap, cur, hv, hb, hg, hnc, hcm, _⟩
  · simp only [Value.slice.injEq] at hv
    obtain ⟨rfl, h1, rfl⟩ := hv
    exact ⟨⟨rfl, by omega, by decide, fun h => by omega⟩, h32⟩
  · simp only [Value.slice.injEq, true_and] at hv
    obtain ⟨rfl, rfl⟩ := hv
    refine ⟨⟨rfl, hnc, hcm, fun _ => ⟨g, 0, rfl, lt_of_block hg, fun i p hp j u hu => ?_⟩⟩, h32⟩
    have := hcell g rfl _ u (hashCells_get h32 hp j u hu)
    rw [Addr.add_mid] at this
    rwa [show 0 + (i * 32 + j) = 0 + i * 32 + j by omega] at this

theorem Tree.prove_32 (N : Nat) : ∀ (l : List (List UInt8)) (i : Nat), l.length = N → ∀ p ∈ Tree.prove l i, p.length = 32 := by
  induction N using Nat.strongRecOn with
  | ind N ih =>
    intro l i hl p hp
    by_cases h : 2 ≤ l.length
    · have h1 := Tree.half_pos h
      have h2 := Tree.half_lt h
      by_cases hi : i < Tree.half l.length
      · rw [Tree.prove_left h hi] at hp
        rcases List.mem_append.1 hp with hp | hp
        · exact ih (Tree.half l.length) (by omega) (l.take (Tree.half l.length)) i (by rw [List.length_take]; omega) p hp
        · obtain rfl := List.mem_singleton.1 hp; exact Tree.top_len _
      · rw [Tree.prove_right h hi] at hp
        rcases List.mem_append.1 hp with hp | hp
        · exact ih (l.length - Tree.half l.length) (by omega) (l.drop (Tree.half l.length)) (i - Tree.half l.length) (by rw [List.length_drop]) p hp
        · obtain rfl := List.mem_singleton.1 hp; exact Tree.top_len _
    · rw [Tree.prove_small h] at hp; cases hp

theorem owns_mono {w : World} {B B' : Nat} {e size : Nat} {v : Value} {n : Nat} {xs : List Value} (h : w.ownsRow B e size v n xs) (hB : B' ≤ B) : w.ownsRow B' e size v n xs :=
  ⟨h.1, h.2.imp id fun ⟨g, cap, cur, h1, h2, h3⟩ => ⟨g, cap, cur, h1, Nat.le_trans hB h2, h3⟩⟩

/-- What the region's operations leave. -/
def rpL (B b off n cap k i : Nat) (L R : List (List UInt8)) (ix : Nat) (w : World) (v : Value) : Prop :=
  match ix with
  | 0 => v = .slice (some ⟨b, off, none⟩) n cap
  | 1 => v = .int .i64 (k : Int)
  | 2 => v = (.slice (some ⟨b, off, none⟩) k cap)
  | 3 => v = .int .i64 (i : Int)
  | 4 => ∃ q c, v = .slice q R.length c ∧ w.ownsRow B 39 32 (.slice q R.length c) R.length (hashCells R)
  | 5 => v = .slice (some ⟨b, off, none⟩) n cap
  | 6 => v = .int .i64 (k : Int)
  | 7 => v = (.slice (some ⟨b, off + k, none⟩) (n - k) (cap - k))
  | 8 => v = .agg (byteCells (Tree.top (L.drop k))).toArray
  | 9 => ∃ g, v = .slice (some ⟨g, 0, none⟩) 1 1 ∧ w.heap[g]? = some (.cells (byteCells (Tree.top (L.drop k))).toArray 39 (0, 0))
  | _ => True

theorem rpL_mono (B b off n cap k i : Nat) (L R : List (List UInt8)) (jx : Nat) (w w' : World) (v : Value) (hb : Below w.heap.size w w') (h : rpL B b off n cap k i L R jx w v) : rpL B b off n cap k i L R jx w' v := by
  match jx, h with
  | 0, h => exact h
  | 1, h => exact h
  | 2, h => exact h
  | 3, h => exact h
  | 4, h => exact (let ⟨q, c, h1, h2⟩ := h; ⟨q, c, h1, owns_below h2 hb⟩)
  | 5, h => exact h
  | 6, h => exact h
  | 7, h => exact h
  | 8, h => exact h
  | 9, h => exact (let ⟨g, h1, h2⟩ := h; ⟨g, h1, (hb.block g (lt_of_block h2)).trans h2⟩)
  | _ + 10, h => exact trivial

/-- What the region's operations leave. -/
def rpR (B b off n cap k i : Nat) (L R : List (List UInt8)) (ix : Nat) (w : World) (v : Value) : Prop :=
  match ix with
  | 0 => v = .slice (some ⟨b, off, none⟩) n cap
  | 1 => v = .int .i64 (k : Int)
  | 2 => v = (.slice (some ⟨b, off + k, none⟩) (n - k) (cap - k))
  | 3 => v = .int .i64 (i : Int)
  | 4 => v = .int .i64 (k : Int)
  | 5 => v = .int .i64 ((i - k : Nat) : Int)
  | 6 => ∃ q c, v = .slice q R.length c ∧ w.ownsRow B 39 32 (.slice q R.length c) R.length (hashCells R)
  | 7 => v = .slice (some ⟨b, off, none⟩) n cap
  | 8 => v = .int .i64 (k : Int)
  | 9 => v = (.slice (some ⟨b, off, none⟩) k cap)
  | 10 => v = .agg (byteCells (Tree.top (L.take k))).toArray
  | 11 => ∃ g, v = .slice (some ⟨g, 0, none⟩) 1 1 ∧ w.heap[g]? = some (.cells (byteCells (Tree.top (L.take k))).toArray 39 (0, 0))
  | _ => True

theorem rpR_mono (B b off n cap k i : Nat) (L R : List (List UInt8)) (jx : Nat) (w w' : World) (v : Value) (hb : Below w.heap.size w w') (h : rpR B b off n cap k i L R jx w v) : rpR B b off n cap k i L R jx w' v := by
  match jx, h with
  | 0, h => exact h
  | 1, h => exact h
  | 2, h => exact h
  | 3, h => exact h
  | 4, h => exact h
  | 5, h => exact h
  | 6, h => exact (let ⟨q, c, h1, h2⟩ := h; ⟨q, c, h1, owns_below h2 hb⟩)
  | 7, h => exact h
  | 8, h => exact h
  | 9, h => exact h
  | 10, h => exact h
  | 11, h => exact (let ⟨g, h1, h2⟩ := h; ⟨g, h1, (hb.block g (lt_of_block h2)).trans h2⟩)
  | _ + 12, h => exact trivial

theorem hash_neq (w : World) (a b : List UInt8) (ha : a.length = 32) (hb : b.length = 32) :
    (binOp .neq 39 (.agg (byteCells a).toArray) (.agg (byteCells b).toArray)).run Tryd.prog w = .ok (.bool (!(a == b))) w := by
  have h := run_equalIn_bytes (P := Tryd.prog) w 9998 39 5 32 Tryd.under_hh Tryd.under_bb Tryd.size_bb a b ha hb
  rw [run_neq_struct]
  exact (congrArg (fun r => Result.andThen r fun b w' => Result.ok (Value.bool (!b)) w') h).trans rfl

theorem wpList_neq_hash {ops : Array Oper} {rest : List Oper} {op : Oper} {a : Act} {w : World} {Q : Exit → Act → World → Prop} (hgd : Region.wanted op (yielded ops a.tmps) = true) (x y : Operand) (ho : op.op = .binOp .neq 39 x y 39)
    (u v : List UInt8) (hu : u.length = 32) (hv : v.length = 32) (hx : a.eval x = .agg (byteCells u).toArray) (hy : a.eval y = .agg (byteCells v).toArray)
    (h : wpList Tryd.prog ops Q rest (a.put op.dst (.bool (!(u == v)))) w) : wpList Tryd.prog ops Q (op :: rest) a w :=
  wpList_step fun K hK => by
    rw [if_pos hgd]
    have hg := run_eqGuard_agg (P := Tryd.prog) w .neq 39 x y (byteCells u).toArray (byteCells v).toArray Tryd.eqg_hh
    have he := hash_neq w u v hu hv
    unfold Oper.wp execOp
    simp only [ho, hx, hy, Sem.run_bind, hg, he, Result.andThen_ok, Sem.run_pure]
    exact hK _ _ h

/-- What the region's operations leave. -/
def sameV (b off n cap b' off' cap' j : Nat) (p q : List UInt8) (ix : Nat) (w : World) (v : Value) : Prop :=
  match ix with
  | 0 => v = .slice (some ⟨b, off, none⟩) n cap
  | 1 => v = .int .i64 (j : Int)
  | 2 => v = .pointer (some ⟨b, off + j * 32, none⟩)
  | 3 => v = .agg (byteCells p).toArray
  | 4 => v = .slice (some ⟨b', off', none⟩) n cap'
  | 5 => v = .int .i64 (j : Int)
  | 6 => v = .pointer (some ⟨b', off' + j * 32, none⟩)
  | 7 => v = .agg (byteCells q).toArray
  | 8 => v = .bool (!(p == q))
  | _ => True

theorem sameV_mono (b off n cap b' off' cap' j : Nat) (p q : List UInt8) (jx : Nat) (w w' : World) (v : Value) (hb : Below w.heap.size w w') (h : sameV b off n cap b' off' cap' j p q jx w v) : sameV b off n cap b' off' cap' j p q jx w' v := by
  match jx, h with
  | 0, h => exact h
  | 1, h => exact h
  | 2, h => exact h
  | 3, h => exact h
  | 4, h => exact h
  | 5, h => exact h
  | 6, h => exact h
  | 7, h => exact h
  | 8, h => exact h
  | _ + 9, h => exact trivial

/-- The leaves aren't too many or long. -/
def few (L : List (List UInt8)) : Bool := L.all (fun l => decide (l.length ≤ 200)) && decide (L.length ≤ 20)

theorem few_spec {L : List (List UInt8)} (h : few L = true) : L.length ≤ 20 ∧ ∀ l ∈ L, l.length ≤ 200 := by
  unfold few at h
  rw [Bool.and_eq_true, List.all_eq_true] at h
  exact ⟨of_decide_eq_true h.2, fun l hl => of_decide_eq_true (h.1 l hl)⟩

end Go.Proofs.YteljlnkjdajkgaaDoor
