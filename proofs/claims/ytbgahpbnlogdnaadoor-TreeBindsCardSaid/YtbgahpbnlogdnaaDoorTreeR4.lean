/- Rows copied; the walks of the reference's Prove, Same, Few. -/
import Derived.Test.YtbgahpbnlogdnaaDoorTreeR3
import Derived.ArgAppend
namespace Go.Proofs.YtbgahpbnlogdnaaDoor
open Go.RowKit
set_option linter.unusedSimpArgs false
set_option linter.unusedVariables false

/-- 'append(x, ..)' of nothing to nothing. -/
theorem run_append_zero {P : Program} (w : World) (t ty e : TypeId) (i : TypeInfo) (z : Value) (ht : P.underlying t = some (.slice e)) (hi : P.info? e = some i) (hz : i.zero = some z) (b : Addr) (o : Option Addr) (c : Nat) :
    (Builtin.append_ #[t, t] ty #[.slice (some b) 0 0, .slice o 0 c]).run P w = .ok (.slice (some b) 0 0) w := by
  rcases o with _ | a
  · have hf := run_firstCells_none (P := P) w i.size
    simp [Builtin.append_, run_underlying ht, sizeOf, typeInfo, hi, hz, Builtin.lenOf, Builtin.firstCells, storeCells]
  · have hf := run_firstCells_some (P := P) w i.size 0 a 0 c [] (by simp) (by simp)
    simp [Builtin.append_, run_underlying ht, sizeOf, typeInfo, hi, hz, Builtin.lenOf, hf, storeCells]

/-- 'append([]T{}, row...)': the row anew. -/
theorem run_copy_row {P : Program} (w : World) (t ty e : TypeId) (i : TypeInfo) (z : Value) (size bytes : Nat) (ht : P.underlying t = some (.slice e)) (hi : P.info? e = some i) (hz : i.zero = some z) (hsize : i.size = size) (hby : i.bytes = bytes) (hzs : z.cells.size = size) (hsz : 0 < size)
    (b : Addr) (o : Option Addr) (m c : Nat) (news : List Value) (hl : news.length = m * size) (hnews : 0 < m → ∃ a, o = some a ∧ ∀ j u, news[j]? = some u → w.cell? (a.add j) = some u) (b1 : m ≤ maxLen) (b2 : m * bytes ≤ 140737488355328) :
    ∃ q cc w', (Builtin.append_ #[t, t] ty #[.slice (some b) 0 0, .slice o m c]).run P w = .ok (.slice (some q) m cc) w' ∧ m ≤ cc ∧ cc ≤ maxLen ∧ Below w.heap.size w w' ∧ (0 < m → ∃ g, q = ⟨g, 0, none⟩ ∧ g < w'.heap.size ∧ w'.rangeAt g 0 news) := by
  rcases Nat.eq_zero_or_pos m with rfl | hm
  · exact ⟨b, 0, w, run_append_zero w t ty e i z ht hi hz b o c, Nat.le_refl _, by decide, Below.refl _ _, fun h => absurd h (by decide)⟩
  · obtain ⟨a, rfl, hn⟩ := hnews hm
    obtain ⟨v', w', h1, h2, h3⟩ := run_append_arg_grows w t ty e i z size bytes ht hi hz hsize hby hzs hsz b 0 0 [] (by simp) (by simp) a m c news hl hn (by omega) (by omega) (by rw [Nat.zero_add]; exact b2)
    rw [Nat.zero_add, List.nil_append] at h2
    have hcell := fun g hg => h2.cells (g := g) hg
    rcases h2.2 with ⟨_, h0⟩ | ⟨g, cap, cur, rfl, hb, hg, hnc, hcm, _⟩
    · omega
    · refine ⟨⟨g, 0, none⟩, cap, w', h1, hnc, hcm, grown_below h3 (fun k hk => by cases hk) (Nat.le_refl _), fun _ => ⟨g, rfl, lt_of_block hg, fun j u hu => ?_⟩⟩
      have := hcell g rfl j u hu
      rw [Addr.add_mid] at this; exact this

theorem sCells_get (L : List (List UInt8)) (i : Nat) (l : List UInt8) (h : L[i]? = some l) : (L.map fun l => Value.string (strOf l))[i]? = some (.string (strOf l)) := by simp [h]

theorem Tryd.under_strs : Tryd.prog.underlying 22 = some (.slice 9) := by kernel_rfl
theorem Tryd.info_string : (Tryd.prog.info? 9).map (fun i => (i.zero, i.size, i.bytes)) = some (some (.string ⟨#[]⟩), 1, 16) := by kernel_rfl

theorem StrsAt.copy {w : World} {o : Option Addr} {m c : Nat} {L : List (List UInt8)} (h : StrsAt w o m c L) (hm : m ≤ 1000000) (b : Addr) :
    ∃ q cc w', (Builtin.append_ #[22, 22] 22 #[.slice (some b) 0 0, .slice o m c]).run Tryd.prog w = .ok (.slice (some q) m cc) w' ∧ StrsAt w' (some q) m cc L ∧ Below w.heap.size w w' := by
  obtain ⟨i, hi, hz0, hz1, hz2⟩ := info_parts Tryd.info_string
  have hlen := h.len
  obtain ⟨q, cc, w', h1, h2, h3, h4, h5⟩ := run_copy_row (P := Tryd.prog) w 22 22 9 i (.string ⟨#[]⟩) 1 16 Tryd.under_strs hi hz0 hz1 hz2 rfl (by decide) b o m c (L.map fun l => .string (strOf l)) (by rw [List.length_map, hlen, Nat.mul_one]) (fun h0 => by
    obtain ⟨b', off, rfl⟩ := h.form h0
    refine ⟨_, rfl, fun j u hu => ?_⟩
    rw [List.getElem?_map] at hu
    obtain ⟨l, hl, rfl⟩ := Option.map_eq_some_iff.1 hu
    rw [Addr.add_mid]
    exact h.get hl) (by unfold maxLen; omega) (by omega)
  refine ⟨q, cc, w', h1, ⟨hlen, h2, h3, fun h0 => ?_⟩, h4⟩
  obtain ⟨g, rfl, hg, hr⟩ := h5 h0
  refine ⟨g, 0, rfl, hg, fun i l hl => ?_⟩
  intro j u hu
  match j, hu with
  | 0, hu =>
    obtain rfl := Option.some.inj hu
    have := hr i _ (sCells_get L i l hl)
    simpa using this

theorem hashCells_len {d : List (List UInt8)} (h : ∀ p ∈ d, p.length = 32) : (hashCells d).length = d.length * 32 := by
  induction d with
  | nil => rfl
  | cons a d ih =>
    have h1 := h a (by simp)
    have h2 := ih fun p hp => h p (by simp [hp])
    rw [show a :: d = [a] ++ d from rfl, hashCells_app, hashCells_one, List.length_append, h2, byteCells_length, h1]
    simp; omega

theorem hashCells_get {d : List (List UInt8)} (h : ∀ p ∈ d, p.length = 32) {i : Nat} {p : List UInt8} (hp : d[i]? = some p) : ∀ j u, (byteCells p)[j]? = some u → (hashCells d)[i * 32 + j]? = some u := by
  induction d generalizing i with
  | nil => simp at hp
  | cons a d ih =>
    intro j u hu
    have h1 := h a (by simp)
    rw [show a :: d = [a] ++ d from rfl, hashCells_app, hashCells_one]
    have hj := (List.getElem?_eq_some_iff.1 hu).1
    rw [byteCells_length] at hj
    rcases i with _ | i
    · rw [List.getElem?_cons_zero, Option.some.injEq] at hp
      subst hp
      rw [List.getElem?_append_left (by rw [byteCells_length]; omega)]
      simpa using hu
    · rw [List.getElem?_cons_succ] at hp
      rw [List.getElem?_append_right (by rw [byteCells_length]; omega), byteCells_length, h1]
      have := ih (fun p hp => h p (by simp [hp])) hp j u hu
      rwa [show (i + 1) * 32 + j - 32 = i * 32 + j by omega]

theorem hashCells_at {w : World} {b off : Nat} {d : List (List UInt8)} (h : ∀ i p, d[i]? = some p → w.rangeAt b (off + i * 32) (byteCells p)) (h32 : ∀ p ∈ d, p.length = 32) : ∀ j u, (hashCells d)[j]? = some u → w.cell? ⟨b, off + j, none⟩ = some u := by
  intro j u hu
  have hj := (List.getElem?_eq_some_iff.1 hu).1
  rw [hashCells_len h32] at hj
  obtain ⟨p, hp⟩ : ∃ p, d[j / 32]? = some p := ⟨_, List.getElem?_eq_getElem (by omega)⟩
  have hpl := h32 p (List.mem_of_getElem? hp)
  obtain ⟨v, hv⟩ : ∃ v, (byteCells p)[j % 32]? = some v := ⟨_, List.getElem?_eq_getElem (by rw [byteCells_length]; omega)⟩
  have h1 := hashCells_get h32 hp (j % 32) v hv
  rw [show j / 32 * 32 + j % 32 = j by omega] at h1
  obtain rfl := Option.some.inj (h1.symm.trans hu)
  have := h _ p hp (j % 32) v hv
  rwa [show off + j / 32 * 32 + j % 32 = off + j by omega] at this

theorem HashesAt.copy {w : World} {o : Option Addr} {m c : Nat} {L : List (List UInt8)} (h : HashesAt w o m c L) (hm : m ≤ 1000000) (b : Addr) :
    ∃ q cc w', (Builtin.append_ #[32, 32] 32 #[.slice (some b) 0 0, .slice o m c]).run Tryd.prog w = .ok (.slice (some q) m cc) w' ∧ HashesAt w' (some q) m cc L ∧ Below w.heap.size w w' := by
  obtain ⟨i, hi, hz0, hz1, hz2⟩ := info_parts Tryd.info_hs
  have hlen := h.1.1
  obtain ⟨q, cc, w', h1, h2, h3, h4, h5⟩ := run_copy_row (P := Tryd.prog) w 32 32 26 i (.agg zero32) 32 32 Tryd.under_hs hi hz0 hz1 hz2 zero32_size (by decide) b o m c (hashCells L) (by rw [hashCells_len h.2, hlen]) (fun h0 => by
    obtain ⟨b', off, rfl⟩ := h.form h0
    refine ⟨_, rfl, fun j u hu => ?_⟩
    rw [Addr.add_mid]
    exact hashCells_at (fun i p hp => (h.get hp).2) h.2 j u hu) (by unfold maxLen; omega) (by omega)
  refine ⟨q, cc, w', h1, ⟨⟨hlen, h2, h3, fun h0 => ?_⟩, h.2⟩, h4⟩
  obtain ⟨g, rfl, hg, hr⟩ := h5 h0
  refine ⟨g, 0, rfl, hg, fun i p hp j u hu => ?_⟩
  have := hr _ _ (hashCells_get h.2 hp j u hu)
  rwa [show 0 + (i * 32 + j) = 0 + i * 32 + j by omega] at this

/-- A row of the call's own, as one that came in. -/
theorem HashesAt.of_owns {w : World} {base c : Nat} {q : Option Addr} {d : List (List UInt8)} (h : w.ownsRow base 26 32 (.slice q d.length c) d.length (hashCells d)) (h32 : ∀ p ∈ d, p.length = 32) : HashesAt w q d.length c d := by
  have hcell := fun g hg => h.cells (g := g) hg
  rcases h.2 with ⟨hv, h0⟩ | ⟨g, cap, cur, hv, hb, hg, hnc, hcm, _⟩
  · simp only [Value.slice.injEq] at hv
    obtain ⟨rfl, h1, rfl⟩ := hv
    exact ⟨⟨rfl, by omega, by decide, fun h => by omega⟩, h32⟩
  · simp only [Value.slice.injEq, true_and] at hv
    obtain ⟨rfl, rfl⟩ := hv
    refine ⟨⟨rfl, hnc, hcm, fun _ => ⟨g, 0, rfl, lt_of_block hg, fun i p hp j u hu => ?_⟩⟩, h32⟩
    have := hcell g rfl _ u (hashCells_get h32 hp j u hu)
    rw [Addr.add_mid] at this
    rwa [show 0 + (i * 32 + j) = 0 + i * 32 + j by omega] at this

theorem Tree.prove_32 (N : Nat) : ∀ (l : List (List UInt8)) (i : Nat), l.length = N → ∀ p ∈ Tree.prove l i, p.length = 32 := by
  induction N using Nat.strongRecOn with
  | ind N ih =>
    intro l i hl p hp
    by_cases h : 2 ≤ l.length
    · have h1 := Tree.half_pos h
      have h2 := Tree.half_lt h
      by_cases hi : i < Tree.half l.length
      · rw [Tree.prove_left h hi] at hp
        rcases List.mem_append.1 hp with hp | hp
        · exact ih (Tree.half l.length) (by omega) (l.take (Tree.half l.length)) i (by rw [List.length_take]; omega) p hp
        · obtain rfl := List.mem_singleton.1 hp; exact Tree.top_len _
      · rw [Tree.prove_right h hi] at hp
        rcases List.mem_append.1 hp with hp | hp
        · exact ih (l.length - Tree.half l.length) (by omega) (l.drop (Tree.half l.length)) (i - Tree.half l.length) (by rw [List.length_drop]) p hp
        · obtain rfl := List.mem_singleton.1 hp; exact Tree.top_len _
    · rw [Tree.prove_small h] at hp; cases hp

theorem owns_mono {w : World} {B B' : Nat} {e size : Nat} {v : Value} {n : Nat} {xs : List Value} (h : w.ownsRow B e size v n xs) (hB : B' ≤ B) : w.ownsRow B' e size v n xs :=
  ⟨h.1, h.2.imp id fun ⟨g, cap, cur, h1, h2, h3⟩ => ⟨g, cap, cur, h1, Nat.le_trans hB h2, h3⟩⟩

/-- What the region's operations leave. -/
def rpL (B b off n cap k i : Nat) (L R : List (List UInt8)) (ix : Nat) (w : World) (v : Value) : Prop :=
  match ix with
  | 0 => v = .slice (some ⟨b, off, none⟩) n cap
  | 1 => v = .int .i64 (k : Int)
  | 2 => v = (.slice (some ⟨b, off, none⟩) k cap)
  | 3 => v = .int .i64 (i : Int)
  | 4 => ∃ q c, v = .slice q R.length c ∧ w.ownsRow B 26 32 (.slice q R.length c) R.length (hashCells R)
  | 5 => v = .slice (some ⟨b, off, none⟩) n cap
  | 6 => v = .int .i64 (k : Int)
  | 7 => v = (.slice (some ⟨b, off + k, none⟩) (n - k) (cap - k))
  | 8 => v = .agg (byteCells (Tree.top (L.drop k))).toArray
  | 9 => ∃ g, v = .slice (some ⟨g, 0, none⟩) 1 1 ∧ w.heap[g]? = some (.cells (byteCells (Tree.top (L.drop k))).toArray 26 (0, 0))
  | _ => True

theorem rpL_mono (B b off n cap k i : Nat) (L R : List (List UInt8)) (jx : Nat) (w w' : World) (v : Value) (hb : Below w.heap.size w w') (h : rpL B b off n cap k i L R jx w v) : rpL B b off n cap k i L R jx w' v := by
  match jx, h with
  | 0, h => exact h
  | 1, h => exact h
  | 2, h => exact h
  | 3, h => exact h
  | 4, h => exact (let ⟨q, c, h1, h2⟩ := h; ⟨q, c, h1, owns_below h2 hb⟩)
  | 5, h => exact h
  | 6, h => exact h
  | 7, h => exact h
  | 8, h => exact h
  | 9, h => exact (let ⟨g, h1, h2⟩ := h; ⟨g, h1, (hb.block g (lt_of_block h2)).trans h2⟩)
  | _ + 10, h => exact trivial

/-- What the region's operations leave. -/
def rpR (B b off n cap k i : Nat) (L R : List (List UInt8)) (ix : Nat) (w : World) (v : Value) : Prop :=
  match ix with
  | 0 => v = .slice (some ⟨b, off, none⟩) n cap
  | 1 => v = .int .i64 (k : Int)
  | 2 => v = (.slice (some ⟨b, off + k, none⟩) (n - k) (cap - k))
  | 3 => v = .int .i64 (i : Int)
  | 4 => v = .int .i64 (k : Int)
  | 5 => v = .int .i64 ((i - k : Nat) : Int)
  | 6 => ∃ q c, v = .slice q R.length c ∧ w.ownsRow B 26 32 (.slice q R.length c) R.length (hashCells R)
  | 7 => v = .slice (some ⟨b, off, none⟩) n cap
  | 8 => v = .int .i64 (k : Int)
  | 9 => v = (.slice (some ⟨b, off, none⟩) k cap)
  | 10 => v = .agg (byteCells (Tree.top (L.take k))).toArray
  | 11 => ∃ g, v = .slice (some ⟨g, 0, none⟩) 1 1 ∧ w.heap[g]? = some (.cells (byteCells (Tree.top (L.take k))).toArray 26 (0, 0))
  | _ => True

theorem rpR_mono (B b off n cap k i : Nat) (L R : List (List UInt8)) (jx : Nat) (w w' : World) (v : Value) (hb : Below w.heap.size w w') (h : rpR B b off n cap k i L R jx w v) : rpR B b off n cap k i L R jx w' v := by
  match jx, h with
  | 0, h => exact h
  | 1, h => exact h
  | 2, h => exact h
  | 3, h => exact h
  | 4, h => exact h
  | 5, h => exact h
  | 6, h => exact (let ⟨q, c, h1, h2⟩ := h; ⟨q, c, h1, owns_below h2 hb⟩)
  | 7, h => exact h
  | 8, h => exact h
  | 9, h => exact h
  | 10, h => exact h
  | 11, h => exact (let ⟨g, h1, h2⟩ := h; ⟨g, h1, (hb.block g (lt_of_block h2)).trans h2⟩)
  | _ + 12, h => exact trivial

set_option maxRecDepth 100000 in
set_option maxHeartbeats 2000000 in
theorem refProve_any (N : Nat) : ∀ (w : World) (o : Option Addr) (n cap i : Nat) (L : List (List UInt8)), n = N → StrsAt w o n cap L → i < n → n ≤ 500000 → (∀ l ∈ L, l.length ≤ 100000) →
    Calls Tryd.prog 26 #[.slice o n cap, .int .i64 (i : Int)] w fun e w' => ∃ q c, e = .returned (.slice q (Tree.prove L i).length c) ∧ w'.ownsRow w.heap.size 26 32 (.slice q (Tree.prove L i).length c) (Tree.prove L i).length (hashCells (Tree.prove L i)) ∧ Below w.heap.size w w' := by
  induction N using Nat.strongRecOn with
  | ind N ih =>
  intro w o n cap i L hN hS hi hn hl
  subst hN
  have IH := Lib.hid ih; clear ih
  have hlen := hS.len
  have hcap := hS.cap
  have hmax := hS.max
  have HLE := Lib.hid hl; clear hl
  by_cases h2 : 2 ≤ n
  · obtain ⟨b, off, rfl⟩ := hS.form (by omega)
    have ht1 : decide ((n : Int) ≤ 1) = false := decide_eq_false (by omega)
    obtain ⟨k, hk⟩ : ∃ k, k = Tree.half n := ⟨_, rfl⟩
    have hk1 : 1 ≤ k := by rw [hk]; exact Tree.half_pos h2
    have hkn : k < n := by rw [hk]; exact Tree.half_lt h2
    have hhalf := refHalfOf_any w n h2 (by omega)
    rw [← hk] at hhalf
    have HH := Lib.hid hhalf; clear hhalf
    have HK := Lib.hid hk; clear hk
    have HT := Lib.hid (hS.take k cap (by omega) (by omega) (by omega))
    have HD := Lib.hid (hS.drop k (by omega))
    clear hS
    obtain ⟨i0, hi0, hz0, hz1, hz2⟩ := info_parts Tryd.info_hs
    have HI0 := Lib.hid hi0; clear hi0
    have HZ0 := Lib.hid hz0; clear hz0
    have HZ1 := Lib.hid hz1; clear hz1
    have HZ2 := Lib.hid hz2; clear hz2
    by_cases hlt : i < k

    · have ht2 : decide ((i : Int) < (k : Int)) = true := decide_eq_true (by omega)
      have ht2' : decide (i < k) = true := decide_eq_true (by omega)
      have hpl := Tree.prove_left (l := L) (i := i) (by omega) (by rw [hlen, ← HK.out]; exact hlt)
      rw [hlen, ← HK.out] at hpl
      obtain ⟨R, hR⟩ : ∃ R, R = Tree.prove (L.take k) i := ⟨_, rfl⟩
      have hRl : R.length ≤ n := by rw [hR]; have := Tree.prove_len k (L.take k) i (by rw [List.length_take]; omega); omega
      have hih : ∀ w', StrsAt w' (some ⟨b, off, none⟩) k cap (L.take k) → _ := fun w' h1 => IH.out k (by omega) w' _ k cap i _ rfl h1 hlt (by omega) (fun l hl => HLE.out l (List.mem_of_mem_take hl))
      rw [← hR] at hpl hih
      obtain ⟨E, hE⟩ : ∃ E, E = Tree.prove L i := ⟨_, rfl⟩
      rw [← hE] at hpl ⊢
      have HPL := Lib.hid hpl; clear hpl hE hR
      have HIH := Lib.hid hih; clear hih
      go_enter Tryd.func26, Tryd.ntmps26
      go_wp2_with fail
      refine HH.out.mono ?_
      rintro e w' ⟨rfl, rfl⟩
      go_wp2_with fail
      refine wp_region_rel_tail [[], [], [0, 1], [], [2, 3], [], [], [5, 6], [7], [8], [4, 9], [10]] (rpL w.heap.size b off n cap k i L R) 39 10 (by kernel_rfl) (by kernel_rfl) (by kernel_rfl) (by kernel_rfl) (of_decide_eq_true (by kernel_rfl)) (rpL_mono w.heap.size b off n cap k i L R) ?_ ?_
      · intro ix op him hi w2 b2 vs hv
        have hb0 := b2
        match ix, him, hi with
        | 0, _, hi =>
          obtain rfl := Option.some.inj hi
          simp only [relF, List.getD_cons_zero, List.getD_cons_succ, List.foldl_cons, List.foldl_nil, dstAt, List.getElem?_cons_zero, List.getElem?_cons_succ, Option.bind_some]
          go_wp2_with fail
          exact ⟨rfl, Below.refl _ _, rfl, rfl⟩
        | 1, _, hi =>
          obtain rfl := Option.some.inj hi
          simp only [relF, List.getD_cons_zero, List.getD_cons_succ, List.foldl_cons, List.foldl_nil, dstAt, List.getElem?_cons_zero, List.getElem?_cons_succ, Option.bind_some]
          go_wp2_with fail
          exact ⟨rfl, Below.refl _ _, rfl, rfl⟩
        | 2, _, hi =>
          obtain rfl := Option.some.inj hi
          have h0 : vs 0 = _ := hv 0 (by decide)
          have h1 : vs 1 = _ := hv 1 (by decide)
          simp only [relF, List.getD_cons_zero, List.getD_cons_succ, List.foldl_cons, List.foldl_nil, dstAt, List.getElem?_cons_zero, List.getElem?_cons_succ, Option.bind_some]
          go_frame
          rw [h0, h1]
          go_wp2_with fail
          exact ⟨rfl, Below.refl _ _, rfl, rfl⟩
        | 3, _, hi =>
          obtain rfl := Option.some.inj hi
          simp only [relF, List.getD_cons_zero, List.getD_cons_succ, List.foldl_cons, List.foldl_nil, dstAt, List.getElem?_cons_zero, List.getElem?_cons_succ, Option.bind_some]
          go_wp2_with fail
          exact ⟨rfl, Below.refl _ _, rfl, rfl⟩
        | 4, _, hi =>
          obtain rfl := Option.some.inj hi
          have h2 : vs 2 = _ := hv 2 (by decide)
          have h3 : vs 3 = _ := hv 3 (by decide)
          have hct := HT.out.below (Nat.le_refl _) b2
          simp only [relF, List.getD_cons_zero, List.getD_cons_succ, List.foldl_cons, List.foldl_nil, dstAt, List.getElem?_cons_zero, List.getElem?_cons_succ, Option.bind_some]
          go_frame
          rw [h2, h3]
          go_wp2_with fail
          refine (HIH.out w2 hct).mono ?_
          rintro e w3 ⟨q, c, rfl, ho, b3⟩
          go_wp2_with fail
          exact ⟨rfl, b3, rfl, q, c, rfl, owns_mono ho (by have := b2.size; omega)⟩
        | 5, _, hi =>
          obtain rfl := Option.some.inj hi
          simp only [relF, List.getD_cons_zero, List.getD_cons_succ, List.foldl_cons, List.foldl_nil, dstAt, List.getElem?_cons_zero, List.getElem?_cons_succ, Option.bind_some]
          go_wp2_with fail
          exact ⟨rfl, Below.refl _ _, rfl, rfl⟩
        | 6, _, hi =>
          obtain rfl := Option.some.inj hi
          simp only [relF, List.getD_cons_zero, List.getD_cons_succ, List.foldl_cons, List.foldl_nil, dstAt, List.getElem?_cons_zero, List.getElem?_cons_succ, Option.bind_some]
          go_wp2_with fail
          exact ⟨rfl, Below.refl _ _, rfl, rfl⟩
        | 7, _, hi =>
          obtain rfl := Option.some.inj hi
          have h5 : vs 5 = _ := hv 5 (by decide)
          have h6 : vs 6 = _ := hv 6 (by decide)
          simp only [relF, List.getD_cons_zero, List.getD_cons_succ, List.foldl_cons, List.foldl_nil, dstAt, List.getElem?_cons_zero, List.getElem?_cons_succ, Option.bind_some]
          go_frame
          rw [h5, h6]
          go_wp2_with fail
          exact ⟨rfl, Below.refl _ _, rfl, rfl⟩
        | 8, _, hi =>
          obtain rfl := Option.some.inj hi
          have h7 : vs 7 = _ := hv 7 (by decide)
          have hcd := HD.out.below (Nat.le_refl _) b2
          simp only [relF, List.getD_cons_zero, List.getD_cons_succ, List.foldl_cons, List.foldl_nil, dstAt, List.getElem?_cons_zero, List.getElem?_cons_succ, Option.bind_some]
          go_frame
          rw [h7]
          go_wp2_with fail
          refine (refTop_any w2 _ _ _ _ hcd (by omega) (fun l hl => HLE.out l (List.mem_of_mem_drop hl))).mono ?_
          rintro e w3 ⟨rfl, b3⟩
          go_wp2_with fail
          exact ⟨rfl, b3, rfl, rfl⟩
        | 9, _, hi =>
          obtain rfl := Option.some.inj hi
          have h8 : vs 8 = _ := hv 8 (by decide)
          have hbc : (byteCells (Tree.top (L.drop k))).length = 32 := by rw [byteCells_length, Tree.top_len]
          simp only [relF, List.getD_cons_zero, List.getD_cons_succ, List.foldl_cons, List.foldl_nil, dstAt, List.getElem?_cons_zero, List.getElem?_cons_succ, Option.bind_some]
          go_frame
          rw [h8]
          go_wp2_with fail
          exact ⟨rfl, (Below.refl _ _).alloc (Nat.le_refl _) _, rfl, w2.heap.size, rfl, alloc_built w2 hbc⟩
        | nx + 10, him, _ => exact absurd him (by omega)
      · intro w2 b2 vs hv
        have hb0 := b2
        have h0 : vs 0 = _ := hv 0 (by decide)
        have h1 : vs 1 = _ := hv 1 (by decide)
        have h2 : vs 2 = _ := hv 2 (by decide)
        have h3 : vs 3 = _ := hv 3 (by decide)
        have h5 : vs 5 = _ := hv 5 (by decide)
        have h6 : vs 6 = _ := hv 6 (by decide)
        have h7 : vs 7 = _ := hv 7 (by decide)
        have h8 : vs 8 = _ := hv 8 (by decide)
        simp only [relF, List.drop_succ_cons, List.drop_zero, List.length_cons, List.length_nil, Nat.zero_add, Nat.reduceAdd, List.range, List.range.loop, List.foldl_cons, List.foldl_nil, dstAt, List.getElem?_cons_zero, List.getElem?_cons_succ, Option.bind_some]
        go_frame
        rw [h0, h1, h2, h3, h5, h6, h7, h8]
        obtain ⟨q, c, hq1, hq2⟩ := hv 4 (by decide)
        obtain ⟨g, hg1, hg2⟩ := hv 9 (by decide)
        rw [hq1, hg1]
        have HO2 := Lib.hid hq2; clear hq2
        have HG2 := Lib.hid hg2; clear hg2
        have htl : (Tree.top (L.drop k)).length = 32 := Tree.top_len _
        go_wp2_with (at_builtin; refine wpList_append_own _ rfl _ _ 32 rfl w.heap.size 26 i0 (.agg zero32) 32 32 Tryd.under_hs HI0.out HZ0.out HZ1.out HZ2.out zero32_size (by decide) _ _ _ rfl HO2.out ⟨g, 0, none⟩ 1 1 (byteCells (Tree.top (L.drop k))) rfl (by rw [byteCells_length, htl]) (cells_row_at HG2.out) (byteCells_one _) (by unfold maxLen; omega) (by omega) b2.size ?_)
        intro v' w5 hown' hgrow _
        have B5 : Below w.heap.size w w5 := b2.trans (grown_below hgrow (fun g' hg' => (HO2.out.lt g' hg').1) b2.size)
        obtain ⟨p', c', rfl⟩ := ownsRow_slice hown'
        have HOW := Lib.hid hown'; clear hown' hgrow
        go_wp2_with fail
        go_ret
        rw [HPL.out, List.length_append, hashCells_app, hashCells_one]
        exact ⟨p', c', rfl, HOW.out, B5⟩
    · have ht2 : decide ((i : Int) < (k : Int)) = false := decide_eq_false (by omega)
      have ht2' : decide (i < k) = false := decide_eq_false (by omega)
      have hpl := Tree.prove_right (l := L) (i := i) (by omega) (by rw [hlen, ← HK.out]; exact hlt)
      rw [hlen, ← HK.out] at hpl
      obtain ⟨R, hR⟩ : ∃ R, R = Tree.prove (L.drop k) (i - k) := ⟨_, rfl⟩
      have hRl : R.length ≤ n := by rw [hR]; have := Tree.prove_len (n - k) (L.drop k) (i - k) (by rw [List.length_drop]; omega); omega
      have hih : ∀ w', StrsAt w' (some ⟨b, off + k, none⟩) (n - k) (cap - k) (L.drop k) → _ := fun w' h1 => IH.out (n - k) (by omega) w' _ _ _ (i - k) _ rfl h1 (by omega) (by omega) (fun l hl => HLE.out l (List.mem_of_mem_drop hl))
      rw [← hR] at hpl hih
      obtain ⟨E, hE⟩ : ∃ E, E = Tree.prove L i := ⟨_, rfl⟩
      rw [← hE] at hpl ⊢
      have HPL := Lib.hid hpl; clear hpl hE hR
      have HIH := Lib.hid hih; clear hih
      go_enter Tryd.func26, Tryd.ntmps26
      go_wp2_with fail
      refine HH.out.mono ?_
      rintro e w' ⟨rfl, rfl⟩
      go_wp2_with fail
      refine wp_region_rel_tail [[], [], [0, 1], [], [], [3, 4], [2, 5], [], [], [7, 8], [9], [10], [6, 11], [12]] (rpR w.heap.size b off n cap k i L R) 39 12 (by kernel_rfl) (by kernel_rfl) (by kernel_rfl) (by kernel_rfl) (of_decide_eq_true (by kernel_rfl)) (rpR_mono w.heap.size b off n cap k i L R) ?_ ?_
      · intro ix op him hi w2 b2 vs hv
        have hb0 := b2
        match ix, him, hi with
        | 0, _, hi =>
          obtain rfl := Option.some.inj hi
          simp only [relF, List.getD_cons_zero, List.getD_cons_succ, List.foldl_cons, List.foldl_nil, dstAt, List.getElem?_cons_zero, List.getElem?_cons_succ, Option.bind_some]
          go_wp2_with fail
          exact ⟨rfl, Below.refl _ _, rfl, rfl⟩
        | 1, _, hi =>
          obtain rfl := Option.some.inj hi
          simp only [relF, List.getD_cons_zero, List.getD_cons_succ, List.foldl_cons, List.foldl_nil, dstAt, List.getElem?_cons_zero, List.getElem?_cons_succ, Option.bind_some]
          go_wp2_with fail
          exact ⟨rfl, Below.refl _ _, rfl, rfl⟩
        | 2, _, hi =>
          obtain rfl := Option.some.inj hi
          have h0 : vs 0 = _ := hv 0 (by decide)
          have h1 : vs 1 = _ := hv 1 (by decide)
          simp only [relF, List.getD_cons_zero, List.getD_cons_succ, List.foldl_cons, List.foldl_nil, dstAt, List.getElem?_cons_zero, List.getElem?_cons_succ, Option.bind_some]
          go_frame
          rw [h0, h1]
          go_wp2_with fail
          exact ⟨rfl, Below.refl _ _, rfl, rfl⟩
        | 3, _, hi =>
          obtain rfl := Option.some.inj hi
          simp only [relF, List.getD_cons_zero, List.getD_cons_succ, List.foldl_cons, List.foldl_nil, dstAt, List.getElem?_cons_zero, List.getElem?_cons_succ, Option.bind_some]
          go_wp2_with fail
          exact ⟨rfl, Below.refl _ _, rfl, rfl⟩
        | 4, _, hi =>
          obtain rfl := Option.some.inj hi
          simp only [relF, List.getD_cons_zero, List.getD_cons_succ, List.foldl_cons, List.foldl_nil, dstAt, List.getElem?_cons_zero, List.getElem?_cons_succ, Option.bind_some]
          go_wp2_with fail
          exact ⟨rfl, Below.refl _ _, rfl, rfl⟩
        | 5, _, hi =>
          obtain rfl := Option.some.inj hi
          have h3 : vs 3 = _ := hv 3 (by decide)
          have h4 : vs 4 = _ := hv 4 (by decide)
          simp only [relF, List.getD_cons_zero, List.getD_cons_succ, List.foldl_cons, List.foldl_nil, dstAt, List.getElem?_cons_zero, List.getElem?_cons_succ, Option.bind_some]
          go_frame
          rw [h3, h4]
          go_wp2_with fail
          exact ⟨rfl, Below.refl _ _, rfl, by show slotOf _ _ = _; simp [slotOf]; omega⟩
        | 6, _, hi =>
          obtain rfl := Option.some.inj hi
          have h2 : vs 2 = _ := hv 2 (by decide)
          have h5 : vs 5 = _ := hv 5 (by decide)
          have hct := HD.out.below (Nat.le_refl _) b2
          simp only [relF, List.getD_cons_zero, List.getD_cons_succ, List.foldl_cons, List.foldl_nil, dstAt, List.getElem?_cons_zero, List.getElem?_cons_succ, Option.bind_some]
          go_frame
          rw [h2, h5]
          go_wp2_with fail
          refine (HIH.out w2 hct).mono ?_
          rintro e w3 ⟨q, c, rfl, ho, b3⟩
          go_wp2_with fail
          exact ⟨rfl, b3, rfl, q, c, rfl, owns_mono ho (by have := b2.size; omega)⟩
        | 7, _, hi =>
          obtain rfl := Option.some.inj hi
          simp only [relF, List.getD_cons_zero, List.getD_cons_succ, List.foldl_cons, List.foldl_nil, dstAt, List.getElem?_cons_zero, List.getElem?_cons_succ, Option.bind_some]
          go_wp2_with fail
          exact ⟨rfl, Below.refl _ _, rfl, rfl⟩
        | 8, _, hi =>
          obtain rfl := Option.some.inj hi
          simp only [relF, List.getD_cons_zero, List.getD_cons_succ, List.foldl_cons, List.foldl_nil, dstAt, List.getElem?_cons_zero, List.getElem?_cons_succ, Option.bind_some]
          go_wp2_with fail
          exact ⟨rfl, Below.refl _ _, rfl, rfl⟩
        | 9, _, hi =>
          obtain rfl := Option.some.inj hi
          have h7 : vs 7 = _ := hv 7 (by decide)
          have h8 : vs 8 = _ := hv 8 (by decide)
          simp only [relF, List.getD_cons_zero, List.getD_cons_succ, List.foldl_cons, List.foldl_nil, dstAt, List.getElem?_cons_zero, List.getElem?_cons_succ, Option.bind_some]
          go_frame
          rw [h7, h8]
          go_wp2_with fail
          exact ⟨rfl, Below.refl _ _, rfl, rfl⟩
        | 10, _, hi =>
          obtain rfl := Option.some.inj hi
          have h9 : vs 9 = _ := hv 9 (by decide)
          have hcd := HT.out.below (Nat.le_refl _) b2
          simp only [relF, List.getD_cons_zero, List.getD_cons_succ, List.foldl_cons, List.foldl_nil, dstAt, List.getElem?_cons_zero, List.getElem?_cons_succ, Option.bind_some]
          go_frame
          rw [h9]
          go_wp2_with fail
          refine (refTop_any w2 _ _ _ _ hcd (by omega) (fun l hl => HLE.out l (List.mem_of_mem_take hl))).mono ?_
          rintro e w3 ⟨rfl, b3⟩
          go_wp2_with fail
          exact ⟨rfl, b3, rfl, rfl⟩
        | 11, _, hi =>
          obtain rfl := Option.some.inj hi
          have h10 : vs 10 = _ := hv 10 (by decide)
          have hbc : (byteCells (Tree.top (L.take k))).length = 32 := by rw [byteCells_length, Tree.top_len]
          simp only [relF, List.getD_cons_zero, List.getD_cons_succ, List.foldl_cons, List.foldl_nil, dstAt, List.getElem?_cons_zero, List.getElem?_cons_succ, Option.bind_some]
          go_frame
          rw [h10]
          go_wp2_with fail
          exact ⟨rfl, (Below.refl _ _).alloc (Nat.le_refl _) _, rfl, w2.heap.size, rfl, alloc_built w2 hbc⟩
        | nx + 12, him, _ => exact absurd him (by omega)
      · intro w2 b2 vs hv
        have hb0 := b2
        have h0 : vs 0 = _ := hv 0 (by decide)
        have h1 : vs 1 = _ := hv 1 (by decide)
        have h2 : vs 2 = _ := hv 2 (by decide)
        have h3 : vs 3 = _ := hv 3 (by decide)
        have h4 : vs 4 = _ := hv 4 (by decide)
        have h5 : vs 5 = _ := hv 5 (by decide)
        have h7 : vs 7 = _ := hv 7 (by decide)
        have h8 : vs 8 = _ := hv 8 (by decide)
        have h9 : vs 9 = _ := hv 9 (by decide)
        have h10 : vs 10 = _ := hv 10 (by decide)
        simp only [relF, List.drop_succ_cons, List.drop_zero, List.length_cons, List.length_nil, Nat.zero_add, Nat.reduceAdd, List.range, List.range.loop, List.foldl_cons, List.foldl_nil, dstAt, List.getElem?_cons_zero, List.getElem?_cons_succ, Option.bind_some]
        go_frame
        rw [h0, h1, h2, h3, h4, h5, h7, h8, h9, h10]
        obtain ⟨q, c, hq1, hq2⟩ := hv 6 (by decide)
        obtain ⟨g, hg1, hg2⟩ := hv 11 (by decide)
        rw [hq1, hg1]
        have HO2 := Lib.hid hq2; clear hq2
        have HG2 := Lib.hid hg2; clear hg2
        have htl : (Tree.top (L.take k)).length = 32 := Tree.top_len _
        go_wp2_with (at_builtin; refine wpList_append_own _ rfl _ _ 32 rfl w.heap.size 26 i0 (.agg zero32) 32 32 Tryd.under_hs HI0.out HZ0.out HZ1.out HZ2.out zero32_size (by decide) _ _ _ rfl HO2.out ⟨g, 0, none⟩ 1 1 (byteCells (Tree.top (L.take k))) rfl (by rw [byteCells_length, htl]) (cells_row_at HG2.out) (byteCells_one _) (by unfold maxLen; omega) (by omega) b2.size ?_)
        intro v' w5 hown' hgrow _
        have B5 : Below w.heap.size w w5 := b2.trans (grown_below hgrow (fun g' hg' => (HO2.out.lt g' hg').1) b2.size)
        obtain ⟨p', c', rfl⟩ := ownsRow_slice hown'
        have HOW := Lib.hid hown'; clear hown' hgrow
        go_wp2_with fail
        go_ret
        rw [HPL.out, List.length_append, hashCells_app, hashCells_one]
        exact ⟨p', c', rfl, HOW.out, B5⟩
  · have ht1 : decide ((n : Int) ≤ 1) = true := decide_eq_true (by omega)
    have hps := Tree.prove_small (l := L) (by rw [hlen]; omega) i
    rw [hps]
    clear hps
    go_enter Tryd.func26, Tryd.ntmps26
    go_wp2_with fail
    go_ret
    exact ⟨none, 0, rfl, World.ownsRow_nil _ _ _ _, Below.refl _ _⟩

theorem hash_neq (w : World) (a b : List UInt8) (ha : a.length = 32) (hb : b.length = 32) :
    (binOp .neq 26 (.agg (byteCells a).toArray) (.agg (byteCells b).toArray)).run Tryd.prog w = .ok (.bool (!(a == b))) w := by
  have h := run_equalIn_bytes (P := Tryd.prog) w 9998 26 5 32 Tryd.under_hh Tryd.under_bb Tryd.size_bb a b ha hb
  rw [run_neq_struct]
  exact (congrArg (fun r => Result.andThen r fun b w' => Result.ok (Value.bool (!b)) w') h).trans rfl

theorem wpList_neq_hash {ops : Array Oper} {rest : List Oper} {op : Oper} {a : Act} {w : World} {Q : Exit → Act → World → Prop} (hgd : Region.wanted op (yielded ops a.tmps) = true) (x y : Operand) (ho : op.op = .binOp .neq 26 x y 26)
    (u v : List UInt8) (hu : u.length = 32) (hv : v.length = 32) (hx : a.eval x = .agg (byteCells u).toArray) (hy : a.eval y = .agg (byteCells v).toArray)
    (h : wpList Tryd.prog ops Q rest (a.put op.dst (.bool (!(u == v)))) w) : wpList Tryd.prog ops Q (op :: rest) a w :=
  wpList_step fun K hK => by
    rw [if_pos hgd]
    have hg := run_eqGuard_agg (P := Tryd.prog) w .neq 26 x y (byteCells u).toArray (byteCells v).toArray Tryd.eqg_hh
    have he := hash_neq w u v hu hv
    unfold Oper.wp execOp
    simp only [ho, hx, hy, Sem.run_bind, hg, he, Result.andThen_ok, Sem.run_pure]
    exact hK _ _ h

/-- What the region's operations leave. -/
def sameV (b off n cap b' off' cap' j : Nat) (p q : List UInt8) (ix : Nat) (w : World) (v : Value) : Prop :=
  match ix with
  | 0 => v = .slice (some ⟨b, off, none⟩) n cap
  | 1 => v = .int .i64 (j : Int)
  | 2 => v = .pointer (some ⟨b, off + j * 32, none⟩)
  | 3 => v = .agg (byteCells p).toArray
  | 4 => v = .slice (some ⟨b', off', none⟩) n cap'
  | 5 => v = .int .i64 (j : Int)
  | 6 => v = .pointer (some ⟨b', off' + j * 32, none⟩)
  | 7 => v = .agg (byteCells q).toArray
  | 8 => v = .bool (!(p == q))
  | _ => True

theorem sameV_mono (b off n cap b' off' cap' j : Nat) (p q : List UInt8) (jx : Nat) (w w' : World) (v : Value) (hb : Below w.heap.size w w') (h : sameV b off n cap b' off' cap' j p q jx w v) : sameV b off n cap b' off' cap' j p q jx w' v := by
  match jx, h with
  | 0, h => exact h
  | 1, h => exact h
  | 2, h => exact h
  | 3, h => exact h
  | 4, h => exact h
  | 5, h => exact h
  | 6, h => exact h
  | 7, h => exact h
  | 8, h => exact h
  | _ + 9, h => exact trivial

set_option maxRecDepth 100000 in
set_option maxHeartbeats 2000000 in
theorem refSame_any (w : World) (o o' : Option Addr) (n cap n' cap' : Nat) (A B : List (List UInt8)) (hA : HashesAt w o n cap A) (hB : HashesAt w o' n' cap' B) :
    Calls Tryd.prog 25 #[.slice o n cap, .slice o' n' cap'] w fun e w' => e = .returned (.bool (decide (A = B))) ∧ Below w.heap.size w w' := by
  have hAl : A.length = n := hA.1.1
  have hBl : B.length = n' := hB.1.1
  have hcA : n ≤ cap := hA.1.2.1
  have hcB : n' ≤ cap' := hB.1.2.1
  have hmA : cap ≤ 9223372036854775807 := hA.1.2.2.1
  have hmB : cap' ≤ 9223372036854775807 := hB.1.2.2.1
  have HA := Lib.hid hA; clear hA
  have HB := Lib.hid hB; clear hB
  have HAL := Lib.hid hAl; clear hAl
  have HBL := Lib.hid hBl; clear hBl
  obtain ⟨R, hR⟩ : ∃ R, R = decide (A = B) := ⟨_, rfl⟩
  rw [← hR]
  have HR := Lib.hid hR; clear hR
  by_cases hn : n = n'
  · subst hn
    have ht : ((n : Int) != (n : Int)) = false := by simp
    go_enter Tryd.func25, Tryd.ntmps25
    go_wp2_with fail
    go_loopw [5] (fun v wr => ∃ j : Nat, j ≤ n ∧ v = .int .i64 (j : Int) ∧ Hid (A.take j = B.take j) ∧ Below w.heap.size w wr) (fun v _ => n - (intOf v).toNat)
    case atStart => exact ⟨0, by omega, rfl, Lib.hid rfl, Below.refl _ _⟩
    case round =>
      obtain ⟨j, hj, rfl, heq, Br⟩ := hrel
      by_cases hlt : j < n
      · obtain ⟨b, off, rfl⟩ := HA.out.form (by omega)
        obtain ⟨b', off', rfl⟩ := HB.out.form (by omega)
        obtain ⟨p, hp⟩ : ∃ p, A[j]? = some p := ⟨_, List.getElem?_eq_getElem (by rw [HAL.out]; exact hlt)⟩
        obtain ⟨q, hq⟩ : ∃ q, B[j]? = some q := ⟨_, List.getElem?_eq_getElem (by rw [HBL.out]; exact hlt)⟩
        have HPL := Lib.hid (HA.out.2 p (List.mem_of_getElem? hp))
        have HQL := Lib.hid (HB.out.2 q (List.mem_of_getElem? hq))
        have hpr := HA.out.get hp
        have hqr := HB.out.get hq
        have HPR := Lib.hid (range_under hpr.2 hpr.1 Br)
        have HQR := Lib.hid (range_under hqr.2 hqr.1 Br)
        have hbp : b < wr.heap.size := Nat.lt_of_lt_of_le hpr.1 Br.size
        have hbq : b' < wr.heap.size := Nat.lt_of_lt_of_le hqr.1 Br.size
        clear hpr hqr
        have HP := Lib.hid hp; clear hp
        have HQ := Lib.hid hq; clear hq
        go_wp2_with fail

        refine wp_region_rel [[], [], [0, 1], [2], [], [], [4, 5], [6], [3, 7]] (sameV b off n cap b' off' cap' j p q) 26 (by kernel_rfl) (by kernel_rfl) (by kernel_rfl) (sameV_mono b off n cap b' off' cap' j p q) ?_ ?_
        · intro ix op hi w2 b2 vs hv
          have him : ix < 9 := (List.getElem?_eq_some_iff.1 hi).1
          have hb0 := b2
          match ix, him, hi with
          | 0, _, hi =>
            obtain rfl := Option.some.inj hi
            simp only [relF, List.getD_cons_zero, List.getD_cons_succ, List.foldl_cons, List.foldl_nil, dstAt, List.getElem?_cons_zero, List.getElem?_cons_succ, Option.bind_some]
            go_wp2_with fail
            exact ⟨rfl, Below.refl _ _, rfl, rfl⟩
          | 1, _, hi =>
            obtain rfl := Option.some.inj hi
            simp only [relF, List.getD_cons_zero, List.getD_cons_succ, List.foldl_cons, List.foldl_nil, dstAt, List.getElem?_cons_zero, List.getElem?_cons_succ, Option.bind_some]
            go_wp2_with fail
            exact ⟨rfl, Below.refl _ _, rfl, rfl⟩
          | 2, _, hi =>
            obtain rfl := Option.some.inj hi
            have h0 : vs 0 = _ := hv 0 (by decide)
            have h1 : vs 1 = _ := hv 1 (by decide)
            simp only [relF, List.getD_cons_zero, List.getD_cons_succ, List.foldl_cons, List.foldl_nil, dstAt, List.getElem?_cons_zero, List.getElem?_cons_succ, Option.bind_some]
            go_frame
            rw [h0, h1]
            go_wp2_with fail
            exact ⟨rfl, Below.refl _ _, rfl, rfl⟩
          | 3, _, hi =>
            obtain rfl := Option.some.inj hi
            have h2 : vs 2 = _ := hv 2 (by decide)
            have hpr := range_under HPR.out hbp (b2.mono (Nat.le_refl _))
            simp only [relF, List.getD_cons_zero, List.getD_cons_succ, List.foldl_cons, List.foldl_nil, dstAt, List.getElem?_cons_zero, List.getElem?_cons_succ, Option.bind_some]
            go_frame
            rw [h2]
            go_wp2_with ((with_reducible show wpList _ _ _ (⟨some 20, _, _, _, _, _⟩ :: _) _ _); refine wpList_load_hashAt (op := ⟨some 20, _, _, _, _, _⟩) rfl _ rfl b (off + j * 32) rfl p HPL.out hpr ?_)
            exact ⟨rfl, Below.refl _ _, rfl, rfl⟩
          | 4, _, hi =>
            obtain rfl := Option.some.inj hi
            simp only [relF, List.getD_cons_zero, List.getD_cons_succ, List.foldl_cons, List.foldl_nil, dstAt, List.getElem?_cons_zero, List.getElem?_cons_succ, Option.bind_some]
            go_wp2_with fail
            exact ⟨rfl, Below.refl _ _, rfl, rfl⟩
          | 5, _, hi =>
            obtain rfl := Option.some.inj hi
            simp only [relF, List.getD_cons_zero, List.getD_cons_succ, List.foldl_cons, List.foldl_nil, dstAt, List.getElem?_cons_zero, List.getElem?_cons_succ, Option.bind_some]
            go_wp2_with fail
            exact ⟨rfl, Below.refl _ _, rfl, rfl⟩
          | 6, _, hi =>
            obtain rfl := Option.some.inj hi
            have h4 : vs 4 = _ := hv 4 (by decide)
            have h5 : vs 5 = _ := hv 5 (by decide)
            simp only [relF, List.getD_cons_zero, List.getD_cons_succ, List.foldl_cons, List.foldl_nil, dstAt, List.getElem?_cons_zero, List.getElem?_cons_succ, Option.bind_some]
            go_frame
            rw [h4, h5]
            go_wp2_with fail
            exact ⟨rfl, Below.refl _ _, rfl, rfl⟩
          | 7, _, hi =>
            obtain rfl := Option.some.inj hi
            have h6 : vs 6 = _ := hv 6 (by decide)
            have hqr := range_under HQR.out hbq (b2.mono (Nat.le_refl _))
            simp only [relF, List.getD_cons_zero, List.getD_cons_succ, List.foldl_cons, List.foldl_nil, dstAt, List.getElem?_cons_zero, List.getElem?_cons_succ, Option.bind_some]
            go_frame
            rw [h6]
            go_wp2_with ((with_reducible show wpList _ _ _ (⟨some 24, _, _, _, _, _⟩ :: _) _ _); refine wpList_load_hashAt (op := ⟨some 24, _, _, _, _, _⟩) rfl _ rfl b' (off' + j * 32) rfl q HQL.out hqr ?_)
            exact ⟨rfl, Below.refl _ _, rfl, rfl⟩
          | 8, _, hi =>
            obtain rfl := Option.some.inj hi
            have h3 : vs 3 = _ := hv 3 (by decide)
            have h7 : vs 7 = _ := hv 7 (by decide)
            simp only [relF, List.getD_cons_zero, List.getD_cons_succ, List.foldl_cons, List.foldl_nil, dstAt, List.getElem?_cons_zero, List.getElem?_cons_succ, Option.bind_some]
            go_frame
            rw [h3, h7]
            go_wp2_with ((with_reducible show wpList _ _ _ (⟨some 25, _, _, _, _, _⟩ :: _) _ _); refine wpList_neq_hash (op := ⟨some 25, _, _, _, _, _⟩) (by kernel_rfl) _ _ rfl p q HPL.out HQL.out rfl rfl ?_)
            exact ⟨rfl, Below.refl _ _, rfl, rfl⟩
          | nx + 9, him, _ => exact absurd him (by omega)
        · intro w2 b2 vs hv
          have hb0 := b2
          have h8 : vs 8 = _ := hv 8 (by decide)
          simp only [relF, List.length_cons, List.length_nil, Nat.zero_add, Nat.reduceAdd, List.range, List.range.loop, List.foldl_cons, List.foldl_nil, dstAt, List.getElem?_cons_zero, List.getElem?_cons_succ, Option.bind_some]
          go_frame
          rw [h8]
          have B2 := Br.trans (b2.mono Br.size)
          by_cases hpq : p = q
          · have hpq' : (p == q) = true := by rw [hpq]; exact beq_self_eq_true q
            rw [hpq']
            have hnext : A.take (j + 1) = B.take (j + 1) := by rw [List.take_add_one, List.take_add_one, heq.out, HP.out, HQ.out, hpq]
            have HNX := Lib.hid hnext; clear hnext
            go_wp2_with fail
            go_roundw
            case rel => exact ⟨j + 1, by omega, by go_num, HNX, B2⟩
            case measure => simp [intOf]; omega
          · have hpq' : (p == q) = false := by rw [beq_eq_false_iff_ne]; exact hpq
            rw [hpq']
            have hRf : R = false := by
              rw [HR.out]
              refine decide_eq_false fun hAB => hpq ?_
              have h1 := HP.out
              rw [hAB, HQ.out] at h1
              exact (Option.some.inj h1).symm
            have HRF := Lib.hid hRf; clear hRf
            go_wp2_with fail
            go_ret
            exact ⟨by rw [HRF.out]; rfl, B2⟩
      · obtain rfl : j = n := by omega
        have hRt : R = true := by
          rw [HR.out]
          have h := heq.out
          rw [List.take_of_length_le (by rw [HAL.out]; exact Nat.le_refl _), List.take_of_length_le (by rw [HBL.out]; exact Nat.le_refl _)] at h
          exact decide_eq_true h
        have HRT := Lib.hid hRt; clear hRt
        go_wp2_with fail
        go_ret
        exact ⟨by rw [HRT.out]; rfl, Br⟩
  · have ht : ((n : Int) != (n' : Int)) = true := by rw [bne_iff_ne]; omega
    have hRf : R = false := by
      rw [HR.out]
      refine decide_eq_false fun hAB => hn ?_
      have h1 := HAL.out
      rw [hAB, HBL.out] at h1
      exact h1.symm
    have HRF := Lib.hid hRf; clear hRf
    go_enter Tryd.func25, Tryd.ntmps25
    go_wp2_with fail
    go_ret
    exact ⟨by rw [HRF.out]; rfl, Below.refl _ _⟩

/-- The leaves aren't too many or long. -/
def few (L : List (List UInt8)) : Bool := L.all (fun l => decide (l.length ≤ 200)) && decide (L.length ≤ 20)

theorem few_spec {L : List (List UInt8)} (h : few L = true) : L.length ≤ 20 ∧ ∀ l ∈ L, l.length ≤ 200 := by
  unfold few at h
  rw [Bool.and_eq_true, List.all_eq_true] at h
  exact ⟨of_decide_eq_true h.2, fun l hl => of_decide_eq_true (h.1 l hl)⟩

set_option maxRecDepth 100000 in
theorem refFew_any (w : World) (o : Option Addr) (n cap : Nat) (L : List (List UInt8)) (hS : StrsAt w o n cap L) (hmx : ∀ l ∈ L, l.length ≤ 9223372036854775807) :
    Calls Tryd.prog 13 #[.slice o n cap] w fun e w' => w = w' ∧ e = .returned (.bool (few L)) := by
  have hlen := hS.len
  have hcap := hS.cap
  have hmax := hS.max
  have HS := Lib.hid hS; clear hS
  have HLEN := Lib.hid hlen; clear hlen
  obtain ⟨R, hR⟩ : ∃ R, R = few L := ⟨_, rfl⟩
  rw [← hR]
  have HR := Lib.hid hR; clear hR
  go_enter Tryd.func13, Tryd.ntmps13
  go_wp2_with fail
  go_loopw [3] (fun v wr => Hid (w = wr) ∧ ∃ j : Nat, j ≤ n ∧ v = .int .i64 (j : Int) ∧ Hid ((L.take j).all (fun l => decide (l.length ≤ 200)) = true)) (fun v _ => n - (intOf v).toNat)
  case atStart => exact ⟨Lib.hid rfl, 0, by omega, rfl, Lib.hid rfl⟩
  case round =>
    obtain ⟨hw, j, hj, rfl, hall⟩ := hrel
    by_cases hlt : j < n
    · obtain ⟨b, off, rfl⟩ := HS.out.form (by omega)
      obtain ⟨l, hl⟩ : ∃ l, L[j]? = some l := ⟨_, List.getElem?_eq_getElem (by rw [HLEN.out]; exact hlt)⟩
      have hcell := HS.out.get hl
      rw [hw.out] at hcell
      have hst := strOf_size l
      have hmx' := hmx l (List.mem_of_getElem? hl)
      have HLJ := Lib.hid hl; clear hl
      by_cases h200 : 200 < l.length
      · have ht : decide ((200 : Int) < (l.length : Int)) = true := decide_eq_true (by omega)
        have hRf : R = false := by
          rw [HR.out]
          unfold few
          rw [Bool.and_eq_false_iff]
          left
          rw [List.all_eq_false]
          exact ⟨l, List.mem_of_getElem? HLJ.out, by simp; omega⟩
        have HRF := Lib.hid hRf; clear hRf
        go_wp2_with fail
        go_ret
        exact ⟨hw.out, by rw [HRF.out]; rfl⟩
      · have ht : decide ((200 : Int) < (l.length : Int)) = false := decide_eq_false (by omega)
        go_wp2_with fail
        go_roundw
        case rel => exact ⟨hw, j + 1, by omega, by go_num, Lib.hid (by rw [List.take_add_one, HLJ.out, List.all_append, hall.out]; simp; omega)⟩
        case measure => simp [intOf]; omega
    · obtain rfl : j = n := by omega
      have hRt : R = decide ((j : Int) ≤ 20) := by
        rw [HR.out]
        unfold few
        have h := hall.out
        rw [List.take_of_length_le (by rw [HLEN.out]; exact Nat.le_refl _)] at h
        rw [h, Bool.true_and, HLEN.out]
        congr 1
        simp; omega
      have HRT := Lib.hid hRt; clear hRt
      go_wp2_with fail
      go_ret
      exact ⟨hw.out, by rw [HRT.out]; rfl⟩

end Go.Proofs.YtbgahpbnlogdnaaDoor
