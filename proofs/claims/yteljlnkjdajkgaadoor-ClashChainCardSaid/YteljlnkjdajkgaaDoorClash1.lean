/- The first two rows that clash: plain; and the walk of clash.Is. -/
import Derived.Test.YteljlnkjdajkgaaDoorTreeClash
import Derived.Test.YteljlnkjdajkgaaDoorOutHash
namespace Go.Proofs.YteljlnkjdajkgaaDoor
open Go.RowKit
set_option linter.unusedSimpArgs false
set_option linter.unusedVariables false

theorem wpList_append_ran {P : Program} {ops : Array Oper} {rest : List Oper} {o : Oper} {a : Act} {w : World} {Q : Exit → Act → World → Prop} (hgd : Region.wanted o (yielded ops a.tmps) = true) (x y : Operand) (t : TypeId) (ho : o.op = .call { callee := .builtin .append, args := #[x, y], argTypes := #[t, t] })
    (vx vy : Value) (hx : a.eval x = vx) (hy : a.eval y = vy) {v : Value} {w' : World} (hr : (Builtin.append_ #[t, t] o.type #[vx, vy]).run P w = .ok v w')
    (h : wpList P ops Q rest (a.put o.dst v) w') : wpList P ops Q (o :: rest) a w :=
  wpList_step fun _ hK => by
    rw [if_pos hgd]
    exact Lib.wp_append_run_sl w x y t ho vx vy hx hy hr (hK _ _ h)

/-- 'append([]string{x}, l...)' of a row that isn't empty. -/
theorem StrsAt.cons {w : World} {o : Option Addr} {m c g : Nat} {L : List (List UInt8)} {x : List UInt8} (h : StrsAt w o m c L) (h0 : 0 < m) (hm : m ≤ 1000000) (hg : w.heap[g]? = some (.cells #[.string (strOf x)] 9 (0, 0))) :
    ∃ q cc w', (Builtin.append_ #[24, 24] 24 #[.slice (some ⟨g, 0, none⟩) 1 1, .slice o m c]).run Tryd.prog w = .ok (.slice (some q) (1 + m) cc) w' ∧ StrsAt w' (some q) (1 + m) cc (x :: L) ∧ Below w.heap.size w w' := by
  obtain ⟨i, hi, hz0, hz1, hz2⟩ := info_parts Tryd.info_string
  have hlen := h.len
  obtain ⟨b', off, rfl⟩ := h.form h0
  obtain ⟨v', w', h1, h2, h3⟩ := run_append_arg_grows (P := Tryd.prog) w 24 24 9 i (.string ⟨#[]⟩) 1 16 Tryd.under_strs hi hz0 hz1 hz2 rfl (by decide) ⟨g, 0, none⟩ 1 1 [.string (strOf x)] rfl (cells_row_at hg) ⟨b', off, none⟩ m c (L.map fun l => .string (strOf l)) (by rw [List.length_map, hlen, Nat.mul_one]) (fun j u hu => by
    rw [List.getElem?_map] at hu
    obtain ⟨l, hl, rfl⟩ := Option.map_eq_some_iff.1 hu
    rw [Addr.add_mid]
    exact h.get hl) (by omega) (by unfold maxLen; omega) (by omega)
  have hcell := fun g hg => h2.cells (g := g) hg
  rcases h2.2 with ⟨_, h0⟩ | ⟨g', cap, cur, rfl, hb, hg', hnc, hcm, _⟩
  · omega
  · refine ⟨⟨g', 0, none⟩, cap, w', h1, ⟨by rw [List.length_cons, hlen, Nat.add_comm], hnc, hcm, fun _ => ⟨g', 0, rfl, lt_of_block hg', fun i l hl => ?_⟩⟩, grown_below h3 (fun k hk => by cases hk) (Nat.le_refl _)⟩
    intro j u hu
    match j, hu with
    | 0, hu =>
      obtain rfl := Option.some.inj hu
      have := hcell g' rfl i (.string (strOf l)) (by
        have := sCells_get (x :: L) i l hl
        simpa using this)
      rw [Addr.add_mid] at this
      simpa using this

/-- A row of texts of the call's own, as one that came in. -/
theorem StrsAt.of_owns {w : World} {base n c : Nat} {q : Option Addr} {d : List (List UInt8)} (hn : d.length = n) (h : w.ownsRow base 9 1 (.slice q n c) n (d.map fun l => Value.string (strOf l))) : StrsAt w q n c d := by
  have hcell := fun g hg => h.cells (g := g) hg
  rcases h.2 with ⟨hv, h0⟩ | ⟨g, cap, cur, hv, hb, hg, hnc, hcm, _⟩
  · simp only [Value.slice.injEq] at hv
    obtain ⟨rfl, h1, rfl⟩ := hv
    exact ⟨hn, by omega, by decide, fun h => by omega⟩
  · simp only [Value.slice.injEq, true_and] at hv
    obtain ⟨rfl, rfl⟩ := hv
    refine ⟨hn, hnc, hcm, fun _ => ⟨g, 0, rfl, lt_of_block hg, fun i p hp => ?_⟩⟩
    intro j u hu
    match j, hu with
    | 0, hu =>
      obtain rfl := Option.some.inj hu
      have := hcell g rfl i (.string (strOf p)) (by simp [hp])
      rw [Addr.add_mid] at this
      simpa using this

/-- Two rows that aren't the same and have one sum. -/
def isC (x y : List UInt8) : Bool := !(x == y) && (Sha.of x == Sha.of y)

/-- The first two. -/
def findC : List (List UInt8) → List (List UInt8) → List UInt8 × List UInt8 × Bool
  | x :: X, y :: Y => if isC x y then (x, y, true) else findC X Y
  | _, _ => ([], [], false)

theorem isC_self (x : List UInt8) : isC x x = false := by simp [isC]

theorem findC_self (X : List (List UInt8)) : findC X X = ([], [], false) := by
  induction X with
  | nil => rfl
  | cons x X ih => rw [findC, isC_self]; exact ih

theorem findC_spec (X : List (List UInt8)) : ∀ Y, ((findC X Y).2.2 = true → isC (findC X Y).1 (findC X Y).2.1 = true ∧ (findC X Y).1 ∈ X ∧ (findC X Y).2.1 ∈ Y) ∧ ((findC X Y).2.2 = false → (findC X Y).1 = [] ∧ (findC X Y).2.1 = []) := by
  induction X with
  | nil => intro Y; simp [findC]
  | cons x X ih =>
    intro Y
    cases Y with
    | nil => simp [findC]
    | cons y Y =>
      rw [findC]
      by_cases h : isC x y = true
      · rw [if_pos h]
        exact ⟨fun _ => ⟨h, by simp, by simp⟩, fun h => by cases h⟩
      · rw [if_neg h]
        obtain ⟨h1, h2⟩ := ih Y
        exact ⟨fun h3 => ⟨(h1 h3).1, List.mem_cons_of_mem _ (h1 h3).2.1, List.mem_cons_of_mem _ (h1 h3).2.2⟩, h2⟩

theorem findC_drop {X Y : List (List UInt8)} {j : Nat} {x y : List UInt8} (hx : X[j]? = some x) (hy : Y[j]? = some y) : findC (X.drop j) (Y.drop j) = if isC x y then (x, y, true) else findC (X.drop (j + 1)) (Y.drop (j + 1)) := by
  have e1 : X.drop j = x :: X.drop (j + 1) := by
    obtain ⟨h, rfl⟩ := List.getElem?_eq_some_iff.1 hx
    exact List.drop_eq_getElem_cons h
  have e2 : Y.drop j = y :: Y.drop (j + 1) := by
    obtain ⟨h, rfl⟩ := List.getElem?_eq_some_iff.1 hy
    exact List.drop_eq_getElem_cons h
  rw [e1, e2, findC]

theorem findC_clash {X Y : List (List UInt8)} (h : Tree.Clash X Y) : (findC X Y).2.2 = true := by
  obtain ⟨k, x, y, h1, h2, h3, h4⟩ := h
  induction k generalizing X Y with
  | zero =>
    cases X with
    | nil => cases h1
    | cons a X =>
      cases Y with
      | nil => cases h2
      | cons b Y =>
        obtain rfl := Option.some.inj h1
        obtain rfl := Option.some.inj h2
        have : isC a b = true := by unfold isC; rw [beq_eq_false_iff_ne.2 h3, h4]; simp
        rw [findC, if_pos this]
  | succ k ih =>
    cases X with
    | nil => cases h1
    | cons a X =>
      cases Y with
      | nil => cases h2
      | cons b Y =>
        rw [findC]
        split
        · rfl
        · exact ih (by simpa using h1) (by simpa using h2)

/-- hash.Of of one text's bytes: the parts, as a call's own argument lays them. -/
theorem part_one (w : World) (l : List UInt8) (hl : l.length ≤ 1000000000) :
    ∃ cap W, (convert 9 42 (.string (strOf l))).run Tryd.prog w = .ok (.slice (some ⟨w.heap.size, 0, none⟩) l.length cap) W ∧ Below w.heap.size w W ∧
      PartsV (W.alloc (.cells #[.slice (some ⟨w.heap.size, 0, none⟩) l.length cap] 42)) (.slice (some ⟨W.heap.size, 0, none⟩) 1 1) [l] := by
  obtain ⟨cap, W, h1, h2, h3, h4⟩ := str_bytes Tryd.under_str Tryd.under_u8s Tryd.under_b8 w l (by omega)
  exact ⟨cap, W, h1, h3, parts_new W 42 [.slice (some ⟨w.heap.size, 0, none⟩) l.length cap] [l] 1 rfl rfl (parts_1 h2.holds)⟩

/-- The sum of one text, from the convert on. -/
theorem of_one (w : World) (l : List UInt8) (hl : l.length ≤ 1000000) (hL : Laid w) :
    ∃ cap W, (convert 9 42 (.string (strOf l))).run Tryd.prog w = .ok (.slice (some ⟨w.heap.size, 0, none⟩) l.length cap) W ∧
      Below w.heap.size w (W.alloc (.cells #[.slice (some ⟨w.heap.size, 0, none⟩) l.length cap] 42)) ∧
      Calls Tryd.prog 19 #[.slice (some ⟨W.heap.size, 0, none⟩) 1 1] (W.alloc (.cells #[.slice (some ⟨w.heap.size, 0, none⟩) l.length cap] 42)) fun e w' => e = .returned (.agg (byteCells (Sha.of l)).toArray) ∧ Below w.heap.size w w' := by
  obtain ⟨cap, W, h1, h2, h3⟩ := part_one w l (by omega)
  have b : Below w.heap.size w (W.alloc (.cells #[.slice (some ⟨w.heap.size, 0, none⟩) l.length cap] 42)) := h2.alloc h2.size _
  have h := of_any _ _ [l] h3 (by simp) (by simp; omega) (hL.below b)
  rw [show [l].flatten = l by simp] at h
  exact ⟨cap, W, h1, b, h.mono fun _ _ ⟨he, hb⟩ => ⟨he, b.trans (hb.mono b.size)⟩⟩

set_option maxRecDepth 100000 in
set_option maxHeartbeats 1000000 in
theorem clashIs_any (w : World) (x y : List UInt8) (hx : x.length ≤ 1000000) (hy : y.length ≤ 1000000) (hL : Laid w) :
    Calls Tryd.prog 15 #[.string (strOf x), .string (strOf y)] w fun e w' => e = .returned (.bool (isC x y)) ∧ Below w.heap.size w w' := by
  have HL := Lib.hid hL; clear hL
  by_cases hxy : x = y
  · have hne : ((strOf x).toList == (strOf y).toList) = true := by rw [hxy]; simp
    have hr : isC x y = false := by rw [hxy]; exact isC_self y
    rw [hr]
    clear hr hxy
    go_enter Tryd.func15, Tryd.ntmps15
    go_wp2_with fail
    go_ret
    exact ⟨rfl, Below.refl _ _⟩
  · have hne : ((strOf x).toList == (strOf y).toList) = false := by rw [strOf_toList, strOf_toList, beq_eq_false_iff_ne]; exact hxy
    have hr : isC x y = (Sha.of x == Sha.of y) := by unfold isC; rw [beq_eq_false_iff_ne.2 hxy]; simp
    rw [hr]
    clear hr hxy
    have hsx := strOf_size x
    have hsy := strOf_size y
    have hlx := Sha.of_len x
    have hly := Sha.of_len y
    obtain ⟨c1, W1, hcv1, d1, hof⟩ := of_one w x hx HL.out
    have HOF := Lib.hid hof; clear hof
    go_enter Tryd.func15, Tryd.ntmps15
    go_wp2_with fail
    refine HOF.out.mono ?_
    rintro e w2 ⟨rfl, b2⟩
    obtain ⟨c2, W3, hcv2, d3, hof⟩ := of_one w2 y hy (HL.out.below b2)
    have HOF2 := Lib.hid hof; clear hof HOF d1
    go_wp2_with fail
    refine HOF2.out.mono ?_
    rintro e w4 ⟨rfl, b4⟩
    go_wp2_with ((with_reducible show wpList _ _ _ (⟨some 17, _, _, _, _, _⟩ :: _) _ _); refine wpList_eql_hash (op := ⟨some 17, _, _, _, _, _⟩) (by kernel_rfl) _ _ rfl (Sha.of x) (Sha.of y) hlx hly rfl rfl ?_)
    go_ret
    exact ⟨rfl, b2.trans (b4.mono b2.size)⟩

end Go.Proofs.YteljlnkjdajkgaaDoor
