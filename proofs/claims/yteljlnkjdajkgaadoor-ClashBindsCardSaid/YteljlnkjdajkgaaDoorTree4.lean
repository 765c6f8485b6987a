/- The walks of tree.sides, Deep. -/
import Derived.Test.YteljlnkjdajkgaaDoorTree3
namespace Go.Proofs.YteljlnkjdajkgaaDoor
open Go.RowKit
set_option linter.unusedSimpArgs false
set_option linter.unusedVariables false

def boolCells (l : List Bool) : List Value := l.map Value.bool
theorem boolCells_app (a b : List Bool) : boolCells (a ++ b) = boolCells a ++ boolCells b := by simp [boolCells]
theorem boolCells_len (l : List Bool) : (boolCells l).length = l.length := by simp [boolCells]
theorem boolCells_get {l : List Bool} {i : Nat} {x : Bool} (h : l[i]? = some x) : (boolCells l)[i]? = some (.bool x) := by simp [boolCells, h]
theorem one_bool (x : Bool) : ∀ u ∈ [Value.bool x], u.oneCell' = true := by
  intro u hu
  obtain rfl := List.mem_singleton.1 hu
  rfl
theorem Tryd.under_bools : Tryd.prog.underlying 59 = some (.slice 4) := by kernel_rfl
theorem Tryd.info_bool : (Tryd.prog.info? 4).map (fun i => (i.zero, i.size, i.bytes)) = some (some (.bool false), 1, 1) := by kernel_rfl

theorem grown_below {w w' : World} {row : Option Nat} {B : Nat} (h : w.grownBy w' row) (hr : ∀ g, row = some g → B ≤ g) (hB : B ≤ w.heap.size) : Below B w w' :=
  ⟨h.os, h.tape, h.output, h.size, fun k hk => h.block k (by omega) (fun e => by have := hr k e.symm; omega)⟩

theorem slice_cell {w : World} {base n g cap : Nat} {e : TypeId} {xs : List Value} {u : Value} {j : Nat} (h : w.ownsRow base e 1 (.slice (some ⟨g, 0, none⟩) n cap) n xs) (hj : xs[j]? = some u) : w.cell? ⟨g, j, none⟩ = some u := by
  have := h.cells (g := g) rfl j u hj
  rw [Addr.add_mid, Nat.zero_add] at this
  exact this

theorem owns_below {w w' : World} {base : Nat} {e size : Nat} {v : Value} {n : Nat} {xs : List Value} (h : w.ownsRow base e size v n xs) (hb : Below w.heap.size w w') : w'.ownsRow base e size v n xs :=
  ownsRow_below h fun k hk => hb.block k (h.lt k hk).2

/-- There is no such leaf. -/
def badSide (n i : Int) : Bool := decide (1073741824 < n) || decide (i < 0) || decide (n ≤ i)

set_option maxRecDepth 100000 in
set_option maxHeartbeats 2000000 in
theorem treeSides_bad (w : World) (n i : Int) (hb : badSide n i = true) :
    Calls Tryd.prog 33 #[.int .i64 n, .int .i64 i] w fun e w' => w = w' ∧ e = .returned (.tuple #[.slice none 0 0, .bool false]) := by
  unfold badSide at hb
  rcases hx : decide ((1073741824 : Int) < n) with _ | _
  · rcases hy : decide (i < 0) with _ | _
    · have hz : decide (n ≤ i) = true := by rw [hx, hy] at hb; simpa using hb
      clear hb
      go_enter Tryd.func33, Tryd.ntmps33
      go_wp2_with fail
      go_ret2
      exact ⟨rfl, rfl⟩
    · clear hb
      go_enter Tryd.func33, Tryd.ntmps33
      go_wp2_with fail
      go_ret2
      exact ⟨rfl, rfl⟩
  · clear hb
    go_enter Tryd.func33, Tryd.ntmps33
    go_wp2_with fail
    go_ret2
    exact ⟨rfl, rfl⟩

set_option maxRecDepth 100000 in
set_option maxHeartbeats 2000000 in
theorem treeSides_any (w : World) (n i : Nat) (h1 : i < n) (h2 : n ≤ 1073741824) :
    Calls Tryd.prog 33 #[.int .i64 (n : Int), .int .i64 (i : Int)] w fun e w' => ∃ q c, e = .returned (.tuple #[.slice q (Tree.sides n i).length c, .bool true]) ∧ w'.ownsRow w.heap.size 4 1 (.slice q (Tree.sides n i).length c) (Tree.sides n i).length (boolCells (Tree.sides n i)) ∧ Below w.heap.size w w' := by
  obtain ⟨i0, hi, hz0, hz1, hz2⟩ := info_parts Tryd.info_bool
  have HI0 := Lib.hid hi; clear hi
  have HZ0 := Lib.hid hz0; clear hz0
  have HZ1 := Lib.hid hz1; clear hz1
  have HZ2 := Lib.hid hz2; clear hz2
  have hx : decide ((1073741824 : Int) < (n : Int)) = false := decide_eq_false (by omega)
  have hy : decide ((i : Int) < 0) = false := decide_eq_false (by omega)
  have hz : decide ((n : Int) ≤ (i : Int)) = false := decide_eq_false (by omega)
  have hz' : decide (n ≤ i) = false := decide_eq_false (by omega)
  obtain ⟨T, hT⟩ : ∃ T, T = Tree.sides n i := ⟨_, rfl⟩
  have hlen : T.length ≤ 30 := by rw [hT]; exact Tree.sides_len 30 n i h1 h2
  rw [← hT]
  have HT := Lib.hid hT; clear hT
  go_enter Tryd.func33, Tryd.ntmps33
  go_wp2_with fail
  go_loopw [0, 1, 6] (fun vn vi vo wr => ∃ m j : Nat, ∃ d : List Bool, ∃ q c, vn = .int .i64 (m : Int) ∧ vi = .int .i64 (j : Int) ∧ vo = .slice q d.length c ∧ j < m ∧ m ≤ n ∧ Hid (d ++ Tree.sides m j = T) ∧ Hid (wr.ownsRow w.heap.size 4 1 (.slice q d.length c) d.length (boolCells d)) ∧ d.length ≤ 30 ∧ Below w.heap.size w wr) (fun vn _ _ _ => (intOf vn).toNat)
  case atStart => exact ⟨n, i, [], none, 0, rfl, rfl, rfl, h1, Nat.le_refl _, Lib.hid (by rw [HT.out]; rfl), Lib.hid (World.ownsRow_nil _ _ _ _), by simp, Below.refl _ _⟩
  case round =>
    obtain ⟨m, j, d, q, c, rfl, rfl, rfl, hj, hm, HD, HX, hd, Br⟩ := hrel
    by_cases hlt : 2 ≤ m
    · have ht : decide ((1 : Int) < (m : Int)) = true := decide_eq_true (by omega)
      obtain ⟨k, hk⟩ : ∃ k, k = Tree.half m := ⟨_, rfl⟩
      have hk1 : 1 ≤ k := by rw [hk]; exact Tree.half_pos hlt
      have hkm : k < m := by rw [hk]; exact Tree.half_lt hlt
      have hhalf := treeHalf_nat wr m (by omega)
      rw [← hk] at hhalf
      have HK := Lib.hid hk; clear hk
      have HH := Lib.hid hhalf; clear hhalf
      have sr := Br.size
      have hd30 : d.length < 30 := by
        have h3 := congrArg List.length HD.out
        rw [List.length_append] at h3
        have h4 : 1 ≤ (Tree.sides m j).length := by
          by_cases hl : j < Tree.half m
          · rw [Tree.sides_left hlt hl]; simp
          · rw [Tree.sides_right hlt hl]; simp
        omega
      by_cases hl : j < k
      · go_wp2_with fail
        refine HH.out.mono ?_
        rintro e w' ⟨rfl, rfl⟩
        have ht2 : decide ((j : Int) < (k : Int)) = true := decide_eq_true (by omega)
        have hsd := Tree.sides_left (by omega) (by rw [← HK.out]; exact hl)
        rw [← HK.out] at hsd
        have HSD := Lib.hid hsd; clear hsd
        go_wp2_with (at_builtin; refine wpList_append_own _ rfl _ _ 59 rfl w.heap.size 4 i0 (.bool false) 1 1 Tryd.under_bools HI0.out HZ0.out HZ1.out HZ2.out rfl (by decide) _ _ _ rfl (HX.out.alloc _) ⟨wr.heap.size, 0, none⟩ 1 1 [.bool true] rfl rfl (cell_one_new _ _ _) (one_bool _) (by unfold maxLen; omega) (by omega) (by simp; omega) ?_)
        intro v' w5 hown' hgrow _
        have B5 : Below w.heap.size w w5 := (Br.alloc (by omega) _).trans (grown_below hgrow (fun g' hg' => (HX.out.lt g' hg').1) (by simp; omega))
        have hx5 : w5.ownsRow w.heap.size 4 1 v' (d.length + 1) (boolCells (d ++ [true])) := by rw [boolCells_app]; exact hown'
        have s5 := hgrow.size
        simp at s5
        have HX5 := Lib.hid hx5; clear hx5 hown' hgrow
        obtain ⟨q', c', rfl⟩ := ownsRow_slice HX5.out
        go_wp2_with fail
        go_roundw
        case rel => exact ⟨k, j, d ++ [true], q', c', rfl, rfl, by rw [List.length_append]; rfl, by omega, by omega, Lib.hid (by rw [List.append_assoc]; rw [← HD.out, HSD.out]; rfl), Lib.hid (by rw [List.length_append]; exact HX5.out), by simp only [List.length_append, List.length_cons, List.length_nil]; omega, B5⟩
        case measure => simp [intOf]; omega
      · go_wp2_with fail
        refine HH.out.mono ?_
        rintro e w' ⟨rfl, rfl⟩
        have ht2 : decide ((j : Int) < (k : Int)) = false := decide_eq_false (by omega)
        have hsd := Tree.sides_right (by omega) (by rw [← HK.out]; exact hl)
        rw [← HK.out] at hsd
        have HSD := Lib.hid hsd; clear hsd
        go_wp2_with (at_builtin; refine wpList_append_own _ rfl _ _ 59 rfl w.heap.size 4 i0 (.bool false) 1 1 Tryd.under_bools HI0.out HZ0.out HZ1.out HZ2.out rfl (by decide) _ _ _ rfl (HX.out.alloc _) ⟨wr.heap.size, 0, none⟩ 1 1 [.bool false] rfl rfl (cell_one_new _ _ _) (one_bool _) (by unfold maxLen; omega) (by omega) (by simp; omega) ?_)
        intro v' w5 hown' hgrow _
        have B5 : Below w.heap.size w w5 := (Br.alloc (by omega) _).trans (grown_below hgrow (fun g' hg' => (HX.out.lt g' hg').1) (by simp; omega))
        have hx5 : w5.ownsRow w.heap.size 4 1 v' (d.length + 1) (boolCells (d ++ [false])) := by rw [boolCells_app]; exact hown'
        have s5 := hgrow.size
        simp at s5
        have HX5 := Lib.hid hx5; clear hx5 hown' hgrow
        obtain ⟨q', c', rfl⟩ := ownsRow_slice HX5.out
        go_wp2_with fail
        go_roundw
        case rel => exact ⟨m - k, j - k, d ++ [false], q', c', by go_num, by go_num, by rw [List.length_append]; rfl, by omega, by omega, Lib.hid (by rw [List.append_assoc]; rw [← HD.out, HSD.out]; rfl), Lib.hid (by rw [List.length_append]; exact HX5.out), by simp only [List.length_append, List.length_cons, List.length_nil]; omega, B5⟩
        case measure => simp [intOf]; omega
    · have ht : decide ((1 : Int) < (m : Int)) = false := decide_eq_false (by omega)
      have hdT : d = T := by have := HD.out; rw [Tree.sides_small hlt, List.append_nil] at this; exact this
      subst hdT
      go_wp2_with fail
      go_ret2
      exact ⟨q, c, rfl, HX.out, Br⟩

set_option maxRecDepth 100000 in
set_option maxHeartbeats 2000000 in
theorem treeDeep_any (w : World) (n i : Nat) (h1 : i < n) (h2 : n ≤ 1073741824) :
    Calls Tryd.prog 17 #[.int .i64 (n : Int), .int .i64 (i : Int)] w fun e w' => e = .returned (.int .i64 ((Tree.sides n i).length : Int)) ∧ Below w.heap.size w w' := by
  have hlen := Tree.sides_len 30 n i h1 h2
  go_enter Tryd.func17, Tryd.ntmps17
  go_wp2_with fail
  refine (treeSides_any w n i h1 h2).mono ?_
  rintro e w' ⟨q, c, rfl, ho, hb⟩
  go_wp2_with fail
  go_ret
  exact ⟨rfl, hb⟩

set_option maxRecDepth 100000 in
theorem treeDeep_bad (w : World) (n i : Int) (hb : badSide n i = true) :
    Calls Tryd.prog 17 #[.int .i64 n, .int .i64 i] w fun e w' => e = .returned (.int .i64 0) ∧ Below w.heap.size w w' := by
  go_enter Tryd.func17, Tryd.ntmps17
  go_wp2_with fail
  refine (treeSides_bad w n i hb).mono ?_
  rintro e w' ⟨rfl, rfl⟩
  go_wp2_with fail
  go_ret
  exact ⟨rfl, Below.refl _ _⟩

end Go.Proofs.YteljlnkjdajkgaaDoor
