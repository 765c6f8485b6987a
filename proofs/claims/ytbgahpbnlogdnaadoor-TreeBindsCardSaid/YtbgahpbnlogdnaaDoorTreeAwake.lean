/- The walk of the tree laws' awake: it returns true. -/
import Derived.Test.YtbgahpbnlogdnaaDoorTreeLaw
namespace Go.Proofs.YtbgahpbnlogdnaaDoor
open Go.RowKit
set_option linter.unusedSimpArgs false
set_option linter.unusedVariables false

theorem wpList_append_ran {P : Program} {ops : Array Oper} {rest : List Oper} {o : Oper} {a : Act} {w : World} {Q : Exit → Act → World → Prop} (hgd : Region.wanted o (yielded ops a.tmps) = true) (x y : Operand) (t : TypeId) (ho : o.op = .call { callee := .builtin .append, args := #[x, y], argTypes := #[t, t] })
    (vx vy : Value) (hx : a.eval x = vx) (hy : a.eval y = vy) {v : Value} {w' : World} (hr : (Builtin.append_ #[t, t] o.type #[vx, vy]).run P w = .ok v w')
    (h : wpList P ops Q rest (a.put o.dst v) w') : wpList P ops Q (o :: rest) a w :=
  wpList_step fun _ hK => by
    rw [if_pos hgd]
    exact Lib.wp_append_run_sl w x y t ho vx vy hx hy hr (hK _ _ h)

set_option maxRecDepth 100000 in
set_option maxHeartbeats 4000000 in
theorem awake_any (w : World) (hL : Laid w) :
    Calls Tryd.prog 12 #[] w fun e w' => e = .returned (.bool true) ∧ Below w.heap.size w w' := by
  obtain ⟨W1, hW1⟩ : ∃ W1, W1 = w.alloc (.cells #[.string ⟨#[97]⟩, .string ⟨#[98]⟩, .string ⟨#[99]⟩] 9) := ⟨_, rfl⟩
  have x1 : W1.heap[w.heap.size]? = some (.cells #[.string ⟨#[97]⟩, .string ⟨#[98]⟩, .string ⟨#[99]⟩] 9 (0, 0)) := by rw [hW1]; exact heap_alloc_new w _
  have b1 : Below w.heap.size w W1 := by rw [hW1]; exact (Below.refl _ _).alloc (Nat.le_refl _) _
  have s1 : StrsAt W1 (some ⟨w.heap.size, 0, none⟩) 3 3 [[97], [98], [99]] := by
    refine ⟨rfl, Nat.le_refl _, by decide, fun _ => ⟨_, _, rfl, lt_of_block x1, fun i l hl => ?_⟩⟩
    intro j v hv
    match j, hv with
    | 0, hv =>
      obtain rfl := Option.some.inj hv
      match i, hl with
      | 0, hl => obtain rfl := Option.some.inj hl; simp [World.cell?, x1]; rfl
      | 1, hl => obtain rfl := Option.some.inj hl; simp [World.cell?, x1]; rfl
      | 2, hl => obtain rfl := Option.some.inj hl; simp [World.cell?, x1]; rfl
  have S1 := Lib.hid s1; clear s1 x1
  have HL1 := Lib.hid (hL.below b1); clear hL
  have HW1 := Lib.hid hW1; clear hW1
  have hp := treeProve_any W1 _ 3 3 2 _ S1.out (by decide) (by decide) (by simp) HL1.out
  rw [Tree.ex_prove] at hp
  have HP := Lib.hid hp; clear hp
  obtain ⟨N, hN⟩ : ∃ N, N = Tree.node (Tree.leaf [97]) (Tree.leaf [98]) := ⟨_, rfl⟩
  have hNl : N.length = 32 := by rw [hN]; exact Tree.node_len _ _
  have hck := Tree.ex_check
  have hnot := Tree.ex_not
  have htop := Tree.ex_top
  rw [Tree.ex_prove] at hck hnot
  rw [← hN] at HP hck hnot htop
  have HCK := Lib.hid hck; clear hck
  have HNOT := Lib.hid hnot; clear hnot
  have HTOP := Lib.hid htop; clear htop
  have HN := Lib.hid hN; clear hN
  have HNL := Lib.hid hNl; clear hNl
  have hle : ∀ l ∈ [[(97 : UInt8)], [98], [99]], l.length ≤ 100000 := by simp
  have HLE := Lib.hid hle; clear hle
  go_enter Tryd.func12, Tryd.ntmps12
  go_wp2_with fail
  rw [← HW1.out]
  refine HP.out.mono ?_
  rintro e w2 ⟨q, c, rfl, ho, b2⟩
  have P2 := Lib.hid (HashesAt.of_owns (d := [N]) ho (by intro p hp; obtain rfl := List.mem_singleton.1 hp; exact HNL.out)); clear ho
  have hq1 : ([N] : List (List UInt8)).length = 1 := rfl
  have B2 := b1.trans (b2.mono b1.size)
  have hr := treeRoot_any w2 _ 3 3 _ (S1.out.below (Nat.le_refl _) b2) (by decide) HLE.out (HL1.out.below b2)
  have HR := Lib.hid hr; clear hr
  obtain ⟨R, hR⟩ : ∃ R, R = Tree.root 3 (Tree.top [[97], [98], [99]]) := ⟨_, rfl⟩
  have hRl : R.length = 32 := by rw [hR]; exact Tree.root_len _ _
  rw [← hR] at HR HCK HNOT
  have HRL := Lib.hid hRl; clear hRl
  have HRE := Lib.hid hR; clear hR
  go_wp2_with fail
  refine HR.out.mono ?_
  rintro e w3 ⟨rfl, b3⟩
  have B3 := B2.trans (b3.mono B2.size)
  have b13 : Below W1.heap.size W1 w3 := b2.trans (b3.mono b2.size)
  have hc := treeCheck_any w3 R HRL.out 3 2 (by decide) (by decide) [99] (by decide) q 1 c [N] (P2.out.below (Nat.le_refl _) b3) (HL1.out.below b13)
  rw [HCK.out] at hc
  have HC := Lib.hid hc; clear hc
  go_wp2_with fail
  refine HC.out.mono ?_
  rintro e w4 ⟨rfl, b4⟩
  have B4 := B3.trans (b4.mono B3.size)
  have b14 : Below W1.heap.size W1 w4 := b13.trans (b4.mono b13.size)
  have hr := treeRoot_any w4 _ 3 3 _ (S1.out.below (Nat.le_refl _) b14) (by decide) HLE.out (HL1.out.below b14)
  rw [← HRE.out] at hr
  have HR2 := Lib.hid hr; clear hr
  go_wp2_with fail
  refine HR2.out.mono ?_
  rintro e w5 ⟨rfl, b5⟩
  have B5 := B4.trans (b5.mono B4.size)
  have b15 : Below W1.heap.size W1 w5 := b14.trans (b5.mono b14.size)
  have hc := treeCheck_any w5 R HRL.out 3 2 (by decide) (by decide) [100] (by decide) q 1 c [N] (P2.out.below (Nat.le_refl _) (b3.trans ((b4.trans (b5.mono b4.size)).mono b3.size))) (HL1.out.below b15)
  rw [HNOT.out] at hc
  have HC2 := Lib.hid hc; clear hc
  go_wp2_with fail
  refine HC2.out.mono ?_
  rintro e w6 ⟨rfl, b6⟩
  have B6 := B5.trans (b6.mono B5.size)
  have b16 : Below W1.heap.size W1 w6 := b15.trans (b6.mono b15.size)
  have hh := treeHalf_nat w6 3 (by decide)
  rw [Tree.half_3] at hh
  have HH := Lib.hid hh; clear hh
  go_wp2_with fail
  refine HH.out.mono ?_
  rintro e w' ⟨rfl, rfl⟩
  have hd := treeDeep_any w6 3 0 (by decide) (by decide)
  rw [Tree.ex_sides0] at hd
  have HD := Lib.hid hd; clear hd
  go_wp2_with fail
  refine HD.out.mono ?_
  rintro e w7 ⟨rfl, b7⟩
  have B7 := B6.trans (b7.mono B6.size)
  have b17 : Below W1.heap.size W1 w7 := b16.trans (b7.mono b16.size)
  have hl2 : ([true, true] : List Bool).length = 2 := rfl
  have ht := treeTop_any 3 w7 _ 3 3 _ rfl (S1.out.below (Nat.le_refl _) b17) (by decide) HLE.out (HL1.out.below b17)
  rw [HTOP.out] at ht
  have HT := Lib.hid ht; clear ht
  go_wp2_with fail
  refine HT.out.mono ?_
  rintro e w8 ⟨rfl, b8⟩
  have B8 := B7.trans (b8.mono B7.size)
  have b18 : Below W1.heap.size W1 w8 := b17.trans (b8.mono b17.size)
  have h := treeLeaf_any w8 [97] (by decide) (HL1.out.below b18)
  have HA := Lib.hid h; clear h
  go_wp2_with fail
  refine HA.out.mono ?_
  rintro e w9 ⟨rfl, b9⟩
  have B9 := B8.trans (b9.mono B8.size)
  have b19 : Below W1.heap.size W1 w9 := b18.trans (b9.mono b18.size)
  have h := treeLeaf_any w9 [98] (by decide) (HL1.out.below b19)
  have HB := Lib.hid h; clear h
  go_wp2_with fail
  refine HB.out.mono ?_
  rintro e v1 ⟨rfl, d1⟩
  have D1 := B9.trans (d1.mono B9.size)
  have e1 : Below W1.heap.size W1 v1 := b19.trans (d1.mono b19.size)
  have h := treeNode_any v1 (Tree.leaf [97]) (Tree.leaf [98]) (Tree.leaf_len _) (Tree.leaf_len _) (HL1.out.below e1)
  rw [← HN.out] at h
  have HC3 := Lib.hid h; clear h
  go_wp2_with fail
  refine HC3.out.mono ?_
  rintro e v2 ⟨rfl, d2⟩
  have D2 := D1.trans (d2.mono D1.size)
  have e2 : Below W1.heap.size W1 v2 := e1.trans (d2.mono e1.size)
  have h := treeLeaf_any v2 [99] (by decide) (HL1.out.below e2)
  have HD3 := Lib.hid h; clear h
  go_wp2_with fail
  refine HD3.out.mono ?_
  rintro e v3 ⟨rfl, d3⟩
  have D3 := D2.trans (d3.mono D2.size)
  have e3 : Below W1.heap.size W1 v3 := e2.trans (d3.mono e2.size)
  have h := treeNode_any v3 N (Tree.leaf [99]) HNL.out (Tree.leaf_len _) (HL1.out.below e3)
  have HE3 := Lib.hid h; clear h
  have hnn := Tree.node_len N (Tree.leaf [99])
  go_wp2_with fail
  refine HE3.out.mono ?_
  rintro e v4 ⟨rfl, d4⟩
  have D4 := D3.trans (d4.mono D3.size)
  go_wp2_with ((with_reducible show wpList _ _ _ (⟨some 46, _, _, _, _, _⟩ :: _) _ _); refine wpList_eql_hash (op := ⟨some 46, _, _, _, _, _⟩) (by kernel_rfl) _ _ rfl (Tree.node N (Tree.leaf [99])) (Tree.node N (Tree.leaf [99])) hnn hnn rfl rfl ?_; rw [beq_self_eq_true])
  go_ret
  exact ⟨rfl, D4⟩

end Go.Proofs.YtbgahpbnlogdnaaDoor
