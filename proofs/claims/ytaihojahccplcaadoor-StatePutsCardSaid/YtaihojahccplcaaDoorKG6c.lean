/- S5, TreeLaw, RefGet, S10, S11, in one text. -/
import Derived.Test.YtaihojahccplcaaDoorKG6b
import Derived.Test.YtaihojahccplcaaDoorKG0a
import Derived.Test.YtaihojahccplcaaDoorKG6a
import Derived.OwnWalk
import Derived.Test.YtaihojahccplcaaDoorKG0b
import Derived.Test.YtaihojahccplcaaDoorKG4a
/- Vertices: the document's Put. -/
namespace Go.Proofs.YtaihojahccplcaaDoor
open Go.RowKit
set_option linter.unusedSimpArgs false
set_option linter.unusedVariables false

/-- What the region's operations leave. -/
def rputV (B n : Nat) (value inn : Int) (active has : Bool) (s1 s2 s3 s4 s5 : List UInt8) (ix : Nat) (w : World) (v : Value) : Prop :=
  match ix with
  | 0 => v = .pointer (some ⟨B, 0, none⟩)
  | 1 => v = .int .i64 ((n : Int))
  | 2 => v = .int .u64 (n : Int)
  | 3 => v = .string (strOf s1)
  | 4 => v = .pointer (some ⟨B, 1, none⟩)
  | 5 => v = .int .i64 (value)
  | 6 => v = .string (strOf s2)
  | 7 => v = .string (strOf (s1 ++ s2))
  | 8 => v = .pointer (some ⟨B, 2, none⟩)
  | 9 => v = .bool active
  | 10 => v = .string (strOf s3)
  | 11 => v = .string (strOf (s1 ++ (s2 ++ s3)))
  | 12 => v = .pointer (some ⟨B, 3, none⟩)
  | 13 => v = .bool has
  | 14 => v = .string (strOf s4)
  | 15 => v = .string (strOf (s1 ++ (s2 ++ (s3 ++ s4))))
  | 16 => v = .pointer (some ⟨B, 4, none⟩)
  | 17 => v = .int .i64 (inn)
  | 18 => v = .string (strOf s5)
  | 19 => v = .string (strOf (s1 ++ (s2 ++ (s3 ++ (s4 ++ s5)))))
  | 20 => v = .string (strOf (s1 ++ (s2 ++ (s3 ++ (s4 ++ s5)))))
  | _ => True

theorem rputV_mono (B n : Nat) (value inn : Int) (active has : Bool) (s1 s2 s3 s4 s5 : List UInt8) (jx : Nat) (w w' : World) (v : Value) (hb : Below w.heap.size w w') (h : rputV B n value inn active has s1 s2 s3 s4 s5 jx w v) : rputV B n value inn active has s1 s2 s3 s4 s5 jx w' v := by
  match jx, h with
  | 0, h => exact h
  | 1, h => exact h
  | 2, h => exact h
  | 3, h => exact h
  | 4, h => exact h
  | 5, h => exact h
  | 6, h => exact h
  | 7, h => exact h
  | 8, h => exact h
  | 9, h => exact h
  | 10, h => exact h
  | 11, h => exact h
  | 12, h => exact h
  | 13, h => exact h
  | 14, h => exact h
  | 15, h => exact h
  | 16, h => exact h
  | 17, h => exact h
  | 18, h => exact h
  | 19, h => exact h
  | 20, h => exact h
  | _ + 21, h => exact trivial

set_option maxRecDepth 100000 in
set_option maxHeartbeats 4000000 in
theorem refPut10_any (w : World) (x : St.V) : Calls Tryd.prog 16 #[.agg (VertexV.cells x).toArray] w fun e w' => e = .returned (.string (strOf (St.put x))) ∧ Below w.heap.size w w' := by
  obtain ⟨e0, he0⟩ : ∃ e0 : Value, e0 = .string (strOf (St.put x)) := ⟨_, rfl⟩
  rw [← he0]
  have HE := Lib.hid he0; clear he0
  obtain ⟨W, hW⟩ : ∃ W, W = w.alloc (.cells (VertexV.cells x).toArray 36) := ⟨_, rfl⟩
  have X0 := Lib.hid (vertex_box w x W hW)
  have bw : Below w.heap.size w W := by rw [hW]; exact (Below.refl _ _).alloc (Nat.le_refl _) _
  have HW := Lib.hid hW; clear hW
  have hck := refRight_any W x
  rcases hr : St.right x with _ | _
  · rw [hr] at hck
    have HC := Lib.hid hck; clear hck
    have HR := Lib.hid hr; clear hr
    go_enter Tryd.func16, Tryd.ntmps16
    go_wp2_with (first | ((with_reducible show wpList _ _ _ (⟨some 3, _, _, _, _, _⟩ :: _) _ _); change wpList _ _ _ _ _ (w.alloc (.cells (VertexV.cells x).toArray 36)); rw [← HW.out]; refine wpList_load_vx (by kernel_rfl) _ rfl w.heap.size rfl x X0.out ?_))
    refine HC.out.mono ?_
    rintro e w1 ⟨rfl, b1⟩
    go_wp2_with fail
    go_ret
    exact ⟨by rw [HE.out, St.put, HR.out]; rfl, bw.trans (b1.mono bw.size)⟩
  · rw [hr] at hck
    obtain ⟨h1, h2, h3, h4, h5⟩ := St.right_iff.1 hr
    obtain ⟨v1, v2⟩ := St.great_iff.1 h3
    obtain ⟨n1, n2⟩ := St.great_iff.1 h4
    clear h3 h4 h5
    have HC := Lib.hid hck; clear hck
    have hput : St.put x = Wire.num x.id.toNat ++ (Wire.num (Wire.zig x.value) ++ ([UInt8.ofNat (St.bit x.active)] ++ ([UInt8.ofNat (St.bit x.has)] ++ Wire.num (Wire.zig x.inn)))) := by
      rw [St.put, hr, if_pos rfl, St.bytes, Wire.num_small (St.bit x.active) (by have := St.bit_lt x.active; omega), Wire.num_small (St.bit x.has) (by have := St.bit_lt x.has; omega)]; simp only [List.append_assoc]
    have HR := Lib.hid hr; clear hr
    have l1 := Wire.num_length x.id.toNat (by omega)
    have l2 := Wire.num_length (Wire.zig x.value) (Wire.zig_lt _ (by omega) (by omega))
    have l5 := Wire.num_length (Wire.zig x.inn) (Wire.zig_lt _ (by omega) (by omega))
    have l3 : [UInt8.ofNat (St.bit x.active)].length ≤ 10 := by simp
    have l4 : [UInt8.ofNat (St.bit x.has)].length ≤ 10 := by simp
    have c2 := fun w => refInt_any x.value (by omega) (by omega) w
    have c5 := fun w => refInt_any x.inn (by omega) (by omega) w
    have c3 := fun w => refBit_any w x.active
    have c4 := fun w => refBit_any w x.has
    obtain ⟨id, value, active, has, inn⟩ := x
    simp only at h1 h2 v1 v2 n1 n2 l1 l2 l3 l4 l5 hput c2 c3 c4 c5
    obtain ⟨n, rfl⟩ : ∃ n : Nat, id = (n : Int) := ⟨id.toNat, by omega⟩
    rw [Int.toNat_natCast] at l1 hput
    have c1 := fun w => refNum_any n (by omega) w
    obtain ⟨s1, e1⟩ : ∃ s1, s1 = Wire.num n := ⟨_, rfl⟩
    obtain ⟨s2, e2⟩ : ∃ s2, s2 = Wire.num (Wire.zig value) := ⟨_, rfl⟩
    obtain ⟨s3, e3⟩ : ∃ s3, s3 = [UInt8.ofNat (St.bit active)] := ⟨_, rfl⟩
    obtain ⟨s4, e4⟩ : ∃ s4, s4 = [UInt8.ofNat (St.bit has)] := ⟨_, rfl⟩
    obtain ⟨s5, e5⟩ : ∃ s5, s5 = Wire.num (Wire.zig inn) := ⟨_, rfl⟩
    rw [← e1, ← e2, ← e3, ← e4, ← e5] at hput
    rw [← e1] at c1 l1
    rw [← e2] at c2 l2
    rw [← e3] at c3 l3
    rw [← e4] at c4 l4
    rw [← e5] at c5 l5
    clear e1 e2 e3 e4 e5
    have HPUT := Lib.hid hput; clear hput
    have C1 := Lib.hid c1; have C2 := Lib.hid c2; have C3 := Lib.hid c3; have C4 := Lib.hid c4; have C5 := Lib.hid c5; clear c1 c2 c3 c4 c5
    have L1 := Lib.hid l1; have L2 := Lib.hid l2; have L3 := Lib.hid l3; have L4 := Lib.hid l4; have L5 := Lib.hid l5; clear l1 l2 l3 l4 l5
    go_enter Tryd.func16, Tryd.ntmps16
    go_wp2_with (first | ((with_reducible show wpList _ _ _ (⟨some 3, _, _, _, _, _⟩ :: _) _ _); change wpList _ _ _ _ _ (w.alloc (.cells (VertexV.cells ⟨(n : Int), value, active, has, inn⟩).toArray 36)); rw [← HW.out]; refine wpList_load_vx (by kernel_rfl) _ rfl w.heap.size rfl _ X0.out ?_))
    refine HC.out.mono ?_
    rintro e w1 ⟨rfl, b1⟩
    have x1 := (b1.block _ (lt_of_block X0.out)).trans X0.out
    clear X0 HC
    have X1 := Lib.hid x1; clear x1
    have bw1 := bw.trans (b1.mono bw.size)
    clear b1 bw
    go_wp2_with fail
    refine wp_region_rel [[], [0], [1], [2], [], [4], [5], [3, 6], [], [8], [9], [7, 10], [], [12], [13], [11, 14], [], [16], [17], [15, 18], [19]] (rputV w.heap.size n value inn active has s1 s2 s3 s4 s5) 26 (by kernel_rfl) (by kernel_rfl) (by kernel_rfl) (rputV_mono w.heap.size n value inn active has s1 s2 s3 s4 s5) ?_ ?_
    · intro ix op hi w2 b2 vs hv
      have him : ix < 21 := (List.getElem?_eq_some_iff.1 hi).1
      have hx1 := X1.out
      match ix, him, hi with
      | 0, _, hi =>
        obtain rfl := Option.some.inj hi
        simp only [relF, List.getD_cons_zero, List.getD_cons_succ, List.foldl_cons, List.foldl_nil, dstAt, List.getElem?_cons_zero, List.getElem?_cons_succ, Option.bind_some]
        go_wp2_with fail
        exact ⟨rfl, Below.refl _ _, rfl, rfl⟩
      | 1, _, hi =>
        obtain rfl := Option.some.inj hi
        have h0 : vs 0 = _ := hv 0 (by decide)
        obtain ⟨k0, k1, k2, k3, k4⟩ := vertex_at ((b2.block _ (lt_of_block X1.out)).trans X1.out)
        simp only [relF, List.getD_cons_zero, List.getD_cons_succ, List.foldl_cons, List.foldl_nil, dstAt, List.getElem?_cons_zero, List.getElem?_cons_succ, Option.bind_some]
        go_frame
        rw [h0]
        go_wp2_with fail
        exact ⟨rfl, Below.refl _ _, rfl, rfl⟩
      | 2, _, hi =>
        obtain rfl := Option.some.inj hi
        have h1 : vs 1 = _ := hv 1 (by decide)
        have hu : IntKind.u64.wrap (n : Int) = (n : Int) := by rw [IntKind.wrap_u64]; omega
        simp only [relF, List.getD_cons_zero, List.getD_cons_succ, List.foldl_cons, List.foldl_nil, dstAt, List.getElem?_cons_zero, List.getElem?_cons_succ, Option.bind_some]
        go_frame
        rw [h1]
        go_wp2_with fail
        exact ⟨rfl, Below.refl _ _, rfl, rfl⟩
      | 3, _, hi =>
        obtain rfl := Option.some.inj hi
        have h2 : vs 2 = _ := hv 2 (by decide)
        simp only [relF, List.getD_cons_zero, List.getD_cons_succ, List.foldl_cons, List.foldl_nil, dstAt, List.getElem?_cons_zero, List.getElem?_cons_succ, Option.bind_some]
        go_frame
        rw [h2]
        go_wp2_with fail
        refine (C1.out w2).mono ?_
        rintro e w3 ⟨rfl, b3⟩
        go_wp2_with fail
        exact ⟨rfl, b3, rfl, rfl⟩
      | 4, _, hi =>
        obtain rfl := Option.some.inj hi
        simp only [relF, List.getD_cons_zero, List.getD_cons_succ, List.foldl_cons, List.foldl_nil, dstAt, List.getElem?_cons_zero, List.getElem?_cons_succ, Option.bind_some]
        go_wp2_with fail
        exact ⟨rfl, Below.refl _ _, rfl, rfl⟩
      | 5, _, hi =>
        obtain rfl := Option.some.inj hi
        have h4 : vs 4 = _ := hv 4 (by decide)
        obtain ⟨k0, k1, k2, k3, k4⟩ := vertex_at ((b2.block _ (lt_of_block X1.out)).trans X1.out)
        simp only [relF, List.getD_cons_zero, List.getD_cons_succ, List.foldl_cons, List.foldl_nil, dstAt, List.getElem?_cons_zero, List.getElem?_cons_succ, Option.bind_some]
        go_frame
        rw [h4]
        go_wp2_with fail
        exact ⟨rfl, Below.refl _ _, rfl, rfl⟩
      | 6, _, hi =>
        obtain rfl := Option.some.inj hi
        have h5 : vs 5 = _ := hv 5 (by decide)
        simp only [relF, List.getD_cons_zero, List.getD_cons_succ, List.foldl_cons, List.foldl_nil, dstAt, List.getElem?_cons_zero, List.getElem?_cons_succ, Option.bind_some]
        go_frame
        rw [h5]
        go_wp2_with fail
        refine (C2.out w2).mono ?_
        rintro e w3 ⟨rfl, b3⟩
        go_wp2_with fail
        exact ⟨rfl, b3, rfl, rfl⟩
      | 7, _, hi =>
        obtain rfl := Option.some.inj hi
        have h3 : vs 3 = _ := hv 3 (by decide)
        have h6 : vs 6 = _ := hv 6 (by decide)
        have hlen0 := L1.out
        have hlen1 := L2.out
        have hz1 := strOf_size s1
        have hz2 := strOf_size s2
        have hadd : ((strOf s1) : ByteArray) ++ (strOf s2) = strOf (s1 ++ s2) := by first | exact add_str s1 s2 | simpa only [List.append_assoc] using add_str s1 s2
        simp only [relF, List.getD_cons_zero, List.getD_cons_succ, List.foldl_cons, List.foldl_nil, dstAt, List.getElem?_cons_zero, List.getElem?_cons_succ, Option.bind_some]
        go_frame
        rw [h3, h6]
        go_wp2_with fail
        exact ⟨rfl, Below.refl _ _, rfl, rfl⟩
      | 8, _, hi =>
        obtain rfl := Option.some.inj hi
        simp only [relF, List.getD_cons_zero, List.getD_cons_succ, List.foldl_cons, List.foldl_nil, dstAt, List.getElem?_cons_zero, List.getElem?_cons_succ, Option.bind_some]
        go_wp2_with fail
        exact ⟨rfl, Below.refl _ _, rfl, rfl⟩
      | 9, _, hi =>
        obtain rfl := Option.some.inj hi
        have h8 : vs 8 = _ := hv 8 (by decide)
        obtain ⟨k0, k1, k2, k3, k4⟩ := vertex_at ((b2.block _ (lt_of_block X1.out)).trans X1.out)
        simp only [relF, List.getD_cons_zero, List.getD_cons_succ, List.foldl_cons, List.foldl_nil, dstAt, List.getElem?_cons_zero, List.getElem?_cons_succ, Option.bind_some]
        go_frame
        rw [h8]
        go_wp2_with fail
        exact ⟨rfl, Below.refl _ _, rfl, rfl⟩
      | 10, _, hi =>
        obtain rfl := Option.some.inj hi
        have h9 : vs 9 = _ := hv 9 (by decide)
        simp only [relF, List.getD_cons_zero, List.getD_cons_succ, List.foldl_cons, List.foldl_nil, dstAt, List.getElem?_cons_zero, List.getElem?_cons_succ, Option.bind_some]
        go_frame
        rw [h9]
        go_wp2_with fail
        refine (C3.out w2).mono ?_
        rintro e w3 ⟨rfl, rfl⟩
        go_wp2_with fail
        exact ⟨rfl, Below.refl _ _, rfl, rfl⟩
      | 11, _, hi =>
        obtain rfl := Option.some.inj hi
        have h7 : vs 7 = _ := hv 7 (by decide)
        have h10 : vs 10 = _ := hv 10 (by decide)
        have hlen0 := L1.out
        have hlen1 := L2.out
        have hlen2 := L3.out
        have hz1 : ((strOf (s1 ++ s2)) : ByteArray).size = (s1 ++ s2).length := by first | rfl | exact strOf_size _
        have hz2 : ((strOf s3) : ByteArray).size = s3.length := by first | rfl | exact strOf_size _
        simp only [List.length_cons, List.length_append, List.length_nil] at hz1 hz2
        have hadd : ((strOf (s1 ++ s2)) : ByteArray) ++ (strOf s3) = strOf (s1 ++ (s2 ++ s3)) := by first | exact add_str (s1 ++ s2) s3 | simpa only [List.append_assoc] using add_str (s1 ++ s2) s3
        simp only [relF, List.getD_cons_zero, List.getD_cons_succ, List.foldl_cons, List.foldl_nil, dstAt, List.getElem?_cons_zero, List.getElem?_cons_succ, Option.bind_some]
        go_frame
        rw [h7, h10]
        go_wp2_with fail
        exact ⟨rfl, Below.refl _ _, rfl, rfl⟩
      | 12, _, hi =>
        obtain rfl := Option.some.inj hi
        simp only [relF, List.getD_cons_zero, List.getD_cons_succ, List.foldl_cons, List.foldl_nil, dstAt, List.getElem?_cons_zero, List.getElem?_cons_succ, Option.bind_some]
        go_wp2_with fail
        exact ⟨rfl, Below.refl _ _, rfl, rfl⟩
      | 13, _, hi =>
        obtain rfl := Option.some.inj hi
        have h12 : vs 12 = _ := hv 12 (by decide)
        obtain ⟨k0, k1, k2, k3, k4⟩ := vertex_at ((b2.block _ (lt_of_block X1.out)).trans X1.out)
        simp only [relF, List.getD_cons_zero, List.getD_cons_succ, List.foldl_cons, List.foldl_nil, dstAt, List.getElem?_cons_zero, List.getElem?_cons_succ, Option.bind_some]
        go_frame
        rw [h12]
        go_wp2_with fail
        exact ⟨rfl, Below.refl _ _, rfl, rfl⟩
      | 14, _, hi =>
        obtain rfl := Option.some.inj hi
        have h13 : vs 13 = _ := hv 13 (by decide)
        simp only [relF, List.getD_cons_zero, List.getD_cons_succ, List.foldl_cons, List.foldl_nil, dstAt, List.getElem?_cons_zero, List.getElem?_cons_succ, Option.bind_some]
        go_frame
        rw [h13]
        go_wp2_with fail
        refine (C4.out w2).mono ?_
        rintro e w3 ⟨rfl, rfl⟩
        go_wp2_with fail
        exact ⟨rfl, Below.refl _ _, rfl, rfl⟩
      | 15, _, hi =>
        obtain rfl := Option.some.inj hi
        have h11 : vs 11 = _ := hv 11 (by decide)
        have h14 : vs 14 = _ := hv 14 (by decide)
        have hlen0 := L1.out
        have hlen1 := L2.out
        have hlen2 := L3.out
        have hlen3 := L4.out
        have hz1 : ((strOf (s1 ++ (s2 ++ s3))) : ByteArray).size = (s1 ++ (s2 ++ s3)).length := by first | rfl | exact strOf_size _
        have hz2 : ((strOf s4) : ByteArray).size = s4.length := by first | rfl | exact strOf_size _
        simp only [List.length_cons, List.length_append, List.length_nil] at hz1 hz2
        have hadd : ((strOf (s1 ++ (s2 ++ s3))) : ByteArray) ++ (strOf s4) = strOf (s1 ++ (s2 ++ (s3 ++ s4))) := by first | exact add_str (s1 ++ (s2 ++ s3)) s4 | simpa only [List.append_assoc] using add_str (s1 ++ (s2 ++ s3)) s4
        simp only [relF, List.getD_cons_zero, List.getD_cons_succ, List.foldl_cons, List.foldl_nil, dstAt, List.getElem?_cons_zero, List.getElem?_cons_succ, Option.bind_some]
        go_frame
        rw [h11, h14]
        go_wp2_with fail
        exact ⟨rfl, Below.refl _ _, rfl, rfl⟩
      | 16, _, hi =>
        obtain rfl := Option.some.inj hi
        simp only [relF, List.getD_cons_zero, List.getD_cons_succ, List.foldl_cons, List.foldl_nil, dstAt, List.getElem?_cons_zero, List.getElem?_cons_succ, Option.bind_some]
        go_wp2_with fail
        exact ⟨rfl, Below.refl _ _, rfl, rfl⟩
      | 17, _, hi =>
        obtain rfl := Option.some.inj hi
        have h16 : vs 16 = _ := hv 16 (by decide)
        obtain ⟨k0, k1, k2, k3, k4⟩ := vertex_at ((b2.block _ (lt_of_block X1.out)).trans X1.out)
        simp only [relF, List.getD_cons_zero, List.getD_cons_succ, List.foldl_cons, List.foldl_nil, dstAt, List.getElem?_cons_zero, List.getElem?_cons_succ, Option.bind_some]
        go_frame
        rw [h16]
        go_wp2_with fail
        exact ⟨rfl, Below.refl _ _, rfl, rfl⟩
      | 18, _, hi =>
        obtain rfl := Option.some.inj hi
        have h17 : vs 17 = _ := hv 17 (by decide)
        simp only [relF, List.getD_cons_zero, List.getD_cons_succ, List.foldl_cons, List.foldl_nil, dstAt, List.getElem?_cons_zero, List.getElem?_cons_succ, Option.bind_some]
        go_frame
        rw [h17]
        go_wp2_with fail
        refine (C5.out w2).mono ?_
        rintro e w3 ⟨rfl, b3⟩
        go_wp2_with fail
        exact ⟨rfl, b3, rfl, rfl⟩
      | 19, _, hi =>
        obtain rfl := Option.some.inj hi
        have h15 : vs 15 = _ := hv 15 (by decide)
        have h18 : vs 18 = _ := hv 18 (by decide)
        have hlen0 := L1.out
        have hlen1 := L2.out
        have hlen2 := L3.out
        have hlen3 := L4.out
        have hlen4 := L5.out
        have hz1 : ((strOf (s1 ++ (s2 ++ (s3 ++ s4)))) : ByteArray).size = (s1 ++ (s2 ++ (s3 ++ s4))).length := by first | rfl | exact strOf_size _
        have hz2 : ((strOf s5) : ByteArray).size = s5.length := by first | rfl | exact strOf_size _
        simp only [List.length_cons, List.length_append, List.length_nil] at hz1 hz2
        have hadd : ((strOf (s1 ++ (s2 ++ (s3 ++ s4)))) : ByteArray) ++ (strOf s5) = strOf (s1 ++ (s2 ++ (s3 ++ (s4 ++ s5)))) := by first | exact add_str (s1 ++ (s2 ++ (s3 ++ s4))) s5 | simpa only [List.append_assoc] using add_str (s1 ++ (s2 ++ (s3 ++ s4))) s5
        simp only [relF, List.getD_cons_zero, List.getD_cons_succ, List.foldl_cons, List.foldl_nil, dstAt, List.getElem?_cons_zero, List.getElem?_cons_succ, Option.bind_some]
        go_frame
        rw [h15, h18]
        go_wp2_with fail
        exact ⟨rfl, Below.refl _ _, rfl, rfl⟩
      | 20, _, hi =>
        obtain rfl := Option.some.inj hi
        have h19 : vs 19 = _ := hv 19 (by decide)
        simp only [relF, List.getD_cons_zero, List.getD_cons_succ, List.foldl_cons, List.foldl_nil, dstAt, List.getElem?_cons_zero, List.getElem?_cons_succ, Option.bind_some]
        go_frame
        rw [h19]
        go_wp2_with fail
        exact ⟨rfl, Below.refl _ _, rfl, rfl⟩
      | nx + 21, him, _ => exact absurd him (by omega)
    · intro w2 b2 vs hv
      have hx1 := X1.out
      have h20 : vs 20 = _ := hv 20 (by decide)
      simp only [relF, List.drop_succ_cons, List.drop_zero, List.length_cons, List.length_nil, Nat.zero_add, Nat.reduceAdd, List.range, List.range.loop, List.foldl_cons, List.foldl_nil, dstAt, List.getElem?_cons_zero, List.getElem?_cons_succ, Option.bind_some]
      go_frame
      rw [h20]
      go_wp2_with fail
      go_ret
      exact ⟨by rw [HE.out, HPUT.out]; rfl, bw1.trans (b2.mono bw1.size)⟩

end Go.Proofs.YtaihojahccplcaaDoor

/- What the tree's laws ask, plain. -/
namespace Go.Proofs.YtaihojahccplcaaDoor
open Go.RowKit
set_option linter.unusedSimpArgs false
set_option linter.unusedVariables false

theorem Tree.sides_prove (N : Nat) : ∀ (L : List (List UInt8)) (i : Nat), L.length = N → i < N → (Tree.sides N i).length = (Tree.prove L i).length := by
  induction N using Nat.strongRecOn with
  | ind N ih =>
    intro L i hL hi
    by_cases h : 2 ≤ N
    · have h1 := Tree.half_pos h
      have h2 := Tree.half_lt h
      by_cases hl : i < Tree.half N
      · rw [Tree.sides_left h hl, Tree.prove_left (by omega) (by rw [hL]; exact hl), List.length_append, List.length_cons, hL]
        rw [ih (Tree.half N) h2 (L.take (Tree.half N)) i (by rw [List.length_take]; omega) hl]
        rfl
      · rw [Tree.sides_right h hl, Tree.prove_right (by omega) (by rw [hL]; exact hl), List.length_append, List.length_cons, hL]
        rw [ih (N - Tree.half N) (by omega) (L.drop (Tree.half N)) (i - Tree.half N) (by rw [List.length_drop, hL]) (by omega)]
        rfl
    · rw [Tree.sides_small h, Tree.prove_small (by omega)]; rfl

theorem Tree.climb_prove (N : Nat) : ∀ (L : List (List UInt8)) (i : Nat) (l : List UInt8), L.length = N → L[i]? = some l → Tree.climb (Tree.leaf l) (Tree.sides N i) (Tree.prove L i) = Tree.top L := by
  induction N using Nat.strongRecOn with
  | ind N ih =>
    intro L i l hL hl
    have hi : i < N := by have := (List.getElem?_eq_some_iff.1 hl).1; omega
    by_cases h : 2 ≤ N
    · have h1 := Tree.half_pos h
      have h2 := Tree.half_lt h
      by_cases hlt : i < Tree.half N
      · have hs := Tree.sides_prove (Tree.half N) (L.take (Tree.half N)) i (by rw [List.length_take]; omega) hlt
        rw [Tree.sides_left h hlt, Tree.prove_left (by omega) (by rw [hL]; exact hlt), hL, climb_snoc hs,
          ih (Tree.half N) h2 (L.take (Tree.half N)) i l (by rw [List.length_take]; omega) (by rw [List.getElem?_take, if_pos hlt]; exact hl), Tree.top_two (l := L) (by omega), hL]
        rfl
      · have hs := Tree.sides_prove (N - Tree.half N) (L.drop (Tree.half N)) (i - Tree.half N) (by rw [List.length_drop, hL]) (by omega)
        rw [Tree.sides_right h hlt, Tree.prove_right (by omega) (by rw [hL]; exact hlt), hL, climb_snoc hs,
          ih (N - Tree.half N) (by omega) (L.drop (Tree.half N)) (i - Tree.half N) l (by rw [List.length_drop, hL]) (by rw [List.getElem?_drop]; rw [show Tree.half N + (i - Tree.half N) = i by omega]; exact hl), Tree.top_two (l := L) (by omega), hL]
        rfl
    · obtain rfl : N = 1 := by omega
      obtain rfl : i = 0 := by omega
      obtain ⟨a, rfl⟩ := List.length_eq_one_iff.1 hL
      rw [Tree.sides_small h, Tree.prove_small (by simp), Tree.top_one]
      simp only [List.getElem?_cons_zero, Option.some.injEq] at hl
      subst hl
      simp [Tree.climb]

theorem Tree.check_prove {L : List (List UInt8)} {i : Nat} {l : List UInt8} (hl : L[i]? = some l) : Tree.check (Tree.root L.length (Tree.top L)) L.length i l (Tree.prove L i) = true := by
  have hi := (List.getElem?_eq_some_iff.1 hl).1
  unfold Tree.check
  rw [Tree.climb_prove L.length L i l rfl hl, Tree.sides_prove L.length L i rfl hi]
  simp

theorem Tree.check_len {want : List UInt8} {n i : Nat} {l : List UInt8} {P : List (List UInt8)} (h : (Tree.sides n i).length ≠ P.length) : Tree.check want n i l P = false := by
  unfold Tree.check
  rw [decide_eq_false h, Bool.false_and]

theorem Tree.half_3 : Tree.half 3 = 2 := Tree.half_of (i := 1) (by decide) (by decide)
theorem Tree.half_2 : Tree.half 2 = 1 := Tree.half_of (i := 0) (by decide) (by decide)

/-- The chapter's example. -/
theorem Tree.ex_prove : Tree.prove [[97], [98], [99]] 2 = [Tree.node (Tree.leaf [97]) (Tree.leaf [98])] := by
  rw [Tree.prove_right (by decide) (by rw [show ([[97], [98], [99]] : List (List UInt8)).length = 3 from rfl, Tree.half_3]; decide)]
  rw [show ([[97], [98], [99]] : List (List UInt8)).length = 3 from rfl, Tree.half_3]
  rw [show (([[97], [98], [99]] : List (List UInt8)).drop 2) = [[99]] from rfl, show (([[97], [98], [99]] : List (List UInt8)).take 2) = [[97], [98]] from rfl, Tree.prove_small (by decide)]
  rw [Tree.top_two (by decide), show ([[97], [98]] : List (List UInt8)).length = 2 from rfl, Tree.half_2]
  rw [show (([[97], [98]] : List (List UInt8)).take 1) = [[97]] from rfl, show (([[97], [98]] : List (List UInt8)).drop 1) = [[98]] from rfl, Tree.top_one, Tree.top_one]
  rfl

theorem Tree.ex_top : Tree.top [[97], [98], [99]] = Tree.node (Tree.node (Tree.leaf [97]) (Tree.leaf [98])) (Tree.leaf [99]) := by
  rw [Tree.top_two (by decide), show ([[97], [98], [99]] : List (List UInt8)).length = 3 from rfl, Tree.half_3]
  rw [show (([[97], [98], [99]] : List (List UInt8)).drop 2) = [[99]] from rfl, show (([[97], [98], [99]] : List (List UInt8)).take 2) = [[97], [98]] from rfl, Tree.top_one]
  rw [Tree.top_two (by decide), show ([[97], [98]] : List (List UInt8)).length = 2 from rfl, Tree.half_2]
  rw [show (([[97], [98]] : List (List UInt8)).take 1) = [[97]] from rfl, show (([[97], [98]] : List (List UInt8)).drop 1) = [[98]] from rfl, Tree.top_one, Tree.top_one]

theorem Tree.ex_sides2 : Tree.sides 3 2 = [false] := by
  rw [Tree.sides_right (by decide) (by rw [Tree.half_3]; decide), Tree.half_3, Tree.sides_small (by decide)]
theorem Tree.ex_sides0 : Tree.sides 3 0 = [true, true] := by
  rw [Tree.sides_left (by decide) (by rw [Tree.half_3]; decide), Tree.half_3, Tree.sides_left (by decide) (by rw [Tree.half_2]; decide), Tree.half_2, Tree.sides_small (by decide)]

theorem Tree.num_3 : Wire.num 3 = [3] := Wire.num_small 3 (by decide)

set_option maxRecDepth 100000 in
theorem Tree.ex_apart : (Sha.of (3 :: ([3] ++ Sha.of (1 :: (Sha.of (1 :: (Sha.of [0, 97] ++ Sha.of [0, 98])) ++ Sha.of [0, 100])))) == Sha.of (3 :: ([3] ++ Sha.of (1 :: (Sha.of (1 :: (Sha.of [0, 97] ++ Sha.of [0, 98])) ++ Sha.of [0, 99]))))) = false := by decide +kernel

theorem Tree.ex_check : Tree.check (Tree.root 3 (Tree.top [[97], [98], [99]])) 3 2 [99] (Tree.prove [[97], [98], [99]] 2) = true :=
  Tree.check_prove (L := [[97], [98], [99]]) (i := 2) rfl

theorem Tree.ex_not : Tree.check (Tree.root 3 (Tree.top [[97], [98], [99]])) 3 2 [100] (Tree.prove [[97], [98], [99]] 2) = false := by
  unfold Tree.check
  rw [Tree.ex_sides2, Tree.ex_prove, Tree.ex_top]
  have : ∀ t x : List UInt8, Tree.climb t [false] [x] = Tree.node x t := fun t x => by simp [Tree.climb, Tree.step]
  rw [this]
  have h := Tree.ex_apart
  unfold Tree.root
  rw [Tree.num_3]
  rw [Bool.and_eq_false_iff]
  right
  exact h

/-- At a power of two all proofs are as long. -/
theorem Tree.sides_pow (d : Nat) : ∀ (i : Nat), i < 2 ^ d → (Tree.sides (2 ^ d) i).length = d := by
  induction d with
  | zero => intro i hi; rw [Tree.sides_small (by decide)]; rfl
  | succ d ih =>
    intro i hi
    have hp := Nat.two_pow_pos d
    have h2 : 2 ≤ 2 ^ (d + 1) := by rw [Nat.pow_succ]; omega
    have hh : Tree.half (2 ^ (d + 1)) = 2 ^ d := Tree.half_of (by rw [Nat.pow_succ]; omega) (by rw [Nat.pow_succ]; omega)
    by_cases hl : i < 2 ^ d
    · rw [Tree.sides_left h2 (by rw [hh]; exact hl), hh, List.length_cons, ih i hl]
    · rw [Tree.sides_right h2 (by rw [hh]; exact hl), hh, List.length_cons, show 2 ^ (d + 1) - 2 ^ d = 2 ^ d by rw [Nat.pow_succ]; omega, ih (i - 2 ^ d) (by rw [Nat.pow_succ] at hi; omega)]

theorem Tree.sides_zero {n i : Nat} (hi : i < n) : (Tree.sides n i).length = 0 ↔ n = 1 := by
  by_cases h : 2 ≤ n
  · constructor
    · intro h0
      by_cases hl : i < Tree.half n
      · rw [Tree.sides_left h hl] at h0; simp at h0
      · rw [Tree.sides_right h hl] at h0; simp at h0
    · omega
  · rw [Tree.sides_small h]
    constructor
    · intro _; omega
    · intro _; rfl

end Go.Proofs.YtaihojahccplcaaDoor

/- The walk of modillionref02.Get: a field out of bytes, by the reference. -/
namespace Go.Proofs.YtaihojahccplcaaDoor
open Go.RowKit
set_option linter.unusedSimpArgs false

/-- A field of the reference: it, how many bytes, the error. -/
def refV (f : FieldV) (l : List UInt8) : FieldV × Nat × Nat :=
  if f.kind = 3 then (if l.length < 32 then (zeroField, 0, 20) else ({ zeroField with kind := 3, h := l.take 32 }, 32, 0))
  else if (Wire.dec 0 0 l).2.2 ≠ 0 then (zeroField, 0, (Wire.dec 0 0 l).2.2)
  else if f.kind = 0 then ({ zeroField with n := (Wire.dec 0 0 l).1 }, (Wire.dec 0 0 l).2.1, 0)
  else if f.kind = 1 then ({ zeroField with kind := 1, i := Wire.unzig (Wire.dec 0 0 l).1 }, (Wire.dec 0 0 l).2.1, 0)
  else if f.most < 0 ∨ f.most < (Wire.dec 0 0 l).1 then (zeroField, 0, 22)
  else if l.length < (Wire.dec 0 0 l).2.1 + (Wire.dec 0 0 l).1 then (zeroField, 0, 20)
  else ({ zeroField with kind := 2, s := strOf ((l.drop (Wire.dec 0 0 l).2.1).take (Wire.dec 0 0 l).1) }, (Wire.dec 0 0 l).2.1 + (Wire.dec 0 0 l).1, 0)

/-- What the law's want is: at an error the kind alone. -/
def wantV (f : FieldV) (l : List UInt8) : FieldV := if (refV f l).2.2 = 0 then (refV f l).1 else { zeroField with kind := f.kind }

theorem refV_len (f : FieldV) (l : List UInt8) : (refV f l).2.1 ≤ l.length := by
  have := Wire.dec_len l
  unfold refV
  split
  · split
    · exact Nat.zero_le _
    · show 32 ≤ _; omega
  · split
    · exact Nat.zero_le _
    · split
      · exact this
      · split
        · exact this
        · split
          · exact Nat.zero_le _
          · split
            · exact Nat.zero_le _
            · show _ + _ ≤ _; omega

theorem refV_err (f : FieldV) (l : List UInt8) (h : (refV f l).2.2 ≠ 0) : (refV f l).2.1 = 0 := by
  unfold refV at h ⊢
  split
  · split
    · rfl
    · rename_i h1 h2; simp [h1, h2] at h
  · split
    · rfl
    · rename_i h1 h2
      split
      · rename_i h3; simp [h1, h2, h3] at h
      · split
        · rename_i h3 h4; simp [h1, h2, h3, h4] at h
        · split
          · rfl
          · split
            · rfl
            · rename_i h3 h4 h5 h6
              rw [if_neg h1, if_neg h2, if_neg h3, if_neg h4, if_neg h5, if_neg h6] at h
              exact absurd rfl h

/-- The reference and the reader agree. -/
theorem getV_ref (f : FieldV) (hk : 0 ≤ f.kind ∧ f.kind ≤ 3) (l : List UInt8) : getV f l 0 = (wantV f l, l.drop (refV f l).2.1, (refV f l).2.2) := by
  have hn : Wire.rdNum l 0 = if (Wire.dec 0 0 l).2.2 ≠ 0 then (0, l, (Wire.dec 0 0 l).2.2) else ((Wire.dec 0 0 l).1, l.drop (Wire.dec 0 0 l).2.1, 0) := by
    unfold Wire.rdNum; rw [if_neg (by decide)]
  have hh : Wire.rdHash l 0 = if l.length < 32 then (List.replicate 32 0, l, 20) else (l.take 32, l.drop 32, 0) := by
    unfold Wire.rdHash; rw [if_neg (by decide)]
  have ht : Wire.rdText f.most l 0 = match Wire.txt f.most l with
    | (some t, n, _) => (t, l.drop n, 0)
    | (none, _, er) => ([], l, er) := by
    unfold Wire.rdText; rw [if_neg (by decide)]
    cases hx : Wire.txt f.most l with
    | mk o r => cases o <;> rfl
  have hu : Wire.unzig 0 = 0 := by decide
  unfold getV wantV refV
  by_cases k3 : f.kind = 3
  · rw [if_neg (by omega), if_neg (by omega), if_neg (by omega)]
    simp only [if_pos k3]
    rw [hh]
    by_cases h : l.length < 32
    · simp only [if_pos h]; rw [k3]; rfl
    · simp only [if_neg h]; rfl
  · simp only [if_neg k3]
    by_cases hd : (Wire.dec 0 0 l).2.2 ≠ 0
    · simp only [if_pos hd]
      rw [hn, if_pos hd, ht]
      have htx : Wire.txt f.most l = (none, 0, (Wire.dec 0 0 l).2.2) := by unfold Wire.txt; rw [if_pos hd]
      rw [htx]
      rw [if_neg hd]
      by_cases k0 : f.kind = 0
      · rw [if_pos k0, k0]; rfl
      · rw [if_neg k0]
        by_cases k1 : f.kind = 1
        · rw [if_pos k1, k1, show Wire.unzig ((0, l, (Wire.dec 0 0 l).2.2) : Nat × List UInt8 × Nat).1 = 0 from hu]; rfl
        · rw [if_neg k1, if_pos (by omega), show f.kind = 2 by omega]; rfl
    · simp only [if_neg hd]
      rw [hn, if_neg hd]
      by_cases k0 : f.kind = 0
      · simp only [if_pos k0]; rfl
      · simp only [if_neg k0]
        by_cases k1 : f.kind = 1
        · simp only [if_pos k1]; rfl
        · simp only [if_neg k1]
          rw [if_pos (by omega), ht]
          unfold Wire.txt
          rw [if_neg hd]
          by_cases hm : f.most < 0 ∨ f.most < (Wire.dec 0 0 l).1
          · simp only [if_pos hm]; rw [show f.kind = 2 by omega]; rfl
          · simp only [if_neg hm]
            by_cases hl : l.length < (Wire.dec 0 0 l).2.1 + (Wire.dec 0 0 l).1
            · simp only [if_pos hl]; rw [show f.kind = 2 by omega]; rfl
            · simp only [if_neg hl]; rfl

theorem free_row' {w : World} {b j : Nat} {cs : Array Value} {t : TypeId} (h : w.heap[b]? = some (.cells cs t (0, 0))) : w.frozen? ⟨b, j, none⟩ = false := by simp [World.frozen?, h]

theorem results_row3 {P : Program} {fn : Func} {p u v : Tmp} {ty : TypeId} (h : fn.results = #[.cell p ty, .tmp u, .tmp v]) (tmps : Array Value) (w : World) (g : Nat) (t : TypeId) (cs : Array Value) (fr : Nat × Nat) (d : TypeDesc)
    (hp : tmps.getD p undef = .pointer (some ⟨g, 0, none⟩)) (hg : w.heap[g]? = some (.cells cs t fr))
    (hu : P.underlying ty = some d) (hd : (match d with | .struct _ | .array _ _ => true | _ => false) = true) (hi : (P.info? ty).map (·.size) = some cs.size) :
    (results fn tmps).run P w = .ok (.tuple #[.agg cs, tmps.getD u undef, tmps.getD v undef]) w := by
  have hp' : tmps[p]?.getD undef = .pointer (some ⟨g, 0, none⟩) := by simpa using hp
  simp [results, h, hp', asAddr, run_loadVar_row w g t ty cs fr d hg hu hd hi]

/-- A composite of one part. -/
theorem wpList_build1' {P : Program} {ops : Array Oper} {rest : List Oper} {o : Oper} {a : Act} {w : World} {Q : Exit → Act → World → Prop} (hg : o.guard = none) (t : TypeId) (i : Nat) (x : Operand) (ho : o.op = .build t #[(i, x)])
    (u : Value) (hx : a.eval x = u) (cs : Array Value) (hb : P.built t [(i, u)] = some cs)
    (h : wpList P ops Q rest (a.put o.dst (.agg cs)) w) : wpList P ops Q (o :: rest) a w := by
  have e : ((#[(i, x)] : Array (Nat × Operand)).map fun (p : Nat × Operand) => (p.1, a.eval p.2)).toList = [(i, u)] := by
    simp [hx]
  refine wpList_build hg t #[(i, x)] ho ?_ ?_
  · show (P.built t ((#[(i, x)] : Array (Nat × Operand)).map fun (p : Nat × Operand) => (p.1, a.eval p.2)).toList).isSome = true
    rw [e, hb]; rfl
  · show wpList P ops Q rest (a.put o.dst (.agg ((P.built t ((#[(i, x)] : Array (Nat × Operand)).map fun (p : Nat × Operand) => (p.1, a.eval p.2)).toList).getD #[]))) w
    rw [e, hb]; exact h

theorem hash_builtZ : Tryd.prog.built 27 [] = some zero32 := by kernel_rfl
theorem FieldV.builtZ : Tryd.prog.built 75 [] = some zeroField.cells.toArray := by kernel_rfl

set_option maxRecDepth 100000 in
set_option maxHeartbeats 2000000 in
theorem refGet_num (f : FieldV) (hf : f.ok) (h3 : f.kind ≠ 3) (s : ByteArray) (hs : s.size ≤ maxLen) (w : World) :
    Calls Tryd.prog 44 #[.string s, .agg f.cells.toArray] w fun e w' => e = .returned (.tuple #[.agg (refV f s.data.toList).1.cells.toArray, .int .i64 (refV f s.data.toList).2.1, .int .i64 (refV f s.data.toList).2.2]) ∧ Below w.heap.size w w' := by
  obtain ⟨g0, g1, g2, g3, g4⟩ := f.get
  have e3 : (f.kind == 3) = false := by simpa using h3
  obtain ⟨fs, hfs⟩ := Tryd.under_field
  have HFS := Lib.hid hfs; clear hfs
  obtain ⟨W, hW⟩ : ∃ W, W = (w.alloc (.cells f.cells.toArray 75)).alloc (.cells zeroField.cells.toArray 75) := ⟨_, rfl⟩
  have hx : W.heap[w.heap.size]? = some (.cells f.cells.toArray 75 (0, 0)) := by
    rw [hW, Below.heap_alloc _ _ _ (by simp)]; exact heap_alloc_new w _
  have hz : W.heap[w.heap.size + 1]? = some (.cells zeroField.cells.toArray 75 (0, 0)) := by
    rw [hW]; have := heap_alloc_new (w.alloc (.cells f.cells.toArray 75)) (.cells zeroField.cells.toArray 75); simpa using this
  have hbw : Below w.heap.size w W := by rw [hW]; exact ((Below.refl _ _).alloc (Nat.le_refl _) _).alloc (by simp) _
  obtain ⟨d0, d1, d2, d3, d4, d5⟩ := field_cell hx
  have HZ := Lib.hid hz; clear hz
  have HBW := Lib.hid hbw; clear hbw
  have HW := Lib.hid hW; clear hW
  have hn := refNumber_any s W hs
  have hk := Wire.dec_len s.data.toList
  have hn64 := Wire.dec_u64 s.data.toList
  have hls : s.data.toList.length = s.size := by simp
  have H3 := Lib.hid h3; clear h3
  unfold maxLen at hs
  obtain ⟨n, c, er, hd⟩ : ∃ n c er, Wire.dec 0 0 s.data.toList = (n, c, er) := ⟨_, _, _, rfl⟩
  rw [hd] at hn hk hn64
  simp only at hn hk hn64
  rw [hls] at hk
  have HLS := Lib.hid hls; clear hls
  have HD := Lib.hid hd; clear hd
  have HN := Lib.hid hn; clear hn
  clear d2 d3 d4 d5 hx
  have hm1 := hf.most1
  by_cases her : er = 0
  · subst her
    by_cases k0 : f.kind = 0
    · have e0 : (f.kind == 0) = true := by simpa using k0
      have K0 := Lib.hid k0; clear k0
      go_enter Tryd.func44, Tryd.ntmps44
      go_wp2_with fail
      change Calls _ _ _ ((w.alloc (.cells f.cells.toArray 75)).alloc (.cells zeroField.cells.toArray 75)) _
      rw [← HW.out]
      refine HN.out.mono ?_
      rintro e w' ⟨rfl, rfl⟩
      obtain ⟨G, hG⟩ : ∃ G : FieldV, G = { zeroField with n := n } := ⟨_, rfl⟩
      have HV : Hid (refV f s.data.toList = (G, c, 0)) := Lib.hid (by rw [hG]; unfold refV; rw [HD.out]; rw [if_neg H3.out, if_neg (by simp), if_pos K0.out])
      have HB : Hid (Tryd.prog.built 75 [(2, .int .u64 n)] = some G.cells.toArray) := Lib.hid (by rw [hG]; exact FieldV.built0 n)
      have HGS := Lib.hid (field_size (f := G) (by rw [hG]; rfl))
      have HGA := Lib.hid (field_all G)
      clear hG
      go_wp2_with (first | ((with_reducible show wpList _ _ _ (⟨some 46, _, _, _, _, _⟩ :: _) _ _); refine wpList_build1' (o := ⟨some 46, _, _, _, _, _⟩) rfl _ _ _ rfl _ rfl G.cells.toArray HB.out ?_) | ((with_reducible show wpList _ _ _ (⟨none, .store 75 (.tmp 4) _, _, _, _, _⟩ :: _) _ _); refine wpList_store_row (o := ⟨none, .store 75 _ _, _, _, _, _⟩) rfl _ _ _ rfl (w.heap.size + 1) G.cells.toArray rfl rfl _ zeroField.cells.toArray HZ.out (by rw [HGS.out]; exact Tryd.size_field) (by rw [HGS.out]; rfl) HGA.out ?_))
      refine bodyPost_ret (results_row3 rfl _ _ _ _ G.cells.toArray _ _ rfl (setRow_heap W _ _ _ _ _ HZ.out) HFS.out rfl (by rw [HGS.out]; exact Tryd.size_field)) rfl ?_
      rw [HV.out]
      exact ⟨rfl, Go.below_setRow HBW.out (by omega) _⟩
    · have e0 : (f.kind == 0) = false := by simpa using k0
      have K0 := Lib.hid k0; clear k0
      by_cases k1 : f.kind = 1
      · have e1 : (f.kind == 1) = true := by simpa using k1
        have K1 := Lib.hid k1; clear k1
        by_cases hp : n % 2 = 0
        · have hq : ((n : Int) % 2 == 0) = true := by rw [beq_iff_eq]; omega
          have HU : Hid (Wire.unzig n = ((n : Int) / 2)) := Lib.hid (by unfold Wire.unzig; rw [if_pos hp]; rfl)
          clear hp
          go_enter Tryd.func44, Tryd.ntmps44
          go_wp2_with fail
          change Calls _ _ _ ((w.alloc (.cells f.cells.toArray 75)).alloc (.cells zeroField.cells.toArray 75)) _
          rw [← HW.out]
          refine HN.out.mono ?_
          rintro e w' ⟨rfl, rfl⟩
          obtain ⟨G, hG⟩ : ∃ G : FieldV, G = { zeroField with kind := 1, i := ((n : Int) / 2) } := ⟨_, rfl⟩
          have HV : Hid (refV f s.data.toList = (G, c, 0)) := Lib.hid (by rw [hG]; unfold refV; rw [HD.out]; rw [if_neg H3.out, if_neg (by simp), if_neg K0.out, if_pos K1.out]; simp only [HU.out])
          have HB : Hid (Tryd.prog.built 75 [(0, .int .i64 1), (3, .int .i64 (((n : Int) / 2)))] = some G.cells.toArray) := Lib.hid (by rw [hG]; exact FieldV.built1 _)
          have HGS := Lib.hid (field_size (f := G) (by rw [hG]; rfl))
          have HGA := Lib.hid (field_all G)
          clear hG
          go_wp2_with (first | ((with_reducible show wpList _ _ _ (⟨some 56, _, _, _, _, _⟩ :: _) _ _); refine wpList_build2 (o := ⟨some 56, _, _, _, _, _⟩) rfl _ _ _ _ _ rfl _ _ rfl rfl G.cells.toArray HB.out ?_) | ((with_reducible show wpList _ _ _ (⟨none, .store 75 (.tmp 4) _, _, _, _, _⟩ :: _) _ _); refine wpList_store_row (o := ⟨none, .store 75 _ _, _, _, _, _⟩) rfl _ _ _ rfl (w.heap.size + 1) G.cells.toArray rfl rfl _ zeroField.cells.toArray HZ.out (by rw [HGS.out]; exact Tryd.size_field) (by rw [HGS.out]; rfl) HGA.out ?_))
          refine bodyPost_ret (results_row3 rfl _ _ _ _ G.cells.toArray _ _ rfl (setRow_heap W _ _ _ _ _ HZ.out) HFS.out rfl (by rw [HGS.out]; exact Tryd.size_field)) rfl ?_
          rw [HV.out]
          exact ⟨rfl, Go.below_setRow HBW.out (by omega) _⟩
        · have hq : ((n : Int) % 2 == 0) = false := by rw [beq_eq_false_iff_ne]; omega
          have HU : Hid (Wire.unzig n = (-1 - (n : Int) / 2)) := Lib.hid (by unfold Wire.unzig; rw [if_neg hp]; rfl)
          clear hp
          go_enter Tryd.func44, Tryd.ntmps44
          go_wp2_with fail
          change Calls _ _ _ ((w.alloc (.cells f.cells.toArray 75)).alloc (.cells zeroField.cells.toArray 75)) _
          rw [← HW.out]
          refine HN.out.mono ?_
          rintro e w' ⟨rfl, rfl⟩
          obtain ⟨G, hG⟩ : ∃ G : FieldV, G = { zeroField with kind := 1, i := (-1 - (n : Int) / 2) } := ⟨_, rfl⟩
          have HV : Hid (refV f s.data.toList = (G, c, 0)) := Lib.hid (by rw [hG]; unfold refV; rw [HD.out]; rw [if_neg H3.out, if_neg (by simp), if_neg K0.out, if_pos K1.out]; simp only [HU.out])
          have HB : Hid (Tryd.prog.built 75 [(0, .int .i64 1), (3, .int .i64 ((-1 - (n : Int) / 2)))] = some G.cells.toArray) := Lib.hid (by rw [hG]; exact FieldV.built1 _)
          have HGS := Lib.hid (field_size (f := G) (by rw [hG]; rfl))
          have HGA := Lib.hid (field_all G)
          clear hG
          go_wp2_with (first | ((with_reducible show wpList _ _ _ (⟨some 62, _, _, _, _, _⟩ :: _) _ _); refine wpList_build2 (o := ⟨some 62, _, _, _, _, _⟩) rfl _ _ _ _ _ rfl _ _ rfl rfl G.cells.toArray HB.out ?_) | ((with_reducible show wpList _ _ _ (⟨none, .store 75 (.tmp 4) _, _, _, _, _⟩ :: _) _ _); refine wpList_store_row (o := ⟨none, .store 75 _ _, _, _, _, _⟩) rfl _ _ _ rfl (w.heap.size + 1) G.cells.toArray rfl rfl _ zeroField.cells.toArray HZ.out (by rw [HGS.out]; exact Tryd.size_field) (by rw [HGS.out]; rfl) HGA.out ?_))
          refine bodyPost_ret (results_row3 rfl _ _ _ _ G.cells.toArray _ _ rfl (setRow_heap W _ _ _ _ _ HZ.out) HFS.out rfl (by rw [HGS.out]; exact Tryd.size_field)) rfl ?_
          rw [HV.out]
          exact ⟨rfl, Go.below_setRow HBW.out (by omega) _⟩
      · have e1 : (f.kind == 1) = false := by simpa using k1
        have K1 := Lib.hid k1; clear k1
        by_cases hm : f.most < 0 ∨ f.most < n
        · have HM := Lib.hid hm
          rcases (show f.most < 0 ∨ (0 ≤ f.most ∧ f.most < n) by omega) with h6 | ⟨h6, h7⟩
          all_goals
            clear hm
            go_enter Tryd.func44, Tryd.ntmps44
            go_wp2_with fail
            change Calls _ _ _ ((w.alloc (.cells f.cells.toArray 75)).alloc (.cells zeroField.cells.toArray 75)) _
            rw [← HW.out]
            refine HN.out.mono ?_
            rintro e w' ⟨rfl, rfl⟩
            obtain ⟨G, hG⟩ : ∃ G : FieldV, G = zeroField := ⟨_, rfl⟩
            have HV : Hid (refV f s.data.toList = (G, 0, 22)) := Lib.hid (by rw [hG]; unfold refV; rw [HD.out]; rw [if_neg H3.out, if_neg (by simp), if_neg K0.out, if_neg K1.out, if_pos HM.out])
            have HB : Hid (Tryd.prog.built 75 [] = some G.cells.toArray) := Lib.hid (by rw [hG]; exact FieldV.builtZ)
            have HGS := Lib.hid (field_size (f := G) (by rw [hG]; rfl))
            have HGA := Lib.hid (field_all G)
            clear hG
            go_wp2_with (first | ((with_reducible show wpList _ _ _ (⟨some 74, _, _, _, _, _⟩ :: _) _ _); refine wpList_build0 (o := ⟨some 74, _, _, _, _, _⟩) rfl _ rfl G.cells.toArray HB.out ?_) | ((with_reducible show wpList _ _ _ (⟨none, .store 75 (.tmp 4) _, _, _, _, _⟩ :: _) _ _); refine wpList_store_row (o := ⟨none, .store 75 _ _, _, _, _, _⟩) rfl _ _ _ rfl (w.heap.size + 1) G.cells.toArray rfl rfl _ zeroField.cells.toArray HZ.out (by rw [HGS.out]; exact Tryd.size_field) (by rw [HGS.out]; rfl) HGA.out ?_))
            refine bodyPost_ret (results_row3 rfl _ _ _ _ G.cells.toArray _ _ rfl (setRow_heap W _ _ _ _ _ HZ.out) HFS.out rfl (by rw [HGS.out]; exact Tryd.size_field)) rfl ?_
            rw [HV.out]
            exact ⟨rfl, Go.below_setRow HBW.out (by omega) _⟩
        · have HM := Lib.hid hm
          have h6 : 0 ≤ f.most := by omega
          have h7 : (n : Int) ≤ f.most := by omega
          clear hm
          by_cases hl : s.size < c + n
          · have HL : Hid (s.data.toList.length < c + n) := Lib.hid (by rw [HLS.out]; exact hl)
            go_enter Tryd.func44, Tryd.ntmps44
            go_wp2_with fail
            change Calls _ _ _ ((w.alloc (.cells f.cells.toArray 75)).alloc (.cells zeroField.cells.toArray 75)) _
            rw [← HW.out]
            refine HN.out.mono ?_
            rintro e w' ⟨rfl, rfl⟩
            obtain ⟨G, hG⟩ : ∃ G : FieldV, G = zeroField := ⟨_, rfl⟩
            have HV : Hid (refV f s.data.toList = (G, 0, 20)) := Lib.hid (by rw [hG]; unfold refV; rw [HD.out]; rw [if_neg H3.out, if_neg (by simp), if_neg K0.out, if_neg K1.out, if_neg HM.out, if_pos HL.out])
            have HB : Hid (Tryd.prog.built 75 [] = some G.cells.toArray) := Lib.hid (by rw [hG]; exact FieldV.builtZ)
            have HGS := Lib.hid (field_size (f := G) (by rw [hG]; rfl))
            have HGA := Lib.hid (field_all G)
            clear hG
            go_wp2_with (first | ((with_reducible show wpList _ _ _ (⟨some 82, _, _, _, _, _⟩ :: _) _ _); refine wpList_build0 (o := ⟨some 82, _, _, _, _, _⟩) rfl _ rfl G.cells.toArray HB.out ?_) | ((with_reducible show wpList _ _ _ (⟨none, .store 75 (.tmp 4) _, _, _, _, _⟩ :: _) _ _); refine wpList_store_row (o := ⟨none, .store 75 _ _, _, _, _, _⟩) rfl _ _ _ rfl (w.heap.size + 1) G.cells.toArray rfl rfl _ zeroField.cells.toArray HZ.out (by rw [HGS.out]; exact Tryd.size_field) (by rw [HGS.out]; rfl) HGA.out ?_))
            refine bodyPost_ret (results_row3 rfl _ _ _ _ G.cells.toArray _ _ rfl (setRow_heap W _ _ _ _ _ HZ.out) HFS.out rfl (by rw [HGS.out]; exact Tryd.size_field)) rfl ?_
            rw [HV.out]
            exact ⟨rfl, Go.below_setRow HBW.out (by omega) _⟩
          · have HL : Hid (¬ s.data.toList.length < c + n) := Lib.hid (by rw [HLS.out]; exact hl)
            have hext := strOf_extract s.data.toList c (c + n)
            rw [show c + n - c = n by omega, strOf_data] at hext
            have HX := Lib.hid hext; clear hext
            go_enter Tryd.func44, Tryd.ntmps44
            go_wp2_with fail
            change Calls _ _ _ ((w.alloc (.cells f.cells.toArray 75)).alloc (.cells zeroField.cells.toArray 75)) _
            rw [← HW.out]
            refine HN.out.mono ?_
            rintro e w' ⟨rfl, rfl⟩
            obtain ⟨G, hG⟩ : ∃ G : FieldV, G = { zeroField with kind := 2, s := strOf ((s.data.toList.drop c).take n) } := ⟨_, rfl⟩
            have HV : Hid (refV f s.data.toList = (G, c + n, 0)) := Lib.hid (by rw [hG]; unfold refV; rw [HD.out]; rw [if_neg H3.out, if_neg (by simp), if_neg K0.out, if_neg K1.out, if_neg HM.out, if_neg HL.out])
            have HB : Hid (Tryd.prog.built 75 [(0, .int .i64 2), (4, .string (s.extract c (c + n)))] = some G.cells.toArray) := Lib.hid (by rw [hG]; rw [HX.out]; exact FieldV.built2 _)
            have HGS := Lib.hid (field_size (f := G) (by rw [hG]; rfl))
            have HGA := Lib.hid (field_all G)
            clear hG
            go_wp2_with (first | ((with_reducible show wpList _ _ _ (⟨some 90, _, _, _, _, _⟩ :: _) _ _); refine wpList_build2 (o := ⟨some 90, _, _, _, _, _⟩) rfl _ _ _ _ _ rfl _ _ rfl rfl G.cells.toArray HB.out ?_) | ((with_reducible show wpList _ _ _ (⟨none, .store 75 (.tmp 4) _, _, _, _, _⟩ :: _) _ _); refine wpList_store_row (o := ⟨none, .store 75 _ _, _, _, _, _⟩) rfl _ _ _ rfl (w.heap.size + 1) G.cells.toArray rfl rfl _ zeroField.cells.toArray HZ.out (by rw [HGS.out]; exact Tryd.size_field) (by rw [HGS.out]; rfl) HGA.out ?_))
            refine bodyPost_ret (results_row3 rfl _ _ _ _ G.cells.toArray _ _ rfl (setRow_heap W _ _ _ _ _ HZ.out) HFS.out rfl (by rw [HGS.out]; exact Tryd.size_field)) rfl ?_
            rw [HV.out]
            exact ⟨rfl, Go.below_setRow HBW.out (by omega) _⟩
  · have her' : ((er : Int) != 0) = true := by simpa using her
    go_enter Tryd.func44, Tryd.ntmps44
    go_wp2_with fail
    change Calls _ _ _ ((w.alloc (.cells f.cells.toArray 75)).alloc (.cells zeroField.cells.toArray 75)) _
    rw [← HW.out]
    refine HN.out.mono ?_
    rintro e w' ⟨rfl, rfl⟩
    obtain ⟨G, hG⟩ : ∃ G : FieldV, G = zeroField := ⟨_, rfl⟩
    have HV : Hid (refV f s.data.toList = (G, 0, er)) := Lib.hid (by rw [hG]; unfold refV; rw [HD.out]; rw [if_neg H3.out, if_pos her])
    have HB : Hid (Tryd.prog.built 75 [] = some G.cells.toArray) := Lib.hid (by rw [hG]; exact FieldV.builtZ)
    have HGS := Lib.hid (field_size (f := G) (by rw [hG]; rfl))
    have HGA := Lib.hid (field_all G)
    clear hG
    go_wp2_with (first | ((with_reducible show wpList _ _ _ (⟨some 39, _, _, _, _, _⟩ :: _) _ _); refine wpList_build0 (o := ⟨some 39, _, _, _, _, _⟩) rfl _ rfl G.cells.toArray HB.out ?_) | ((with_reducible show wpList _ _ _ (⟨none, .store 75 (.tmp 4) _, _, _, _, _⟩ :: _) _ _); refine wpList_store_row (o := ⟨none, .store 75 _ _, _, _, _, _⟩) rfl _ _ _ rfl (w.heap.size + 1) G.cells.toArray rfl rfl _ zeroField.cells.toArray HZ.out (by rw [HGS.out]; exact Tryd.size_field) (by rw [HGS.out]; rfl) HGA.out ?_))
    refine bodyPost_ret (results_row3 rfl _ _ _ _ G.cells.toArray _ _ rfl (setRow_heap W _ _ _ _ _ HZ.out) HFS.out rfl (by rw [HGS.out]; exact Tryd.size_field)) rfl ?_
    rw [HV.out]
    exact ⟨rfl, Go.below_setRow HBW.out (by omega) _⟩


set_option maxRecDepth 100000 in
set_option maxHeartbeats 2000000 in
theorem refGet_hash (f : FieldV) (h3 : f.kind = 3) (s : ByteArray) (hs : s.size ≤ maxLen) (w : World) :
    Calls Tryd.prog 44 #[.string s, .agg f.cells.toArray] w fun e w' => e = .returned (.tuple #[.agg (refV f s.data.toList).1.cells.toArray, .int .i64 (refV f s.data.toList).2.1, .int .i64 (refV f s.data.toList).2.2]) ∧ Below w.heap.size w w' := by
  obtain ⟨g0, g1, g2, g3, g4⟩ := f.get
  have e3 : (f.kind == 3) = true := by simpa using h3
  obtain ⟨fs, hfs⟩ := Tryd.under_field
  have HFS := Lib.hid hfs; clear hfs
  have hls : s.data.toList.length = s.size := by simp
  have H3 := Lib.hid h3; clear h3
  unfold maxLen at hs
  have HLS := Lib.hid hls; clear hls
  by_cases hl : s.size < 32
  · obtain ⟨W, hW⟩ : ∃ W, W = (w.alloc (.cells f.cells.toArray 75)).alloc (.cells zeroField.cells.toArray 75) := ⟨_, rfl⟩
    have hz : W.heap[w.heap.size + 1]? = some (.cells zeroField.cells.toArray 75 (0, 0)) := by
      rw [hW]; have := heap_alloc_new (w.alloc (.cells f.cells.toArray 75)) (.cells zeroField.cells.toArray 75); simpa using this
    have hbw : Below w.heap.size w W := by rw [hW]; exact ((Below.refl _ _).alloc (Nat.le_refl _) _).alloc (by simp) _
    have HZ := Lib.hid hz; clear hz
    have HBW := Lib.hid hbw; clear hbw
    have HW := Lib.hid hW; clear hW
    obtain ⟨G, hG⟩ : ∃ G : FieldV, G = zeroField := ⟨_, rfl⟩
    have HV : Hid (refV f s.data.toList = (G, 0, 20)) := Lib.hid (by rw [hG]; unfold refV; rw [if_pos H3.out, if_pos (by rw [HLS.out]; exact hl)])
    have HB : Hid (Tryd.prog.built 75 [] = some G.cells.toArray) := Lib.hid (by rw [hG]; exact FieldV.builtZ)
    have HGS := Lib.hid (field_size (f := G) (by rw [hG]; rfl))
    have HGA := Lib.hid (field_all G)
    clear hG
    go_enter Tryd.func44, Tryd.ntmps44
    go_wp2_with (first | ((with_reducible show wpList _ _ _ (⟨some 18, _, _, _, _, _⟩ :: _) _ _); refine wpList_build0 (o := ⟨some 18, _, _, _, _, _⟩) rfl _ rfl G.cells.toArray HB.out ?_; change wpList _ _ _ _ _ ((w.alloc (.cells f.cells.toArray 75)).alloc (.cells zeroField.cells.toArray 75)); rw [← HW.out]) | ((with_reducible show wpList _ _ _ (⟨none, .store 75 (.tmp 4) _, _, _, _, _⟩ :: _) _ _); refine wpList_store_row (o := ⟨none, .store 75 _ _, _, _, _, _⟩) rfl _ _ _ rfl (w.heap.size + 1) G.cells.toArray rfl rfl _ zeroField.cells.toArray HZ.out (by rw [HGS.out]; exact Tryd.size_field) (by rw [HGS.out]; rfl) HGA.out ?_))
    refine bodyPost_ret (results_row3 rfl _ _ _ _ G.cells.toArray _ _ rfl (setRow_heap W _ _ _ _ _ HZ.out) HFS.out rfl (by rw [HGS.out]; exact Tryd.size_field)) rfl ?_
    rw [HV.out]
    exact ⟨rfl, Go.below_setRow HBW.out (by omega) _⟩
  · obtain ⟨W, hW⟩ : ∃ W, W = ((w.alloc (.cells f.cells.toArray 75)).alloc (.cells zeroField.cells.toArray 75)).alloc (.cells zero32 27) := ⟨_, rfl⟩
    have hz : W.heap[w.heap.size + 1]? = some (.cells zeroField.cells.toArray 75 (0, 0)) := by
      rw [hW, Below.heap_alloc _ _ _ (by simp)]; have := heap_alloc_new (w.alloc (.cells f.cells.toArray 75)) (.cells zeroField.cells.toArray 75); simpa using this
    have hh : W.heap[w.heap.size + 2]? = some (.cells zero32 27 (0, 0)) := by
      rw [hW]; have := heap_alloc_new ((w.alloc (.cells f.cells.toArray 75)).alloc (.cells zeroField.cells.toArray 75)) (.cells zero32 27); simpa using this
    have hbw : Below w.heap.size w W := by rw [hW]; exact (((Below.refl _ _).alloc (Nat.le_refl _) _).alloc (by simp) _).alloc (by simp; omega) _
    have HW := Lib.hid hW; clear hW
    have HL : Hid (¬ s.data.toList.length < 32) := Lib.hid (by rw [HLS.out]; exact hl)
    go_enter Tryd.func44, Tryd.ntmps44
    obtain ⟨W1, hW1⟩ : ∃ W1, W1 = W.setRow (w.heap.size + 2) zero32 := ⟨_, rfl⟩
    have z1 : W1.heap[w.heap.size + 1]? = some (.cells zeroField.cells.toArray 75 (0, 0)) := by rw [hW1, setRow_other _ _ _ _ (by omega)]; exact hz
    have h1 : W1.heap[w.heap.size + 2]? = some (.cells zero32 27 (0, 0)) := by rw [hW1]; exact setRow_heap _ _ _ _ _ _ hh
    have b1 : Below w.heap.size w W1 := by rw [hW1]; exact Go.below_setRow hbw (by omega) _
    have HH := Lib.hid hh; clear hh
    have HW1 := Lib.hid hW1; clear hW1
    clear hz hbw
    have z32 : zero32.size = 32 := by rw [zero32, List.size_toArray, byteCells_length, List.length_replicate]
    have HZ32 := Lib.hid z32; clear z32
    have HZA := Lib.hid (show zero32.all (·.oneCell') = true from bytes_all _)
    go_wp2_with (first | ((with_reducible show wpList _ _ _ (⟨some 19, _, _, _, _, _⟩ :: _) _ _); refine wpList_build0 (o := ⟨some 19, _, _, _, _, _⟩) rfl _ rfl zero32 hash_builtZ ?_) | ((with_reducible show wpList _ _ _ (⟨none, .store 27 _ _, _, _, _, _⟩ :: _) _ _); change wpList _ _ _ _ _ (((w.alloc (.cells f.cells.toArray 75)).alloc (.cells zeroField.cells.toArray 75)).alloc (.cells zero32 27)); rw [← HW.out]; refine wpList_store_row (o := ⟨none, .store 27 _ _, _, _, _, _⟩) rfl _ _ _ rfl (w.heap.size + 2) zero32 rfl rfl _ zero32 HH.out (by rw [HZ32.out]; exact Tryd.size_hash) rfl HZA.out ?_; rw [← HW1.out]))
    go_loopw [8] (fun i wr => ∃ k : Nat, ∃ cs : List UInt8, k ≤ 32 ∧ i = .int .i64 k ∧ cs.length = 32 ∧ Hid (∀ j, j < k → cs[j]? = s.data.toList[j]?) ∧ wr.heap[w.heap.size + 2]? = some (.cells (byteCells cs).toArray 27 (0, 0)) ∧ wr.heap[w.heap.size + 1]? = some (.cells zeroField.cells.toArray 75 (0, 0)) ∧ Below w.heap.size w wr) (fun i _ => 32 - (intOf i).toNat)
    case atStart => exact ⟨0, List.replicate 32 0, by omega, rfl, by simp, fun j hj => absurd hj (by omega), h1, z1, b1⟩
    case round =>
      obtain ⟨k, cs, hk, rfl, hcl, hcs, hr, hz, Br⟩ := hrel
      clear h1 z1 b1
      by_cases hlt : k < 32
      · have hcell : wr.cell? ⟨w.heap.size + 2, k, none⟩ = some (.int .u8 (cs[k]'(by omega)).toNat) := by
          simp [World.cell?, hr, byteCells, hcl, hlt]
        have hfree : wr.frozen? ⟨w.heap.size + 2, k, none⟩ = false := free_row' hr
        have hks : k < s.size := by omega
        have hset : (wr.setCell ⟨w.heap.size + 2, k, none⟩ (.int .u8 s[k].toNat)).heap[w.heap.size + 2]? = some (.cells (byteCells (cs.set k s[k])).toArray 27 (0, 0)) := by
          rw [heap_setCell_same wr _ k _ _ _ hr, byteCells_set]
        have hoth : (wr.setCell ⟨w.heap.size + 2, k, none⟩ (.int .u8 s[k].toNat)).heap[w.heap.size + 1]? = some (.cells zeroField.cells.toArray 75 (0, 0)) := by
          rw [heap_setCell_other _ _ _ _ (by simp only; omega)]; exact hz
        have Bs : Below w.heap.size w (wr.setCell ⟨w.heap.size + 2, k, none⟩ (.int .u8 s[k].toNat)) := Br.setCell (p := ⟨w.heap.size + 2, k, none⟩) (by simp only; omega) _
        have hstep : Hid (∀ j, j < k + 1 → (cs.set k s[k])[j]? = s.data.toList[j]?) := Lib.hid (by
          intro j hj
          rcases Nat.lt_or_ge j k with h | h
          · rw [List.getElem?_set_ne (by omega)]; exact hcs.out j h
          · obtain rfl : j = k := by omega
            rw [List.getElem?_set_self (by omega), List.getElem?_eq_getElem (by simpa using hks)]; rfl)
        have HSET := Lib.hid hset; clear hset
        have HOTH := Lib.hid hoth; clear hoth
        have hc256 := s[k].toNat_lt
        clear hr hz hcs
        go_wp2_with fail
        go_roundw
        case rel => exact ⟨k + 1, cs.set k s[k], by omega, by go_num, by simpa using hcl, hstep, HSET.out, HOTH.out, Bs⟩
        case measure => simp [intOf]; omega
      · obtain rfl : k = 32 := by omega
        have htake : cs = s.data.toList.take 32 := by
          apply List.ext_getElem?
          intro j
          rcases Nat.lt_or_ge j 32 with h | h
          · rw [hcs.out j h, List.getElem?_take_of_lt h]
          · rw [List.getElem?_eq_none (by omega), List.getElem?_eq_none (by rw [List.length_take]; omega)]
        obtain ⟨G, hG⟩ : ∃ G : FieldV, G = { zeroField with kind := 3, h := cs } := ⟨_, rfl⟩
        have HV : Hid (refV f s.data.toList = (G, 32, 0)) := Lib.hid (by rw [hG, htake]; unfold refV; rw [if_pos H3.out, if_neg HL.out])
        have HB : Hid (Tryd.prog.built 75 [(0, .int .i64 3), (5, .agg (byteCells cs).toArray)] = some G.cells.toArray) := Lib.hid (by rw [hG]; exact FieldV.built3 cs hcl)
        have HGS := Lib.hid (field_size (f := G) (by rw [hG]; exact hcl))
        have HGA := Lib.hid (field_all G)
        have HCL : Hid ((byteCells cs).toArray.size = 32) := Lib.hid (by rw [List.size_toArray, byteCells_length, hcl])
        have HR := Lib.hid hr; clear hr
        have HZ := Lib.hid hz; clear hz
        clear hG htake hcs hcl
        go_wp2_with (first | ((with_reducible show wpList _ _ _ (⟨some 29, _, _, _, _, _⟩ :: _) _ _); refine wpList_load_row (o := ⟨some 29, _, _, _, _, _⟩) rfl _ _ rfl (w.heap.size + 2) rfl _ (byteCells cs).toArray _ _ HR.out Tryd.under_hash rfl (by rw [HCL.out]; exact Tryd.size_hash) ?_) | ((with_reducible show wpList _ _ _ (⟨some 30, _, _, _, _, _⟩ :: _) _ _); refine wpList_build2 (o := ⟨some 30, _, _, _, _, _⟩) rfl _ _ _ _ _ rfl _ _ rfl rfl G.cells.toArray HB.out ?_) | ((with_reducible show wpList _ _ _ (⟨none, .store 75 (.tmp 4) _, _, _, _, _⟩ :: _) _ _); refine wpList_store_row (o := ⟨none, .store 75 _ _, _, _, _, _⟩) rfl _ _ _ rfl (w.heap.size + 1) G.cells.toArray rfl rfl _ zeroField.cells.toArray HZ.out (by rw [HGS.out]; exact Tryd.size_field) (by rw [HGS.out]; rfl) HGA.out ?_))
        refine bodyPost_ret (results_row3 rfl _ _ _ _ G.cells.toArray _ _ rfl (setRow_heap wr _ _ _ _ _ HZ.out) HFS.out rfl (by rw [HGS.out]; exact Tryd.size_field)) rfl ?_
        rw [HV.out]
        exact ⟨rfl, Go.below_setRow Br (by omega) _⟩

theorem refGet_any (f : FieldV) (hf : f.ok) (s : ByteArray) (hs : s.size ≤ maxLen) (w : World) :
    Calls Tryd.prog 44 #[.string s, .agg f.cells.toArray] w fun e w' => e = .returned (.tuple #[.agg (refV f s.data.toList).1.cells.toArray, .int .i64 (refV f s.data.toList).2.1, .int .i64 (refV f s.data.toList).2.2]) ∧ Below w.heap.size w w' := by
  by_cases h3 : f.kind = 3
  · exact refGet_hash f h3 s hs w
  · exact refGet_num f hf h3 s hs w

end Go.Proofs.YtaihojahccplcaaDoor

/- The document's Get: plain. -/
namespace Go.Proofs.YtaihojahccplcaaDoor
set_option linter.unusedVariables false
set_option linter.unusedSimpArgs false

/-- Number by number. -/
def chain (l : List UInt8) : Nat → Nat × List UInt8 × Nat
  | 0 => (0, l, 0)
  | j + 1 => Wire.rdNum (chain l j).2.1 (chain l j).2.2

theorem chain_succ (l : List UInt8) (j : Nat) : chain l (j + 1) = Wire.rdNum (chain l j).2.1 (chain l j).2.2 := rfl

theorem chain_err {l : List UInt8} {j : Nat} (h : (chain l j).2.2 ≠ 0) (k : Nat) : (chain l (j + k)).2.2 = (chain l j).2.2 := by
  induction k with
  | zero => rfl
  | succ k ih =>
    rw [← Nat.add_assoc, chain_succ, Wire.rdNum, if_pos (by rw [ih]; exact h)]
    exact ih

theorem chain_len (l : List UInt8) (j : Nat) : (chain l j).2.1.length ≤ l.length := by
  induction j with
  | zero => exact Nat.le_refl _
  | succ j ih =>
    rw [chain_succ, Wire.rdNum]
    split
    · exact ih
    · split
      · exact ih
      · show (List.drop _ _).length ≤ _
        rw [List.length_drop]; omega

/-- The field that is read. -/
def fldOf (K : Int) (x : Nat) : FieldV := if K = 1 then { zeroField with kind := 1, i := Wire.unzig x } else { zeroField with n := x }

/-- Which kind the j-th is. -/
def kindAt (j : Nat) : Int := if j = 1 ∨ j = 4 then 1 else 0

theorem refV_bad {K : Int} (hK : K = 0 ∨ K = 1) {s : List UInt8} (h : (Wire.rdNum s 0).2.2 ≠ 0) : refV ⟨K, 0, 0, 0, ⟨#[]⟩, List.replicate 32 0⟩ s = (zeroField, 0, (Wire.rdNum s 0).2.2) := by
  have hr : Wire.rdNum s 0 = if (Wire.dec 0 0 s).2.2 ≠ 0 then (0, s, (Wire.dec 0 0 s).2.2) else ((Wire.dec 0 0 s).1, s.drop (Wire.dec 0 0 s).2.1, 0) := by
    unfold Wire.rdNum; rw [if_neg (by decide)]
  by_cases he : (Wire.dec 0 0 s).2.2 ≠ 0
  · rw [if_pos he] at hr
    rw [hr]
    unfold refV
    rw [if_neg (by simp only; omega), if_pos he]
  · rw [if_neg he] at hr
    rw [hr] at h
    exact absurd rfl h

theorem refV_good {K : Int} (hK : K = 0 ∨ K = 1) {s : List UInt8} (h : (Wire.rdNum s 0).2.2 = 0) : refV ⟨K, 0, 0, 0, ⟨#[]⟩, List.replicate 32 0⟩ s = (fldOf K (Wire.rdNum s 0).1, (Wire.dec 0 0 s).2.1, 0) ∧ (Wire.rdNum s 0).2.1 = s.drop (Wire.dec 0 0 s).2.1 := by
  have hr : Wire.rdNum s 0 = if (Wire.dec 0 0 s).2.2 ≠ 0 then (0, s, (Wire.dec 0 0 s).2.2) else ((Wire.dec 0 0 s).1, s.drop (Wire.dec 0 0 s).2.1, 0) := by
    unfold Wire.rdNum; rw [if_neg (by decide)]
  by_cases he : (Wire.dec 0 0 s).2.2 ≠ 0
  · rw [if_pos he] at hr
    rw [hr] at h
    exact absurd h he
  · rw [if_neg he] at hr
    rw [hr]
    refine ⟨?_, rfl⟩
    unfold refV fldOf
    rcases hK with rfl | rfl
    · rw [if_neg (by decide), if_neg he, if_pos rfl, if_neg (by decide)]
    · rw [if_neg (by decide), if_neg he, if_neg (by decide), if_pos rfl, if_pos rfl]

/-- The fields read, j of them. -/
def gotF (l : List UInt8) (j : Nat) : List FieldV := (List.range j).map fun i => fldOf (kindAt i) (chain l (i + 1)).1
theorem gotF_len (l : List UInt8) (j : Nat) : (gotF l j).length = j := by simp [gotF]
theorem gotF_succ (l : List UInt8) (j : Nat) : gotF l (j + 1) = gotF l j ++ [fldOf (kindAt j) (chain l (j + 1)).1] := by
  unfold gotF; rw [List.range_succ, List.map_append]; rfl
theorem gotF_five (l : List UInt8) : gotF l 5 = [fldOf 0 (chain l 1).1, fldOf 1 (chain l 2).1, fldOf 0 (chain l 3).1, fldOf 0 (chain l 4).1, fldOf 1 (chain l 5).1] := rfl

theorem get_chain (er : Nat) (l : List UInt8) : St.get er l = (if (chain l 5).2.2 ≠ 0 then (St.none, (chain l 5).2.2) else if (chain l 5).2.1 ≠ [] then (St.none, 22)
    else if 1 < (chain l 3).1 ∨ 1 < (chain l 4).1 ∨ St.right (St.made (chain l 1).1 (chain l 2).1 (chain l 3).1 (chain l 4).1 (chain l 5).1) = false then (St.none, er)
    else (St.made (chain l 1).1 (chain l 2).1 (chain l 3).1 (chain l 4).1 (chain l 5).1, 0)) := rfl

theorem get_err {er : Nat} {l : List UInt8} {j : Nat} (hj : j ≤ 5) (h : (chain l j).2.2 ≠ 0) : St.get er l = (St.none, (chain l j).2.2) := by
  have he := chain_err h (5 - j)
  rw [show j + (5 - j) = 5 by omega] at he
  rw [get_chain, if_pos (by rw [he]; exact h), he]

theorem made_big {a b c d e : Nat} (h : 63 < a) : St.right (St.made a b c d e) = false := by
  rw [Bool.eq_false_iff]
  intro hr
  obtain ⟨_, h2, _⟩ := St.right_iff.1 hr
  have : ((min a 64 : Nat) : Int) < 64 := h2
  omega

theorem made_small {a b c d e : Nat} (h : ¬ 63 < a) : (St.made a b c d e).id = (a : Int) := by
  show ((min a 64 : Nat) : Int) = _
  omega

theorem fldOf_ok {K : Int} (hK : K = 0 ∨ K = 1) {x : Nat} (hx : x < 18446744073709551616) : (fldOf K x).ok := by
  have hu : -9223372036854775808 ≤ Wire.unzig x ∧ Wire.unzig x ≤ 9223372036854775807 := by unfold Wire.unzig; split <;> omega
  unfold fldOf
  rcases hK with rfl | rfl
  · rw [if_neg (by decide)]
    exact ⟨(by decide : (-9223372036854775808 : Int) ≤ 0), (by decide : (0 : Int) ≤ 9223372036854775807), (by decide : (-9223372036854775808 : Int) ≤ 0), (by decide : (0 : Int) ≤ 9223372036854775807), hx, (by decide : (-9223372036854775808 : Int) ≤ 0), (by decide : (0 : Int) ≤ 9223372036854775807), Nat.zero_le _, rfl⟩
  · rw [if_pos rfl]
    exact ⟨(by decide : (-9223372036854775808 : Int) ≤ 1), (by decide : (1 : Int) ≤ 9223372036854775807), (by decide : (-9223372036854775808 : Int) ≤ 0), (by decide : (0 : Int) ≤ 9223372036854775807), (by decide : (0 : Nat) < 18446744073709551616), hu.1, hu.2, Nat.zero_le _, rfl⟩

end Go.Proofs.YtaihojahccplcaaDoor

/- Rows of fields: one more. -/
namespace Go.Proofs.YtaihojahccplcaaDoor
open Go.RowKit
set_option linter.unusedSimpArgs false
set_option linter.unusedVariables false

theorem Tryd.under_fs : Tryd.prog.underlying 73 = some (.slice 75) := by kernel_rfl
theorem Tryd.info_fx : (Tryd.prog.info? 75).map (fun i => (i.zero, i.size, i.bytes)) = some (some (.agg zeroField.cells.toArray), 37, 80) := by kernel_rfl

theorem field_one (f : FieldV) : ∀ u ∈ f.cells, u.oneCell' = true := by
  intro v hv
  unfold FieldV.cells at hv
  rcases List.mem_append.1 hv with hv | hv
  · simp only [List.mem_cons, List.not_mem_nil, or_false] at hv
    rcases hv with rfl | rfl | rfl | rfl | rfl <;> rfl
  · exact byteCells_one _ v hv

def fCells (d : List FieldV) : List Value := (d.map FieldV.cells).flatten
theorem fCells_app (a b : List FieldV) : fCells (a ++ b) = fCells a ++ fCells b := by simp [fCells]
theorem fCells_one (a : FieldV) : fCells [a] = a.cells := by simp [fCells]

/-- A row that a call's own argument makes. -/
theorem alloc_builtF (w : World) {xs : List Value} {z : Array Value} {t : TypeId} (hz : z.size = xs.length) :
    (w.alloc (.cells (List.foldl (fun (cs : Array Value) (x : Value × Nat) => cs.setIfInBounds x.2 x.1) z xs.zipIdx) t)).heap[w.heap.size]? = some (.cells xs.toArray t (0, 0)) := by
  rw [fold_zip xs 0 z (by omega)]
  exact heap_alloc_new w _

/-- One field more in a row that has room. -/
theorem fld_room {w : World} {base g gq c : Nat} {d : List FieldV} {h : FieldV} (hown : w.ownsRow base 75 37 (.slice (some ⟨gq, 0, none⟩) d.length c) d.length (fCells d)) (hd : d.length ≤ 1000) (hh : h.ok) (hroom : d.length + 1 ≤ c) (hg : w.heap[g]? = some (.cells h.cells.toArray 75 (0, 0))) (hB : base ≤ w.heap.size) :
    ∃ w', (Builtin.append_ #[73, 73] 73 #[.slice (some ⟨gq, 0, none⟩) d.length c, .slice (some ⟨g, 0, none⟩) 1 1]).run Tryd.prog w = .ok (.slice (some ⟨gq, 0, none⟩) (d.length + 1) c) w' ∧ w'.ownsRow base 75 37 (.slice (some ⟨gq, 0, none⟩) (d.length + 1) c) (d.length + 1) (fCells (d ++ [h])) ∧ w.grownBy w' (some gq) := by
  obtain ⟨i, hi, hz0, hz1, hz2⟩ := info_parts Tryd.info_fx
  have hbl : h.cells.length = 1 * 37 := by rw [FieldV.len hh]
  obtain ⟨v', w', h1, h2, h3, -⟩ := run_append_own (P := Tryd.prog) w base 73 73 75 i (.agg zeroField.cells.toArray) 37 80 Tryd.under_fs hi hz0 hz1 hz2 (field_size (f := zeroField) rfl) (by decide) _ d.length _ hown ⟨g, 0, none⟩ 1 1 h.cells hbl (cells_row_at hg) (field_one h) (by unfold maxLen; omega) (by omega) hB
  rcases hown.2 with ⟨he, h0⟩ | ⟨g', cap, cur, he, hbg, hgg, hnc, hcm, hcs, htk⟩
  · cases he
  · simp only [Value.slice.injEq, Option.some.injEq, Addr.mk.injEq, true_and, and_true] at he
    obtain ⟨rfl, rfl⟩ := he
    have hr := run_append_room (P := Tryd.prog) w 73 73 75 i Tryd.under_fs hi gq d.length c cur hgg ⟨g, 0, none⟩ 1 1 h.cells (by rw [hz1]; exact hbl) (cells_row_at hg) (field_one h) hroom (by rw [hz1, hbl, hcs]; omega)
    rw [h1] at hr
    injection hr with e1 e2
    subst e1
    exact ⟨w', h1, by rw [fCells_app, fCells_one]; exact h2, h3⟩

/-- One field more in a row that has none. -/
theorem fld_grow {w : World} {base g gq c : Nat} {d : List FieldV} {h : FieldV} (hown : w.ownsRow base 75 37 (.slice (some ⟨gq, 0, none⟩) d.length c) d.length (fCells d)) (hd : d.length ≤ 1000) (hh : h.ok) (hroom : ¬ d.length + 1 ≤ c) (hg : w.heap[g]? = some (.cells h.cells.toArray 75 (0, 0))) (hB : base ≤ w.heap.size) :
    ∃ g' c' w', (Builtin.append_ #[73, 73] 73 #[.slice (some ⟨gq, 0, none⟩) d.length c, .slice (some ⟨g, 0, none⟩) 1 1]).run Tryd.prog w = .ok (.slice (some ⟨g', 0, none⟩) (d.length + 1) c') w' ∧ w'.ownsRow base 75 37 (.slice (some ⟨g', 0, none⟩) (d.length + 1) c') (d.length + 1) (fCells (d ++ [h])) ∧ Below w.heap.size w w' := by
  obtain ⟨i, hi, hz0, hz1, hz2⟩ := info_parts Tryd.info_fx
  have hbl : h.cells.length = 1 * 37 := by rw [FieldV.len hh]
  rcases hown.2 with ⟨he, h0⟩ | ⟨g', cap, cur, he, hbg, hgg, hnc, hcm, hcs, htk⟩
  · cases he
  · simp only [Value.slice.injEq, Option.some.injEq, Addr.mk.injEq, true_and, and_true] at he
    obtain ⟨rfl, rfl⟩ := he
    obtain ⟨v2, w2, hr, ho2, hg2⟩ := run_append_arg_grows (P := Tryd.prog) w 73 73 75 i (.agg zeroField.cells.toArray) 37 80 Tryd.under_fs hi hz0 hz1 hz2 (field_size (f := zeroField) rfl) (by decide) ⟨gq, 0, none⟩ d.length c (fCells d) hown.1 (hown.cells (g := gq) rfl) ⟨g, 0, none⟩ 1 1 h.cells hbl (cells_row_at hg) (by omega) (by unfold maxLen; omega) (by omega)
    have hb := grown_below hg2 (fun k hk => by cases hk) (Nat.le_refl _)
    rcases ho2.2 with ⟨_, h0⟩ | ⟨g3, c3, cur3, hv, _⟩
    · omega
    · subst hv
      exact ⟨g3, c3, w2, hr, by rw [fCells_app, fCells_one]; exact owns_mono ho2 hB, hb⟩

theorem wpList_load_fx {ops : Array Oper} {rest : List Oper} {op : Oper} {a : Act} {w : World} {Q : Exit → Act → World → Prop} (hgd : op.guard = none) (x : Operand) (ho : op.op = .load 75 x)
    (g : Nat) (hx : a.eval x = .pointer (some ⟨g, 0, none⟩)) (l : FieldV) (hl : l.ok) (hg : w.heap[g]? = some (.cells l.cells.toArray 75 (0, 0)))
    (h : wpList Tryd.prog ops Q rest (a.put op.dst (.agg l.cells.toArray)) w) : wpList Tryd.prog ops Q (op :: rest) a w := by
  obtain ⟨fs, hfs⟩ := Tryd.under_field
  exact wpList_load_row hgd _ x ho g hx _ _ _ _ hg hfs rfl (by rw [Tryd.size_field, field_size hl.h1]) h

theorem wpList_store_fx {ops : Array Oper} {rest : List Oper} {o : Oper} {a : Act} {w : World} {Q : Exit → Act → World → Prop} (hgd : o.guard = none) (x y : Operand) (ho : o.op = .store 75 x y)
    (g : Nat) (l : FieldV) (hl : l.ok) (hx : a.eval x = .pointer (some ⟨g, 0, none⟩)) (hy : a.eval y = .agg l.cells.toArray)
    (old : Array Value) (hg : w.heap[g]? = some (.cells old 75 (0, 0))) (hold : old.size = 37)
    (h : wpList Tryd.prog ops Q rest (a.put o.dst undef) (w.setRow g l.cells.toArray)) : wpList Tryd.prog ops Q (o :: rest) a w :=
  wpList_store_row hgd _ x y ho g l.cells.toArray hx hy _ old hg (by rw [Tryd.size_field, field_size hl.h1]) (by rw [hold, field_size hl.h1]) (field_all l) h

theorem zeroField_ok : zeroField.ok :=
  ⟨(by decide : (-9223372036854775808 : Int) ≤ 0), (by decide : (0 : Int) ≤ 9223372036854775807), (by decide : (-9223372036854775808 : Int) ≤ 0), (by decide : (0 : Int) ≤ 9223372036854775807), (by decide : (0 : Nat) < 18446744073709551616), (by decide : (-9223372036854775808 : Int) ≤ 0), (by decide : (0 : Int) ≤ 9223372036854775807), Nat.zero_le _, rfl⟩

end Go.Proofs.YtaihojahccplcaaDoor
