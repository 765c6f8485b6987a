/- S5, TreeLaw, in one text. -/
import Derived.Test.YtaihojahccplcaaDoorKG6b
import Derived.Test.YtaihojahccplcaaDoorKG0a
import Derived.Test.YtaihojahccplcaaDoorKG6a
/- Vertices: the document's Put. -/
namespace Go.Proofs.YtaihojahccplcaaDoor
open Go.RowKit
set_option linter.unusedSimpArgs false
set_option linter.unusedVariables false

/-- What the region's operations leave. -/
def rputV (B n : Nat) (value inn : Int) (active has : Bool) (s1 s2 s3 s4 s5 : List UInt8) (ix : Nat) (w : World) (v : Value) : Prop :=
  match ix with
  | 0 => v = .pointer (some ⟨B, 0, none⟩)
  | 1 => v = .int .i64 ((n : Int))
  | 2 => v = .int .u64 (n : Int)
  | 3 => v = .string (strOf s1)
  | 4 => v = .pointer (some ⟨B, 1, none⟩)
  | 5 => v = .int .i64 (value)
  | 6 => v = .string (strOf s2)
  | 7 => v = .string (strOf (s1 ++ s2))
  | 8 => v = .pointer (some ⟨B, 2, none⟩)
  | 9 => v = .bool active
  | 10 => v = .string (strOf s3)
  | 11 => v = .string (strOf (s1 ++ (s2 ++ s3)))
  | 12 => v = .pointer (some ⟨B, 3, none⟩)
  | 13 => v = .bool has
  | 14 => v = .string (strOf s4)
  | 15 => v = .string (strOf (s1 ++ (s2 ++ (s3 ++ s4))))
  | 16 => v = .pointer (some ⟨B, 4, none⟩)
  | 17 => v = .int .i64 (inn)
  | 18 => v = .string (strOf s5)
  | 19 => v = .string (strOf (s1 ++ (s2 ++ (s3 ++ (s4 ++ s5)))))
  | 20 => v = .string (strOf (s1 ++ (s2 ++ (s3 ++ (s4 ++ s5)))))
  | _ => True

theorem rputV_mono (B n : Nat) (value inn : Int) (active has : Bool) (s1 s2 s3 s4 s5 : List UInt8) (jx : Nat) (w w' : World) (v : Value) (hb : Below w.heap.size w w') (h : rputV B n value inn active has s1 s2 s3 s4 s5 jx w v) : rputV B n value inn active has s1 s2 s3 s4 s5 jx w' v := by
  match jx, h with
  | 0, h => exact h
  | 1, h => exact h
  | 2, h => exact h
  | 3, h => exact h
  | 4, h => exact h
  | 5, h => exact h
  | 6, h => exact h
  | 7, h => exact h
  | 8, h => exact h
  | 9, h => exact h
  | 10, h => exact h
  | 11, h => exact h
  | 12, h => exact h
  | 13, h => exact h
  | 14, h => exact h
  | 15, h => exact h
  | 16, h => exact h
  | 17, h => exact h
  | 18, h => exact h
  | 19, h => exact h
  | 20, h => exact h
  | _ + 21, h => exact trivial

set_option maxRecDepth 100000 in
set_option maxHeartbeats 4000000 in
theorem refPut10_any (w : World) (x : St.V) : Calls Tryd.prog 16 #[.agg (VertexV.cells x).toArray] w fun e w' => e = .returned (.string (strOf (St.put x))) ∧ Below w.heap.size w w' := by
  obtain ⟨e0, he0⟩ : ∃ e0 : Value, e0 = .string (strOf (St.put x)) := ⟨_, rfl⟩
  rw [← he0]
  have HE := Lib.hid he0; clear he0
  obtain ⟨W, hW⟩ : ∃ W, W = w.alloc (.cells (VertexV.cells x).toArray 36) := ⟨_, rfl⟩
  have X0 := Lib.hid (vertex_box w x W hW)
  have bw : Below w.heap.size w W := by rw [hW]; exact (Below.refl _ _).alloc (Nat.le_refl _) _
  have HW := Lib.hid hW; clear hW
  have hck := refRight_any W x
  rcases hr : St.right x with _ | _
  · rw [hr] at hck
    have HC := Lib.hid hck; clear hck
    have HR := Lib.hid hr; clear hr
    go_enter Tryd.func16, Tryd.ntmps16
    go_wp2_with (first | ((with_reducible show wpList _ _ _ (⟨some 3, _, _, _, _, _⟩ :: _) _ _); change wpList _ _ _ _ _ (w.alloc (.cells (VertexV.cells x).toArray 36)); rw [← HW.out]; refine wpList_load_vx (by kernel_rfl) _ rfl w.heap.size rfl x X0.out ?_))
    refine HC.out.mono ?_
    rintro e w1 ⟨rfl, b1⟩
    go_wp2_with fail
    go_ret
    exact ⟨by rw [HE.out, St.put, HR.out]; rfl, bw.trans (b1.mono bw.size)⟩
  · rw [hr] at hck
    obtain ⟨h1, h2, h3, h4, h5⟩ := St.right_iff.1 hr
    obtain ⟨v1, v2⟩ := St.great_iff.1 h3
    obtain ⟨n1, n2⟩ := St.great_iff.1 h4
    clear h3 h4 h5
    have HC := Lib.hid hck; clear hck
    have hput : St.put x = Wire.num x.id.toNat ++ (Wire.num (Wire.zig x.value) ++ ([UInt8.ofNat (St.bit x.active)] ++ ([UInt8.ofNat (St.bit x.has)] ++ Wire.num (Wire.zig x.inn)))) := by
      rw [St.put, hr, if_pos rfl, St.bytes, Wire.num_small (St.bit x.active) (by have := St.bit_lt x.active; omega), Wire.num_small (St.bit x.has) (by have := St.bit_lt x.has; omega)]; simp only [List.append_assoc]
    have HR := Lib.hid hr; clear hr
    have l1 := Wire.num_length x.id.toNat (by omega)
    have l2 := Wire.num_length (Wire.zig x.value) (Wire.zig_lt _ (by omega) (by omega))
    have l5 := Wire.num_length (Wire.zig x.inn) (Wire.zig_lt _ (by omega) (by omega))
    have l3 : [UInt8.ofNat (St.bit x.active)].length ≤ 10 := by simp
    have l4 : [UInt8.ofNat (St.bit x.has)].length ≤ 10 := by simp
    have c2 := fun w => refInt_any x.value (by omega) (by omega) w
    have c5 := fun w => refInt_any x.inn (by omega) (by omega) w
    have c3 := fun w => refBit_any w x.active
    have c4 := fun w => refBit_any w x.has
    obtain ⟨id, value, active, has, inn⟩ := x
    simp only at h1 h2 v1 v2 n1 n2 l1 l2 l3 l4 l5 hput c2 c3 c4 c5
    obtain ⟨n, rfl⟩ : ∃ n : Nat, id = (n : Int) := ⟨id.toNat, by omega⟩
    rw [Int.toNat_natCast] at l1 hput
    have c1 := fun w => refNum_any n (by omega) w
    obtain ⟨s1, e1⟩ : ∃ s1, s1 = Wire.num n := ⟨_, rfl⟩
    obtain ⟨s2, e2⟩ : ∃ s2, s2 = Wire.num (Wire.zig value) := ⟨_, rfl⟩
    obtain ⟨s3, e3⟩ : ∃ s3, s3 = [UInt8.ofNat (St.bit active)] := ⟨_, rfl⟩
    obtain ⟨s4, e4⟩ : ∃ s4, s4 = [UInt8.ofNat (St.bit has)] := ⟨_, rfl⟩
    obtain ⟨s5, e5⟩ : ∃ s5, s5 = Wire.num (Wire.zig inn) := ⟨_, rfl⟩
    rw [← e1, ← e2, ← e3, ← e4, ← e5] at hput
    rw [← e1] at c1 l1
    rw [← e2] at c2 l2
    rw [← e3] at c3 l3
    rw [← e4] at c4 l4
    rw [← e5] at c5 l5
    clear e1 e2 e3 e4 e5
    have HPUT := Lib.hid hput; clear hput
    have C1 := Lib.hid c1; have C2 := Lib.hid c2; have C3 := Lib.hid c3; have C4 := Lib.hid c4; have C5 := Lib.hid c5; clear c1 c2 c3 c4 c5
    have L1 := Lib.hid l1; have L2 := Lib.hid l2; have L3 := Lib.hid l3; have L4 := Lib.hid l4; have L5 := Lib.hid l5; clear l1 l2 l3 l4 l5
    go_enter Tryd.func16, Tryd.ntmps16
    go_wp2_with (first | ((with_reducible show wpList _ _ _ (⟨some 3, _, _, _, _, _⟩ :: _) _ _); change wpList _ _ _ _ _ (w.alloc (.cells (VertexV.cells ⟨(n : Int), value, active, has, inn⟩).toArray 36)); rw [← HW.out]; refine wpList_load_vx (by kernel_rfl) _ rfl w.heap.size rfl _ X0.out ?_))
    refine HC.out.mono ?_
    rintro e w1 ⟨rfl, b1⟩
    have x1 := (b1.block _ (lt_of_block X0.out)).trans X0.out
    clear X0 HC
    have X1 := Lib.hid x1; clear x1
    have bw1 := bw.trans (b1.mono bw.size)
    clear b1 bw
    go_wp2_with fail
    refine wp_region_rel [[], [0], [1], [2], [], [4], [5], [3, 6], [], [8], [9], [7, 10], [], [12], [13], [11, 14], [], [16], [17], [15, 18], [19]] (rputV w.heap.size n value inn active has s1 s2 s3 s4 s5) 26 (by kernel_rfl) (by kernel_rfl) (by kernel_rfl) (rputV_mono w.heap.size n value inn active has s1 s2 s3 s4 s5) ?_ ?_
    · intro ix op hi w2 b2 vs hv
      have him : ix < 21 := (List.getElem?_eq_some_iff.1 hi).1
      have hx1 := X1.out
      match ix, him, hi with
      | 0, _, hi =>
        obtain rfl := Option.some.inj hi
        simp only [relF, List.getD_cons_zero, List.getD_cons_succ, List.foldl_cons, List.foldl_nil, dstAt, List.getElem?_cons_zero, List.getElem?_cons_succ, Option.bind_some]
        go_wp2_with fail
        exact ⟨rfl, Below.refl _ _, rfl, rfl⟩
      | 1, _, hi =>
        obtain rfl := Option.some.inj hi
        have h0 : vs 0 = _ := hv 0 (by decide)
        obtain ⟨k0, k1, k2, k3, k4⟩ := vertex_at ((b2.block _ (lt_of_block X1.out)).trans X1.out)
        simp only [relF, List.getD_cons_zero, List.getD_cons_succ, List.foldl_cons, List.foldl_nil, dstAt, List.getElem?_cons_zero, List.getElem?_cons_succ, Option.bind_some]
        go_frame
        rw [h0]
        go_wp2_with fail
        exact ⟨rfl, Below.refl _ _, rfl, rfl⟩
      | 2, _, hi =>
        obtain rfl := Option.some.inj hi
        have h1 : vs 1 = _ := hv 1 (by decide)
        have hu : IntKind.u64.wrap (n : Int) = (n : Int) := by rw [IntKind.wrap_u64]; omega
        simp only [relF, List.getD_cons_zero, List.getD_cons_succ, List.foldl_cons, List.foldl_nil, dstAt, List.getElem?_cons_zero, List.getElem?_cons_succ, Option.bind_some]
        go_frame
        rw [h1]
        go_wp2_with fail
        exact ⟨rfl, Below.refl _ _, rfl, rfl⟩
      | 3, _, hi =>
        obtain rfl := Option.some.inj hi
        have h2 : vs 2 = _ := hv 2 (by decide)
        simp only [relF, List.getD_cons_zero, List.getD_cons_succ, List.foldl_cons, List.foldl_nil, dstAt, List.getElem?_cons_zero, List.getElem?_cons_succ, Option.bind_some]
        go_frame
        rw [h2]
        go_wp2_with fail
        refine (C1.out w2).mono ?_
        rintro e w3 ⟨rfl, b3⟩
        go_wp2_with fail
        exact ⟨rfl, b3, rfl, rfl⟩
      | 4, _, hi =>
        obtain rfl := Option.some.inj hi
        simp only [relF, List.getD_cons_zero, List.getD_cons_succ, List.foldl_cons, List.foldl_nil, dstAt, List.getElem?_cons_zero, List.getElem?_cons_succ, Option.bind_some]
        go_wp2_with fail
        exact ⟨rfl, Below.refl _ _, rfl, rfl⟩
      | 5, _, hi =>
        obtain rfl := Option.some.inj hi
        have h4 : vs 4 = _ := hv 4 (by decide)
        obtain ⟨k0, k1, k2, k3, k4⟩ := vertex_at ((b2.block _ (lt_of_block X1.out)).trans X1.out)
        simp only [relF, List.getD_cons_zero, List.getD_cons_succ, List.foldl_cons, List.foldl_nil, dstAt, List.getElem?_cons_zero, List.getElem?_cons_succ, Option.bind_some]
        go_frame
        rw [h4]
        go_wp2_with fail
        exact ⟨rfl, Below.refl _ _, rfl, rfl⟩
      | 6, _, hi =>
        obtain rfl := Option.some.inj hi
        have h5 : vs 5 = _ := hv 5 (by decide)
        simp only [relF, List.getD_cons_zero, List.getD_cons_succ, List.foldl_cons, List.foldl_nil, dstAt, List.getElem?_cons_zero, List.getElem?_cons_succ, Option.bind_some]
        go_frame
        rw [h5]
        go_wp2_with fail
        refine (C2.out w2).mono ?_
        rintro e w3 ⟨rfl, b3⟩
        go_wp2_with fail
        exact ⟨rfl, b3, rfl, rfl⟩
      | 7, _, hi =>
        obtain rfl := Option.some.inj hi
        have h3 : vs 3 = _ := hv 3 (by decide)
        have h6 : vs 6 = _ := hv 6 (by decide)
        have hlen0 := L1.out
        have hlen1 := L2.out
        have hz1 := strOf_size s1
        have hz2 := strOf_size s2
        have hadd : ((strOf s1) : ByteArray) ++ (strOf s2) = strOf (s1 ++ s2) := by first | exact add_str s1 s2 | simpa only [List.append_assoc] using add_str s1 s2
        simp only [relF, List.getD_cons_zero, List.getD_cons_succ, List.foldl_cons, List.foldl_nil, dstAt, List.getElem?_cons_zero, List.getElem?_cons_succ, Option.bind_some]
        go_frame
        rw [h3, h6]
        go_wp2_with fail
        exact ⟨rfl, Below.refl _ _, rfl, rfl⟩
      | 8, _, hi =>
        obtain rfl := Option.some.inj hi
        simp only [relF, List.getD_cons_zero, List.getD_cons_succ, List.foldl_cons, List.foldl_nil, dstAt, List.getElem?_cons_zero, List.getElem?_cons_succ, Option.bind_some]
        go_wp2_with fail
        exact ⟨rfl, Below.refl _ _, rfl, rfl⟩
      | 9, _, hi =>
        obtain rfl := Option.some.inj hi
        have h8 : vs 8 = _ := hv 8 (by decide)
        obtain ⟨k0, k1, k2, k3, k4⟩ := vertex_at ((b2.block _ (lt_of_block X1.out)).trans X1.out)
        simp only [relF, List.getD_cons_zero, List.getD_cons_succ, List.foldl_cons, List.foldl_nil, dstAt, List.getElem?_cons_zero, List.getElem?_cons_succ, Option.bind_some]
        go_frame
        rw [h8]
        go_wp2_with fail
        exact ⟨rfl, Below.refl _ _, rfl, rfl⟩
      | 10, _, hi =>
        obtain rfl := Option.some.inj hi
        have h9 : vs 9 = _ := hv 9 (by decide)
        simp only [relF, List.getD_cons_zero, List.getD_cons_succ, List.foldl_cons, List.foldl_nil, dstAt, List.getElem?_cons_zero, List.getElem?_cons_succ, Option.bind_some]
        go_frame
        rw [h9]
        go_wp2_with fail
        refine (C3.out w2).mono ?_
        rintro e w3 ⟨rfl, rfl⟩
        go_wp2_with fail
        exact ⟨rfl, Below.refl _ _, rfl, rfl⟩
      | 11, _, hi =>
        obtain rfl := Option.some.inj hi
        have h7 : vs 7 = _ := hv 7 (by decide)
        have h10 : vs 10 = _ := hv 10 (by decide)
        have hlen0 := L1.out
        have hlen1 := L2.out
        have hlen2 := L3.out
        have hz1 : ((strOf (s1 ++ s2)) : ByteArray).size = (s1 ++ s2).length := by first | rfl | exact strOf_size _
        have hz2 : ((strOf s3) : ByteArray).size = s3.length := by first | rfl | exact strOf_size _
        simp only [List.length_cons, List.length_append, List.length_nil] at hz1 hz2
        have hadd : ((strOf (s1 ++ s2)) : ByteArray) ++ (strOf s3) = strOf (s1 ++ (s2 ++ s3)) := by first | exact add_str (s1 ++ s2) s3 | simpa only [List.append_assoc] using add_str (s1 ++ s2) s3
        simp only [relF, List.getD_cons_zero, List.getD_cons_succ, List.foldl_cons, List.foldl_nil, dstAt, List.getElem?_cons_zero, List.getElem?_cons_succ, Option.bind_some]
        go_frame
        rw [h7, h10]
        go_wp2_with fail
        exact ⟨rfl, Below.refl _ _, rfl, rfl⟩
      | 12, _, hi =>
        obtain rfl := Option.some.inj hi
        simp only [relF, List.getD_cons_zero, List.getD_cons_succ, List.foldl_cons, List.foldl_nil, dstAt, List.getElem?_cons_zero, List.getElem?_cons_succ, Option.bind_some]
        go_wp2_with fail
        exact ⟨rfl, Below.refl _ _, rfl, rfl⟩
      | 13, _, hi =>
        obtain rfl := Option.some.inj hi
        have h12 : vs 12 = _ := hv 12 (by decide)
        obtain ⟨k0, k1, k2, k3, k4⟩ := vertex_at ((b2.block _ (lt_of_block X1.out)).trans X1.out)
        simp only [relF, List.getD_cons_zero, List.getD_cons_succ, List.foldl_cons, List.foldl_nil, dstAt, List.getElem?_cons_zero, List.getElem?_cons_succ, Option.bind_some]
        go_frame
        rw [h12]
        go_wp2_with fail
        exact ⟨rfl, Below.refl _ _, rfl, rfl⟩
      | 14, _, hi =>
        obtain rfl := Option.some.inj hi
        have h13 : vs 13 = _ := hv 13 (by decide)
        simp only [relF, List.getD_cons_zero, List.getD_cons_succ, List.foldl_cons, List.foldl_nil, dstAt, List.getElem?_cons_zero, List.getElem?_cons_succ, Option.bind_some]
        go_frame
        rw [h13]
        go_wp2_with fail
        refine (C4.out w2).mono ?_
        rintro e w3 ⟨rfl, rfl⟩
        go_wp2_with fail
        exact ⟨rfl, Below.refl _ _, rfl, rfl⟩
      | 15, _, hi =>
        obtain rfl := Option.some.inj hi
        have h11 : vs 11 = _ := hv 11 (by decide)
        have h14 : vs 14 = _ := hv 14 (by decide)
        have hlen0 := L1.out
        have hlen1 := L2.out
        have hlen2 := L3.out
        have hlen3 := L4.out
        have hz1 : ((strOf (s1 ++ (s2 ++ s3))) : ByteArray).size = (s1 ++ (s2 ++ s3)).length := by first | rfl | exact strOf_size _
        have hz2 : ((strOf s4) : ByteArray).size = s4.length := by first | rfl | exact strOf_size _
        simp only [List.length_cons, List.length_append, List.length_nil] at hz1 hz2
        have hadd : ((strOf (s1 ++ (s2 ++ s3))) : ByteArray) ++ (strOf s4) = strOf (s1 ++ (s2 ++ (s3 ++ s4))) := by first | exact add_str (s1 ++ (s2 ++ s3)) s4 | simpa only [List.append_assoc] using add_str (s1 ++ (s2 ++ s3)) s4
        simp only [relF, List.getD_cons_zero, List.getD_cons_succ, List.foldl_cons, List.foldl_nil, dstAt, List.getElem?_cons_zero, List.getElem?_cons_succ, Option.bind_some]
        go_frame
        rw [h11, h14]
        go_wp2_with fail
        exact ⟨rfl, Below.refl _ _, rfl, rfl⟩
      | 16, _, hi =>
        obtain rfl := Option.some.inj hi
        simp only [relF, List.getD_cons_zero, List.getD_cons_succ, List.foldl_cons, List.foldl_nil, dstAt, List.getElem?_cons_zero, List.getElem?_cons_succ, Option.bind_some]
        go_wp2_with fail
        exact ⟨rfl, Below.refl _ _, rfl, rfl⟩
      | 17, _, hi =>
        obtain rfl := Option.some.inj hi
        have h16 : vs 16 = _ := hv 16 (by decide)
        obtain ⟨k0, k1, k2, k3, k4⟩ := vertex_at ((b2.block _ (lt_of_block X1.out)).trans X1.out)
        simp only [relF, List.getD_cons_zero, List.getD_cons_succ, List.foldl_cons, List.foldl_nil, dstAt, List.getElem?_cons_zero, List.getElem?_cons_succ, Option.bind_some]
        go_frame
        rw [h16]
        go_wp2_with fail
        exact ⟨rfl, Below.refl _ _, rfl, rfl⟩
      | 18, _, hi =>
        obtain rfl := Option.some.inj hi
        have h17 : vs 17 = _ := hv 17 (by decide)
        simp only [relF, List.getD_cons_zero, List.getD_cons_succ, List.foldl_cons, List.foldl_nil, dstAt, List.getElem?_cons_zero, List.getElem?_cons_succ, Option.bind_some]
        go_frame
        rw [h17]
        go_wp2_with fail
        refine (C5.out w2).mono ?_
        rintro e w3 ⟨rfl, b3⟩
        go_wp2_with fail
        exact ⟨rfl, b3, rfl, rfl⟩
      | 19, _, hi =>
        obtain rfl := Option.some.inj hi
        have h15 : vs 15 = _ := hv 15 (by decide)
        have h18 : vs 18 = _ := hv 18 (by decide)
        have hlen0 := L1.out
        have hlen1 := L2.out
        have hlen2 := L3.out
        have hlen3 := L4.out
        have hlen4 := L5.out
        have hz1 : ((strOf (s1 ++ (s2 ++ (s3 ++ s4)))) : ByteArray).size = (s1 ++ (s2 ++ (s3 ++ s4))).length := by first | rfl | exact strOf_size _
        have hz2 : ((strOf s5) : ByteArray).size = s5.length := by first | rfl | exact strOf_size _
        simp only [List.length_cons, List.length_append, List.length_nil] at hz1 hz2
        have hadd : ((strOf (s1 ++ (s2 ++ (s3 ++ s4)))) : ByteArray) ++ (strOf s5) = strOf (s1 ++ (s2 ++ (s3 ++ (s4 ++ s5)))) := by first | exact add_str (s1 ++ (s2 ++ (s3 ++ s4))) s5 | simpa only [List.append_assoc] using add_str (s1 ++ (s2 ++ (s3 ++ s4))) s5
        simp only [relF, List.getD_cons_zero, List.getD_cons_succ, List.foldl_cons, List.foldl_nil, dstAt, List.getElem?_cons_zero, List.getElem?_cons_succ, Option.bind_some]
        go_frame
        rw [h15, h18]
        go_wp2_with fail
        exact ⟨rfl, Below.refl _ _, rfl, rfl⟩
      | 20, _, hi =>
        obtain rfl := Option.some.inj hi
        have h19 : vs 19 = _ := hv 19 (by decide)
        simp only [relF, List.getD_cons_zero, List.getD_cons_succ, List.foldl_cons, List.foldl_nil, dstAt, List.getElem?_cons_zero, List.getElem?_cons_succ, Option.bind_some]
        go_frame
        rw [h19]
        go_wp2_with fail
        exact ⟨rfl, Below.refl _ _, rfl, rfl⟩
      | nx + 21, him, _ => exact absurd him (by omega)
    · intro w2 b2 vs hv
      have hx1 := X1.out
      have h20 : vs 20 = _ := hv 20 (by decide)
      simp only [relF, List.drop_succ_cons, List.drop_zero, List.length_cons, List.length_nil, Nat.zero_add, Nat.reduceAdd, List.range, List.range.loop, List.foldl_cons, List.foldl_nil, dstAt, List.getElem?_cons_zero, List.getElem?_cons_succ, Option.bind_some]
      go_frame
      rw [h20]
      go_wp2_with fail
      go_ret
      exact ⟨by rw [HE.out, HPUT.out]; rfl, bw1.trans (b2.mono bw1.size)⟩

end Go.Proofs.YtaihojahccplcaaDoor

/- What the tree's laws ask, plain. -/
namespace Go.Proofs.YtaihojahccplcaaDoor
open Go.RowKit
set_option linter.unusedSimpArgs false
set_option linter.unusedVariables false

theorem Tree.sides_prove (N : Nat) : ∀ (L : List (List UInt8)) (i : Nat), L.length = N → i < N → (Tree.sides N i).length = (Tree.prove L i).length := by
  induction N using Nat.strongRecOn with
  | ind N ih =>
    intro L i hL hi
    by_cases h : 2 ≤ N
    · have h1 := Tree.half_pos h
      have h2 := Tree.half_lt h
      by_cases hl : i < Tree.half N
      · rw [Tree.sides_left h hl, Tree.prove_left (by omega) (by rw [hL]; exact hl), List.length_append, List.length_cons, hL]
        rw [ih (Tree.half N) h2 (L.take (Tree.half N)) i (by rw [List.length_take]; omega) hl]
        rfl
      · rw [Tree.sides_right h hl, Tree.prove_right (by omega) (by rw [hL]; exact hl), List.length_append, List.length_cons, hL]
        rw [ih (N - Tree.half N) (by omega) (L.drop (Tree.half N)) (i - Tree.half N) (by rw [List.length_drop, hL]) (by omega)]
        rfl
    · rw [Tree.sides_small h, Tree.prove_small (by omega)]; rfl

theorem Tree.climb_prove (N : Nat) : ∀ (L : List (List UInt8)) (i : Nat) (l : List UInt8), L.length = N → L[i]? = some l → Tree.climb (Tree.leaf l) (Tree.sides N i) (Tree.prove L i) = Tree.top L := by
  induction N using Nat.strongRecOn with
  | ind N ih =>
    intro L i l hL hl
    have hi : i < N := by have := (List.getElem?_eq_some_iff.1 hl).1; omega
    by_cases h : 2 ≤ N
    · have h1 := Tree.half_pos h
      have h2 := Tree.half_lt h
      by_cases hlt : i < Tree.half N
      · have hs := Tree.sides_prove (Tree.half N) (L.take (Tree.half N)) i (by rw [List.length_take]; omega) hlt
        rw [Tree.sides_left h hlt, Tree.prove_left (by omega) (by rw [hL]; exact hlt), hL, climb_snoc hs,
          ih (Tree.half N) h2 (L.take (Tree.half N)) i l (by rw [List.length_take]; omega) (by rw [List.getElem?_take, if_pos hlt]; exact hl), Tree.top_two (l := L) (by omega), hL]
        rfl
      · have hs := Tree.sides_prove (N - Tree.half N) (L.drop (Tree.half N)) (i - Tree.half N) (by rw [List.length_drop, hL]) (by omega)
        rw [Tree.sides_right h hlt, Tree.prove_right (by omega) (by rw [hL]; exact hlt), hL, climb_snoc hs,
          ih (N - Tree.half N) (by omega) (L.drop (Tree.half N)) (i - Tree.half N) l (by rw [List.length_drop, hL]) (by rw [List.getElem?_drop]; rw [show Tree.half N + (i - Tree.half N) = i by omega]; exact hl), Tree.top_two (l := L) (by omega), hL]
        rfl
    · obtain rfl : N = 1 := by omega
      obtain rfl : i = 0 := by omega
      obtain ⟨a, rfl⟩ := List.length_eq_one_iff.1 hL
      rw [Tree.sides_small h, Tree.prove_small (by simp), Tree.top_one]
      simp only [List.getElem?_cons_zero, Option.some.injEq] at hl
      subst hl
      simp [Tree.climb]

theorem Tree.check_prove {L : List (List UInt8)} {i : Nat} {l : List UInt8} (hl : L[i]? = some l) : Tree.check (Tree.root L.length (Tree.top L)) L.length i l (Tree.prove L i) = true := by
  have hi := (List.getElem?_eq_some_iff.1 hl).1
  unfold Tree.check
  rw [Tree.climb_prove L.length L i l rfl hl, Tree.sides_prove L.length L i rfl hi]
  simp

theorem Tree.check_len {want : List UInt8} {n i : Nat} {l : List UInt8} {P : List (List UInt8)} (h : (Tree.sides n i).length ≠ P.length) : Tree.check want n i l P = false := by
  unfold Tree.check
  rw [decide_eq_false h, Bool.false_and]

theorem Tree.half_3 : Tree.half 3 = 2 := Tree.half_of (i := 1) (by decide) (by decide)
theorem Tree.half_2 : Tree.half 2 = 1 := Tree.half_of (i := 0) (by decide) (by decide)

/-- The chapter's example. -/
theorem Tree.ex_prove : Tree.prove [[97], [98], [99]] 2 = [Tree.node (Tree.leaf [97]) (Tree.leaf [98])] := by
  rw [Tree.prove_right (by decide) (by rw [show ([[97], [98], [99]] : List (List UInt8)).length = 3 from rfl, Tree.half_3]; decide)]
  rw [show ([[97], [98], [99]] : List (List UInt8)).length = 3 from rfl, Tree.half_3]
  rw [show (([[97], [98], [99]] : List (List UInt8)).drop 2) = [[99]] from rfl, show (([[97], [98], [99]] : List (List UInt8)).take 2) = [[97], [98]] from rfl, Tree.prove_small (by decide)]
  rw [Tree.top_two (by decide), show ([[97], [98]] : List (List UInt8)).length = 2 from rfl, Tree.half_2]
  rw [show (([[97], [98]] : List (List UInt8)).take 1) = [[97]] from rfl, show (([[97], [98]] : List (List UInt8)).drop 1) = [[98]] from rfl, Tree.top_one, Tree.top_one]
  rfl

theorem Tree.ex_top : Tree.top [[97], [98], [99]] = Tree.node (Tree.node (Tree.leaf [97]) (Tree.leaf [98])) (Tree.leaf [99]) := by
  rw [Tree.top_two (by decide), show ([[97], [98], [99]] : List (List UInt8)).length = 3 from rfl, Tree.half_3]
  rw [show (([[97], [98], [99]] : List (List UInt8)).drop 2) = [[99]] from rfl, show (([[97], [98], [99]] : List (List UInt8)).take 2) = [[97], [98]] from rfl, Tree.top_one]
  rw [Tree.top_two (by decide), show ([[97], [98]] : List (List UInt8)).length = 2 from rfl, Tree.half_2]
  rw [show (([[97], [98]] : List (List UInt8)).take 1) = [[97]] from rfl, show (([[97], [98]] : List (List UInt8)).drop 1) = [[98]] from rfl, Tree.top_one, Tree.top_one]

theorem Tree.ex_sides2 : Tree.sides 3 2 = [false] := by
  rw [Tree.sides_right (by decide) (by rw [Tree.half_3]; decide), Tree.half_3, Tree.sides_small (by decide)]
theorem Tree.ex_sides0 : Tree.sides 3 0 = [true, true] := by
  rw [Tree.sides_left (by decide) (by rw [Tree.half_3]; decide), Tree.half_3, Tree.sides_left (by decide) (by rw [Tree.half_2]; decide), Tree.half_2, Tree.sides_small (by decide)]

theorem Tree.num_3 : Wire.num 3 = [3] := Wire.num_small 3 (by decide)

set_option maxRecDepth 100000 in
theorem Tree.ex_apart : (Sha.of (3 :: ([3] ++ Sha.of (1 :: (Sha.of (1 :: (Sha.of [0, 97] ++ Sha.of [0, 98])) ++ Sha.of [0, 100])))) == Sha.of (3 :: ([3] ++ Sha.of (1 :: (Sha.of (1 :: (Sha.of [0, 97] ++ Sha.of [0, 98])) ++ Sha.of [0, 99]))))) = false := by decide +kernel

theorem Tree.ex_check : Tree.check (Tree.root 3 (Tree.top [[97], [98], [99]])) 3 2 [99] (Tree.prove [[97], [98], [99]] 2) = true :=
  Tree.check_prove (L := [[97], [98], [99]]) (i := 2) rfl

theorem Tree.ex_not : Tree.check (Tree.root 3 (Tree.top [[97], [98], [99]])) 3 2 [100] (Tree.prove [[97], [98], [99]] 2) = false := by
  unfold Tree.check
  rw [Tree.ex_sides2, Tree.ex_prove, Tree.ex_top]
  have : ∀ t x : List UInt8, Tree.climb t [false] [x] = Tree.node x t := fun t x => by simp [Tree.climb, Tree.step]
  rw [this]
  have h := Tree.ex_apart
  unfold Tree.root
  rw [Tree.num_3]
  rw [Bool.and_eq_false_iff]
  right
  exact h

/-- At a power of two all proofs are as long. -/
theorem Tree.sides_pow (d : Nat) : ∀ (i : Nat), i < 2 ^ d → (Tree.sides (2 ^ d) i).length = d := by
  induction d with
  | zero => intro i hi; rw [Tree.sides_small (by decide)]; rfl
  | succ d ih =>
    intro i hi
    have hp := Nat.two_pow_pos d
    have h2 : 2 ≤ 2 ^ (d + 1) := by rw [Nat.pow_succ]; omega
    have hh : Tree.half (2 ^ (d + 1)) = 2 ^ d := Tree.half_of (by rw [Nat.pow_succ]; omega) (by rw [Nat.pow_succ]; omega)
    by_cases hl : i < 2 ^ d
    · rw [Tree.sides_left h2 (by rw [hh]; exact hl), hh, List.length_cons, ih i hl]
    · rw [Tree.sides_right h2 (by rw [hh]; exact hl), hh, List.length_cons, show 2 ^ (d + 1) - 2 ^ d = 2 ^ d by rw [Nat.pow_succ]; omega, ih (i - 2 ^ d) (by rw [Nat.pow_succ] at hi; omega)]

theorem Tree.sides_zero {n i : Nat} (hi : i < n) : (Tree.sides n i).length = 0 ↔ n = 1 := by
  by_cases h : 2 ≤ n
  · constructor
    · intro h0
      by_cases hl : i < Tree.half n
      · rw [Tree.sides_left h hl] at h0; simp at h0
      · rw [Tree.sides_right h hl] at h0; simp at h0
    · omega
  · rw [Tree.sides_small h]
    constructor
    · intro _; omega
    · intro _; rfl

end Go.Proofs.YtaihojahccplcaaDoor
