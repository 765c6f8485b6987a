/- WireApart: two fields of a kind that aren't the same aren't the same bytes. The walk of the law. -/
import Derived.Test.YtnohbamjcadfaaaOne
namespace Go.Proofs.Ytnohbamjcadfaaa
open Go.RowKit

/-- Two fields of a kind: the same where they are looked at? -/
def sameV (a b : FieldV) : Bool :=
  if a.kind = 0 then a.n == b.n else if a.kind = 1 then a.i == b.i else if a.kind = 2 then a.s.data.toList == b.s.data.toList else a.h == b.h

theorem putV_same (a b : FieldV) (ha : a.ok) (hb : b.ok) (hk : a.kind = b.kind) (h0 : 0 ≤ a.kind) (h3 : a.kind ≤ 3) (has : a.s.size ≤ 300) (hbs : b.s.size ≤ 300) : (putV a == putV b) = sameV a b := by
  rw [Bool.eq_iff_iff]
  unfold sameV
  split
  · rename_i k
    rw [putV_0 a k, putV_0 b (by omega)]
    simp only [beq_iff_eq]
    exact ⟨Wire.num_inj ha.n1 hb.n1, fun h => by rw [h]⟩
  · split
    · rename_i k
      rw [putV_1 a k, putV_1 b (by omega)]
      simp only [beq_iff_eq]
      exact ⟨fun h => Wire.zig_inj (Wire.num_inj (Wire.zig_lt _ ha.i0 ha.i1) (Wire.zig_lt _ hb.i0 hb.i1) h), fun h => by rw [h]⟩
    · split
      · rename_i k
        rw [putV_2 a k, putV_2 b (by omega)]
        simp only [beq_iff_eq]
        refine ⟨fun h => ?_, fun h => ?_⟩
        · rw [← bytes_len, ← bytes_len] at h
          exact Wire.text_inj (by rw [bytes_len]; omega) (by rw [bytes_len]; omega) h
        · rw [← bytes_len, ← bytes_len, h]
      · rw [putV_3 a (by omega), putV_3 b (by omega)]

set_option maxRecDepth 100000 in
set_option maxHeartbeats 1600000 in
theorem apart_walk (w : World) (a : FieldV) (ha : a.ok) (b : FieldV) (hb : b.ok) :
    Calls Try.prog 6 #[.agg a.cells.toArray, .agg b.cells.toArray] w fun e w' => e = .returned (.bool true) ∧ Below w.heap.size w w' := by
  obtain ⟨fs, hfs⟩ := Try.under_field
  have HFS := Lib.hid hfs; clear hfs
  have HSA := Lib.hid (field_size ha.h1)
  have HSB := Lib.hid (field_size hb.h1)
  obtain ⟨W, hW⟩ : ∃ W, W = (w.alloc (.cells a.cells.toArray 47)).alloc (.cells b.cells.toArray 47) := ⟨_, rfl⟩
  have hA : W.heap[w.heap.size]? = some (.cells a.cells.toArray 47 (0, 0)) := by rw [hW, Below.heap_alloc _ _ _ (by simp)]; exact heap_alloc_new w _
  have hB : W.heap[w.heap.size + 1]? = some (.cells b.cells.toArray 47 (0, 0)) := by
    rw [hW]; have := heap_alloc_new (w.alloc (.cells a.cells.toArray 47)) (.cells b.cells.toArray 47); simpa using this
  have bW : Below w.heap.size w W := by rw [hW]; exact ((Below.refl _ _).alloc (Nat.le_refl _) _).alloc (by simp) _
  have sW : W.heap.size = w.heap.size + 2 := by rw [hW]; simp
  have HA := Lib.hid hA; clear hA
  have HB := Lib.hid hB; clear hB
  have HW := Lib.hid hW; clear hW
  have SW := Lib.hid sW; clear sW
  go_enter Try.func6, Try.ntmps6
  go_wp2_with fail
  rw [← HW.out]
  clear HW
  refine (newOut_use _).mono ?_
  rintro e w1 ⟨rfl, n1, b1, s1⟩
  go_wp2_with fail
  refine (newOut_use _).mono ?_
  rintro e w2 ⟨rfl, n2, b2, s2⟩
  replace n1 := n1.below b2
  go_wp2_with fail
  refine (awake_any _).mono ?_
  rintro e w3 ⟨rfl, b3⟩
  replace n1 := n1.below b3
  replace n2 := n2.below b3
  have s3 := b3.size
  have hs1 := SW.out
  have hA3 : w3.heap[w.heap.size]? = some (.cells a.cells.toArray 47 (0, 0)) := by
    rw [b3.block _ (by omega), b2.block _ (by omega), b1.block _ (by omega)]; exact HA.out
  have hB3 : w3.heap[w.heap.size + 1]? = some (.cells b.cells.toArray 47 (0, 0)) := by
    rw [b3.block _ (by omega), b2.block _ (by omega), b1.block _ (by omega)]; exact HB.out
  have B3 : Below w.heap.size w w3 := bW.trans ((b1.mono (by omega)).trans ((b2.mono (by omega)).trans (b3.mono (by omega))))
  obtain ⟨c0, c1, c2, c3, c4, c5⟩ := field_cell hA3
  obtain ⟨d0, d1, d2, d3, d4, d5⟩ := field_cell hB3
  have hlt1 : w.heap.size + 1 < W.heap.size := by omega
  have hlt2 : w.heap.size + 4 ≤ w3.heap.size := by omega
  have H3A := Lib.hid hA3; clear hA3
  have H3B := Lib.hid hB3; clear hB3
  clear hs1 SW HA HB c5 d5 b1 b2 b3 bW c1 c2 c3 d1 d2 d3
  by_cases hg : a.s.size ≤ 300 ∧ b.s.size ≤ 300 ∧ a.kind = b.kind ∧ 0 ≤ a.kind ∧ a.kind ≤ 3
  · obtain ⟨g1, g2, g3, g4, g5⟩ := hg
    have hsame := putV_same a b ha hb g3 g4 g5 g1 g2
    have HSAME := Lib.hid hsame; clear hsame
    have g3' : (a.kind != b.kind) = false := by simpa using g3
    have G3 := Lib.hid g3; clear g3
    go_wp2_with (refine wpList_load_row (o := ⟨some 51, _, _, _, _, _⟩) rfl _ _ rfl _ rfl _ a.cells.toArray _ _ H3A.out HFS.out rfl (by rw [HSA.out]; exact Try.size_field) ?_)
    refine (put_any a ha (by omega) w3.heap.size _ [] w3 (n1.is _) (Nat.le_refl _) (by simp; omega)).mono ?_
    rintro x w4 ⟨rfl, o4, b4⟩
    have n4 := n2.but b4 (by omega)
    have s4 := b4.size
    have B4 := Below.more B3 b4 (by omega) (by omega)
    have hA4 := (b4.block w.heap.size (by omega) (by omega)).trans H3A.out
    have hB4 := (b4.block (w.heap.size + 1) (by omega) (by omega)).trans H3B.out
    have H4A := Lib.hid hA4; clear hA4
    have H4B := Lib.hid hB4; clear hB4
    clear c0 c4 d0 d4 b4 B3 n1 n2 H3A H3B g3'
    go_wp2_with (refine wpList_load_row (o := ⟨some 54, _, _, _, _, _⟩) rfl _ _ rfl _ rfl _ b.cells.toArray _ _ H4B.out HFS.out rfl (by rw [HSB.out]; exact Try.size_field) ?_)
    refine (put_any b hb (by omega) w4.heap.size _ [] w4 (n4.is _) (Nat.le_refl _) (by simp; omega)).mono ?_
    rintro x w5 ⟨rfl, o5, b5⟩
    have o4' := o4.but b5 (by omega) n4.is0.noRow
    have B5 := Below.more B4 b5 (by omega) (by omega)
    have hA5 := (b5.block w.heap.size (by omega) (by omega)).trans H4A.out
    have hB5 := (b5.block (w.heap.size + 1) (by omega) (by omega)).trans H4B.out
    obtain ⟨c0, c1, c2, c3, c4, c5⟩ := field_cell hA5
    obtain ⟨d0, d1, d2, d3, d4, d5⟩ := field_cell hB5
    clear b5 B4 H4A H4B hA5 hB5 o4 n4
    rw [List.nil_append] at o4' o5
    have C5 := Lib.hid c5
    have D5 := Lib.hid d5
    have heq := hash_eql w5 a.h b.h ha.h1 hb.h1
    have hst := str_beq (putV a) (putV b)
    rw [HSAME.out] at hst
    clear c5 d5
    have hkk : a.kind = 0 ∨ a.kind = 1 ∨ a.kind = 2 ∨ a.kind = 3 := by omega
    clear g4 g5
    rcases hkk with k | k | k | k
    · have e0 : (a.kind == 0) = true := by simpa using k
      have e1 : (a.kind == 1) = false := by simp [k]
      have e2 : (a.kind == 2) = false := by simp [k]
      have e3 : (a.kind == 3) = false := by simp [k]
      have hv : sameV a b = (a.n == b.n) := by simp [sameV, k]
      rw [hv] at hst
      clear hv k
      by_cases hx : a.n = b.n
      · have hxb : (((a.n : Int)) == (b.n : Int)) = true := beq_iff_eq.2 (congrArg _ hx)
        have hst' : ((strOf (putV a)).toList == (strOf (putV b)).toList) = true := by rw [hst]; exact beq_iff_eq.2 hx
        have HX := Lib.hid hx; clear hx hst
        go_wp2_with fail
        refine (outDone_str _ _ _ _ o4').mono ?_
        rintro x w' ⟨rfl, rfl⟩
        go_wp2_with fail
        refine (outDone_str _ _ _ _ o5).mono ?_
        rintro x w' ⟨rfl, rfl⟩
        go_wp2_with fail
        go_ret
        exact ⟨rfl, B5⟩
      · have hxb : (((a.n : Int)) == (b.n : Int)) = false := beq_eq_false_iff_ne.2 (fun h => hx (Int.ofNat_inj.1 h))
        have hst' : ((strOf (putV a)).toList == (strOf (putV b)).toList) = false := by rw [hst]; exact beq_eq_false_iff_ne.2 hx
        have HX := Lib.hid hx; clear hx hst
        go_wp2_with fail
        refine (outDone_str _ _ _ _ o4').mono ?_
        rintro x w' ⟨rfl, rfl⟩
        go_wp2_with fail
        refine (outDone_str _ _ _ _ o5).mono ?_
        rintro x w' ⟨rfl, rfl⟩
        go_wp2_with fail
        go_ret
        exact ⟨rfl, B5⟩
    · have e0 : (a.kind == 0) = false := by simp [k]
      have e1 : (a.kind == 1) = true := by simpa using k
      have e2 : (a.kind == 2) = false := by simp [k]
      have e3 : (a.kind == 3) = false := by simp [k]
      have hv : sameV a b = (a.i == b.i) := by simp [sameV, k]
      rw [hv] at hst
      clear hv k
      by_cases hx : a.i = b.i
      · have hxb : (a.i == b.i) = true := beq_iff_eq.2 hx
        have hst' : ((strOf (putV a)).toList == (strOf (putV b)).toList) = true := by rw [hst]; exact beq_iff_eq.2 hx
        have HX := Lib.hid hx; clear hx hst
        go_wp2_with fail
        refine (outDone_str _ _ _ _ o4').mono ?_
        rintro x w' ⟨rfl, rfl⟩
        go_wp2_with fail
        refine (outDone_str _ _ _ _ o5).mono ?_
        rintro x w' ⟨rfl, rfl⟩
        go_wp2_with fail
        go_ret
        exact ⟨rfl, B5⟩
      · have hxb : (a.i == b.i) = false := beq_eq_false_iff_ne.2 hx
        have hst' : ((strOf (putV a)).toList == (strOf (putV b)).toList) = false := by rw [hst]; exact beq_eq_false_iff_ne.2 hx
        have HX := Lib.hid hx; clear hx hst
        go_wp2_with fail
        refine (outDone_str _ _ _ _ o4').mono ?_
        rintro x w' ⟨rfl, rfl⟩
        go_wp2_with fail
        refine (outDone_str _ _ _ _ o5).mono ?_
        rintro x w' ⟨rfl, rfl⟩
        go_wp2_with fail
        go_ret
        exact ⟨rfl, B5⟩
    · have e0 : (a.kind == 0) = false := by simp [k]
      have e1 : (a.kind == 1) = false := by simp [k]
      have e2 : (a.kind == 2) = true := by simpa using k
      have e3 : (a.kind == 3) = false := by simp [k]
      have hv : sameV a b = (a.s.data.toList == b.s.data.toList) := by simp [sameV, k]
      rw [hv] at hst
      clear hv k
      by_cases hx : a.s.data.toList = b.s.data.toList
      · have hxb : (a.s.toList == b.s.toList) = true := by rw [ByteArray.toList_eq, ByteArray.toList_eq]; exact beq_iff_eq.2 hx
        have hst' : ((strOf (putV a)).toList == (strOf (putV b)).toList) = true := by rw [hst]; exact beq_iff_eq.2 hx
        have HX := Lib.hid hx; clear hx hst
        go_wp2_with fail
        refine (outDone_str _ _ _ _ o4').mono ?_
        rintro x w' ⟨rfl, rfl⟩
        go_wp2_with fail
        refine (outDone_str _ _ _ _ o5).mono ?_
        rintro x w' ⟨rfl, rfl⟩
        go_wp2_with fail
        go_ret
        exact ⟨rfl, B5⟩
      · have hxb : (a.s.toList == b.s.toList) = false := by rw [ByteArray.toList_eq, ByteArray.toList_eq]; exact beq_eq_false_iff_ne.2 hx
        have hst' : ((strOf (putV a)).toList == (strOf (putV b)).toList) = false := by rw [hst]; exact beq_eq_false_iff_ne.2 hx
        have HX := Lib.hid hx; clear hx hst
        go_wp2_with fail
        refine (outDone_str _ _ _ _ o4').mono ?_
        rintro x w' ⟨rfl, rfl⟩
        go_wp2_with fail
        refine (outDone_str _ _ _ _ o5).mono ?_
        rintro x w' ⟨rfl, rfl⟩
        go_wp2_with fail
        go_ret
        exact ⟨rfl, B5⟩
    · have e0 : (a.kind == 0) = false := by simp [k]
      have e1 : (a.kind == 1) = false := by simp [k]
      have e2 : (a.kind == 2) = false := by simp [k]
      have e3 : (a.kind == 3) = true := by simpa using k
      have hv : sameV a b = (a.h == b.h) := by simp [sameV, k]
      rw [hv] at hst
      clear hv k
      by_cases hx : a.h = b.h
      · have hxb : (a.h == b.h) = true := beq_iff_eq.2 hx
        have hst' : ((strOf (putV a)).toList == (strOf (putV b)).toList) = true := by rw [hst]; exact beq_iff_eq.2 hx
        have HX := Lib.hid hx; clear hx hst
        go_wp2_with (first | ((with_reducible show wpList _ _ _ (⟨some 96, _, _, _, _, _⟩ :: _) _ _); refine wpList_load_mid_g (op := ⟨some 96, _, _, _, _, _⟩) rfl _ _ rfl w.heap.size 5 rfl (byteCells a.h) _ C5.out Try.under_hash rfl (by rw [byteCells_length, ha.h1]; exact Try.size_hash) ?_) | ((with_reducible show wpList _ _ _ (⟨some 98, _, _, _, _, _⟩ :: _) _ _); refine wpList_load_mid_g (op := ⟨some 98, _, _, _, _, _⟩) rfl _ _ rfl (w.heap.size + 1) 5 rfl (byteCells b.h) _ D5.out Try.under_hash rfl (by rw [byteCells_length, hb.h1]; exact Try.size_hash) ?_) | ((with_reducible show wpList _ _ _ (⟨some 99, _, _, _, _, _⟩ :: _) _ _); refine wpList_eql_hash (op := ⟨some 99, _, _, _, _, _⟩) rfl _ _ rfl a.h b.h ha.h1 hb.h1 rfl rfl ?_))
        refine (outDone_str _ _ _ _ o4').mono ?_
        rintro x w' ⟨rfl, rfl⟩
        go_wp2_with fail
        refine (outDone_str _ _ _ _ o5).mono ?_
        rintro x w' ⟨rfl, rfl⟩
        go_wp2_with fail
        go_ret
        exact ⟨rfl, B5⟩
      · have hxb : (a.h == b.h) = false := beq_eq_false_iff_ne.2 hx
        have hst' : ((strOf (putV a)).toList == (strOf (putV b)).toList) = false := by rw [hst]; exact beq_eq_false_iff_ne.2 hx
        have HX := Lib.hid hx; clear hx hst
        go_wp2_with (first | ((with_reducible show wpList _ _ _ (⟨some 96, _, _, _, _, _⟩ :: _) _ _); refine wpList_load_mid_g (op := ⟨some 96, _, _, _, _, _⟩) rfl _ _ rfl w.heap.size 5 rfl (byteCells a.h) _ C5.out Try.under_hash rfl (by rw [byteCells_length, ha.h1]; exact Try.size_hash) ?_) | ((with_reducible show wpList _ _ _ (⟨some 98, _, _, _, _, _⟩ :: _) _ _); refine wpList_load_mid_g (op := ⟨some 98, _, _, _, _, _⟩) rfl _ _ rfl (w.heap.size + 1) 5 rfl (byteCells b.h) _ D5.out Try.under_hash rfl (by rw [byteCells_length, hb.h1]; exact Try.size_hash) ?_) | ((with_reducible show wpList _ _ _ (⟨some 99, _, _, _, _, _⟩ :: _) _ _); refine wpList_eql_hash (op := ⟨some 99, _, _, _, _, _⟩) rfl _ _ rfl a.h b.h ha.h1 hb.h1 rfl rfl ?_))
        refine (outDone_str _ _ _ _ o4').mono ?_
        rintro x w' ⟨rfl, rfl⟩
        go_wp2_with fail
        refine (outDone_str _ _ _ _ o5).mono ?_
        rintro x w' ⟨rfl, rfl⟩
        go_wp2_with fail
        go_ret
        exact ⟨rfl, B5⟩
  · have hg2 : 300 < a.s.size ∨ (a.s.size ≤ 300 ∧ 300 < b.s.size) ∨ (a.s.size ≤ 300 ∧ b.s.size ≤ 300 ∧ a.kind ≠ b.kind) ∨
        (a.s.size ≤ 300 ∧ b.s.size ≤ 300 ∧ a.kind = b.kind ∧ a.kind < 0) ∨ (a.s.size ≤ 300 ∧ b.s.size ≤ 300 ∧ a.kind = b.kind ∧ 0 ≤ a.kind ∧ 3 < a.kind) := by omega
    clear hg
    rcases hg2 with hg | ⟨hg, hg2⟩ | ⟨hg, hg2, hg3⟩ | ⟨hg, hg2, hg3, hg4⟩ | ⟨hg, hg2, hg3, hg4, hg5⟩
    · go_wp2_with fail
      refine (awake_any _).mono ?_
      rintro x w4 ⟨rfl, b4⟩
      go_wp2_with fail
      go_ret
      exact ⟨rfl, B3.trans (b4.mono (by omega))⟩
    · go_wp2_with fail
      refine (awake_any _).mono ?_
      rintro x w4 ⟨rfl, b4⟩
      go_wp2_with fail
      go_ret
      exact ⟨rfl, B3.trans (b4.mono (by omega))⟩
    · have hne : (a.kind != b.kind) = true := by simpa using hg3
      clear hg3
      go_wp2_with fail
      refine (awake_any _).mono ?_
      rintro x w4 ⟨rfl, b4⟩
      go_wp2_with fail
      go_ret
      exact ⟨rfl, B3.trans (b4.mono (by omega))⟩
    · have hne : (a.kind != b.kind) = false := by simpa using hg3
      clear hg3
      go_wp2_with fail
      refine (awake_any _).mono ?_
      rintro x w4 ⟨rfl, b4⟩
      go_wp2_with fail
      go_ret
      exact ⟨rfl, B3.trans (b4.mono (by omega))⟩
    · have hne : (a.kind != b.kind) = false := by simpa using hg3
      clear hg3
      go_wp2_with fail
      refine (awake_any _).mono ?_
      rintro x w4 ⟨rfl, b4⟩
      go_wp2_with fail
      go_ret
      exact ⟨rfl, B3.trans (b4.mono (by omega))⟩
end Go.Proofs.Ytnohbamjcadfaaa
