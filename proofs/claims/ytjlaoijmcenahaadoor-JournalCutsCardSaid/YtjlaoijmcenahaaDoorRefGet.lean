/- The walk of modillionref02.Get: a field out of bytes, by the reference. -/
import Derived.Test.YtjlaoijmcenahaaDoorG3a
import Derived.Test.YtjlaoijmcenahaaDoorG0c
import Derived.OwnWalk
namespace Go.Proofs.YtjlaoijmcenahaaDoor
open Go.RowKit
set_option linter.unusedSimpArgs false

/-- A field of the reference: it, how many bytes, the error. -/
def refV (f : FieldV) (l : List UInt8) : FieldV × Nat × Nat :=
  if f.kind = 3 then (if l.length < 32 then (zeroField, 0, 20) else ({ zeroField with kind := 3, h := l.take 32 }, 32, 0))
  else if (Wire.dec 0 0 l).2.2 ≠ 0 then (zeroField, 0, (Wire.dec 0 0 l).2.2)
  else if f.kind = 0 then ({ zeroField with n := (Wire.dec 0 0 l).1 }, (Wire.dec 0 0 l).2.1, 0)
  else if f.kind = 1 then ({ zeroField with kind := 1, i := Wire.unzig (Wire.dec 0 0 l).1 }, (Wire.dec 0 0 l).2.1, 0)
  else if f.most < 0 ∨ f.most < (Wire.dec 0 0 l).1 then (zeroField, 0, 22)
  else if l.length < (Wire.dec 0 0 l).2.1 + (Wire.dec 0 0 l).1 then (zeroField, 0, 20)
  else ({ zeroField with kind := 2, s := strOf ((l.drop (Wire.dec 0 0 l).2.1).take (Wire.dec 0 0 l).1) }, (Wire.dec 0 0 l).2.1 + (Wire.dec 0 0 l).1, 0)

/-- What the law's want is: at an error the kind alone. -/
def wantV (f : FieldV) (l : List UInt8) : FieldV := if (refV f l).2.2 = 0 then (refV f l).1 else { zeroField with kind := f.kind }

theorem refV_len (f : FieldV) (l : List UInt8) : (refV f l).2.1 ≤ l.length := by
  have := Wire.dec_len l
  unfold refV
  split
  · split
    · exact Nat.zero_le _
    · show 32 ≤ _; omega
  · split
    · exact Nat.zero_le _
    · split
      · exact this
      · split
        · exact this
        · split
          · exact Nat.zero_le _
          · split
            · exact Nat.zero_le _
            · show _ + _ ≤ _; omega

theorem refV_err (f : FieldV) (l : List UInt8) (h : (refV f l).2.2 ≠ 0) : (refV f l).2.1 = 0 := by
  unfold refV at h ⊢
  split
  · split
    · rfl
    · rename_i h1 h2; simp [h1, h2] at h
  · split
    · rfl
    · rename_i h1 h2
      split
      · rename_i h3; simp [h1, h2, h3] at h
      · split
        · rename_i h3 h4; simp [h1, h2, h3, h4] at h
        · split
          · rfl
          · split
            · rfl
            · rename_i h3 h4 h5 h6
              rw [if_neg h1, if_neg h2, if_neg h3, if_neg h4, if_neg h5, if_neg h6] at h
              exact absurd rfl h

/-- The reference and the reader agree. -/
theorem getV_ref (f : FieldV) (hk : 0 ≤ f.kind ∧ f.kind ≤ 3) (l : List UInt8) : getV f l 0 = (wantV f l, l.drop (refV f l).2.1, (refV f l).2.2) := by
  have hn : Wire.rdNum l 0 = if (Wire.dec 0 0 l).2.2 ≠ 0 then (0, l, (Wire.dec 0 0 l).2.2) else ((Wire.dec 0 0 l).1, l.drop (Wire.dec 0 0 l).2.1, 0) := by
    unfold Wire.rdNum; rw [if_neg (by decide)]
  have hh : Wire.rdHash l 0 = if l.length < 32 then (List.replicate 32 0, l, 20) else (l.take 32, l.drop 32, 0) := by
    unfold Wire.rdHash; rw [if_neg (by decide)]
  have ht : Wire.rdText f.most l 0 = match Wire.txt f.most l with
    | (some t, n, _) => (t, l.drop n, 0)
    | (none, _, er) => ([], l, er) := by
    unfold Wire.rdText; rw [if_neg (by decide)]
    cases hx : Wire.txt f.most l with
    | mk o r => cases o <;> rfl
  have hu : Wire.unzig 0 = 0 := by decide
  unfold getV wantV refV
  by_cases k3 : f.kind = 3
  · rw [if_neg (by omega), if_neg (by omega), if_neg (by omega)]
    simp only [if_pos k3]
    rw [hh]
    by_cases h : l.length < 32
    · simp only [if_pos h]; rw [k3]; rfl
    · simp only [if_neg h]; rfl
  · simp only [if_neg k3]
    by_cases hd : (Wire.dec 0 0 l).2.2 ≠ 0
    · simp only [if_pos hd]
      rw [hn, if_pos hd, ht]
      have htx : Wire.txt f.most l = (none, 0, (Wire.dec 0 0 l).2.2) := by unfold Wire.txt; rw [if_pos hd]
      rw [htx]
      rw [if_neg hd]
      by_cases k0 : f.kind = 0
      · rw [if_pos k0, k0]; rfl
      · rw [if_neg k0]
        by_cases k1 : f.kind = 1
        · rw [if_pos k1, k1, show Wire.unzig ((0, l, (Wire.dec 0 0 l).2.2) : Nat × List UInt8 × Nat).1 = 0 from hu]; rfl
        · rw [if_neg k1, if_pos (by omega), show f.kind = 2 by omega]; rfl
    · simp only [if_neg hd]
      rw [hn, if_neg hd]
      by_cases k0 : f.kind = 0
      · simp only [if_pos k0]; rfl
      · simp only [if_neg k0]
        by_cases k1 : f.kind = 1
        · simp only [if_pos k1]; rfl
        · simp only [if_neg k1]
          rw [if_pos (by omega), ht]
          unfold Wire.txt
          rw [if_neg hd]
          by_cases hm : f.most < 0 ∨ f.most < (Wire.dec 0 0 l).1
          · simp only [if_pos hm]; rw [show f.kind = 2 by omega]; rfl
          · simp only [if_neg hm]
            by_cases hl : l.length < (Wire.dec 0 0 l).2.1 + (Wire.dec 0 0 l).1
            · simp only [if_pos hl]; rw [show f.kind = 2 by omega]; rfl
            · simp only [if_neg hl]; rfl

theorem free_row' {w : World} {b j : Nat} {cs : Array Value} {t : TypeId} (h : w.heap[b]? = some (.cells cs t (0, 0))) : w.frozen? ⟨b, j, none⟩ = false := by simp [World.frozen?, h]

theorem results_row3 {P : Program} {fn : Func} {p u v : Tmp} {ty : TypeId} (h : fn.results = #[.cell p ty, .tmp u, .tmp v]) (tmps : Array Value) (w : World) (g : Nat) (t : TypeId) (cs : Array Value) (fr : Nat × Nat) (d : TypeDesc)
    (hp : tmps.getD p undef = .pointer (some ⟨g, 0, none⟩)) (hg : w.heap[g]? = some (.cells cs t fr))
    (hu : P.underlying ty = some d) (hd : (match d with | .struct _ | .array _ _ => true | _ => false) = true) (hi : (P.info? ty).map (·.size) = some cs.size) :
    (results fn tmps).run P w = .ok (.tuple #[.agg cs, tmps.getD u undef, tmps.getD v undef]) w := by
  have hp' : tmps[p]?.getD undef = .pointer (some ⟨g, 0, none⟩) := by simpa using hp
  simp [results, h, hp', asAddr, run_loadVar_row w g t ty cs fr d hg hu hd hi]

/-- A composite of one part. -/
theorem wpList_build1' {P : Program} {ops : Array Oper} {rest : List Oper} {o : Oper} {a : Act} {w : World} {Q : Exit → Act → World → Prop} (hg : o.guard = none) (t : TypeId) (i : Nat) (x : Operand) (ho : o.op = .build t #[(i, x)])
    (u : Value) (hx : a.eval x = u) (cs : Array Value) (hb : P.built t [(i, u)] = some cs)
    (h : wpList P ops Q rest (a.put o.dst (.agg cs)) w) : wpList P ops Q (o :: rest) a w := by
  have e : ((#[(i, x)] : Array (Nat × Operand)).map fun (p : Nat × Operand) => (p.1, a.eval p.2)).toList = [(i, u)] := by
    simp [hx]
  refine wpList_build hg t #[(i, x)] ho ?_ ?_
  · show (P.built t ((#[(i, x)] : Array (Nat × Operand)).map fun (p : Nat × Operand) => (p.1, a.eval p.2)).toList).isSome = true
    rw [e, hb]; rfl
  · show wpList P ops Q rest (a.put o.dst (.agg ((P.built t ((#[(i, x)] : Array (Nat × Operand)).map fun (p : Nat × Operand) => (p.1, a.eval p.2)).toList).getD #[]))) w
    rw [e, hb]; exact h

theorem hash_builtZ : Tryd.prog.built 31 [] = some zero32 := by kernel_rfl
theorem FieldV.builtZ : Tryd.prog.built 52 [] = some zeroField.cells.toArray := by kernel_rfl

set_option maxRecDepth 100000 in
set_option maxHeartbeats 2000000 in
theorem refGet_num (f : FieldV) (hf : f.ok) (h3 : f.kind ≠ 3) (s : ByteArray) (hs : s.size ≤ maxLen) (w : World) :
    Calls Tryd.prog 25 #[.string s, .agg f.cells.toArray] w fun e w' => e = .returned (.tuple #[.agg (refV f s.data.toList).1.cells.toArray, .int .i64 (refV f s.data.toList).2.1, .int .i64 (refV f s.data.toList).2.2]) ∧ Below w.heap.size w w' := by
  obtain ⟨g0, g1, g2, g3, g4⟩ := f.get
  have e3 : (f.kind == 3) = false := by simpa using h3
  obtain ⟨fs, hfs⟩ := Tryd.under_field
  have HFS := Lib.hid hfs; clear hfs
  obtain ⟨W, hW⟩ : ∃ W, W = (w.alloc (.cells f.cells.toArray 52)).alloc (.cells zeroField.cells.toArray 52) := ⟨_, rfl⟩
  have hx : W.heap[w.heap.size]? = some (.cells f.cells.toArray 52 (0, 0)) := by
    rw [hW, Below.heap_alloc _ _ _ (by simp)]; exact heap_alloc_new w _
  have hz : W.heap[w.heap.size + 1]? = some (.cells zeroField.cells.toArray 52 (0, 0)) := by
    rw [hW]; have := heap_alloc_new (w.alloc (.cells f.cells.toArray 52)) (.cells zeroField.cells.toArray 52); simpa using this
  have hbw : Below w.heap.size w W := by rw [hW]; exact ((Below.refl _ _).alloc (Nat.le_refl _) _).alloc (by simp) _
  obtain ⟨d0, d1, d2, d3, d4, d5⟩ := field_cell hx
  have HZ := Lib.hid hz; clear hz
  have HBW := Lib.hid hbw; clear hbw
  have HW := Lib.hid hW; clear hW
  have hn := refNumber_any s W hs
  have hk := Wire.dec_len s.data.toList
  have hn64 := Wire.dec_u64 s.data.toList
  have hls : s.data.toList.length = s.size := by simp
  have H3 := Lib.hid h3; clear h3
  unfold maxLen at hs
  obtain ⟨n, c, er, hd⟩ : ∃ n c er, Wire.dec 0 0 s.data.toList = (n, c, er) := ⟨_, _, _, rfl⟩
  rw [hd] at hn hk hn64
  simp only at hn hk hn64
  rw [hls] at hk
  have HLS := Lib.hid hls; clear hls
  have HD := Lib.hid hd; clear hd
  have HN := Lib.hid hn; clear hn
  clear d2 d3 d4 d5 hx
  have hm1 := hf.most1
  by_cases her : er = 0
  · subst her
    by_cases k0 : f.kind = 0
    · have e0 : (f.kind == 0) = true := by simpa using k0
      have K0 := Lib.hid k0; clear k0
      go_enter Tryd.func25, Tryd.ntmps25
      go_wp2_with fail
      change Calls _ _ _ ((w.alloc (.cells f.cells.toArray 52)).alloc (.cells zeroField.cells.toArray 52)) _
      rw [← HW.out]
      refine HN.out.mono ?_
      rintro e w' ⟨rfl, rfl⟩
      obtain ⟨G, hG⟩ : ∃ G : FieldV, G = { zeroField with n := n } := ⟨_, rfl⟩
      have HV : Hid (refV f s.data.toList = (G, c, 0)) := Lib.hid (by rw [hG]; unfold refV; rw [HD.out]; rw [if_neg H3.out, if_neg (by simp), if_pos K0.out])
      have HB : Hid (Tryd.prog.built 52 [(2, .int .u64 n)] = some G.cells.toArray) := Lib.hid (by rw [hG]; exact FieldV.built0 n)
      have HGS := Lib.hid (field_size (f := G) (by rw [hG]; rfl))
      have HGA := Lib.hid (field_all G)
      clear hG
      go_wp2_with (first | ((with_reducible show wpList _ _ _ (⟨some 46, _, _, _, _, _⟩ :: _) _ _); refine wpList_build1' (o := ⟨some 46, _, _, _, _, _⟩) rfl _ _ _ rfl _ rfl G.cells.toArray HB.out ?_) | ((with_reducible show wpList _ _ _ (⟨none, .store 52 (.tmp 4) _, _, _, _, _⟩ :: _) _ _); refine wpList_store_row (o := ⟨none, .store 52 _ _, _, _, _, _⟩) rfl _ _ _ rfl (w.heap.size + 1) G.cells.toArray rfl rfl _ zeroField.cells.toArray HZ.out (by rw [HGS.out]; exact Tryd.size_field) (by rw [HGS.out]; rfl) HGA.out ?_))
      refine bodyPost_ret (results_row3 rfl _ _ _ _ G.cells.toArray _ _ rfl (setRow_heap W _ _ _ _ _ HZ.out) HFS.out rfl (by rw [HGS.out]; exact Tryd.size_field)) rfl ?_
      rw [HV.out]
      exact ⟨rfl, Go.below_setRow HBW.out (by omega) _⟩
    · have e0 : (f.kind == 0) = false := by simpa using k0
      have K0 := Lib.hid k0; clear k0
      by_cases k1 : f.kind = 1
      · have e1 : (f.kind == 1) = true := by simpa using k1
        have K1 := Lib.hid k1; clear k1
        by_cases hp : n % 2 = 0
        · have hq : ((n : Int) % 2 == 0) = true := by rw [beq_iff_eq]; omega
          have HU : Hid (Wire.unzig n = ((n : Int) / 2)) := Lib.hid (by unfold Wire.unzig; rw [if_pos hp]; rfl)
          clear hp
          go_enter Tryd.func25, Tryd.ntmps25
          go_wp2_with fail
          change Calls _ _ _ ((w.alloc (.cells f.cells.toArray 52)).alloc (.cells zeroField.cells.toArray 52)) _
          rw [← HW.out]
          refine HN.out.mono ?_
          rintro e w' ⟨rfl, rfl⟩
          obtain ⟨G, hG⟩ : ∃ G : FieldV, G = { zeroField with kind := 1, i := ((n : Int) / 2) } := ⟨_, rfl⟩
          have HV : Hid (refV f s.data.toList = (G, c, 0)) := Lib.hid (by rw [hG]; unfold refV; rw [HD.out]; rw [if_neg H3.out, if_neg (by simp), if_neg K0.out, if_pos K1.out]; simp only [HU.out])
          have HB : Hid (Tryd.prog.built 52 [(0, .int .i64 1), (3, .int .i64 (((n : Int) / 2)))] = some G.cells.toArray) := Lib.hid (by rw [hG]; exact FieldV.built1 _)
          have HGS := Lib.hid (field_size (f := G) (by rw [hG]; rfl))
          have HGA := Lib.hid (field_all G)
          clear hG
          go_wp2_with (first | ((with_reducible show wpList _ _ _ (⟨some 56, _, _, _, _, _⟩ :: _) _ _); refine wpList_build2 (o := ⟨some 56, _, _, _, _, _⟩) rfl _ _ _ _ _ rfl _ _ rfl rfl G.cells.toArray HB.out ?_) | ((with_reducible show wpList _ _ _ (⟨none, .store 52 (.tmp 4) _, _, _, _, _⟩ :: _) _ _); refine wpList_store_row (o := ⟨none, .store 52 _ _, _, _, _, _⟩) rfl _ _ _ rfl (w.heap.size + 1) G.cells.toArray rfl rfl _ zeroField.cells.toArray HZ.out (by rw [HGS.out]; exact Tryd.size_field) (by rw [HGS.out]; rfl) HGA.out ?_))
          refine bodyPost_ret (results_row3 rfl _ _ _ _ G.cells.toArray _ _ rfl (setRow_heap W _ _ _ _ _ HZ.out) HFS.out rfl (by rw [HGS.out]; exact Tryd.size_field)) rfl ?_
          rw [HV.out]
          exact ⟨rfl, Go.below_setRow HBW.out (by omega) _⟩
        · have hq : ((n : Int) % 2 == 0) = false := by rw [beq_eq_false_iff_ne]; omega
          have HU : Hid (Wire.unzig n = (-1 - (n : Int) / 2)) := Lib.hid (by unfold Wire.unzig; rw [if_neg hp]; rfl)
          clear hp
          go_enter Tryd.func25, Tryd.ntmps25
          go_wp2_with fail
          change Calls _ _ _ ((w.alloc (.cells f.cells.toArray 52)).alloc (.cells zeroField.cells.toArray 52)) _
          rw [← HW.out]
          refine HN.out.mono ?_
          rintro e w' ⟨rfl, rfl⟩
          obtain ⟨G, hG⟩ : ∃ G : FieldV, G = { zeroField with kind := 1, i := (-1 - (n : Int) / 2) } := ⟨_, rfl⟩
          have HV : Hid (refV f s.data.toList = (G, c, 0)) := Lib.hid (by rw [hG]; unfold refV; rw [HD.out]; rw [if_neg H3.out, if_neg (by simp), if_neg K0.out, if_pos K1.out]; simp only [HU.out])
          have HB : Hid (Tryd.prog.built 52 [(0, .int .i64 1), (3, .int .i64 ((-1 - (n : Int) / 2)))] = some G.cells.toArray) := Lib.hid (by rw [hG]; exact FieldV.built1 _)
          have HGS := Lib.hid (field_size (f := G) (by rw [hG]; rfl))
          have HGA := Lib.hid (field_all G)
          clear hG
          go_wp2_with (first | ((with_reducible show wpList _ _ _ (⟨some 62, _, _, _, _, _⟩ :: _) _ _); refine wpList_build2 (o := ⟨some 62, _, _, _, _, _⟩) rfl _ _ _ _ _ rfl _ _ rfl rfl G.cells.toArray HB.out ?_) | ((with_reducible show wpList _ _ _ (⟨none, .store 52 (.tmp 4) _, _, _, _, _⟩ :: _) _ _); refine wpList_store_row (o := ⟨none, .store 52 _ _, _, _, _, _⟩) rfl _ _ _ rfl (w.heap.size + 1) G.cells.toArray rfl rfl _ zeroField.cells.toArray HZ.out (by rw [HGS.out]; exact Tryd.size_field) (by rw [HGS.out]; rfl) HGA.out ?_))
          refine bodyPost_ret (results_row3 rfl _ _ _ _ G.cells.toArray _ _ rfl (setRow_heap W _ _ _ _ _ HZ.out) HFS.out rfl (by rw [HGS.out]; exact Tryd.size_field)) rfl ?_
          rw [HV.out]
          exact ⟨rfl, Go.below_setRow HBW.out (by omega) _⟩
      · have e1 : (f.kind == 1) = false := by simpa using k1
        have K1 := Lib.hid k1; clear k1
        by_cases hm : f.most < 0 ∨ f.most < n
        · have HM := Lib.hid hm
          rcases (show f.most < 0 ∨ (0 ≤ f.most ∧ f.most < n) by omega) with h6 | ⟨h6, h7⟩
          all_goals
            clear hm
            go_enter Tryd.func25, Tryd.ntmps25
            go_wp2_with fail
            change Calls _ _ _ ((w.alloc (.cells f.cells.toArray 52)).alloc (.cells zeroField.cells.toArray 52)) _
            rw [← HW.out]
            refine HN.out.mono ?_
            rintro e w' ⟨rfl, rfl⟩
            obtain ⟨G, hG⟩ : ∃ G : FieldV, G = zeroField := ⟨_, rfl⟩
            have HV : Hid (refV f s.data.toList = (G, 0, 22)) := Lib.hid (by rw [hG]; unfold refV; rw [HD.out]; rw [if_neg H3.out, if_neg (by simp), if_neg K0.out, if_neg K1.out, if_pos HM.out])
            have HB : Hid (Tryd.prog.built 52 [] = some G.cells.toArray) := Lib.hid (by rw [hG]; exact FieldV.builtZ)
            have HGS := Lib.hid (field_size (f := G) (by rw [hG]; rfl))
            have HGA := Lib.hid (field_all G)
            clear hG
            go_wp2_with (first | ((with_reducible show wpList _ _ _ (⟨some 74, _, _, _, _, _⟩ :: _) _ _); refine wpList_build0 (o := ⟨some 74, _, _, _, _, _⟩) rfl _ rfl G.cells.toArray HB.out ?_) | ((with_reducible show wpList _ _ _ (⟨none, .store 52 (.tmp 4) _, _, _, _, _⟩ :: _) _ _); refine wpList_store_row (o := ⟨none, .store 52 _ _, _, _, _, _⟩) rfl _ _ _ rfl (w.heap.size + 1) G.cells.toArray rfl rfl _ zeroField.cells.toArray HZ.out (by rw [HGS.out]; exact Tryd.size_field) (by rw [HGS.out]; rfl) HGA.out ?_))
            refine bodyPost_ret (results_row3 rfl _ _ _ _ G.cells.toArray _ _ rfl (setRow_heap W _ _ _ _ _ HZ.out) HFS.out rfl (by rw [HGS.out]; exact Tryd.size_field)) rfl ?_
            rw [HV.out]
            exact ⟨rfl, Go.below_setRow HBW.out (by omega) _⟩
        · have HM := Lib.hid hm
          have h6 : 0 ≤ f.most := by omega
          have h7 : (n : Int) ≤ f.most := by omega
          clear hm
          by_cases hl : s.size < c + n
          · have HL : Hid (s.data.toList.length < c + n) := Lib.hid (by rw [HLS.out]; exact hl)
            go_enter Tryd.func25, Tryd.ntmps25
            go_wp2_with fail
            change Calls _ _ _ ((w.alloc (.cells f.cells.toArray 52)).alloc (.cells zeroField.cells.toArray 52)) _
            rw [← HW.out]
            refine HN.out.mono ?_
            rintro e w' ⟨rfl, rfl⟩
            obtain ⟨G, hG⟩ : ∃ G : FieldV, G = zeroField := ⟨_, rfl⟩
            have HV : Hid (refV f s.data.toList = (G, 0, 20)) := Lib.hid (by rw [hG]; unfold refV; rw [HD.out]; rw [if_neg H3.out, if_neg (by simp), if_neg K0.out, if_neg K1.out, if_neg HM.out, if_pos HL.out])
            have HB : Hid (Tryd.prog.built 52 [] = some G.cells.toArray) := Lib.hid (by rw [hG]; exact FieldV.builtZ)
            have HGS := Lib.hid (field_size (f := G) (by rw [hG]; rfl))
            have HGA := Lib.hid (field_all G)
            clear hG
            go_wp2_with (first | ((with_reducible show wpList _ _ _ (⟨some 82, _, _, _, _, _⟩ :: _) _ _); refine wpList_build0 (o := ⟨some 82, _, _, _, _, _⟩) rfl _ rfl G.cells.toArray HB.out ?_) | ((with_reducible show wpList _ _ _ (⟨none, .store 52 (.tmp 4) _, _, _, _, _⟩ :: _) _ _); refine wpList_store_row (o := ⟨none, .store 52 _ _, _, _, _, _⟩) rfl _ _ _ rfl (w.heap.size + 1) G.cells.toArray rfl rfl _ zeroField.cells.toArray HZ.out (by rw [HGS.out]; exact Tryd.size_field) (by rw [HGS.out]; rfl) HGA.out ?_))
            refine bodyPost_ret (results_row3 rfl _ _ _ _ G.cells.toArray _ _ rfl (setRow_heap W _ _ _ _ _ HZ.out) HFS.out rfl (by rw [HGS.out]; exact Tryd.size_field)) rfl ?_
            rw [HV.out]
            exact ⟨rfl, Go.below_setRow HBW.out (by omega) _⟩
          · have HL : Hid (¬ s.data.toList.length < c + n) := Lib.hid (by rw [HLS.out]; exact hl)
            have hext := strOf_extract s.data.toList c (c + n)
            rw [show c + n - c = n by omega, strOf_data] at hext
            have HX := Lib.hid hext; clear hext
            go_enter Tryd.func25, Tryd.ntmps25
            go_wp2_with fail
            change Calls _ _ _ ((w.alloc (.cells f.cells.toArray 52)).alloc (.cells zeroField.cells.toArray 52)) _
            rw [← HW.out]
            refine HN.out.mono ?_
            rintro e w' ⟨rfl, rfl⟩
            obtain ⟨G, hG⟩ : ∃ G : FieldV, G = { zeroField with kind := 2, s := strOf ((s.data.toList.drop c).take n) } := ⟨_, rfl⟩
            have HV : Hid (refV f s.data.toList = (G, c + n, 0)) := Lib.hid (by rw [hG]; unfold refV; rw [HD.out]; rw [if_neg H3.out, if_neg (by simp), if_neg K0.out, if_neg K1.out, if_neg HM.out, if_neg HL.out])
            have HB : Hid (Tryd.prog.built 52 [(0, .int .i64 2), (4, .string (s.extract c (c + n)))] = some G.cells.toArray) := Lib.hid (by rw [hG]; rw [HX.out]; exact FieldV.built2 _)
            have HGS := Lib.hid (field_size (f := G) (by rw [hG]; rfl))
            have HGA := Lib.hid (field_all G)
            clear hG
            go_wp2_with (first | ((with_reducible show wpList _ _ _ (⟨some 90, _, _, _, _, _⟩ :: _) _ _); refine wpList_build2 (o := ⟨some 90, _, _, _, _, _⟩) rfl _ _ _ _ _ rfl _ _ rfl rfl G.cells.toArray HB.out ?_) | ((with_reducible show wpList _ _ _ (⟨none, .store 52 (.tmp 4) _, _, _, _, _⟩ :: _) _ _); refine wpList_store_row (o := ⟨none, .store 52 _ _, _, _, _, _⟩) rfl _ _ _ rfl (w.heap.size + 1) G.cells.toArray rfl rfl _ zeroField.cells.toArray HZ.out (by rw [HGS.out]; exact Tryd.size_field) (by rw [HGS.out]; rfl) HGA.out ?_))
            refine bodyPost_ret (results_row3 rfl _ _ _ _ G.cells.toArray _ _ rfl (setRow_heap W _ _ _ _ _ HZ.out) HFS.out rfl (by rw [HGS.out]; exact Tryd.size_field)) rfl ?_
            rw [HV.out]
            exact ⟨rfl, Go.below_setRow HBW.out (by omega) _⟩
  · have her' : ((er : Int) != 0) = true := by simpa using her
    go_enter Tryd.func25, Tryd.ntmps25
    go_wp2_with fail
    change Calls _ _ _ ((w.alloc (.cells f.cells.toArray 52)).alloc (.cells zeroField.cells.toArray 52)) _
    rw [← HW.out]
    refine HN.out.mono ?_
    rintro e w' ⟨rfl, rfl⟩
    obtain ⟨G, hG⟩ : ∃ G : FieldV, G = zeroField := ⟨_, rfl⟩
    have HV : Hid (refV f s.data.toList = (G, 0, er)) := Lib.hid (by rw [hG]; unfold refV; rw [HD.out]; rw [if_neg H3.out, if_pos her])
    have HB : Hid (Tryd.prog.built 52 [] = some G.cells.toArray) := Lib.hid (by rw [hG]; exact FieldV.builtZ)
    have HGS := Lib.hid (field_size (f := G) (by rw [hG]; rfl))
    have HGA := Lib.hid (field_all G)
    clear hG
    go_wp2_with (first | ((with_reducible show wpList _ _ _ (⟨some 39, _, _, _, _, _⟩ :: _) _ _); refine wpList_build0 (o := ⟨some 39, _, _, _, _, _⟩) rfl _ rfl G.cells.toArray HB.out ?_) | ((with_reducible show wpList _ _ _ (⟨none, .store 52 (.tmp 4) _, _, _, _, _⟩ :: _) _ _); refine wpList_store_row (o := ⟨none, .store 52 _ _, _, _, _, _⟩) rfl _ _ _ rfl (w.heap.size + 1) G.cells.toArray rfl rfl _ zeroField.cells.toArray HZ.out (by rw [HGS.out]; exact Tryd.size_field) (by rw [HGS.out]; rfl) HGA.out ?_))
    refine bodyPost_ret (results_row3 rfl _ _ _ _ G.cells.toArray _ _ rfl (setRow_heap W _ _ _ _ _ HZ.out) HFS.out rfl (by rw [HGS.out]; exact Tryd.size_field)) rfl ?_
    rw [HV.out]
    exact ⟨rfl, Go.below_setRow HBW.out (by omega) _⟩


set_option maxRecDepth 100000 in
set_option maxHeartbeats 2000000 in
theorem refGet_hash (f : FieldV) (h3 : f.kind = 3) (s : ByteArray) (hs : s.size ≤ maxLen) (w : World) :
    Calls Tryd.prog 25 #[.string s, .agg f.cells.toArray] w fun e w' => e = .returned (.tuple #[.agg (refV f s.data.toList).1.cells.toArray, .int .i64 (refV f s.data.toList).2.1, .int .i64 (refV f s.data.toList).2.2]) ∧ Below w.heap.size w w' := by
  obtain ⟨g0, g1, g2, g3, g4⟩ := f.get
  have e3 : (f.kind == 3) = true := by simpa using h3
  obtain ⟨fs, hfs⟩ := Tryd.under_field
  have HFS := Lib.hid hfs; clear hfs
  have hls : s.data.toList.length = s.size := by simp
  have H3 := Lib.hid h3; clear h3
  unfold maxLen at hs
  have HLS := Lib.hid hls; clear hls
  by_cases hl : s.size < 32
  · obtain ⟨W, hW⟩ : ∃ W, W = (w.alloc (.cells f.cells.toArray 52)).alloc (.cells zeroField.cells.toArray 52) := ⟨_, rfl⟩
    have hz : W.heap[w.heap.size + 1]? = some (.cells zeroField.cells.toArray 52 (0, 0)) := by
      rw [hW]; have := heap_alloc_new (w.alloc (.cells f.cells.toArray 52)) (.cells zeroField.cells.toArray 52); simpa using this
    have hbw : Below w.heap.size w W := by rw [hW]; exact ((Below.refl _ _).alloc (Nat.le_refl _) _).alloc (by simp) _
    have HZ := Lib.hid hz; clear hz
    have HBW := Lib.hid hbw; clear hbw
    have HW := Lib.hid hW; clear hW
    obtain ⟨G, hG⟩ : ∃ G : FieldV, G = zeroField := ⟨_, rfl⟩
    have HV : Hid (refV f s.data.toList = (G, 0, 20)) := Lib.hid (by rw [hG]; unfold refV; rw [if_pos H3.out, if_pos (by rw [HLS.out]; exact hl)])
    have HB : Hid (Tryd.prog.built 52 [] = some G.cells.toArray) := Lib.hid (by rw [hG]; exact FieldV.builtZ)
    have HGS := Lib.hid (field_size (f := G) (by rw [hG]; rfl))
    have HGA := Lib.hid (field_all G)
    clear hG
    go_enter Tryd.func25, Tryd.ntmps25
    go_wp2_with (first | ((with_reducible show wpList _ _ _ (⟨some 18, _, _, _, _, _⟩ :: _) _ _); refine wpList_build0 (o := ⟨some 18, _, _, _, _, _⟩) rfl _ rfl G.cells.toArray HB.out ?_; change wpList _ _ _ _ _ ((w.alloc (.cells f.cells.toArray 52)).alloc (.cells zeroField.cells.toArray 52)); rw [← HW.out]) | ((with_reducible show wpList _ _ _ (⟨none, .store 52 (.tmp 4) _, _, _, _, _⟩ :: _) _ _); refine wpList_store_row (o := ⟨none, .store 52 _ _, _, _, _, _⟩) rfl _ _ _ rfl (w.heap.size + 1) G.cells.toArray rfl rfl _ zeroField.cells.toArray HZ.out (by rw [HGS.out]; exact Tryd.size_field) (by rw [HGS.out]; rfl) HGA.out ?_))
    refine bodyPost_ret (results_row3 rfl _ _ _ _ G.cells.toArray _ _ rfl (setRow_heap W _ _ _ _ _ HZ.out) HFS.out rfl (by rw [HGS.out]; exact Tryd.size_field)) rfl ?_
    rw [HV.out]
    exact ⟨rfl, Go.below_setRow HBW.out (by omega) _⟩
  · obtain ⟨W, hW⟩ : ∃ W, W = ((w.alloc (.cells f.cells.toArray 52)).alloc (.cells zeroField.cells.toArray 52)).alloc (.cells zero32 31) := ⟨_, rfl⟩
    have hz : W.heap[w.heap.size + 1]? = some (.cells zeroField.cells.toArray 52 (0, 0)) := by
      rw [hW, Below.heap_alloc _ _ _ (by simp)]; have := heap_alloc_new (w.alloc (.cells f.cells.toArray 52)) (.cells zeroField.cells.toArray 52); simpa using this
    have hh : W.heap[w.heap.size + 2]? = some (.cells zero32 31 (0, 0)) := by
      rw [hW]; have := heap_alloc_new ((w.alloc (.cells f.cells.toArray 52)).alloc (.cells zeroField.cells.toArray 52)) (.cells zero32 31); simpa using this
    have hbw : Below w.heap.size w W := by rw [hW]; exact (((Below.refl _ _).alloc (Nat.le_refl _) _).alloc (by simp) _).alloc (by simp; omega) _
    have HW := Lib.hid hW; clear hW
    have HL : Hid (¬ s.data.toList.length < 32) := Lib.hid (by rw [HLS.out]; exact hl)
    go_enter Tryd.func25, Tryd.ntmps25
    obtain ⟨W1, hW1⟩ : ∃ W1, W1 = W.setRow (w.heap.size + 2) zero32 := ⟨_, rfl⟩
    have z1 : W1.heap[w.heap.size + 1]? = some (.cells zeroField.cells.toArray 52 (0, 0)) := by rw [hW1, setRow_other _ _ _ _ (by omega)]; exact hz
    have h1 : W1.heap[w.heap.size + 2]? = some (.cells zero32 31 (0, 0)) := by rw [hW1]; exact setRow_heap _ _ _ _ _ _ hh
    have b1 : Below w.heap.size w W1 := by rw [hW1]; exact Go.below_setRow hbw (by omega) _
    have HH := Lib.hid hh; clear hh
    have HW1 := Lib.hid hW1; clear hW1
    clear hz hbw
    have z32 : zero32.size = 32 := by rw [zero32, List.size_toArray, byteCells_length, List.length_replicate]
    have HZ32 := Lib.hid z32; clear z32
    have HZA := Lib.hid (show zero32.all (·.oneCell') = true from bytes_all _)
    go_wp2_with (first | ((with_reducible show wpList _ _ _ (⟨some 19, _, _, _, _, _⟩ :: _) _ _); refine wpList_build0 (o := ⟨some 19, _, _, _, _, _⟩) rfl _ rfl zero32 hash_builtZ ?_) | ((with_reducible show wpList _ _ _ (⟨none, .store 31 _ _, _, _, _, _⟩ :: _) _ _); change wpList _ _ _ _ _ (((w.alloc (.cells f.cells.toArray 52)).alloc (.cells zeroField.cells.toArray 52)).alloc (.cells zero32 31)); rw [← HW.out]; refine wpList_store_row (o := ⟨none, .store 31 _ _, _, _, _, _⟩) rfl _ _ _ rfl (w.heap.size + 2) zero32 rfl rfl _ zero32 HH.out (by rw [HZ32.out]; exact Tryd.size_hash) rfl HZA.out ?_; rw [← HW1.out]))
    go_loopw [8] (fun i wr => ∃ k : Nat, ∃ cs : List UInt8, k ≤ 32 ∧ i = .int .i64 k ∧ cs.length = 32 ∧ Hid (∀ j, j < k → cs[j]? = s.data.toList[j]?) ∧ wr.heap[w.heap.size + 2]? = some (.cells (byteCells cs).toArray 31 (0, 0)) ∧ wr.heap[w.heap.size + 1]? = some (.cells zeroField.cells.toArray 52 (0, 0)) ∧ Below w.heap.size w wr) (fun i _ => 32 - (intOf i).toNat)
    case atStart => exact ⟨0, List.replicate 32 0, by omega, rfl, by simp, fun j hj => absurd hj (by omega), h1, z1, b1⟩
    case round =>
      obtain ⟨k, cs, hk, rfl, hcl, hcs, hr, hz, Br⟩ := hrel
      clear h1 z1 b1
      by_cases hlt : k < 32
      · have hcell : wr.cell? ⟨w.heap.size + 2, k, none⟩ = some (.int .u8 (cs[k]'(by omega)).toNat) := by
          simp [World.cell?, hr, byteCells, hcl, hlt]
        have hfree : wr.frozen? ⟨w.heap.size + 2, k, none⟩ = false := free_row' hr
        have hks : k < s.size := by omega
        have hset : (wr.setCell ⟨w.heap.size + 2, k, none⟩ (.int .u8 s[k].toNat)).heap[w.heap.size + 2]? = some (.cells (byteCells (cs.set k s[k])).toArray 31 (0, 0)) := by
          rw [heap_setCell_same wr _ k _ _ _ hr, byteCells_set]
        have hoth : (wr.setCell ⟨w.heap.size + 2, k, none⟩ (.int .u8 s[k].toNat)).heap[w.heap.size + 1]? = some (.cells zeroField.cells.toArray 52 (0, 0)) := by
          rw [heap_setCell_other _ _ _ _ (by simp only; omega)]; exact hz
        have Bs : Below w.heap.size w (wr.setCell ⟨w.heap.size + 2, k, none⟩ (.int .u8 s[k].toNat)) := Br.setCell (p := ⟨w.heap.size + 2, k, none⟩) (by simp only; omega) _
        have hstep : Hid (∀ j, j < k + 1 → (cs.set k s[k])[j]? = s.data.toList[j]?) := Lib.hid (by
          intro j hj
          rcases Nat.lt_or_ge j k with h | h
          · rw [List.getElem?_set_ne (by omega)]; exact hcs.out j h
          · obtain rfl : j = k := by omega
            rw [List.getElem?_set_self (by omega), List.getElem?_eq_getElem (by simpa using hks)]; rfl)
        have HSET := Lib.hid hset; clear hset
        have HOTH := Lib.hid hoth; clear hoth
        have hc256 := s[k].toNat_lt
        clear hr hz hcs
        go_wp2_with fail
        go_roundw
        case rel => exact ⟨k + 1, cs.set k s[k], by omega, by go_num, by simpa using hcl, hstep, HSET.out, HOTH.out, Bs⟩
        case measure => simp [intOf]; omega
      · obtain rfl : k = 32 := by omega
        have htake : cs = s.data.toList.take 32 := by
          apply List.ext_getElem?
          intro j
          rcases Nat.lt_or_ge j 32 with h | h
          · rw [hcs.out j h, List.getElem?_take_of_lt h]
          · rw [List.getElem?_eq_none (by omega), List.getElem?_eq_none (by rw [List.length_take]; omega)]
        obtain ⟨G, hG⟩ : ∃ G : FieldV, G = { zeroField with kind := 3, h := cs } := ⟨_, rfl⟩
        have HV : Hid (refV f s.data.toList = (G, 32, 0)) := Lib.hid (by rw [hG, htake]; unfold refV; rw [if_pos H3.out, if_neg HL.out])
        have HB : Hid (Tryd.prog.built 52 [(0, .int .i64 3), (5, .agg (byteCells cs).toArray)] = some G.cells.toArray) := Lib.hid (by rw [hG]; exact FieldV.built3 cs hcl)
        have HGS := Lib.hid (field_size (f := G) (by rw [hG]; exact hcl))
        have HGA := Lib.hid (field_all G)
        have HCL : Hid ((byteCells cs).toArray.size = 32) := Lib.hid (by rw [List.size_toArray, byteCells_length, hcl])
        have HR := Lib.hid hr; clear hr
        have HZ := Lib.hid hz; clear hz
        clear hG htake hcs hcl
        go_wp2_with (first | ((with_reducible show wpList _ _ _ (⟨some 29, _, _, _, _, _⟩ :: _) _ _); refine wpList_load_row (o := ⟨some 29, _, _, _, _, _⟩) rfl _ _ rfl (w.heap.size + 2) rfl _ (byteCells cs).toArray _ _ HR.out Tryd.under_hash rfl (by rw [HCL.out]; exact Tryd.size_hash) ?_) | ((with_reducible show wpList _ _ _ (⟨some 30, _, _, _, _, _⟩ :: _) _ _); refine wpList_build2 (o := ⟨some 30, _, _, _, _, _⟩) rfl _ _ _ _ _ rfl _ _ rfl rfl G.cells.toArray HB.out ?_) | ((with_reducible show wpList _ _ _ (⟨none, .store 52 (.tmp 4) _, _, _, _, _⟩ :: _) _ _); refine wpList_store_row (o := ⟨none, .store 52 _ _, _, _, _, _⟩) rfl _ _ _ rfl (w.heap.size + 1) G.cells.toArray rfl rfl _ zeroField.cells.toArray HZ.out (by rw [HGS.out]; exact Tryd.size_field) (by rw [HGS.out]; rfl) HGA.out ?_))
        refine bodyPost_ret (results_row3 rfl _ _ _ _ G.cells.toArray _ _ rfl (setRow_heap wr _ _ _ _ _ HZ.out) HFS.out rfl (by rw [HGS.out]; exact Tryd.size_field)) rfl ?_
        rw [HV.out]
        exact ⟨rfl, Go.below_setRow Br (by omega) _⟩

theorem refGet_any (f : FieldV) (hf : f.ok) (s : ByteArray) (hs : s.size ≤ maxLen) (w : World) :
    Calls Tryd.prog 25 #[.string s, .agg f.cells.toArray] w fun e w' => e = .returned (.tuple #[.agg (refV f s.data.toList).1.cells.toArray, .int .i64 (refV f s.data.toList).2.1, .int .i64 (refV f s.data.toList).2.2]) ∧ Below w.heap.size w w' := by
  by_cases h3 : f.kind = 3
  · exact refGet_hash f h3 s hs w
  · exact refGet_num f hf h3 s hs w

end Go.Proofs.YtjlaoijmcenahaaDoor
