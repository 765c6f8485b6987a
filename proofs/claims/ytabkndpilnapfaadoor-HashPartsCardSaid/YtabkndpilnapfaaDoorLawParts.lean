/- The walk of the law HashParts. -/
import Derived.Test.YtabkndpilnapfaaDoorLawNone
import Derived.Test.YtabkndpilnapfaaDoorRefOf0
namespace Go.Proofs.YtabkndpilnapfaaDoor
open Go.RowKit
set_option linter.unusedSimpArgs false
set_option linter.unusedVariables false

/-- One part: bytes in a block of bytes of their own. -/
def PartIn (w : World) (u : Value) (l : List UInt8) : Prop :=
  ∃ b cap cs fr, u = .slice (some ⟨b, 0, none⟩) l.length cap ∧ w.heap[b]? = some (.cells cs 5 fr) ∧ w.rangeAt b 0 (byteCells l) ∧ l.length ≤ cap

/-- The parts so far: a row of the call's own, and where each lies. -/
def PartsIn (w : World) (B : Nat) (v : Value) (ls : List (List UInt8)) : Prop :=
  ∃ us, w.ownsRow B 27 1 v ls.length us ∧ ∀ (i : Nat) u l, us[i]? = some u → ls[i]? = some l → PartIn w u l

theorem PartIn.block {w w' : World} {u : Value} {l : List UInt8} (h : PartIn w u l) (hb : ∀ (k : Nat) (cs : Array Value) (fr : Nat × Nat), w.heap[k]? = some (Obj.cells cs 5 fr) → w'.heap[k]? = w.heap[k]?) : PartIn w' u l := by
  obtain ⟨b, cap, cs, fr, rfl, h1, h2, h3⟩ := h
  have e := hb b cs fr h1
  exact ⟨b, cap, cs, fr, rfl, e.trans h1, fun j u hu => by rw [World.cell?_of_block (a := ⟨b, _, none⟩) e]; exact h2 j u hu, h3⟩

theorem PartIn.below {w w' : World} {u : Value} {l : List UInt8} (h : PartIn w u l) (hb : Below w.heap.size w w') : PartIn w' u l :=
  h.block fun _ _ _ hk => hb.block _ (lt_of_block hk)

theorem ownsRow_beneath {w w' : World} {B : Nat} {e : TypeId} {v : Value} {n : Nat} {us : List Value} (h : w.ownsRow B e 1 v n us) (hb : Below w.heap.size w w') : w'.ownsRow B e 1 v n us := by
  refine ⟨h.1, h.2.imp id ?_⟩
  rintro ⟨g, cap, cur, h1, h2, h3, h4⟩
  exact ⟨g, cap, cur, h1, h2, (hb.block g (lt_of_block h3)).trans h3, h4⟩

theorem PartsIn.below {w w' : World} {B : Nat} {v : Value} {ls : List (List UInt8)} (h : PartsIn w B v ls) (hb : Below w.heap.size w w') : PartsIn w' B v ls := by
  obtain ⟨us, h1, h2⟩ := h
  exact ⟨us, ownsRow_beneath h1 hb, fun i u l hu hl => (h2 i u l hu hl).below hb⟩

theorem Tryd.under_u8ss : Tryd.prog.underlying 31 = some (.slice 27) := by kernel_rfl
theorem Tryd.info_u8s : (Tryd.prog.info? 27).map (fun i => (i.zero, i.size, i.bytes)) = some (some (.slice none 0 0), 1, 24) := by kernel_rfl

/-- One part more. -/
theorem push_part {w : World} {B m : Nat} {v x : Value} {ls : List (List UInt8)} {l : List UInt8} (hm : ls.length = m) (h : PartsIn w B v ls) (hx : PartIn w x l) (hB : B ≤ w.heap.size) (hl : m ≤ 1000000) :
    ∃ v' w', (Builtin.append_ #[31, 31] 31 #[v, .slice (some ⟨w.heap.size, 0, none⟩) 1 1]).run Tryd.prog (w.alloc (.cells #[x] 27)) = .ok v' w' ∧ PartsIn w' B v' (ls ++ [l]) ∧ Below B w w' ∧ w.heap.size < w'.heap.size ∧ ∃ g cap, v' = .slice (some ⟨g, 0, none⟩) (m + 1) cap := by
  obtain ⟨i, hi, hz0, hz1, hz2⟩ := info_parts Tryd.info_u8s
  obtain ⟨us, h, hus⟩ := h
  subst hm
  have hxo : x.oneCell' = true := by obtain ⟨b, cap, cs, fr, rfl, _⟩ := hx; rfl
  obtain ⟨v', w', h1, h2, h3, _⟩ := run_append_own (P := Tryd.prog) (w.alloc (.cells #[x] 27)) B 31 31 27 i (.slice none 0 0) 1 24 Tryd.under_u8ss hi hz0 hz1 hz2 rfl (by decide) v ls.length us (h.alloc _) ⟨w.heap.size, 0, none⟩ 1 1 [x] rfl (cell_one_new _ _ _) (by intro u hu; simp at hu; subst hu; exact hxo) (by unfold maxLen; omega) (by omega) (by simp; omega)
  have hs := h3.size
  simp at hs
  have hlen := h.1
  rw [Nat.mul_one] at hlen
  have hne : ∀ (k : Nat) (cs : Array Value) (fr : Nat × Nat), w.heap[k]? = some (Obj.cells cs 5 fr) → w'.heap[k]? = w.heap[k]? := by
    intro k cs fr hk
    have hlt := lt_of_block hk
    rw [h3.block k (by simp; omega) ?_]
    · exact heap_alloc_old w _ hlt
    · intro he
      rcases h.2 with ⟨rfl, _⟩ | ⟨g, cap, cur, rfl, _, hg, _⟩
      · simp [Value.ownBlock] at he
      · simp [Value.ownBlock] at he
        subst he
        rw [hg] at hk
        simp at hk
  refine ⟨v', w', h1, ⟨us ++ [x], by rw [List.length_append]; exact h2, fun j u l' hu hl' => ?_⟩, ((Below.refl _ _).alloc hB _).grown h3 (by simp; omega) (fun k hk => (h.lt k hk).1), by omega, ?_⟩
  · by_cases hj : j < ls.length
    · rw [List.getElem?_append_left (by omega)] at hu
      rw [List.getElem?_append_left hj] at hl'
      exact (hus j u l' hu hl').block hne
    · rw [List.getElem?_append_right (by omega)] at hu
      rw [List.getElem?_append_right (by omega)] at hl'
      have hjl := (List.getElem?_eq_some_iff.1 hl').1
      simp at hjl
      rw [show j - us.length = 0 by omega] at hu
      rw [show j - ls.length = 0 by omega] at hl'
      simp only [List.getElem?_cons_zero, Option.some.injEq] at hu hl'
      subst hu; subst hl'
      exact hx.block hne
  · rcases h2.2 with ⟨_, h0⟩ | ⟨g, cap, _, rfl, _⟩
    · omega
    · exact ⟨g, cap, rfl⟩

theorem PartsIn.parts {w : World} {B : Nat} {v : Value} {ls : List (List UInt8)} (h : PartsIn w B v ls) : PartsV w v ls := by
  obtain ⟨us, h, hus⟩ := h
  have hlen := h.1
  rw [Nat.mul_one] at hlen
  have hcell := fun g hg => h.cells (g := g) hg
  rcases h.2 with ⟨rfl, h0⟩ | ⟨g, cap, cur, rfl, hb, hg, hnc, hcm, hcs, _⟩
  · exact ⟨none, 0, by rw [h0], by omega, fun h => by omega⟩
  · refine ⟨_, cap, rfl, hnc, fun h0 => ⟨g, 0, us, rfl, by omega, fun i u hu => hcell g rfl i u hu, fun i u l hu hl => ?_⟩⟩
    obtain ⟨b, c, cs, fr, rfl, h1, h2, h3⟩ := hus i u l hu hl
    refine ⟨some ⟨b, 0, none⟩, c, rfl, (by intro h; cases h), fun a ha j x hx => ?_⟩
    cases ha
    have := h2 j _ (byteCells_get hx)
    rw [Addr.add_lit]; exact this

/-- '[]byte(s)': a new slice, in its block. -/
theorem str_part (w : World) (l : List UInt8) (hl : l.length ≤ 9223372036854775807) :
    ∃ cap W, (convert 9 27 (.string (strOf l))).run Tryd.prog w = .ok (.slice (some ⟨w.heap.size, 0, none⟩) l.length cap) W ∧ PartIn W (.slice (some ⟨w.heap.size, 0, none⟩) l.length cap) l ∧ Below w.heap.size w W ∧ w.heap.size < W.heap.size := by
  have hr := Lib.run_convert_string_bytes (P := Tryd.prog) w 9 27 5 (strOf l) Tryd.under_str Tryd.under_u8s Tryd.under_b8
  rw [strOf_size] at hr
  have hge := grownCap_ge w l.length 0 5
  have hnew := Lib.bytesWorld_at_new w 5 (strOf l)
  refine ⟨_, _, hr, ⟨w.heap.size, _, _, _, rfl, hnew, fun j u hu => ?_, hge⟩, ⟨rfl, rfl, rfl, by rw [Lib.bytesWorld_size]; omega, fun k hk => Lib.bytesWorld_at_old w _ _ k hk⟩, by rw [Lib.bytesWorld_size]; omega⟩
  have hcells : Lib.bytesCells w 5 (strOf l) = (byteCells l).toArray ++ Array.replicate (grownCap w l.length 0 5 - l.length) (.int .u8 0) := by
    unfold Lib.bytesCells
    rw [strOf_size]
    congr 1
    apply Array.ext'
    simp [strOf, byteCells]
  rw [hcells] at hnew
  have hj := (List.getElem?_eq_some_iff.1 hu).1
  rw [byteCells_length] at hj
  simp only [World.cell?, hnew, Nat.zero_add]
  rw [Array.getElem?_append_left (by rw [List.size_toArray, byteCells_length]; exact hj)]
  simpa using hu

theorem range_under {w w' : World} {b o B : Nat} {cs : List Value} (h : w.rangeAt b o cs) (hb : b < B) (hw : Below B w w') : w'.rangeAt b o cs :=
  fun j v hv => (hw.cell (p := ⟨b, _, none⟩) hb).trans (h j v hv)

theorem flat_succ {L : List (List UInt8)} {j : Nat} {l : List UInt8} (h : L[j]? = some l) : (L.take j).flatten ++ l = (L.take (j + 1)).flatten ∧ L.take j ++ [l] = L.take (j + 1) := by
  have e : L.take j ++ [l] = L.take (j + 1) := by rw [List.take_add_one, h]; rfl
  exact ⟨by rw [← e, List.flatten_append, List.flatten_cons, List.flatten_nil, List.append_nil], e⟩

theorem flat_len {L : List (List UInt8)} (h : ∀ l ∈ L, l.length ≤ 200) : L.flatten.length ≤ 200 * L.length := by
  induction L with
  | nil => simp
  | cons a r ih =>
    have h1 := h a (by simp)
    have h2 := ih fun l hl => h l (by simp [hl])
    simp only [List.flatten_cons, List.length_append, List.length_cons]
    omega

set_option maxRecDepth 100000 in
set_option maxHeartbeats 4000000 in
theorem parts_law (w : World) (o : Option Addr) (n cap : Nat) (F : List ByteArray) (hF : RowsAt w o n cap 1 strCell F) (hS : ∀ s ∈ F, s.size ≤ maxLen) (hL : Laid w) :
    Calls Tryd.prog 4 #[.slice o n cap] w fun e w' => e = .returned (.bool true) ∧ Below w.heap.size w w' := by
  have HF := Lib.hid hF
  obtain ⟨hlen, hcap, hm, _⟩ := hF
  unfold maxLen at hm
  have HLEN := Lib.hid hlen; clear hlen
  have HS := Lib.hid hS; clear hS
  have HL := Lib.hid hL; clear hL
  obtain ⟨L, hLd⟩ : ∃ L : List (List UInt8), L = F.map (fun s => s.data.toList) := ⟨_, rfl⟩
  have hLl : L.length = n := by rw [hLd, List.length_map]; exact HLEN.out
  have HLD := Lib.hid hLd; clear hLd
  have HLL := Lib.hid hLl; clear hLl
  go_enter Tryd.func4, Tryd.ntmps4
  go_wp2_with fail
  refine (awake_any w HL.out).mono ?_
  rintro e w1 ⟨rfl, b1⟩
  by_cases h20 : 20 < n
  · have ht : decide ((20 : Int) < (n : Int)) = true := decide_eq_true (by omega)
    go_wp2_with fail
    refine (awake_any w1 (HL.out.below b1)).mono ?_
    rintro e w2 ⟨rfl, b2⟩
    go_wp2_with fail
    go_ret
    exact ⟨rfl, b1.trans (b2.mono b1.size)⟩
  · have ht : decide ((20 : Int) < (n : Int)) = false := decide_eq_false (by omega)
    go_wp2_with fail
    obtain ⟨W, hW⟩ : ∃ W, W = w1.alloc (.cells #[] 27) := ⟨_, rfl⟩
    have x1 : PartsIn W w.heap.size (.slice (some ⟨w1.heap.size, 0, none⟩) 0 0) (L.take 0) := by
      rw [hW]
      exact ⟨[], World.ownsRow_made w1 #[] 0 b1.size (by decide) rfl, fun i u l hu _ => by simp at hu⟩
    have bW : Below w.heap.size w W := by rw [hW]; exact b1.alloc b1.size _
    go_loopw [3, 4, 5] (fun a p i wr => ∃ j q c : Nat, j ≤ n ∧ a = .string (strOf (L.take j).flatten) ∧ p = .slice (some ⟨q, 0, none⟩) j c ∧ i = .int .i64 j ∧ Hid (PartsIn wr w.heap.size p (L.take j)) ∧ Hid (∀ l ∈ L.take j, l.length ≤ 200) ∧ Below w.heap.size w wr) (fun _ _ i _ => n - (intOf i).toNat)
    case atStart => exact ⟨0, w1.heap.size, 0, by omega, rfl, rfl, rfl, Lib.hid (by rw [← hW]; exact x1), Lib.hid (by simp), by rw [← hW]; exact bW⟩
    case round =>
      obtain ⟨j, q, c, hj, rfl, rfl, rfl, xr, hs, Br⟩ := hrel
      clear x1 bW hW b1
      by_cases hlt : j < n
      · obtain ⟨b, off, rfl, hb, hr⟩ := HF.out.2.2.2 (by omega)
        obtain ⟨f, hf⟩ : ∃ f, F[j]? = some f := ⟨_, List.getElem?_eq_getElem (by rw [HLEN.out]; exact hlt)⟩
        obtain ⟨l, hl⟩ : ∃ l, l = f.data.toList := ⟨_, rfl⟩
        have hfl : f = strOf l := by rw [hl, strOf_data]
        have hLj : L[j]? = some l := by rw [HLD.out, List.getElem?_map, hf, hl]; rfl
        have hcell : wr.cell? ⟨b, off + j, none⟩ = some (.string (strOf l)) := by
          have := range_under (hr j f hf) hb Br 0 _ rfl
          rw [← hfl]
          simpa using this
        have hsz := HS.out f (List.mem_of_getElem? hf)
        rw [hfl, strOf_size] at hsz
        unfold maxLen at hsz
        have hst := strOf_size l
        clear hr hf hl hfl
        obtain ⟨hfs, htk⟩ := flat_succ hLj
        have HFS := Lib.hid hfs; clear hfs
        have HTK := Lib.hid htk; clear htk
        by_cases h200 : 200 < l.length
        · have ht2 : decide ((200 : Int) < (l.length : Int)) = true := decide_eq_true (by omega)
          go_wp2_with fail
          go_ret
          exact ⟨rfl, Br⟩
        · have ht2 : decide ((200 : Int) < (l.length : Int)) = false := decide_eq_false (by omega)
          obtain ⟨cp, W2, hcv, hp2, b2, s2⟩ := str_part wr l (by omega)
          have hsz0 : (strOf (L.take j).flatten).size ≤ 200 * n := by
            rw [strOf_size]
            have h1 := flat_len hs.out
            have h2 : (L.take j).length ≤ j := by rw [List.length_take]; omega
            omega
          have hadd := add_str (L.take j).flatten l
          rw [HFS.out] at hadd
          have hjl : (L.take j).length = j := by rw [List.length_take, HLL.out]; omega
          obtain ⟨v3, w3, hap, x3, b3, s3, g3, c3, rfl⟩ := push_part hjl (xr.out.below b2) hp2 (Nat.le_trans Br.size b2.size) (by omega)
          rw [HTK.out] at x3
          have B3 := (Br.trans (b2.mono Br.size)).trans b3
          have hall : ∀ l ∈ L.take (j + 1), l.length ≤ 200 := by
            rw [← HTK.out]
            intro l' hl'
            rcases List.mem_append.1 hl' with h | h
            · exact hs.out l' h
            · obtain rfl := List.mem_singleton.1 h
              omega
          have X3 := Lib.hid x3; clear x3
          have HALL := Lib.hid hall; clear hall
          clear hp2 xr hs b2 b3
          go_wp2_with (at_builtin; refine Lib.wpList_append_run_sl _ rfl _ _ 31 rfl _ _ rfl rfl hap ?_)
          go_roundw
          case rel => exact ⟨j + 1, g3, c3, by omega, rfl, rfl, by go_num, X3, HALL, B3⟩
          case measure => simp [intOf]; omega
      · obtain rfl : j = n := by omega
        have htake : L.take j = L := List.take_of_length_le (by rw [HLL.out]; exact Nat.le_refl _)
        rw [htake] at xr hs ⊢
        have hfl := flat_len hs.out
        rw [HLL.out] at hfl
        have hof := of_any wr _ L xr.out.parts (by rw [HLL.out]; omega) (by omega) (HL.out.below Br)
        obtain ⟨T, hT⟩ : ∃ T, T = L.flatten := ⟨_, rfl⟩
        rw [← hT] at hof hfl ⊢
        have HOF := Lib.hid hof; clear hof
        have hsl := Sha.of_len T
        obtain ⟨S, hS⟩ : ∃ S, S = Sha.of T := ⟨_, rfl⟩
        rw [← hS] at hsl HOF
        have hst := strOf_size T
        go_wp2_with fail
        refine HOF.out.mono ?_
        rintro e w4 ⟨rfl, b4⟩
        have b04 := Br.trans (b4.mono Br.size)
        obtain ⟨cp, W2, hcv, m2, b2, s2, hp⟩ := part_one w4 T (by omega)
        have b02 := b04.trans (b2.mono b04.size)
        obtain ⟨W3, hW3⟩ : ∃ W3, W3 = W2.alloc (.cells #[.slice (some ⟨w4.heap.size, 0, none⟩) T.length cp] 27) := ⟨_, rfl⟩
        rw [← hW3] at hp
        have b03 : Below w.heap.size w W3 := by rw [hW3]; exact b02.alloc b02.size _
        have hof := of_any W3 _ [T] hp (by simp) (by simp; omega) (HL.out.below b03)
        have hff : [T].flatten = T := by simp
        rw [hff, ← hS] at hof
        have HOF2 := Lib.hid hof; clear hof hp m2 b2 s2
        have HW3 := Lib.hid hW3; clear hW3
        clear hS HOF hT
        go_wp2_with fail
        rw [← HW3.out]
        refine HOF2.out.mono ?_
        rintro e w5 ⟨rfl, b5⟩
        go_wp2_with ((with_reducible show wpList _ _ _ (⟨some 47, _, _, _, _, _⟩ :: _) _ _); refine wpList_eql_hash (op := ⟨some 47, _, _, _, _, _⟩) (by kernel_rfl) _ _ rfl S S hsl hsl rfl rfl ?_; rw [beq_self_eq_true])
        go_ret
        exact ⟨rfl, b03.trans (b5.mono b03.size)⟩

end Go.Proofs.YtabkndpilnapfaaDoor
