/- M5, M6, M9, M10, in one text. -/
import Derived.Test.YtgheacegjgaobaaDoorKG6b
import Derived.Test.YtgheacegjgaobaaDoorKG0c
import Derived.Test.YtgheacegjgaobaaDoorKG6a
import Derived.Stop.BytesEq
/- The walk of the function that many.Prove hands to many.parts. -/
namespace Go.Proofs.YtgheacegjgaobaaDoor
open Go.RowKit
set_option linter.unusedSimpArgs false
set_option linter.unusedVariables false

/-- One sum more in a row of one's own: where it lies then. -/
theorem hashes_push {w : World} {base g : Nat} {v : Value} {d : List (List UInt8)} {h : List UInt8} (hown : w.ownsRow base 23 32 v d.length (hashCells d)) (hd : d.length ≤ 1000000) (hh : h.length = 32) (hg : w.heap[g]? = some (.cells (byteCells h).toArray 23 (0, 0))) (hB : base ≤ w.heap.size) :
    ∃ q c w', (Builtin.append_ #[27, 27] 27 #[v, .slice (some ⟨g, 0, none⟩) 1 1]).run Tryd.prog w = .ok (.slice q (d.length + 1) c) w' ∧ w'.ownsRow base 23 32 (.slice q (d.length + 1) c) (d.length + 1) (hashCells (d ++ [h])) ∧ w.grownBy w' v.ownBlock ∧ ∀ k, (Value.slice q (d.length + 1) c).ownBlock = some k → v.ownBlock = some k ∨ w.heap.size ≤ k := by
  obtain ⟨i, hi, hz0, hz1, hz2⟩ := info_parts Tryd.info_hs
  have hbl : (byteCells h).length = 1 * 32 := by rw [byteCells_length, hh]
  obtain ⟨v', w', h1, h2, h3, -⟩ := run_append_own (P := Tryd.prog) w base 27 27 23 i (.agg zero32) 32 32 Tryd.under_hs hi hz0 hz1 hz2 zero32_size (by decide) v d.length _ hown ⟨g, 0, none⟩ 1 1 (byteCells h) hbl (cells_row_at hg) (byteCells_one h) (by unfold maxLen; omega) (by omega) hB
  obtain ⟨q, c, rfl⟩ : ∃ a c, v' = .slice a (d.length + 1) c := by
    rcases h2.2 with ⟨_, h0⟩ | ⟨g', cap, cur, hv, _⟩
    · omega
    · exact ⟨_, _, hv⟩
  refine ⟨q, c, w', h1, by rw [hashCells_app, hashCells_one]; exact h2, h3, fun k hk => ?_⟩
  rcases hown.2 with ⟨rfl, h0⟩ | ⟨g', cap, cur, rfl, hbg, hgg, hnc, hcm, hcs, htk⟩
  · have hr := run_append_nil (P := Tryd.prog) w 27 27 23 i (.agg zero32) Tryd.under_hs hi hz0 ⟨g, 0, none⟩ 1 1 (byteCells h) (by rw [hz1]; exact hbl) (cells_row_at hg) (by decide) (by decide) (by rw [hz2]; decide)
    rw [h1] at hr
    injection hr with e1 e2
    rw [e1] at hk
    simp [Value.ownBlock] at hk
    right; omega
  · by_cases hroom : d.length + 1 ≤ cap
    · have hr := run_append_room (P := Tryd.prog) w 27 27 23 i Tryd.under_hs hi g' d.length cap cur hgg ⟨g, 0, none⟩ 1 1 (byteCells h) (by rw [hz1]; exact hbl) (cells_row_at hg) (byteCells_one h) hroom (by rw [hz1, hbl, hcs]; omega)
      rw [h1] at hr
      injection hr with e1 e2
      rw [e1] at hk
      left; exact hk
    · obtain ⟨v2, w2, hr, ho2, _⟩ := run_append_arg_grows (P := Tryd.prog) w 27 27 23 i (.agg zero32) 32 32 Tryd.under_hs hi hz0 hz1 hz2 zero32_size (by decide) ⟨g', 0, none⟩ d.length cap (hashCells d) hown.1 (hown.cells (g := g') rfl) ⟨g, 0, none⟩ 1 1 (byteCells h) hbl (cells_row_at hg) (by omega) (by unfold maxLen; omega) (by omega)
      rw [h1] at hr
      injection hr with e1 e2
      subst e1
      subst e2
      right; exact (ho2.lt k hk).1

theorem strs_part {w : World} {o : Option Addr} {m c f n : Nat} {L : List (List UInt8)} (h : StrsAt w o m c L) (hn : n = 0) (q : Option Addr) (c' : Nat) (hc : c' ≤ 9223372036854775807) : StrsAt w q n c' ((L.drop f).take n) := by
  subst hn
  rw [List.take_zero]
  exact ⟨rfl, Nat.zero_le _, hc, fun h => absurd h (by decide)⟩

/-- What the region's operations leave. -/
def pnV (w00 : World) (p q b6 f n m c : Nat) (o : Option Addr) (vo : Value) (L : List (List UInt8)) (S : List UInt8) (ix : Nat) (w : World) (v : Value) : Prop :=
  match ix with
  | 0 => v = vo
  | 1 => v = .slice o m c
  | 2 => v = .int .i64 (f : Int)
  | 3 => v = .int .i64 (f : Int)
  | 4 => v = .int .i64 (n : Int)
  | 5 => v = .int .i64 (((f + n : Nat) : Int))
  | 6 => ∃ (qq : Option Addr) (cc : Nat), v = .slice qq n cc ∧ StrsAt w00 qq n cc ((L.drop f).take n)
  | 7 => v = .agg (byteCells S).toArray
  | 8 => ∃ g, v = .slice (some ⟨g, 0, none⟩) 1 1 ∧ w.heap[g]? = some (.cells (byteCells S).toArray 23 (0, 0))
  | _ => True

theorem pnV_mono (w00 : World) (p q b6 f n m c : Nat) (o : Option Addr) (vo : Value) (L : List (List UInt8)) (S : List UInt8) (jx : Nat) (w w' : World) (v : Value) (hb : Below w.heap.size w w') (h : pnV w00 p q b6 f n m c o vo L S jx w v) : pnV w00 p q b6 f n m c o vo L S jx w' v := by
  match jx, h with
  | 0, h => exact h
  | 1, h => exact h
  | 2, h => exact h
  | 3, h => exact h
  | 4, h => exact h
  | 5, h => exact h
  | 6, h => exact h
  | 7, h => exact h
  | 8, h => exact (let ⟨g, h1, h2⟩ := h; ⟨g, h1, (hb.block g (lt_of_block h2)).trans h2⟩)
  | _ + 9, h => exact trivial


set_option maxRecDepth 100000 in
set_option maxHeartbeats 4000000 in
theorem proveNone_any (w00 w : World) (hL : Laid w00) (hb : Below w00.heap.size w00 w) (p q : Nat) (o : Option Addr) (m c : Nat) (L : List (List UInt8)) (hS : StrsAt w00 o m c L) (hlen : ∀ l ∈ L, l.length ≤ 100000) (hm : m ≤ 100000) (d : List (List UInt8)) (vo : Value)
    (hv : w.heap[p]? = some (.cells #[vo] 27 (0, 0))) (hown : w.ownsRow w00.heap.size 23 32 vo d.length (hashCells d)) (hq : w.heap[q]? = some (.cells #[.slice o m c] 24 (0, 0))) (hd : d.length ≤ 900000) (f n : Nat) (hfn : f + n ≤ m) (hn : 1 ≤ n ∨ m = 0) :
    Calls Tryd.prog 33 #[.int .i64 (f : Int), .int .i64 (n : Int), .pointer (some ⟨p, 0, none⟩), .pointer (some ⟨q, 0, none⟩)] w fun x w' => x = .returned (.agg (byteCells zeroS).toArray) ∧ ∃ v', w'.heap[p]? = some (.cells #[v'] 27 (0, 0)) ∧ w'.ownsRow w00.heap.size 23 32 v' (d.length + 1) (hashCells (d ++ [Tree.top ((L.drop f).take n)])) ∧
      (w'.os = w.os ∧ w'.tape = w.tape ∧ w'.output = w.output ∧ w.heap.size ≤ w'.heap.size) ∧ (∀ k, k < w.heap.size → k ≠ p → some k ≠ vo.ownBlock → w'.heap[k]? = w.heap[k]?) ∧ ∀ k, v'.ownBlock = some k → vo.ownBlock = some k ∨ w.heap.size ≤ k := by
  obtain ⟨W1, hW1⟩ : ∃ W1, W1 = w.alloc (.cells zero32 23) := ⟨_, rfl⟩
  have b1 : Below w.heap.size w W1 := by rw [hW1]; exact (Below.refl _ _).alloc (Nat.le_refl _) _
  have x6 : W1.heap[w.heap.size]? = some (.cells zero32 23 (0, 0)) := by rw [hW1]; exact heap_alloc_new w _
  have hpl := lt_of_block hv
  have hnp : some p ≠ vo.ownBlock := fun e => by
    rcases hown.2 with ⟨rfl, _⟩ | ⟨g, cap, cur, rfl, _, hgg, _⟩
    · cases e
    · simp only [Value.ownBlock, Option.some.injEq] at e
      subst e
      rw [hv] at hgg
      simp at hgg
  have hn6 : some w.heap.size ≠ vo.ownBlock := fun e => by have := (hown.lt _ e.symm).2; omega
  obtain ⟨S, hSe⟩ : ∃ S, S = Tree.top ((L.drop f).take n) := ⟨_, rfl⟩
  have hSl : S.length = 32 := by rw [hSe]; exact Tree.top_len _
  rw [← hSe]
  have XP := Lib.hid ((b1.block _ hpl).trans hv)
  have XQ := Lib.hid ((b1.block _ (lt_of_block hq)).trans hq)
  have HO := Lib.hid (ownsRow_below hown fun k hk => b1.block k (hown.lt k hk).2)
  have X6 := Lib.hid x6; clear x6
  have HB0 := Lib.hid (hb.trans (b1.mono hb.size))
  have HB1 := Lib.hid b1; clear b1
  have HNP := Lib.hid hnp; clear hnp
  have HN6 := Lib.hid hn6; clear hn6
  have HPW : Hid (w.heap.size ≠ p) := Lib.hid (by omega)
  have HSE := Lib.hid hSe; clear hSe
  have HSL := Lib.hid hSl; clear hSl
  have hcap := hS.cap
  have hmax := hS.max
  have HS := Lib.hid hS; clear hS
  have HL := Lib.hid hL; clear hL
  have HLT : Hid (∀ l ∈ (L.drop f).take n, l.length ≤ 100000) := Lib.hid fun l hl => hlen l (List.mem_of_mem_drop (List.mem_of_mem_take hl))
  have HNN : Hid (f + n ≤ m ∧ (1 ≤ n ∨ m = 0) ∧ m ≤ c ∧ c ≤ 9223372036854775807 ∧ n ≤ 500000) := Lib.hid ⟨hfn, hn, hcap, hmax, by omega⟩
  have HZ := Lib.hid zeroS_len
  have HW1 := Lib.hid hW1; clear hW1
  clear hv hown hq hlen hb
  go_enter Tryd.func33, Tryd.ntmps33
  go_wp2_with fail
  change Code.wp _ _ _ _ (World.alloc w (.cells zero32 23))
  rw [← HW1.out]
  refine wp_region_rel_tail [[], [], [], [], [], [3, 4], [1, 2, 5], [6], [7], [0, 8], [9]] (pnV w00 p q w.heap.size f n m c o vo L S) 18 9 (by kernel_rfl) (by kernel_rfl) (by kernel_rfl) (by kernel_rfl) (of_decide_eq_true (by kernel_rfl)) (pnV_mono w00 p q w.heap.size f n m c o vo L S) ?_ ?_
  · intro ix op him hi w2 b2 vs hv
    have hL2 := HL.out.below (HB0.out.trans (b2.mono HB0.out.size))
    obtain ⟨hn1, hn2, hn3, hn4, hn5⟩ := HNN.out
    match ix, him, hi with
    | 0, _, hi =>
      obtain rfl := Option.some.inj hi
      have hcv := cell_of_one ((b2.block _ (lt_of_block XP.out)).trans XP.out)
      simp only [relF, List.getD_cons_zero, List.getD_cons_succ, List.foldl_cons, List.foldl_nil, dstAt, List.getElem?_cons_zero, List.getElem?_cons_succ, Option.bind_some]
      go_wp2_with fail
      exact ⟨rfl, Below.refl _ _, rfl, rfl⟩
    | 1, _, hi =>
      obtain rfl := Option.some.inj hi
      have hcv := cell_of_one ((b2.block _ (lt_of_block XQ.out)).trans XQ.out)
      simp only [relF, List.getD_cons_zero, List.getD_cons_succ, List.foldl_cons, List.foldl_nil, dstAt, List.getElem?_cons_zero, List.getElem?_cons_succ, Option.bind_some]
      go_wp2_with fail
      exact ⟨rfl, Below.refl _ _, rfl, rfl⟩
    | 2, _, hi =>
      obtain rfl := Option.some.inj hi
      simp only [relF, List.getD_cons_zero, List.getD_cons_succ, List.foldl_cons, List.foldl_nil, dstAt, List.getElem?_cons_zero, List.getElem?_cons_succ, Option.bind_some]
      go_wp2_with fail
      exact ⟨rfl, Below.refl _ _, rfl, rfl⟩
    | 3, _, hi =>
      obtain rfl := Option.some.inj hi
      simp only [relF, List.getD_cons_zero, List.getD_cons_succ, List.foldl_cons, List.foldl_nil, dstAt, List.getElem?_cons_zero, List.getElem?_cons_succ, Option.bind_some]
      go_wp2_with fail
      exact ⟨rfl, Below.refl _ _, rfl, rfl⟩
    | 4, _, hi =>
      obtain rfl := Option.some.inj hi
      simp only [relF, List.getD_cons_zero, List.getD_cons_succ, List.foldl_cons, List.foldl_nil, dstAt, List.getElem?_cons_zero, List.getElem?_cons_succ, Option.bind_some]
      go_wp2_with fail
      exact ⟨rfl, Below.refl _ _, rfl, rfl⟩
    | 5, _, hi =>
      obtain rfl := Option.some.inj hi
      have h3 : vs 3 = _ := hv 3 (by decide)
      have h4 : vs 4 = _ := hv 4 (by decide)
      simp only [relF, List.getD_cons_zero, List.getD_cons_succ, List.foldl_cons, List.foldl_nil, dstAt, List.getElem?_cons_zero, List.getElem?_cons_succ, Option.bind_some]
      go_frame
      rw [h3, h4]
      go_wp2_with fail
      exact ⟨rfl, Below.refl _ _, rfl, by first | rfl | (show slotOf _ _ = _; simp [slotOf]; done) | (show slotOf _ _ = _; simp [slotOf]; omega)⟩
    | 6, _, hi =>
      obtain rfl := Option.some.inj hi
      have h1 : vs 1 = _ := hv 1 (by decide)
      have h2 : vs 2 = _ := hv 2 (by decide)
      have h5 : vs 5 = _ := hv 5 (by decide)
      simp only [relF, List.getD_cons_zero, List.getD_cons_succ, List.foldl_cons, List.foldl_nil, dstAt, List.getElem?_cons_zero, List.getElem?_cons_succ, Option.bind_some]
      go_frame
      rw [h1, h2, h5]
      by_cases hn0 : n = 0
      · obtain rfl : m = 0 := by omega
        obtain rfl : f = 0 := by omega
        subst hn0
        rcases o with _ | a
        · by_cases hc0 : c = 0
          · subst hc0
            go_wp2_with fail
            exact ⟨rfl, Below.refl _ _, rfl, _, _, by first | rfl | (show slotOf _ _ = _; simp [slotOf]; rfl), strs_part HS.out rfl _ _ (by omega)⟩
          · have hcb : (c == 0) = false := by rw [beq_eq_false_iff_ne]; exact hc0
            go_wp2_with fail
            exact ⟨rfl, Below.refl _ _, rfl, _, _, by first | rfl | (show slotOf _ _ = _; simp [slotOf]; rfl), strs_part HS.out rfl _ _ (by omega)⟩
        · by_cases hc0 : c = 0
          · subst hc0
            go_wp2_with fail
            exact ⟨rfl, Below.refl _ _, rfl, _, _, by first | rfl | (show slotOf _ _ = _; simp [slotOf]; rfl), strs_part HS.out rfl _ _ (by omega)⟩
          · have hcb : (c == 0) = false := by rw [beq_eq_false_iff_ne]; exact hc0
            go_wp2_with fail
            exact ⟨rfl, Below.refl _ _, rfl, _, _, by first | rfl | (show slotOf _ _ = _; simp [slotOf]; rfl), strs_part HS.out rfl _ _ (by omega)⟩
      · obtain ⟨b, off, rfl⟩ := HS.out.form (by omega)
        have hcf : (c == f) = false := by rw [beq_eq_false_iff_ne]; omega
        have hcf' : ((c : Int) == (f : Int)) = false := by rw [beq_eq_false_iff_ne]; omega
        have hcne : ¬ c = f := by omega
        have hsub : f + n - f = n := by omega
        go_wp2_with fail
        exact ⟨rfl, Below.refl _ _, rfl, some ⟨b, off + f, none⟩, c - f, by first | rfl | (show slotOf _ _ = _; simp [slotOf]; done) | (show slotOf _ _ = _; simp [slotOf]; omega), (HS.out.drop f (by omega)).take n (c - f) (by omega) (by omega) (by omega)⟩
    | 7, _, hi =>
      obtain rfl := Option.some.inj hi
      obtain ⟨qq6, cc6, e6, k6⟩ := hv 6 (by decide)
      have htc := treeTop_any n w2 _ _ _ ((L.drop f).take n) rfl (k6.below (Nat.le_refl _) (HB0.out.trans (b2.mono HB0.out.size))) (by omega) HLT.out hL2
      rw [← HSE.out] at htc
      simp only [relF, List.getD_cons_zero, List.getD_cons_succ, List.foldl_cons, List.foldl_nil, dstAt, List.getElem?_cons_zero, List.getElem?_cons_succ, Option.bind_some]
      go_frame
      rw [e6]
      go_wp2_with fail
      refine (htc).mono ?_
      rintro e w3 ⟨rfl, b3⟩
      go_wp2_with fail
      exact ⟨rfl, b3, rfl, rfl⟩
    | 8, _, hi =>
      obtain rfl := Option.some.inj hi
      have h7 : vs 7 = _ := hv 7 (by decide)
      have hbc : (byteCells S).length = 32 := by rw [byteCells_length, HSL.out]
      simp only [relF, List.getD_cons_zero, List.getD_cons_succ, List.foldl_cons, List.foldl_nil, dstAt, List.getElem?_cons_zero, List.getElem?_cons_succ, Option.bind_some]
      go_frame
      rw [h7]
      go_wp2_with fail
      exact ⟨rfl, (Below.refl _ _).alloc (Nat.le_refl _) _, rfl, w2.heap.size, rfl, alloc_built w2 hbc⟩
    | nx + 9, him, _ => exact absurd him (by omega)
  · intro w2 b2 vs hv
    have hL2 := HL.out.below (HB0.out.trans (b2.mono HB0.out.size))
    obtain ⟨hn1, hn2, hn3, hn4, hn5⟩ := HNN.out
    have h0 : vs 0 = _ := hv 0 (by decide)
    obtain ⟨g8, e8, s8⟩ := hv 8 (by decide)
    simp only [relF, List.drop_succ_cons, List.drop_zero, List.length_cons, List.length_nil, Nat.zero_add, Nat.reduceAdd, List.range, List.range.loop, List.foldl_cons, List.foldl_nil, dstAt, List.getElem?_cons_zero, List.getElem?_cons_succ, Option.bind_some]
    go_frame
    rw [h0, e8]
    have own2 := ownsRow_below HO.out fun k hk => b2.block k (HO.out.lt k hk).2
    obtain ⟨q', c', w5, hrun, hown5, hgr5, hft5⟩ := hashes_push own2 (by omega) HSL.out s8 (by have := HB0.out.size; have := b2.size; omega)
    have xp2 := (b2.block _ (lt_of_block XP.out)).trans XP.out
    have xp5 : w5.heap[p]? = some (.cells #[vo] 27 (0, 0)) := (hgr5.block p (lt_of_block xp2) HNP.out).trans xp2
    have x62 := (b2.block _ (lt_of_block X6.out)).trans X6.out
    have x65 : w5.heap[w.heap.size]? = some (.cells zero32 23 (0, 0)) := (hgr5.block _ (lt_of_block x62) (HN6.out)).trans x62
    have hc5 := cell_of_one xp5
    have hf5 := free_of_one xp5
    obtain ⟨W6, hW6⟩ : ∃ W6, W6 = w5.setCell ⟨p, 0, none⟩ (.slice q' (d.length + 1) c') := ⟨_, rfl⟩
    have x66 : W6.heap[w.heap.size]? = some (.cells zero32 23 (0, 0)) := by rw [hW6, Below.heap_setCell _ _ _ _ (by simp only; exact HPW.out)]; exact x65
    have xp6 : W6.heap[p]? = some (.cells #[.slice q' (d.length + 1) c'] 27 (0, 0)) := by rw [hW6, one_setCell xp5]
    have own6 := ownsRow_below (w' := W6) hown5 fun k hk => by rw [hW6]; exact Below.heap_setCell _ _ _ _ (fun e => by
      have e' : p = k := (show k = p from e).symm
      subst e'
      rcases hft5 p hk with h1 | h1
      · exact HNP.out h1.symm
      · have := lt_of_block xp2; omega)
    have hblk : ∀ k, k < w.heap.size → k ≠ p → some k ≠ vo.ownBlock → W6.heap[k]? = w.heap[k]? := fun k hk h1 h2 => by
      have hkW : k < W1.heap.size := by have := HB1.out.size; omega
      rw [hW6, Below.heap_setCell _ _ _ _ (by simp only; omega), hgr5.block k (by have := b2.size; omega) h2, b2.block k hkW, HB1.out.block k hk]
    have hsz6 : w.heap.size < W6.heap.size := by rw [hW6]; have := hgr5.size; have := b2.size; have := HB1.out.size; have := lt_of_block X6.out; simp; omega
    have hos6 : W6.os = w.os ∧ W6.tape = w.tape ∧ W6.output = w.output := by
      rw [hW6]
      exact ⟨hgr5.os.trans (b2.os.trans HB1.out.os), hgr5.tape.trans (b2.tape.trans HB1.out.tape), hgr5.output.trans (b2.output.trans HB1.out.output)⟩
    have HW6 := Lib.hid hW6; clear hW6
    have X66 := Lib.hid x66; clear x66 x65 x62
    have XP6 := Lib.hid xp6; clear xp6 xp5 xp2
    have OWN6 := Lib.hid own6; clear own6 own2 hown5
    have HBK := Lib.hid hblk; clear hblk hgr5
    have HOS := Lib.hid hos6; clear hos6
    have HFT := Lib.hid hft5; clear hft5
    clear s8
    go_wp2_with (first | ((with_reducible show wpList _ _ _ (⟨some 16, _, _, _, _, _⟩ :: _) _ _); refine wpList_append_ran (by kernel_rfl) _ _ _ rfl _ _ rfl rfl hrun ?_) | ((with_reducible show wpList _ _ _ (⟨some 17, _, _, _, _, _⟩ :: _) _ _); change wpList _ _ _ _ _ (World.setCell w5 ⟨p, 0, none⟩ (.slice q' (d.length + 1) c')); rw [← HW6.out]) | ((with_reducible show wpList _ _ _ (⟨some 17, _, _, _, _, _⟩ :: _) _ _); refine wpList_zero_hash (op := ⟨some 17, _, _, _, _, _⟩) (by kernel_rfl) rfl ?_) | ((with_reducible show wpList _ _ _ (⟨none, .store 23 (.tmp 6) (.tmp 17), _, _, _, _⟩ :: _) _ _); refine wpList_put_hash (o := ⟨none, .store _ _ _, _, _, _, _⟩) rfl _ _ rfl w.heap.size rfl zeroS HZ.out rfl _ _ X66.out zero32_size ?_))
    refine bodyPost_ret (results_hash rfl _ _ _ _ _ _ rfl HZ.out (hset_heap _ X66.out)) rfl ⟨rfl, .slice q' (d.length + 1) c', ?_, ?_, ?_, ?_, ?_⟩
    · rw [hset_other _ (fun e => HPW.out e.symm)]; exact XP6.out
    · refine ownsRow_below OWN6.out fun k hk => hset_other _ (fun e => ?_)
      rcases HFT.out k hk with h1 | h1
      · exact HN6.out (by rw [← e, h1])
      · have := HB1.out.size; have := lt_of_block X6.out; have := b2.size; omega
    · exact ⟨HOS.out.1, HOS.out.2.1, HOS.out.2.2, by rw [hset_size]; omega⟩
    · intro k hk h1 h2
      rw [hset_other _ (by omega)]; exact HBK.out k hk h1 h2
    · intro k hk
      rcases HFT.out k hk with h1 | h1
      · exact .inl h1
      · right; have := HB1.out.size; have := b2.size; omega
end Go.Proofs.YtgheacegjgaobaaDoor

/- The walks of many.Size, Prove. -/
namespace Go.Proofs.YtgheacegjgaobaaDoor
open Go.RowKit
set_option linter.unusedSimpArgs false
set_option linter.unusedVariables false

/-- Places that rise, as they came: natural numbers. -/
theorem rises_form {n : Int} {A : List Int} (h : risesB n A = true) : ∃ B : List Nat, A = B.map Int.ofNat ∧ B.Pairwise (· < ·) ∧ ∀ a ∈ B, (a : Int) < n := by
  obtain ⟨B, h1, h2, h3⟩ := Many.rises_nat (Int.le_refl _) h
  exact ⟨B, h1, h2, fun a ha => (h3 a ha).1⟩
theorem rises_intro {n : Int} {B : List Nat} (h1 : B.Pairwise (· < ·)) (h2 : ∀ a ∈ B, (a : Int) < n) : risesB n (B.map Int.ofNat) = true :=
  Many.rises_of h1 fun a ha => ⟨h2 a ha, by omega⟩

theorem inr_whole {n : Nat} {B : List Nat} (h : ∀ a ∈ B, a < n) : Many.inr B 0 (0 + n) = B := by rw [Nat.zero_add]; exact Many.inr_all h

theorem tops_small {B : List Nat} {n : Nat} (hn : n ≤ 65536) : (Many.tops B 0 n).length ≤ 100000 := by
  have := (Many.tops_len B n 0).1
  omega

/-- Is it refused? -/
def sizeBad (n : Int) (A : List Int) : Bool := decide (n < 0) || (decide (65536 < n) || !risesB n A)

/-- What the counter is while many.Size goes on. -/
def SizeK (p : Nat) (D : List (Nat × Nat)) (j : Nat) (w : World) : Prop := w.heap[p]? = some (.cells #[.int .i64 (D.length : Int)] 3 (0, 0))

theorem stp_but {Foot : World → Nat → Prop} {p : Nat} {w w' : World} (hF : ∀ w k, k = p → Foot w k) (hF2 : ∀ k, Foot w' k → Foot w k) (h : BelowBut w.heap.size p w w') : Stp Foot w w' :=
  ⟨h.os, h.tape, h.output, h.size, fun k hk hf => h.block k hk (fun e => hf (hF w k e)), fun k hk => .inl (hF2 k hk)⟩

theorem sizeClo (w00 : World) (N M p : Nat) (hp : w00.heap.size ≤ p) : Clo 48 49 #[.pointer (some ⟨p, 0, none⟩)] #[] w00 N 1000000 M (SizeK p) (fun _ k => k = p) (fun _ _ _ => zeroS) (fun _ _ => zeroS) where
  keep := fun D j w w' hK hs hk => ⟨(hk p rfl).trans hK, fun k h => h⟩
  bound := fun D j w k hK hk => by subst hk; exact ⟨hp, lt_of_block hK⟩
  cfn := Tryd.callSize1
  cfo := Tryd.callSize2
  none := fun D j f n w hK hB hT hN _ => (sizeNone_any w p D.length hK (by omega) f n).mono fun x w' ⟨h1, h2, h3⟩ => ⟨h1, by unfold SizeK; rw [List.length_append]; exact h2, stp_but (fun _ _ e => e) (fun _ h => h) h3⟩
  one := fun D j f w hK hB hM hN => (sizeOne_any w f).mono fun x w' ⟨h1, h2⟩ => ⟨h1, (h2.block p (lt_of_block hK)).trans hK, ⟨h2.os, h2.tape, h2.output, h2.size, fun k hk _ => h2.block k hk, fun k hk => .inl hk⟩⟩
  lenN := fun _ _ _ => zeroS_len
  lenO := fun _ _ => zeroS_len

set_option maxRecDepth 100000 in
set_option maxHeartbeats 1000000 in
theorem manySize_bad (w : World) (n : Int) (o : Option Addr) (m c : Nat) (A : List Int) (hA : IntsAt w o m c A) (h : sizeBad n A = true) :
    Calls Tryd.prog 19 #[.int .i64 n, .slice o m c] w fun e w' => e = .returned (.int .i64 0) ∧ Below w.heap.size w w' := by
  have hr := manyRises_any w n o m c A hA
  have HR := Lib.hid hr; clear hr hA
  unfold sizeBad at h
  rcases h1 : decide (n < 0) with _ | _
  · rcases h2 : decide (65536 < n) with _ | _
    · have h3 : risesB n A = false := by rw [h1, h2] at h; simpa using h
      have hr := HR.out
      rw [h3] at hr
      have HR2 := Lib.hid hr; clear hr HR h3 h
      go_enter Tryd.func19, Tryd.ntmps19
      go_wp2_with fail
      refine HR2.out.mono ?_
      rintro e w1 ⟨rfl, b1⟩
      go_wp2_with fail
      go_ret
      exact ⟨rfl, b1⟩
    · clear h HR
      go_enter Tryd.func19, Tryd.ntmps19
      go_wp2_with fail
      go_ret
      exact ⟨rfl, Below.refl _ _⟩
  · clear h HR
    go_enter Tryd.func19, Tryd.ntmps19
    go_wp2_with fail
    go_ret
    exact ⟨rfl, Below.refl _ _⟩

set_option maxRecDepth 100000 in
set_option maxHeartbeats 2000000 in
theorem manySize_any (w : World) (n : Nat) (hn : n ≤ 65536) (o : Option Addr) (m c : Nat) (B : List Nat) (hA : IntsAt w o m c (B.map Int.ofNat)) (hm : m ≤ 1000000) (hB : B.Pairwise (· < ·)) (hBn : ∀ a ∈ B, a < n) (hL : Laid w) :
    Calls Tryd.prog 19 #[.int .i64 (n : Int), .slice o m c] w fun e w' => e = .returned (.int .i64 ((Many.tops B 0 n).length : Int)) ∧ Below w.heap.size w w' := by
  have hmf : ∀ (fn : Fn) (first cap : Array Value) (w : World), (Instr.makeFunc fn first cap).run Tryd.prog w = .ok (.func fn first cap) w := fun _ _ _ _ => rfl
  have hr := manyRises_any w n o m c _ hA
  rw [rises_intro hB (fun a ha => by have := hBn a ha; omega)] at hr
  have HR := Lib.hid hr; clear hr
  have hlen := hA.len
  rw [List.length_map] at hlen
  have hT := tops_small (B := B) hn
  have HA := Lib.hid hA; clear hA
  have HL := Lib.hid hL; clear hL
  have hpc := fun (w1 w2 : World) (b1 : Below w.heap.size w w1) (hK : SizeK w1.heap.size [] 0 w2) (b2 : Below w1.heap.size w1 w2) =>
    parts_any (sizeClo w1 n 1000000 w1.heap.size (Nat.le_refl _)) (HL.out.below b1) B hB (by omega) (Nat.le_refl _) n 0 [] 0 o m c w2 hK b2 (by rw [inr_whole hBn]; exact HA.out.below (Nat.le_refl _) b1) (by omega) (by simp; omega) (by rw [inr_whole hBn]; omega) (by omega)
  simp only [List.nil_append] at hpc
  have HPC := Lib.hid hpc; clear hpc
  clear hB hBn
  have t1 : decide ((n : Int) < 0) = false := decide_eq_false (by omega)
  have t2 : decide ((65536 : Int) < (n : Int)) = false := decide_eq_false (by omega)
  have t2' : decide (65536 < n) = false := decide_eq_false (by omega)
  go_enter Tryd.func19, Tryd.ntmps19
  go_wp2_with fail
  refine HR.out.mono ?_
  rintro e w1 ⟨rfl, b1⟩
  clear HR
  go_wp2_with fail
  refine (HPC.out w1 _ b1 ?_ ?_).mono ?_
  · exact heap_alloc_new w1 _
  · exact (Below.refl _ _).alloc (Nat.le_refl _) _
  rintro e w2 ⟨rfl, hK, hS⟩
  have hcell := cell_of_one (show w2.heap[w1.heap.size]? = some (.cells #[.int .i64 ((Many.tops B 0 n).length : Int)] 3 (0, 0)) from hK)
  have b2 : Below w1.heap.size w1 w2 := ⟨hS.os, hS.tape, hS.output, by have := hS.size; simp at this; omega, fun k hk => by
    rw [hS.block k (by simp; omega) (by omega)]; exact Below.heap_alloc _ _ _ hk⟩
  clear hK hS HPC
  go_wp2_with fail
  go_ret
  exact ⟨rfl, b1.trans (b2.mono b1.size)⟩

/-- What many.Prove keeps while it goes on: the sums so far, the leaves. -/
def ProveK (w00 : World) (p q : Nat) (o : Option Addr) (m c : Nat) (L : List (List UInt8)) (D : List (Nat × Nat)) (j : Nat) (w : World) : Prop :=
  (∃ v, w.heap[p]? = some (.cells #[v] 27 (0, 0)) ∧ w.ownsRow w00.heap.size 23 32 v D.length (hashCells (D.map fun x => Tree.top ((L.drop x.1).take x.2)))) ∧ w.heap[q]? = some (.cells #[.slice o m c] 24 (0, 0))

/-- What is its own. -/
def ProveF (p q : Nat) (w : World) (k : Nat) : Prop := k = p ∨ k = q ∨ ∃ v, w.heap[p]? = some (.cells #[v] 27 (0, 0)) ∧ v.ownBlock = some k

theorem one_inj {w : World} {p : Nat} {v v' : Value} {t : TypeId} {fr : Nat × Nat} (h : w.heap[p]? = some (.cells #[v] t fr)) (h' : w.heap[p]? = some (.cells #[v'] t fr)) : v = v' := by
  rw [h] at h'
  simpa using h'

theorem proveClo (w00 : World) (p q m c : Nat) (o : Option Addr) (L : List (List UInt8)) (hp : w00.heap.size ≤ p) (hq : w00.heap.size ≤ q) (hpq : p ≠ q) (hL : Laid w00) (hS : StrsAt w00 o m c L) (hlen : ∀ l ∈ L, l.length ≤ 100000) (hm : m ≤ 100000) (M : Nat) :
    Clo 33 35 #[.pointer (some ⟨p, 0, none⟩), .pointer (some ⟨q, 0, none⟩)] #[] w00 m 900000 M (ProveK w00 p q o m c L) (ProveF p q) (fun _ _ _ => zeroS) (fun _ _ => zeroS) where
  keep := fun D j w w' ⟨⟨v, h1, h2⟩, h3⟩ hs hk => by
    have e1 := hk p (.inl rfl)
    refine ⟨⟨⟨v, e1.trans h1, ownsRow_below h2 fun k hk' => hk k (.inr (.inr ⟨v, h1, hk'⟩))⟩, (hk q (.inr (.inl rfl))).trans h3⟩, fun k hf => ?_⟩
    rcases hf with h | h | ⟨v', h4, h5⟩
    · exact .inl h
    · exact .inr (.inl h)
    · exact .inr (.inr ⟨v', e1.symm.trans h4, h5⟩)
  bound := fun D j w k ⟨⟨v, h1, h2⟩, h3⟩ hf => by
    rcases hf with rfl | rfl | ⟨v', h4, h5⟩
    · exact ⟨hp, lt_of_block h1⟩
    · exact ⟨hq, lt_of_block h3⟩
    · obtain rfl := one_inj h1 h4
      exact h2.lt k h5
  cfn := Tryd.callProve1
  cfo := Tryd.callProve2
  none := fun D j f n w ⟨⟨v, h1, h2⟩, h3⟩ hB hT hN hn => by
    have h2' : w.ownsRow w00.heap.size 23 32 v (D.map fun x => Tree.top ((L.drop x.1).take x.2)).length (hashCells (D.map fun x => Tree.top ((L.drop x.1).take x.2))) := by rw [List.length_map]; exact h2
    refine (proveNone_any w00 w hL hB p q o m c L hS hlen hm _ v h1 h2' h3 (by rw [List.length_map]; omega) f n hN hn).mono fun x w' ⟨g1, v', g2, g3, ⟨g4, g5, g6, g7⟩, g8, g9⟩ => ?_
    have hqv : some q ≠ v.ownBlock := fun e => by
      rcases h2.2 with ⟨rfl, _⟩ | ⟨g, cap, cur, rfl, _, hgg, _⟩
      · cases e
      · simp only [Value.ownBlock, Option.some.injEq] at e
        subst e
        rw [h3] at hgg
        simp at hgg
    refine ⟨g1, ⟨⟨v', g2, ?_⟩, (g8 q (lt_of_block h3) (fun e => hpq e.symm) hqv).trans h3⟩, ⟨g4, g5, g6, g7, fun k hk hf => g8 k hk (fun e => hf (.inl e)) (fun e => hf (.inr (.inr ⟨v, h1, e.symm⟩))), fun k hf => ?_⟩⟩
    · rw [List.length_map] at g3
      rw [List.length_append, List.map_append]
      exact g3
    · rcases hf with h | h | ⟨v2, h4, h5⟩
      · exact .inl (.inl h)
      · exact .inl (.inr (.inl h))
      · obtain rfl := one_inj g2 h4
        rcases g9 k h5 with h | h
        · exact .inl (.inr (.inr ⟨v, h1, h⟩))
        · exact .inr h
  one := fun D j f w ⟨⟨v, h1, h2⟩, h3⟩ hB hM hN => (proveOne_any w f).mono fun x w' ⟨g1, g2⟩ =>
    ⟨g1, ⟨⟨v, (g2.block p (lt_of_block h1)).trans h1, ownsRow_below h2 fun k hk => g2.block k (h2.lt k hk).2⟩, (g2.block q (lt_of_block h3)).trans h3⟩, ⟨g2.os, g2.tape, g2.output, g2.size, fun k hk _ => g2.block k hk, fun k hf => by
      rcases hf with h | h | ⟨v2, h4, h5⟩
      · exact .inl (.inl h)
      · exact .inl (.inr (.inl h))
      · obtain rfl := one_inj ((g2.block p (lt_of_block h1)).trans h1) h4
        exact .inl (.inr (.inr ⟨v, h1, h5⟩))⟩⟩
  lenN := fun _ _ _ => zeroS_len
  lenO := fun _ _ => zeroS_len

set_option maxRecDepth 100000 in
set_option maxHeartbeats 1000000 in
theorem manyProve_bad (w : World) (o oA : Option Addr) (m c mA cA : Nat) (A : List Int) (hm : m ≤ c) (hc : c ≤ 9223372036854775807) (hA : IntsAt w oA mA cA A) (h : risesB (m : Int) A = false) :
    Calls Tryd.prog 13 #[.slice o m c, .slice oA mA cA] w fun e w' => e = .returned (.tuple #[.slice none 0 0, .int .i64 40]) ∧ Below w.heap.size w w' := by
  obtain ⟨W0, hW0⟩ : ∃ W0, W0 = w.alloc (.cells #[.slice o m c] 24) := ⟨_, rfl⟩
  have b0 : Below w.heap.size w W0 := by rw [hW0]; exact (Below.refl _ _).alloc (Nat.le_refl _) _
  have hr := manyRises_any W0 m oA mA cA A (hA.below (Nat.le_refl _) b0)
  rw [h] at hr
  have HR := Lib.hid hr; clear hr hA h
  have HW0 := Lib.hid hW0; clear hW0
  go_enter Tryd.func13, Tryd.ntmps13
  go_wp2_with fail
  rw [← HW0.out]
  refine HR.out.mono ?_
  rintro e w1 ⟨rfl, b1⟩
  go_wp2_with fail
  go_ret2
  exact ⟨rfl, b0.trans (b1.mono b0.size)⟩

set_option maxRecDepth 100000 in
set_option maxHeartbeats 2000000 in
theorem manyProve_any (w : World) (o oA : Option Addr) (m c mA cA : Nat) (L : List (List UInt8)) (B : List Nat) (hS : StrsAt w o m c L) (hA : IntsAt w oA mA cA (B.map Int.ofNat)) (hB : B.Pairwise (· < ·)) (hBn : ∀ a ∈ B, a < m) (hlen : ∀ l ∈ L, l.length ≤ 100000) (hm : m ≤ 60000) (hmA : mA ≤ 1000000) (hL : Laid w) :
    Calls Tryd.prog 13 #[.slice o m c, .slice oA mA cA] w fun e w' => ∃ q cc, e = .returned (.tuple #[.slice q (Many.prove L B).length cc, .int .i64 0]) ∧ HashesAt w' q (Many.prove L B).length cc (Many.prove L B) ∧ Below w.heap.size w w' := by
  have hmf : ∀ (fn : Fn) (first cap : Array Value) (w : World), (Instr.makeFunc fn first cap).run Tryd.prog w = .ok (.func fn first cap) w := fun _ _ _ _ => rfl
  obtain ⟨W0, hW0⟩ : ∃ W0, W0 = w.alloc (.cells #[.slice o m c] 24) := ⟨_, rfl⟩
  have b0 : Below w.heap.size w W0 := by rw [hW0]; exact (Below.refl _ _).alloc (Nat.le_refl _) _
  have x0 : W0.heap[w.heap.size]? = some (.cells #[.slice o m c] 24 (0, 0)) := by rw [hW0]; exact heap_alloc_new w _
  have hr := manyRises_any W0 m oA mA cA _ (hA.below (Nat.le_refl _) b0)
  rw [rises_intro hB (fun a ha => by have := hBn a ha; omega)] at hr
  have HR := Lib.hid hr; clear hr
  have hlL := hS.len
  have hcap := hS.cap
  have hmax := hS.max
  have hlen2 := hA.len
  rw [List.length_map] at hlen2
  have hT := tops_small (B := B) (n := m) (by omega)
  have hpL : Many.prove L B = (Many.tops B 0 m).map fun x => Tree.top ((L.drop x.1).take x.2) := by unfold Many.prove; rw [hlL]
  have hpc := fun (p : Nat) (hp : w.heap.size < p) (w2 : World) (hK : ProveK w p w.heap.size o m c L [] 0 w2) (b2 : Below w.heap.size w w2) =>
    parts_any (proveClo w p w.heap.size m c o L (by omega) (Nat.le_refl _) (by omega) hL hS hlen (by omega) 1000000) hL B hB (by omega) (Nat.le_refl _) m 0 [] 0 oA mA cA w2 hK b2 (by rw [inr_whole hBn]; exact hA) (by omega) (by simp; omega) (by rw [inr_whole hBn]; omega) (by omega)
  simp only [List.nil_append] at hpc
  have HPC := Lib.hid hpc; clear hpc
  have HPL := Lib.hid hpL; clear hpL
  have X0 := Lib.hid x0; clear x0
  have HW0 := Lib.hid hW0; clear hW0
  have hcell0 : ∀ w', Below W0.heap.size W0 w' → w'.cell? ⟨w.heap.size, 0, none⟩ = some (.slice o m c) := fun w' hb => cell_of_one ((hb.block _ (lt_of_block X0.out)).trans X0.out)
  have HC0 := Lib.hid hcell0; clear hcell0
  clear hS hA hB hBn hlen hL hlL hlen2
  go_enter Tryd.func13, Tryd.ntmps13
  go_wp2_with fail
  rw [← HW0.out]
  refine HR.out.mono ?_
  rintro e w1 ⟨rfl, b1⟩
  clear HR
  have hs1 : w.heap.size < w1.heap.size := by have := lt_of_block X0.out; have := b1.size; omega
  have x1 := (b1.block _ (lt_of_block X0.out)).trans X0.out
  have b01 := b0.trans (b1.mono b0.size)
  have bb : Below w1.heap.size w1 (w1.alloc (.cells #[.slice none 0 0] 27)) := (Below.refl _ _).alloc (Nat.le_refl _) _
  have hcq : (w1.alloc (.cells #[.slice none 0 0] 27)).cell? ⟨w.heap.size, 0, none⟩ = some (.slice o m c) := HC0.out _ (b1.trans (bb.mono b1.size))
  have HX1 := Lib.hid x1; clear x1
  go_wp2_with fail
  refine (HPC.out w1.heap.size hs1 _ ?_ ?_).mono ?_
  · refine ⟨⟨.slice none 0 0, heap_alloc_new w1 _, World.ownsRow_nil _ _ _ _⟩, ?_⟩
    exact (Below.heap_alloc _ _ _ (lt_of_block HX1.out)).trans HX1.out
  · exact b01.trans (bb.mono b01.size)
  rintro e w2 ⟨rfl, hK, hSt⟩
  obtain ⟨⟨v, h1, h2⟩, h3⟩ := hK
  obtain ⟨q, cc, rfl⟩ := ownsRow_slice h2
  have hcell := cell_of_one h1
  have hhs : HashesAt w2 q (Many.prove L B).length cc (Many.prove L B) := by
    have hl : (Many.prove L B).length = (Many.tops B 0 m).length := by rw [HPL.out, List.length_map]
    refine HashesAt.of_owns (base := w.heap.size) ?_ (Many.prove_32 L B)
    rw [hl, HPL.out]; exact h2
  have hl : (Many.tops B 0 m).length = (Many.prove L B).length := by rw [HPL.out, List.length_map]
  rw [hl] at hcell
  have b2 : Below w.heap.size w w2 := ⟨hSt.os.trans (bb.os.trans b01.os), hSt.tape.trans (bb.tape.trans b01.tape), hSt.output.trans (bb.output.trans b01.output), by have := hSt.size; simp at this; omega, fun k hk => by
    rw [hSt.block k (by simp; omega) (fun hf => by
      rcases hf with h | h | ⟨v2, h4, h5⟩
      · omega
      · omega
      · rw [show (w1.alloc (.cells #[.slice none 0 0] 27)).heap[w1.heap.size]? = some (.cells #[.slice none 0 0] 27 (0, 0)) from heap_alloc_new w1 _] at h4
        simp only [Option.some.injEq, Obj.cells.injEq, and_true] at h4
        have : v2 = .slice none 0 0 := by simpa using h4.symm
        subst this
        cases h5), Below.heap_alloc _ _ _ (by omega)]; exact b01.block k hk⟩
  have HH := Lib.hid hhs; clear hhs h1 h2 h3 hSt HPC hl hcq
  go_wp2_with fail
  go_ret2
  exact ⟨q, cc, rfl, HH.out, b2⟩

end Go.Proofs.YtgheacegjgaobaaDoor

/- The walks of the reference's Size, Prove, top, Check. -/
namespace Go.Proofs.YtgheacegjgaobaaDoor
open Go.RowKit
set_option linter.unusedSimpArgs false
set_option linter.unusedVariables false

theorem Tryd.under_pair : Tryd.prog.underlying 68 = some (.array 2 3) := by kernel_rfl
theorem Tryd.under_i : Tryd.prog.underlying 3 = some (.int .i64) := by kernel_rfl
theorem Tryd.size_i (w : World) : (sizeOf 3).run Tryd.prog w = .ok 1 w := by kernel_rfl

theorem pair_eql (w : World) (a b c d : Int) :
    (binOp .eql 68 (.agg #[.int .i64 a, .int .i64 b]) (.agg #[.int .i64 c, .int .i64 d])).run Tryd.prog w = .ok (.bool (a == c && b == d)) w := by
  have px0 : (part 3 #[.int .i64 a, .int .i64 b] 0).run Tryd.prog w = .ok (.int .i64 a) w := by simp [part, isAgg, run_underlying Tryd.under_i]
  have px1 : (part 3 #[.int .i64 a, .int .i64 b] 1).run Tryd.prog w = .ok (.int .i64 b) w := by simp [part, isAgg, run_underlying Tryd.under_i]
  have py0 : (part 3 #[.int .i64 c, .int .i64 d] 0).run Tryd.prog w = .ok (.int .i64 c) w := by simp [part, isAgg, run_underlying Tryd.under_i]
  have py1 : (part 3 #[.int .i64 c, .int .i64 d] 1).run Tryd.prog w = .ok (.int .i64 d) w := by simp [part, isAgg, run_underlying Tryd.under_i]
  have e0 := run_equalIn_int (P := Tryd.prog) w 9998 3 .i64 .i64 a c Tryd.under_i
  have e1 := run_equalIn_int (P := Tryd.prog) w 9998 3 .i64 .i64 b d Tryd.under_i
  rw [run_eql_struct, show (10000 : Nat) = 9998 + 2 from rfl, Op.equalIn]
  simp only [Sem.run_bind, run_underlying Tryd.under_pair, Result.andThen_ok, Tryd.size_i, Std.Legacy.Range.forIn_eq_forIn_range', Std.Legacy.Range.size, Nat.sub_zero, Nat.add_sub_cancel, Nat.div_one]
  rw [show List.range' 0 2 1 = [0, 1] from rfl]
  simp only [List.forIn_cons, List.forIn_nil, Sem.run_bind, Nat.zero_mul, Nat.one_mul, px0, px1, py0, py1, e0, e1, Result.andThen_ok]
  cases h0 : (a == c)
  · simp
  · cases h1 : (b == d)
    · simp [px1, py1, e1, h1]
    · simp [px1, py1, e1, h1]

theorem Tryd.eqg_pair : Tryd.prog.eqGuardType Tryd.prog.depth 68 = false := by kernel_rfl

theorem wpList_eql_pair {ops : Array Oper} {rest : List Oper} {op : Oper} {a : Act} {w : World} {Q : Exit → Act → World → Prop} (hgd : Region.wanted op (yielded ops a.tmps) = true) (x y : Operand) (ho : op.op = .binOp .eql 68 x y 68)
    (p q r s : Int) (hx : a.eval x = .agg #[.int .i64 p, .int .i64 q]) (hy : a.eval y = .agg #[.int .i64 r, .int .i64 s])
    (h : wpList Tryd.prog ops Q rest (a.put op.dst (.bool (p == r && q == s))) w) : wpList Tryd.prog ops Q (op :: rest) a w :=
  wpList_step fun K hK => by
    rw [if_pos hgd]
    have hg := run_eqGuard_agg (P := Tryd.prog) w .eql 68 x y #[.int .i64 p, .int .i64 q] #[.int .i64 r, .int .i64 s] Tryd.eqg_pair
    have he := pair_eql w p q r s
    unfold Oper.wp execOp
    simp only [ho, hx, hy, Sem.run_bind, hg, he, Result.andThen_ok, Sem.run_pure]
    exact hK _ _ h

theorem rows_differ {w : World} {B B' : Nat} {e e' : TypeId} {z z' : Nat} {v v' : Value} {n n' : Nat} {xs xs' : List Value} (h : w.ownsRow B e z v n xs) (h' : w.ownsRow B' e' z' v' n' xs') (he : e ≠ e') {k : Nat} (hk : v.ownBlock = some k) : v'.ownBlock ≠ some k := by
  intro hk'
  rcases h.2 with ⟨rfl, _⟩ | ⟨g, cap, cur, rfl, _, hgg, _⟩
  · cases hk
  · rcases h'.2 with ⟨rfl, _⟩ | ⟨g', cap', cur', rfl, _, hgg', _⟩
    · cases hk'
    · simp only [Value.ownBlock, Option.some.injEq] at hk hk'
      subst hk
      subst hk'
      rw [hgg] at hgg'
      simp only [Option.some.injEq, Obj.cells.injEq] at hgg'
      exact he hgg'.2.1

theorem PairsAt.cells {w : World} {q : Option Addr} {n c : Nat} {d : List (Nat × Nat)} (h : PairsAt w q n c d) {i : Nat} {x : Nat × Nat} (hx : d[i]? = some x) : ∃ g, q = some ⟨g, 0, none⟩ ∧ g < w.heap.size ∧ w.cell? ⟨g, i * 2, none⟩ = some (.int .i64 (x.1 : Int)) ∧ w.cell? ⟨g, i * 2 + 1, none⟩ = some (.int .i64 (x.2 : Int)) := by
  have hi := (List.getElem?_eq_some_iff.1 hx).1
  rw [h.1] at hi
  obtain ⟨g, h5, h6, h7⟩ := h.2.2.2 (by omega)
  obtain ⟨g1, g2⟩ := pairsC_get hx
  exact ⟨g, h5, h6, h7 _ _ g1, h7 _ _ g2⟩

set_option maxRecDepth 100000 in
set_option maxHeartbeats 1000000 in
theorem refMSize_bad (w : World) (n : Int) (o : Option Addr) (m c : Nat) (A : List Int) (hA : IntsAt w o m c A) (h : sizeBad n A = true) :
    Calls Tryd.prog 24 #[.int .i64 n, .slice o m c] w fun e w' => e = .returned (.int .i64 0) ∧ Below w.heap.size w w' := by
  have hr := refRises_any w n o m c A hA
  have HR := Lib.hid hr; clear hr hA
  unfold sizeBad at h
  rcases h1 : decide (n < 0) with _ | _
  · rcases h2 : decide (65536 < n) with _ | _
    · have h3 : risesB n A = false := by rw [h1, h2] at h; simpa using h
      have hr := HR.out
      rw [h3] at hr
      have HR2 := Lib.hid hr; clear hr HR h3 h
      go_enter Tryd.func24, Tryd.ntmps24
      go_wp2_with fail
      refine HR2.out.mono ?_
      rintro e w1 ⟨rfl, b1⟩
      go_wp2_with fail
      go_ret
      exact ⟨rfl, b1⟩
    · clear h HR
      go_enter Tryd.func24, Tryd.ntmps24
      go_wp2_with fail
      go_ret
      exact ⟨rfl, Below.refl _ _⟩
  · clear h HR
    go_enter Tryd.func24, Tryd.ntmps24
    go_wp2_with fail
    go_ret
    exact ⟨rfl, Below.refl _ _⟩

set_option maxRecDepth 100000 in
set_option maxHeartbeats 2000000 in
theorem refMSize_any (w : World) (n : Nat) (hn : n ≤ 65536) (o : Option Addr) (m c : Nat) (B : List Nat) (hA : IntsAt w o m c (B.map Int.ofNat)) (hB : B.Pairwise (· < ·)) (hBn : ∀ a ∈ B, a < n) :
    Calls Tryd.prog 24 #[.int .i64 (n : Int), .slice o m c] w fun e w' => e = .returned (.int .i64 ((Many.tops B 0 n).length : Int)) ∧ Below w.heap.size w w' := by
  have hr := refRises_any w n o m c _ hA
  rw [rises_intro hB (fun a ha => by have := hBn a ha; omega)] at hr
  have HR := Lib.hid hr; clear hr
  have ht := fun (w1 : World) (b1 : Below w.heap.size w w1) => refTops_any B o m c n 0 w1 (hA.below (Nat.le_refl _) b1) (by omega)
  have HT := Lib.hid ht; clear ht hA hB hBn
  have t1 : decide ((n : Int) < 0) = false := decide_eq_false (by omega)
  have t2 : decide ((65536 : Int) < (n : Int)) = false := decide_eq_false (by omega)
  have t2' : decide (65536 < n) = false := decide_eq_false (by omega)
  go_enter Tryd.func24, Tryd.ntmps24
  go_wp2_with fail
  refine HR.out.mono ?_
  rintro e w1 ⟨rfl, b1⟩
  have hc := HT.out w1 b1
  have HC := Lib.hid hc; clear hc HT HR
  go_wp2_with fail
  refine HC.out.mono ?_
  rintro e w2 ⟨q, cc, rfl, o2, b2⟩
  clear o2
  go_wp2_with fail
  go_ret
  exact ⟨rfl, b1.trans (b2.mono b1.size)⟩

/-- What the region's operations leave. -/
def rmV (w00 : World) (gp f n m c j co np cp : Nat) (o qo : Option Addr) (L : List (List UInt8)) (S : List UInt8) (ix : Nat) (w : World) (v : Value) : Prop :=
  match ix with
  | 0 => v = .slice qo j co
  | 1 => v = .slice o m c
  | 2 => v = .slice (some ⟨gp, 0, none⟩) np cp
  | 3 => v = .int .i64 (j : Int)
  | 4 => v = .pointer (some ⟨gp, j * 2, none⟩)
  | 5 => v = .pointer (some ⟨gp, j * 2, none⟩)
  | 6 => v = .int .i64 (f : Int)
  | 7 => v = .slice (some ⟨gp, 0, none⟩) np cp
  | 8 => v = .int .i64 (j : Int)
  | 9 => v = .pointer (some ⟨gp, j * 2, none⟩)
  | 10 => v = .pointer (some ⟨gp, j * 2, none⟩)
  | 11 => v = .int .i64 (f : Int)
  | 12 => v = .slice (some ⟨gp, 0, none⟩) np cp
  | 13 => v = .int .i64 (j : Int)
  | 14 => v = .pointer (some ⟨gp, j * 2, none⟩)
  | 15 => v = .pointer (some ⟨gp, j * 2 + 1, none⟩)
  | 16 => v = .int .i64 (n : Int)
  | 17 => v = .int .i64 (((f + n : Nat) : Int))
  | 18 => ∃ (qq : Option Addr) (cc : Nat), v = .slice qq n cc ∧ StrsAt w00 qq n cc ((L.drop f).take n)
  | 19 => v = .agg (byteCells S).toArray
  | 20 => ∃ g, v = .slice (some ⟨g, 0, none⟩) 1 1 ∧ w.heap[g]? = some (.cells (byteCells S).toArray 23 (0, 0))
  | _ => True

theorem rmV_mono (w00 : World) (gp f n m c j co np cp : Nat) (o qo : Option Addr) (L : List (List UInt8)) (S : List UInt8) (jx : Nat) (w w' : World) (v : Value) (hb : Below w.heap.size w w') (h : rmV w00 gp f n m c j co np cp o qo L S jx w v) : rmV w00 gp f n m c j co np cp o qo L S jx w' v := by
  match jx, h with
  | 0, h => exact h
  | 1, h => exact h
  | 2, h => exact h
  | 3, h => exact h
  | 4, h => exact h
  | 5, h => exact h
  | 6, h => exact h
  | 7, h => exact h
  | 8, h => exact h
  | 9, h => exact h
  | 10, h => exact h
  | 11, h => exact h
  | 12, h => exact h
  | 13, h => exact h
  | 14, h => exact h
  | 15, h => exact h
  | 16, h => exact h
  | 17, h => exact h
  | 18, h => exact h
  | 19, h => exact h
  | 20, h => exact (let ⟨g, h1, h2⟩ := h; ⟨g, h1, (hb.block g (lt_of_block h2)).trans h2⟩)
  | _ + 21, h => exact trivial


/-- The sums so far. -/
def provS (L : List (List UInt8)) (Q : List (Nat × Nat)) (j : Nat) : List (List UInt8) := (Q.take j).map fun x => Tree.top ((L.drop x.1).take x.2)
theorem provS_len {L : List (List UInt8)} {Q : List (Nat × Nat)} {j : Nat} (h : j ≤ Q.length) : (provS L Q j).length = j := by unfold provS; rw [List.length_map, List.length_take]; omega
theorem provS_succ {L : List (List UInt8)} {Q : List (Nat × Nat)} {j : Nat} {x : Nat × Nat} (h : Q[j]? = some x) : provS L Q (j + 1) = provS L Q j ++ [Tree.top ((L.drop x.1).take x.2)] := by
  unfold provS; rw [List.take_add_one, h, List.map_append]; rfl

set_option maxRecDepth 100000 in
set_option maxHeartbeats 4000000 in
theorem refMProve_any (w : World) (o oA : Option Addr) (m c mA cA : Nat) (L : List (List UInt8)) (B : List Nat) (hS : StrsAt w o m c L) (hA : IntsAt w oA mA cA (B.map Int.ofNat)) (hlen : ∀ l ∈ L, l.length ≤ 100000) (hm : m ≤ 60000) :
    Calls Tryd.prog 21 #[.slice o m c, .slice oA mA cA] w fun e w' => ∃ q cc, e = .returned (.slice q (Many.prove L B).length cc) ∧ HashesAt w' q (Many.prove L B).length cc (Many.prove L B) ∧ Below w.heap.size w w' := by
  have hlL := hS.len
  have hcap := hS.cap
  have hmax := hS.max
  have hT := tops_small (B := B) (n := m) (by omega)
  obtain ⟨Q, hQ⟩ : ∃ Q, Q = Many.tops B 0 m := ⟨_, rfl⟩
  have hPr : Many.prove L B = provS L Q Q.length := by unfold Many.prove provS; rw [hQ, hlL, List.take_length]
  have hPl : (Many.prove L B).length = Q.length := by rw [hPr, provS_len (Nat.le_refl _)]
  have hin : ∀ x ∈ Q, x.1 + x.2 ≤ m ∧ (1 ≤ x.2 ∨ m = 0) := fun x hx => by
    rcases Nat.eq_zero_or_pos m with h0 | h0
    · subst h0
      have he : Many.inr B 0 (0 + 0) = [] := Many.inr_empty B (Nat.le_refl _)
      rw [hQ, Many.tops_none he] at hx
      obtain rfl := List.mem_singleton.1 hx
      exact ⟨Nat.le_refl _, .inr rfl⟩
    · rw [hQ] at hx
      have := Many.tops_in B m 0 h0 x hx
      exact ⟨by omega, .inl (by omega)⟩
  have ht := fun (w1 : World) (b1 : Below w.heap.size w w1) => refTops_any B oA mA cA m 0 w1 (hA.below (Nat.le_refl _) b1) (by omega)
  simp only [← hQ] at ht
  rw [← hQ] at hT
  rw [hPl, hPr]
  have HT := Lib.hid ht; clear ht hA
  have HIN := Lib.hid hin; clear hin
  have HLE := Lib.hid hlen; clear hlen
  have HS := Lib.hid hS; clear hS
  clear hPr hPl hQ hlL
  have hlow : Below w.heap.size w (w.alloc (.cells #[] 23)) := (Below.refl _ _).alloc (Nat.le_refl _) _
  have hc := HT.out _ hlow
  have HC := Lib.hid hc; clear hc HT
  have ho0 : (w.alloc (.cells #[] 23)).ownsRow w.heap.size 23 32 (.slice (some ⟨w.heap.size, 0, none⟩) 0 0) 0 (hashCells (provS L Q 0)) := ⟨rfl, .inr ⟨w.heap.size, 0, #[], rfl, Nat.le_refl _, heap_alloc_new w _, Nat.le_refl _, by decide, rfl, rfl⟩⟩
  have HO0 := Lib.hid ho0; clear ho0
  go_enter Tryd.func21, Tryd.ntmps21
  go_wp2_with fail
  refine HC.out.mono ?_
  rintro e w1 ⟨qp, cp, rfl, op, bp⟩
  clear HC
  have b1 := hlow.trans (bp.mono hlow.size)
  have HPO0 := Lib.hid op
  have HP := Lib.hid (PairsAt.of_owns rfl op); clear op
  obtain ⟨BP, hBP⟩ : ∃ BP, BP = (w.alloc (.cells #[] 23)).heap.size := ⟨_, rfl⟩
  rw [← hBP] at HPO0
  clear hBP
  have hpc := HP.out.2.1
  have hpm := HP.out.2.2.1
  obtain ⟨np, hnp⟩ : ∃ np, np = Q.length := ⟨_, rfl⟩
  rw [← hnp] at HP HPO0 hpc hT ⊢
  have HPO : Hid (w1.ownsRow BP 68 2 (.slice qp np cp) np (pairsC Q)) := Lib.hid HPO0.out
  clear HPO0
  have HNP := Lib.hid hnp; clear hnp
  go_wp2_with fail
  go_loopw [5, 7] (fun v u wr => ∃ (j : Nat) (qo : Option Addr) (co : Nat), j ≤ np ∧ u = .int .i64 (j : Int) ∧ v = .slice qo j co ∧ Hid (wr.ownsRow w.heap.size 23 32 (.slice qo j co) j (hashCells (provS L Q j))) ∧ Below w.heap.size w wr ∧ Hid (wr.ownsRow BP 68 2 (.slice qp np cp) np (pairsC Q))) (fun _ u _ => np - (intOf u).toNat)
  case atStart => exact ⟨0, _, _, by omega, rfl, rfl, Lib.hid (ownsRow_below HO0.out fun k hk => bp.block k (HO0.out.lt k hk).2), b1, HPO⟩
  case round =>
    obtain ⟨j, qo, co, hj, rfl, rfl, HOW, Bw, HPr⟩ := hrel
    by_cases hlt : j < np
    · obtain ⟨x, hx⟩ : ∃ x, Q[j]? = some x := ⟨_, List.getElem?_eq_getElem (by rw [← HNP.out]; exact hlt)⟩
      obtain ⟨gp, rfl, hgp, hc1, hc2⟩ := (PairsAt.of_owns HNP.out.symm HPr.out).cells hx
      obtain ⟨hx1, hx2⟩ := HIN.out x (List.mem_of_getElem? hx)
      have hds := provS_succ (L := L) hx
      have hdl := provS_len (L := L) (Q := Q) (j := j) (by rw [← HNP.out]; exact hj)
      obtain ⟨f, n⟩ := x
      simp only at hc1 hc2 hx1 hx2 hds
      obtain ⟨S, hSe⟩ : ∃ S, S = Tree.top ((L.drop f).take n) := ⟨_, rfl⟩
      have hSl : S.length = 32 := by rw [hSe]; exact Tree.top_len _
      rw [← hSe] at hds
      obtain ⟨D, hD⟩ : ∃ D, D = provS L Q j := ⟨_, rfl⟩
      rw [← hD] at HOW hds hdl
      have HDS := Lib.hid hds; clear hds hx
      have HDL := Lib.hid hdl; clear hdl hD
      have HSE := Lib.hid hSe; clear hSe
      have HSL := Lib.hid hSl; clear hSl
      have HC1 := Lib.hid hc1; clear hc1
      have HC2 := Lib.hid hc2; clear hc2
      have HGP := Lib.hid hgp; clear hgp
      have BW := Lib.hid Bw
      have HLT : Hid (∀ l ∈ (L.drop f).take n, l.length ≤ 100000) := Lib.hid fun l hl => HLE.out l (List.mem_of_mem_drop (List.mem_of_mem_take hl))
      have HNN : Hid (f + n ≤ m ∧ (1 ≤ n ∨ m = 0) ∧ m ≤ c ∧ c ≤ 9223372036854775807 ∧ m ≤ 60000 ∧ j < np) := Lib.hid ⟨hx1, hx2, hcap, hmax, hm, hlt⟩
      have t1 : decide ((j : Int) < (np : Int)) = true := decide_eq_true (by omega)
      have t1' : decide (j < np) = true := decide_eq_true hlt
      go_wp2_with fail
      refine wp_region_rel_tailM [[], [], [], [], [2, 3], [4], [5], [], [], [7, 8], [9], [10], [], [], [12, 13], [14], [15], [11, 16], [1, 6, 17], [18], [19], [0, 20], [21]] (rmV w gp f n m c j co np cp o qo L S) 42 21 (by kernel_rfl) (by kernel_rfl) (by kernel_rfl) (by kernel_rfl) (of_decide_eq_true (by kernel_rfl)) (rmV_mono w gp f n m c j co np cp o qo L S) ?_ ?_
      · intro ix op him hi w2 b2 vs hv
        obtain ⟨hn1, hn2, hn3, hn4, hn5, hn6⟩ := HNN.out
        match ix, him, hi with
        | 0, _, hi =>
          obtain rfl := Option.some.inj hi
          simp only [relF, List.getD_cons_zero, List.getD_cons_succ, List.foldl_cons, List.foldl_nil, dstAt, List.getElem?_cons_zero, List.getElem?_cons_succ, Option.bind_some]
          go_wp2_with fail
          exact ⟨rfl, Below.refl _ _, rfl, rfl⟩
        | 1, _, hi =>
          obtain rfl := Option.some.inj hi
          simp only [relF, List.getD_cons_zero, List.getD_cons_succ, List.foldl_cons, List.foldl_nil, dstAt, List.getElem?_cons_zero, List.getElem?_cons_succ, Option.bind_some]
          go_wp2_with fail
          exact ⟨rfl, Below.refl _ _, rfl, rfl⟩
        | 2, _, hi =>
          obtain rfl := Option.some.inj hi
          simp only [relF, List.getD_cons_zero, List.getD_cons_succ, List.foldl_cons, List.foldl_nil, dstAt, List.getElem?_cons_zero, List.getElem?_cons_succ, Option.bind_some]
          go_wp2_with fail
          exact ⟨rfl, Below.refl _ _, rfl, rfl⟩
        | 3, _, hi =>
          obtain rfl := Option.some.inj hi
          simp only [relF, List.getD_cons_zero, List.getD_cons_succ, List.foldl_cons, List.foldl_nil, dstAt, List.getElem?_cons_zero, List.getElem?_cons_succ, Option.bind_some]
          go_wp2_with fail
          exact ⟨rfl, Below.refl _ _, rfl, rfl⟩
        | 4, _, hi =>
          obtain rfl := Option.some.inj hi
          have h2 : vs 2 = _ := hv 2 (by decide)
          have h3 : vs 3 = _ := hv 3 (by decide)
          simp only [relF, List.getD_cons_zero, List.getD_cons_succ, List.foldl_cons, List.foldl_nil, dstAt, List.getElem?_cons_zero, List.getElem?_cons_succ, Option.bind_some]
          go_frame
          rw [h2, h3]
          go_wp2_with fail
          exact ⟨rfl, Below.refl _ _, rfl, by first | rfl | (show slotOf _ _ = _; simp [slotOf])⟩
        | 5, _, hi =>
          obtain rfl := Option.some.inj hi
          have h4 : vs 4 = _ := hv 4 (by decide)
          simp only [relF, List.getD_cons_zero, List.getD_cons_succ, List.foldl_cons, List.foldl_nil, dstAt, List.getElem?_cons_zero, List.getElem?_cons_succ, Option.bind_some]
          go_frame
          rw [h4]
          go_wp2_with fail
          exact ⟨rfl, Below.refl _ _, rfl, by first | rfl | (show slotOf _ _ = _; simp [slotOf])⟩
        | 6, _, hi =>
          obtain rfl := Option.some.inj hi
          have h5 : vs 5 = _ := hv 5 (by decide)
          have hcx := (b2.cell (p := ⟨gp, j * 2, none⟩) HGP.out).trans HC1.out
          simp only [relF, List.getD_cons_zero, List.getD_cons_succ, List.foldl_cons, List.foldl_nil, dstAt, List.getElem?_cons_zero, List.getElem?_cons_succ, Option.bind_some]
          go_frame
          rw [h5]
          go_wp2_with fail
          exact ⟨rfl, Below.refl _ _, rfl, by first | rfl | (show slotOf _ _ = _; simp [slotOf])⟩
        | 7, _, hi =>
          obtain rfl := Option.some.inj hi
          simp only [relF, List.getD_cons_zero, List.getD_cons_succ, List.foldl_cons, List.foldl_nil, dstAt, List.getElem?_cons_zero, List.getElem?_cons_succ, Option.bind_some]
          go_wp2_with fail
          exact ⟨rfl, Below.refl _ _, rfl, rfl⟩
        | 8, _, hi =>
          obtain rfl := Option.some.inj hi
          simp only [relF, List.getD_cons_zero, List.getD_cons_succ, List.foldl_cons, List.foldl_nil, dstAt, List.getElem?_cons_zero, List.getElem?_cons_succ, Option.bind_some]
          go_wp2_with fail
          exact ⟨rfl, Below.refl _ _, rfl, rfl⟩
        | 9, _, hi =>
          obtain rfl := Option.some.inj hi
          have h7 : vs 7 = _ := hv 7 (by decide)
          have h8 : vs 8 = _ := hv 8 (by decide)
          simp only [relF, List.getD_cons_zero, List.getD_cons_succ, List.foldl_cons, List.foldl_nil, dstAt, List.getElem?_cons_zero, List.getElem?_cons_succ, Option.bind_some]
          go_frame
          rw [h7, h8]
          go_wp2_with fail
          exact ⟨rfl, Below.refl _ _, rfl, by first | rfl | (show slotOf _ _ = _; simp [slotOf])⟩
        | 10, _, hi =>
          obtain rfl := Option.some.inj hi
          have h9 : vs 9 = _ := hv 9 (by decide)
          simp only [relF, List.getD_cons_zero, List.getD_cons_succ, List.foldl_cons, List.foldl_nil, dstAt, List.getElem?_cons_zero, List.getElem?_cons_succ, Option.bind_some]
          go_frame
          rw [h9]
          go_wp2_with fail
          exact ⟨rfl, Below.refl _ _, rfl, by first | rfl | (show slotOf _ _ = _; simp [slotOf])⟩
        | 11, _, hi =>
          obtain rfl := Option.some.inj hi
          have h10 : vs 10 = _ := hv 10 (by decide)
          have hcx := (b2.cell (p := ⟨gp, j * 2, none⟩) HGP.out).trans HC1.out
          simp only [relF, List.getD_cons_zero, List.getD_cons_succ, List.foldl_cons, List.foldl_nil, dstAt, List.getElem?_cons_zero, List.getElem?_cons_succ, Option.bind_some]
          go_frame
          rw [h10]
          go_wp2_with fail
          exact ⟨rfl, Below.refl _ _, rfl, by first | rfl | (show slotOf _ _ = _; simp [slotOf])⟩
        | 12, _, hi =>
          obtain rfl := Option.some.inj hi
          simp only [relF, List.getD_cons_zero, List.getD_cons_succ, List.foldl_cons, List.foldl_nil, dstAt, List.getElem?_cons_zero, List.getElem?_cons_succ, Option.bind_some]
          go_wp2_with fail
          exact ⟨rfl, Below.refl _ _, rfl, rfl⟩
        | 13, _, hi =>
          obtain rfl := Option.some.inj hi
          simp only [relF, List.getD_cons_zero, List.getD_cons_succ, List.foldl_cons, List.foldl_nil, dstAt, List.getElem?_cons_zero, List.getElem?_cons_succ, Option.bind_some]
          go_wp2_with fail
          exact ⟨rfl, Below.refl _ _, rfl, rfl⟩
        | 14, _, hi =>
          obtain rfl := Option.some.inj hi
          have h12 : vs 12 = _ := hv 12 (by decide)
          have h13 : vs 13 = _ := hv 13 (by decide)
          simp only [relF, List.getD_cons_zero, List.getD_cons_succ, List.foldl_cons, List.foldl_nil, dstAt, List.getElem?_cons_zero, List.getElem?_cons_succ, Option.bind_some]
          go_frame
          rw [h12, h13]
          go_wp2_with fail
          exact ⟨rfl, Below.refl _ _, rfl, by first | rfl | (show slotOf _ _ = _; simp [slotOf])⟩
        | 15, _, hi =>
          obtain rfl := Option.some.inj hi
          have h14 : vs 14 = _ := hv 14 (by decide)
          simp only [relF, List.getD_cons_zero, List.getD_cons_succ, List.foldl_cons, List.foldl_nil, dstAt, List.getElem?_cons_zero, List.getElem?_cons_succ, Option.bind_some]
          go_frame
          rw [h14]
          go_wp2_with fail
          exact ⟨rfl, Below.refl _ _, rfl, by first | rfl | (show slotOf _ _ = _; simp [slotOf])⟩
        | 16, _, hi =>
          obtain rfl := Option.some.inj hi
          have h15 : vs 15 = _ := hv 15 (by decide)
          have hcx := (b2.cell (p := ⟨gp, j * 2 + 1, none⟩) HGP.out).trans HC2.out
          simp only [relF, List.getD_cons_zero, List.getD_cons_succ, List.foldl_cons, List.foldl_nil, dstAt, List.getElem?_cons_zero, List.getElem?_cons_succ, Option.bind_some]
          go_frame
          rw [h15]
          go_wp2_with fail
          exact ⟨rfl, Below.refl _ _, rfl, by first | rfl | (show slotOf _ _ = _; simp [slotOf])⟩
        | 17, _, hi =>
          obtain rfl := Option.some.inj hi
          have h11 : vs 11 = _ := hv 11 (by decide)
          have h16 : vs 16 = _ := hv 16 (by decide)
          simp only [relF, List.getD_cons_zero, List.getD_cons_succ, List.foldl_cons, List.foldl_nil, dstAt, List.getElem?_cons_zero, List.getElem?_cons_succ, Option.bind_some]
          go_frame
          rw [h11, h16]
          go_wp2_with fail
          exact ⟨rfl, Below.refl _ _, rfl, by first | rfl | (show slotOf _ _ = _; simp [slotOf]; done) | (show slotOf _ _ = _; simp [slotOf]; omega)⟩
        | 18, _, hi =>
          obtain rfl := Option.some.inj hi
          have h1 : vs 1 = _ := hv 1 (by decide)
          have h6 : vs 6 = _ := hv 6 (by decide)
          have h17 : vs 17 = _ := hv 17 (by decide)
          simp only [relF, List.getD_cons_zero, List.getD_cons_succ, List.foldl_cons, List.foldl_nil, dstAt, List.getElem?_cons_zero, List.getElem?_cons_succ, Option.bind_some]
          go_frame
          rw [h1, h6, h17]
          by_cases hn0 : n = 0
          · obtain rfl : m = 0 := by omega
            obtain rfl : f = 0 := by omega
            subst hn0
            rcases o with _ | a
            · by_cases hc0 : c = 0
              · subst hc0
                go_wp2_with fail
                exact ⟨rfl, Below.refl _ _, rfl, _, _, by first | rfl | (show slotOf _ _ = _; simp [slotOf]; rfl), strs_part HS.out rfl _ _ (by omega)⟩
              · have hcb : (c == 0) = false := by rw [beq_eq_false_iff_ne]; exact hc0
                go_wp2_with fail
                exact ⟨rfl, Below.refl _ _, rfl, _, _, by first | rfl | (show slotOf _ _ = _; simp [slotOf]; rfl), strs_part HS.out rfl _ _ (by omega)⟩
            · by_cases hc0 : c = 0
              · subst hc0
                go_wp2_with fail
                exact ⟨rfl, Below.refl _ _, rfl, _, _, by first | rfl | (show slotOf _ _ = _; simp [slotOf]; rfl), strs_part HS.out rfl _ _ (by omega)⟩
              · have hcb : (c == 0) = false := by rw [beq_eq_false_iff_ne]; exact hc0
                go_wp2_with fail
                exact ⟨rfl, Below.refl _ _, rfl, _, _, by first | rfl | (show slotOf _ _ = _; simp [slotOf]; rfl), strs_part HS.out rfl _ _ (by omega)⟩
          · obtain ⟨b, off, rfl⟩ := HS.out.form (by omega)
            have hcf : (c == f) = false := by rw [beq_eq_false_iff_ne]; omega
            have hcf' : ((c : Int) == (f : Int)) = false := by rw [beq_eq_false_iff_ne]; omega
            have hcne : ¬ c = f := by omega
            have hsub : f + n - f = n := by omega
            go_wp2_with fail
            exact ⟨rfl, Below.refl _ _, rfl, some ⟨b, off + f, none⟩, c - f, by first | rfl | (show slotOf _ _ = _; simp [slotOf]; done) | (show slotOf _ _ = _; simp [slotOf]; omega), (HS.out.drop f (by omega)).take n (c - f) (by omega) (by omega) (by omega)⟩
        | 19, _, hi =>
          obtain rfl := Option.some.inj hi
          obtain ⟨qq18, cc18, e18, k18⟩ := hv 18 (by decide)
          have htc := refTop_any w2 _ _ _ ((L.drop f).take n) (k18.below (Nat.le_refl _) (BW.out.trans (b2.mono BW.out.size))) (by omega) HLT.out
          rw [← HSE.out] at htc
          simp only [relF, List.getD_cons_zero, List.getD_cons_succ, List.foldl_cons, List.foldl_nil, dstAt, List.getElem?_cons_zero, List.getElem?_cons_succ, Option.bind_some]
          go_frame
          rw [e18]
          go_wp2_with fail
          refine (htc).mono ?_
          rintro e w3 ⟨rfl, b3⟩
          go_wp2_with fail
          exact ⟨rfl, b3, rfl, rfl⟩
        | 20, _, hi =>
          obtain rfl := Option.some.inj hi
          have h19 : vs 19 = _ := hv 19 (by decide)
          have hbc : (byteCells S).length = 32 := by rw [byteCells_length, HSL.out]
          simp only [relF, List.getD_cons_zero, List.getD_cons_succ, List.foldl_cons, List.foldl_nil, dstAt, List.getElem?_cons_zero, List.getElem?_cons_succ, Option.bind_some]
          go_frame
          rw [h19]
          go_wp2_with fail
          exact ⟨rfl, (Below.refl _ _).alloc (Nat.le_refl _) _, rfl, w2.heap.size, rfl, alloc_built w2 hbc⟩
        | nx + 21, him, _ => exact absurd him (by omega)
      · intro w2 b2 vs hv
        obtain ⟨hn1, hn2, hn3, hn4, hn5, hn6⟩ := HNN.out
        have h0 : vs 0 = _ := hv 0 (by decide)
        obtain ⟨g20, e20, s20⟩ := hv 20 (by decide)
        simp only [relF, List.drop_succ_cons, List.drop_zero, List.length_cons, List.length_nil, Nat.zero_add, Nat.reduceAdd, List.range, List.range.loop, List.foldl_cons, List.foldl_nil, dstAt, List.getElem?_cons_zero, List.getElem?_cons_succ, Option.bind_some]
        go_frame
        rw [h0, e20]
        have own2 := ownsRow_below HOW.out fun k hk => b2.block k (HOW.out.lt k hk).2
        obtain ⟨q', c', w5, hrun, hown5, hgr5, -⟩ := hashes_push (d := D) (by rw [HDL.out]; exact own2) (by rw [HDL.out]; omega) HSL.out s20 (by have := BW.out.size; have := b2.size; omega)
        rw [HDL.out] at hrun hown5
        have B5 : Below w.heap.size w w5 := (BW.out.trans (b2.mono BW.out.size)).trans (grown_below hgr5 (fun k hk => (own2.lt k hk).1) (by have := BW.out.size; have := b2.size; omega))
        have HP5 : w5.ownsRow BP 68 2 (.slice (some ⟨gp, 0, none⟩) np cp) np (pairsC Q) := ownsRow_below HPr.out fun k hk => by
          have hk2 := (HPr.out.lt k hk).2
          rw [hgr5.block k (Nat.lt_of_lt_of_le hk2 b2.size) (fun e => rows_differ HPr.out HOW.out (by decide) hk e.symm)]
          exact b2.block k hk2
        have HOWN5 := Lib.hid hown5; clear hown5 own2 hgr5
        go_wp2_with ((with_reducible show wpList _ _ _ (⟨some 40, _, _, _, _, _⟩ :: _) _ _); refine wpList_append_ran (by kernel_rfl) _ _ _ rfl _ _ rfl rfl hrun ?_)
        clear hrun
        go_roundw
        case rel => exact ⟨j + 1, q', c', by omega, by go_num, rfl, Lib.hid (by rw [HDS.out]; exact HOWN5.out), B5, Lib.hid HP5⟩
        case measure => simp [intOf]; omega
    · obtain rfl : j = np := by omega
      have t1 : decide ((j : Int) < (j : Int)) = false := decide_eq_false (by omega)
      go_wp2_with fail
      go_ret
      refine ⟨qo, co, by rw [← HNP.out]; rfl, ?_, Bw⟩
      have hl : (provS L Q j).length = j := by rw [HNP.out]; exact provS_len (Nat.le_refl _)
      have hh := HashesAt.of_owns (base := w.heap.size) (d := provS L Q j) (by rw [hl]; exact HOW.out) (fun p hp => by
        unfold provS at hp
        obtain ⟨x, _, rfl⟩ := List.mem_map.1 hp
        exact Tree.top_len _)
      rw [hl] at hh
      rw [← HNP.out]
      exact hh

end Go.Proofs.YtgheacegjgaobaaDoor

/- The walks of the reference's top and Check. -/
namespace Go.Proofs.YtgheacegjgaobaaDoor
open Go.RowKit
set_option linter.unusedSimpArgs false
set_option linter.unusedVariables false

/-- What a part of a proof comes to. -/
def mtopV (B : List Nat) (X P : List (List UInt8)) (i j f n : Nat) : List UInt8 := Many.val B (fun i _ _ => (P[i]?).getD (List.replicate 32 0)) (fun j _ => Tree.leaf ((X[j]?).getD [])) i j f n

theorem mtopV_len {B : List Nat} {X P : List (List UInt8)} (hP : ∀ p ∈ P, p.length = 32) (i j f n : Nat) : (mtopV B X P i j f n).length = 32 :=
  Many.val_len (fun i f n => by
    cases hx : P[i]? with
    | none => exact zeroS_len
    | some p => exact hP p (List.mem_of_getElem? hx)) (fun j f => Tree.leaf_len _) _ _ _ _

theorem PairsAt.range {w : World} {q : Option Addr} {n c : Nat} {d : List (Nat × Nat)} (h : PairsAt w q n c d) {i : Nat} {x : Nat × Nat} (hx : d[i]? = some x) : ∃ g, q = some ⟨g, 0, none⟩ ∧ w.rangeAt g (i * 2) [.int .i64 (x.1 : Int), .int .i64 (x.2 : Int)] := by
  obtain ⟨g, h1, _, h3, h4⟩ := h.cells hx
  refine ⟨g, h1, fun j v hv => ?_⟩
  match j, hv with
  | 0, hv =>
    obtain rfl := Option.some.inj hv
    exact h3
  | 1, hv =>
    obtain rfl := Option.some.inj hv
    exact h4

theorem pair_ne {a b f n : Nat} (h : (a, b) ≠ (f, n)) : ((a : Int) == (f : Int) && (b : Int) == (n : Int)) = false := by
  rw [Bool.and_eq_false_iff]
  by_cases e : a = f
  · right
    rw [beq_eq_false_iff_ne]
    intro e2
    exact h (by rw [e, show b = n by omega])
  · left
    rw [beq_eq_false_iff_ne]; omega


set_option maxRecDepth 100000 in
set_option maxHeartbeats 8000000 in
theorem refMTop_any (B : List Nat) (N : Nat) (hB : B.Pairwise (· < ·)) (hN : N ≤ 65536) (oA oX oQ oP : Option Addr) (mA cA mX cX nQ cQ mP cP : Nat) (X P : List (List UInt8)) (hXB : X.length = B.length) (hPQ : P.length = (Many.tops B 0 N).length) (hlen : ∀ l ∈ X, l.length ≤ 100000) :
    ∀ (n f : Nat) (D R : List (Nat × Nat)) (w : World), Many.Loc B N f n D R → f + n ≤ N → IntsAt w oA mA cA (B.map Int.ofNat) → StrsAt w oX mX cX X → PairsAt w oQ nQ cQ (Many.tops B 0 N) → HashesAt w oP mP cP P →
    Calls Tryd.prog 52 #[.int .i64 (f : Int), .int .i64 (n : Int), .slice oA mA cA, .slice oX mX cX, .slice oQ nQ cQ, .slice oP mP cP] w fun e w' => e = .returned (.agg (byteCells (mtopV B X P D.length (Many.inr B 0 f).length f n)).toArray) ∧ Below w.heap.size w w' := by
  intro n
  induction n using Nat.strongRecOn with
  | ind n ih =>
    intro f D R w hLoc hfn hA hX hQ hP
    have hQl := hQ.1
    have hQc := hQ.2.1
    have hQm := hQ.2.2.1
    have hXl := hX.len
    have hXc := hX.cap
    have hXm := hX.max
    have hAl := hA.len
    have hAc := hA.cap
    have hAm := hA.max
    have hPl := hP.1.1
    have hPc := hP.1.2.1
    have hPm := hP.1.2.2.1
    rw [List.length_map] at hAl
    have b0 : Below w.heap.size w (w.alloc (.cells zero32 23)) := (Below.refl _ _).alloc (Nat.le_refl _) _
    have x0 := heap_alloc_new w (.cells zero32 23)
    have hDl : D.length ≤ nQ := by
      have := congrArg List.length hLoc.1
      rw [List.length_append, List.length_append] at this
      omega
    have HQ := Lib.hid hQ; clear hQ
    have HA := Lib.hid hA; clear hA
    have HX := Lib.hid hX; clear hX
    have HP := Lib.hid hP; clear hP
    have HLE := Lib.hid hlen
    have HQL := Lib.hid hQl
    have X0 := Lib.hid x0; clear x0
    by_cases he : Many.inr B f (f + n) = []
    · obtain ⟨g1, g2⟩ := hLoc.none_at he
      have hDn : D.length < nQ := by have := (List.getElem?_eq_some_iff.1 g1).1; omega
      obtain ⟨h, hh⟩ : ∃ h, P[D.length]? = some h := ⟨_, List.getElem?_eq_getElem (by omega)⟩
      have hv : mtopV B X P D.length (Many.inr B 0 f).length f n = h := by unfold mtopV; rw [Many.val_none he, hh]; rfl
      have h32 := HP.out.2 h (List.mem_of_getElem? hh)
      rw [hv]
      obtain ⟨bP, oP', rfl⟩ := HP.out.form (by omega)
      obtain ⟨hbP, hrP⟩ := (HP.out.below (Nat.le_refl _) b0).get hh
      have HRP := Lib.hid hrP; clear hrP hh
      have H32 := Lib.hid h32; clear h32
      have G1 := Lib.hid g1; clear g1
      have G2 := Lib.hid g2; clear g2
      have hPn1 : mP ≤ nQ := by omega
      have hPn2 : nQ ≤ mP := by omega
      clear hv he hLoc ih hlen hQl hXl hAl hPl hXB hPQ
      obtain ⟨k, hk⟩ : ∃ k, k = D.length := ⟨_, rfl⟩
      rw [← hk] at G1 G2 HRP hDn hDl
      clear hk
      go_enter Tryd.func52, Tryd.ntmps52
      go_wp2_with fail
      go_loop [13] (fun v => ∃ i : Nat, i ≤ k ∧ v = .int .i64 (i : Int)) (fun v => k - (intOf v).toNat)
      case atStart => exact ⟨0, by omega, rfl⟩
      case round =>
        obtain ⟨i, hi, rfl⟩ := hrel
        by_cases hlt : i < k
        · obtain ⟨x, hx⟩ : ∃ x, (Many.tops B 0 N)[i]? = some x := ⟨_, List.getElem?_eq_getElem (by rw [HQL.out]; omega)⟩
          obtain ⟨gp, hgp, hrg⟩ := (HQ.out.below b0).range hx
          have hne := G2.out i x hlt hx
          obtain ⟨xa, xb⟩ := x
          simp only at hrg
          have hte := pair_ne hne
          have HR := Lib.hid hrg; clear hrg
          have HT := Lib.hid hte; clear hte hx hne
          subst hgp
          have t1 : decide ((i : Int) < (nQ : Int)) = true := decide_eq_true (by omega)
          have t1' : decide (i < nQ) = true := decide_eq_true (by omega)
          have hiq : (i : Int) < (nQ : Int) := by omega
          go_wp2_with (first | ((with_reducible show wpList _ _ _ (⟨some 25, _, _, _, _, _⟩ :: _) _ _); refine wpList_load_mid (op := ⟨some 25, _, _, _, _, _⟩) rfl 68 _ rfl gp (i * 2) rfl [.int .i64 (xa : Int), .int .i64 (xb : Int)] _ HR.out Tryd.under_pair rfl (by kernel_rfl) ?_) | ((with_reducible show wpList _ _ _ (⟨some 29, _, _, _, _, _⟩ :: _) _ _); refine wpList_eql_pair (op := ⟨some 29, _, _, _, _, _⟩) (by kernel_rfl) _ _ rfl (xa : Int) (xb : Int) (f : Int) (n : Int) rfl rfl ?_; rw [HT.out]))
          go_round
          case rel => exact ⟨i + 1, by omega, by go_num⟩
          case measure => simp [intOf]; omega
        · obtain rfl : i = k := by omega
          obtain ⟨gp, hgp, hrg⟩ := (HQ.out.below b0).range G1.out
          simp only at hrg
          have hte : ((f : Int) == (f : Int) && (n : Int) == (n : Int)) = true := by simp
          obtain ⟨xa, hxa⟩ : ∃ xa, xa = f := ⟨_, rfl⟩
          obtain ⟨xb, hxb⟩ : ∃ xb, xb = n := ⟨_, rfl⟩
          have hrg2 : (w.alloc (.cells zero32 23)).rangeAt gp (i * 2) [.int .i64 (xa : Int), .int .i64 (xb : Int)] := by rw [hxa, hxb]; exact hrg
          have hte2 : ((xa : Int) == (f : Int) && (xb : Int) == (n : Int)) = true := by rw [hxa, hxb]; exact hte
          have HR := Lib.hid hrg2; clear hrg hrg2
          have HT := Lib.hid hte2; clear hte hte2 hxa hxb
          subst hgp
          have t1 : decide ((i : Int) < (nQ : Int)) = true := decide_eq_true (by omega)
          have t1' : decide (i < nQ) = true := decide_eq_true (by omega)
          have hiq : (i : Int) < (nQ : Int) := by omega
          have hip : (i : Int) < (mP : Int) := by omega
          go_wp2_with (first | ((with_reducible show wpList _ _ _ (⟨some 25, _, _, _, _, _⟩ :: _) _ _); refine wpList_load_mid (op := ⟨some 25, _, _, _, _, _⟩) rfl 68 _ rfl gp (i * 2) rfl [.int .i64 (xa : Int), .int .i64 (xb : Int)] _ HR.out Tryd.under_pair rfl (by kernel_rfl) ?_) | ((with_reducible show wpList _ _ _ (⟨some 29, _, _, _, _, _⟩ :: _) _ _); refine wpList_eql_pair (op := ⟨some 29, _, _, _, _, _⟩) (by kernel_rfl) _ _ rfl (xa : Int) (xb : Int) (f : Int) (n : Int) rfl rfl ?_; rw [HT.out]) | ((with_reducible show wpList _ _ _ (⟨some 33, _, _, _, _, _⟩ :: _) _ _); refine wpList_load_hashAt (op := ⟨some 33, _, _, _, _, _⟩) rfl _ rfl bP (oP' + i * 32) rfl h H32.out HRP.out ?_) | ((with_reducible show wpList _ _ _ (⟨none, .store 23 (.tmp 12) (.tmp 33), _, _, _, _⟩ :: _) _ _); change wpList _ _ _ _ _ (World.alloc w (.cells zero32 23)); refine wpList_put_hash (o := ⟨none, .store _ _ _, _, _, _, _⟩) rfl _ _ rfl w.heap.size rfl h H32.out rfl _ _ X0.out zero32_size ?_))
          refine bodyPost_ret (results_hash rfl _ _ _ _ _ _ rfl H32.out (hset_heap _ X0.out)) rfl ⟨rfl, hset_below _ b0 (Nat.le_refl _)⟩
    · have hnot := fun (i : Nat) (x : Nat × Nat) hx => Many.asked_not (N := N) he i x hx
      have HNOT := Lib.hid hnot; clear hnot
      by_cases h2 : 2 ≤ n
      · have k1 := Tree.half_pos h2
        have k2 := Tree.half_lt h2
        have hhc := fun (w : World) => refHalf_nat w n (by omega)
        have hval : mtopV B X P D.length (Many.inr B 0 f).length f n = _ := Many.val_two he h2
        have hil := fun (w1 : World) => ih (Tree.half n) k2 f D _ w1 (hLoc.left he h2)
        have hir := fun (w1 : World) => ih (n - Tree.half n) (by omega) (f + Tree.half n) _ R w1 (hLoc.right he h2)
        have hjs := Many.inr_len_split hB (show f ≤ f + Tree.half n by omega)
        clear ih
        obtain ⟨h, hh⟩ : ∃ h, h = Tree.half n := ⟨_, rfl⟩
        rw [← hh] at k1 k2 hval hjs
        simp only [← hh] at hhc hil hir
        rw [← hjs, ← List.length_append] at hval
        clear hh
        have hLc := fun (w1 : World) (b1 : Below w.heap.size w w1) => hil w1 (by omega) (HA.out.below (Nat.le_refl _) b1) (HX.out.below (Nat.le_refl _) b1) (HQ.out.below b1) (HP.out.below (Nat.le_refl _) b1)
        have hRc := fun (w1 : World) (b1 : Below w.heap.size w w1) => hir w1 (by omega) (HA.out.below (Nat.le_refl _) b1) (HX.out.below (Nat.le_refl _) b1) (HQ.out.below b1) (HP.out.below (Nat.le_refl _) b1)
        clear hil hir
        obtain ⟨SL, hSL⟩ : ∃ SL, SL = mtopV B X P D.length (Many.inr B 0 f).length f h := ⟨_, rfl⟩
        obtain ⟨SR, hSR⟩ : ∃ SR, SR = mtopV B X P (D ++ Many.tops B f h).length (Many.inr B 0 (f + h)).length (f + h) (n - h) := ⟨_, rfl⟩
        have hSLl : SL.length = 32 := by rw [hSL]; exact mtopV_len HP.out.2 _ _ _ _
        have hSRl : SR.length = 32 := by rw [hSR]; exact mtopV_len HP.out.2 _ _ _ _
        have hval2 : mtopV B X P D.length (Many.inr B 0 f).length f n = Tree.node SL SR := by rw [hval, hSL, hSR]; rfl
        simp only [← hSL] at hLc
        simp only [← hSR] at hRc
        rw [hval2]
        have HSL := Lib.hid hSLl; clear hSLl
        have HSR := Lib.hid hSRl; clear hSRl
        have HHC := Lib.hid hhc; clear hhc
        have HLC := Lib.hid hLc; clear hLc
        have HRC := Lib.hid hRc; clear hRc
        clear hval hval2 hjs hSL hSR he hLoc
        have t1n : ((n : Int) == 1) = false := by rw [beq_eq_false_iff_ne]; omega
        have t1n' : (n == 1) = false := by rw [beq_eq_false_iff_ne]; omega
        have e1 : ((f : Int) + (h : Int)) = ((f + h : Nat) : Int) := by omega
        have e2 : ((n : Int) - (h : Int)) = ((n - h : Nat) : Int) := by omega
        have E1 := Lib.hid e1; clear e1
        have E2 := Lib.hid e2; clear e2
        have hhn : (h : Int) ≤ (n : Int) := by omega
        clear hlen hQl hXl hAl hPl hXB hPQ
        go_enter Tryd.func52, Tryd.ntmps52
        go_wp2_with fail
        go_loop [13] (fun v => ∃ i : Nat, i ≤ nQ ∧ v = .int .i64 (i : Int)) (fun v => nQ - (intOf v).toNat)
        case atStart => exact ⟨0, by omega, rfl⟩
        case round =>
          obtain ⟨i, hi, rfl⟩ := hrel
          by_cases hlt : i < nQ
          · obtain ⟨x, hx⟩ : ∃ x, (Many.tops B 0 N)[i]? = some x := ⟨_, List.getElem?_eq_getElem (by rw [HQL.out]; omega)⟩
            obtain ⟨gp, hgp, hrg⟩ := (HQ.out.below b0).range hx
            have hne := HNOT.out i x hx
            obtain ⟨xa, xb⟩ := x
            simp only at hrg
            have hte := pair_ne hne
            have HR := Lib.hid hrg; clear hrg
            have HT := Lib.hid hte; clear hte hx hne
            subst hgp
            have t1 : decide ((i : Int) < (nQ : Int)) = true := decide_eq_true (by omega)
            have t1' : decide (i < nQ) = true := decide_eq_true (by omega)
            have hiq : (i : Int) < (nQ : Int) := by omega
            go_wp2_with (first | ((with_reducible show wpList _ _ _ (⟨some 25, _, _, _, _, _⟩ :: _) _ _); refine wpList_load_mid (op := ⟨some 25, _, _, _, _, _⟩) rfl 68 _ rfl gp (i * 2) rfl [.int .i64 (xa : Int), .int .i64 (xb : Int)] _ HR.out Tryd.under_pair rfl (by kernel_rfl) ?_) | ((with_reducible show wpList _ _ _ (⟨some 29, _, _, _, _, _⟩ :: _) _ _); refine wpList_eql_pair (op := ⟨some 29, _, _, _, _, _⟩) (by kernel_rfl) _ _ rfl (xa : Int) (xb : Int) (f : Int) (n : Int) rfl rfl ?_; rw [HT.out]))
            go_round
            case rel => exact ⟨i + 1, by omega, by go_num⟩
            case measure => simp [intOf]; omega
          · obtain rfl : i = nQ := by omega
            have t1 : decide ((i : Int) < (i : Int)) = false := decide_eq_false (by omega)
            have t1' : decide (i < i) = false := decide_eq_false (by omega)
            go_wp2_with fail
            refine (HHC.out _).mono ?_
            rintro e w' ⟨rfl, rfl⟩
            have hc := HLC.out _ b0
            have HC := Lib.hid hc; clear hc HLC HHC
            go_wp2_with fail
            refine HC.out.mono ?_
            rintro e w2 ⟨rfl, b2⟩
            clear HC
            have B2 := b0.trans (b2.mono b0.size)
            have x2 := (b2.block _ (lt_of_block X0.out)).trans X0.out
            have hc := HRC.out w2 B2
            have HC := Lib.hid hc; clear hc HRC
            go_wp2_with fail
            rw [E1.out, E2.out]
            refine HC.out.mono ?_
            rintro e w3 ⟨rfl, b3⟩
            clear HC
            have B3 := B2.trans (b3.mono B2.size)
            have x3 := (b3.block _ (lt_of_block x2)).trans x2
            have hc := refNode_any w3 SL SR HSL.out HSR.out
            have HC := Lib.hid hc; clear hc
            go_wp2_with fail
            refine HC.out.mono ?_
            rintro e w4 ⟨rfl, b4⟩
            have B4 := B3.trans (b4.mono B3.size)
            have x4 := (b4.block _ (lt_of_block x3)).trans x3
            have X4 := Lib.hid x4; clear x4 x3 x2
            have HNL := Lib.hid (Tree.node_len SL SR)
            go_wp2_with ((with_reducible show wpList _ _ _ (⟨none, .store 23 (.tmp 12) (.tmp 73), _, _, _, _⟩ :: _) _ _); refine wpList_put_hash (o := ⟨none, .store _ _ _, _, _, _, _⟩) rfl _ _ rfl w.heap.size rfl (Tree.node SL SR) HNL.out rfl _ _ X4.out zero32_size ?_)
            refine bodyPost_ret (results_hash rfl _ _ _ _ _ _ rfl HNL.out (hset_heap _ X4.out)) rfl ⟨rfl, hset_below _ B4 (Nat.le_refl _)⟩
      · obtain rfl : n = 1 := by
          rcases n with _ | _ | n
          · exact absurd (Many.inr_empty B (by omega)) he
          · rfl
          · omega
        obtain ⟨g1, g2⟩ := Many.leaf_at hB he
        have hv : mtopV B X P D.length (Many.inr B 0 f).length f 1 = Tree.leaf ((X[(Many.inr B 0 f).length]?).getD []) := Many.val_one he h2
        obtain ⟨k, hk⟩ : ∃ k, k = (Many.inr B 0 f).length := ⟨_, rfl⟩
        rw [← hk] at g1 g2 hv ⊢
        clear hk
        have hkB : k < mA := by have := (List.getElem?_eq_some_iff.1 g1).1; omega
        obtain ⟨l, hl⟩ : ∃ l, X[k]? = some l := ⟨_, List.getElem?_eq_getElem (by omega)⟩
        rw [hl] at hv
        rw [hv]
        simp only [Option.getD_some]
        have hl1 := HLE.out l (List.mem_of_getElem? hl)
        have hkX : k < mX := by omega
        obtain ⟨bX, oX', rfl⟩ := HX.out.form (by omega)
        obtain ⟨bA, oA', rfl⟩ := HA.out.form (by omega)
        have hcl : ∀ o' : Obj, (w.alloc o').cell? ⟨bX, oX' + k, none⟩ = some (.string (strOf l)) := fun o' => (HX.out.below (Nat.le_refl _) ((Below.refl w.heap.size w).alloc (Nat.le_refl _) o')).get hl
        have HCL := Lib.hid hcl; clear hcl hl
        have hgA : ∀ (t a : Nat), B[t]? = some a → ∀ o' : Obj, (w.alloc o').cell? ⟨bA, oA' + t, none⟩ = some (.int .i64 (a : Int)) := fun t a ht o' => (HA.out.below (Nat.le_refl _) ((Below.refl w.heap.size w).alloc (Nat.le_refl _) o')).get (i := t) (a := (a : Int)) (by rw [List.getElem?_map, ht]; rfl)
        have HGA := Lib.hid hgA; clear hgA
        have G1 := Lib.hid g1; clear g1
        have G2 := Lib.hid g2; clear g2
        have HBL : Hid (B.length = mA) := Lib.hid hAl
        clear hv he hLoc ih hlen hQl hXl hAl hPl hXB hPQ h2
        go_enter Tryd.func52, Tryd.ntmps52
        go_wp2_with fail
        go_loop [13] (fun v => ∃ i : Nat, i ≤ nQ ∧ v = .int .i64 (i : Int)) (fun v => nQ - (intOf v).toNat)
        case atStart => exact ⟨0, by omega, rfl⟩
        case round =>
          obtain ⟨i, hi, rfl⟩ := hrel
          by_cases hlt : i < nQ
          · obtain ⟨x, hx⟩ : ∃ x, (Many.tops B 0 N)[i]? = some x := ⟨_, List.getElem?_eq_getElem (by rw [HQL.out]; omega)⟩
            obtain ⟨gp, hgp, hrg⟩ := (HQ.out.below b0).range hx
            have hne := HNOT.out i x hx
            obtain ⟨xa, xb⟩ := x
            simp only at hrg
            have hte := pair_ne hne
            have HR := Lib.hid hrg; clear hrg
            have HT := Lib.hid hte; clear hte hx hne
            subst hgp
            have t1 : decide ((i : Int) < (nQ : Int)) = true := decide_eq_true (by omega)
            have t1' : decide (i < nQ) = true := decide_eq_true (by omega)
            have hiq : (i : Int) < (nQ : Int) := by omega
            go_wp2_with (first | ((with_reducible show wpList _ _ _ (⟨some 25, _, _, _, _, _⟩ :: _) _ _); refine wpList_load_mid (op := ⟨some 25, _, _, _, _, _⟩) rfl 68 _ rfl gp (i * 2) rfl [.int .i64 (xa : Int), .int .i64 (xb : Int)] _ HR.out Tryd.under_pair rfl (by kernel_rfl) ?_) | ((with_reducible show wpList _ _ _ (⟨some 29, _, _, _, _, _⟩ :: _) _ _); refine wpList_eql_pair (op := ⟨some 29, _, _, _, _, _⟩) (by kernel_rfl) _ _ rfl (xa : Int) (xb : Int) (f : Int) ((1 : Nat) : Int) rfl rfl ?_; rw [HT.out]))
            go_round
            case rel => exact ⟨i + 1, by omega, by go_num⟩
            case measure => simp [intOf]; omega
          · obtain rfl : i = nQ := by omega
            have t1 : decide ((i : Int) < (i : Int)) = false := decide_eq_false (by omega)
            have t1' : decide (i < i) = false := decide_eq_false (by omega)
            go_wp2_with fail
            go_loop [14] (fun v => ∃ t : Nat, t ≤ k ∧ v = .int .i64 (t : Int)) (fun v => k - (intOf v).toNat)
            case atStart => exact ⟨0, by omega, rfl⟩
            case round =>
              obtain ⟨t, ht, rfl⟩ := hrel
              have u1 : decide ((t : Int) < (mA : Int)) = true := decide_eq_true (by omega)
              have u1' : decide (t < mA) = true := decide_eq_true (by omega)
              have htm : (t : Int) < (mA : Int) := by omega
              by_cases hlt : t < k
              · obtain ⟨a, ha⟩ : ∃ a, B[t]? = some a := ⟨_, List.getElem?_eq_getElem (by rw [HBL.out]; omega)⟩
                have hne := G2.out t a hlt ha
                have hca := HGA.out t a ha
                have u2 : ((a : Int) == (f : Int)) = false := by rw [beq_eq_false_iff_ne]; omega
                have u2' : (a == f) = false := by rw [beq_eq_false_iff_ne]; exact hne
                clear ha hne
                go_wp2_with fail
                go_round
                case rel => exact ⟨t + 1, by omega, by go_num⟩
                case measure => simp [intOf]; omega
              · obtain rfl : t = k := by omega
                have hca := HGA.out t f G1.out
                have hcl := HCL.out
                have htx : (t : Int) < (mX : Int) := by omega
                have hlf := refLeaf_any (w.alloc (.cells zero32 23)) l hl1
                have HLF := Lib.hid hlf; clear hlf
                go_wp2_with fail
                refine HLF.out.mono ?_
                rintro e w2 ⟨rfl, b2⟩
                have B2 := b0.trans (b2.mono b0.size)
                have x2 := (b2.block _ (lt_of_block X0.out)).trans X0.out
                have X2 := Lib.hid x2; clear x2 hca hcl
                have HNL := Lib.hid (Tree.leaf_len l)
                go_wp2_with ((with_reducible show wpList _ _ _ (⟨none, .store 23 (.tmp 12) (.tmp 52), _, _, _, _⟩ :: _) _ _); refine wpList_put_hash (o := ⟨none, .store _ _ _, _, _, _, _⟩) rfl _ _ rfl w.heap.size rfl (Tree.leaf l) HNL.out rfl _ _ X2.out zero32_size ?_)
                refine bodyPost_ret (results_hash rfl _ _ _ _ _ _ rfl HNL.out (hset_heap _ X2.out)) rfl ⟨rfl, hset_below _ B2 (Nat.le_refl _)⟩

end Go.Proofs.YtgheacegjgaobaaDoor
