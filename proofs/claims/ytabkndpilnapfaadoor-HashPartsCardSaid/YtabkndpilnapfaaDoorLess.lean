/- The walks of hash.Less and of the laws' text: sums byte by byte. -/
import Derived.Test.YtabkndpilnapfaaDoorMine
import Derived.Test.YtabkndpilnapfaaDoorHex
import Derived.Lib.BytesEntry
import Derived.Lib.Bytealg
import Derived.Laws.Externs
import Derived.WalkSpells
import Derived.WalkLawsBesides
import Derived.Deep.QuietTactic
import Derived.BigQuiet
namespace Go.Proofs.YtabkndpilnapfaaDoor
open Go.RowKit
set_option linter.unusedSimpArgs false
set_option linter.unusedVariables false

theorem bytesOf_range {P : Program} (w : World) (g cap : Nat) (l : List UInt8) (h : w.rangeAt g 0 (byteCells l)) :
    (Extern.Bytes.bytesOf (.slice (some ⟨g, 0, none⟩) l.length cap)).run P w = .ok (strOf l) w := by
  have h1 := Lib.run_loadBytesX (P := P) w (l.map fun x => (x.toNat : Int)) ⟨g, 0, none⟩ .empty (fun j x hx => by
    rw [Addr.add_mid]
    rw [List.getElem?_map] at hx
    obtain ⟨y, hy, rfl⟩ := Option.map_eq_some_iff.1 hx
    exact h j _ (byteCells_get hy))
  rw [List.length_map] at h1
  show (Extern.Bytes.loadBytes _ l.length .empty).run P w = _
  rw [h1]
  congr 1
  have h2 := Lib.bytesOf_numsL l
  unfold Lib.numsL at h2
  rw [h2]
  unfold strOf
  simp

theorem compareExtern {P : Program} (w : World) (p q c d : Nat) (a b : List UInt8) (ha : w.rangeAt p 0 (byteCells a)) (hb : w.rangeAt q 0 (byteCells b)) :
    (Extern.BytealgCompare.compare #[.slice (some ⟨p, 0, none⟩) a.length c, .slice (some ⟨q, 0, none⟩) b.length d]).run P w = .ok (.int .i64 (Lib.compareBytes a b)) w := by
  change Sem.run P (do pure (goInt (Extern.BytealgCompare.cmp (← Extern.Bytes.bytesOf (.slice (some ⟨p, 0, none⟩) a.length c)) (← Extern.Bytes.bytesOf (.slice (some ⟨q, 0, none⟩) b.length d))))) w = _
  simp only [Sem.run_bind, bytesOf_range w p c a ha, bytesOf_range w q d b hb, Result.andThen, Sem.run_pure]
  rw [Lib.cmp_eq, strOf_list, strOf_list]
  rfl

set_option maxRecDepth 100000 in
theorem bytesCompare_any (w : World) (p q c d : Nat) (a b : List UInt8) (ha : w.rangeAt p 0 (byteCells a)) (hb : w.rangeAt q 0 (byteCells b)) :
    Calls Tryd.prog 29 #[.slice (some ⟨p, 0, none⟩) a.length c, .slice (some ⟨q, 0, none⟩) b.length d] w fun e w' => e = .returned (.int .i64 (Lib.compareBytes a b)) ∧ w' = w := by
  go_enter Tryd.func29, Tryd.ntmps29
  go_wp2
  rw [run_callFunc_extern Tryd.func34 (by kernel_rfl) (by kernel_rfl) (by kernel_rfl) (e := Extern.BytealgCompare.compare) (by kernel_rfl), compareExtern w p q c d a b ha hb]
  simp only [Result.andThen]
  rw [Oper.upon_value]
  go_wp2
  go_ret
  exact ⟨rfl, rfl⟩

/-- One sum ahead of another. -/
def lessB (a b : List UInt8) : Bool := decide (Lib.compareBytes a b < 0)

set_option maxHeartbeats 400000 in
set_option maxRecDepth 100000 in
theorem less_any (a b : List UInt8) (ha : a.length = 32) (hb : b.length = 32) (w : World) :
    Calls Tryd.prog 19 #[.agg (byteCells a).toArray, .agg (byteCells b).toArray] w fun e w' => e = .returned (.bool (lessB a b)) ∧ Below w.heap.size w w' := by
  obtain ⟨W, hW⟩ : ∃ W, W = (w.alloc (.cells (byteCells a).toArray 25)).alloc (.cells (byteCells b).toArray 25) := ⟨_, rfl⟩
  have b0 : Below w.heap.size w W := by rw [hW]; exact ((Below.refl _ _).alloc (Nat.le_refl _) _).alloc (by simp) _
  have x1 : W.heap[w.heap.size]? = some (.cells (byteCells a).toArray 25 (0, 0)) := by
    rw [hW, Below.heap_alloc _ _ _ (by simp)]; exact heap_alloc_new w _
  have x2 : W.heap[w.heap.size + 1]? = some (.cells (byteCells b).toArray 25 (0, 0)) := by
    rw [hW]; have := heap_alloc_new (w.alloc (.cells (byteCells a).toArray 25)) (.cells (byteCells b).toArray 25); simpa using this
  have hc := fun n => bytesCompare_any (W.drewN n) w.heap.size (w.heap.size + 1) 32 32 a b (range_row x1) (range_row x2)
  rw [ha, hb] at hc
  have HC := Lib.hid hc; clear hc x1 x2
  have HW := Lib.hid hW; clear hW
  go_enter Tryd.func19, Tryd.ntmps19
  go_wp2_with fail
  change Code.wp _ _ _ _ ((w.alloc (.cells (byteCells a).toArray 25)).alloc (.cells (byteCells b).toArray 25))
  rw [← HW.out]
  refine wp_region_quiet_lit (by kernel_rfl) (by kernel_rfl) ?_
  repeat (go_big_quiet_step ((go_at_call 29; exact Calls.quiet_of_same (HC.out _))))
  refine wpQuiet_nil ?_
  rintro w3 ⟨nq, rfl⟩
  go_wp2_with fail
  go_ret
  exact ⟨rfl, ⟨b0.os, b0.tape, b0.output, b0.size, b0.block⟩⟩

set_option maxRecDepth 100000 in
theorem text_any (l : List UInt8) (hl : l.length = 32) (w : World) :
    Calls Tryd.prog 12 #[.agg (byteCells l).toArray] w fun e w' => e = .returned (.string (strOf l)) ∧ Below w.heap.size w w' := by
  have hm : Mine (w.alloc (.cells (byteCells l).toArray 25)) w.heap.size (.slice (some ⟨w.heap.size, 0, none⟩) l.length 32) l := by
    refine .inr ⟨w.heap.size, 32, rfl, Nat.le_refl _, fun _ => by simp, by omega, by decide, range_row (heap_alloc_new w _), fun j hj => by omega⟩
  have hcv := hm.string (dst := 9) (show Tryd.prog.underlying 27 = some (.slice 5) by kernel_rfl) (show Tryd.prog.underlying 5 = some (.int .u8) by kernel_rfl) (show Tryd.prog.underlying 9 = some .string by kernel_rfl)
  rw [hl] at hcv
  clear hm
  go_enter Tryd.func12, Tryd.ntmps12
  go_wp2
  go_ret
  exact ⟨rfl, (Below.refl _ _).alloc (Nat.le_refl _) _⟩

end Go.Proofs.YtabkndpilnapfaaDoor
