/- The walk of modillionref02.Few. -/
import Derived.Test.YtnohbamjcadfaaaOne
namespace Go.Proofs.Ytnohbamjcadfaaa
open Go.RowKit

def fewOne (f : FieldV) : Bool := decide (f.s.size ≤ 300 ∧ 0 ≤ f.kind ∧ f.kind ≤ 3)
def fewB (F : List FieldV) : Bool := F.all fewOne && decide (F.length ≤ 40)

theorem rows_cell {w : World} {b o : Nat} {f : FieldV} (h : w.rangeAt b o f.cells) :
    w.cell? ⟨b, o, none⟩ = some (.int .i64 f.kind) ∧ w.cell? ⟨b, o + 1, none⟩ = some (.int .i64 f.most) ∧ w.cell? ⟨b, o + 2, none⟩ = some (.int .u64 f.n) ∧
      w.cell? ⟨b, o + 3, none⟩ = some (.int .i64 f.i) ∧ w.cell? ⟨b, o + 4, none⟩ = some (.string f.s) :=
  ⟨h 0 _ rfl, h 1 _ rfl, h 2 _ rfl, h 3 _ rfl, h 4 _ rfl⟩

theorem take_all {α : Type} {p : α → Bool} {F : List α} {k : Nat} {f : α} (hf : F[k]? = some f) (h : (F.take k).all p = true) (hp : p f = true) : (F.take (k + 1)).all p = true := by
  obtain ⟨hlt, rfl⟩ := List.getElem?_eq_some_iff.1 hf
  rw [List.take_succ_eq_append_getElem hlt, List.all_append, h, List.all_cons, hp]
  rfl

set_option maxRecDepth 100000 in
set_option maxHeartbeats 1000000 in
theorem few_any (w : World) (o0 : Option Addr) (len cap : Nat) (F : List FieldV) (hF : RowsAt w o0 len cap 37 FieldV.cells F) :
    Calls Try.prog 24 #[.slice o0 len cap] w fun e w' => w = w' ∧ e = .returned (.bool (fewB F)) := by
  obtain ⟨hlen, hcap, hm, hrows⟩ := hF
  unfold maxLen at hm
  have HLEN := Lib.hid hlen; clear hlen
  go_enter Try.func24, Try.ntmps24
  go_wp2
  go_loop [3] (fun i => ∃ k : Nat, k ≤ len ∧ i = .int .i64 k ∧ Hid ((F.take k).all fewOne = true)) (fun i => len - (intOf i).toNat)
  case atStart => exact ⟨0, by omega, rfl, rfl⟩
  case round =>
    obtain ⟨k, hk, rfl, hall⟩ := hrel
    by_cases hlt : k < len
    · obtain ⟨b, off, rfl, hb, hr⟩ := hrows (by omega)
      obtain ⟨f, hf⟩ : ∃ f, F[k]? = some f := ⟨_, List.getElem?_eq_getElem (by rw [HLEN.out]; exact hlt)⟩
      have hc := rows_cell (hr k f hf)
      have HF := Lib.hid hf; clear hf
      have HR := Lib.hid hr; clear hr
      clear hrows
      obtain ⟨c0, c1, c2, c3, c4⟩ := hc
      by_cases hone : f.s.size ≤ 300 ∧ 0 ≤ f.kind ∧ f.kind ≤ 3
      · obtain ⟨g1, g2, g3⟩ := hone
        go_wp2
        go_round
        case rel => exact ⟨k + 1, by omega, by go_num, take_all HF.out hall (by unfold fewOne; exact decide_eq_true ⟨g1, g2, g3⟩)⟩
        case measure => simp [intOf]; omega
      · have hno : fewB F = false := by
          have hx : fewOne f = false := decide_eq_false hone
          unfold fewB
          rw [Bool.and_eq_false_iff]
          left
          rw [List.all_eq_false]
          exact ⟨f, List.mem_of_getElem? HF.out, by rw [hx]; simp⟩
        have HNO := Lib.hid hno; clear hno
        rcases (show 300 < f.s.size ∨ (f.s.size ≤ 300 ∧ f.kind < 0) ∨ (f.s.size ≤ 300 ∧ 0 ≤ f.kind ∧ 3 < f.kind) by omega) with g | ⟨g, g2⟩ | ⟨g, g2, g3⟩
        all_goals
          clear hone
          go_wp2
          go_ret
          rw [HNO.out]
          exact ⟨rfl, rfl⟩
    · have hkl : k = len := by omega
      have hfin : fewB F = decide ((len : Int) ≤ 40) := by
        have e1 : F.take k = F := List.take_of_length_le (by rw [HLEN.out]; omega)
        have e2 := hall.out
        rw [e1] at e2
        unfold fewB
        rw [e2, Bool.true_and, HLEN.out, Bool.eq_iff_iff]
        simp only [decide_eq_true_eq]; omega
      have HFIN := Lib.hid hfin; clear hfin hkl
      go_wp2
      go_ret
      rw [HFIN.out]
      exact ⟨rfl, rfl⟩
theorem few_one {F : List FieldV} {k : Nat} {f : FieldV} (h : fewB F = true) (hf : F[k]? = some f) : f.s.size ≤ 300 ∧ 0 ≤ f.kind ∧ f.kind ≤ 3 := by
  unfold fewB at h
  rw [Bool.and_eq_true] at h
  have := List.all_eq_true.1 h.1 f (List.mem_of_getElem? hf)
  unfold fewOne at this
  exact of_decide_eq_true this

theorem few_len {F : List FieldV} (h : fewB F = true) : F.length ≤ 40 := by
  unfold fewB at h
  rw [Bool.and_eq_true] at h
  exact of_decide_eq_true h.2

/-- Rows that came in stand in every later world. -/
theorem RowsAt.below {α : Type} {w w' : World} {a0 : Option Addr} {len cap c : Nat} {cells : α → List Value} {F : List α} (h : RowsAt w a0 len cap c cells F) (hb : Below w.heap.size w w') : RowsAt w' a0 len cap c cells F := by
  refine ⟨h.1, h.2.1, h.2.2.1, fun h0 => ?_⟩
  obtain ⟨b, off, h1, h2, h3⟩ := h.2.2.2 h0
  exact ⟨b, off, h1, Nat.lt_of_lt_of_le h2 hb.size, fun i f hf j v hv => (hb.cell (p := ⟨b, _, none⟩) h2).trans (h3 i f hf j v hv)⟩

theorem BelowBut.cellAt {B b c o : Nat} {w w' : World} (h : BelowBut B b w w') (hc : c < B) (hne : c ≠ b) : w'.cell? ⟨c, o, none⟩ = w.cell? ⟨c, o, none⟩ :=
  World.cell?_of_block (a := ⟨c, o, none⟩) (h.block c hc hne)

theorem range_below {w w' : World} {b o : Nat} {cs : List Value} (h : w.rangeAt b o cs) (hb : b < w.heap.size) (hw : Below w.heap.size w w') : w'.rangeAt b o cs :=
  fun j v hv => (hw.cell (p := ⟨b, _, none⟩) hb).trans (h j v hv)

theorem range_row {w : World} {b : Nat} {cs : List Value} {t : TypeId} {fr : Nat × Nat} (h : w.heap[b]? = some (.cells cs.toArray t fr)) : w.rangeAt b 0 cs := by
  intro j v hv
  rw [Nat.zero_add]
  unfold World.cell?
  rw [h]
  simpa using hv

end Go.Proofs.Ytnohbamjcadfaaa
