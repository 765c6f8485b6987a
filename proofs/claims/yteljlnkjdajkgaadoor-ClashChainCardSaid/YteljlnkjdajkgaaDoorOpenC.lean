/- What arguments read as: sums, and rows of cells. -/
import Derived.Test.YteljlnkjdajkgaaDoorMine
import Derived.ProofKit
import Derived.OpenShut
import Derived.ShutString
import Derived.ChangeOld
import Derived.SizedLaws
import Derived.Deep.Slices
import Derived.Deep.MidRow
namespace Go.Proofs.YteljlnkjdajkgaaDoor
open Go.ChangeShapes Go.WideShapes Go.ChangeAt Go.RowKit

section
variable {H : Type} {enc : TypeId × Value → H} {P : Program} {w : World} {base : Nat} {spare : Nat → Bool} {held : Bool} {fuel : Nat} {t : TypeId} {cs : List Value} {x : DataW H × List MemPlace}

theorem wf_u8 {a : Int} (h : (Lit.int .u8 a).wf = true) : 0 ≤ a ∧ a < 256 := by
  have := bounds_u8 h
  omega

/-- A row of bytes, by value. -/
theorem open_bytes {n : Nat} {e : TypeId} (ht : P.underlying t = some (.array n e)) (he : P.underlying e = some (.int .u8)) (hce : P.cellsOf e = 1) (hct : P.cellsOf t = n)
    (h : DataW.trod enc P w base spare held fuel t cs = some x) : ∃ l : List UInt8, l.length = n ∧ cs = byteCells l := by
  obtain ⟨xs, m, _, _, hl, hx, hd⟩ := DataW.trod_array ht h
  rw [hct] at hl
  refine ⟨cs.map fun v => UInt8.ofNat (intOf v).toNat, by simpa using hl, ?_⟩
  apply List.ext_getElem
  · simp [byteCells]
  · intro i h1 h2
    have hi : i < n := by omega
    have := hd i hi
    rw [hce, Nat.mul_one, List.drop_eq_getElem_cons h1, List.take_succ_cons, List.take_zero, List.getElem?_eq_getElem (by omega)] at this
    obtain ⟨a, e0, _, wa⟩ := DataW.trod_int he this
    simp only [List.cons.injEq, and_true] at e0
    simp only [byteCells, List.getElem_map, e0, intOf]
    have := wf_u8 wa
    congr 1
    rw [UInt8.toNat_ofNat']; omega

/-- Rows of c cells: what a slice that came in leads to. -/
def RowsAt {α : Type} (w : World) (a0 : Option Addr) (len cap c : Nat) (cells : α → List Value) (F : List α) : Prop :=
  F.length = len ∧ len ≤ cap ∧ cap ≤ maxLen ∧ (0 < len → ∃ b off, a0 = some ⟨b, off, none⟩ ∧ b < w.heap.size ∧ ∀ i f, F[i]? = some f → w.rangeAt b (off + i * c) (cells f))

theorem addr_add (a : Addr) (h : a.spot = none) (j : Nat) : a.add j = ⟨a.block, a.off + j, none⟩ := by
  obtain ⟨b, o, s⟩ := a
  simp only at h
  subst h
  exact Addr.add_mid b o j

theorem cell_spot {w : World} {a : Addr} {v : Value} (h : w.cell? a = some v) : a.spot = none := by
  unfold World.cell? at h
  split at h
  · split at h
    · cases h
    · rename_i hs; simpa using hs
  · cases h

theorem add_spot_zero (a : Addr) : a.add 0 = a := by simp [Addr.add]

theorem open_rows {α : Type} {e : TypeId} {a0 : Option Addr} {len cap c : Nat} (cells : α → List Value) (ok : α → Prop) (ht : P.underlying t = some (.slice e)) (hce : P.cellsOf e = c) (hc0 : 0 < c)
    (hop : ∀ (n : Nat) (cs : List Value) (y : DataW H × List MemPlace), DataW.trod enc P w base spare held n e cs = some y → ∃ f, ok f ∧ cs = cells f)
    (h : DataW.trod enc P w base spare held fuel t [.slice a0 len cap] = some x) :
    ∃ F : List α, RowsAt w a0 len cap c cells F ∧ ∀ f ∈ F, ok f := by
  rcases Go.Deep.open_slice ht h with ⟨hcs, _⟩ | ⟨a, len', cap', m, n, D, Pl, hcs, _, hl, hm, hmm, _, hx⟩
  · simp only [List.cons.injEq, Value.slice.injEq, and_true] at hcs
    obtain ⟨rfl, rfl, rfl⟩ := hcs
    exact ⟨[], ⟨rfl, Nat.le_refl _, by decide, fun h => absurd h (by decide)⟩, by simp⟩
  · simp only [List.cons.injEq, Value.slice.injEq, and_true] at hcs
    obtain ⟨rfl, rfl, rfl⟩ := hcs
    have hlm : len ≤ m := by rw [hmm]; split <;> omega
    have each : ∀ i, i < len → ∃ f : α, ok f ∧ w.cells? base (a.add (i * c)) c = some (cells f) := by
      intro i hi
      obtain ⟨cs', h1, h2⟩ := hx i (by omega)
      obtain ⟨f, h3, rfl⟩ := hop _ _ _ h2
      rw [hce] at h1
      exact ⟨f, h3, h1⟩
    have hlist : ∀ k, k ≤ len → ∃ F : List α, F.length = k ∧ (∀ f ∈ F, ok f) ∧ ∀ i f, F[i]? = some f → w.cells? base (a.add (i * c)) c = some (cells f) := by
      intro k
      induction k with
      | zero => intro _; exact ⟨[], rfl, by simp, by simp⟩
      | succ k ih =>
        intro hk
        obtain ⟨F, h1, h2, h3⟩ := ih (by omega)
        obtain ⟨f, h4, h5⟩ := each k (by omega)
        refine ⟨F ++ [f], by simp [h1], ?_, ?_⟩
        · intro g hg
          rcases List.mem_append.1 hg with hg | hg
          · exact h2 g hg
          · rw [List.mem_singleton.1 hg]; exact h4
        · intro i g hg
          by_cases hi : i < F.length
          · rw [List.getElem?_append_left hi] at hg; exact h3 i g hg
          · have : i = k := by
              have := (List.getElem?_eq_some_iff.1 hg).1
              simp at this; omega
            subst this
            rw [List.getElem?_append_right (by omega)] at hg
            simp [h1] at hg
            subst hg; exact h5
    obtain ⟨F, h1, h2, h3⟩ := hlist len (Nat.le_refl _)
    refine ⟨F, ⟨h1, hl, hm, fun h0 => ?_⟩, h2⟩
    have hsp : a.spot = none := by
      obtain ⟨f, _, h5⟩ := each 0 h0
      obtain ⟨_, hlen, hcell⟩ := World.cells?_some h5
      have := hcell 0 hc0
      rw [Nat.zero_mul, add_spot_zero, add_spot_zero, List.getElem?_eq_getElem (by omega)] at this
      exact cell_spot this
    have hadd : ∀ i j, (a.add (i * c)).add j = ⟨a.block, a.off + i * c + j, none⟩ := by
      intro i j
      rw [addr_add a hsp, Addr.add_mid]
    refine ⟨a.block, a.off, congrArg some ?_, ?_, ?_⟩
    · obtain ⟨b, o, s⟩ := a
      simp only at hsp
      rw [hsp]
    · obtain ⟨f, _, h5⟩ := each 0 h0
      obtain ⟨_, hlen, hcell⟩ := World.cells?_some h5
      have := hcell 0 hc0
      rw [Nat.zero_mul, add_spot_zero, add_spot_zero, List.getElem?_eq_getElem (by omega)] at this
      exact World.block_lt_of_cell? w a this
    · intro i f hf j v hv
      obtain ⟨_, hlen, hcell⟩ := World.cells?_some (h3 i f hf)
      have hj : j < c := by have := (List.getElem?_eq_some_iff.1 hv).1; omega
      rw [← hadd, hcell j hj]; exact hv
end

theorem bytes_len (s : ByteArray) : s.data.toList.length = s.size := by rw [Array.length_toList]; rfl

/-- A row of one cell. -/
def intCell (k : IntKind) (x : Int) : List Value := [.int k x]
def strCell (s : ByteArray) : List Value := [.string s]

section
variable {H : Type} {enc : TypeId × Value → H} {P : Program} {w : World} {base : Nat} {spare : Nat → Bool} {held : Bool}
theorem open_int1 {k : IntKind} {e : TypeId} (he : P.underlying e = some (.int k)) (n : Nat) (cs : List Value) (y : DataW H × List MemPlace) (h : DataW.trod enc P w base spare held n e cs = some y) : ∃ x : Int, (Lit.int k x).wf = true ∧ cs = intCell k x := by
  obtain ⟨a, e0, _, wa⟩ := DataW.trod_int he h
  exact ⟨a, wa, e0⟩
theorem open_str1 {e : TypeId} (he : P.underlying e = some .string) (n : Nat) (cs : List Value) (y : DataW H × List MemPlace) (h : DataW.trod enc P w base spare held n e cs = some y) : ∃ s : ByteArray, s.size ≤ maxLen ∧ cs = strCell s := by
  obtain ⟨a, e0, _, wa⟩ := DataW.trod_string he h
  exact ⟨a, wa, e0⟩
theorem okWide_array {r : Reach} {base : Nat} {t : TypeId} {n : Nat} {e : TypeId} {v : Value} (ht : P.underlying t = some (.array n e)) (h : Value.okWide P w r base t v) : ∃ cs, v = .agg cs ∧ cs.size = P.cellsOf t := by
  simp only [Value.okWide, ht] at h
  obtain ⟨cs, h1, h2, _⟩ := h
  exact ⟨cs, h1, h2⟩
end

theorem Tryd.under_hash : Tryd.prog.underlying 39 = some (.array 32 5) := by kernel_rfl
theorem Tryd.under_byte : Tryd.prog.underlying 5 = some (.int .u8) := by kernel_rfl
theorem Tryd.under_string : Tryd.prog.underlying 9 = some .string := by kernel_rfl
theorem Tryd.cells_byte : Tryd.prog.cellsOf 5 = 1 := by kernel_rfl
theorem Tryd.cells_hash : Tryd.prog.cellsOf 39 = 32 := by kernel_rfl
theorem Tryd.cells_string : Tryd.prog.cellsOf 9 = 1 := by kernel_rfl
end Go.Proofs.YteljlnkjdajkgaaDoor
