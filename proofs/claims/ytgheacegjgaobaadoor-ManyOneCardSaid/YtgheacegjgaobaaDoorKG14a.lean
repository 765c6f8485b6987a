/- M14, in one text. -/
import Derived.Test.YtgheacegjgaobaaDoorKM13
/- What the laws on many leaves have in common. -/
namespace Go.Proofs.YtgheacegjgaobaaDoor
open Go.RowKit
set_option linter.unusedSimpArgs false
set_option linter.unusedVariables false

theorem strs_le {F : List ByteArray} (h : ∀ s ∈ F, s.size ≤ maxLen) : ∀ l ∈ F.map (fun s => s.data.toList), l.length ≤ 9223372036854775807 := by
  intro l hl
  obtain ⟨f, hf, rfl⟩ := List.mem_map.1 hl
  have := h f hf
  unfold maxLen at this
  rw [show f.data.toList.length = f.size by rw [Array.length_toList]; rfl]
  exact this

theorem wf_i64' {a : Int} (h : (Lit.int .i64 a).wf = true) : -9223372036854775808 ≤ a ∧ a ≤ 9223372036854775807 := by
  have := bounds_i64 h
  omega

theorem wf_u8' {a : Int} (h : (Lit.int .u8 a).wf = true) : 0 ≤ a ∧ a ≤ 255 := by
  simp [Lit.wf] at h
  have h1 : IntKind.u8.min = 0 := by decide
  have h2 : IntKind.u8.max = 255 := by decide
  omega

theorem pick_row (w : World) (o oA : Option Addr) (m c mA cA : Nat) (L : List (List UInt8)) (B : List Nat) (hS : StrsAt w o m c L) (hA : IntsAt w oA mA cA (B.map Int.ofNat)) (hBn : ∀ a ∈ B, a < m) (hmA : mA ≤ 1000000) :
    Calls Tryd.prog 22 #[.slice o m c, .slice oA mA cA] w fun e w' => ∃ q cc, e = .returned (.slice q mA cc) ∧ StrsAt w' q mA cc (Many.pick L B) ∧ Below w.heap.size w w' :=
  (pick_any w o oA m c mA cA L B hS hA hBn hmA).mono fun _ _ ⟨q, c, h1, h2, _, h3⟩ => ⟨q, c, h1, h2, h3⟩

theorem pick_le {L : List (List UInt8)} {B : List Nat} {k : Nat} (h : ∀ l ∈ L, l.length ≤ k) : ∀ l ∈ Many.pick L B, l.length ≤ k := by
  intro l hl
  obtain ⟨a, _, rfl⟩ := List.mem_map.1 hl
  cases hx : L[a]? with
  | none => simp
  | some y => simpa using h y (List.mem_of_getElem? hx)

theorem prove_few (L : List (List UInt8)) (B : List Nat) : (Many.prove L B).length ≤ L.length + 1 := by
  rw [Many.prove_len]; exact (Many.tops_len B _ 0).1

theorem sizeI_zero {n : Int} {A : List Int} (h : risesB n A = false) : ((sizeI n A : Nat) : Int) = 0 := by
  unfold sizeI sizeBad
  rw [h]; simp
theorem IntsAt.of_owns {w : World} {base n c : Nat} {q : Option Addr} {d : List Int} (hn : d.length = n) (h : w.ownsRow base 3 1 (.slice q n c) n (d.map fun l => Value.int .i64 l)) : IntsAt w q n c d := by
  have hcell := fun g hg => h.cells (g := g) hg
  rcases h.2 with ⟨hv, h0⟩ | ⟨g, cap, cur, hv, hb, hg, hnc, hcm, _⟩
  · simp only [Value.slice.injEq] at hv
    obtain ⟨rfl, h1, rfl⟩ := hv
    exact ⟨hn, by omega, by decide, fun h => by omega⟩
  · simp only [Value.slice.injEq, true_and] at hv
    obtain ⟨rfl, rfl⟩ := hv
    refine ⟨hn, hnc, hcm, fun _ => ⟨g, 0, rfl, lt_of_block hg, fun i p hp => ?_⟩⟩
    intro j u hu
    match j, hu with
    | 0, hu =>
      obtain rfl := Option.some.inj hu
      have := hcell g rfl i (.int .i64 p) (by simp [hp])
      rw [Addr.add_mid] at this
      simpa using this


theorem strs_nil {w : World} : StrsAt w none 0 0 [] := ⟨rfl, Nat.le_refl _, by decide, fun h => absurd h (by decide)⟩
theorem ints_nil {w : World} : IntsAt w none 0 0 [] := ⟨rfl, Nat.le_refl _, by decide, fun h => absurd h (by decide)⟩

theorem wpList_load_hashG {ops : Array Oper} {rest : List Oper} {op : Oper} {a : Act} {w : World} {Q : Exit → Act → World → Prop} (hgd : Region.wanted op (yielded ops a.tmps) = true) (x : Operand) (ho : op.op = .load 23 x)
    (g off : Nat) (hx : a.eval x = .pointer (some ⟨g, off, none⟩)) (l : List UInt8) (hl : l.length = 32) (hg : w.rangeAt g off (byteCells l))
    (h : wpList Tryd.prog ops Q rest (a.put op.dst (.agg (byteCells l).toArray)) w) : wpList Tryd.prog ops Q (op :: rest) a w :=
  wpList_step fun _ hK => by
    rw [if_pos hgd]
    exact wp_load_mid 23 x ho g off hx (byteCells l) _ hg Tryd.under_hh rfl (by rw [Tryd.infoH, byteCells_length, hl]) (hK _ _ h)

theorem Many.range_rise (n : Nat) : (List.range n).Pairwise (· < ·) ∧ ∀ a ∈ List.range n, a < n := ⟨List.pairwise_lt_range, fun a h => List.mem_range.1 h⟩
theorem Many.pick_range (l : List (List UInt8)) : Many.pick l (List.range l.length) = l := by
  unfold Many.pick
  apply List.ext_getElem?
  intro i
  rw [List.getElem?_map]
  by_cases h : i < l.length
  · rw [List.getElem?_range h, List.getElem?_eq_getElem h]
    simp [h]
  · rw [List.getElem?_eq_none (by simpa using h), List.getElem?_eq_none (by simpa using h)]; rfl
theorem Many.prove_none (l : List (List UInt8)) : Many.prove l [] = [Tree.top l] := by
  unfold Many.prove
  rw [Many.tops_none rfl]
  simp
theorem Many.prove_all {l : List (List UInt8)} (h : 1 ≤ l.length) : Many.prove l (List.range l.length) = [] := by
  unfold Many.prove
  rw [Many.tops_all _ 0 h (fun a _ h2 => List.mem_range.2 (by omega))]
  rfl
theorem Many.check_all (l : List (List UInt8)) : Many.check (Tree.root l.length (Tree.top l)) l.length (List.range l.length) l (Many.prove l (List.range l.length)) = true := by
  have h := Many.check_prove (l := l) (A := List.range l.length) (Many.range_rise _)
  rwa [Many.pick_range] at h
theorem Many.check_none (l : List (List UInt8)) : Many.check (Tree.root l.length (Tree.top l)) l.length [] [] [Tree.top l] = true := by
  have h := Many.check_prove (l := l) (A := []) ⟨List.Pairwise.nil, fun a h => by cases h⟩
  rwa [Many.prove_none] at h
end Go.Proofs.YtgheacegjgaobaaDoor
