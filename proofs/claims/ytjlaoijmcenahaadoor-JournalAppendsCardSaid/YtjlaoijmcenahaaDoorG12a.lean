/- JLaw, in one text. -/
import Derived.Test.YtjlaoijmcenahaaDoorJAwake
/- The walk of the laws' common words. -/
namespace Go.Proofs.YtjlaoijmcenahaaDoor
open Go.RowKit
set_option linter.unusedSimpArgs false
set_option linter.unusedVariables false


theorem strs_le {F : List ByteArray} (h : ∀ s ∈ F, s.size ≤ maxLen) : ∀ l ∈ F.map (fun s => s.data.toList), l.length ≤ 9223372036854775807 := by
  intro l hl
  obtain ⟨s, hs, rfl⟩ := List.mem_map.1 hl
  have := h s hs
  unfold maxLen at this
  rw [bytes_len]; exact this

/-- What records take, at least. -/
def J.least (R : List (List UInt8)) : Nat := (R.map fun l => l.length + 9 + if 127 < l.length then 1 else 0).sum

theorem J.least_succ {R : List (List UInt8)} {j : Nat} {l : List UInt8} (h : R[j]? = some l) : J.least (R.take (j + 1)) = J.least (R.take j) + (l.length + 9 + if 127 < l.length then 1 else 0) := by
  unfold J.least
  rw [List.take_add_one, h, List.map_append, List.sum_append]
  simp

theorem J.least_take (R : List (List UInt8)) (j : Nat) : J.least (R.take j) ≤ J.least R := by
  conv => rhs; rw [← List.take_append_drop j R]
  unfold J.least
  rw [List.map_append, List.sum_append]
  exact Nat.le_add_right _ _

theorem J.least_le (R : List (List UInt8)) : J.least R ≤ (R.map fun t => (J.text t).length + 8).sum := by
  unfold J.least
  induction R with
  | nil => exact Nat.le_refl _
  | cons r R ih =>
    simp only [List.map_cons, List.sum_cons]
    have h1 := J.text_len r
    have h2 := Wire.num_pos r.length
    have h3 := Wire.num_one r.length
    split
    · have : (Wire.num r.length).length ≠ 1 := fun e => by have := h3.1 e; omega
      omega
    · omega

theorem J.least_used (log : List UInt8) : J.least (J.read J.zero log).1 ≤ (J.read J.zero log).2.1 := by
  have h := (J.read_sizes log.length J.zero log (Nat.le_refl _)).2
  have := J.least_le (J.read J.zero log).1
  omega

theorem J.read_first (log : List UInt8) : J.read J.zero (log.take (J.read J.zero log).2.1) = J.read J.zero log := by
  have h := J.read_take log.length J.zero log (Nat.le_refl _) []
  rw [List.append_nil, J.read_nil] at h
  rw [h]; simp

theorem J.cut_first (log : List UInt8) : J.cut log ((J.read J.zero log).2.1 : Int) = log.take (J.read J.zero log).2.1 := by
  have := J.used_le J.zero log
  unfold J.cut
  congr 1
  omega

theorem ownsRow_lower {w : World} {B B' : Nat} {e : TypeId} {z : Nat} {v : Value} {n : Nat} {xs : List Value} (h : w.ownsRow B e z v n xs) (hB : B' ≤ B) : w.ownsRow B' e z v n xs := by
  refine ⟨h.1, ?_⟩
  rcases h.2 with h2 | ⟨g, cap, cur, h1, h2, h3⟩
  · exact .inl h2
  · exact .inr ⟨g, cap, cur, h1, Nat.le_trans hB h2, h3⟩

/-- 'append([]string{}, l...)': a row of one's own. -/
theorem StrsAt.copyO {w : World} {o : Option Addr} {m c b : Nat} {L : List (List UInt8)} (h : StrsAt w o m c L) (hm : m ≤ 1000000) (hb : w.heap[b]? = some (.cells #[] 9 (0, 0))) :
    ∃ v w', (Builtin.append_ #[23, 23] 23 #[.slice (some ⟨b, 0, none⟩) 0 0, .slice o m c]).run Tryd.prog w = .ok v w' ∧ w'.ownsRow b 9 1 v m (L.map fun l => Value.string (strOf l)) ∧ Below w.heap.size w w' := by
  obtain ⟨i, hi, hz0, hz1, hz2⟩ := info_parts Tryd.info_string
  have hlen := h.len
  have hbl := lt_of_block hb
  rcases Nat.eq_zero_or_pos m with rfl | h0
  · obtain rfl := List.eq_nil_of_length_eq_zero hlen
    exact ⟨_, w, run_append_zero w 23 23 9 i _ Tryd.under_strs hi hz0 ⟨b, 0, none⟩ o c, ⟨rfl, .inr ⟨b, 0, #[], rfl, Nat.le_refl _, hb, Nat.le_refl _, by decide, rfl, rfl⟩⟩, Below.refl _ _⟩
  · obtain ⟨b', off, rfl⟩ := h.form h0
    obtain ⟨v', w', h1, h2, h3⟩ := run_append_arg_grows (P := Tryd.prog) w 23 23 9 i (.string ⟨#[]⟩) 1 16 Tryd.under_strs hi hz0 hz1 hz2 rfl (by decide) ⟨b, 0, none⟩ 0 0 [] (by simp) (by simp) ⟨b', off, none⟩ m c (L.map fun l => .string (strOf l)) (by rw [List.length_map, hlen, Nat.mul_one]) (fun j u hu => by
      rw [List.getElem?_map] at hu
      obtain ⟨l, hl, rfl⟩ := Option.map_eq_some_iff.1 hu
      rw [Addr.add_mid]
      exact h.get hl) (by omega) (by unfold maxLen; omega) (by omega)
    rw [Nat.zero_add, List.nil_append] at h2
    exact ⟨v', w', h1, ownsRow_lower h2 (by omega), grown_below h3 (fun k hk => by cases hk) (Nat.le_refl _)⟩

/-- 'append(row, x)' of a row of one's own. -/
theorem StrsAt.snocO {w : World} {base m g : Nat} {v : Value} {L : List (List UInt8)} {x : List UInt8} (h : w.ownsRow base 9 1 v m (L.map fun l => Value.string (strOf l))) (hL : L.length = m) (hm : m ≤ 1000000) (hB : base ≤ w.heap.size) (hg : w.heap[g]? = some (.cells #[.string (strOf x)] 9 (0, 0))) :
    ∃ q c w', (Builtin.append_ #[23, 23] 23 #[v, .slice (some ⟨g, 0, none⟩) 1 1]).run Tryd.prog w = .ok (.slice q (m + 1) c) w' ∧ StrsAt w' q (m + 1) c (L ++ [x]) ∧ w.grownBy w' v.ownBlock := by
  obtain ⟨i, hi, hz0, hz1, hz2⟩ := info_parts Tryd.info_string
  obtain ⟨v', w', h1, h2, h3, -⟩ := run_append_own (P := Tryd.prog) w base 23 23 9 i (.string ⟨#[]⟩) 1 16 Tryd.under_strs hi hz0 hz1 hz2 rfl (by decide) v m _ h ⟨g, 0, none⟩ 1 1 [.string (strOf x)] rfl (cells_row_at hg) (fun u hu => by obtain rfl := List.mem_singleton.1 hu; rfl) (by unfold maxLen; omega) (by omega) hB
  obtain ⟨a, c, rfl⟩ : ∃ a c, v' = .slice a (m + 1) c := by
    rcases h2.2 with ⟨_, h0⟩ | ⟨g', cap, cur, hv, _⟩
    · omega
    · exact ⟨_, _, hv⟩
  refine ⟨a, c, w', h1, StrsAt.of_owns (base := base) (by rw [List.length_append, hL]; rfl) ?_, h3⟩
  rw [List.map_append]
  exact h2

theorem J.cut_take (log : List UInt8) (n : Int) : ∃ c, J.cut log n = log.take c ∧ (J.cut log n).length ≤ log.length := ⟨_, rfl, by unfold J.cut; exact List.length_take_le' _ _⟩

end Go.Proofs.YtjlaoijmcenahaaDoor
