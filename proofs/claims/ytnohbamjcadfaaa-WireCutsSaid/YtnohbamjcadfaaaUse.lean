/- The wire contracts in the form in which the laws use them. -/
import Derived.Test.YtnohbamjcadfaaaAwake
import Derived.Test.YtnohbamjcadfaaaOpen
namespace Go.Proofs.Ytnohbamjcadfaaa
open Go.RowKit

theorem newOut_use (w : World) :
    Calls Try.prog 11 #[] w fun e w' => e = .returned (.pointer (some ⟨w.heap.size, 0, none⟩)) ∧ OutNew w' w.heap.size ∧ Below w.heap.size w w' ∧ w.heap.size < w'.heap.size :=
  (newOut_any w).mono fun e w' ⟨h1, h2⟩ => by
    subst h2
    exact ⟨h1, OutNew.made w, (Below.refl _ _).alloc (Nat.le_refl _) _, by simp⟩

theorem newIn_use (l : List UInt8) (w : World) :
    Calls Try.prog 15 #[.string (strOf l)] w fun e w' => e = .returned (.pointer (some ⟨w.heap.size, 0, none⟩)) ∧ InIs w' w.heap.size l 0 ∧ Below w.heap.size w w' ∧ w.heap.size < w'.heap.size :=
  (newIn_any (strOf l) w).mono fun e w' ⟨h1, h2⟩ => by
    subst h2
    exact ⟨h1, InIs.fresh w l, (Below.refl _ _).alloc (Nat.le_refl _) _, by simp⟩

theorem InIs.below {w w' : World} {b : Nat} {l : List UInt8} {e : Int} (h : InIs w b l e) (hb : Below w.heap.size w w') : InIs w' b l e := h.kept (hb.block b h.lt)
theorem InIs.but {w w' : World} {b c : Nat} {l : List UInt8} {e : Int} (h : InIs w b l e) (hb : BelowBut w.heap.size c w w') (hc : b ≠ c) : InIs w' b l e := h.kept (hb.block b h.lt hc)

theorem str_eta (s : ByteArray) : ∃ l, s = strOf l := ⟨s.data.toList, (strOf_data s).symm⟩

/-- What stands below B while a block from B on is changed. -/
theorem Below.more {B b C : Nat} {w w1 w2 : World} (h : Below B w w1) (h2 : BelowBut C b w1 w2) (hB : B ≤ b) (hC : B ≤ C) : Below B w w2 :=
  h.trans ((h2.mono hC).below hB)

end Go.Proofs.Ytnohbamjcadfaaa
