/- M12, in one text. -/
import Derived.Test.YtgheacegjgaobaaDoorKM11
/- What the laws on many leaves call, whatever comes in; small rows; the walk of pick. -/
namespace Go.Proofs.YtgheacegjgaobaaDoor
open Go.RowKit
set_option linter.unusedSimpArgs false
set_option linter.unusedVariables false

/-- Is it proved, whatever comes in. -/
def checkI (r : List UInt8) (n : Int) (A : List Int) (X P : List (List UInt8)) : Bool := !sizeBad n A && Many.check r n.toNat (A.map Int.toNat) X P
def sizeI (n : Int) (A : List Int) : Nat := if sizeBad n A then 0 else (Many.tops (A.map Int.toNat) 0 n.toNat).length

theorem toNat_back (B : List Nat) : (B.map Int.ofNat).map Int.toNat = B := by
  rw [List.map_map]
  conv => rhs; rw [← List.map_id B]
  apply List.map_congr_left
  intro a _; rfl

/-- What isn't refused. -/
theorem size_good {n : Int} {A : List Int} (h : sizeBad n A = false) : ∃ (k : Nat) (B : List Nat), n = (k : Int) ∧ k ≤ 65536 ∧ A = B.map Int.ofNat ∧ B.Pairwise (· < ·) ∧ ∀ a ∈ B, a < k := by
  unfold sizeBad at h
  simp only [Bool.or_eq_false_iff, decide_eq_false_iff_not, Bool.not_eq_false'] at h
  obtain ⟨h1, h2, h3⟩ := h
  obtain ⟨B, g1, g2, g3⟩ := rises_form h3
  refine ⟨n.toNat, B, by omega, by omega, g1, g2, fun a ha => ?_⟩
  have := g3 a ha
  omega

theorem good_size {k : Nat} {B : List Nat} (hk : k ≤ 65536) (h1 : B.Pairwise (· < ·)) (h2 : ∀ a ∈ B, a < k) : sizeBad (k : Int) (B.map Int.ofNat) = false := by
  unfold sizeBad
  rw [rises_intro h1 (fun a ha => by have := h2 a ha; omega), decide_eq_false (by omega), decide_eq_false (by omega)]
  rfl

theorem checkI_nat {r : List UInt8} {k : Nat} {B : List Nat} {X P : List (List UInt8)} (hk : k ≤ 65536) (h1 : B.Pairwise (· < ·)) (h2 : ∀ a ∈ B, a < k) : checkI r (k : Int) (B.map Int.ofNat) X P = Many.check r k B X P := by
  unfold checkI
  rw [good_size hk h1 h2, toNat_back]
  rfl
theorem sizeI_nat {k : Nat} {B : List Nat} (hk : k ≤ 65536) (h1 : B.Pairwise (· < ·)) (h2 : ∀ a ∈ B, a < k) : sizeI (k : Int) (B.map Int.ofNat) = (Many.tops B 0 k).length := by
  unfold sizeI
  rw [good_size hk h1 h2, toNat_back]
  rfl

theorem manySize_all (w : World) (n : Int) (o : Option Addr) (m c : Nat) (A : List Int) (hA : IntsAt w o m c A) (hm : m ≤ 1000000) (hL : Laid w) :
    Calls Tryd.prog 19 #[.int .i64 n, .slice o m c] w fun e w' => e = .returned (.int .i64 (sizeI n A : Int)) ∧ Below w.heap.size w w' := by
  cases h : sizeBad n A with
  | true =>
    have : sizeI n A = 0 := by unfold sizeI; rw [h]; rfl
    rw [this]
    exact manySize_bad w n o m c A hA h
  | false =>
    obtain ⟨k, B, rfl, hk, rfl, h1, h2⟩ := size_good h
    rw [sizeI_nat hk h1 h2]
    exact manySize_any w k hk o m c B hA hm h1 h2 hL

theorem refMSize_all (w : World) (n : Int) (o : Option Addr) (m c : Nat) (A : List Int) (hA : IntsAt w o m c A) :
    Calls Tryd.prog 24 #[.int .i64 n, .slice o m c] w fun e w' => e = .returned (.int .i64 (sizeI n A : Int)) ∧ Below w.heap.size w w' := by
  cases h : sizeBad n A with
  | true =>
    have : sizeI n A = 0 := by unfold sizeI; rw [h]; rfl
    rw [this]
    exact refMSize_bad w n o m c A hA h
  | false =>
    obtain ⟨k, B, rfl, hk, rfl, h1, h2⟩ := size_good h
    rw [sizeI_nat hk h1 h2]
    exact refMSize_any w k hk o m c B hA h1 h2

theorem manyCheck_all (w : World) (r : List UInt8) (hr32 : r.length = 32) (n : Int) (oA oX o : Option Addr) (mA cA mX cX m c : Nat) (A : List Int) (X P : List (List UInt8)) (hA : IntsAt w oA mA cA A) (hX : StrsAt w oX mX cX X) (hP : HashesAt w o m c P) (hlen : ∀ l ∈ X, l.length ≤ 100000) (hmA : mA ≤ 1000000) (hmX : mX ≤ 1000000) (hm : m ≤ 1000000) (hL : Laid w) :
    Calls Tryd.prog 16 #[.agg (byteCells r).toArray, .int .i64 n, .slice oA mA cA, .slice oX mX cX, .slice o m c] w fun e w' => e = .returned (.bool (checkI r n A X P)) ∧ Below w.heap.size w w' := by
  cases h : sizeBad n A with
  | true =>
    have : checkI r n A X P = false := by unfold checkI; rw [h]; rfl
    rw [this]
    exact manyCheck_bad w r n oA oX o mA cA mX cX m c A hA h
  | false =>
    obtain ⟨k, B, rfl, hk, rfl, h1, h2⟩ := size_good h
    rw [checkI_nat hk h1 h2]
    exact manyCheck_any w r hr32 k hk oA oX o mA cA mX cX m c B X P hA h1 h2 hX hP hlen hmA hmX hm hL

theorem refMCheck_all (w : World) (r : List UInt8) (hr32 : r.length = 32) (n : Int) (oA oX o : Option Addr) (mA cA mX cX m c : Nat) (A : List Int) (X P : List (List UInt8)) (hA : IntsAt w oA mA cA A) (hX : StrsAt w oX mX cX X) (hP : HashesAt w o m c P) (hlen : ∀ l ∈ X, l.length ≤ 100000) (hm : m ≤ 1000000) :
    Calls Tryd.prog 23 #[.agg (byteCells r).toArray, .int .i64 n, .slice oA mA cA, .slice oX mX cX, .slice o m c] w fun e w' => e = .returned (.bool (checkI r n A X P)) ∧ Below w.heap.size w w' := by
  cases h : sizeBad n A with
  | true =>
    have : checkI r n A X P = false := by unfold checkI; rw [h]; rfl
    rw [this]
    exact refMCheck_bad w r n oA oX o mA cA mX cX m c A hA h
  | false =>
    obtain ⟨k, B, rfl, hk, rfl, h1, h2⟩ := size_good h
    rw [checkI_nat hk h1 h2]
    exact refMCheck_any w r hr32 k hk oA oX o mA cA mX cX m c B X P hA h1 h2 hX hP hlen hm

/-- A new row of numbers, of texts. -/
theorem ints_new (w : World) (L : List Int) (k : Nat) (hk : L.length = k) (hk2 : k ≤ 1000) : IntsAt (w.alloc (.cells (L.map fun a => Value.int .i64 a).toArray 3)) (some ⟨w.heap.size, 0, none⟩) k k L := by
  refine ⟨hk, Nat.le_refl _, by unfold maxLen; omega, fun _ => ⟨w.heap.size, 0, rfl, by simp, fun i a ha => ?_⟩⟩
  intro j v hv
  match j, hv with
  | 0, hv =>
    obtain rfl := Option.some.inj hv
    have := range_row (cs := L.map fun a => Value.int .i64 a) (heap_alloc_new w (.cells (L.map fun a => Value.int .i64 a).toArray 3)) i (.int .i64 a) (by simp [ha])
    simpa using this
theorem strs_new (w : World) (L : List (List UInt8)) (k : Nat) (hk : L.length = k) (hk2 : k ≤ 1000) : StrsAt (w.alloc (.cells (L.map fun a => Value.string (strOf a)).toArray 9)) (some ⟨w.heap.size, 0, none⟩) k k L := by
  refine ⟨hk, Nat.le_refl _, by unfold maxLen; omega, fun _ => ⟨w.heap.size, 0, rfl, by simp, fun i a ha => ?_⟩⟩
  intro j v hv
  match j, hv with
  | 0, hv =>
    obtain rfl := Option.some.inj hv
    have := range_row (cs := L.map fun a => Value.string (strOf a)) (heap_alloc_new w (.cells (L.map fun a => Value.string (strOf a)).toArray 9)) i (.string (strOf a)) (by simp [ha])
    simpa using this

theorem StrsAt.of_owns {w : World} {base n c : Nat} {q : Option Addr} {d : List (List UInt8)} (hn : d.length = n) (h : w.ownsRow base 9 1 (.slice q n c) n (d.map fun l => Value.string (strOf l))) : StrsAt w q n c d := by
  have hcell := fun g hg => h.cells (g := g) hg
  rcases h.2 with ⟨hv, h0⟩ | ⟨g, cap, cur, hv, hb, hg, hnc, hcm, _⟩
  · simp only [Value.slice.injEq] at hv
    obtain ⟨rfl, h1, rfl⟩ := hv
    exact ⟨hn, by omega, by decide, fun h => by omega⟩
  · simp only [Value.slice.injEq, true_and] at hv
    obtain ⟨rfl, rfl⟩ := hv
    refine ⟨hn, hnc, hcm, fun _ => ⟨g, 0, rfl, lt_of_block hg, fun i p hp => ?_⟩⟩
    intro j u hu
    match j, hu with
    | 0, hu =>
      obtain rfl := Option.some.inj hu
      have := hcell g rfl i (.string (strOf p)) (by simp [hp])
      rw [Addr.add_mid] at this
      simpa using this

/-- What pick keeps: the leaves so far. -/
theorem pick_succ {L : List (List UInt8)} {B : List Nat} {j a : Nat} {l : List UInt8} (h : B[j]? = some a) (hl : L[a]? = some l) : Many.pick L (B.take (j + 1)) = Many.pick L (B.take j) ++ [l] := by
  unfold Many.pick
  rw [List.take_add_one, h, List.map_append]
  simp [hl]

set_option maxRecDepth 100000 in
set_option maxHeartbeats 4000000 in
theorem pick_any (w : World) (o oA : Option Addr) (m c mA cA : Nat) (L : List (List UInt8)) (B : List Nat) (hS : StrsAt w o m c L) (hA : IntsAt w oA mA cA (B.map Int.ofNat)) (hBn : ∀ a ∈ B, a < m) (hmA : mA ≤ 1000000) :
    Calls Tryd.prog 22 #[.slice o m c, .slice oA mA cA] w fun e w' => ∃ q cc, e = .returned (.slice q mA cc) ∧ StrsAt w' q mA cc (Many.pick L B) ∧ w'.ownsRow w.heap.size 9 1 (.slice q mA cc) mA ((Many.pick L B).map fun l => Value.string (strOf l)) ∧ Below w.heap.size w w' := by
  have hlL := hS.len
  have hcL := hS.cap
  have hxL := hS.max
  have hlA := hA.len
  rw [List.length_map] at hlA
  have hcA := hA.cap
  have hxA := hA.max
  have HS := Lib.hid hS; clear hS
  have HA := Lib.hid hA; clear hA
  have HBN := Lib.hid hBn; clear hBn
  have HLL := Lib.hid hlL; clear hlL
  have HLA := Lib.hid hlA; clear hlA
  obtain ⟨i0, hi, hz0, hz1, hz2⟩ := info_parts Tryd.info_string
  have HI0 := Lib.hid hi; clear hi
  have HZ0 := Lib.hid hz0; clear hz0
  have HZ1 := Lib.hid hz1; clear hz1
  have HZ2 := Lib.hid hz2; clear hz2
  have ho0 : (w.alloc (.cells #[] 9)).ownsRow w.heap.size 9 1 (.slice (some ⟨w.heap.size, 0, none⟩) 0 0) 0 ((Many.pick L (B.take 0)).map fun l => Value.string (strOf l)) := ⟨rfl, .inr ⟨w.heap.size, 0, #[], rfl, Nat.le_refl _, heap_alloc_new w _, Nat.le_refl _, by decide, rfl, rfl⟩⟩
  have HO0 := Lib.hid ho0; clear ho0
  go_enter Tryd.func22, Tryd.ntmps22
  go_wp2_with fail
  go_loopw [5, 6] (fun v u wr => ∃ (j : Nat) (qo : Option Addr) (co : Nat), j ≤ mA ∧ u = .int .i64 (j : Int) ∧ v = .slice qo j co ∧ Hid (wr.ownsRow w.heap.size 9 1 (.slice qo j co) j ((Many.pick L (B.take j)).map fun l => Value.string (strOf l))) ∧ Below w.heap.size w wr) (fun _ u _ => mA - (intOf u).toNat)
  case atStart => exact ⟨0, _, _, by omega, rfl, rfl, HO0, (Below.refl _ _).alloc (Nat.le_refl _) _⟩
  case round =>
    clear HO0
    obtain ⟨j, qo, co, hj, rfl, rfl, HOW, Bw⟩ := hrel
    by_cases hlt : j < mA
    · obtain ⟨a, ha⟩ : ∃ a, B[j]? = some a := ⟨_, List.getElem?_eq_getElem (by rw [HLA.out]; exact hlt)⟩
      have ham := HBN.out a (List.mem_of_getElem? ha)
      obtain ⟨l, hl⟩ : ∃ l, L[a]? = some l := ⟨_, List.getElem?_eq_getElem (by rw [HLL.out]; exact ham)⟩
      obtain ⟨bA, oA', rfl⟩ := HA.out.form (by omega)
      obtain ⟨bS, oS', rfl⟩ := HS.out.form (by omega)
      have hca := (HA.out.below (Nat.le_refl _) Bw).get (i := j) (a := (a : Int)) (by rw [List.getElem?_map, ha]; rfl)
      have hcl := (HS.out.below (Nat.le_refl _) Bw).get hl
      have hps := pick_succ ha hl
      have HPS := Lib.hid hps; clear hps ha hl
      have t1 : decide ((j : Int) < (mA : Int)) = true := decide_eq_true (by omega)
      have t1' : decide (j < mA) = true := decide_eq_true hlt
      have haI : (a : Int) < (m : Int) := by omega
      go_wp2_with (at_builtin; refine wpList_append_own _ rfl _ _ 24 rfl w.heap.size 9 i0 (.string ⟨#[]⟩) 1 16 Tryd.under_strs HI0.out HZ0.out HZ1.out HZ2.out rfl (by decide) _ _ _ rfl (HOW.out.alloc _) ⟨wr.heap.size, 0, none⟩ 1 1 [.string (strOf l)] rfl rfl (cell_one_new _ _ _) (fun u hu => by obtain rfl := List.mem_singleton.1 hu; rfl) (by unfold maxLen; omega) (by omega) (by have := Bw.size; simp; omega) ?_)
      intro v' w5 hown' hgrow _
      have B5 : Below w.heap.size w w5 := (Bw.alloc Bw.size _).trans (grown_below hgrow (fun g' hg' => (HOW.out.lt g' hg').1) (by have := Bw.size; simp; omega))
      have hown2 : w5.ownsRow w.heap.size 9 1 v' (j + 1) ((Many.pick L (B.take (j + 1))).map fun l => Value.string (strOf l)) := by rw [HPS.out, List.map_append]; exact hown'
      rcases hown2.2 with ⟨_, h0⟩ | ⟨g', cp', cur', rfl, hrest⟩
      · omega
      have OW5 := Lib.hid hown2; clear hown2 hown' hrest hgrow HOW
      go_wp2_with fail
      go_roundw
      case rel => exact ⟨j + 1, _, cp', by omega, by go_num, rfl, OW5, B5⟩
      case measure => simp [intOf]; omega
    · obtain rfl : j = mA := by omega
      have htk : B.take j = B := List.take_of_length_le (by rw [HLA.out]; exact Nat.le_refl _)
      have how := HOW.out
      rw [htk] at how
      have HOW2 := Lib.hid how; clear how HOW htk
      have t1 : decide ((j : Int) < (j : Int)) = false := decide_eq_false (by omega)
      go_wp2_with fail
      go_ret
      have hpl : (Many.pick L B).length = j := by rw [← HLA.out]; exact List.length_map ..
      exact ⟨qo, co, rfl, StrsAt.of_owns hpl HOW2.out, HOW2.out, Bw⟩

end Go.Proofs.YtgheacegjgaobaaDoor
