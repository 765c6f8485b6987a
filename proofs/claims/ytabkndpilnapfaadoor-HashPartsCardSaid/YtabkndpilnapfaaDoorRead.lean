/- The walk of hash.Read: the sum that a text is. -/
import Derived.Test.YtabkndpilnapfaaDoorMine
import Derived.Test.YtabkndpilnapfaaDoorHex2
import Derived.Test.YtabkndpilnapfaaDoorShelf
import Derived.WalkSpells
import Derived.WalkLawsBesides
import Derived.Laws.BitsAllLaws
namespace Go.Proofs.YtabkndpilnapfaaDoor
open Go.RowKit
set_option linter.unusedSimpArgs false
set_option linter.unusedVariables false

/-- What hash.Read makes of a text. -/
def rdSum (s : List UInt8) : List UInt8 × Int :=
  if s.length = 64 then match Sha.unhex s with
    | some l => (l, 0)
    | none => (List.replicate 32 0, 10)
  else (List.replicate 32 0, 10)

theorem results_row2 {P : Program} {fn : Func} {p u : Tmp} {ty : TypeId} (h : fn.results = #[.cell p ty, .tmp u]) (tmps : Array Value) (w : World) (g : Nat) (t : TypeId) (cs : Array Value) (fr : Nat × Nat) (d : TypeDesc)
    (hp : tmps.getD p undef = .pointer (some ⟨g, 0, none⟩)) (hg : w.heap[g]? = some (.cells cs t fr))
    (hu : P.underlying ty = some d) (hd : (match d with | .struct _ | .array _ _ => true | _ => false) = true) (hi : (P.info? ty).map (·.size) = some cs.size) :
    (results fn tmps).run P w = .ok (.tuple #[.agg cs, tmps.getD u undef]) w := by
  have hp' : tmps[p]?.getD undef = .pointer (some ⟨g, 0, none⟩) := by simpa using hp
  simp [results, h, hp', asAddr, run_loadVar_row w g t ty cs fr d hg hu hd hi]

theorem Tryd.under_r32 : Tryd.prog.underlying 25 = some (.array 32 5) := by kernel_rfl
theorem Tryd.size_r32 : (Tryd.prog.info? 25).map (·.size) = some 32 := by kernel_rfl
theorem Tryd.built_r32 : Tryd.prog.built 25 [] = some zero32 := by kernel_rfl

theorem or_u8 (x n : Nat) (hx : x < 256) (hn : n < 16) : bits BinOp.or IntKind.u8 ((x : Int) * 16 % 256) (n : Int) = ((x * 16 % 256 + n : Nat) : Int) := by
  have e : ((x : Int) * 16 % 256) = ((x * 16 % 256 : Nat) : Int) := by omega
  rw [e, u8_or_nat _ _ (by omega) (by omega), Sha.or_shift x hx n hn]

set_option maxHeartbeats 1000000 in
set_option maxRecDepth 100000 in
theorem read_any (s : List UInt8) (hs : s.length ≤ 9223372036854775807) (w : World) :
    Calls Tryd.prog 16 #[.string (strOf s)] w fun e w' => e = .returned (.tuple #[.agg (byteCells (rdSum s).1).toArray, .int .i64 (rdSum s).2]) ∧ Below w.heap.size w w' := by
  have hst := strOf_size s
  obtain ⟨W, hW⟩ : ∃ W, W = (w.alloc (.cells zero32 25)).alloc (.cells zero32 25) := ⟨_, rfl⟩
  have b0 : Below w.heap.size w W := by rw [hW]; exact ((Below.refl _ _).alloc (Nat.le_refl _) _).alloc (by simp) _
  have x1 : W.heap[w.heap.size]? = some (.cells zero32 25 (0, 0)) := by
    rw [hW, Below.heap_alloc _ _ _ (by simp)]; exact heap_alloc_new w _
  have x2 : W.heap[w.heap.size + 1]? = some (.cells zero32 25 (0, 0)) := by
    rw [hW]; have := heap_alloc_new (w.alloc (.cells zero32 25)) (.cells zero32 25); simpa using this
  have HW := Lib.hid hW; clear hW
  have X1 := Lib.hid x1; clear x1
  have X2 := Lib.hid x2; clear x2
  have HZA : Hid (zero32.all (·.oneCell') = true) := Lib.hid (all_oneCell_toArray (byteCells_one _))
  obtain ⟨R, hR⟩ : ∃ R, R = rdSum s := ⟨_, rfl⟩
  rw [← hR]
  have HR := Lib.hid hR; clear hR
  by_cases h64 : s.length = 64
  · have ht : ((s.length : Int) != 64) = false := by rw [bne_eq_false_iff_eq]; omega
    have HS64 := Lib.hid h64; clear h64
    go_enter Tryd.func16, Tryd.ntmps16
    go_wp2_with fail
    change Code.wp _ _ _ _ ((w.alloc (.cells zero32 25)).alloc (.cells zero32 25))
    rw [← HW.out]
    go_loopw [13] (fun i wr => ∃ t : Nat, t ≤ s.length ∧ i = .int .i64 t ∧ Hid (∀ j, j < t → 0 ≤ Sha.nib (s.getD j 0)) ∧ Hid (wr.heap[w.heap.size + 1]? = some (.cells (byteCells (Sha.accN s t)).toArray 25 (0, 0))) ∧ Hid (wr.heap[w.heap.size]? = some (.cells zero32 25 (0, 0))) ∧ Below w.heap.size w wr) (fun i _ => s.length - (intOf i).toNat)
    case atStart => exact ⟨0, by omega, rfl, Lib.hid (fun j hj => by omega), X2, X1, b0⟩
    case round =>
      clear X1 X2 b0
      obtain ⟨t, ht, rfl, hd, x2, x1, Br⟩ := hrel
      by_cases hlt : t < s.length
      · obtain ⟨x, hx⟩ : ∃ x, s[t]? = some x := ⟨_, List.getElem?_eq_getElem hlt⟩
        have hsx : (strOf s)[t]'(by rw [hst]; exact hlt) = x := by
          have := (List.getElem?_eq_some_iff.1 hx).2
          rw [← this]; simp [strOf, ByteArray.getElem_eq_getElem_data]
        have hxg : s.getD t 0 = x := by rw [List.getD_eq_getElem?_getD, hx]; rfl
        have hnr := Sha.nib_range x
        have hib : Lib.indexByte (⟨#[48, 49, 50, 51, 52, 53, 54, 55, 56, 57, 97, 98, 99, 100, 101, 102]⟩ : ByteArray).data.toList (x.toNat : Int).toNat.toUInt8 = Sha.nib x := by
          have e : (x.toNat : Int).toNat.toUInt8 = x := by rw [Int.toNat_natCast]; exact UInt8.ofNat_toNat
          rw [e]; exact Sha.nib_index x
        have HIB := Lib.hid hib; clear hib
        have HXG := Lib.hid hxg; clear hxg hx
        have h64a : s.length ≤ 64 := Nat.le_of_eq HS64.out
        have h64b : 64 ≤ s.length := Nat.le_of_eq HS64.out.symm
        go_wp2_with fail
        refine (Tryd.strings_IndexByte _ _ _).mono ?_
        rintro e w' ⟨rfl, rfl⟩
        rw [HIB.out]
        by_cases hneg : Sha.nib x < 0
        · have hv : R = (List.replicate 32 0, 10) := by
            rw [HR.out]; unfold rdSum
            rw [if_pos HS64.out, Sha.unhex_none s t hlt (by rw [HS64.out]) (by rw [HXG.out]; exact hneg)]
          have HV := Lib.hid hv; clear hv
          obtain ⟨W2, hW2⟩ : ∃ W2, W2 = w'.setRow w.heap.size zero32 := ⟨_, rfl⟩
          have HW2 := Lib.hid hW2; clear hW2
          go_wp2_with (first | ((with_reducible show wpList _ _ _ (⟨some 22, _, _, _, _, _⟩ :: _) _ _); refine wpList_build0 (o := ⟨some 22, _, _, _, _, _⟩) rfl 25 rfl zero32 Tryd.built_r32 ?_) | ((with_reducible show wpList _ _ _ (⟨none, .store 25 (.tmp 2) (.tmp 22), _, _, _, _⟩ :: _) _ _); refine wpList_store_row (o := ⟨none, .store 25 _ _, _, _, _, _⟩) rfl _ _ _ rfl w.heap.size zero32 rfl rfl _ zero32 x1.out Tryd.size_r32 rfl HZA.out ?_; change wpList _ _ _ _ _ (w'.setRow w.heap.size zero32); rw [← HW2.out]))
          refine bodyPost_ret (results_row2 rfl _ _ _ _ zero32 _ _ rfl (by rw [HW2.out]; exact setRow_heap w' _ _ _ _ _ x1.out) Tryd.under_r32 rfl Tryd.size_r32) rfl ⟨by rw [HV.out]; rfl, ?_⟩
          rw [HW2.out]
          exact below_setRow' Br (Nat.le_refl _)
        · obtain ⟨nb, hnb⟩ : ∃ nb : Nat, Sha.nib x = nb := ⟨(Sha.nib x).toNat, by omega⟩
          have hnb16 : nb < 16 := by omega
          obtain ⟨c, hc⟩ : ∃ c, (Sha.accN s t)[t / 2]? = some c := ⟨_, List.getElem?_eq_getElem (by rw [Sha.accN_len]; omega)⟩
          have hcl := c.toNat_lt
          have hnext : Sha.accN s (t + 1) = (Sha.accN s t).set (t / 2) (UInt8.ofNat (c.toNat * 16 % 256 + nb)) := by
            rw [Sha.accN, HXG.out, hnb, List.getD_eq_getElem?_getD, hc]; rfl
          have hd2 : ∀ j, j < t + 1 → 0 ≤ Sha.nib (s.getD j 0) := by
            intro j hj
            by_cases hjt : j = t
            · rw [hjt, HXG.out, hnb]; omega
            · exact hd.out j (by omega)
          have HD2 := Lib.hid hd2; clear hd2
          have HNX := Lib.hid hnext; clear hnext
          have hcell : w'.cell? ⟨w.heap.size + 1, t / 2, none⟩ = some (.int .u8 (c.toNat : Int)) := by
            have := range_row x2.out (t / 2) _ (byteCells_get hc)
            rwa [Nat.zero_add] at this
          have hfr : w'.frozen? ⟨w.heap.size + 1, t / 2, none⟩ = false := by
            have := x2.out
            simp [World.frozen?, this]
          have hor := or_u8 c.toNat nb hcl hnb16
          have HOR := Lib.hid hor; clear hor
          have i0 : (0 : Int) ≤ (t : Int) / 2 := by omega
          have i1 : (t : Int) / 2 < 32 := by omega
          rw [hnb]
          clear hnb hc hnr hneg
          have ht0 : decide ((nb : Int) < 0) = false := decide_eq_false (by omega)
          go_wp2_with fail
          go_roundw
          case rel =>
            have ev : bits BinOp.or IntKind.u8 ((c.toNat : Int) * 16 % 256) (nb : Int) = ((UInt8.ofNat (c.toNat * 16 % 256 + nb)).toNat : Int) := by
              rw [HOR.out, UInt8.toNat_ofNat']; omega
            rw [ev]
            refine ⟨t + 1, by omega, by go_num, HD2, Lib.hid ?_, Lib.hid ?_, Br.setCell (p := ⟨w.heap.size + 1, t / 2, none⟩) (by simp only; omega) _⟩
            · rw [heap_setCell_same _ _ _ _ _ _ x2.out, byteCells_set, HNX.out]
            · rw [heap_setCell_other _ _ _ _ (by simp only; omega)]; exact x1.out
          case measure => simp [intOf]; omega
      · have htl : t = s.length := by omega
        obtain ⟨l, hl⟩ := Sha.unhex_some 32 s (by rw [HS64.out]) (fun j hj => hd.out j (by rw [htl, HS64.out]; omega))
        have hacc := Sha.acc_all s l HS64.out hl
        have hll := (Sha.hex_unhex 32 s l (by rw [HS64.out]) hl).2
        have hv : R = (l, 0) := by rw [HR.out]; unfold rdSum; rw [if_pos HS64.out, hl]
        have x3 := x2.out
        rw [htl, HS64.out, hacc] at x3
        have X3 := Lib.hid x3; clear x3 x2
        have HV := Lib.hid hv; clear hv
        have hsl : (byteCells l).toArray.size = 32 := by rw [List.size_toArray, byteCells_length, hll]
        have HSL := Lib.hid hsl; clear hsl
        have HLA : Hid ((byteCells l).toArray.all (·.oneCell') = true) := Lib.hid (all_oneCell_toArray (byteCells_one l))
        obtain ⟨W2, hW2⟩ : ∃ W2, W2 = wr.setRow w.heap.size (byteCells l).toArray := ⟨_, rfl⟩
        have HW2 := Lib.hid hW2; clear hW2 hl hacc hll
        subst htl
        go_wp2_with (first | ((with_reducible show wpList _ _ _ (⟨some 35, _, _, _, _, _⟩ :: _) _ _); refine wpList_load_row (o := ⟨some 35, _, _, _, _, _⟩) rfl _ _ rfl (w.heap.size + 1) rfl _ (byteCells l).toArray _ _ X3.out Tryd.under_r32 rfl (by rw [HSL.out]; exact Tryd.size_r32) ?_) | ((with_reducible show wpList _ _ _ (⟨none, .store 25 (.tmp 2) (.tmp 35), _, _, _, _⟩ :: _) _ _); refine wpList_store_row (o := ⟨none, .store 25 _ _, _, _, _, _⟩) rfl _ _ _ rfl w.heap.size (byteCells l).toArray rfl rfl _ zero32 x1.out (by rw [HSL.out]; exact Tryd.size_r32) (by rw [HSL.out]; rfl) HLA.out ?_; change wpList _ _ _ _ _ (wr.setRow w.heap.size (byteCells l).toArray); rw [← HW2.out]))
        refine bodyPost_ret (results_row2 rfl _ _ _ _ (byteCells l).toArray _ _ rfl (by rw [HW2.out]; exact setRow_heap wr _ _ _ _ _ x1.out) Tryd.under_r32 rfl (by rw [HSL.out]; exact Tryd.size_r32)) rfl ⟨by rw [HV.out]; rfl, ?_⟩
        rw [HW2.out]
        exact below_setRow' Br (Nat.le_refl _)
  · have ht : ((s.length : Int) != 64) = true := by rw [bne_iff_ne]; omega
    have hv : R = (List.replicate 32 0, 10) := by rw [HR.out]; unfold rdSum; rw [if_neg h64]
    have HV := Lib.hid hv; clear hv
    obtain ⟨W2, hW2⟩ : ∃ W2, W2 = W.setRow w.heap.size zero32 := ⟨_, rfl⟩
    have HW2 := Lib.hid hW2; clear hW2
    go_enter Tryd.func16, Tryd.ntmps16
    go_wp2_with (first | ((with_reducible show wpList _ _ _ (⟨some 10, _, _, _, _, _⟩ :: _) _ _); change wpList _ _ _ _ _ ((w.alloc (.cells zero32 25)).alloc (.cells zero32 25)); rw [← HW.out]; refine wpList_load_row (o := ⟨some 10, _, _, _, _, _⟩) rfl _ _ rfl (w.heap.size + 1) rfl _ zero32 _ _ X2.out Tryd.under_r32 rfl Tryd.size_r32 ?_) | ((with_reducible show wpList _ _ _ (⟨none, .store 25 (.tmp 2) (.tmp 10), _, _, _, _⟩ :: _) _ _); refine wpList_store_row (o := ⟨none, .store 25 _ _, _, _, _, _⟩) rfl _ _ _ rfl w.heap.size zero32 rfl rfl _ zero32 X1.out Tryd.size_r32 rfl HZA.out ?_; change wpList _ _ _ _ _ (W.setRow w.heap.size zero32); rw [← HW2.out]))
    refine bodyPost_ret (results_row2 rfl _ _ _ _ zero32 _ _ rfl (by rw [HW2.out]; exact setRow_heap W _ _ _ _ _ X1.out) Tryd.under_r32 rfl Tryd.size_r32) rfl ⟨by rw [HV.out]; rfl, ?_⟩
    rw [HW2.out]
    exact below_setRow' b0 (Nat.le_refl _)

end Go.Proofs.YtabkndpilnapfaaDoor
