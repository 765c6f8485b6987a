/- The walk of the reference's sum: modillionref01.Of. -/
import Derived.Test.YtaihojahccplcaaDoorKOf
import Derived.Test.YtaihojahccplcaaDoorKG0b
import Derived.Test.YtaihojahccplcaaDoorKG0a
import Derived.Great.BuildSlice
import Derived.IntWalk
import Derived.Test.YtaihojahccplcaaDoorKRefOf4
import Derived.Test.YtaihojahccplcaaDoorKRefOf5
namespace Go.Proofs.YtaihojahccplcaaDoor
open Go.RowKit
set_option linter.unusedSimpArgs false
set_option linter.unusedVariables false

set_option maxRecDepth 100000 in
set_option maxHeartbeats 4000000 in
theorem refOf_any (w : World) (T : List UInt8) (hlen : T.length ≤ 1000000000) :
    Calls Tryd.prog 56 #[.string (strOf T)] w fun e w' => e = .returned (.string (strOf (Sha.of T))) ∧ Below w.heap.size w w' := by
  obtain ⟨c0, W, hcv, m0, b0, s0⟩ := str_bytes Tryd.under_str Tryd.under_u8s Tryd.under_b8 w T (by omega)
  obtain ⟨v2, w2, hr2, m2, b3, hs2, g2, c2, rfl⟩ := push_one m0 (by omega) _ rfl (by omega) 128 128 rfl
  have B2 := b0.trans b3
  have hs0 : w.heap.size < w2.heap.size := by omega
  have hst := strOf_size T
  clear m0 b0 b3 hs2 s0
  go_enter Tryd.func56, Tryd.ntmps56
  go_wp2_with (at_builtin; refine Lib.wpList_append_run_sl _ rfl _ _ 82 rfl _ _ rfl rfl hr2 ?_)
  clear hr2 hcv
  obtain ⟨n0, hn0⟩ : ∃ n0, n0 = T.length := ⟨_, rfl⟩
  rw [← hn0] at hlen m2 hst ⊢
  have HN0 := Lib.hid hn0; clear hn0
  have hzz : Sha.zeros n0 < 64 := Nat.mod_lt _ (by decide)
  obtain ⟨z0, hz0⟩ : ∃ z0, z0 = Sha.zeros n0 := ⟨_, rfl⟩
  rw [← hz0] at hzz
  have HZ0 := Lib.hid hz0; clear hz0
  have m3 : Mine w2 w.heap.size (.slice (some ⟨g2, 0, none⟩) (n0 + 1) c2) (T ++ [128] ++ List.replicate 0 0) := by rw [List.replicate_zero, List.append_nil]; exact m2
  clear m2
  go_loopw [3] (fun v wr => ∃ n k g cap : Nat, k ≤ z0 ∧ v = .slice (some ⟨g, 0, none⟩) n cap ∧ Hid (n = n0 + 1 + k) ∧ Mine wr w.heap.size (.slice (some ⟨g, 0, none⟩) n cap) (T ++ [128] ++ List.replicate k 0) ∧ w.heap.size < wr.heap.size ∧ Below w.heap.size w wr) (fun v _ => n0 + 100 - sliceLen v)
  case atStart => exact ⟨n0 + 1, 0, g2, c2, by omega, rfl, Lib.hid rfl, m3, by omega, B2⟩
  case round =>
    clear m3 B2
    obtain ⟨n, k, g, cap, hk, rfl, hN, mr, sr, Br⟩ := hrel
    by_cases hlt : k < z0
    · have ht : ((n : Int) % 64 != 56) = true := by
        rw [bne_iff_ne]
        have h1 := hN.out
        have h2 := HZ0.out
        unfold Sha.zeros at h2
        omega
      have hnb : n ≤ 1000000100 := by have := hN.out; omega
      obtain ⟨v2, w2, hr2, m2, b3, hs2, g2, c2, rfl⟩ := push_one mr (by omega) n (by have := hN.out; have := HN0.out; simp; omega) (by omega) 0 0 rfl
      have B2 := Br.trans b3
      clear b3
      go_wp2_with (at_builtin; refine Lib.wpList_append_run_sl _ rfl _ _ 82 rfl _ _ rfl rfl hr2 ?_)
      clear hr2
      go_roundw
      case rel => exact ⟨n + 1, k + 1, g2, c2, by omega, rfl, Lib.hid (by rw [hN.out]; omega), by rw [List.replicate_succ', ← List.append_assoc]; exact m2, by omega, B2⟩
      case measure => have := hN.out; simp [sliceLen]; omega
    · obtain rfl : k = z0 := by omega
      have ht : ((n : Int) % 64 != 56) = false := by
        rw [bne_eq_false_iff_eq]
        have h1 := hN.out
        have h2 := HZ0.out
        unfold Sha.zeros at h2
        omega
      obtain ⟨Z, hZ⟩ : ∃ Z, Z = T ++ [128] ++ List.replicate k 0 := ⟨_, rfl⟩
      have hZl : Z.length = n := by rw [hZ]; have := hN.out; have := HN0.out; simp; omega
      rw [← hZ] at mr
      have HZ := Lib.hid hZ; clear hZ
      have HZL := Lib.hid hZl; clear hZl
      obtain ⟨bs, hbs⟩ : ∃ bs, bs = Sha.be 8 (8 * n0) := ⟨_, rfl⟩
      have hbl : bs.length = 8 := by rw [hbs, Sha.be_len]
      have HBS := Lib.hid hbs; clear hbs
      have HBL := Lib.hid hbl; clear hbl
      have m3 : Mine wr w.heap.size (.slice (some ⟨g, 0, none⟩) (n + 0) cap) (Z ++ bs.take 0) := by rw [List.take_zero, List.append_nil]; exact mr
      have hnb : n ≤ 1000000100 := by have := hN.out; omega
      clear mr
      go_wp2_with fail
      obtain ⟨wo, rfl⟩ : ∃ wo : World, wo = wr := ⟨_, rfl⟩
      go_loopw [3, 5] (fun v i wr => ∃ x : Int, ∃ j g cap : Nat, x + j = 7 ∧ j ≤ 8 ∧ i = .int .i64 x ∧ v = .slice (some ⟨g, 0, none⟩) (n + j) cap ∧ Mine wr w.heap.size (.slice (some ⟨g, 0, none⟩) (n + j) cap) (Z ++ bs.take j) ∧ w.heap.size < wr.heap.size ∧ Below w.heap.size w wr) (fun _ i _ => (intOf i + 1).toNat)
      case atStart => exact ⟨7, 0, g, cap, by omega, by omega, rfl, rfl, m3, sr, Br⟩
      case round =>
        clear m3 sr Br ht hlt hk
        obtain ⟨x, j, g, cap, hx, hj, rfl, rfl, mr, sr, Br⟩ := hrel
        by_cases hlt : j < 8
        · obtain ⟨y, hy⟩ : ∃ y, bs[j]? = some y := ⟨_, List.getElem?_eq_getElem (by rw [HBL.out]; exact hlt)⟩
          obtain ⟨m, rfl⟩ : ∃ m : Nat, x = m := ⟨x.toNat, by omega⟩
          obtain ⟨A, hA⟩ : ∃ A, A = 2 ^ (8 * m) := ⟨_, rfl⟩
          have hA0 : 1 ≤ A := by rw [hA]; exact Nat.two_pow_pos _
          have t1 := fun w => two_any (8 * m) A (by omega) hA w
          have e8 : (((8 * m : Nat)) : Int) = 8 * (m : Int) := by omega
          rw [e8] at t1
          have T1 := Lib.hid t1; clear t1 e8
          obtain ⟨q, hq⟩ : ∃ q, q = 8 * n0 / A := ⟨_, rfl⟩
          have hqb : q ≤ 8000000000 := by rw [hq]; exact Nat.le_trans (Nat.div_le_self _ _) (by omega)
          have hyv : ((8 * (n0 : Int) / (A : Int)).tmod 256 % 256) = (y.toNat : Int) := by
            rw [HBS.out] at hy
            have h1 := byte_at2 n0 j m A q y hy (by omega) hA hq
            rw [show 8 * (n0 : Int) = ((8 * n0 : Nat) : Int) by omega, ← Int.natCast_ediv, ← hq, Int.tmod_eq_emod_of_nonneg (by omega), ← h1]
            omega
          obtain ⟨v2, w2, hr2, m2, b3, hs2, g2, c2, rfl⟩ := push_one mr (by omega) (n + j) (by rw [List.length_append, HZL.out, List.length_take, HBL.out]; omega) (by omega) y _ hyv
          have B2 := Br.trans b3
          have htk : bs.take j ++ [y] = bs.take (j + 1) := by rw [List.take_add_one, hy]; rfl
          rw [List.append_assoc, htk] at m2
          clear b3 htk hy hyv hA hq
          go_wp2_with fail
          refine (T1.out _).mono ?_
          rintro e w' ⟨rfl, rfl⟩
          go_wp2_with (at_builtin; refine Lib.wpList_append_run_sl _ rfl _ _ 82 rfl _ _ rfl rfl hr2 ?_)
          clear hr2
          go_roundw
          case rel => exact ⟨(m : Int) - 1, j + 1, g2, c2, by omega, by omega, rfl, rfl, m2, by omega, B2⟩
          case measure => simp [intOf]
        · obtain rfl : j = 8 := by omega
          obtain rfl : x = -1 := by omega
          obtain ⟨A, hA⟩ : ∃ A, A = Sha.pad T := ⟨_, rfl⟩
          have hA1 : Z ++ bs.take 8 = A := by
            rw [hA, HZ.out, List.take_of_length_le (by rw [HBL.out]; exact Nat.le_refl _), HBS.out]
            unfold Sha.pad
            rw [← HN0.out, ← HZ0.out]
          have hAl : A.length = n + 8 := by rw [← hA1, List.length_append, List.length_take, HBL.out, HZL.out]; rfl
          rw [hA1] at mr
          obtain ⟨N, hN64⟩ : ∃ N, n + 8 = 64 * N := by
            have h1 := (Sha.pad_len T).1
            rw [← hA, hAl] at h1
            exact ⟨(n + 8) / 64, by omega⟩
          have HA := Lib.hid hA; clear hA hA1
          have HAL := Lib.hid hAl; clear hAl
          have HN64 := Lib.hid hN64; clear hN64
          clear hlt hj hx
          rcases mr with ⟨hv0, _⟩ | ⟨g', cap', hv, hgB, hgs, hgc, hgm, hgr, _⟩
          · exact absurd hv0 (by simp)
          obtain ⟨rfl, hlen8, rfl⟩ : g = g' ∧ n + 8 = A.length ∧ cap = cap' := by
            simp only [Value.slice.injEq, Option.some.injEq, Addr.mk.injEq, and_true] at hv
            exact ⟨hv.1, hv.2.1, hv.2.2⟩
          rw [← hlen8] at hgc
          unfold maxLen at hgm
          replace hgs : g < wr.heap.size := hgs (by omega)
          have HGR := Lib.hid hgr; clear hgr
          clear hv hlen8
          go_wp2_with fail
          refine (constants_any _).mono ?_
          rintro e w' ⟨rfl, rfl⟩
          go_wp2_with ((with_reducible show wpList _ _ _ (⟨some 55, _, _, _, _, _⟩ :: _) _ _); refine wpList_buildFlat (o := ⟨some 55, _, _, _, _, _⟩) rfl 102 53 8 _ rfl .u64 (Sha.H0.map fun n : Nat => (n : Int)) Tryd.under_u64s Tryd.size_w64 Tryd.zero_w64 rfl (by decide) (by decide) (by kernel_rfl) ?_)
          change Code.wp _ _ _ _ ((wr.alloc (.cells (uCells Sha.K).toArray 53)).alloc (.cells (uCells Sha.H0).toArray 53))
          obtain ⟨W7, hW7⟩ : ∃ W7, W7 = (wr.alloc (.cells (uCells Sha.K).toArray 53)).alloc (.cells (uCells Sha.H0).toArray 53) := ⟨_, rfl⟩
          rw [← hW7]
          have B7 : Below wr.heap.size wr W7 := by rw [hW7]; exact ((Below.refl _ _).alloc (Nat.le_refl _) _).alloc (by simp) _
          have k7 : W7.heap[wr.heap.size]? = some (.cells (uCells Sha.K).toArray 53 (0, 0)) := by
            rw [hW7, Below.heap_alloc _ _ _ (by simp)]; exact heap_alloc_new wr _
          have h7 : W7.heap[wr.heap.size + 1]? = some (.cells (uCells Sha.H0).toArray 53 (0, 0)) := by
            rw [hW7]; have := heap_alloc_new (wr.alloc (.cells (uCells Sha.K).toArray 53)) (.cells (uCells Sha.H0).toArray 53); simpa using this
          have s7 : wr.heap.size + 1 < W7.heap.size := by rw [hW7]; simp
          have HG7 := Lib.hid (range_kept HGR.out hgs B7)
          have HK7 := Lib.hid (range_row k7)
          have H7 := Lib.hid h7; clear h7 k7 hW7
          have Bw : Below w.heap.size w W7 := Br.trans (B7.mono (by omega))
          obtain ⟨kb, hkb⟩ : ∃ kb, kb = wr.heap.size := ⟨_, rfl⟩
          rw [← hkb] at HK7 H7 s7 hgs sr ⊢
          clear hkb B7 Br HGR
          have hw7 : kb < W7.heap.size := by omega
          have hg7 : g < W7.heap.size := by omega
          go_loopw [8] (fun at8 wr => ∃ j x : Nat, j ≤ N ∧ x = 64 * j ∧ at8 = .int .i64 x ∧ Hid (wr.heap[kb + 1]? = some (.cells (uCells (Sha.after j Sha.H0 A)).toArray 53 (0, 0))) ∧ kb + 1 < wr.heap.size ∧ Below (kb + 1) W7 wr) (fun at8 _ => n + 8 - (intOf at8).toNat)
          case atStart => exact ⟨0, 0, by omega, rfl, rfl, H7, s7, Below.refl _ _⟩
          case round =>
            clear H7 s7
            obtain ⟨j, x, hj, hx, rfl, xh, sr3, Br3⟩ := hrel
            have HX := Lib.hid hx; clear hx
            have hN := HN64.out
            by_cases hlt : j < N
            · have hxb : x + 64 ≤ n + 8 := by have := HX.out; omega
              obtain ⟨H, hH⟩ : ∃ H, H = Sha.after j Sha.H0 A := ⟨_, rfl⟩
              have hHl : H.length = 8 := by rw [hH]; exact Sha.after_len _ _ _ Sha.H0_len
              have hHM : ∀ y ∈ H, y < 4294967296 := by rw [hH]; exact Sha.after_lt _ _ _ Sha.H0_lt
              rw [← hH] at xh
              have HH := Lib.hid hH; clear hH
              have HHL := Lib.hid hHl; clear hHl
              have HHM := Lib.hid hHM; clear hHM
              obtain ⟨p8, hp8⟩ : ∃ p8, p8 = (A.drop x).take 64 := ⟨_, rfl⟩
              have hpl : p8.length = 64 := by rw [hp8, List.length_take, List.length_drop, HAL.out]; omega
              have HP8 := Lib.hid hp8; clear hp8
              have HPL := Lib.hid hpl; clear hpl
              obtain ⟨wq, rfl⟩ : ∃ wq : World, wq = wr := ⟨_, rfl⟩
              clear hN
              have htest : decide ((x : Int) < (n : Int) + 8) = true := decide_eq_true (by omega)
              go_wp2_with fail
              change Code.wp _ _ _ _ (wq.alloc (.cells #[] 53))
              obtain ⟨W8, hW8⟩ : ∃ W8, W8 = wq.alloc (.cells #[] 53) := ⟨_, rfl⟩
              rw [← hW8]
              have B8 : Below wq.heap.size wq W8 := by rw [hW8]; exact (Below.refl _ _).alloc (Nat.le_refl _) _
              have s8 : wq.heap.size < W8.heap.size := by rw [hW8]; simp
              have o8 : W8.ownsRow wq.heap.size 53 1 (.slice (some ⟨wq.heap.size, 0, none⟩) 0 0) 0 (uCells (Sha.wAt p8 0)) := by
                rw [hW8]; exact World.ownsRow_made wq #[] 0 (Nat.le_refl _) (by decide) rfl
              have O8 := Lib.hid o8; clear o8 hW8
              refine refOf_words (fun _ _ _ _ _ h => h) A p8 n g cap x kb W7 wq W8 hnb HAL hgc HG7 hgs hw7 hg7 hxb HP8 HPL sr3 Br3 B8 s8 O8 _ _ _ _ _ _ _ _ _ _ _ _ _ _ _ _ _ _ _ _ _ _ _ _ _ _ _ _ _ _ _ _ _ _ _ _ _ _ _ _ _ _ _ _ _ _ _ _ _ _ _ _ _ _ _ _ _ _ _ _ _ _ _ _ _ _ _ _ _ _ _ _ _ _ _ _ _ _ _ _ _ _ _ _ _ _ _ _ _ _ _ _ _ _ _ _ _ _ _ _ _ _ _ _ _ _ _ _ _ _ _ _ _ _ _ _ _ _ _ _ _ _ _ _ _ _ _ _ _ _ _ _ _ _ _ _ _ _ _ _ _ _ _ _ _ _ _ _ _ _ _ _ _ _ _ _ _ _ _ _ _ _ _ _ _ _ _ _ _ _ _ _ _ _ _ _ _ _ _ _ _ _ _ _ _ _ _ _ _ _ _ _ _ _ _ _ _ _ _ _ _ _ _ _ _ _ _ _ _ _ _ _ _ _ _ _ _ _ _ _ _ _ _ _ _ _ _ _ _ _ _ _ _ _ _ _ _ _ _ _ _ _ _ _ _ _ _ _ _ _ _ _ _ _ _ _ _ _ _ _ _ _ _ _ _ _ _ _ _ _ _ _ _ _ _ _ _ _ _ _ _ _ _ _ _ _ _ _ _ _ _ _ _ _ _ _ _ _ _ _ ?_
              intro gw cw wr esu11 esu12 esu13 esu63 esu64 esu65 esu66 esu67 esu68 esu69 esu70 esu71 esu72 esu73 esu74 esu75 esu76 esu77 esu78 esu79 esu80 esu81 esu82 esu83 esu84 esu85 esu86 esu87 esu88 esu89 esu90 esu91 esu92 esu93 esu94 esu95 esu96 esu97 esu98 esu99 esu100 esu101 esu102 esu103 esu104 esu105 esu106 esu107 esu108 esu109 esu110 esu111 esu112 esu113 esu114 esu115 esu116 esu117 esu118 esu119 esu120 esu121 esu122 esu123 esu124 esu125 esu126 esu127 esu128 esu129 esu130 esu131 esu132 esu133 esu134 esu135 esu136 esu137 esu138 esu139 esu140 esu141 esu142 esu143 esu144 esu145 esu146 esu147 ow sr4 Br4
              clear B8 s8 O8
              obtain ⟨S, hS⟩ : ∃ S, S = Sha.wAt p8 64 := ⟨_, rfl⟩
              have hSl : S.length = 64 := by rw [hS]; exact Sha.wAt_len p8 64
              have hSM : ∀ y ∈ S, y < 4294967296 := by rw [hS]; exact Sha.wAt_lt p8 64
              rw [← hS] at ow
              have HS := Lib.hid hS; clear hS
              have HSL := Lib.hid hSl; clear hSl
              have HSM := Lib.hid hSM; clear hSM
              have hgw := ow.out.lt gw rfl
              have HSz := Lib.hid (own_range ow.out)
              have HKz := Lib.hid (range_kept (range_kept' HK7.out (by omega) Br3) (by omega) Br4)
              have hz := (Br4.block (kb + 1) sr3).trans xh.out
              have Bz : Below (kb + 1) W7 wr := Br3.trans (Br4.mono (by omega))
              obtain ⟨v9, w9, hr9, o9, b9, s9, g9, c9, rfl⟩ := copy_w (w := wr) (l := H) HHL.out hz
              have HZ8 := Lib.hid hz; clear hz
              have r9 := own_range o9
              have hc9 : 8 ≤ c9 ∧ g9 < w9.heap.size ∧ wr.heap.size ≤ g9 := by
                have h1 := o9.lt g9 rfl
                rcases o9.2 with ⟨h0, _⟩ | ⟨_, _, _, h0, _, _, h2, _⟩
                · cases h0
                · simp only [Value.slice.injEq, true_and] at h0
                  exact ⟨by omega, h1.2, h1.1⟩
              have R9 := Lib.hid r9; clear r9 o9
              have hkbz : kb + 1 < wr.heap.size := by omega
              clear Br4 ow
              go_wp2_with (at_builtin; refine Lib.wpList_append_run_sl _ rfl _ _ 102 rfl _ _ rfl rfl hr9 ?_)
              clear hr9
              obtain ⟨wz, rfl⟩ : ∃ wz : World, wz = wr := ⟨_, rfl⟩
              refine refOf_rounds (fun _ _ _ _ _ h => h) S H kb gw cw g9 c9 _ wz _ HHL HHM HSL HSM HKz HSz hkbz hgw hc9 R9 b9 _ _ _ _ _ _ _ _ _ _ _ _ _ _ _ _ _ _ _ _ _ _ _ _ _ _ _ _ _ _ _ _ _ _ _ _ _ _ _ _ _ _ _ _ _ _ _ _ _ _ _ _ _ _ _ _ _ _ _ _ _ _ _ _ _ _ _ _ _ _ _ _ _ _ _ _ _ _ _ _ _ _ _ _ _ _ _ _ _ _ _ _ _ _ _ _ _ _ _ _ _ _ _ _ _ _ _ _ _ _ _ _ _ _ _ _ _ _ _ _ _ _ _ _ _ _ _ _ _ _ _ _ _ _ _ _ _ _ _ _ _ _ _ _ _ _ _ _ _ _ _ _ _ _ _ _ _ _ _ _ _ _ _ _ _ _ _ _ _ _ _ _ _ _ _ _ _ _ _ _ _ _ _ _ _ _ _ _ _ _ _ _ _ _ _ _ _ _ _ _ _ _ _ _ _ _ _ _ _ _ _ _ _ _ _ _ _ _ _ _ _ _ _ _ _ _ _ _ _ _ _ _ _ _ _ _ _ _ _ _ _ _ _ _ _ _ _ _ _ _ _ _ _ _ _ _ _ _ _ _ _ _ _ _ _ _ _ _ _ _ _ _ _ _ _ _ _ _ _ _ _ _ _ _ _ _ _ _ _ _ _ _ _ _ _ _ _ _ _ _ ?_
              intro gv cv wr esu16 esu17 esu18 esu19 esu20 esu21 esu151 esu152 esu153 esu154 esu155 esu156 esu157 esu158 esu159 esu160 esu161 esu162 esu163 esu164 esu165 esu166 esu167 esu168 esu169 esu170 esu171 esu172 esu173 esu174 esu175 esu176 esu177 esu178 esu179 esu180 esu181 esu182 esu183 esu184 esu185 esu186 esu187 esu188 esu189 esu190 esu191 esu192 esu193 esu194 esu195 esu196 esu197 esu198 esu199 esu200 esu201 esu202 esu203 esu204 esu205 esu206 esu207 esu208 esu209 esu210 esu211 esu212 esu213 esu214 esu215 esu216 esu217 esu218 esu219 esu220 esu221 esu222 esu223 esu224 esu225 esu226 esu227 esu228 esu229 esu230 esu231 esu232 esu233 esu234 esu235 esu236 esu237 esu238 esu239 esu240 esu241 esu242 esu243 esu244 esu245 esu246 esu247 esu248 esu249 esu250 hcv rv hgv hgz Br5
              clear R9 hc9 b9 s9
              obtain ⟨V, hV⟩ : ∃ V, V = Sha.rounds S H 64 := ⟨_, rfl⟩
              have hVl : V.length = 8 := by rw [hV]; exact Sha.rounds_len _ _ _ HHL.out
              have hVM : ∀ y ∈ V, y < 4294967296 := by rw [hV]; exact Sha.rounds_lt _ _ _ HHL.out HHM.out
              rw [← hV] at rv
              have HV := Lib.hid hV; clear hV
              have HVL := Lib.hid hVl; clear hVl
              have HVM := Lib.hid hVM; clear hVM
              have hz := (Br5.block (kb + 1) hkbz).trans HZ8.out
              have hz0 : wr.heap[kb + 1]? = some (.cells (uCells (Sha.addTo H V 0)).toArray 53 (0, 0)) := by rw [Sha.addTo_zero]; exact hz
              have HZ0 := Lib.hid hz0; clear hz hz0
              have Bz6 := Bz.trans (Br5.mono (by omega))
              have hs6 : kb + 1 < wr.heap.size := by omega
              clear Br5
              go_wp2_with fail
              obtain ⟨wy, rfl⟩ : ∃ wy : World, wy = wr := ⟨_, rfl⟩
              go_loopw [22] (fun i wr => ∃ t : Nat, t ≤ 8 ∧ i = .int .i64 t ∧ Hid (wr.heap[kb + 1]? = some (.cells (uCells (Sha.addTo H V t)).toArray 53 (0, 0))) ∧ Hid (wr.rangeAt gv 0 (uCells V)) ∧ kb + 1 < wr.heap.size ∧ Below (kb + 1) W7 wr) (fun i _ => 8 - (intOf i).toNat)
              case atStart => exact ⟨0, by omega, rfl, HZ0, rv, hs6, Bz6⟩
              case round =>
                clear HZ0 rv hs6 Bz6
                obtain ⟨t, ht, rfl, x2, rv, hs6, Br6⟩ := hrel
                by_cases ht8 : t < 8
                · obtain ⟨hn, hhn⟩ : ∃ n, H[t]? = some n := ⟨_, List.getElem?_eq_getElem (by rw [HHL.out]; exact ht8)⟩
                  obtain ⟨vn, hvn⟩ : ∃ n, V[t]? = some n := ⟨_, List.getElem?_eq_getElem (by rw [HVL.out]; exact ht8)⟩
                  obtain ⟨ga, gb⟩ := Sha.addTo_get H V t hn vn hhn hvn
                  have mh := HHM.out hn (List.mem_of_getElem? hhn)
                  have mv := HVM.out vn (List.mem_of_getElem? hvn)
                  have c0 := ucell (range_row x2.out) ga
                  have c1 := ucell rv.out hvn
                  have i0 : (0 : Int) ≤ (t : Int) := by omega
                  have i1 : (t : Int) < 8 := by omega
                  have ft8 : decide ((t : Int) < 8) = true := decide_eq_true (by omega)
                  obtain ⟨U, hU⟩ : ∃ U, U = (hn + vn) % 4294967296 := ⟨_, rfl⟩
                  have TC := Lib.hid (cut_sum hn vn U hU)
                  have gb' : (Sha.addTo H V t).set t U = Sha.addTo H V (t + 1) := by rw [hU]; exact gb
                  have GB := Lib.hid gb'; clear gb gb' hU ga hhn hvn
                  go_wp2_with fail
                  refine wp_region_quiet_tail 13 (by kernel_rfl) (by kernel_rfl) ?_
                  simp only [List.take_succ_cons, List.take_zero, List.drop_succ_cons, List.drop_zero]
                  repeat (go_big_quiet_step ((go_at_call 64; with_reducible exact Calls.quiet_of_same (TC.out _))))
                  refine wpQuiet_nil ?_
                  rintro w15 ⟨n15, hw15⟩
                  have y2 := (show w15.heap[kb + 1]? = wr.heap[kb + 1]? by rw [hw15]; rfl).trans x2.out
                  have yv : w15.rangeAt gv 0 (uCells V) := by rw [hw15]; exact rv.out
                  have ys : kb + 1 < w15.heap.size := by rw [hw15]; exact hs6
                  have yb : Below (kb + 1) W7 w15 := by rw [hw15]; exact ⟨Br6.os, Br6.tape, Br6.output, Br6.size, Br6.block⟩
                  have hc : w15.cell? ⟨kb + 1, t, none⟩ = some (.int .u64 (hn : Int)) := by rw [hw15]; exact c0
                  have hf := wfree y2 t
                  have Y2 := Lib.hid y2; clear y2
                  have YV := Lib.hid yv; clear yv
                  clear hw15 c0 c1 x2 rv hs6 Br6
                  go_wp2_with fail
                  go_roundw
                  case rel =>
                    refine ⟨t + 1, by omega, by go_num, Lib.hid ?_, Lib.hid ?_, by simpa using ys, yb.setCell (p := ⟨kb + 1, t, none⟩) (by simp only; omega) _⟩
                    · rw [heap_setCell_same _ _ _ _ _ _ Y2.out, uCells_set, GB.out]
                    · intro j u hu
                      rw [World.cell?_of_block (a := ⟨gv, 0 + j, none⟩) (heap_setCell_other _ _ _ _ (by simp only; omega))]
                      exact YV.out j u hu
                  case measure => simp [intOf]; omega
                · obtain rfl : t = 8 := by omega
                  have hstep : Sha.addTo H V 8 = Sha.after (j + 1) Sha.H0 A := by
                    rw [Sha.addTo_all H V 8 HHL.out HVL.out, HV.out, HS.out, HH.out, HP8.out, HX.out]; rfl
                  have x3 := x2.out
                  rw [hstep] at x3
                  have X3 := Lib.hid x3; clear x3 x2 hstep
                  go_wp2_with fail
                  go_roundw
                  case rel => exact ⟨j + 1, x + 64, by omega, by rw [HX.out]; omega, by go_num, X3, hs6, Br6⟩
                  case measure => have := HX.out; have := HN64.out; simp [intOf]; omega
            · obtain rfl : j = N := by omega
              have hxn : ¬ (x : Int) < (n : Int) + 8 := by have := HX.out; omega
              obtain ⟨H, hH⟩ : ∃ H, H = Sha.after j Sha.H0 A := ⟨_, rfl⟩
              have hHl : H.length = 8 := by rw [hH]; exact Sha.after_len _ _ _ Sha.H0_len
              have hHM : ∀ y ∈ H, y < 4294967296 := by rw [hH]; exact Sha.after_lt _ _ _ Sha.H0_lt
              obtain ⟨O, hO⟩ : ∃ O, O = Sha.of T := ⟨_, rfl⟩
              have hOl : O.length = 32 := by rw [hO]; exact Sha.of_len T
              have hOH : O = (H.map (Sha.be 4)).flatten := by
                rw [hO, Sha.of_eq, ← HA.out, HAL.out, hH, show (n + 8) / 64 = j by omega]
              rw [← hH] at xh
              have HO := Lib.hid hO; clear hO hH
              have HOL := Lib.hid hOl; clear hOl
              have HOH := Lib.hid hOH; clear hOH
              have HHL := Lib.hid hHl; clear hHl
              have HHM := Lib.hid hHM; clear hHM
              have Bw3 := Bw.trans (Br3.mono (by omega))
              clear hN Br3 hlt hj
              go_wp2_with fail
              change Code.wp _ _ _ _ (wr.alloc (.cells #[] 5))
              obtain ⟨W8, hW8⟩ : ∃ W8, W8 = wr.alloc (.cells #[] 5) := ⟨_, rfl⟩
              rw [← hW8]
              have B8 : Below wr.heap.size wr W8 := by rw [hW8]; exact (Below.refl _ _).alloc (Nat.le_refl _) _
              have m8 : Mine W8 wr.heap.size (.slice (some ⟨wr.heap.size, 0, none⟩) 0 0) (O.take 0) :=
                .inr ⟨wr.heap.size, 0, rfl, Nat.le_refl _, fun h => absurd h (by decide), Nat.le_refl _, by decide, fun j u hu => by simp [byteCells] at hu, fun j hj => by simp at hj⟩
              have s8 : wr.heap.size < W8.heap.size := by rw [hW8]; simp
              clear hW8
              obtain ⟨wc, rfl⟩ : ∃ wc : World, wc = wr := ⟨_, rfl⟩
              go_loopw [23, 24] (fun v i wr => ∃ t m g cap : Nat, t ≤ 8 ∧ m = 4 * t ∧ i = .int .i64 t ∧ v = .slice (some ⟨g, 0, none⟩) m cap ∧ Mine wr wc.heap.size (.slice (some ⟨g, 0, none⟩) m cap) (O.take m) ∧ wc.heap.size < wr.heap.size ∧ Below wc.heap.size wc wr) (fun _ i _ => 8 - (intOf i).toNat)
              case atStart => exact ⟨0, 0, wc.heap.size, 0, by omega, rfl, rfl, rfl, m8, s8, B8⟩
              case round =>
                clear m8 s8 B8
                obtain ⟨t, m, g5, c5, ht, hm, rfl, rfl, mo, so, Bo⟩ := hrel
                have HM := Lib.hid hm; clear hm
                by_cases ht8 : t < 8
                · obtain ⟨u, hu⟩ : ∃ u, H[t]? = some u := ⟨_, List.getElem?_eq_getElem (by rw [HHL.out]; exact ht8)⟩
                  have mu := HHM.out u (List.mem_of_getElem? hu)
                  have c0 := ucell (range_kept (range_row xh.out) (by omega) Bo) hu
                  have hbe := be4_of HOH.out hu
                  rw [show 4 * t = m from HM.out.symm] at hbe
                  have HBE := Lib.hid hbe; clear hbe
                  have HU := Lib.hid hu; clear hu
                  have i0 : (0 : Int) ≤ (t : Int) := by omega
                  have i1 : (t : Int) < 8 := by omega
                  have ft8 : decide ((t : Int) < 8) = true := decide_eq_true (by omega)
                  go_wp2_with fail
                  refine wp_region_move_tail 26 (.slice (some ⟨g5, 0, none⟩) m c5) (by kernel_rfl) (by kernel_rfl) (fun _ _ _ h => h) (yields_move (by rfl) _ rfl _ rfl) ?_
                  simp only [List.take_succ_cons, List.take_zero, List.drop_succ_cons, List.drop_zero]
                  go_frame
                  repeat (go_big_quiet_step (fail))
                  refine wpQuiet_nil ?_
                  rintro w5 ⟨nq, hw5⟩
                  have m5 : Mine w5 wc.heap.size (.slice (some ⟨g5, 0, none⟩) m c5) (O.take m) := by rw [hw5]; exact mo
                  have s5 : wc.heap.size < w5.heap.size := by rw [hw5]; exact so
                  have B5 : Below wc.heap.size wc w5 := by rw [hw5]; exact ⟨Bo.os, Bo.tape, Bo.output, Bo.size, Bo.block⟩
                  clear hw5 c0 mo so Bo
                  obtain ⟨v6, w6, hr6, m6, b6, s6, g6, c6, rfl⟩ := push_four m5 (by omega) m (by rw [List.length_take, HOL.out]; have := HM.out; omega) (by have := HM.out; omega) u mu
                  rw [HBE.out] at m6
                  have B6 := B5.trans b6
                  clear m5 b6
                  go_wp2_with (at_builtin; refine Lib.wpList_append_run_sl _ rfl _ _ 82 rfl _ _ rfl rfl hr6 ?_)
                  clear hr6
                  go_roundw
                  case rel => exact ⟨t + 1, m + 4, g6, c6, by omega, by rw [HM.out]; omega, by go_num, rfl, m6, by omega, B6⟩
                  case measure => simp [intOf]; omega
                · obtain rfl : t = 8 := by omega
                  obtain rfl : m = 32 := HM.out
                  rw [List.take_of_length_le (by rw [HOL.out]; exact Nat.le_refl _)] at mo
                  have hcv := mo.string Tryd.under_u8s Tryd.under_b8 Tryd.under_str
                  go_wp2_with fail
                  go_ret
                  exact ⟨congrArg (fun z => Ending.returned (.string (strOf z))) HO.out, Bw3.trans (Bo.mono (by omega))⟩
end Go.Proofs.YtaihojahccplcaaDoor
