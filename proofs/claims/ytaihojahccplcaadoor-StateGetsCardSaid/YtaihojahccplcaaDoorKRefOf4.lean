/- Loop 4 of the reference's Of: the block's words. -/
import Derived.Test.YtaihojahccplcaaDoorKOf
import Derived.Test.YtaihojahccplcaaDoorKG0b
import Derived.Test.YtaihojahccplcaaDoorKG0a
import Derived.Great.BuildSlice
import Derived.IntWalk
import Derived.Test.YtaihojahccplcaaDoorKRefOf0
namespace Go.Proofs.YtaihojahccplcaaDoor
open Go.RowKit
set_option linter.unusedSimpArgs false
set_option linter.unusedVariables false

set_option maxRecDepth 1000000 in
set_option maxHeartbeats 8000000 in
theorem refOf_words {Q : Exit → Act → World → Prop} (hpan : ∀ v (a : Act) d y w, Q (.panic v) (a.put (some d) y) w → Q (.panic v) a w) (A p8 : List UInt8) (n g cap x kb : Nat) (W7 wq W8 : World) (hnb : n ≤ 1000000100) (HAL : Hid (A.length = n + 8)) (hgc : n + 8 ≤ cap) (HG7 : Hid (W7.rangeAt g 0 (byteCells A))) (hgs : g < kb) (hw7 : kb < W7.heap.size) (hg7 : g < W7.heap.size) (hxb : x + 64 ≤ n + 8) (HP8 : Hid (p8 = List.take 64 (List.drop x A))) (HPL : Hid (p8.length = 64)) (sr3 : kb + 1 < wq.heap.size) (Br3 : Below (kb + 1) W7 wq) (B8 : Below wq.heap.size wq W8) (s8 : wq.heap.size < W8.heap.size) (O8 : Hid (W8.ownsRow wq.heap.size 53 1 (.slice (some ⟨wq.heap.size, 0, none⟩) 0 0) 0 (uCells (Sha.wAt p8 0))))
    (sc0 sc1 sc2 sc4 sc5 sc6 sc7 su11 su12 su13 sc14 sc15 sc16 sc17 sc18 sc19 sc20 sc21 sc22 sc23 sc24 sc25 sc26 sc27 sc28 sc29 sc30 sc31 sc32 sc33 sc34 sc35 sc36 sc37 sc38 sc39 sc40 sc41 sc42 sc43 sc44 sc45 sc46 sc47 sc48 sc49 sc50 sc51 sc52 sc53 sc54 sc55 sc56 sc57 sc58 sc59 sc60 sc61 sc62 su63 su64 su65 su66 su67 su68 su69 su70 su71 su72 su73 su74 su75 su76 su77 su78 su79 su80 su81 su82 su83 su84 su85 su86 su87 su88 su89 su90 su91 su92 su93 su94 su95 su96 su97 su98 su99 su100 su101 su102 su103 su104 su105 su106 su107 su108 su109 su110 su111 su112 su113 su114 su115 su116 su117 su118 su119 su120 su121 su122 su123 su124 su125 su126 su127 su128 su129 su130 su131 su132 su133 su134 su135 su136 su137 su138 su139 su140 su141 su142 su143 su144 su145 su146 su147 sc148 sc149 sc150 sc151 sc152 sc153 sc154 sc155 sc156 sc157 sc158 sc159 sc160 sc161 sc162 sc163 sc164 sc165 sc166 sc167 sc168 sc169 sc170 sc171 sc172 sc173 sc174 sc175 sc176 sc177 sc178 sc179 sc180 sc181 sc182 sc183 sc184 sc185 sc186 sc187 sc188 sc189 sc190 sc191 sc192 sc193 sc194 sc195 sc196 sc197 sc198 sc199 sc200 sc201 sc202 sc203 sc204 sc205 sc206 sc207 sc208 sc209 sc210 sc211 sc212 sc213 sc214 sc215 sc216 sc217 sc218 sc219 sc220 sc221 sc222 sc223 sc224 sc225 sc226 sc227 sc228 sc229 sc230 sc231 sc232 sc233 sc234 sc235 sc236 sc237 sc238 sc239 sc240 sc241 sc242 sc243 sc244 sc245 sc246 sc247 sc248 sc249 sc250 sc251 sc252 sc253 sc254 sc255 sc256 sc257 sc258 sc259 sc260 sc261 sc262 sc263 sc264 sc265 sc266 sc267 sc268 sc269 sc270 sc271 sc272 sc273 sc274 sc275 sc276 sc277 sc278 sc279 sc280 sc281 sc282 sc283 sc284 sc285 sc286 sc287 sc288 sc289 sc290 sc291 sc292 sc293 sc294 sc295 sc296 sc297 sc298 sc299 sc300 sc301 sc302 sc303 : Value)
    (hexit : ∀ (gw cw : Nat) (wr : World) (esu11 esu12 esu13 esu63 esu64 esu65 esu66 esu67 esu68 esu69 esu70 esu71 esu72 esu73 esu74 esu75 esu76 esu77 esu78 esu79 esu80 esu81 esu82 esu83 esu84 esu85 esu86 esu87 esu88 esu89 esu90 esu91 esu92 esu93 esu94 esu95 esu96 esu97 esu98 esu99 esu100 esu101 esu102 esu103 esu104 esu105 esu106 esu107 esu108 esu109 esu110 esu111 esu112 esu113 esu114 esu115 esu116 esu117 esu118 esu119 esu120 esu121 esu122 esu123 esu124 esu125 esu126 esu127 esu128 esu129 esu130 esu131 esu132 esu133 esu134 esu135 esu136 esu137 esu138 esu139 esu140 esu141 esu142 esu143 esu144 esu145 esu146 esu147 : Value), Hid (wr.ownsRow wq.heap.size 53 1 (.slice (some ⟨gw, 0, none⟩) 64 cw) 64 (uCells (Sha.wAt p8 64))) → wq.heap.size < wr.heap.size → Below wq.heap.size wq wr → Q (.exit 6) ⟨List.toArray (sc0 :: sc1 :: sc2 :: (.slice (some ⟨g, 0, none⟩) (n + 8) cap) :: sc4 :: sc5 :: sc6 :: sc7 :: (.int .i64 (x : Int)) :: (.slice (some ⟨gw, 0, none⟩) 64 cw) :: (.int .i64 ((64 : Nat) : Int)) :: esu11 :: esu12 :: esu13 :: sc14 :: sc15 :: sc16 :: sc17 :: sc18 :: sc19 :: sc20 :: sc21 :: sc22 :: sc23 :: sc24 :: sc25 :: sc26 :: sc27 :: sc28 :: sc29 :: sc30 :: sc31 :: sc32 :: sc33 :: sc34 :: sc35 :: sc36 :: sc37 :: sc38 :: sc39 :: sc40 :: sc41 :: sc42 :: sc43 :: sc44 :: sc45 :: sc46 :: sc47 :: sc48 :: sc49 :: sc50 :: sc51 :: sc52 :: sc53 :: sc54 :: sc55 :: sc56 :: sc57 :: sc58 :: sc59 :: sc60 :: sc61 :: sc62 :: esu63 :: esu64 :: esu65 :: esu66 :: esu67 :: esu68 :: esu69 :: esu70 :: esu71 :: esu72 :: esu73 :: esu74 :: esu75 :: esu76 :: esu77 :: esu78 :: esu79 :: esu80 :: esu81 :: esu82 :: esu83 :: esu84 :: esu85 :: esu86 :: esu87 :: esu88 :: esu89 :: esu90 :: esu91 :: esu92 :: esu93 :: esu94 :: esu95 :: esu96 :: esu97 :: esu98 :: esu99 :: esu100 :: esu101 :: esu102 :: esu103 :: esu104 :: esu105 :: esu106 :: esu107 :: esu108 :: esu109 :: esu110 :: esu111 :: esu112 :: esu113 :: esu114 :: esu115 :: esu116 :: esu117 :: esu118 :: esu119 :: esu120 :: esu121 :: esu122 :: esu123 :: esu124 :: esu125 :: esu126 :: esu127 :: esu128 :: esu129 :: esu130 :: esu131 :: esu132 :: esu133 :: esu134 :: esu135 :: esu136 :: esu137 :: esu138 :: esu139 :: esu140 :: esu141 :: esu142 :: esu143 :: esu144 :: esu145 :: esu146 :: esu147 :: sc148 :: sc149 :: sc150 :: sc151 :: sc152 :: sc153 :: sc154 :: sc155 :: sc156 :: sc157 :: sc158 :: sc159 :: sc160 :: sc161 :: sc162 :: sc163 :: sc164 :: sc165 :: sc166 :: sc167 :: sc168 :: sc169 :: sc170 :: sc171 :: sc172 :: sc173 :: sc174 :: sc175 :: sc176 :: sc177 :: sc178 :: sc179 :: sc180 :: sc181 :: sc182 :: sc183 :: sc184 :: sc185 :: sc186 :: sc187 :: sc188 :: sc189 :: sc190 :: sc191 :: sc192 :: sc193 :: sc194 :: sc195 :: sc196 :: sc197 :: sc198 :: sc199 :: sc200 :: sc201 :: sc202 :: sc203 :: sc204 :: sc205 :: sc206 :: sc207 :: sc208 :: sc209 :: sc210 :: sc211 :: sc212 :: sc213 :: sc214 :: sc215 :: sc216 :: sc217 :: sc218 :: sc219 :: sc220 :: sc221 :: sc222 :: sc223 :: sc224 :: sc225 :: sc226 :: sc227 :: sc228 :: sc229 :: sc230 :: sc231 :: sc232 :: sc233 :: sc234 :: sc235 :: sc236 :: sc237 :: sc238 :: sc239 :: sc240 :: sc241 :: sc242 :: sc243 :: sc244 :: sc245 :: sc246 :: sc247 :: sc248 :: sc249 :: sc250 :: sc251 :: sc252 :: sc253 :: sc254 :: sc255 :: sc256 :: sc257 :: sc258 :: sc259 :: sc260 :: sc261 :: sc262 :: sc263 :: sc264 :: sc265 :: sc266 :: sc267 :: sc268 :: sc269 :: sc270 :: sc271 :: sc272 :: sc273 :: sc274 :: sc275 :: sc276 :: sc277 :: sc278 :: sc279 :: sc280 :: sc281 :: sc282 :: sc283 :: sc284 :: sc285 :: sc286 :: sc287 :: sc288 :: sc289 :: sc290 :: sc291 :: sc292 :: sc293 :: sc294 :: sc295 :: sc296 :: sc297 :: sc298 :: sc299 :: sc300 :: sc301 :: sc302 :: sc303 :: []), []⟩ wr) :
    Code.wp Tryd.prog (Code.loop (refBodyIn 0)) Q ⟨List.toArray (sc0 :: sc1 :: sc2 :: (.slice (some ⟨g, 0, none⟩) (n + 8) cap) :: sc4 :: sc5 :: sc6 :: sc7 :: (.int .i64 (x : Int)) :: (.slice (some ⟨wq.heap.size, 0, none⟩) 0 0) :: (.int .i64 0) :: su11 :: su12 :: su13 :: sc14 :: sc15 :: sc16 :: sc17 :: sc18 :: sc19 :: sc20 :: sc21 :: sc22 :: sc23 :: sc24 :: sc25 :: sc26 :: sc27 :: sc28 :: sc29 :: sc30 :: sc31 :: sc32 :: sc33 :: sc34 :: sc35 :: sc36 :: sc37 :: sc38 :: sc39 :: sc40 :: sc41 :: sc42 :: sc43 :: sc44 :: sc45 :: sc46 :: sc47 :: sc48 :: sc49 :: sc50 :: sc51 :: sc52 :: sc53 :: sc54 :: sc55 :: sc56 :: sc57 :: sc58 :: sc59 :: sc60 :: sc61 :: sc62 :: su63 :: su64 :: su65 :: su66 :: su67 :: su68 :: su69 :: su70 :: su71 :: su72 :: su73 :: su74 :: su75 :: su76 :: su77 :: su78 :: su79 :: su80 :: su81 :: su82 :: su83 :: su84 :: su85 :: su86 :: su87 :: su88 :: su89 :: su90 :: su91 :: su92 :: su93 :: su94 :: su95 :: su96 :: su97 :: su98 :: su99 :: su100 :: su101 :: su102 :: su103 :: su104 :: su105 :: su106 :: su107 :: su108 :: su109 :: su110 :: su111 :: su112 :: su113 :: su114 :: su115 :: su116 :: su117 :: su118 :: su119 :: su120 :: su121 :: su122 :: su123 :: su124 :: su125 :: su126 :: su127 :: su128 :: su129 :: su130 :: su131 :: su132 :: su133 :: su134 :: su135 :: su136 :: su137 :: su138 :: su139 :: su140 :: su141 :: su142 :: su143 :: su144 :: su145 :: su146 :: su147 :: sc148 :: sc149 :: sc150 :: sc151 :: sc152 :: sc153 :: sc154 :: sc155 :: sc156 :: sc157 :: sc158 :: sc159 :: sc160 :: sc161 :: sc162 :: sc163 :: sc164 :: sc165 :: sc166 :: sc167 :: sc168 :: sc169 :: sc170 :: sc171 :: sc172 :: sc173 :: sc174 :: sc175 :: sc176 :: sc177 :: sc178 :: sc179 :: sc180 :: sc181 :: sc182 :: sc183 :: sc184 :: sc185 :: sc186 :: sc187 :: sc188 :: sc189 :: sc190 :: sc191 :: sc192 :: sc193 :: sc194 :: sc195 :: sc196 :: sc197 :: sc198 :: sc199 :: sc200 :: sc201 :: sc202 :: sc203 :: sc204 :: sc205 :: sc206 :: sc207 :: sc208 :: sc209 :: sc210 :: sc211 :: sc212 :: sc213 :: sc214 :: sc215 :: sc216 :: sc217 :: sc218 :: sc219 :: sc220 :: sc221 :: sc222 :: sc223 :: sc224 :: sc225 :: sc226 :: sc227 :: sc228 :: sc229 :: sc230 :: sc231 :: sc232 :: sc233 :: sc234 :: sc235 :: sc236 :: sc237 :: sc238 :: sc239 :: sc240 :: sc241 :: sc242 :: sc243 :: sc244 :: sc245 :: sc246 :: sc247 :: sc248 :: sc249 :: sc250 :: sc251 :: sc252 :: sc253 :: sc254 :: sc255 :: sc256 :: sc257 :: sc258 :: sc259 :: sc260 :: sc261 :: sc262 :: sc263 :: sc264 :: sc265 :: sc266 :: sc267 :: sc268 :: sc269 :: sc270 :: sc271 :: sc272 :: sc273 :: sc274 :: sc275 :: sc276 :: sc277 :: sc278 :: sc279 :: sc280 :: sc281 :: sc282 :: sc283 :: sc284 :: sc285 :: sc286 :: sc287 :: sc288 :: sc289 :: sc290 :: sc291 :: sc292 :: sc293 :: sc294 :: sc295 :: sc296 :: sc297 :: sc298 :: sc299 :: sc300 :: sc301 :: sc302 :: sc303 :: []), []⟩ W8 := by
  conv => arg 2; arg 1; whnf
  go_loopw [9, 10] (fun v i wr => ∃ t gw cw : Nat, t ≤ 64 ∧ i = .int .i64 t ∧ v = .slice (some ⟨gw, 0, none⟩) t cw ∧ Hid (wr.ownsRow wq.heap.size 53 1 (.slice (some ⟨gw, 0, none⟩) t cw) t (uCells (Sha.wAt p8 t))) ∧ wq.heap.size < wr.heap.size ∧ Below wq.heap.size wq wr) (fun _ i _ => 64 - (intOf i).toNat)
  case atStart => exact ⟨0, wq.heap.size, 0, by omega, rfl, rfl, O8, s8, B8⟩
  case round =>
    clear O8 s8 B8
    obtain ⟨t, gw, cw, ht, rfl, rfl, ow, sr4, Br4⟩ := hrel
    by_cases ht64 : t < 64
    · have ft64 : decide ((t : Int) < 64) = true := decide_eq_true (by omega)
      by_cases ht16 : t < 16
      · obtain ⟨q0, h0⟩ : ∃ q : Nat, q = (p8.getD (4 * t) 0).toNat := ⟨_, rfl⟩
        obtain ⟨q1, h1⟩ : ∃ q : Nat, q = (p8.getD (4 * t + 1) 0).toNat := ⟨_, rfl⟩
        obtain ⟨q2, h2⟩ : ∃ q : Nat, q = (p8.getD (4 * t + 2) 0).toNat := ⟨_, rfl⟩
        obtain ⟨q3, h3⟩ : ∃ q : Nat, q = (p8.getD (4 * t + 3) 0).toNat := ⟨_, rfl⟩
        have hb := fun (i : Nat) (hi : i < 64) => ref_byte (wr := wr) HG7.out hg7 Br3 (by omega) Br4 (by omega) HP8.out (by rw [HPL.out]; exact hi) (i := i)
        have c0 : wr.cell? ⟨g, x + 4 * t, none⟩ = some (.int .u8 (q0 : Int)) := by rw [h0]; exact hb (4 * t) (by omega)
        have c1 : wr.cell? ⟨g, x + 4 * t + 1, none⟩ = some (.int .u8 (q1 : Int)) := by rw [h1]; exact hb (4 * t + 1) (by omega)
        have c2 : wr.cell? ⟨g, x + 4 * t + 2, none⟩ = some (.int .u8 (q2 : Int)) := by rw [h2]; exact hb (4 * t + 2) (by omega)
        have c3 : wr.cell? ⟨g, x + 4 * t + 3, none⟩ = some (.int .u8 (q3 : Int)) := by rw [h3]; exact hb (4 * t + 3) (by omega)
        have l0 : q0 < 256 := by rw [h0]; exact UInt8.toNat_lt _
        have l1 : q1 < 256 := by rw [h1]; exact UInt8.toNat_lt _
        have l2 : q2 < 256 := by rw [h2]; exact UInt8.toNat_lt _
        have l3 : q3 < 256 := by rw [h3]; exact UInt8.toNat_lt _
        have hw : q0 * 16777216 + q1 * 65536 + q2 * 256 + q3 = Sha.word (p8.drop (4 * t)) := by
          unfold Sha.word
          rw [h0, h1, h2, h3]
          simp only [List.getD_eq_getElem?_getD, List.getElem?_drop, Nat.add_zero]
        have HW := Lib.hid hw; clear hw h0 h1 h2 h3 hb
        have hsub : x + 4 * t + 4 - (x + 4 * t) = 4 := by omega
        go_wp2_with fail
        refine wp_region_move_tail 22 (.slice (some ⟨gw, 0, none⟩) t cw) (by kernel_rfl) (by kernel_rfl) (fun _ _ _ h => hpan _ _ _ _ _ h) (yields_move (by rfl) _ rfl _ rfl) ?_
        simp only [List.take_succ_cons, List.take_zero, List.drop_succ_cons, List.drop_zero]
        go_frame
        repeat (go_big_quiet_step (fail))
        refine wpQuiet_nil ?_
        rintro w5 ⟨nq, hw5⟩
        have B5 : Below wq.heap.size wq w5 := by rw [hw5]; exact ⟨Br4.os, Br4.tape, Br4.output, Br4.size, Br4.block⟩
        have o5 : w5.ownsRow wq.heap.size 53 1 (.slice (some ⟨gw, 0, none⟩) t cw) t (uCells (Sha.wAt p8 t)) := by rw [hw5]; exact ow.out
        have s5 : wq.heap.size < w5.heap.size := by rw [hw5]; exact sr4
        obtain ⟨v6, w6, hr6, o6, b6, s6, g6, c6, rfl⟩ := push_w t o5 (by omega) (by omega) (q0 * 16777216 + q1 * 65536 + q2 * 256 + q3) ((q0 : Int) * 16777216 + (q1 : Int) * 65536 + (q2 : Int) * 256 + (q3 : Int)) (by omega)
        rw [HW.out, ← Sha.wAt_word p8 t ht16] at o6
        have B6 := B5.trans b6
        have O6 := Lib.hid o6; clear o6 o5 b6 hw5 ow c0 c1 c2 c3
        go_wp2_with (at_builtin; refine Lib.wpList_append_run_sl _ rfl _ _ 102 rfl _ _ rfl rfl hr6 ?_)
        clear hr6
        go_roundw
        case rel => exact ⟨t + 1, g6, c6, by omega, by go_num, rfl, O6, by omega, B6⟩
        case measure => simp [intOf]; omega
      · obtain ⟨V, hV⟩ : ∃ V, V = Sha.wAt p8 t := ⟨_, rfl⟩
        have hvl : V.length = t := by rw [hV]; exact Sha.wAt_len p8 t
        have hvM : ∀ y ∈ V, y < 4294967296 := by rw [hV]; exact Sha.wAt_lt p8 t
        rw [← hV] at ow
        have hget : ∀ i, i < t → ∃ n, n < 4294967296 ∧ V.getD i 0 = n ∧ V[i]? = some n := by
          intro i hi
          refine ⟨V[i]'(by omega), hvM _ (List.getElem_mem _), ?_, List.getElem?_eq_getElem (by omega)⟩
          rw [List.getD_eq_getElem?_getD, List.getElem?_eq_getElem (by omega)]; rfl
        obtain ⟨n15, m15, g15, k15⟩ := hget (t - 15) (by omega)
        obtain ⟨n16, m16, g16, k16⟩ := hget (t - 16) (by omega)
        obtain ⟨n7, m7, g7, k7⟩ := hget (t - 7) (by omega)
        obtain ⟨n2, m2, g2', k2⟩ := hget (t - 2) (by omega)
        have hr := own_range ow.out
        have d15 := ucell hr k15
        have d2 := ucell hr k2
        have HR := Lib.hid hr; clear hr
        have HV := Lib.hid hV; clear hV
        have K16 := Lib.hid k16; clear k16
        have K7 := Lib.hid k7; clear k7
        have G15 := Lib.hid g15; clear g15
        have G16 := Lib.hid g16; clear g16
        have G7 := Lib.hid g7; clear g7
        have G2 := Lib.hid g2'; clear g2'
        have HVL := Lib.hid hvl; clear hvl
        clear hget hvM k15 k2
        have i15 : IntKind.i64.wrap ((t : Int) - 15) = (t : Int) - 15 := IntWalk.i64_in _ (by omega)
        have i2 : IntKind.i64.wrap ((t : Int) - 2) = (t : Int) - 2 := IntWalk.i64_in _ (by omega)
        have j15 : (0 : Int) ≤ (t : Int) - 15 := by omega
        have j2 : (0 : Int) ≤ (t : Int) - 2 := by omega
        have l15 : (t : Int) - 15 < (t : Int) := by omega
        have l2 : (t : Int) - 2 < (t : Int) := by omega
        have ft16 : decide ((t : Int) < 16) = false := decide_eq_false (by omega)
        go_wp2_with fail
        refine wp_region_quiet_lit (by kernel_rfl) (by kernel_rfl) ?_
        repeat (go_big_quiet_step (fail))
        refine wpQuiet_nil ?_
        rintro w5 ⟨nq, hw5⟩
        have B5 : Below wq.heap.size wq w5 := by rw [hw5]; exact ⟨Br4.os, Br4.tape, Br4.output, Br4.size, Br4.block⟩
        have o5 : w5.ownsRow wq.heap.size 53 1 (.slice (some ⟨gw, 0, none⟩) t cw) t (uCells V) := by rw [hw5]; exact ow.out
        have s5 : wq.heap.size < w5.heap.size := by rw [hw5]; exact sr4
        have hr5 := own_range o5
        have e16 := ucell hr5 K16.out
        have e7 := ucell hr5 K7.out
        have O5 := Lib.hid o5; clear o5 hr5 hw5 ow d15 d2 HR i15 i2 j15 j2 l15 l2 Br4 sr4
        have i16 : IntKind.i64.wrap ((t : Int) - 16) = (t : Int) - 16 := IntWalk.i64_in _ (by omega)
        have i7 : IntKind.i64.wrap ((t : Int) - 7) = (t : Int) - 7 := IntWalk.i64_in _ (by omega)
        have j16 : (0 : Int) ≤ (t : Int) - 16 := by omega
        have j7 : (0 : Int) ≤ (t : Int) - 7 := by omega
        have l16 : (t : Int) - 16 < (t : Int) := by omega
        have l7 : (t : Int) - 7 < (t : Int) := by omega
        have T7 := Lib.hid (fun w => rturn_any n15 7 (by decide) m15 w)
        have T18 := Lib.hid (fun w => rturn_any n15 18 (by decide) m15 w)
        have T17 := Lib.hid (fun w => rturn_any n2 17 (by decide) m2 w)
        have T19 := Lib.hid (fun w => rturn_any n2 19 (by decide) m2 w)
        obtain ⟨z, hz, hzM⟩ := next_val n16 n7 n15 n2 m16 m7 m15 m2
        have HZ := Lib.hid hz; clear hz
        have HZM := Lib.hid hzM; clear hzM
        have TC := Lib.hid (fun w => cut_any z w)
        go_wp2_with fail
        refine wp_region_move_tail 30 (.slice (some ⟨gw, 0, none⟩) t cw) (by kernel_rfl) (by kernel_rfl) (fun _ _ _ h => hpan _ _ _ _ _ h) (yields_move (by rfl) _ rfl _ rfl) ?_
        simp only [List.take_succ_cons, List.take_zero, List.drop_succ_cons, List.drop_zero]
        go_frame
        repeat (go_big_quiet_step (first | (go_at_call 65; with_reducible exact Calls.quiet_of (T7.out _)) | (go_at_call 65; with_reducible exact Calls.quiet_of (T18.out _)) | (go_at_call 65; with_reducible exact Calls.quiet_of (T17.out _)) | (go_at_call 65; with_reducible exact Calls.quiet_of (T19.out _))))
        rw [HZ.out]
        repeat (go_big_quiet_step ((go_at_call 64; exact Calls.quiet_of_same ((TC.out _).mono fun _ _ h => ⟨h.2, h.1.symm⟩))))
        refine wpQuiet_nil ?_
        rintro w6 ⟨nq2, hw6⟩
        have B6 : Below wq.heap.size wq w6 := by rw [hw6]; exact ⟨B5.os, B5.tape, B5.output, B5.size, B5.block⟩
        have o6 : w6.ownsRow wq.heap.size 53 1 (.slice (some ⟨gw, 0, none⟩) t cw) t (uCells V) := by rw [hw6]; exact O5.out
        have s6 : wq.heap.size < w6.heap.size := by rw [hw6]; exact s5
        have hnx : z % 4294967296 = Sha.next V := by
          rw [HZM.out]
          unfold Sha.next Sha.M
          rw [HVL.out, G16.out, G7.out, G15.out, G2.out]
        obtain ⟨v6, w7, hr7, o7, b7, s7, g6, c6, rfl⟩ := push_w t o6 (by omega) (by omega) (Sha.next V) ((z : Int) % 4294967296) (by rw [← hnx]; omega)
        have hV1 : V ++ [Sha.next V] = Sha.wAt p8 (t + 1) := by rw [Sha.wAt_next p8 t (by omega), ← HV.out]
        rw [hV1] at o7
        have B7 := B6.trans b7
        have O7 := Lib.hid o7; clear o7 o6 b7 hw6 O5 e16 e7 i16 i7 j16 j7 l16 l7 hnx hV1
        go_wp2_with (at_builtin; refine Lib.wpList_append_run_sl _ rfl _ _ 102 rfl _ _ rfl rfl hr7 ?_)
        clear hr7
        go_roundw
        case rel => exact ⟨t + 1, g6, c6, by omega, by go_num, rfl, O7, by omega, B7⟩
        case measure => simp [intOf]; omega
    · obtain rfl : t = 64 := by omega
      go_wp2_with fail
      exact hexit _ _ _ _ _ _ _ _ _ _ _ _ _ _ _ _ _ _ _ _ _ _ _ _ _ _ _ _ _ _ _ _ _ _ _ _ _ _ _ _ _ _ _ _ _ _ _ _ _ _ _ _ _ _ _ _ _ _ _ _ _ _ _ _ _ _ _ _ _ _ _ _ _ _ _ _ _ _ _ _ _ _ _ _ _ _ _ _ _ _ _ ow sr4 Br4

end Go.Proofs.YtaihojahccplcaaDoor
