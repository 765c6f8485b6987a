/- Loop 5 of the reference's Of: the 64 rounds. -/
import Derived.Test.YtaihojahccplcaaDoorKOf
import Derived.Test.YtaihojahccplcaaDoorKG0b
import Derived.Test.YtaihojahccplcaaDoorKG0a
import Derived.Great.BuildSlice
import Derived.IntWalk
import Derived.Test.YtaihojahccplcaaDoorKRefOf0
namespace Go.Proofs.YtaihojahccplcaaDoor
open Go.RowKit
set_option linter.unusedSimpArgs false
set_option linter.unusedVariables false

set_option maxRecDepth 1000000 in
set_option maxHeartbeats 8000000 in
theorem refOf_rounds {Q : Exit → Act → World → Prop} (hpan : ∀ v (a : Act) d y w, Q (.panic v) (a.put (some d) y) w → Q (.panic v) a w) (S H : List Nat) (kb gw cw g9 c9 b : Nat) (wz w9 : World) (HHL : Hid (H.length = 8)) (HHM : Hid (∀ y ∈ H, y < 4294967296)) (HSL : Hid (S.length = 64)) (HSM : Hid (∀ y ∈ S, y < 4294967296)) (HKz : Hid (wz.rangeAt kb 0 (uCells Sha.K))) (HSz : Hid (wz.rangeAt gw 0 (uCells S))) (hkbz : kb + 1 < wz.heap.size) (hgw : b ≤ gw ∧ gw < wz.heap.size) (hc9 : 8 ≤ c9 ∧ g9 < w9.heap.size ∧ wz.heap.size ≤ g9) (R9 : Hid (w9.rangeAt g9 0 (uCells (Sha.rounds S H 0)))) (b9 : Below wz.heap.size wz w9)
    (sc0 sc1 sc2 sc3 sc4 sc5 sc7 sc8 sc10 sc11 sc12 sc13 su16 su17 su18 su19 su20 su21 sc22 sc23 sc24 sc25 sc26 sc27 sc28 sc29 sc30 sc31 sc32 sc33 sc34 sc35 sc36 sc37 sc38 sc39 sc40 sc41 sc42 sc43 sc44 sc45 sc46 sc47 sc48 sc49 sc50 sc51 sc52 sc53 sc54 sc55 sc56 sc57 sc58 sc59 sc60 sc61 sc62 sc63 sc64 sc65 sc66 sc67 sc68 sc69 sc70 sc71 sc72 sc73 sc74 sc75 sc76 sc77 sc78 sc79 sc80 sc81 sc82 sc83 sc84 sc85 sc86 sc87 sc88 sc89 sc90 sc91 sc92 sc93 sc94 sc95 sc96 sc97 sc98 sc99 sc100 sc101 sc102 sc103 sc104 sc105 sc106 sc107 sc108 sc109 sc110 sc111 sc112 sc113 sc114 sc115 sc116 sc117 sc118 sc119 sc120 sc121 sc122 sc123 sc124 sc125 sc126 sc127 sc128 sc129 sc130 sc131 sc132 sc133 sc134 sc135 sc136 sc137 sc138 sc139 sc140 sc141 sc142 sc143 sc144 sc145 sc146 sc147 sc148 sc149 sc150 su151 su152 su153 su154 su155 su156 su157 su158 su159 su160 su161 su162 su163 su164 su165 su166 su167 su168 su169 su170 su171 su172 su173 su174 su175 su176 su177 su178 su179 su180 su181 su182 su183 su184 su185 su186 su187 su188 su189 su190 su191 su192 su193 su194 su195 su196 su197 su198 su199 su200 su201 su202 su203 su204 su205 su206 su207 su208 su209 su210 su211 su212 su213 su214 su215 su216 su217 su218 su219 su220 su221 su222 su223 su224 su225 su226 su227 su228 su229 su230 su231 su232 su233 su234 su235 su236 su237 su238 su239 su240 su241 su242 su243 su244 su245 su246 su247 su248 su249 su250 sc251 sc252 sc253 sc254 sc255 sc256 sc257 sc258 sc259 sc260 sc261 sc262 sc263 sc264 sc265 sc266 sc267 sc268 sc269 sc270 sc271 sc272 sc273 sc274 sc275 sc276 sc277 sc278 sc279 sc280 sc281 sc282 sc283 sc284 sc285 sc286 sc287 sc288 sc289 sc290 sc291 sc292 sc293 sc294 sc295 sc296 sc297 sc298 sc299 sc300 sc301 sc302 sc303 : Value)
    (hexit : ∀ (gv cv : Nat) (wr : World) (esu16 esu17 esu18 esu19 esu20 esu21 esu151 esu152 esu153 esu154 esu155 esu156 esu157 esu158 esu159 esu160 esu161 esu162 esu163 esu164 esu165 esu166 esu167 esu168 esu169 esu170 esu171 esu172 esu173 esu174 esu175 esu176 esu177 esu178 esu179 esu180 esu181 esu182 esu183 esu184 esu185 esu186 esu187 esu188 esu189 esu190 esu191 esu192 esu193 esu194 esu195 esu196 esu197 esu198 esu199 esu200 esu201 esu202 esu203 esu204 esu205 esu206 esu207 esu208 esu209 esu210 esu211 esu212 esu213 esu214 esu215 esu216 esu217 esu218 esu219 esu220 esu221 esu222 esu223 esu224 esu225 esu226 esu227 esu228 esu229 esu230 esu231 esu232 esu233 esu234 esu235 esu236 esu237 esu238 esu239 esu240 esu241 esu242 esu243 esu244 esu245 esu246 esu247 esu248 esu249 esu250 : Value), 8 ≤ cv → Hid (wr.rangeAt gv 0 (uCells (Sha.rounds S H 64))) → gv < wr.heap.size → wz.heap.size ≤ gv → Below wz.heap.size wz wr → Q (.exit 8) ⟨List.toArray (sc0 :: sc1 :: sc2 :: sc3 :: sc4 :: sc5 :: (.slice (some ⟨kb, 0, none⟩) 64 64) :: sc7 :: sc8 :: (.slice (some ⟨gw, 0, none⟩) 64 cw) :: sc10 :: sc11 :: sc12 :: sc13 :: (.slice (some ⟨gv, 0, none⟩) 8 cv) :: (.int .i64 ((64 : Nat) : Int)) :: esu16 :: esu17 :: esu18 :: esu19 :: esu20 :: esu21 :: sc22 :: sc23 :: sc24 :: sc25 :: sc26 :: sc27 :: sc28 :: sc29 :: sc30 :: sc31 :: sc32 :: sc33 :: sc34 :: sc35 :: sc36 :: sc37 :: sc38 :: sc39 :: sc40 :: sc41 :: sc42 :: sc43 :: sc44 :: sc45 :: sc46 :: sc47 :: sc48 :: sc49 :: sc50 :: sc51 :: sc52 :: sc53 :: sc54 :: sc55 :: sc56 :: sc57 :: sc58 :: sc59 :: sc60 :: sc61 :: sc62 :: sc63 :: sc64 :: sc65 :: sc66 :: sc67 :: sc68 :: sc69 :: sc70 :: sc71 :: sc72 :: sc73 :: sc74 :: sc75 :: sc76 :: sc77 :: sc78 :: sc79 :: sc80 :: sc81 :: sc82 :: sc83 :: sc84 :: sc85 :: sc86 :: sc87 :: sc88 :: sc89 :: sc90 :: sc91 :: sc92 :: sc93 :: sc94 :: sc95 :: sc96 :: sc97 :: sc98 :: sc99 :: sc100 :: sc101 :: sc102 :: sc103 :: sc104 :: sc105 :: sc106 :: sc107 :: sc108 :: sc109 :: sc110 :: sc111 :: sc112 :: sc113 :: sc114 :: sc115 :: sc116 :: sc117 :: sc118 :: sc119 :: sc120 :: sc121 :: sc122 :: sc123 :: sc124 :: sc125 :: sc126 :: sc127 :: sc128 :: sc129 :: sc130 :: sc131 :: sc132 :: sc133 :: sc134 :: sc135 :: sc136 :: sc137 :: sc138 :: sc139 :: sc140 :: sc141 :: sc142 :: sc143 :: sc144 :: sc145 :: sc146 :: sc147 :: sc148 :: sc149 :: sc150 :: esu151 :: esu152 :: esu153 :: esu154 :: esu155 :: esu156 :: esu157 :: esu158 :: esu159 :: esu160 :: esu161 :: esu162 :: esu163 :: esu164 :: esu165 :: esu166 :: esu167 :: esu168 :: esu169 :: esu170 :: esu171 :: esu172 :: esu173 :: esu174 :: esu175 :: esu176 :: esu177 :: esu178 :: esu179 :: esu180 :: esu181 :: esu182 :: esu183 :: esu184 :: esu185 :: esu186 :: esu187 :: esu188 :: esu189 :: esu190 :: esu191 :: esu192 :: esu193 :: esu194 :: esu195 :: esu196 :: esu197 :: esu198 :: esu199 :: esu200 :: esu201 :: esu202 :: esu203 :: esu204 :: esu205 :: esu206 :: esu207 :: esu208 :: esu209 :: esu210 :: esu211 :: esu212 :: esu213 :: esu214 :: esu215 :: esu216 :: esu217 :: esu218 :: esu219 :: esu220 :: esu221 :: esu222 :: esu223 :: esu224 :: esu225 :: esu226 :: esu227 :: esu228 :: esu229 :: esu230 :: esu231 :: esu232 :: esu233 :: esu234 :: esu235 :: esu236 :: esu237 :: esu238 :: esu239 :: esu240 :: esu241 :: esu242 :: esu243 :: esu244 :: esu245 :: esu246 :: esu247 :: esu248 :: esu249 :: esu250 :: sc251 :: sc252 :: sc253 :: sc254 :: sc255 :: sc256 :: sc257 :: sc258 :: sc259 :: sc260 :: sc261 :: sc262 :: sc263 :: sc264 :: sc265 :: sc266 :: sc267 :: sc268 :: sc269 :: sc270 :: sc271 :: sc272 :: sc273 :: sc274 :: sc275 :: sc276 :: sc277 :: sc278 :: sc279 :: sc280 :: sc281 :: sc282 :: sc283 :: sc284 :: sc285 :: sc286 :: sc287 :: sc288 :: sc289 :: sc290 :: sc291 :: sc292 :: sc293 :: sc294 :: sc295 :: sc296 :: sc297 :: sc298 :: sc299 :: sc300 :: sc301 :: sc302 :: sc303 :: []), []⟩ wr) :
    Code.wp Tryd.prog (Code.loop (refBodyIn 1)) Q ⟨List.toArray (sc0 :: sc1 :: sc2 :: sc3 :: sc4 :: sc5 :: (.slice (some ⟨kb, 0, none⟩) 64 64) :: sc7 :: sc8 :: (.slice (some ⟨gw, 0, none⟩) 64 cw) :: sc10 :: sc11 :: sc12 :: sc13 :: (.slice (some ⟨g9, 0, none⟩) 8 c9) :: (.int .i64 0) :: su16 :: su17 :: su18 :: su19 :: su20 :: su21 :: sc22 :: sc23 :: sc24 :: sc25 :: sc26 :: sc27 :: sc28 :: sc29 :: sc30 :: sc31 :: sc32 :: sc33 :: sc34 :: sc35 :: sc36 :: sc37 :: sc38 :: sc39 :: sc40 :: sc41 :: sc42 :: sc43 :: sc44 :: sc45 :: sc46 :: sc47 :: sc48 :: sc49 :: sc50 :: sc51 :: sc52 :: sc53 :: sc54 :: sc55 :: sc56 :: sc57 :: sc58 :: sc59 :: sc60 :: sc61 :: sc62 :: sc63 :: sc64 :: sc65 :: sc66 :: sc67 :: sc68 :: sc69 :: sc70 :: sc71 :: sc72 :: sc73 :: sc74 :: sc75 :: sc76 :: sc77 :: sc78 :: sc79 :: sc80 :: sc81 :: sc82 :: sc83 :: sc84 :: sc85 :: sc86 :: sc87 :: sc88 :: sc89 :: sc90 :: sc91 :: sc92 :: sc93 :: sc94 :: sc95 :: sc96 :: sc97 :: sc98 :: sc99 :: sc100 :: sc101 :: sc102 :: sc103 :: sc104 :: sc105 :: sc106 :: sc107 :: sc108 :: sc109 :: sc110 :: sc111 :: sc112 :: sc113 :: sc114 :: sc115 :: sc116 :: sc117 :: sc118 :: sc119 :: sc120 :: sc121 :: sc122 :: sc123 :: sc124 :: sc125 :: sc126 :: sc127 :: sc128 :: sc129 :: sc130 :: sc131 :: sc132 :: sc133 :: sc134 :: sc135 :: sc136 :: sc137 :: sc138 :: sc139 :: sc140 :: sc141 :: sc142 :: sc143 :: sc144 :: sc145 :: sc146 :: sc147 :: sc148 :: sc149 :: sc150 :: su151 :: su152 :: su153 :: su154 :: su155 :: su156 :: su157 :: su158 :: su159 :: su160 :: su161 :: su162 :: su163 :: su164 :: su165 :: su166 :: su167 :: su168 :: su169 :: su170 :: su171 :: su172 :: su173 :: su174 :: su175 :: su176 :: su177 :: su178 :: su179 :: su180 :: su181 :: su182 :: su183 :: su184 :: su185 :: su186 :: su187 :: su188 :: su189 :: su190 :: su191 :: su192 :: su193 :: su194 :: su195 :: su196 :: su197 :: su198 :: su199 :: su200 :: su201 :: su202 :: su203 :: su204 :: su205 :: su206 :: su207 :: su208 :: su209 :: su210 :: su211 :: su212 :: su213 :: su214 :: su215 :: su216 :: su217 :: su218 :: su219 :: su220 :: su221 :: su222 :: su223 :: su224 :: su225 :: su226 :: su227 :: su228 :: su229 :: su230 :: su231 :: su232 :: su233 :: su234 :: su235 :: su236 :: su237 :: su238 :: su239 :: su240 :: su241 :: su242 :: su243 :: su244 :: su245 :: su246 :: su247 :: su248 :: su249 :: su250 :: sc251 :: sc252 :: sc253 :: sc254 :: sc255 :: sc256 :: sc257 :: sc258 :: sc259 :: sc260 :: sc261 :: sc262 :: sc263 :: sc264 :: sc265 :: sc266 :: sc267 :: sc268 :: sc269 :: sc270 :: sc271 :: sc272 :: sc273 :: sc274 :: sc275 :: sc276 :: sc277 :: sc278 :: sc279 :: sc280 :: sc281 :: sc282 :: sc283 :: sc284 :: sc285 :: sc286 :: sc287 :: sc288 :: sc289 :: sc290 :: sc291 :: sc292 :: sc293 :: sc294 :: sc295 :: sc296 :: sc297 :: sc298 :: sc299 :: sc300 :: sc301 :: sc302 :: sc303 :: []), []⟩ w9 := by
  conv => arg 2; arg 1; whnf
  go_loopw [14, 15] (fun v i wr => ∃ t gv cv : Nat, t ≤ 64 ∧ i = .int .i64 t ∧ v = .slice (some ⟨gv, 0, none⟩) 8 cv ∧ 8 ≤ cv ∧ Hid (wr.rangeAt gv 0 (uCells (Sha.rounds S H t))) ∧ gv < wr.heap.size ∧ wz.heap.size ≤ gv ∧ Below wz.heap.size wz wr) (fun _ i _ => 64 - (intOf i).toNat)
  case atStart => exact ⟨0, g9, c9, by omega, rfl, rfl, hc9.1, R9, hc9.2.1, hc9.2.2, b9⟩
  case round =>
    clear R9 hc9 b9
    obtain ⟨t, gv, cv, ht, rfl, rfl, hcv, rv, hgv, hgz, Br5⟩ := hrel
    by_cases ht64 : t < 64
    · obtain ⟨va, vb, vc, vd, ve, vf, vg, vk, hv⟩ := Sha.list8 (Sha.rounds S H t) (Sha.rounds_len _ _ _ HHL.out)
      have hm := Sha.rounds_lt S H t HHL.out HHM.out
      rw [hv] at hm rv
      unfold Sha.M at hm
      have ma : va < 4294967296 := hm va (by simp)
      have mb : vb < 4294967296 := hm vb (by simp)
      have mc : vc < 4294967296 := hm vc (by simp)
      have md : vd < 4294967296 := hm vd (by simp)
      have me : ve < 4294967296 := hm ve (by simp)
      have mf : vf < 4294967296 := hm vf (by simp)
      have mg : vg < 4294967296 := hm vg (by simp)
      have mk : vk < 4294967296 := hm vk (by simp)
      clear hm
      obtain ⟨kn, hkn⟩ : ∃ kn, Sha.K[t]? = some kn := ⟨_, List.getElem?_eq_getElem (by rw [Sha.K_len]; exact ht64)⟩
      obtain ⟨sn, hsn⟩ : ∃ sn, S[t]? = some sn := ⟨_, List.getElem?_eq_getElem (by rw [HSL.out]; exact ht64)⟩
      have mkn : kn < 4294967296 := Sha.K_lt kn (List.mem_of_getElem? hkn)
      have msn : sn < 4294967296 := HSM.out sn (List.mem_of_getElem? hsn)
      have c0 := ucell rv.out (i := 0) rfl
      have c1 := ucell rv.out (i := 1) rfl
      have c2 := ucell rv.out (i := 2) rfl
      have c3 := ucell rv.out (i := 3) rfl
      have c4 := ucell rv.out (i := 4) rfl
      have c5 := ucell rv.out (i := 5) rfl
      have c6 := ucell rv.out (i := 6) rfl
      have c7 := ucell rv.out (i := 7) rfl
      have cK := ucell (range_kept HKz.out (by omega) Br5) hkn
      have cS := ucell (range_kept HSz.out hgw.2 Br5) hsn
      have HV := Lib.hid hv; clear hv
      have HKN := Lib.hid hkn; clear hkn
      have HSN := Lib.hid hsn; clear hsn
      have T6 := Lib.hid (fun w => rturn_any ve 6 (by decide) me w)
      have T11 := Lib.hid (fun w => rturn_any ve 11 (by decide) me w)
      have T25 := Lib.hid (fun w => rturn_any ve 25 (by decide) me w)
      have T2 := Lib.hid (fun w => rturn_any va 2 (by decide) ma w)
      have T13 := Lib.hid (fun w => rturn_any va 13 (by decide) ma w)
      have T22 := Lib.hid (fun w => rturn_any va 22 (by decide) ma w)
      have ft64 : decide ((t : Int) < 64) = true := decide_eq_true (by omega)
      have i0 : (0 : Int) ≤ (t : Int) := by omega
      have i1 : (t : Int) < 64 := by omega
      go_wp2_with fail
      refine wp_region_quiet_lit (by kernel_rfl) (by kernel_rfl) ?_
      repeat (go_big_quiet_step (fail))
      refine wpQuiet_nil ?_
      rintro w10 ⟨n10, rfl⟩
      go_wp2_with fail
      refine wp_region_quiet_lit (by kernel_rfl) (by kernel_rfl) ?_
      repeat (go_big_quiet_step (fail))
      refine wpQuiet_nil ?_
      rintro w11 ⟨n11, rfl⟩
      rw [pick_bits ve vf vg me mf mg]
      obtain ⟨pk, hpk⟩ : ∃ pk, pk = Sha.ch ve vf vg := ⟨_, rfl⟩
      have mpk : pk < 4294967296 := by rw [hpk]; exact Sha.ch_lt _ _ _ me mf mg
      rw [← hpk]
      have HPK := Lib.hid hpk; clear hpk
      go_wp2_with fail
      refine wp_region_quiet_lit (by kernel_rfl) (by kernel_rfl) ?_
      repeat (go_big_quiet_step (fail))
      refine wpQuiet_nil ?_
      rintro w12 ⟨n12, hw12⟩
      rw [most_bits va vb vc ma mb mc]
      obtain ⟨mj, hmj⟩ : ∃ mj, mj = Sha.mj va vb vc := ⟨_, rfl⟩
      have mmj : mj < 4294967296 := by rw [hmj]; exact Sha.mj_lt _ _ _ ma mb mc
      rw [← hmj]
      have HMJ := Lib.hid hmj; clear hmj
      have e1 := (show w12.cell? ⟨gv, 1, none⟩ = wr.cell? ⟨gv, 1, none⟩ by rw [hw12]; rfl).trans c1
      have e2 := (show w12.cell? ⟨gv, 2, none⟩ = wr.cell? ⟨gv, 2, none⟩ by rw [hw12]; rfl).trans c2
      have e3 := (show w12.cell? ⟨gv, 3, none⟩ = wr.cell? ⟨gv, 3, none⟩ by rw [hw12]; rfl).trans c3
      have e5 := (show w12.cell? ⟨gv, 5, none⟩ = wr.cell? ⟨gv, 5, none⟩ by rw [hw12]; rfl).trans c5
      have e6 := (show w12.cell? ⟨gv, 6, none⟩ = wr.cell? ⟨gv, 6, none⟩ by rw [hw12]; rfl).trans c6
      have e7 := (show w12.cell? ⟨gv, 7, none⟩ = wr.cell? ⟨gv, 7, none⟩ by rw [hw12]; rfl).trans c7
      have eK := (show w12.cell? ⟨kb, t, none⟩ = wr.cell? ⟨kb, t, none⟩ by rw [hw12]; rfl).trans cK
      have eS := (show w12.cell? ⟨gw, t, none⟩ = wr.cell? ⟨gw, t, none⟩ by rw [hw12]; rfl).trans cS
      have B12 : Below wz.heap.size wz w12 := by rw [hw12]; exact ⟨Br5.os, Br5.tape, Br5.output, Br5.size, Br5.block⟩
      clear hw12 c0 c1 c2 c3 c4 c5 c6 c7 cK cS rv Br5 hgv hgz
      go_wp2_with fail
      refine wp_region_quiet_lit (by kernel_rfl) (by kernel_rfl) ?_
      repeat (go_big_quiet_step (first | (go_at_call 65; with_reducible exact Calls.quiet_of (T6.out _)) | (go_at_call 65; with_reducible exact Calls.quiet_of (T11.out _)) | (go_at_call 65; with_reducible exact Calls.quiet_of (T25.out _))))
      refine wpQuiet_nil ?_
      rintro w13 ⟨n13, hw13⟩
      obtain ⟨X, hX⟩ : ∃ X, X = vk + Sha.S1 ve + pk + kn + sn := ⟨_, rfl⟩
      have HXV := Lib.hid (x_val64 vk ve pk kn sn X mk me mpk mkn msn hX)
      have mX : X < 25000000000 := by have := Sha.S1_lt ve me; unfold Sha.M at this; omega
      rw [HXV.out]
      have HX0 := Lib.hid hX; clear hX
      have f1 := (show w13.cell? ⟨gv, 1, none⟩ = w12.cell? ⟨gv, 1, none⟩ by rw [hw13]; rfl).trans e1
      have f2 := (show w13.cell? ⟨gv, 2, none⟩ = w12.cell? ⟨gv, 2, none⟩ by rw [hw13]; rfl).trans e2
      have f3 := (show w13.cell? ⟨gv, 3, none⟩ = w12.cell? ⟨gv, 3, none⟩ by rw [hw13]; rfl).trans e3
      have f5 := (show w13.cell? ⟨gv, 5, none⟩ = w12.cell? ⟨gv, 5, none⟩ by rw [hw13]; rfl).trans e5
      have f6 := (show w13.cell? ⟨gv, 6, none⟩ = w12.cell? ⟨gv, 6, none⟩ by rw [hw13]; rfl).trans e6
      have B13 : Below wz.heap.size wz w13 := by rw [hw13]; exact ⟨B12.os, B12.tape, B12.output, B12.size, B12.block⟩
      clear hw13 e1 e2 e3 e5 e6 e7 eK eS B12
      obtain ⟨Y, hY⟩ : ∃ Y, Y = Sha.S0 va + mj := ⟨_, rfl⟩
      have HYV := Lib.hid (y_val64 va mj Y ma mmj hY)
      have mY : Y < 25000000000 := by have := Sha.S0_lt va ma; unfold Sha.M at this; omega
      have HY0 := Lib.hid hY; clear hY
      go_wp2_with fail
      refine (T2.out _).mono ?_
      rintro _ _ ⟨rfl, q2, rfl⟩
      go_wp2_with fail
      refine (T13.out _).mono ?_
      rintro _ _ ⟨rfl, q13, rfl⟩
      go_wp2_with fail
      refine (T22.out _).mono ?_
      rintro _ _ ⟨rfl, q22, rfl⟩
      go_wp2_with fail
      rw [HYV.out]
      obtain ⟨w14, hw14⟩ : ∃ w14, w14 = w13.drewN (q2 + q13 + q22) := ⟨_, rfl⟩
      rw [← hw14]
      have h1 := (show w14.cell? ⟨gv, 1, none⟩ = w13.cell? ⟨gv, 1, none⟩ by rw [hw14]; rfl).trans f1
      have h2 := (show w14.cell? ⟨gv, 2, none⟩ = w13.cell? ⟨gv, 2, none⟩ by rw [hw14]; rfl).trans f2
      have h3 := (show w14.cell? ⟨gv, 3, none⟩ = w13.cell? ⟨gv, 3, none⟩ by rw [hw14]; rfl).trans f3
      have h5 := (show w14.cell? ⟨gv, 5, none⟩ = w13.cell? ⟨gv, 5, none⟩ by rw [hw14]; rfl).trans f5
      have h6 := (show w14.cell? ⟨gv, 6, none⟩ = w13.cell? ⟨gv, 6, none⟩ by rw [hw14]; rfl).trans f6
      have B14 : Below wz.heap.size wz w14 := by rw [hw14]; exact ⟨B13.os, B13.tape, B13.output, B13.size, B13.block⟩
      clear hw14 f1 f2 f3 f5 f6 B13
      obtain ⟨U0, hU0⟩ : ∃ U0, U0 = (X + Y) % 4294967296 := ⟨_, rfl⟩
      obtain ⟨U4, hU4⟩ : ∃ U4, U4 = (vd + X) % 4294967296 := ⟨_, rfl⟩
      have TC0 := Lib.hid (cut_sum X Y U0 hU0)
      have TC4 := Lib.hid (cut_sum vd X U4 hU4)
      have HU0 := Lib.hid hU0; clear hU0
      have HU4 := Lib.hid hU4; clear hU4
      refine wp_region_quiet_tail 24 (by kernel_rfl) (by kernel_rfl) ?_
      simp only [List.take_succ_cons, List.take_zero, List.drop_succ_cons, List.drop_zero]
      repeat (go_big_quiet_step (first | (go_at_call 64; with_reducible exact Calls.quiet_of_same (TC0.out _)) | (go_at_call 64; with_reducible exact Calls.quiet_of_same (TC4.out _))))
      refine wpQuiet_nil ?_
      rintro w15 ⟨n15, hw15⟩
      have B15 : Below wz.heap.size wz w15 := by rw [hw15]; exact ⟨B14.os, B14.tape, B14.output, B14.size, B14.block⟩
      have hround : Sha.rounds S H (t + 1) = [U0, va, vb, vc, U4, ve, vf, vg] := by
        rw [Sha.rounds, HV.out, HU0.out, HU4.out, HY0.out, HX0.out, HPK.out, HMJ.out]
        exact round_val64 S t kn sn HKN.out HSN.out va vb vc vd ve vf vg vk
      have HRD := Lib.hid hround; clear hround
      clear hw15 h1 h2 h3 h5 h6 B14
      go_wp2_with fail
      go_roundw
      case rel => exact ⟨t + 1, w15.heap.size, 8, by omega, by go_num, rfl, by omega, Lib.hid (by rw [HRD.out]; exact range_row (heap_alloc_new w15 _)), by simp, B15.size, B15.alloc B15.size _⟩
      case measure => simp [intOf]; omega
    · obtain rfl : t = 64 := by omega
      go_wp2_with fail
      exact hexit _ _ _ _ _ _ _ _ _ _ _ _ _ _ _ _ _ _ _ _ _ _ _ _ _ _ _ _ _ _ _ _ _ _ _ _ _ _ _ _ _ _ _ _ _ _ _ _ _ _ _ _ _ _ _ _ _ _ _ _ _ _ _ _ _ _ _ _ _ _ _ _ _ _ _ _ _ _ _ _ _ _ _ _ _ _ _ _ _ _ _ _ _ _ _ _ _ _ _ _ _ _ _ _ _ _ _ _ _ hcv rv hgv hgz Br5

end Go.Proofs.YtaihojahccplcaaDoor
