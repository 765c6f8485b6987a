/- ManyChecks: the given statement, out of the walk of the law. -/
import Derived.Test.YtgheacegjgaobaaDoorKLawMChecks
import Derived.Test.YtgheacegjgaobaaDoorKG0b
import Derived.Test.YtgheacegjgaobaaDoorKG2a
import Derived.Test.YtgheacegjgaobaaDoorCards
import Derived.Test.YtgheacegjgaobaaDoorTie
import Derived.SevenTiedAt
namespace Go.Proofs.YtgheacegjgaobaaDoor.manyChecks
open Go.ChangeShapes Go.WideShapes Go.ChangeAt Go.RowKit
open Go.ChangeMaps (open_string shut_string)
set_option linter.unusedVariables false

theorem own : ownKnob Tryd.prog.godebug = none := by kernel_rfl
theorem laidOut : laidOutB Tryd.prog = true := by kernel_rfl

set_option maxRecDepth 100000 in
set_option maxHeartbeats 2000000 in
theorem lifted (os : Os) (started : os.Started) (H : Type) (enc : TypeId × Value → H) :
    ReturnsInHanded {} Tryd.checked os 5 .any (fun w args => (Rows.manyChecksSpec.pre enc Tryd.prog Tryd.f5 [] false w args ∧ laidMetH Tryd.prog laidL w) ∧ sizedMet enc Tryd.prog Tryd.f5 (OpenSpec.ofChange Rows.manyChecksSpec) false w args) (Rows.manyChecksSpec.post enc Tryd.prog Tryd.f5 false true false false) := by
  refine returnsInHanded_of_change_and (C := Tryd.checked) (X := fun w _ => laidMetH Tryd.prog laidL w) (fun _ _ _ hh h => h.of_heap hh) own started (by kernel_rfl) Tryd.func5
    (ChangeSpec.witness_shaped (enc := enc) (C := Tryd.checked) (os := os) (X := fun w _ => laidMetH Tryd.prog laidL w) false (World.doorLaid Tryd.prog 19 os) #[.agg #[.int .u8 0, .int .u8 0, .int .u8 0, .int .u8 0, .int .u8 0, .int .u8 0, .int .u8 0, .int .u8 0, .int .u8 0, .int .u8 0, .int .u8 0, .int .u8 0, .int .u8 0, .int .u8 0, .int .u8 0, .int .u8 0, .int .u8 0, .int .u8 0, .int .u8 0, .int .u8 0, .int .u8 0, .int .u8 0, .int .u8 0, .int .u8 0, .int .u8 0, .int .u8 0, .int .u8 0, .int .u8 0, .int .u8 0, .int .u8 0, .int .u8 0, .int .u8 0], .int .i64 0, .slice none 0 0, .slice none 0 0, .slice none 0 0] 8 rfl (World.shaped_of_RefB (by kernel_rfl) (by kernel_rfl)) (by kernel_rfl) (by kernel_rfl) (by kernel_rfl) (door_met os _)) ?_
  intro W base args ds gs before hval0 hW hcnd hsz0 hLd _
  have hLW := laid_of hLd
  have hval : ∀ (j : Nat) t v, Tryd.f5.params[j]? = some t → args[j]? = some v → Value.okWide Tryd.prog W .any base t v := hval0
  have hsz : (DataW.weightsEach Tryd.prog (Tryd.f5.params.toList ++ Rows.manyChecksSpec.plain.varTypes Tryd.prog) (ds ++ gs)).all (· ≤ reachBytes) = true := hsz0
  have hW' := hW
  obtain ⟨p, q, hA0, hV, rfl, hfz, hnd⟩ := hW
  have hA : DataW.TrodAll enc Tryd.prog W 0 (fun _ => true) true Tryd.f5.params.toList args.toList ds p := hA0
  rw [Tryd.params5] at hA hval hsz
  obtain ⟨v0, vs0, d0, ds0, p0, q0, hargs, rfl, rfl, h0, r0⟩ := trodAll_cons hA
  obtain ⟨v1, vs1, d1, ds1, p1, q1, rfl, rfl, rfl, h1, r1⟩ := trodAll_cons r0
  obtain ⟨v2, vs2, d2, ds2, p2, q2, rfl, rfl, rfl, h2, r2⟩ := trodAll_cons r1
  obtain ⟨v3, vs3, d3, ds3, p3, q3, rfl, rfl, rfl, h3, r3⟩ := trodAll_cons r2
  obtain ⟨v4, vs4, d4, ds4, p4, q4, rfl, rfl, rfl, h4, r4⟩ := trodAll_cons r3
  obtain ⟨rfl, rfl, rfl⟩ := trodAll_nil r4
  obtain rfl : args = #[v0, v1, v2, v3, v4] := by cases args; simp_all
  obtain ⟨rfl, rfl⟩ := trodVars_none hV
  have k0 := h0
  have lt0 : ∀ x ∈ p0, x.block < W.heap.size := by obtain ⟨m, hm⟩ := k0; exact DataW.trod_lt m _ _ _ hm
  have k1 := h1
  have lt1 : ∀ x ∈ p1, x.block < W.heap.size := by obtain ⟨m, hm⟩ := k1; exact DataW.trod_lt m _ _ _ hm
  have k2 := h2
  have lt2 : ∀ x ∈ p2, x.block < W.heap.size := by obtain ⟨m, hm⟩ := k2; exact DataW.trod_lt m _ _ _ hm
  have k3 := h3
  have lt3 : ∀ x ∈ p3, x.block < W.heap.size := by obtain ⟨m, hm⟩ := k3; exact DataW.trod_lt m _ _ _ hm
  have k4 := h4
  have lt4 : ∀ x ∈ p4, x.block < W.heap.size := by obtain ⟨m, hm⟩ := k4; exact DataW.trod_lt m _ _ _ hm
  obtain ⟨c0, rfl, _⟩ := okWide_array Tryd.underlying23 (hval 0 23 v0 rfl rfl)
  obtain ⟨a0, w0, e0⟩ : ∃ l : List UInt8, l.length = 32 ∧ c0 = (byteCells l).toArray := by
    obtain ⟨fuel, hf⟩ := h0
    obtain ⟨l, h1, h2⟩ := open_bytes Tryd.under_hash Tryd.under_byte Tryd.cells_byte Tryd.cells_hash hf
    exact ⟨l, h1, by rw [← h2]; rfl⟩
  subst e0
  obtain ⟨a1, rfl, rfl, rfl, w1⟩ := open_int Tryd.underlying3 (hval 1 3 v1 rfl rfl) h1
  obtain ⟨o2, len2, cap2, rfl⟩ := okWide_slice Tryd.underlying32 (hval 2 32 v2 rfl rfl)
  obtain ⟨F2, w2, k2'⟩ := (show ∃ F, RowsAt W o2 len2 cap2 1 (intCell .i64) F ∧ ∀ f ∈ F, (fun x : Int => (Lit.int .i64 x).wf = true) f by
    obtain ⟨fuel, hf⟩ := h2
    exact open_rows (intCell .i64) (fun x : Int => (Lit.int .i64 x).wf = true) Tryd.underlying32 (by kernel_rfl) (by decide) (open_int1 Tryd.underlying3) hf)
  obtain ⟨o3, len3, cap3, rfl⟩ := okWide_slice Tryd.underlying24 (hval 3 24 v3 rfl rfl)
  obtain ⟨F3, w3, k3'⟩ := (show ∃ F, RowsAt W o3 len3 cap3 1 strCell F ∧ ∀ f ∈ F, (fun s : ByteArray => s.size ≤ maxLen) f by
    obtain ⟨fuel, hf⟩ := h3
    exact open_rows strCell (fun s : ByteArray => s.size ≤ maxLen) Tryd.underlying24 (by kernel_rfl) (by decide) (open_str1 Tryd.under_string) hf)
  obtain ⟨o4, len4, cap4, rfl⟩ := okWide_slice Tryd.underlying27 (hval 4 27 v4 rfl rfl)
  obtain ⟨F4, w4, k4'⟩ := (show ∃ F, RowsAt W o4 len4 cap4 32 byteCells F ∧ ∀ f ∈ F, (fun l : List UInt8 => l.length = 32) f by
    obtain ⟨fuel, hf⟩ := h4
    exact open_rows byteCells (fun l : List UInt8 => l.length = 32) Tryd.underlying27 (by kernel_rfl) (by decide) (fun _ _ _ h => open_bytes Tryd.under_hash Tryd.under_byte Tryd.cells_byte Tryd.cells_hash h) hf)
  clear hA0 hval0
  refine (mchecks_law W a0 w0 a1 w1 o2 len2 cap2 F2 w2 k2' o3 len3 cap3 F3 w3 k3' o4 len4 cap4 F4 w4 k4' hLW).mono fun e W' ⟨he, bel⟩ => ?_
  subst he
  exact ⟨_, rfl, _, _, _, [], _, [], hW', trodAll_mk1 (shut_bool Tryd.underlying4 _), (trodAll_cons_mk (Below.trod laidOut (by kernel_rfl) (of_decide_eq_true (by kernel_rfl)) k0 bel lt0) (trodAll_cons_mk (Below.trod laidOut (by kernel_rfl) (of_decide_eq_true (by kernel_rfl)) k1 bel lt1) (trodAll_cons_mk (Below.trod laidOut (by kernel_rfl) (of_decide_eq_true (by kernel_rfl)) k2 bel lt2) (trodAll_cons_mk (Below.trod laidOut (by kernel_rfl) (of_decide_eq_true (by kernel_rfl)) k3 bel lt3) (trodAll_cons_mk (Below.trod laidOut (by kernel_rfl) (of_decide_eq_true (by kernel_rfl)) k4 bel lt4) trodAll_mk0))))), rfl, bel.frame _, fun h => by cases h⟩

theorem over : Rows.manyChecksRow.holds Tryd.pinned (OpenSpec.ofChange Rows.manyChecksSpec) :=
  OpenClaim.holds_of_wide 5 Tryd.f5 rfl rfl rfl rfl rfl rfl rfl ⟨rfl, rfl, rfl, rfl, rfl⟩ rfl rfl rfl rfl rfl (by kernel_rfl) Tryd.func5 (by kernel_rfl)
    (of_decide_eq_true (by kernel_rfl)) (by unfold Func.isWrapper; first | (rw [if_pos (by decide +kernel)]; kernel_rfl) | (rw [if_neg (by decide +kernel)]; exact ⟨rfl, rfl⟩))
    (fun os started H enc _ => lifted os started H enc)

/-- The statement: the card. -/
theorem proved : Rows.ManyChecksCardSaid :=
  Claim7.holds_tied_plain_at .later [] [.data, .data] true (true, "641fa3e62a488e94762a74f3d937988950dd7107958a9d97ac82ebdef9bb4739") false
    over (fun _ h => by cases h) (by kernel_rfl) (fun _ h => by cases h) manyChecks_row_tie rfl ⟨rfl, rfl⟩ (by kernel_rfl) rfl
    (fun f fn hf hfn => by
      obtain rfl : f = 5 := Option.some.inj ((show Tryd.prog.funcNamed "modillion/modillionlaw04.ManyChecks" = some 5 by kernel_rfl).symm.trans hf) |>.symm
      obtain rfl : fn = Tryd.f5 := (Option.some.inj (Tryd.func5.symm.trans hfn)).symm
      exact ⟨by kernel_rfl, fun j t ht => by
        rw [Tryd.params5] at ht
        have hm : t ∈ [23, 3, 32, 24, 27] := by simpa using Array.mem_of_getElem? ht
        have hall : ([23, 3, 32, 24, 27].all fun u => !Tryd.prog.wantsStandIn u) = true := by kernel_rfl
        exact (show Tryd.prog.wantsStandIn t = false by simpa using List.all_eq_true.1 hall t hm)⟩)
    (by kernel_rfl)
#print axioms proved
end Go.Proofs.YtgheacegjgaobaaDoor.manyChecks
