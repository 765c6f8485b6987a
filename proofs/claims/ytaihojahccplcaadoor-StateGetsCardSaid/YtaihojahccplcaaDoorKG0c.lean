/- RelR, RelS, RelW, in one text. -/
import Derived.Test.YtaihojahccplcaaDoorKG0a
/- A region that draws its order, each operation under a relation of its own between the worlds (one that writes beside what the others know). -/
namespace Go.Proofs.YtaihojahccplcaaDoor
open Go.RowKit
set_option linter.unusedSimpArgs false
set_option linter.unusedVariables false

/-- What a walk of one operation has to end in. -/
def relQR (R : World → World → Prop) (V : World → Value → Prop) (w : World) (o : Oper) (F : Act) (e : Exit) (a' : Act) (w' : World) : Prop :=
  e = .normal ∧ R w w' ∧ a'.defers = F.defers ∧ V w' (slotOf o a')

section
variable {P : Program} {l : List Oper} {D : List (List Nat)} {a0 : Act} {w0 : World} {V : Nat → World → Value → Prop} {R : Nat → World → World → Prop}

theorem rel_transferR {ops : Array Oper} {W : World → Value → Prop} {R : World → World → Prop} {o : Oper} {K : Act → World → Prop} {Q : Exit → Act → World → Prop} {a F : Act} {w : World} (hF : execOp F.eval o = execOp a.eval o)
    (hw : Region.wanted o (yielded ops F.tmps) = Region.wanted o (yielded ops a.tmps)) (hd : ∀ d, o.dst = some d → d < F.tmps.size) (h : wpList P ops (relQR R W w o F) [o] F w)
    (hK : ∀ v w', R w w' → W w' (resOf o v) → K (a.put o.dst v) w') :
    if Region.wanted o (yielded ops a.tmps) then o.wp P a w K Q ∨ (o.asks P a w ∧ LetsOut Q) else K (a.put o.dst undef) w := by
  have hn : ∀ (v : Value) (w' : World), relQR R W w o F .normal (F.put o.dst v) w' → K (a.put o.dst v) w' := fun v w' hq => hK v w' hq.2.1 (by rw [← slot_put o F v hd]; exact hq.2.2.2)
  unfold wpList at h
  rw [hw] at h
  split
  · rename_i hwt
    rw [if_pos hwt] at h
    rcases h with h | ⟨_, _, _, he⟩
    · left
      unfold Oper.wp at h ⊢
      rw [← hF]
      generalize (execOp F.eval o).run P w = res at h ⊢
      cases res with
      | ok nx w' =>
        cases nx with
        | value v => exact hn v w' h
        | skip => exact hn _ w' h
        | defer d =>
          have := h.2.2.1
          rw [put_df] at this
          exact absurd this (List.cons_ne_self _ _)
        | enter f args =>
          refine Calls.mono h ?_
          intro e w'' he
          cases e with
          | returned v => exact hn v w'' he
          | panicked c => exact absurd he.1 (by intro h; cases h)
          | outgrown =>
            obtain ⟨_, _, he⟩ := he
            exact absurd he.1 (by intro h; cases h)
        | row r args => exact Rows.mono h fun v w'' hv => hn v w'' hv
        | _ => exact h.elim
      | halt hh w' =>
        cases hh with
        | panic v => exact absurd h.1 (by intro h; cases h)
        | _ => exact h.elim
    · exact absurd he.1 (by intro h; cases h)
  · rename_i hwt
    rw [if_neg hwt] at h
    exact hn _ _ h


/-- Whatever the order. -/
theorem wpAny_of_relR {n : Nat} {Q : Exit → Act → World → Prop} (hB : RelB l D n) (hn : a0.tmps.size = n) (hR : ∀ i (w w' : World), Below w0.heap.size w0 w → R i w w' → Below w0.heap.size w0 w') (hmono : ∀ i j, i ≠ j → ∀ (w w' : World) v, R i w w' → V j w v → V j w' v)
    (hop : ∀ i o, l[i]? = some o → ∀ w, Below w0.heap.size w0 w → ∀ vs : Nat → Value, (∀ j ∈ D.getD i [], V j w (vs j)) → wpList P l.toArray (relQR (R i) (V i) w o (relF l a0 vs (D.getD i []))) [o] (relF l a0 vs (D.getD i [])) w)
    (hfin : ∀ w, Below w0.heap.size w0 w → ∀ vs : Nat → Value, (∀ j, j < l.length → V j w (vs j)) → Q .normal (relF l a0 vs (List.range l.length)) w) :
    ∀ (fuel : Nat) (listed : Array Bool) (a : Act) (w : World), RInv l a0 w0 V listed a w → (listed.toList.filter (!·)).length ≤ fuel → wpAny P .any l.toArray Q fuel listed a w := by
  have hbn : ∀ j d, dstAt l j = some d → d < n := fun j d hd => by
    by_cases hj : j < l.length
    · exact hB.bnd j d hj hd
    · unfold dstAt at hd; rw [List.getElem?_eq_none (by omega)] at hd; cases hd
  have hval : ∀ (a : Act) j o, l[j]? = some o → valAt l a j = slotOf o a := fun a j o ho => by unfold valAt slotOf dstAt; rw [ho]; rfl
  have hdst : ∀ j o, l[j]? = some o → dstAt l j = o.dst := fun j o ho => by unfold dstAt; rw [ho]; rfl
  have hall : ∀ listed a w, RInv l a0 w0 V listed a w → (∀ j, j < l.length → listed.getD j false = true) → Q .normal a w := by
    intro listed a w inv hl
    have h := hfin w inv.bw (valAt l a) (fun j hj => by
      obtain ⟨o, ho⟩ : ∃ o, l[j]? = some o := ⟨_, List.getElem?_eq_getElem hj⟩
      rw [hval a j o ho]; exact inv.on j o ho (hl j hj))
    obtain ⟨s1, s2, s3⟩ := relF_spec (l := l) a n hbn (inv.sz.trans hn) (List.range l.length) a0 hn
    have e : relF l a0 (valAt l a) (List.range l.length) = a := by
      obtain ⟨at', ad'⟩ := a
      generalize hG : relF l a0 (valAt l ⟨at', ad'⟩) (List.range l.length) = G at s1 s2 s3
      obtain ⟨gt, gd⟩ := G
      have e1 : gd = ad' := s2.trans inv.df.symm
      have e2 : gt = at' := by
        apply Array.ext_getElem?
        intro t
        obtain ⟨h1, h2, h3⟩ := s3 t
        by_cases hx : ∃ j ∈ List.range l.length, dstAt l j = some t
        · exact h1 hx
        · refine h3 (inv.off t fun j o ho _ hd => hx ⟨j, List.mem_range.2 ?_, (hdst j o ho).trans hd⟩).symm
          exact (List.getElem?_eq_some_iff.1 ho).1
      rw [e1, e2]
    rwa [e] at h
  intro fuel
  induction fuel with
  | zero =>
    intro listed a w inv hf
    have hl : ∀ j, j < l.length → listed.getD j false = true := by
      intro j hj
      have h0 := List.eq_nil_of_length_eq_zero (Nat.le_zero.1 hf)
      have hj' : j < listed.size := by rw [inv.lsz]; exact hj
      have hm := List.filter_eq_nil_iff.1 h0 (listed[j]'hj') (by simp)
      rw [Array.getD_eq_getD_getElem?, Array.getElem?_eq_getElem hj']
      simpa using hm
    refine ⟨?_, hall listed a w inv hl⟩
    rw [List.eq_nil_iff_forall_not_mem]
    intro j hj
    obtain ⟨h1, o, ho, _⟩ := mem_ready.1 hj
    have hj' : j < l.length := by simpa using (Array.getElem?_eq_some_iff.1 ho).1
    have := hl j hj'
    rw [Array.getD_eq_getD_getElem?, Array.getElem?_eq_getElem (by rw [inv.lsz]; exact hj')] at h1 this
    simp only [Option.getD_some] at h1 this
    rw [h1] at this; cases this
  | succ fuel ih =>
    intro listed a w inv hf
    have hgd : ∀ j, j < l.length → ∀ b, listed.getD j b = listed.getD j false := fun j hj b => by
      simp [Array.getD_eq_getD_getElem?, Array.getElem?_eq_getElem (show j < listed.size by rw [inv.lsz]; exact hj)]
    refine ⟨fun hr => ?_, fun i hi => ?_⟩
    · refine hall listed a w inv fun j hj => ?_
      induction j using Nat.strongRecOn with
      | ind j ihj =>
        cases hx : listed.getD j false with
        | true => rfl
        | false =>
          obtain ⟨o, ho⟩ : ∃ o, l[j]? = some o := ⟨_, List.getElem?_eq_getElem hj⟩
          have : j ∈ Region.ready .any l.toArray listed := mem_ready.2 ⟨(hgd j hj true).trans hx, o, by simpa using ho, fun e he hb => by
            have hlt := hB.back j o e hj ho he hb
            exact ihj e.on hlt (by omega)⟩
          rw [hr] at this; cases this
    · obtain ⟨hun, o, ho', hdep⟩ := mem_ready.1 hi
      have ho : l[i]? = some o := by simpa using ho'
      have hil : i < l.length := (List.getElem?_eq_some_iff.1 ho).1
      have hdl : ∀ j ∈ D.getD i [], j < l.length ∧ listed.getD j false = true := by
        intro j hj
        obtain ⟨oj, hoj, e, he, hb, hon⟩ := Region.waitsFor_spec (hB.wait i j hil hj)
        obtain rfl : o = oj := Option.some.inj (ho'.symm.trans hoj)
        have := hdep e he hb
        rw [hon] at this
        refine ⟨?_, this⟩
        have := hB.back i o e hil ho he hb
        omega
      have hw0 := hop i o ho w inv.bw (valAt l a) (fun j hj => by
        obtain ⟨h1, h2⟩ := hdl j hj
        obtain ⟨oj, hoj⟩ : ∃ o, l[j]? = some o := ⟨_, List.getElem?_eq_getElem h1⟩
        rw [hval a j oj hoj]; exact inv.on j oj hoj h2)
      obtain ⟨s1, s2, s3⟩ := relF_spec (l := l) a n hbn (inv.sz.trans hn) (D.getD i []) a0 hn
      have hlook : ∀ t, t ∈ o.looksAt l.toArray → (relF l a0 (valAt l a) (D.getD i [])).tmps[t]? = a.tmps[t]? := by
        intro t ht
        obtain ⟨h1, h2, h3⟩ := s3 t
        by_cases hx : ∃ j ∈ D.getD i [], dstAt l j = some t
        · exact h1 hx
        · refine h3 (inv.off t fun j oj hoj _ hd => hx ⟨j, hB.look i j t o hil (List.getElem?_eq_some_iff.1 hoj).1 ho ((hdst j oj hoj).trans hd) ht, (hdst j oj hoj).trans hd⟩).symm
      have hev : ∀ x ∈ o.op.operands, (relF l a0 (valAt l a) (D.getD i [])).eval x = a.eval x := by
        intro x hx
        cases x with
        | tmp t =>
          have := hlook t (List.mem_append_left _ (List.mem_filterMap.2 ⟨.tmp t, by simpa using hx, rfl⟩))
          show (relF l a0 (valAt l a) (D.getD i [])).tmps.getD t undef = a.tmps.getD t undef
          rw [Array.getD_eq_getD_getElem?, Array.getD_eq_getD_getElem?, this]
        | _ => rfl
      have hwt : Region.wanted o (yielded l.toArray (relF l a0 (valAt l a) (D.getD i [])).tmps) = Region.wanted o (yielded l.toArray a.tmps) := by
        unfold Region.wanted
        cases hg : o.guard with
        | none => rfl
        | some gw =>
          obtain ⟨g, want⟩ := gw
          simp only []
          congr 1
          unfold yielded
          cases hd : (l.toArray[g]?).bind (·.dst) with
          | none => rfl
          | some t =>
            simp only [Option.bind_some]
            rw [hlook t (List.mem_append_right _ (by rw [hg]; simp only [hd]; simp))]
      unfold wpOp
      simp only [ho']
      refine rel_transferR (execOp_congr o (fun cs b => Region.noSelect_spec hB.sel i o cs b ho') hev) hwt (fun d hd => by rw [s1]; exact hbn i d ((hdst i o ho).trans hd)) hw0 fun v w' hb hv => ?_
      have hil2 : i < listed.size := by rw [inv.lsz]; exact hil
      refine ih _ _ _ ⟨hR i _ _ inv.bw hb, by simp [inv.lsz], by rw [put_size]; exact inv.sz, by rw [put_df]; exact inv.df, fun t ht => ?_, fun j oj hoj hj => ?_⟩ ?_
      · rw [put_ne _ _ _ _ (ht i o ho (by rw [get_set_true _ _ _ hil2]; simp))]
        exact inv.off t fun j oj hoj hj => ht j oj hoj (by rw [get_set_true _ _ _ hil2, hj]; simp)
      · by_cases hji : j = i
        · subst hji
          obtain rfl := Option.some.inj (hoj.symm.trans ho)
          rw [slot_put _ _ _ (fun d hd => by rw [inv.sz, hn]; exact hbn j d ((hdst j oj hoj).trans hd))]
          exact hv
        · rw [get_set_true _ _ _ hil2] at hj
          simp only [hji, decide_false, Bool.false_or] at hj
          rw [slot_other _ _ _ _ fun d hd hd' => hB.dist j i d (List.getElem?_eq_some_iff.1 hoj).1 hil hji ((hdst j oj hoj).trans hd) ((hdst i o ho).trans hd')]
          exact hmono i j (fun e => hji e.symm) w w' _ hb (inv.on j oj hoj hj)
      · have hx : listed.toList[i]? = some false := by
          rw [Array.getElem?_toList, Array.getElem?_eq_getElem hil2]
          rw [Array.getD_eq_getD_getElem?, Array.getElem?_eq_getElem hil2] at hun
          exact congrArg some hun
        have := count_set listed.toList i hx
        rw [Array.toList_setIfInBounds]
        omega

/-- The region, whatever the order: D: for each operation the operations whose slots it looks at; V: what is known of its value (kept where blocks are added). -/
theorem wp_region_relR {id : Nat} {Q : Exit → Act → World → Prop} (D : List (List Nat)) (V : Nat → World → Value → Prop) (R : Nat → World → World → Prop) (n : Nat) (hm : P.follows .mixedOrders = true) (hn : a0.tmps.size = n) (hB : relB l D n = true)
    (hR : ∀ i (w w' : World), Below w0.heap.size w0 w → R i w w' → Below w0.heap.size w0 w') (hmono : ∀ i j, i ≠ j → ∀ (w w' : World) v, R i w w' → V j w v → V j w' v)
    (hop : ∀ i o, l[i]? = some o → ∀ w, Below w0.heap.size w0 w → ∀ vs : Nat → Value, (∀ j ∈ D.getD i [], V j w (vs j)) → wpList P l.toArray (relQR (R i) (V i) w o (relF l a0 vs (D.getD i []))) [o] (relF l a0 vs (D.getD i [])) w)
    (hfin : ∀ w, Below w0.heap.size w0 w → ∀ vs : Nat → Value, (∀ j, j < l.length → V j w (vs j)) → Q .normal (relF l a0 vs (List.range l.length)) w) : (Code.region id l.toArray true).wp P Q a0 w0 := by
  refine wp_region_any hm ?_
  have hs : l.toArray.size = l.length := by simp
  rw [hs]
  refine wpAny_of_relR (relB_spec hB) hn hR hmono hop hfin _ _ _ _ ⟨(Below.refl _ w0).drew, by simp, rfl, rfl, fun t _ => rfl, fun j o ho hj => ?_⟩ ?_
  · rw [getD_replicate_false] at hj; cases hj
  · refine Nat.le_trans (List.length_filter_le (!·) (Array.replicate l.length false).toList) ?_
    simp

end

end Go.Proofs.YtaihojahccplcaaDoor

/- A region that draws its order, one operation of which (s) writes what the others do not look at: before it and behind it. -/
namespace Go.Proofs.YtaihojahccplcaaDoor
open Go.RowKit
set_option linter.unusedSimpArgs false
set_option linter.unusedVariables false

structure RInvS (l : List Oper) (a0 : Act) (s : Nat) (I : Bool → World → Prop) (V : Nat → World → Value → Prop) (listed : Array Bool) (a : Act) (w : World) : Prop where
  bw : I (listed.getD s false) w
  lsz : listed.size = l.length
  sz : a.tmps.size = a0.tmps.size
  df : a.defers = a0.defers
  off : ∀ t, (∀ j o, l[j]? = some o → listed.getD j false = true → o.dst ≠ some t) → a.tmps[t]? = a0.tmps[t]?
  on : ∀ j o, l[j]? = some o → listed.getD j false = true → V j w (slotOf o a)

section
variable {P : Program} {l : List Oper} {D : List (List Nat)} {a0 : Act} {w0 : World} {V : Nat → World → Value → Prop} {R : Nat → World → World → Prop}

/-- Whatever the order. -/
theorem wpAny_of_relS {n : Nat} {Q : Exit → Act → World → Prop} (hB : RelB l D n) (hn : a0.tmps.size = n) (s : Nat) (hs : s < l.length) (I : Bool → World → Prop) (hR : ∀ i b (w w' : World), I b w → (i = s → b = false) → R i w w' → I (decide (s = i) || b) w') (hmono : ∀ i j, i ≠ j → ∀ b (w w' : World) v, I b w → (i = s → b = false) → R i w w' → V j w v → V j w' v)
    (hop : ∀ i o, l[i]? = some o → ∀ b w, I b w → (i = s → b = false) → (s ∈ D.getD i [] → b = true) → ∀ vs : Nat → Value, (∀ j ∈ D.getD i [], V j w (vs j)) → wpList P l.toArray (relQR (R i) (V i) w o (relF l a0 vs (D.getD i []))) [o] (relF l a0 vs (D.getD i [])) w)
    (hfin : ∀ w, I true w → ∀ vs : Nat → Value, (∀ j, j < l.length → V j w (vs j)) → Q .normal (relF l a0 vs (List.range l.length)) w) :
    ∀ (fuel : Nat) (listed : Array Bool) (a : Act) (w : World), RInvS l a0 s I V listed a w → (listed.toList.filter (!·)).length ≤ fuel → wpAny P .any l.toArray Q fuel listed a w := by
  have hbn : ∀ j d, dstAt l j = some d → d < n := fun j d hd => by
    by_cases hj : j < l.length
    · exact hB.bnd j d hj hd
    · unfold dstAt at hd; rw [List.getElem?_eq_none (by omega)] at hd; cases hd
  have hval : ∀ (a : Act) j o, l[j]? = some o → valAt l a j = slotOf o a := fun a j o ho => by unfold valAt slotOf dstAt; rw [ho]; rfl
  have hdst : ∀ j o, l[j]? = some o → dstAt l j = o.dst := fun j o ho => by unfold dstAt; rw [ho]; rfl
  have hall : ∀ listed a w, RInvS l a0 s I V listed a w → (∀ j, j < l.length → listed.getD j false = true) → Q .normal a w := by
    intro listed a w inv hl
    have h := hfin w (by have := inv.bw; rw [hl s hs] at this; exact this) (valAt l a) (fun j hj => by
      obtain ⟨o, ho⟩ : ∃ o, l[j]? = some o := ⟨_, List.getElem?_eq_getElem hj⟩
      rw [hval a j o ho]; exact inv.on j o ho (hl j hj))
    obtain ⟨s1, s2, s3⟩ := relF_spec (l := l) a n hbn (inv.sz.trans hn) (List.range l.length) a0 hn
    have e : relF l a0 (valAt l a) (List.range l.length) = a := by
      obtain ⟨at', ad'⟩ := a
      generalize hG : relF l a0 (valAt l ⟨at', ad'⟩) (List.range l.length) = G at s1 s2 s3
      obtain ⟨gt, gd⟩ := G
      have e1 : gd = ad' := s2.trans inv.df.symm
      have e2 : gt = at' := by
        apply Array.ext_getElem?
        intro t
        obtain ⟨h1, h2, h3⟩ := s3 t
        by_cases hx : ∃ j ∈ List.range l.length, dstAt l j = some t
        · exact h1 hx
        · refine h3 (inv.off t fun j o ho _ hd => hx ⟨j, List.mem_range.2 ?_, (hdst j o ho).trans hd⟩).symm
          exact (List.getElem?_eq_some_iff.1 ho).1
      rw [e1, e2]
    rwa [e] at h
  intro fuel
  induction fuel with
  | zero =>
    intro listed a w inv hf
    have hl : ∀ j, j < l.length → listed.getD j false = true := by
      intro j hj
      have h0 := List.eq_nil_of_length_eq_zero (Nat.le_zero.1 hf)
      have hj' : j < listed.size := by rw [inv.lsz]; exact hj
      have hm := List.filter_eq_nil_iff.1 h0 (listed[j]'hj') (by simp)
      rw [Array.getD_eq_getD_getElem?, Array.getElem?_eq_getElem hj']
      simpa using hm
    refine ⟨?_, hall listed a w inv hl⟩
    rw [List.eq_nil_iff_forall_not_mem]
    intro j hj
    obtain ⟨h1, o, ho, _⟩ := mem_ready.1 hj
    have hj' : j < l.length := by simpa using (Array.getElem?_eq_some_iff.1 ho).1
    have := hl j hj'
    rw [Array.getD_eq_getD_getElem?, Array.getElem?_eq_getElem (by rw [inv.lsz]; exact hj')] at h1 this
    simp only [Option.getD_some] at h1 this
    rw [h1] at this; cases this
  | succ fuel ih =>
    intro listed a w inv hf
    have hgd : ∀ j, j < l.length → ∀ b, listed.getD j b = listed.getD j false := fun j hj b => by
      simp [Array.getD_eq_getD_getElem?, Array.getElem?_eq_getElem (show j < listed.size by rw [inv.lsz]; exact hj)]
    refine ⟨fun hr => ?_, fun i hi => ?_⟩
    · refine hall listed a w inv fun j hj => ?_
      induction j using Nat.strongRecOn with
      | ind j ihj =>
        cases hx : listed.getD j false with
        | true => rfl
        | false =>
          obtain ⟨o, ho⟩ : ∃ o, l[j]? = some o := ⟨_, List.getElem?_eq_getElem hj⟩
          have : j ∈ Region.ready .any l.toArray listed := mem_ready.2 ⟨(hgd j hj true).trans hx, o, by simpa using ho, fun e he hb => by
            have hlt := hB.back j o e hj ho he hb
            exact ihj e.on hlt (by omega)⟩
          rw [hr] at this; cases this
    · obtain ⟨hun, o, ho', hdep⟩ := mem_ready.1 hi
      have ho : l[i]? = some o := by simpa using ho'
      have hil : i < l.length := (List.getElem?_eq_some_iff.1 ho).1
      have hdl : ∀ j ∈ D.getD i [], j < l.length ∧ listed.getD j false = true := by
        intro j hj
        obtain ⟨oj, hoj, e, he, hb, hon⟩ := Region.waitsFor_spec (hB.wait i j hil hj)
        obtain rfl : o = oj := Option.some.inj (ho'.symm.trans hoj)
        have := hdep e he hb
        rw [hon] at this
        refine ⟨?_, this⟩
        have := hB.back i o e hil ho he hb
        omega
      have hs0 : i = s → listed.getD s false = false := fun e => by subst e; exact (hgd i hil true).symm.trans hun
      have hw0 := hop i o ho _ w inv.bw hs0 (fun h => (hdl s h).2) (valAt l a) (fun j hj => by
        obtain ⟨h1, h2⟩ := hdl j hj
        obtain ⟨oj, hoj⟩ : ∃ o, l[j]? = some o := ⟨_, List.getElem?_eq_getElem h1⟩
        rw [hval a j oj hoj]; exact inv.on j oj hoj h2)
      obtain ⟨s1, s2, s3⟩ := relF_spec (l := l) a n hbn (inv.sz.trans hn) (D.getD i []) a0 hn
      have hlook : ∀ t, t ∈ o.looksAt l.toArray → (relF l a0 (valAt l a) (D.getD i [])).tmps[t]? = a.tmps[t]? := by
        intro t ht
        obtain ⟨h1, h2, h3⟩ := s3 t
        by_cases hx : ∃ j ∈ D.getD i [], dstAt l j = some t
        · exact h1 hx
        · refine h3 (inv.off t fun j oj hoj _ hd => hx ⟨j, hB.look i j t o hil (List.getElem?_eq_some_iff.1 hoj).1 ho ((hdst j oj hoj).trans hd) ht, (hdst j oj hoj).trans hd⟩).symm
      have hev : ∀ x ∈ o.op.operands, (relF l a0 (valAt l a) (D.getD i [])).eval x = a.eval x := by
        intro x hx
        cases x with
        | tmp t =>
          have := hlook t (List.mem_append_left _ (List.mem_filterMap.2 ⟨.tmp t, by simpa using hx, rfl⟩))
          show (relF l a0 (valAt l a) (D.getD i [])).tmps.getD t undef = a.tmps.getD t undef
          rw [Array.getD_eq_getD_getElem?, Array.getD_eq_getD_getElem?, this]
        | _ => rfl
      have hwt : Region.wanted o (yielded l.toArray (relF l a0 (valAt l a) (D.getD i [])).tmps) = Region.wanted o (yielded l.toArray a.tmps) := by
        unfold Region.wanted
        cases hg : o.guard with
        | none => rfl
        | some gw =>
          obtain ⟨g, want⟩ := gw
          simp only []
          congr 1
          unfold yielded
          cases hd : (l.toArray[g]?).bind (·.dst) with
          | none => rfl
          | some t =>
            simp only [Option.bind_some]
            rw [hlook t (List.mem_append_right _ (by rw [hg]; simp only [hd]; simp))]
      unfold wpOp
      simp only [ho']
      refine rel_transferR (execOp_congr o (fun cs b => Region.noSelect_spec hB.sel i o cs b ho') hev) hwt (fun d hd => by rw [s1]; exact hbn i d ((hdst i o ho).trans hd)) hw0 fun v w' hb hv => ?_
      have hil2 : i < listed.size := by rw [inv.lsz]; exact hil
      refine ih _ _ _ ⟨by rw [get_set_true _ _ _ hil2]; exact hR i _ _ _ inv.bw hs0 hb, by simp [inv.lsz], by rw [put_size]; exact inv.sz, by rw [put_df]; exact inv.df, fun t ht => ?_, fun j oj hoj hj => ?_⟩ ?_
      · rw [put_ne _ _ _ _ (ht i o ho (by rw [get_set_true _ _ _ hil2]; simp))]
        exact inv.off t fun j oj hoj hj => ht j oj hoj (by rw [get_set_true _ _ _ hil2, hj]; simp)
      · by_cases hji : j = i
        · subst hji
          obtain rfl := Option.some.inj (hoj.symm.trans ho)
          rw [slot_put _ _ _ (fun d hd => by rw [inv.sz, hn]; exact hbn j d ((hdst j oj hoj).trans hd))]
          exact hv
        · rw [get_set_true _ _ _ hil2] at hj
          simp only [hji, decide_false, Bool.false_or] at hj
          rw [slot_other _ _ _ _ fun d hd hd' => hB.dist j i d (List.getElem?_eq_some_iff.1 hoj).1 hil hji ((hdst j oj hoj).trans hd) ((hdst i o ho).trans hd')]
          exact hmono i j (fun e => hji e.symm) _ w w' _ inv.bw hs0 hb (inv.on j oj hoj hj)
      · have hx : listed.toList[i]? = some false := by
          rw [Array.getElem?_toList, Array.getElem?_eq_getElem hil2]
          rw [Array.getD_eq_getD_getElem?, Array.getElem?_eq_getElem hil2] at hun
          exact congrArg some hun
        have := count_set listed.toList i hx
        rw [Array.toList_setIfInBounds]
        omega

/-- The region, whatever the order: D: for each operation the operations whose slots it looks at; V: what is known of its value (kept where blocks are added). -/
theorem wp_region_relS {id : Nat} {Q : Exit → Act → World → Prop} (D : List (List Nat)) (V : Nat → World → Value → Prop) (R : Nat → World → World → Prop) (n : Nat) (hm : P.follows .mixedOrders = true) (hn : a0.tmps.size = n) (hB : relB l D n = true)
    (s : Nat) (hs : s < l.length) (I : Bool → World → Prop) (h0 : I false w0.drew) (hR : ∀ i b (w w' : World), I b w → (i = s → b = false) → R i w w' → I (decide (s = i) || b) w') (hmono : ∀ i j, i ≠ j → ∀ b (w w' : World) v, I b w → (i = s → b = false) → R i w w' → V j w v → V j w' v)
    (hop : ∀ i o, l[i]? = some o → ∀ b w, I b w → (i = s → b = false) → (s ∈ D.getD i [] → b = true) → ∀ vs : Nat → Value, (∀ j ∈ D.getD i [], V j w (vs j)) → wpList P l.toArray (relQR (R i) (V i) w o (relF l a0 vs (D.getD i []))) [o] (relF l a0 vs (D.getD i [])) w)
    (hfin : ∀ w, I true w → ∀ vs : Nat → Value, (∀ j, j < l.length → V j w (vs j)) → Q .normal (relF l a0 vs (List.range l.length)) w) : (Code.region id l.toArray true).wp P Q a0 w0 := by
  refine wp_region_any hm ?_
  have hsz : l.toArray.size = l.length := by simp
  rw [hsz]
  refine wpAny_of_relS (relB_spec hB) hn s hs I hR hmono hop hfin _ _ _ _ ⟨by rw [getD_replicate_false]; exact h0, by simp, rfl, rfl, fun t _ => rfl, fun j o ho hj => ?_⟩ ?_
  · rw [getD_replicate_false] at hj; cases hj
  · refine Nat.le_trans (List.length_filter_le (!·) (Array.replicate l.length false).toList) ?_
    simp

end

end Go.Proofs.YtaihojahccplcaaDoor

/- A region that draws its order, one operation of which (s) writes what the others do not look at; an operation may look at a slot that a later one writes. -/
namespace Go.Proofs.YtaihojahccplcaaDoor
open Go.RowKit
set_option linter.unusedSimpArgs false
set_option linter.unusedVariables false

def relBw (l : List Oper) (D : List (List Nat)) (n : Nat) : Bool :=
  Region.noSelect l.toArray &&
  ((List.range l.length).all fun i => (List.range l.length).all fun j => i == j || ((l[i]?).bind (·.dst)).isNone || (l[i]?).bind (·.dst) != (l[j]?).bind (·.dst)) &&
  ((List.range l.length).all fun i => match (l[i]?).bind (·.dst) with | some d => decide (d < n) | none => true) &&
  ((List.range l.length).all fun i => (D.getD i []).all fun j => Region.waitsFor .any l.toArray i j) &&
  ((List.range l.length).all fun i => (List.range l.length).all fun j => match (l[j]?).bind (·.dst) with
    | some t => !(((l[i]?).map (Oper.looksAt l.toArray)).getD []).contains t || (D.getD i []).contains j || Region.waitsFor .any l.toArray j i
    | none => true) &&
  ((List.range l.length).all fun i => (((l[i]?).map (·.after)).getD #[]).all fun e => !Region.binds .any e || decide (e.on < i))

section
variable {P : Program} {l : List Oper} {D : List (List Nat)} {a0 : Act} {w0 : World} {V : Nat → World → Value → Prop} {R : Nat → World → World → Prop}

structure RelBw (l : List Oper) (D : List (List Nat)) (n : Nat) : Prop where
  sel : Region.noSelect l.toArray = true
  dist : ∀ i j t, i < l.length → j < l.length → i ≠ j → dstAt l i = some t → dstAt l j ≠ some t
  bnd : ∀ i t, i < l.length → dstAt l i = some t → t < n
  wait : ∀ i j, i < l.length → j ∈ D.getD i [] → Region.waitsFor .any l.toArray i j = true
  look : ∀ i j t o, i < l.length → j < l.length → l[i]? = some o → dstAt l j = some t → t ∈ o.looksAt l.toArray → j ∈ D.getD i [] ∨ Region.waitsFor .any l.toArray j i = true
  back : ∀ i o e, i < l.length → l[i]? = some o → e ∈ o.after → Region.binds .any e = true → e.on < i

theorem relBw_spec {n : Nat} (h : relBw l D n = true) : RelBw l D n := by
  unfold relBw at h
  simp only [Bool.and_eq_true] at h
  obtain ⟨⟨⟨⟨⟨h1, h2⟩, h3⟩, h4⟩, h5⟩, h6⟩ := h
  refine ⟨h1, fun i j t hi hj hij hd hd' => ?_, fun i t hi hd => ?_, fun i j hi hj => ?_, fun i j t o hi hj ho hd hl => ?_, fun i o e hi ho he hb => ?_⟩
  · have := List.all_eq_true.1 (List.all_eq_true.1 h2 i (List.mem_range.2 hi)) j (List.mem_range.2 hj)
    unfold dstAt at hd hd'
    rw [hd, hd'] at this
    simp [hij] at this
  · have := List.all_eq_true.1 h3 i (List.mem_range.2 hi)
    unfold dstAt at hd
    rw [hd] at this
    simpa using this
  · exact List.all_eq_true.1 (List.all_eq_true.1 h4 i (List.mem_range.2 hi)) j hj
  · have := List.all_eq_true.1 (List.all_eq_true.1 h5 i (List.mem_range.2 hi)) j (List.mem_range.2 hj)
    unfold dstAt at hd
    rw [hd, ho] at this
    simp only [Option.map_some, Option.getD_some, Bool.or_eq_true, Bool.not_eq_true'] at this
    rcases this with (h | h) | h
    · rw [List.contains_eq_mem] at h
      simp [hl] at h
    · exact .inl (by simpa using h)
    · exact .inr h
  · have := List.all_eq_true.1 h6 i (List.mem_range.2 hi)
    rw [ho] at this
    simp only [Option.map_some, Option.getD_some] at this
    have := Array.all_eq_true_iff_forall_mem.1 this e he
    simpa [hb] using this

/-- Whatever the order. -/
theorem wpAny_of_relW {n : Nat} {Q : Exit → Act → World → Prop} (hB : RelBw l D n) (hn : a0.tmps.size = n) (s : Nat) (hs : s < l.length) (I : Bool → World → Prop) (hR : ∀ i b (w w' : World), I b w → (i = s → b = false) → R i w w' → I (decide (s = i) || b) w') (hmono : ∀ i j, i ≠ j → ∀ b (w w' : World) v, I b w → (i = s → b = false) → R i w w' → V j w v → V j w' v)
    (hop : ∀ i o, l[i]? = some o → ∀ b w, I b w → (i = s → b = false) → (s ∈ D.getD i [] → b = true) → ∀ vs : Nat → Value, (∀ j ∈ D.getD i [], V j w (vs j)) → wpList P l.toArray (relQR (R i) (V i) w o (relF l a0 vs (D.getD i []))) [o] (relF l a0 vs (D.getD i [])) w)
    (hfin : ∀ w, I true w → ∀ vs : Nat → Value, (∀ j, j < l.length → V j w (vs j)) → Q .normal (relF l a0 vs (List.range l.length)) w) :
    ∀ (fuel : Nat) (listed : Array Bool) (a : Act) (w : World), RInvS l a0 s I V listed a w → (∀ i o e, l[i]? = some o → listed.getD i false = true → e ∈ o.after → Region.binds .any e = true → listed.getD e.on false = true) → (listed.toList.filter (!·)).length ≤ fuel → wpAny P .any l.toArray Q fuel listed a w := by
  have hbn : ∀ j d, dstAt l j = some d → d < n := fun j d hd => by
    by_cases hj : j < l.length
    · exact hB.bnd j d hj hd
    · unfold dstAt at hd; rw [List.getElem?_eq_none (by omega)] at hd; cases hd
  have hval : ∀ (a : Act) j o, l[j]? = some o → valAt l a j = slotOf o a := fun a j o ho => by unfold valAt slotOf dstAt; rw [ho]; rfl
  have hdst : ∀ j o, l[j]? = some o → dstAt l j = o.dst := fun j o ho => by unfold dstAt; rw [ho]; rfl
  have hall : ∀ listed a w, RInvS l a0 s I V listed a w → (∀ j, j < l.length → listed.getD j false = true) → Q .normal a w := by
    intro listed a w inv hl
    have h := hfin w (by have := inv.bw; rw [hl s hs] at this; exact this) (valAt l a) (fun j hj => by
      obtain ⟨o, ho⟩ : ∃ o, l[j]? = some o := ⟨_, List.getElem?_eq_getElem hj⟩
      rw [hval a j o ho]; exact inv.on j o ho (hl j hj))
    obtain ⟨s1, s2, s3⟩ := relF_spec (l := l) a n hbn (inv.sz.trans hn) (List.range l.length) a0 hn
    have e : relF l a0 (valAt l a) (List.range l.length) = a := by
      obtain ⟨at', ad'⟩ := a
      generalize hG : relF l a0 (valAt l ⟨at', ad'⟩) (List.range l.length) = G at s1 s2 s3
      obtain ⟨gt, gd⟩ := G
      have e1 : gd = ad' := s2.trans inv.df.symm
      have e2 : gt = at' := by
        apply Array.ext_getElem?
        intro t
        obtain ⟨h1, h2, h3⟩ := s3 t
        by_cases hx : ∃ j ∈ List.range l.length, dstAt l j = some t
        · exact h1 hx
        · refine h3 (inv.off t fun j o ho _ hd => hx ⟨j, List.mem_range.2 ?_, (hdst j o ho).trans hd⟩).symm
          exact (List.getElem?_eq_some_iff.1 ho).1
      rw [e1, e2]
    rwa [e] at h
  intro fuel
  induction fuel with
  | zero =>
    intro listed a w inv hcl hf
    have hl : ∀ j, j < l.length → listed.getD j false = true := by
      intro j hj
      have h0 := List.eq_nil_of_length_eq_zero (Nat.le_zero.1 hf)
      have hj' : j < listed.size := by rw [inv.lsz]; exact hj
      have hm := List.filter_eq_nil_iff.1 h0 (listed[j]'hj') (by simp)
      rw [Array.getD_eq_getD_getElem?, Array.getElem?_eq_getElem hj']
      simpa using hm
    refine ⟨?_, hall listed a w inv hl⟩
    rw [List.eq_nil_iff_forall_not_mem]
    intro j hj
    obtain ⟨h1, o, ho, _⟩ := mem_ready.1 hj
    have hj' : j < l.length := by simpa using (Array.getElem?_eq_some_iff.1 ho).1
    have := hl j hj'
    rw [Array.getD_eq_getD_getElem?, Array.getElem?_eq_getElem (by rw [inv.lsz]; exact hj')] at h1 this
    simp only [Option.getD_some] at h1 this
    rw [h1] at this; cases this
  | succ fuel ih =>
    intro listed a w inv hcl hf
    have hgd : ∀ j, j < l.length → ∀ b, listed.getD j b = listed.getD j false := fun j hj b => by
      simp [Array.getD_eq_getD_getElem?, Array.getElem?_eq_getElem (show j < listed.size by rw [inv.lsz]; exact hj)]
    refine ⟨fun hr => ?_, fun i hi => ?_⟩
    · refine hall listed a w inv fun j hj => ?_
      induction j using Nat.strongRecOn with
      | ind j ihj =>
        cases hx : listed.getD j false with
        | true => rfl
        | false =>
          obtain ⟨o, ho⟩ : ∃ o, l[j]? = some o := ⟨_, List.getElem?_eq_getElem hj⟩
          have : j ∈ Region.ready .any l.toArray listed := mem_ready.2 ⟨(hgd j hj true).trans hx, o, by simpa using ho, fun e he hb => by
            have hlt := hB.back j o e hj ho he hb
            exact ihj e.on hlt (by omega)⟩
          rw [hr] at this; cases this
    · obtain ⟨hun, o, ho', hdep⟩ := mem_ready.1 hi
      have ho : l[i]? = some o := by simpa using ho'
      have hil : i < l.length := (List.getElem?_eq_some_iff.1 ho).1
      have hdl : ∀ j ∈ D.getD i [], j < l.length ∧ listed.getD j false = true := by
        intro j hj
        obtain ⟨oj, hoj, e, he, hb, hon⟩ := Region.waitsFor_spec (hB.wait i j hil hj)
        obtain rfl : o = oj := Option.some.inj (ho'.symm.trans hoj)
        have := hdep e he hb
        rw [hon] at this
        refine ⟨?_, this⟩
        have := hB.back i o e hil ho he hb
        omega
      have hs0 : i = s → listed.getD s false = false := fun e => by subst e; exact (hgd i hil true).symm.trans hun
      have hw0 := hop i o ho _ w inv.bw hs0 (fun h => (hdl s h).2) (valAt l a) (fun j hj => by
        obtain ⟨h1, h2⟩ := hdl j hj
        obtain ⟨oj, hoj⟩ : ∃ o, l[j]? = some o := ⟨_, List.getElem?_eq_getElem h1⟩
        rw [hval a j oj hoj]; exact inv.on j oj hoj h2)
      obtain ⟨s1, s2, s3⟩ := relF_spec (l := l) a n hbn (inv.sz.trans hn) (D.getD i []) a0 hn
      have hlook : ∀ t, t ∈ o.looksAt l.toArray → (relF l a0 (valAt l a) (D.getD i [])).tmps[t]? = a.tmps[t]? := by
        intro t ht
        obtain ⟨h1, h2, h3⟩ := s3 t
        by_cases hx : ∃ j ∈ D.getD i [], dstAt l j = some t
        · exact h1 hx
        · refine h3 (inv.off t fun j oj hoj hlj hd => ?_).symm
          rcases hB.look i j t o hil (List.getElem?_eq_some_iff.1 hoj).1 ho ((hdst j oj hoj).trans hd) ht with hq | hq
          · exact hx ⟨j, hq, (hdst j oj hoj).trans hd⟩
          · obtain ⟨ow, how, e, he, hb, hon⟩ := Region.waitsFor_spec hq
            have how' : l[j]? = some ow := by simpa using how
            have h9 := hcl j ow e how' hlj he hb
            rw [hon, (hgd i hil true).symm.trans hun] at h9
            cases h9
      have hev : ∀ x ∈ o.op.operands, (relF l a0 (valAt l a) (D.getD i [])).eval x = a.eval x := by
        intro x hx
        cases x with
        | tmp t =>
          have := hlook t (List.mem_append_left _ (List.mem_filterMap.2 ⟨.tmp t, by simpa using hx, rfl⟩))
          show (relF l a0 (valAt l a) (D.getD i [])).tmps.getD t undef = a.tmps.getD t undef
          rw [Array.getD_eq_getD_getElem?, Array.getD_eq_getD_getElem?, this]
        | _ => rfl
      have hwt : Region.wanted o (yielded l.toArray (relF l a0 (valAt l a) (D.getD i [])).tmps) = Region.wanted o (yielded l.toArray a.tmps) := by
        unfold Region.wanted
        cases hg : o.guard with
        | none => rfl
        | some gw =>
          obtain ⟨g, want⟩ := gw
          simp only []
          congr 1
          unfold yielded
          cases hd : (l.toArray[g]?).bind (·.dst) with
          | none => rfl
          | some t =>
            simp only [Option.bind_some]
            rw [hlook t (List.mem_append_right _ (by rw [hg]; simp only [hd]; simp))]
      unfold wpOp
      simp only [ho']
      refine rel_transferR (execOp_congr o (fun cs b => Region.noSelect_spec hB.sel i o cs b ho') hev) hwt (fun d hd => by rw [s1]; exact hbn i d ((hdst i o ho).trans hd)) hw0 fun v w' hb hv => ?_
      have hil2 : i < listed.size := by rw [inv.lsz]; exact hil
      refine ih _ _ _ ⟨by rw [get_set_true _ _ _ hil2]; exact hR i _ _ _ inv.bw hs0 hb, by simp [inv.lsz], by rw [put_size]; exact inv.sz, by rw [put_df]; exact inv.df, fun t ht => ?_, fun j oj hoj hj => ?_⟩ ?_ ?_
      · rw [put_ne _ _ _ _ (ht i o ho (by rw [get_set_true _ _ _ hil2]; simp))]
        exact inv.off t fun j oj hoj hj => ht j oj hoj (by rw [get_set_true _ _ _ hil2, hj]; simp)
      · by_cases hji : j = i
        · subst hji
          obtain rfl := Option.some.inj (hoj.symm.trans ho)
          rw [slot_put _ _ _ (fun d hd => by rw [inv.sz, hn]; exact hbn j d ((hdst j oj hoj).trans hd))]
          exact hv
        · rw [get_set_true _ _ _ hil2] at hj
          simp only [hji, decide_false, Bool.false_or] at hj
          rw [slot_other _ _ _ _ fun d hd hd' => hB.dist j i d (List.getElem?_eq_some_iff.1 hoj).1 hil hji ((hdst j oj hoj).trans hd) ((hdst i o ho).trans hd')]
          exact hmono i j (fun e => hji e.symm) _ w w' _ inv.bw hs0 hb (inv.on j oj hoj hj)
      · intro i' o' e hi' hli he hbe
        rw [get_set_true _ _ _ hil2] at hli ⊢
        by_cases hii : i' = i
        · subst hii
          obtain rfl := Option.some.inj (hi'.symm.trans ho)
          rw [hdep e he hbe]; simp
        · simp only [hii, decide_false, Bool.false_or] at hli
          rw [hcl i' o' e hi' hli he hbe]; simp
      · have hx : listed.toList[i]? = some false := by
          rw [Array.getElem?_toList, Array.getElem?_eq_getElem hil2]
          rw [Array.getD_eq_getD_getElem?, Array.getElem?_eq_getElem hil2] at hun
          exact congrArg some hun
        have := count_set listed.toList i hx
        rw [Array.toList_setIfInBounds]
        omega

/-- The region, whatever the order: D: for each operation the operations whose slots it looks at; V: what is known of its value (kept where blocks are added). -/
theorem wp_region_relW {id : Nat} {Q : Exit → Act → World → Prop} (D : List (List Nat)) (V : Nat → World → Value → Prop) (R : Nat → World → World → Prop) (n : Nat) (hm : P.follows .mixedOrders = true) (hn : a0.tmps.size = n) (hB : relBw l D n = true)
    (s : Nat) (hs : s < l.length) (I : Bool → World → Prop) (h0 : I false w0.drew) (hR : ∀ i b (w w' : World), I b w → (i = s → b = false) → R i w w' → I (decide (s = i) || b) w') (hmono : ∀ i j, i ≠ j → ∀ b (w w' : World) v, I b w → (i = s → b = false) → R i w w' → V j w v → V j w' v)
    (hop : ∀ i o, l[i]? = some o → ∀ b w, I b w → (i = s → b = false) → (s ∈ D.getD i [] → b = true) → ∀ vs : Nat → Value, (∀ j ∈ D.getD i [], V j w (vs j)) → wpList P l.toArray (relQR (R i) (V i) w o (relF l a0 vs (D.getD i []))) [o] (relF l a0 vs (D.getD i [])) w)
    (hfin : ∀ w, I true w → ∀ vs : Nat → Value, (∀ j, j < l.length → V j w (vs j)) → Q .normal (relF l a0 vs (List.range l.length)) w) : (Code.region id l.toArray true).wp P Q a0 w0 := by
  refine wp_region_any hm ?_
  have hsz : l.toArray.size = l.length := by simp
  rw [hsz]
  refine wpAny_of_relW (relBw_spec hB) hn s hs I hR hmono hop hfin _ _ _ _ ⟨by rw [getD_replicate_false]; exact h0, by simp, rfl, rfl, fun t _ => rfl, fun j o ho hj => ?_⟩ (fun i o e _ hli _ _ => ?_) ?_
  · rw [getD_replicate_false] at hj; cases hj
  · rw [getD_replicate_false] at hli; cases hli
  · refine Nat.le_trans (List.length_filter_le (!·) (Array.replicate l.length false).toList) ?_
    simp

end

end Go.Proofs.YtaihojahccplcaaDoor
