/- A region that draws its order and makes memory, and ends in one operation that waits for all the others (a store into what stood there before). -/
import Derived.Test.YteljlnkjdajkgaaDoorRel
namespace Go.Proofs.YteljlnkjdajkgaaDoor
open Go.RowKit
set_option linter.unusedSimpArgs false
set_option linter.unusedVariables false

def lastB (l : List Oper) : Bool :=
  (List.range (l.length - 1)).all fun j => (List.range l.length).any fun i => decide (j < i) && Region.waitsFor .any l.toArray i j

section
variable {P : Program} {l : List Oper} {D : List (List Nat)} {a0 : Act} {w0 : World} {V : Nat → World → Value → Prop}

/-- Whatever the order. -/
theorem wpAny_of_rel_last {n m : Nat} {oL : Oper} {Q : Exit → Act → World → Prop} (hm : l.length = m + 1) (hoL : l[m]? = some oL) (hB : RelB l D n) (hLast : lastB l = true) (hn : a0.tmps.size = n) (hmono : ∀ j (w w' : World) v, Below w.heap.size w w' → V j w v → V j w' v)
    (hop : ∀ i o, i < m → l[i]? = some o → ∀ w, Below w0.heap.size w0 w → ∀ vs : Nat → Value, (∀ j ∈ D.getD i [], V j w (vs j)) → wpList P l.toArray (relQ (V i) w o (relF l a0 vs (D.getD i []))) [o] (relF l a0 vs (D.getD i [])) w)
    (hfin : ∀ w, Below w0.heap.size w0 w → ∀ vs : Nat → Value, (∀ j, j < m → V j w (vs j)) → wpList P l.toArray Q [oL] (relF l a0 vs (List.range m)) w) :
    ∀ (fuel : Nat) (listed : Array Bool) (a : Act) (w : World), RInv l a0 w0 V listed a w → listed.getD m false = false →
      (∀ i o e, l[i]? = some o → listed.getD i false = true → e ∈ o.after → Region.binds .any e = true → listed.getD e.on false = true) →
      (listed.toList.filter (!·)).length ≤ fuel → wpAny P .any l.toArray Q fuel listed a w := by
  have hbn : ∀ j d, dstAt l j = some d → d < n := fun j d hd => by
    by_cases hj : j < l.length
    · exact hB.bnd j d hj hd
    · unfold dstAt at hd; rw [List.getElem?_eq_none (by omega)] at hd; cases hd
  have hval : ∀ (a : Act) j o, l[j]? = some o → valAt l a j = slotOf o a := fun a j o ho => by unfold valAt slotOf dstAt; rw [ho]; rfl
  have hdst : ∀ j o, l[j]? = some o → dstAt l j = o.dst := fun j o ho => by unfold dstAt; rw [ho]; rfl
  have hall : ∀ listed a w, RInv l a0 w0 V listed a w → listed.getD m false = false → (∀ j, j < m → listed.getD j false = true) → wpList P l.toArray Q [oL] a w := by
    intro listed a w inv hmf hl
    have h := hfin w inv.bw (valAt l a) (fun j hj => by
      obtain ⟨o, ho⟩ : ∃ o, l[j]? = some o := ⟨_, List.getElem?_eq_getElem (show j < l.length by omega)⟩
      rw [hval a j o ho]; exact inv.on j o ho (hl j hj))
    obtain ⟨s1, s2, s3⟩ := relF_spec (l := l) a n hbn (inv.sz.trans hn) (List.range m) a0 hn
    have e : relF l a0 (valAt l a) (List.range m) = a := by
      obtain ⟨at', ad'⟩ := a
      generalize hG : relF l a0 (valAt l ⟨at', ad'⟩) (List.range m) = G at s1 s2 s3
      obtain ⟨gt, gd⟩ := G
      have e1 : gd = ad' := s2.trans inv.df.symm
      have e2 : gt = at' := by
        apply Array.ext_getElem?
        intro t
        obtain ⟨h1, h2, h3⟩ := s3 t
        by_cases hx : ∃ j ∈ List.range m, dstAt l j = some t
        · exact h1 hx
        · refine h3 (inv.off t fun j o ho hlj hd => hx ⟨j, List.mem_range.2 ?_, (hdst j o ho).trans hd⟩).symm
          have h5 := (List.getElem?_eq_some_iff.1 ho).1
          by_cases hjm : j = m
          · subst hjm; rw [hmf] at hlj; cases hlj
          · omega
      rw [e1, e2]
    rwa [e] at h
  intro fuel
  induction fuel with
  | zero =>
    intro listed a w inv hmf hcl hf
    exfalso
    have h0 := List.eq_nil_of_length_eq_zero (Nat.le_zero.1 hf)
    have hj' : m < listed.size := by rw [inv.lsz]; omega
    have hmm := List.filter_eq_nil_iff.1 h0 (listed[m]'hj') (by simp)
    rw [Array.getD_eq_getD_getElem?, Array.getElem?_eq_getElem hj'] at hmf
    simp only [Option.getD_some] at hmf
    rw [hmf] at hmm
    exact hmm rfl
  | succ fuel ih =>
    intro listed a w inv hmf hcl hf
    have hgd : ∀ j, j < l.length → ∀ b, listed.getD j b = listed.getD j false := fun j hj b => by
      simp [Array.getD_eq_getD_getElem?, Array.getElem?_eq_getElem (show j < listed.size by rw [inv.lsz]; exact hj)]
    refine ⟨fun hr => ?_, fun i hi => ?_⟩
    · exfalso
      have hallL : ∀ j, j < l.length → listed.getD j false = true := by
        intro j hj
        induction j using Nat.strongRecOn with
        | ind j ihj =>
          cases hx : listed.getD j false with
          | true => rfl
          | false =>
            obtain ⟨o, ho⟩ : ∃ o, l[j]? = some o := ⟨_, List.getElem?_eq_getElem hj⟩
            have : j ∈ Region.ready .any l.toArray listed := mem_ready.2 ⟨(hgd j hj true).trans hx, o, by simpa using ho, fun e he hb => by
              have hlt := hB.back j o e hj ho he hb
              exact ihj e.on hlt (by omega)⟩
            rw [hr] at this; cases this
      rw [hallL m (by omega)] at hmf; cases hmf
    · obtain ⟨hun, o, ho', hdep⟩ := mem_ready.1 hi
      have ho : l[i]? = some o := by simpa using ho'
      have hil : i < l.length := (List.getElem?_eq_some_iff.1 ho).1
      have hil2 : i < listed.size := by rw [inv.lsz]; exact hil
      by_cases him : i = m
      · subst him
        obtain rfl : o = oL := Option.some.inj (ho.symm.trans hoL)
        have hlst : ∀ k j, i - j = k → j < i → listed.getD j false = true := by
          intro k
          induction k using Nat.strongRecOn with
          | ind k ihk =>
            intro j hjk hj
            have h1 := List.all_eq_true.1 hLast j (List.mem_range.2 (by omega))
            obtain ⟨i', hi', h2⟩ := List.any_eq_true.1 h1
            simp only [Bool.and_eq_true, decide_eq_true_eq] at h2
            have hil' := List.mem_range.1 hi'
            obtain ⟨oi, hoi, e, he, hb, hon⟩ := Region.waitsFor_spec h2.2
            have hoi' : l[i']? = some oi := by simpa using hoi
            by_cases hii : i' = i
            · subst hii
              obtain rfl : o = oi := Option.some.inj (ho'.symm.trans hoi)
              have := hdep e he hb
              rwa [hon] at this
            · have := hcl i' oi e hoi' (ihk (i - i') (by omega) i' rfl (by omega)) he hb
              rwa [hon] at this
        have hw := hall listed a w inv hmf (fun j hj => hlst _ j rfl hj)
        have hK : ∀ a' w', Q .normal a' w' → wpAny P .any l.toArray Q fuel (listed.setIfInBounds i true) a' w' := by
          intro a' w' hq
          have hnone : Region.ready .any l.toArray (listed.setIfInBounds i true) = [] := by
            rw [List.eq_nil_iff_forall_not_mem]
            intro j hj
            obtain ⟨h1, oj, hoj, _⟩ := mem_ready.1 hj
            have hjl : j < l.length := by simpa using (Array.getElem?_eq_some_iff.1 hoj).1
            have hjs : j < (listed.setIfInBounds i true).size := by simp [inv.lsz]; exact hjl
            have hset := get_set_true listed i j hil2
            have : (listed.setIfInBounds i true).getD j false = true := by
              rw [hset]
              by_cases hji : j = i
              · simp [hji]
              · rw [hlst _ j rfl (by omega)]; simp
            rw [Array.getD_eq_getD_getElem?, Array.getElem?_eq_getElem hjs] at h1 this
            simp only [Option.getD_some] at h1 this
            rw [h1] at this; cases this
          cases fuel with
          | zero => exact ⟨hnone, hq⟩
          | succ k => exact ⟨fun _ => hq, fun j hj => by rw [hnone] at hj; cases hj⟩
        unfold wpOp
        simp only [ho']
        unfold wpList at hw
        split at hw
        · rename_i hwt
          rw [if_pos hwt]
          exact hw.imp (Oper.wp_mono (fun a' w' hq => hK a' w' hq)) id
        · rename_i hwt
          rw [if_neg hwt]
          exact hK _ _ hw
      · have hlm : i < m := by omega
        have hdl : ∀ j ∈ D.getD i [], j < l.length ∧ listed.getD j false = true := by
          intro j hj
          obtain ⟨oj, hoj, e, he, hb, hon⟩ := Region.waitsFor_spec (hB.wait i j hil hj)
          obtain rfl : o = oj := Option.some.inj (ho'.symm.trans hoj)
          have := hdep e he hb
          rw [hon] at this
          refine ⟨?_, this⟩
          have := hB.back i o e hil ho he hb
          omega
        have hw0 := hop i o hlm ho w inv.bw (valAt l a) (fun j hj => by
          obtain ⟨h1, h2⟩ := hdl j hj
          obtain ⟨oj, hoj⟩ : ∃ o, l[j]? = some o := ⟨_, List.getElem?_eq_getElem h1⟩
          rw [hval a j oj hoj]; exact inv.on j oj hoj h2)
        obtain ⟨s1, s2, s3⟩ := relF_spec (l := l) a n hbn (inv.sz.trans hn) (D.getD i []) a0 hn
        have hlook : ∀ t, t ∈ o.looksAt l.toArray → (relF l a0 (valAt l a) (D.getD i [])).tmps[t]? = a.tmps[t]? := by
          intro t ht
          obtain ⟨h1, h2, h3⟩ := s3 t
          by_cases hx : ∃ j ∈ D.getD i [], dstAt l j = some t
          · exact h1 hx
          · refine h3 (inv.off t fun j oj hoj _ hd => hx ⟨j, hB.look i j t o hil (List.getElem?_eq_some_iff.1 hoj).1 ho ((hdst j oj hoj).trans hd) ht, (hdst j oj hoj).trans hd⟩).symm
        have hev : ∀ x ∈ o.op.operands, (relF l a0 (valAt l a) (D.getD i [])).eval x = a.eval x := by
          intro x hx
          cases x with
          | tmp t =>
            have := hlook t (List.mem_append_left _ (List.mem_filterMap.2 ⟨.tmp t, by simpa using hx, rfl⟩))
            show (relF l a0 (valAt l a) (D.getD i [])).tmps.getD t undef = a.tmps.getD t undef
            rw [Array.getD_eq_getD_getElem?, Array.getD_eq_getD_getElem?, this]
          | _ => rfl
        have hwt : Region.wanted o (yielded l.toArray (relF l a0 (valAt l a) (D.getD i [])).tmps) = Region.wanted o (yielded l.toArray a.tmps) := by
          unfold Region.wanted
          cases hg : o.guard with
          | none => rfl
          | some gw =>
            obtain ⟨g, want⟩ := gw
            simp only []
            congr 1
            unfold yielded
            cases hd : (l.toArray[g]?).bind (·.dst) with
            | none => rfl
            | some t =>
              simp only [Option.bind_some]
              rw [hlook t (List.mem_append_right _ (by rw [hg]; simp only [hd]; simp))]
        unfold wpOp
        simp only [ho']
        refine rel_transfer (execOp_congr o (fun cs b => Region.noSelect_spec hB.sel i o cs b ho') hev) hwt (fun d hd => by rw [s1]; exact hbn i d ((hdst i o ho).trans hd)) hw0 fun v w' hb hv => ?_
        refine ih _ _ _ ⟨inv.bw.trans (hb.mono inv.bw.size), by simp [inv.lsz], by rw [put_size]; exact inv.sz, by rw [put_df]; exact inv.df, fun t ht => ?_, fun j oj hoj hj => ?_⟩ ?_ ?_ ?_
        · rw [put_ne _ _ _ _ (ht i o ho (by rw [get_set_true _ _ _ hil2]; simp))]
          exact inv.off t fun j oj hoj hj => ht j oj hoj (by rw [get_set_true _ _ _ hil2, hj]; simp)
        · by_cases hji : j = i
          · subst hji
            obtain rfl := Option.some.inj (hoj.symm.trans ho)
            rw [slot_put _ _ _ (fun d hd => by rw [inv.sz, hn]; exact hbn j d ((hdst j oj hoj).trans hd))]
            exact hv
          · rw [get_set_true _ _ _ hil2] at hj
            simp only [hji, decide_false, Bool.false_or] at hj
            rw [slot_other _ _ _ _ fun d hd hd' => hB.dist j i d (List.getElem?_eq_some_iff.1 hoj).1 hil hji ((hdst j oj hoj).trans hd) ((hdst i o ho).trans hd')]
            exact hmono j w w' _ hb (inv.on j oj hoj hj)
        · rw [get_set_true _ _ _ hil2, hmf]; simp; omega
        · intro i' o' e hi' hli he hb
          rw [get_set_true _ _ _ hil2] at hli ⊢
          by_cases hii : i' = i
          · subst hii
            obtain rfl := Option.some.inj (hi'.symm.trans ho)
            rw [hdep e he hb]; simp
          · simp only [hii, decide_false, Bool.false_or] at hli
            rw [hcl i' o' e hi' hli he hb]; simp
        · have hx : listed.toList[i]? = some false := by
            rw [Array.getElem?_toList, Array.getElem?_eq_getElem hil2]
            rw [Array.getD_eq_getD_getElem?, Array.getElem?_eq_getElem hil2] at hun
            exact congrArg some hun
          have := count_set listed.toList i hx
          rw [Array.toList_setIfInBounds]
          omega

/-- The region, whatever the order, its last operation at the end: D, V as in wp_region_rel. -/
theorem wp_region_rel_last {id : Nat} {Q : Exit → Act → World → Prop} (D : List (List Nat)) (V : Nat → World → Value → Prop) (n m : Nat) (oL : Oper) (hmx : P.follows .mixedOrders = true) (hn : a0.tmps.size = n) (hB : relB l D n = true) (hLast : lastB l = true) (hm : l.length = m + 1) (hoL : l[m]? = some oL)
    (hmono : ∀ j (w w' : World) v, Below w.heap.size w w' → V j w v → V j w' v)
    (hop : ∀ i o, i < m → l[i]? = some o → ∀ w, Below w0.heap.size w0 w → ∀ vs : Nat → Value, (∀ j ∈ D.getD i [], V j w (vs j)) → wpList P l.toArray (relQ (V i) w o (relF l a0 vs (D.getD i []))) [o] (relF l a0 vs (D.getD i [])) w)
    (hfin : ∀ w, Below w0.heap.size w0 w → ∀ vs : Nat → Value, (∀ j, j < m → V j w (vs j)) → wpList P l.toArray Q [oL] (relF l a0 vs (List.range m)) w) : (Code.region id l.toArray true).wp P Q a0 w0 := by
  refine wp_region_any hmx ?_
  have hs : l.toArray.size = l.length := by simp
  rw [hs]
  have hr : ∀ k, (Array.replicate l.length false).getD k false = false := fun k => getD_replicate_false ..
  refine wpAny_of_rel_last hm hoL (relB_spec hB) hLast hn hmono hop hfin _ _ _ _ ⟨(Below.refl _ w0).drew, by simp, rfl, rfl, fun t _ => rfl, fun j o ho hj => ?_⟩ (hr _) (fun i o e _ hli _ _ => ?_) ?_
  · rw [hr] at hj; cases hj
  · rw [hr] at hli; cases hli
  · refine Nat.le_trans (List.length_filter_le (!·) (Array.replicate l.length false).toList) ?_
    simp

end

end Go.Proofs.YteljlnkjdajkgaaDoor
