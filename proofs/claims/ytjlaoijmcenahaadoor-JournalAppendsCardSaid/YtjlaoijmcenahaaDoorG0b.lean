/- RelLast, TreeSpec, RefTurn, Bits, Out, NumT, OpenC, RelTail, Number, Out2, In, In2, In3, In4, Awake, Open, Use, OutHash, in one text. -/
import Derived.Test.YtjlaoijmcenahaaDoorG0a
import Derived.Test.YtjlaoijmcenahaaDoorRows
import Derived.WalkKit
import Derived.WalkSpells
import Derived.WalkLawsBesides
import Derived.Lib.Hide
import Derived.Deep.QuietTactic
import Derived.BigQuiet
import Derived.IntWalk
import Derived.Lib.AppendStr
import Derived.RegionTactic
import Derived.Deep.RegionLaw
import Derived.Deep.RegionWith
import Derived.ProofKit
import Derived.OpenShut
import Derived.ShutString
import Derived.ChangeOld
import Derived.SizedLaws
import Derived.Deep.Slices
import Derived.Deep.MidRow
import Derived.Deep.AppendLies
import Derived.Laws.CopyOwn
import Derived.Lib.BufferWrite
/- A region that draws its order and makes memory, and ends in one operation that waits for all the others (a store into what stood there before). -/
namespace Go.Proofs.YtjlaoijmcenahaaDoor
open Go.RowKit
set_option linter.unusedSimpArgs false
set_option linter.unusedVariables false

def lastB (l : List Oper) : Bool :=
  (List.range (l.length - 1)).all fun j => (List.range l.length).any fun i => decide (j < i) && Region.waitsFor .any l.toArray i j

section
variable {P : Program} {l : List Oper} {D : List (List Nat)} {a0 : Act} {w0 : World} {V : Nat → World → Value → Prop}

/-- Whatever the order. -/
theorem wpAny_of_rel_last {n m : Nat} {oL : Oper} {Q : Exit → Act → World → Prop} (hm : l.length = m + 1) (hoL : l[m]? = some oL) (hB : RelB l D n) (hLast : lastB l = true) (hn : a0.tmps.size = n) (hmono : ∀ j (w w' : World) v, Below w.heap.size w w' → V j w v → V j w' v)
    (hop : ∀ i o, i < m → l[i]? = some o → ∀ w, Below w0.heap.size w0 w → ∀ vs : Nat → Value, (∀ j ∈ D.getD i [], V j w (vs j)) → wpList P l.toArray (relQ (V i) w o (relF l a0 vs (D.getD i []))) [o] (relF l a0 vs (D.getD i [])) w)
    (hfin : ∀ w, Below w0.heap.size w0 w → ∀ vs : Nat → Value, (∀ j, j < m → V j w (vs j)) → wpList P l.toArray Q [oL] (relF l a0 vs (List.range m)) w) :
    ∀ (fuel : Nat) (listed : Array Bool) (a : Act) (w : World), RInv l a0 w0 V listed a w → listed.getD m false = false →
      (∀ i o e, l[i]? = some o → listed.getD i false = true → e ∈ o.after → Region.binds .any e = true → listed.getD e.on false = true) →
      (listed.toList.filter (!·)).length ≤ fuel → wpAny P .any l.toArray Q fuel listed a w := by
  have hbn : ∀ j d, dstAt l j = some d → d < n := fun j d hd => by
    by_cases hj : j < l.length
    · exact hB.bnd j d hj hd
    · unfold dstAt at hd; rw [List.getElem?_eq_none (by omega)] at hd; cases hd
  have hval : ∀ (a : Act) j o, l[j]? = some o → valAt l a j = slotOf o a := fun a j o ho => by unfold valAt slotOf dstAt; rw [ho]; rfl
  have hdst : ∀ j o, l[j]? = some o → dstAt l j = o.dst := fun j o ho => by unfold dstAt; rw [ho]; rfl
  have hall : ∀ listed a w, RInv l a0 w0 V listed a w → listed.getD m false = false → (∀ j, j < m → listed.getD j false = true) → wpList P l.toArray Q [oL] a w := by
    intro listed a w inv hmf hl
    have h := hfin w inv.bw (valAt l a) (fun j hj => by
      obtain ⟨o, ho⟩ : ∃ o, l[j]? = some o := ⟨_, List.getElem?_eq_getElem (show j < l.length by omega)⟩
      rw [hval a j o ho]; exact inv.on j o ho (hl j hj))
    obtain ⟨s1, s2, s3⟩ := relF_spec (l := l) a n hbn (inv.sz.trans hn) (List.range m) a0 hn
    have e : relF l a0 (valAt l a) (List.range m) = a := by
      obtain ⟨at', ad'⟩ := a
      generalize hG : relF l a0 (valAt l ⟨at', ad'⟩) (List.range m) = G at s1 s2 s3
      obtain ⟨gt, gd⟩ := G
      have e1 : gd = ad' := s2.trans inv.df.symm
      have e2 : gt = at' := by
        apply Array.ext_getElem?
        intro t
        obtain ⟨h1, h2, h3⟩ := s3 t
        by_cases hx : ∃ j ∈ List.range m, dstAt l j = some t
        · exact h1 hx
        · refine h3 (inv.off t fun j o ho hlj hd => hx ⟨j, List.mem_range.2 ?_, (hdst j o ho).trans hd⟩).symm
          have h5 := (List.getElem?_eq_some_iff.1 ho).1
          by_cases hjm : j = m
          · subst hjm; rw [hmf] at hlj; cases hlj
          · omega
      rw [e1, e2]
    rwa [e] at h
  intro fuel
  induction fuel with
  | zero =>
    intro listed a w inv hmf hcl hf
    exfalso
    have h0 := List.eq_nil_of_length_eq_zero (Nat.le_zero.1 hf)
    have hj' : m < listed.size := by rw [inv.lsz]; omega
    have hmm := List.filter_eq_nil_iff.1 h0 (listed[m]'hj') (by simp)
    rw [Array.getD_eq_getD_getElem?, Array.getElem?_eq_getElem hj'] at hmf
    simp only [Option.getD_some] at hmf
    rw [hmf] at hmm
    exact hmm rfl
  | succ fuel ih =>
    intro listed a w inv hmf hcl hf
    have hgd : ∀ j, j < l.length → ∀ b, listed.getD j b = listed.getD j false := fun j hj b => by
      simp [Array.getD_eq_getD_getElem?, Array.getElem?_eq_getElem (show j < listed.size by rw [inv.lsz]; exact hj)]
    refine ⟨fun hr => ?_, fun i hi => ?_⟩
    · exfalso
      have hallL : ∀ j, j < l.length → listed.getD j false = true := by
        intro j hj
        induction j using Nat.strongRecOn with
        | ind j ihj =>
          cases hx : listed.getD j false with
          | true => rfl
          | false =>
            obtain ⟨o, ho⟩ : ∃ o, l[j]? = some o := ⟨_, List.getElem?_eq_getElem hj⟩
            have : j ∈ Region.ready .any l.toArray listed := mem_ready.2 ⟨(hgd j hj true).trans hx, o, by simpa using ho, fun e he hb => by
              have hlt := hB.back j o e hj ho he hb
              exact ihj e.on hlt (by omega)⟩
            rw [hr] at this; cases this
      rw [hallL m (by omega)] at hmf; cases hmf
    · obtain ⟨hun, o, ho', hdep⟩ := mem_ready.1 hi
      have ho : l[i]? = some o := by simpa using ho'
      have hil : i < l.length := (List.getElem?_eq_some_iff.1 ho).1
      have hil2 : i < listed.size := by rw [inv.lsz]; exact hil
      by_cases him : i = m
      · subst him
        obtain rfl : o = oL := Option.some.inj (ho.symm.trans hoL)
        have hlst : ∀ k j, i - j = k → j < i → listed.getD j false = true := by
          intro k
          induction k using Nat.strongRecOn with
          | ind k ihk =>
            intro j hjk hj
            have h1 := List.all_eq_true.1 hLast j (List.mem_range.2 (by omega))
            obtain ⟨i', hi', h2⟩ := List.any_eq_true.1 h1
            simp only [Bool.and_eq_true, decide_eq_true_eq] at h2
            have hil' := List.mem_range.1 hi'
            obtain ⟨oi, hoi, e, he, hb, hon⟩ := Region.waitsFor_spec h2.2
            have hoi' : l[i']? = some oi := by simpa using hoi
            by_cases hii : i' = i
            · subst hii
              obtain rfl : o = oi := Option.some.inj (ho'.symm.trans hoi)
              have := hdep e he hb
              rwa [hon] at this
            · have := hcl i' oi e hoi' (ihk (i - i') (by omega) i' rfl (by omega)) he hb
              rwa [hon] at this
        have hw := hall listed a w inv hmf (fun j hj => hlst _ j rfl hj)
        have hK : ∀ a' w', Q .normal a' w' → wpAny P .any l.toArray Q fuel (listed.setIfInBounds i true) a' w' := by
          intro a' w' hq
          have hnone : Region.ready .any l.toArray (listed.setIfInBounds i true) = [] := by
            rw [List.eq_nil_iff_forall_not_mem]
            intro j hj
            obtain ⟨h1, oj, hoj, _⟩ := mem_ready.1 hj
            have hjl : j < l.length := by simpa using (Array.getElem?_eq_some_iff.1 hoj).1
            have hjs : j < (listed.setIfInBounds i true).size := by simp [inv.lsz]; exact hjl
            have hset := get_set_true listed i j hil2
            have : (listed.setIfInBounds i true).getD j false = true := by
              rw [hset]
              by_cases hji : j = i
              · simp [hji]
              · rw [hlst _ j rfl (by omega)]; simp
            rw [Array.getD_eq_getD_getElem?, Array.getElem?_eq_getElem hjs] at h1 this
            simp only [Option.getD_some] at h1 this
            rw [h1] at this; cases this
          cases fuel with
          | zero => exact ⟨hnone, hq⟩
          | succ k => exact ⟨fun _ => hq, fun j hj => by rw [hnone] at hj; cases hj⟩
        unfold wpOp
        simp only [ho']
        unfold wpList at hw
        split at hw
        · rename_i hwt
          rw [if_pos hwt]
          exact hw.imp (Oper.wp_mono (fun a' w' hq => hK a' w' hq)) id
        · rename_i hwt
          rw [if_neg hwt]
          exact hK _ _ hw
      · have hlm : i < m := by omega
        have hdl : ∀ j ∈ D.getD i [], j < l.length ∧ listed.getD j false = true := by
          intro j hj
          obtain ⟨oj, hoj, e, he, hb, hon⟩ := Region.waitsFor_spec (hB.wait i j hil hj)
          obtain rfl : o = oj := Option.some.inj (ho'.symm.trans hoj)
          have := hdep e he hb
          rw [hon] at this
          refine ⟨?_, this⟩
          have := hB.back i o e hil ho he hb
          omega
        have hw0 := hop i o hlm ho w inv.bw (valAt l a) (fun j hj => by
          obtain ⟨h1, h2⟩ := hdl j hj
          obtain ⟨oj, hoj⟩ : ∃ o, l[j]? = some o := ⟨_, List.getElem?_eq_getElem h1⟩
          rw [hval a j oj hoj]; exact inv.on j oj hoj h2)
        obtain ⟨s1, s2, s3⟩ := relF_spec (l := l) a n hbn (inv.sz.trans hn) (D.getD i []) a0 hn
        have hlook : ∀ t, t ∈ o.looksAt l.toArray → (relF l a0 (valAt l a) (D.getD i [])).tmps[t]? = a.tmps[t]? := by
          intro t ht
          obtain ⟨h1, h2, h3⟩ := s3 t
          by_cases hx : ∃ j ∈ D.getD i [], dstAt l j = some t
          · exact h1 hx
          · refine h3 (inv.off t fun j oj hoj _ hd => hx ⟨j, hB.look i j t o hil (List.getElem?_eq_some_iff.1 hoj).1 ho ((hdst j oj hoj).trans hd) ht, (hdst j oj hoj).trans hd⟩).symm
        have hev : ∀ x ∈ o.op.operands, (relF l a0 (valAt l a) (D.getD i [])).eval x = a.eval x := by
          intro x hx
          cases x with
          | tmp t =>
            have := hlook t (List.mem_append_left _ (List.mem_filterMap.2 ⟨.tmp t, by simpa using hx, rfl⟩))
            show (relF l a0 (valAt l a) (D.getD i [])).tmps.getD t undef = a.tmps.getD t undef
            rw [Array.getD_eq_getD_getElem?, Array.getD_eq_getD_getElem?, this]
          | _ => rfl
        have hwt : Region.wanted o (yielded l.toArray (relF l a0 (valAt l a) (D.getD i [])).tmps) = Region.wanted o (yielded l.toArray a.tmps) := by
          unfold Region.wanted
          cases hg : o.guard with
          | none => rfl
          | some gw =>
            obtain ⟨g, want⟩ := gw
            simp only []
            congr 1
            unfold yielded
            cases hd : (l.toArray[g]?).bind (·.dst) with
            | none => rfl
            | some t =>
              simp only [Option.bind_some]
              rw [hlook t (List.mem_append_right _ (by rw [hg]; simp only [hd]; simp))]
        unfold wpOp
        simp only [ho']
        refine rel_transfer (execOp_congr o (fun cs b => Region.noSelect_spec hB.sel i o cs b ho') hev) hwt (fun d hd => by rw [s1]; exact hbn i d ((hdst i o ho).trans hd)) hw0 fun v w' hb hv => ?_
        refine ih _ _ _ ⟨inv.bw.trans (hb.mono inv.bw.size), by simp [inv.lsz], by rw [put_size]; exact inv.sz, by rw [put_df]; exact inv.df, fun t ht => ?_, fun j oj hoj hj => ?_⟩ ?_ ?_ ?_
        · rw [put_ne _ _ _ _ (ht i o ho (by rw [get_set_true _ _ _ hil2]; simp))]
          exact inv.off t fun j oj hoj hj => ht j oj hoj (by rw [get_set_true _ _ _ hil2, hj]; simp)
        · by_cases hji : j = i
          · subst hji
            obtain rfl := Option.some.inj (hoj.symm.trans ho)
            rw [slot_put _ _ _ (fun d hd => by rw [inv.sz, hn]; exact hbn j d ((hdst j oj hoj).trans hd))]
            exact hv
          · rw [get_set_true _ _ _ hil2] at hj
            simp only [hji, decide_false, Bool.false_or] at hj
            rw [slot_other _ _ _ _ fun d hd hd' => hB.dist j i d (List.getElem?_eq_some_iff.1 hoj).1 hil hji ((hdst j oj hoj).trans hd) ((hdst i o ho).trans hd')]
            exact hmono j w w' _ hb (inv.on j oj hoj hj)
        · rw [get_set_true _ _ _ hil2, hmf]; simp; omega
        · intro i' o' e hi' hli he hb
          rw [get_set_true _ _ _ hil2] at hli ⊢
          by_cases hii : i' = i
          · subst hii
            obtain rfl := Option.some.inj (hi'.symm.trans ho)
            rw [hdep e he hb]; simp
          · simp only [hii, decide_false, Bool.false_or] at hli
            rw [hcl i' o' e hi' hli he hb]; simp
        · have hx : listed.toList[i]? = some false := by
            rw [Array.getElem?_toList, Array.getElem?_eq_getElem hil2]
            rw [Array.getD_eq_getD_getElem?, Array.getElem?_eq_getElem hil2] at hun
            exact congrArg some hun
          have := count_set listed.toList i hx
          rw [Array.toList_setIfInBounds]
          omega

/-- The region, whatever the order, its last operation at the end: D, V as in wp_region_rel. -/
theorem wp_region_rel_last {id : Nat} {Q : Exit → Act → World → Prop} (D : List (List Nat)) (V : Nat → World → Value → Prop) (n m : Nat) (oL : Oper) (hmx : P.follows .mixedOrders = true) (hn : a0.tmps.size = n) (hB : relB l D n = true) (hLast : lastB l = true) (hm : l.length = m + 1) (hoL : l[m]? = some oL)
    (hmono : ∀ j (w w' : World) v, Below w.heap.size w w' → V j w v → V j w' v)
    (hop : ∀ i o, i < m → l[i]? = some o → ∀ w, Below w0.heap.size w0 w → ∀ vs : Nat → Value, (∀ j ∈ D.getD i [], V j w (vs j)) → wpList P l.toArray (relQ (V i) w o (relF l a0 vs (D.getD i []))) [o] (relF l a0 vs (D.getD i [])) w)
    (hfin : ∀ w, Below w0.heap.size w0 w → ∀ vs : Nat → Value, (∀ j, j < m → V j w (vs j)) → wpList P l.toArray Q [oL] (relF l a0 vs (List.range m)) w) : (Code.region id l.toArray true).wp P Q a0 w0 := by
  refine wp_region_any hmx ?_
  have hs : l.toArray.size = l.length := by simp
  rw [hs]
  have hr : ∀ k, (Array.replicate l.length false).getD k false = false := fun k => getD_replicate_false ..
  refine wpAny_of_rel_last hm hoL (relB_spec hB) hLast hn hmono hop hfin _ _ _ _ ⟨(Below.refl _ w0).drew, by simp, rfl, rfl, fun t _ => rfl, fun j o ho hj => ?_⟩ (hr _) (fun i o e _ hli _ _ => ?_) ?_
  · rw [hr] at hj; cases hj
  · rw [hr] at hli; cases hli
  · refine Nat.le_trans (List.length_filter_le (!·) (Array.replicate l.length false).toList) ?_
    simp

end

end Go.Proofs.YtjlaoijmcenahaaDoor

/- What a tree of leaves comes to: plain. -/
namespace Go.Proofs.YtjlaoijmcenahaaDoor.Tree
set_option linter.unusedVariables false

/-- How many leaves stand on the left of n. -/
def half (n : Nat) : Nat := if n < 2 then 0 else 2 ^ Nat.log2 (n - 1)

theorem half_of {n i : Nat} (h1 : 2 ^ i < n) (h2 : n ≤ 2 * 2 ^ i) : half n = 2 ^ i := by
  have hp := Nat.two_pow_pos i
  have : Nat.log2 (n - 1) = i := by
    have h0 : n - 1 ≠ 0 := by omega
    have l1 : i ≤ Nat.log2 (n - 1) := (Nat.le_log2 h0).2 (by omega)
    have l2 : Nat.log2 (n - 1) < i + 1 := (Nat.log2_lt h0).2 (by rw [Nat.pow_succ]; omega)
    omega
  unfold half
  rw [if_neg (by omega), this]

theorem half_zero {n : Nat} (h : n < 2) : half n = 0 := by unfold half; rw [if_pos h]

theorem half_spec {n : Nat} (h : 2 ≤ n) : ∃ i, half n = 2 ^ i ∧ 2 ^ i < n ∧ n ≤ 2 * 2 ^ i := by
  have h0 : n - 1 ≠ 0 := by omega
  refine ⟨Nat.log2 (n - 1), by unfold half; rw [if_neg (by omega)], ?_, ?_⟩
  · have := (Nat.le_log2 h0).1 (Nat.le_refl _); omega
  · have := (Nat.log2_lt h0).1 (Nat.lt_succ_self _); rw [Nat.pow_succ] at this; omega

theorem half_pos {n : Nat} (h : 2 ≤ n) : 1 ≤ half n := by
  obtain ⟨i, h1, _⟩ := half_spec h
  rw [h1]; exact Nat.two_pow_pos i
theorem half_lt {n : Nat} (h : 2 ≤ n) : half n < n := by
  obtain ⟨i, h1, h2, _⟩ := half_spec h
  omega
theorem half_ge {n : Nat} (h : 2 ≤ n) : n ≤ 2 * half n := by
  obtain ⟨i, h1, _, h2⟩ := half_spec h
  omega

/-- A leaf's sum, that of two, of none; the root's. -/
def leaf (s : List UInt8) : List UInt8 := Sha.of (0 :: s)
def node (a b : List UInt8) : List UInt8 := Sha.of (1 :: (a ++ b))
def root (n : Nat) (t : List UInt8) : List UInt8 := Sha.of (3 :: (Wire.num n ++ t))

theorem leaf_len (s : List UInt8) : (leaf s).length = 32 := Sha.of_len _
theorem node_len (a b : List UInt8) : (node a b).length = 32 := Sha.of_len _
theorem root_len (n : Nat) (t : List UInt8) : (root n t).length = 32 := Sha.of_len _

/-- The top of leaves. -/
def top (l : List (List UInt8)) : List UInt8 :=
  if h : 2 ≤ l.length then node (top (l.take (half l.length))) (top (l.drop (half l.length)))
  else match l with
    | [] => Sha.of [2]
    | a :: _ => leaf a
termination_by l.length
decreasing_by
  · have := half_lt h; simp only [List.length_take]; omega
  · have := half_pos h; simp only [List.length_drop]; omega

theorem top_nil : top [] = Sha.of [2] := by rw [top.eq_def]; rfl
theorem top_one (a : List UInt8) : top [a] = leaf a := by rw [top.eq_def]; rfl
theorem top_two {l : List (List UInt8)} (h : 2 ≤ l.length) : top l = node (top (l.take (half l.length))) (top (l.drop (half l.length))) := by
  rw [top.eq_def, dif_pos h]
theorem top_len (l : List (List UInt8)) : (top l).length = 32 := by
  by_cases h : 2 ≤ l.length
  · rw [top_two h]; exact node_len _ _
  · match l, h with
    | [], _ => rw [top_nil]; exact Sha.of_len _
    | [a], _ => rw [top_one]; exact leaf_len _
    | _ :: _ :: _, h => exact absurd (by simp) h

/-- The proof of a leaf, from the leaf on up. -/
def prove (l : List (List UInt8)) (at' : Nat) : List (List UInt8) :=
  if h : 2 ≤ l.length then
    if at' < half l.length then prove (l.take (half l.length)) at' ++ [top (l.drop (half l.length))]
    else prove (l.drop (half l.length)) (at' - half l.length) ++ [top (l.take (half l.length))]
  else []
termination_by l.length
decreasing_by
  · have := half_lt h; simp only [List.length_take]; omega
  · have := half_pos h; simp only [List.length_drop]; omega

theorem prove_small {l : List (List UInt8)} (h : ¬ 2 ≤ l.length) (i : Nat) : prove l i = [] := by rw [prove.eq_def, dif_neg h]
theorem prove_left {l : List (List UInt8)} {i : Nat} (h : 2 ≤ l.length) (hi : i < half l.length) : prove l i = prove (l.take (half l.length)) i ++ [top (l.drop (half l.length))] := by
  rw [prove.eq_def, dif_pos h, if_pos hi]
theorem prove_right {l : List (List UInt8)} {i : Nat} (h : 2 ≤ l.length) (hi : ¬ i < half l.length) : prove l i = prove (l.drop (half l.length)) (i - half l.length) ++ [top (l.take (half l.length))] := by
  rw [prove.eq_def, dif_pos h, if_neg hi]

/-- On which side a leaf stands, from the top on down: true is the left one. -/
def sides (n at' : Nat) : List Bool :=
  if h : 2 ≤ n then
    if at' < half n then true :: sides (half n) at' else false :: sides (n - half n) (at' - half n)
  else []
termination_by n
decreasing_by
  · exact half_lt h
  · have := half_pos h; omega

theorem sides_small {n : Nat} (h : ¬ 2 ≤ n) (i : Nat) : sides n i = [] := by rw [sides.eq_def, dif_neg h]
theorem sides_left {n i : Nat} (h : 2 ≤ n) (hi : i < half n) : sides n i = true :: sides (half n) i := by rw [sides.eq_def, dif_pos h, if_pos hi]
theorem sides_right {n i : Nat} (h : 2 ≤ n) (hi : ¬ i < half n) : sides n i = false :: sides (n - half n) (i - half n) := by rw [sides.eq_def, dif_pos h, if_neg hi]

/-- There are no more sides than it takes to double up to n. -/
theorem sides_len : ∀ (d n i : Nat), i < n → n ≤ 2 ^ d → (sides n i).length ≤ d := by
  intro d n
  induction n using Nat.strongRecOn generalizing d with
  | ind n ih =>
    intro i hi hn
    by_cases h : 2 ≤ n
    · obtain ⟨j, h1, h2, h3⟩ := half_spec h
      cases d with
      | zero => simp at hn; omega
      | succ d =>
        have hjd : j ≤ d := by
          apply Nat.le_of_not_lt
          intro hlt
          have := Nat.pow_le_pow_right (n := 2) (by omega) (show d + 1 ≤ j by omega)
          omega
        have hk : half n ≤ 2 ^ d := by rw [h1]; exact Nat.pow_le_pow_right (by omega) hjd
        by_cases hl : i < half n
        · rw [sides_left h hl, List.length_cons]
          have := ih (half n) (half_lt h) d i hl hk
          omega
        · rw [sides_right h hl, List.length_cons]
          have := ih (n - half n) (by have := half_pos h; omega) d (i - half n) (by omega) (by omega)
          omega
    · rw [sides_small h]; simp

/-- One step up: the sum and the side on which it stands. -/
def step (t : List UInt8) (x : Bool × List UInt8) : List UInt8 := if x.1 then node t x.2 else node x.2 t
/-- What a leaf comes to, with a proof of as many sums as there are sides. -/
def climb (t : List UInt8) (sd : List Bool) (p : List (List UInt8)) : List UInt8 := (sd.reverse.zip p).foldl step t

theorem step_len (t : List UInt8) (x : Bool × List UInt8) : (step t x).length = 32 := by unfold step; split <;> exact node_len _ _

theorem climb_len (t : List UInt8) (ht : t.length = 32) (sd : List Bool) (p : List (List UInt8)) : (climb t sd p).length = 32 := by
  unfold climb
  generalize sd.reverse.zip p = z
  induction z generalizing t with
  | nil => exact ht
  | cons x z ih => exact ih _ (step_len _ _)

/-- Is it proved? -/
def check (want : List UInt8) (n i : Nat) (s : List UInt8) (p : List (List UInt8)) : Bool :=
  decide ((sides n i).length = p.length) && (root n (climb (leaf s) (sides n i) p) == want)

end Go.Proofs.YtjlaoijmcenahaaDoor.Tree

/- The walks of the reference's small functions: two, cut, turn, constants. -/
namespace Go.Proofs.YtjlaoijmcenahaaDoor
open Go.RowKit
set_option linter.unusedSimpArgs false

set_option maxRecDepth 100000 in
set_option maxHeartbeats 400000 in
theorem two_any (n A : Nat) (hn : n ≤ 63) (hA : A = 2 ^ n) (w : World) :
    Calls Tryd.prog 46 #[.int .i64 n] w fun e w' => w = w' ∧ e = .returned (.int .u64 A) := by
  have HA := Lib.hid hA; clear hA
  go_enter Tryd.func46, Tryd.ntmps46
  go_wp2
  go_loop [3, 4] (fun x i => ∃ k P : Nat, k ≤ n ∧ i = .int .i64 k ∧ x = .int .u64 P ∧ Hid (P = 2 ^ k)) (fun _ i => n - (intOf i).toNat)
  case atStart => exact ⟨0, 1, by omega, rfl, rfl, rfl⟩
  case round =>
    obtain ⟨k, P, hk, rfl, rfl, hP⟩ := hrel
    by_cases hlt : k < n
    · have hb : P ≤ 4611686018427387904 := by rw [hP.out]; exact Nat.pow_le_pow_right (n := 2) (by decide) (by omega : k ≤ 62)
      go_wp2
      go_round
      case rel => exact ⟨k + 1, 2 * P, by omega, by go_num, by go_num, Lib.hid (by rw [Nat.pow_succ, hP.out, Nat.mul_comm])⟩
      case measure => simp [intOf]; omega
    · obtain rfl : k = n := by omega
      go_wp2
      go_ret
      exact ⟨rfl, congrArg (fun z : Nat => Ending.returned (.int .u64 (z : Int))) (hP.out.trans HA.out.symm)⟩

set_option maxRecDepth 100000 in
theorem cut_any (x : Nat) (w : World) :
    Calls Tryd.prog 48 #[.int .u64 x] w fun e w' => w = w' ∧ e = .returned (.int .u64 ((x % 4294967296 : Nat) : Int)) := by
  go_enter Tryd.func48, Tryd.ntmps48
  go_wp2
  go_ret
  exact ⟨rfl, rfl⟩

theorem rot_val (n A B x : Nat) (hn : n ≤ 32) (hA : A = 2 ^ n) (hB : B = 2 ^ (32 - n)) (hx : x < 4294967296) :
    IntKind.u64.wrap (IntKind.u64.wrap ((x : Int) / (A : Int)) + IntKind.u64.wrap ((x : Int) % (A : Int) * (B : Int))) = (Sha.rot n x : Int) ∧ 0 < A ∧ x % A * B < 4294967296 := by
  subst hA hB
  have h0 : 0 < 2 ^ n := Nat.two_pow_pos n
  have hr := Sha.rot_lt n x hn hx
  unfold Sha.rot Sha.M at *
  have e1 : ((x : Int) % ((2 ^ n : Nat) : Int) * ((2 ^ (32 - n) : Nat) : Int)) = ((x % 2 ^ n * 2 ^ (32 - n) : Nat) : Int) := by rw [Int.natCast_mul, Int.natCast_emod]
  have e2 : ((x : Int) / ((2 ^ n : Nat) : Int)) = ((x / 2 ^ n : Nat) : Int) := by rw [Int.natCast_ediv]
  rw [e1, e2, IntKind.wrap_u64, IntKind.wrap_u64, IntKind.wrap_u64]
  generalize x % 2 ^ n * 2 ^ (32 - n) = p at *
  generalize x / 2 ^ n = q at *
  refine ⟨?_, h0, by omega⟩
  omega

set_option maxRecDepth 100000 in
set_option maxHeartbeats 400000 in
theorem rturn_any (x n : Nat) (hn : n ≤ 32) (hx : x < 4294967296) (w : World) :
    Calls Tryd.prog 49 #[.int .u64 x, .int .i64 n] w fun e w' => e = .returned (.int .u64 (Sha.rot n x)) ∧ ∃ q, w' = w.drewN q := by
  obtain ⟨A, hA⟩ : ∃ A, A = 2 ^ n := ⟨_, rfl⟩
  obtain ⟨B, hB⟩ : ∃ B, B = 2 ^ (32 - n) := ⟨_, rfl⟩
  obtain ⟨hv, hA0, _⟩ := rot_val n A B x hn hA hB hx
  have HV := Lib.hid hv; clear hv
  have HA := Lib.hid hA; clear hA
  have HB := Lib.hid hB; clear hB
  have t1 := fun w => two_any n A (by omega) HA.out w
  have t2 := fun w => two_any (32 - n) B (by omega) HB.out w
  have e32 : (((32 - n : Nat)) : Int) = 32 - (n : Int) := by omega
  rw [e32] at t2
  have T1 := Lib.hid t1; clear t1
  have T2 := Lib.hid t2; clear t2
  clear e32
  have hs : IntKind.i64.wrap (32 - (n : Int)) = 32 - (n : Int) := IntWalk.i64_in _ (by omega)
  go_enter Tryd.func49, Tryd.ntmps49
  go_wp2_with fail
  refine wp_region_quiet_lit (by kernel_rfl) (by kernel_rfl) ?_
  repeat (go_big_quiet_step (first | (go_at_call 46; with_reducible exact Calls.quiet_of_same ((T1.out _).mono fun _ _ h => ⟨h.2, h.1.symm⟩)) | (go_at_call 46; with_reducible exact Calls.quiet_of_same ((T2.out _).mono fun _ _ h => ⟨h.2, h.1.symm⟩))))
  refine wpQuiet_nil ?_
  rintro w3 ⟨nq, hw3⟩
  go_wp2_with fail
  go_ret
  exact ⟨congrArg (fun z : Int => Ending.returned (.int .u64 z)) HV.out, ⟨nq, hw3⟩⟩

end Go.Proofs.YtjlaoijmcenahaaDoor

/- Bit operations of the model's numbers, in plain arithmetic. -/
namespace Go.Proofs.YtjlaoijmcenahaaDoor
open Go.RowKit

theorem and127_u8 (c : UInt8) : bits .and .u8 (c.toNat : Int) 127 = ((c.toNat % 128 : Nat) : Int) := by
  have h := c.toNat_lt
  have := bits_mask .u8 8 (by decide) wraps_u8 7 (by decide) (c.toNat : Int) (by omega) (by omega)
  simpa using this

/-- What Out.Int writes. -/
theorem zig_u64 (n : Int) (h0 : -9223372036854775808 ≤ n) (h1 : n ≤ 9223372036854775807) :
    bits .xor .u64 (IntKind.u64.wrap (IntKind.u64.wrap n * 2)) (IntKind.u64.wrap (n / 9223372036854775808)) = (Wire.zig n : Int) := by
  unfold Wire.zig
  by_cases hn : 0 ≤ n
  · have e1 : IntKind.u64.wrap (IntKind.u64.wrap n * 2) = ((2 * n).toNat : Int) := by rw [IntKind.wrap_u64, IntKind.wrap_u64]; omega
    have e2 : IntKind.u64.wrap (n / 9223372036854775808) = ((0 : Nat) : Int) := by rw [IntKind.wrap_u64]; omega
    rw [e1, e2, bits_xor_u64_nat _ _ (by omega) (by omega), if_pos hn, Nat.xor_zero]
  · have e1 : IntKind.u64.wrap (IntKind.u64.wrap n * 2) = (((2 * n) % 18446744073709551616).toNat : Int) := by rw [IntKind.wrap_u64, IntKind.wrap_u64]; omega
    have e2 : IntKind.u64.wrap (n / 9223372036854775808) = ((2 ^ 64 - 1 : Nat) : Int) := by rw [IntKind.wrap_u64]; omega
    rw [e1, e2, bits_xor_u64_nat _ _ (by omega) (by omega), if_neg hn]
    have hx := BitVec.toNat_not (x := BitVec.ofNat 64 ((2 * n) % 18446744073709551616).toNat)
    have e3 : ∀ a : Nat, a < 2 ^ 64 → a ^^^ (2 ^ 64 - 1) = 2 ^ 64 - 1 - a := by
      intro a ha
      have hx := BitVec.toNat_not (x := BitVec.ofNat 64 a)
      rw [← BitVec.xor_allOnes, BitVec.toNat_xor, BitVec.toNat_allOnes, BitVec.toNat_ofNat, Nat.mod_eq_of_lt ha] at hx
      exact hx
    rw [e3 _ (by omega)]
    omega

/-- What In.Int makes of a number. -/
theorem unzig_i64 (n : Nat) (h : n < 18446744073709551616) :
    bits .xor .i64 (wrap64 ((n : Int) / 2)) (wrap64 (-wrap64 (bits .and .u64 (n : Int) 1))) = Wire.unzig n := by
  have ha : bits .and .u64 (n : Int) 1 = ((n % 2 : Nat) : Int) := by
    have := bits_and_u64_nat n 1 h (by decide)
    rw [Nat.and_one_is_mod] at this
    exact this
  have e0 : ∀ x : Int, wrap64 x = (x + 9223372036854775808) % 18446744073709551616 - 9223372036854775808 := fun x => by unfold wrap64; rfl
  rw [ha]
  have e1 : wrap64 ((n : Int) / 2) = ((n / 2 : Nat) : Int) := by rw [e0]; omega
  rw [e1]
  have hb : n / 2 < 2 ^ 63 := by omega
  have e3 : ∀ a : Nat, a < 2 ^ 63 → (BitVec.ofInt 64 (a : Int)).toNat = a := by
    intro a ha
    rw [BitVec.ofInt_natCast, BitVec.toNat_ofNat]; exact Nat.mod_eq_of_lt (by omega)
  unfold Wire.unzig
  by_cases h2 : n % 2 = 0
  · have e2 : wrap64 (-wrap64 ((n % 2 : Nat) : Int)) = ((0 : Nat) : Int) := by rw [h2, e0, e0]; omega
    rw [e2, if_pos h2]
    show IntKind.i64.wrap ((BitVec.ofInt 64 ((n / 2 : Nat) : Int) ^^^ BitVec.ofInt 64 ((0 : Nat) : Int)).toNat : Int) = _
    rw [BitVec.toNat_xor, e3 _ hb, e3 0 (by decide), Nat.xor_zero, IntKind.wrap_i64]; omega
  · have e2 : wrap64 (-wrap64 ((n % 2 : Nat) : Int)) = -1 := by rw [show n % 2 = 1 by omega, e0, e0]; omega
    rw [e2, if_neg h2]
    show IntKind.i64.wrap ((BitVec.ofInt 64 ((n / 2 : Nat) : Int) ^^^ BitVec.allOnes 64).toNat : Int) = _
    rw [BitVec.xor_allOnes, BitVec.toNat_not, e3 _ hb, IntKind.wrap_i64]; omega

theorem wrap_u64_lt (n : Nat) (h : n < 18446744073709551616) : IntKind.u64.wrap (n : Int) = n := by
  rw [IntKind.wrap_u64]; omega

/-- A low part and a part above it, by 'or'. -/
theorem or_join (n x i : Nat) (hn : n < 2 ^ i) (hx : x * 2 ^ i < 18446744073709551616) (hn2 : n < 18446744073709551616) :
    bits .or .u64 (n : Int) ((x * 2 ^ i : Nat) : Int) = ((n + x * 2 ^ i : Nat) : Int) := by
  rw [bits_or_u64_nat _ _ hn2 hx, Nat.or_comm, Nat.mul_comm, ← Nat.two_pow_add_eq_or_of_lt hn, Nat.add_comm]

theorem pow128 (k : Nat) : 128 ^ k = 2 ^ (7 * k) := by rw [Nat.pow_mul]

theorem pow128_le (k : Nat) (h : k ≤ 9) : 128 ^ k ≤ 9223372036854775808 :=
  Nat.le_trans (Nat.pow_le_pow_right (by decide) h) (by decide)

/-- One byte more of a number, as the program puts it in. -/
theorem number_step (n k : Nat) (c : UInt8) (hk : k ≤ 9) (hn : n < 128 ^ k) (h9 : k = 9 → c.toNat ≤ 1) :
    bits .or .u64 (n : Int) (IntKind.u64.wrap (IntKind.u64.wrap (bits .and .u8 (c.toNat : Int) 127) * 2 ^ (7 * k))) =
      ((n + c.toNat % 128 * 128 ^ k : Nat) : Int) := by
  have hp := pow128_le k hk
  have hb : c.toNat % 128 * 128 ^ k < 18446744073709551616 := by
    by_cases h : k = 9
    · have := h9 h; subst h
      have : c.toNat % 128 ≤ 1 := by omega
      calc c.toNat % 128 * 128 ^ 9 ≤ 1 * 128 ^ 9 := Nat.mul_le_mul_right _ this
        _ < _ := by decide
    · have h8 : 128 ^ k ≤ 128 ^ 8 := Nat.pow_le_pow_right (by decide) (by omega)
      calc c.toNat % 128 * 128 ^ k ≤ 127 * 128 ^ 8 := Nat.mul_le_mul (by omega) h8
        _ < _ := by decide
  rw [and127_u8, wrap_u64_lt _ (by omega)]
  have e : ((c.toNat % 128 : Nat) : Int) * 2 ^ (7 * k) = ((c.toNat % 128 * 2 ^ (7 * k) : Nat) : Int) := by
    rw [Int.natCast_mul, Int.natCast_pow]; rfl
  rw [pow128] at hb hn hp ⊢
  rw [e, wrap_u64_lt _ hb]
  exact or_join n _ _ hn hb (by omega)

theorem number_step9 (n : Nat) (c : UInt8) (hn : n < 128 ^ 9) (h9 : c.toNat ≤ 1) :
    bits .or .u64 (n : Int) (IntKind.u64.wrap (IntKind.u64.wrap (bits .and .u8 (c.toNat : Int) 127) * 9223372036854775808)) =
      ((n + c.toNat % 128 * 128 ^ 9 : Nat) : Int) := number_step n 9 c (by omega) hn (fun _ => h9)

/-- The same step by sums and products, as the reference has it. -/
theorem ref_step (n k p : Nat) (c : UInt8) (hk : k ≤ 9) (hn : n < 128 ^ k) (h9 : k = 9 → c.toNat ≤ 1) (hp : p = 128 ^ k) :
    IntKind.u64.wrap ((n : Int) + IntKind.u64.wrap ((c.toNat : Int) % 128 * (p : Int))) = ((n + c.toNat % 128 * 128 ^ k : Nat) : Int) := by
  have hpw := pow128_le k hk
  have hb : c.toNat % 128 * 128 ^ k < 9223372036854775809 := by
    by_cases h : k = 9
    · have := h9 h; subst h
      have h1 : c.toNat % 128 ≤ 1 := by omega
      calc c.toNat % 128 * 128 ^ 9 ≤ 1 * 128 ^ 9 := Nat.mul_le_mul_right _ h1
        _ < _ := by decide
    · have h8 : 128 ^ k ≤ 128 ^ 8 := Nat.pow_le_pow_right (by decide) (by omega)
      calc c.toNat % 128 * 128 ^ k ≤ 127 * 128 ^ 8 := Nat.mul_le_mul (by omega) h8
        _ < _ := by decide
  subst hp
  have e : (c.toNat : Int) % 128 * ((128 ^ k : Nat) : Int) = ((c.toNat % 128 * 128 ^ k : Nat) : Int) := by
    rw [Int.natCast_mul, Int.natCast_emod]; rfl
  rw [e, wrap_u64_lt _ (by omega), ← Int.natCast_add, wrap_u64_lt _ (by omega)]

theorem ref_weight (k p : Nat) (hp : k ≤ 9 → p = 128 ^ k) : ∃ q : Nat, IntKind.u64.wrap ((p : Int) * 128) = (q : Int) ∧ (k + 1 ≤ 9 → q = 128 ^ (k + 1)) := by
  refine ⟨p * 128 % 18446744073709551616, by rw [IntKind.wrap_u64]; omega, fun h => ?_⟩
  rw [hp (by omega), ← Nat.pow_succ]
  have := pow128_le (k + 1) h
  exact Nat.mod_eq_of_lt (by omega)

theorem number_lt (n k : Nat) (c : UInt8) (hn : n < 128 ^ k) : n + c.toNat % 128 * 128 ^ k < 128 ^ (k + 1) := by
  have : c.toNat % 128 ≤ 127 := by omega
  have := Nat.mul_le_mul_right (128 ^ k) this
  rw [Nat.pow_succ]; omega

end Go.Proofs.YtjlaoijmcenahaaDoor

/- The walks of wire.Out: what is written is what Wire.num and its kin say. -/
namespace Go.Proofs.YtjlaoijmcenahaaDoor
open Go.RowKit

theorem Tryd.under_bytes : Tryd.prog.underlying 44 = some (.slice 5) := by kernel_rfl
theorem Tryd.info_byte : (Tryd.prog.info? 5).map (fun i => (i.zero, i.size, i.bytes)) = some (some (.int .u8 0), 1, 1) := by kernel_rfl

/-- Below block B the world w' is as w was, but for block b. -/
structure BelowBut (B b : Nat) (w w' : World) : Prop where
  os : w'.os = w.os
  tape : w'.tape = w.tape
  output : w'.output = w.output
  size : w.heap.size ≤ w'.heap.size
  block : ∀ k, k < B → k ≠ b → w'.heap[k]? = w.heap[k]?

theorem BelowBut.refl (B b : Nat) (w : World) : BelowBut B b w w := ⟨rfl, rfl, rfl, Nat.le_refl _, fun _ _ _ => rfl⟩
theorem BelowBut.trans {B b : Nat} {x y z : World} (h : BelowBut B b x y) (k : BelowBut B b y z) : BelowBut B b x z :=
  ⟨k.os.trans h.os, k.tape.trans h.tape, k.output.trans h.output, Nat.le_trans h.size k.size, fun i hi hb => (k.block i hi hb).trans (h.block i hi hb)⟩
theorem BelowBut.mono {B B' b : Nat} {w w' : World} (h : BelowBut B b w w') (hB : B' ≤ B) : BelowBut B' b w w' :=
  ⟨h.os, h.tape, h.output, h.size, fun k hk => h.block k (Nat.lt_of_lt_of_le hk hB)⟩
theorem BelowBut.below {B b : Nat} {w w' : World} (h : BelowBut B b w w') (hB : B ≤ b) : Below B w w' :=
  ⟨h.os, h.tape, h.output, h.size, fun k hk => h.block k hk (by omega)⟩
theorem BelowBut.of {B b : Nat} {w w' : World} (h : Below B w w') : BelowBut B b w w' :=
  ⟨h.os, h.tape, h.output, h.size, fun k hk _ => h.block k hk⟩



/-- Block b is a wire.Out whose bytes are bs; the row lies from block 'base' on. -/
def OutIs (w : World) (base b : Nat) (bs : List UInt8) : Prop :=
  ∃ v, w.heap[b]? = some (.cells #[v] 67 (0, 0)) ∧ w.ownsRow base 5 1 v bs.length (byteCells bs)

theorem OutIs.lt {w : World} {base b : Nat} {bs : List UInt8} (h : OutIs w base b bs) : b < w.heap.size := by
  obtain ⟨v, h1, _⟩ := h
  exact lt_of_block h1

theorem ownsRow_below {w w' : World} {base : Nat} {e size : Nat} {v : Value} {n : Nat} {xs : List Value} (h : w.ownsRow base e size v n xs) (hk : ∀ k, v.ownBlock = some k → w'.heap[k]? = w.heap[k]?) : w'.ownsRow base e size v n xs := by
  refine ⟨h.1, ?_⟩
  rcases h.2 with hn | ⟨g, cap, cur, rfl, hb, hgg, rest⟩
  · exact .inl hn
  · exact .inr ⟨g, cap, cur, rfl, hb, (hk g (by simp [Value.ownBlock])).trans hgg, rest⟩

/-- An Out is kept where its two blocks are. -/
theorem OutIs.kept {w w' : World} {base b : Nat} {bs : List UInt8} (h : OutIs w base b bs) (hk : ∀ k, k < w.heap.size → w'.heap[k]? = w.heap[k]?) : OutIs w' base b bs := by
  obtain ⟨v, h1, h2⟩ := h
  exact ⟨v, (hk b (lt_of_block h1)).trans h1, ownsRow_below h2 fun k hk' => hk k (h2.lt k hk').2⟩

theorem outBlock_ne {w : World} {base b : Nat} {v v0 : Value} {n : Nat} {xs : List Value} (hb : w.heap[b]? = some (.cells #[v0] 67 (0, 0)))
    (hown : w.ownsRow base 5 1 v n xs) : v.ownBlock ≠ some b := by
  intro e
  rcases hown.2 with ⟨rfl, _⟩ | ⟨g, cap, cur, rfl, _, hgg, _⟩
  · simp [Value.ownBlock] at e
  · simp [Value.ownBlock] at e
    subst e
    rw [hb] at hgg
    simp at hgg

/-- What a write leaves: the cells behind an append, and the store of the slice. -/
theorem out_store {w w0 w1 : World} {base b : Nat} {v v' : Value} {bs news : List UInt8} (hb : w.heap[b]? = some (.cells #[v] 67 (0, 0)))
    (hown : w.ownsRow base 5 1 v bs.length (byteCells bs)) (h0 : Below w.heap.size w w0) (hbase : base ≤ w.heap.size)
    {k : Nat} {cs : List Value} (hown' : w1.ownsRow base 5 1 v' k (byteCells bs ++ cs)) (hg : w0.grownBy w1 v.ownBlock) (hk : k = bs.length + news.length) (hcs : cs = byteCells news) :
    OutIs (w1.setCell ⟨b, 0, none⟩ v') base b (bs ++ news) ∧ BelowBut base b w (w1.setCell ⟨b, 0, none⟩ v') := by
  subst hk hcs
  have hlt := lt_of_block hb
  have hne := outBlock_ne hb hown
  have hb1 : w1.heap[b]? = some (.cells #[v] 67 (0, 0)) := by
    rw [hg.block b (Nat.lt_of_lt_of_le hlt h0.size) (fun e => hne e.symm), h0.block b hlt]; exact hb
  refine ⟨⟨v', one_setCell hb1, ?_⟩, ?_⟩
  · rw [List.length_append, byteCells_append]
    exact ownsRow_setCell_other hown' (outBlock_ne hb1 hown') _
  · refine ⟨hg.os.trans h0.os, hg.tape.trans h0.tape, hg.output.trans h0.output, ?_, ?_⟩
    · have := hg.size; have := h0.size; simp; omega
    · intro k hk hkb
      rw [Below.heap_setCell _ _ _ _ hkb, hg.block k (by have := h0.size; omega) (fun e => by have := hown.lt k e.symm; omega), h0.block k (by omega)]

theorem out_cell {w w0 w1 : World} {base b : Nat} {v : Value} {n : Nat} {xs : List Value} (hb : w.heap[b]? = some (.cells #[v] 67 (0, 0)))
    (hown : w.ownsRow base 5 1 v n xs) (h0 : Below w.heap.size w w0) (hg : w0.grownBy w1 v.ownBlock) :
    w1.cell? ⟨b, 0, none⟩ = some v ∧ w1.frozen? ⟨b, 0, none⟩ = false := by
  have hlt := lt_of_block hb
  have hne := outBlock_ne hb hown
  have hb1 : w1.heap[b]? = some (.cells #[v] 67 (0, 0)) := by
    rw [hg.block b (Nat.lt_of_lt_of_le hlt h0.size) (fun e => hne e.symm), h0.block b hlt]; exact hb
  exact ⟨cell_of_one hb1, free_of_one hb1⟩

set_option maxRecDepth 100000 in
set_option maxHeartbeats 400000 in
theorem newOut_any (w : World) :
    Calls Tryd.prog 28 #[] w fun e w' => e = .returned (.pointer (some ⟨w.heap.size, 0, none⟩)) ∧ w' = w.alloc (.cells #[.slice none 0 0] 67 (0, 0)) := by
  go_enter Tryd.func28, Tryd.ntmps28
  go_wp2
  go_ret
  exact ⟨rfl, rfl⟩

theorem OutIs.fresh (w : World) (base : Nat) : OutIs (w.alloc (.cells #[.slice none 0 0] 67 (0, 0))) base w.heap.size [] :=
  ⟨_, heap_alloc_new w _, World.ownsRow_nil _ _ _ _⟩

theorem one_int (k : IntKind) (x : Int) : ∀ u ∈ [Value.int k x], u.oneCell' = true := by
  intro u hu
  obtain rfl := List.mem_singleton.1 hu
  rfl

theorem byte_cell (x : Int) (c : UInt8) (h : x = c.toNat) : [Value.int .u8 x] = byteCells [c] := by rw [h]; rfl

theorem byte_high (m : Nat) : bits .or .u8 ((m : Int) % 256) 128 = ((UInt8.ofNat (m % 128 + 128)).toNat : Int) := by
  have e1 : ((m : Int) % 256) = (((m % 256 : Nat)) : Int) := by omega
  have key : ∀ x : Fin 256, bits .or .u8 ((x.val : Nat) : Int) 128 = (((UInt8.ofNat (x.val % 128 + 128)).toNat : Nat) : Int) := by decide +kernel
  rw [e1, key ⟨m % 256, by omega⟩]
  congr 3
  simp only; omega

theorem ownsRow_slice {w : World} {base : Nat} {e size : Nat} {v : Value} {n : Nat} {xs : List Value} (h : w.ownsRow base e size v n xs) : ∃ a c, v = .slice a n c := by
  rcases h.2 with ⟨rfl, rfl⟩ | ⟨g, cap, cur, rfl, _⟩
  · exact ⟨_, _, rfl⟩
  · exact ⟨_, _, rfl⟩

theorem byte_low (m : Nat) (h : ¬ 128 ≤ m) : (m : Int) = ((UInt8.ofNat m).toNat : Int) := by
  rw [UInt8.toNat_ofNat']; omega

theorem loop_num (done : List UInt8) (m n : Nat) (hm : 128 ≤ m) (hd : done ++ Wire.num m = Wire.num n) :
    (done ++ [UInt8.ofNat (m % 128 + 128)]) ++ Wire.num (m / 128) = Wire.num n := by
  rw [← hd, List.append_assoc]
  congr 1
  rw [Wire.num.eq_def m, dif_neg (by omega)]; rfl

theorem last_num (done : List UInt8) (m n : Nat) (hm : ¬ 128 ≤ m) (hd : done ++ Wire.num m = Wire.num n) : done ++ [UInt8.ofNat m] = Wire.num n := by
  rw [← hd, Wire.num.eq_def m, dif_pos (by omega)]

set_option maxRecDepth 100000 in
set_option maxHeartbeats 400000 in
theorem outNum_any (n : Nat) (hn : n < 18446744073709551616) (base b : Nat) (bs : List UInt8) (w : World) (h : OutIs w base b bs) (hbase : base ≤ w.heap.size) (hl : bs.length + 10 ≤ 140737488355328) :
    Calls Tryd.prog 39 #[.pointer (some ⟨b, 0, none⟩), .int .u64 n] w fun e w' => e = .returned (.tuple #[]) ∧ OutIs w' base b (bs ++ Wire.num n) ∧ BelowBut base b w w' := by
  have hnl := Wire.num_length n hn
  have HN := Lib.hid hn; clear hn
  go_enter Tryd.func39, Tryd.ntmps39
  obtain ⟨i0, hi, hz0, hz1, hz2⟩ := info_parts Tryd.info_byte
  go_wp2
  go_loopw [1] (fun x wr => ∃ m : Nat, ∃ done : List UInt8, x = .int .u64 m ∧ OutIs wr base b (bs ++ done) ∧ Hid (done ++ Wire.num m = Wire.num n) ∧ BelowBut base b w wr)
    (fun x _ => (intOf x).toNat)
  case atStart => exact ⟨n, [], rfl, by simpa using h, rfl, BelowBut.refl _ _ _⟩
  case round =>
    obtain ⟨m, done, rfl, ⟨v, hb, hown⟩, hd, ht⟩ := hrel
    have hc := cell_of_one hb
    have hf := free_of_one hb
    have hsz := ht.size
    have hdl : done.length + 1 ≤ 10 := by
      have h1 := congrArg List.length hd.out
      have h2 := Wire.num_pos m
      rw [List.length_append] at h1; omega
    have hll : (bs ++ done).length ≤ bs.length + done.length := Nat.le_of_eq List.length_append
    have h0 : ∀ o, Below wr.heap.size wr (wr.alloc o) := fun o => (Below.refl _ _).alloc (Nat.le_refl _) _
    by_cases hm : 128 ≤ m
    all_goals
      go_wp2_with (at_builtin; refine wpList_append_own _ rfl _ _ 44 rfl base 5 i0 (.int .u8 0) 1 1 Tryd.under_bytes hi hz0 hz1 hz2 rfl (by decide) _ _ _ rfl (hown.alloc _) ⟨wr.heap.size, 0, none⟩ 1 1 [.int .u8 _] rfl rfl (cell_one_new _ _ _) (one_int _ _) (by unfold maxLen; omega) (by omega) (by simp; omega) ?_)
      intro v' w1 hown' hgrow _
      obtain ⟨a', c', rfl⟩ := ownsRow_slice hown'
      obtain ⟨hc1, hf1⟩ := out_cell hb hown (h0 _) hgrow
    · have R := out_store (news := [UInt8.ofNat (m % 128 + 128)]) hb hown (h0 _) (by omega) hown' hgrow (by simp) (byte_cell _ _ (byte_high m))
      have HR := Lib.hid R; clear R hown' hgrow
      go_wp2
      go_roundw
      case rel => exact ⟨m / 128, done ++ [UInt8.ofNat (m % 128 + 128)], by go_num, by rw [← List.append_assoc]; exact HR.out.1, loop_num done m n hm hd.out, ht.trans HR.out.2⟩
      case measure => simp [intOf]; omega
    · have R := out_store (news := [UInt8.ofNat m]) hb hown (h0 _) (by omega) hown' hgrow (by simp) (byte_cell _ _ (byte_low m hm))
      rw [List.append_assoc, last_num done m n hm hd.out] at R
      have HR := Lib.hid R; clear R hown' hgrow
      go_wp2
      go_end0
      exact ⟨rfl, HR.out.1, ht.trans HR.out.2⟩

end Go.Proofs.YtjlaoijmcenahaaDoor

/- Numbers as bytes: wire.Out's end, and the reference's number. (Parts of XOut2 and XRef, for the seats that lack the rest.) -/
namespace Go.Proofs.YtjlaoijmcenahaaDoor
open Go.RowKit
set_option linter.unusedSimpArgs false
set_option linter.unusedVariables false

theorem Tryd.under_string : Tryd.prog.underlying 9 = some .string := by kernel_rfl
theorem Tryd.under_byte : Tryd.prog.underlying 5 = some (.int .u8) := by kernel_rfl

/-- What an Out holds, as a string. -/
theorem out_string {w : World} {base : Nat} {v : Value} {bs : List UInt8} (hown : w.ownsRow base 5 1 v bs.length (byteCells bs)) :
    (convert 44 9 v).run Tryd.prog w = .ok (.string ⟨bs.toArray⟩) w := by
  rcases hown.2 with ⟨rfl, hn⟩ | ⟨g, cap, cur, rfl, _, hg, _, _, _, htk⟩
  · obtain rfl := List.eq_nil_of_length_eq_zero hn
    rw [run_convert_bytes_string w _ _ _ _ _ _ Tryd.under_bytes Tryd.under_byte Tryd.under_string]
    simp [Conv.bytesToString]
    rfl
  · refine run_convert_bytes_back w _ _ _ _ _ bs Tryd.under_bytes Tryd.under_byte Tryd.under_string ?_
    intro j hj
    have := hown.cells (g := g) rfl j (.int .u8 (bs[j].toNat : Int)) (by simp [byteCells, hj])
    exact this

set_option maxRecDepth 100000 in
set_option maxHeartbeats 400000 in
theorem outDone_any (base b : Nat) (bs : List UInt8) (w : World) (h : OutIs w base b bs) :
    Calls Tryd.prog 30 #[.pointer (some ⟨b, 0, none⟩)] w fun e w' => w = w' ∧ e = .returned (.string ⟨bs.toArray⟩) := by
  obtain ⟨v, hb, hown⟩ := h
  obtain ⟨a', c', rfl⟩ := ownsRow_slice hown
  have hcv := out_string hown
  have hc := cell_of_one hb
  clear hown hb
  go_enter Tryd.func30, Tryd.ntmps30
  go_wp2
  go_ret
  exact ⟨rfl, rfl⟩

/-- 'string([]byte{c})'. -/
theorem one_string (w : World) (x : Int) (c : UInt8) (h : x = c.toNat) :
    (convert 44 9 (.slice (some ⟨w.heap.size, 0, none⟩) 1 1)).run Tryd.prog (w.alloc (.cells #[.int .u8 x] 5)) = .ok (.string (strOf [c])) (w.alloc (.cells #[.int .u8 x] 5)) := by
  refine run_convert_bytes_back _ _ _ _ _ _ [c] Tryd.under_bytes Tryd.under_byte Tryd.under_string ?_
  intro j hj
  match j, hj with
  | 0, _ =>
    subst h
    exact cell_one_new w _ _ 0 _ rfl

theorem one_string_at (g : Nat) (c : UInt8) (W : World) (h : W.cell? ⟨g, 0, none⟩ = some (.int .u8 c.toNat)) :
    (convert 44 9 (.slice (some ⟨g, 0, none⟩) 1 1)).run Tryd.prog W = .ok (.string (strOf [c])) W := by
  refine run_convert_bytes_back _ _ _ _ _ _ [c] Tryd.under_bytes Tryd.under_byte Tryd.under_string ?_
  intro j hj
  match j, hj with
  | 0, _ => exact h

set_option maxRecDepth 100000 in
set_option maxHeartbeats 1000000 in
theorem refNum_any (n : Nat) : n < 18446744073709551616 → ∀ w : World,
    Calls Tryd.prog 40 #[.int .u64 n] w fun e w' => e = .returned (.string (strOf (Wire.num n))) ∧ Below w.heap.size w w' := by
  induction n using Nat.strongRecOn with
  | ind n ih =>
    intro hn w
    by_cases h : n < 128
    · have hnum := Wire.num_small n h
      have HNUM := Lib.hid hnum; clear hnum
      have hc := one_string w n (UInt8.ofNat n) (by rw [UInt8.toNat_ofNat']; omega)
      have HIH := Lib.hid ih; clear ih
      go_enter Tryd.func40, Tryd.ntmps40
      go_wp2_with fail
      go_ret
      rw [HNUM.out]
      exact ⟨rfl, (Below.refl _ _).alloc (Nat.le_refl _) _⟩
    · have hnum := Wire.num_big n h
      have HNUM := Lib.hid hnum; clear hnum
      have HIH := Lib.hid ih; clear ih
      go_enter Tryd.func40, Tryd.ntmps40
      go_wp2_with fail
      have e1 : IntKind.u64.wrap ((n : Int) / 128) = ((n / 128 : Nat) : Int) := by rw [IntKind.wrap_u64]; omega
      have e2 : IntKind.u8.wrap (IntKind.u64.wrap ((n : Int).tmod 128 + 128)) = ((UInt8.ofNat (n % 128 + 128)).toNat : Int) := by
        rw [IntKind.wrap_u8, IntKind.wrap_u64, UInt8.toNat_ofNat']
        have : (n : Int).tmod 128 = ((n % 128 : Nat) : Int) := rfl
        rw [this]; omega
      have hconv := fun g => one_string_at g (UInt8.ofNat (n % 128 + 128))
      have hlt : n / 128 < 18446744073709551616 := by omega
      have hlt2 : n / 128 < n := by omega
      generalize UInt8.ofNat (n % 128 + 128) = c at *
      have hs1 : (strOf [c]).size = 1 := strOf_size [c]
      have hs2 : (strOf (Wire.num (n / 128))).size ≤ 10 := by rw [strOf_size]; exact Wire.num_length _ hlt
      have hadd := add_str [c] (Wire.num (n / 128))
      go_region_with (first | (go_at_call 40; refine (HIH.out (n / 128) hlt2 hlt _).mono ?_; rintro e w1 ⟨rfl, b1⟩; (try have hcell := (b1.cell (p := ⟨w.heap.size, 0, none⟩) (by simp)).trans (cell_one_new w _ _ 0 _ rfl))))
      all_goals
        go_wp2_with fail
        go_ret
        rw [HNUM.out]
        refine ⟨rfl, ?_⟩
        first
          | exact (((Below.refl _ _).alloc (Nat.le_refl _) _).drew).trans (b1.mono (by simp))
          | exact (((Below.refl _ _).drew).trans b1).alloc b1.size _


end Go.Proofs.YtjlaoijmcenahaaDoor

/- What arguments read as: sums, and rows of cells. -/
namespace Go.Proofs.YtjlaoijmcenahaaDoor
open Go.ChangeShapes Go.WideShapes Go.ChangeAt Go.RowKit

section
variable {H : Type} {enc : TypeId × Value → H} {P : Program} {w : World} {base : Nat} {spare : Nat → Bool} {held : Bool} {fuel : Nat} {t : TypeId} {cs : List Value} {x : DataW H × List MemPlace}

theorem wf_u8 {a : Int} (h : (Lit.int .u8 a).wf = true) : 0 ≤ a ∧ a < 256 := by
  have := bounds_u8 h
  omega

/-- A row of bytes, by value. -/
theorem open_bytes {n : Nat} {e : TypeId} (ht : P.underlying t = some (.array n e)) (he : P.underlying e = some (.int .u8)) (hce : P.cellsOf e = 1) (hct : P.cellsOf t = n)
    (h : DataW.trod enc P w base spare held fuel t cs = some x) : ∃ l : List UInt8, l.length = n ∧ cs = byteCells l := by
  obtain ⟨xs, m, _, _, hl, hx, hd⟩ := DataW.trod_array ht h
  rw [hct] at hl
  refine ⟨cs.map fun v => UInt8.ofNat (intOf v).toNat, by simpa using hl, ?_⟩
  apply List.ext_getElem
  · simp [byteCells]
  · intro i h1 h2
    have hi : i < n := by omega
    have := hd i hi
    rw [hce, Nat.mul_one, List.drop_eq_getElem_cons h1, List.take_succ_cons, List.take_zero, List.getElem?_eq_getElem (by omega)] at this
    obtain ⟨a, e0, _, wa⟩ := DataW.trod_int he this
    simp only [List.cons.injEq, and_true] at e0
    simp only [byteCells, List.getElem_map, e0, intOf]
    have := wf_u8 wa
    congr 1
    rw [UInt8.toNat_ofNat']; omega

/-- Rows of c cells: what a slice that came in leads to. -/
def RowsAt {α : Type} (w : World) (a0 : Option Addr) (len cap c : Nat) (cells : α → List Value) (F : List α) : Prop :=
  F.length = len ∧ len ≤ cap ∧ cap ≤ maxLen ∧ (0 < len → ∃ b off, a0 = some ⟨b, off, none⟩ ∧ b < w.heap.size ∧ ∀ i f, F[i]? = some f → w.rangeAt b (off + i * c) (cells f))

theorem addr_add (a : Addr) (h : a.spot = none) (j : Nat) : a.add j = ⟨a.block, a.off + j, none⟩ := by
  obtain ⟨b, o, s⟩ := a
  simp only at h
  subst h
  exact Addr.add_mid b o j

theorem cell_spot {w : World} {a : Addr} {v : Value} (h : w.cell? a = some v) : a.spot = none := by
  unfold World.cell? at h
  split at h
  · split at h
    · cases h
    · rename_i hs; simpa using hs
  · cases h

theorem add_spot_zero (a : Addr) : a.add 0 = a := by simp [Addr.add]

theorem open_rows {α : Type} {e : TypeId} {a0 : Option Addr} {len cap c : Nat} (cells : α → List Value) (ok : α → Prop) (ht : P.underlying t = some (.slice e)) (hce : P.cellsOf e = c) (hc0 : 0 < c)
    (hop : ∀ (n : Nat) (cs : List Value) (y : DataW H × List MemPlace), DataW.trod enc P w base spare held n e cs = some y → ∃ f, ok f ∧ cs = cells f)
    (h : DataW.trod enc P w base spare held fuel t [.slice a0 len cap] = some x) :
    ∃ F : List α, RowsAt w a0 len cap c cells F ∧ ∀ f ∈ F, ok f := by
  rcases Go.Deep.open_slice ht h with ⟨hcs, _⟩ | ⟨a, len', cap', m, n, D, Pl, hcs, _, hl, hm, hmm, _, hx⟩
  · simp only [List.cons.injEq, Value.slice.injEq, and_true] at hcs
    obtain ⟨rfl, rfl, rfl⟩ := hcs
    exact ⟨[], ⟨rfl, Nat.le_refl _, by decide, fun h => absurd h (by decide)⟩, by simp⟩
  · simp only [List.cons.injEq, Value.slice.injEq, and_true] at hcs
    obtain ⟨rfl, rfl, rfl⟩ := hcs
    have hlm : len ≤ m := by rw [hmm]; split <;> omega
    have each : ∀ i, i < len → ∃ f : α, ok f ∧ w.cells? base (a.add (i * c)) c = some (cells f) := by
      intro i hi
      obtain ⟨cs', h1, h2⟩ := hx i (by omega)
      obtain ⟨f, h3, rfl⟩ := hop _ _ _ h2
      rw [hce] at h1
      exact ⟨f, h3, h1⟩
    have hlist : ∀ k, k ≤ len → ∃ F : List α, F.length = k ∧ (∀ f ∈ F, ok f) ∧ ∀ i f, F[i]? = some f → w.cells? base (a.add (i * c)) c = some (cells f) := by
      intro k
      induction k with
      | zero => intro _; exact ⟨[], rfl, by simp, by simp⟩
      | succ k ih =>
        intro hk
        obtain ⟨F, h1, h2, h3⟩ := ih (by omega)
        obtain ⟨f, h4, h5⟩ := each k (by omega)
        refine ⟨F ++ [f], by simp [h1], ?_, ?_⟩
        · intro g hg
          rcases List.mem_append.1 hg with hg | hg
          · exact h2 g hg
          · rw [List.mem_singleton.1 hg]; exact h4
        · intro i g hg
          by_cases hi : i < F.length
          · rw [List.getElem?_append_left hi] at hg; exact h3 i g hg
          · have : i = k := by
              have := (List.getElem?_eq_some_iff.1 hg).1
              simp at this; omega
            subst this
            rw [List.getElem?_append_right (by omega)] at hg
            simp [h1] at hg
            subst hg; exact h5
    obtain ⟨F, h1, h2, h3⟩ := hlist len (Nat.le_refl _)
    refine ⟨F, ⟨h1, hl, hm, fun h0 => ?_⟩, h2⟩
    have hsp : a.spot = none := by
      obtain ⟨f, _, h5⟩ := each 0 h0
      obtain ⟨_, hlen, hcell⟩ := World.cells?_some h5
      have := hcell 0 hc0
      rw [Nat.zero_mul, add_spot_zero, add_spot_zero, List.getElem?_eq_getElem (by omega)] at this
      exact cell_spot this
    have hadd : ∀ i j, (a.add (i * c)).add j = ⟨a.block, a.off + i * c + j, none⟩ := by
      intro i j
      rw [addr_add a hsp, Addr.add_mid]
    refine ⟨a.block, a.off, congrArg some ?_, ?_, ?_⟩
    · obtain ⟨b, o, s⟩ := a
      simp only at hsp
      rw [hsp]
    · obtain ⟨f, _, h5⟩ := each 0 h0
      obtain ⟨_, hlen, hcell⟩ := World.cells?_some h5
      have := hcell 0 hc0
      rw [Nat.zero_mul, add_spot_zero, add_spot_zero, List.getElem?_eq_getElem (by omega)] at this
      exact World.block_lt_of_cell? w a this
    · intro i f hf j v hv
      obtain ⟨_, hlen, hcell⟩ := World.cells?_some (h3 i f hf)
      have hj : j < c := by have := (List.getElem?_eq_some_iff.1 hv).1; omega
      rw [← hadd, hcell j hj]; exact hv
end

theorem bytes_len (s : ByteArray) : s.data.toList.length = s.size := by rw [Array.length_toList]; rfl

/-- A row of one cell. -/
def intCell (k : IntKind) (x : Int) : List Value := [.int k x]
def strCell (s : ByteArray) : List Value := [.string s]

section
variable {H : Type} {enc : TypeId × Value → H} {P : Program} {w : World} {base : Nat} {spare : Nat → Bool} {held : Bool}
theorem open_int1 {k : IntKind} {e : TypeId} (he : P.underlying e = some (.int k)) (n : Nat) (cs : List Value) (y : DataW H × List MemPlace) (h : DataW.trod enc P w base spare held n e cs = some y) : ∃ x : Int, (Lit.int k x).wf = true ∧ cs = intCell k x := by
  obtain ⟨a, e0, _, wa⟩ := DataW.trod_int he h
  exact ⟨a, wa, e0⟩
theorem open_str1 {e : TypeId} (he : P.underlying e = some .string) (n : Nat) (cs : List Value) (y : DataW H × List MemPlace) (h : DataW.trod enc P w base spare held n e cs = some y) : ∃ s : ByteArray, s.size ≤ maxLen ∧ cs = strCell s := by
  obtain ⟨a, e0, _, wa⟩ := DataW.trod_string he h
  exact ⟨a, wa, e0⟩
theorem okWide_array {r : Reach} {base : Nat} {t : TypeId} {n : Nat} {e : TypeId} {v : Value} (ht : P.underlying t = some (.array n e)) (h : Value.okWide P w r base t v) : ∃ cs, v = .agg cs ∧ cs.size = P.cellsOf t := by
  simp only [Value.okWide, ht] at h
  obtain ⟨cs, h1, h2, _⟩ := h
  exact ⟨cs, h1, h2⟩
end

theorem Tryd.under_hash : Tryd.prog.underlying 31 = some (.array 32 5) := by kernel_rfl
theorem Tryd.cells_byte : Tryd.prog.cellsOf 5 = 1 := by kernel_rfl
theorem Tryd.cells_hash : Tryd.prog.cellsOf 31 = 32 := by kernel_rfl
theorem Tryd.cells_string : Tryd.prog.cellsOf 9 = 1 := by kernel_rfl
end Go.Proofs.YtjlaoijmcenahaaDoor

/- A region that draws its order and makes memory, and ends in operations that come one behind the other, behind all else (an append, a store into what stood there before). -/
namespace Go.Proofs.YtjlaoijmcenahaaDoor
open Go.RowKit
set_option linter.unusedSimpArgs false
set_option linter.unusedVariables false

def tailB (l : List Oper) (m : Nat) : Bool :=
  ((List.range m).all fun j => (List.range (m + 1)).any fun i => decide (j < i) && Region.waitsFor .any l.toArray i j) &&
  ((List.range l.length).all fun k => !decide (m < k) || Region.waitsFor .any l.toArray k (k - 1))

section
variable {P : Program} {l : List Oper} {D : List (List Nat)} {a0 : Act} {w0 : World} {V : Nat → World → Value → Prop}

theorem wpAny_tail {Q : Exit → Act → World → Prop} {m : Nat} (hback : ∀ i o e, i < l.length → l[i]? = some o → e ∈ o.after → Region.binds .any e = true → e.on < i) (hch : ∀ k, m < k → k < l.length → Region.waitsFor .any l.toArray k (k - 1) = true) :
    ∀ (fuel i : Nat) (listed : Array Bool) (a : Act) (w : World), m ≤ i → i ≤ l.length → listed.size = l.length → (∀ j, j < l.length → listed.getD j false = decide (j < i)) → l.length - i ≤ fuel →
      wpList P l.toArray Q (l.drop i) a w → wpAny P .any l.toArray Q fuel listed a w := by
  intro fuel
  have hready : ∀ (i : Nat) (listed : Array Bool), m ≤ i → listed.size = l.length → (∀ j, j < l.length → listed.getD j false = decide (j < i)) → ∀ j, j ∈ Region.ready .any l.toArray listed → j = i := by
    intro i listed hmi hsz hl j hj
    obtain ⟨h1, o, ho, hdep⟩ := mem_ready.1 hj
    have hjl : j < l.length := by simpa using (Array.getElem?_eq_some_iff.1 ho).1
    have h2 := hl j hjl
    rw [Array.getD_eq_getD_getElem?, Array.getElem?_eq_getElem (by rw [hsz]; exact hjl)] at h1 h2
    simp only [Option.getD_some] at h1 h2
    rw [h1] at h2
    have hji : ¬ j < i := by simpa using h2.symm
    by_cases he : j = i
    · exact he
    · exfalso
      obtain ⟨oj, hoj, e, hme, hb, hon⟩ := Region.waitsFor_spec (hch j (by omega) hjl)
      obtain rfl : o = oj := Option.some.inj (ho.symm.trans hoj)
      have := hdep e hme hb
      rw [hon, hl (j - 1) (by omega)] at this
      have := of_decide_eq_true this
      omega
  induction fuel with
  | zero =>
    intro i listed a w hmi hil hsz hl hf h
    obtain rfl : i = l.length := by omega
    rw [List.drop_length] at h
    refine ⟨?_, h⟩
    rw [List.eq_nil_iff_forall_not_mem]
    intro j hj
    have hjl : j < l.length := by obtain ⟨_, o, ho, _⟩ := mem_ready.1 hj; simpa using (Array.getElem?_eq_some_iff.1 ho).1
    have := hready _ listed hmi hsz hl j hj
    omega
  | succ fuel ih =>
    intro i listed a w hmi hil hsz hl hf h
    by_cases hlast : i = l.length
    · subst hlast
      rw [List.drop_length] at h
      refine ⟨fun _ => h, fun j hj => ?_⟩
      have hjl : j < l.length := by obtain ⟨_, o, ho, _⟩ := mem_ready.1 hj; simpa using (Array.getElem?_eq_some_iff.1 ho).1
      have := hready _ listed hmi hsz hl j hj
      omega
    · have hlt : i < l.length := by omega
      obtain ⟨o, ho⟩ : ∃ o, l[i]? = some o := ⟨_, List.getElem?_eq_getElem hlt⟩
      have hdrop : l.drop i = o :: l.drop (i + 1) := by rw [List.drop_eq_getElem_cons hlt]; congr 1; rw [List.getElem?_eq_getElem hlt] at ho; exact Option.some.inj ho
      rw [hdrop] at h
      refine ⟨fun hr => ?_, fun j hj => ?_⟩
      · exfalso
        have : i ∈ Region.ready .any l.toArray listed := mem_ready.2 ⟨by
          have := hl i hlt
          rw [Array.getD_eq_getD_getElem?, Array.getElem?_eq_getElem (by rw [hsz]; exact hlt)] at this ⊢
          simpa using this, o, by simpa using ho, fun e he hb => by
            have h1 := hback i o e hlt ho he hb
            rw [hl e.on (by omega)]; exact decide_eq_true h1⟩
        rw [hr] at this; cases this
      · obtain rfl := hready i listed hmi hsz hl j hj
        have ho' : l.toArray[j]? = some o := by simpa using ho
        unfold wpOp
        simp only [ho']
        unfold wpList at h
        have hset : ∀ k, k < l.length → (listed.setIfInBounds j true).getD k false = decide (k < j + 1) := by
          intro k hk
          rw [get_set_true _ _ _ (by rw [hsz]; exact hlt), hl k hk]
          by_cases hkj : k = j
          · subst hkj; simp
          · have : (k < j + 1) ↔ k < j := by omega
            simp [hkj, this]
        have hK : ∀ a' w', wpList P l.toArray Q (l.drop (j + 1)) a' w' → wpAny P .any l.toArray Q fuel (listed.setIfInBounds j true) a' w' := fun a' w' hq =>
          ih (j + 1) _ a' w' (by omega) (by omega) (by simp [hsz]) hset (by omega) hq
        split at h
        · rename_i hwt
          rw [if_pos hwt]
          exact h.imp (Oper.wp_mono (fun a' w' hq => hK a' w' hq)) id
        · rename_i hwt
          rw [if_neg hwt]
          exact hK _ _ h

/-- Whatever the order. -/
theorem wpAny_of_rel_tail {n m : Nat} {Q : Exit → Act → World → Prop} (hm : m < l.length) (hB : RelB l D n) (hT : tailB l m = true) (hn : a0.tmps.size = n) (hmono : ∀ j (w w' : World) v, Below w.heap.size w w' → V j w v → V j w' v)
    (hop : ∀ i o, i < m → l[i]? = some o → ∀ w, Below w0.heap.size w0 w → ∀ vs : Nat → Value, (∀ j ∈ D.getD i [], V j w (vs j)) → wpList P l.toArray (relQ (V i) w o (relF l a0 vs (D.getD i []))) [o] (relF l a0 vs (D.getD i [])) w)
    (hfin : ∀ w, Below w0.heap.size w0 w → ∀ vs : Nat → Value, (∀ j, j < m → V j w (vs j)) → wpList P l.toArray Q (l.drop m) (relF l a0 vs (List.range m)) w) :
    ∀ (fuel : Nat) (listed : Array Bool) (a : Act) (w : World), RInv l a0 w0 V listed a w → (∀ j, m ≤ j → listed.getD j false = false) →
      (∀ i o e, l[i]? = some o → listed.getD i false = true → e ∈ o.after → Region.binds .any e = true → listed.getD e.on false = true) →
      (listed.toList.filter (!·)).length ≤ fuel → wpAny P .any l.toArray Q fuel listed a w := by
  unfold tailB at hT
  rw [Bool.and_eq_true] at hT
  obtain ⟨hT1, hT2⟩ := hT
  have hch : ∀ k, m < k → k < l.length → Region.waitsFor .any l.toArray k (k - 1) = true := by
    intro k h1 h2
    have := List.all_eq_true.1 hT2 k (List.mem_range.2 h2)
    simpa [h1] using this
  have hbn : ∀ j d, dstAt l j = some d → d < n := fun j d hd => by
    by_cases hj : j < l.length
    · exact hB.bnd j d hj hd
    · unfold dstAt at hd; rw [List.getElem?_eq_none (by omega)] at hd; cases hd
  have hval : ∀ (a : Act) j o, l[j]? = some o → valAt l a j = slotOf o a := fun a j o ho => by unfold valAt slotOf dstAt; rw [ho]; rfl
  have hdst : ∀ j o, l[j]? = some o → dstAt l j = o.dst := fun j o ho => by unfold dstAt; rw [ho]; rfl
  have hall : ∀ listed a w, RInv l a0 w0 V listed a w → (∀ j, m ≤ j → listed.getD j false = false) → (∀ j, j < m → listed.getD j false = true) → wpList P l.toArray Q (l.drop m) a w := by
    intro listed a w inv hmf hl
    have h := hfin w inv.bw (valAt l a) (fun j hj => by
      obtain ⟨o, ho⟩ : ∃ o, l[j]? = some o := ⟨_, List.getElem?_eq_getElem (show j < l.length by omega)⟩
      rw [hval a j o ho]; exact inv.on j o ho (hl j hj))
    obtain ⟨s1, s2, s3⟩ := relF_spec (l := l) a n hbn (inv.sz.trans hn) (List.range m) a0 hn
    have e : relF l a0 (valAt l a) (List.range m) = a := by
      obtain ⟨at', ad'⟩ := a
      generalize hG : relF l a0 (valAt l ⟨at', ad'⟩) (List.range m) = G at s1 s2 s3
      obtain ⟨gt, gd⟩ := G
      have e1 : gd = ad' := s2.trans inv.df.symm
      have e2 : gt = at' := by
        apply Array.ext_getElem?
        intro t
        obtain ⟨h1, h2, h3⟩ := s3 t
        by_cases hx : ∃ j ∈ List.range m, dstAt l j = some t
        · exact h1 hx
        · refine h3 (inv.off t fun j o ho hlj hd => hx ⟨j, List.mem_range.2 ?_, (hdst j o ho).trans hd⟩).symm
          apply Nat.lt_of_not_le
          intro hmj
          rw [hmf j hmj] at hlj; cases hlj
      rw [e1, e2]
    rwa [e] at h
  intro fuel
  induction fuel with
  | zero =>
    intro listed a w inv hmf hcl hf
    exfalso
    have h0 := List.eq_nil_of_length_eq_zero (Nat.le_zero.1 hf)
    have hj' : m < listed.size := by rw [inv.lsz]; omega
    have hmm := List.filter_eq_nil_iff.1 h0 (listed[m]'hj') (by simp)
    have hmf' := hmf m (Nat.le_refl _)
    rw [Array.getD_eq_getD_getElem?, Array.getElem?_eq_getElem hj'] at hmf'
    simp only [Option.getD_some] at hmf'
    rw [hmf'] at hmm
    exact hmm rfl
  | succ fuel ih =>
    intro listed a w inv hmf hcl hf
    by_cases hld : ∀ j, j < m → listed.getD j false = true
    · have hd : ∀ j, j < l.length → listed.getD j false = decide (j < m) := by
        intro j hj
        by_cases hjm : j < m
        · rw [hld j hjm]; simp [hjm]
        · rw [hmf j (by omega)]; simp [hjm]
      refine wpAny_tail (m := m) hB.back hch _ m listed a w (Nat.le_refl _) (by omega) inv.lsz hd (Nat.le_trans ?_ hf) (hall listed a w inv hmf hld)
      have h1 : (listed.toList.drop m).length = l.length - m := by rw [List.length_drop, Array.length_toList, inv.lsz]
      have h2 : (listed.toList.drop m).filter (!·) = listed.toList.drop m := by
        rw [List.filter_eq_self]
        intro x hx
        obtain ⟨i, hi, rfl⟩ := List.mem_iff_getElem.1 hx
        rw [List.getElem_drop]
        have h3 := hmf (m + i) (by omega)
        rw [h1] at hi
        rw [Array.getD_eq_getD_getElem?, Array.getElem?_eq_getElem (by rw [inv.lsz]; omega)] at h3
        simpa using h3
      rw [← h1, ← h2]
      exact ((List.drop_sublist m listed.toList).filter _).length_le
    · have hgd : ∀ j, j < l.length → ∀ b, listed.getD j b = listed.getD j false := fun j hj b => by
        simp [Array.getD_eq_getD_getElem?, Array.getElem?_eq_getElem (show j < listed.size by rw [inv.lsz]; exact hj)]
      refine ⟨fun hr => ?_, fun i hi => ?_⟩
      · exfalso
        have hallL : ∀ j, j < l.length → listed.getD j false = true := by
          intro j hj
          induction j using Nat.strongRecOn with
          | ind j ihj =>
            cases hx : listed.getD j false with
            | true => rfl
            | false =>
              obtain ⟨o, ho⟩ : ∃ o, l[j]? = some o := ⟨_, List.getElem?_eq_getElem hj⟩
              have : j ∈ Region.ready .any l.toArray listed := mem_ready.2 ⟨(hgd j hj true).trans hx, o, by simpa using ho, fun e he hb => by
                have hlt := hB.back j o e hj ho he hb
                exact ihj e.on hlt (by omega)⟩
              rw [hr] at this; cases this
        have := hmf m (Nat.le_refl _)
        rw [hallL m (by omega)] at this; cases this
      · obtain ⟨hun, o, ho', hdep⟩ := mem_ready.1 hi
        have ho : l[i]? = some o := by simpa using ho'
        have hil : i < l.length := (List.getElem?_eq_some_iff.1 ho).1
        have hil2 : i < listed.size := by rw [inv.lsz]; exact hil
        have hlm : i < m := by
          apply Nat.lt_of_not_le
          intro hmi
          by_cases him : i = m
          · subst him
            refine hld ?_
            have hlst : ∀ k j, i - j = k → j < i → listed.getD j false = true := by
              intro k
              induction k using Nat.strongRecOn with
              | ind k ihk =>
                intro j hjk hj
                have h1 := List.all_eq_true.1 hT1 j (List.mem_range.2 (by omega))
                obtain ⟨i', hi', h2⟩ := List.any_eq_true.1 h1
                simp only [Bool.and_eq_true, decide_eq_true_eq] at h2
                have hil' := List.mem_range.1 hi'
                obtain ⟨oi, hoi, e, he, hb, hon⟩ := Region.waitsFor_spec h2.2
                have hoi' : l[i']? = some oi := by simpa using hoi
                by_cases hii : i' = i
                · subst hii
                  obtain rfl : o = oi := Option.some.inj (ho'.symm.trans hoi)
                  have := hdep e he hb
                  rwa [hon] at this
                · have := hcl i' oi e hoi' (ihk (i - i') (by omega) i' rfl (by omega)) he hb
                  rwa [hon] at this
            exact fun j hj => hlst _ j rfl hj
          · obtain ⟨oj, hoj, e, he, hb, hon⟩ := Region.waitsFor_spec (hch i (by omega) hil)
            obtain rfl : o = oj := Option.some.inj (ho'.symm.trans hoj)
            have := hdep e he hb
            rw [hon, hmf (i - 1) (by omega)] at this
            cases this
        have hdl : ∀ j ∈ D.getD i [], j < l.length ∧ listed.getD j false = true := by
          intro j hj
          obtain ⟨oj, hoj, e, he, hb, hon⟩ := Region.waitsFor_spec (hB.wait i j hil hj)
          obtain rfl : o = oj := Option.some.inj (ho'.symm.trans hoj)
          have := hdep e he hb
          rw [hon] at this
          refine ⟨?_, this⟩
          have := hB.back i o e hil ho he hb
          omega
        have hw0 := hop i o hlm ho w inv.bw (valAt l a) (fun j hj => by
          obtain ⟨h1, h2⟩ := hdl j hj
          obtain ⟨oj, hoj⟩ : ∃ o, l[j]? = some o := ⟨_, List.getElem?_eq_getElem h1⟩
          rw [hval a j oj hoj]; exact inv.on j oj hoj h2)
        obtain ⟨s1, s2, s3⟩ := relF_spec (l := l) a n hbn (inv.sz.trans hn) (D.getD i []) a0 hn
        have hlook : ∀ t, t ∈ o.looksAt l.toArray → (relF l a0 (valAt l a) (D.getD i [])).tmps[t]? = a.tmps[t]? := by
          intro t ht
          obtain ⟨h1, h2, h3⟩ := s3 t
          by_cases hx : ∃ j ∈ D.getD i [], dstAt l j = some t
          · exact h1 hx
          · refine h3 (inv.off t fun j oj hoj _ hd => hx ⟨j, hB.look i j t o hil (List.getElem?_eq_some_iff.1 hoj).1 ho ((hdst j oj hoj).trans hd) ht, (hdst j oj hoj).trans hd⟩).symm
        have hev : ∀ x ∈ o.op.operands, (relF l a0 (valAt l a) (D.getD i [])).eval x = a.eval x := by
          intro x hx
          cases x with
          | tmp t =>
            have := hlook t (List.mem_append_left _ (List.mem_filterMap.2 ⟨.tmp t, by simpa using hx, rfl⟩))
            show (relF l a0 (valAt l a) (D.getD i [])).tmps.getD t undef = a.tmps.getD t undef
            rw [Array.getD_eq_getD_getElem?, Array.getD_eq_getD_getElem?, this]
          | _ => rfl
        have hwt : Region.wanted o (yielded l.toArray (relF l a0 (valAt l a) (D.getD i [])).tmps) = Region.wanted o (yielded l.toArray a.tmps) := by
          unfold Region.wanted
          cases hg : o.guard with
          | none => rfl
          | some gw =>
            obtain ⟨g, want⟩ := gw
            simp only []
            congr 1
            unfold yielded
            cases hd : (l.toArray[g]?).bind (·.dst) with
            | none => rfl
            | some t =>
              simp only [Option.bind_some]
              rw [hlook t (List.mem_append_right _ (by rw [hg]; simp only [hd]; simp))]
        unfold wpOp
        simp only [ho']
        refine rel_transfer (execOp_congr o (fun cs b => Region.noSelect_spec hB.sel i o cs b ho') hev) hwt (fun d hd => by rw [s1]; exact hbn i d ((hdst i o ho).trans hd)) hw0 fun v w' hb hv => ?_
        refine ih _ _ _ ⟨inv.bw.trans (hb.mono inv.bw.size), by simp [inv.lsz], by rw [put_size]; exact inv.sz, by rw [put_df]; exact inv.df, fun t ht => ?_, fun j oj hoj hj => ?_⟩ ?_ ?_ ?_
        · rw [put_ne _ _ _ _ (ht i o ho (by rw [get_set_true _ _ _ hil2]; simp))]
          exact inv.off t fun j oj hoj hj => ht j oj hoj (by rw [get_set_true _ _ _ hil2, hj]; simp)
        · by_cases hji : j = i
          · subst hji
            obtain rfl := Option.some.inj (hoj.symm.trans ho)
            rw [slot_put _ _ _ (fun d hd => by rw [inv.sz, hn]; exact hbn j d ((hdst j oj hoj).trans hd))]
            exact hv
          · rw [get_set_true _ _ _ hil2] at hj
            simp only [hji, decide_false, Bool.false_or] at hj
            rw [slot_other _ _ _ _ fun d hd hd' => hB.dist j i d (List.getElem?_eq_some_iff.1 hoj).1 hil hji ((hdst j oj hoj).trans hd) ((hdst i o ho).trans hd')]
            exact hmono j w w' _ hb (inv.on j oj hoj hj)
        · intro j hj
          rw [get_set_true _ _ _ hil2, hmf j hj]; simp; omega
        · intro i' o' e hi' hli he hb
          rw [get_set_true _ _ _ hil2] at hli ⊢
          by_cases hii : i' = i
          · subst hii
            obtain rfl := Option.some.inj (hi'.symm.trans ho)
            rw [hdep e he hb]; simp
          · simp only [hii, decide_false, Bool.false_or] at hli
            rw [hcl i' o' e hi' hli he hb]; simp
        · have hx : listed.toList[i]? = some false := by
            rw [Array.getElem?_toList, Array.getElem?_eq_getElem hil2]
            rw [Array.getD_eq_getD_getElem?, Array.getElem?_eq_getElem hil2] at hun
            exact congrArg some hun
          have := count_set listed.toList i hx
          rw [Array.toList_setIfInBounds]
          omega

/-- The region, whatever the order, its last operations at the end: D, V as in wp_region_rel. -/
theorem wp_region_rel_tail {id : Nat} {Q : Exit → Act → World → Prop} (D : List (List Nat)) (V : Nat → World → Value → Prop) (n m : Nat) (hmx : P.follows .mixedOrders = true) (hn : a0.tmps.size = n) (hB : relB l D n = true) (hT : tailB l m = true) (hm : m < l.length)
    (hmono : ∀ j (w w' : World) v, Below w.heap.size w w' → V j w v → V j w' v)
    (hop : ∀ i o, i < m → l[i]? = some o → ∀ w, Below w0.heap.size w0 w → ∀ vs : Nat → Value, (∀ j ∈ D.getD i [], V j w (vs j)) → wpList P l.toArray (relQ (V i) w o (relF l a0 vs (D.getD i []))) [o] (relF l a0 vs (D.getD i [])) w)
    (hfin : ∀ w, Below w0.heap.size w0 w → ∀ vs : Nat → Value, (∀ j, j < m → V j w (vs j)) → wpList P l.toArray Q (l.drop m) (relF l a0 vs (List.range m)) w) : (Code.region id l.toArray true).wp P Q a0 w0 := by
  refine wp_region_any hmx ?_
  have hs : l.toArray.size = l.length := by simp
  rw [hs]
  have hr : ∀ k, (Array.replicate l.length false).getD k false = false := fun k => getD_replicate_false ..
  refine wpAny_of_rel_tail hm (relB_spec hB) hT hn hmono hop hfin _ _ _ _ ⟨(Below.refl _ w0).drew, by simp, rfl, rfl, fun t _ => rfl, fun j o ho hj => ?_⟩ (fun j _ => hr _) (fun i o e _ hli _ _ => ?_) ?_
  · rw [hr] at hj; cases hj
  · rw [hr] at hli; cases hli
  · refine Nat.le_trans (List.length_filter_le (!·) (Array.replicate l.length false).toList) ?_
    simp

end

end Go.Proofs.YtjlaoijmcenahaaDoor

/- The walk of wire.number: it reads what Wire.dec says. -/
namespace Go.Proofs.YtjlaoijmcenahaaDoor
open Go.RowKit

theorem drop_cons (s : ByteArray) (k : Nat) (h : k < s.size) : s.data.toList.drop k = s[k] :: s.data.toList.drop (k + 1) := by
  rw [List.drop_eq_getElem_cons (by simpa using h)]; rfl

set_option maxRecDepth 100000 in
set_option maxHeartbeats 400000 in
theorem number_any (s : ByteArray) (w : World) (hs : s.size ≤ maxLen) :
    Calls Tryd.prog 45 #[.string s] w fun e w' => w = w' ∧
      e = .returned (.tuple #[.int .u64 (Wire.dec 0 0 s.data.toList).1, .int .i64 (Wire.dec 0 0 s.data.toList).2.1, .int .i64 (Wire.dec 0 0 s.data.toList).2.2]) := by
  unfold maxLen at hs
  go_enter Tryd.func45, Tryd.ntmps45
  go_wp2
  go_loop [5, 10] (fun v i => ∃ k : Nat, ∃ n : Nat, k ≤ s.size ∧ (k < s.size → k ≤ 9) ∧ n < 128 ^ k ∧ i = .int .i64 k ∧ v = .int .u64 n ∧ Hid (Wire.dec 0 0 s.data.toList = Wire.dec k n (s.data.toList.drop k))) (fun _ i => s.size - (intOf i).toNat)
  case atStart => exact ⟨0, 0, by omega, by omega, by decide, rfl, rfl, rfl⟩
  case round =>
    obtain ⟨k, n, hk, hk9, hn, rfl, rfl, hd⟩ := hrel
    have Hn := Lib.hid hn; clear hn
    by_cases hlt : k < s.size
    · have hd' := drop_cons s k hlt
      replace hk9 := hk9 hlt
      have HD : Hid (List.drop k s.data.toList = s[k] :: List.drop (k + 1) s.data.toList) := hd'; clear hd'
      have hc256 := s[k].toNat_lt
      rcases (show k < 9 ∨ k = 9 by omega) with h9 | h9
      · have h9' : ((k : Int) == 9) = false := by simp only [beq_eq_false_iff_ne, ne_eq]; omega
        go_wp2
        all_goals (try simp only [beq_iff_eq, beq_eq_false_iff_ne, ne_eq] at *)
        all_goals first
          | (rw [number_step n k s[k] hk9 Hn.out (by omega)]
             exact ⟨⟨k + 1, _, by omega, by omega, number_lt n k s[k] Hn.out, by go_num, rfl, by rw [hd.out, HD.out]; exact Wire.dec_more (by omega) (by omega)⟩, by simp [intOf]; omega⟩)
          | (go_ret3
             refine ⟨rfl, ?_⟩
             rw [hd.out, HD.out]
             first | (rw [Wire.dec_stop (by omega)]; rfl) | (rw [number_step n k s[k] hk9 Hn.out (by omega), Wire.dec_last (by omega) (by omega)]; rfl))
      · subst h9
        by_cases hc1 : s[9].toNat ≤ 1
        · by_cases hc0 : ((s[9].toNat : Int) == 0) = true
          all_goals
            go_wp2
            go_ret3
            refine ⟨rfl, ?_⟩
            rw [hd.out, HD.out]
          · simp only [beq_iff_eq] at hc0
            rw [Wire.dec_stop (by omega)]; rfl
          · simp only [beq_iff_eq] at hc0
            rw [number_step9 n s[9] Hn.out (by omega), Wire.dec_last (by omega) (by omega)]; rfl
        · go_wp2
          go_ret3
          refine ⟨rfl, ?_⟩
          rw [hd.out, HD.out]
          rw [Wire.dec_stop (by omega)]; rfl
    · go_wp2
      go_ret3
      have : List.drop k s.data.toList = [] := List.drop_of_length_le (by simp; omega)
      rw [hd.out, this]
      exact ⟨rfl, rfl⟩
end Go.Proofs.YtjlaoijmcenahaaDoor

/- The walks of wire.Out: Int, Text, Hash, Done. -/
namespace Go.Proofs.YtjlaoijmcenahaaDoor
open Go.RowKit

set_option maxRecDepth 100000 in
set_option maxHeartbeats 400000 in
theorem outText_any (s : ByteArray) (hs : s.size ≤ 140737488351232) (base b : Nat) (bs : List UInt8) (w : World) (h : OutIs w base b bs) (hbase : base ≤ w.heap.size) (hl : bs.length + 10 + s.size ≤ 140737488355328) :
    Calls Tryd.prog 29 #[.pointer (some ⟨b, 0, none⟩), .string s] w fun e w' => e = .returned (.tuple #[]) ∧ OutIs w' base b (bs ++ Wire.num s.size ++ s.data.toList) ∧ BelowBut base b w w' := by
  have hnl := Wire.num_length s.size (by omega)
  obtain ⟨i0, hi, hz0, hz1, hz2⟩ := info_parts Tryd.info_byte
  go_enter Tryd.func29, Tryd.ntmps29
  go_wp2_with fail
  refine (outNum_any s.size (by omega) base b bs _ h hbase (by omega)).mono ?_
  rintro e wr ⟨rfl, ⟨v, hb, hown⟩, ht⟩
  have hc := cell_of_one hb
  have hf := free_of_one hb
  have hsz := ht.size
  have hll : (bs ++ Wire.num s.size).length ≤ bs.length + (Wire.num s.size).length := Nat.le_of_eq List.length_append
  go_wp2_with (at_builtin; refine Lib.wpList_append_own_string _ rfl _ _ 44 9 rfl base 5 i0 Tryd.under_bytes Tryd.under_string hi hz0 hz1 hz2 _ _ _ rfl hown s rfl (by unfold maxLen; omega) (by omega) (by omega) ?_)
  intro v' w1 hown' hgrow _
  obtain ⟨a', c', rfl⟩ := ownsRow_slice hown'
  obtain ⟨hc1, hf1⟩ := out_cell hb hown (Below.refl _ _) hgrow
  have R := out_store (news := s.data.toList) hb hown (Below.refl _ _) (by omega) hown' hgrow (by simp) rfl
  have HR := Lib.hid R; clear R hown' hgrow
  go_wp2
  go_end0
  exact ⟨rfl, HR.out.1, ht.trans HR.out.2⟩

end Go.Proofs.YtjlaoijmcenahaaDoor

/- The walks of wire.In: what is read is what Wire.dec says. -/
namespace Go.Proofs.YtjlaoijmcenahaaDoor
open Go.RowKit





/-- Block b is a wire.In with the bytes l ahead of it and the error e. -/
def InIs (w : World) (b : Nat) (l : List UInt8) (e : Int) : Prop :=
  w.heap[b]? = some (.cells #[.string (strOf l), .int .i64 e] 77 (0, 0))

theorem InIs.cells {w : World} {b : Nat} {l : List UInt8} {e : Int} (h : InIs w b l e) :
    w.cell? ⟨b, 0, none⟩ = some (.string (strOf l)) ∧ w.cell? ⟨b, 1, none⟩ = some (.int .i64 e) ∧ (∀ j, w.frozen? ⟨b, j, none⟩ = false) := by
  unfold InIs at h
  refine ⟨?_, ?_, fun j => ?_⟩ <;> simp [World.cell?, World.frozen?, h]

theorem InIs.lt {w : World} {b : Nat} {l : List UInt8} {e : Int} (h : InIs w b l e) : b < w.heap.size := lt_of_block h

set_option maxRecDepth 100000 in
set_option maxHeartbeats 400000 in
theorem newIn_any (s : ByteArray) (w : World) :
    Calls Tryd.prog 33 #[.string s] w fun e w' => e = .returned (.pointer (some ⟨w.heap.size, 0, none⟩)) ∧ w' = w.alloc (.cells #[.string s, .int .i64 0] 77 (0, 0)) := by
  go_enter Tryd.func33, Tryd.ntmps33
  go_wp2
  go_ret
  exact ⟨rfl, rfl⟩

set_option maxRecDepth 100000 in
set_option maxHeartbeats 400000 in
theorem inErr_any (b : Nat) (l : List UInt8) (e : Int) (w : World) (h : InIs w b l e) :
    Calls Tryd.prog 35 #[.pointer (some ⟨b, 0, none⟩)] w fun x w' => w = w' ∧ x = .returned (.int .i64 e) := by
  obtain ⟨h0, h1, h2⟩ := h.cells
  go_enter Tryd.func35, Tryd.ntmps35
  go_wp2
  go_ret
  exact ⟨rfl, rfl⟩

set_option maxRecDepth 100000 in
set_option maxHeartbeats 400000 in
theorem inLeft_any (b : Nat) (l : List UInt8) (e : Int) (w : World) (h : InIs w b l e) :
    Calls Tryd.prog 36 #[.pointer (some ⟨b, 0, none⟩)] w fun x w' => w = w' ∧ x = .returned (.int .i64 l.length) := by
  obtain ⟨h0, h1, h2⟩ := h.cells
  have hs := strOf_size l
  go_enter Tryd.func36, Tryd.ntmps36
  go_wp2
  go_ret
  exact ⟨rfl, rfl⟩

/-- The error that End tells. -/
def endErr (l : List UInt8) (e : Int) : Int := if e = 0 ∧ l ≠ [] then 22 else e

set_option maxRecDepth 100000 in
set_option maxHeartbeats 400000 in
theorem read_stop (b : Nat) (l : List UInt8) (e : Int) (he : e ≠ 0) (fv : Value) (w : World) (h : InIs w b l e) :
    Calls Tryd.prog 43 #[.pointer (some ⟨b, 0, none⟩), fv] w fun x w' => w = w' ∧ x = .returned (.bool false) := by
  obtain ⟨h0, h1, h2⟩ := h.cells
  have he' : (e == 0) = false := by simpa using he
  go_enter Tryd.func43, Tryd.ntmps43
  go_wp2_with fail
  go_ret
  exact ⟨rfl, rfl⟩

/-- What 'read' leaves behind the function that it calls. -/
def readEnd (b : Nat) (l : List UInt8) (n : Nat) (er : Int) (w1 : World) : World :=
  if er = 0 then (w1.setCell ⟨b, 1, none⟩ (.int .i64 0)).setCell ⟨b, 0, none⟩ (.string (strOf (l.drop n))) else w1.setCell ⟨b, 1, none⟩ (.int .i64 er)

theorem InIs.setCell0 {w : World} {b : Nat} {l : List UInt8} {e : Int} (h : InIs w b l e) (l' : List UInt8) : InIs (w.setCell ⟨b, 0, none⟩ (.string (strOf l'))) b l' e :=
  (heap_setCell_same w b 0 _ _ _ h).trans rfl

theorem InIs.setCell1 {w : World} {b : Nat} {l : List UInt8} {e : Int} (h : InIs w b l e) (e' : Int) : InIs (w.setCell ⟨b, 1, none⟩ (.int .i64 e')) b l e' :=
  (heap_setCell_same w b 1 _ _ _ h).trans rfl

theorem BelowBut.setCell {B b : Nat} {a w : World} (h : BelowBut B b a w) {o : Nat} (u : Value) : BelowBut B b a (w.setCell ⟨b, o, none⟩ u) :=
  h.trans ⟨rfl, rfl, rfl, by simp [World.setCell], fun k _ hk => Below.heap_setCell _ _ _ _ hk⟩

theorem readEnd_is {w1 : World} {b : Nat} {l : List UInt8} (h : InIs w1 b l 0) (n : Nat) (er : Int) :
    InIs (readEnd b l n er w1) b (if er = 0 then l.drop n else l) er ∧ BelowBut w1.heap.size b w1 (readEnd b l n er w1) := by
  unfold readEnd
  split
  · rename_i he; subst he
    exact ⟨(h.setCell1 0).setCell0 _, ((BelowBut.refl _ _ _).setCell _).setCell _⟩
  · exact ⟨h.setCell1 _, (BelowBut.refl _ _ _).setCell _⟩

theorem InIs.kept {w w' : World} {b : Nat} {l : List UInt8} {e : Int} (h : InIs w b l e) (hk : w'.heap[b]? = w.heap[b]?) : InIs w' b l e := hk.trans h

set_option maxRecDepth 100000 in
set_option maxHeartbeats 400000 in
theorem read_go (b : Nat) (l : List UInt8) (f : FuncId) (cap : Array Value) (w : World) (h : InIs w b l 0) (R : Nat → Int → World → Prop)
    (hcf : ∀ (args : Array Value) (w : World), Sem.run Tryd.prog (callFunc f args) w = .ok (.enter f args) w)
    (hcall : Calls Tryd.prog f (#[.string (strOf l)] ++ cap) w fun x w1 => ∃ (n : Nat) (er : Int), x = .returned (.tuple #[.int .i64 n, .int .i64 er]) ∧ InIs w1 b l 0 ∧ n ≤ l.length ∧ R n er w1) :
    Calls Tryd.prog 43 #[.pointer (some ⟨b, 0, none⟩), .func (.func f) #[] cap] w fun x w' => ∃ (n : Nat) (er : Int) (w1 : World), R n er w1 ∧ InIs w' b (if er = 0 then l.drop n else l) er ∧ BelowBut w1.heap.size b w1 w' ∧ x = .returned (.bool (decide (er = 0))) := by
  obtain ⟨h0, h1, h2⟩ := h.cells
  go_enter Tryd.func43, Tryd.ntmps43
  go_wp2_with fail

  refine hcall.mono ?_
  rintro x w1 ⟨n, er, rfl, hin, hn, hr⟩
  obtain ⟨g0, g1, g2⟩ := hin.cells
  have hs := strOf_size l
  by_cases her : er = 0
  · subst her
    have hend : readEnd b l n 0 w1 = (w1.setCell ⟨b, 1, none⟩ (.int .i64 0)).setCell ⟨b, 0, none⟩ (.string (strOf (l.drop n))) := by simp [readEnd]
    have hext := strOf_from l n
    have HE := Lib.hid hend; clear hend
    have HX := Lib.hid hext; clear hext
    clear hcf h0 h1 h2
    go_wp2_with fail
    go_ret
    have hre := readEnd_is hin n 0
    rw [HE.out] at hre
    rw [HX.out]
    exact ⟨n, 0, w1, hr, hre.1, hre.2, rfl⟩
  · have her' : (er == 0) = false := by simpa using her
    have hend : readEnd b l n er w1 = w1.setCell ⟨b, 1, none⟩ (.int .i64 er) := by simp [readEnd, her]
    have HE := Lib.hid hend; clear hend
    clear hcf h0 h1 h2
    go_wp2_with fail
    go_ret
    have hre := readEnd_is hin n er
    rw [HE.out] at hre
    exact ⟨n, er, w1, hr, hre.1, hre.2, by simp [her]⟩

theorem Tryd.callText1 (args : Array Value) (w : World) : Sem.run Tryd.prog (callFunc 44 args) w = .ok (.enter 44 args) w := by kernel_rfl
end Go.Proofs.YtjlaoijmcenahaaDoor

/- The walks of wire.In: Int, Text, Hash. -/
namespace Go.Proofs.YtjlaoijmcenahaaDoor
open Go.RowKit

/-- The world behind a text's reader. -/
def textEnd (p : Nat) (o : Option (List UInt8)) (w : World) : World :=
  match o with
  | some t => w.setCell ⟨p, 0, none⟩ (.string (strOf t))
  | none => w

theorem txt_cases (most : Int) (l : List UInt8) (n k er : Nat) (h : Wire.dec 0 0 l = (n, k, er)) :
    (er ≠ 0 ∧ Wire.txt most l = (none, 0, er)) ∨ (er = 0 ∧ (most < 0 ∨ most < n) ∧ Wire.txt most l = (none, 0, 22)) ∨
    (er = 0 ∧ 0 ≤ most ∧ (n : Int) ≤ most ∧ l.length < k + n ∧ Wire.txt most l = (none, 0, 20)) ∨
    (er = 0 ∧ 0 ≤ most ∧ (n : Int) ≤ most ∧ k + n ≤ l.length ∧ Wire.txt most l = (some ((l.drop k).take n), k + n, 0)) := by
  unfold Wire.txt
  rw [h]
  by_cases h1 : er = 0
  · by_cases h2 : most < 0 ∨ most < n
    · exact .inr (.inl ⟨h1, h2, by simp [h1, h2]⟩)
    · by_cases h3 : l.length < k + n
      · exact .inr (.inr (.inl ⟨h1, by omega, by omega, h3, by simp [h1, h2, h3]⟩))
      · exact .inr (.inr (.inr ⟨h1, by omega, by omega, by omega, by simp [h1, h2, h3]⟩))
  · exact .inl ⟨h1, by simp [h1]⟩

set_option maxRecDepth 100000 in
set_option maxHeartbeats 400000 in
theorem text1_any (l : List UInt8) (hl : l.length ≤ maxLen) (most : Int) (hm1 : most ≤ 9223372036854775807) (q p : Nat) (x : ByteArray) (w : World) (hq : w.heap[q]? = some (.cells #[.int .i64 most] 3 (0, 0))) (hp : w.heap[p]? = some (.cells #[.string x] 9 (0, 0))) :
    Calls Tryd.prog 44 #[.string (strOf l), .pointer (some ⟨q, 0, none⟩), .pointer (some ⟨p, 0, none⟩)] w fun e w' => w' = textEnd p (Wire.txt most l).1 w ∧
      e = .returned (.tuple #[.int .i64 (Wire.txt most l).2.1, .int .i64 (Wire.txt most l).2.2]) := by
  have hc := cell_of_one hp
  have hf := free_of_one hp
  have hcq := cell_of_one hq
  have hn := number_any (strOf l) w (by rw [strOf_size]; exact hl)
  rw [strOf_list] at hn
  have hk := Wire.dec_len l
  have hn64 := Wire.dec_u64 l
  have hcs := txt_cases most l _ _ _ rfl
  have hs := strOf_size l
  unfold maxLen at hl
  generalize Wire.dec 0 0 l = d at hn hk hn64 hcs
  obtain ⟨n, k, er⟩ := d
  simp only at hk hn64
  have HN := Lib.hid hn; clear hn
  clear hp hq
  rcases hcs with ⟨h1, h2⟩ | ⟨h1, h3, h2⟩ | ⟨h1, h3, h4, h5, h2⟩ | ⟨h1, h3, h4, h5, h2⟩
  · have h1' : ((er : Int) != 0) = true := by simpa using h1
    have H2 := Lib.hid h2; clear h2
    go_enter Tryd.func44, Tryd.ntmps44
    go_wp2_with fail
    refine HN.out.mono ?_
    rintro e w' ⟨rfl, rfl⟩
    go_wp2_with fail
    go_ret2
    rw [H2.out]; exact ⟨rfl, rfl⟩
  · subst h1
    have H2 := Lib.hid h2; clear h2
    rcases (show most < 0 ∨ (0 ≤ most ∧ most < n) by omega) with h6 | ⟨h6, h7⟩
    all_goals
      clear h3
      go_enter Tryd.func44, Tryd.ntmps44
      go_wp2_with fail
      refine HN.out.mono ?_
      rintro e w' ⟨rfl, rfl⟩
      go_wp2_with fail
      go_ret2
      rw [H2.out]; exact ⟨rfl, rfl⟩
  · subst h1
    have H2 := Lib.hid h2; clear h2
    go_enter Tryd.func44, Tryd.ntmps44
    go_wp2_with fail
    refine HN.out.mono ?_
    rintro e w' ⟨rfl, rfl⟩
    go_wp2_with fail
    go_ret2
    rw [H2.out]; exact ⟨rfl, rfl⟩
  · subst h1
    have H2 := Lib.hid h2; clear h2
    have hext := strOf_extract l k (k + n)
    rw [show k + n - k = n by omega] at hext
    have HX := Lib.hid hext; clear hext
    go_enter Tryd.func44, Tryd.ntmps44
    go_wp2_with fail
    refine HN.out.mono ?_
    rintro e w' ⟨rfl, rfl⟩
    go_wp2_with fail
    go_ret2
    rw [H2.out]
    exact ⟨by simp only [textEnd]; rw [← HX.out], rfl⟩

end Go.Proofs.YtjlaoijmcenahaaDoor

/- The walks of wire.In: Text, Hash. -/
namespace Go.Proofs.YtjlaoijmcenahaaDoor
open Go.RowKit

theorem wnew (w : World) (o : Obj) : (w.alloc o).heap[w.heap.size]? = some o := heap_alloc_new w o

set_option maxRecDepth 100000 in
set_option maxHeartbeats 400000 in
theorem inText_any (b : Nat) (l : List UInt8) (e : Nat) (most : Int) (hm : most ≤ 9223372036854775807) (hl : l.length ≤ maxLen) (w : World) (h : InIs w b l e) :
    Calls Tryd.prog 34 #[.pointer (some ⟨b, 0, none⟩), .int .i64 most] w fun x w' => x = .returned (.string (strOf (Wire.rdText most l e).1)) ∧ InIs w' b (Wire.rdText most l e).2.1 (Wire.rdText most l e).2.2 ∧ BelowBut w.heap.size b w w' := by
  have hlt := h.lt
  obtain ⟨W, hW⟩ : ∃ W, W = (w.alloc (.cells #[.int .i64 most] 3 (0, 0))).alloc (.cells #[.string ⟨#[]⟩] 9 (0, 0)) := ⟨_, rfl⟩
  have hq : W.heap[w.heap.size]? = some (.cells #[.int .i64 most] 3 (0, 0)) := by
    rw [hW, Below.heap_alloc _ _ _ (by simp)]; exact heap_alloc_new w _
  have hp : W.heap[w.heap.size + 1]? = some (.cells #[.string ⟨#[]⟩] 9 (0, 0)) := by
    rw [hW]; have := heap_alloc_new (w.alloc (.cells #[.int .i64 most] 3 (0, 0))) (.cells #[.string ⟨#[]⟩] 9 (0, 0)); simpa using this
  have hbW : InIs W b l e := by
    refine h.kept ?_
    rw [hW, Below.heap_alloc _ _ _ (by simp; omega), Below.heap_alloc _ _ _ hlt]
  have hbl : Below w.heap.size w W := by rw [hW]; exact ((Below.refl _ _).alloc (Nat.le_refl _) _).alloc (by simp) _
  have hWs : W.heap.size = w.heap.size + 2 := by rw [hW]; simp
  by_cases he : e = 0
  · subst he
    have hcall := read_go b l 44 #[.pointer (some ⟨w.heap.size, 0, none⟩), .pointer (some ⟨w.heap.size + 1, 0, none⟩)] W hbW
      (fun n er w1 => n = (Wire.txt most l).2.1 ∧ er = (Wire.txt most l).2.2 ∧ w1 = textEnd (w.heap.size + 1) (Wire.txt most l).1 W) Tryd.callText1
      ((text1_any l hl most hm w.heap.size (w.heap.size + 1) _ W hq hp).mono fun x w1 ⟨hw, hx⟩ => ⟨_, _, hx, by subst hw; unfold textEnd; split; exact hbW.kept (Below.heap_setCell _ _ _ _ (by simp; omega)); exact hbW, Wire.txt_len most l, rfl, rfl, hw⟩)
    have HC := Lib.hid hcall; clear hcall
    have HW := Lib.hid hW; clear hW
    go_enter Tryd.func34, Tryd.ntmps34
    go_wp2_with fail
    rw [← HW.out]
    refine HC.out.mono ?_
    rintro x w' ⟨n, er, w1, ⟨rfl, rfl, rfl⟩, hin, hbb, rfl⟩
    have hw1 : ∃ t, (textEnd (w.heap.size + 1) (Wire.txt most l).1 W).heap[w.heap.size + 1]? = some (.cells #[.string (strOf t)] 9 (0, 0)) ∧ t = (Wire.rdText most l 0).1 ∧
        (if ((Wire.txt most l).2.2 : Int) = 0 then l.drop (Wire.txt most l).2.1 else l) = (Wire.rdText most l 0).2.1 ∧ (Wire.txt most l).2.2 = (Wire.rdText most l 0).2.2 := by
      have hf := Wire.txt_facts most l
      unfold Wire.rdText
      rw [if_neg (by simp)]
      cases hx : Wire.txt most l with
      | mk o r =>
        obtain ⟨n, er⟩ := r
        rw [hx] at hf
        cases o with
        | some t => exact ⟨t, one_setCell hp, rfl, by simp [show er = 0 from hf.1 t rfl], hf.1 t rfl⟩
        | none => exact ⟨[], hp, rfl, by simp only; rw [if_neg (by have := hf.2 rfl; simpa using this)], rfl⟩
    obtain ⟨t, hw1, ht, hl', her⟩ := hw1
    have hsz1 : (textEnd (w.heap.size + 1) (Wire.txt most l).1 W).heap.size = w.heap.size + 2 := by
      unfold textEnd; split <;> simp [hWs]
    have hb1 : Below w.heap.size W (textEnd (w.heap.size + 1) (Wire.txt most l).1 W) := by
      unfold textEnd; split
      · exact (Below.refl _ _).setCell (p := ⟨w.heap.size + 1, 0, none⟩) (by simp) _
      · exact Below.refl _ _
    have hcell : w'.cell? ⟨w.heap.size + 1, 0, none⟩ = some (.string (strOf t)) := cell_of_one ((hbb.block _ (by omega) (by omega)).trans hw1)
    have hbb2 : BelowBut w.heap.size b w w' := BelowBut.trans (.of (hbl.trans hb1)) (hbb.mono (by omega))
    rw [hl', her] at hin
    have HI := Lib.hid hin; clear hin
    have HT := Lib.hid ht; clear ht
    clear hbb HC hw1 hsz1 hb1 hl' her HW hq hp hbW hbl hWs
    go_wp2_with fail
    go_ret
    exact ⟨congrArg (fun t => Ending.returned (.string (strOf t))) HT.out, HI.out, hbb2⟩
  · have hstop := fun fv => read_stop b l e (by omega) fv _ hbW
    have HS := Lib.hid hstop; clear hstop
    have hr : Wire.rdText most l e = ([], l, e) := by simp [Wire.rdText, he]
    have HR := Lib.hid hr; clear hr
    have HI := Lib.hid hbW; clear hbW
    have HW := Lib.hid hW; clear hW
    have hcell := cell_of_one hp
    clear hq hp
    go_enter Tryd.func34, Tryd.ntmps34
    go_wp2_with fail
    rw [← HW.out]
    refine (HS.out _).mono ?_
    rintro x w' ⟨rfl, rfl⟩
    go_wp2_with fail
    go_ret
    rw [HR.out]
    exact ⟨rfl, HI.out, .of hbl⟩

theorem lib_byteCells (l : List UInt8) : Lib.byteCells l = byteCells l := rfl

/-- 'copy(row, s)' where s is no shorter than the row. -/
theorem run_copy_string_full {P : Program} (w : World) (dT sT ty elem : TypeId) (g dLen dCap : Nat) (l : List UInt8) (cur : Array Value) (t : TypeId)
    (hu : P.underlying dT = some (.slice elem)) (hs : (P.info? elem).map (·.size) = some 1) (hg : w.heap[g]? = some (.cells cur t (0, 0))) (hle : dLen ≤ l.length) (hfit : cur.size = dLen) :
    (Builtin.copy_ #[dT, sT] ty #[.slice (some ⟨g, 0, none⟩) dLen dCap, .string (strOf l)]).run P w =
      .ok (goInt dLen) (w.setRow g (byteCells (l.take dLen)).toArray) := by
  have hlen : (byteCells (l.take dLen)).length = dLen := by rw [byteCells_length, List.length_take]; omega
  have hst := run_storeCells_at P g 0 t (byteCells (l.take dLen)) 0 cur w hg (by rw [hlen]; omega) (byteCells_one _)
  have hmin : Nat.min (strOf l).size dLen = dLen := Nat.min_eq_right (by rw [strOf_size]; exact hle)
  have htk : List.take dLen (List.map (fun b : UInt8 => Value.int IntKind.u8 (b.toNat : Int)) (strOf l).data.toList) = byteCells (l.take dLen) := by
    rw [strOf_list, ← List.map_take]; rfl
  have hrow : List.take 0 cur.toList ++ byteCells (List.take dLen l) ++ List.drop (0 + (byteCells (List.take dLen l)).length) cur.toList = byteCells (l.take dLen) := by
    rw [hlen, List.drop_of_length_le (by simp [hfit])]; simp
  simp only [Nat.add_zero] at hst
  rw [hrow] at hst
  cases hq : P.info? elem with
  | none => simp [hq] at hs
  | some i =>
    simp [Builtin.copy_, run_underlying hu, Builtin.lenOf, Builtin.firstCells, sizeOf, typeInfo, hq, hmin]
    rw [htk, hst]
    simp [Result.andThen]

theorem wpList_copy_string_full {P : Program} {w : World} {ops : Array Oper} {rest : List Oper} {o : Oper} {a : Act} {Q : Exit → Act → World → Prop} (hgd : o.guard = none) (d s : Operand) (dT sT : TypeId)
    (ho : o.op = .call { callee := .builtin .copy, args := #[d, s], argTypes := #[dT, sT] }) (elem : TypeId) (hu : P.underlying dT = some (.slice elem)) (hsz : (P.info? elem).map (·.size) = some 1)
    (g dLen dCap : Nat) (l : List UInt8) (hd : a.eval d = .slice (some ⟨g, 0, none⟩) dLen dCap) (hs : a.eval s = .string (strOf l))
    (cur : Array Value) (t : TypeId) (hg : w.heap[g]? = some (.cells cur t (0, 0))) (hle : dLen ≤ l.length) (hfit : cur.size = dLen)
    (h : wpList P ops Q rest (a.put o.dst (goInt dLen)) (w.setRow g (byteCells (l.take dLen)).toArray)) :
    wpList P ops Q (o :: rest) a w := by
  refine wpList_plain hgd fun K hK => ?_
  have hrun := run_copy_string_full (P := P) w dT sT o.type elem g dLen dCap l cur t hu hsz hg hle hfit
  unfold Oper.wp execOp
  simp only [ho, resolve, invoke, builtin, Sem.run_bind, Sem.run_pure, Result.andThen_ok, List.map_toArray, List.map_cons, List.map_nil, hs, hd, hrun]
  exact hK _ _ h

end Go.Proofs.YtjlaoijmcenahaaDoor

/- The walk of wire.In.Hash. -/
namespace Go.Proofs.YtjlaoijmcenahaaDoor
open Go.RowKit


theorem bytes_all (l : List UInt8) : (byteCells l).toArray.all (·.oneCell') = true := by
  rw [Array.all_eq_true_iff_forall_mem]
  intro v hv
  exact byteCells_one l v (by simpa using hv)

theorem Tryd.size_hash : (Tryd.prog.info? 31).map (·.size) = some 32 := by kernel_rfl

end Go.Proofs.YtjlaoijmcenahaaDoor

/- The walk of the wire laws' awake: it returns true. -/
namespace Go.Proofs.YtjlaoijmcenahaaDoor
open Go.RowKit

theorem OutIs.below {w w' : World} {base b : Nat} {bs : List UInt8} (h : OutIs w base b bs) (hb : Below w.heap.size w w') : OutIs w' base b bs :=
  h.kept fun k hk => hb.block k hk

/-- An Out is kept where another block is changed. -/
theorem OutIs.but {w w' : World} {base b c : Nat} {bs : List UInt8} (h : OutIs w base b bs) (hb : BelowBut w.heap.size c w w') (hc : b ≠ c) (ho : w.heap[c]? ≠ none → ∀ cur fr, w.heap[c]? ≠ some (.cells cur 5 fr)) : OutIs w' base b bs := by
  obtain ⟨v, h1, h2⟩ := h
  refine ⟨v, (hb.block b (lt_of_block h1) hc).trans h1, ownsRow_below h2 fun k hk' => hb.block k (h2.lt k hk').2 ?_⟩
  rintro rfl
  rcases h2.2 with ⟨rfl, _⟩ | ⟨g, cap, cur, rfl, _, hgg, _⟩
  · simp [Value.ownBlock] at hk'
  · simp [Value.ownBlock] at hk'
    subst hk'
    exact ho (by rw [hgg]; simp) _ _ hgg

/-- Block b is a wire.Out in which nothing is written yet. -/
def OutNew (w : World) (b : Nat) : Prop := w.heap[b]? = some (.cells #[.slice none 0 0] 67 (0, 0))

theorem OutNew.is {w : World} {b : Nat} (h : OutNew w b) (base : Nat) : OutIs w base b [] := ⟨_, h, World.ownsRow_nil _ _ _ _⟩
theorem OutNew.is0 {w : World} {b : Nat} (h : OutNew w b) : OutIs w 0 b [] := h.is 0
theorem OutNew.made (w : World) : OutNew (w.alloc (.cells #[.slice none 0 0] 67 (0, 0))) w.heap.size := heap_alloc_new w _
theorem OutNew.lt {w : World} {b : Nat} (h : OutNew w b) : b < w.heap.size := lt_of_block h
theorem OutNew.below {w w' : World} {b : Nat} (h : OutNew w b) (hb : Below w.heap.size w w') : OutNew w' b := (hb.block b h.lt).trans h
theorem OutNew.but {w w' : World} {b c : Nat} (h : OutNew w b) (hb : BelowBut w.heap.size c w w') (hc : b ≠ c) : OutNew w' b := (hb.block b h.lt hc).trans h
theorem OutIs.noRow {w : World} {base b : Nat} {bs : List UInt8} (h : OutIs w base b bs) : w.heap[b]? ≠ none → ∀ cur fr, w.heap[b]? ≠ some (.cells cur 5 fr) := by
  obtain ⟨v, h1, _⟩ := h
  intro _ cur fr hx
  rw [h1] at hx
  simp at hx

theorem outDone_str (base b : Nat) (bs : List UInt8) (w : World) (h : OutIs w base b bs) :
    Calls Tryd.prog 30 #[.pointer (some ⟨b, 0, none⟩)] w fun e w' => w = w' ∧ e = .returned (.string (strOf bs)) :=
  outDone_any base b bs w h

theorem InIs.noRow {w : World} {b : Nat} {l : List UInt8} {e : Int} (h : InIs w b l e) : w.heap[b]? ≠ none → ∀ cur fr, w.heap[b]? ≠ some (.cells cur 5 fr) := by
  intro _ cur fr hx
  unfold InIs at h
  rw [h] at hx
  simp at hx

theorem InIs.fresh (w : World) (l : List UInt8) : InIs (w.alloc (.cells #[.string (strOf l), .int .i64 0] 77 (0, 0))) w.heap.size l 0 := heap_alloc_new w _

end Go.Proofs.YtjlaoijmcenahaaDoor

/- What arguments read as: sums, fields, and rows of them. -/
namespace Go.Proofs.YtjlaoijmcenahaaDoor
open Go.ChangeShapes Go.WideShapes Go.ChangeAt Go.RowKit

section
variable {H : Type} {enc : TypeId × Value → H} {P : Program} {w : World} {base : Nat} {spare : Nat → Bool} {held : Bool} {fuel : Nat} {t : TypeId} {cs : List Value} {x : DataW H × List MemPlace}

end

section
variable {H : Type} {enc : TypeId × Value → H} {P : Program} {w : World} {base : Nat} {spare : Nat → Bool} {held : Bool}
end

/-- A field: what a value of modillionref02.Field holds. -/
structure FieldV where
  kind : Int
  most : Int
  n : Nat
  i : Int
  s : ByteArray
  h : List UInt8

/-- Its cells. -/
def FieldV.cells (f : FieldV) : List Value := [.int .i64 f.kind, .int .i64 f.most, .int .u64 f.n, .int .i64 f.i, .string f.s] ++ byteCells f.h

/-- Each number is of its kind. -/
structure FieldV.ok (f : FieldV) : Prop where
  kind0 : -9223372036854775808 ≤ f.kind
  kind1 : f.kind ≤ 9223372036854775807
  most0 : -9223372036854775808 ≤ f.most
  most1 : f.most ≤ 9223372036854775807
  n1 : f.n < 18446744073709551616
  i0 : -9223372036854775808 ≤ f.i
  i1 : f.i ≤ 9223372036854775807
  s1 : f.s.size ≤ maxLen
  h1 : f.h.length = 32

theorem FieldV.len {f : FieldV} (h : f.ok) : f.cells.length = 37 := by
  simp [FieldV.cells, byteCells, h.h1]

theorem Tryd.under_int : Tryd.prog.underlying 3 = some (.int .i64) := by kernel_rfl
theorem Tryd.under_i64 : Tryd.prog.underlying 2 = some (.int .i64) := by kernel_rfl
theorem Tryd.under_u64 : Tryd.prog.underlying 50 = some (.int .u64) := by kernel_rfl
theorem Tryd.cells_int : Tryd.prog.cellsOf 3 = 1 := by kernel_rfl
theorem Tryd.cells_i64 : Tryd.prog.cellsOf 2 = 1 := by kernel_rfl
theorem Tryd.cells_u64 : Tryd.prog.cellsOf 50 = 1 := by kernel_rfl
theorem Tryd.cells_field : Tryd.prog.cellsOf 52 = 37 := by kernel_rfl

section
variable {H : Type} {enc : TypeId × Value → H} {w : World} {base : Nat} {spare : Nat → Bool} {held : Bool}

theorem open_field (n : Nat) (cs : List Value) (y : DataW H × List MemPlace) (h : DataW.trod enc Tryd.prog w base spare held n 52 cs = some y) : ∃ f : FieldV, f.ok ∧ cs = f.cells := by
  obtain ⟨xs, m, _, _, hl, hx, hd⟩ := DataW.trod_struct Tryd.underlying52 h
  rw [Tryd.cells_field] at hl
  have hxl : xs.length = 6 := hx
  have e0 : DataW.trod enc Tryd.prog w base spare held m 3 ((cs.drop 0).take (Tryd.prog.cellsOf 3)) = xs[0]? := hd 0 _ rfl
  rw [Tryd.cells_int] at e0
  have e1 : DataW.trod enc Tryd.prog w base spare held m 3 ((cs.drop 1).take (Tryd.prog.cellsOf 3)) = xs[1]? := hd 1 _ rfl
  rw [Tryd.cells_int] at e1
  have e2 : DataW.trod enc Tryd.prog w base spare held m 50 ((cs.drop 2).take (Tryd.prog.cellsOf 50)) = xs[2]? := hd 2 _ rfl
  rw [Tryd.cells_u64] at e2
  have e3 : DataW.trod enc Tryd.prog w base spare held m 2 ((cs.drop 3).take (Tryd.prog.cellsOf 2)) = xs[3]? := hd 3 _ rfl
  rw [Tryd.cells_i64] at e3
  have e4 : DataW.trod enc Tryd.prog w base spare held m 9 ((cs.drop 4).take (Tryd.prog.cellsOf 9)) = xs[4]? := hd 4 _ rfl
  rw [Tryd.cells_string] at e4
  have e5 : DataW.trod enc Tryd.prog w base spare held m 31 ((cs.drop 5).take (Tryd.prog.cellsOf 31)) = xs[5]? := hd 5 _ rfl
  rw [Tryd.cells_hash] at e5
  rw [List.getElem?_eq_getElem (by omega)] at e0 e1 e2 e3 e4 e5
  obtain ⟨a0, f0, _, w0⟩ := DataW.trod_int Tryd.under_int e0
  obtain ⟨a1, f1, _, w1⟩ := DataW.trod_int Tryd.under_int e1
  obtain ⟨a2, f2, _, w2⟩ := DataW.trod_int Tryd.under_u64 e2
  obtain ⟨a3, f3, _, w3⟩ := DataW.trod_int Tryd.under_i64 e3
  obtain ⟨s, f4, _, w4⟩ := DataW.trod_string Tryd.under_string e4
  obtain ⟨hs, f5, f6⟩ := open_bytes Tryd.under_hash Tryd.under_byte Tryd.cells_byte Tryd.cells_hash e5
  replace w0 := bounds_i64 w0
  replace w1 := bounds_i64 w1
  replace w2 := bounds_u64 w2
  replace w3 := bounds_i64 w3
  refine ⟨⟨a0, a1, a2.toNat, a3, s, hs⟩, ⟨w0.1, w0.2, w1.1, w1.2, ?_, w3.1, w3.2, w4, f5⟩, ?_⟩
  · simp only; omega
  · have split1 : ∀ (l : List Value) (k : Nat), l.drop k = (l.drop k).take 1 ++ l.drop (k + 1) := by
      intro l k
      rw [← List.drop_drop, List.take_append_drop]
    have e : cs = cs.drop 0 := by simp
    rw [e, split1 cs 0, f0, split1 cs 1, f1, split1 cs 2, f2, split1 cs 3, f3, split1 cs 4, f4]
    rw [List.take_of_length_le (by simp; omega)] at f6
    rw [f6]
    have e2 : ((a2.toNat : Nat) : Int) = a2 := by omega
    simp [FieldV.cells, e2]
end
end Go.Proofs.YtjlaoijmcenahaaDoor

/- The wire contracts in the form in which the laws use them. -/
namespace Go.Proofs.YtjlaoijmcenahaaDoor
open Go.RowKit

theorem newOut_use (w : World) :
    Calls Tryd.prog 28 #[] w fun e w' => e = .returned (.pointer (some ⟨w.heap.size, 0, none⟩)) ∧ OutNew w' w.heap.size ∧ Below w.heap.size w w' ∧ w.heap.size < w'.heap.size :=
  (newOut_any w).mono fun e w' ⟨h1, h2⟩ => by
    subst h2
    exact ⟨h1, OutNew.made w, (Below.refl _ _).alloc (Nat.le_refl _) _, by simp⟩

theorem newIn_use (l : List UInt8) (w : World) :
    Calls Tryd.prog 33 #[.string (strOf l)] w fun e w' => e = .returned (.pointer (some ⟨w.heap.size, 0, none⟩)) ∧ InIs w' w.heap.size l 0 ∧ Below w.heap.size w w' ∧ w.heap.size < w'.heap.size :=
  (newIn_any (strOf l) w).mono fun e w' ⟨h1, h2⟩ => by
    subst h2
    exact ⟨h1, InIs.fresh w l, (Below.refl _ _).alloc (Nat.le_refl _) _, by simp⟩

theorem InIs.below {w w' : World} {b : Nat} {l : List UInt8} {e : Int} (h : InIs w b l e) (hb : Below w.heap.size w w') : InIs w' b l e := h.kept (hb.block b h.lt)
theorem InIs.but {w w' : World} {b c : Nat} {l : List UInt8} {e : Int} (h : InIs w b l e) (hb : BelowBut w.heap.size c w w') (hc : b ≠ c) : InIs w' b l e := h.kept (hb.block b h.lt hc)

theorem str_eta (s : ByteArray) : ∃ l, s = strOf l := ⟨s.data.toList, (strOf_data s).symm⟩

/-- What stands below B while a block from B on is changed. -/
theorem Below.more {B b C : Nat} {w w1 w2 : World} (h : Below B w w1) (h2 : BelowBut C b w1 w2) (hB : B ≤ b) (hC : B ≤ C) : Below B w w2 :=
  h.trans ((h2.mono hC).below hB)

end Go.Proofs.YtjlaoijmcenahaaDoor

/- The walk of wire.Out's Hash. (A part of XOut2, for the seats that lack the rest.) -/
namespace Go.Proofs.YtjlaoijmcenahaaDoor
open Go.RowKit
set_option linter.unusedSimpArgs false
set_option linter.unusedVariables false

end Go.Proofs.YtjlaoijmcenahaaDoor
