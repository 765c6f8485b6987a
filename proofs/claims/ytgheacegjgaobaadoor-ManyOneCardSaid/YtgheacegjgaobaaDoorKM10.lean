/- The walks of the reference's top and Check. -/
import Derived.Test.YtgheacegjgaobaaDoorKM9
import Derived.Test.YtgheacegjgaobaaDoorKG6a
namespace Go.Proofs.YtgheacegjgaobaaDoor
open Go.RowKit
set_option linter.unusedSimpArgs false
set_option linter.unusedVariables false

/-- What a part of a proof comes to. -/
def mtopV (B : List Nat) (X P : List (List UInt8)) (i j f n : Nat) : List UInt8 := Many.val B (fun i _ _ => (P[i]?).getD (List.replicate 32 0)) (fun j _ => Tree.leaf ((X[j]?).getD [])) i j f n

theorem mtopV_len {B : List Nat} {X P : List (List UInt8)} (hP : ∀ p ∈ P, p.length = 32) (i j f n : Nat) : (mtopV B X P i j f n).length = 32 :=
  Many.val_len (fun i f n => by
    cases hx : P[i]? with
    | none => exact zeroS_len
    | some p => exact hP p (List.mem_of_getElem? hx)) (fun j f => Tree.leaf_len _) _ _ _ _

theorem PairsAt.range {w : World} {q : Option Addr} {n c : Nat} {d : List (Nat × Nat)} (h : PairsAt w q n c d) {i : Nat} {x : Nat × Nat} (hx : d[i]? = some x) : ∃ g, q = some ⟨g, 0, none⟩ ∧ w.rangeAt g (i * 2) [.int .i64 (x.1 : Int), .int .i64 (x.2 : Int)] := by
  obtain ⟨g, h1, _, h3, h4⟩ := h.cells hx
  refine ⟨g, h1, fun j v hv => ?_⟩
  match j, hv with
  | 0, hv =>
    obtain rfl := Option.some.inj hv
    exact h3
  | 1, hv =>
    obtain rfl := Option.some.inj hv
    exact h4

theorem pair_ne {a b f n : Nat} (h : (a, b) ≠ (f, n)) : ((a : Int) == (f : Int) && (b : Int) == (n : Int)) = false := by
  rw [Bool.and_eq_false_iff]
  by_cases e : a = f
  · right
    rw [beq_eq_false_iff_ne]
    intro e2
    exact h (by rw [e, show b = n by omega])
  · left
    rw [beq_eq_false_iff_ne]; omega


set_option maxRecDepth 100000 in
set_option maxHeartbeats 8000000 in
theorem refMTop_any (B : List Nat) (N : Nat) (hB : B.Pairwise (· < ·)) (hN : N ≤ 65536) (oA oX oQ oP : Option Addr) (mA cA mX cX nQ cQ mP cP : Nat) (X P : List (List UInt8)) (hXB : X.length = B.length) (hPQ : P.length = (Many.tops B 0 N).length) (hlen : ∀ l ∈ X, l.length ≤ 100000) :
    ∀ (n f : Nat) (D R : List (Nat × Nat)) (w : World), Many.Loc B N f n D R → f + n ≤ N → IntsAt w oA mA cA (B.map Int.ofNat) → StrsAt w oX mX cX X → PairsAt w oQ nQ cQ (Many.tops B 0 N) → HashesAt w oP mP cP P →
    Calls Tryd.prog 52 #[.int .i64 (f : Int), .int .i64 (n : Int), .slice oA mA cA, .slice oX mX cX, .slice oQ nQ cQ, .slice oP mP cP] w fun e w' => e = .returned (.agg (byteCells (mtopV B X P D.length (Many.inr B 0 f).length f n)).toArray) ∧ Below w.heap.size w w' := by
  intro n
  induction n using Nat.strongRecOn with
  | ind n ih =>
    intro f D R w hLoc hfn hA hX hQ hP
    have hQl := hQ.1
    have hQc := hQ.2.1
    have hQm := hQ.2.2.1
    have hXl := hX.len
    have hXc := hX.cap
    have hXm := hX.max
    have hAl := hA.len
    have hAc := hA.cap
    have hAm := hA.max
    have hPl := hP.1.1
    have hPc := hP.1.2.1
    have hPm := hP.1.2.2.1
    rw [List.length_map] at hAl
    have b0 : Below w.heap.size w (w.alloc (.cells zero32 23)) := (Below.refl _ _).alloc (Nat.le_refl _) _
    have x0 := heap_alloc_new w (.cells zero32 23)
    have hDl : D.length ≤ nQ := by
      have := congrArg List.length hLoc.1
      rw [List.length_append, List.length_append] at this
      omega
    have HQ := Lib.hid hQ; clear hQ
    have HA := Lib.hid hA; clear hA
    have HX := Lib.hid hX; clear hX
    have HP := Lib.hid hP; clear hP
    have HLE := Lib.hid hlen
    have HQL := Lib.hid hQl
    have X0 := Lib.hid x0; clear x0
    by_cases he : Many.inr B f (f + n) = []
    · obtain ⟨g1, g2⟩ := hLoc.none_at he
      have hDn : D.length < nQ := by have := (List.getElem?_eq_some_iff.1 g1).1; omega
      obtain ⟨h, hh⟩ : ∃ h, P[D.length]? = some h := ⟨_, List.getElem?_eq_getElem (by omega)⟩
      have hv : mtopV B X P D.length (Many.inr B 0 f).length f n = h := by unfold mtopV; rw [Many.val_none he, hh]; rfl
      have h32 := HP.out.2 h (List.mem_of_getElem? hh)
      rw [hv]
      obtain ⟨bP, oP', rfl⟩ := HP.out.form (by omega)
      obtain ⟨hbP, hrP⟩ := (HP.out.below (Nat.le_refl _) b0).get hh
      have HRP := Lib.hid hrP; clear hrP hh
      have H32 := Lib.hid h32; clear h32
      have G1 := Lib.hid g1; clear g1
      have G2 := Lib.hid g2; clear g2
      have hPn1 : mP ≤ nQ := by omega
      have hPn2 : nQ ≤ mP := by omega
      clear hv he hLoc ih hlen hQl hXl hAl hPl hXB hPQ
      obtain ⟨k, hk⟩ : ∃ k, k = D.length := ⟨_, rfl⟩
      rw [← hk] at G1 G2 HRP hDn hDl
      clear hk
      go_enter Tryd.func52, Tryd.ntmps52
      go_wp2_with fail
      go_loop [13] (fun v => ∃ i : Nat, i ≤ k ∧ v = .int .i64 (i : Int)) (fun v => k - (intOf v).toNat)
      case atStart => exact ⟨0, by omega, rfl⟩
      case round =>
        obtain ⟨i, hi, rfl⟩ := hrel
        by_cases hlt : i < k
        · obtain ⟨x, hx⟩ : ∃ x, (Many.tops B 0 N)[i]? = some x := ⟨_, List.getElem?_eq_getElem (by rw [HQL.out]; omega)⟩
          obtain ⟨gp, hgp, hrg⟩ := (HQ.out.below b0).range hx
          have hne := G2.out i x hlt hx
          obtain ⟨xa, xb⟩ := x
          simp only at hrg
          have hte := pair_ne hne
          have HR := Lib.hid hrg; clear hrg
          have HT := Lib.hid hte; clear hte hx hne
          subst hgp
          have t1 : decide ((i : Int) < (nQ : Int)) = true := decide_eq_true (by omega)
          have t1' : decide (i < nQ) = true := decide_eq_true (by omega)
          have hiq : (i : Int) < (nQ : Int) := by omega
          go_wp2_with (first | ((with_reducible show wpList _ _ _ (⟨some 25, _, _, _, _, _⟩ :: _) _ _); refine wpList_load_mid (op := ⟨some 25, _, _, _, _, _⟩) rfl 68 _ rfl gp (i * 2) rfl [.int .i64 (xa : Int), .int .i64 (xb : Int)] _ HR.out Tryd.under_pair rfl (by kernel_rfl) ?_) | ((with_reducible show wpList _ _ _ (⟨some 29, _, _, _, _, _⟩ :: _) _ _); refine wpList_eql_pair (op := ⟨some 29, _, _, _, _, _⟩) (by kernel_rfl) _ _ rfl (xa : Int) (xb : Int) (f : Int) (n : Int) rfl rfl ?_; rw [HT.out]))
          go_round
          case rel => exact ⟨i + 1, by omega, by go_num⟩
          case measure => simp [intOf]; omega
        · obtain rfl : i = k := by omega
          obtain ⟨gp, hgp, hrg⟩ := (HQ.out.below b0).range G1.out
          simp only at hrg
          have hte : ((f : Int) == (f : Int) && (n : Int) == (n : Int)) = true := by simp
          obtain ⟨xa, hxa⟩ : ∃ xa, xa = f := ⟨_, rfl⟩
          obtain ⟨xb, hxb⟩ : ∃ xb, xb = n := ⟨_, rfl⟩
          have hrg2 : (w.alloc (.cells zero32 23)).rangeAt gp (i * 2) [.int .i64 (xa : Int), .int .i64 (xb : Int)] := by rw [hxa, hxb]; exact hrg
          have hte2 : ((xa : Int) == (f : Int) && (xb : Int) == (n : Int)) = true := by rw [hxa, hxb]; exact hte
          have HR := Lib.hid hrg2; clear hrg hrg2
          have HT := Lib.hid hte2; clear hte hte2 hxa hxb
          subst hgp
          have t1 : decide ((i : Int) < (nQ : Int)) = true := decide_eq_true (by omega)
          have t1' : decide (i < nQ) = true := decide_eq_true (by omega)
          have hiq : (i : Int) < (nQ : Int) := by omega
          have hip : (i : Int) < (mP : Int) := by omega
          go_wp2_with (first | ((with_reducible show wpList _ _ _ (⟨some 25, _, _, _, _, _⟩ :: _) _ _); refine wpList_load_mid (op := ⟨some 25, _, _, _, _, _⟩) rfl 68 _ rfl gp (i * 2) rfl [.int .i64 (xa : Int), .int .i64 (xb : Int)] _ HR.out Tryd.under_pair rfl (by kernel_rfl) ?_) | ((with_reducible show wpList _ _ _ (⟨some 29, _, _, _, _, _⟩ :: _) _ _); refine wpList_eql_pair (op := ⟨some 29, _, _, _, _, _⟩) (by kernel_rfl) _ _ rfl (xa : Int) (xb : Int) (f : Int) (n : Int) rfl rfl ?_; rw [HT.out]) | ((with_reducible show wpList _ _ _ (⟨some 33, _, _, _, _, _⟩ :: _) _ _); refine wpList_load_hashAt (op := ⟨some 33, _, _, _, _, _⟩) rfl _ rfl bP (oP' + i * 32) rfl h H32.out HRP.out ?_) | ((with_reducible show wpList _ _ _ (⟨none, .store 23 (.tmp 12) (.tmp 33), _, _, _, _⟩ :: _) _ _); change wpList _ _ _ _ _ (World.alloc w (.cells zero32 23)); refine wpList_put_hash (o := ⟨none, .store _ _ _, _, _, _, _⟩) rfl _ _ rfl w.heap.size rfl h H32.out rfl _ _ X0.out zero32_size ?_))
          refine bodyPost_ret (results_hash rfl _ _ _ _ _ _ rfl H32.out (hset_heap _ X0.out)) rfl ⟨rfl, hset_below _ b0 (Nat.le_refl _)⟩
    · have hnot := fun (i : Nat) (x : Nat × Nat) hx => Many.asked_not (N := N) he i x hx
      have HNOT := Lib.hid hnot; clear hnot
      by_cases h2 : 2 ≤ n
      · have k1 := Tree.half_pos h2
        have k2 := Tree.half_lt h2
        have hhc := fun (w : World) => refHalf_nat w n (by omega)
        have hval : mtopV B X P D.length (Many.inr B 0 f).length f n = _ := Many.val_two he h2
        have hil := fun (w1 : World) => ih (Tree.half n) k2 f D _ w1 (hLoc.left he h2)
        have hir := fun (w1 : World) => ih (n - Tree.half n) (by omega) (f + Tree.half n) _ R w1 (hLoc.right he h2)
        have hjs := Many.inr_len_split hB (show f ≤ f + Tree.half n by omega)
        clear ih
        obtain ⟨h, hh⟩ : ∃ h, h = Tree.half n := ⟨_, rfl⟩
        rw [← hh] at k1 k2 hval hjs
        simp only [← hh] at hhc hil hir
        rw [← hjs, ← List.length_append] at hval
        clear hh
        have hLc := fun (w1 : World) (b1 : Below w.heap.size w w1) => hil w1 (by omega) (HA.out.below (Nat.le_refl _) b1) (HX.out.below (Nat.le_refl _) b1) (HQ.out.below b1) (HP.out.below (Nat.le_refl _) b1)
        have hRc := fun (w1 : World) (b1 : Below w.heap.size w w1) => hir w1 (by omega) (HA.out.below (Nat.le_refl _) b1) (HX.out.below (Nat.le_refl _) b1) (HQ.out.below b1) (HP.out.below (Nat.le_refl _) b1)
        clear hil hir
        obtain ⟨SL, hSL⟩ : ∃ SL, SL = mtopV B X P D.length (Many.inr B 0 f).length f h := ⟨_, rfl⟩
        obtain ⟨SR, hSR⟩ : ∃ SR, SR = mtopV B X P (D ++ Many.tops B f h).length (Many.inr B 0 (f + h)).length (f + h) (n - h) := ⟨_, rfl⟩
        have hSLl : SL.length = 32 := by rw [hSL]; exact mtopV_len HP.out.2 _ _ _ _
        have hSRl : SR.length = 32 := by rw [hSR]; exact mtopV_len HP.out.2 _ _ _ _
        have hval2 : mtopV B X P D.length (Many.inr B 0 f).length f n = Tree.node SL SR := by rw [hval, hSL, hSR]; rfl
        simp only [← hSL] at hLc
        simp only [← hSR] at hRc
        rw [hval2]
        have HSL := Lib.hid hSLl; clear hSLl
        have HSR := Lib.hid hSRl; clear hSRl
        have HHC := Lib.hid hhc; clear hhc
        have HLC := Lib.hid hLc; clear hLc
        have HRC := Lib.hid hRc; clear hRc
        clear hval hval2 hjs hSL hSR he hLoc
        have t1n : ((n : Int) == 1) = false := by rw [beq_eq_false_iff_ne]; omega
        have t1n' : (n == 1) = false := by rw [beq_eq_false_iff_ne]; omega
        have e1 : ((f : Int) + (h : Int)) = ((f + h : Nat) : Int) := by omega
        have e2 : ((n : Int) - (h : Int)) = ((n - h : Nat) : Int) := by omega
        have E1 := Lib.hid e1; clear e1
        have E2 := Lib.hid e2; clear e2
        have hhn : (h : Int) ≤ (n : Int) := by omega
        clear hlen hQl hXl hAl hPl hXB hPQ
        go_enter Tryd.func52, Tryd.ntmps52
        go_wp2_with fail
        go_loop [13] (fun v => ∃ i : Nat, i ≤ nQ ∧ v = .int .i64 (i : Int)) (fun v => nQ - (intOf v).toNat)
        case atStart => exact ⟨0, by omega, rfl⟩
        case round =>
          obtain ⟨i, hi, rfl⟩ := hrel
          by_cases hlt : i < nQ
          · obtain ⟨x, hx⟩ : ∃ x, (Many.tops B 0 N)[i]? = some x := ⟨_, List.getElem?_eq_getElem (by rw [HQL.out]; omega)⟩
            obtain ⟨gp, hgp, hrg⟩ := (HQ.out.below b0).range hx
            have hne := HNOT.out i x hx
            obtain ⟨xa, xb⟩ := x
            simp only at hrg
            have hte := pair_ne hne
            have HR := Lib.hid hrg; clear hrg
            have HT := Lib.hid hte; clear hte hx hne
            subst hgp
            have t1 : decide ((i : Int) < (nQ : Int)) = true := decide_eq_true (by omega)
            have t1' : decide (i < nQ) = true := decide_eq_true (by omega)
            have hiq : (i : Int) < (nQ : Int) := by omega
            go_wp2_with (first | ((with_reducible show wpList _ _ _ (⟨some 25, _, _, _, _, _⟩ :: _) _ _); refine wpList_load_mid (op := ⟨some 25, _, _, _, _, _⟩) rfl 68 _ rfl gp (i * 2) rfl [.int .i64 (xa : Int), .int .i64 (xb : Int)] _ HR.out Tryd.under_pair rfl (by kernel_rfl) ?_) | ((with_reducible show wpList _ _ _ (⟨some 29, _, _, _, _, _⟩ :: _) _ _); refine wpList_eql_pair (op := ⟨some 29, _, _, _, _, _⟩) (by kernel_rfl) _ _ rfl (xa : Int) (xb : Int) (f : Int) (n : Int) rfl rfl ?_; rw [HT.out]))
            go_round
            case rel => exact ⟨i + 1, by omega, by go_num⟩
            case measure => simp [intOf]; omega
          · obtain rfl : i = nQ := by omega
            have t1 : decide ((i : Int) < (i : Int)) = false := decide_eq_false (by omega)
            have t1' : decide (i < i) = false := decide_eq_false (by omega)
            go_wp2_with fail
            refine (HHC.out _).mono ?_
            rintro e w' ⟨rfl, rfl⟩
            have hc := HLC.out _ b0
            have HC := Lib.hid hc; clear hc HLC HHC
            go_wp2_with fail
            refine HC.out.mono ?_
            rintro e w2 ⟨rfl, b2⟩
            clear HC
            have B2 := b0.trans (b2.mono b0.size)
            have x2 := (b2.block _ (lt_of_block X0.out)).trans X0.out
            have hc := HRC.out w2 B2
            have HC := Lib.hid hc; clear hc HRC
            go_wp2_with fail
            rw [E1.out, E2.out]
            refine HC.out.mono ?_
            rintro e w3 ⟨rfl, b3⟩
            clear HC
            have B3 := B2.trans (b3.mono B2.size)
            have x3 := (b3.block _ (lt_of_block x2)).trans x2
            have hc := refNode_any w3 SL SR HSL.out HSR.out
            have HC := Lib.hid hc; clear hc
            go_wp2_with fail
            refine HC.out.mono ?_
            rintro e w4 ⟨rfl, b4⟩
            have B4 := B3.trans (b4.mono B3.size)
            have x4 := (b4.block _ (lt_of_block x3)).trans x3
            have X4 := Lib.hid x4; clear x4 x3 x2
            have HNL := Lib.hid (Tree.node_len SL SR)
            go_wp2_with ((with_reducible show wpList _ _ _ (⟨none, .store 23 (.tmp 12) (.tmp 73), _, _, _, _⟩ :: _) _ _); refine wpList_put_hash (o := ⟨none, .store _ _ _, _, _, _, _⟩) rfl _ _ rfl w.heap.size rfl (Tree.node SL SR) HNL.out rfl _ _ X4.out zero32_size ?_)
            refine bodyPost_ret (results_hash rfl _ _ _ _ _ _ rfl HNL.out (hset_heap _ X4.out)) rfl ⟨rfl, hset_below _ B4 (Nat.le_refl _)⟩
      · obtain rfl : n = 1 := by
          rcases n with _ | _ | n
          · exact absurd (Many.inr_empty B (by omega)) he
          · rfl
          · omega
        obtain ⟨g1, g2⟩ := Many.leaf_at hB he
        have hv : mtopV B X P D.length (Many.inr B 0 f).length f 1 = Tree.leaf ((X[(Many.inr B 0 f).length]?).getD []) := Many.val_one he h2
        obtain ⟨k, hk⟩ : ∃ k, k = (Many.inr B 0 f).length := ⟨_, rfl⟩
        rw [← hk] at g1 g2 hv ⊢
        clear hk
        have hkB : k < mA := by have := (List.getElem?_eq_some_iff.1 g1).1; omega
        obtain ⟨l, hl⟩ : ∃ l, X[k]? = some l := ⟨_, List.getElem?_eq_getElem (by omega)⟩
        rw [hl] at hv
        rw [hv]
        simp only [Option.getD_some]
        have hl1 := HLE.out l (List.mem_of_getElem? hl)
        have hkX : k < mX := by omega
        obtain ⟨bX, oX', rfl⟩ := HX.out.form (by omega)
        obtain ⟨bA, oA', rfl⟩ := HA.out.form (by omega)
        have hcl : ∀ o' : Obj, (w.alloc o').cell? ⟨bX, oX' + k, none⟩ = some (.string (strOf l)) := fun o' => (HX.out.below (Nat.le_refl _) ((Below.refl w.heap.size w).alloc (Nat.le_refl _) o')).get hl
        have HCL := Lib.hid hcl; clear hcl hl
        have hgA : ∀ (t a : Nat), B[t]? = some a → ∀ o' : Obj, (w.alloc o').cell? ⟨bA, oA' + t, none⟩ = some (.int .i64 (a : Int)) := fun t a ht o' => (HA.out.below (Nat.le_refl _) ((Below.refl w.heap.size w).alloc (Nat.le_refl _) o')).get (i := t) (a := (a : Int)) (by rw [List.getElem?_map, ht]; rfl)
        have HGA := Lib.hid hgA; clear hgA
        have G1 := Lib.hid g1; clear g1
        have G2 := Lib.hid g2; clear g2
        have HBL : Hid (B.length = mA) := Lib.hid hAl
        clear hv he hLoc ih hlen hQl hXl hAl hPl hXB hPQ h2
        go_enter Tryd.func52, Tryd.ntmps52
        go_wp2_with fail
        go_loop [13] (fun v => ∃ i : Nat, i ≤ nQ ∧ v = .int .i64 (i : Int)) (fun v => nQ - (intOf v).toNat)
        case atStart => exact ⟨0, by omega, rfl⟩
        case round =>
          obtain ⟨i, hi, rfl⟩ := hrel
          by_cases hlt : i < nQ
          · obtain ⟨x, hx⟩ : ∃ x, (Many.tops B 0 N)[i]? = some x := ⟨_, List.getElem?_eq_getElem (by rw [HQL.out]; omega)⟩
            obtain ⟨gp, hgp, hrg⟩ := (HQ.out.below b0).range hx
            have hne := HNOT.out i x hx
            obtain ⟨xa, xb⟩ := x
            simp only at hrg
            have hte := pair_ne hne
            have HR := Lib.hid hrg; clear hrg
            have HT := Lib.hid hte; clear hte hx hne
            subst hgp
            have t1 : decide ((i : Int) < (nQ : Int)) = true := decide_eq_true (by omega)
            have t1' : decide (i < nQ) = true := decide_eq_true (by omega)
            have hiq : (i : Int) < (nQ : Int) := by omega
            go_wp2_with (first | ((with_reducible show wpList _ _ _ (⟨some 25, _, _, _, _, _⟩ :: _) _ _); refine wpList_load_mid (op := ⟨some 25, _, _, _, _, _⟩) rfl 68 _ rfl gp (i * 2) rfl [.int .i64 (xa : Int), .int .i64 (xb : Int)] _ HR.out Tryd.under_pair rfl (by kernel_rfl) ?_) | ((with_reducible show wpList _ _ _ (⟨some 29, _, _, _, _, _⟩ :: _) _ _); refine wpList_eql_pair (op := ⟨some 29, _, _, _, _, _⟩) (by kernel_rfl) _ _ rfl (xa : Int) (xb : Int) (f : Int) ((1 : Nat) : Int) rfl rfl ?_; rw [HT.out]))
            go_round
            case rel => exact ⟨i + 1, by omega, by go_num⟩
            case measure => simp [intOf]; omega
          · obtain rfl : i = nQ := by omega
            have t1 : decide ((i : Int) < (i : Int)) = false := decide_eq_false (by omega)
            have t1' : decide (i < i) = false := decide_eq_false (by omega)
            go_wp2_with fail
            go_loop [14] (fun v => ∃ t : Nat, t ≤ k ∧ v = .int .i64 (t : Int)) (fun v => k - (intOf v).toNat)
            case atStart => exact ⟨0, by omega, rfl⟩
            case round =>
              obtain ⟨t, ht, rfl⟩ := hrel
              have u1 : decide ((t : Int) < (mA : Int)) = true := decide_eq_true (by omega)
              have u1' : decide (t < mA) = true := decide_eq_true (by omega)
              have htm : (t : Int) < (mA : Int) := by omega
              by_cases hlt : t < k
              · obtain ⟨a, ha⟩ : ∃ a, B[t]? = some a := ⟨_, List.getElem?_eq_getElem (by rw [HBL.out]; omega)⟩
                have hne := G2.out t a hlt ha
                have hca := HGA.out t a ha
                have u2 : ((a : Int) == (f : Int)) = false := by rw [beq_eq_false_iff_ne]; omega
                have u2' : (a == f) = false := by rw [beq_eq_false_iff_ne]; exact hne
                clear ha hne
                go_wp2_with fail
                go_round
                case rel => exact ⟨t + 1, by omega, by go_num⟩
                case measure => simp [intOf]; omega
              · obtain rfl : t = k := by omega
                have hca := HGA.out t f G1.out
                have hcl := HCL.out
                have htx : (t : Int) < (mX : Int) := by omega
                have hlf := refLeaf_any (w.alloc (.cells zero32 23)) l hl1
                have HLF := Lib.hid hlf; clear hlf
                go_wp2_with fail
                refine HLF.out.mono ?_
                rintro e w2 ⟨rfl, b2⟩
                have B2 := b0.trans (b2.mono b0.size)
                have x2 := (b2.block _ (lt_of_block X0.out)).trans X0.out
                have X2 := Lib.hid x2; clear x2 hca hcl
                have HNL := Lib.hid (Tree.leaf_len l)
                go_wp2_with ((with_reducible show wpList _ _ _ (⟨none, .store 23 (.tmp 12) (.tmp 52), _, _, _, _⟩ :: _) _ _); refine wpList_put_hash (o := ⟨none, .store _ _ _, _, _, _, _⟩) rfl _ _ rfl w.heap.size rfl (Tree.leaf l) HNL.out rfl _ _ X2.out zero32_size ?_)
                refine bodyPost_ret (results_hash rfl _ _ _ _ _ _ rfl HNL.out (hset_heap _ X2.out)) rfl ⟨rfl, hset_below _ B2 (Nat.le_refl _)⟩

end Go.Proofs.YtgheacegjgaobaaDoor
