/- The walk of the law StateSplits. -/
import Derived.Test.YtaihojahccplcaaDoorKG6b
import Derived.Test.YtaihojahccplcaaDoorKG0a
namespace Go.Proofs.YtaihojahccplcaaDoor
open Go.RowKit
set_option linter.unusedSimpArgs false
set_option linter.unusedVariables false

theorem own_step {f : St.V → Int} {w : Int} {L : List St.V} {i : Nat} {x y : St.V} (hx : L[i]? = some x) (hy : (St.own f w L)[(St.own f w (L.take i)).length]? = some y) : decide (x = y) = (f x == w) := by
  rcases h : (f x == w) with _ | _
  · rw [decide_eq_false_iff_not]
    intro he
    subst he
    have hm := List.mem_of_getElem? hy
    unfold St.own at hm
    rw [List.mem_filter] at hm
    rw [h] at hm
    cases hm.2
  · have := St.own_next f w hx h
    rw [this] at hy
    rw [decide_eq_true_eq]
    exact Option.some.inj hy

theorem own_take_le (f : St.V → Int) (w : Int) (L : List St.V) (i : Nat) : (St.own f w (L.take i)).length ≤ (St.own f w L).length := by
  unfold St.own
  have h := List.filter_append (p := fun x => f x == w) (L.take i) (L.drop i)
  rw [List.take_append_drop] at h
  rw [h, List.length_append]; omega

theorem below_le (f : St.V → Int) (L : List St.V) (w : Nat) : St.below f L w ≤ L.length := List.length_filter_le _ _

/-- What the region's operations leave. -/
def splV (b off n cap i bq oq m c k8 : Nat) (x y : St.V) (r : Bool) (ix : Nat) (w : World) (v : Value) : Prop :=
  match ix with
  | 0 => v = .slice (some ⟨b, off, none⟩) n cap
  | 1 => v = .int .i64 ((i : Int))
  | 2 => v = .pointer (some ⟨b, off + i * 5, none⟩)
  | 3 => v = .agg (VertexV.cells x).toArray
  | 4 => v = .slice (some ⟨bq, oq, none⟩) m c
  | 5 => v = .int .i64 ((k8 : Int))
  | 6 => v = .pointer (some ⟨bq, oq + k8 * 5, none⟩)
  | 7 => v = .agg (VertexV.cells y).toArray
  | 8 => v = .bool r
  | _ => True

theorem splV_mono (b off n cap i bq oq m c k8 : Nat) (x y : St.V) (r : Bool) (jx : Nat) (w w' : World) (v : Value) (hb : Below w.heap.size w w') (h : splV b off n cap i bq oq m c k8 x y r jx w v) : splV b off n cap i bq oq m c k8 x y r jx w' v := by
  match jx, h with
  | 0, h => exact h
  | 1, h => exact h
  | 2, h => exact h
  | 3, h => exact h
  | 4, h => exact h
  | 5, h => exact h
  | 6, h => exact h
  | 7, h => exact h
  | 8, h => exact h
  | _ + 9, h => exact trivial

set_option maxRecDepth 100000 in
set_option maxHeartbeats 8000000 in
theorem ssplits_law (w : World) (o : Option Addr) (n cap : Nat) (L : List St.V) (hS0 : RowsAt w o n cap 5 VertexV.cells L) (hok : ∀ f ∈ L, f.ok) (k : Int) (hk : (Lit.int .i64 k).wf = true) (hL : Laid w) :
    Calls Tryd.prog 7 #[.slice o n cap, .int .i64 k] w fun e w' => e = .returned (.bool true) ∧ Below w.heap.size w w' := by
  have hS : VsAt w o n cap L := hS0
  clear hS0 hok
  have hkb := bounds_i64 hk
  have hlen := hS.len
  have hcap := hS.cap
  have hmax := hS.max
  have HS := Lib.hid hS; clear hS
  have HLEN := Lib.hid hlen; clear hlen
  have HL := Lib.hid hL; clear hL
  go_enter Tryd.func7, Tryd.ntmps7
  go_wp2_with fail
  refine (awake10_any w HL.out).mono ?_
  rintro e w1 ⟨rfl, b1⟩
  have HL1 := Lib.hid (HL.out.below b1)
  have HS1 := Lib.hid (HS.out.below (Nat.le_refl _) b1)
  by_cases h30 : 30 < n
  · have t1 : decide ((30 : Int) < (n : Int)) = true := decide_eq_true (by omega)
    have t1' : decide (30 < n) = true := decide_eq_true h30
    go_wp2_with fail
    refine (awake10_any _ HL1.out).mono ?_
    rintro e w2 ⟨rfl, b2⟩
    go_wp2_with fail
    go_ret
    exact ⟨rfl, b1.trans (b2.mono b1.size)⟩
  · have t1 : decide ((30 : Int) < (n : Int)) = false := decide_eq_false (by omega)
    have t1' : decide (30 < n) = false := decide_eq_false h30
    by_cases h1 : k < 1
    · have t2 : decide (k < 1) = true := decide_eq_true h1
      go_wp2_with fail
      refine (awake10_any _ HL1.out).mono ?_
      rintro e w2 ⟨rfl, b2⟩
      go_wp2_with fail
      go_ret
      exact ⟨rfl, b1.trans (b2.mono b1.size)⟩
    · have t2 : decide (k < 1) = false := decide_eq_false h1
      by_cases h64 : 64 < k
      · have t3 : decide (64 < k) = true := decide_eq_true h64
        go_wp2_with fail
        refine (awake10_any _ HL1.out).mono ?_
        rintro e w2 ⟨rfl, b2⟩
        go_wp2_with fail
        go_ret
        exact ⟨rfl, b1.trans (b2.mono b1.size)⟩
      · have t3 : decide (64 < k) = false := decide_eq_false h64
        obtain ⟨K, rfl⟩ : ∃ K : Nat, k = (K : Int) := ⟨k.toNat, by omega⟩
        obtain ⟨f, hf⟩ : ∃ f : St.V → Int, f = fun x => ownerV (K : Int) x.id := ⟨_, rfl⟩
        have hall := St.all_each f L K (fun x _ hx => by rw [hf]; show ownerV (K : Int) x.id < 0; rw [ownerV_neg hx]; decide) (fun x _ hx => by rw [hf]; exact ownerV_range (by omega) (by omega) hx)
        have HALL := Lib.hid hall; clear hall
        have HF := Lib.hid hf; clear hf
        go_wp2_with fail
        go_loopw [5, 6] (fun v u wr => ∃ W : Nat, W ≤ K ∧ v = .int .i64 ((St.below f L W : Nat) : Int) ∧ u = .int .i64 (W : Int) ∧ Below w1.heap.size w1 wr) (fun _ u _ => K - (intOf u).toNat)
        case atStart => exact ⟨0, by omega, by rw [St.below_zero]; rfl, rfl, Below.refl _ _⟩
        case round =>
          obtain ⟨W, hW, rfl, rfl, Bw⟩ := hrel
          obtain ⟨wo, rfl⟩ : ∃ wo : World, wo = wr := ⟨_, rfl⟩
          by_cases hlW : W < K
          · have t4 : decide ((W : Int) < (K : Int)) = true := decide_eq_true (by omega)
            have t4' : decide (W < K) = true := decide_eq_true hlW
            have hble := below_le f L W
            have hsucc := St.below_succ f L W
            have hole := St.own_le f (W : Int) L
            rw [HLEN.out] at hble hole
            obtain ⟨N, hN⟩ : ∃ N, N = St.below f L W := ⟨_, rfl⟩
            rw [← hN] at hble hsucc ⊢
            have HSW := Lib.hid (HS1.out.below (Nat.le_refl _) Bw)
            obtain ⟨q3, c3, v3, hrun, hs3, dd⟩ := VsAt.copy (HSW.out.below (Nat.le_refl _) ((Below.refl wo.heap.size wo).alloc (Nat.le_refl _) (.cells #[] 36))) (by omega) ⟨wo.heap.size, 0, none⟩
            have d3 : Below wo.heap.size wo v3 := ((Below.refl _ _).alloc (Nat.le_refl _) _).trans (dd.mono (by simp))
            have B3 := Bw.trans (d3.mono Bw.size)
            have hsc := hs3.cap
            have hsm := hs3.max
            have hown := stOwn_any v3 (some q3) n c3 L hs3 (by omega) (K : Int) (W : Int)
            rw [← HF.out] at hown
            have HOW := Lib.hid hown; clear hown dd hs3
            obtain ⟨m, hm⟩ : ∃ m, m = (St.own f (W : Int) L).length := ⟨_, rfl⟩
            rw [← hm] at HOW hole hsucc
            have HSUC := Lib.hid hsucc; clear hsucc
            go_wp2_with ((with_reducible show wpList _ _ _ (⟨some 35, _, _, _, _, _⟩ :: _) _ _); refine wpList_append_ran (by kernel_rfl) _ _ _ rfl _ _ rfl rfl hrun ?_)
            refine HOW.out.mono ?_
            rintro e v4 ⟨q, c, rfl, hs4, d4⟩
            have B4 := B3.trans (d4.mono B3.size)
            have hqc := hs4.cap
            have hqm := hs4.max
            have H4 := Lib.hid hs4; clear hs4 HOW hrun
            have HM := Lib.hid hm; clear hm
            have HS4 := Lib.hid (HS1.out.below (Nat.le_refl _) B4)
            go_wp2_with fail
            go_loopw [8, 9] (fun v u wr => ∃ i k8 : Nat, i ≤ n ∧ v = .int .i64 (k8 : Int) ∧ u = .int .i64 (i : Int) ∧ Hid (k8 = (St.own f (W : Int) (L.take i)).length) ∧ Below v4.heap.size v4 wr) (fun _ u _ => n - (intOf u).toNat)
            case atStart => exact ⟨0, 0, by omega, rfl, rfl, Lib.hid rfl, Below.refl _ _⟩
            case round =>
              obtain ⟨i, k8, hi, rfl, rfl, HK8, Bi⟩ := hrel
              have hk8 : k8 ≤ m := by rw [HK8.out, HM.out]; exact own_take_le _ _ _ _
              have BE := B4.trans (Bi.mono B4.size)
              by_cases hlt : i < n
              · have t5 : decide ((i : Int) < (n : Int)) = true := decide_eq_true (by omega)
                have t5' : decide (i < n) = true := decide_eq_true hlt
                by_cases hlm : k8 < m
                · have t6 : decide ((k8 : Int) < (m : Int)) = true := decide_eq_true (by omega)
                  have t6' : decide (k8 < m) = true := decide_eq_true hlm
                  obtain ⟨b, off, rfl⟩ := HS4.out.form (by omega)
                  obtain ⟨bq, oq, rfl⟩ := H4.out.form (by omega)
                  obtain ⟨x, hx⟩ : ∃ x, L[i]? = some x := ⟨_, List.getElem?_eq_getElem (by rw [HLEN.out]; exact hlt)⟩
                  obtain ⟨y, hy⟩ : ∃ y, (St.own f (W : Int) L)[k8]? = some y := ⟨_, List.getElem?_eq_getElem (by rw [← HM.out]; exact hlm)⟩
                  have hst := own_step hx (by rw [← HK8.out]; exact hy)
                  have hsu := St.own_snoc f (W : Int) (L.take i) x
                  rw [← St.take_snoc' hx] at hsu
                  obtain ⟨r, hr⟩ : ∃ r, r = (f x == (W : Int)) := ⟨_, rfl⟩
                  rw [← hr] at hst hsu
                  have HRQ := Lib.hid hst; clear hst
                  have HSU := Lib.hid hsu; clear hsu
                  have hxr := HS4.out.get hx
                  have hyr := H4.out.get hy
                  have HXR : Hid (b < wr.heap.size ∧ wr.rangeAt b (off + i * 5) (VertexV.cells x)) := Lib.hid ⟨Nat.lt_of_lt_of_le hxr.1 Bi.size, range_under hxr.2 hxr.1 Bi⟩
                  have HYR : Hid (bq < wr.heap.size ∧ wr.rangeAt bq (oq + k8 * 5) (VertexV.cells y)) := Lib.hid ⟨Nat.lt_of_lt_of_le hyr.1 Bi.size, range_under hyr.2 hyr.1 Bi⟩
                  clear hxr hyr hx hy hr
                  go_wp2_with fail
                  refine wp_region_rel [[], [], [0, 1], [2], [], [], [4, 5], [6], [3, 7]] (splV b off n cap i bq oq m c k8 x y r) 90 (by kernel_rfl) (by kernel_rfl) (by kernel_rfl) (splV_mono b off n cap i bq oq m c k8 x y r) ?_ ?_
                  · intro ix op hi w2 b2 vs hv
                    have him : ix < 9 := (List.getElem?_eq_some_iff.1 hi).1
                    have hin := hlt
                    match ix, him, hi with
                    | 0, _, hi =>
                      obtain rfl := Option.some.inj hi
                      simp only [relF, List.getD_cons_zero, List.getD_cons_succ, List.foldl_cons, List.foldl_nil, dstAt, List.getElem?_cons_zero, List.getElem?_cons_succ, Option.bind_some]
                      go_wp2_with fail
                      exact ⟨rfl, Below.refl _ _, rfl, rfl⟩
                    | 1, _, hi =>
                      obtain rfl := Option.some.inj hi
                      simp only [relF, List.getD_cons_zero, List.getD_cons_succ, List.foldl_cons, List.foldl_nil, dstAt, List.getElem?_cons_zero, List.getElem?_cons_succ, Option.bind_some]
                      go_wp2_with fail
                      exact ⟨rfl, Below.refl _ _, rfl, rfl⟩
                    | 2, _, hi =>
                      obtain rfl := Option.some.inj hi
                      have h0 : vs 0 = _ := hv 0 (by decide)
                      have h1 : vs 1 = _ := hv 1 (by decide)
                      simp only [relF, List.getD_cons_zero, List.getD_cons_succ, List.foldl_cons, List.foldl_nil, dstAt, List.getElem?_cons_zero, List.getElem?_cons_succ, Option.bind_some]
                      go_frame
                      rw [h0, h1]
                      go_wp2_with fail
                      exact ⟨rfl, Below.refl _ _, rfl, rfl⟩
                    | 3, _, hi =>
                      obtain rfl := Option.some.inj hi
                      have h2 : vs 2 = _ := hv 2 (by decide)
                      simp only [relF, List.getD_cons_zero, List.getD_cons_succ, List.foldl_cons, List.foldl_nil, dstAt, List.getElem?_cons_zero, List.getElem?_cons_succ, Option.bind_some]
                      go_frame
                      rw [h2]
                      go_wp2_with ((with_reducible show wpList _ _ _ (⟨some 58, _, _, _, _, _⟩ :: _) _ _); refine wpList_load_vRow (op := ⟨some 58, _, _, _, _, _⟩) (by kernel_rfl) _ rfl (b) (off + i * 5) (by first | rfl | (simp; done)) x (range_under HXR.out.2 HXR.out.1 b2) ?_)
                      exact ⟨rfl, Below.refl _ _, rfl, rfl⟩
                    | 4, _, hi =>
                      obtain rfl := Option.some.inj hi
                      simp only [relF, List.getD_cons_zero, List.getD_cons_succ, List.foldl_cons, List.foldl_nil, dstAt, List.getElem?_cons_zero, List.getElem?_cons_succ, Option.bind_some]
                      go_wp2_with fail
                      exact ⟨rfl, Below.refl _ _, rfl, rfl⟩
                    | 5, _, hi =>
                      obtain rfl := Option.some.inj hi
                      simp only [relF, List.getD_cons_zero, List.getD_cons_succ, List.foldl_cons, List.foldl_nil, dstAt, List.getElem?_cons_zero, List.getElem?_cons_succ, Option.bind_some]
                      go_wp2_with fail
                      exact ⟨rfl, Below.refl _ _, rfl, rfl⟩
                    | 6, _, hi =>
                      obtain rfl := Option.some.inj hi
                      have h4 : vs 4 = _ := hv 4 (by decide)
                      have h5 : vs 5 = _ := hv 5 (by decide)
                      simp only [relF, List.getD_cons_zero, List.getD_cons_succ, List.foldl_cons, List.foldl_nil, dstAt, List.getElem?_cons_zero, List.getElem?_cons_succ, Option.bind_some]
                      go_frame
                      rw [h4, h5]
                      go_wp2_with fail
                      exact ⟨rfl, Below.refl _ _, rfl, rfl⟩
                    | 7, _, hi =>
                      obtain rfl := Option.some.inj hi
                      have h6 : vs 6 = _ := hv 6 (by decide)
                      simp only [relF, List.getD_cons_zero, List.getD_cons_succ, List.foldl_cons, List.foldl_nil, dstAt, List.getElem?_cons_zero, List.getElem?_cons_succ, Option.bind_some]
                      go_frame
                      rw [h6]
                      go_wp2_with ((with_reducible show wpList _ _ _ (⟨some 62, _, _, _, _, _⟩ :: _) _ _); refine wpList_load_vRow (op := ⟨some 62, _, _, _, _, _⟩) (by kernel_rfl) _ rfl (bq) (oq + k8 * 5) (by first | rfl | (simp; done)) y (range_under HYR.out.2 HYR.out.1 b2) ?_)
                      exact ⟨rfl, Below.refl _ _, rfl, rfl⟩
                    | 8, _, hi =>
                      obtain rfl := Option.some.inj hi
                      have h3 : vs 3 = _ := hv 3 (by decide)
                      have h7 : vs 7 = _ := hv 7 (by decide)
                      have hrq := HRQ.out
                      simp only [relF, List.getD_cons_zero, List.getD_cons_succ, List.foldl_cons, List.foldl_nil, dstAt, List.getElem?_cons_zero, List.getElem?_cons_succ, Option.bind_some]
                      go_frame
                      rw [h3, h7]
                      go_wp2_with ((with_reducible show wpList _ _ _ (⟨some 63, _, _, _, _, _⟩ :: _) _ _); refine wpList_eql_vx (op := ⟨some 63, _, _, _, _, _⟩) (by kernel_rfl) _ _ rfl x y rfl rfl ?_; rw [hrq])
                      exact ⟨rfl, Below.refl _ _, rfl, rfl⟩
                    | nx + 9, him, _ => exact absurd him (by omega)
                  · intro w2 b2 vs hv
                    have hin := hlt
                    have h8 : vs 8 = _ := hv 8 (by decide)
                    simp only [relF, List.drop_succ_cons, List.drop_zero, List.length_cons, List.length_nil, Nat.zero_add, Nat.reduceAdd, List.range, List.range.loop, List.foldl_cons, List.foldl_nil, dstAt, List.getElem?_cons_zero, List.getElem?_cons_succ, Option.bind_some]
                    go_frame
                    rw [h8]
                    have B2' := Bi.trans (b2.mono Bi.size)
                    cases r with
                    | false =>
                      rw [if_neg (by decide), List.append_nil] at HSU
                      go_wp2_with fail
                      go_roundw
                      case rel => exact ⟨i + 1, k8, by omega, rfl, by go_num, by rw [HSU.out]; exact HK8, B2'⟩
                      case measure => simp [intOf]; omega
                    | true =>
                      rw [if_pos rfl] at HSU
                      have hk8 : k8 + 1 = (St.own f (W : Int) (L.take (i + 1))).length := by rw [HSU.out, List.length_append, ← HK8.out]; rfl
                      have HK9 := Lib.hid hk8; clear hk8
                      go_wp2_with fail
                      go_roundw
                      case rel => exact ⟨i + 1, k8 + 1, by omega, by go_num, by go_num, HK9, B2'⟩
                      case measure => simp [intOf]; omega
                · have t6 : decide ((k8 : Int) < (m : Int)) = false := decide_eq_false (by omega)
                  have t6' : decide (k8 < m) = false := decide_eq_false hlm
                  have hN2 : N + m ≤ 60 := by omega
                  go_wp2_with fail
                  go_roundw
                  case rel => exact ⟨W + 1, by omega, by rw [HSUC.out]; go_num, by go_num, BE⟩
                  case measure => simp [intOf]; omega
              · have t5 : decide ((i : Int) < (n : Int)) = false := decide_eq_false (by omega)
                have t5' : decide (i < n) = false := decide_eq_false hlt
                have hkm : k8 = m := by rw [HK8.out, HM.out, List.take_of_length_le (by rw [HLEN.out]; omega)]
                have t6 : decide ((k8 : Int) < (m : Int)) = false := decide_eq_false (by omega)
                have t6' : decide (k8 < m) = false := decide_eq_false (by omega)
                go_wp2_with fail
                go_roundw
                case rel => exact ⟨W + 1, by omega, by rw [HSUC.out]; go_num, by go_num, BE⟩
                case measure => simp [intOf]; omega
          · have t4 : decide ((W : Int) < (K : Int)) = false := decide_eq_false (by omega)
            have t4' : decide (W < K) = false := decide_eq_false hlW
            obtain rfl : W = K := by omega
            have hall := HALL.out
            rw [HLEN.out] at hall
            obtain ⟨N, hN⟩ : ∃ N, N = St.below f L W := ⟨_, rfl⟩
            rw [← hN] at hall ⊢
            obtain ⟨D, hD⟩ : ∃ D, D = St.odd L := ⟨_, rfl⟩
            rw [← hD] at hall
            have HD := Lib.hid hD; clear hD
            clear hN HALL
            go_wp2_with fail
            go_loopw [10, 11] (fun v u wr => ∃ i k8 : Nat, i ≤ n ∧ v = .int .i64 (k8 : Int) ∧ u = .int .i64 (i : Int) ∧ Hid (k8 = St.odd (L.take i)) ∧ wo = wr) (fun _ u _ => n - (intOf u).toNat)
            case atStart => exact ⟨0, 0, by omega, rfl, rfl, Lib.hid rfl, rfl⟩
            case round =>
              obtain ⟨i, k8, hi, rfl, rfl, HK8, rfl⟩ := hrel
              by_cases hlt : i < n
              · have t5 : decide ((i : Int) < (n : Int)) = true := decide_eq_true (by omega)
                have t5' : decide (i < n) = true := decide_eq_true hlt
                have HSW := HS1.out.below (Nat.le_refl _) Bw
                obtain ⟨b, off, rfl⟩ := HSW.form (by omega)
                obtain ⟨x, hx⟩ : ∃ x, L[i]? = some x := ⟨_, List.getElem?_eq_getElem (by rw [HLEN.out]; exact hlt)⟩
                have hc0 : wo.cell? ⟨b, off + i * 5, none⟩ = some (.int .i64 x.id) := (HSW.get hx).2 0 _ rfl
                have hsu := St.odd_snoc (L.take i) x
                rw [← St.take_snoc' hx] at hsu
                have hkle : k8 ≤ 30 := by rw [HK8.out]; exact Nat.le_trans (St.odd_le _) (by rw [List.length_take]; omega)
                rw [← HK8.out] at hsu
                clear HSW hx
                obtain ⟨z, hz⟩ : ∃ z, z = x.id := ⟨_, rfl⟩
                rw [← hz] at hc0 hsu
                clear hz
                by_cases hneg : z < 0
                · have t6 : decide (z < 0) = true := decide_eq_true hneg
                  rw [if_pos hneg] at hsu
                  have HSU := Lib.hid hsu.symm; clear hsu
                  go_wp2_with fail
                  go_roundw
                  case rel => exact ⟨i + 1, k8 + 1, by omega, by go_num, by go_num, HSU, by first | trivial | rfl⟩
                  case measure => simp [intOf]; omega
                · have t6 : decide (z < 0) = false := decide_eq_false hneg
                  rw [if_neg hneg] at hsu
                  have HSU := Lib.hid hsu.symm; clear hsu
                  go_wp2_with fail
                  go_roundw
                  case rel => exact ⟨i + 1, k8, by omega, rfl, by go_num, HSU, by first | trivial | rfl⟩
                  case measure => simp [intOf]; omega
              · have t5 : decide ((i : Int) < (n : Int)) = false := decide_eq_false (by omega)
                have t5' : decide (i < n) = false := decide_eq_false hlt
                have hkd : k8 = D := by rw [HK8.out, HD.out, List.take_of_length_le (by rw [HLEN.out]; omega)]
                have te : (((N : Int) + (k8 : Int)) == (n : Int)) = true := by rw [beq_iff_eq]; omega
                go_wp2_with fail
                go_ret
                exact ⟨by first | rfl | (simp; omega), b1.trans (Bw.mono b1.size)⟩

end Go.Proofs.YtaihojahccplcaaDoor
