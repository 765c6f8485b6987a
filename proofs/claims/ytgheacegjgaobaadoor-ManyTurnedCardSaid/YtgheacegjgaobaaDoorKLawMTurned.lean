/- The walk of the law ManyTurned. -/
import Derived.Test.YtgheacegjgaobaaDoorKG14a
namespace Go.Proofs.YtgheacegjgaobaaDoor
open Go.RowKit
set_option linter.unusedSimpArgs false
set_option linter.unusedVariables false

theorem rising_len : ∀ (B : List Nat) (lo k : Nat), B.Pairwise (· < ·) → (∀ a ∈ B, lo ≤ a ∧ a < k) → B ≠ [] → lo + B.length ≤ k := by
  intro B
  induction B with
  | nil => intro lo k _ _ h; exact absurd rfl h
  | cons b B ih =>
    intro lo k hp ha _
    have hb := ha b (List.mem_cons_self ..)
    rw [List.pairwise_cons] at hp
    by_cases hB : B = []
    · subst hB; simp; omega
    · have := ih (b + 1) k hp.2 (fun a h => ⟨hp.1 a h, (ha a (List.mem_cons_of_mem _ h)).2⟩) hB
      rw [List.length_cons]; omega

theorem checkI_short {r : List UInt8} {n : Int} {A : List Int} {X P : List (List UInt8)} (h : X.length ≠ A.length) : checkI r n A X P = false := by
  unfold checkI Many.check
  rw [decide_eq_false (by rw [List.length_map]; exact h)]
  simp

/-- A text stored into an own row. -/
theorem StrsAt.own_set {w : World} {base n c : Nat} {q : Option Addr} {d : List (List UInt8)} (hn : d.length = n) (k : Nat) (hk : k < n) (x : List UInt8) (h : w.ownsRow base 9 1 (.slice q n c) n (d.map fun l => Value.string (strOf l))) :
    ∃ g, q = some ⟨g, 0, none⟩ ∧ (∃ u, w.cell? ⟨g, k, none⟩ = some (.string u)) ∧ w.frozen? ⟨g, k, none⟩ = false ∧ base ≤ g ∧ StrsAt (w.setCell ⟨g, k, none⟩ (.string (strOf x))) q n c (d.set k x) := by
  have hcell := fun g hg => h.cells (g := g) hg
  rcases h.2 with ⟨hv, h0⟩ | ⟨g, cap, cur, hv, hb, hg, hnc, hcm, _⟩
  · omega
  · simp only [Value.slice.injEq, true_and] at hv
    obtain ⟨rfl, rfl⟩ := hv
    have hget : ∀ (i : Nat) (p : List UInt8), d[i]? = some p → w.cell? ⟨g, i, none⟩ = some (.string (strOf p)) := by
      intro i p hp
      have := hcell g rfl i (.string (strOf p)) (by simp [hp])
      rw [Addr.add_mid] at this
      simpa using this
    obtain ⟨z, hz⟩ : ∃ z, d[k]? = some z := ⟨_, List.getElem?_eq_getElem (by omega)⟩
    refine ⟨g, rfl, ⟨_, hget k z hz⟩, wfree hg k, hb, by rw [List.length_set]; exact hn, hnc, hcm, fun _ => ⟨g, 0, rfl, by simp [World.setCell]; exact lt_of_block hg, fun i p hp => ?_⟩⟩
    intro j u hu
    match j, hu with
    | 0, hu =>
      obtain rfl := Option.some.inj hu
      suffices hh : (w.setCell ⟨g, k, none⟩ (.string (strOf x))).cell? ⟨g, i, none⟩ = some (.string (strOf p)) by simpa using hh
      by_cases hik : i = k
      · subst hik
        rw [List.getElem?_set_self (by omega)] at hp
        obtain rfl := Option.some.inj hp
        exact World.cell?_setCell_same' w ⟨g, i, none⟩ _ (by rw [hget i z hz]; rfl)
      · rw [List.getElem?_set_ne (fun e => hik e.symm)] at hp
        rw [World.cell?_setCell_other w ⟨g, k, none⟩ ⟨g, i, none⟩ _ (by intro e; cases e; exact hik rfl)]
        exact hget i p hp

/-- What the region's operations leave. -/
def mturV (B1 g oX mK cK mA cA cP cX : Nat) (oK oA qP : Option Addr) (K X : List (List UInt8)) (B : List Nat) (ix : Nat) (w : World) (v : Value) : Prop :=
  match ix with
  | 0 => v = .agg (byteCells (Tree.root mK (Tree.top K))).toArray
  | 1 => v = .slice oK mK cK
  | 2 => v = .int .i64 (mK : Int)
  | 3 => ∃ g : Nat, v = .slice (some ⟨g, 0, none⟩) 0 0
  | 4 => v = .slice oA mA cA
  | 5 => ∃ (q : Addr) (c : Nat), v = .slice (some q) mA c ∧ IntsAt w (some q) mA c (B.map Int.ofNat)
  | 6 => ∃ g : Nat, v = .slice (some ⟨g, 0, none⟩) 0 0
  | 7 => v = .slice (some ⟨g, 0, none⟩) mA cX
  | 8 => ∃ (q : Addr) (c : Nat), v = .slice (some q) mA c ∧ StrsAt w (some q) mA c X
  | 9 => v = .slice qP ((Many.prove K B).length) cP
  | 10 => v = .bool (checkI (Tree.root mK (Tree.top K)) (mK : Int) (B.map Int.ofNat) X (Many.prove K B))
  | 11 => v = .agg (byteCells (Tree.root mK (Tree.top K))).toArray
  | 12 => v = .slice oK mK cK
  | 13 => v = .int .i64 (mK : Int)
  | 14 => v = .slice oA mA cA
  | 15 => v = .slice (some ⟨g, 0, none⟩) mA cX
  | 16 => v = .slice qP ((Many.prove K B).length) cP
  | 17 => v = .bool (checkI (Tree.root mK (Tree.top K)) (mK : Int) (B.map Int.ofNat) X (Many.prove K B))
  | 18 => v = .bool true
  | 19 => v = .bool true
  | 20 => v = .agg (byteCells (Tree.root mK (Tree.top K))).toArray
  | 21 => v = .slice oK mK cK
  | 22 => v = .int .i64 (mK : Int)
  | 23 => ∃ g : Nat, v = .slice (some ⟨g, 0, none⟩) 0 0
  | 24 => v = .slice oA mA cA
  | 25 => ∃ (q : Addr) (c : Nat), v = .slice (some q) mA c ∧ IntsAt w (some q) mA c (B.map Int.ofNat)
  | 26 => v = .slice (some ⟨g, 0, none⟩) mA cX
  | 27 => v = .slice (some ⟨g, 1, none⟩) (mA - 1) (cX - 1)
  | 28 => v = .slice qP ((Many.prove K B).length) cP
  | 29 => v = .bool false
  | 30 => v = .bool true
  | 31 => v = .bool true
  | 32 => v = .bool true
  | _ => True

theorem mturV_mono (B1 g oX mK cK mA cA cP cX : Nat) (oK oA qP : Option Addr) (K X : List (List UInt8)) (B : List Nat) (jx : Nat) (w w' : World) (v : Value) (hb : Below w.heap.size w w') (h : mturV B1 g oX mK cK mA cA cP cX oK oA qP K X B jx w v) : mturV B1 g oX mK cK mA cA cP cX oK oA qP K X B jx w' v := by
  match jx, h with
  | 0, h => exact h
  | 1, h => exact h
  | 2, h => exact h
  | 3, h => exact h
  | 4, h => exact h
  | 5, h => exact (let ⟨q, c, h1, h2⟩ := h; ⟨q, c, h1, h2.below (Nat.le_refl _) hb⟩)
  | 6, h => exact h
  | 7, h => exact h
  | 8, h => exact (let ⟨q, c, h1, h2⟩ := h; ⟨q, c, h1, h2.below (Nat.le_refl _) hb⟩)
  | 9, h => exact h
  | 10, h => exact h
  | 11, h => exact h
  | 12, h => exact h
  | 13, h => exact h
  | 14, h => exact h
  | 15, h => exact h
  | 16, h => exact h
  | 17, h => exact h
  | 18, h => exact h
  | 19, h => exact h
  | 20, h => exact h
  | 21, h => exact h
  | 22, h => exact h
  | 23, h => exact h
  | 24, h => exact h
  | 25, h => exact (let ⟨q, c, h1, h2⟩ := h; ⟨q, c, h1, h2.below (Nat.le_refl _) hb⟩)
  | 26, h => exact h
  | 27, h => exact h
  | 28, h => exact h
  | 29, h => exact h
  | 30, h => exact h
  | 31, h => exact h
  | 32, h => exact h
  | _ + 33, h => exact trivial

/-- What the region's operations leave. -/
def mturW (B1 g oX mK cK mA cA cP cX : Nat) (oK oA qP : Option Addr) (K X : List (List UInt8)) (B : List Nat) (ix : Nat) (w : World) (v : Value) : Prop :=
  match ix with
  | 0 => v = .agg (byteCells (Tree.root mK (Tree.top K))).toArray
  | 1 => v = .slice oK mK cK
  | 2 => v = .int .i64 (mK : Int)
  | 3 => ∃ g : Nat, v = .slice (some ⟨g, 0, none⟩) 0 0
  | 4 => v = .slice oA mA cA
  | 5 => ∃ (q : Addr) (c : Nat), v = .slice (some q) mA c ∧ IntsAt w (some q) mA c (B.map Int.ofNat)
  | 6 => ∃ g : Nat, v = .slice (some ⟨g, 0, none⟩) 0 0
  | 7 => v = .slice (some ⟨g, 0, none⟩) mA cX
  | 8 => ∃ (q : Addr) (c : Nat), v = .slice (some q) mA c ∧ StrsAt w (some q) mA c X
  | 9 => v = .slice qP ((Many.prove K B).length) cP
  | 10 => v = .bool (checkI (Tree.root mK (Tree.top K)) (mK : Int) (B.map Int.ofNat) X (Many.prove K B))
  | 11 => v = .agg (byteCells (Tree.root mK (Tree.top K))).toArray
  | 12 => v = .slice oK mK cK
  | 13 => v = .int .i64 (mK : Int)
  | 14 => v = .slice oA mA cA
  | 15 => v = .slice (some ⟨g, 0, none⟩) mA cX
  | 16 => v = .slice qP ((Many.prove K B).length) cP
  | 17 => v = .bool (checkI (Tree.root mK (Tree.top K)) (mK : Int) (B.map Int.ofNat) X (Many.prove K B))
  | 18 => v = .bool true
  | 19 => v = .bool true
  | 20 => v = .agg (byteCells (Tree.root mK (Tree.top K))).toArray
  | 21 => v = .slice oK mK cK
  | 22 => v = .int .i64 (mK : Int)
  | 23 => ∃ g : Nat, v = .slice (some ⟨g, 0, none⟩) 0 0
  | 24 => v = .slice oA mA cA
  | 25 => ∃ (q : Addr) (c : Nat), v = .slice (some q) mA c ∧ IntsAt w (some q) mA c (B.map Int.ofNat)
  | 26 => v = .slice (some ⟨g, 0, none⟩) mA cX
  | 27 => v = .slice (some ⟨g, 0, none⟩) 0 0
  | 28 => v = .slice qP ((Many.prove K B).length) cP
  | 29 => v = .bool false
  | 30 => v = .bool true
  | 31 => v = .bool true
  | 32 => v = .bool true
  | _ => True

theorem mturW_mono (B1 g oX mK cK mA cA cP cX : Nat) (oK oA qP : Option Addr) (K X : List (List UInt8)) (B : List Nat) (jx : Nat) (w w' : World) (v : Value) (hb : Below w.heap.size w w') (h : mturW B1 g oX mK cK mA cA cP cX oK oA qP K X B jx w v) : mturW B1 g oX mK cK mA cA cP cX oK oA qP K X B jx w' v := by
  match jx, h with
  | 0, h => exact h
  | 1, h => exact h
  | 2, h => exact h
  | 3, h => exact h
  | 4, h => exact h
  | 5, h => exact (let ⟨q, c, h1, h2⟩ := h; ⟨q, c, h1, h2.below (Nat.le_refl _) hb⟩)
  | 6, h => exact h
  | 7, h => exact h
  | 8, h => exact (let ⟨q, c, h1, h2⟩ := h; ⟨q, c, h1, h2.below (Nat.le_refl _) hb⟩)
  | 9, h => exact h
  | 10, h => exact h
  | 11, h => exact h
  | 12, h => exact h
  | 13, h => exact h
  | 14, h => exact h
  | 15, h => exact h
  | 16, h => exact h
  | 17, h => exact h
  | 18, h => exact h
  | 19, h => exact h
  | 20, h => exact h
  | 21, h => exact h
  | 22, h => exact h
  | 23, h => exact h
  | 24, h => exact h
  | 25, h => exact (let ⟨q, c, h1, h2⟩ := h; ⟨q, c, h1, h2.below (Nat.le_refl _) hb⟩)
  | 26, h => exact h
  | 27, h => exact h
  | 28, h => exact h
  | 29, h => exact h
  | 30, h => exact h
  | 31, h => exact h
  | 32, h => exact h
  | _ + 33, h => exact trivial

set_option maxRecDepth 100000 in
set_option maxHeartbeats 4000000 in
theorem mturned_list (w : World) (oK : Option Addr) (mK cK : Nat) (K : List (List UInt8)) (hK : StrsAt w oK mK cK K) (hxK : ∀ l ∈ K, l.length ≤ 9223372036854775807) (oA : Option Addr) (mA cA : Nat) (A : List Int) (hA : IntsAt w oA mA cA A) (y : List UInt8) (hy : y.length ≤ 140737488351232) (i : Int) (hi : (Lit.int .u8 i).wf = true) (hL : Laid w) :
    Calls Tryd.prog 6 #[.slice oK mK cK, .slice oA mA cA, .string (strOf y), .int .u8 i] w fun e w' => e = .returned (.bool true) ∧ Below w.heap.size w w' := by
  have hmK : K.length = mK := hK.len
  have hcK := hK.cap
  have hyK := hK.max
  have HK := Lib.hid hK; clear hK
  have HXK := Lib.hid hxK; clear hxK
  have hmA : A.length = mA := hA.len
  have hcA := hA.cap
  have hyA := hA.max
  have HA := Lib.hid hA; clear hA
  have hsty := strOf_size y
  have HL := Lib.hid hL; clear hL
  have hib := wf_u8' hi
  go_enter Tryd.func6, Tryd.ntmps6
  go_wp2_with fail
  refine (awake4_any _ HL.out).mono ?_
  rintro e w1 ⟨rfl, b1⟩
  replace HK := Lib.hid (HK.out.below (Nat.le_refl _) b1)
  replace HA := Lib.hid (HA.out.below (Nat.le_refl _) b1)
  replace HL := Lib.hid (HL.out.below b1)
  rcases hf : few K with _ | _
  · have hfc := refFew_any w1 oK mK cK K HK.out HXK.out
    rw [hf] at hfc
    have HFC := Lib.hid hfc; clear hfc hf
    go_wp2_with fail
    refine HFC.out.mono ?_
    rintro e w' ⟨rfl, rfl⟩
    go_wp2_with fail
    refine (awake4_any _ HL.out).mono ?_
    rintro e w2 ⟨rfl, b2⟩
    go_wp2_with fail
    go_ret
    exact ⟨rfl, b1.trans (b2.mono b1.size)⟩
  · have hfc := refFew_any w1 oK mK cK K HK.out HXK.out
    rw [hf] at hfc
    obtain ⟨h20, h200⟩ := few_spec hf
    have HFC := Lib.hid hfc; clear hfc hf
    have HLE : Hid (∀ l ∈ K, l.length ≤ 100000) := Lib.hid fun l hl => by have := h200 l hl; omega
    have H200 := Lib.hid h200; clear h200
    go_wp2_with fail
    refine HFC.out.mono ?_
    rintro e w' ⟨rfl, rfl⟩
    clear HFC
    rcases hr : risesB (mK : Int) A with _ | _
    · have hc := refRises_any w1 (mK : Int) _ _ _ A HA.out
      rw [hr] at hc
      have HC := Lib.hid hc; clear hc hr
      go_wp2_with fail
      refine HC.out.mono ?_
      rintro e w3 ⟨rfl, d3⟩
      clear HC
      replace HK := Lib.hid (HK.out.below (Nat.le_refl _) d3)
      replace HA := Lib.hid (HA.out.below (Nat.le_refl _) d3)
      replace HL := Lib.hid (HL.out.below d3)
      replace b1 := b1.trans (d3.mono b1.size)
      go_wp2_with fail
      refine (awake4_any _ HL.out).mono ?_
      rintro e w4 ⟨rfl, b4⟩
      go_wp2_with fail
      go_ret
      exact ⟨rfl, b1.trans (b4.mono b1.size)⟩
    · have hc := refRises_any w1 (mK : Int) _ _ _ A HA.out
      rw [hr] at hc
      have HC := Lib.hid hc; clear hc
      go_wp2_with fail
      refine HC.out.mono ?_
      rintro e w3 ⟨rfl, d3⟩
      clear HC
      replace HK := Lib.hid (HK.out.below (Nat.le_refl _) d3)
      replace HA := Lib.hid (HA.out.below (Nat.le_refl _) d3)
      replace HL := Lib.hid (HL.out.below d3)
      replace b1 := b1.trans (d3.mono b1.size)
      by_cases hg0 : mA = 0
      · subst hg0
        have ht : (((0 : Nat) : Int) == 0) = true := rfl
        go_wp2_with fail
        refine (awake4_any _ HL.out).mono ?_
        rintro e w4 ⟨rfl, b4⟩
        go_wp2_with fail
        go_ret
        exact ⟨rfl, b1.trans (b4.mono b1.size)⟩
      · have ht : ((mA : Int) == 0) = false := by simp; omega
        by_cases hg : 200 < y.length
        · have ht : decide ((200 : Int) < (y.length : Int)) = true := decide_eq_true (by omega)
          go_wp2_with fail
          refine (awake4_any _ HL.out).mono ?_
          rintro e w2 ⟨rfl, b2⟩
          go_wp2_with fail
          go_ret
          exact ⟨rfl, b1.trans (b2.mono b1.size)⟩
        · have ht : decide ((200 : Int) < (y.length : Int)) = false := decide_eq_false (by omega)
          obtain ⟨B, hAB, hBP, hBn⟩ := rises_form hr
          subst hAB
          have hbn : ∀ a ∈ B, a < mK := fun a ha => by have := hBn a ha; omega
          have hBl : B.length = mA := by rw [← hmA, List.length_map]
          have hmak := rising_len B 0 mK hBP (fun a ha => ⟨Nat.zero_le _, hbn a ha⟩) (by rintro rfl; simp at hBl; omega)
          have HBP := Lib.hid hBP
          have HBN := Lib.hid hbn
          have hpf := prove_few K B
          have hlk : K.length = mK := hmK
          rw [hlk] at hpf
          clear hr hBn hBP hbn
          have hc11 := refRoot_any w3 _ mK _ K HK.out (by omega) HLE.out
          have HC11 := Lib.hid hc11; clear hc11
          go_wp2_with fail
          refine HC11.out.mono ?_
          rintro e v11 ⟨rfl, d11⟩
          replace HK := Lib.hid (HK.out.below (Nat.le_refl _) d11)
          replace HA := Lib.hid (HA.out.below (Nat.le_refl _) d11)
          replace HL := Lib.hid (HL.out.below d11)
          replace b1 := b1.trans (d11.mono b1.size)
          clear HC11
          obtain ⟨z12, hz12⟩ : ∃ z12, z12 = v11.alloc (.cells zero32 23) := ⟨_, rfl⟩
          have hzx : z12.heap[v11.heap.size]? = some (.cells zero32 23 (0, 0)) := by rw [hz12]; exact heap_alloc_new v11 _
          have hzb : Below v11.heap.size v11 z12 := by rw [hz12]; exact (Below.refl _ _).alloc (Nat.le_refl _) _
          obtain ⟨v12, hv12⟩ : ∃ v12, v12 = hset z12 v11.heap.size (Tree.root mK (Tree.top K)) := ⟨_, rfl⟩
          have hx12 : v12.heap[v11.heap.size]? = some (.cells (byteCells (Tree.root mK (Tree.top K))).toArray 23 (0, 0)) := by rw [hv12]; exact hset_heap _ hzx
          have d12 : Below v11.heap.size v11 v12 := by rw [hv12]; exact hset_below _ hzb (Nat.le_refl _)
          have ZX12 := Lib.hid hzx; have HZ12 := Lib.hid hz12; have HV12 := Lib.hid hv12; have X12 := Lib.hid hx12; clear hzx hzb hz12 hv12 hx12
          replace HK := Lib.hid (HK.out.below (Nat.le_refl _) d12)
          replace HA := Lib.hid (HA.out.below (Nat.le_refl _) d12)
          replace HL := Lib.hid (HL.out.below d12)
          replace b1 := b1.trans (d12.mono b1.size)
          have hc13 := refMProve_any v12 _ _ _ _ _ _ K B HK.out HA.out HLE.out (by omega)
          have HC13 := Lib.hid hc13; clear hc13
          go_wp2_with (first | ((with_reducible show wpList _ _ _ (⟨none, .store 23 (.tmp 9) (.tmp 38), _, _, _, _⟩ :: _) _ _); change wpList _ _ _ _ _ (v11.alloc (.cells zero32 23)); rw [← HZ12.out]; refine wpList_put_hash (o := ⟨none, .store _ _ _, _, _, _, _⟩) rfl _ _ rfl v11.heap.size rfl (Tree.root mK (Tree.top K)) (Tree.root_len _ _) rfl _ _ ZX12.out zero32_size ?_; rw [← HV12.out]))
          refine HC13.out.mono ?_
          rintro e v13 ⟨q13, c13, rfl, hs, d13⟩
          replace HK := Lib.hid (HK.out.below (Nat.le_refl _) d13)
          replace HA := Lib.hid (HA.out.below (Nat.le_refl _) d13)
          replace HL := Lib.hid (HL.out.below d13)
          replace X12 := Lib.hid ((d13.block _ (lt_of_block X12.out)).trans X12.out)
          replace b1 := b1.trans (d13.mono b1.size)
          have C13 := Lib.hid hs; clear hs
          clear HC13
          go_wp2_with fail
          have hc := pick_any v13 oK oA mK cK mA cA K B HK.out HA.out HBN.out (by omega)
          have HC := Lib.hid hc; clear hc
          refine HC.out.mono ?_
          rintro e w5 ⟨qx, cX, rfl, -, hown, d5⟩
          clear HC
          have hplen : (Many.pick K B).length = mA := by rw [← hBl]; exact List.length_map ..
          obtain ⟨k, hk⟩ : ∃ k, k = i.toNat % mA := ⟨_, rfl⟩
          have hkm : k < mA := by rw [hk]; exact Nat.mod_lt _ (by omega)
          have hrem : (i : Int).tmod (mA : Int) = (k : Int) := by
            obtain ⟨j, rfl⟩ : ∃ j : Nat, i = (j : Int) := ⟨i.toNat, by omega⟩
            rw [Int.tmod_eq_emod_of_nonneg (by omega), hk]; push_cast; rfl
          obtain ⟨g, rfl, ⟨u, hcell⟩, hfree, hbase, hset⟩ := StrsAt.own_set hplen k hkm y hown
          obtain ⟨W9, hW9⟩ : ∃ W9, W9 = w5.setCell ⟨g, k, none⟩ (.string (strOf y)) := ⟨_, rfl⟩
          have d9 : Below v13.heap.size v13 W9 := by rw [hW9]; exact d5.setCell hbase _
          obtain ⟨X, hX⟩ : ∃ X, X = (Many.pick K B).set k y := ⟨_, rfl⟩
          have hXl : X.length = mA := by rw [hX, List.length_set, hplen]
          have hxle : ∀ l ∈ X, l.length ≤ 100000 := by
            intro l hl
            rw [hX] at hl
            rcases List.mem_or_eq_of_mem_set hl with h | h
            · exact pick_le HLE.out l h
            · subst h; omega
          rw [← hW9, ← hX] at hset
          have hcX := hset.cap
          have hmX := hset.max
          have hcs := checkI_short (r := Tree.root mK (Tree.top K)) (n := (mK : Int)) (A := B.map Int.ofNat) (X := X.drop 1) (P := Many.prove K B) (by rw [List.length_drop, List.length_map]; omega)
          replace HK := Lib.hid (HK.out.below (Nat.le_refl _) d9)
          replace HA := Lib.hid (HA.out.below (Nat.le_refl _) d9)
          replace HL := Lib.hid (HL.out.below d9)
          replace X12 := Lib.hid ((d9.block _ (lt_of_block X12.out)).trans X12.out)
          replace C13 := Lib.hid (C13.out.below (Nat.le_refl _) d9)
          replace b1 := b1.trans (d9.mono b1.size)
          have HX := Lib.hid hset; clear hset
          have HXL := Lib.hid hxle
          have HCS := Lib.hid hcs
          have HW9 := Lib.hid hW9
          have HREM := Lib.hid hrem
          clear hxle hcs hW9 hX hown hk
          have t1 : decide ((1 : Int) ≤ (mA : Int)) = true := decide_eq_true (by omega)
          have t1' : decide (1 ≤ mA) = true := decide_eq_true (by omega)
          go_wp2_with fail
          rw [← HW9.out]
          by_cases hc1 : 1 < cX
          · have hdr := HX.out.drop 1 (by omega)
            have HD := Lib.hid hdr
            clear hdr
            refine wp_region_rel [[], [], [1], [], [], [3, 4], [], [], [6, 7], [], [0, 2, 5, 8, 9], [], [], [12], [], [], [], [11, 13, 14, 15, 16], [10, 17], [18], [19], [19], [19, 21], [19], [19], [19, 23, 24], [19], [19, 26], [19], [19, 20, 22, 25, 27, 28], [19, 29], [19, 30], [31]] (mturV v11.heap.size g 0 mK cK mA cA c13 cX oK oA q13 K X B) 85 (by kernel_rfl) (by kernel_rfl) (by kernel_rfl) (mturV_mono v11.heap.size g 0 mK cK mA cA c13 cX oK oA q13 K X B) ?_ ?_
            · intro ix op hi w2 b2 vs hv
              have him : ix < 33 := (List.getElem?_eq_some_iff.1 hi).1
              have hL2 := HL.out.below b2
              match ix, him, hi with
              | 0, _, hi =>
                obtain rfl := Option.some.inj hi
                simp only [relF, List.getD_cons_zero, List.getD_cons_succ, List.foldl_cons, List.foldl_nil, dstAt, List.getElem?_cons_zero, List.getElem?_cons_succ, Option.bind_some]
                go_wp2_with ((with_reducible show wpList _ _ _ (⟨some 53, _, _, _, _, _⟩ :: _) _ _); refine wpList_load_hash (op := ⟨some 53, _, _, _, _, _⟩) (by kernel_rfl) _ rfl v11.heap.size rfl (Tree.root mK (Tree.top K)) (Tree.root_len _ _) _ _ ((b2.block _ (lt_of_block X12.out)).trans X12.out) ?_)
                exact ⟨rfl, Below.refl _ _, rfl, rfl⟩
              | 1, _, hi =>
                obtain rfl := Option.some.inj hi
                simp only [relF, List.getD_cons_zero, List.getD_cons_succ, List.foldl_cons, List.foldl_nil, dstAt, List.getElem?_cons_zero, List.getElem?_cons_succ, Option.bind_some]
                go_wp2_with fail
                exact ⟨rfl, Below.refl _ _, rfl, rfl⟩
              | 2, _, hi =>
                obtain rfl := Option.some.inj hi
                have h1 : vs 1 = _ := hv 1 (by decide)
                simp only [relF, List.getD_cons_zero, List.getD_cons_succ, List.foldl_cons, List.foldl_nil, dstAt, List.getElem?_cons_zero, List.getElem?_cons_succ, Option.bind_some]
                go_frame
                rw [h1]
                go_wp2_with fail
                exact ⟨rfl, Below.refl _ _, rfl, rfl⟩
              | 3, _, hi =>
                obtain rfl := Option.some.inj hi
                simp only [relF, List.getD_cons_zero, List.getD_cons_succ, List.foldl_cons, List.foldl_nil, dstAt, List.getElem?_cons_zero, List.getElem?_cons_succ, Option.bind_some]
                go_wp2_with fail
                exact ⟨rfl, (Below.refl _ _).alloc (Nat.le_refl _) _, rfl, w2.heap.size, rfl⟩
              | 4, _, hi =>
                obtain rfl := Option.some.inj hi
                simp only [relF, List.getD_cons_zero, List.getD_cons_succ, List.foldl_cons, List.foldl_nil, dstAt, List.getElem?_cons_zero, List.getElem?_cons_succ, Option.bind_some]
                go_wp2_with fail
                exact ⟨rfl, Below.refl _ _, rfl, rfl⟩
              | 5, _, hi =>
                obtain ⟨g3, e3⟩ := hv 3 (by decide)
                obtain rfl := Option.some.inj hi
                have h4 : vs 4 = _ := hv 4 (by decide)
                obtain ⟨q, cc, W, hrun, hs, hbb⟩ := IntsAt.copy (HA.out.below (Nat.le_refl _) b2) (by omega) ⟨g3, 0, none⟩
                simp only [relF, List.getD_cons_zero, List.getD_cons_succ, List.foldl_cons, List.foldl_nil, dstAt, List.getElem?_cons_zero, List.getElem?_cons_succ, Option.bind_some]
                go_frame
                rw [e3, h4]
                go_wp2_with ((with_reducible show wpList _ _ _ (⟨some 58, _, _, _, _, _⟩ :: _) _ _); refine wpList_append_ran (by kernel_rfl) _ _ _ rfl _ _ rfl rfl hrun ?_)
                exact ⟨rfl, hbb, rfl, q, cc, rfl, hs⟩
              | 6, _, hi =>
                obtain rfl := Option.some.inj hi
                simp only [relF, List.getD_cons_zero, List.getD_cons_succ, List.foldl_cons, List.foldl_nil, dstAt, List.getElem?_cons_zero, List.getElem?_cons_succ, Option.bind_some]
                go_wp2_with fail
                exact ⟨rfl, (Below.refl _ _).alloc (Nat.le_refl _) _, rfl, w2.heap.size, rfl⟩
              | 7, _, hi =>
                obtain rfl := Option.some.inj hi
                simp only [relF, List.getD_cons_zero, List.getD_cons_succ, List.foldl_cons, List.foldl_nil, dstAt, List.getElem?_cons_zero, List.getElem?_cons_succ, Option.bind_some]
                go_wp2_with fail
                exact ⟨rfl, Below.refl _ _, rfl, rfl⟩
              | 8, _, hi =>
                obtain ⟨g6, e6⟩ := hv 6 (by decide)
                obtain rfl := Option.some.inj hi
                have h7 : vs 7 = _ := hv 7 (by decide)
                obtain ⟨q, cc, W, hrun, hs, hbb⟩ := StrsAt.copy (HX.out.below (Nat.le_refl _) b2) (by omega) ⟨g6, 0, none⟩
                simp only [relF, List.getD_cons_zero, List.getD_cons_succ, List.foldl_cons, List.foldl_nil, dstAt, List.getElem?_cons_zero, List.getElem?_cons_succ, Option.bind_some]
                go_frame
                rw [e6, h7]
                go_wp2_with ((with_reducible show wpList _ _ _ (⟨some 61, _, _, _, _, _⟩ :: _) _ _); refine wpList_append_ran (by kernel_rfl) _ _ _ rfl _ _ rfl rfl hrun ?_)
                exact ⟨rfl, hbb, rfl, q, cc, rfl, hs⟩
              | 9, _, hi =>
                obtain rfl := Option.some.inj hi
                simp only [relF, List.getD_cons_zero, List.getD_cons_succ, List.foldl_cons, List.foldl_nil, dstAt, List.getElem?_cons_zero, List.getElem?_cons_succ, Option.bind_some]
                go_wp2_with fail
                exact ⟨rfl, Below.refl _ _, rfl, rfl⟩
              | 10, _, hi =>
                obtain ⟨q5, c5, e5, s5⟩ := hv 5 (by decide)
                obtain ⟨q8, c8, e8, s8⟩ := hv 8 (by decide)
                obtain rfl := Option.some.inj hi
                have h0 : vs 0 = _ := hv 0 (by decide)
                have h2 : vs 2 = _ := hv 2 (by decide)
                have h9 : vs 9 = _ := hv 9 (by decide)
                simp only [relF, List.getD_cons_zero, List.getD_cons_succ, List.foldl_cons, List.foldl_nil, dstAt, List.getElem?_cons_zero, List.getElem?_cons_succ, Option.bind_some]
                go_frame
                rw [h0, h2, e5, e8, h9]
                go_wp2_with fail
                refine (manyCheck_all w2 (Tree.root mK (Tree.top K)) (Tree.root_len _ _) (mK : Int) _ _ _ _ _ _ _ _ _ (B.map Int.ofNat) X (Many.prove K B) s5 s8 (C13.out.below (Nat.le_refl _) b2) HXL.out (by omega) (by omega) (by omega) hL2).mono ?_
                rintro e w3 ⟨rfl, b3⟩
                go_wp2_with fail
                exact ⟨rfl, b3, rfl, rfl⟩
              | 11, _, hi =>
                obtain rfl := Option.some.inj hi
                simp only [relF, List.getD_cons_zero, List.getD_cons_succ, List.foldl_cons, List.foldl_nil, dstAt, List.getElem?_cons_zero, List.getElem?_cons_succ, Option.bind_some]
                go_wp2_with ((with_reducible show wpList _ _ _ (⟨some 64, _, _, _, _, _⟩ :: _) _ _); refine wpList_load_hash (op := ⟨some 64, _, _, _, _, _⟩) (by kernel_rfl) _ rfl v11.heap.size rfl (Tree.root mK (Tree.top K)) (Tree.root_len _ _) _ _ ((b2.block _ (lt_of_block X12.out)).trans X12.out) ?_)
                exact ⟨rfl, Below.refl _ _, rfl, rfl⟩
              | 12, _, hi =>
                obtain rfl := Option.some.inj hi
                simp only [relF, List.getD_cons_zero, List.getD_cons_succ, List.foldl_cons, List.foldl_nil, dstAt, List.getElem?_cons_zero, List.getElem?_cons_succ, Option.bind_some]
                go_wp2_with fail
                exact ⟨rfl, Below.refl _ _, rfl, rfl⟩
              | 13, _, hi =>
                obtain rfl := Option.some.inj hi
                have h12 : vs 12 = _ := hv 12 (by decide)
                simp only [relF, List.getD_cons_zero, List.getD_cons_succ, List.foldl_cons, List.foldl_nil, dstAt, List.getElem?_cons_zero, List.getElem?_cons_succ, Option.bind_some]
                go_frame
                rw [h12]
                go_wp2_with fail
                exact ⟨rfl, Below.refl _ _, rfl, rfl⟩
              | 14, _, hi =>
                obtain rfl := Option.some.inj hi
                simp only [relF, List.getD_cons_zero, List.getD_cons_succ, List.foldl_cons, List.foldl_nil, dstAt, List.getElem?_cons_zero, List.getElem?_cons_succ, Option.bind_some]
                go_wp2_with fail
                exact ⟨rfl, Below.refl _ _, rfl, rfl⟩
              | 15, _, hi =>
                obtain rfl := Option.some.inj hi
                simp only [relF, List.getD_cons_zero, List.getD_cons_succ, List.foldl_cons, List.foldl_nil, dstAt, List.getElem?_cons_zero, List.getElem?_cons_succ, Option.bind_some]
                go_wp2_with fail
                exact ⟨rfl, Below.refl _ _, rfl, rfl⟩
              | 16, _, hi =>
                obtain rfl := Option.some.inj hi
                simp only [relF, List.getD_cons_zero, List.getD_cons_succ, List.foldl_cons, List.foldl_nil, dstAt, List.getElem?_cons_zero, List.getElem?_cons_succ, Option.bind_some]
                go_wp2_with fail
                exact ⟨rfl, Below.refl _ _, rfl, rfl⟩
              | 17, _, hi =>
                obtain rfl := Option.some.inj hi
                have h11 : vs 11 = _ := hv 11 (by decide)
                have h13 : vs 13 = _ := hv 13 (by decide)
                have h14 : vs 14 = _ := hv 14 (by decide)
                have h15 : vs 15 = _ := hv 15 (by decide)
                have h16 : vs 16 = _ := hv 16 (by decide)
                simp only [relF, List.getD_cons_zero, List.getD_cons_succ, List.foldl_cons, List.foldl_nil, dstAt, List.getElem?_cons_zero, List.getElem?_cons_succ, Option.bind_some]
                go_frame
                rw [h11, h13, h14, h15, h16]
                go_wp2_with fail
                refine (refMCheck_all w2 (Tree.root mK (Tree.top K)) (Tree.root_len _ _) (mK : Int) _ _ _ _ _ _ _ _ _ (B.map Int.ofNat) X (Many.prove K B) (HA.out.below (Nat.le_refl _) b2) (HX.out.below (Nat.le_refl _) b2) (C13.out.below (Nat.le_refl _) b2) HXL.out (by omega)).mono ?_
                rintro e w3 ⟨rfl, b3⟩
                go_wp2_with fail
                exact ⟨rfl, b3, rfl, rfl⟩
              | 18, _, hi =>
                obtain rfl := Option.some.inj hi
                have h10 : vs 10 = _ := hv 10 (by decide)
                have h17 : vs 17 = _ := hv 17 (by decide)
                simp only [relF, List.getD_cons_zero, List.getD_cons_succ, List.foldl_cons, List.foldl_nil, dstAt, List.getElem?_cons_zero, List.getElem?_cons_succ, Option.bind_some]
                go_frame
                rw [h10, h17]
                go_wp2_with fail
                exact ⟨rfl, Below.refl _ _, rfl, by first | rfl | (show slotOf _ _ = _; simp [slotOf])⟩
              | 19, _, hi =>
                obtain rfl := Option.some.inj hi
                have h18 : vs 18 = _ := hv 18 (by decide)
                simp only [relF, List.getD_cons_zero, List.getD_cons_succ, List.foldl_cons, List.foldl_nil, dstAt, List.getElem?_cons_zero, List.getElem?_cons_succ, Option.bind_some]
                go_frame
                rw [h18]
                go_wp2_with fail
                exact ⟨rfl, Below.refl _ _, rfl, rfl⟩
              | 20, _, hi =>
                obtain rfl := Option.some.inj hi
                have h19 : vs 19 = _ := hv 19 (by decide)
                simp only [relF, List.getD_cons_zero, List.getD_cons_succ, List.foldl_cons, List.foldl_nil, dstAt, List.getElem?_cons_zero, List.getElem?_cons_succ, Option.bind_some]
                go_frame
                rw [h19]
                go_wp2_with ((with_reducible show wpList _ _ _ (⟨some 73, _, _, _, _, _⟩ :: _) _ _); refine wpList_load_hash (op := ⟨some 73, _, _, _, _, _⟩) (by kernel_rfl) _ rfl v11.heap.size rfl (Tree.root mK (Tree.top K)) (Tree.root_len _ _) _ _ ((b2.block _ (lt_of_block X12.out)).trans X12.out) ?_)
                exact ⟨rfl, Below.refl _ _, rfl, rfl⟩
              | 21, _, hi =>
                obtain rfl := Option.some.inj hi
                have h19 : vs 19 = _ := hv 19 (by decide)
                simp only [relF, List.getD_cons_zero, List.getD_cons_succ, List.foldl_cons, List.foldl_nil, dstAt, List.getElem?_cons_zero, List.getElem?_cons_succ, Option.bind_some]
                go_frame
                rw [h19]
                go_wp2_with fail
                exact ⟨rfl, Below.refl _ _, rfl, rfl⟩
              | 22, _, hi =>
                obtain rfl := Option.some.inj hi
                have h19 : vs 19 = _ := hv 19 (by decide)
                have h21 : vs 21 = _ := hv 21 (by decide)
                simp only [relF, List.getD_cons_zero, List.getD_cons_succ, List.foldl_cons, List.foldl_nil, dstAt, List.getElem?_cons_zero, List.getElem?_cons_succ, Option.bind_some]
                go_frame
                rw [h19, h21]
                go_wp2_with fail
                exact ⟨rfl, Below.refl _ _, rfl, rfl⟩
              | 23, _, hi =>
                obtain rfl := Option.some.inj hi
                have h19 : vs 19 = _ := hv 19 (by decide)
                simp only [relF, List.getD_cons_zero, List.getD_cons_succ, List.foldl_cons, List.foldl_nil, dstAt, List.getElem?_cons_zero, List.getElem?_cons_succ, Option.bind_some]
                go_frame
                rw [h19]
                go_wp2_with fail
                exact ⟨rfl, (Below.refl _ _).alloc (Nat.le_refl _) _, rfl, w2.heap.size, rfl⟩
              | 24, _, hi =>
                obtain rfl := Option.some.inj hi
                have h19 : vs 19 = _ := hv 19 (by decide)
                simp only [relF, List.getD_cons_zero, List.getD_cons_succ, List.foldl_cons, List.foldl_nil, dstAt, List.getElem?_cons_zero, List.getElem?_cons_succ, Option.bind_some]
                go_frame
                rw [h19]
                go_wp2_with fail
                exact ⟨rfl, Below.refl _ _, rfl, rfl⟩
              | 25, _, hi =>
                obtain ⟨g23, e23⟩ := hv 23 (by decide)
                obtain rfl := Option.some.inj hi
                have h19 : vs 19 = _ := hv 19 (by decide)
                have h24 : vs 24 = _ := hv 24 (by decide)
                obtain ⟨q, cc, W, hrun, hs, hbb⟩ := IntsAt.copy (HA.out.below (Nat.le_refl _) b2) (by omega) ⟨g23, 0, none⟩
                simp only [relF, List.getD_cons_zero, List.getD_cons_succ, List.foldl_cons, List.foldl_nil, dstAt, List.getElem?_cons_zero, List.getElem?_cons_succ, Option.bind_some]
                go_frame
                rw [h19, e23, h24]
                go_wp2_with ((with_reducible show wpList _ _ _ (⟨some 78, _, _, _, _, _⟩ :: _) _ _); refine wpList_append_ran (by kernel_rfl) _ _ _ rfl _ _ rfl rfl hrun ?_)
                exact ⟨rfl, hbb, rfl, q, cc, rfl, hs⟩
              | 26, _, hi =>
                obtain rfl := Option.some.inj hi
                have h19 : vs 19 = _ := hv 19 (by decide)
                simp only [relF, List.getD_cons_zero, List.getD_cons_succ, List.foldl_cons, List.foldl_nil, dstAt, List.getElem?_cons_zero, List.getElem?_cons_succ, Option.bind_some]
                go_frame
                rw [h19]
                go_wp2_with fail
                exact ⟨rfl, Below.refl _ _, rfl, rfl⟩
              | 27, _, hi =>
                obtain rfl := Option.some.inj hi
                have h19 : vs 19 = _ := hv 19 (by decide)
                have h26 : vs 26 = _ := hv 26 (by decide)
                simp only [relF, List.getD_cons_zero, List.getD_cons_succ, List.foldl_cons, List.foldl_nil, dstAt, List.getElem?_cons_zero, List.getElem?_cons_succ, Option.bind_some]
                go_frame
                rw [h19, h26]
                go_wp2_with fail
                exact ⟨rfl, Below.refl _ _, rfl, rfl⟩
              | 28, _, hi =>
                obtain rfl := Option.some.inj hi
                have h19 : vs 19 = _ := hv 19 (by decide)
                simp only [relF, List.getD_cons_zero, List.getD_cons_succ, List.foldl_cons, List.foldl_nil, dstAt, List.getElem?_cons_zero, List.getElem?_cons_succ, Option.bind_some]
                go_frame
                rw [h19]
                go_wp2_with fail
                exact ⟨rfl, Below.refl _ _, rfl, rfl⟩
              | 29, _, hi =>
                obtain ⟨q25, c25, e25, s25⟩ := hv 25 (by decide)
                obtain rfl := Option.some.inj hi
                have h19 : vs 19 = _ := hv 19 (by decide)
                have h20 : vs 20 = _ := hv 20 (by decide)
                have h22 : vs 22 = _ := hv 22 (by decide)
                have h27 : vs 27 = _ := hv 27 (by decide)
                have h28 : vs 28 = _ := hv 28 (by decide)
                have hrn := manyCheck_all w2 (Tree.root mK (Tree.top K)) (Tree.root_len _ _) (mK : Int) _ _ _ _ _ _ _ _ _ (B.map Int.ofNat) (X.drop 1) (Many.prove K B) s25 (HD.out.below (Nat.le_refl _) b2) (C13.out.below (Nat.le_refl _) b2) (fun l hl => HXL.out l (List.mem_of_mem_drop hl)) (by omega) (by omega) (by omega) hL2
                rw [HCS.out] at hrn
                simp only [relF, List.getD_cons_zero, List.getD_cons_succ, List.foldl_cons, List.foldl_nil, dstAt, List.getElem?_cons_zero, List.getElem?_cons_succ, Option.bind_some]
                go_frame
                rw [h19, h20, h22, e25, h27, h28]
                go_wp2_with fail
                refine (hrn).mono ?_
                rintro e w3 ⟨rfl, b3⟩
                go_wp2_with fail
                exact ⟨rfl, b3, rfl, rfl⟩
              | 30, _, hi =>
                obtain rfl := Option.some.inj hi
                have h19 : vs 19 = _ := hv 19 (by decide)
                have h29 : vs 29 = _ := hv 29 (by decide)
                simp only [relF, List.getD_cons_zero, List.getD_cons_succ, List.foldl_cons, List.foldl_nil, dstAt, List.getElem?_cons_zero, List.getElem?_cons_succ, Option.bind_some]
                go_frame
                rw [h19, h29]
                go_wp2_with fail
                exact ⟨rfl, Below.refl _ _, rfl, rfl⟩
              | 31, _, hi =>
                obtain rfl := Option.some.inj hi
                have h19 : vs 19 = _ := hv 19 (by decide)
                have h30 : vs 30 = _ := hv 30 (by decide)
                simp only [relF, List.getD_cons_zero, List.getD_cons_succ, List.foldl_cons, List.foldl_nil, dstAt, List.getElem?_cons_zero, List.getElem?_cons_succ, Option.bind_some]
                go_frame
                rw [h19, h30]
                go_wp2_with fail
                exact ⟨rfl, Below.refl _ _, rfl, rfl⟩
              | 32, _, hi =>
                obtain rfl := Option.some.inj hi
                have h31 : vs 31 = _ := hv 31 (by decide)
                simp only [relF, List.getD_cons_zero, List.getD_cons_succ, List.foldl_cons, List.foldl_nil, dstAt, List.getElem?_cons_zero, List.getElem?_cons_succ, Option.bind_some]
                go_frame
                rw [h31]
                go_wp2_with fail
                exact ⟨rfl, Below.refl _ _, rfl, rfl⟩
              | nx + 33, him, _ => exact absurd him (by omega)
            · intro w2 b2 vs hv
              have hL2 := HL.out.below b2
              have h32 : vs 32 = _ := hv 32 (by decide)
              simp only [relF, List.drop_succ_cons, List.drop_zero, List.length_cons, List.length_nil, Nat.zero_add, Nat.reduceAdd, List.range, List.range.loop, List.foldl_cons, List.foldl_nil, dstAt, List.getElem?_cons_zero, List.getElem?_cons_succ, Option.bind_some]
              go_frame
              rw [h32]
              go_wp2_with fail
              go_ret
              exact ⟨rfl, b1.trans (b2.mono b1.size)⟩
          · obtain rfl : mA = 1 := by omega
            obtain rfl : cX = 1 := by omega
            have hdr : StrsAt W9 (some ⟨g, 0, none⟩) 0 0 (X.drop 1) := ⟨by rw [List.length_drop]; omega, Nat.le_refl _, by decide, fun h => absurd h (by decide)⟩
            have HD := Lib.hid hdr
            clear hdr
            refine wp_region_rel [[], [], [1], [], [], [3, 4], [], [], [6, 7], [], [0, 2, 5, 8, 9], [], [], [12], [], [], [], [11, 13, 14, 15, 16], [10, 17], [18], [19], [19], [19, 21], [19], [19], [19, 23, 24], [19], [19, 26], [19], [19, 20, 22, 25, 27, 28], [19, 29], [19, 30], [31]] (mturW v11.heap.size g 0 mK cK 1 cA c13 1 oK oA q13 K X B) 85 (by kernel_rfl) (by kernel_rfl) (by kernel_rfl) (mturW_mono v11.heap.size g 0 mK cK 1 cA c13 1 oK oA q13 K X B) ?_ ?_
            · intro ix op hi w2 b2 vs hv
              have him : ix < 33 := (List.getElem?_eq_some_iff.1 hi).1
              have hL2 := HL.out.below b2
              match ix, him, hi with
              | 0, _, hi =>
                obtain rfl := Option.some.inj hi
                simp only [relF, List.getD_cons_zero, List.getD_cons_succ, List.foldl_cons, List.foldl_nil, dstAt, List.getElem?_cons_zero, List.getElem?_cons_succ, Option.bind_some]
                go_wp2_with ((with_reducible show wpList _ _ _ (⟨some 53, _, _, _, _, _⟩ :: _) _ _); refine wpList_load_hash (op := ⟨some 53, _, _, _, _, _⟩) (by kernel_rfl) _ rfl v11.heap.size rfl (Tree.root mK (Tree.top K)) (Tree.root_len _ _) _ _ ((b2.block _ (lt_of_block X12.out)).trans X12.out) ?_)
                exact ⟨rfl, Below.refl _ _, rfl, rfl⟩
              | 1, _, hi =>
                obtain rfl := Option.some.inj hi
                simp only [relF, List.getD_cons_zero, List.getD_cons_succ, List.foldl_cons, List.foldl_nil, dstAt, List.getElem?_cons_zero, List.getElem?_cons_succ, Option.bind_some]
                go_wp2_with fail
                exact ⟨rfl, Below.refl _ _, rfl, rfl⟩
              | 2, _, hi =>
                obtain rfl := Option.some.inj hi
                have h1 : vs 1 = _ := hv 1 (by decide)
                simp only [relF, List.getD_cons_zero, List.getD_cons_succ, List.foldl_cons, List.foldl_nil, dstAt, List.getElem?_cons_zero, List.getElem?_cons_succ, Option.bind_some]
                go_frame
                rw [h1]
                go_wp2_with fail
                exact ⟨rfl, Below.refl _ _, rfl, rfl⟩
              | 3, _, hi =>
                obtain rfl := Option.some.inj hi
                simp only [relF, List.getD_cons_zero, List.getD_cons_succ, List.foldl_cons, List.foldl_nil, dstAt, List.getElem?_cons_zero, List.getElem?_cons_succ, Option.bind_some]
                go_wp2_with fail
                exact ⟨rfl, (Below.refl _ _).alloc (Nat.le_refl _) _, rfl, w2.heap.size, rfl⟩
              | 4, _, hi =>
                obtain rfl := Option.some.inj hi
                simp only [relF, List.getD_cons_zero, List.getD_cons_succ, List.foldl_cons, List.foldl_nil, dstAt, List.getElem?_cons_zero, List.getElem?_cons_succ, Option.bind_some]
                go_wp2_with fail
                exact ⟨rfl, Below.refl _ _, rfl, rfl⟩
              | 5, _, hi =>
                obtain ⟨g3, e3⟩ := hv 3 (by decide)
                obtain rfl := Option.some.inj hi
                have h4 : vs 4 = _ := hv 4 (by decide)
                obtain ⟨q, cc, W, hrun, hs, hbb⟩ := IntsAt.copy (HA.out.below (Nat.le_refl _) b2) (by omega) ⟨g3, 0, none⟩
                simp only [relF, List.getD_cons_zero, List.getD_cons_succ, List.foldl_cons, List.foldl_nil, dstAt, List.getElem?_cons_zero, List.getElem?_cons_succ, Option.bind_some]
                go_frame
                rw [e3, h4]
                go_wp2_with ((with_reducible show wpList _ _ _ (⟨some 58, _, _, _, _, _⟩ :: _) _ _); refine wpList_append_ran (by kernel_rfl) _ _ _ rfl _ _ rfl rfl hrun ?_)
                exact ⟨rfl, hbb, rfl, q, cc, rfl, hs⟩
              | 6, _, hi =>
                obtain rfl := Option.some.inj hi
                simp only [relF, List.getD_cons_zero, List.getD_cons_succ, List.foldl_cons, List.foldl_nil, dstAt, List.getElem?_cons_zero, List.getElem?_cons_succ, Option.bind_some]
                go_wp2_with fail
                exact ⟨rfl, (Below.refl _ _).alloc (Nat.le_refl _) _, rfl, w2.heap.size, rfl⟩
              | 7, _, hi =>
                obtain rfl := Option.some.inj hi
                simp only [relF, List.getD_cons_zero, List.getD_cons_succ, List.foldl_cons, List.foldl_nil, dstAt, List.getElem?_cons_zero, List.getElem?_cons_succ, Option.bind_some]
                go_wp2_with fail
                exact ⟨rfl, Below.refl _ _, rfl, rfl⟩
              | 8, _, hi =>
                obtain ⟨g6, e6⟩ := hv 6 (by decide)
                obtain rfl := Option.some.inj hi
                have h7 : vs 7 = _ := hv 7 (by decide)
                obtain ⟨q, cc, W, hrun, hs, hbb⟩ := StrsAt.copy (HX.out.below (Nat.le_refl _) b2) (by omega) ⟨g6, 0, none⟩
                simp only [relF, List.getD_cons_zero, List.getD_cons_succ, List.foldl_cons, List.foldl_nil, dstAt, List.getElem?_cons_zero, List.getElem?_cons_succ, Option.bind_some]
                go_frame
                rw [e6, h7]
                go_wp2_with ((with_reducible show wpList _ _ _ (⟨some 61, _, _, _, _, _⟩ :: _) _ _); refine wpList_append_ran (by kernel_rfl) _ _ _ rfl _ _ rfl rfl hrun ?_)
                exact ⟨rfl, hbb, rfl, q, cc, rfl, hs⟩
              | 9, _, hi =>
                obtain rfl := Option.some.inj hi
                simp only [relF, List.getD_cons_zero, List.getD_cons_succ, List.foldl_cons, List.foldl_nil, dstAt, List.getElem?_cons_zero, List.getElem?_cons_succ, Option.bind_some]
                go_wp2_with fail
                exact ⟨rfl, Below.refl _ _, rfl, rfl⟩
              | 10, _, hi =>
                obtain ⟨q5, c5, e5, s5⟩ := hv 5 (by decide)
                obtain ⟨q8, c8, e8, s8⟩ := hv 8 (by decide)
                obtain rfl := Option.some.inj hi
                have h0 : vs 0 = _ := hv 0 (by decide)
                have h2 : vs 2 = _ := hv 2 (by decide)
                have h9 : vs 9 = _ := hv 9 (by decide)
                simp only [relF, List.getD_cons_zero, List.getD_cons_succ, List.foldl_cons, List.foldl_nil, dstAt, List.getElem?_cons_zero, List.getElem?_cons_succ, Option.bind_some]
                go_frame
                rw [h0, h2, e5, e8, h9]
                go_wp2_with fail
                refine (manyCheck_all w2 (Tree.root mK (Tree.top K)) (Tree.root_len _ _) (mK : Int) _ _ _ _ _ _ _ _ _ (B.map Int.ofNat) X (Many.prove K B) s5 s8 (C13.out.below (Nat.le_refl _) b2) HXL.out (by omega) (by omega) (by omega) hL2).mono ?_
                rintro e w3 ⟨rfl, b3⟩
                go_wp2_with fail
                exact ⟨rfl, b3, rfl, rfl⟩
              | 11, _, hi =>
                obtain rfl := Option.some.inj hi
                simp only [relF, List.getD_cons_zero, List.getD_cons_succ, List.foldl_cons, List.foldl_nil, dstAt, List.getElem?_cons_zero, List.getElem?_cons_succ, Option.bind_some]
                go_wp2_with ((with_reducible show wpList _ _ _ (⟨some 64, _, _, _, _, _⟩ :: _) _ _); refine wpList_load_hash (op := ⟨some 64, _, _, _, _, _⟩) (by kernel_rfl) _ rfl v11.heap.size rfl (Tree.root mK (Tree.top K)) (Tree.root_len _ _) _ _ ((b2.block _ (lt_of_block X12.out)).trans X12.out) ?_)
                exact ⟨rfl, Below.refl _ _, rfl, rfl⟩
              | 12, _, hi =>
                obtain rfl := Option.some.inj hi
                simp only [relF, List.getD_cons_zero, List.getD_cons_succ, List.foldl_cons, List.foldl_nil, dstAt, List.getElem?_cons_zero, List.getElem?_cons_succ, Option.bind_some]
                go_wp2_with fail
                exact ⟨rfl, Below.refl _ _, rfl, rfl⟩
              | 13, _, hi =>
                obtain rfl := Option.some.inj hi
                have h12 : vs 12 = _ := hv 12 (by decide)
                simp only [relF, List.getD_cons_zero, List.getD_cons_succ, List.foldl_cons, List.foldl_nil, dstAt, List.getElem?_cons_zero, List.getElem?_cons_succ, Option.bind_some]
                go_frame
                rw [h12]
                go_wp2_with fail
                exact ⟨rfl, Below.refl _ _, rfl, rfl⟩
              | 14, _, hi =>
                obtain rfl := Option.some.inj hi
                simp only [relF, List.getD_cons_zero, List.getD_cons_succ, List.foldl_cons, List.foldl_nil, dstAt, List.getElem?_cons_zero, List.getElem?_cons_succ, Option.bind_some]
                go_wp2_with fail
                exact ⟨rfl, Below.refl _ _, rfl, rfl⟩
              | 15, _, hi =>
                obtain rfl := Option.some.inj hi
                simp only [relF, List.getD_cons_zero, List.getD_cons_succ, List.foldl_cons, List.foldl_nil, dstAt, List.getElem?_cons_zero, List.getElem?_cons_succ, Option.bind_some]
                go_wp2_with fail
                exact ⟨rfl, Below.refl _ _, rfl, rfl⟩
              | 16, _, hi =>
                obtain rfl := Option.some.inj hi
                simp only [relF, List.getD_cons_zero, List.getD_cons_succ, List.foldl_cons, List.foldl_nil, dstAt, List.getElem?_cons_zero, List.getElem?_cons_succ, Option.bind_some]
                go_wp2_with fail
                exact ⟨rfl, Below.refl _ _, rfl, rfl⟩
              | 17, _, hi =>
                obtain rfl := Option.some.inj hi
                have h11 : vs 11 = _ := hv 11 (by decide)
                have h13 : vs 13 = _ := hv 13 (by decide)
                have h14 : vs 14 = _ := hv 14 (by decide)
                have h15 : vs 15 = _ := hv 15 (by decide)
                have h16 : vs 16 = _ := hv 16 (by decide)
                simp only [relF, List.getD_cons_zero, List.getD_cons_succ, List.foldl_cons, List.foldl_nil, dstAt, List.getElem?_cons_zero, List.getElem?_cons_succ, Option.bind_some]
                go_frame
                rw [h11, h13, h14, h15, h16]
                go_wp2_with fail
                refine (refMCheck_all w2 (Tree.root mK (Tree.top K)) (Tree.root_len _ _) (mK : Int) _ _ _ _ _ _ _ _ _ (B.map Int.ofNat) X (Many.prove K B) (HA.out.below (Nat.le_refl _) b2) (HX.out.below (Nat.le_refl _) b2) (C13.out.below (Nat.le_refl _) b2) HXL.out (by omega)).mono ?_
                rintro e w3 ⟨rfl, b3⟩
                go_wp2_with fail
                exact ⟨rfl, b3, rfl, rfl⟩
              | 18, _, hi =>
                obtain rfl := Option.some.inj hi
                have h10 : vs 10 = _ := hv 10 (by decide)
                have h17 : vs 17 = _ := hv 17 (by decide)
                simp only [relF, List.getD_cons_zero, List.getD_cons_succ, List.foldl_cons, List.foldl_nil, dstAt, List.getElem?_cons_zero, List.getElem?_cons_succ, Option.bind_some]
                go_frame
                rw [h10, h17]
                go_wp2_with fail
                exact ⟨rfl, Below.refl _ _, rfl, by first | rfl | (show slotOf _ _ = _; simp [slotOf])⟩
              | 19, _, hi =>
                obtain rfl := Option.some.inj hi
                have h18 : vs 18 = _ := hv 18 (by decide)
                simp only [relF, List.getD_cons_zero, List.getD_cons_succ, List.foldl_cons, List.foldl_nil, dstAt, List.getElem?_cons_zero, List.getElem?_cons_succ, Option.bind_some]
                go_frame
                rw [h18]
                go_wp2_with fail
                exact ⟨rfl, Below.refl _ _, rfl, rfl⟩
              | 20, _, hi =>
                obtain rfl := Option.some.inj hi
                have h19 : vs 19 = _ := hv 19 (by decide)
                simp only [relF, List.getD_cons_zero, List.getD_cons_succ, List.foldl_cons, List.foldl_nil, dstAt, List.getElem?_cons_zero, List.getElem?_cons_succ, Option.bind_some]
                go_frame
                rw [h19]
                go_wp2_with ((with_reducible show wpList _ _ _ (⟨some 73, _, _, _, _, _⟩ :: _) _ _); refine wpList_load_hash (op := ⟨some 73, _, _, _, _, _⟩) (by kernel_rfl) _ rfl v11.heap.size rfl (Tree.root mK (Tree.top K)) (Tree.root_len _ _) _ _ ((b2.block _ (lt_of_block X12.out)).trans X12.out) ?_)
                exact ⟨rfl, Below.refl _ _, rfl, rfl⟩
              | 21, _, hi =>
                obtain rfl := Option.some.inj hi
                have h19 : vs 19 = _ := hv 19 (by decide)
                simp only [relF, List.getD_cons_zero, List.getD_cons_succ, List.foldl_cons, List.foldl_nil, dstAt, List.getElem?_cons_zero, List.getElem?_cons_succ, Option.bind_some]
                go_frame
                rw [h19]
                go_wp2_with fail
                exact ⟨rfl, Below.refl _ _, rfl, rfl⟩
              | 22, _, hi =>
                obtain rfl := Option.some.inj hi
                have h19 : vs 19 = _ := hv 19 (by decide)
                have h21 : vs 21 = _ := hv 21 (by decide)
                simp only [relF, List.getD_cons_zero, List.getD_cons_succ, List.foldl_cons, List.foldl_nil, dstAt, List.getElem?_cons_zero, List.getElem?_cons_succ, Option.bind_some]
                go_frame
                rw [h19, h21]
                go_wp2_with fail
                exact ⟨rfl, Below.refl _ _, rfl, rfl⟩
              | 23, _, hi =>
                obtain rfl := Option.some.inj hi
                have h19 : vs 19 = _ := hv 19 (by decide)
                simp only [relF, List.getD_cons_zero, List.getD_cons_succ, List.foldl_cons, List.foldl_nil, dstAt, List.getElem?_cons_zero, List.getElem?_cons_succ, Option.bind_some]
                go_frame
                rw [h19]
                go_wp2_with fail
                exact ⟨rfl, (Below.refl _ _).alloc (Nat.le_refl _) _, rfl, w2.heap.size, rfl⟩
              | 24, _, hi =>
                obtain rfl := Option.some.inj hi
                have h19 : vs 19 = _ := hv 19 (by decide)
                simp only [relF, List.getD_cons_zero, List.getD_cons_succ, List.foldl_cons, List.foldl_nil, dstAt, List.getElem?_cons_zero, List.getElem?_cons_succ, Option.bind_some]
                go_frame
                rw [h19]
                go_wp2_with fail
                exact ⟨rfl, Below.refl _ _, rfl, rfl⟩
              | 25, _, hi =>
                obtain ⟨g23, e23⟩ := hv 23 (by decide)
                obtain rfl := Option.some.inj hi
                have h19 : vs 19 = _ := hv 19 (by decide)
                have h24 : vs 24 = _ := hv 24 (by decide)
                obtain ⟨q, cc, W, hrun, hs, hbb⟩ := IntsAt.copy (HA.out.below (Nat.le_refl _) b2) (by omega) ⟨g23, 0, none⟩
                simp only [relF, List.getD_cons_zero, List.getD_cons_succ, List.foldl_cons, List.foldl_nil, dstAt, List.getElem?_cons_zero, List.getElem?_cons_succ, Option.bind_some]
                go_frame
                rw [h19, e23, h24]
                go_wp2_with ((with_reducible show wpList _ _ _ (⟨some 78, _, _, _, _, _⟩ :: _) _ _); refine wpList_append_ran (by kernel_rfl) _ _ _ rfl _ _ rfl rfl hrun ?_)
                exact ⟨rfl, hbb, rfl, q, cc, rfl, hs⟩
              | 26, _, hi =>
                obtain rfl := Option.some.inj hi
                have h19 : vs 19 = _ := hv 19 (by decide)
                simp only [relF, List.getD_cons_zero, List.getD_cons_succ, List.foldl_cons, List.foldl_nil, dstAt, List.getElem?_cons_zero, List.getElem?_cons_succ, Option.bind_some]
                go_frame
                rw [h19]
                go_wp2_with fail
                exact ⟨rfl, Below.refl _ _, rfl, rfl⟩
              | 27, _, hi =>
                obtain rfl := Option.some.inj hi
                have h19 : vs 19 = _ := hv 19 (by decide)
                have h26 : vs 26 = _ := hv 26 (by decide)
                simp only [relF, List.getD_cons_zero, List.getD_cons_succ, List.foldl_cons, List.foldl_nil, dstAt, List.getElem?_cons_zero, List.getElem?_cons_succ, Option.bind_some]
                go_frame
                rw [h19, h26]
                go_wp2_with fail
                exact ⟨rfl, Below.refl _ _, rfl, rfl⟩
              | 28, _, hi =>
                obtain rfl := Option.some.inj hi
                have h19 : vs 19 = _ := hv 19 (by decide)
                simp only [relF, List.getD_cons_zero, List.getD_cons_succ, List.foldl_cons, List.foldl_nil, dstAt, List.getElem?_cons_zero, List.getElem?_cons_succ, Option.bind_some]
                go_frame
                rw [h19]
                go_wp2_with fail
                exact ⟨rfl, Below.refl _ _, rfl, rfl⟩
              | 29, _, hi =>
                obtain ⟨q25, c25, e25, s25⟩ := hv 25 (by decide)
                obtain rfl := Option.some.inj hi
                have h19 : vs 19 = _ := hv 19 (by decide)
                have h20 : vs 20 = _ := hv 20 (by decide)
                have h22 : vs 22 = _ := hv 22 (by decide)
                have h27 : vs 27 = _ := hv 27 (by decide)
                have h28 : vs 28 = _ := hv 28 (by decide)
                have hrn := manyCheck_all w2 (Tree.root mK (Tree.top K)) (Tree.root_len _ _) (mK : Int) _ _ _ _ _ _ _ _ _ (B.map Int.ofNat) (X.drop 1) (Many.prove K B) s25 (HD.out.below (Nat.le_refl _) b2) (C13.out.below (Nat.le_refl _) b2) (fun l hl => HXL.out l (List.mem_of_mem_drop hl)) (by omega) (by omega) (by omega) hL2
                rw [HCS.out] at hrn
                simp only [relF, List.getD_cons_zero, List.getD_cons_succ, List.foldl_cons, List.foldl_nil, dstAt, List.getElem?_cons_zero, List.getElem?_cons_succ, Option.bind_some]
                go_frame
                rw [h19, h20, h22, e25, h27, h28]
                go_wp2_with fail
                refine (hrn).mono ?_
                rintro e w3 ⟨rfl, b3⟩
                go_wp2_with fail
                exact ⟨rfl, b3, rfl, rfl⟩
              | 30, _, hi =>
                obtain rfl := Option.some.inj hi
                have h19 : vs 19 = _ := hv 19 (by decide)
                have h29 : vs 29 = _ := hv 29 (by decide)
                simp only [relF, List.getD_cons_zero, List.getD_cons_succ, List.foldl_cons, List.foldl_nil, dstAt, List.getElem?_cons_zero, List.getElem?_cons_succ, Option.bind_some]
                go_frame
                rw [h19, h29]
                go_wp2_with fail
                exact ⟨rfl, Below.refl _ _, rfl, rfl⟩
              | 31, _, hi =>
                obtain rfl := Option.some.inj hi
                have h19 : vs 19 = _ := hv 19 (by decide)
                have h30 : vs 30 = _ := hv 30 (by decide)
                simp only [relF, List.getD_cons_zero, List.getD_cons_succ, List.foldl_cons, List.foldl_nil, dstAt, List.getElem?_cons_zero, List.getElem?_cons_succ, Option.bind_some]
                go_frame
                rw [h19, h30]
                go_wp2_with fail
                exact ⟨rfl, Below.refl _ _, rfl, rfl⟩
              | 32, _, hi =>
                obtain rfl := Option.some.inj hi
                have h31 : vs 31 = _ := hv 31 (by decide)
                simp only [relF, List.getD_cons_zero, List.getD_cons_succ, List.foldl_cons, List.foldl_nil, dstAt, List.getElem?_cons_zero, List.getElem?_cons_succ, Option.bind_some]
                go_frame
                rw [h31]
                go_wp2_with fail
                exact ⟨rfl, Below.refl _ _, rfl, rfl⟩
              | nx + 33, him, _ => exact absurd him (by omega)
            · intro w2 b2 vs hv
              have hL2 := HL.out.below b2
              have h32 : vs 32 = _ := hv 32 (by decide)
              simp only [relF, List.drop_succ_cons, List.drop_zero, List.length_cons, List.length_nil, Nat.zero_add, Nat.reduceAdd, List.range, List.range.loop, List.foldl_cons, List.foldl_nil, dstAt, List.getElem?_cons_zero, List.getElem?_cons_succ, Option.bind_some]
              go_frame
              rw [h32]
              go_wp2_with fail
              go_ret
              exact ⟨rfl, b1.trans (b2.mono b1.size)⟩

theorem mturned_law (w : World) (oK : Option Addr) (mK cK : Nat) (K : List ByteArray) (rK : RowsAt w oK mK cK 1 strCell K) (hxK : ∀ s ∈ K, s.size ≤ maxLen) (oA : Option Addr) (mA cA : Nat) (A : List Int) (hA : RowsAt w oA mA cA 1 (intCell .i64) A) (hwA : ∀ x ∈ A, (Lit.int .i64 x).wf = true) (y : ByteArray) (hy : y.size ≤ 140737488351232) (i : Int) (hi : (Lit.int .u8 i).wf = true) (hL : Laid w) :
    Calls Tryd.prog 6 #[.slice oK mK cK, .slice oA mA cA, .string y, .int .u8 i] w fun e w' => e = .returned (.bool true) ∧ Below w.heap.size w w' := by
  have h := mturned_list w oK mK cK _ (StrsAt.of_rows rK) (strs_le hxK) oA mA cA A hA y.data.toList (by rw [← strOf_size, strOf_data]; exact hy) i hi hL
  rwa [strOf_data] at h

end Go.Proofs.YtgheacegjgaobaaDoor
