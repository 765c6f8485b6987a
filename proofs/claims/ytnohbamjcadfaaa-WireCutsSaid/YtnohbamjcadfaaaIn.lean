/- The walks of wire.In: what is read is what Wire.dec says. -/
import Derived.Test.YtnohbamjcadfaaaNumber
import Derived.Test.YtnohbamjcadfaaaOut2
namespace Go.Proofs.Ytnohbamjcadfaaa
open Go.RowKit

/-- Bytes as a string. -/
def strOf (l : List UInt8) : ByteArray := ⟨l.toArray⟩

theorem strOf_size (l : List UInt8) : (strOf l).size = l.length := by simp [strOf, ByteArray.size]
theorem strOf_list (l : List UInt8) : (strOf l).data.toList = l := by simp [strOf]
theorem strOf_toList (l : List UInt8) : (strOf l).toList = l := by rw [ByteArray.toList_eq, strOf_list]
theorem strOf_data (s : ByteArray) : strOf s.data.toList = s := by simp [strOf]

theorem strOf_extract (l : List UInt8) (a b : Nat) : (strOf l).extract a b = strOf ((l.drop a).take (b - a)) := by
  apply ByteArray.ext
  simp [strOf, ByteArray.data_extract]

theorem strOf_from (l : List UInt8) (a : Nat) : (strOf l).extract a l.length = strOf (l.drop a) := by
  rw [strOf_extract, List.take_of_length_le (by simp)]

/-- Block b is a wire.In with the bytes l ahead of it and the error e. -/
def InIs (w : World) (b : Nat) (l : List UInt8) (e : Int) : Prop :=
  w.heap[b]? = some (.cells #[.string (strOf l), .int .i64 e] 64 (0, 0))

theorem InIs.cells {w : World} {b : Nat} {l : List UInt8} {e : Int} (h : InIs w b l e) :
    w.cell? ⟨b, 0, none⟩ = some (.string (strOf l)) ∧ w.cell? ⟨b, 1, none⟩ = some (.int .i64 e) ∧ (∀ j, w.frozen? ⟨b, j, none⟩ = false) := by
  unfold InIs at h
  refine ⟨?_, ?_, fun j => ?_⟩ <;> simp [World.cell?, World.frozen?, h]

theorem InIs.lt {w : World} {b : Nat} {l : List UInt8} {e : Int} (h : InIs w b l e) : b < w.heap.size := lt_of_block h

set_option maxRecDepth 100000 in
set_option maxHeartbeats 400000 in
theorem newIn_any (s : ByteArray) (w : World) :
    Calls Try.prog 15 #[.string s] w fun e w' => e = .returned (.pointer (some ⟨w.heap.size, 0, none⟩)) ∧ w' = w.alloc (.cells #[.string s, .int .i64 0] 64 (0, 0)) := by
  go_enter Try.func15, Try.ntmps15
  go_wp2
  go_ret
  exact ⟨rfl, rfl⟩

set_option maxRecDepth 100000 in
set_option maxHeartbeats 400000 in
theorem inErr_any (b : Nat) (l : List UInt8) (e : Int) (w : World) (h : InIs w b l e) :
    Calls Try.prog 17 #[.pointer (some ⟨b, 0, none⟩)] w fun x w' => w = w' ∧ x = .returned (.int .i64 e) := by
  obtain ⟨h0, h1, h2⟩ := h.cells
  go_enter Try.func17, Try.ntmps17
  go_wp2
  go_ret
  exact ⟨rfl, rfl⟩

set_option maxRecDepth 100000 in
set_option maxHeartbeats 400000 in
theorem inLeft_any (b : Nat) (l : List UInt8) (e : Int) (w : World) (h : InIs w b l e) :
    Calls Try.prog 18 #[.pointer (some ⟨b, 0, none⟩)] w fun x w' => w = w' ∧ x = .returned (.int .i64 l.length) := by
  obtain ⟨h0, h1, h2⟩ := h.cells
  have hs := strOf_size l
  go_enter Try.func18, Try.ntmps18
  go_wp2
  go_ret
  exact ⟨rfl, rfl⟩

/-- The error that End tells. -/
def endErr (l : List UInt8) (e : Int) : Int := if e = 0 ∧ l ≠ [] then 22 else e

set_option maxRecDepth 100000 in
set_option maxHeartbeats 400000 in
theorem inEnd_any (b : Nat) (l : List UInt8) (e : Int) (w : World) (h : InIs w b l e) :
    Calls Try.prog 22 #[.pointer (some ⟨b, 0, none⟩)] w fun x w' => w = w' ∧ x = .returned (.int .i64 (endErr l e)) := by
  obtain ⟨h0, h1, h2⟩ := h.cells
  go_enter Try.func22, Try.ntmps22
  have hs : (strOf l).toList = l := strOf_toList l
  by_cases he : e = 0
  · subst he
    cases l with
    | nil =>
      go_wp2
      go_ret
      exact ⟨rfl, rfl⟩
    | cons c r =>
      go_wp2
      go_ret
      exact ⟨rfl, rfl⟩
  · have he' : (e == 0) = false := by simpa using he
    go_wp2
    go_ret
    exact ⟨rfl, by simp [endErr, he]⟩

set_option maxRecDepth 100000 in
set_option maxHeartbeats 400000 in
theorem read_stop (b : Nat) (l : List UInt8) (e : Int) (he : e ≠ 0) (fv : Value) (w : World) (h : InIs w b l e) :
    Calls Try.prog 29 #[.pointer (some ⟨b, 0, none⟩), fv] w fun x w' => w = w' ∧ x = .returned (.bool false) := by
  obtain ⟨h0, h1, h2⟩ := h.cells
  have he' : (e == 0) = false := by simpa using he
  go_enter Try.func29, Try.ntmps29
  go_wp2_with fail
  go_ret
  exact ⟨rfl, rfl⟩

/-- What 'read' leaves behind the function that it calls. -/
def readEnd (b : Nat) (l : List UInt8) (n : Nat) (er : Int) (w1 : World) : World :=
  if er = 0 then (w1.setCell ⟨b, 1, none⟩ (.int .i64 0)).setCell ⟨b, 0, none⟩ (.string (strOf (l.drop n))) else w1.setCell ⟨b, 1, none⟩ (.int .i64 er)

theorem InIs.setCell0 {w : World} {b : Nat} {l : List UInt8} {e : Int} (h : InIs w b l e) (l' : List UInt8) : InIs (w.setCell ⟨b, 0, none⟩ (.string (strOf l'))) b l' e :=
  (heap_setCell_same w b 0 _ _ _ h).trans rfl

theorem InIs.setCell1 {w : World} {b : Nat} {l : List UInt8} {e : Int} (h : InIs w b l e) (e' : Int) : InIs (w.setCell ⟨b, 1, none⟩ (.int .i64 e')) b l e' :=
  (heap_setCell_same w b 1 _ _ _ h).trans rfl

theorem BelowBut.setCell {B b : Nat} {a w : World} (h : BelowBut B b a w) {o : Nat} (u : Value) : BelowBut B b a (w.setCell ⟨b, o, none⟩ u) :=
  h.trans ⟨rfl, rfl, rfl, by simp [World.setCell], fun k _ hk => Below.heap_setCell _ _ _ _ hk⟩

theorem readEnd_is {w1 : World} {b : Nat} {l : List UInt8} (h : InIs w1 b l 0) (n : Nat) (er : Int) :
    InIs (readEnd b l n er w1) b (if er = 0 then l.drop n else l) er ∧ BelowBut w1.heap.size b w1 (readEnd b l n er w1) := by
  unfold readEnd
  split
  · rename_i he; subst he
    exact ⟨(h.setCell1 0).setCell0 _, ((BelowBut.refl _ _ _).setCell _).setCell _⟩
  · exact ⟨h.setCell1 _, (BelowBut.refl _ _ _).setCell _⟩

theorem InIs.kept {w w' : World} {b : Nat} {l : List UInt8} {e : Int} (h : InIs w b l e) (hk : w'.heap[b]? = w.heap[b]?) : InIs w' b l e := hk.trans h

set_option maxRecDepth 100000 in
set_option maxHeartbeats 400000 in
theorem read_go (b : Nat) (l : List UInt8) (f : FuncId) (cap : Array Value) (w : World) (h : InIs w b l 0) (R : Nat → Int → World → Prop)
    (hcf : ∀ (args : Array Value) (w : World), Sem.run Try.prog (callFunc f args) w = .ok (.enter f args) w)
    (hcall : Calls Try.prog f (#[.string (strOf l)] ++ cap) w fun x w1 => ∃ (n : Nat) (er : Int), x = .returned (.tuple #[.int .i64 n, .int .i64 er]) ∧ InIs w1 b l 0 ∧ n ≤ l.length ∧ R n er w1) :
    Calls Try.prog 29 #[.pointer (some ⟨b, 0, none⟩), .func (.func f) #[] cap] w fun x w' => ∃ (n : Nat) (er : Int) (w1 : World), R n er w1 ∧ InIs w' b (if er = 0 then l.drop n else l) er ∧ BelowBut w1.heap.size b w1 w' ∧ x = .returned (.bool (decide (er = 0))) := by
  obtain ⟨h0, h1, h2⟩ := h.cells
  go_enter Try.func29, Try.ntmps29
  go_wp2_with fail

  refine hcall.mono ?_
  rintro x w1 ⟨n, er, rfl, hin, hn, hr⟩
  obtain ⟨g0, g1, g2⟩ := hin.cells
  have hs := strOf_size l
  by_cases her : er = 0
  · subst her
    have hend : readEnd b l n 0 w1 = (w1.setCell ⟨b, 1, none⟩ (.int .i64 0)).setCell ⟨b, 0, none⟩ (.string (strOf (l.drop n))) := by simp [readEnd]
    have hext := strOf_from l n
    have HE := Lib.hid hend; clear hend
    have HX := Lib.hid hext; clear hext
    clear hcf h0 h1 h2
    go_wp2_with fail
    go_ret
    have hre := readEnd_is hin n 0
    rw [HE.out] at hre
    rw [HX.out]
    exact ⟨n, 0, w1, hr, hre.1, hre.2, rfl⟩
  · have her' : (er == 0) = false := by simpa using her
    have hend : readEnd b l n er w1 = w1.setCell ⟨b, 1, none⟩ (.int .i64 er) := by simp [readEnd, her]
    have HE := Lib.hid hend; clear hend
    clear hcf h0 h1 h2
    go_wp2_with fail
    go_ret
    have hre := readEnd_is hin n er
    rw [HE.out] at hre
    exact ⟨n, er, w1, hr, hre.1, hre.2, by simp [her]⟩

set_option maxRecDepth 100000 in
set_option maxHeartbeats 400000 in
theorem num1_any (l : List UInt8) (hl : l.length ≤ maxLen) (p : Nat) (x : Value) (w : World) (hp : w.heap[p]? = some (.cells #[x] 29 (0, 0))) :
    Calls Try.prog 30 #[.string (strOf l), .pointer (some ⟨p, 0, none⟩)] w fun e w' => w' = w.setCell ⟨p, 0, none⟩ (.int .u64 (Wire.dec 0 0 l).1) ∧
      e = .returned (.tuple #[.int .i64 (Wire.dec 0 0 l).2.1, .int .i64 (Wire.dec 0 0 l).2.2]) := by
  have hc := cell_of_one hp
  have hf := free_of_one hp
  have hn := number_any (strOf l) w (by rw [strOf_size]; exact hl)
  rw [strOf_list] at hn
  have HN := Lib.hid hn; clear hn
  clear hp
  go_enter Try.func30, Try.ntmps30
  go_wp2_with fail
  refine HN.out.mono ?_
  rintro e w' ⟨rfl, rfl⟩
  go_wp2_with fail
  go_ret2
  exact ⟨rfl, rfl⟩

theorem Try.callNum1 (args : Array Value) (w : World) : Sem.run Try.prog (callFunc 30 args) w = .ok (.enter 30 args) w := by kernel_rfl
theorem Try.callText1 (args : Array Value) (w : World) : Sem.run Try.prog (callFunc 32 args) w = .ok (.enter 32 args) w := by kernel_rfl
theorem Try.callHash1 (args : Array Value) (w : World) : Sem.run Try.prog (callFunc 39 args) w = .ok (.enter 39 args) w := by kernel_rfl

set_option maxRecDepth 100000 in
set_option maxHeartbeats 400000 in
theorem inNum_any (b : Nat) (l : List UInt8) (e : Nat) (hl : l.length ≤ maxLen) (w : World) (h : InIs w b l e) :
    Calls Try.prog 16 #[.pointer (some ⟨b, 0, none⟩)] w fun x w' => x = .returned (.int .u64 (Wire.rdNum l e).1) ∧ InIs w' b (Wire.rdNum l e).2.1 (Wire.rdNum l e).2.2 ∧ BelowBut w.heap.size b w w' := by
  have hlt := h.lt
  have hal : ∀ o, InIs (w.alloc o) b l e := fun o => h.kept (Below.heap_alloc w o b hlt)
  have hbl : ∀ o, BelowBut w.heap.size b w (w.alloc o) := fun o => .of ((Below.refl _ _).alloc (Nat.le_refl _) _)
  by_cases he : e = 0
  · subst he
    have hcall := read_go b l 30 #[.pointer (some ⟨w.heap.size, 0, none⟩)] (w.alloc (.cells #[.int .u64 0] 29 (0, 0))) (hal _)
      (fun n er w1 => n = (Wire.dec 0 0 l).2.1 ∧ er = (Wire.dec 0 0 l).2.2 ∧ w1 = (w.alloc (.cells #[.int .u64 0] 29 (0, 0))).setCell ⟨w.heap.size, 0, none⟩ (.int .u64 (Wire.dec 0 0 l).1)) Try.callNum1
      ((num1_any l hl w.heap.size _ _ (heap_alloc_new w _)).mono fun x w1 ⟨hw, hx⟩ => ⟨_, _, hx, by subst hw; exact (hal _).kept (Below.heap_setCell _ _ _ _ (by simp; omega)), Wire.dec_len l, rfl, rfl, hw⟩)
    have HC := Lib.hid hcall; clear hcall
    clear hal
    go_enter Try.func16, Try.ntmps16
    go_wp2_with fail
    refine HC.out.mono ?_
    rintro x w' ⟨n, er, w1, ⟨rfl, rfl, rfl⟩, hin, hbb, rfl⟩
    have hcell : w'.cell? ⟨w.heap.size, 0, none⟩ = some (.int .u64 (Wire.dec 0 0 l).1) :=
      cell_of_one ((hbb.block _ (by simp) (by omega)).trans (one_setCell (heap_alloc_new w _)))
    have hbb2 : BelowBut w.heap.size b w w' := (hbl _).trans (BelowBut.trans (.of ((Below.refl _ _).setCell (p := ⟨w.heap.size, 0, none⟩) (Nat.le_refl _) _)) (hbb.mono (by simp)))
    have HI := Lib.hid hin; clear hin
    clear hbb HC
    go_wp2_with fail
    go_ret
    have hin := HI.out
    have hf := (Wire.dec_facts l 0 0).2
    unfold Wire.rdNum
    rw [if_neg (by simp)]
    by_cases her : (Wire.dec 0 0 l).2.2 = 0
    · rw [if_neg (by simpa using her)]
      rw [her] at hin
      exact ⟨rfl, hin, hbb2⟩
    · rw [if_pos her]
      rw [if_neg (by omega)] at hin
      exact ⟨congrArg (fun n : Nat => Ending.returned (.int .u64 n)) (hf her).1, hin, hbb2⟩
  · have hstop := fun fv => read_stop b l e (by omega) fv _ (hal (.cells #[.int .u64 0] 29 (0, 0)))
    have HS := Lib.hid hstop; clear hstop
    have HI := Lib.hid (hal (.cells #[.int .u64 0] 29 (0, 0)))
    clear hal
    go_enter Try.func16, Try.ntmps16
    go_wp2_with fail
    refine (HS.out _).mono ?_
    rintro x w' ⟨rfl, rfl⟩
    go_wp2_with fail
    go_ret
    have hr : Wire.rdNum l e = (0, l, e) := by simp [Wire.rdNum, he]
    rw [hr]
    exact ⟨rfl, HI.out, hbl _⟩

end Go.Proofs.Ytnohbamjcadfaaa
