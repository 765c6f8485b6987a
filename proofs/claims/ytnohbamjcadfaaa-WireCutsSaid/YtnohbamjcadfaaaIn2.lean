/- The walks of wire.In: Int, Text, Hash. -/
import Derived.Test.YtnohbamjcadfaaaIn
import Derived.Laws.CopyOwn
namespace Go.Proofs.Ytnohbamjcadfaaa
open Go.RowKit

set_option maxRecDepth 100000 in
set_option maxHeartbeats 400000 in
theorem inInt_any (b : Nat) (l : List UInt8) (e : Nat) (hl : l.length ≤ maxLen) (w : World) (h : InIs w b l e) :
    Calls Try.prog 28 #[.pointer (some ⟨b, 0, none⟩)] w fun x w' => x = .returned (.int .i64 (Wire.unzig (Wire.rdNum l e).1)) ∧ InIs w' b (Wire.rdNum l e).2.1 (Wire.rdNum l e).2.2 ∧ BelowBut w.heap.size b w w' := by
  have hn := inNum_any b l e hl w h
  have HN := Lib.hid hn; clear hn h
  go_enter Try.func28, Try.ntmps28
  go_wp2_with fail
  refine HN.out.mono ?_
  rintro x w' ⟨rfl, hin, hbb⟩
  have HI := Lib.hid hin; clear hin
  go_wp2_with fail
  go_ret
  exact ⟨congrArg (fun n => Ending.returned (.int .i64 n)) (unzig_i64 _ (Wire.rdNum_lt l e)), HI.out, hbb⟩

/-- The world behind a text's reader. -/
def textEnd (p : Nat) (o : Option (List UInt8)) (w : World) : World :=
  match o with
  | some t => w.setCell ⟨p, 0, none⟩ (.string (strOf t))
  | none => w

theorem txt_cases (most : Int) (l : List UInt8) (n k er : Nat) (h : Wire.dec 0 0 l = (n, k, er)) :
    (er ≠ 0 ∧ Wire.txt most l = (none, 0, er)) ∨ (er = 0 ∧ (most < 0 ∨ most < n) ∧ Wire.txt most l = (none, 0, 22)) ∨
    (er = 0 ∧ 0 ≤ most ∧ (n : Int) ≤ most ∧ l.length < k + n ∧ Wire.txt most l = (none, 0, 20)) ∨
    (er = 0 ∧ 0 ≤ most ∧ (n : Int) ≤ most ∧ k + n ≤ l.length ∧ Wire.txt most l = (some ((l.drop k).take n), k + n, 0)) := by
  unfold Wire.txt
  rw [h]
  by_cases h1 : er = 0
  · by_cases h2 : most < 0 ∨ most < n
    · exact .inr (.inl ⟨h1, h2, by simp [h1, h2]⟩)
    · by_cases h3 : l.length < k + n
      · exact .inr (.inr (.inl ⟨h1, by omega, by omega, h3, by simp [h1, h2, h3]⟩))
      · exact .inr (.inr (.inr ⟨h1, by omega, by omega, by omega, by simp [h1, h2, h3]⟩))
  · exact .inl ⟨h1, by simp [h1]⟩

set_option maxRecDepth 100000 in
set_option maxHeartbeats 400000 in
theorem text1_any (l : List UInt8) (hl : l.length ≤ maxLen) (most : Int) (hm1 : most ≤ 9223372036854775807) (q p : Nat) (x : ByteArray) (w : World) (hq : w.heap[q]? = some (.cells #[.int .i64 most] 3 (0, 0))) (hp : w.heap[p]? = some (.cells #[.string x] 9 (0, 0))) :
    Calls Try.prog 32 #[.string (strOf l), .pointer (some ⟨q, 0, none⟩), .pointer (some ⟨p, 0, none⟩)] w fun e w' => w' = textEnd p (Wire.txt most l).1 w ∧
      e = .returned (.tuple #[.int .i64 (Wire.txt most l).2.1, .int .i64 (Wire.txt most l).2.2]) := by
  have hc := cell_of_one hp
  have hf := free_of_one hp
  have hcq := cell_of_one hq
  have hn := number_any (strOf l) w (by rw [strOf_size]; exact hl)
  rw [strOf_list] at hn
  have hk := Wire.dec_len l
  have hn64 := Wire.dec_u64 l
  have hcs := txt_cases most l _ _ _ rfl
  have hs := strOf_size l
  unfold maxLen at hl
  generalize Wire.dec 0 0 l = d at hn hk hn64 hcs
  obtain ⟨n, k, er⟩ := d
  simp only at hk hn64
  have HN := Lib.hid hn; clear hn
  clear hp hq
  rcases hcs with ⟨h1, h2⟩ | ⟨h1, h3, h2⟩ | ⟨h1, h3, h4, h5, h2⟩ | ⟨h1, h3, h4, h5, h2⟩
  · have h1' : ((er : Int) != 0) = true := by simpa using h1
    have H2 := Lib.hid h2; clear h2
    go_enter Try.func32, Try.ntmps32
    go_wp2_with fail
    refine HN.out.mono ?_
    rintro e w' ⟨rfl, rfl⟩
    go_wp2_with fail
    go_ret2
    rw [H2.out]; exact ⟨rfl, rfl⟩
  · subst h1
    have H2 := Lib.hid h2; clear h2
    rcases (show most < 0 ∨ (0 ≤ most ∧ most < n) by omega) with h6 | ⟨h6, h7⟩
    all_goals
      clear h3
      go_enter Try.func32, Try.ntmps32
      go_wp2_with fail
      refine HN.out.mono ?_
      rintro e w' ⟨rfl, rfl⟩
      go_wp2_with fail
      go_ret2
      rw [H2.out]; exact ⟨rfl, rfl⟩
  · subst h1
    have H2 := Lib.hid h2; clear h2
    go_enter Try.func32, Try.ntmps32
    go_wp2_with fail
    refine HN.out.mono ?_
    rintro e w' ⟨rfl, rfl⟩
    go_wp2_with fail
    go_ret2
    rw [H2.out]; exact ⟨rfl, rfl⟩
  · subst h1
    have H2 := Lib.hid h2; clear h2
    have hext := strOf_extract l k (k + n)
    rw [show k + n - k = n by omega] at hext
    have HX := Lib.hid hext; clear hext
    go_enter Try.func32, Try.ntmps32
    go_wp2_with fail
    refine HN.out.mono ?_
    rintro e w' ⟨rfl, rfl⟩
    go_wp2_with fail
    go_ret2
    rw [H2.out]
    exact ⟨by simp only [textEnd]; rw [← HX.out], rfl⟩

end Go.Proofs.Ytnohbamjcadfaaa
