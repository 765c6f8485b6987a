/- The walk of hash.turn. -/
import Derived.Test.YteljlnkjdajkgaaDoorRows
import Derived.Test.YteljlnkjdajkgaaDoorSha
import Derived.WalkKit
import Derived.WalkSpells
import Derived.WalkLawsBesides
import Derived.Lib.Hide
import Derived.Laws.BitsAllLaws
namespace Go.Proofs.YteljlnkjdajkgaaDoor
open Go.RowKit
set_option linter.unusedSimpArgs false

theorem rot_or (n p q x : Nat) (hn : n ≤ 32) (hp : p = 2 ^ (32 - n)) (hq : q = 2 ^ n) (hx : x < 4294967296) : bits BinOp.or IntKind.u32 ((x : Int) * (p : Int) % 4294967296) ((x : Int) / (q : Int)) = (Sha.rot n x : Nat) := by
  subst hp hq
  have h2 : x / 2 ^ n < 4294967296 := Nat.lt_of_le_of_lt (Nat.div_le_self _ _) hx
  have e1 : ((x : Int) * ((2 ^ (32 - n) : Nat) : Int) % 4294967296) = ((x * 2 ^ (32 - n) % 4294967296 : Nat) : Int) := by rw [Int.natCast_emod, Int.natCast_mul]; rfl
  have e2 : ((x : Int) / ((2 ^ n : Nat) : Int)) = ((x / 2 ^ n : Nat) : Int) := by rw [Int.natCast_ediv]
  have hr := Sha.rot_shift n x hn hx
  rw [Nat.shiftRight_eq_div_pow, Nat.shiftLeft_eq, Nat.or_comm] at hr
  rw [e1, e2, u32_or_nat _ _ (Nat.mod_lt _ (by decide)) h2]
  exact congrArg _ hr

set_option maxRecDepth 100000 in
set_option maxHeartbeats 400000 in
theorem turn_2 (x : Nat) (hx : x < 4294967296) (w : World) :
    Calls Tryd.prog 42 #[.int .u32 x, .int .i64 2] w fun e w' => w = w' ∧ e = .returned (.int .u32 (Sha.rot 2 x)) := by
  have hb : bits BinOp.and IntKind.u64 (IntKind.u64.wrap (-2)) 31 = 30 := by decide
  have ho := rot_or 2 1073741824 4 x (by decide) (by decide) (by decide) hx
  have HO := Lib.hid ho; clear ho
  go_enter Tryd.func42, Tryd.ntmps42
  go_wp2
  go_ret
  exact ⟨rfl, congrArg (fun z => Ending.returned (.int .u32 z)) HO.out⟩

set_option maxRecDepth 100000 in
set_option maxHeartbeats 400000 in
theorem turn_6 (x : Nat) (hx : x < 4294967296) (w : World) :
    Calls Tryd.prog 42 #[.int .u32 x, .int .i64 6] w fun e w' => w = w' ∧ e = .returned (.int .u32 (Sha.rot 6 x)) := by
  have hb : bits BinOp.and IntKind.u64 (IntKind.u64.wrap (-6)) 31 = 26 := by decide
  have ho := rot_or 6 67108864 64 x (by decide) (by decide) (by decide) hx
  have HO := Lib.hid ho; clear ho
  go_enter Tryd.func42, Tryd.ntmps42
  go_wp2
  go_ret
  exact ⟨rfl, congrArg (fun z => Ending.returned (.int .u32 z)) HO.out⟩

set_option maxRecDepth 100000 in
set_option maxHeartbeats 400000 in
theorem turn_7 (x : Nat) (hx : x < 4294967296) (w : World) :
    Calls Tryd.prog 42 #[.int .u32 x, .int .i64 7] w fun e w' => w = w' ∧ e = .returned (.int .u32 (Sha.rot 7 x)) := by
  have hb : bits BinOp.and IntKind.u64 (IntKind.u64.wrap (-7)) 31 = 25 := by decide
  have ho := rot_or 7 33554432 128 x (by decide) (by decide) (by decide) hx
  have HO := Lib.hid ho; clear ho
  go_enter Tryd.func42, Tryd.ntmps42
  go_wp2
  go_ret
  exact ⟨rfl, congrArg (fun z => Ending.returned (.int .u32 z)) HO.out⟩

set_option maxRecDepth 100000 in
set_option maxHeartbeats 400000 in
theorem turn_11 (x : Nat) (hx : x < 4294967296) (w : World) :
    Calls Tryd.prog 42 #[.int .u32 x, .int .i64 11] w fun e w' => w = w' ∧ e = .returned (.int .u32 (Sha.rot 11 x)) := by
  have hb : bits BinOp.and IntKind.u64 (IntKind.u64.wrap (-11)) 31 = 21 := by decide
  have ho := rot_or 11 2097152 2048 x (by decide) (by decide) (by decide) hx
  have HO := Lib.hid ho; clear ho
  go_enter Tryd.func42, Tryd.ntmps42
  go_wp2
  go_ret
  exact ⟨rfl, congrArg (fun z => Ending.returned (.int .u32 z)) HO.out⟩

set_option maxRecDepth 100000 in
set_option maxHeartbeats 400000 in
theorem turn_13 (x : Nat) (hx : x < 4294967296) (w : World) :
    Calls Tryd.prog 42 #[.int .u32 x, .int .i64 13] w fun e w' => w = w' ∧ e = .returned (.int .u32 (Sha.rot 13 x)) := by
  have hb : bits BinOp.and IntKind.u64 (IntKind.u64.wrap (-13)) 31 = 19 := by decide
  have ho := rot_or 13 524288 8192 x (by decide) (by decide) (by decide) hx
  have HO := Lib.hid ho; clear ho
  go_enter Tryd.func42, Tryd.ntmps42
  go_wp2
  go_ret
  exact ⟨rfl, congrArg (fun z => Ending.returned (.int .u32 z)) HO.out⟩

set_option maxRecDepth 100000 in
set_option maxHeartbeats 400000 in
theorem turn_17 (x : Nat) (hx : x < 4294967296) (w : World) :
    Calls Tryd.prog 42 #[.int .u32 x, .int .i64 17] w fun e w' => w = w' ∧ e = .returned (.int .u32 (Sha.rot 17 x)) := by
  have hb : bits BinOp.and IntKind.u64 (IntKind.u64.wrap (-17)) 31 = 15 := by decide
  have ho := rot_or 17 32768 131072 x (by decide) (by decide) (by decide) hx
  have HO := Lib.hid ho; clear ho
  go_enter Tryd.func42, Tryd.ntmps42
  go_wp2
  go_ret
  exact ⟨rfl, congrArg (fun z => Ending.returned (.int .u32 z)) HO.out⟩

set_option maxRecDepth 100000 in
set_option maxHeartbeats 400000 in
theorem turn_18 (x : Nat) (hx : x < 4294967296) (w : World) :
    Calls Tryd.prog 42 #[.int .u32 x, .int .i64 18] w fun e w' => w = w' ∧ e = .returned (.int .u32 (Sha.rot 18 x)) := by
  have hb : bits BinOp.and IntKind.u64 (IntKind.u64.wrap (-18)) 31 = 14 := by decide
  have ho := rot_or 18 16384 262144 x (by decide) (by decide) (by decide) hx
  have HO := Lib.hid ho; clear ho
  go_enter Tryd.func42, Tryd.ntmps42
  go_wp2
  go_ret
  exact ⟨rfl, congrArg (fun z => Ending.returned (.int .u32 z)) HO.out⟩

set_option maxRecDepth 100000 in
set_option maxHeartbeats 400000 in
theorem turn_19 (x : Nat) (hx : x < 4294967296) (w : World) :
    Calls Tryd.prog 42 #[.int .u32 x, .int .i64 19] w fun e w' => w = w' ∧ e = .returned (.int .u32 (Sha.rot 19 x)) := by
  have hb : bits BinOp.and IntKind.u64 (IntKind.u64.wrap (-19)) 31 = 13 := by decide
  have ho := rot_or 19 8192 524288 x (by decide) (by decide) (by decide) hx
  have HO := Lib.hid ho; clear ho
  go_enter Tryd.func42, Tryd.ntmps42
  go_wp2
  go_ret
  exact ⟨rfl, congrArg (fun z => Ending.returned (.int .u32 z)) HO.out⟩

set_option maxRecDepth 100000 in
set_option maxHeartbeats 400000 in
theorem turn_22 (x : Nat) (hx : x < 4294967296) (w : World) :
    Calls Tryd.prog 42 #[.int .u32 x, .int .i64 22] w fun e w' => w = w' ∧ e = .returned (.int .u32 (Sha.rot 22 x)) := by
  have hb : bits BinOp.and IntKind.u64 (IntKind.u64.wrap (-22)) 31 = 10 := by decide
  have ho := rot_or 22 1024 4194304 x (by decide) (by decide) (by decide) hx
  have HO := Lib.hid ho; clear ho
  go_enter Tryd.func42, Tryd.ntmps42
  go_wp2
  go_ret
  exact ⟨rfl, congrArg (fun z => Ending.returned (.int .u32 z)) HO.out⟩

set_option maxRecDepth 100000 in
set_option maxHeartbeats 400000 in
theorem turn_25 (x : Nat) (hx : x < 4294967296) (w : World) :
    Calls Tryd.prog 42 #[.int .u32 x, .int .i64 25] w fun e w' => w = w' ∧ e = .returned (.int .u32 (Sha.rot 25 x)) := by
  have hb : bits BinOp.and IntKind.u64 (IntKind.u64.wrap (-25)) 31 = 7 := by decide
  have ho := rot_or 25 128 33554432 x (by decide) (by decide) (by decide) hx
  have HO := Lib.hid ho; clear ho
  go_enter Tryd.func42, Tryd.ntmps42
  go_wp2
  go_ret
  exact ⟨rfl, congrArg (fun z => Ending.returned (.int .u32 z)) HO.out⟩

end Go.Proofs.YteljlnkjdajkgaaDoor
