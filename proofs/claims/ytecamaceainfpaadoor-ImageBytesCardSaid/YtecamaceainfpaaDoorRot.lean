/-
  Walks: math/bits.RotateLeft32 at the four numbers that hash.mix hands over.
-/
import Derived.Test.YtecamaceainfpaaDoorProg
import Derived.Test.YtecamaceainfpaaDoorWords
import Derived.Test.YtecamaceainfpaaDoorNums
namespace Go.Proofs.YtecamaceainfpaaDoor
open Go.RowKit

set_option maxHeartbeats 400000 in
theorem rot16 (x : UInt32) (w : World) :
    Calls Tryd.prog 131 #[U x, .int .i64 (-16)] w fun e w' => e = .returned (U (R16 x)) ∧ w = w' := by
  have e1 : bits .and .u64 (IntKind.u64.wrap (-16)) 31 = 16 := by decide
  go_enter Tryd.func131, Tryd.ntmps131
  go_wp2
  go_ret
  exact ⟨ret_int (rot16_eq x), rfl⟩
set_option maxHeartbeats 400000 in
theorem rot12 (x : UInt32) (w : World) :
    Calls Tryd.prog 131 #[U x, .int .i64 (-12)] w fun e w' => e = .returned (U (R12 x)) ∧ w = w' := by
  have e1 : bits .and .u64 (IntKind.u64.wrap (-12)) 31 = 20 := by decide
  go_enter Tryd.func131, Tryd.ntmps131
  go_wp2
  go_ret
  exact ⟨ret_int (rot12_eq x), rfl⟩
set_option maxHeartbeats 400000 in
theorem rot8 (x : UInt32) (w : World) :
    Calls Tryd.prog 131 #[U x, .int .i64 (-8)] w fun e w' => e = .returned (U (R8 x)) ∧ w = w' := by
  have e1 : bits .and .u64 (IntKind.u64.wrap (-8)) 31 = 24 := by decide
  go_enter Tryd.func131, Tryd.ntmps131
  go_wp2
  go_ret
  exact ⟨ret_int (rot8_eq x), rfl⟩
set_option maxHeartbeats 400000 in
theorem rot7 (x : UInt32) (w : World) :
    Calls Tryd.prog 131 #[U x, .int .i64 (-7)] w fun e w' => e = .returned (U (R7 x)) ∧ w = w' := by
  have e1 : bits .and .u64 (IntKind.u64.wrap (-7)) 31 = 25 := by decide
  go_enter Tryd.func131, Tryd.ntmps131
  go_wp2
  go_ret
  exact ⟨ret_int (rot7_eq x), rfl⟩
end Go.Proofs.YtecamaceainfpaaDoor
