/-
  Walks: hibernaclelaw35.size, great.
-/
import Derived.Test.YtecamaceainfpaaDoorProg
import Derived.Test.YtecamaceainfpaaDoorWords
import Derived.Test.YtecamaceainfpaaDoorRowB
namespace Go.Proofs.YtecamaceainfpaaDoor
open Go.RowKit

set_option maxHeartbeats 400000 in
theorem size_any (w : World) (B : Nat) (A : Option Addr) (ls : List (List UInt8)) (c : Nat) (hl : Strs w B A ls) (hs : sizeOf ls ≤ 1099511627776) (hn : ls.length ≤ 1099511627776) :
    Calls Tryd.prog 38 #[.slice A ls.length c] w fun e w' => e = .returned (.int .i64 (sizeOf ls)) ∧ w = w' := by
  go_enter Tryd.func38, Tryd.ntmps38
  go_wp2
  go_loop [3, 8] (fun n i => ∃ k : Nat, k ≤ ls.length ∧ i = .int .i64 k ∧ n = .int .i64 (sizeOf (ls.take k))) (fun _ i => ls.length - (intOf i).toNat)
  case atStart => exact ⟨0, Nat.zero_le _, rfl, rfl⟩
  case round =>
    obtain ⟨k, hk, rfl, rfl⟩ := hrel
    by_cases hlt : k < ls.length
    · obtain ⟨ad, rfl, _, hc⟩ := hl.at' hlt
      have hg := getD_le ls k hlt
      have ht := sizeOf_take_le ls k
      have hsn := sizeOf_snoc ls k hlt
      have HS := Lib.hid hsn
      clear hsn
      generalize hx : ls.getD k [] = x at *
      clear hx
      go_wp2
      go_round
      case rel => exact ⟨k + 1, by omega, by go_num, by rw [HS.out]; go_num⟩
      case measure => simp [intOf]; omega
    · go_wp2
      go_ret
      exact ⟨ret_int (by rw [List.take_of_length_le (by omega)]), rfl⟩
end Go.Proofs.YtecamaceainfpaaDoor
