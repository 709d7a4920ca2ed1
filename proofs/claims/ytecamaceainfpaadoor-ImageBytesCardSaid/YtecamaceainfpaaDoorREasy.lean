/-
  Walks: hibernacleref02.eight, rows, joined.
-/
import Derived.Test.YtecamaceainfpaaDoorRTurn
import Derived.Test.YtecamaceainfpaaDoorSum
import Derived.Test.YtecamaceainfpaaDoorLaws2
namespace Go.Proofs.YtecamaceainfpaaDoor
open Go.RowKit

set_option maxRecDepth 100000 in
theorem eight_any (w : World) :
    Calls Tryd.prog 92 #[] w fun e w' => e = .returned (.agg (IV.map U).toArray) ∧ Below w.heap.size w w' := by
  go_enter Tryd.func92, Tryd.ntmps92
  go_wp2
  exact bodyPost_ret (v := .agg (IV.map U).toArray) (results_cell_row rfl _ _ w.heap.size 96 _ (0, 0) _ rfl (Whole.made w 96 (IV.map U).toArray) Tryd.underlying96 rfl (by kernel_rfl)) rfl ⟨rfl, (Below.refl _ _).alloc (Nat.le_refl _) _⟩

/-- the rows' signs -/
def ROWS : List (List UInt8) := SIG.map fun r => r.map fun n => if n < 10 then UInt8.ofNat (48 + n) else UInt8.ofNat (87 + n)
set_option maxRecDepth 100000 in
theorem rows_any (w : World) :
    Calls Tryd.prog 132 #[] w fun e w' => e = .returned (.slice (some ⟨w.heap.size, 0, none⟩) 10 10) ∧ w' = w.alloc (.cells (ROWS.map S).toArray 9) := by
  go_enter Tryd.func132, Tryd.ntmps132
  go_wp2
  go_ret
  exact ⟨rfl, by kernel_rfl⟩

theorem concat_S (x y : List UInt8) : Value.string ({ data := x.toArray } ++ { data := y.toArray }) = S (x ++ y) := by
  show Value.string _ = Value.string _
  congr 1
attribute [local go_sem] concat_S
theorem flatten_snoc (ls : List (List UInt8)) {k : Nat} (h : k < ls.length) : (ls.take (k + 1)).flatten = (ls.take k).flatten ++ ls.getD k [] := by
  rw [List.take_succ_eq_append_getElem h, List.flatten_append]; simp [List.getD, h]
set_option maxRecDepth 100000 in
set_option maxHeartbeats 1000000 in
theorem joined_any (w : World) (A : Option Addr) (c : Nat) (ls : List (List UInt8)) (hA : Strs w w.heap.size A ls) (hn : ls.length ≤ 1099511627776) (hl : ls.flatten.length ≤ 1099511627776) :
    Calls Tryd.prog 94 #[.slice A ls.length c] w fun e w' => e = .returned (S ls.flatten) ∧ w' = w := by
  have HA := Lib.hid hA
  clear hA
  go_enter Tryd.func94, Tryd.ntmps94
  go_wp2
  go_loopw [3, 4] (fun s i wr => ∃ k : Nat, k ≤ ls.length ∧ i = .int .i64 k ∧ s = S (ls.take k).flatten ∧ Hid (wr = w)) (fun _ i _ => ls.length - (intOf i).toNat)
  case atStart => exact ⟨0, by omega, rfl, rfl, Lib.hid rfl⟩
  case round =>
    obtain ⟨k, hk, rfl, rfl, HE⟩ := hrel
    by_cases hlt : k < ls.length
    · obtain ⟨ad, rfl, had, hc⟩ := HA.out.at' hlt
      rw [← HE.out] at hc
      have hle := flat_le ls (k + 1)
      rw [flatten_snoc ls hlt] at hle
      have HF := Lib.hid (flatten_snoc ls hlt)
      generalize ls.getD k [] = y at *
      generalize (ls.take k).flatten = x at *
      have hno : ¬ (9223372036854775807 < x.length + y.length) := by rw [List.length_append] at hle; omega
      go_wp2
      go_roundw
      case rel =>
        have R : ∃ k' : Nat, k' ≤ ls.length ∧ Value.int .i64 ((k : Int) + 1) = .int .i64 k' ∧ S (x ++ y) = S (ls.take k').flatten ∧ Hid (wr = w) := ⟨k + 1, by omega, by go_num, by rw [HF.out], HE⟩
        first | exact R | ((repeat apply Exists.intro); exact ⟨R, rfl⟩)
      case measure => simp [intOf]; omega
    · obtain rfl : k = ls.length := by omega
      rw [List.take_of_length_le (Nat.le_refl _)]
      go_wp2
      go_ret
      exact ⟨rfl, HE.out⟩
end Go.Proofs.YtecamaceainfpaaDoor
