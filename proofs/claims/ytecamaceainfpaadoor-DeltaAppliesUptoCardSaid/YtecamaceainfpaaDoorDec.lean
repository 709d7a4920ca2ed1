/-
  Walks: num.Dec, num.Int, hibernacleref01.Dec, hibernacleref01.Int.
-/
import Derived.Test.YtecamaceainfpaaDoorDecP
import Derived.Test.YtecamaceainfpaaDoorShelfS
import Derived.Test.YtecamaceainfpaaDoorRHashB
import Derived.Lib.SmallJoins
import Derived.Lib.AtoiErrMem
namespace Go.Proofs.YtecamaceainfpaaDoor
open Go.RowKit
attribute [local go_sem] concat_S

/-- the library's variables that numbers and their texts read -/
def STabs (w : World) : Prop :=
  Lib.TabIs Tryd.prog w "internal/strconv.uint64pow10" .u64 Lib.pow10Tab ∧ (∃ tp p, w.var? Tryd.prog "strconv.ErrSyntax" = some #[.iface tp p]) ∧ (∃ tp p, w.var? Tryd.prog "strconv.ErrRange" = some #[.iface tp p])
theorem STabs.below {w w' : World} {B : Nat} (h : STabs w) (hB : w.heap.size ≤ B) (hb : Below B w w') : STabs w' := by
  obtain ⟨h1, ⟨t2, p2, h2⟩, ⟨t3, p3, h3⟩⟩ := h
  refine ⟨Joins.var_stays (g := 3) (by kernel_rfl) h1 hb hB, ⟨t2, p2, ?_⟩, ⟨t3, p3, ?_⟩⟩
  · exact Joins.var_stays (g := 4) (by kernel_rfl) h2 hb hB
  · exact Joins.var_stays (g := 5) (by kernel_rfl) h3 hb hB
theorem below_grow (w : World) (k : Nat) (os : Array Obj) : Below w.heap.size w (Sort.grow (w.drewN k) os) :=
  ⟨rfl, rfl, rfl, by simp [Sort.grow], fun i hi => by simp only [Sort.grow]; exact Array.getElem?_append_left hi⟩
set_option maxRecDepth 100000 in
theorem dec_any (w : World) (n : Int) (hn : inI n) (hT : STabs w) :
    Calls Tryd.prog 54 #[.int .i64 n] w fun e w' => e = .returned (S (Lib.itoa n)) ∧ Below w.heap.size w w' := by
  have HC := Lib.hid (Tryd.strconv_FormatInt_10 n hn.1 hn.2 w hT.1)
  clear hn hT
  go_enter Tryd.func54, Tryd.ntmps54
  go_wp2_with fail
  refine HC.out.mono ?_
  rintro e w1 ⟨rfl, k, os, rfl⟩
  go_wp2_with fail
  go_ret
  exact ⟨rfl, below_grow w k os⟩
/-- what Int gives back -/
def IntPost (w : World) (q : Option Int) (e : Ending) (w' : World) : Prop :=
  (match q with
    | none => e = .returned (.tuple #[.int .i64 0, .bool false])
    | some n => e = .returned (.tuple #[.int .i64 n, .bool true])) ∧ Below w.heap.size w w'
set_option maxRecDepth 100000 in
set_option maxHeartbeats 1000000 in
theorem int_any (w : World) (s : List UInt8) (hs : s.length ≤ 1099511627776) (hT : STabs w) :
    Calls Tryd.prog 87 #[S s] w (IntPost w (intP s)) := by
  have HT := Lib.hid hT
  have hsz : (⟨s.toArray⟩ : ByteArray).size = s.length := by simp [ByteArray.size]
  have HSZ := Lib.hid hsz
  clear hT hsz
  go_enter Tryd.func87, Tryd.ntmps87
  go_wp2_with fail
  cases hp : Lib.parseIntB 64 s with
  | ok v =>
    have hv : inI v := by
      have := Lib.parseIntB_bounds hp
      unfold inI
      have e : ((2 ^ (64 - 1) : Nat) : Int) = 9223372036854775808 := by decide
      rw [e] at this
      omega
    refine (Tryd.strconv_ParseInt_10_at64_ok ⟨s.toArray⟩ (by rw [HSZ.out]; omega) v hp w).mono ?_
    rintro e w1 ⟨rfl, hw⟩
    have hb1 : Below w.heap.size w w1 := by
      rcases hw with rfl | ⟨t, rfl⟩
      · exact Below.refl _ _
      · exact Lib.bytesWorld_below _ _ _
    clear hw
    have HB1 := Lib.hid hb1
    have HT1 := Lib.hid (HT.out.below (Nat.le_refl _) hb1)
    have HV := Lib.hid hv
    clear hb1 hv
    have HP := Lib.hid hp
    clear hp
    go_wp2_with fail
    refine (dec_any w1 v HV.out HT1.out).mono ?_
    rintro e w2 ⟨rfl, hb2⟩
    have HB2 := Lib.hid (HB1.out.trans (hb2.mono HB1.out.size))
    clear hb2
    by_cases he : Lib.itoa v = s
    · have HQ : Hid (intP s = some v) := Lib.hid (by unfold intP; rw [HP.out]; dsimp only; rw [if_pos he])
      have hbe : (Lib.itoa v == s) = true := beq_iff_eq.2 he
      have hbn : (Lib.itoa v != s) = false := by simp [bne, hbe]
      clear he
      go_wp2_with fail
      go_ret2
      unfold IntPost
      rw [HQ.out]
      exact ⟨rfl, HB2.out⟩
    · have HQ : Hid (intP s = none) := Lib.hid (by unfold intP; rw [HP.out]; dsimp only; rw [if_neg he])
      have hbe : (Lib.itoa v == s) = false := beq_eq_false_iff_ne.2 he
      have hbn : (Lib.itoa v != s) = true := by simp [bne, hbe]
      clear he
      go_wp2_with fail
      go_ret2
      unfold IntPost
      rw [HQ.out]
      exact ⟨rfl, HB2.out⟩
  | range =>
    have HQ : Hid (intP s = none) := Lib.hid (by unfold intP; rw [hp])
    obtain ⟨tp, p, hv⟩ := HT.out.2.2
    refine (Tryd.strconv_ParseInt_10_at64_range_var ⟨s.toArray⟩ (by rw [HSZ.out]; omega) hp tp p w hv).mono ?_
    rintro e w1 ⟨N, rfl, _, _, hb1⟩
    have HB1 := Lib.hid hb1
    clear hb1 hp hv
    generalize Lib.intSat 64 _ = z
    go_wp2_with fail
    go_ret2
    unfold IntPost
    rw [HQ.out]
    exact ⟨rfl, HB1.out⟩
  | _ =>
    have HQ : Hid (intP s = none) := Lib.hid (by unfold intP; rw [hp])
    obtain ⟨tp, p, hv⟩ := HT.out.2.1
    refine (Tryd.strconv_ParseInt_10_at64_bad ⟨s.toArray⟩ (by rw [HSZ.out]; omega) (fun v h => by have := hp.symm.trans h; cases this) (fun h => by have := hp.symm.trans h; cases this) tp p w hv).mono ?_
    rintro e w1 ⟨N, rfl, _, _, hb1⟩
    have HB1 := Lib.hid hb1
    clear hb1 hp hv
    go_wp2_with fail
    go_ret2
    unfold IntPost
    rw [HQ.out]
    exact ⟨rfl, HB1.out⟩
end Go.Proofs.YtecamaceainfpaaDoor
