/-
  Walk: (*hash.state).add.
-/
import Derived.Test.YtecamaceainfpaaDoorTake
import Derived.Test.YtecamaceainfpaaDoorStream
import Derived.Test.YtecamaceainfpaaDoorLaws3
namespace Go.Proofs.YtecamaceainfpaaDoor
open Go.RowKit

theorem str_mid (q : List UInt8) (m n : Nat) : Value.string ((⟨q.toArray⟩ : ByteArray).extract m n) = S ((q.drop m).take (n - m)) := by
  unfold S
  congr 1
  apply ByteArray.ext
  rw [ByteArray.data_extract]
  simp [List.extract_toArray, List.extract_eq_take_drop]
theorem str_drop (q : List UInt8) (m : Nat) : Value.string ((⟨q.toArray⟩ : ByteArray).extract m q.length) = S (q.drop m) := by
  rw [str_mid, List.take_of_length_le (by simp)]
/-- a string value's length -/
def strLen : Value → Nat
  | .string s => s.size
  | _ => 0
theorem strLen_S (l : List UInt8) : strLen (S l) = l.length := by simp [strLen, ByteArray.size]
theorem Tabs.only {w w' : World} {g : Nat} (h : Tabs w) (hf : w.grownBy w' (some g)) (h0 : g ≠ 0) (h1 : g ≠ 1) : Tabs w' := by
  have l0 := h.lt0; have l1 := h.lt1
  obtain ⟨⟨t0, f0, e0⟩, ⟨t1, f1, e1⟩⟩ := h
  exact ⟨⟨t0, f0, (hf.block _ l0 (by simp; omega)).trans e0⟩, ⟨t1, f1, (hf.block _ l1 (by simp; omega)).trans e1⟩⟩
theorem only_put {w : World} {g : Nat} (i : Nat) (v : Value) : w.grownBy (w.setCell ⟨g, i, none⟩ v) (some g) :=
  ⟨rfl, rfl, rfl, by simp [World.setCell], fun j _ hne => Below.heap_setCell w ⟨g, i, none⟩ v j (fun e => hne (by rw [e]))⟩
theorem only_draw (w : World) (row : Option Nat) : w.grownBy w.drew row := ⟨rfl, rfl, rfl, Nat.le_refl _, fun _ _ _ => rfl⟩

set_option maxRecDepth 100000 in
set_option maxHeartbeats 2000000 in
theorem add_any (w : World) (g : Nat) (t : TypeId) (hs : List UInt32) (pre p : List UInt8) (h : List UInt32) (wt : List UInt8) (f n : Nat) (hT : Tabs w) (hg : Whole w g t (stCells h wt f n).toArray) (hg0 : g ≠ 0) (hg1 : g ≠ 1)
    (hh : hs.length = 8) (hr : Rep hs pre h wt f n) (ha : Alive f n) (hl : pre.length + p.length ≤ 1099511627776) :
    Calls Tryd.prog 67 #[.pointer (some ⟨g, 0, none⟩), S p] w fun e w' => e = .returned (.tuple #[]) ∧ (∃ h' wt' f' n', Whole w' g t (stCells h' wt' f' n').toArray ∧ Rep hs (pre ++ p) h' wt' f' n' ∧ Alive f' n') ∧ w.grownBy w' (some g) := by
  have HG := Lib.hid hg
  have HR := Lib.hid hr
  have HA := Lib.hid ha
  have HT := Lib.hid hT
  have HH := Lib.hid hh
  clear hg hr ha hT hh
  go_enter Tryd.func67, Tryd.ntmps67
  go_wp2
  go_loopw [1] (fun s wr => ∃ (j : Nat) (h : List UInt32) (wt : List UInt8) (f n : Nat), j ≤ p.length ∧ s = S (p.drop j) ∧ Hid (Whole wr g t (stCells h wt f n).toArray) ∧ Hid (Rep hs (pre ++ p.take j) h wt f n) ∧ Hid (Alive f n) ∧ Hid (w.grownBy wr (some g))) (fun s _ => strLen s)
  case atStart => exact ⟨0, h, wt, f, n, by omega, by simp, HG, by simpa using HR, HA, Lib.hid (World.grownBy.refl _ _)⟩
  case round =>
    clear HG HR HA h wt f n
    obtain ⟨j, h, wt, f, n, hj, rfl, HG, HR, HA, HF⟩ := hrel
    have hf := HR.out.f_le
    have hln := HR.out.len
    have hn1 : n ≤ 1099511627776 := by rw [List.length_append, List.length_take] at hln; omega
    clear hln
    have H8 : Hid (h.length = 8) := Lib.hid (HR.out.h_length HH.out)
    have H64 : Hid (wt.length = 64) := Lib.hid HR.out.w_length
    have c72 : wr.cell? ⟨g, 72, none⟩ = some (.int .i64 (f : Int)) := by rw [HG.out.cell]; simpa using stCells_f H8.out H64.out
    have c73 : wr.cell? ⟨g, 73, none⟩ = some (.int .u64 (n : Int)) := by rw [HG.out.cell]; simpa using stCells_n H8.out H64.out
    have f72 := HG.out.free 72
    have f73 := HG.out.free 73
    by_cases hlt : j < p.length
    · have hpos : 0 < (p.drop j).length := by simp; omega
      obtain ⟨q, HQ⟩ : ∃ z, Hid (p.drop j = z) := ⟨_, Lib.hid rfl⟩
      rw [HQ.out] at hpos
      have hql : q.length ≤ 1099511627776 := by rw [← HQ.out, List.length_drop]; omega
      rw [HQ.out]
      go_upto_if 12 with (fail)
      go_cut [] (fun wc => ∃ (h' : List UInt32) (f' n' : Nat), f' < 64 ∧ n' ≤ 1099511627776 + 64 ∧ Hid (h'.length = 8) ∧ Hid (Whole wc g t (stCells h' wt f' n').toArray) ∧ Hid (Rep hs (pre ++ p.take j) h' wt f' n') ∧ Hid (w.grownBy wc (some g)))
      case first =>
        by_cases h64 : f = 64
        · subst h64
          have hw1 : Whole (wr.setCell ⟨g, 73, none⟩ (.int .u64 ((n : Int) + 64))) g t (stCells h wt 64 (n + 64)).toArray := by
            have := HG.out.set 73 (.int .u64 ((n : Int) + 64))
            rw [List.setIfInBounds_toArray, show ((n : Int) + 64) = ((n + 64 : Nat) : Int) by omega, stCells_set_n H8.out H64.out] at this
            rw [show ((n : Int) + 64) = ((n + 64 : Nat) : Int) by omega]
            exact this
          have hf1 := HF.out.trans (only_put (w := wr) (g := g) 73 (.int .u64 ((n : Int) + 64)))
          have HW1 := Lib.hid hw1
          have HF1 := Lib.hid hf1
          clear hw1 hf1
          go_wp2_with fail
          refine (take_any _ g t h wt 64 (n + 64) false (HT.out.only HF1.out hg0 hg1) HW1.out H8.out H64.out).mono ?_
          rintro e w2 ⟨rfl, hw2, hf2⟩
          have HW2 := Lib.hid hw2
          have HF2 := Lib.hid hf2
          clear hw2 hf2
          have k72 : w2.cell? ⟨g, 72, none⟩ = some (.int .i64 64) := by rw [HW2.out.cell]; simpa using stCells_f (f := 64) (n := n + 64) (takeL_length h wt (n + 64) false) H64.out
          have k72f := HW2.out.free 72
          go_wp2
          go_meet
          refine ⟨_, 0, n + 64, by omega, by omega, Lib.hid (takeL_length h wt (n + 64) false), Lib.hid ?_, Lib.hid HR.out.full, Lib.hid ((HF1.out.trans HF2.out).trans (only_put 72 _))⟩
          have := HW2.out.set 72 (.int .i64 ((0 : Nat) : Int))
          rw [List.setIfInBounds_toArray, stCells_set_f (takeL_length _ _ _ _) H64.out] at this
          exact this
        · have hne : ((f : Int) == 64) = false := by simp; omega
          go_wp2
          go_meet
          exact ⟨h, f, n, by omega, by omega, H8, HG, HR, HF⟩
      case rest =>
        clear c72 c73 f72 f73 HG HR HA HF hf hn1 H8
        obtain ⟨h', f', n', hf', hn', H8, HG, HR, HF⟩ := hcut
        have c72 : wc.cell? ⟨g, 72, none⟩ = some (.int .i64 (f' : Int)) := by rw [HG.out.cell]; simpa using stCells_f H8.out H64.out
        have if0 : (0 : Int) ≤ (f' : Int) := by omega
        have if1 : (f' : Int) ≤ 64 := by omega
        have hne64 : ¬ (64 = f') := by omega
        go_wp2
        go_still_tail 9, (by kernel_rfl)
        change wpList _ _ _ _ _ wc.drew
        refine wpList_copy_str rfl (.tmp 32) (.tmp 33) 73 9 rfl 5 Tryd.underlying73 (by kernel_rfl) g (8 + f') (64 - f') (64 - f') q rfl rfl (stCells h' wt f' n') t HG.out.draw (by rw [stCells_length H8.out H64.out]; omega) ?_
        intro w3 H3 F3
        have hxl : (q.take (64 - f')).length ≤ 64 - f' := List.length_take_le _ _
        have hxp : 0 < (q.take (64 - f')).length := by rw [List.length_take]; omega
        have hxq : (q.take (64 - f')).length ≤ q.length := by rw [List.length_take]; omega
        have HX : Hid (q.take (q.take (64 - f')).length = q.take (64 - f')) := Lib.hid (by rw [List.length_take]; by_cases hh : 64 - f' ≤ q.length; (rw [Nat.min_eq_left hh]); (rw [Nat.min_eq_right (by omega), List.take_of_length_le (Nat.le_refl _), List.take_of_length_le (by omega)]))
        have HG3 : Hid (Whole w3 g t (stCells h' (wt.take f' ++ (q.take (64 - f') ++ wt.drop (f' + (q.take (64 - f')).length))) f' n').toArray) := Lib.hid (by rw [← stCells_put H8.out H64.out f' _ (by omega)]; exact H3.out)
        have HR3 := Lib.hid (HR.out.put (q.take (64 - f')) (by omega))
        have HF3 := Lib.hid (HF.out.trans ((only_draw wc _).trans F3.out))
        clear H3 F3 HG HR HF c72
        generalize q.take (64 - f') = x at *
        have H64' : Hid ((wt.take f' ++ (x ++ wt.drop (f' + x.length))).length = 64) := Lib.hid HR3.out.w_length
        generalize wt.take f' ++ (x ++ wt.drop (f' + x.length)) = wt' at *
        have c72 : w3.cell? ⟨g, 72, none⟩ = some (.int .i64 (f' : Int)) := by rw [HG3.out.cell]; simpa using stCells_f H8.out H64'.out
        have f72 := HG3.out.free 72
        go_wp2
        go_roundw
        case rel =>
          have R : ∃ (j : Nat) (h : List UInt32) (wt : List UInt8) (f n : Nat), j ≤ p.length ∧ S (q.drop x.length) = S (p.drop j) ∧ Hid (Whole (w3.setCell ⟨g, 72, none⟩ (.int .i64 ((f' : Int) + (x.length : Int)))) g t (stCells h wt f n).toArray) ∧ Hid (Rep hs (pre ++ p.take j) h wt f n) ∧ Hid (Alive f n) ∧ Hid (w.grownBy (w3.setCell ⟨g, 72, none⟩ (.int .i64 ((f' : Int) + (x.length : Int)))) (some g)) := by
            refine ⟨j + x.length, h', wt', f' + x.length, n', ?_, ?_, Lib.hid ?_, Lib.hid ?_, Lib.hid (fun _ => by omega), Lib.hid (HF3.out.trans (only_put 72 _))⟩
            · have : q.length = p.length - j := by rw [← HQ.out, List.length_drop]
              omega
            · rw [← HQ.out, List.drop_drop]
            · have := HG3.out.set 72 (.int .i64 ((f' + x.length : Nat) : Int))
              rw [List.setIfInBounds_toArray, stCells_set_f H8.out H64'.out] at this
              rw [show ((f' : Int) + (x.length : Int)) = ((f' + x.length : Nat) : Int) by omega]
              exact this
            · have hx2 : p.take (j + x.length) = p.take j ++ x := by
                rw [List.take_add, HQ.out, HX.out]
              rw [hx2, ← List.append_assoc]
              exact HR3.out
          rw [str_drop]
          first | exact R | ((repeat apply Exists.intro); exact ⟨R, rfl⟩)
        case measure =>
          rw [str_drop, strLen_S, strLen_S, List.length_drop]
          omega
    · have hz : p.drop j = [] := List.drop_of_length_le (by omega)
      rw [hz]
      go_wp2
      go_end0
      have hp : p.take j = p := List.take_of_length_le (by omega)
      rw [hp] at HR
      exact ⟨rfl, ⟨h, wt, f, n, HG.out, HR.out, HA.out⟩, HF.out⟩
end Go.Proofs.YtecamaceainfpaaDoor
