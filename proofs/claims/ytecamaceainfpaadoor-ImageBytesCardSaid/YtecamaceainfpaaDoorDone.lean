/-
  Walks: slices.Clone at texts, delta.done.
-/
import Derived.Test.YtecamaceainfpaaDoorInj
import Derived.Test.YtecamaceainfpaaDoorSame
import Derived.Deep.AppendLies
namespace Go.Proofs.YtecamaceainfpaaDoor
open Go.RowKit

theorem Tryd.infoStr : (Tryd.prog.info? 9).map (fun i => (i.zero, i.size, i.bytes)) = some (some (.string ⟨#[]⟩), 1, 16) := by kernel_rfl
theorem S_one (l : List (List UInt8)) : ∀ v ∈ l.map S, v.oneCell' = true := by
  intro v hv
  obtain ⟨b, _, rfl⟩ := List.mem_map.1 hv
  rfl
/-- a row of texts of the call's own -/
abbrev Own (w : World) (base : Nat) (v : Value) (ls : List (List UInt8)) : Prop := w.ownsRow base 9 1 v ls.length (ls.map S)
set_option maxRecDepth 100000 in
set_option maxHeartbeats 1000000 in
theorem clone_any (w : World) (A : Option Addr) (c : Nat) (ls : List (List UInt8)) (hA : Strs w w.heap.size A ls) (hn : ls.length ≤ 1099511627776) :
    Calls Tryd.prog 72 #[.slice A ls.length c] w fun e w' => (∃ v, e = .returned v ∧ Own w' w.heap.size v ls) ∧ Below w.heap.size w w' := by
  obtain ⟨i0, hi0, hz0, hz1, hz2⟩ := info_parts Tryd.infoStr
  cases A with
  | none =>
    have hls : ls = [] := by
      cases ls with
      | nil => rfl
      | cons l r => obtain ⟨ad, e, _⟩ := hA.at' (k := 0) (by simp); cases e
    subst hls
    have he : ∀ W : World, (binOp .eql 22 (.slice none 0 c) (.slice none 0 0)).run Tryd.prog W = .ok (.bool true) W := fun W => Lib.run_eql_slice_nil W 22 9 none 0 c 0 0 Tryd.underlying22
    go_enter Tryd.func72, Tryd.ntmps72
    go_wp2
    go_ret
    exact ⟨⟨_, rfl, World.ownsRow_nil _ _ _ _⟩, Below.refl _ _⟩
  | some ad =>
    have he : ∀ W : World, (binOp .eql 22 (.slice (some ad) ls.length c) (.slice none 0 0)).run Tryd.prog W = .ok (.bool false) W := fun W => Lib.run_eql_slice_nil W 22 9 (some ad) ls.length c 0 0 Tryd.underlying22
    have HN : Hid (∀ j u, (ls.map S)[j]? = some u → (w.alloc (.cells #[] 9)).cell? (ad.add j) = some u) := Lib.hid (fun j u hu => by
      obtain ⟨ad', e, hb, hc⟩ := hA j u hu
      injection e with e; subst e
      rw [← hc]; exact World.cell?_alloc_lt w _ _ (by rw [add_block]; exact hb))
    have HO : Hid ((w.alloc (.cells #[] 9)).ownsRow w.heap.size 9 1 (.slice (some ⟨w.heap.size, 0, none⟩) 0 0) 0 []) := Lib.hid (World.ownsRow_lit w #[] 0 (Nat.le_refl _) (by unfold maxLen; omega) rfl)
    have H63 : Hid (0 + ls.length ≤ maxLen) := Lib.hid (by unfold maxLen; omega)
    have HBY : Hid ((0 + ls.length) * 16 ≤ 140737488355328) := Lib.hid (by omega)
    have HBA : Hid (w.heap.size ≤ (w.alloc (.cells #[] 9)).heap.size) := Lib.hid (by simp)
    clear hA
    go_enter Tryd.func72, Tryd.ntmps72
    go_wp2_with (at_builtin; refine wpList_append_own _ rfl (.tmp 5) (.tmp 6) 22 rfl w.heap.size 9 i0 _ 1 16 Tryd.underlying22 hi0 hz0 hz1 hz2 rfl (by decide) _ _ _ rfl HO.out ad ls.length c (ls.map S) rfl (by simp) HN.out (S_one _) H63.out HBY.out HBA.out ?_; intro v' w1 hown' hgrow _)
    go_ret
    refine ⟨⟨_, rfl, by simpa using hown'⟩, ?_⟩
    exact ((Below.refl _ _).alloc (Nat.le_refl _) _).grown hgrow HBA.out (own_ge HO.out)

/-- what done gives back -/
def DonePost (w : World) (r : Option (List (List UInt8))) (e : Ending) (w' : World) : Prop :=
  (match r with
    | none => e = .returned (.tuple #[.slice none 0 0, .bool false])
    | some x => ∃ v, e = .returned (.tuple #[v, .bool true]) ∧ Own w' w.heap.size v x) ∧ Below w.heap.size w w'
theorem set_map_S (x : List (List UInt8)) (j : Nat) (y : List UInt8) : (x.map S).set j (S y) = (x.set j y).map S := by rw [List.map_set]

set_option maxRecDepth 100000 in
set_option maxHeartbeats 2000000 in
theorem done_any (w : World) (A B : Option Addr) (c d : Nat) (a : List (List UInt8)) (l : List (Int × List UInt8)) (hA : Strs w w.heap.size A a) (hB : Wrs w w.heap.size B l) (ha : a.length ≤ 274877906944) (hl : l.length ≤ 274877906944) :
    Calls Tryd.prog 45 #[.slice A a.length c, .slice B l.length d] w (DonePost w (doneL a l)) := by
  obtain ⟨i0, hi0, hz0, hz1, hz2⟩ := info_parts Tryd.infoStr
  have HA := Lib.hid hA
  have HB := Lib.hid hB
  clear hA hB
  go_enter Tryd.func45, Tryd.ntmps45
  go_wp2_with fail
  refine (clone_any w A c a HA.out (by omega)).mono ?_
  rintro e w1 ⟨⟨v1, rfl, hown1⟩, hb1⟩
  have HO1 := Lib.hid hown1
  have HB1 := Lib.hid hb1
  clear hown1 hb1
  go_wp2_with fail
  go_loopw [0, 12] (fun v i wr => ∃ (k : Nat) (x : List (List UInt8)), k ≤ l.length ∧ i = .int .i64 k ∧ x.length ≤ a.length + k ∧ Hid (doneL a (l.take k) = some x) ∧ Hid (Own wr w.heap.size v x) ∧ Hid (Below w.heap.size w wr)) (fun _ i _ => l.length - (intOf i).toNat)
  case atStart => exact ⟨0, a, by omega, rfl, by omega, Lib.hid rfl, HO1, HB1⟩
  case round =>
    obtain ⟨k, x, hk, rfl, hx, HD, HO, HW⟩ := hrel
    clear HO1 HB1
    by_cases hlt : k < l.length
    · obtain ⟨bd, rfl, hbd, b0, b1⟩ := HB.out.at' hlt
      have b0' : wr.cell? (bd.add (k * 2)) = _ := (HW.out.cell (by rw [add_block]; exact hbd)).trans b0
      have b1' : wr.cell? ⟨(bd.add (k * 2)).block, (bd.add (k * 2)).off + 1, none⟩ = _ := (HW.out.cell (by show (bd.add (k * 2)).block < _; rw [add_block]; exact hbd)).trans b1
      clear b0 b1
      have HT : Hid (l.take (k + 1) = l.take k ++ [l.getD k (0, [])]) := Lib.hid (by rw [List.take_succ_eq_append_getElem hlt]; simp [List.getD, hlt])
      have HST : Hid (doneL a (l.take (k + 1)) = step1 x (l.getD k (0, []))) := Lib.hid (by rw [HT.out, doneL_snoc, HD.out, Option.bind_some])
      have HNO : Hid (step1 x (l.getD k (0, [])) = none → doneL a l = none) := Lib.hid (fun h => doneL_take_none (k := k + 1) (by rw [HST.out, h]))
      generalize l.getD k (0, []) = p at *
      obtain ⟨n, y⟩ := p
      dsimp only at b0' b1'
      have hbs : w.heap.size ≤ wr.heap.size := HW.out.size
      have HE := Lib.hid (HW.out.alloc hbs (.cells #[.int .i64 n, S y] 36))
      have HOE := Lib.hid (HO.out.alloc (.cells #[.int .i64 n, S y] 36))
      by_cases hneg : n < 0
      · have d1 : decide (n < 0) = true := by simpa using hneg
        have HN := Lib.hid (HNO.out (step1_out (.inl hneg)))
        clear hneg
        go_wp2_with fail
        go_ret2
        unfold DonePost
        rw [HN.out]
        exact ⟨rfl, HE.out⟩
      · have d1 : decide (n < 0) = false := by simpa using hneg
        obtain ⟨sh, hsh⟩ := own_shape HO.out (by omega)
        obtain ⟨j, hj⟩ : ∃ j : Nat, n = (j : Int) := ⟨n.toNat, by omega⟩
        subst hj
        clear hneg
        by_cases hgt : x.length < j
        · have d2 : decide ((x.length : Int) < (j : Int)) = true := by simp; omega
          have d2' : decide (x.length < j) = true := by simp; omega
          have HN := Lib.hid (HNO.out (step1_out (.inr (by show (x.length : Int) < (j : Int); omega))))
          obtain ⟨cc, rfl, _, _⟩ := hsh
          go_wp2_with fail
          go_ret2
          unfold DonePost
          rw [HN.out]
          exact ⟨rfl, HE.out⟩
        · have d2 : decide ((x.length : Int) < (j : Int)) = false := by simp; omega
          have d2' : decide (x.length < j) = false := by simp; omega
          by_cases heq : j = x.length
          · subst heq
            have d3 : ((x.length : Int) == (x.length : Int)) = true := by simp
            have HS1 : Hid (doneL a (l.take (k + 1)) = some (x ++ [y])) := Lib.hid (by rw [HST.out]; exact step1_end rfl)
            obtain ⟨cc, rfl, _, _⟩ := hsh
            have HOA := Lib.hid (HOE.out.alloc (.cells #[S y] 9))
            have HNW : Hid (∀ i u, [S y][i]? = some u → ((wr.alloc (.cells #[.int .i64 (x.length : Int), S y] 36)).alloc (.cells #[S y] 9)).cell? ((⟨wr.heap.size + 1, 0, none⟩ : Addr).add i) = some u) := Lib.hid (fun i u hu => by
              obtain ⟨ad', e', _, hc'⟩ := lies_made (wr.alloc (.cells #[.int .i64 (x.length : Int), S y] 36)) 9 [S y] ((wr.alloc (.cells #[.int .i64 (x.length : Int), S y] 36)).heap.size + 1) (by omega) i u hu
              injection e' with e'; subst e'
              rw [show (wr.alloc (.cells #[.int .i64 (x.length : Int), S y] 36)).heap.size = wr.heap.size + 1 by simp] at hc'
              exact hc')
            have H1 : Hid (∀ u ∈ [S y], u.oneCell' = true) := Lib.hid (by simp [Value.oneCell'])
            have H63 : Hid (x.length + 1 ≤ maxLen) := Lib.hid (by unfold maxLen; omega)
            have HBY : Hid ((x.length + 1) * 16 ≤ 140737488355328) := Lib.hid (by omega)
            have HBA : Hid (w.heap.size ≤ ((wr.alloc (.cells #[.int .i64 (x.length : Int), S y] 36)).alloc (.cells #[S y] 9)).heap.size) := Lib.hid (by simp; omega)
            have HE2 := Lib.hid (HE.out.alloc HE.out.size (.cells #[S y] 9))
            go_wp2_with (at_builtin; refine wpList_append_own _ rfl (.tmp 39) (.tmp 42) 22 rfl w.heap.size 9 i0 _ 1 16 Tryd.underlying22 hi0 hz0 hz1 hz2 rfl (by decide) _ _ _ rfl HOA.out ⟨wr.heap.size + 1, 0, none⟩ 1 1 [S y] rfl rfl HNW.out H1.out H63.out HBY.out HBA.out ?_; intro v' w3 hown' hgrow _)
            have HO3 : Hid (Own w3 w.heap.size v' (x ++ [y])) := Lib.hid (by
              have := hown'
              rw [show (x.map S ++ [S y]) = (x ++ [y]).map S by simp] at this
              unfold Own
              rw [List.length_append]
              exact this)
            have HB3 : Hid (Below w.heap.size w w3) := Lib.hid (HE2.out.grown hgrow HBA.out (own_ge HOA.out))
            clear hown' hgrow HOA HNW
            go_wp2_with fail
            go_roundw
            case rel =>
              have R : ∃ (k' : Nat) (x' : List (List UInt8)), k' ≤ l.length ∧ Value.int .i64 ((k : Int) + 1) = .int .i64 k' ∧ x'.length ≤ a.length + k' ∧ Hid (doneL a (l.take k') = some x') ∧ Hid (Own w3 w.heap.size v' x') ∧ Hid (Below w.heap.size w w3) := ⟨k + 1, x ++ [y], by omega, by go_num, by simp; omega, HS1, HO3, HB3⟩
              first | exact R | ((repeat apply Exists.intro); exact ⟨R, rfl⟩)
            case measure => simp [intOf]; omega
          · have hjx : j < x.length := by omega
            have d3 : ((j : Int) == (x.length : Int)) = false := by simp; omega
            have HS1 : Hid (doneL a (l.take (k + 1)) = some (x.set j y)) := Lib.hid (by rw [HST.out]; exact step1_in rfl hjx)
            clear hsh
            obtain ⟨g, cap, hv, hgb, hgl⟩ := HO.out.form (by omega)
            rw [hv] at HO HOE
            rw [hv]
            have cj : (wr.alloc (.cells #[.int .i64 (j : Int), S y] 36)).cell? ⟨g, j, none⟩ = some (S (x.getD j [])) := (HOE.out.cellAt j (by omega)).trans (by simp [hjx])
            have fj := HOE.out.frozenAt j
            obtain ⟨hst, hgr⟩ := HO.out.stored j (S y)
            rw [set_map_S] at hst
            have HO3 : Hid (Own ((wr.setCell ⟨g, j, none⟩ (S y)).alloc (.cells #[.int .i64 (j : Int), S y] 36)) w.heap.size (.slice (some ⟨g, 0, none⟩) x.length cap) (x.set j y)) := Lib.hid (by unfold Own; rw [List.length_set]; exact hst.alloc _)
            have HB3 : Hid (Below w.heap.size w ((wr.setCell ⟨g, j, none⟩ (S y)).alloc (.cells #[.int .i64 (j : Int), S y] 36))) := Lib.hid ((HW.out.setCell (p := ⟨g, j, none⟩) hgb _).alloc (by simpa [World.setCell] using hbs) _)
            clear hst hgr hv
            have j0 : (0 : Int) ≤ (j : Int) := by omega
            have j1 : (j : Int) < (x.length : Int) := by omega
            go_wp2_with fail
            refine ⟨⟨k + 1, x.set j y, by omega, by go_num, by rw [List.length_set]; omega, HS1, HO3, HB3⟩, by simp [intOf]; omega⟩
    · obtain rfl : k = l.length := by omega
      have hd : decide (l.length < l.length) = false := by simp
      rw [List.take_of_length_le (Nat.le_refl _)] at HD
      go_wp2_with fail
      go_ret2
      unfold DonePost
      rw [HD.out]
      exact ⟨⟨_, rfl, HO.out⟩, HW.out⟩
end Go.Proofs.YtecamaceainfpaaDoor
