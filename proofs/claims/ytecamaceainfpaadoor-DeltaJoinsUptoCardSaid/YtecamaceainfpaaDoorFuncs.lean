/-
  Walks: the function values of delta.Bytes, slices.IndexFunc, slices.ContainsFunc, delta.each.
-/
import Derived.Test.YtecamaceainfpaaDoorWide
import Derived.Test.YtecamaceainfpaaDoorDec
import Derived.Deep.RegionHeld3
namespace Go.Proofs.YtecamaceainfpaaDoor
open Go.RowKit

set_option maxRecDepth 100000 in
theorem below_any (w : World) (n : Int) (y : List UInt8) :
    Calls Tryd.prog 50 #[.agg #[.int .i64 n, S y]] w fun e w' => e = .returned (.bool (decide (n < 0))) ∧ Below w.heap.size w w' := by
  go_enter Tryd.func50, Tryd.ntmps50
  go_wp2_with fail
  go_ret
  exact ⟨rfl, (Below.refl _ _).alloc (Nat.le_refl _) _⟩
/-- is there a number below 0 among writes? -/
def negs (l : List (Int × List UInt8)) : Bool := l.any fun p => decide (p.1 < 0)
/-- where the first number below 0 stands -/
def IdxPost (w : World) (l : List (Int × List UInt8)) (e : Ending) (w' : World) : Prop :=
  (∃ z : Int, e = .returned (.int .i64 z) ∧ decide (0 ≤ z) = negs l) ∧ Below w.heap.size w w'
theorem negs_no {l : List (Int × List UInt8)} {k : Nat} (hk : k < l.length) (h : negs (l.take k) = false) (h2 : ¬ (l.getD k (0, [])).1 < 0) : negs (l.take (k + 1)) = false := by
  rw [List.take_succ_eq_append_getElem hk]
  unfold negs at *
  rw [List.any_append, h]
  simp [List.getD, hk] at h2
  simp; omega
theorem negs_yes {l : List (Int × List UInt8)} {k : Nat} (hk : k < l.length) (h2 : (l.getD k (0, [])).1 < 0) : negs l = true := by
  unfold negs
  rw [List.any_eq_true]
  refine ⟨l[k], List.getElem_mem hk, ?_⟩
  simp [List.getD, hk] at h2
  simpa using h2
set_option maxRecDepth 100000 in
set_option maxHeartbeats 1000000 in
theorem indexFunc_any (w : World) (B : Option Addr) (d : Nat) (l : List (Int × List UInt8)) (hB : Wrs w w.heap.size B l) (hl : l.length ≤ 274877906944) :
    Calls Tryd.prog 78 #[.slice B l.length d, .func (.func 50) #[] #[]] w (IdxPost w l) := by
  have HB := Lib.hid hB
  clear hB
  go_enter Tryd.func78, Tryd.ntmps78
  go_wp2_with fail
  go_loopw [8] (fun i wr => ∃ k : Nat, k ≤ l.length ∧ i = .int .i64 k ∧ Hid (negs (l.take k) = false) ∧ Hid (Below w.heap.size w wr)) (fun i _ => l.length - (intOf i).toNat)
  case atStart => exact ⟨0, by omega, rfl, Lib.hid rfl, Lib.hid (Below.refl _ _)⟩
  case round =>
    obtain ⟨k, hk, rfl, HN, HW⟩ := hrel
    by_cases hlt : k < l.length
    · obtain ⟨bd, rfl, hbd, b0, b1⟩ := HB.out.at' hlt
      have b0' : wr.cell? (bd.add (k * 2)) = _ := (HW.out.cell (by rw [add_block]; exact hbd)).trans b0
      have b1' : wr.cell? ⟨(bd.add (k * 2)).block, (bd.add (k * 2)).off + 1, none⟩ = _ := (HW.out.cell (by show (bd.add (k * 2)).block < _; rw [add_block]; exact hbd)).trans b1
      clear b0 b1
      have HY := Lib.hid (@negs_yes l k hlt)
      have HNO := Lib.hid (@negs_no l k hlt HN.out)
      generalize l.getD k (0, []) = p at *
      obtain ⟨n, y⟩ := p
      dsimp only at b0' b1'
      have i0 : (0 : Int) ≤ (k : Int) := by omega
      have i1 : (k : Int) < (l.length : Int) := by omega
      go_wp2_with fail
      refine (below_any wr n y).mono ?_
      rintro e w1 ⟨rfl, hb1⟩
      have HW1 := Lib.hid (HW.out.trans (hb1.mono HW.out.size))
      clear hb1 b0' b1'
      by_cases hn : n < 0
      · have hd : decide (n < 0) = true := decide_eq_true hn
        have HQ := Lib.hid (HY.out hn)
        clear hn
        go_wp2_with fail
        go_ret
        exact ⟨⟨k, rfl, by rw [HQ.out]; simp⟩, HW1.out⟩
      · have hd : decide (n < 0) = false := decide_eq_false hn
        have HQ := Lib.hid (HNO.out (by omega))
        clear hn
        go_wp2_with fail
        go_roundw
        case rel =>
          have R : ∃ k' : Nat, k' ≤ l.length ∧ Value.int .i64 ((k : Int) + 1) = .int .i64 k' ∧ Hid (negs (l.take k') = false) ∧ Hid (Below w.heap.size w w1) := ⟨k + 1, by omega, by go_num, HQ, HW1⟩
          first | exact R | ((repeat apply Exists.intro); exact ⟨R, rfl⟩)
        case measure => simp [intOf]; omega
    · obtain rfl : k = l.length := by omega
      have hd : decide (l.length < l.length) = false := by simp
      rw [List.take_of_length_le (Nat.le_refl _)] at HN
      go_wp2_with fail
      go_ret
      exact ⟨⟨-1, rfl, by rw [HN.out]; rfl⟩, HW.out⟩
set_option maxRecDepth 100000 in
theorem contains_any (w : World) (B : Option Addr) (d : Nat) (l : List (Int × List UInt8)) (hB : Wrs w w.heap.size B l) (hl : l.length ≤ 274877906944) :
    Calls Tryd.prog 51 #[.slice B l.length d, .func (.func 50) #[] #[]] w fun e w' => e = .returned (.bool (negs l)) ∧ Below w.heap.size w w' := by
  have HC := Lib.hid (indexFunc_any w B d l hB hl)
  clear hB
  go_enter Tryd.func51, Tryd.ntmps51
  go_wp2_with fail
  refine HC.out.mono ?_
  rintro e w1 ⟨⟨z, rfl, hz⟩, hb⟩
  have HZ := Lib.hid hz
  clear hz
  go_wp2_with fail
  go_ret
  exact ⟨by rw [← HZ.out]; rfl, hb⟩
theorem own_below {w w' : World} {base : Nat} {e : TypeId} {size n : Nat} {v : Value} {xs : List Value} (h : w.ownsRow base e size v n xs) (hb : Below w.heap.size w w') : w'.ownsRow base e size v n xs := by
  refine ⟨h.1, ?_⟩
  rcases h.2 with h1 | ⟨g, cap, cur, rfl, h2, h3, h4⟩
  · exact .inl h1
  · exact .inr ⟨g, cap, cur, rfl, h2, (hb.block g (Array.getElem?_eq_some_iff.1 h3).1).trans h3, h4⟩
/-- a write's row -/
def rowW (p : Int × List UInt8) : List UInt8 := rowB [Lib.itoa p.1, p.2]
theorem row_two (w : World) (a b : List UInt8) (h : sizeOf [a, b] ≤ 34359738368) :
    Calls Tryd.prog 53 #[.slice (some ⟨w.heap.size, 0, none⟩) 2 2] (w.alloc (.cells #[S a, S b] 9)) fun e w' => e = .returned (S (rowB [a, b])) ∧ Below w.heap.size w w' :=
  (row_any (w.alloc (.cells #[S a, S b] 9)) (some ⟨w.heap.size, 0, none⟩) 2 [a, b] (lies_made w 9 [S a, S b] _ (by simp)) h).mono fun e w' hw => ⟨hw.1, ((Below.refl w.heap.size w).alloc (Nat.le_refl _) _).trans (hw.2.mono (by simp))⟩
set_option maxRecDepth 100000 in
set_option maxHeartbeats 1000000 in
theorem rowOf_any (w : World) (n : Int) (y : List UInt8) (hn : inI n) (hy : y.length ≤ 1073741824) (hT : STabs w) :
    Calls Tryd.prog 52 #[.agg #[.int .i64 n, S y]] w fun e w' => e = .returned (S (rowW (n, y))) ∧ Below w.heap.size w w' := by
  have HT := Lib.hid hT
  have HN := Lib.hid hn
  have hln := itoa_len hn
  have hx := Whole.made w 36 #[.int .i64 n, S y]
  have HB := Lib.hid ((Below.refl w.heap.size w).alloc (Nat.le_refl _) (.cells #[.int .i64 n, S y] 36))
  have hz : w.heap.size < (w.alloc (.cells #[.int .i64 n, S y] 36)).heap.size := by simp
  have C0 : Hid ((w.alloc (.cells #[.int .i64 n, S y] 36)).cell? ⟨w.heap.size, 0, none⟩ = some (.int .i64 n)) := Lib.hid (hx.cell 0)
  have C1 : Hid ((w.alloc (.cells #[.int .i64 n, S y] 36)).cell? ⟨w.heap.size, 1, none⟩ = some (S y)) := Lib.hid (hx.cell 1)
  clear hT hn hx
  go_enter Tryd.func52, Tryd.ntmps52
  go_wp2_with fail
  generalize w.alloc (.cells #[.int .i64 n, S y] 36) = w1 at *
  have DC : Hid (∀ W : World, Below w1.heap.size w1 W → Calls Tryd.prog 54 #[.int .i64 n] W fun e w' => e = .returned (S (Lib.itoa n)) ∧ Below W.heap.size W w') := Lib.hid fun W hW => dec_any W n HN.out (HT.out.below (Nat.le_refl _) (HB.out.trans (hW.mono (by omega))))
  have HE : Hid (rowW (n, y) = rowB [Lib.itoa n, y]) := Lib.hid rfl
  have c0 := C0.out
  have c1 := C1.out
  generalize Lib.itoa n = x at *
  have hsz : sizeOf [x, y] ≤ 34359738368 := by simp [sizeOf]; omega
  generalize hgx : w.heap.size = gx at *
  have HGX := Lib.hid hgx
  clear hgx
  go_region_held3 (fun w' => w'.cell? ⟨gx, 0, none⟩ = some (.int .i64 n) ∧ w'.cell? ⟨gx, 1, none⟩ = some (S y))
    (first
      | go_keep
      | (exact ⟨(BB.cell (p := ⟨gx, 0, none⟩) (by show gx < _; omega)).trans C0.out, (BB.cell (p := ⟨gx, 1, none⟩) (by show gx < _; omega)).trans C1.out⟩))
    (first
      | (go_at_call 54; refine (DC.out _ ?_).mono ?_; (exact (Below.refl _ _).drew); rintro e w2 ⟨rfl, hbl⟩; have B2 : Below w1.heap.size w1 w2 := ((Below.refl _ _).drew).trans hbl; have BB := B2)
      | (go_at_call 53; refine (row_two w2 x y hsz).mono ?_; rintro e w4 ⟨rfl, hbl⟩; have B4 : Below w1.heap.size w1 w4 := B2.trans (hbl.mono B2.size); have BB := B4))
  go_wp2
  go_ret
  refine ⟨by rw [HE.out]; rfl, ?_⟩
  rw [HGX.out]
  exact HB.out.trans (B4.mono (by omega))
set_option maxRecDepth 100000 in
set_option maxHeartbeats 1000000 in
theorem each_any (w : World) (B : Option Addr) (d : Nat) (l : List (Int × List UInt8)) (hB : Wrs w w.heap.size B l) (hl : l.length ≤ 274877906944) (hr : ∀ k, k < l.length → inI (l.getD k (0, [])).1 ∧ (l.getD k (0, [])).2.length ≤ 1073741824) (hT : STabs w) :
    Calls Tryd.prog 55 #[.slice B l.length d, .func (.func 52) #[] #[]] w fun e w' => (∃ v, e = .returned v ∧ Own w' w.heap.size v (l.map rowW)) ∧ Below w.heap.size w w' := by
  obtain ⟨i0, hi0, hz0, hz1, hz2⟩ := info_parts Tryd.infoStr
  have HB := Lib.hid hB
  have HR := Lib.hid hr
  have HT := Lib.hid hT
  clear hB hr hT
  go_enter Tryd.func55, Tryd.ntmps55
  go_wp2_with (at_make; refine wpList_make_own _ rfl _ _ 22 rfl w.heap.size 9 i0 _ 1 Tryd.underlying22 hi0 hz0 hz1 .i64 .i64 _ l.length rfl rfl rfl (by rw [hz2]; omega) (by unfold maxLen; omega) (Nat.le_refl _) ?_; intro w0 hown0 hgrow0)
  have HO0 := Lib.hid hown0
  have HB0 : Hid (Below w.heap.size w w0) := Lib.hid ⟨hgrow0.os, hgrow0.tape, hgrow0.output, hgrow0.size, fun i hi => hgrow0.block i hi (by simp)⟩
  clear hown0 hgrow0
  go_wp2_with fail
  go_loopw [5, 13] (fun v i wr => ∃ k : Nat, k ≤ l.length ∧ i = .int .i64 k ∧ Hid (Own wr w.heap.size v ((l.take k).map rowW)) ∧ Hid (Below w.heap.size w wr)) (fun _ i _ => l.length - (intOf i).toNat)
  case atStart => exact ⟨0, by omega, rfl, HO0, HB0⟩
  case round =>
    obtain ⟨k, hk, rfl, HO, HW⟩ := hrel
    clear HO0 HB0
    by_cases hlt : k < l.length
    · obtain ⟨bd, rfl, hbd, b0, b1⟩ := HB.out.at' hlt
      have b0' : wr.cell? (bd.add (k * 2)) = _ := (HW.out.cell (by rw [add_block]; exact hbd)).trans b0
      have b1' : wr.cell? ⟨(bd.add (k * 2)).block, (bd.add (k * 2)).off + 1, none⟩ = _ := (HW.out.cell (by show (bd.add (k * 2)).block < _; rw [add_block]; exact hbd)).trans b1
      clear b0 b1
      have HTK : Hid ((l.take (k + 1)).map rowW = (l.take k).map rowW ++ [rowW (l.getD k (0, []))]) := Lib.hid (by rw [List.take_succ_eq_append_getElem hlt, List.map_append, List.getD_eq_getElem?_getD, List.getElem?_eq_getElem hlt]; rfl)
      obtain ⟨hri, hry⟩ := HR.out k hlt
      have hlk : ((l.take k).map rowW).length = k := by simp; omega
      generalize (l.take k).map rowW = acc at *
      generalize l.getD k (0, []) = p at *
      obtain ⟨n, y⟩ := p
      dsimp only at b0' b1' hri hry
      have HRI := Lib.hid hri
      have HLK := Lib.hid hlk
      clear hri hlk
      have i0' : (0 : Int) ≤ (k : Int) := by omega
      have i1 : (k : Int) < (l.length : Int) := by omega
      have HE := Lib.hid (HW.out.alloc HW.out.size (.cells #[.int .i64 n, S y] 36))
      have HOE := Lib.hid (HO.out.alloc (.cells #[.int .i64 n, S y] 36))
      go_wp2_with fail
      refine (rowOf_any (wr.alloc (.cells #[.int .i64 n, S y] 36)) n y HRI.out hry (HT.out.below (Nat.le_refl _) HE.out)).mono ?_
      rintro e w2 ⟨rfl, hb2⟩
      have HO2 := Lib.hid (own_below HOE.out hb2)
      have HW2 := Lib.hid (HE.out.trans (hb2.mono HE.out.size))
      clear hb2 b0' b1' HE HOE
      generalize rowW (n, y) = x at *
      have HNW : Hid (∀ i u, [S x][i]? = some u → (w2.alloc (.cells #[S x] 9)).cell? ((⟨w2.heap.size, 0, none⟩ : Addr).add i) = some u) := Lib.hid (fun i u hu => by
        obtain ⟨ad', e', _, hc'⟩ := lies_made w2 9 [S x] (w2.heap.size + 1) (by omega) i u hu
        injection e' with e'; subst e'; exact hc')
      have H1 : Hid (∀ u ∈ [S x], u.oneCell' = true) := Lib.hid (by simp [Value.oneCell'])
      have H63 : Hid (acc.length + 1 ≤ maxLen) := Lib.hid (by rw [HLK.out]; unfold maxLen; omega)
      have HBY : Hid ((acc.length + 1) * 16 ≤ 140737488355328) := Lib.hid (by rw [HLK.out]; omega)
      have HBA : Hid (w.heap.size ≤ (w2.alloc (.cells #[S x] 9)).heap.size) := Lib.hid (by have := HW2.out.size; simp; omega)
      have HOA := Lib.hid (HO2.out.alloc (.cells #[S x] 9))
      go_wp2_with (at_builtin; refine wpList_append_own _ rfl (.tmp 17) (.tmp 21) 22 rfl w.heap.size 9 i0 _ 1 16 Tryd.underlying22 hi0 hz0 hz1 hz2 rfl (by decide) _ _ _ rfl HOA.out ⟨w2.heap.size, 0, none⟩ 1 1 [S x] rfl rfl HNW.out H1.out H63.out HBY.out HBA.out ?_; intro v' w4 hown' hgrow _)
      have HO4 : Hid (Own w4 w.heap.size v' (acc ++ [x])) := Lib.hid (by
        have := hown'
        rw [show (acc.map S ++ [S x]) = (acc ++ [x]).map S by simp] at this
        unfold Own
        rw [List.length_append]
        exact this)
      have HB4 : Hid (Below w.heap.size w w4) := Lib.hid ((HW2.out.alloc HW2.out.size _).grown hgrow HBA.out (own_ge HOA.out))
      clear hown' hgrow HOA HNW
      rw [← HTK.out] at HO4
      go_wp2_with fail
      go_roundw
      case rel =>
        have R : ∃ k' : Nat, k' ≤ l.length ∧ Value.int .i64 ((k : Int) + 1) = .int .i64 k' ∧ Hid (Own w4 w.heap.size v' ((l.take k').map rowW)) ∧ Hid (Below w.heap.size w w4) := ⟨k + 1, by omega, by go_num, HO4, HB4⟩
        first | exact R | ((repeat apply Exists.intro); exact ⟨R, rfl⟩)
      case measure => simp [intOf]; omega
    · obtain rfl : k = l.length := by omega
      have hd : decide (l.length < l.length) = false := by simp
      rw [List.take_of_length_le (Nat.le_refl _)] at HO
      go_wp2_with fail
      go_ret
      exact ⟨⟨_, rfl, HO.out⟩, HW.out⟩
end Go.Proofs.YtecamaceainfpaaDoor
