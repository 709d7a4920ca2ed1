/-
  Walks: freeze.each, freeze.Image; hibernacleref34.all, Image.
-/
import Derived.Test.YtmmfcjkabpffeaaGreatDoorLefts
namespace Go.Proofs.YtmmfcjkabpffeaaGreatDoor
open Go.RowKit

theorem Tryz.infoStr : (Tryz.prog.info? 9).map (fun i => (i.zero, i.size, i.bytes)) = some (some (.string ⟨#[]⟩), 1, 16) := by kernel_rfl
/-- a row of texts of the call's own -/
abbrev Own (w : World) (base : Nat) (v : Value) (ls : List (List UInt8)) : Prop := w.ownsRow base 9 1 v ls.length (ls.map S)
/-- the texts of a list of kept things -/
def datas (l : List Kp) : List (List UInt8) := l.map (·.2)
theorem datas_length (l : List Kp) : (datas l).length = l.length := List.length_map _
theorem datas_snoc {l : List Kp} {k : Nat} (hk : k < l.length) : datas (l.take (k + 1)) = datas (l.take k) ++ [(l.getD k (false, [])).2] := by
  unfold datas
  rw [List.take_succ_eq_append_getElem hk, List.map_append, List.getD_eq_getElem?_getD, List.getElem?_eq_getElem hk]; rfl
set_option maxRecDepth 100000 in
theorem data1_any (w : World) (b : Bool) (y : List UInt8) :
    Calls Tryz.prog 74 #[.agg #[.bool b, S y]] w fun e w' => e = .returned (S y) ∧ Below w.heap.size w w' := by
  go_enter Tryz.func74, Tryz.ntmps74
  go_wp2_with fail
  go_ret
  exact ⟨rfl, (Below.refl _ _).alloc (Nat.le_refl _) _⟩
set_option maxRecDepth 100000 in
set_option maxHeartbeats 1000000 in
theorem feach_any (w : World) (A : Option Addr) (c : Nat) (l : List Kp) (hA : Kps w w.heap.size A l) (hl : l.length ≤ 274877906944) :
    Calls Tryz.prog 75 #[.slice A l.length c, .func (.func 74) #[] #[]] w fun e w' => (∃ v, e = .returned v ∧ Own w' w.heap.size v (datas l)) ∧ Below w.heap.size w w' := by
  obtain ⟨i0, hi0, hz0, hz1, hz2⟩ := info_parts Tryz.infoStr
  have HA := Lib.hid hA
  clear hA
  go_enter Tryz.func75, Tryz.ntmps75
  go_wp2_with (at_make; refine wpList_make_own _ rfl _ _ 23 rfl w.heap.size 9 i0 _ 1 Tryz.underlying23 hi0 hz0 hz1 .i64 .i64 _ l.length rfl rfl rfl (by rw [hz2]; omega) (by unfold maxLen; omega) (Nat.le_refl _) ?_; intro w0 hown0 hgrow0)
  have HO0 := Lib.hid hown0
  have HB0 : Hid (Below w.heap.size w w0) := Lib.hid ⟨hgrow0.os, hgrow0.tape, hgrow0.output, hgrow0.size, fun i hi => hgrow0.block i hi (by simp)⟩
  clear hown0 hgrow0
  go_wp2_with fail
  go_loopw [5, 13] (fun v i wr => ∃ k : Nat, k ≤ l.length ∧ i = .int .i64 k ∧ Hid (Own wr w.heap.size v (datas (l.take k))) ∧ Hid (Below w.heap.size w wr)) (fun _ i _ => l.length - (intOf i).toNat)
  case atStart => exact ⟨0, by omega, rfl, HO0, HB0⟩
  case round =>
    obtain ⟨k, hk, rfl, HO, HW⟩ := hrel
    clear HO0 HB0
    by_cases hlt : k < l.length
    · obtain ⟨bd, rfl, hbd, b0, b1⟩ := HA.out.at' hlt
      have b0' : wr.cell? (bd.add (k * 2)) = _ := (HW.out.cell (by rw [add_block]; exact hbd)).trans b0
      have b1' : wr.cell? ⟨(bd.add (k * 2)).block, (bd.add (k * 2)).off + 1, none⟩ = _ := (HW.out.cell (by show (bd.add (k * 2)).block < _; rw [add_block]; exact hbd)).trans b1
      clear b0 b1
      have HTK := Lib.hid (datas_snoc hlt)
      have hlk : (datas (l.take k)).length = k := by rw [datas_length, List.length_take]; omega
      generalize datas (l.take k) = acc at *
      generalize l.getD k (false, []) = p at *
      obtain ⟨n, y⟩ := p
      dsimp only at b0' b1'
      have HLK := Lib.hid hlk
      clear hlk
      have i0' : (0 : Int) ≤ (k : Int) := by omega
      have i1 : (k : Int) < (l.length : Int) := by omega
      have HE := Lib.hid (HW.out.alloc HW.out.size (.cells #[.bool n, S y] 83))
      have HOE := Lib.hid (HO.out.alloc (.cells #[.bool n, S y] 83))
      go_wp2_with fail
      refine (data1_any (wr.alloc (.cells #[.bool n, S y] 83)) n y).mono ?_
      rintro e w2 ⟨rfl, hb2⟩
      have HO2 := Lib.hid (own_below HOE.out hb2)
      have HW2 := Lib.hid (HE.out.trans (hb2.mono HE.out.size))
      clear hb2 b0' b1' HE HOE
      have HNW : Hid (∀ i u, [S y][i]? = some u → (w2.alloc (.cells #[S y] 9)).cell? ((⟨w2.heap.size, 0, none⟩ : Addr).add i) = some u) := Lib.hid (fun i u hu => by
        obtain ⟨ad', e', _, hc'⟩ := lies_made w2 9 [S y] (w2.heap.size + 1) (by omega) i u hu
        injection e' with e'; subst e'; exact hc')
      have H1 : Hid (∀ u ∈ [S y], u.oneCell' = true) := Lib.hid (by simp [Value.oneCell'])
      have H63 : Hid (acc.length + 1 ≤ maxLen) := Lib.hid (by rw [HLK.out]; unfold maxLen; omega)
      have HBY : Hid ((acc.length + 1) * 16 ≤ 140737488355328) := Lib.hid (by rw [HLK.out]; omega)
      have HBA : Hid (w.heap.size ≤ (w2.alloc (.cells #[S y] 9)).heap.size) := Lib.hid (by have := HW2.out.size; simp; omega)
      have HOA := Lib.hid (HO2.out.alloc (.cells #[S y] 9))
      go_wp2_with (at_builtin; refine wpList_append_own _ rfl (.tmp 17) (.tmp 21) 23 rfl w.heap.size 9 i0 _ 1 16 Tryz.underlying23 hi0 hz0 hz1 hz2 rfl (by decide) _ _ _ rfl HOA.out ⟨w2.heap.size, 0, none⟩ 1 1 [S y] rfl rfl HNW.out H1.out H63.out HBY.out HBA.out ?_; intro v' w4 hown' hgrow _)
      have HO4 : Hid (Own w4 w.heap.size v' (acc ++ [y])) := Lib.hid (by
        have := hown'
        rw [show (acc.map S ++ [S y]) = (acc ++ [y]).map S by simp] at this
        unfold Own
        rw [List.length_append]
        exact this)
      have HB4 : Hid (Below w.heap.size w w4) := Lib.hid ((HW2.out.alloc HW2.out.size _).grown hgrow HBA.out (own_ge HOA.out))
      clear hown' hgrow HOA HNW
      rw [← HTK.out] at HO4
      go_wp2_with fail
      go_roundw
      case rel =>
        have R : ∃ k' : Nat, k' ≤ l.length ∧ Value.int .i64 ((k : Int) + 1) = .int .i64 k' ∧ Hid (Own w4 w.heap.size v' (datas (l.take k'))) ∧ Hid (Below w.heap.size w w4) := ⟨k + 1, by omega, by go_num, HO4, HB4⟩
        first | exact R | ((repeat apply Exists.intro); exact ⟨R, rfl⟩)
      case measure => simp [intOf]; omega
    · obtain rfl : k = l.length := by omega
      have hd : decide (l.length < l.length) = false := by simp
      rw [List.take_of_length_le (Nat.le_refl _)] at HO
      go_wp2_with fail
      go_ret
      exact ⟨⟨_, rfl, HO.out⟩, HW.out⟩
theorem lies_set3 {w : World} {A : Option Addr} {xs : List Value} {q : Nat} {a b c : Value} (h : Lies w w.heap.size A xs) (hg : ∀ ad, A = some ad → ad.block ≠ q) :
    Lies (((w.setCell ⟨q, 0, none⟩ a).setCell ⟨q, 1, none⟩ b).setCell ⟨q, 2, none⟩ c) (((w.setCell ⟨q, 0, none⟩ a).setCell ⟨q, 1, none⟩ b).setCell ⟨q, 2, none⟩ c).heap.size A xs :=
  lies_set (lies_set (lies_set h hg) hg) hg
/-- the image of a shot, or that it isn't yet -/
def imgK (fl bl : List Kp) (r : List UInt8) : Int × List (List UInt8) × List (List UInt8) × List UInt8 := if 0 < leftL fl + leftL bl then (12, [], [], []) else (0, datas fl, datas bl, r)
def FzPost (w : World) (q : Int × List (List UInt8) × List (List UInt8) × List UInt8) (e : Ending) (w' : World) : Prop :=
  (∃ G k G' k', e = .returned (.tuple #[.agg #[.slice G q.2.1.length k, .slice G' q.2.2.1.length k', S q.2.2.2], .int .i64 q.1]) ∧ Strs w' w'.heap.size G q.2.1 ∧ Strs w' w'.heap.size G' q.2.2.1) ∧ Below w.heap.size w w'
set_option maxRecDepth 100000 in
set_option maxHeartbeats 2000000 in
theorem imageS_any (w : World) (A A' : Option Addr) (c c' : Nat) (ck : Int) (fl bl : List Kp) (r : List UInt8) (hA : Kps w w.heap.size A fl) (hA' : Kps w w.heap.size A' bl) (h1 : fl.length ≤ 274877906944) (h2 : bl.length ≤ 274877906944) :
    Calls Tryz.prog 34 #[.agg #[.int .u64 ck, .slice A fl.length c, .slice A' bl.length c', S r]] w (FzPost w (imgK fl bl r)) := by
  have hs := (Whole.made w 43 #[.int .u64 ck, .slice A fl.length c, .slice A' bl.length c', S r]).block (.cells #[.slice none 0 0, .slice none 0 0, S []] 36)
  have hz := Whole.made (w.alloc (.cells #[.int .u64 ck, .slice A fl.length c, .slice A' bl.length c', S r] 43)) 36 #[.slice none 0 0, .slice none 0 0, S []]
  rw [show (w.alloc (.cells #[.int .u64 ck, .slice A fl.length c, .slice A' bl.length c', S r] 43)).heap.size = w.heap.size + 1 by simp] at hz
  have hb : Below w.heap.size w ((w.alloc (.cells #[.int .u64 ck, .slice A fl.length c, .slice A' bl.length c', S r] 43)).alloc (.cells #[.slice none 0 0, .slice none 0 0, S []] 36)) := ((Below.refl _ _).alloc (Nat.le_refl _) _).alloc (by simp) _
  have HA := Lib.hid (hA.below hb)
  have HA' := Lib.hid (hA'.below hb)
  have b1 := leftL_le fl
  have b2 := leftL_le bl
  clear hA hA'
  go_enter Tryz.func34, Tryz.ntmps34
  go_upto_region 1 with (fail)
  change Code.wp _ _ _ _ ((w.alloc (.cells #[.int .u64 ck, .slice A fl.length c, .slice A' bl.length c', S r] 43)).alloc (.cells #[.slice none 0 0, .slice none 0 0, S []] 36))
  generalize ((w.alloc (.cells #[.int .u64 ck, .slice A fl.length c, .slice A' bl.length c', S r] 43)).alloc (.cells #[.slice none 0 0, .slice none 0 0, S []] 36)) = w1 at *
  generalize hgx : w.heap.size = gx at *
  have HGX := Lib.hid hgx
  have HW := Lib.hid hb
  have HS := Lib.hid hs
  have HZ := Lib.hid hz
  clear hgx hb
  have hl1 := hz.lt
  have HLL : Hid (∀ (W : World) (G : Option Addr) (xs : List Value), Below w1.heap.size w1 W → Lies w1 gx G xs → Lies W W.heap.size G xs) := Lib.hid fun W G xs hW h => (h.below (hW.mono (by omega))).wide (by have := hW.size; omega)
  have HL := Lib.hid (left_any w1 A A' c c' ck fl bl r (HLL.out _ _ _ (Below.refl _ _) HA.out) (HLL.out _ _ _ (Below.refl _ _) HA'.out) (by omega) (by omega))
  have s0 : w1.cell? ⟨gx, 0, none⟩ = some (.int .u64 ck) := hs.cell 0
  have s1 : w1.cell? ⟨gx, 1, none⟩ = some (.slice A fl.length c) := hs.cell 1
  have s2 : w1.cell? ⟨gx, 2, none⟩ = some (.slice A' bl.length c') := hs.cell 2
  have s3 : w1.cell? ⟨gx, 3, none⟩ = some (S r) := hs.cell 3
  clear hs hz
  go_wp2_with fail
  refine HL.out.mono ?_
  rintro e w2 ⟨rfl, hb2⟩
  have HB2 := Lib.hid hb2
  clear hb2 HL s0 s1 s2 s3
  obtain ⟨n, HN⟩ : ∃ z, Hid (leftL fl + leftL bl = z) := ⟨_, Lib.hid rfl⟩
  rw [HN.out]
  have hZ2 := HZ.out.below HB2.out hl1
  by_cases h0 : 0 < n
  · have d1 : decide ((0 : Int) < (n : Int)) = true := by simpa using h0
    have d2 : decide (0 < n) = true := by simpa using h0
    have HQ : Hid (imgK fl bl r = (12, [], [], [])) := Lib.hid (by unfold imgK; rw [if_pos (by rw [HN.out]; exact h0)])
    have z0 : w2.cell? ⟨gx + 1, 0, none⟩ = some (Value.slice none 0 0) := hZ2.cell 0
    have z1 : w2.cell? ⟨gx + 1, 1, none⟩ = some (Value.slice none 0 0) := hZ2.cell 1
    have z2 : w2.cell? ⟨gx + 1, 2, none⟩ = some (S []) := hZ2.cell 2
    have y0 := hZ2.free 0
    have y1 := hZ2.free 1
    have y2 := hZ2.free 2
    clear hZ2 h0
    go_wp2_with fail
    refine bodyPost_ret (v := .tuple #[.agg #[.slice none 0 0, .slice none 0 0, S []], .int .i64 12]) (by simp [results, Tryz.results34, go_sem, z0, z1, z2]) rfl ?_
    rw [HQ.out]
    refine ⟨⟨none, 0, none, 0, rfl, Lies.none _ _ _, Lies.none _ _ _⟩, ?_⟩
    rw [HGX.out]
    exact (((HW.out.trans (HB2.out.mono (by omega))).setCell (p := ⟨gx + 1, 0, none⟩) (by show gx ≤ gx + 1; omega) _).setCell (p := ⟨gx + 1, 1, none⟩) (by show gx ≤ gx + 1; omega) _).setCell (p := ⟨gx + 1, 2, none⟩) (by show gx ≤ gx + 1; omega) _
  · have d1 : decide ((0 : Int) < (n : Int)) = false := by simp; omega
    have d2 : decide (0 < n) = false := by simpa using h0
    have HQ : Hid (imgK fl bl r = (0, datas fl, datas bl, r)) := Lib.hid (by unfold imgK; rw [if_neg (by rw [HN.out]; exact h0)])
    have EA : Hid (∀ W, Below w1.heap.size w1 W → Calls Tryz.prog 75 #[.slice A fl.length c, .func (.func 74) #[] #[]] W fun e w' => (∃ G k, e = .returned (.slice G fl.length k) ∧ Hid (Strs w' w'.heap.size G (datas fl) ∧ ∀ ad, G = some ad → w1.heap.size ≤ ad.block)) ∧ Below W.heap.size W w') := Lib.hid fun W hW => (feach_any W A c fl (HLL.out _ _ _ hW HA.out) h1).mono fun e w' h => by
      obtain ⟨⟨v, rfl, ho⟩, hb⟩ := h
      obtain ⟨G, k, rfl, hG, hge⟩ := own_shape ho (by decide)
      rw [datas_length]
      exact ⟨⟨G, k, rfl, Lib.hid ⟨hG, fun ad h => Nat.le_trans hW.size (hge ad h)⟩⟩, hb⟩
    have EB : Hid (∀ W, Below w1.heap.size w1 W → Calls Tryz.prog 75 #[.slice A' bl.length c', .func (.func 74) #[] #[]] W fun e w' => (∃ G k, e = .returned (.slice G bl.length k) ∧ Hid (Strs w' w'.heap.size G (datas bl) ∧ ∀ ad, G = some ad → w1.heap.size ≤ ad.block)) ∧ Below W.heap.size W w') := Lib.hid fun W hW => (feach_any W A' c' bl (HLL.out _ _ _ hW HA'.out) h2).mono fun e w' h => by
      obtain ⟨⟨v, rfl, ho⟩, hb⟩ := h
      obtain ⟨G, k, rfl, hG, hge⟩ := own_shape ho (by decide)
      rw [datas_length]
      exact ⟨⟨G, k, rfl, Lib.hid ⟨hG, fun ad h => Nat.le_trans hW.size (hge ad h)⟩⟩, hb⟩
    have HCS : Hid (∀ W, Below w1.heap.size w1 W → W.cell? ⟨gx, 1, none⟩ = some (.slice A fl.length c) ∧ W.cell? ⟨gx, 2, none⟩ = some (.slice A' bl.length c') ∧ W.cell? ⟨gx, 3, none⟩ = some (S r)) := Lib.hid fun W hW => ⟨(HS.out.below hW (by omega)).cell 1, (HS.out.below hW (by omega)).cell 2, (HS.out.below hW (by omega)).cell 3⟩
    have HCT : Hid (∀ W a b d, Below w1.heap.size w1 W → Whole (((W.setCell ⟨gx + 1, 0, none⟩ a).setCell ⟨gx + 1, 1, none⟩ b).setCell ⟨gx + 1, 2, none⟩ d) gx 43 #[.int .u64 ck, .slice A fl.length c, .slice A' bl.length c', S r]) := Lib.hid fun W a b d hW => (((HS.out.below hW (by omega)).far (p := ⟨gx + 1, 0, none⟩) (by show gx ≠ gx + 1; omega) a).far (p := ⟨gx + 1, 1, none⟩) (by show gx ≠ gx + 1; omega) b).far (p := ⟨gx + 1, 2, none⟩) (by show gx ≠ gx + 1; omega) d
    clear hZ2 h0
    go_upto_region 4 with (fail)
    clear d1 d2
    have BB := Lib.hid HB2.out.drew
    go_region_held3 (fun w' => w'.cell? ⟨gx, 1, none⟩ = some (.slice A fl.length c) ∧ w'.cell? ⟨gx, 2, none⟩ = some (.slice A' bl.length c') ∧ w'.cell? ⟨gx, 3, none⟩ = some (S r))
      (first
        | (exact HCS.out _ HB2.out)
        | (exact HCS.out _ BB.out)
        | (exact ⟨(HCT.out _ _ _ _ BB.out).cell 1, (HCT.out _ _ _ _ BB.out).cell 2, (HCT.out _ _ _ _ BB.out).cell 3⟩))
      (first
        | (go_at_call_of 75 (Value.slice A fl.length c); (with_reducible refine (EA.out _ BB.out).mono ?_); rintro e wx ⟨⟨G, k, rfl, hst⟩, hbl⟩; have BB' := Lib.hid (BB.out.trans (hbl.mono BB.out.size)); clear BB; have BB := BB'; clear BB'; have HX := BB)
        | (go_at_call_of 75 (Value.slice A' bl.length c'); (with_reducible refine (EB.out _ BB.out).mono ?_); rintro e wy ⟨⟨G', k', rfl, hst'⟩, hbl'⟩; have BB' := Lib.hid (BB.out.trans (hbl'.mono BB.out.size)); clear BB; have BB := BB'; clear BB'; have hZ' := HZ.out.below BB.out hl1; have z0 : wy.cell? ⟨gx + 1, 0, none⟩ = some (Value.slice none 0 0) := hZ'.cell 0; have z1 : wy.cell? ⟨gx + 1, 1, none⟩ = some (Value.slice none 0 0) := hZ'.cell 1; have z2 : wy.cell? ⟨gx + 1, 2, none⟩ = some (S []) := hZ'.cell 2; have y0 := hZ'.free 0; have y1 := hZ'.free 1; have y2 := hZ'.free 2))
    go_wp2_with fail
    refine bodyPost_ret (v := .tuple #[.agg #[.slice G fl.length k, .slice G' bl.length k', S r], .int .i64 0]) (by simp [results, Tryz.results34, go_sem, z0, z1, z2]) rfl ?_
    rw [HQ.out]
    have hl2 : w1.heap.size ≤ wx.heap.size := HX.out.size
    refine ⟨⟨G, k, G', k', by simp only [datas_length], lies_set3 (Lies.wide (Lies.below hst.out.1 hbl') hbl'.size) (q := gx + 1) fun ad h => ?_, lies_set3 hst'.out.1 (q := gx + 1) fun ad h => ?_⟩, ?_⟩
    · have := hst.out.2 ad h; omega
    · have := hst'.out.2 ad h; omega
    rw [HGX.out]
    exact (((HW.out.trans (BB.out.mono (by omega))).setCell (p := ⟨gx + 1, 0, none⟩) (by show gx ≤ gx + 1; omega) _).setCell (p := ⟨gx + 1, 1, none⟩) (by show gx ≤ gx + 1; omega) _).setCell (p := ⟨gx + 1, 2, none⟩) (by show gx ≤ gx + 1; omega) _
end Go.Proofs.YtmmfcjkabpffeaaGreatDoor
/-
  Walks: hibernacleref34.kept, texts, Same, SameImage, of things that are the same. (Printed by gen_fzsame.py.)
-/
namespace Go.Proofs.YtmmfcjkabpffeaaGreatDoor
open Go.RowKit

set_option maxRecDepth 100000 in
set_option maxHeartbeats 1000000 in
theorem rkept_true (w : World) (A B : Option Addr) (c d : Nat) (a : List (Kp)) (hA : Kps w w.heap.size A a) (hB : Kps w w.heap.size B a) (ha : a.length ≤ 1099511627776) :
    Calls Tryz.prog 37 #[.slice A a.length c, .slice B a.length d] w fun e w' => e = .returned (.bool true) ∧ Below w.heap.size w w' := by
  have HA := Lib.hid hA
  have HB := Lib.hid hB
  clear hA hB
  have n1 : ((a.length : Int) != (a.length : Int)) = false := by simp
  have n2 : (a.length != a.length) = false := by simp
  go_enter Tryz.func37, Tryz.ntmps37
  go_wp2_with fail
  clear n1 n2
  go_loopw [5] (fun i wr => ∃ k : Nat, k ≤ a.length ∧ i = .int .i64 k ∧ Hid (Below w.heap.size w wr)) (fun i _ => a.length - (intOf i).toNat)
  case atStart => exact ⟨0, by omega, rfl, Lib.hid (Below.refl _ _)⟩
  case round =>
    obtain ⟨k, hk, rfl, HW⟩ := hrel
    by_cases hlt : k < a.length
    · have i0 : (0 : Int) ≤ (k : Int) := by omega
      have i1 : (k : Int) < (a.length : Int) := by omega
      obtain ⟨ad, rfl, had, a0, a1⟩ := HA.out.at' hlt
      obtain ⟨bd, rfl, hbd, b0, b1⟩ := HB.out.at' hlt
      have a0' : wr.cell? (ad.add (k * 2)) = _ := (HW.out.cell (by rw [add_block]; exact had)).trans a0
      have a1' : wr.cell? ⟨(ad.add (k * 2)).block, (ad.add (k * 2)).off + 1, none⟩ = _ := (HW.out.cell (by show (ad.add (k * 2)).block < _; rw [add_block]; exact had)).trans a1
      have b0' : wr.cell? (bd.add (k * 2)) = _ := (HW.out.cell (by rw [add_block]; exact hbd)).trans b0
      have b1' : wr.cell? ⟨(bd.add (k * 2)).block, (bd.add (k * 2)).off + 1, none⟩ = _ := (HW.out.cell (by show (bd.add (k * 2)).block < _; rw [add_block]; exact hbd)).trans b1
      clear a0 a1 b0 b1
      generalize a.getD k (false, []) = x at *
      obtain ⟨x1, x2⟩ := x
      have e1 : (x1 != x1) = false := by simp
      have e2 : (x2 != x2) = false := by simp
      go_wp2_with fail
      go_quiet (fail)
      go_wp2_with fail
      go_roundw
      case rel =>
        have R : ∀ M : Nat, ∃ k' : Nat, k' ≤ a.length ∧ Value.int .i64 ((k : Int) + 1) = .int .i64 k' ∧ Hid (Below w.heap.size w (wr.drewN M)) := fun M => ⟨k + 1, by omega, by go_num, Lib.hid (Below.draws HW.out _)⟩
        first | exact R _ | ((repeat apply Exists.intro); exact ⟨R _, rfl⟩)
      case measure => simp [intOf]; omega
    · obtain rfl : k = a.length := by omega
      have hd : decide (a.length < a.length) = false := by simp
      go_wp2_with fail
      go_ret
      exact ⟨rfl, HW.out⟩
set_option maxRecDepth 100000 in
set_option maxHeartbeats 2000000 in
theorem rsame_true (w : World) (A A' B B' : Option Addr) (c c' d d' : Nat) (ck : Int) (fl bl : List Kp) (r : List UInt8) (hA : Kps w w.heap.size A fl) (hA' : Kps w w.heap.size A' bl) (hB : Kps w w.heap.size B fl) (hB' : Kps w w.heap.size B' bl) (h1 : fl.length ≤ 1099511627776) (h2 : bl.length ≤ 1099511627776) :
    Calls Tryz.prog 16 #[.agg #[.int .u64 ck, .slice A fl.length c, .slice A' bl.length c', S r], .agg #[.int .u64 ck, .slice B fl.length d, .slice B' bl.length d', S r]] w fun e w' => e = .returned (.bool true) ∧ Below w.heap.size w w' := by
  have hX := (Whole.made w 43 #[.int .u64 ck, .slice A fl.length c, .slice A' bl.length c', S r]).block (.cells #[.int .u64 ck, .slice B fl.length d, .slice B' bl.length d', S r] 43)
  have hY := Whole.made (w.alloc (.cells #[.int .u64 ck, .slice A fl.length c, .slice A' bl.length c', S r] 43)) 43 #[.int .u64 ck, .slice B fl.length d, .slice B' bl.length d', S r]
  have hb : Below w.heap.size w ((w.alloc (.cells #[.int .u64 ck, .slice A fl.length c, .slice A' bl.length c', S r] 43)).alloc (.cells #[.int .u64 ck, .slice B fl.length d, .slice B' bl.length d', S r] 43)) := ((Below.refl _ _).alloc (Nat.le_refl _) _).alloc (by simp) _
  rw [show (w.alloc (.cells #[.int .u64 ck, .slice A fl.length c, .slice A' bl.length c', S r] 43)).heap.size = w.heap.size + 1 by simp] at hY
  have HA := Lib.hid (hA.below hb)
  have HA' := Lib.hid (hA'.below hb)
  have HB := Lib.hid (hB.below hb)
  have HB' := Lib.hid (hB'.below hb)
  clear hA hA' hB hB'
  go_enter Tryz.func16, Tryz.ntmps16
  go_upto_region 1 with (fail)
  change Code.wp _ _ _ _ ((w.alloc (.cells #[.int .u64 ck, .slice A fl.length c, .slice A' bl.length c', S r] 43)).alloc (.cells #[.int .u64 ck, .slice B fl.length d, .slice B' bl.length d', S r] 43))
  generalize ((w.alloc (.cells #[.int .u64 ck, .slice A fl.length c, .slice A' bl.length c', S r] 43)).alloc (.cells #[.int .u64 ck, .slice B fl.length d, .slice B' bl.length d', S r] 43)) = w1 at *
  generalize hgx : w.heap.size = gx at *
  have HGX := Lib.hid hgx
  have HX := Lib.hid hX
  have HY := Lib.hid hY
  have HW := Lib.hid hb
  have hl1 := hY.lt
  clear hgx hb
  have HLL : Hid (∀ (W : World) (G : Option Addr) (xs : List Value), Below w1.heap.size w1 W → Lies w1 gx G xs → Lies W W.heap.size G xs) := Lib.hid fun W G xs hW h => (h.below (hW.mono (by omega))).wide (by have := hW.size; omega)
  have er : (r == r) = true := by simp
  have ec : (ck == ck) = true := by simp
  have x0 : w1.cell? ⟨gx, 0, none⟩ = some (.int .u64 ck) := hX.cell 0
  have y0 : w1.cell? ⟨gx + 1, 0, none⟩ = some (.int .u64 ck) := hY.cell 0
  have x1 : w1.cell? ⟨gx, 1, none⟩ = some (.slice A fl.length c) := hX.cell 1
  have y1 : w1.cell? ⟨gx + 1, 1, none⟩ = some (.slice B fl.length d) := hY.cell 1
  have x3 : w1.cell? ⟨gx, 3, none⟩ = some (S r) := hX.cell 3
  have y3 : w1.cell? ⟨gx + 1, 3, none⟩ = some (S r) := hY.cell 3
  clear hX hY
  go_wp2_with fail
  refine (rkept_true w1 A B c d fl (HLL.out _ _ _ (Below.refl _ _) HA.out) (HLL.out _ _ _ (Below.refl _ _) HB.out) h1).mono ?_
  rintro e w2 ⟨rfl, hb2⟩
  have x2 : w2.cell? ⟨gx, 2, none⟩ = some (.slice A' bl.length c') := (HX.out.below hb2 (by omega)).cell 2
  have y2 : w2.cell? ⟨gx + 1, 2, none⟩ = some (.slice B' bl.length d') := (HY.out.below hb2 (by omega)).cell 2
  have HB2 := Lib.hid hb2
  clear hb2 x1 y1 x3 y3
  go_wp2_with fail
  refine (rkept_true w2 A' B' c' d' bl (HLL.out _ _ _ HB2.out HA'.out) (HLL.out _ _ _ HB2.out HB'.out) h2).mono ?_
  rintro e w3 ⟨rfl, hb3⟩
  have HB3 := Lib.hid (HB2.out.trans (hb3.mono HB2.out.size))
  clear hb3 x2 y2
  go_wp2_with fail
  go_ret
  exact ⟨rfl, by rw [HGX.out]; exact HW.out.trans (HB3.out.mono (by omega))⟩
end Go.Proofs.YtmmfcjkabpffeaaGreatDoor
