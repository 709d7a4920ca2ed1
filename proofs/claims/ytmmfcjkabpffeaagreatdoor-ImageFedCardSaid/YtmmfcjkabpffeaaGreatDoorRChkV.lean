/-
  Walk: hibernacleref25.Volume. (Printed by gen_rchkc.py.)
-/
import Derived.Test.YtmmfcjkabpffeaaGreatDoorChkFG
import Derived.Test.YtmmfcjkabpffeaaGreatDoorRChkA
import Derived.Test.YtmmfcjkabpffeaaGreatDoorGeomD
import Derived.BigQuiet
namespace Go.Proofs.YtmmfcjkabpffeaaGreatDoor
open Go.RowKit

theorem own_lit (w : World) : (w.alloc (.cells #[] 9)).ownsRow w.heap.size 9 1 (.slice (some ⟨w.heap.size, 0, none⟩) 0 0) 0 [] :=
  ⟨rfl, .inr ⟨w.heap.size, 0, #[], rfl, Nat.le_refl _, by show (w.heap.push _)[w.heap.size]? = _; exact Array.getElem?_push_size, Nat.le_refl _, by unfold maxLen; omega, rfl, rfl⟩⟩
theorem foldl_setB_length (l : List Nb) (v : List (List UInt8)) : (l.foldl setB v).length = v.length := by
  induction l generalizing v with
  | nil => rfl
  | cons p l ih => rw [List.foldl_cons, ih, setB_length]
set_option maxRecDepth 100000 in
set_option maxHeartbeats 4000000 in
theorem rvolume_any (w : World) (a : MA) (m : Mc) (hm : McOk m) (hA : MAt w w.heap.size a m) :
    Calls Tryz.prog 50 #[.agg (mcL a m).toArray] w fun e w' => (∃ v, e = .returned v ∧ OwnS w' w.heap.size v (volL m)) ∧ Below w.heap.size w w' := by
  obtain ⟨i0, hi0, hz0, hz1, hz2⟩ := info_parts Tryz.infoStr'
  have hs0 := Whole.made w 30 (mcL a m).toArray
  have hb : Below w.heap.size w (w.alloc (.cells (mcL a m).toArray 30)) := (Below.refl _ _).alloc (Nat.le_refl _) _
  go_enter Tryz.func50, Tryz.ntmps50
  go_upto_region 1 with (fail)
  change Code.wp _ _ _ _ (w.alloc (.cells (mcL a m).toArray 30))
  generalize (w.alloc (.cells (mcL a m).toArray 30)) = w1 at *
  generalize hgx : w.heap.size = gx at *
  have HGX := Lib.hid hgx
  have HS0 := Lib.hid hs0
  have HW := Lib.hid hb
  have hgl : gx < w1.heap.size := hs0.lt
  clear hgx hb hs0
  have HA := Lib.hid (hA.below HW.out)
  have HM := Lib.hid hm
  have HMA : Hid (∀ W, Below w1.heap.size w1 W → MAt W W.heap.size a m) := Lib.hid fun W hW => (HA.out.below (hW.mono (by omega))).wide (by have := hW.size; omega)
  have HC : Hid (∀ W, Below w1.heap.size w1 W → Whole W gx 30 (mcL a m).toArray) := Lib.hid fun W hW => HS0.out.below hW (by omega)
  have HVL : Hid (volL m = m.dirty.foldl setB (homeD m.blocks m.pend)) := Lib.hid rfl
  have hsz4 := hm.sizes.2.2.2.1
  have HB1 := Lib.hid ((Below.refl w1.heap.size w1).alloc (Nat.le_refl _) (.cells #[] 9))
  have HO1 := Lib.hid (own_lit w1)
  have LD0 := Lib.hid (mc_drive (HC.out _ HB1.out))
  have CH := Lib.hid (rhome_any (w1.alloc (.cells #[] 9)) a.L a.N a.cL a.cN m.blocks m.pend m.dleft (HMA.out _ HB1.out).L (HMA.out _ HB1.out).N hsz4 hm.sizes.2.2.2.2.1)
  have HHL : Hid ((homeD m.blocks m.pend).length ≤ 274877906944) := Lib.hid (by
    unfold homeD
    split
    · rw [homeL_length]; omega
    · simp)
  have hdl := hm.sizes
  clear hm hA
  generalize homeD m.blocks m.pend = hm0 at *
  go_upto_region 2 with (first
    | (refine wpList_buildSlice rfl 23 9 0 #[] rfl #[] i0 _ Tryz.underlying23 hi0 hz0 (by simp) (by simp [hz1]) (by simp) ?_)
    | (refine wpList_load_at rfl 28 (.tmp 7) rfl ⟨gx, 13, none⟩ rfl (dvL a.L m.blocks.length a.cL a.N m.pend.length a.cN m.dleft) _ LD0.out Tryz.underlying28 rfl Tryz.sizeDv ?_))
  refine CH.out.mono ?_
  rintro e w3 ⟨⟨vv, rfl, hown⟩, hb3⟩
  have HV3 := Lib.hid (HB1.out.trans (hb3.mono HB1.out.size))
  have HO3 := Lib.hid (own_below HO1.out hb3)
  obtain ⟨A', c', hv, hlies, _⟩ := own_shape hown (by omega)
  subst hv
  have HLA := Lib.hid hlies
  have hnbl := HHL.out
  have H63 : Hid (0 + hm0.length ≤ maxLen) := Lib.hid (by unfold maxLen; omega)
  have HBY : Hid ((0 + hm0.length) * 16 ≤ 140737488355328) := Lib.hid (by omega)
  have HBA : Hid (w1.heap.size ≤ w3.heap.size) := Lib.hid HV3.out.size
  clear hown hb3 CH LD0 hlies hnbl
  go_upto_region 2 with (at_builtin; refine wpList_append_src rfl (.tmp 6) (.tmp 9) 23 rfl w1.heap.size 9 i0 _ 1 16 Tryz.underlying23 hi0 hz0 hz1 hz2 rfl (by decide) _ _ _ rfl HO3.out w3.heap.size A' hm0.length c' (hm0.map S) rfl (by simp) HLA.out (S_one _) H63.out HBY.out HBA.out ?_; intro v' w4 hown' hgrow)
  obtain ⟨nb, hnb⟩ : ∃ z, hm0.length = z := ⟨_, rfl⟩
  have HO4 : Hid (w4.ownsRow w1.heap.size 9 1 v' nb (hm0.map S)) := Lib.hid (by rw [← hnb]; simpa using hown')
  have HV4 : Hid (Below w1.heap.size w1 w4) := Lib.hid (HV3.out.grown hgrow HBA.out (own_ge HO3.out))
  have HNB := Lib.hid hnb
  have HHL' : Hid (nb ≤ 274877906944) := Lib.hid (by rw [← hnb]; exact HHL.out)
  obtain ⟨G, cap, hv', _, _⟩ := own_shape HO4.out (by omega)
  subst hv'
  clear hown' hgrow HLA H63 HBY HBA HO3 HV3 HO1 HB1 hnb HHL
  have hnbl := HHL'.out
  have m16 : w4.cell? ⟨gx, 16, none⟩ = some (.slice a.D m.dirty.length a.cD) := (HC.out w4 HV4.out).cell 16
  go_wp2_with fail
  clear m16
  go_loopw [14] (fun i wr => ∃ (k : Nat) (x : List (List UInt8)), k ≤ m.dirty.length ∧ i = .int .i64 (k : Int) ∧ Hid (x.length = nb) ∧ Hid ((m.dirty.take k).foldl setB hm0 = x) ∧ Hid (wr.ownsRow w1.heap.size 9 1 (.slice G nb cap) nb (x.map S)) ∧ Hid (Below w1.heap.size w1 wr)) (fun i _ => m.dirty.length - (intOf i).toNat)
  case atStart => exact ⟨0, hm0, by omega, rfl, HNB, Lib.hid rfl, HO4, HV4⟩
  case round =>
    clear HO4 HV4
    obtain ⟨k, x, hk, rfl, HXL, HF, HO, HV⟩ := hrel
    by_cases hlt : k < m.dirty.length
    · obtain ⟨p, hx⟩ := get_some hlt
      have HF1 := Lib.hid (foldl_snoc setB hm0 hx)
      rw [HF.out] at HF1
      obtain ⟨bd, hbdr, hbd, hc⟩ := Lies.row (f := nbCells1) (n := 2) (HMA.out wr HV.out).D (fun y hy => rfl) (by omega) hx
      have LD : Hid (∀ j v, (nbCells1 p)[j]? = some v → wr.cell? ((bd.add (k * 2)).add j) = some v) := Lib.hid hc
      have hzv := HV.out.size
      have HX := Lib.hid (Whole.made wr 95 (nbCells1 p).toArray)
      have HV1 := Lib.hid (HV.out.alloc hzv (.cells (nbCells1 p).toArray 95))
      have HO1 := Lib.hid (HO.out.alloc (.cells (nbCells1 p).toArray 95))
      rw [hbdr]
      clear hc hx hbdr
      have i0 : (0 : Int) ≤ (k : Int) := by omega
      have i1 : (k : Int) < (m.dirty.length : Int) := by omega
      go_upto_region 5 with (first
        | (refine wpList_load_at rfl 95 (.tmp 16) rfl (bd.add (k * 2)) rfl (nbCells1 p) _ LD.out Tryz.underlying95 rfl (by kernel_rfl) ?_)
        | (refine wpList_fresh rfl rfl 95 5 (.tmp 17) rfl rfl rfl rfl (nbCells1 p) rfl rfl _ Tryz.infoWr rfl (nb_one p) ?_))
      change Code.wp _ _ _ _ (wr.alloc (.cells (nbCells1 p).toArray 95))
      have HGE : Hid (w1.heap.size ≤ wr.heap.size) := Lib.hid hzv
      clear LD hzv HV HO
      generalize wr.alloc (.cells (nbCells1 p).toArray 95) = w4 at *
      generalize wr.heap.size = g4 at *
      obtain ⟨id, dt⟩ := p
      have x0 : w4.cell? ⟨g4, 0, none⟩ = some (.int .i64 id) := HX.out.cell 0
      have x1 : w4.cell? ⟨g4, 1, none⟩ = some (S dt) := HX.out.cell 1
      by_cases h : 0 ≤ id ∧ id < (nb : Int)
      · obtain ⟨q1, q2⟩ := h
        obtain ⟨j, hj⟩ : ∃ j : Nat, id = (j : Int) := ⟨id.toNat, by omega⟩
        subst hj
        have HS1 : Hid (setB x ((j : Int), dt) = x.set j dt) := Lib.hid (by
          unfold setB
          rw [if_pos (by dsimp only; rw [HXL.out]; omega)]
          rfl)
        obtain ⟨g, cap2, hv2, hgb, hgl'⟩ := HO1.out.form (by omega)
        injection hv2 with hv2 _ hv4
        subst hv2
        subst hv4
        have d0 : decide ((0 : Int) ≤ (j : Int)) = true := decide_eq_true q1
        have d2 : decide ((j : Int) < (nb : Int)) = true := decide_eq_true q2
        have d2' : decide (j < nb) = true := decide_eq_true (by omega)
        have hjx : j < x.length := by have := HXL.out; omega
        have cj : w4.cell? ⟨g, j, none⟩ = some (S (x.getD j [])) := (HO1.out.cellAt j (by have := HXL.out; omega)).trans (by simp [hjx])
        have fj := HO1.out.frozenAt j
        obtain ⟨hst, hgr⟩ := HO1.out.stored j (S dt)
        rw [← List.map_set] at hst
        have HO5 : Hid ((w4.setCell ⟨g, j, none⟩ (S dt)).ownsRow w1.heap.size 9 1 (.slice (some ⟨g, 0, none⟩) nb cap) nb ((x.set j dt).map S)) := Lib.hid hst
        have HB5 : Hid (Below w1.heap.size w1 (w4.setCell ⟨g, j, none⟩ (S dt))) := Lib.hid (HV1.out.setCell (p := ⟨g, j, none⟩) hgb _)
        have j0 : (0 : Int) ≤ (j : Int) := by omega
        have j1 : (j : Int) < (nb : Int) := by omega
        have j2 : (j : Int) ≤ 274877906944 := by omega
        have R : ∃ (k' : Nat) (x' : List (List UInt8)), k' ≤ m.dirty.length ∧ Value.int .i64 ((k : Int) + 1) = .int .i64 (k' : Int) ∧ Hid (x'.length = nb) ∧ Hid ((m.dirty.take k').foldl setB hm0 = x') ∧ Hid ((w4.setCell ⟨g, j, none⟩ (S dt)).ownsRow w1.heap.size 9 1 (.slice (some ⟨g, 0, none⟩) nb cap) nb (x'.map S)) ∧ Hid (Below w1.heap.size w1 (w4.setCell ⟨g, j, none⟩ (S dt))) :=
          ⟨k + 1, x.set j dt, by omega, by go_num, Lib.hid (by rw [List.length_set]; exact HXL.out), Lib.hid (by rw [HF1.out]; exact HS1.out), HO5, HB5⟩
        clear hst hgr q1 q2
        go_wp2_with fail
        first
          | exact ⟨⟨k + 1, by omega, by omega, x.set j dt, Lib.hid (by rw [List.length_set]; exact HXL.out), Lib.hid (by rw [HF1.out]; exact HS1.out), HO5⟩, by simp [intOf]; omega⟩
          | exact ⟨R, by simp [intOf]; omega⟩
          | (go_roundw
             case rel => first | exact R | ((repeat apply Exists.intro); exact ⟨R, rfl⟩)
             case measure => simp [intOf]; omega)
          | trace_state
      · have HS1 : Hid (setB x (id, dt) = x) := Lib.hid (by
          unfold setB
          rw [if_neg (by dsimp only; rw [HXL.out]; exact h)])
        have R : ∀ w5, w5 = w4 → (∃ (k' : Nat) (x' : List (List UInt8)), k' ≤ m.dirty.length ∧ Value.int .i64 ((k : Int) + 1) = .int .i64 (k' : Int) ∧ Hid (x'.length = nb) ∧ Hid ((m.dirty.take k').foldl setB hm0 = x') ∧ Hid (w5.ownsRow w1.heap.size 9 1 (.slice G nb cap) nb (x'.map S)) ∧ Hid (Below w1.heap.size w1 w5)) := by
          rintro w5 rfl
          exact ⟨k + 1, x, by omega, by go_num, HXL, Lib.hid (by rw [HF1.out]; exact HS1.out), HO1, HV1⟩
        by_cases q1 : 0 ≤ id
        · have d0 : decide ((0 : Int) ≤ id) = true := decide_eq_true q1
          have d2 : decide (id < (nb : Int)) = false := decide_eq_false (by omega)
          clear h q1
          go_wp2_with fail
          exact ⟨R _ rfl, by simp [intOf]; omega⟩
        · have d0 : decide ((0 : Int) ≤ id) = false := decide_eq_false q1
          clear h q1
          go_wp2_with fail
          exact ⟨R _ rfl, by simp [intOf]; omega⟩
    · obtain rfl : k = m.dirty.length := by omega
      have hd : decide (m.dirty.length < m.dirty.length) = false := by simp
      rw [List.take_of_length_le (Nat.le_refl _)] at HF
      have HXV : Hid (volL m = x) := Lib.hid (by rw [HVL.out, HF.out])
      have HOX : Hid (OwnS wr w1.heap.size (.slice G nb cap) x) := Lib.hid (by
        unfold OwnS
        rw [HXL.out]
        exact HO.out)
      go_wp2_with fail
      go_ret
      exact ⟨⟨_, rfl, by rw [HXV.out, HGX.out]; exact own_wide HOX.out (by omega)⟩, by rw [HGX.out]; exact HW.out.trans (HV.out.mono (by omega))⟩
end Go.Proofs.YtmmfcjkabpffeaaGreatDoor
/-
  Walk: hibernacleref25.disk. (Printed by gen_rchkd.py.)
-/
namespace Go.Proofs.YtmmfcjkabpffeaaGreatDoor
open Go.RowKit

set_option maxRecDepth 100000 in
set_option maxHeartbeats 4000000 in
theorem rdisk_any (w : World) (a : MA) (m : Mc) (hm : McOk m) (hA : MAt w w.heap.size a m) :
    Calls Tryz.prog 26 #[.agg (mcL a m).toArray] w fun e w' => e = .returned (.int .i64 (volE m)) ∧ Below w.heap.size w w' := by
  have hs0 := Whole.made w 30 (mcL a m).toArray
  have hb : Below w.heap.size w (w.alloc (.cells (mcL a m).toArray 30)) := (Below.refl _ _).alloc (Nat.le_refl _) _
  go_enter Tryz.func26, Tryz.ntmps26
  go_upto_region 1 with (fail)
  change Code.wp _ _ _ _ (w.alloc (.cells (mcL a m).toArray 30))
  generalize (w.alloc (.cells (mcL a m).toArray 30)) = w1 at *
  generalize hgx : w.heap.size = gx at *
  have HGX := Lib.hid hgx
  have HS0 := Lib.hid hs0
  have HW := Lib.hid hb
  have hgl : gx < w1.heap.size := hs0.lt
  clear hgx hb hs0
  have HA := Lib.hid (hA.below HW.out)
  have HM := Lib.hid hm
  have HMA : Hid (∀ W, Below w1.heap.size w1 W → MAt W W.heap.size a m) := Lib.hid fun W hW => (HA.out.below (hW.mono (by omega))).wide (by have := hW.size; omega)
  have HC : Hid (∀ W, Below w1.heap.size w1 W → Whole W gx 30 (mcL a m).toArray) := Lib.hid fun W hW => HS0.out.below hW (by omega)
  have MI : Hid ((Tryz.prog.info? 30).map (·.size) = some (mcL a m).length) := Lib.hid (by rw [mcL_length]; exact Tryz.sizeMc)
  have LD0 := Lib.hid (mc_drive HS0.out)
  have hsz := hm.sizes
  have CD := Lib.hid (rdrive_any w1 a.L a.N a.cL a.cN m.blocks m.pend m.dleft (HMA.out w1 (Below.refl _ _)).L (HMA.out w1 (Below.refl _ _)).N hsz.2.2.2.1 hsz.2.2.2.2.1)
  have HFE : Hid (volE m = if driveE m.blocks m.pend ≠ 0 then driveE m.blocks m.pend else if homeD m.blocks m.pend = [] then 3 else if 32 < m.dirty.length then 6 else if dirtyR (homeD m.blocks m.pend).length (-1) m.dirty = true then geomE (volL m) else 3) := Lib.hid rfl
  have HVN : Hid ((volL m).length = (homeD m.blocks m.pend).length) := Lib.hid (by unfold volL; exact foldl_setB_length _ _)
  clear hm hA
  generalize driveE m.blocks m.pend = de at *
  go_wp2_with (refine wpList_load_at rfl 28 (.tmp 7) rfl ⟨gx, 13, none⟩ rfl (dvL a.L m.blocks.length a.cL a.N m.pend.length a.cN m.dleft) _ LD0.out Tryz.underlying28 rfl Tryz.sizeDv ?_)
  refine CD.out.mono ?_
  rintro e w2 ⟨rfl, hb2⟩
  have HV2 := Lib.hid hb2
  have LD2 := Lib.hid (mc_drive (HC.out w2 hb2))
  have CH := Lib.hid (rhome_any w2 a.L a.N a.cL a.cN m.blocks m.pend m.dleft (HMA.out w2 hb2).L (HMA.out w2 hb2).N hsz.2.2.2.1 hsz.2.2.2.2.1)
  clear hb2 LD0 CD
  by_cases h1 : de = 0
  · subst h1
    have HFE1 : Hid (volE m = if homeD m.blocks m.pend = [] then 3 else if 32 < m.dirty.length then 6 else if dirtyR (homeD m.blocks m.pend).length (-1) m.dirty = true then geomE (volL m) else 3) := Lib.hid (by rw [HFE.out, if_neg (by simp)])
    have HHL : Hid ((homeD m.blocks m.pend).length ≤ 274877906944) := Lib.hid (by
      unfold homeD
      split
      · rw [homeL_length]; omega
      · simp)
    clear HFE
    generalize homeD m.blocks m.pend = hm0 at *
    go_wp2_with (refine wpList_load_at rfl 28 (.tmp 13) rfl ⟨gx, 13, none⟩ rfl (dvL a.L m.blocks.length a.cL a.N m.pend.length a.cN m.dleft) _ LD2.out Tryz.underlying28 rfl Tryz.sizeDv ?_)
    refine CH.out.mono ?_
    rintro e w3 ⟨⟨vv, rfl, hown⟩, hb3⟩
    have HV3 := Lib.hid (HV2.out.trans (hb3.mono HV2.out.size))
    obtain ⟨A', c', hv, _, _⟩ := own_shape hown (by omega)
    subst hv
    have m16 : w3.cell? ⟨gx, 16, none⟩ = some (.slice a.D m.dirty.length a.cD) := (HC.out w3 HV3.out).cell 16
    clear hown hb3 CH LD2
    by_cases he : hm0 = []
    · have HE : Hid (3 = volE m) := Lib.hid (by rw [HFE1.out, if_pos he])
      subst he
      go_wp2_with fail
      go_ret
      exact ⟨ret_int HE.out, by rw [HGX.out]; exact HW.out.trans (HV3.out.mono (by omega))⟩
    have HFE2 : Hid (volE m = if 32 < m.dirty.length then 6 else if dirtyR hm0.length (-1) m.dirty = true then geomE (volL m) else 3) := Lib.hid (by rw [HFE1.out, if_neg he])
    have hn0 : 0 < hm0.length := List.length_pos_iff.2 he
    obtain ⟨nb, hnb⟩ : ∃ z, hm0.length = z := ⟨_, rfl⟩
    rw [hnb] at HFE2 HHL HVN
    rw [hnb]
    have hnb0 : 0 < nb := by omega
    have hnbl := HHL.out
    have z1 : ((nb : Int) == 0) = false := by simp; omega
    have z2 : (nb == 0) = false := by simp; omega
    clear hnb he HFE1 hn0
    by_cases h32 : 32 < m.dirty.length
    · have HE : Hid (6 = volE m) := Lib.hid (by rw [HFE2.out, if_pos h32])
      have d1 : decide ((32 : Int) < (m.dirty.length : Int)) = true := decide_eq_true (by omega)
      have d2 : decide (32 < m.dirty.length) = true := decide_eq_true h32
      clear h32
      go_wp2_with fail
      go_ret
      exact ⟨ret_int HE.out, by rw [HGX.out]; exact HW.out.trans (HV3.out.mono (by omega))⟩
    have HFE3 : Hid (volE m = if dirtyR nb (-1) m.dirty = true then geomE (volL m) else 3) := Lib.hid (by rw [HFE2.out, if_neg h32])
    have d1 : decide ((32 : Int) < (m.dirty.length : Int)) = false := decide_eq_false (by omega)
    have d2 : decide (32 < m.dirty.length) = false := decide_eq_false h32
    have hl32 : m.dirty.length ≤ 32 := by omega
    clear h32 HFE2
    go_wp2_with fail
    clear d1 d2 z1 z2 m16
    go_loopw [26] (fun i wr => ∃ (k : Nat), k ≤ m.dirty.length ∧ i = .int .i64 (k : Int) ∧ Hid (∃ last : Int, -1 ≤ last ∧ (k = 0 → last = -1) ∧ (∀ q, k = q + 1 → 0 ≤ last ∧ ∃ y, m.dirty[q]? = some y ∧ y.1 = last) ∧ dirtyR nb (-1) m.dirty = dirtyR nb last (m.dirty.drop k)) ∧ Hid (Below w1.heap.size w1 wr)) (fun i _ => m.dirty.length - (intOf i).toNat)
    case atStart => exact ⟨0, by omega, rfl, Lib.hid ⟨-1, by omega, fun _ => rfl, fun q hq => by omega, rfl⟩, HV3⟩
    case round =>
      clear HV3
      obtain ⟨k, hk, rfl, HI, HV⟩ := hrel
      by_cases hlt : k < m.dirty.length
      · obtain ⟨p, hx⟩ := get_some hlt
        have HD := Lib.hid (drop_cons hx)
        have HXP := Lib.hid hx
        obtain ⟨last, hla, hl0, hlq, HN⟩ := HI.out
        rw [HD.out] at HN
        obtain ⟨bd, hbdr, hbd, hc⟩ := Lies.row (f := nbCells1) (n := 2) (HMA.out wr HV.out).D (fun y hy => rfl) (by omega) hx
        have LD : Hid (∀ j v, (nbCells1 p)[j]? = some v → wr.cell? ((bd.add (k * 2)).add j) = some v) := Lib.hid hc
        have hzv := HV.out.size
        have HZ : Hid (Whole (wr.alloc (.cells #[.int .i64 0, .string { data := #[] }] 95)) wr.heap.size 95 (nbCells1 (0, [])).toArray) := Lib.hid (Whole.made wr 95 (nbCells1 (0, [])).toArray)
        have HVZ := Lib.hid (HV.out.alloc hzv (.cells #[.int .i64 0, .string { data := #[] }] 95))
        have HBD := Lib.hid hbdr
        rw [hbdr]
        clear hc hx hbdr
        have i0 : (0 : Int) ≤ (k : Int) := by omega
        have i1 : (k : Int) < (m.dirty.length : Int) := by omega
        go_upto_region 12 with (first
          | (refine wpList_load_at rfl 95 (.tmp 29) rfl (bd.add (k * 2)) rfl (nbCells1 p) _ LD.out Tryz.underlying95 rfl (by kernel_rfl) ?_)
          | (refine wpList_store_all rfl 95 (.tmp 6) (.tmp 30) rfl rfl wr.heap.size rfl (nbCells1 p) rfl (by kernel_rfl) (nbCells1 (0, [])) 95 HZ.out rfl (nb_one p) ?_; intro w4 HX HG4))
        have HV1 : Hid (Below w1.heap.size w1 w4) := Lib.hid (below_grown HVZ.out HG4.out HVZ.out.size hzv)
        have HPRE : Hid (∀ q, k = q + 1 → w4.cell? (bd.add (q * 2)) = some (.int .i64 last)) := Lib.hid (fun q hq => by
          obtain ⟨_, y, hy, hyl⟩ := hlq q hq
          obtain ⟨bd', hbdr', _, hc'⟩ := Lies.row (f := nbCells1) (n := 2) (HMA.out _ HV1.out).D (fun y hy => rfl) (by omega) hy
          rw [HBD.out] at hbdr'
          injection hbdr' with hbb
          subst hbb
          have := hc' 0 _ rfl
          rw [Addr.add_zero', hyl] at this
          exact this)
        have m16 : w4.cell? ⟨gx, 16, none⟩ = some (.slice (some bd) m.dirty.length a.cD) := by rw [← HBD.out]; exact (HC.out _ HV1.out).cell 16
        have HGE : Hid (w1.heap.size ≤ wr.heap.size) := Lib.hid hzv
        clear LD hzv HV HZ HVZ HG4
        generalize wr.heap.size = g4 at *
        obtain ⟨id, dt⟩ := p
        have x0 : w4.cell? ⟨g4, 0, none⟩ = some (.int .i64 id) := HX.out.cell 0
        have x1 : w4.cell? ⟨g4, 1, none⟩ = some (S dt) := HX.out.cell 1
        by_cases h : last < id ∧ id < (nb : Int) ∧ dt.length = 128
        · have HQ := Lib.hid (dirtyR_ok (n := nb) (last := last) (p := (id, dt)) (l := m.dirty.drop (k + 1)) h.1 h.2.1 h.2.2)
          obtain ⟨q1, q2, q3⟩ := h
          have R : ∀ M : Nat, ∃ (k' : Nat), k' ≤ m.dirty.length ∧ Value.int .i64 ((k : Int) + 1) = .int .i64 (k' : Int) ∧ Hid (∃ last : Int, -1 ≤ last ∧ (k' = 0 → last = -1) ∧ (∀ q, k' = q + 1 → 0 ≤ last ∧ ∃ y, m.dirty[q]? = some y ∧ y.1 = last) ∧ dirtyR nb (-1) m.dirty = dirtyR nb last (m.dirty.drop k')) ∧ Hid (Below w1.heap.size w1 (w4.drewN M)) := fun M =>
            ⟨k + 1, by omega, by go_num, Lib.hid ⟨id, by omega, fun h => by omega, fun q hq => ⟨by omega, (id, dt), (by rw [show q = k by omega]; exact HXP.out), rfl⟩, HN.trans HQ.out⟩, Lib.hid (Below.draws HV1.out _)⟩
          have d1 : decide (id < 0) = false := decide_eq_false (by omega)
          have d2 : decide ((nb : Int) ≤ id) = false := decide_eq_false (by omega)
          have d3 : ((dt.length : Int) != 128) = false := by simp [q3]
          have d3' : (dt.length != 128) = false := by simp [q3]
          cases k with
          | zero =>
            clear q1 q2 q3 hlq hl0
            go_quiet (fail)
            go_wp2_with fail
            go_roundw
            case rel => first | exact R _ | ((repeat apply Exists.intro); exact ⟨R _, rfl⟩)
            case measure => simp [intOf]; omega
          | succ q =>
            have d4 : decide ((0 : Int) < ((q + 1 : Nat) : Int)) = true := decide_eq_true (by omega)
            have d4' : decide ((0 : Int) < (q : Int) + 1) = true := decide_eq_true (by omega)
            have d5 : decide (id ≤ last) = false := decide_eq_false (by omega)
            have xp := HPRE.out q rfl
            have u1 : IntKind.i64.wrap ((q : Int) + 1 - 1) = (q : Int) := by rw [show (q : Int) + 1 - 1 = (q : Int) by omega]; exact IntWalk.i64_in _ (by omega)
            have j0 : (0 : Int) ≤ (q : Int) := by omega
            have j1 : (q : Int) < (m.dirty.length : Int) := by omega
            clear q1 q2 q3 hlq hl0
            go_quiet (fail)
            go_wp2_with fail
            go_roundw
            case rel => first | exact R _ | ((repeat apply Exists.intro); exact ⟨R _, rfl⟩)
            case measure => simp [intOf]; omega
        · have HE : Hid (3 = volE m) := Lib.hid (by rw [HFE3.out, HN, dirtyR_bad h]; rfl)
          by_cases q0 : id < 0
          · have d1 : decide (id < 0) = true := decide_eq_true q0
            clear h q0 hlq hl0 hla
            go_quiet (fail)
            go_wp2_with fail
            go_ret
            exact ⟨ret_int HE.out, by rw [HGX.out]; exact HW.out.trans ((Below.draws HV1.out _).mono (by omega))⟩
          have d1 : decide (id < 0) = false := decide_eq_false q0
          by_cases q2 : (nb : Int) ≤ id
          · have d2 : decide ((nb : Int) ≤ id) = true := decide_eq_true q2
            clear h q0 q2 hlq hl0 hla
            go_quiet (fail)
            go_wp2_with fail
            go_ret
            exact ⟨ret_int HE.out, by rw [HGX.out]; exact HW.out.trans ((Below.draws HV1.out _).mono (by omega))⟩
          have d2 : decide ((nb : Int) ≤ id) = false := decide_eq_false q2
          by_cases q3 : dt.length = 128
          · have d3 : ((dt.length : Int) != 128) = false := by simp [q3]
            have d3' : (dt.length != 128) = false := by simp [q3]
            have q1 : id ≤ last := by
              rcases Int.lt_or_le last id with h' | h'
              · exact absurd ⟨h', by omega, q3⟩ h
              · exact h'
            cases k with
            | zero => exact absurd (hl0 rfl) (by omega)
            | succ q =>
              have d4 : decide ((0 : Int) < ((q + 1 : Nat) : Int)) = true := decide_eq_true (by omega)
              have d4' : decide ((0 : Int) < (q : Int) + 1) = true := decide_eq_true (by omega)
              have d5 : decide (id ≤ last) = true := decide_eq_true q1
              have xp := HPRE.out q rfl
              have u1 : IntKind.i64.wrap ((q : Int) + 1 - 1) = (q : Int) := by rw [show (q : Int) + 1 - 1 = (q : Int) by omega]; exact IntWalk.i64_in _ (by omega)
              have j0 : (0 : Int) ≤ (q : Int) := by omega
              have j1 : (q : Int) < (m.dirty.length : Int) := by omega
              clear h q0 q1 q2 q3 hlq hl0 hla
              go_quiet (fail)
              go_wp2_with fail
              go_ret
              exact ⟨ret_int HE.out, by rw [HGX.out]; exact HW.out.trans ((Below.draws HV1.out _).mono (by omega))⟩
          · have d3 : ((dt.length : Int) != 128) = true := by simp; omega
            have d3' : (dt.length != 128) = true := by simp [q3]
            clear h q0 q2 q3 hlq hl0 hla
            go_quiet (fail)
            go_wp2_with fail
            go_ret
            exact ⟨ret_int HE.out, by rw [HGX.out]; exact HW.out.trans ((Below.draws HV1.out _).mono (by omega))⟩
      · obtain rfl : k = m.dirty.length := by omega
        have hd : decide (m.dirty.length < m.dirty.length) = false := by simp
        obtain ⟨last, _, _, _, HN⟩ := HI.out
        rw [drop_end] at HN
        have HE : Hid (geomE (volL m) = volE m) := Lib.hid (by rw [HFE3.out, if_pos (by rw [HN]; rfl)])
        have LM := Lib.hid (HC.out wr HV.out).reads
        have CV := Lib.hid (rvolume_any wr a m HM.out (HMA.out wr HV.out))
        have hvl : (volL m).length ≤ 274877906944 := by rw [HVN.out]; exact hnbl
        have HVL := Lib.hid hvl
        clear hvl HN HI
        go_wp2_with (refine wpList_load_at rfl 30 (.tmp 1) rfl ⟨gx, 0, none⟩ rfl (mcL a m) _ LM.out Tryz.underlying30 rfl MI.out ?_)
        refine CV.out.mono ?_
        rintro e w5 ⟨⟨vv, rfl, hown⟩, hb5⟩
        have HV5 := Lib.hid (HV.out.trans (hb5.mono HV.out.size))
        obtain ⟨A5, c5, hv, hlies, _⟩ := own_shape hown (by omega)
        subst hv
        have CG := Lib.hid (rgeomOf_any w5 A5 c5 (volL m) hlies HVL.out)
        clear hown hb5 hlies CV LM
        go_wp2_with fail
        refine CG.out.mono ?_
        rintro e w6 ⟨rfl, hb6⟩
        have HV6 := Lib.hid (HV5.out.trans (hb6.mono HV5.out.size))
        clear hb6 CG
        go_wp2_with fail
        go_ret
        exact ⟨ret_int HE.out, by rw [HGX.out]; exact HW.out.trans (HV6.out.mono (by omega))⟩
  · have HE : Hid (de = volE m) := Lib.hid (by rw [HFE.out, if_pos h1])
    have d1 : (de != 0) = true := by simp [h1]
    clear h1
    go_wp2_with fail
    go_ret
    exact ⟨ret_int HE.out, by rw [HGX.out]; exact HW.out.trans (HV2.out.mono (by omega))⟩
end Go.Proofs.YtmmfcjkabpffeaaGreatDoor
