/-
  Walk: state.volume. (Printed by gen_chkf.py.)
-/
import Derived.Test.YtmmfcjkabpffeaaGreatDoorGeomC
import Derived.Test.YtmmfcjkabpffeaaGreatDoorVolA
import Derived.Test.YtmmfcjkabpffeaaGreatDoorChkE
namespace Go.Proofs.YtmmfcjkabpffeaaGreatDoor
open Go.RowKit

/-- the drive's cells out of a machine's -/
theorem mc_drive {w : World} {g : Nat} {t : TypeId} {a : MA} {m : Mc} (h : Whole w g t (mcL a m).toArray) : ∀ j v, (dvL a.L m.blocks.length a.cL a.N m.pend.length a.cN m.dleft)[j]? = some v → w.cell? ((⟨g, 13, none⟩ : Addr).add j) = some v :=
  mid_cells h 13 _ fun j v hv => by
    match j, hv with
    | 0, hv => exact hv
    | 1, hv => exact hv
    | 2, hv => exact hv
    | n + 3, hv => simp [dvL] at hv
set_option maxRecDepth 100000 in
set_option maxHeartbeats 4000000 in
theorem volume_any (w : World) (a : MA) (m : Mc) (hm : McOk m) (hA : MAt w w.heap.size a m) :
    Calls Tryz.prog 61 #[.agg (mcL a m).toArray] w fun e w' => e = .returned (.int .i64 (volE m)) ∧ Below w.heap.size w w' := by
  have hs0 := Whole.made w 30 (mcL a m).toArray
  have hb : Below w.heap.size w (w.alloc (.cells (mcL a m).toArray 30)) := (Below.refl _ _).alloc (Nat.le_refl _) _
  go_enter Tryz.func61, Tryz.ntmps61
  go_upto_region 1 with (fail)
  change Code.wp _ _ _ _ (w.alloc (.cells (mcL a m).toArray 30))
  generalize (w.alloc (.cells (mcL a m).toArray 30)) = w1 at *
  generalize hgx : w.heap.size = gx at *
  have HGX := Lib.hid hgx
  have HS0 := Lib.hid hs0
  have HW := Lib.hid hb
  have hgl : gx < w1.heap.size := hs0.lt
  clear hgx hb hs0
  have HA := Lib.hid (hA.below HW.out)
  have HM := Lib.hid hm
  have HMA : Hid (∀ W, Below w1.heap.size w1 W → MAt W W.heap.size a m) := Lib.hid fun W hW => (HA.out.below (hW.mono (by omega))).wide (by have := hW.size; omega)
  have HC : Hid (∀ W, Below w1.heap.size w1 W → Whole W gx 30 (mcL a m).toArray) := Lib.hid fun W hW => HS0.out.below hW (by omega)
  have LD0 := Lib.hid (mc_drive HS0.out)
  have CD := Lib.hid (drive_any w1 a.L a.N a.cL a.cN m.blocks m.pend m.dleft (HMA.out w1 (Below.refl _ _)).L (HMA.out w1 (Below.refl _ _)).N hm.sizes.2.2.2.1 hm.sizes.2.2.2.2.1)
  have HFE : Hid (volE m = if driveE m.blocks m.pend ≠ 0 then driveE m.blocks m.pend else if homeD m.blocks m.pend = [] then 3 else if 32 < m.dirty.length then 6 else if dirtyR (homeD m.blocks m.pend).length (-1) m.dirty = true then geomE (volL m) else 3) := Lib.hid rfl
  have HVL : Hid (volL m = m.dirty.foldl setB (homeD m.blocks m.pend)) := Lib.hid rfl
  have hsz4 := hm.sizes.2.2.2.1
  clear hm hA
  generalize driveE m.blocks m.pend = de at *
  go_wp2_with (refine wpList_load_at rfl 28 (.tmp 10) rfl ⟨gx, 13, none⟩ rfl (dvL a.L m.blocks.length a.cL a.N m.pend.length a.cN m.dleft) _ LD0.out Tryz.underlying28 rfl Tryz.sizeDv ?_)
  refine CD.out.mono ?_
  rintro e w2 ⟨rfl, hb2⟩
  have HV2 := Lib.hid hb2
  have LD2 := Lib.hid (mc_drive (HC.out w2 hb2))
  have CH := Lib.hid (home_any w2 a.L a.N a.cL a.cN m.blocks m.pend m.dleft (HMA.out w2 hb2).L (HMA.out w2 hb2).N hsz4 HM.out.sizes.2.2.2.2.1 HA.out.caps.2.2.2.1)
  clear hb2 LD0 CD
  by_cases h1 : de = 0
  · subst h1
    have HFE1 : Hid (volE m = if homeD m.blocks m.pend = [] then 3 else if 32 < m.dirty.length then 6 else if dirtyR (homeD m.blocks m.pend).length (-1) m.dirty = true then geomE (volL m) else 3) := Lib.hid (by rw [HFE.out, if_neg (by simp)])
    have HHL : Hid ((homeD m.blocks m.pend).length ≤ 274877906944) := Lib.hid (by
      unfold homeD
      split
      · rw [homeL_length]; omega
      · simp)
    clear HFE
    generalize homeD m.blocks m.pend = hm0 at *
    go_wp2_with (refine wpList_load_at rfl 28 (.tmp 16) rfl ⟨gx, 13, none⟩ rfl (dvL a.L m.blocks.length a.cL a.N m.pend.length a.cN m.dleft) _ LD2.out Tryz.underlying28 rfl Tryz.sizeDv ?_)
    refine CH.out.mono ?_
    rintro e w3 ⟨⟨vv, rfl, hown⟩, hb3⟩
    have HV3 := Lib.hid (HV2.out.trans (hb3.mono HV2.out.size))
    have HO3 := Lib.hid (own_wide hown HV2.out.size)
    have m16 : w3.cell? ⟨gx, 16, none⟩ = some (.slice a.D m.dirty.length a.cD) := (HC.out w3 HV3.out).cell 16
    clear hown hb3 CH LD2
    by_cases he : hm0 = []
    · have HE : Hid (3 = volE m) := Lib.hid (by rw [HFE1.out, if_pos he])
      subst he
      obtain ⟨A', c', hv, _, _⟩ := own_shape HO3.out (by omega)
      subst hv
      go_wp2_with fail
      go_ret
      exact ⟨ret_int HE.out, by rw [HGX.out]; exact HW.out.trans (HV3.out.mono (by omega))⟩
    have hn0 : 0 < hm0.length := List.length_pos_iff.2 he
    obtain ⟨g, cap, hv, hgb, hgl'⟩ := HO3.out.form hn0
    subst hv
    have HFE2 : Hid (volE m = if 32 < m.dirty.length then 6 else if dirtyR hm0.length (-1) m.dirty = true then geomE (volL m) else 3) := Lib.hid (by rw [HFE1.out, if_neg he])
    obtain ⟨nb, hnb⟩ : ∃ z, hm0.length = z := ⟨_, rfl⟩
    have HNB := Lib.hid hnb
    have HO3' : Hid (w3.ownsRow w1.heap.size 9 1 (.slice (some ⟨g, 0, none⟩) nb cap) nb (hm0.map S)) := by rw [← hnb]; exact HO3
    rw [hnb] at HFE2 HHL
    rw [hnb]
    have hnb0 : 0 < nb := by omega
    have hnbl := HHL.out
    have z1 : ((nb : Int) == 0) = false := by simp; omega
    have z2 : (nb == 0) = false := by simp; omega
    clear hnb he HO3 HFE1 hn0
    by_cases h32 : 32 < m.dirty.length
    · have HE : Hid (6 = volE m) := Lib.hid (by rw [HFE2.out, if_pos h32])
      have d1 : decide ((32 : Int) < (m.dirty.length : Int)) = true := decide_eq_true (by omega)
      have d2 : decide (32 < m.dirty.length) = true := decide_eq_true h32
      clear h32
      go_wp2_with fail
      go_ret
      exact ⟨ret_int HE.out, by rw [HGX.out]; exact HW.out.trans (HV3.out.mono (by omega))⟩
    have HFE3 : Hid (volE m = if dirtyR nb (-1) m.dirty = true then geomE (volL m) else 3) := Lib.hid (by rw [HFE2.out, if_neg h32])
    have d1 : decide ((32 : Int) < (m.dirty.length : Int)) = false := decide_eq_false (by omega)
    have d2 : decide (32 < m.dirty.length) = false := decide_eq_false h32
    have hl32 : m.dirty.length ≤ 32 := by omega
    clear h32 HFE2
    go_wp2_with fail
    clear d1 d2 z1 z2 m16
    go_loopw [5, 29] (fun s i wr => ∃ (k : Nat) (last : Int) (x : List (List UInt8)), k ≤ m.dirty.length ∧ i = .int .i64 (k : Int) ∧ s = .int .i64 last ∧ -1 ≤ last ∧ Hid (dirtyR nb (-1) m.dirty = dirtyR nb last (m.dirty.drop k)) ∧ Hid (x.length = nb) ∧ Hid ((m.dirty.take k).foldl setB hm0 = x) ∧ Hid (wr.ownsRow w1.heap.size 9 1 (.slice (some ⟨g, 0, none⟩) nb cap) nb (x.map S)) ∧ Hid (Below w1.heap.size w1 wr)) (fun _ i _ => m.dirty.length - (intOf i).toNat)
    case atStart => exact ⟨0, -1, hm0, by omega, rfl, rfl, by omega, Lib.hid rfl, HNB, Lib.hid rfl, HO3', HV3⟩
    case round =>
      clear HO3' HV3
      obtain ⟨k, last, x, hk, rfl, rfl, hla, HN, HXL, HF, HO, HV⟩ := hrel
      by_cases hlt : k < m.dirty.length
      · obtain ⟨p, hx⟩ := get_some hlt
        have HF1 := Lib.hid (foldl_snoc setB hm0 hx)
        rw [HF.out] at HF1
        have HD := Lib.hid (drop_cons hx)
        rw [HD.out] at HN
        obtain ⟨bd, hbdr, hbd, hc⟩ := Lies.row (f := nbCells1) (n := 2) (HMA.out wr HV.out).D (fun y hy => rfl) (by omega) hx
        have LD : Hid (∀ j v, (nbCells1 p)[j]? = some v → wr.cell? ((bd.add (k * 2)).add j) = some v) := Lib.hid hc
        have hzv := HV.out.size
        have HX := Lib.hid (Whole.made wr 95 (nbCells1 p).toArray)
        have HV1 := Lib.hid (HV.out.alloc hzv (.cells (nbCells1 p).toArray 95))
        have HO1 := Lib.hid (HO.out.alloc (.cells (nbCells1 p).toArray 95))
        rw [hbdr]
        clear hc hx hbdr
        have i0 : (0 : Int) ≤ (k : Int) := by omega
        have i1 : (k : Int) < (m.dirty.length : Int) := by omega
        go_upto_region 13 with (first
          | (refine wpList_load_at rfl 95 (.tmp 31) rfl (bd.add (k * 2)) rfl (nbCells1 p) _ LD.out Tryz.underlying95 rfl (by kernel_rfl) ?_)
          | (refine wpList_fresh rfl rfl 95 7 (.tmp 32) rfl rfl rfl rfl (nbCells1 p) rfl rfl _ Tryz.infoWr rfl (nb_one p) ?_))
        change Code.wp _ _ _ _ (wr.alloc (.cells (nbCells1 p).toArray 95))
        have HGE : Hid (w1.heap.size ≤ wr.heap.size) := Lib.hid hzv
        clear LD hzv HV HO
        generalize wr.alloc (.cells (nbCells1 p).toArray 95) = w4 at *
        generalize wr.heap.size = g4 at *
        obtain ⟨id, dt⟩ := p
        have x0 : w4.cell? ⟨g4, 0, none⟩ = some (.int .i64 id) := HX.out.cell 0
        have x1 : w4.cell? ⟨g4, 1, none⟩ = some (S dt) := HX.out.cell 1
        by_cases h : last < id ∧ id < (nb : Int) ∧ dt.length = 128
        · have HQ := Lib.hid (dirtyR_ok (n := nb) (last := last) (p := (id, dt)) (l := m.dirty.drop (k + 1)) h.1 h.2.1 h.2.2)
          obtain ⟨q1, q2, q3⟩ := h
          obtain ⟨j, hj⟩ : ∃ j : Nat, id = (j : Int) := ⟨id.toNat, by omega⟩
          subst hj
          have HS1 : Hid (setB x ((j : Int), dt) = x.set j dt) := Lib.hid (by
            unfold setB
            rw [if_pos (by dsimp only; rw [HXL.out]; omega)]
            rfl)
          have d1 : decide ((j : Int) ≤ last) = false := decide_eq_false (by omega)
          have d2 : decide ((nb : Int) ≤ (j : Int)) = false := decide_eq_false (by omega)
          have d2' : decide (nb ≤ j) = false := decide_eq_false (by omega)
          have d3 : ((dt.length : Int) != 128) = false := by simp [q3]
          have d3' : (dt.length != 128) = false := by simp [q3]
          have hjx : j < x.length := by have := HXL.out; omega
          have cj : w4.cell? ⟨g, j, none⟩ = some (S (x.getD j [])) := (HO1.out.cellAt j (by have := HXL.out; omega)).trans (by simp [hjx])
          have fj := HO1.out.frozenAt j
          obtain ⟨hst, hgr⟩ := HO1.out.stored j (S dt)
          rw [← List.map_set] at hst
          have HO5 : Hid ((w4.setCell ⟨g, j, none⟩ (S dt)).ownsRow w1.heap.size 9 1 (.slice (some ⟨g, 0, none⟩) nb cap) nb ((x.set j dt).map S)) := Lib.hid hst
          have HB5 : Hid (Below w1.heap.size w1 (w4.setCell ⟨g, j, none⟩ (S dt))) := Lib.hid (HV1.out.setCell (p := ⟨g, j, none⟩) hgb _)
          have j0 : (0 : Int) ≤ (j : Int) := by omega
          have j1 : (j : Int) < (nb : Int) := by omega
          have j2 : (j : Int) ≤ 274877906944 := by omega
          clear hst hgr q1 q2 q3
          go_wp2_with fail
          refine ⟨⟨k + 1, (j : Int), x.set j dt, by omega, by go_num, rfl, by omega, Lib.hid (by rw [HN.out]; exact HQ.out), Lib.hid (by rw [List.length_set]; exact HXL.out), Lib.hid (by rw [HF1.out]; exact HS1.out), HO5, HB5⟩, by simp [intOf]; omega⟩
        · have HE : Hid (3 = volE m) := Lib.hid (by rw [HFE3.out, HN.out, dirtyR_bad h]; rfl)
          by_cases q1 : last < id
          · have d1 : decide (id ≤ last) = false := decide_eq_false (by omega)
            by_cases q2 : id < (nb : Int)
            · have q3 : ¬ dt.length = 128 := fun q => h ⟨q1, q2, q⟩
              have d2 : decide ((nb : Int) ≤ id) = false := decide_eq_false (by omega)
              have d3 : ((dt.length : Int) != 128) = true := by simp; omega
              have d3' : (dt.length != 128) = true := by simp [q3]
              clear h q1 q2 q3
              go_wp2_with fail
              go_ret
              exact ⟨ret_int HE.out, by rw [HGX.out]; exact HW.out.trans (HV1.out.mono (by omega))⟩
            · have d2 : decide ((nb : Int) ≤ id) = true := decide_eq_true (by omega)
              clear h q1 q2
              go_wp2_with fail
              go_ret
              exact ⟨ret_int HE.out, by rw [HGX.out]; exact HW.out.trans (HV1.out.mono (by omega))⟩
          · have d1 : decide (id ≤ last) = true := decide_eq_true (by omega)
            clear h q1
            go_wp2_with fail
            go_ret
            exact ⟨ret_int HE.out, by rw [HGX.out]; exact HW.out.trans (HV1.out.mono (by omega))⟩
      · obtain rfl : k = m.dirty.length := by omega
        have hd : decide (m.dirty.length < m.dirty.length) = false := by simp
        rw [List.take_of_length_le (Nat.le_refl _)] at HF
        rw [drop_end] at HN
        have HXV : Hid (volL m = x) := Lib.hid (by rw [HVL.out, HF.out])
        have HE : Hid (geomE x = volE m) := Lib.hid (by rw [HFE3.out, if_pos (by rw [HN.out]; rfl), HXV.out])
        obtain ⟨A', c', hv, hlies, _⟩ := own_shape HO.out (by omega)
        injection hv with hv1 hv2 hv3
        have CG := geomOf_any wr (some ⟨g, 0, none⟩) cap x (by rw [hv1]; exact hlies) (by rw [HXL.out]; exact hnbl)
        rw [HXL.out] at CG
        have HCG := Lib.hid CG
        have PIG : Hid ((Tryz.prog.info? 97).map (fun i => (i.zero, i.size)) = some (some (.agg #[.int .i64 0, .int .i64 0, .int .i64 0, .int .i64 0, .int .i64 0, .int .i64 0]), (geoV (geomL x)).length)) := Lib.hid (by unfold geoV; rw [List.length_map, geomL_length]; exact Tryz.infoGeo)
        have PZG : Hid ((Value.agg #[.int .i64 0, .int .i64 0, .int .i64 0, .int .i64 0, .int .i64 0, .int .i64 0]).cells.size = (geoV (geomL x)).length) := Lib.hid (by unfold geoV; rw [List.length_map, geomL_length]; rfl)
        clear CG hv1 hv2 hv3 hlies
        go_wp2_with (first
          | (go_at_call 114; refine HCG.out.mono ?_; rintro e w6 ⟨rfl, hb6⟩; have HB6 := Lib.hid ((HV.out.trans (hb6.mono HV.out.size)).alloc (Nat.le_trans HV.out.size hb6.size) (.cells (geoV (geomL x)).toArray 97)); clear hb6)
          | (refine wpList_fresh rfl rfl 97 8 (.tmp 62) rfl rfl rfl rfl (geoV (geomL x)) rfl rfl _ PIG.out PZG.out (ints_one _) ?_))
        go_ret
        exact ⟨ret_int HE.out, by rw [HGX.out]; exact HW.out.trans (HB6.out.mono (by omega))⟩
  · have HE : Hid (de = volE m) := Lib.hid (by rw [HFE.out, if_pos h1])
    have d1 : (de != 0) = true := by simp [h1]
    clear h1
    go_wp2_with fail
    go_ret
    exact ⟨ret_int HE.out, by rw [HGX.out]; exact HW.out.trans (HV2.out.mono (by omega))⟩
end Go.Proofs.YtmmfcjkabpffeaaGreatDoor
/-
  Walk: state.Check. (Printed by gen_chkg.py.)
-/
namespace Go.Proofs.YtmmfcjkabpffeaaGreatDoor
open Go.RowKit

/-- the first one that isn't 0 -/
def chk : List Int → Int
  | [] => 0
  | e :: l => if e ≠ 0 then e else chk l
theorem chk_no {e : Int} {l : List Int} (h : e ≠ 0) : chk (e :: l) = e := by unfold chk; rw [if_pos h]
theorem chk_yes {e : Int} {l : List Int} (h : e = 0) : chk (e :: l) = chk l := by subst h; rfl
theorem checkE_chk (m : Mc) : checkE m = chk [numsE m, framesE m, procsE m, pipesE m, textsE m, volE m] := by
  unfold checkE chk chk chk chk chk chk chk
  by_cases h : volE m = 0
  · simp [h]
  · simp [h]
set_option maxRecDepth 100000 in
set_option maxHeartbeats 4000000 in
theorem check_any (w : World) (a : MA) (m : Mc) (hm : McOk m) (hA : MAt w w.heap.size a m) :
    Calls Tryz.prog 29 #[.agg (mcL a m).toArray] w fun e w' => e = .returned (.int .i64 (checkE m)) ∧ Below w.heap.size w w' := by
  have hs0 := Whole.made w 30 (mcL a m).toArray
  have hb : Below w.heap.size w (w.alloc (.cells (mcL a m).toArray 30)) := (Below.refl _ _).alloc (Nat.le_refl _) _
  go_enter Tryz.func29, Tryz.ntmps29
  go_upto_region 1 with (fail)
  change Code.wp _ _ _ _ (w.alloc (.cells (mcL a m).toArray 30))
  generalize (w.alloc (.cells (mcL a m).toArray 30)) = w1 at *
  generalize hgx : w.heap.size = gx at *
  have HGX := Lib.hid hgx
  have HS0 := Lib.hid hs0
  have HW := Lib.hid hb
  have hgl : gx < w1.heap.size := hs0.lt
  clear hgx hb hs0
  have HA := Lib.hid (hA.below HW.out)
  have HM := Lib.hid hm
  have HMA : Hid (∀ W, Below w1.heap.size w1 W → MAt W W.heap.size a m) := Lib.hid fun W hW => (HA.out.below (hW.mono (by omega))).wide (by have := hW.size; omega)
  have HLM : Hid (∀ W, Below w1.heap.size w1 W → ∀ j v, (mcL a m)[j]? = some v → W.cell? ((⟨gx, 0, none⟩ : Addr).add j) = some v) := Lib.hid fun W hW => (HS0.out.below hW (by omega)).reads
  have MI : Hid ((Tryz.prog.info? 30).map (·.size) = some (mcL a m).length) := Lib.hid (by rw [mcL_length]; exact Tryz.sizeMc)
  have HCK := Lib.hid (checkE_chk m)
  clear hA hm
  have Cnumbers : Hid (∀ W, Below w1.heap.size w1 W → Calls Tryz.prog 56 #[.agg (mcL a m).toArray] W fun e w' => e = .returned (.int .i64 (numsE m)) ∧ Below W.heap.size W w') := Lib.hid fun W _ => numbers_any W a m
  have Cframes : Hid (∀ W, Below w1.heap.size w1 W → Calls Tryz.prog 57 #[.agg (mcL a m).toArray] W fun e w' => e = .returned (.int .i64 (framesE m)) ∧ Below W.heap.size W w') := Lib.hid fun W hW => frames_any W a m (HMA.out W hW)
  have Cprocs : Hid (∀ W, Below w1.heap.size w1 W → Calls Tryz.prog 58 #[.agg (mcL a m).toArray] W fun e w' => e = .returned (.int .i64 (procsE m)) ∧ Below W.heap.size W w') := Lib.hid fun W hW => procs_any W a m HM.out (HMA.out W hW)
  have Cpipes : Hid (∀ W, Below w1.heap.size w1 W → Calls Tryz.prog 59 #[.agg (mcL a m).toArray] W fun e w' => e = .returned (.int .i64 (pipesE m)) ∧ Below W.heap.size W w') := Lib.hid fun W hW => pipes_any W a m (HMA.out W hW)
  have Ctexts : Hid (∀ W, Below w1.heap.size w1 W → Calls Tryz.prog 60 #[.agg (mcL a m).toArray] W fun e w' => e = .returned (.int .i64 (textsE m)) ∧ Below W.heap.size W w') := Lib.hid fun W _ => texts25_any W a m
  have Cvolume : Hid (∀ W, Below w1.heap.size w1 W → Calls Tryz.prog 61 #[.agg (mcL a m).toArray] W fun e w' => e = .returned (.int .i64 (volE m)) ∧ Below W.heap.size W w') := Lib.hid fun W hW => volume_any W a m HM.out (HMA.out W hW)
  generalize numsE m = numsE' at *
  generalize framesE m = framesE' at *
  generalize procsE m = procsE' at *
  generalize pipesE m = pipesE' at *
  generalize textsE m = textsE' at *
  generalize volE m = volE' at *
  go_upto_region 2 with (fail)
  change Code.wp _ _ _ _ (w1.alloc (.cells #[.func (.func 56) #[] #[], .func (.func 57) #[] #[], .func (.func 58) #[] #[], .func (.func 59) #[] #[], .func (.func 60) #[] #[], .func (.func 61) #[] #[]] 33))
  have HF := Lib.hid (Whole.made w1 33 #[.func (.func 56) #[] #[], .func (.func 57) #[] #[], .func (.func 58) #[] #[], .func (.func 59) #[] #[], .func (.func 60) #[] #[], .func (.func 61) #[] #[]])
  have HB0 := Lib.hid ((Below.refl w1.heap.size w1).alloc (Nat.le_refl _) (.cells #[.func (.func 56) #[] #[], .func (.func 57) #[] #[], .func (.func 58) #[] #[], .func (.func 59) #[] #[], .func (.func 60) #[] #[], .func (.func 61) #[] #[]] 33))
  generalize w1.alloc (.cells #[.func (.func 56) #[] #[], .func (.func 57) #[] #[], .func (.func 58) #[] #[], .func (.func 59) #[] #[], .func (.func 60) #[] #[], .func (.func 61) #[] #[]] 33) = w2 at *
  have hgf := HF.out.lt
  go_loopw [8] (fun i wr => ∃ (k : Nat), k ≤ 6 ∧ i = .int .i64 (k : Int) ∧ Hid (checkE m = chk ([numsE', framesE', procsE', pipesE', textsE', volE'].drop k)) ∧ Hid (Below w1.heap.size w1 wr) ∧ Hid (Below w2.heap.size w2 wr)) (fun i _ => 6 - (intOf i).toNat)
  case atStart => exact ⟨0, by omega, rfl, HCK, HB0, Lib.hid (Below.refl _ _)⟩
  case round =>
    obtain ⟨k, hk, rfl, HN, HV, HV2⟩ := hrel
    have HFW := Lib.hid (HF.out.below HV2.out hgf)
    have hzz := HV.out.size
    have hzz2 := HV2.out.size
    have LM := Lib.hid (HLM.out wr HV.out)
    have hkc : k = 0 ∨ k = 1 ∨ k = 2 ∨ k = 3 ∨ k = 4 ∨ k = 5 ∨ k = 6 := by omega
    rcases hkc with rfl | rfl | rfl | rfl | rfl | rfl | rfl
    · have cf : wr.cell? ⟨w1.heap.size, 0, none⟩ = some (.func (.func 56) #[] #[]) := HFW.out.cell 0
      have HN' : Hid (checkE m = chk (numsE' :: [numsE', framesE', procsE', pipesE', textsE', volE'].drop 1)) := HN
      have CC := Lib.hid (Cnumbers.out wr HV.out)
      go_wp2_with (refine wpList_load_at rfl 30 (.tmp 1) rfl ⟨gx, 0, none⟩ rfl (mcL a m) _ LM.out Tryz.underlying30 rfl MI.out ?_)
      refine CC.out.mono ?_
      rintro e w3 ⟨rfl, hb3⟩
      have HV3 := Lib.hid (HV.out.trans (hb3.mono hzz))
      have HV4 := Lib.hid (HV2.out.trans (hb3.mono hzz2))
      clear hb3 cf CC
      by_cases h : numsE' = 0
      · have HQ := Lib.hid (HN'.out.trans (chk_yes h))
        subst h
        go_wp2_with fail
        go_roundw
        case rel =>
          have R : ∃ (k' : Nat), k' ≤ 6 ∧ Value.int .i64 1 = .int .i64 (k' : Int) ∧ Hid (checkE m = chk ([0, framesE', procsE', pipesE', textsE', volE'].drop k')) ∧ Hid (Below w1.heap.size w1 w3) ∧ Hid (Below w2.heap.size w2 w3) := ⟨1, by omega, rfl, HQ, HV3, HV4⟩
          first | exact R | ((repeat apply Exists.intro); exact ⟨R, rfl⟩)
        case measure => simp [intOf]
      · have HQ := Lib.hid (HN'.out.trans (chk_no h))
        have d1 : (numsE' != 0) = true := by simp [h]
        have d2 : (numsE' == 0) = false := beq_eq_false_iff_ne.2 h
        clear h
        go_wp2_with fail
        go_ret
        exact ⟨ret_int HQ.out.symm, by rw [HGX.out]; exact HW.out.trans (HV3.out.mono (by omega))⟩
    · have cf : wr.cell? ⟨w1.heap.size, 1, none⟩ = some (.func (.func 57) #[] #[]) := HFW.out.cell 1
      have HN' : Hid (checkE m = chk (framesE' :: [numsE', framesE', procsE', pipesE', textsE', volE'].drop 2)) := HN
      have CC := Lib.hid (Cframes.out wr HV.out)
      go_wp2_with (refine wpList_load_at rfl 30 (.tmp 1) rfl ⟨gx, 0, none⟩ rfl (mcL a m) _ LM.out Tryz.underlying30 rfl MI.out ?_)
      refine CC.out.mono ?_
      rintro e w3 ⟨rfl, hb3⟩
      have HV3 := Lib.hid (HV.out.trans (hb3.mono hzz))
      have HV4 := Lib.hid (HV2.out.trans (hb3.mono hzz2))
      clear hb3 cf CC
      by_cases h : framesE' = 0
      · have HQ := Lib.hid (HN'.out.trans (chk_yes h))
        subst h
        go_wp2_with fail
        go_roundw
        case rel =>
          have R : ∃ (k' : Nat), k' ≤ 6 ∧ Value.int .i64 2 = .int .i64 (k' : Int) ∧ Hid (checkE m = chk ([numsE', 0, procsE', pipesE', textsE', volE'].drop k')) ∧ Hid (Below w1.heap.size w1 w3) ∧ Hid (Below w2.heap.size w2 w3) := ⟨2, by omega, rfl, HQ, HV3, HV4⟩
          first | exact R | ((repeat apply Exists.intro); exact ⟨R, rfl⟩)
        case measure => simp [intOf]
      · have HQ := Lib.hid (HN'.out.trans (chk_no h))
        have d1 : (framesE' != 0) = true := by simp [h]
        have d2 : (framesE' == 0) = false := beq_eq_false_iff_ne.2 h
        clear h
        go_wp2_with fail
        go_ret
        exact ⟨ret_int HQ.out.symm, by rw [HGX.out]; exact HW.out.trans (HV3.out.mono (by omega))⟩
    · have cf : wr.cell? ⟨w1.heap.size, 2, none⟩ = some (.func (.func 58) #[] #[]) := HFW.out.cell 2
      have HN' : Hid (checkE m = chk (procsE' :: [numsE', framesE', procsE', pipesE', textsE', volE'].drop 3)) := HN
      have CC := Lib.hid (Cprocs.out wr HV.out)
      go_wp2_with (refine wpList_load_at rfl 30 (.tmp 1) rfl ⟨gx, 0, none⟩ rfl (mcL a m) _ LM.out Tryz.underlying30 rfl MI.out ?_)
      refine CC.out.mono ?_
      rintro e w3 ⟨rfl, hb3⟩
      have HV3 := Lib.hid (HV.out.trans (hb3.mono hzz))
      have HV4 := Lib.hid (HV2.out.trans (hb3.mono hzz2))
      clear hb3 cf CC
      by_cases h : procsE' = 0
      · have HQ := Lib.hid (HN'.out.trans (chk_yes h))
        subst h
        go_wp2_with fail
        go_roundw
        case rel =>
          have R : ∃ (k' : Nat), k' ≤ 6 ∧ Value.int .i64 3 = .int .i64 (k' : Int) ∧ Hid (checkE m = chk ([numsE', framesE', 0, pipesE', textsE', volE'].drop k')) ∧ Hid (Below w1.heap.size w1 w3) ∧ Hid (Below w2.heap.size w2 w3) := ⟨3, by omega, rfl, HQ, HV3, HV4⟩
          first | exact R | ((repeat apply Exists.intro); exact ⟨R, rfl⟩)
        case measure => simp [intOf]
      · have HQ := Lib.hid (HN'.out.trans (chk_no h))
        have d1 : (procsE' != 0) = true := by simp [h]
        have d2 : (procsE' == 0) = false := beq_eq_false_iff_ne.2 h
        clear h
        go_wp2_with fail
        go_ret
        exact ⟨ret_int HQ.out.symm, by rw [HGX.out]; exact HW.out.trans (HV3.out.mono (by omega))⟩
    · have cf : wr.cell? ⟨w1.heap.size, 3, none⟩ = some (.func (.func 59) #[] #[]) := HFW.out.cell 3
      have HN' : Hid (checkE m = chk (pipesE' :: [numsE', framesE', procsE', pipesE', textsE', volE'].drop 4)) := HN
      have CC := Lib.hid (Cpipes.out wr HV.out)
      go_wp2_with (refine wpList_load_at rfl 30 (.tmp 1) rfl ⟨gx, 0, none⟩ rfl (mcL a m) _ LM.out Tryz.underlying30 rfl MI.out ?_)
      refine CC.out.mono ?_
      rintro e w3 ⟨rfl, hb3⟩
      have HV3 := Lib.hid (HV.out.trans (hb3.mono hzz))
      have HV4 := Lib.hid (HV2.out.trans (hb3.mono hzz2))
      clear hb3 cf CC
      by_cases h : pipesE' = 0
      · have HQ := Lib.hid (HN'.out.trans (chk_yes h))
        subst h
        go_wp2_with fail
        go_roundw
        case rel =>
          have R : ∃ (k' : Nat), k' ≤ 6 ∧ Value.int .i64 4 = .int .i64 (k' : Int) ∧ Hid (checkE m = chk ([numsE', framesE', procsE', 0, textsE', volE'].drop k')) ∧ Hid (Below w1.heap.size w1 w3) ∧ Hid (Below w2.heap.size w2 w3) := ⟨4, by omega, rfl, HQ, HV3, HV4⟩
          first | exact R | ((repeat apply Exists.intro); exact ⟨R, rfl⟩)
        case measure => simp [intOf]
      · have HQ := Lib.hid (HN'.out.trans (chk_no h))
        have d1 : (pipesE' != 0) = true := by simp [h]
        have d2 : (pipesE' == 0) = false := beq_eq_false_iff_ne.2 h
        clear h
        go_wp2_with fail
        go_ret
        exact ⟨ret_int HQ.out.symm, by rw [HGX.out]; exact HW.out.trans (HV3.out.mono (by omega))⟩
    · have cf : wr.cell? ⟨w1.heap.size, 4, none⟩ = some (.func (.func 60) #[] #[]) := HFW.out.cell 4
      have HN' : Hid (checkE m = chk (textsE' :: [numsE', framesE', procsE', pipesE', textsE', volE'].drop 5)) := HN
      have CC := Lib.hid (Ctexts.out wr HV.out)
      go_wp2_with (refine wpList_load_at rfl 30 (.tmp 1) rfl ⟨gx, 0, none⟩ rfl (mcL a m) _ LM.out Tryz.underlying30 rfl MI.out ?_)
      refine CC.out.mono ?_
      rintro e w3 ⟨rfl, hb3⟩
      have HV3 := Lib.hid (HV.out.trans (hb3.mono hzz))
      have HV4 := Lib.hid (HV2.out.trans (hb3.mono hzz2))
      clear hb3 cf CC
      by_cases h : textsE' = 0
      · have HQ := Lib.hid (HN'.out.trans (chk_yes h))
        subst h
        go_wp2_with fail
        go_roundw
        case rel =>
          have R : ∃ (k' : Nat), k' ≤ 6 ∧ Value.int .i64 5 = .int .i64 (k' : Int) ∧ Hid (checkE m = chk ([numsE', framesE', procsE', pipesE', 0, volE'].drop k')) ∧ Hid (Below w1.heap.size w1 w3) ∧ Hid (Below w2.heap.size w2 w3) := ⟨5, by omega, rfl, HQ, HV3, HV4⟩
          first | exact R | ((repeat apply Exists.intro); exact ⟨R, rfl⟩)
        case measure => simp [intOf]
      · have HQ := Lib.hid (HN'.out.trans (chk_no h))
        have d1 : (textsE' != 0) = true := by simp [h]
        have d2 : (textsE' == 0) = false := beq_eq_false_iff_ne.2 h
        clear h
        go_wp2_with fail
        go_ret
        exact ⟨ret_int HQ.out.symm, by rw [HGX.out]; exact HW.out.trans (HV3.out.mono (by omega))⟩
    · have cf : wr.cell? ⟨w1.heap.size, 5, none⟩ = some (.func (.func 61) #[] #[]) := HFW.out.cell 5
      have HN' : Hid (checkE m = chk (volE' :: [numsE', framesE', procsE', pipesE', textsE', volE'].drop 6)) := HN
      have CC := Lib.hid (Cvolume.out wr HV.out)
      go_wp2_with (refine wpList_load_at rfl 30 (.tmp 1) rfl ⟨gx, 0, none⟩ rfl (mcL a m) _ LM.out Tryz.underlying30 rfl MI.out ?_)
      refine CC.out.mono ?_
      rintro e w3 ⟨rfl, hb3⟩
      have HV3 := Lib.hid (HV.out.trans (hb3.mono hzz))
      have HV4 := Lib.hid (HV2.out.trans (hb3.mono hzz2))
      clear hb3 cf CC
      by_cases h : volE' = 0
      · have HQ := Lib.hid (HN'.out.trans (chk_yes h))
        subst h
        go_wp2_with fail
        go_roundw
        case rel =>
          have R : ∃ (k' : Nat), k' ≤ 6 ∧ Value.int .i64 6 = .int .i64 (k' : Int) ∧ Hid (checkE m = chk ([numsE', framesE', procsE', pipesE', textsE', 0].drop k')) ∧ Hid (Below w1.heap.size w1 w3) ∧ Hid (Below w2.heap.size w2 w3) := ⟨6, by omega, rfl, HQ, HV3, HV4⟩
          first | exact R | ((repeat apply Exists.intro); exact ⟨R, rfl⟩)
        case measure => simp [intOf]
      · have HQ := Lib.hid (HN'.out.trans (chk_no h))
        have d1 : (volE' != 0) = true := by simp [h]
        have d2 : (volE' == 0) = false := beq_eq_false_iff_ne.2 h
        clear h
        go_wp2_with fail
        go_ret
        exact ⟨ret_int HQ.out.symm, by rw [HGX.out]; exact HW.out.trans (HV3.out.mono (by omega))⟩
    · have HQ : Hid (0 = checkE m) := Lib.hid (by rw [HN.out]; rfl)
      rw [show ((6 : Nat) : Int) = 6 from rfl]
      go_wp2_with fail
      go_ret
      exact ⟨ret_int HQ.out, by rw [HGX.out]; exact HW.out.trans (HV.out.mono (by omega))⟩
end Go.Proofs.YtmmfcjkabpffeaaGreatDoor
