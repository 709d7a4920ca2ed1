/-
  Walk: image.restOf. (Printed by gen_reste.py.)
-/
import Derived.Test.YtmmfcjkabpffeaaGreatDoorRestD
namespace Go.Proofs.YtmmfcjkabpffeaaGreatDoor
open Go.RowKit

theorem nbs_rows (l : List Nb) : nbsRow l = rowB (l.map nbRow) := rfl
set_option maxRecDepth 100000 in
set_option maxHeartbeats 4000000 in
theorem restOf_any (w : World) (a : MA) (m : Mc) (hm : McOk m) (hr : RestOk m) (hA : MAt w w.heap.size a m) (hT : STabs w) :
    Calls Tryz.prog 31 #[.agg (mcL a m).toArray] w fun e w' => e = .returned (S (restB m)) ∧ Below w.heap.size w w' := by
  obtain ⟨i0, hi0, hz0, hz1, hz2⟩ := info_parts Tryz.infoStr'
  have hs0 := Whole.made w 30 (mcL a m).toArray
  have hb : Below w.heap.size w (w.alloc (.cells (mcL a m).toArray 30)) := (Below.refl _ _).alloc (Nat.le_refl _) _
  go_enter Tryz.func31, Tryz.ntmps31
  go_upto_region 1 with (fail)
  change Code.wp _ _ _ _ (w.alloc (.cells (mcL a m).toArray 30))
  generalize (w.alloc (.cells (mcL a m).toArray 30)) = w1 at *
  generalize hgx : w.heap.size = gx at *
  have HGX := Lib.hid hgx
  have HS0 := Lib.hid hs0
  have HW := Lib.hid hb
  have hgl : gx < w1.heap.size := hs0.lt
  clear hgx hb hs0
  have HA := Lib.hid (hA.below HW.out)
  have HM := Lib.hid hm
  have HRO := Lib.hid hr
  have HT := Lib.hid hT
  have HMA : Hid (∀ W, Below w1.heap.size w1 W → MAt W W.heap.size a m) := Lib.hid fun W hW => (HA.out.below (hW.mono (by omega))).wide (by have := hW.size; omega)
  have HC : Hid (∀ W, Below w1.heap.size w1 W → Whole W gx 30 (mcL a m).toArray) := Lib.hid fun W hW => HS0.out.below hW (by omega)
  have HTW : Hid (∀ W, Below w1.heap.size w1 W → STabs W) := Lib.hid fun W hW => HT.out.below (B := gx) (by rw [HGX.out]; exact Nat.le_refl _) (HW.out.trans (hW.mono (by omega)))
  have hpl := hr.procs
  have hql := hr.pipes.1
  have HRS := Lib.hid (rest_size hm hr)
  have c8 : w1.cell? ⟨gx, 8, none⟩ = some (.slice a.Q m.pipes.length a.cQ) := HS0.out.cell 8
  clear hm hr hA hT
  go_upto_region 2 with (at_make; refine wpList_make_own _ rfl _ _ 23 rfl w1.heap.size 9 i0 _ 1 Tryz.underlying23 hi0 hz0 hz1 .i64 .i64 _ m.pipes.length rfl rfl rfl (by rw [hz2]; omega) (by unfold maxLen; omega) (Nat.le_refl _) ?_; intro v0 hown0 hgrow0)
  have HO0 := Lib.hid hown0
  have HB0 : Hid (Below w1.heap.size w1 v0) := Lib.hid ⟨hgrow0.os, hgrow0.tape, hgrow0.output, hgrow0.size, fun i hi => hgrow0.block i hi (by simp)⟩
  clear hown0 hgrow0
  have c8' : v0.cell? ⟨gx, 8, none⟩ = some (.slice a.Q m.pipes.length a.cQ) := (HC.out v0 HB0.out).cell 8
  go_wp2_with fail
  clear c8 c8'
  go_loopw [3, 16] (fun v i wr => ∃ k : Nat, k ≤ m.pipes.length ∧ i = .int .i64 k ∧ Hid (OwnS wr w1.heap.size v ((m.pipes.take k).map nbRow)) ∧ Hid (Below w1.heap.size w1 wr)) (fun _ i _ => m.pipes.length - (intOf i).toNat)
  case atStart => exact ⟨0, by omega, rfl, HO0, HB0⟩
  case round =>
    obtain ⟨k, hk, rfl, HO, HW1⟩ := hrel
    clear HO0 HB0
    have hzv := HW1.out.size
    by_cases hlt : k < m.pipes.length
    · obtain ⟨p, hp⟩ := get_some hlt
      obtain ⟨bd, hbq, hbd, hc⟩ := Lies.row (f := nbCells1) (n := 2) (HMA.out wr HW1.out).Q (fun y hy => rfl) (by omega) hp
      have hri : inI p.1 := HM.out.pipes p (List.mem_of_getElem? hp)
      have hry : p.2.length ≤ 4096 := HRO.out.pipes.2 p (List.mem_of_getElem? hp)
      have HTK := Lib.hid (nbs_step hp)
      have hlk : ((m.pipes.take k).map nbRow).length = k := by simp; omega
      generalize (m.pipes.take k).map nbRow = acc at *
      obtain ⟨n, y⟩ := p
      have HE : Hid (nbRow (n, y) = rowB [Lib.itoa n, y]) := Lib.hid rfl
      have hln := itoa_len hri
      have HSZ : Hid (sizeOf [Lib.itoa n, y] ≤ 34359738368) := Lib.hid (by have h : sizeOf [Lib.itoa n, y] ≤ 4124 := nb_size hri hry; omega)
      have HRI := Lib.hid hri
      have HLK := Lib.hid hlk
      clear hlk hri hry
      have q0 : (0 : Int) ≤ (k : Int) := by omega
      have q1 : (k : Int) < (m.pipes.length : Int) := by omega
      have H63 : Hid (acc.length + 1 ≤ maxLen) := Lib.hid (by rw [HLK.out]; unfold maxLen; omega)
      have HBY : Hid ((acc.length + 1) * 16 ≤ 140737488355328) := Lib.hid (by rw [HLK.out]; omega)
      have LD : Hid (∀ j v, (nbCells1 (n, y))[j]? = some v → wr.cell? ((bd.add (k * 2)).add j) = some v) := Lib.hid hc
      have HX := Lib.hid (Whole.made wr 70 (nbCells1 (n, y)).toArray)
      have HV := Lib.hid (HW1.out.alloc hzv (.cells (nbCells1 (n, y)).toArray 70))
      have HO1 := Lib.hid (HO.out.alloc (.cells (nbCells1 (n, y)).toArray 70))
      rw [hbq]
      clear hc hp hbq
      go_upto_region 5 with (first
        | (refine wpList_load_at rfl 70 (.tmp 18) rfl (bd.add (k * 2)) rfl (nbCells1 (n, y)) _ LD.out Tryz.underlying70 rfl (by kernel_rfl) ?_)
        | (refine wpList_fresh rfl rfl 70 5 (.tmp 19) rfl rfl rfl rfl (nbCells1 (n, y)) rfl rfl _ Tryz.infoPi rfl (nb_one (n, y)) ?_))
      change Code.wp _ _ _ _ (wr.alloc (.cells (nbCells1 (n, y)).toArray 70))
      generalize wr.alloc (.cells (nbCells1 (n, y)).toArray 70) = wz at *
      have HOL : Hid (∀ g, u3.ownBlock = some g → g < wr.heap.size) := Lib.hid (own_lt HO.out)
      generalize wr.heap.size = g1 at *
      have HGL := Lib.hid HX.out.lt
      have HBD : Hid (∀ W, Below wz.heap.size wz W → W.cell? ⟨g1, 0, none⟩ = some (.int .i64 n) ∧ W.cell? ⟨g1, 1, none⟩ = some (S y)) := Lib.hid fun W hW => ⟨(HX.out.below hW HGL.out).cell 0, (HX.out.below hW HGL.out).cell 1⟩
      obtain ⟨b0', b1'⟩ := HBD.out wz (Below.refl _ _)
      clear HO HW1 LD
      go_region_held3 (fun w' => w'.cell? ⟨g1, 0, none⟩ = some (.int .i64 n) ∧ w'.cell? ⟨g1, 1, none⟩ = some (S y))
        (first
          | (exact ⟨b0', b1'⟩)
          | (exact HBD.out _ BK)
          | (exact HBD.out _ (BK.alloc BK.size _))
          | (exact C5))
        (first
          | (go_at_call 62; refine (idec_any _ n HRI.out (HTW.out _ HV.out.drew)).mono ?_; rintro e w2 ⟨rfl, hbl⟩; have BB : Below w1.heap.size w1 w2 := HV.out.drew.trans (hbl.mono HV.out.size); have BK : Below wz.heap.size wz w2 := (Below.refl _ _).drew.trans hbl; have O2 : Hid (OwnS w2 w1.heap.size u3 acc) := Lib.hid (own_below HO1.out (((Below.refl _ _).drew).trans hbl)); clear hbl)
          | (go_at_call 28; refine (row_two w2 (Lib.itoa n) y HSZ.out).mono ?_; rintro e w4 ⟨rfl, hbl⟩; have B4 : Below w1.heap.size w1 w4 := BB.trans (hbl.mono BB.size); have K4 := BK.trans (hbl.mono BK.size); clear BB BK; have BB := B4; have BK := K4; have O4 := Lib.hid (own_below O2.out hbl); clear hbl; generalize rowB [Lib.itoa n, y] = z at *)
          | (refine step_append_own rfl (.tmp 20) (.tmp 28) 23 rfl w1.heap.size 9 i0 _ 1 16 Tryz.underlying23 hi0 hz0 hz1 hz2 rfl (by decide) _ _ _ rfl (O4.out.alloc (.cells #[S z] 9)) ⟨w4.heap.size, 0, none⟩ 1 1 [S z] rfl rfl (fun i u hu => by
              obtain ⟨ad', e', _, hc'⟩ := lies_made w4 9 [S z] (w4.heap.size + 1) (by omega) i u hu
              injection e' with e'; subst e'; exact hc') (by simp [Value.oneCell']) H63.out HBY.out (by have := B4.size; simp; omega) ?_; intro v' w5 hown' hgrow _; clear BB; have BB := (B4.alloc B4.size (.cells #[S z] 9)).grown hgrow (by have := B4.size; simp; omega) (own_ge O4.out); have X5 := ((HX.out.below BK HGL.out).block (.cells #[S z] 9)).other hgrow (fun e => absurd (HOL.out _ e.symm) (Nat.lt_irrefl _)); have C5 := And.intro (X5.cell 0) (X5.cell 1)))
      have HO5 : Hid (OwnS w5 w1.heap.size v' (acc ++ [z])) := Lib.hid (by
        have := hown'
        rw [show (acc.map S ++ [S z]) = (acc ++ [z]).map S by simp] at this
        unfold OwnS
        rw [List.length_append]
        exact this)
      have HB5 := Lib.hid BB
      rw [← HE.out, ← HTK.out] at HO5
      clear hown' hgrow BB BK B4 K4 b0' b1' O2 O4 C5 X5
      go_wp2_with fail
      go_roundw
      case rel =>
        have R : ∃ k' : Nat, k' ≤ m.pipes.length ∧ Value.int .i64 ((k : Int) + 1) = .int .i64 k' ∧ Hid (OwnS w5 w1.heap.size v' ((m.pipes.take k').map nbRow)) ∧ Hid (Below w1.heap.size w1 w5) := ⟨k + 1, by omega, by go_num, HO5, HB5⟩
        first | exact R | ((repeat apply Exists.intro); exact ⟨R, rfl⟩)
      case measure => simp [intOf]; omega
    · obtain rfl : k = m.pipes.length := by omega
      have hd : decide (m.pipes.length < m.pipes.length) = false := by simp
      rw [List.take_of_length_le (Nat.le_refl _)] at HO
      obtain ⟨A, c, rfl, hlies, _⟩ := own_shape HO.out (by omega)
      obtain ⟨w2, hw2⟩ : ∃ z : World, z = wr := ⟨_, rfl⟩
      subst hw2
      have HLI := Lib.hid hlies
      have HV2 := HW1
      clear hlies HO HW1 hlt
      have c5 : w2.cell? ⟨gx, 5, none⟩ = some (.slice a.P m.procs.length a.cP) := (HC.out w2 HV2.out).cell 5
      go_upto_region 8 with (at_make; refine wpList_make_own _ rfl _ _ 23 rfl w2.heap.size 9 i0 _ 1 Tryz.underlying23 hi0 hz0 hz1 .i64 .i64 _ m.procs.length rfl rfl rfl (by rw [hz2]; omega) (by unfold maxLen; omega) (Nat.le_refl _) ?_; intro v1 hown1 hgrow1)
      have HO1 := Lib.hid hown1
      have HB1 : Hid (Below w2.heap.size w2 v1) := Lib.hid ⟨hgrow1.os, hgrow1.tape, hgrow1.output, hgrow1.size, fun i hi => hgrow1.block i hi (by simp)⟩
      clear hown1 hgrow1
      have c5' : v1.cell? ⟨gx, 5, none⟩ = some (.slice a.P m.procs.length a.cP) := (HC.out v1 (HV2.out.trans (HB1.out.mono hzv))).cell 5
      go_wp2_with fail
      clear c5 c5'
      go_loopw [6, 38] (fun v i wr => ∃ (k : Nat), k ≤ m.procs.length ∧ i = .int .i64 (k : Int) ∧ Hid (OwnS wr w2.heap.size v ((m.procs.take k).map procRow)) ∧ Hid (Below w2.heap.size w2 wr)) (fun _ i _ => m.procs.length - (intOf i).toNat)
      case atStart => exact ⟨0, by omega, rfl, HO1, HB1⟩
      case round =>
        obtain ⟨k, hk, rfl, HO, HV⟩ := hrel
        clear HO1 HB1
        have hzw := HV.out.size
        have HV1 := Lib.hid (HV2.out.trans (HV.out.mono hzv))
        by_cases hlt : k < m.procs.length
        · obtain ⟨x, hx⟩ := get_some hlt
          have HXO := Lib.hid (HM.out.procs x (List.mem_of_getElem? hx))
          have hxl : (prCells x).length = 96 := prCells_length HXO.out
          obtain ⟨ad, hadr, had, hc⟩ := Lies.row (f := prCells) (n := 96) (HMA.out wr HV1.out).P (fun y hy => prCells_length (HM.out.procs y hy)) (by omega) hx
          have LD : Hid (∀ j v, (prCells x)[j]? = some v → wr.cell? ((ad.add (k * 96)).add j) = some v) := Lib.hid hc
          have PIX : Hid ((Tryz.prog.info? 67).map (·.size) = some (prCells x).length) := Lib.hid (by rw [hxl]; exact Tryz.sizePr)
          have PIZ : Hid ((Tryz.prog.info? 67).map (fun i => (i.zero, i.size)) = some (some (.agg (prCells zeroPr).toArray), (prCells x).length)) := Lib.hid (by rw [hxl]; exact Tryz.infoPr)
          have PZS : Hid ((Value.agg (prCells zeroPr).toArray).cells.size = (prCells x).length) := Lib.hid (by rw [hxl]; rfl)
          have HTK := Lib.hid (procs_snoc hx)
          have hlk : ((m.procs.take k).map procRow).length = k := by simp; omega
          generalize (m.procs.take k).map procRow = acc at *
          have H63 : Hid (acc.length + 1 ≤ maxLen) := Lib.hid (by rw [hlk]; unfold maxLen; omega)
          have HBY : Hid ((acc.length + 1) * 16 ≤ 140737488355328) := Lib.hid (by rw [hlk]; omega)
          have q0 : (0 : Int) ≤ (k : Int) := by omega
          have q1 : (k : Int) < (m.procs.length : Int) := by omega
          have HX := Lib.hid (Whole.made wr 67 (prCells x).toArray)
          have HV3 := Lib.hid (HV.out.alloc hzw (.cells (prCells x).toArray 67))
          have HO3 := Lib.hid (HO.out.alloc (.cells (prCells x).toArray 67))
          rw [hadr]
          clear hc hx hadr hlk hxl
          go_upto_region 11 with (first
            | (refine wpList_load_at rfl 67 (.tmp 40) rfl (ad.add (k * 96)) rfl (prCells x) _ LD.out Tryz.underlying67 rfl PIX.out ?_)
            | (refine wpList_fresh rfl rfl 67 8 (.tmp 41) rfl rfl rfl rfl (prCells x) rfl rfl _ PIZ.out PZS.out prCells_one ?_))
          change Code.wp _ _ _ _ (wr.alloc (.cells (prCells x).toArray 67))
          clear HO LD HV1 HV
          have hzq : w2.heap.size ≤ wr.heap.size := hzw
          generalize wr.alloc (.cells (prCells x).toArray 67) = wz at *
          generalize wr.heap.size = g1 at *
          have LX := Lib.hid HX.out.reads
          have CP := Lib.hid (procRow_any wz x HXO.out (HTW.out _ (HV2.out.trans (HV3.out.mono hzv))))
          have hz3 := HV3.out.size
          go_wp2_with (refine wpList_load_at rfl 67 (.tmp 8) rfl ⟨g1, 0, none⟩ rfl (prCells x) _ LX.out Tryz.underlying67 rfl PIX.out ?_)
          refine CP.out.mono ?_
          rintro e wa ⟨rfl, hb2⟩
          have HO4 := Lib.hid (own_below HO3.out hb2)
          have HV4 := Lib.hid (HV3.out.trans (hb2.mono hz3))
          clear hb2 CP LX HX
          generalize procRow x = z at *
          have HNW : Hid (∀ i u, [S z][i]? = some u → (wa.alloc (.cells #[S z] 9)).cell? ((⟨wa.heap.size, 0, none⟩ : Addr).add i) = some u) := Lib.hid (fun i u hu => by
            obtain ⟨ad', e', _, hc'⟩ := lies_made wa 9 [S z] (wa.heap.size + 1) (by omega) i u hu
            injection e' with e'; subst e'; exact hc')
          have H1 : Hid (∀ u ∈ [S z], u.oneCell' = true) := Lib.hid (by simp [Value.oneCell'])
          have HBA : Hid (w2.heap.size ≤ (wa.alloc (.cells #[S z] 9)).heap.size) := Lib.hid (by have := HV4.out.size; simp; omega)
          have HOA := Lib.hid (HO4.out.alloc (.cells #[S z] 9))
          go_wp2_with (at_builtin; refine wpList_append_own _ rfl (.tmp 42) (.tmp 45) 23 rfl w2.heap.size 9 i0 _ 1 16 Tryz.underlying23 hi0 hz0 hz1 hz2 rfl (by decide) _ _ _ rfl HOA.out ⟨wa.heap.size, 0, none⟩ 1 1 [S z] rfl rfl HNW.out H1.out H63.out HBY.out HBA.out ?_; intro v' wb hown' hgrow _)
          have HV5 := Lib.hid ((HV4.out.alloc HV4.out.size (.cells #[S z] 9)).grown hgrow HBA.out (own_ge HOA.out))
          have HO5 : Hid (OwnS wb w2.heap.size v' (acc ++ [z])) := Lib.hid (by
            have := hown'
            rw [show (acc.map S ++ [S z]) = (acc ++ [z]).map S by simp] at this
            unfold OwnS
            rw [List.length_append]
            exact this)
          rw [← HTK.out] at HO5
          clear hown' hgrow HOA HBA HNW
          go_wp2_with fail
          go_roundw
          case rel =>
            have R : ∃ (k' : Nat), k' ≤ m.procs.length ∧ Value.int .i64 ((k : Int) + 1) = .int .i64 (k' : Int) ∧ Hid (OwnS wb w2.heap.size v' ((m.procs.take k').map procRow)) ∧ Hid (Below w2.heap.size w2 wb) := ⟨k + 1, by omega, by go_num, HO5, HV5⟩
            first | exact R | ((repeat apply Exists.intro); exact ⟨R, rfl⟩)
          case measure => simp [intOf]; omega
        · obtain rfl : k = m.procs.length := by omega
          have hd : decide (m.procs.length < m.procs.length) = false := by simp
          rw [List.take_of_length_le (Nat.le_refl _)] at HO
          obtain ⟨A', c', rfl, hlies, _⟩ := own_shape HO.out (by omega)
          have HLI' := Lib.hid hlies
          have HLI2 := Lib.hid ((HLI.out.below HV.out).wide hzw)
          clear hlies HLI HO HV
          go_upto_region 13 with (fail)
          have C14 : Hid (∀ W, Below wr.heap.size wr W → Calls Tryz.prog 28 #[.slice A m.pipes.length c] W fun e w' => e = .returned (S (nbsRow m.pipes)) ∧ Below W.heap.size W w') := Lib.hid fun W hW => by
            have h := row_any W A c (m.pipes.map nbRow) ((HLI2.out.below hW).wide hW.size) (Nat.le_trans (nbs_size HRO.out.pipes.1 HM.out.pipes HRO.out.pipes.2) (by decide))
            rw [List.length_map] at h
            exact h
          have C15 : Hid (∀ W, Below wr.heap.size wr W → Calls Tryz.prog 28 #[.slice A' m.procs.length c'] W fun e w' => e = .returned (S (procsRow m.procs)) ∧ Below W.heap.size W w') := Lib.hid fun W hW => by
            have h := row_any W A' c' (m.procs.map procRow) ((HLI'.out.below hW).wide hW.size) (Nat.le_trans (procs_size HRO.out.procs HM.out.procs) (by decide))
            rw [List.length_map] at h
            exact h
          obtain ⟨ck, hck, hcl⟩ := u64_nat HM.out.clock
          obtain ⟨tn, htn, htl⟩ := u64_nat HM.out.told
          have HR : Hid (restB m = rowB [mark2, putL ck 8, Lib.itoa m.quantum, Lib.itoa m.cur, Lib.itoa m.left, Lib.itoa m.next, m.init, Lib.itoa m.newPipe, m.inp, flagL m.fin, putL tn 8, Lib.itoa m.dleft, nbsRow m.pend, nbsRow m.dirty, nbsRow m.pipes, procsRow m.procs]) := Lib.hid (by
            unfold restB restL
            rw [show m.clock.toNat = ck by omega, show m.told.toNat = tn by omega])
          have HSZ : Hid (sizeOf [mark2, putL ck 8, Lib.itoa m.quantum, Lib.itoa m.cur, Lib.itoa m.left, Lib.itoa m.next, m.init, Lib.itoa m.newPipe, m.inp, flagL m.fin, putL tn 8, Lib.itoa m.dleft, nbsRow m.pend, nbsRow m.dirty, nbsRow m.pipes, procsRow m.procs] ≤ 34359738368) := Lib.hid (by
            have h := HRS.out
            unfold restL at h
            rw [show m.clock.toNat = ck by omega, show m.told.toNat = tn by omega] at h
            exact Nat.le_trans h (by decide))
          clear HRS
          have C1 := Lib.hid (fun W : World => put_any W ck 8 (by omega) (by omega))
          have C2 := Lib.hid (fun (W : World) (hW : Below w1.heap.size w1 W) => idec_any W m.quantum HM.out.quantum (HTW.out W hW))
          have C3 := Lib.hid (fun (W : World) (hW : Below w1.heap.size w1 W) => idec_any W m.cur HM.out.cur (HTW.out W hW))
          have C4 := Lib.hid (fun (W : World) (hW : Below w1.heap.size w1 W) => idec_any W m.left HM.out.left (HTW.out W hW))
          have C5 := Lib.hid (fun (W : World) (hW : Below w1.heap.size w1 W) => idec_any W m.next HM.out.next (HTW.out W hW))
          have C7 := Lib.hid (fun (W : World) (hW : Below w1.heap.size w1 W) => idec_any W m.newPipe HM.out.newPipe (HTW.out W hW))
          have C9 := Lib.hid (fun W : World => iflag_any W m.fin)
          have C10 := Lib.hid (fun W : World => put_any W tn 8 (by omega) (by omega))
          have C11 := Lib.hid (fun (W : World) (hW : Below w1.heap.size w1 W) => idec_any W m.dleft HM.out.dleft (HTW.out W hW))
          have C12 := Lib.hid (fun (W : World) (hW : Below w1.heap.size w1 W) => writeRows_any W a.N a.cN m.pend (HMA.out W hW).N HRO.out.pend.1 HM.out.pend HRO.out.pend.2 (HTW.out W hW))
          have C13 := Lib.hid (fun (W : World) (hW : Below w1.heap.size w1 W) => writeRows_any W a.D a.cD m.dirty (HMA.out W hW).D HRO.out.dirty.1 HM.out.dirty HRO.out.dirty.2 (HTW.out W hW))
          have HCK : Hid (m.clock = (ck : Int)) := Lib.hid hck
          have HTN : Hid (m.told = (tn : Int)) := Lib.hid htn
          have HC0 : Hid (∀ W, Below w1.heap.size w1 W → W.cell? ⟨gx, 0, none⟩ = some (.int .u64 (ck : Int)) ∧ W.cell? ⟨gx, 12, none⟩ = some (.int .u64 (tn : Int))) := Lib.hid fun W hW => by
            rw [← HCK.out, ← HTN.out]
            exact ⟨(HC.out W hW).cell 0, (HC.out W hW).cell 12⟩
          clear hck htn HCK HTN
          have HC7 : Hid (∀ W, Below w1.heap.size w1 W → W.cell? ⟨gx, 7, none⟩ = some (S m.init) ∧ W.cell? ⟨gx, 10, none⟩ = some (S m.inp)) := Lib.hid fun W hW => ⟨(HC.out W hW).cell 7, (HC.out W hW).cell 10⟩
          generalize putL ck 8 = x1 at *
          generalize Lib.itoa m.quantum = x2 at *
          generalize Lib.itoa m.cur = x3 at *
          generalize Lib.itoa m.left = x4 at *
          generalize Lib.itoa m.next = x5 at *
          generalize m.init = x6 at HR HSZ HC7
          generalize Lib.itoa m.newPipe = x7 at *
          generalize m.inp = x8 at HR HSZ HC7
          generalize flagL m.fin = x9 at *
          generalize putL tn 8 = x10 at *
          generalize Lib.itoa m.dleft = x11 at *
          generalize nbsRow m.pend = x12 at *
          generalize nbsRow m.dirty = x13 at *
          generalize nbsRow m.pipes = x14 at *
          generalize procsRow m.procs = x15 at *
          refine' wp_region_sure (by kernel_rfl) (fun W => Below wr.heap.size wr W) 43 [_, _, _, _, _, _, _, _, _, _, _, _, _, _, _, _, _, _, _, _, _, _, _, _, _, _, _, _, _, _, _, _, _, _, _, _, _, _, _, _, _, _, _] [some 48, some 49, some 50, some 51, some 52, some 53, some 54, some 55, some 56, some 57, some 58, some 59, some 60, some 61, some 62, some 63, some 64, some 65, some 66, some 67, some 68, some 69, some 70, some 71, some 72, some 73, some 74, some 75, some 76, some 77, some 78, some 79, some 80, some 81, some 82, some 83, some 84, some 85, some 86, some 87, some 88, some 89, some 90] (by kernel_rfl) (by kernel_rfl) (by kernel_rfl) (by kernel_rfl) rfl (Below.refl _ _).drew ?hs1
          case hs1 =>
            refine sure_cons ?_ ?_
            · intro L ac W K hed hJ hS hK
              have hA1 : ac.eval (.tmp 1) = .pointer (some ⟨gx, 0, none⟩) := hJ.eval_old 1 (by kernel_rfl)
              clear hed hJ
              refine opStep_of rfl ?_
              unfold Oper.wp execOp
              have hN1 := evalN hA1
              go_simp
              exact hK _ hS
            refine sure_cons ?_ ?_
            · intro L ac W K hed hJ hS hK
              have hn := needs_spec (l := [0]) (by kernel_rfl) hed
              have hA48 := hJ.eval 0 (d := 48) (hn 0 (by simp)) rfl rfl rfl
              clear hed hJ hn
              refine opStep_of rfl ?_
              have cc := (HC0.out W (HV1.out.trans (hS.mono HV1.out.size))).1
              unfold Oper.wp execOp
              have hN48 := evalN hA48
              go_simp
              exact hK _ hS
            refine sure_cons ?_ ?_
            · intro L ac W K hed hJ hS hK
              have hn := needs_spec (l := [1]) (by kernel_rfl) hed
              have hA49 := hJ.eval 1 (d := 49) (hn 1 (by simp)) rfl rfl rfl
              clear hed hJ hn
              refine opStep_of rfl ?_
              unfold Oper.wp execOp
              have hN49 := evalN hA49
              go_simp
              refine (C1.out W).mono ?_
              rintro e W' ⟨rfl, hb⟩
              have hS2 := hS.trans (hb.mono hS.size)
              dsimp only
              exact hK W' hS2
            refine sure_cons ?_ ?_
            · intro L ac W K hed hJ hS hK
              have hA1 : ac.eval (.tmp 1) = .pointer (some ⟨gx, 0, none⟩) := hJ.eval_old 1 (by kernel_rfl)
              clear hed hJ
              refine opStep_of rfl ?_
              unfold Oper.wp execOp
              have hN1 := evalN hA1
              go_simp
              exact hK _ hS
            refine sure_cons ?_ ?_
            · intro L ac W K hed hJ hS hK
              have hn := needs_spec (l := [3]) (by kernel_rfl) hed
              have hA51 := hJ.eval 3 (d := 51) (hn 3 (by simp)) rfl rfl rfl
              clear hed hJ hn
              refine opStep_of rfl ?_
              have cc : W.cell? ⟨gx, 1, none⟩ = some (.int .i64 m.quantum) := (HC.out W (HV1.out.trans (hS.mono HV1.out.size))).cell 1
              unfold Oper.wp execOp
              have hN51 := evalN hA51
              go_simp
              exact hK _ hS
            refine sure_cons ?_ ?_
            · intro L ac W K hed hJ hS hK
              have hn := needs_spec (l := [4]) (by kernel_rfl) hed
              have hA52 := hJ.eval 4 (d := 52) (hn 4 (by simp)) rfl rfl rfl
              clear hed hJ hn
              refine opStep_of rfl ?_
              unfold Oper.wp execOp
              have hN52 := evalN hA52
              go_simp
              refine (C2.out W (HV1.out.trans (hS.mono HV1.out.size))).mono ?_
              rintro e W' ⟨rfl, hb⟩
              have hS2 := hS.trans (hb.mono hS.size)
              dsimp only
              exact hK W' hS2
            refine sure_cons ?_ ?_
            · intro L ac W K hed hJ hS hK
              have hA1 : ac.eval (.tmp 1) = .pointer (some ⟨gx, 0, none⟩) := hJ.eval_old 1 (by kernel_rfl)
              clear hed hJ
              refine opStep_of rfl ?_
              unfold Oper.wp execOp
              have hN1 := evalN hA1
              go_simp
              exact hK _ hS
            refine sure_cons ?_ ?_
            · intro L ac W K hed hJ hS hK
              have hn := needs_spec (l := [6]) (by kernel_rfl) hed
              have hA54 := hJ.eval 6 (d := 54) (hn 6 (by simp)) rfl rfl rfl
              clear hed hJ hn
              refine opStep_of rfl ?_
              have cc : W.cell? ⟨gx, 2, none⟩ = some (.int .i64 m.cur) := (HC.out W (HV1.out.trans (hS.mono HV1.out.size))).cell 2
              unfold Oper.wp execOp
              have hN54 := evalN hA54
              go_simp
              exact hK _ hS
            refine sure_cons ?_ ?_
            · intro L ac W K hed hJ hS hK
              have hn := needs_spec (l := [7]) (by kernel_rfl) hed
              have hA55 := hJ.eval 7 (d := 55) (hn 7 (by simp)) rfl rfl rfl
              clear hed hJ hn
              refine opStep_of rfl ?_
              unfold Oper.wp execOp
              have hN55 := evalN hA55
              go_simp
              refine (C3.out W (HV1.out.trans (hS.mono HV1.out.size))).mono ?_
              rintro e W' ⟨rfl, hb⟩
              have hS2 := hS.trans (hb.mono hS.size)
              dsimp only
              exact hK W' hS2
            refine sure_cons ?_ ?_
            · intro L ac W K hed hJ hS hK
              have hA1 : ac.eval (.tmp 1) = .pointer (some ⟨gx, 0, none⟩) := hJ.eval_old 1 (by kernel_rfl)
              clear hed hJ
              refine opStep_of rfl ?_
              unfold Oper.wp execOp
              have hN1 := evalN hA1
              go_simp
              exact hK _ hS
            refine sure_cons ?_ ?_
            · intro L ac W K hed hJ hS hK
              have hn := needs_spec (l := [9]) (by kernel_rfl) hed
              have hA57 := hJ.eval 9 (d := 57) (hn 9 (by simp)) rfl rfl rfl
              clear hed hJ hn
              refine opStep_of rfl ?_
              have cc : W.cell? ⟨gx, 3, none⟩ = some (.int .i64 m.left) := (HC.out W (HV1.out.trans (hS.mono HV1.out.size))).cell 3
              unfold Oper.wp execOp
              have hN57 := evalN hA57
              go_simp
              exact hK _ hS
            refine sure_cons ?_ ?_
            · intro L ac W K hed hJ hS hK
              have hn := needs_spec (l := [10]) (by kernel_rfl) hed
              have hA58 := hJ.eval 10 (d := 58) (hn 10 (by simp)) rfl rfl rfl
              clear hed hJ hn
              refine opStep_of rfl ?_
              unfold Oper.wp execOp
              have hN58 := evalN hA58
              go_simp
              refine (C4.out W (HV1.out.trans (hS.mono HV1.out.size))).mono ?_
              rintro e W' ⟨rfl, hb⟩
              have hS2 := hS.trans (hb.mono hS.size)
              dsimp only
              exact hK W' hS2
            refine sure_cons ?_ ?_
            · intro L ac W K hed hJ hS hK
              have hA1 : ac.eval (.tmp 1) = .pointer (some ⟨gx, 0, none⟩) := hJ.eval_old 1 (by kernel_rfl)
              clear hed hJ
              refine opStep_of rfl ?_
              unfold Oper.wp execOp
              have hN1 := evalN hA1
              go_simp
              exact hK _ hS
            refine sure_cons ?_ ?_
            · intro L ac W K hed hJ hS hK
              have hn := needs_spec (l := [12]) (by kernel_rfl) hed
              have hA60 := hJ.eval 12 (d := 60) (hn 12 (by simp)) rfl rfl rfl
              clear hed hJ hn
              refine opStep_of rfl ?_
              have cc : W.cell? ⟨gx, 6, none⟩ = some (.int .i64 m.next) := (HC.out W (HV1.out.trans (hS.mono HV1.out.size))).cell 6
              unfold Oper.wp execOp
              have hN60 := evalN hA60
              go_simp
              exact hK _ hS
            refine sure_cons ?_ ?_
            · intro L ac W K hed hJ hS hK
              have hn := needs_spec (l := [13]) (by kernel_rfl) hed
              have hA61 := hJ.eval 13 (d := 61) (hn 13 (by simp)) rfl rfl rfl
              clear hed hJ hn
              refine opStep_of rfl ?_
              unfold Oper.wp execOp
              have hN61 := evalN hA61
              go_simp
              refine (C5.out W (HV1.out.trans (hS.mono HV1.out.size))).mono ?_
              rintro e W' ⟨rfl, hb⟩
              have hS2 := hS.trans (hb.mono hS.size)
              dsimp only
              exact hK W' hS2
            refine sure_cons ?_ ?_
            · intro L ac W K hed hJ hS hK
              have hA1 : ac.eval (.tmp 1) = .pointer (some ⟨gx, 0, none⟩) := hJ.eval_old 1 (by kernel_rfl)
              clear hed hJ
              refine opStep_of rfl ?_
              unfold Oper.wp execOp
              have hN1 := evalN hA1
              go_simp
              exact hK _ hS
            refine sure_cons ?_ ?_
            · intro L ac W K hed hJ hS hK
              have hn := needs_spec (l := [15]) (by kernel_rfl) hed
              have hA63 := hJ.eval 15 (d := 63) (hn 15 (by simp)) rfl rfl rfl
              clear hed hJ hn
              refine opStep_of rfl ?_
              have cc := (HC7.out W (HV1.out.trans (hS.mono HV1.out.size))).1
              unfold Oper.wp execOp
              have hN63 := evalN hA63
              go_simp
              exact hK _ hS
            refine sure_cons ?_ ?_
            · intro L ac W K hed hJ hS hK
              have hA1 : ac.eval (.tmp 1) = .pointer (some ⟨gx, 0, none⟩) := hJ.eval_old 1 (by kernel_rfl)
              clear hed hJ
              refine opStep_of rfl ?_
              unfold Oper.wp execOp
              have hN1 := evalN hA1
              go_simp
              exact hK _ hS
            refine sure_cons ?_ ?_
            · intro L ac W K hed hJ hS hK
              have hn := needs_spec (l := [17]) (by kernel_rfl) hed
              have hA65 := hJ.eval 17 (d := 65) (hn 17 (by simp)) rfl rfl rfl
              clear hed hJ hn
              refine opStep_of rfl ?_
              have cc : W.cell? ⟨gx, 9, none⟩ = some (.int .i64 m.newPipe) := (HC.out W (HV1.out.trans (hS.mono HV1.out.size))).cell 9
              unfold Oper.wp execOp
              have hN65 := evalN hA65
              go_simp
              exact hK _ hS
            refine sure_cons ?_ ?_
            · intro L ac W K hed hJ hS hK
              have hn := needs_spec (l := [18]) (by kernel_rfl) hed
              have hA66 := hJ.eval 18 (d := 66) (hn 18 (by simp)) rfl rfl rfl
              clear hed hJ hn
              refine opStep_of rfl ?_
              unfold Oper.wp execOp
              have hN66 := evalN hA66
              go_simp
              refine (C7.out W (HV1.out.trans (hS.mono HV1.out.size))).mono ?_
              rintro e W' ⟨rfl, hb⟩
              have hS2 := hS.trans (hb.mono hS.size)
              dsimp only
              exact hK W' hS2
            refine sure_cons ?_ ?_
            · intro L ac W K hed hJ hS hK
              have hA1 : ac.eval (.tmp 1) = .pointer (some ⟨gx, 0, none⟩) := hJ.eval_old 1 (by kernel_rfl)
              clear hed hJ
              refine opStep_of rfl ?_
              unfold Oper.wp execOp
              have hN1 := evalN hA1
              go_simp
              exact hK _ hS
            refine sure_cons ?_ ?_
            · intro L ac W K hed hJ hS hK
              have hn := needs_spec (l := [20]) (by kernel_rfl) hed
              have hA68 := hJ.eval 20 (d := 68) (hn 20 (by simp)) rfl rfl rfl
              clear hed hJ hn
              refine opStep_of rfl ?_
              have cc := (HC7.out W (HV1.out.trans (hS.mono HV1.out.size))).2
              unfold Oper.wp execOp
              have hN68 := evalN hA68
              go_simp
              exact hK _ hS
            refine sure_cons ?_ ?_
            · intro L ac W K hed hJ hS hK
              have hA1 : ac.eval (.tmp 1) = .pointer (some ⟨gx, 0, none⟩) := hJ.eval_old 1 (by kernel_rfl)
              clear hed hJ
              refine opStep_of rfl ?_
              unfold Oper.wp execOp
              have hN1 := evalN hA1
              go_simp
              exact hK _ hS
            refine sure_cons ?_ ?_
            · intro L ac W K hed hJ hS hK
              have hn := needs_spec (l := [22]) (by kernel_rfl) hed
              have hA70 := hJ.eval 22 (d := 70) (hn 22 (by simp)) rfl rfl rfl
              clear hed hJ hn
              refine opStep_of rfl ?_
              have cc : W.cell? ⟨gx, 11, none⟩ = some (.bool m.fin) := (HC.out W (HV1.out.trans (hS.mono HV1.out.size))).cell 11
              unfold Oper.wp execOp
              have hN70 := evalN hA70
              go_simp
              exact hK _ hS
            refine sure_cons ?_ ?_
            · intro L ac W K hed hJ hS hK
              have hn := needs_spec (l := [23]) (by kernel_rfl) hed
              have hA71 := hJ.eval 23 (d := 71) (hn 23 (by simp)) rfl rfl rfl
              clear hed hJ hn
              refine opStep_of rfl ?_
              unfold Oper.wp execOp
              have hN71 := evalN hA71
              go_simp
              refine (C9.out W).mono ?_
              rintro e W' ⟨rfl, hb⟩
              have hS2 := hS.trans (hb.mono hS.size)
              dsimp only
              exact hK W' hS2
            refine sure_cons ?_ ?_
            · intro L ac W K hed hJ hS hK
              have hA1 : ac.eval (.tmp 1) = .pointer (some ⟨gx, 0, none⟩) := hJ.eval_old 1 (by kernel_rfl)
              clear hed hJ
              refine opStep_of rfl ?_
              unfold Oper.wp execOp
              have hN1 := evalN hA1
              go_simp
              exact hK _ hS
            refine sure_cons ?_ ?_
            · intro L ac W K hed hJ hS hK
              have hn := needs_spec (l := [25]) (by kernel_rfl) hed
              have hA73 := hJ.eval 25 (d := 73) (hn 25 (by simp)) rfl rfl rfl
              clear hed hJ hn
              refine opStep_of rfl ?_
              have cc := (HC0.out W (HV1.out.trans (hS.mono HV1.out.size))).2
              unfold Oper.wp execOp
              have hN73 := evalN hA73
              go_simp
              exact hK _ hS
            refine sure_cons ?_ ?_
            · intro L ac W K hed hJ hS hK
              have hn := needs_spec (l := [26]) (by kernel_rfl) hed
              have hA74 := hJ.eval 26 (d := 74) (hn 26 (by simp)) rfl rfl rfl
              clear hed hJ hn
              refine opStep_of rfl ?_
              unfold Oper.wp execOp
              have hN74 := evalN hA74
              go_simp
              refine (C10.out W).mono ?_
              rintro e W' ⟨rfl, hb⟩
              have hS2 := hS.trans (hb.mono hS.size)
              dsimp only
              exact hK W' hS2
            refine sure_cons ?_ ?_
            · intro L ac W K hed hJ hS hK
              have hA1 : ac.eval (.tmp 1) = .pointer (some ⟨gx, 0, none⟩) := hJ.eval_old 1 (by kernel_rfl)
              clear hed hJ
              refine opStep_of rfl ?_
              unfold Oper.wp execOp
              have hN1 := evalN hA1
              go_simp
              exact hK _ hS
            refine sure_cons ?_ ?_
            · intro L ac W K hed hJ hS hK
              have hn := needs_spec (l := [28]) (by kernel_rfl) hed
              have hA76 := hJ.eval 28 (d := 76) (hn 28 (by simp)) rfl rfl rfl
              clear hed hJ hn
              refine opStep_of rfl ?_
              unfold Oper.wp execOp
              have hN76 := evalN hA76
              go_simp
              exact hK _ hS
            refine sure_cons ?_ ?_
            · intro L ac W K hed hJ hS hK
              have hn := needs_spec (l := [29]) (by kernel_rfl) hed
              have hA77 := hJ.eval 29 (d := 77) (hn 29 (by simp)) rfl rfl rfl
              clear hed hJ hn
              refine opStep_of rfl ?_
              have cc : W.cell? ⟨gx, 15, none⟩ = some (.int .i64 m.dleft) := (HC.out W (HV1.out.trans (hS.mono HV1.out.size))).cell 15
              unfold Oper.wp execOp
              have hN77 := evalN hA77
              go_simp
              exact hK _ hS
            refine sure_cons ?_ ?_
            · intro L ac W K hed hJ hS hK
              have hn := needs_spec (l := [30]) (by kernel_rfl) hed
              have hA78 := hJ.eval 30 (d := 78) (hn 30 (by simp)) rfl rfl rfl
              clear hed hJ hn
              refine opStep_of rfl ?_
              unfold Oper.wp execOp
              have hN78 := evalN hA78
              go_simp
              refine (C11.out W (HV1.out.trans (hS.mono HV1.out.size))).mono ?_
              rintro e W' ⟨rfl, hb⟩
              have hS2 := hS.trans (hb.mono hS.size)
              dsimp only
              exact hK W' hS2
            refine sure_cons ?_ ?_
            · intro L ac W K hed hJ hS hK
              have hA1 : ac.eval (.tmp 1) = .pointer (some ⟨gx, 0, none⟩) := hJ.eval_old 1 (by kernel_rfl)
              clear hed hJ
              refine opStep_of rfl ?_
              unfold Oper.wp execOp
              have hN1 := evalN hA1
              go_simp
              exact hK _ hS
            refine sure_cons ?_ ?_
            · intro L ac W K hed hJ hS hK
              have hn := needs_spec (l := [32]) (by kernel_rfl) hed
              have hA80 := hJ.eval 32 (d := 80) (hn 32 (by simp)) rfl rfl rfl
              clear hed hJ hn
              refine opStep_of rfl ?_
              unfold Oper.wp execOp
              have hN80 := evalN hA80
              go_simp
              exact hK _ hS
            refine sure_cons ?_ ?_
            · intro L ac W K hed hJ hS hK
              have hn := needs_spec (l := [33]) (by kernel_rfl) hed
              have hA81 := hJ.eval 33 (d := 81) (hn 33 (by simp)) rfl rfl rfl
              clear hed hJ hn
              refine opStep_of rfl ?_
              have cc : W.cell? ⟨gx, 14, none⟩ = some (.slice a.N m.pend.length a.cN) := (HC.out W (HV1.out.trans (hS.mono HV1.out.size))).cell 14
              unfold Oper.wp execOp
              have hN81 := evalN hA81
              go_simp
              exact hK _ hS
            refine sure_cons ?_ ?_
            · intro L ac W K hed hJ hS hK
              have hn := needs_spec (l := [34]) (by kernel_rfl) hed
              have hA82 := hJ.eval 34 (d := 82) (hn 34 (by simp)) rfl rfl rfl
              clear hed hJ hn
              refine opStep_of rfl ?_
              unfold Oper.wp execOp
              have hN82 := evalN hA82
              go_simp
              refine (C12.out W (HV1.out.trans (hS.mono HV1.out.size))).mono ?_
              rintro e W' ⟨rfl, hb⟩
              have hS2 := hS.trans (hb.mono hS.size)
              dsimp only
              exact hK W' hS2
            refine sure_cons ?_ ?_
            · intro L ac W K hed hJ hS hK
              have hA1 : ac.eval (.tmp 1) = .pointer (some ⟨gx, 0, none⟩) := hJ.eval_old 1 (by kernel_rfl)
              clear hed hJ
              refine opStep_of rfl ?_
              unfold Oper.wp execOp
              have hN1 := evalN hA1
              go_simp
              exact hK _ hS
            refine sure_cons ?_ ?_
            · intro L ac W K hed hJ hS hK
              have hn := needs_spec (l := [36]) (by kernel_rfl) hed
              have hA84 := hJ.eval 36 (d := 84) (hn 36 (by simp)) rfl rfl rfl
              clear hed hJ hn
              refine opStep_of rfl ?_
              have cc : W.cell? ⟨gx, 16, none⟩ = some (.slice a.D m.dirty.length a.cD) := (HC.out W (HV1.out.trans (hS.mono HV1.out.size))).cell 16
              unfold Oper.wp execOp
              have hN84 := evalN hA84
              go_simp
              exact hK _ hS
            refine sure_cons ?_ ?_
            · intro L ac W K hed hJ hS hK
              have hn := needs_spec (l := [37]) (by kernel_rfl) hed
              have hA85 := hJ.eval 37 (d := 85) (hn 37 (by simp)) rfl rfl rfl
              clear hed hJ hn
              refine opStep_of rfl ?_
              unfold Oper.wp execOp
              have hN85 := evalN hA85
              go_simp
              refine (C13.out W (HV1.out.trans (hS.mono HV1.out.size))).mono ?_
              rintro e W' ⟨rfl, hb⟩
              have hS2 := hS.trans (hb.mono hS.size)
              dsimp only
              exact hK W' hS2
            refine sure_cons ?_ ?_
            · intro L ac W K hed hJ hS hK
              have hA3 : ac.eval (.tmp 3) = .slice A m.pipes.length c := hJ.eval_old 3 (by kernel_rfl)
              clear hed hJ
              refine opStep_of rfl ?_
              unfold Oper.wp execOp
              have hN3 := evalN hA3
              go_simp
              exact hK _ hS
            refine sure_cons ?_ ?_
            · intro L ac W K hed hJ hS hK
              have hn := needs_spec (l := [39]) (by kernel_rfl) hed
              have hA87 := hJ.eval 39 (d := 87) (hn 39 (by simp)) rfl rfl rfl
              clear hed hJ hn
              refine opStep_of rfl ?_
              unfold Oper.wp execOp
              have hN87 := evalN hA87
              go_simp
              refine (C14.out W hS).mono ?_
              rintro e W' ⟨rfl, hb⟩
              have hS2 := hS.trans (hb.mono hS.size)
              dsimp only
              exact hK W' hS2
            refine sure_cons ?_ ?_
            · intro L ac W K hed hJ hS hK
              have hA6 : ac.eval (.tmp 6) = .slice A' (m.procs.map procRow).length c' := hJ.eval_old 6 (by kernel_rfl)
              clear hed hJ
              refine opStep_of rfl ?_
              unfold Oper.wp execOp
              have hN6 := evalN hA6
              go_simp
              exact hK _ hS
            refine sure_cons ?_ ?_
            · intro L ac W K hed hJ hS hK
              have hn := needs_spec (l := [41]) (by kernel_rfl) hed
              have hA89 := hJ.eval 41 (d := 89) (hn 41 (by simp)) rfl rfl rfl
              clear hed hJ hn
              refine opStep_of rfl ?_
              unfold Oper.wp execOp
              have hN89 := evalN hA89
              go_simp
              refine (C15.out W hS).mono ?_
              rintro e W' ⟨rfl, hb⟩
              have hS2 := hS.trans (hb.mono hS.size)
              dsimp only
              exact hK W' hS2
            refine sure_nil ?_
            intro W hS
            simp only [putAll, Act.put, List.setIfInBounds_toArray, List.set_cons_zero, List.set_cons_succ]
            have HS := Lib.hid hS
            have CR : Calls Tryz.prog 28 #[.slice (some ⟨W.heap.size, 0, none⟩) 16 16] (W.alloc (.cells #[.string ⟨#[104, 105, 98, 50]⟩, S x1, S x2, S x3, S x4, S x5, S x6, S x7, S x8, S x9, S x10, S x11, S x12, S x13, S x14, S x15] 9)) _ := row_made W [mark2, x1, x2, x3, x4, x5, x6, x7, x8, x9, x10, x11, x12, x13, x14, x15] HSZ.out
            have HCR := Lib.hid CR
            clear CR hS
            go_wp2_with fail
            refine HCR.out.mono ?_
            rintro e wf ⟨rfl, hb2⟩
            have HVF := Lib.hid (HV1.out.trans ((HS.out.trans (hb2.mono HS.out.size)).mono HV1.out.size))
            clear hb2 HCR
            go_wp2_with fail
            go_ret
            exact ⟨by rw [HR.out]; rfl, by rw [HGX.out]; exact HW.out.trans (HVF.out.mono (by omega))⟩
end Go.Proofs.YtmmfcjkabpffeaaGreatDoor
