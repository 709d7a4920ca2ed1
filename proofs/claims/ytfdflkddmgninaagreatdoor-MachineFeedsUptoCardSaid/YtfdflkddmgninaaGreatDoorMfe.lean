/-
  Walk: hibernaclelaw30.MachineFeeds. (Printed by gen_msf.py.)
-/
import Derived.Test.YtfdflkddmgninaaGreatDoorMsF
import Derived.Test.YtfdflkddmgninaaGreatDoorMsD
import Derived.Test.YtfdflkddmgninaaGreatDoorExHH
namespace Go.Proofs.YtfdflkddmgninaaGreatDoor
open Go.RowKit
attribute [local go_sem] concat_S

structure Lists (m : Mc) (n : Nat) : Prop where
  procs : m.procs.length ≤ 10
  pipes : m.pipes.length ≤ 1099511627776
  inp : m.inp.length ≤ n
theorem fed_lists' {m : Mc} {n : Nat} (s : List UInt8) (fin : Bool) (h : Lists m n) : Lists (fedM (feedR m s fin)) (n + s.length) := by
  have h1 := h.procs
  have h2 := h.pipes
  have h3 := h.inp
  unfold feedR
  split
  · constructor <;> simp [fedM, zeroMc]
  · split
    · constructor <;> simp [fedM, zeroMc]
    · constructor <;> simp only [fedM]
      · exact h1
      · exact h2
      · rw [List.length_append]; omega
/-- in two pieces as at once -/
theorem feed_two {m : Mc} {s t : List UInt8} {fin : Bool} (h : fedC (feedR m s false) = 0) : fedC (feedR (fedM (feedR m s false)) t fin) = fedC (feedR m (s ++ t) fin) ∧ fedM (feedR (fedM (feedR m s false)) t fin) = fedM (feedR m (s ++ t) fin) := by
  by_cases h1 : m.fin = true
  · have e : feedR m s false = .error 14 := by unfold feedR; rw [if_pos h1]
    rw [e] at h; simp [fedC] at h
  · by_cases h2 : 4096 < m.inp.length ∨ 4096 - (m.inp.length : Int) < s.length
    · have e : feedR m s false = .error 6 := by unfold feedR; rw [if_neg h1, if_pos h2]
      rw [e] at h; simp [fedC] at h
    · have e : feedR m s false = .ok { m with inp := m.inp ++ s, fin := false } := by unfold feedR; rw [if_neg h1, if_neg h2]
      rw [e]
      unfold feedR
      simp only [fedM, Bool.false_eq_true, if_false, List.length_append, List.append_assoc, if_neg h1]
      by_cases h3 : 4096 - (m.inp.length : Int) < s.length + t.length
      · rw [if_pos (.inr (by omega)), if_pos (.inr (by omega))]; exact ⟨rfl, rfl⟩
      · rw [if_neg (by omega), if_neg (by omega)]; exact ⟨rfl, rfl⟩
set_option maxRecDepth 100000 in
set_option maxHeartbeats 4000000 in
theorem feeds_any (w : World) (ma : MA) (m : Mc) (s t : List UInt8) (fin : Bool) (hm : McOk m) (hpl : m.pipes.length ≤ 1099511627776) (hA : MAt w w.heap.size ma m) :
    Calls Tryz.prog 4 #[.agg (mcL ma m).toArray, S s, S t, .bool fin] w fun e w' => e = .returned (.bool true) ∧ Below w.heap.size w w' := by
  have hs0 := Whole.made w 30 (mcL ma m).toArray
  have hb : Below w.heap.size w (w.alloc (.cells (mcL ma m).toArray 30)) := (Below.refl _ _).alloc (Nat.le_refl _) _
  go_enter Tryz.func4, Tryz.ntmps4
  go_upto_region 1 with (fail)
  change Code.wp _ _ _ _ (w.alloc (.cells (mcL ma m).toArray 30))
  generalize (w.alloc (.cells (mcL ma m).toArray 30)) = w1 at *
  generalize hgx : w.heap.size = gx at *
  have HGX := Lib.hid hgx
  have HS0 := Lib.hid hs0
  have HW := Lib.hid hb
  have hgl : gx < w1.heap.size := hs0.lt
  clear hgx hb hs0
  have HB0 : Hid (Bx w1 gx ma m) := Lib.hid ⟨HS0.out, (hA.below HW.out).wide (by omega)⟩
  have HM := Lib.hid hm
  have HV1 : Hid (Below w1.heap.size w1 w1) := Lib.hid (Below.refl _ _)
  clear hA HS0
  go_wp2_with fail
  refine (Ex.alive_any w1).mono ?_
  rintro e w2 ⟨rfl, hb⟩
  have HV2 := Lib.hid hb
  replace HB0 := Lib.hid (HB0.out.below hb)
  clear hb HV1
  have c4 : w2.cell? ⟨gx, 4, none⟩ = some (.slice ma.F m.frames.length ma.cF) := HB0.out.1.cell 4
  have c5 : w2.cell? ⟨gx, 5, none⟩ = some (.slice ma.P m.procs.length ma.cP) := HB0.out.1.cell 5
  have c10 : w2.cell? ⟨gx, 10, none⟩ = some (S m.inp) := HB0.out.1.cell 10
  go_upto_region 5 with (fail)
  all_goals first
    | (go_ret; exact ⟨rfl, by rw [HGX.out]; exact HW.out.trans (HV2.out.mono (by omega))⟩)
    | skip
  have HL0 : Hid (Lists m 5000) := Lib.hid ⟨by omega, hpl, by omega⟩
  have hsl : s.length ≤ 5000 := by omega
  have htl : t.length ≤ 5000 := by omega
  clear c4 c5 c10
  have HO0 := HM
  obtain ⟨m1, HMm1⟩ : ∃ z, Hid (fedM (feedR m s fin) = z) := ⟨_, Lib.hid rfl⟩
  obtain ⟨c1, HCc1⟩ : ∃ z, Hid (fedC (feedR m s fin) = z) := ⟨_, Lib.hid rfl⟩
  have HL1 : Hid (Lists m1 (5000 + s.length)) := Lib.hid (by rw [← HMm1.out]; exact fed_lists' s fin HL0.out)
  have CF := Lib.hid ((feed_any w2 ma m s fin HO0.out (by have := HL0.out.procs; omega) (by have := HL0.out.pipes; omega) (by have := HL0.out.inp; omega) HB0.out.2).mono fun e w' h => h.one)
  rw [HMm1.out, HCc1.out] at CF
  go_wp2_with (refine wpList_load_at rfl 30 (.tmp 4) rfl ⟨gx, 0, none⟩ rfl (mcL ma m) _ (HB0.out.read) Tryz.underlying30 rfl (mc_info ma m) ?_)
  refine CF.out.mono ?_
  rintro e v3 ⟨⟨aA, rfl, hat, hok⟩, hb⟩
  have HV3 := Lib.hid (HV2.out.trans (hb.mono HV2.out.size))
  replace HB0 := Lib.hid (HB0.out.below hb)
  have HAT := Lib.hid hat
  have HOA := Lib.hid hok
  clear hb CF hat hok HV2
  go_upto_region 6 with (refine wpList_fresh rfl rfl 30 9 (.tmp 52) rfl rfl rfl rfl (mcL aA m1) rfl rfl _ Tryz.infoMc rfl (mcL_one _ _) ?_)
  change Code.wp _ _ _ _ (v3.alloc (.cells (mcL aA m1).toArray 30))
  have HBA := Lib.hid (Bx.made HAT.out)
  replace HB0 := Lib.hid (HB0.out.below ((Below.refl _ _).alloc (Nat.le_refl _) (.cells (mcL aA m1).toArray 30)))
  have HV4 := Lib.hid (HV3.out.alloc HV3.out.size (.cells (mcL aA m1).toArray 30))
  obtain ⟨pA, HPA⟩ : ∃ z, Hid (v3.heap.size = z) := ⟨_, Lib.hid rfl⟩
  rw [HPA.out] at HBA ⊢
  generalize v3.alloc (.cells (mcL aA m1).toArray 30) = v4 at *
  clear HAT HV3 HPA
  have CF := Lib.hid ((rfeed_any v4 ma m s fin HO0.out (by have := HL0.out.inp; omega) HB0.out.2).mono fun e w' h => h.one)
  rw [HMm1.out, HCc1.out] at CF
  go_wp2_with (refine wpList_load_at rfl 30 (.tmp 4) rfl ⟨gx, 0, none⟩ rfl (mcL ma m) _ (HB0.out.read) Tryz.underlying30 rfl (mc_info ma m) ?_)
  refine CF.out.mono ?_
  rintro e v5 ⟨⟨aB, rfl, hat, hok⟩, hb⟩
  have HV5 := Lib.hid (HV4.out.trans (hb.mono HV4.out.size))
  replace HB0 := Lib.hid (HB0.out.below hb)
  replace HBA := Lib.hid (HBA.out.below hb)
  have HAT := Lib.hid hat
  have HOB := Lib.hid hok
  clear hb CF hat hok HV4
  go_upto_region 7 with (refine wpList_fresh rfl rfl 30 11 (.tmp 59) rfl rfl rfl rfl (mcL aB m1) rfl rfl _ Tryz.infoMc rfl (mcL_one _ _) ?_)
  change Code.wp _ _ _ _ (v5.alloc (.cells (mcL aB m1).toArray 30))
  have HBB := Lib.hid (Bx.made HAT.out)
  replace HB0 := Lib.hid (HB0.out.below ((Below.refl _ _).alloc (Nat.le_refl _) (.cells (mcL aB m1).toArray 30)))
  replace HBA := Lib.hid (HBA.out.below ((Below.refl _ _).alloc (Nat.le_refl _) (.cells (mcL aB m1).toArray 30)))
  have HV6 := Lib.hid (HV5.out.alloc HV5.out.size (.cells (mcL aB m1).toArray 30))
  obtain ⟨pB, HPB⟩ : ∃ z, Hid (v5.heap.size = z) := ⟨_, Lib.hid rfl⟩
  rw [HPB.out] at HBB ⊢
  generalize v5.alloc (.cells (mcL aB m1).toArray 30) = v6 at *
  clear HAT HV5 HPB
  have CS := rsame_any v6 aA aB m1 m1 HOA.out HOB.out (by have := HL1.out.pipes; omega) HBA.out.2 HBB.out.2
  rw [sameB_refl] at CS
  go_wp2_with (first
    | (refine wpList_load_g (o := ⟨some 65, _, _, _, _, _⟩) rfl 30 (.tmp 9) rfl ⟨pA, 0, none⟩ rfl (mcL aA m1) _ HBA.out.read Tryz.underlying30 rfl (mc_info aA m1) ?_)
    | (refine wpList_load_g (o := ⟨some 66, _, _, _, _, _⟩) rfl 30 (.tmp 11) rfl ⟨pB, 0, none⟩ rfl (mcL aB m1) _ HBB.out.read Tryz.underlying30 rfl (mc_info aB m1) ?_))
  refine CS.mono ?_
  rintro e v7 ⟨rfl, hb⟩
  have HV7 := Lib.hid (HV6.out.trans (hb.mono HV6.out.size))
  replace HB0 := Lib.hid (HB0.out.below hb)
  replace HBA := Lib.hid (HBA.out.below hb)
  replace HBB := Lib.hid (HBB.out.below hb)
  clear hb HV6
  clear HBA HBB HOA HOB
  go_upto_region 9 with (fail)
  obtain ⟨m2, HMm2⟩ : ∃ z, Hid (fedM (feedR m s false) = z) := ⟨_, Lib.hid rfl⟩
  obtain ⟨c2, HCc2⟩ : ∃ z, Hid (fedC (feedR m s false) = z) := ⟨_, Lib.hid rfl⟩
  have HLX : Hid (Lists m2 (5000 + s.length)) := Lib.hid (by rw [← HMm2.out]; exact fed_lists' s false HL0.out)
  have CF := Lib.hid ((feed_any v7 ma m s false HO0.out (by have := HL0.out.procs; omega) (by have := HL0.out.pipes; omega) (by have := HL0.out.inp; omega) HB0.out.2).mono fun e w' h => h.one)
  rw [HMm2.out, HCc2.out] at CF
  go_wp2_with (refine wpList_load_at rfl 30 (.tmp 4) rfl ⟨gx, 0, none⟩ rfl (mcL ma m) _ (HB0.out.read) Tryz.underlying30 rfl (mc_info ma m) ?_)
  refine CF.out.mono ?_
  rintro e v8 ⟨⟨aX, rfl, hat, hok⟩, hb⟩
  have HV8 := Lib.hid (HV7.out.trans (hb.mono HV7.out.size))
  replace HB0 := Lib.hid (HB0.out.below hb)
  have HAT := Lib.hid hat
  have HOX := Lib.hid hok
  clear hb CF hat hok HV7
  go_upto_region 10 with (refine wpList_fresh rfl rfl 30 13 (.tmp 74) rfl rfl rfl rfl (mcL aX m2) rfl rfl _ Tryz.infoMc rfl (mcL_one _ _) ?_)
  change Code.wp _ _ _ _ (v8.alloc (.cells (mcL aX m2).toArray 30))
  have HBX := Lib.hid (Bx.made HAT.out)
  replace HB0 := Lib.hid (HB0.out.below ((Below.refl _ _).alloc (Nat.le_refl _) (.cells (mcL aX m2).toArray 30)))
  have HV9 := Lib.hid (HV8.out.alloc HV8.out.size (.cells (mcL aX m2).toArray 30))
  obtain ⟨pX, HPX⟩ : ∃ z, Hid (v8.heap.size = z) := ⟨_, Lib.hid rfl⟩
  rw [HPX.out] at HBX ⊢
  generalize v8.alloc (.cells (mcL aX m2).toArray 30) = v9 at *
  clear HAT HV8 HPX
  obtain ⟨m3, HMm3⟩ : ∃ z, Hid (fedM (feedR m2 t fin) = z) := ⟨_, Lib.hid rfl⟩
  obtain ⟨c3, HCc3⟩ : ∃ z, Hid (fedC (feedR m2 t fin) = z) := ⟨_, Lib.hid rfl⟩
  have HL3 : Hid (Lists m3 (5000 + s.length + t.length)) := Lib.hid (by rw [← HMm3.out]; exact fed_lists' t fin HLX.out)
  have CF := Lib.hid ((feed_any v9 aX m2 t fin HOX.out (by have := HLX.out.procs; omega) (by have := HLX.out.pipes; omega) (by have := HLX.out.inp; omega) HBX.out.2).mono fun e w' h => h.one)
  rw [HMm3.out, HCc3.out] at CF
  go_wp2_with (refine wpList_load_at rfl 30 (.tmp 13) rfl ⟨pX, 0, none⟩ rfl (mcL aX m2) _ (HBX.out.read) Tryz.underlying30 rfl (mc_info aX m2) ?_)
  refine CF.out.mono ?_
  rintro e v10 ⟨⟨aY, rfl, hat, hok⟩, hb⟩
  have HV10 := Lib.hid (HV9.out.trans (hb.mono HV9.out.size))
  replace HB0 := Lib.hid (HB0.out.below hb)
  replace HBX := Lib.hid (HBX.out.below hb)
  have HAT := Lib.hid hat
  have HOY := Lib.hid hok
  clear hb CF hat hok HV9
  go_upto_region 11 with (refine wpList_fresh rfl rfl 30 15 (.tmp 81) rfl rfl rfl rfl (mcL aY m3) rfl rfl _ Tryz.infoMc rfl (mcL_one _ _) ?_)
  change Code.wp _ _ _ _ (v10.alloc (.cells (mcL aY m3).toArray 30))
  have HBY := Lib.hid (Bx.made HAT.out)
  replace HB0 := Lib.hid (HB0.out.below ((Below.refl _ _).alloc (Nat.le_refl _) (.cells (mcL aY m3).toArray 30)))
  replace HBX := Lib.hid (HBX.out.below ((Below.refl _ _).alloc (Nat.le_refl _) (.cells (mcL aY m3).toArray 30)))
  have HV11 := Lib.hid (HV10.out.alloc HV10.out.size (.cells (mcL aY m3).toArray 30))
  obtain ⟨pY, HPY⟩ : ∃ z, Hid (v10.heap.size = z) := ⟨_, Lib.hid rfl⟩
  rw [HPY.out] at HBY ⊢
  generalize v10.alloc (.cells (mcL aY m3).toArray 30) = v11 at *
  clear HAT HV10 HPY
  obtain ⟨m4, HMm4⟩ : ∃ z, Hid (fedM (feedR m (s ++ t) fin) = z) := ⟨_, Lib.hid rfl⟩
  obtain ⟨c4, HCc4⟩ : ∃ z, Hid (fedC (feedR m (s ++ t) fin) = z) := ⟨_, Lib.hid rfl⟩
  have CF := Lib.hid ((feed_any v11 ma m (s ++ t) fin HO0.out (by have := HL0.out.procs; omega) (by have := HL0.out.pipes; omega) (by have := HL0.out.inp; omega) HB0.out.2).mono fun e w' h => h.one)
  rw [HMm4.out, HCc4.out] at CF
  go_wp2_with (refine wpList_load_at rfl 30 (.tmp 4) rfl ⟨gx, 0, none⟩ rfl (mcL ma m) _ (HB0.out.read) Tryz.underlying30 rfl (mc_info ma m) ?_)
  refine CF.out.mono ?_
  rintro e v12 ⟨⟨aZ, rfl, hat, hok⟩, hb⟩
  have HV12 := Lib.hid (HV11.out.trans (hb.mono HV11.out.size))
  replace HB0 := Lib.hid (HB0.out.below hb)
  replace HBX := Lib.hid (HBX.out.below hb)
  replace HBY := Lib.hid (HBY.out.below hb)
  have HAT := Lib.hid hat
  have HOZ := Lib.hid hok
  clear hb CF hat hok HV11
  go_upto_region 12 with (refine wpList_fresh rfl rfl 30 17 (.tmp 90) rfl rfl rfl rfl (mcL aZ m4) rfl rfl _ Tryz.infoMc rfl (mcL_one _ _) ?_)
  change Code.wp _ _ _ _ (v12.alloc (.cells (mcL aZ m4).toArray 30))
  have HBZ := Lib.hid (Bx.made HAT.out)
  replace HB0 := Lib.hid (HB0.out.below ((Below.refl _ _).alloc (Nat.le_refl _) (.cells (mcL aZ m4).toArray 30)))
  replace HBX := Lib.hid (HBX.out.below ((Below.refl _ _).alloc (Nat.le_refl _) (.cells (mcL aZ m4).toArray 30)))
  replace HBY := Lib.hid (HBY.out.below ((Below.refl _ _).alloc (Nat.le_refl _) (.cells (mcL aZ m4).toArray 30)))
  have HV13 := Lib.hid (HV12.out.alloc HV12.out.size (.cells (mcL aZ m4).toArray 30))
  obtain ⟨pZ, HPZ⟩ : ∃ z, Hid (v12.heap.size = z) := ⟨_, Lib.hid rfl⟩
  rw [HPZ.out] at HBZ ⊢
  generalize v12.alloc (.cells (mcL aZ m4).toArray 30) = v13 at *
  clear HAT HV12 HPZ
  have HT2 : Hid (c2 = 0 → c3 = c4 ∧ m3 = m4) := Lib.hid (fun h => by have h2 := feed_two (m := m) (s := s) (t := t) (fin := fin) (HCc2.out.trans h); rw [HMm2.out, HCc3.out, HMm3.out, HCc4.out, HMm4.out] at h2; exact h2)
  clear HMm2 HCc3 HMm3 HCc4 HMm4 HCc2
  by_cases hc2 : c2 = 0
  · obtain ⟨e1, e2⟩ := HT2.out hc2
    subst e1 e2 hc2
    clear HT2
    go_upto_region 14 with (fail)
    have CS := rsame_any v13 aY aZ m3 m3 HOY.out HOZ.out (by have := HL3.out.pipes; omega) HBY.out.2 HBZ.out.2
    rw [sameB_refl] at CS
    go_wp2_with (first
      | (refine wpList_load_g (o := ⟨some 98, _, _, _, _, _⟩) rfl 30 (.tmp 15) rfl ⟨pY, 0, none⟩ rfl (mcL aY m3) _ HBY.out.read Tryz.underlying30 rfl (mc_info aY m3) ?_)
      | (refine wpList_load_g (o := ⟨some 99, _, _, _, _, _⟩) rfl 30 (.tmp 17) rfl ⟨pZ, 0, none⟩ rfl (mcL aZ m3) _ HBZ.out.read Tryz.underlying30 rfl (mc_info aZ m3) ?_))
    refine CS.mono ?_
    rintro e v14 ⟨rfl, hb⟩
    have HV14 := Lib.hid (HV13.out.trans (hb.mono HV13.out.size))
    replace HB0 := Lib.hid (HB0.out.below hb)
    replace HBX := Lib.hid (HBX.out.below hb)
    replace HBY := Lib.hid (HBY.out.below hb)
    replace HBZ := Lib.hid (HBZ.out.below hb)
    clear hb HV13
    go_wp2_with fail
    go_ret
    exact ⟨rfl, by rw [HGX.out]; exact HW.out.trans (HV14.out.mono (by omega))⟩
  · have hn : (c2 != 0) = true := by simp [bne, hc2]
    go_wp2_with fail
    go_ret
    exact ⟨rfl, by rw [HGX.out]; exact HW.out.trans (HV13.out.mono (by omega))⟩
end Go.Proofs.YtfdflkddmgninaaGreatDoor
