/-
  Walks: the kernel's method lay. (Printed by gen_spg.py.)
-/
import Derived.Test.YtdhfblfnejmeiaaGreatDoorSpG
namespace Go.Proofs.YtdhfblfnejmeiaaGreatDoor
open Go.RowKit

set_option maxRecDepth 100000 in
set_option maxHeartbeats 4000000 in
theorem lay_any {w : World} {B kb : Nat} {a : MA} {m : Mc} {p : Pr} {pb : Nat} {z : List Value} {a0 : MA} {m0 : Mc} {x0 x1 x2 : Int} {tl : List UInt8} (h : KS w B kb a m p pb z a0 m0 x0 x1 x2 tl) (ad fr pl : Nat) (f d : List UInt8) (hs : Spot p.space m.frames ad d.length fr pl f) (hn : 0 < d.length) :
    Calls Tryz.prog 73 #[.pointer (some ⟨kb, 0, none⟩), .int .u32 (ad : Int), S d] w fun e w' => e = .returned (.tuple #[]) ∧ (∃ a', KS w' B kb a' { m with frames := m.frames.set fr (putF f pl d), procs := [p.reg 1 d.length] } (p.reg 1 d.length) pb z a0 m0 x0 x1 x2 tl) ∧ Below B w w' := by
  have HK := Lib.hid h
  have CX : Hid (∀ W, Below w.heap.size w W → Calls Tryz.prog 32 #[.pointer (some ⟨kb, 0, none⟩)] W fun e w' => e = .returned (.pointer (some ⟨pb, 0, none⟩)) ∧ Below W.heap.size W w') := Lib.hid fun W hS => caller_any (h.below hS)
  have H4 : Hid (∀ W, Below w.heap.size w W → W.cell? ⟨kb, 4, none⟩ = some (.slice a.F m.frames.length a.cF)) := Lib.hid fun W hS => (h.below hS).ker.cell 4
  have HL : Hid (∀ W, Below w.heap.size w W → ∀ j v, (pgCells p.space)[j]? = some v → W.cell? ((⟨pb, 20, none⟩ : Addr).add j) = some v) := Lib.hid fun W hS => (h.below hS).space
  have MI : Hid ((Tryz.prog.info? 42).map (·.size) = some (pgCells p.space).length) := Lib.hid (by rw [pgCells_length, h.good.ok.space]; exact Tryz.sizeSpace)
  have HBK : Hid (B ≤ w.heap.size) := Lib.hid (by have := h.hB; have := h.kl; omega)
  have CC : Hid (∀ W, Below w.heap.size w W → Calls Tryz.prog 68 #[.slice a.F m.frames.length a.cF, .agg (pgCells p.space).toArray, .int .u32 (ad : Int), S d] W fun e w' => (∃ v, e = .returned v ∧ LayR w.heap.size m.frames.length (m.frames.set fr (putF f pl d)) 13 12 v w') ∧ Below W.heap.size W w') := Lib.hid fun W hS => (mlay_any W a.F a.cF p.space m.frames ad fr pl f d hs hn (h.below hS).strs).mono (by
    rintro e w2 ⟨⟨gL, cl, zz, rfl, hg, hcl, hw⟩, hb⟩
    exact ⟨⟨_, rfl, gL, cl, zz, rfl, Nat.le_trans hS.size hg, hcl, hw⟩, hb⟩)
  have HN := Lib.hid (fun W v c => need_any W v c)
  have HFL : Hid (m.frames.length = (m.frames.set fr (putF f pl d)).length) := Lib.hid (by simp)
  have HDL : Hid (inU32 (d.length : Int)) := Lib.hid (by have := hs.room; unfold inU32; omega)
  have cvd : IntKind.u32.wrap (d.length : Int) = (d.length : Int) := by have := hs.room; rw [IntKind.wrap_u32]; omega
  clear h hs hn
  generalize m.frames.set fr (putF f pl d) = fs at *
  go_enter Tryz.func73, Tryz.ntmps73
  go_upto_region 0 with (fail)
  refine' wp_region_sureX (by kernel_rfl) (PostX w [(12, 21), (13, 8), (14, 22), (16, 6)] (LayR w.heap.size m.frames.length fs 13)) 18 [some _, some _, some _, some _, some _, some _, some _, some _, some _, some _, some _, some _, none, none, none, some _, none, some _] [some 9, some 10, some 11, some 12, some 13, some 14, some 15, some 16, some 17, some 18, some 19, some 20, some 21, some 8, some 22, some 23, some 6, some 7] (by kernel_rfl) (by kernel_rfl) (by kernel_rfl) (by kernel_rfl) rfl (PostX.init (Below.refl _ _).drew) ?hs1
  case hs1 =>
    refine sureX_cons ?_ ?_
    · intro L ac W K hLi hed hJ hX hK
      have hS := hX.1
      have hA0 : ac.eval (.tmp 0) = .pointer (some ⟨kb, 0, none⟩) := hJ.eval_old 0 (by kernel_rfl)
      have hsz := Lib.hid hJ.size
      clear hLi hed hJ
      refine opStep_of rfl ?_
      unfold Oper.wp execOp
      have hN0 := evalN hA0
      go_simp
      refine hK _ _ ?_ (hX.step LayR.stays (Below.refl _ _) rfl rfl)
      exact Knows.known _
    refine sureX_cons ?_ ?_
    · intro L ac W K hLi hed hJ hX hK
      have hS := hX.1
      have hn := needs_spec (l := [0]) (by kernel_rfl) hed
      have hA9 := hJ.eval 0 (d := 9) (hn 0 (by simp)) rfl rfl rfl
      have hsz := Lib.hid hJ.size
      clear hLi hed hJ hn
      refine opStep_of rfl ?_
      unfold Oper.wp execOp
      have hN9 := evalN hA9
      go_simp
      refine hK _ _ ?_ (hX.step LayR.stays (Below.refl _ _) rfl rfl)
      exact Knows.known _
    refine sureX_cons ?_ ?_
    · intro L ac W K hLi hed hJ hX hK
      have hS := hX.1
      have hn := needs_spec (l := [1]) (by kernel_rfl) hed
      have hA10 := hJ.eval 1 (d := 10) (hn 1 (by simp)) rfl rfl rfl
      have hsz := Lib.hid hJ.size
      clear hLi hed hJ hn
      refine opStep_of rfl ?_
      unfold Oper.wp execOp
      have hN10 := evalN hA10
      go_simp
      refine hK _ _ ?_ (hX.step LayR.stays (Below.refl _ _) rfl rfl)
      exact Knows.known _
    refine sureX_cons ?_ ?_
    · intro L ac W K hLi hed hJ hX hK
      have hS := hX.1
      have hn := needs_spec (l := [2]) (by kernel_rfl) hed
      have hA11 := hJ.eval 2 (d := 11) (hn 2 (by simp)) rfl rfl rfl
      have hsz := Lib.hid hJ.size
      clear hLi hed hJ hn
      refine opStep_of rfl ?_
      unfold Oper.wp execOp
      have hN11 := evalN hA11
      go_simp
      refine hK _ _ ?_ (hX.step LayR.stays (Below.refl _ _) rfl rfl)
      exact Knows.known _
    refine sureX_cons ?_ ?_
    · intro L ac W K hLi hed hJ hX hK
      have hS := hX.1
      have hn := needs_spec (l := [3]) (by kernel_rfl) hed
      have hA12 := hJ.eval 3 (d := 12) (hn 3 (by simp)) rfl rfl rfl
      have hsz := Lib.hid hJ.size
      clear hLi hed hJ hn
      refine opStep_of rfl ?_
      have cc := H4.out W hS
      unfold Oper.wp execOp
      have hN12 := evalN hA12
      go_simp
      refine hK _ _ ?_ (hX.step LayR.stays (Below.refl _ _) rfl rfl)
      exact Knows.known _
    refine sureX_cons ?_ ?_
    · intro L ac W K hLi hed hJ hX hK
      have hS := hX.1
      have hA0 : ac.eval (.tmp 0) = .pointer (some ⟨kb, 0, none⟩) := hJ.eval_old 0 (by kernel_rfl)
      have hsz := Lib.hid hJ.size
      clear hLi hed hJ
      refine opStep_of rfl ?_
      unfold Oper.wp execOp
      have hN0 := evalN hA0
      go_simp
      refine hK _ _ ?_ (hX.step LayR.stays (Below.refl _ _) rfl rfl)
      exact Knows.known _
    refine sureX_cons ?_ ?_
    · intro L ac W K hLi hed hJ hX hK
      have hS := hX.1
      have hn := needs_spec (l := [5]) (by kernel_rfl) hed
      have hA14 := hJ.eval 5 (d := 14) (hn 5 (by simp)) rfl rfl rfl
      have hsz := Lib.hid hJ.size
      clear hLi hed hJ hn
      refine opStep_of rfl ?_
      unfold Oper.wp execOp
      have hN14 := evalN hA14
      go_simp
      refine (CX.out W hS).mono ?_
      rintro e W' ⟨rfl, hb⟩
      have hX2 := hX.step (i := 6) (d := some 15) (v := .pointer (some ⟨pb, 0, none⟩)) LayR.stays hb rfl rfl
      dsimp only
      refine hK _ W' ?_ hX2
      exact Knows.known _
    refine sureX_cons ?_ ?_
    · intro L ac W K hLi hed hJ hX hK
      have hS := hX.1
      have hn := needs_spec (l := [6]) (by kernel_rfl) hed
      have hA15 := hJ.eval 6 (d := 15) (hn 6 (by simp)) rfl rfl rfl
      have hsz := Lib.hid hJ.size
      clear hLi hed hJ hn
      refine opStep_of rfl ?_
      unfold Oper.wp execOp
      have hN15 := evalN hA15
      go_simp
      refine hK _ _ ?_ (hX.step LayR.stays (Below.refl _ _) rfl rfl)
      exact Knows.known _
    refine sureX_cons ?_ ?_
    · intro L ac W K hLi hed hJ hX hK
      have hS := hX.1
      have hn := needs_spec (l := [7]) (by kernel_rfl) hed
      have hA16 := hJ.eval 7 (d := 16) (hn 7 (by simp)) rfl rfl rfl
      have hsz := Lib.hid hJ.size
      clear hLi hed hJ hn
      refine opStep_of rfl ?_
      unfold Oper.wp execOp
      have hN16 := evalN hA16
      go_simp
      refine hK _ _ ?_ (hX.step LayR.stays (Below.refl _ _) rfl rfl)
      exact Knows.known _
    refine sureX_cons ?_ ?_
    · intro L ac W K hLi hed hJ hX hK
      have hS := hX.1
      have hn := needs_spec (l := [8]) (by kernel_rfl) hed
      have hA17 := hJ.eval 8 (d := 17) (hn 8 (by simp)) rfl rfl rfl
      have hsz := Lib.hid hJ.size
      clear hLi hed hJ hn
      refine opStep_of rfl ?_
      refine oper_load_at 42 (.tmp 17) rfl ⟨pb, 20, none⟩ hA17 (pgCells p.space) _ (HL.out W hS) Tryz.underlying42 rfl MI.out ?_
      refine hK _ _ ?_ (hX.step LayR.stays (Below.refl _ _) rfl rfl)
      exact Knows.known _
    refine sureX_cons ?_ ?_
    · intro L ac W K hLi hed hJ hX hK
      have hS := hX.1
      have hA1 : ac.eval (.tmp 1) = .int .u32 (ad : Int) := hJ.eval_old 1 (by kernel_rfl)
      have hsz := Lib.hid hJ.size
      clear hLi hed hJ
      refine opStep_of rfl ?_
      unfold Oper.wp execOp
      have hN1 := evalN hA1
      go_simp
      refine hK _ _ ?_ (hX.step LayR.stays (Below.refl _ _) rfl rfl)
      exact Knows.known _
    refine sureX_cons ?_ ?_
    · intro L ac W K hLi hed hJ hX hK
      have hS := hX.1
      have hA2 : ac.eval (.tmp 2) = S d := hJ.eval_old 2 (by kernel_rfl)
      have hsz := Lib.hid hJ.size
      clear hLi hed hJ
      refine opStep_of rfl ?_
      unfold Oper.wp execOp
      have hN2 := evalN hA2
      go_simp
      refine hK _ _ ?_ (hX.step LayR.stays (Below.refl _ _) rfl rfl)
      exact Knows.known _
    refine sureX_cons ?_ ?_
    · intro L ac W K hLi hed hJ hX hK
      have hS := hX.1
      have hn := needs_spec (l := [4, 9, 10, 11]) (by kernel_rfl) hed
      have hA13 := hJ.eval 4 (d := 13) (hn 4 (by simp)) rfl rfl rfl
      have hA18 := hJ.eval 9 (d := 18) (hn 9 (by simp)) rfl rfl rfl
      have hA19 := hJ.eval 10 (d := 19) (hn 10 (by simp)) rfl rfl rfl
      have hA20 := hJ.eval 11 (d := 20) (hn 11 (by simp)) rfl rfl rfl
      have hsz := Lib.hid hJ.size
      clear hLi hed hJ hn
      refine opStep_of rfl ?_
      unfold Oper.wp execOp
      have hN13 := evalN hA13
      have hN18 := evalN hA18
      have hN19 := evalN hA19
      have hN20 := evalN hA20
      go_simp
      refine (CC.out W hS).mono ?_
      rintro e W' ⟨⟨v, rfl, hv⟩, hb⟩
      have hX2 := hX.made (j := 12) (s := 21) LayR.stays hb rfl (by rw [hsz.out]; exact of_decide_eq_true rfl) hv
      dsimp only
      refine hK _ W' ?_ hX2
      exact Knows.free _
    refine sureX_cons ?_ ?_
    · intro L ac W K hLi hed hJ hX hK
      have hS := hX.1
      have hn := needs_spec (l := [12]) (by kernel_rfl) hed
      have hF21 := hX.2 (12, 21) (by simp) (hn 12 (by simp))
      have hsz := Lib.hid hJ.size
      clear hLi hed hJ hn
      refine opStep_of rfl ?_
      obtain ⟨gL, cl, zz, hv, hz⟩ := hF21
      have hA21 : ac.eval (.tmp 21) = .tuple #[.slice (some ⟨gL, 0, none⟩) m.frames.length cl, .bool true] := hv
      unfold Oper.wp execOp
      have hN21 := evalN hA21
      go_simp
      have hX2 := hX.made (j := 13) (s := 8) LayR.stays (Below.refl _ _) rfl (by rw [hsz.out]; exact of_decide_eq_true rfl) ⟨gL, cl, zz, rfl, hz⟩
      refine hK _ W ?_ hX2
      exact Knows.free _
    refine sureX_cons ?_ ?_
    · intro L ac W K hLi hed hJ hX hK
      have hS := hX.1
      have hn := needs_spec (l := [13]) (by kernel_rfl) hed
      have hF8 := hX.2 (13, 8) (by simp) (hn 13 (by simp))
      have hsz := Lib.hid hJ.size
      clear hLi hed hJ hn
      refine opStep_of rfl ?_
      obtain ⟨gL, cl, zz, hv, hz⟩ := hF8
      have hA8 : ac.eval (.tmp 8) = .tuple #[.slice (some ⟨gL, 0, none⟩) m.frames.length cl, .bool true] := hv
      unfold Oper.wp execOp
      have hN8 := evalN hA8
      go_simp
      have hX2 := hX.made (j := 14) (s := 22) LayR.stays (Below.refl _ _) rfl (by rw [hsz.out]; exact of_decide_eq_true rfl) ⟨gL, cl, zz, rfl, hz⟩
      refine hK _ W ?_ hX2
      exact Knows.free _
    refine sureX_cons ?_ ?_
    · intro L ac W K hLi hed hJ hX hK
      have hS := hX.1
      have hn := needs_spec (l := [13]) (by kernel_rfl) hed
      have hF8 := hX.2 (13, 8) (by simp) (hn 13 (by simp))
      have hsz := Lib.hid hJ.size
      clear hLi hed hJ hn
      refine opStep_of rfl ?_
      obtain ⟨gL, cl, zz, hv, hz⟩ := hF8
      have hA8 : ac.eval (.tmp 8) = .tuple #[.slice (some ⟨gL, 0, none⟩) m.frames.length cl, .bool true] := hv
      unfold Oper.wp execOp
      have hN8 := evalN hA8
      go_simp
      refine hK _ _ ?_ (hX.step LayR.stays (Below.refl _ _) rfl rfl)
      exact Knows.known _
    refine sureX_cons ?_ ?_
    · intro L ac W K hLi hed hJ hX hK
      have hS := hX.1
      have hn := needs_spec (l := [14]) (by kernel_rfl) hed
      have hF22 := hX.2 (14, 22) (by simp) (hn 14 (by simp))
      have hsz := Lib.hid hJ.size
      clear hLi hed hJ hn
      refine opStep_of rfl ?_
      obtain ⟨gL, cl, zz, hv, hz⟩ := hF22
      have hA22 : ac.eval (.tmp 22) = .slice (some ⟨gL, 0, none⟩) m.frames.length cl := hv
      unfold Oper.wp execOp
      have hN22 := evalN hA22
      go_simp
      have hX2 := hX.made (j := 16) (s := 6) LayR.stays (Below.refl _ _) rfl (by rw [hsz.out]; exact of_decide_eq_true rfl) ⟨gL, cl, zz, rfl, hz⟩
      refine hK _ W ?_ hX2
      exact Knows.free _
    refine sureX_cons ?_ ?_
    · intro L ac W K hLi hed hJ hX hK
      have hS := hX.1
      have hn := needs_spec (l := [15]) (by kernel_rfl) hed
      have hA23 := hJ.eval 15 (d := 23) (hn 15 (by simp)) rfl rfl rfl
      have hsz := Lib.hid hJ.size
      clear hLi hed hJ hn
      refine opStep_of rfl ?_
      unfold Oper.wp execOp
      have hN23 := evalN hA23
      go_simp
      refine hK _ _ ?_ (hX.step LayR.stays (Below.refl _ _) rfl rfl)
      exact Knows.known _
    refine sureX_nil ?_
    intro L ac W hL hX ha
    have hS := hX.1
    have hF21 := hX.2 (12, 21) (by simp) (hL 12 (by omega))
    have hF8 := hX.2 (13, 8) (by simp) (hL 13 (by omega))
    have hF22 := hX.2 (14, 22) (by simp) (hL 14 (by omega))
    have hF6 := hX.2 (16, 6) (by simp) (hL 16 (by omega))
    rw [ha]
    simp only [mendAll, Option.getD_some, Option.getD_none, Option.map_some, putAll, Act.put, List.setIfInBounds_toArray, List.set_cons_zero, List.set_cons_succ]
    change ((LayR w.heap.size m.frames.length fs 13)) 12 (ac.tmps.getD 21 undef) W at hF21
    generalize ac.tmps.getD 21 undef = us21 at *
    change ((LayR w.heap.size m.frames.length fs 13)) 13 (ac.tmps.getD 8 undef) W at hF8
    generalize ac.tmps.getD 8 undef = us8 at *
    change ((LayR w.heap.size m.frames.length fs 13)) 14 (ac.tmps.getD 22 undef) W at hF22
    generalize ac.tmps.getD 22 undef = us22 at *
    change ((LayR w.heap.size m.frames.length fs 13)) 16 (ac.tmps.getD 6 undef) W at hF6
    generalize ac.tmps.getD 6 undef = us6 at *
    clear ha hX hL
    have HS := Lib.hid hS
    obtain ⟨gL, cl, zz, e6, hg, hcl, hw⟩ := hF6
    have e6 : us6 = .slice (some ⟨gL, 0, none⟩) m.frames.length cl := e6
    subst e6
    clear hF21 hF8 hF22
    have HK2 := Lib.hid (HK.out.below hS)
    have HKl := Lib.hid HK.out.kl
    have HPl := Lib.hid HK.out.om.pr.lt
    have HKB := Lib.hid HK.out.hB
    rw [HFL.out] at hcl
    have HKF := Lib.hid (HK2.out.frames (fs := fs) (cl := cl) hw (by have := HKl.out; have := HKB.out; omega) (by have := HKl.out; omega) (by have := HPl.out; omega) HFL.out.symm hcl)
    have c4 : W.cell? ⟨kb, 4, none⟩ = some (.slice a.F m.frames.length a.cF) := HK2.out.ker.cell 4
    have y4 := HK2.out.ker.free 4
    clear hS hw CC hcl hg
    go_wp2_with fail
    refine (HN.out _ _ _).mono ?_
    rintro e w3 ⟨rfl, rfl⟩
    go_upto_region 3 with (fail)
    rw [HFL.out]
    have CA := Lib.hid (answer_any HKF.out (d.length : Int) HDL.out)
    go_wp2_with fail
    refine CA.out.mono ?_
    rintro e w4 ⟨rfl, hk, hb⟩
    have HK4 := Lib.hid hk
    have HB4 := Lib.hid hb
    clear hk hb CA
    go_wp2_with fail
    refine bodyPost_end (v := .tuple #[]) (by simp [results, Tryz.results73, go_sem]) rfl ?_
    exact ⟨rfl, ⟨_, HK4.out⟩, (((HS.out.mono HBK.out)).setCell (p := ⟨kb, 4, none⟩) HKB.out _).trans HB4.out⟩
end Go.Proofs.YtdhfblfnejmeiaaGreatDoor
