/-
  Walk: hibernaclelaw32.ImageFed. (Printed by gen_fed.py.)
-/
import Derived.Test.YtmmfcjkabpffeaaGreatDoorImA
import Derived.Test.YtmmfcjkabpffeaaGreatDoorApL
namespace Go.Proofs.YtmmfcjkabpffeaaGreatDoor
open Go.RowKit

def fedM (x : Except Int Mc) : Mc := match x with
  | .error _ => zeroMc
  | .ok m => m
def fedC (x : Except Int Mc) : Int := match x with
  | .error c => c
  | .ok _ => 0
theorem zeroMc_ok : McOk zeroMc := by constructor <;> simp [zeroMc, inU64, inJ8]
theorem zeroMc_at (w : World) (B : Nat) : MAt w B zeroMA zeroMc := ⟨Lies.none _ _ _, Lies.none _ _ _, Lies.none _ _ _, Lies.none _ _ _, Lies.none _ _ _, Lies.none _ _ _, by simp [zeroMA, zeroMc]⟩
theorem FeedPost.one {w w' : World} {x : Except Int Mc} {e : Ending} (h : FeedPost w x e w') : (∃ a : MA, e = .returned (.tuple #[.agg (mcL a (fedM x)).toArray, .int .i64 (fedC x)]) ∧ MAt w' w'.heap.size a (fedM x) ∧ McOk (fedM x)) ∧ Below w.heap.size w w' := by
  obtain ⟨h, hb⟩ := h
  refine ⟨?_, hb⟩
  cases x with
  | error c => exact ⟨zeroMA, h, zeroMc_at _ _, zeroMc_ok⟩
  | ok m => exact h
theorem fed_pend {m : Mc} {s : List UInt8} {fin : Bool} (h : m.pend.length ≤ 4096) : (fedM (feedR m s fin)).pend.length ≤ 4096 := by
  unfold feedR
  split
  · simp [fedM, zeroMc]
  · split
    · simp [fedM, zeroMc]
    · exact h
theorem fed_lists {m : Mc} {s : List UInt8} {fin : Bool} {n : Nat} (h : m.frames.length ≤ n ∧ m.blocks.length ≤ n) : (fedM (feedR m s fin)).frames.length ≤ n ∧ (fedM (feedR m s fin)).blocks.length ≤ n := by
  unfold feedR
  split
  · simp [fedM, zeroMc]
  · split
    · simp [fedM, zeroMc]
    · exact h
theorem im_lists {m : Mc} {n : Nat} (h : m.frames.length ≤ n ∧ m.blocks.length ≤ n) : (imF m).length ≤ n ∧ (imB m).length ≤ n := by
  unfold imF imB
  split
  · exact h
  · simp
theorem mach_back {m : Mc} (hm : McOk m) (h : checkE m = 0) (hp : m.pend.length ≤ 4096) : machR m.frames m.blocks (restB m) = .ok m := by
  unfold machR
  rw [rest_back hm h hp]
  show (if checkE m = 0 then _ else _) = _
  rw [if_pos h]
  show (if restB m = restB m then _ else _) = _
  rw [if_pos rfl]
theorem imgEq_refl (fs bs : List (List UInt8)) (r : List UInt8) : imgEq fs bs r fs bs r = true := by unfold imgEq; exact decide_eq_true ⟨rfl, rfl, rfl⟩
/-- an image whose lists lie there -/
def IsImg (W : World) (v : Value) (fs bs : List (List UInt8)) (r : List UInt8) : Prop := ∃ A c B d, v = .agg #[.slice A fs.length c, .slice B bs.length d, S r] ∧ Strs W W.heap.size A fs ∧ Strs W W.heap.size B bs
theorem IsImg.below {W W' : World} {v : Value} {fs bs : List (List UInt8)} {r : List UInt8} (h : IsImg W v fs bs r) (hb : Below W.heap.size W W') : IsImg W' v fs bs r := by
  obtain ⟨A, c, B, d, e, h1, h2⟩ := h
  exact ⟨A, c, B, d, e, (Lies.below h1 hb).wide hb.size, (Lies.below h2 hb).wide hb.size⟩
theorem ImgNew.is {w w' : World} {fs bs : List (List UInt8)} {r : List UInt8} {e : Ending} (h : ImgNew w fs bs r e w') : (∃ v, e = .returned v ∧ IsImg w' v fs bs r) ∧ Below w.heap.size w w' := by
  obtain ⟨⟨A, c, B, d, rfl, h1, h2, _, _⟩, hb⟩ := h
  exact ⟨⟨_, rfl, A, c, B, d, rfl, h1, h2⟩, hb⟩
set_option maxRecDepth 100000 in
set_option maxHeartbeats 4000000 in
theorem fed_any (w : World) (ma : MA) (m : Mc) (s : List UInt8) (fin : Bool) (hm : McOk' m) (hA : MAt w w.heap.size ma m) (hT : ITabs w) :
    Calls Tryz.prog 6 #[.agg (mcL ma m).toArray, S s, .bool fin] w fun e w' => e = .returned (.bool true) ∧ Below w.heap.size w w' := by
  have hs0 := Whole.made w 30 (mcL ma m).toArray
  have hb : Below w.heap.size w (w.alloc (.cells (mcL ma m).toArray 30)) := (Below.refl _ _).alloc (Nat.le_refl _) _
  go_enter Tryz.func6, Tryz.ntmps6
  go_upto_region 1 with (fail)
  change Code.wp _ _ _ _ (w.alloc (.cells (mcL ma m).toArray 30))
  generalize (w.alloc (.cells (mcL ma m).toArray 30)) = w1 at *
  generalize hgx : w.heap.size = gx at *
  have HGX := Lib.hid hgx
  have HS0 := Lib.hid hs0
  have HW := Lib.hid hb
  have hgl : gx < w1.heap.size := hs0.lt
  clear hgx hb hs0
  have HA := Lib.hid (hA.below HW.out)
  have HM := Lib.hid hm
  have HMA : Hid (∀ W, Below w1.heap.size w1 W → MAt W W.heap.size ma m) := Lib.hid fun W hW => (HA.out.below (hW.mono (by omega))).wide (by have := hW.size; omega)
  have HLM : Hid (∀ W, Below w1.heap.size w1 W → ∀ j v, (mcL ma m)[j]? = some v → W.cell? ((⟨gx, 0, none⟩ : Addr).add j) = some v) := Lib.hid fun W hW => (HS0.out.below hW (by omega)).reads
  have MI : Hid ((Tryz.prog.info? 30).map (·.size) = some (mcL ma m).length) := Lib.hid (by rw [mcL_length]; exact Tryz.sizeMc)
  have HTW : Hid (∀ W, Below w1.heap.size w1 W → ITabs W) := Lib.hid fun W hW => hT.below (B := gx) (by rw [HGX.out]; exact Nat.le_refl _) (HW.out.trans (hW.mono (by omega)))
  have CL1 := Lib.hid (large_any w1 ma m (HMA.out w1 (Below.refl _ _)))
  have LM1 := Lib.hid (HLM.out w1 (Below.refl _ _))
  clear hT hm hA
  go_wp2_with (refine wpList_load_at rfl 30 (.tmp 3) rfl ⟨gx, 0, none⟩ rfl (mcL ma m) _ LM1.out Tryz.underlying30 rfl MI.out ?_)
  refine CL1.out.mono ?_
  rintro e w3 ⟨he, hb3⟩
  have HB3 := Lib.hid hb3
  clear hb3 CL1 LM1
  rcases he with rfl | ⟨rfl, hl1⟩
  · go_wp2_with fail
    refine (awake_any w3).mono ?_
    rintro e wz ⟨rfl, hbz⟩
    have HZ := Lib.hid (HB3.out.trans (hbz.mono HB3.out.size))
    clear hbz
    go_wp2_with fail
    go_ret
    exact ⟨rfl, by rw [HGX.out]; exact HW.out.trans (HZ.out.mono (by omega))⟩
  · have HL := Lib.hid hl1
    have HO := Lib.hid (hl1.ok HM.out)
    have CC1 := Lib.hid (rcheck_any w3 ma m HO.out (HMA.out w3 HB3.out))
    have LM4 := Lib.hid (HLM.out w3 HB3.out)
    obtain ⟨cm, HCm⟩ : ∃ z, Hid (checkE m = z) := ⟨_, Lib.hid rfl⟩
    rw [HCm.out] at CC1
    clear hl1
    go_wp2_with (refine wpList_load_g (o := ⟨some 17, _, _, _, _, _⟩) rfl 30 (.tmp 3) rfl ⟨gx, 0, none⟩ rfl (mcL ma m) _ LM4.out Tryz.underlying30 rfl MI.out ?_)
    refine CC1.out.mono ?_
    rintro e w5 ⟨rfl, hb5⟩
    have HB5 := Lib.hid (HB3.out.trans (hb5.mono HB3.out.size))
    clear hb5 CC1 LM4
    by_cases hcm : cm = 0
    · subst hcm
      by_cases hsl : 500 < s.length
      · have d1 : decide ((500 : Int) < (s.length : Int)) = true := decide_eq_true (by omega)
        have d1' : decide (500 < s.length) = true := decide_eq_true hsl
        go_wp2_with fail
        refine (awake_any w5).mono ?_
        rintro e wz ⟨rfl, hbz⟩
        have HZ := Lib.hid (HB5.out.trans (hbz.mono HB5.out.size))
        clear hbz
        go_wp2_with fail
        go_ret
        exact ⟨rfl, by rw [HGX.out]; exact HW.out.trans (HZ.out.mono (by omega))⟩
      · have d1 : decide ((500 : Int) < (s.length : Int)) = false := decide_eq_false (by omega)
        have d1' : decide (500 < s.length) = false := decide_eq_false hsl
        go_upto_region 3 with (fail)
        clear d1 d1'
        have hz5 := HB5.out.size
        have hpn : m.pend.length ≤ 4096 := by have := HL.out.pend; omega
        have hsm := HL.out.small
        obtain ⟨hl2, hl3, _⟩ := hsm
        have hmsz := HO.out.sizes
        have HRO := Lib.hid (rest_ok HCm.out hpn)
        have hprl : m.procs.length ≤ 4294967296 := by have := HRO.out.procs; omega
        have hpil : m.pipes.length ≤ 1099511627776 := by have := HRO.out.pipes.1; omega
        have hinl : m.inp.length ≤ 1099511627776 := by have := HRO.out.inp; omega
        have HRL := Lib.hid (rest_len HO.out HRO.out)
        have HBK := Lib.hid (mach_back HO.out HCm.out hpn)
        have HRP : Hid (∀ m0, restR (restB m) = some m0 → m0.pend.length ≤ 4096) := Lib.hid fun m0 h => by
          rw [rest_back HO.out HCm.out hpn] at h
          injection h with h
          subst h
          exact hpn
        obtain ⟨rm, HRm⟩ : ∃ z, Hid (restB m = z) := ⟨_, Lib.hid rfl⟩
        rw [HRm.out] at HBK HRP HRL
        have CO : Hid (Calls Tryz.prog 10 #[.agg (mcL ma m).toArray] w5 (ImgNew w5 m.frames m.blocks rm)) := Lib.hid (by
          have h := imageOf_any w5 ma m HO.out hpn (HMA.out w5 HB5.out) (HTW.out w5 HB5.out).1
          rw [show imF m = m.frames by unfold imF; rw [if_pos HCm.out], show imB m = m.blocks by unfold imB; rw [if_pos HCm.out], show imR m = rm by unfold imR; rw [if_pos HCm.out, HRm.out]] at h
          exact h)
        have LM5 := Lib.hid (HLM.out w5 HB5.out)
        go_wp2_with (refine wpList_load_at rfl 30 (.tmp 3) rfl ⟨gx, 0, none⟩ rfl (mcL ma m) _ LM5.out Tryz.underlying30 rfl MI.out ?_)
        refine CO.out.mono ?_
        rintro e w6 ⟨⟨A1, c1, B1, d1, rfl, l1, l2, _, _⟩, hb6⟩
        have HB6 := Lib.hid (HB5.out.trans (hb6.mono hz5))
        have CM := Lib.hid (machine_any w6 A1 B1 c1 d1 m.frames m.blocks rm l1 l2 (by omega) (by omega) (by have := HRL.out; omega) HRP.out (HTW.out w6 HB6.out))
        rw [HBK.out] at CM
        clear l1 l2 hb6 CO LM5
        go_wp2_with fail
        refine CM.out.mono ?_
        rintro e w7 ⟨⟨ax, rfl, hatx, _⟩, hb7⟩
        have HB7 := Lib.hid (HB6.out.trans (hb7.mono HB6.out.size))
        have HAX := Lib.hid hatx
        clear hb7 CM hatx
        go_upto_region 4 with (refine wpList_fresh rfl rfl 30 7 (.tmp 31) rfl rfl rfl rfl (mcL ax m) rfl rfl _ Tryz.infoMc rfl (mcL_one _ _) ?_)
        change Code.wp _ _ _ _ (w7.alloc (.cells (mcL ax m).toArray 30))
        have HP7 := Lib.hid (Whole.made w7 30 (mcL ax m).toArray)
        have HB8 := Lib.hid (HB7.out.alloc HB7.out.size (.cells (mcL ax m).toArray 30))
        have HAX8 := Lib.hid ((HAX.out.below ((Below.refl w7.heap.size w7).alloc (Nat.le_refl _) (.cells (mcL ax m).toArray 30))).wide (B' := (w7.alloc (.cells (mcL ax m).toArray 30)).heap.size) (by simp))
        obtain ⟨p7, HP⟩ : ∃ z, Hid (w7.heap.size = z) := ⟨_, Lib.hid rfl⟩
        rw [HP.out] at HP7 ⊢
        generalize w7.alloc (.cells (mcL ax m).toArray 30) = w8 at *
        clear HAX
        have LM8 := Lib.hid (HLM.out w8 HB8.out)
        have CF := Lib.hid ((feed_any w8 ma m s fin HO.out hprl hpil hinl (HMA.out w8 HB8.out)).mono fun e w' h => h.one)
        obtain ⟨fm, HFM⟩ : ∃ z, Hid (fedM (feedR m s fin) = z) := ⟨_, Lib.hid rfl⟩
        obtain ⟨fc, HFD⟩ : ∃ z, Hid (fedC (feedR m s fin) = z) := ⟨_, Lib.hid rfl⟩
        have hfp : fm.pend.length ≤ 4096 := by rw [← HFM.out]; exact fed_pend hpn
        have hfl : fm.frames.length ≤ 80 ∧ fm.blocks.length ≤ 80 := by rw [← HFM.out]; exact fed_lists ⟨by omega, by omega⟩
        rw [HFM.out, HFD.out] at CF
        go_wp2_with (refine wpList_load_at rfl 30 (.tmp 3) rfl ⟨gx, 0, none⟩ rfl (mcL ma m) _ LM8.out Tryz.underlying30 rfl MI.out ?_)
        refine CF.out.mono ?_
        rintro e w9 ⟨⟨aa, rfl, hata, hokf⟩, hb9⟩
        have HB9 := Lib.hid (HB8.out.trans (hb9.mono HB8.out.size))
        have HAA := Lib.hid hata
        have HOF := Lib.hid hokf
        have HP9x := Lib.hid (HP7.out.below hb9 HP7.out.lt)
        have HAX9 := Lib.hid ((HAX8.out.below hb9).wide hb9.size)
        clear hb9 CF hata hokf HP7 HAX8 LM8
        go_upto_region 5 with (refine wpList_fresh rfl rfl 30 9 (.tmp 38) rfl rfl rfl rfl (mcL aa fm) rfl rfl _ Tryz.infoMc rfl (mcL_one _ _) ?_)
        change Code.wp _ _ _ _ (w9.alloc (.cells (mcL aa fm).toArray 30))
        have HQ9 := Lib.hid (Whole.made w9 30 (mcL aa fm).toArray)
        have HBa := Lib.hid (HB9.out.alloc HB9.out.size (.cells (mcL aa fm).toArray 30))
        have HPa := Lib.hid (HP9x.out.block (.cells (mcL aa fm).toArray 30))
        have HAXa := Lib.hid ((HAX9.out.below ((Below.refl w9.heap.size w9).alloc (Nat.le_refl _) (.cells (mcL aa fm).toArray 30))).wide (B' := (w9.alloc (.cells (mcL aa fm).toArray 30)).heap.size) (by simp))
        have HAAa := Lib.hid ((HAA.out.below ((Below.refl w9.heap.size w9).alloc (Nat.le_refl _) (.cells (mcL aa fm).toArray 30))).wide (B' := (w9.alloc (.cells (mcL aa fm).toArray 30)).heap.size) (by simp))
        obtain ⟨p9, HP9s⟩ : ∃ z, Hid (w9.heap.size = z) := ⟨_, Lib.hid rfl⟩
        rw [HP9s.out] at HQ9 ⊢
        generalize w9.alloc (.cells (mcL aa fm).toArray 30) = wa at *
        clear HAX9 HAA HP9x
        have LX : Hid (∀ j v, (mcL ax m)[j]? = some v → wa.cell? ((⟨p7, 0, none⟩ : Addr).add j) = some v) := Lib.hid HPa.out.reads
        have XI : Hid ((Tryz.prog.info? 30).map (·.size) = some (mcL ax m).length) := Lib.hid (by rw [mcL_length]; exact Tryz.sizeMc)
        have CF := Lib.hid ((feed_any wa ax m s fin HO.out hprl hpil hinl HAXa.out).mono fun e w' h => h.one)
        rw [HFM.out, HFD.out] at CF
        go_wp2_with (refine wpList_load_at rfl 30 (.tmp 7) rfl ⟨p7, 0, none⟩ rfl (mcL ax m) _ LX.out Tryz.underlying30 rfl XI.out ?_)
        refine CF.out.mono ?_
        rintro e wb ⟨⟨ab, rfl, hatb, _⟩, hbb⟩
        have HBb := Lib.hid (HBa.out.trans (hbb.mono HBa.out.size))
        have HAB := Lib.hid hatb
        have HQb := Lib.hid (HQ9.out.below hbb HQ9.out.lt)
        have HAAb := Lib.hid ((HAAa.out.below hbb).wide hbb.size)
        clear hbb CF hatb HQ9 HAAa HAXa LX HPa
        go_upto_region 6 with (refine wpList_fresh rfl rfl 30 11 (.tmp 45) rfl rfl rfl rfl (mcL ab fm) rfl rfl _ Tryz.infoMc rfl (mcL_one _ _) ?_)
        change Code.wp _ _ _ _ (wb.alloc (.cells (mcL ab fm).toArray 30))
        have HP11 := Lib.hid (Whole.made wb 30 (mcL ab fm).toArray)
        have HBc := Lib.hid (HBb.out.alloc HBb.out.size (.cells (mcL ab fm).toArray 30))
        have HP9 := Lib.hid (HQb.out.block (.cells (mcL ab fm).toArray 30))
        have HAAc := Lib.hid ((HAAb.out.below ((Below.refl wb.heap.size wb).alloc (Nat.le_refl _) (.cells (mcL ab fm).toArray 30))).wide (B' := (wb.alloc (.cells (mcL ab fm).toArray 30)).heap.size) (by simp))
        have HABc := Lib.hid ((HAB.out.below ((Below.refl wb.heap.size wb).alloc (Nat.le_refl _) (.cells (mcL ab fm).toArray 30))).wide (B' := (wb.alloc (.cells (mcL ab fm).toArray 30)).heap.size) (by simp))
        obtain ⟨p11, HP11s⟩ : ∃ z, Hid (wb.heap.size = z) := ⟨_, Lib.hid rfl⟩
        rw [HP11s.out] at HP11 ⊢
        generalize wb.alloc (.cells (mcL ab fm).toArray 30) = wc at *
        clear HAAb HAB HQb
        have hq9 := HP9.out.lt
        have hq11 := HP11.out.lt
        have FIa : Hid ((Tryz.prog.info? 30).map (·.size) = some (mcL aa fm).length) := Lib.hid (by rw [mcL_length]; exact Tryz.sizeMc)
        have FIb : Hid ((Tryz.prog.info? 30).map (·.size) = some (mcL ab fm).length) := Lib.hid (by rw [mcL_length]; exact Tryz.sizeMc)
        have HWW : Hid (∀ W, Below wc.heap.size wc W → Below w1.heap.size w1 W) := Lib.hid fun W hW => HBc.out.trans (hW.mono HBc.out.size)
        have COa : Hid (∀ W, Below wc.heap.size wc W → Calls Tryz.prog 10 #[.agg (mcL aa fm).toArray] W fun e w' => (∃ v, e = .returned v ∧ IsImg w' v (imF fm) (imB fm) (imR fm)) ∧ Below W.heap.size W w') := Lib.hid fun W hW => (imageOf_any W aa fm HOF.out hfp ((HAAc.out.below hW).wide hW.size) (HTW.out W (HWW.out W hW)).1).mono fun e w' h => h.is
        have COb : Hid (∀ W, Below wc.heap.size wc W → Calls Tryz.prog 10 #[.agg (mcL ab fm).toArray] W fun e w' => (∃ v, e = .returned v ∧ IsImg w' v (imF fm) (imB fm) (imR fm)) ∧ Below W.heap.size W w') := Lib.hid fun W hW => (imageOf_any W ab fm HOF.out hfp ((HABc.out.below hW).wide hW.size) (HTW.out W (HWW.out W hW)).1).mono fun e w' h => h.is
        have hil := im_lists (m := fm) (n := 80) hfl
        have CSM : Hid (∀ (W : World) (A B A' B' : Option Addr) (c d c' d' : Nat), Strs W W.heap.size A (imF fm) → Strs W W.heap.size B (imB fm) → Strs W W.heap.size A' (imF fm) → Strs W W.heap.size B' (imB fm) → Calls Tryz.prog 12 #[.agg #[.slice A (imF fm).length c, .slice B (imB fm).length d, S (imR fm)], .agg #[.slice A' (imF fm).length c', .slice B' (imB fm).length d', S (imR fm)]] W fun e w' => e = .returned (.bool true) ∧ Below W.heap.size W w') := Lib.hid fun W A B A' B' c d c' d' k1 k2 k3 k4 => by
          have h := same32_any W A B A' B' c d c' d' (imF fm) (imB fm) (imF fm) (imB fm) (imR fm) (imR fm) k1 k2 k3 k4 (by omega) (by omega) (by omega) (by omega)
          rw [imgEq_refl] at h
          exact h
        have CAW := Lib.hid (fun W => awake_any W)
        have HST : Hid (∀ (j : Nat) (v : Value) (W W' : World), IsImg W v (imF fm) (imB fm) (imR fm) → Below W.heap.size W W' → IsImg W' v (imF fm) (imB fm) (imR fm)) := Lib.hid fun j v W W' h hb => h.below hb
        clear hsl hz5 hpn hl2 hl3 hmsz hprl hpil hinl hfp hfl hil
        refine' wp_region_sureX (by kernel_rfl) (PostX wc [(9, 56), (11, 58)] (fun (_ : Nat) v W => IsImg W v (imF fm) (imB fm) (imR fm))) 17 [some _, some _, some _, some _, some _, some _, some _, some _, some _, none, some _, none, some _, some _, some _, some _, some _] [some 47, some 48, some 49, some 50, some 51, some 52, some 53, some 54, some 55, some 56, some 57, some 58, some 59, some 60, some 61, some 62, some 63] (by kernel_rfl) (by kernel_rfl) (by kernel_rfl) (by kernel_rfl) rfl (PostX.init (Below.refl _ _).drew) ?hs6
        case hs6 =>
          refine sureX_cons ?_ ?_
          · intro L ac W K hLi hed hJ hX hK
            have hS := hX.1
            have hA8 : ac.eval (.tmp 8) = .int .i64 0 := hJ.eval_old 8 (by kernel_rfl)
            have hsz := Lib.hid hJ.size
            clear hLi hed hJ
            refine opStep_of rfl ?_
            unfold Oper.wp execOp
            have hN8 := evalN hA8
            go_simp
            refine hK _ _ ?_ (hX.step HST.out (Below.refl _ _) rfl rfl)
            exact Knows.known _
          refine sureX_cons ?_ ?_
          · intro L ac W K hLi hed hJ hX hK
            have hS := hX.1
            have hn := needs_spec (l := [0]) (by kernel_rfl) hed
            have hA47 := hJ.eval 0 (d := 47) (hn 0 (by simp)) rfl rfl rfl
            have hsz := Lib.hid hJ.size
            clear hLi hed hJ hn
            refine opStep_of rfl ?_
            unfold Oper.wp execOp
            have hN47 := evalN hA47
            go_simp
            refine hK _ _ ?_ (hX.step HST.out (Below.refl _ _) rfl rfl)
            exact Knows.known _
          refine sureX_cons ?_ ?_
          · intro L ac W K hLi hed hJ hX hK
            have hS := hX.1
            have hn := needs_spec (l := [1]) (by kernel_rfl) hed
            have hA48 := hJ.eval 1 (d := 48) (hn 1 (by simp)) rfl rfl rfl
            have hsz := Lib.hid hJ.size
            clear hLi hed hJ hn
            refine opStep_of rfl ?_
            unfold Oper.wp execOp
            have hN48 := evalN hA48
            go_simp
            refine hK _ _ ?_ (hX.step HST.out (Below.refl _ _) rfl rfl)
            exact Knows.known _
          refine sureX_cons ?_ ?_
          · intro L ac W K hLi hed hJ hX hK
            have hS := hX.1
            have hn := needs_spec (l := [2]) (by kernel_rfl) hed
            have hA10 : ac.eval (.tmp 10) = .int .i64 fc := hJ.eval_old 10 (by kernel_rfl)
            have hA49 := hJ.eval 2 (d := 49) (hn 2 (by simp)) rfl rfl rfl
            have hsz := Lib.hid hJ.size
            clear hLi hed hJ hn
            refine opStep_yes rfl (d := 49) rfl (by rw [hsz.out]; rfl) hA49 ?_
            unfold Oper.wp execOp
            have hN10 := evalN hA10
            go_simp
            refine hK _ _ ?_ (hX.step HST.out (Below.refl _ _) rfl rfl)
            exact Knows.known _
          refine sureX_cons ?_ ?_
          · intro L ac W K hLi hed hJ hX hK
            have hS := hX.1
            have hn := needs_spec (l := [2]) (by kernel_rfl) hed
            have hA12 : ac.eval (.tmp 12) = .int .i64 fc := hJ.eval_old 12 (by kernel_rfl)
            have hA49 := hJ.eval 2 (d := 49) (hn 2 (by simp)) rfl rfl rfl
            have hsz := Lib.hid hJ.size
            clear hLi hed hJ hn
            refine opStep_yes rfl (d := 49) rfl (by rw [hsz.out]; rfl) hA49 ?_
            unfold Oper.wp execOp
            have hN12 := evalN hA12
            go_simp
            refine hK _ _ ?_ (hX.step HST.out (Below.refl _ _) rfl rfl)
            exact Knows.known _
          refine sureX_cons ?_ ?_
          · intro L ac W K hLi hed hJ hX hK
            have hS := hX.1
            have hn := needs_spec (l := [2, 3, 4]) (by kernel_rfl) hed
            have hA50 := hJ.eval 3 (d := 50) (hn 3 (by simp)) rfl rfl rfl
            have hA51 := hJ.eval 4 (d := 51) (hn 4 (by simp)) rfl rfl rfl
            have hA49 := hJ.eval 2 (d := 49) (hn 2 (by simp)) rfl rfl rfl
            have hsz := Lib.hid hJ.size
            clear hLi hed hJ hn
            refine opStep_yes rfl (d := 49) rfl (by rw [hsz.out]; rfl) hA49 ?_
            unfold Oper.wp execOp
            have hN50 := evalN hA50
            have hN51 := evalN hA51
            go_simp
            refine hK _ _ ?_ (hX.step HST.out (Below.refl _ _) rfl rfl)
            exact Knows.known _
          refine sureX_cons ?_ ?_
          · intro L ac W K hLi hed hJ hX hK
            have hS := hX.1
            have hn := needs_spec (l := [2, 5]) (by kernel_rfl) hed
            have hA49 := hJ.eval 2 (d := 49) (hn 2 (by simp)) rfl rfl rfl
            have hA52 := hJ.eval 5 (d := 52) (hn 5 (by simp)) rfl rfl rfl
            have hsz := Lib.hid hJ.size
            clear hLi hed hJ hn
            refine opStep_of rfl ?_
            unfold Oper.wp execOp
            have hN49 := evalN hA49
            have hN52 := evalN hA52
            go_simp
            refine hK _ _ ?_ (hX.step HST.out (Below.refl _ _) rfl rfl)
            exact Knows.known _
          refine sureX_cons ?_ ?_
          · intro L ac W K hLi hed hJ hX hK
            have hS := hX.1
            have hn := needs_spec (l := [6]) (by kernel_rfl) hed
            have hA53 := hJ.eval 6 (d := 53) (hn 6 (by simp)) rfl rfl rfl
            have hsz := Lib.hid hJ.size
            clear hLi hed hJ hn
            refine opStep_of rfl ?_
            unfold Oper.wp execOp
            have hN53 := evalN hA53
            go_simp
            refine hK _ _ ?_ (hX.step HST.out (Below.refl _ _) rfl rfl)
            exact Knows.known _
          refine sureX_cons ?_ ?_
          · intro L ac W K hLi hed hJ hX hK
            have hS := hX.1
            have hn := needs_spec (l := [7]) (by kernel_rfl) hed
            have hA9 : ac.eval (.tmp 9) = .pointer (some ⟨p9, 0, none⟩) := hJ.eval_old 9 (by kernel_rfl)
            have hA54 := hJ.eval 7 (d := 54) (hn 7 (by simp)) rfl rfl rfl
            have hsz := Lib.hid hJ.size
            clear hLi hed hJ hn
            refine opStep_yes rfl (d := 54) rfl (by rw [hsz.out]; rfl) hA54 ?_
            refine oper_load_at 30 (.tmp 9) rfl ⟨p9, 0, none⟩ hA9 (mcL aa fm) _ ((HP9.out.below hS (by omega)).reads) Tryz.underlying30 rfl FIa.out ?_
            refine hK _ _ ?_ (hX.step HST.out (Below.refl _ _) rfl rfl)
            exact Knows.known _
          refine sureX_cons ?_ ?_
          · intro L ac W K hLi hed hJ hX hK
            have hS := hX.1
            have hn := needs_spec (l := [7, 8]) (by kernel_rfl) hed
            have hA55 := hJ.eval 8 (d := 55) (hn 8 (by simp)) rfl rfl rfl
            have hA54 := hJ.eval 7 (d := 54) (hn 7 (by simp)) rfl rfl rfl
            have hsz := Lib.hid hJ.size
            clear hLi hed hJ hn
            refine opStep_yes rfl (d := 54) rfl (by rw [hsz.out]; rfl) hA54 ?_
            unfold Oper.wp execOp
            have hN55 := evalN hA55
            go_simp
            refine (COa.out W hS).mono ?_
            rintro e W' ⟨⟨v, rfl, hv⟩, hb⟩
            have hX2 := hX.made (j := 9) (s := 56) HST.out hb rfl (by rw [hsz.out]; exact of_decide_eq_true rfl) hv
            dsimp only
            refine hK _ W' ?_ hX2
            exact Knows.free _
          refine sureX_cons ?_ ?_
          · intro L ac W K hLi hed hJ hX hK
            have hS := hX.1
            have hn := needs_spec (l := [7]) (by kernel_rfl) hed
            have hA11 : ac.eval (.tmp 11) = .pointer (some ⟨p11, 0, none⟩) := hJ.eval_old 11 (by kernel_rfl)
            have hA54 := hJ.eval 7 (d := 54) (hn 7 (by simp)) rfl rfl rfl
            have hsz := Lib.hid hJ.size
            clear hLi hed hJ hn
            refine opStep_yes rfl (d := 54) rfl (by rw [hsz.out]; rfl) hA54 ?_
            refine oper_load_at 30 (.tmp 11) rfl ⟨p11, 0, none⟩ hA11 (mcL ab fm) _ ((HP11.out.below hS (by omega)).reads) Tryz.underlying30 rfl FIb.out ?_
            refine hK _ _ ?_ (hX.step HST.out (Below.refl _ _) rfl rfl)
            exact Knows.known _
          refine sureX_cons ?_ ?_
          · intro L ac W K hLi hed hJ hX hK
            have hS := hX.1
            have hn := needs_spec (l := [7, 10]) (by kernel_rfl) hed
            have hA57 := hJ.eval 10 (d := 57) (hn 10 (by simp)) rfl rfl rfl
            have hA54 := hJ.eval 7 (d := 54) (hn 7 (by simp)) rfl rfl rfl
            have hsz := Lib.hid hJ.size
            clear hLi hed hJ hn
            refine opStep_yes rfl (d := 54) rfl (by rw [hsz.out]; rfl) hA54 ?_
            unfold Oper.wp execOp
            have hN57 := evalN hA57
            go_simp
            refine (COb.out W hS).mono ?_
            rintro e W' ⟨⟨v, rfl, hv⟩, hb⟩
            have hX2 := hX.made (j := 11) (s := 58) HST.out hb rfl (by rw [hsz.out]; exact of_decide_eq_true rfl) hv
            dsimp only
            refine hK _ W' ?_ hX2
            exact Knows.free _
          refine sureX_cons ?_ ?_
          · intro L ac W K hLi hed hJ hX hK
            have hS := hX.1
            have hn := needs_spec (l := [7, 9, 11]) (by kernel_rfl) hed
            have hF56 := hX.2 (9, 56) (by simp) (hn 9 (by simp))
            have hF58 := hX.2 (11, 58) (by simp) (hn 11 (by simp))
            have hA54 := hJ.eval 7 (d := 54) (hn 7 (by simp)) rfl rfl rfl
            have hsz := Lib.hid hJ.size
            clear hLi hed hJ hn
            refine opStep_yes rfl (d := 54) rfl (by rw [hsz.out]; rfl) hA54 ?_
            obtain ⟨A1, c1, B1, d1, hA56, k1, k2⟩ := hF56
            obtain ⟨A2, c2, B2, d2, hA58, k3, k4⟩ := hF58
            unfold Oper.wp execOp
            have hN56 := evalN hA56
            have hN58 := evalN hA58
            go_simp
            refine (CSM.out W A1 B1 A2 B2 c1 d1 c2 d2 k1 k2 k3 k4).mono ?_
            rintro e W' ⟨rfl, hb⟩
            have hX2 := hX.step (i := 12) (d := some 59) (v := .bool true) HST.out hb rfl rfl
            dsimp only
            refine hK _ W' ?_ hX2
            exact Knows.known _
          refine sureX_cons ?_ ?_
          · intro L ac W K hLi hed hJ hX hK
            have hS := hX.1
            have hn := needs_spec (l := [7, 12]) (by kernel_rfl) hed
            have hA54 := hJ.eval 7 (d := 54) (hn 7 (by simp)) rfl rfl rfl
            have hA59 := hJ.eval 12 (d := 59) (hn 12 (by simp)) rfl rfl rfl
            have hsz := Lib.hid hJ.size
            clear hLi hed hJ hn
            refine opStep_of rfl ?_
            unfold Oper.wp execOp
            have hN54 := evalN hA54
            have hN59 := evalN hA59
            go_simp
            refine hK _ _ ?_ (hX.step HST.out (Below.refl _ _) rfl rfl)
            exact Knows.known _
          refine sureX_cons ?_ ?_
          · intro L ac W K hLi hed hJ hX hK
            have hS := hX.1
            have hn := needs_spec (l := [13]) (by kernel_rfl) hed
            have hA60 := hJ.eval 13 (d := 60) (hn 13 (by simp)) rfl rfl rfl
            have hsz := Lib.hid hJ.size
            clear hLi hed hJ hn
            refine opStep_of rfl ?_
            unfold Oper.wp execOp
            have hN60 := evalN hA60
            go_simp
            refine hK _ _ ?_ (hX.step HST.out (Below.refl _ _) rfl rfl)
            exact Knows.known _
          refine sureX_cons ?_ ?_
          · intro L ac W K hLi hed hJ hX hK
            have hS := hX.1
            have hn := needs_spec (l := [14]) (by kernel_rfl) hed
            have hA61 := hJ.eval 14 (d := 61) (hn 14 (by simp)) rfl rfl rfl
            have hsz := Lib.hid hJ.size
            clear hLi hed hJ hn
            refine opStep_yes rfl (d := 61) rfl (by rw [hsz.out]; rfl) hA61 ?_
            unfold Oper.wp execOp
            go_simp
            refine (CAW.out W).mono ?_
            rintro e W' ⟨rfl, hb⟩
            have hX2 := hX.step (i := 15) (d := some 62) (v := .bool true) HST.out hb rfl rfl
            dsimp only
            refine hK _ W' ?_ hX2
            exact Knows.known _
          refine sureX_cons ?_ ?_
          · intro L ac W K hLi hed hJ hX hK
            have hS := hX.1
            have hn := needs_spec (l := [14, 15]) (by kernel_rfl) hed
            have hA61 := hJ.eval 14 (d := 61) (hn 14 (by simp)) rfl rfl rfl
            have hA62 := hJ.eval 15 (d := 62) (hn 15 (by simp)) rfl rfl rfl
            have hsz := Lib.hid hJ.size
            clear hLi hed hJ hn
            refine opStep_of rfl ?_
            unfold Oper.wp execOp
            have hN61 := evalN hA61
            have hN62 := evalN hA62
            go_simp
            refine hK _ _ ?_ (hX.step HST.out (Below.refl _ _) rfl rfl)
            exact Knows.known _
          refine sureX_nil ?_
          intro L ac W hL hX ha
          have hS := hX.1
          have hF56 := hX.2 (9, 56) (by simp) (hL 9 (by omega))
          have hF58 := hX.2 (11, 58) (by simp) (hL 11 (by omega))
          rw [ha]
          simp only [mendAll, Option.getD_some, Option.getD_none, Option.map_some, putAll, Act.put, List.setIfInBounds_toArray, List.set_cons_zero, List.set_cons_succ]
          change ((fun (_ : Nat) v W => IsImg W v (imF fm) (imB fm) (imR fm))) 9 (ac.tmps.getD 56 undef) W at hF56
          generalize ac.tmps.getD 56 undef = us56 at *
          change ((fun (_ : Nat) v W => IsImg W v (imF fm) (imB fm) (imR fm))) 11 (ac.tmps.getD 58 undef) W at hF58
          generalize ac.tmps.getD 58 undef = us58 at *
          clear ha hX hL
          have HV := Lib.hid (HBc.out.trans (hS.mono HBc.out.size))
          clear hS
          go_wp2_with fail
          go_ret
          exact ⟨rfl, by rw [HGX.out]; exact HW.out.trans (HV.out.mono (by omega))⟩
    · go_wp2_with fail
      refine (awake_any w5).mono ?_
      rintro e wz ⟨rfl, hbz⟩
      have HZ := Lib.hid (HB5.out.trans (hbz.mono HB5.out.size))
      clear hbz
      go_wp2_with fail
      go_ret
      exact ⟨rfl, by rw [HGX.out]; exact HW.out.trans (HZ.out.mono (by omega))⟩
end Go.Proofs.YtmmfcjkabpffeaaGreatDoor
