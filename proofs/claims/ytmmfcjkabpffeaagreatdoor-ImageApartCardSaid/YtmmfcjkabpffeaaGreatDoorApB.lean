/-
  Walk: hibernaclelaw32.ImageApart. (Printed by gen_apb.py.)
-/
import Derived.Test.YtmmfcjkabpffeaaGreatDoorApA
namespace Go.Proofs.YtmmfcjkabpffeaaGreatDoor
open Go.RowKit

theorem lies_setne3 {w : World} {A : Option Addr} {xs : List Value} {p : Addr} {u : Value} (h : Lies w w.heap.size A xs) (hg : ∀ ad, A = some ad → xs ≠ [] → ad.block ≠ p.block) : Lies (w.setCell p u) (w.setCell p u).heap.size A xs := fun k v hv => by
  obtain ⟨ad, e, hb, hc⟩ := h k v hv
  refine ⟨ad, e, by simpa [World.setCell] using hb, ?_⟩
  rw [World.cell?_setCell_other _ _ _ _ (fun e2 => hg ad e (by rintro rfl; simp at hv) (by rw [e2, add_block]))]
  exact hc
theorem lies_setn3 {w : World} {A : Option Addr} {xs : List Value} {q : Nat} {a b c : Value} (h : Lies w w.heap.size A xs) (hg : ∀ ad, A = some ad → xs ≠ [] → ad.block ≠ q) :
    Lies (((w.setCell ⟨q, 0, none⟩ a).setCell ⟨q, 1, none⟩ b).setCell ⟨q, 2, none⟩ c) (((w.setCell ⟨q, 0, none⟩ a).setCell ⟨q, 1, none⟩ b).setCell ⟨q, 2, none⟩ c).heap.size A xs :=
  lies_setne3 (lies_setne3 (lies_setne3 h hg) hg) hg
theorem whole_far3 {w : World} {g q : Nat} {t : TypeId} {cs : Array Value} {a b c : Value} (h : Whole w g t cs) (hp : g ≠ q) :
    Whole (((w.setCell ⟨q, 0, none⟩ a).setCell ⟨q, 1, none⟩ b).setCell ⟨q, 2, none⟩ c) g t cs :=
  ((h.far (p := ⟨q, 0, none⟩) hp a).far (p := ⟨q, 1, none⟩) hp b).far (p := ⟨q, 2, none⟩) hp c
theorem imgB_inj {fa ba fb bb : List (List UInt8)} {ra rb : List UInt8} (h : imgB fa ba ra = imgB fb bb rb) : fa = fb ∧ ba = bb ∧ ra = rb := by
  have := rowB_inj _ _ h
  simp only [List.cons.injEq, and_true, true_and] at this
  exact ⟨rowB_inj _ _ this.1, rowB_inj _ _ this.2.1, this.2.2⟩
/-- are two machines the same in all? -/
def sameB (m n : Mc) : Bool := decide (m.frames = n.frames ∧ m.blocks = n.blocks ∧ restB m = restB n)
theorem sameB_img (m n : Mc) : imgEq m.frames m.blocks (restB m) n.frames n.blocks (restB n) = sameB m n := by
  unfold imgEq sameB
  rw [decide_eq_decide]
  exact ⟨fun h => ⟨h.2.1, h.2.2, h.1⟩, fun h => ⟨h.2.2, h.1, h.2.1⟩⟩
theorem sameB_bytes (m n : Mc) : (imgB m.frames m.blocks (restB m) == imgB n.frames n.blocks (restB n)) = sameB m n := by
  rw [Bool.eq_iff_iff, beq_iff_eq]
  unfold sameB
  rw [decide_eq_true_eq]
  exact ⟨fun h => imgB_inj h, fun h => by rw [h.1, h.2.1, h.2.2]⟩
theorem rest_len {m : Mc} (hm : McOk m) (h : RestOk m) : (restB m).length ≤ 2147483648 := by
  have h1 := rest_size hm h
  have := rowB_le (restL m) (by omega)
  unfold restB; omega
theorem size_small {m : Mc} (h : Small32 m.frames m.blocks []) : sizeOf m.frames ≤ 16400 ∧ sizeOf m.blocks ≤ 16400 := by
  obtain ⟨h1, h2, _, h4, h5⟩ := h
  have a := sizeOf_small h4
  have b := sizeOf_small h5
  omega
/-- what holds while the region runs -/
def ApG3 (w7 : World) (gx : Nat) (ma mb : MA) (m n : Mc) (rm rn : List UInt8) (Ls : Nat → Bool) (a : Act) (W : World) : Prop :=
  ∃ u27 u28 u29 u30 u5 u6 A1 kc1 B1 kd1 A2 kc2 B2 kd2 p1 p2, a = ⟨#[.agg (mcL ma m).toArray, .agg (mcL mb n).toArray, .pointer (some ⟨gx, 0, none⟩), .pointer (some ⟨gx + 1, 0, none⟩), .bool false, u5, u6, undef, .agg (mcL ma m).toArray, .int .i64 0, .bool false, .bool false, .agg (mcL mb n).toArray, .int .i64 0, .bool false, .bool false, .bool false, .agg (mcL ma m).toArray, .int .i64 0, .bool false, .bool false, .bool false, .agg (mcL mb n).toArray, .int .i64 0, .bool false, .bool false, undef, u27, u28, u29, u30, undef, undef, undef, undef, undef, undef, undef, undef, undef, undef, undef, undef, undef, undef, undef, undef, undef, undef, undef, undef], []⟩ ∧ Below w7.heap.size w7 W ∧ w7.heap.size ≤ W.heap.size ∧ (Ls 0 = true → u27 = .agg (mcL ma m).toArray) ∧ (Ls 1 = true → u28 = .agg #[.slice A1 m.frames.length kc1, .slice B1 m.blocks.length kd1, S rm] ∧ Lies W W.heap.size A1 (m.frames.map S) ∧ Lies W W.heap.size B1 (m.blocks.map S)) ∧ (Ls 2 = true → u29 = .agg (mcL mb n).toArray) ∧ (Ls 3 = true → u30 = .agg #[.slice A2 n.frames.length kc2, .slice B2 n.blocks.length kd2, S rn] ∧ Lies W W.heap.size A2 (n.frames.map S) ∧ Lies W W.heap.size B2 (n.blocks.map S)) ∧ (Ls 4 = true → u5 = .pointer (some ⟨p1, 0, none⟩) ∧ w7.heap.size ≤ p1 ∧ p1 < W.heap.size) ∧ (Ls 4 = true → Ls 6 = false → Whole W p1 36 #[Value.slice none 0 0, Value.slice none 0 0, S []]) ∧ (Ls 5 = true → u6 = .pointer (some ⟨p2, 0, none⟩) ∧ w7.heap.size ≤ p2 ∧ p2 < W.heap.size) ∧ (Ls 5 = true → Ls 7 = false → Whole W p2 36 #[Value.slice none 0 0, Value.slice none 0 0, S []]) ∧ (Ls 6 = true → Whole W p1 36 #[.slice A1 m.frames.length kc1, .slice B1 m.blocks.length kd1, S rm]) ∧ (Ls 6 = true → ∀ j ∈ [1, 3, 4, 5], Ls j = true) ∧ (Ls 7 = true → Whole W p2 36 #[.slice A2 n.frames.length kc2, .slice B2 n.blocks.length kd2, S rn]) ∧ (Ls 7 = true → ∀ j ∈ [1, 3, 4, 5], Ls j = true) ∧ (Ls 1 = true → Ls 4 = true → ∀ qd : Addr, A1 = some qd → (m.frames.map S) ≠ [] → qd.block ≠ p1) ∧ (Ls 1 = true → Ls 4 = true → ∀ qd : Addr, B1 = some qd → (m.blocks.map S) ≠ [] → qd.block ≠ p1) ∧ (Ls 1 = true → Ls 5 = true → ∀ qd : Addr, A1 = some qd → (m.frames.map S) ≠ [] → qd.block ≠ p2) ∧ (Ls 1 = true → Ls 5 = true → ∀ qd : Addr, B1 = some qd → (m.blocks.map S) ≠ [] → qd.block ≠ p2) ∧ (Ls 3 = true → Ls 4 = true → ∀ qd : Addr, A2 = some qd → (n.frames.map S) ≠ [] → qd.block ≠ p1) ∧ (Ls 3 = true → Ls 4 = true → ∀ qd : Addr, B2 = some qd → (n.blocks.map S) ≠ [] → qd.block ≠ p1) ∧ (Ls 3 = true → Ls 5 = true → ∀ qd : Addr, A2 = some qd → (n.frames.map S) ≠ [] → qd.block ≠ p2) ∧ (Ls 3 = true → Ls 5 = true → ∀ qd : Addr, B2 = some qd → (n.blocks.map S) ≠ [] → qd.block ≠ p2) ∧ (Ls 4 = true → Ls 5 = true → p1 ≠ p2)
set_option maxRecDepth 100000 in
set_option maxHeartbeats 4000000 in
theorem apart_any (w : World) (ma mb : MA) (m n : Mc) (hm : McOk' m) (hn : McOk' n) (hA : MAt w w.heap.size ma m) (hB : MAt w w.heap.size mb n) (hT : STabs w) :
    Calls Tryz.prog 3 #[.agg (mcL ma m).toArray, .agg (mcL mb n).toArray] w fun e w' => e = .returned (.bool true) ∧ Below w.heap.size w w' := by
  have hs0 := (Whole.made w 30 (mcL ma m).toArray).block (.cells (mcL mb n).toArray 30)
  have hs1 := Whole.made (w.alloc (.cells (mcL ma m).toArray 30)) 30 (mcL mb n).toArray
  rw [show (w.alloc (.cells (mcL ma m).toArray 30)).heap.size = w.heap.size + 1 by simp] at hs1
  have hb : Below w.heap.size w ((w.alloc (.cells (mcL ma m).toArray 30)).alloc (.cells (mcL mb n).toArray 30)) := ((Below.refl _ _).alloc (by first | exact Nat.le_refl _ | simp | (simp; omega)) _).alloc (by first | exact Nat.le_refl _ | simp | (simp; omega)) _
  go_enter Tryz.func3, Tryz.ntmps3
  go_upto_region 1 with (fail)
  change Code.wp _ _ _ _ ((w.alloc (.cells (mcL ma m).toArray 30)).alloc (.cells (mcL mb n).toArray 30))
  generalize ((w.alloc (.cells (mcL ma m).toArray 30)).alloc (.cells (mcL mb n).toArray 30)) = w1 at *
  generalize hgx : w.heap.size = gx at *
  have HGX := Lib.hid hgx
  have HS0 := Lib.hid hs0
  have HS1 := Lib.hid hs1
  have HW := Lib.hid hb
  have hgl : gx + 1 < w1.heap.size := hs1.lt
  clear hgx hb hs0 hs1
  have HA := Lib.hid (hA.below HW.out)
  have HB := Lib.hid (hB.below HW.out)
  have HM := Lib.hid hm
  have HN := Lib.hid hn
  have HMAm : Hid (∀ W, Below w1.heap.size w1 W → MAt W W.heap.size ma m) := Lib.hid fun W hW => (HA.out.below (hW.mono (by omega))).wide (by have := hW.size; omega)
  have HMAn : Hid (∀ W, Below w1.heap.size w1 W → MAt W W.heap.size mb n) := Lib.hid fun W hW => (HB.out.below (hW.mono (by omega))).wide (by have := hW.size; omega)
  have HLM : Hid (∀ W, Below w1.heap.size w1 W → ∀ j v, (mcL ma m)[j]? = some v → W.cell? ((⟨gx, 0, none⟩ : Addr).add j) = some v) := Lib.hid fun W hW => (HS0.out.below hW (by omega)).reads
  have HLN : Hid (∀ W, Below w1.heap.size w1 W → ∀ j v, (mcL mb n)[j]? = some v → W.cell? ((⟨gx + 1, 0, none⟩ : Addr).add j) = some v) := Lib.hid fun W hW => (HS1.out.below hW hgl).reads
  have MI : Hid ((Tryz.prog.info? 30).map (·.size) = some (mcL ma m).length) := Lib.hid (by rw [mcL_length]; exact Tryz.sizeMc)
  have NI : Hid ((Tryz.prog.info? 30).map (·.size) = some (mcL mb n).length) := Lib.hid (by rw [mcL_length]; exact Tryz.sizeMc)
  have HTW : Hid (∀ W, Below w1.heap.size w1 W → STabs W) := Lib.hid fun W hW => hT.below (B := gx) (by rw [HGX.out]; exact Nat.le_refl _) (HW.out.trans (hW.mono (by omega)))
  have CL1 := Lib.hid (large_any w1 ma m (HMAm.out w1 (Below.refl _ _)))
  have LM1 := Lib.hid (HLM.out w1 (Below.refl _ _))
  clear hT hm hn hA hB
  go_wp2_with (refine wpList_load_at rfl 30 (.tmp 2) rfl ⟨gx, 0, none⟩ rfl (mcL ma m) _ LM1.out Tryz.underlying30 rfl MI.out ?_)
  refine CL1.out.mono ?_
  rintro e w3 ⟨he, hb3⟩
  have HB3 := Lib.hid hb3
  clear hb3 CL1 LM1
  rcases he with rfl | ⟨rfl, hl1⟩
  · go_wp2_with fail
    refine (awake_any w3).mono ?_
    rintro e wz ⟨rfl, hbz⟩
    have HZ := Lib.hid (HB3.out.trans (hbz.mono HB3.out.size))
    clear hbz
    go_wp2_with fail
    go_ret
    exact ⟨rfl, by rw [HGX.out]; exact HW.out.trans (HZ.out.mono (by omega))⟩
  · have HLm := Lib.hid hl1
    have HOm := Lib.hid (hl1.ok HM.out)
    have CL2 := Lib.hid (large_any w3 mb n (HMAn.out w3 HB3.out))
    have LN3 := Lib.hid (HLN.out w3 HB3.out)
    clear hl1
    go_wp2_with (refine wpList_load_g (o := ⟨some 12, _, _, _, _, _⟩) rfl 30 (.tmp 3) rfl ⟨gx + 1, 0, none⟩ rfl (mcL mb n) _ LN3.out Tryz.underlying30 rfl NI.out ?_)
    refine CL2.out.mono ?_
    rintro e w4 ⟨he, hb4⟩
    have HB4 := Lib.hid (HB3.out.trans (hb4.mono HB3.out.size))
    clear hb4 CL2 LN3
    rcases he with rfl | ⟨rfl, hl2⟩
    · go_wp2_with fail
      refine (awake_any w4).mono ?_
      rintro e wz ⟨rfl, hbz⟩
      have HZ := Lib.hid (HB4.out.trans (hbz.mono HB4.out.size))
      clear hbz
      go_wp2_with fail
      go_ret
      exact ⟨rfl, by rw [HGX.out]; exact HW.out.trans (HZ.out.mono (by omega))⟩
    · have HLn := Lib.hid hl2
      have HOn := Lib.hid (hl2.ok HN.out)
      have CC1 := Lib.hid (rcheck_any w4 ma m HOm.out (HMAm.out w4 HB4.out))
      have LM4 := Lib.hid (HLM.out w4 HB4.out)
      obtain ⟨cm, HCm⟩ : ∃ z, Hid (checkE m = z) := ⟨_, Lib.hid rfl⟩
      rw [HCm.out] at CC1
      clear hl2
      go_wp2_with (refine wpList_load_g (o := ⟨some 17, _, _, _, _, _⟩) rfl 30 (.tmp 2) rfl ⟨gx, 0, none⟩ rfl (mcL ma m) _ LM4.out Tryz.underlying30 rfl MI.out ?_)
      refine CC1.out.mono ?_
      rintro e w5 ⟨rfl, hb5⟩
      have HB5 := Lib.hid (HB4.out.trans (hb5.mono HB4.out.size))
      clear hb5 CC1 LM4
      by_cases hcm : cm = 0
      · subst hcm
        have CC2 := Lib.hid (rcheck_any w5 mb n HOn.out (HMAn.out w5 HB5.out))
        have LN5 := Lib.hid (HLN.out w5 HB5.out)
        obtain ⟨cn, HCn⟩ : ∃ z, Hid (checkE n = z) := ⟨_, Lib.hid rfl⟩
        rw [HCn.out] at CC2
        go_wp2_with (refine wpList_load_g (o := ⟨some 22, _, _, _, _, _⟩) rfl 30 (.tmp 3) rfl ⟨gx + 1, 0, none⟩ rfl (mcL mb n) _ LN5.out Tryz.underlying30 rfl NI.out ?_)
        refine CC2.out.mono ?_
        rintro e w7 ⟨rfl, hb7⟩
        have HB7 := Lib.hid (HB5.out.trans (hb7.mono HB5.out.size))
        clear hb7 CC2 LN5
        by_cases hcn : cn = 0
        · subst hcn
          go_upto_region 3 with (fail)
          have hz7 := HB7.out.size
          have HWW : Hid (∀ W, Below w7.heap.size w7 W → Below w1.heap.size w1 W) := Lib.hid fun W hW => HB7.out.trans (hW.mono hz7)
          have ROm := Lib.hid (rest_ok HCm.out (by have := HLm.out.pend; omega))
          have ROn := Lib.hid (rest_ok HCn.out (by have := HLn.out.pend; omega))
          have HSB := Lib.hid (sameB_bytes m n)
          have HSI := Lib.hid (sameB_img m n)
          have RLm := Lib.hid (rest_len HOm.out ROm.out)
          have RLn := Lib.hid (rest_len HOn.out ROn.out)
          have SMC : Hid (∀ W, Below w1.heap.size w1 W → Calls Tryz.prog 11 #[.agg (mcL ma m).toArray, .agg (mcL mb n).toArray] W fun e w' => e = .returned (.bool (sameB m n)) ∧ Below W.heap.size W w') := Lib.hid fun W hW => sameMachine_any W ma mb m n HOm.out HOn.out HCm.out HCn.out (by have := HLm.out.pend; omega) (by have := HLn.out.pend; omega) (HMAm.out W hW) (HMAn.out W hW)
          obtain ⟨rm, HRm⟩ : ∃ z, Hid (restB m = z) := ⟨_, Lib.hid rfl⟩
          obtain ⟨rn, HRn⟩ : ∃ z, Hid (restB n = z) := ⟨_, Lib.hid rfl⟩
          obtain ⟨sv, HSV⟩ : ∃ z, Hid (sameB m n = z) := ⟨_, Lib.hid rfl⟩
          rw [HRm.out, HRn.out, HSV.out] at HSB HSI
          rw [HRm.out] at RLm
          rw [HRn.out] at RLn
          rw [HSV.out] at SMC
          have CM : Hid (∀ W, Below w7.heap.size w7 W → Calls Tryz.prog 10 #[.agg (mcL ma m).toArray] W fun e w' => (∃ A c B d, e = .returned (.agg #[.slice A m.frames.length c, .slice B m.blocks.length d, S rm]) ∧ Strs w' w'.heap.size A m.frames ∧ Strs w' w'.heap.size B m.blocks ∧ (∀ ad, A = some ad → W.heap.size ≤ ad.block) ∧ (∀ ad, B = some ad → W.heap.size ≤ ad.block)) ∧ Below W.heap.size W w') := Lib.hid fun W hW => by
            have h := imageOf_any W ma m HOm.out (by have := HLm.out.pend; omega) (HMAm.out W (HWW.out W hW)) (HTW.out W (HWW.out W hW))
            rw [show imF m = m.frames by unfold imF; rw [if_pos HCm.out], show imB m = m.blocks by unfold imB; rw [if_pos HCm.out], show imR m = rm by unfold imR; rw [if_pos HCm.out, HRm.out]] at h
            exact h
          have CN : Hid (∀ W, Below w7.heap.size w7 W → Calls Tryz.prog 10 #[.agg (mcL mb n).toArray] W fun e w' => (∃ A c B d, e = .returned (.agg #[.slice A n.frames.length c, .slice B n.blocks.length d, S rn]) ∧ Strs w' w'.heap.size A n.frames ∧ Strs w' w'.heap.size B n.blocks ∧ (∀ ad, A = some ad → W.heap.size ≤ ad.block) ∧ (∀ ad, B = some ad → W.heap.size ≤ ad.block)) ∧ Below W.heap.size W w') := Lib.hid fun W hW => by
            have h := imageOf_any W mb n HOn.out (by have := HLn.out.pend; omega) (HMAn.out W (HWW.out W hW)) (HTW.out W (HWW.out W hW))
            rw [show imF n = n.frames by unfold imF; rw [if_pos HCn.out], show imB n = n.blocks by unfold imB; rw [if_pos HCn.out], show imR n = rn by unfold imR; rw [if_pos HCn.out, HRn.out]] at h
            exact h
          refine wp_region_set (by kernel_rfl) (ApG3 w7 gx ma mb m n rm rn) (downOk_spec (by kernel_rfl)) ?init3 ?step3 ?fin3
          case init3 =>
            unfold ApG3
            refine ⟨_, _, _, _, _, _, none, 0, none, 0, none, 0, none, 0, 0, 0, rfl, (Below.refl _ _).drew, Nat.le_refl _, (fun h => by cases h), (fun h => by cases h), (fun h => by cases h), (fun h => by cases h), (fun h => by cases h), (fun h => by cases h), (fun h => by cases h), (fun h => by cases h), (fun h => by cases h), (fun h => by cases h), (fun h => by cases h), (fun h => by cases h), (fun h => by cases h), (fun h => by cases h), (fun h => by cases h), (fun h => by cases h), (fun h => by cases h), (fun h => by cases h), (fun h => by cases h), (fun h => by cases h), (fun h => by cases h)⟩
          case step3 =>
            intro i o ho Ls a W hLi hed hJ
            unfold ApG3 at hJ
            obtain ⟨u27, u28, u29, u30, u5, u6, A1, kc1, B1, kd1, A2, kc2, B2, kd2, p1, p2, rfl, hB, hz, h0, h1, h2, h3, h4, z4, h5, z5, h6, k6, h7, k7, f1_4_0, f1_4_1, f1_5_0, f1_5_1, f3_4_0, f3_4_1, f3_5_0, f3_5_1, d4_5⟩ := hJ
            match i, ho with
            | 0, ho =>
              have ho' := Option.some.inj ho
              subst ho'
              refine wpOp_of ho rfl ?_
              refine oper_load_at 30 (.tmp 2) rfl ⟨gx, 0, none⟩ rfl (mcL ma m) _ (HLM.out W (HWW.out W hB)) Tryz.underlying30 rfl MI.out ?_
              unfold ApG3
              exact ⟨_, _, _, _, _, _, A1, kc1, B1, kd1, A2, kc2, B2, kd2, p1, p2, rfl, hB, hz, (fun _ => rfl), h1, h2, h3, h4, z4, h5, z5, h6, (fun h j hj => also_of (k6 h j hj)), h7, (fun h j hj => also_of (k7 h j hj)), f1_4_0, f1_4_1, f1_5_0, f1_5_1, f3_4_0, f3_4_1, f3_5_0, f3_5_1, d4_5⟩
            | 1, ho =>
              have ho' := Option.some.inj ho
              subst ho'
              refine wpOp_of ho rfl ?_
              have hn := needs_spec (l := [0]) (by kernel_rfl) hed
              obtain rfl := h0 (hn 0 (by simp))
              have l6 : Ls 6 = true → False := fun h => by have := k6 h 1 (by simp); rw [hLi] at this; cases this
              have l7 : Ls 7 = true → False := fun h => by have := k7 h 1 (by simp); rw [hLi] at this; cases this
              have hc := CM.out W hB
              clear hn
              have Hz := Lib.hid hz
              go_simp
              refine hc.mono fun e W2 he => ?_
              obtain ⟨⟨A1n, kc1n, B1n, kd1n, rfl, q0, q1, r0, r1⟩, hb2⟩ := he
              unfold ApG3
              exact ⟨_, _, _, _, _, _, A1n, kc1n, B1n, kd1n, A2, kc2, B2, kd2, p1, p2, rfl, hB.trans (hb2.mono Hz.out), Nat.le_trans Hz.out hb2.size, h0, (fun _ => ⟨rfl, q0, q1⟩), h2, (fun h => ⟨(h3 h).1, (Lies.below (h3 h).2.1 hb2).wide hb2.size, (Lies.below (h3 h).2.2 hb2).wide hb2.size⟩), (fun h => ⟨(h4 h).1, (h4 h).2.1, Nat.lt_of_lt_of_le (h4 h).2.2 hb2.size⟩), (fun h h' => (z4 h h').below hb2 (h4 h).2.2), (fun h => ⟨(h5 h).1, (h5 h).2.1, Nat.lt_of_lt_of_le (h5 h).2.2 hb2.size⟩), (fun h h' => (z5 h h').below hb2 (h5 h).2.2), (fun h => (l6 h).elim), (fun h => (l6 h).elim), (fun h => (l7 h).elim), (fun h => (l7 h).elim), (fun _ h ad e _ => by have h1 := r0 ad e; have h2 := (h4 h).2.2; omega), (fun _ h ad e _ => by have h1 := r1 ad e; have h2 := (h4 h).2.2; omega), (fun _ h ad e _ => by have h1 := r0 ad e; have h2 := (h5 h).2.2; omega), (fun _ h ad e _ => by have h1 := r1 ad e; have h2 := (h5 h).2.2; omega), f3_4_0, f3_4_1, f3_5_0, f3_5_1, d4_5⟩
            | 2, ho =>
              have ho' := Option.some.inj ho
              subst ho'
              refine wpOp_of ho rfl ?_
              refine oper_load_at 30 (.tmp 3) rfl ⟨gx + 1, 0, none⟩ rfl (mcL mb n) _ (HLN.out W (HWW.out W hB)) Tryz.underlying30 rfl NI.out ?_
              unfold ApG3
              exact ⟨_, _, _, _, _, _, A1, kc1, B1, kd1, A2, kc2, B2, kd2, p1, p2, rfl, hB, hz, h0, h1, (fun _ => rfl), h3, h4, z4, h5, z5, h6, (fun h j hj => also_of (k6 h j hj)), h7, (fun h j hj => also_of (k7 h j hj)), f1_4_0, f1_4_1, f1_5_0, f1_5_1, f3_4_0, f3_4_1, f3_5_0, f3_5_1, d4_5⟩
            | 3, ho =>
              have ho' := Option.some.inj ho
              subst ho'
              refine wpOp_of ho rfl ?_
              have hn := needs_spec (l := [2]) (by kernel_rfl) hed
              obtain rfl := h2 (hn 2 (by simp))
              have l6 : Ls 6 = true → False := fun h => by have := k6 h 3 (by simp); rw [hLi] at this; cases this
              have l7 : Ls 7 = true → False := fun h => by have := k7 h 3 (by simp); rw [hLi] at this; cases this
              have hc := CN.out W hB
              clear hn
              have Hz := Lib.hid hz
              go_simp
              refine hc.mono fun e W2 he => ?_
              obtain ⟨⟨A2n, kc2n, B2n, kd2n, rfl, q0, q1, r0, r1⟩, hb2⟩ := he
              unfold ApG3
              exact ⟨_, _, _, _, _, _, A1, kc1, B1, kd1, A2n, kc2n, B2n, kd2n, p1, p2, rfl, hB.trans (hb2.mono Hz.out), Nat.le_trans Hz.out hb2.size, h0, (fun h => ⟨(h1 h).1, (Lies.below (h1 h).2.1 hb2).wide hb2.size, (Lies.below (h1 h).2.2 hb2).wide hb2.size⟩), h2, (fun _ => ⟨rfl, q0, q1⟩), (fun h => ⟨(h4 h).1, (h4 h).2.1, Nat.lt_of_lt_of_le (h4 h).2.2 hb2.size⟩), (fun h h' => (z4 h h').below hb2 (h4 h).2.2), (fun h => ⟨(h5 h).1, (h5 h).2.1, Nat.lt_of_lt_of_le (h5 h).2.2 hb2.size⟩), (fun h h' => (z5 h h').below hb2 (h5 h).2.2), (fun h => (l6 h).elim), (fun h => (l6 h).elim), (fun h => (l7 h).elim), (fun h => (l7 h).elim), f1_4_0, f1_4_1, f1_5_0, f1_5_1, (fun _ h ad e _ => by have h1 := r0 ad e; have h2 := (h4 h).2.2; omega), (fun _ h ad e _ => by have h1 := r1 ad e; have h2 := (h4 h).2.2; omega), (fun _ h ad e _ => by have h1 := r0 ad e; have h2 := (h5 h).2.2; omega), (fun _ h ad e _ => by have h1 := r1 ad e; have h2 := (h5 h).2.2; omega), d4_5⟩
            | 4, ho =>
              have ho' := Option.some.inj ho
              subst ho'
              refine wpOp_of ho rfl ?_
              have l6 : Ls 6 = true → False := fun h => by have := k6 h 4 (by simp); rw [hLi] at this; cases this
              have l7 : Ls 7 = true → False := fun h => by have := k7 h 4 (by simp); rw [hLi] at this; cases this
              have Hz := Lib.hid hz
              go_simp
              unfold ApG3
              exact ⟨_, _, _, _, _, _, A1, kc1, B1, kd1, A2, kc2, B2, kd2, W.heap.size, p2, rfl, hB.alloc Hz.out _, by have := Hz.out; simp; omega, h0, (fun h => ⟨(h1 h).1, Lies.block' (h1 h).2.1 _, Lies.block' (h1 h).2.2 _⟩), h2, (fun h => ⟨(h3 h).1, Lies.block' (h3 h).2.1 _, Lies.block' (h3 h).2.2 _⟩), (fun _ => ⟨rfl, Hz.out, by simp⟩), (fun _ _ => Whole.made W _ _), (fun h => ⟨(h5 h).1, (h5 h).2.1, by have := (h5 h).2.2; simp; omega⟩), (fun h h' => (z5 h h').block _), (fun h => (l6 h).elim), (fun h => (l6 h).elim), (fun h => (l7 h).elim), (fun h => (l7 h).elim), (fun h _ ad e hne => by have := lies_lt (h1 h).2.1 e hne; omega), (fun h _ ad e hne => by have := lies_lt (h1 h).2.2 e hne; omega), f1_5_0, f1_5_1, (fun h _ ad e hne => by have := lies_lt (h3 h).2.1 e hne; omega), (fun h _ ad e hne => by have := lies_lt (h3 h).2.2 e hne; omega), f3_5_0, f3_5_1, (fun _ h => by have := (h5 h).2.2; omega)⟩
            | 5, ho =>
              have ho' := Option.some.inj ho
              subst ho'
              refine wpOp_of ho rfl ?_
              have l6 : Ls 6 = true → False := fun h => by have := k6 h 5 (by simp); rw [hLi] at this; cases this
              have l7 : Ls 7 = true → False := fun h => by have := k7 h 5 (by simp); rw [hLi] at this; cases this
              have Hz := Lib.hid hz
              go_simp
              unfold ApG3
              exact ⟨_, _, _, _, _, _, A1, kc1, B1, kd1, A2, kc2, B2, kd2, p1, W.heap.size, rfl, hB.alloc Hz.out _, by have := Hz.out; simp; omega, h0, (fun h => ⟨(h1 h).1, Lies.block' (h1 h).2.1 _, Lies.block' (h1 h).2.2 _⟩), h2, (fun h => ⟨(h3 h).1, Lies.block' (h3 h).2.1 _, Lies.block' (h3 h).2.2 _⟩), (fun h => ⟨(h4 h).1, (h4 h).2.1, by have := (h4 h).2.2; simp; omega⟩), (fun h h' => (z4 h h').block _), (fun _ => ⟨rfl, Hz.out, by simp⟩), (fun _ _ => Whole.made W _ _), (fun h => (l6 h).elim), (fun h => (l6 h).elim), (fun h => (l7 h).elim), (fun h => (l7 h).elim), f1_4_0, f1_4_1, (fun h _ ad e hne => by have := lies_lt (h1 h).2.1 e hne; omega), (fun h _ ad e hne => by have := lies_lt (h1 h).2.2 e hne; omega), f3_4_0, f3_4_1, (fun h _ ad e hne => by have := lies_lt (h3 h).2.1 e hne; omega), (fun h _ ad e hne => by have := lies_lt (h3 h).2.2 e hne; omega), (fun h _ => by have := (h4 h).2.2; omega)⟩
            | 6, ho =>
              have ho' := Option.some.inj ho
              subst ho'
              refine wpOp_of ho rfl ?_
              have hn := needs_spec (l := [1, 3, 4, 5]) (by kernel_rfl) hed
              have HN := Lib.hid hn
              obtain ⟨rfl, hp, hpl⟩ := h4 (hn 4 (by simp))
              obtain ⟨rfl, _, _⟩ := h1 (hn 1 (by simp))
              clear hn
              have Hz := Lib.hid hz
              have hw0 := z4 (HN.out 4 (by simp)) hLi
              have c0 : W.cell? ⟨p1, 0, none⟩ = some (Value.slice none 0 0) := hw0.cell 0
              have y0 := hw0.free 0
              have c1 : W.cell? ⟨p1, 1, none⟩ = some (Value.slice none 0 0) := hw0.cell 1
              have y1 := hw0.free 1
              have c2 : W.cell? ⟨p1, 2, none⟩ = some (S []) := hw0.cell 2
              have y2 := hw0.free 2
              go_simp
              unfold ApG3
              exact ⟨_, _, _, _, _, _, A1, kc1, B1, kd1, A2, kc2, B2, kd2, p1, p2, rfl, (((hB.setCell (p := ⟨p1, 0, none⟩) hp _).setCell (p := ⟨p1, 1, none⟩) hp _).setCell (p := ⟨p1, 2, none⟩) hp _), by simpa [World.setCell] using Hz.out, h0, (fun h => ⟨rfl, lies_setn3 (h1 h).2.1 (f1_4_0 h (HN.out 4 (by simp))), lies_setn3 (h1 h).2.2 (f1_4_1 h (HN.out 4 (by simp)))⟩), h2, (fun h => ⟨(h3 h).1, lies_setn3 (h3 h).2.1 (f3_4_0 h (HN.out 4 (by simp))), lies_setn3 (h3 h).2.2 (f3_4_1 h (HN.out 4 (by simp)))⟩), (fun _ => ⟨rfl, hp, by simpa [World.setCell] using hpl⟩), (fun _ h' => by have h'' : (true : Bool) = false := h'; cases h''), (fun h => ⟨(h5 h).1, (h5 h).2.1, by simpa [World.setCell] using (h5 h).2.2⟩), (fun h h' => whole_far3 (z5 h h') (fun e => d4_5 (HN.out 4 (by simp)) h e.symm)), (fun _ => (((hw0.set 0 _).set 1 _).set 2 _)), (fun _ j hj => also_of (HN.out j hj)), (fun h => whole_far3 (h7 h) (fun e => d4_5 (HN.out 4 (by simp)) (HN.out 5 (by simp)) e.symm)), (fun h j hj => also_of (k7 h j hj)), f1_4_0, f1_4_1, f1_5_0, f1_5_1, f3_4_0, f3_4_1, f3_5_0, f3_5_1, d4_5⟩
            | 7, ho =>
              have ho' := Option.some.inj ho
              subst ho'
              refine wpOp_of ho rfl ?_
              have hn := needs_spec (l := [1, 3, 4, 5]) (by kernel_rfl) hed
              have HN := Lib.hid hn
              obtain ⟨rfl, hp, hpl⟩ := h5 (hn 5 (by simp))
              obtain ⟨rfl, _, _⟩ := h3 (hn 3 (by simp))
              clear hn
              have Hz := Lib.hid hz
              have hw0 := z5 (HN.out 5 (by simp)) hLi
              have c0 : W.cell? ⟨p2, 0, none⟩ = some (Value.slice none 0 0) := hw0.cell 0
              have y0 := hw0.free 0
              have c1 : W.cell? ⟨p2, 1, none⟩ = some (Value.slice none 0 0) := hw0.cell 1
              have y1 := hw0.free 1
              have c2 : W.cell? ⟨p2, 2, none⟩ = some (S []) := hw0.cell 2
              have y2 := hw0.free 2
              go_simp
              unfold ApG3
              exact ⟨_, _, _, _, _, _, A1, kc1, B1, kd1, A2, kc2, B2, kd2, p1, p2, rfl, (((hB.setCell (p := ⟨p2, 0, none⟩) hp _).setCell (p := ⟨p2, 1, none⟩) hp _).setCell (p := ⟨p2, 2, none⟩) hp _), by simpa [World.setCell] using Hz.out, h0, (fun h => ⟨(h1 h).1, lies_setn3 (h1 h).2.1 (f1_5_0 h (HN.out 5 (by simp))), lies_setn3 (h1 h).2.2 (f1_5_1 h (HN.out 5 (by simp)))⟩), h2, (fun h => ⟨rfl, lies_setn3 (h3 h).2.1 (f3_5_0 h (HN.out 5 (by simp))), lies_setn3 (h3 h).2.2 (f3_5_1 h (HN.out 5 (by simp)))⟩), (fun h => ⟨(h4 h).1, (h4 h).2.1, by simpa [World.setCell] using (h4 h).2.2⟩), (fun h h' => whole_far3 (z4 h h') (fun e => d4_5 h (HN.out 5 (by simp)) e)), (fun _ => ⟨rfl, hp, by simpa [World.setCell] using hpl⟩), (fun _ h' => by have h'' : (true : Bool) = false := h'; cases h''), (fun h => whole_far3 (h6 h) (fun e => d4_5 (HN.out 4 (by simp)) (HN.out 5 (by simp)) e)), (fun h j hj => also_of (k6 h j hj)), (fun _ => (((hw0.set 0 _).set 1 _).set 2 _)), (fun _ j hj => also_of (HN.out j hj)), f1_4_0, f1_4_1, f1_5_0, f1_5_1, f3_4_0, f3_4_1, f3_5_0, f3_5_1, d4_5⟩
            | n + 8, ho => simp at ho
          case fin3 =>
            intro Ls a w8 hL hJ
            unfold ApG3 at hJ
            obtain ⟨u27, u28, u29, u30, u5, u6, A1, kc1, B1, kd1, A2, kc2, B2, kd2, p1, p2, rfl, hB, hz, h0, h1, h2, h3, h4, z4, h5, z5, h6, k6, h7, k7, f1_4_0, f1_4_1, f1_5_0, f1_5_1, f3_4_0, f3_4_1, f3_5_0, f3_5_1, d4_5⟩ := hJ
            have hn : ∀ j, j < 8 → Ls j = true := fun j hj => hL j hj
            obtain rfl := h0 (hn 0 (by omega))
            obtain ⟨rfl, l1_0, l1_1⟩ := h1 (hn 1 (by omega))
            obtain rfl := h2 (hn 2 (by omega))
            obtain ⟨rfl, l3_0, l3_1⟩ := h3 (hn 3 (by omega))
            obtain ⟨rfl, g4, gl4⟩ := h4 (hn 4 (by omega))
            obtain ⟨rfl, g5, gl5⟩ := h5 (hn 5 (by omega))
            have b6 := h6 (hn 6 (by omega))
            have b7 := h7 (hn 7 (by omega))
            clear h0 h1 h2 h3 h4 z4 h5 z5 h6 k6 h7 k7 f1_4_0 f1_4_1 f1_5_0 f1_5_1 f3_4_0 f3_4_1 f3_5_0 f3_5_1 d4_5 hn hL
            have HB8 := Lib.hid (HWW.out w8 hB)
            have HP1' := Lib.hid b6
            have HP2' := Lib.hid b7
            have K1 : Hid (∀ W, Below w8.heap.size w8 W → Strs W W.heap.size A1 m.frames ∧ Strs W W.heap.size B1 m.blocks ∧ Strs W W.heap.size A2 n.frames ∧ Strs W W.heap.size B2 n.blocks) := Lib.hid fun W hW => ⟨(Lies.below l1_0 hW).wide hW.size, (Lies.below l1_1 hW).wide hW.size, (Lies.below l3_0 hW).wide hW.size, (Lies.below l3_1 hW).wide hW.size⟩
            have CSM := Lib.hid (SMC.out w8 HB8.out)
            have LM8 := Lib.hid (HLM.out w8 HB8.out)
            have LN8 := Lib.hid (HLN.out w8 HB8.out)
            have hp1 := HP1'.out.lt
            have hp2 := HP2'.out.lt
            clear hB b6 b7 l1_0 l1_1 l3_0 l3_1
            go_wp2_with (first
              | (refine wpList_load_at (o := ⟨some 31, _, _, _, _, _⟩) rfl 30 (.tmp 2) rfl ⟨gx, 0, none⟩ rfl (mcL ma m) _ LM8.out Tryz.underlying30 rfl MI.out ?_)
              | (refine wpList_load_at (o := ⟨some 32, _, _, _, _, _⟩) rfl 30 (.tmp 3) rfl ⟨gx + 1, 0, none⟩ rfl (mcL mb n) _ LN8.out Tryz.underlying30 rfl NI.out ?_))
            refine CSM.out.mono ?_
            rintro e w9 ⟨rfl, hb9⟩
            have HW9 := Lib.hid (HB8.out.trans (hb9.mono HB8.out.size))
            have HP1 := Lib.hid (HP1'.out.below hb9 hp1)
            have HP2 := Lib.hid (HP2'.out.below hb9 hp2)
            have hz8 : w8.heap.size ≤ w9.heap.size := hb9.size
            have K9 : Hid (∀ W, Below w9.heap.size w9 W → Strs W W.heap.size A1 m.frames ∧ Strs W W.heap.size B1 m.blocks ∧ Strs W W.heap.size A2 n.frames ∧ Strs W W.heap.size B2 n.blocks) := Lib.hid fun W hW => K1.out W (hb9.trans (hW.mono hz8))
            clear hb9 CSM LM8 LN8
            have HSm := Lib.hid (size_small HLm.out.small)
            have HSn := Lib.hid (size_small HLn.out.small)
            have CS : Hid (∀ W, Below w9.heap.size w9 W → Calls Tryz.prog 12 #[.agg #[.slice A1 m.frames.length kc1, .slice B1 m.blocks.length kd1, S rm], .agg #[.slice A2 n.frames.length kc2, .slice B2 n.blocks.length kd2, S rn]] W fun e w' => e = .returned (.bool sv) ∧ Below W.heap.size W w') := Lib.hid fun W hS => by
              obtain ⟨k1, k2, k3, k4⟩ := K9.out W hS
              obtain ⟨l1, l2, _⟩ := HLm.out.small
              obtain ⟨l3, l4, _⟩ := HLn.out.small
              have h := same32_any W A1 B1 A2 B2 kc1 kd1 kc2 kd2 m.frames m.blocks n.frames n.blocks rm rn k1 k2 k3 k4 (by omega) (by omega) (by omega) (by omega)
              rw [HSI.out] at h
              exact h
            have CB1 : Hid (∀ W, Below w9.heap.size w9 W → Calls Tryz.prog 13 #[.agg #[.slice A1 m.frames.length kc1, .slice B1 m.blocks.length kd1, S rm]] W fun e w' => e = .returned (S (imgB m.frames m.blocks rm)) ∧ Below W.heap.size W w') := Lib.hid fun W hS => imgBytes_any W A1 B1 kc1 kd1 m.frames m.blocks rm (K9.out W hS).1 (K9.out W hS).2.1 (by have := HSm.out; have := RLm.out; omega)
            have CB2 : Hid (∀ W, Below w9.heap.size w9 W → Calls Tryz.prog 13 #[.agg #[.slice A2 n.frames.length kc2, .slice B2 n.blocks.length kd2, S rn]] W fun e w' => e = .returned (S (imgB n.frames n.blocks rn)) ∧ Below W.heap.size W w') := Lib.hid fun W hS => imgBytes_any W A2 B2 kc2 kd2 n.frames n.blocks rn (K9.out W hS).2.2.1 (K9.out W hS).2.2.2 (by have := HSn.out; have := RLn.out; omega)
            have CAW := Lib.hid (fun W => awake_any W)
            obtain ⟨bm, HBM⟩ : ∃ z, Hid (imgB m.frames m.blocks rm = z) := ⟨_, Lib.hid rfl⟩
            obtain ⟨bn, HBN⟩ : ∃ z, Hid (imgB n.frames n.blocks rn = z) := ⟨_, Lib.hid rfl⟩
            rw [HBM.out] at CB1
            rw [HBN.out] at CB2
            rw [HBM.out, HBN.out] at HSB
            have hbe : (bm == bn) = sv := HSB.out
            clear HSI HSB
            go_upto_region 5 with (fail)
            refine' wp_region_sure (by kernel_rfl) (fun W => Below w9.heap.size w9 W) 17 [_, _, _, _, _, _, _, _, _, _, _, _, _, _, _, _, _] [some 34, some 35, some 36, some 37, some 38, some 39, some 40, some 41, some 42, some 43, some 44, some 45, some 46, some 47, some 48, some 49, some 50] (by kernel_rfl) (by kernel_rfl) (by kernel_rfl) (by kernel_rfl) rfl (Below.refl _ _).drew ?hs5
            case hs5 =>
              refine sure_cons ?_ ?_
              · intro L ac W K hed hJ hS hK
                have hA5 : ac.eval (.tmp 5) = .pointer (some ⟨p1, 0, none⟩) := hJ.eval_old 5 (by kernel_rfl)
                clear hed hJ
                refine opStep_of rfl ?_
                have x0 : W.cell? ⟨p1, 0, none⟩ = some (.slice A1 m.frames.length kc1) := (HP1.out.below hS HP1.out.lt).cell 0
                have x1 : W.cell? ⟨p1, 1, none⟩ = some (.slice B1 m.blocks.length kd1) := (HP1.out.below hS HP1.out.lt).cell 1
                have x2 : W.cell? ⟨p1, 2, none⟩ = some (S rm) := (HP1.out.below hS HP1.out.lt).cell 2
                unfold Oper.wp execOp
                have hN5 := evalN hA5
                go_simp
                exact hK _ hS
              refine sure_cons ?_ ?_
              · intro L ac W K hed hJ hS hK
                have hA6 : ac.eval (.tmp 6) = .pointer (some ⟨p2, 0, none⟩) := hJ.eval_old 6 (by kernel_rfl)
                clear hed hJ
                refine opStep_of rfl ?_
                have x0 : W.cell? ⟨p2, 0, none⟩ = some (.slice A2 n.frames.length kc2) := (HP2.out.below hS HP2.out.lt).cell 0
                have x1 : W.cell? ⟨p2, 1, none⟩ = some (.slice B2 n.blocks.length kd2) := (HP2.out.below hS HP2.out.lt).cell 1
                have x2 : W.cell? ⟨p2, 2, none⟩ = some (S rn) := (HP2.out.below hS HP2.out.lt).cell 2
                unfold Oper.wp execOp
                have hN6 := evalN hA6
                go_simp
                exact hK _ hS
              refine sure_cons ?_ ?_
              · intro L ac W K hed hJ hS hK
                have hn := needs_spec (l := [0, 1]) (by kernel_rfl) hed
                have hA34 := hJ.eval 0 (d := 34) (hn 0 (by simp)) rfl rfl rfl
                have hA35 := hJ.eval 1 (d := 35) (hn 1 (by simp)) rfl rfl rfl
                clear hed hJ hn
                refine opStep_of rfl ?_
                unfold Oper.wp execOp
                have hN34 := evalN hA34
                have hN35 := evalN hA35
                go_simp
                refine (CS.out W hS).mono ?_
                rintro e W' ⟨rfl, hb⟩
                have hS2 := hS.trans (hb.mono hS.size)
                dsimp only
                exact hK W' hS2
              refine sure_cons ?_ ?_
              · intro L ac W K hed hJ hS hK
                have hA7 : ac.eval (.tmp 7) = .bool sv := hJ.eval_old 7 (by kernel_rfl)
                clear hed hJ
                refine opStep_of rfl ?_
                unfold Oper.wp execOp
                have hN7 := evalN hA7
                go_simp
                exact hK _ hS
              refine sure_cons ?_ ?_
              · intro L ac W K hed hJ hS hK
                have hn := needs_spec (l := [2, 3]) (by kernel_rfl) hed
                have hA36 := hJ.eval 2 (d := 36) (hn 2 (by simp)) rfl rfl rfl
                have hA37 := hJ.eval 3 (d := 37) (hn 3 (by simp)) rfl rfl rfl
                clear hed hJ hn
                refine opStep_of rfl ?_
                unfold Oper.wp execOp
                have hN36 := evalN hA36
                have hN37 := evalN hA37
                go_simp
                exact hK _ hS
              refine sure_cons ?_ ?_
              · intro L ac W K hed hJ hS hK
                have hn := needs_spec (l := [4]) (by kernel_rfl) hed
                have hA38 := hJ.eval 4 (d := 38) (hn 4 (by simp)) rfl rfl rfl
                clear hed hJ hn
                refine opStep_of rfl ?_
                unfold Oper.wp execOp
                have hN38 := evalN hA38
                go_simp
                exact hK _ hS
              refine sure_cons ?_ ?_
              · intro L ac W K hed hJ hS hK
                have hn := needs_spec (l := [5]) (by kernel_rfl) hed
                have hA5 : ac.eval (.tmp 5) = .pointer (some ⟨p1, 0, none⟩) := hJ.eval_old 5 (by kernel_rfl)
                have hA39 := hJ.eval 5 (d := 39) (hn 5 (by simp)) rfl rfl rfl
                have hsz := Lib.hid hJ.size
                clear hed hJ hn
                refine opStep_yes rfl (d := 39) rfl (by rw [hsz.out]; rfl) hA39 ?_
                clear hsz
                have x0 : W.cell? ⟨p1, 0, none⟩ = some (.slice A1 m.frames.length kc1) := (HP1.out.below hS HP1.out.lt).cell 0
                have x1 : W.cell? ⟨p1, 1, none⟩ = some (.slice B1 m.blocks.length kd1) := (HP1.out.below hS HP1.out.lt).cell 1
                have x2 : W.cell? ⟨p1, 2, none⟩ = some (S rm) := (HP1.out.below hS HP1.out.lt).cell 2
                unfold Oper.wp execOp
                have hN5 := evalN hA5
                go_simp
                exact hK _ hS
              refine sure_cons ?_ ?_
              · intro L ac W K hed hJ hS hK
                have hn := needs_spec (l := [5, 6]) (by kernel_rfl) hed
                have hA40 := hJ.eval 6 (d := 40) (hn 6 (by simp)) rfl rfl rfl
                have hA39 := hJ.eval 5 (d := 39) (hn 5 (by simp)) rfl rfl rfl
                have hsz := Lib.hid hJ.size
                clear hed hJ hn
                refine opStep_yes rfl (d := 39) rfl (by rw [hsz.out]; rfl) hA39 ?_
                clear hsz
                unfold Oper.wp execOp
                have hN40 := evalN hA40
                go_simp
                refine (CB1.out W hS).mono ?_
                rintro e W' ⟨rfl, hb⟩
                have hS2 := hS.trans (hb.mono hS.size)
                dsimp only
                exact hK W' hS2
              refine sure_cons ?_ ?_
              · intro L ac W K hed hJ hS hK
                have hn := needs_spec (l := [5]) (by kernel_rfl) hed
                have hA6 : ac.eval (.tmp 6) = .pointer (some ⟨p2, 0, none⟩) := hJ.eval_old 6 (by kernel_rfl)
                have hA39 := hJ.eval 5 (d := 39) (hn 5 (by simp)) rfl rfl rfl
                have hsz := Lib.hid hJ.size
                clear hed hJ hn
                refine opStep_yes rfl (d := 39) rfl (by rw [hsz.out]; rfl) hA39 ?_
                clear hsz
                have x0 : W.cell? ⟨p2, 0, none⟩ = some (.slice A2 n.frames.length kc2) := (HP2.out.below hS HP2.out.lt).cell 0
                have x1 : W.cell? ⟨p2, 1, none⟩ = some (.slice B2 n.blocks.length kd2) := (HP2.out.below hS HP2.out.lt).cell 1
                have x2 : W.cell? ⟨p2, 2, none⟩ = some (S rn) := (HP2.out.below hS HP2.out.lt).cell 2
                unfold Oper.wp execOp
                have hN6 := evalN hA6
                go_simp
                exact hK _ hS
              refine sure_cons ?_ ?_
              · intro L ac W K hed hJ hS hK
                have hn := needs_spec (l := [5, 8]) (by kernel_rfl) hed
                have hA42 := hJ.eval 8 (d := 42) (hn 8 (by simp)) rfl rfl rfl
                have hA39 := hJ.eval 5 (d := 39) (hn 5 (by simp)) rfl rfl rfl
                have hsz := Lib.hid hJ.size
                clear hed hJ hn
                refine opStep_yes rfl (d := 39) rfl (by rw [hsz.out]; rfl) hA39 ?_
                clear hsz
                unfold Oper.wp execOp
                have hN42 := evalN hA42
                go_simp
                refine (CB2.out W hS).mono ?_
                rintro e W' ⟨rfl, hb⟩
                have hS2 := hS.trans (hb.mono hS.size)
                dsimp only
                exact hK W' hS2
              refine sure_cons ?_ ?_
              · intro L ac W K hed hJ hS hK
                have hn := needs_spec (l := [5, 7, 9]) (by kernel_rfl) hed
                have hA41 := hJ.eval 7 (d := 41) (hn 7 (by simp)) rfl rfl rfl
                have hA43 := hJ.eval 9 (d := 43) (hn 9 (by simp)) rfl rfl rfl
                have hA39 := hJ.eval 5 (d := 39) (hn 5 (by simp)) rfl rfl rfl
                have hsz := Lib.hid hJ.size
                clear hed hJ hn
                refine opStep_yes rfl (d := 39) rfl (by rw [hsz.out]; rfl) hA39 ?_
                clear hsz
                unfold Oper.wp execOp
                have hN41 := evalN hA41
                have hN43 := evalN hA43
                go_simp
                exact hK _ hS
              refine sure_cons ?_ ?_
              · intro L ac W K hed hJ hS hK
                have hn := needs_spec (l := [5]) (by kernel_rfl) hed
                have hA7 : ac.eval (.tmp 7) = .bool sv := hJ.eval_old 7 (by kernel_rfl)
                have hA39 := hJ.eval 5 (d := 39) (hn 5 (by simp)) rfl rfl rfl
                have hsz := Lib.hid hJ.size
                clear hed hJ hn
                refine opStep_yes rfl (d := 39) rfl (by rw [hsz.out]; rfl) hA39 ?_
                clear hsz
                unfold Oper.wp execOp
                have hN7 := evalN hA7
                go_simp
                exact hK _ hS
              refine sure_cons ?_ ?_
              · intro L ac W K hed hJ hS hK
                have hn := needs_spec (l := [5, 10, 11]) (by kernel_rfl) hed
                have hA44 := hJ.eval 10 (d := 44) (hn 10 (by simp)) rfl rfl rfl
                have hA45 := hJ.eval 11 (d := 45) (hn 11 (by simp)) rfl rfl rfl
                have hA39 := hJ.eval 5 (d := 39) (hn 5 (by simp)) rfl rfl rfl
                have hsz := Lib.hid hJ.size
                clear hed hJ hn
                refine opStep_yes rfl (d := 39) rfl (by rw [hsz.out]; rfl) hA39 ?_
                clear hsz
                unfold Oper.wp execOp
                have hN44 := evalN hA44
                have hN45 := evalN hA45
                go_simp
                exact hK _ hS
              refine sure_cons ?_ ?_
              · intro L ac W K hed hJ hS hK
                have hn := needs_spec (l := [5, 12]) (by kernel_rfl) hed
                have hA39 := hJ.eval 5 (d := 39) (hn 5 (by simp)) rfl rfl rfl
                have hA46 := hJ.eval 12 (d := 46) (hn 12 (by simp)) rfl rfl rfl
                clear hed hJ hn
                refine opStep_of rfl ?_
                unfold Oper.wp execOp
                have hN39 := evalN hA39
                have hN46 := evalN hA46
                go_simp
                exact hK _ hS
              refine sure_cons ?_ ?_
              · intro L ac W K hed hJ hS hK
                have hn := needs_spec (l := [13]) (by kernel_rfl) hed
                have hA47 := hJ.eval 13 (d := 47) (hn 13 (by simp)) rfl rfl rfl
                clear hed hJ hn
                refine opStep_of rfl ?_
                unfold Oper.wp execOp
                have hN47 := evalN hA47
                go_simp
                exact hK _ hS
              refine sure_cons ?_ ?_
              · intro L ac W K hed hJ hS hK
                have hn := needs_spec (l := [14]) (by kernel_rfl) hed
                have hA48 := hJ.eval 14 (d := 48) (hn 14 (by simp)) rfl rfl rfl
                have hsz := Lib.hid hJ.size
                clear hed hJ hn
                refine opStep_yes rfl (d := 48) rfl (by rw [hsz.out]; rfl) hA48 ?_
                clear hsz
                unfold Oper.wp execOp
                go_simp
                refine (CAW.out W).mono ?_
                rintro e W' ⟨rfl, hb⟩
                have hS2 := hS.trans (hb.mono hS.size)
                dsimp only
                exact hK W' hS2
              refine sure_cons ?_ ?_
              · intro L ac W K hed hJ hS hK
                have hn := needs_spec (l := [14, 15]) (by kernel_rfl) hed
                have hA48 := hJ.eval 14 (d := 48) (hn 14 (by simp)) rfl rfl rfl
                have hA49 := hJ.eval 15 (d := 49) (hn 15 (by simp)) rfl rfl rfl
                clear hed hJ hn
                refine opStep_of rfl ?_
                unfold Oper.wp execOp
                have hN48 := evalN hA48
                have hN49 := evalN hA49
                go_simp
                exact hK _ hS
              refine sure_nil ?_
              intro W hS
              simp only [putAll, Act.put, List.setIfInBounds_toArray, List.set_cons_zero, List.set_cons_succ]
              have HV := Lib.hid (HW9.out.trans (hS.mono HW9.out.size))
              clear hS
              go_wp2_with fail
              go_ret
              exact ⟨rfl, by rw [HGX.out]; exact HW.out.trans (HV.out.mono (by omega))⟩
        · go_wp2_with fail
          refine (awake_any w7).mono ?_
          rintro e wz ⟨rfl, hbz⟩
          have HZ := Lib.hid (HB7.out.trans (hbz.mono HB7.out.size))
          clear hbz
          go_wp2_with fail
          go_ret
          exact ⟨rfl, by rw [HGX.out]; exact HW.out.trans (HZ.out.mono (by omega))⟩
      · go_wp2_with fail
        refine (awake_any w5).mono ?_
        rintro e wz ⟨rfl, hbz⟩
        have HZ := Lib.hid (HB5.out.trans (hbz.mono HB5.out.size))
        clear hbz
        go_wp2_with fail
        go_ret
        exact ⟨rfl, by rw [HGX.out]; exact HW.out.trans (HZ.out.mono (by omega))⟩
end Go.Proofs.YtmmfcjkabpffeaaGreatDoor
