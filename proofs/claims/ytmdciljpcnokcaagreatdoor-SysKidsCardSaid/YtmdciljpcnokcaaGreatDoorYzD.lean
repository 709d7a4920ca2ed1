/-
  Walks: drive.has, Check, hibernacleref15.Check, wal.journaled, hibernacleref16.bad. (Printed by gen_chkc.py.)
-/
import Derived.Test.YtmdciljpcnokcaaGreatDoorYcB
namespace Go.Proofs.YtmdciljpcnokcaaGreatDoor
open Go.RowKit

theorem all_128 {bl : List (List UInt8)} : bl.all is128 = true → ∀ b ∈ bl, b.length = 128 := fun h b hb => by
  have := List.all_eq_true.1 h b hb
  simpa [is128] using this
set_option maxRecDepth 100000 in
set_option maxHeartbeats 1000000 in
theorem has_any (w : World) (L N : Option Addr) (k cL n cN : Nat) (lf i : Int) :
    Calls Tryz.prog 294 #[.agg (dvL L n cL N k cN lf).toArray, .int .i64 i] w fun e w' => e = .returned (.bool (decide (0 ≤ i ∧ i < (n : Int)))) ∧ Below w.heap.size w w' := by
  have hs0 := Whole.made w 29 (dvL L n cL N k cN lf).toArray
  have hb : Below w.heap.size w (w.alloc (.cells (dvL L n cL N k cN lf).toArray 29)) := (Below.refl _ _).alloc (Nat.le_refl _) _
  go_enter Tryz.func294, Tryz.ntmps294
  go_upto_region 1 with (fail)
  change Code.wp _ _ _ _ (w.alloc (.cells (dvL L n cL N k cN lf).toArray 29))
  generalize (w.alloc (.cells (dvL L n cL N k cN lf).toArray 29)) = w1 at *
  generalize hgx : w.heap.size = gx at *
  have HGX := Lib.hid hgx
  have HS0 := Lib.hid hs0
  have HW := Lib.hid hb
  have hgl : gx < w1.heap.size := hs0.lt
  clear hgx hb hs0
  have c0 : w1.cell? ⟨gx, 0, none⟩ = some (.slice L n cL) := HS0.out.cell 0
  by_cases h1 : 0 ≤ i
  · by_cases h2 : i < (n : Int)
    · have HE : Hid (true = decide (0 ≤ i ∧ i < (n : Int))) := Lib.hid (by simp [h1, h2])
      have d1 : decide (0 ≤ i) = true := decide_eq_true h1
      have d2 : decide (i < (n : Int)) = true := decide_eq_true h2
      clear h1 h2
      go_wp2_with fail
      go_ret
      exact ⟨ret_bool HE.out, by rw [HGX.out]; exact HW.out⟩
    · have HE : Hid (false = decide (0 ≤ i ∧ i < (n : Int))) := Lib.hid (by simp [h2])
      have d1 : decide (0 ≤ i) = true := decide_eq_true h1
      have d2 : decide (i < (n : Int)) = false := decide_eq_false h2
      clear h1 h2
      go_wp2_with fail
      go_ret
      exact ⟨ret_bool HE.out, by rw [HGX.out]; exact HW.out⟩
  · have HE : Hid (false = decide (0 ≤ i ∧ i < (n : Int))) := Lib.hid (by simp [h1])
    have d1 : decide (0 ≤ i) = false := decide_eq_false h1
    clear h1
    go_wp2_with fail
    go_ret
    exact ⟨ret_bool HE.out, by rw [HGX.out]; exact HW.out⟩
set_option maxRecDepth 100000 in
set_option maxHeartbeats 2000000 in
theorem drive_any (w : World) (L N : Option Addr) (cL cN : Nat) (bl : List (List UInt8)) (pd : List Nb) (lf : Int) (hL : Strs w w.heap.size L bl) (hN : Lies w w.heap.size N (nbCells pd)) (hb1 : bl.length ≤ 274877906944) (hb2 : pd.length ≤ 274877906944) :
    Calls Tryz.prog 268 #[.agg (dvL L bl.length cL N pd.length cN lf).toArray] w fun e w' => e = .returned (.int .i64 (driveE bl pd)) ∧ Below w.heap.size w w' := by
  have hs0 := Whole.made w 29 (dvL L bl.length cL N pd.length cN lf).toArray
  have hb : Below w.heap.size w (w.alloc (.cells (dvL L bl.length cL N pd.length cN lf).toArray 29)) := (Below.refl _ _).alloc (Nat.le_refl _) _
  go_enter Tryz.func268, Tryz.ntmps268
  go_upto_region 1 with (fail)
  change Code.wp _ _ _ _ (w.alloc (.cells (dvL L bl.length cL N pd.length cN lf).toArray 29))
  generalize (w.alloc (.cells (dvL L bl.length cL N pd.length cN lf).toArray 29)) = w1 at *
  generalize hgx : w.heap.size = gx at *
  have HGX := Lib.hid hgx
  have HS0 := Lib.hid hs0
  have HW := Lib.hid hb
  have hgl : gx < w1.heap.size := hs0.lt
  clear hgx hb hs0
  have HL := Lib.hid (hL.below HW.out)
  have HN0 := Lib.hid (hN.below HW.out)
  have HC0 : Hid (∀ W, Below w1.heap.size w1 W → W.cell? ⟨gx, 0, none⟩ = some (.slice L bl.length cL)) := Lib.hid fun W hW => (HS0.out.below hW (by omega)).cell 0
  have HC1 : Hid (∀ W, Below w1.heap.size w1 W → W.cell? ⟨gx, 1, none⟩ = some (.slice N pd.length cN)) := Lib.hid fun W hW => (HS0.out.below hW (by omega)).cell 1
  have HFA : Hid (Strs w1 w1.heap.size L bl) := Lib.hid (Lies.wide HL.out (by omega))
  have HFN : Hid (Lies w1 w1.heap.size N (nbCells pd)) := Lib.hid (Lies.wide HN0.out (by omega))
  have HFE : Hid (driveE bl pd = if 256 < bl.length then 6 else if bl.all is128 = true then pendE bl.length pd else 3) := Lib.hid rfl
  have HLD : Hid (∀ W, Below w1.heap.size w1 W → ∀ j v, (dvL L bl.length cL N pd.length cN lf)[j]? = some v → W.cell? ((⟨gx, 0, none⟩ : Addr).add j) = some v) := Lib.hid fun W hW => (HS0.out.below hW (by omega)).reads
  have c0 := HC0.out w1 (Below.refl _ _)
  clear hL hN HL HN0
  by_cases h1 : 256 < bl.length
  · have HE : Hid (6 = driveE bl pd) := Lib.hid (by rw [HFE.out, if_pos h1])
    have d : decide ((256 : Int) < (bl.length : Int)) = true := decide_eq_true (by omega)
    have d' : decide (256 < bl.length) = true := decide_eq_true h1
    clear h1
    go_wp2_with fail
    go_ret
    exact ⟨ret_int HE.out, by rw [HGX.out]; exact HW.out⟩
  have HFE' : Hid (driveE bl pd = if bl.all is128 = true then pendE bl.length pd else 3) := Lib.hid (by rw [HFE.out, if_neg h1])
  have d : decide ((256 : Int) < (bl.length : Int)) = false := decide_eq_false (by omega)
  have d' : decide (256 < bl.length) = false := decide_eq_false h1
  clear h1 HFE
  go_wp2_with fail
  clear d d' c0
  go_loopw [14] (fun i wr => ∃ k : Nat, k ≤ bl.length ∧ i = .int .i64 k ∧ Hid ((bl.take k).all is128 = true) ∧ Hid (Below w1.heap.size w1 wr)) (fun i _ => bl.length - (intOf i).toNat)
  case atStart => exact ⟨0, by omega, rfl, Lib.hid rfl, Lib.hid (Below.refl _ _)⟩
  case round =>
    obtain ⟨k, hk, rfl, HN, HV⟩ := hrel
    by_cases hlt : k < bl.length
    · obtain ⟨x, hx⟩ := get_some hlt
      have HY := Lib.hid (@all_on _ is128 bl k x hx HN.out)
      have HNO := Lib.hid (@all_bad _ is128 bl k x hx)
      obtain ⟨ad, hadr, had, hc⟩ := Strs.at' HFA.out hlt
      have hgd : bl.getD k [] = x := by rw [List.getD_eq_getElem?_getD, hx]; rfl
      rw [hgd] at hc
      rw [hadr]
      have b0 : wr.cell? (ad.add k) = _ := (HV.out.cell (by rw [add_block]; exact had)).trans hc
      clear hc hx hgd
      have i0 : (0 : Int) ≤ (k : Int) := by omega
      have i1 : (k : Int) < (bl.length : Int) := by omega
      by_cases h1 : x.length = 128
      · have HQ := Lib.hid (HY.out (by unfold is128; simp [h1]))
        have d : (x.length == 128) = true := beq_iff_eq.2 h1
        have d' : ((x.length : Int) != 128) = false := by simp [h1]
        have d'' : (x.length != 128) = false := by simp [h1]
        clear h1 HY HNO
        go_wp2_with fail
        go_roundw
        case rel =>
          have R : ∃ k' : Nat, k' ≤ bl.length ∧ Value.int .i64 ((k : Int) + 1) = .int .i64 k' ∧ Hid ((bl.take k').all is128 = true) ∧ Hid (Below w1.heap.size w1 wr) := ⟨k + 1, by omega, by go_num, HQ, HV⟩
          first | exact R | ((repeat apply Exists.intro); exact ⟨R, rfl⟩)
        case measure => simp [intOf]; omega
      · have HQ := Lib.hid (HNO.out (by unfold is128; simp [h1]))
        have d' : ((x.length : Int) != 128) = true := by simp; omega
        have d'' : (x.length != 128) = true := by simp [h1]
        clear h1 HY HNO
        go_wp2_with fail
        go_ret
        exact ⟨ret_int (by rw [HFE'.out, if_neg (by rw [HQ.out]; simp)]), by rw [HGX.out]; exact HW.out.trans (HV.out.mono (by omega))⟩
    · obtain rfl : k = bl.length := by omega
      have hd : decide (bl.length < bl.length) = false := by simp
      rw [List.take_of_length_le (Nat.le_refl _)] at HN
      have HGE := Lib.hid HV.out.size
      have HE0 : Hid (driveE bl pd = pendE bl.length pd) := Lib.hid (by rw [HFE'.out, if_pos HN.out])
      have c1 := HC1.out _ HV.out
      clear HN HFE' hd
      go_wp2_with fail
      clear c1
      obtain ⟨wo, hwo⟩ : ∃ wo : World, wo = wr := ⟨_, rfl⟩
      subst hwo
      have HVo := HV
      clear HV
      go_loopw [25] (fun i wr => ∃ k : Nat, k ≤ pd.length ∧ i = .int .i64 k ∧ Hid (pendE bl.length pd = pendE bl.length (pd.drop k)) ∧ Hid (Below w1.heap.size w1 wr)) (fun i _ => pd.length - (intOf i).toNat)
      case atStart => exact ⟨0, by omega, rfl, Lib.hid rfl, HVo⟩
      case round =>
        clear hlt hk
        obtain ⟨k, hk, rfl, HN, HV⟩ := hrel
        by_cases hlt : k < pd.length
        · obtain ⟨x, hx⟩ := get_some hlt
          obtain ⟨ad, hadr, had, hc⟩ := Lies.row (f := nbCells1) (n := 2) HFN.out (fun y hy => rfl) (by omega) hx
          have LD : Hid (∀ j v, (nbCells1 x)[j]? = some v → wr.cell? ((ad.add (k * 2)).add j) = some v) := Lib.hid fun j v h => (HV.out.cell (by rw [add_block, add_block]; exact had)).trans (hc j v h)
          have HD := Lib.hid (drop_cons hx)
          have hzv := HV.out.size
          have HX := Lib.hid (Whole.made wr 108 (nbCells1 x).toArray)
          have HV1 := Lib.hid (HV.out.alloc hzv (.cells (nbCells1 x).toArray 108))
          rw [hadr]
          clear hc hx hadr
          have i0 : (0 : Int) ≤ (k : Int) := by omega
          have i1 : (k : Int) < (pd.length : Int) := by omega
          go_upto_region 12 with (first
            | (refine wpList_load_at rfl 108 (.tmp 27) rfl (ad.add (k * 2)) rfl (nbCells1 x) _ LD.out Tryz.underlying108 rfl (by kernel_rfl) ?_)
            | (refine wpList_fresh rfl rfl 108 6 (.tmp 28) rfl rfl rfl rfl (nbCells1 x) rfl rfl _ Tryz.infoWr rfl (nb_one x) ?_))
          change Code.wp _ _ _ _ (wr.alloc (.cells (nbCells1 x).toArray 108))
          have HGE : Hid (w1.heap.size ≤ wr.heap.size) := Lib.hid hzv
          clear LD hzv HV
          generalize wr.alloc (.cells (nbCells1 x).toArray 108) = w2 at *
          generalize wr.heap.size = g2 at *
          obtain ⟨id, dt⟩ := x
          have x0 : w2.cell? ⟨g2, 0, none⟩ = some (.int .i64 id) := HX.out.cell 0
          have hg2 := HX.out.lt
          have HLD2 := Lib.hid (HLD.out _ HV1.out)
          go_wp2_with (refine wpList_load_at rfl 29 (.tmp 1) rfl ⟨gx, 0, none⟩ rfl (dvL L bl.length cL N pd.length cN lf) _ HLD2.out Tryz.underlying29 rfl Tryz.sizeDv ?_)
          refine (has_any w2 L N pd.length cL bl.length cN lf id).mono ?_
          rintro e w3 ⟨rfl, hb3⟩
          have HV3 := Lib.hid (HV1.out.trans (hb3.mono HV1.out.size))
          have x1 : w3.cell? ⟨g2, 1, none⟩ = some (S dt) := (HX.out.below hb3 (by omega)).cell 1
          clear hb3 x0 HLD2
          by_cases h : 0 ≤ id ∧ id < (bl.length : Int)
          · have d1 : decide (0 ≤ id ∧ id < (bl.length : Int)) = true := decide_eq_true h
            rw [d1]
            clear d1
            by_cases h2 : dt.length = 128
            · have HQ : Hid (pendE bl.length ((id, dt) :: pd.drop (k + 1)) = pendE bl.length (pd.drop (k + 1))) := Lib.hid (by rw [pendE, if_neg (by intro h'; dsimp only at h'; omega), if_neg (by simp [h2])])
              have d3 : ((dt.length : Int) != 128) = false := by simp [h2]
              have d3' : (dt.length != 128) = false := by simp [h2]
              clear h h2
              go_wp2_with fail
              go_roundw
              case rel =>
                have R : ∃ k' : Nat, k' ≤ pd.length ∧ Value.int .i64 ((k : Int) + 1) = .int .i64 k' ∧ Hid (pendE bl.length pd = pendE bl.length (pd.drop k')) ∧ Hid (Below w1.heap.size w1 w3) := ⟨k + 1, by omega, by go_num, Lib.hid (by rw [HN.out, HD.out]; exact HQ.out), HV3⟩
                first | exact R | ((repeat apply Exists.intro); exact ⟨R, rfl⟩)
              case measure => simp [intOf]; omega
            · have HQ : Hid (pendE bl.length ((id, dt) :: pd.drop (k + 1)) = 3) := Lib.hid (by rw [pendE, if_neg (by intro h'; dsimp only at h'; omega), if_pos (by simpa using h2)])
              have d3 : ((dt.length : Int) != 128) = true := by simp; omega
              have d3' : (dt.length != 128) = true := by simp [h2]
              clear h h2
              go_wp2_with fail
              go_ret
              exact ⟨ret_int (by rw [HE0.out, HN.out, HD.out, HQ.out]), by rw [HGX.out]; exact HW.out.trans (HV3.out.mono (by omega))⟩
          · have d1 : decide (0 ≤ id ∧ id < (bl.length : Int)) = false := decide_eq_false h
            rw [d1]
            have HQ : Hid (pendE bl.length ((id, dt) :: pd.drop (k + 1)) = 2) := Lib.hid (by rw [pendE, if_pos (by dsimp only; omega)])
            clear d1 h
            go_wp2_with fail
            go_ret
            exact ⟨ret_int (by rw [HE0.out, HN.out, HD.out, HQ.out]), by rw [HGX.out]; exact HW.out.trans (HV3.out.mono (by omega))⟩
        · obtain rfl : k = pd.length := by omega
          have hd : decide (pd.length < pd.length) = false := by simp
          rw [drop_end] at HN
          go_wp2_with fail
          go_ret
          exact ⟨ret_int (by rw [HE0.out, HN.out]; rfl), by rw [HGX.out]; exact HW.out.trans (HV.out.mono (by omega))⟩
theorem Addr.add_zero' (ad : Addr) : ad.add 0 = ad := by unfold Addr.add; simp
theorem Addr.add_one' (ad : Addr) : ad.add 1 = ⟨ad.block, ad.off + 1, none⟩ := by unfold Addr.add; simp
end Go.Proofs.YtmdciljpcnokcaaGreatDoor
/-
  Walks: wal.journaled, Home, hibernacleref16.bad, Home, hibernacleref15.Get. (Printed by gen_chkd.py.)
-/
namespace Go.Proofs.YtmdciljpcnokcaaGreatDoor
open Go.RowKit

theorem own_wide {w : World} {base base' : Nat} {e : TypeId} {size n : Nat} {v : Value} {xs : List Value} (h : w.ownsRow base e size v n xs) (hb : base' ≤ base) : w.ownsRow base' e size v n xs := by
  refine ⟨h.1, ?_⟩
  rcases h.2 with h1 | ⟨g, cap, cur, rfl, h2, h3⟩
  · exact .inl h1
  · exact .inr ⟨g, cap, cur, rfl, Nat.le_trans hb h2, h3⟩
set_option maxRecDepth 100000 in
set_option maxHeartbeats 1000000 in
theorem journ_any (w : World) (L N : Option Addr) (cL cN : Nat) (bl : List (List UInt8)) (pd : List Nb) (lf : Int) (hL : Strs w w.heap.size L bl) (hN : Lies w w.heap.size N (nbCells pd)) (hb1 : bl.length ≤ 274877906944) (hb2 : pd.length ≤ 274877906944) :
    Calls Tryz.prog 225 #[.agg (dvL L bl.length cL N pd.length cN lf).toArray] w fun e w' => e = .returned (.int .i64 (journE bl pd)) ∧ Below w.heap.size w w' := by
  have hs0 := Whole.made w 29 (dvL L bl.length cL N pd.length cN lf).toArray
  have hb : Below w.heap.size w (w.alloc (.cells (dvL L bl.length cL N pd.length cN lf).toArray 29)) := (Below.refl _ _).alloc (Nat.le_refl _) _
  go_enter Tryz.func225, Tryz.ntmps225
  go_upto_region 1 with (fail)
  change Code.wp _ _ _ _ (w.alloc (.cells (dvL L bl.length cL N pd.length cN lf).toArray 29))
  generalize (w.alloc (.cells (dvL L bl.length cL N pd.length cN lf).toArray 29)) = w1 at *
  generalize hgx : w.heap.size = gx at *
  have HGX := Lib.hid hgx
  have HS0 := Lib.hid hs0
  have HW := Lib.hid hb
  have hgl : gx < w1.heap.size := hs0.lt
  clear hgx hb hs0
  have HL := Lib.hid (hL.below HW.out)
  have HN0 := Lib.hid (hN.below HW.out)
  have HC0 : Hid (∀ W, Below w1.heap.size w1 W → W.cell? ⟨gx, 0, none⟩ = some (.slice L bl.length cL)) := Lib.hid fun W hW => (HS0.out.below hW (by omega)).cell 0
  have HC1 : Hid (∀ W, Below w1.heap.size w1 W → W.cell? ⟨gx, 1, none⟩ = some (.slice N pd.length cN)) := Lib.hid fun W hW => (HS0.out.below hW (by omega)).cell 1
  have HFA : Hid (∀ W, Below w1.heap.size w1 W → Strs W W.heap.size L bl) := Lib.hid fun W hW => (HL.out.below (hW.mono (by omega))).wide (by have := hW.size; omega)
  have HFN : Hid (∀ W, Below w1.heap.size w1 W → Lies W W.heap.size N (nbCells pd)) := Lib.hid fun W hW => (HN0.out.below (hW.mono (by omega))).wide (by have := hW.size; omega)
  have HLD : Hid (∀ W, Below w1.heap.size w1 W → ∀ j v, (dvL L bl.length cL N pd.length cN lf)[j]? = some v → W.cell? ((⟨gx, 0, none⟩ : Addr).add j) = some v) := Lib.hid fun W hW => (HS0.out.below hW (by omega)).reads
  clear hL hN HL HN0
  have CC := Lib.hid (drive_any w1 L N cL cN bl pd lf (HFA.out w1 (Below.refl _ _)) (HFN.out w1 (Below.refl _ _)) hb1 hb2)
  have HE : Hid (journE bl pd = if driveE bl pd = 0 then (if bl.length ≤ 33 then 2 else 0) else driveE bl pd) := Lib.hid rfl
  generalize driveE bl pd = d at *
  have HLD1 := Lib.hid (HLD.out w1 (Below.refl _ _))
  go_wp2_with (refine wpList_load_at rfl 29 (.tmp 1) rfl ⟨gx, 0, none⟩ rfl (dvL L bl.length cL N pd.length cN lf) _ HLD1.out Tryz.underlying29 rfl Tryz.sizeDv ?_)
  refine CC.out.mono ?_
  rintro e w2 ⟨rfl, hb⟩
  have HW2 := Lib.hid (HW.out.trans (hb.mono (by omega)))
  have c0 := HC0.out _ hb
  clear hb CC HLD1
  by_cases h : d = 0
  · subst h
    by_cases h33 : bl.length ≤ 33
    · have HQ : Hid (2 = journE bl pd) := Lib.hid (by rw [HE.out, if_pos rfl, if_pos h33])
      have d1 : decide ((bl.length : Int) ≤ 33) = true := decide_eq_true (by omega)
      have d2 : decide (bl.length ≤ 33) = true := decide_eq_true h33
      clear h33 HE
      go_wp2_with fail
      go_ret
      exact ⟨ret_int HQ.out, by rw [HGX.out]; exact HW2.out⟩
    · have HQ : Hid (0 = journE bl pd) := Lib.hid (by rw [HE.out, if_pos rfl, if_neg h33])
      have d1 : decide ((bl.length : Int) ≤ 33) = false := decide_eq_false (by omega)
      have d2 : decide (bl.length ≤ 33) = false := decide_eq_false h33
      clear h33 HE
      go_wp2_with fail
      go_ret
      exact ⟨ret_int HQ.out, by rw [HGX.out]; exact HW2.out⟩
  · have HQ : Hid (d = journE bl pd) := Lib.hid (by rw [HE.out, if_neg h])
    have d1 : (d != 0) = true := by simp [h]
    clear h HE
    go_wp2_with fail
    go_ret
    exact ⟨ret_int HQ.out, by rw [HGX.out]; exact HW2.out⟩
theorem Addr.add_add' (ad : Addr) (i j : Nat) : (ad.add i).add j = ad.add (i + j) := by unfold Addr.add; by_cases h1 : i = 0 <;> by_cases h2 : j = 0 <;> simp [h1, h2, Nat.add_assoc]
set_option maxRecDepth 100000 in
set_option maxHeartbeats 2000000 in
theorem home_any (w : World) (L N : Option Addr) (cL cN : Nat) (bl : List (List UInt8)) (pd : List Nb) (lf : Int) (hL : Strs w w.heap.size L bl) (hN : Lies w w.heap.size N (nbCells pd)) (hb1 : bl.length ≤ 274877906944) (hb2 : pd.length ≤ 274877906944) (hcap : bl.length ≤ cL) :
    Calls Tryz.prog 175 #[.agg (dvL L bl.length cL N pd.length cN lf).toArray] w fun e w' => (∃ v, e = .returned v ∧ OwnS w' w.heap.size v (homeD bl pd)) ∧ Below w.heap.size w w' := by
  obtain ⟨i0, hi0, hz0, hz1, hz2⟩ := info_parts Tryz.infoStr'
  have hs0 := Whole.made w 29 (dvL L bl.length cL N pd.length cN lf).toArray
  have hb : Below w.heap.size w (w.alloc (.cells (dvL L bl.length cL N pd.length cN lf).toArray 29)) := (Below.refl _ _).alloc (Nat.le_refl _) _
  go_enter Tryz.func175, Tryz.ntmps175
  go_upto_region 1 with (fail)
  change Code.wp _ _ _ _ (w.alloc (.cells (dvL L bl.length cL N pd.length cN lf).toArray 29))
  generalize (w.alloc (.cells (dvL L bl.length cL N pd.length cN lf).toArray 29)) = w1 at *
  generalize hgx : w.heap.size = gx at *
  have HGX := Lib.hid hgx
  have HS0 := Lib.hid hs0
  have HW := Lib.hid hb
  have hgl : gx < w1.heap.size := hs0.lt
  clear hgx hb hs0
  have HL := Lib.hid (hL.below HW.out)
  have HN0 := Lib.hid (hN.below HW.out)
  have HC0 : Hid (∀ W, Below w1.heap.size w1 W → W.cell? ⟨gx, 0, none⟩ = some (.slice L bl.length cL)) := Lib.hid fun W hW => (HS0.out.below hW (by omega)).cell 0
  have HC1 : Hid (∀ W, Below w1.heap.size w1 W → W.cell? ⟨gx, 1, none⟩ = some (.slice N pd.length cN)) := Lib.hid fun W hW => (HS0.out.below hW (by omega)).cell 1
  have HFA : Hid (∀ W, Below w1.heap.size w1 W → Strs W W.heap.size L bl) := Lib.hid fun W hW => (HL.out.below (hW.mono (by omega))).wide (by have := hW.size; omega)
  have HFN : Hid (∀ W, Below w1.heap.size w1 W → Lies W W.heap.size N (nbCells pd)) := Lib.hid fun W hW => (HN0.out.below (hW.mono (by omega))).wide (by have := hW.size; omega)
  have HLD : Hid (∀ W, Below w1.heap.size w1 W → ∀ j v, (dvL L bl.length cL N pd.length cN lf)[j]? = some v → W.cell? ((⟨gx, 0, none⟩ : Addr).add j) = some v) := Lib.hid fun W hW => (HS0.out.below hW (by omega)).reads
  clear hL hN HL HN0
  have HQ0 : Hid (homeD bl pd = if journE bl pd = 0 then homeL bl pd else []) := Lib.hid rfl
  have CC := Lib.hid (journ_any w1 L N cL cN bl pd lf (HFA.out _ (Below.refl _ _)) (HFN.out _ (Below.refl _ _)) hb1 hb2)
  have HLD1 := Lib.hid (HLD.out w1 (Below.refl _ _))
  generalize hj : journE bl pd = jz at *
  have HJ := Lib.hid hj
  clear hj
  go_wp2_with (refine wpList_load_at rfl 29 (.tmp 1) rfl ⟨gx, 0, none⟩ rfl (dvL L bl.length cL N pd.length cN lf) _ HLD1.out Tryz.underlying29 rfl Tryz.sizeDv ?_)
  refine CC.out.mono ?_
  rintro e w2 ⟨rfl, hb⟩
  have HW2 := Lib.hid hb
  clear hb CC HLD1
  by_cases h : jz = 0
  · subst h
    have HQ : Hid (homeD bl pd = homeL bl pd) := Lib.hid (by rw [HQ0.out, if_pos rfl])
    have HDZ : Hid (driveE bl pd = 0 ∧ 33 < bl.length) := Lib.hid (by
      have := HJ.out
      unfold journE at this
      by_cases hd : driveE bl pd = 0
      · rw [if_pos hd] at this
        by_cases h : bl.length ≤ 33
        · rw [if_pos h] at this; cases this
        · exact ⟨hd, by omega⟩
      · rw [if_neg hd] at this; exact absurd this hd)
    have h33 := HDZ.out.2
    have HPD := Lib.hid (driveE_zero HDZ.out.1).2.2
    clear HQ0
    obtain ⟨ad, hadr, had, _⟩ := Strs.at' (HFA.out w2 HW2.out) (show 0 < bl.length by omega)
    subst hadr
    have HR : Hid (Lies w2 w2.heap.size (some ⟨ad.block, ad.off + 33, none⟩) ((bl.drop 33).map S)) := Lib.hid (fun j u hu => by
      obtain ⟨ad', e, hb, hc⟩ := HFA.out w2 HW2.out (33 + j) u (by rw [List.map_drop, List.getElem?_drop] at hu; exact hu)
      injection e with e; subst e
      refine ⟨_, rfl, hb, ?_⟩
      rw [show (⟨ad.block, ad.off + 33, none⟩ : Addr) = ad.add 33 by unfold Addr.add; simp, Addr.add_add']
      exact hc)
    have c0 := HC0.out _ HW2.out
    have g1 : (33 : Int) ≤ (bl.length : Int) := by omega
    have g2 : ¬ cL = 33 := by omega
    have HS1 : Hid (((bl.drop 33).map S).length = (bl.length - 33) * 1) := Lib.hid (by simp)
    have H63 : Hid (0 + (bl.length - 33) ≤ maxLen) := Lib.hid (by unfold maxLen; omega)
    have HBY : Hid ((0 + (bl.length - 33)) * 16 ≤ 140737488355328) := Lib.hid (by omega)
    have HBA : Hid (w1.heap.size ≤ w2.heap.size) := Lib.hid HW2.out.size
    go_upto_region 4 with (at_builtin; refine wpList_append_src rfl (.const (.slice none 0 0)) (.tmp 11) 24 rfl w1.heap.size 9 i0 _ 1 16 Tryz.underlying24 hi0 hz0 hz1 hz2 rfl (by decide) _ _ _ rfl (World.ownsRow_nil _ _ _ _) w2.heap.size (some ⟨ad.block, ad.off + 33, none⟩) (bl.length - 33) (cL - 33) ((bl.drop 33).map S) rfl HS1.out HR.out (S_one _) H63.out HBY.out HBA.out ?_; intro v' w3 hown' hgrow)
    have HO3 : Hid (OwnS w3 w1.heap.size v' (bl.drop 33)) := Lib.hid (by
      unfold OwnS
      rw [List.length_drop]
      simpa using hown')
    have HV3 : Hid (Below w1.heap.size w1 w3) := Lib.hid (HW2.out.grown hgrow HBA.out (own_ge (World.ownsRow_nil w2 w1.heap.size 9 1)))
    have HL3 : Hid ((bl.drop 33).length + 33 = bl.length) := Lib.hid (by rw [List.length_drop]; omega)
    have c1 := HC1.out _ HV3.out
    clear hown' hgrow HR HS1 H63 HBY HBA c0 g1 g2 had HDZ HJ
    obtain ⟨b0, hb0⟩ : ∃ z, bl.drop 33 = z := ⟨_, rfl⟩
    have HHL : Hid (homeL bl pd = pd.foldl putB b0) := Lib.hid (by unfold homeL; rw [hb0])
    rw [hb0] at HO3 HL3
    clear hb0
    have hnb : 0 < b0.length := by have := HL3.out; omega
    obtain ⟨g, cap, hv', hgb, hgl'⟩ := HO3.out.form hnb
    subst hv'
    obtain ⟨nb, hnb'⟩ : ∃ z, b0.length = z := ⟨_, rfl⟩
    have HNB := Lib.hid hnb'
    have HO3' : Hid (w3.ownsRow w1.heap.size 9 1 (.slice (some ⟨g, 0, none⟩) nb cap) nb (b0.map S)) := by rw [← hnb']; exact HO3
    rw [hnb']
    clear HO3 hnb hnb'
    go_wp2_with fail
    clear c1
    go_loopw [16] (fun i wr => ∃ (k : Nat) (x : List (List UInt8)), k ≤ pd.length ∧ i = .int .i64 (k : Int) ∧ Hid (x.length = nb) ∧ Hid ((pd.take k).foldl putB b0 = x) ∧ Hid (wr.ownsRow w1.heap.size 9 1 (.slice (some ⟨g, 0, none⟩) nb cap) nb (x.map S)) ∧ Hid (Below w1.heap.size w1 wr)) (fun i _ => pd.length - (intOf i).toNat)
    case atStart => exact ⟨0, b0, by omega, rfl, HNB, Lib.hid rfl, HO3', HV3⟩
    case round =>
      clear HO3' HV3
      obtain ⟨k, x, hk, rfl, HXL, HF, HO, HV⟩ := hrel
      by_cases hlt : k < pd.length
      · obtain ⟨p, hx⟩ := get_some hlt
        have hpd := HPD.out p (List.mem_of_getElem? hx)
        have HF1 := Lib.hid (foldl_snoc putB b0 hx)
        rw [HF.out] at HF1
        obtain ⟨bd, hbdr, hbd, hc⟩ := Lies.row (f := nbCells1) (n := 2) (HFN.out wr HV.out) (fun y hy => rfl) (by omega) hx
        have LD : Hid (∀ j v, (nbCells1 p)[j]? = some v → wr.cell? ((bd.add (k * 2)).add j) = some v) := Lib.hid hc
        have hzv := HV.out.size
        have HX := Lib.hid (Whole.made wr 108 (nbCells1 p).toArray)
        have HV1 := Lib.hid (HV.out.alloc hzv (.cells (nbCells1 p).toArray 108))
        have HO1 := Lib.hid (HO.out.alloc (.cells (nbCells1 p).toArray 108))
        rw [hbdr]
        clear hc hx hbdr
        have i0 : (0 : Int) ≤ (k : Int) := by omega
        have i1 : (k : Int) < (pd.length : Int) := by omega
        go_upto_region 7 with (first
          | (refine wpList_load_at rfl 108 (.tmp 18) rfl (bd.add (k * 2)) rfl (nbCells1 p) _ LD.out Tryz.underlying108 rfl (by kernel_rfl) ?_)
          | (refine wpList_fresh rfl rfl 108 5 (.tmp 19) rfl rfl rfl rfl (nbCells1 p) rfl rfl _ Tryz.infoWr rfl (nb_one p) ?_))
        change Code.wp _ _ _ _ (wr.alloc (.cells (nbCells1 p).toArray 108))
        have HGE : Hid (w1.heap.size ≤ wr.heap.size) := Lib.hid hzv
        clear LD hzv HV
        generalize wr.alloc (.cells (nbCells1 p).toArray 108) = w4 at *
        generalize wr.heap.size = g4 at *
        obtain ⟨id, dt⟩ := p
        have x0 : w4.cell? ⟨g4, 0, none⟩ = some (.int .i64 id) := HX.out.cell 0
        have x1 : w4.cell? ⟨g4, 1, none⟩ = some (S dt) := HX.out.cell 1
        obtain ⟨q1, q2, _⟩ := hpd
        dsimp only at q1 q2
        by_cases h : 33 ≤ id
        · obtain ⟨j, hj⟩ : ∃ j : Nat, id = (j : Int) + 33 := ⟨(id - 33).toNat, by omega⟩
          subst hj
          have HS1 : Hid (putB x ((j : Int) + 33, dt) = x.set j dt) := Lib.hid (by unfold putB; rw [if_pos (by dsimp only; omega)]; dsimp only; rw [show ((j : Int) + 33 - 33).toNat = j by omega])
          have d1 : decide ((33 : Int) ≤ (j : Int) + 33) = true := decide_eq_true h
          have hjx : j < x.length := by have := HXL.out; have := HL3.out; have := HNB.out; omega
          have cj : w4.cell? ⟨g, j, none⟩ = some (S (x.getD j [])) := (HO1.out.cellAt j (by have := HXL.out; omega)).trans (by simp [hjx])
          have fj := HO1.out.frozenAt j
          obtain ⟨hst, hgr⟩ := HO1.out.stored j (S dt)
          rw [← List.map_set] at hst
          have HO3 : Hid ((w4.setCell ⟨g, j, none⟩ (S dt)).ownsRow w1.heap.size 9 1 (.slice (some ⟨g, 0, none⟩) nb cap) nb ((x.set j dt).map S)) := Lib.hid hst
          have HB3 : Hid (Below w1.heap.size w1 (w4.setCell ⟨g, j, none⟩ (S dt))) := Lib.hid (HV1.out.setCell (p := ⟨g, j, none⟩) hgb _)
          have e1 : (j : Int) + 33 - 33 = (j : Int) := by omega
          clear hst hgr h q1 q2
          have j0 : (0 : Int) ≤ (j : Int) := by omega
          have j1 : (j : Int) < (nb : Int) := by have := HXL.out; omega
          have j2 : (j : Int) ≤ 274877906944 := by have := HNB.out; have := HL3.out; omega
          go_wp2_with fail
          refine ⟨⟨k + 1, x.set j dt, by omega, by go_num, Lib.hid (by rw [List.length_set]; exact HXL.out), Lib.hid (by rw [HF1.out]; exact HS1.out), HO3, HB3⟩, by simp [intOf]; omega⟩
        · have HS1 : Hid (putB x (id, dt) = x) := Lib.hid (by unfold putB; rw [if_neg h])
          have d1 : decide ((33 : Int) ≤ id) = false := decide_eq_false h
          clear h
          go_wp2_with fail
          go_roundw
          case rel =>
            have R : ∃ (k' : Nat) (x' : List (List UInt8)), k' ≤ pd.length ∧ Value.int .i64 ((k : Int) + 1) = .int .i64 (k' : Int) ∧ Hid (x'.length = nb) ∧ Hid ((pd.take k').foldl putB b0 = x') ∧ Hid (w4.ownsRow w1.heap.size 9 1 (.slice (some ⟨g, 0, none⟩) nb cap) nb (x'.map S)) ∧ Hid (Below w1.heap.size w1 w4) := ⟨k + 1, x, by omega, by go_num, HXL, Lib.hid (by rw [HF1.out]; exact HS1.out), HO1, HV1⟩
            first | exact R | ((repeat apply Exists.intro); exact ⟨R, rfl⟩)
          case measure => simp [intOf]; omega
      · obtain rfl : k = pd.length := by omega
        have hd : decide (pd.length < pd.length) = false := by simp
        rw [List.take_of_length_le (Nat.le_refl _)] at HF
        go_wp2_with fail
        go_ret
        exact ⟨⟨_, rfl, by rw [HQ.out, HGX.out, HHL.out, HF.out]; unfold OwnS; rw [HXL.out]; exact own_wide HO.out (by omega)⟩, by rw [HGX.out]; exact HW.out.trans (HV.out.mono (by omega))⟩
  · have HQ : Hid (homeD bl pd = []) := Lib.hid (by rw [HQ0.out, if_neg h])
    have d1 : (jz != 0) = true := by simp [h]
    clear h HQ0
    go_wp2_with fail
    go_ret
    exact ⟨⟨_, rfl, by rw [HQ.out]; exact World.ownsRow_nil _ _ _ _⟩, by rw [HGX.out]; exact HW.out.trans (HW2.out.mono (by omega))⟩
end Go.Proofs.YtmdciljpcnokcaaGreatDoor
