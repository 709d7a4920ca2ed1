/-
  Walks: hibernacleref25.lives, users, Pipe, fd. (Printed by gen_rchka.py.)
-/
import Derived.Test.YtmmfcjkabpffeaaGreatDoorChkE
import Derived.Test.YtmmfcjkabpffeaaGreatDoorVolA
namespace Go.Proofs.YtmmfcjkabpffeaaGreatDoor
open Go.RowKit

set_option maxRecDepth 100000 in
set_option maxHeartbeats 2000000 in
theorem rlives_any (w : World) (a : MA) (m : Mc) (hm : McOk m) (hA : MAt w w.heap.size a m) (pid : Int) :
    Calls Tryz.prog 44 #[.agg (mcL a m).toArray, .int .i64 pid] w fun e w' => e = .returned (.bool (livesAt m pid)) ∧ Below w.heap.size w w' := by
  have hs0 := Whole.made w 30 (mcL a m).toArray
  have hb : Below w.heap.size w (w.alloc (.cells (mcL a m).toArray 30)) := (Below.refl _ _).alloc (Nat.le_refl _) _
  go_enter Tryz.func44, Tryz.ntmps44
  go_upto_region 1 with (fail)
  change Code.wp _ _ _ _ (w.alloc (.cells (mcL a m).toArray 30))
  generalize (w.alloc (.cells (mcL a m).toArray 30)) = w1 at *
  generalize hgx : w.heap.size = gx at *
  have HGX := Lib.hid hgx
  have HS0 := Lib.hid hs0
  have HW := Lib.hid hb
  have hgl : gx < w1.heap.size := hs0.lt
  clear hgx hb hs0
  have HA := Lib.hid (hA.below HW.out)
  have HM := Lib.hid hm
  have HMA : Hid (∀ W, Below w1.heap.size w1 W → MAt W W.heap.size a m) := Lib.hid fun W hW => (HA.out.below (hW.mono (by omega))).wide (by have := hW.size; omega)
  have HC : Hid (∀ W, Below w1.heap.size w1 W → Whole W gx 30 (mcL a m).toArray) := Lib.hid fun W hW => HS0.out.below hW (by omega)
  clear hm hA
  have c5 : w1.cell? ⟨gx, 5, none⟩ = some (.slice a.P m.procs.length a.cP) := (HC.out w1 (Below.refl _ _)).cell 5
  go_wp2_with fail
  clear c5
  go_loopw [10] (fun i wr => ∃ k : Nat, k ≤ m.procs.length ∧ i = .int .i64 (k : Int) ∧ Hid ((m.procs.take k).any (fun q : Pr => q.pid == pid && livesB q) = false) ∧ Hid (Below w1.heap.size w1 wr)) (fun i _ => m.procs.length - (intOf i).toNat)
  case atStart => exact ⟨0, by omega, rfl, Lib.hid rfl, Lib.hid (Below.refl _ _)⟩
  case round =>
    obtain ⟨k, hk, rfl, HN, HV⟩ := hrel
    have hk38 := HM.out.sizes.2.1
    by_cases hlt : k < m.procs.length
    · obtain ⟨x, hx⟩ := get_some hlt
      have HXO := Lib.hid (HM.out.procs x (List.mem_of_getElem? hx))
      obtain ⟨ad, hadr, had, hc⟩ := Lies.row (f := prCells) (n := 96) (HMA.out wr HV.out).P (fun y hy => prCells_length (HM.out.procs y hy)) (by omega) hx
      have LD : Hid (∀ j v, (prCells x)[j]? = some v → wr.cell? ((ad.add (k * 96)).add j) = some v) := Lib.hid hc
      have hzv := HV.out.size
      have hxl := prCells_length HXO.out
      have PIX : Hid ((Tryz.prog.info? 67).map (·.size) = some (prCells x).length) := Lib.hid (by rw [hxl]; exact Tryz.sizePr)
      have PIZ : Hid ((Tryz.prog.info? 67).map (fun i => (i.zero, i.size)) = some (some (.agg (prCells zeroPr).toArray), (prCells x).length)) := Lib.hid (by rw [hxl]; exact Tryz.infoPr)
      have PZS : Hid ((Value.agg (prCells zeroPr).toArray).cells.size = (prCells x).length) := Lib.hid (by rw [hxl]; rfl)
      have HX := Lib.hid (Whole.made wr 67 (prCells x).toArray)
      have HV1 := Lib.hid (HV.out.alloc hzv (.cells (prCells x).toArray 67))
      have HY := Lib.hid (@any_yes _ (fun q : Pr => q.pid == pid && livesB q) m.procs k x hx)
      have HNO := Lib.hid (@any_no _ (fun q : Pr => q.pid == pid && livesB q) m.procs k x hx HN.out)
      clear hx
      rw [hadr]
      clear hc hadr hxl
      have i0 : (0 : Int) ≤ (k : Int) := by omega
      have i1 : (k : Int) < (m.procs.length : Int) := by omega
      go_upto_region 4 with (first
        | (refine wpList_load_at rfl 67 (.tmp 12) rfl (ad.add (k * 96)) rfl (prCells x) _ LD.out Tryz.underlying67 rfl PIX.out ?_)
        | (refine wpList_fresh rfl rfl 67 6 (.tmp 13) rfl rfl rfl rfl (prCells x) rfl rfl _ PIZ.out PZS.out prCells_one ?_))
      change Code.wp _ _ _ _ (wr.alloc (.cells (prCells x).toArray 67))
      have HGE : Hid (w1.heap.size ≤ wr.heap.size) := Lib.hid hzv
      clear LD PIZ PZS HV hzv
      generalize wr.alloc (.cells (prCells x).toArray 67) = w2 at *
      generalize wr.heap.size = g2 at *
      have hg2 := HX.out.lt
      have x0 : w2.cell? ⟨g2, 0, none⟩ = some (.int .i64 x.pid) := HX.out.cell 0
      have x2 : w2.cell? ⟨g2, 2, none⟩ = some (.int .i64 x.state) := HX.out.cell 2
      have HLB : Hid (livesB x = (x.state == 1 || x.state == 2)) := Lib.hid rfl
      generalize x.state = st at *
      by_cases hp : x.pid = pid
      · have e1 : (x.pid == pid) = true := beq_iff_eq.2 hp
        by_cases h1 : st = 1
        · have HQ := Lib.hid (HY.out (by rw [HLB.out, e1, h1]; rfl))
          subst h1
          clear hp HY HNO HLB
          go_wp2_with fail
          go_ret
          exact ⟨ret_bool HQ.out.symm, by rw [HGX.out]; exact HW.out.trans (HV1.out.mono (by omega))⟩
        · have s1 : (st == 1) = false := beq_eq_false_iff_ne.2 h1
          by_cases h2 : st = 2
          · have HQ := Lib.hid (HY.out (by rw [HLB.out, e1, h2]; rfl))
            subst h2
            clear hp HY HNO HLB h1
            go_wp2_with fail
            go_ret
            exact ⟨ret_bool HQ.out.symm, by rw [HGX.out]; exact HW.out.trans (HV1.out.mono (by omega))⟩
          · have s2 : (st == 2) = false := beq_eq_false_iff_ne.2 h2
            have HQ := Lib.hid (HNO.out (by rw [HLB.out, s1, s2]; simp))
            clear hp HY HNO HLB h1 h2
            go_wp2_with fail
            go_roundw
            case rel =>
              have R : ∃ k' : Nat, k' ≤ m.procs.length ∧ Value.int .i64 ((k : Int) + 1) = .int .i64 (k' : Int) ∧ Hid ((m.procs.take k').any (fun q : Pr => q.pid == pid && livesB q) = false) ∧ Hid (Below w1.heap.size w1 w2) := ⟨k + 1, by omega, by go_num, HQ, HV1⟩
              first | exact R | ((repeat apply Exists.intro); exact ⟨R, rfl⟩)
            case measure => simp [intOf]; omega
      · have e1 : (x.pid == pid) = false := beq_eq_false_iff_ne.2 hp
        have HQ := Lib.hid (HNO.out (by rw [e1]; rfl))
        clear hp HY HNO HLB
        go_wp2_with fail
        go_roundw
        case rel =>
          have R : ∃ k' : Nat, k' ≤ m.procs.length ∧ Value.int .i64 ((k : Int) + 1) = .int .i64 (k' : Int) ∧ Hid ((m.procs.take k').any (fun q : Pr => q.pid == pid && livesB q) = false) ∧ Hid (Below w1.heap.size w1 w2) := ⟨k + 1, by omega, by go_num, HQ, HV1⟩
          first | exact R | ((repeat apply Exists.intro); exact ⟨R, rfl⟩)
        case measure => simp [intOf]; omega
    · obtain rfl : k = m.procs.length := by omega
      have hd : decide (m.procs.length < m.procs.length) = false := by simp
      rw [List.take_of_length_le (Nat.le_refl _)] at HN
      go_wp2_with fail
      go_ret
      exact ⟨ret_bool HN.out.symm, by rw [HGX.out]; exact HW.out.trans (HV.out.mono (by omega))⟩
set_option maxRecDepth 100000 in
set_option maxHeartbeats 2000000 in
theorem users_any (w : World) (a : MA) (m : Mc) (hm : McOk m) (hA : MAt w w.heap.size a m) (f : Int) :
    Calls Tryz.prog 45 #[.agg (mcL a m).toArray, .int .i64 f] w fun e w' => e = .returned (.int .i64 (usersL m.procs f : Nat)) ∧ Below w.heap.size w w' := by
  have hs0 := Whole.made w 30 (mcL a m).toArray
  have hb : Below w.heap.size w (w.alloc (.cells (mcL a m).toArray 30)) := (Below.refl _ _).alloc (Nat.le_refl _) _
  go_enter Tryz.func45, Tryz.ntmps45
  go_upto_region 1 with (fail)
  change Code.wp _ _ _ _ (w.alloc (.cells (mcL a m).toArray 30))
  generalize (w.alloc (.cells (mcL a m).toArray 30)) = w1 at *
  generalize hgx : w.heap.size = gx at *
  have HGX := Lib.hid hgx
  have HS0 := Lib.hid hs0
  have HW := Lib.hid hb
  have hgl : gx < w1.heap.size := hs0.lt
  clear hgx hb hs0
  have HA := Lib.hid (hA.below HW.out)
  have HM := Lib.hid hm
  have HMA : Hid (∀ W, Below w1.heap.size w1 W → MAt W W.heap.size a m) := Lib.hid fun W hW => (HA.out.below (hW.mono (by omega))).wide (by have := hW.size; omega)
  have HC : Hid (∀ W, Below w1.heap.size w1 W → Whole W gx 30 (mcL a m).toArray) := Lib.hid fun W hW => HS0.out.below hW (by omega)
  clear hm hA
  have c5 : ∀ W, Below w1.heap.size w1 W → W.cell? ⟨gx, 5, none⟩ = some (.slice a.P m.procs.length a.cP) := fun W hW => (HC.out W hW).cell 5
  have HC5 := Lib.hid c5
  clear c5
  have c5 := HC5.out w1 (Below.refl _ _)
  have HALL : Hid (usersL m.procs f = usersL (m.procs.take m.procs.length) f) := Lib.hid (by rw [List.take_of_length_le (Nat.le_refl _)])
  go_wp2_with fail
  clear c5
  go_loopw [5, 13] (fun n i wr => ∃ k z : Nat, k ≤ m.procs.length ∧ i = .int .i64 (k : Int) ∧ n = .int .i64 (z : Int) ∧ z ≤ 16 * k ∧ Hid (usersL (m.procs.take k) f = z) ∧ Hid (Below w1.heap.size w1 wr)) (fun _ i _ => m.procs.length - (intOf i).toNat)
  case atStart => exact ⟨0, 0, by omega, rfl, rfl, by omega, Lib.hid rfl, Lib.hid (Below.refl _ _)⟩
  case round =>
    obtain ⟨k, z, hk, rfl, rfl, hz, HN, HV⟩ := hrel
    have hk38 := HM.out.sizes.2.1
    by_cases hlt : k < m.procs.length
    · obtain ⟨x, hx⟩ := get_some hlt
      have HXO := Lib.hid (HM.out.procs x (List.mem_of_getElem? hx))
      obtain ⟨ad, hadr, had, hc⟩ := Lies.row (f := prCells) (n := 96) (HMA.out wr HV.out).P (fun y hy => prCells_length (HM.out.procs y hy)) (by omega) hx
      have LD : Hid (∀ j v, (prCells x)[j]? = some v → wr.cell? ((ad.add (k * 96)).add j) = some v) := Lib.hid hc
      have hzv := HV.out.size
      have hxl := prCells_length HXO.out
      have PIX : Hid ((Tryz.prog.info? 67).map (·.size) = some (prCells x).length) := Lib.hid (by rw [hxl]; exact Tryz.sizePr)
      have PIZ : Hid ((Tryz.prog.info? 67).map (fun i => (i.zero, i.size)) = some (some (.agg (prCells zeroPr).toArray), (prCells x).length)) := Lib.hid (by rw [hxl]; exact Tryz.infoPr)
      have PZS : Hid ((Value.agg (prCells zeroPr).toArray).cells.size = (prCells x).length) := Lib.hid (by rw [hxl]; rfl)
      have HX := Lib.hid (Whole.made wr 67 (prCells x).toArray)
      have HV1 := Lib.hid (HV.out.alloc hzv (.cells (prCells x).toArray 67))
      have HSN := Lib.hid (usersL_snoc hx f)
      rw [HN.out] at HSN
      clear hx
      rw [hadr]
      clear hc hadr hxl
      have i0 : (0 : Int) ≤ (k : Int) := by omega
      have i1 : (k : Int) < (m.procs.length : Int) := by omega
      go_upto_region 5 with (first
        | (refine wpList_load_at rfl 67 (.tmp 15) rfl (ad.add (k * 96)) rfl (prCells x) _ LD.out Tryz.underlying67 rfl PIX.out ?_)
        | (refine wpList_fresh rfl rfl 67 7 (.tmp 16) rfl rfl rfl rfl (prCells x) rfl rfl _ PIZ.out PZS.out prCells_one ?_))
      change Code.wp _ _ _ _ (wr.alloc (.cells (prCells x).toArray 67))
      have HGE : Hid (w1.heap.size ≤ wr.heap.size) := Lib.hid hzv
      clear LD PIZ PZS HV hzv
      generalize wr.alloc (.cells (prCells x).toArray 67) = w2 at *
      generalize wr.heap.size = g2 at *
      have hg2 := HX.out.lt
      have LSP := Lib.hid (pr_space_cells HXO.out HX.out)
      have SSP : Hid ((Tryz.prog.info? 62).map (·.size) = some (pgCells x.space).length) := Lib.hid (by rw [pgCells_length, HXO.out.space]; exact Tryz.sizeSpace)
      go_wp2_with (refine wpList_load_at rfl 62 (.tmp 17) rfl ⟨g2, 20, none⟩ rfl (pgCells x.space) _ LSP.out Tryz.underlying62 rfl SSP.out ?_)
      clear LSP
      obtain ⟨wo, hwo⟩ : ∃ wo : World, wo = wr := ⟨_, rfl⟩
      subst hwo
      go_loopw [5, 19] (fun n i wr => ∃ j z' : Nat, j ≤ 16 ∧ i = .int .i64 (j : Int) ∧ n = .int .i64 (z' : Int) ∧ z' ≤ 16 * k + j ∧ Hid (z + usersP (x.space.take j) f = z') ∧ Hid (Below w1.heap.size w1 wr)) (fun _ i _ => 16 - (intOf i).toNat)
      case atStart => exact ⟨0, z, by omega, rfl, rfl, by omega, Lib.hid rfl, HV1⟩
      case round =>
        clear HV1
        obtain ⟨j, z', hj, rfl, rfl, hz', HP, HV⟩ := hrel
        have hgs := HV.out.size
        by_cases hlj : j < 16
        · obtain ⟨g, hg⟩ := get_some (l := x.space) (k := j) (by rw [HXO.out.space]; exact hlj)
          have HPS := Lib.hid (usersP_snoc hg f)
          have HFR := Lib.hid (flat_row pgCells1 3 x.space (fun _ _ => rfl) hg)
          have hl1 : decide ((j : Int) < 16) = true := decide_eq_true (by omega)
          have hl2 : decide (j < 16) = true := decide_eq_true hlj
          have HVn := Lib.hid (HV.out.alloc hgs (.cells (pgCells1 g).toArray 60))
          have HYn := Lib.hid (Whole.made wr 60 (pgCells1 g).toArray)
          clear hg
          go_upto_region 8 with (first
            | (refine wpList_index_structs rfl 62 (.tmp 18) (.tmp 19) rfl 60 _ 16 3 (pgCells x.space) .i64 j rfl rfl Tryz.underlying62 Tryz.underlying60 Tryz.sizePg hlj (pgCells1 g) HFR.out ?_)
            | (refine wpList_fresh rfl rfl 60 9 (.tmp 21) rfl rfl rfl rfl (pgCells1 g) rfl rfl _ Tryz.infoPg rfl (pg_one g) ?_))
          change Code.wp _ _ _ _ (wr.alloc (.cells (pgCells1 g).toArray 60))
          clear HV HFR hl1 hl2
          generalize wr.alloc (.cells (pgCells1 g).toArray 60) = w5 at *
          generalize wr.heap.size = g3 at *
          obtain ⟨gi, gw, gf⟩ := g
          have y0 : w5.cell? ⟨g3, 0, none⟩ = some (.bool gi) := HYn.out.cell 0
          have y2 : w5.cell? ⟨g3, 2, none⟩ = some (.int .i64 gf) := HYn.out.cell 2
          by_cases hh : gi = true ∧ gf = f
          · obtain ⟨rfl, rfl⟩ := hh
            have HQ : Hid (z + usersP (x.space.take (j + 1)) gf = z' + 1) := Lib.hid (by rw [HPS.out, if_pos ⟨rfl, rfl⟩, ← HP.out]; omega)
            go_wp2_with fail
            go_roundw
            case rel =>
              have R : ∃ j' z'' : Nat, j' ≤ 16 ∧ Value.int .i64 ((j : Int) + 1) = .int .i64 (j' : Int) ∧ Value.int .i64 ((z' : Int) + 1) = .int .i64 (z'' : Int) ∧ z'' ≤ 16 * k + j' ∧ Hid (z + usersP (x.space.take j') gf = z'') ∧ Hid (Below w1.heap.size w1 w5) := ⟨j + 1, z' + 1, by omega, by go_num, by go_num, by omega, HQ, HVn⟩
              first | exact R | ((repeat apply Exists.intro); exact ⟨R, rfl⟩)
            case measure => simp [intOf]; omega
          · have HQ : Hid (z + usersP (x.space.take (j + 1)) f = z') := Lib.hid (by rw [HPS.out, if_neg hh, ← HP.out]; omega)
            have R : ∃ j' z'' : Nat, j' ≤ 16 ∧ Value.int .i64 ((j : Int) + 1) = .int .i64 (j' : Int) ∧ Value.int .i64 (z' : Int) = .int .i64 (z'' : Int) ∧ z'' ≤ 16 * k + j' ∧ Hid (z + usersP (x.space.take j') f = z'') ∧ Hid (Below w1.heap.size w1 w5) := ⟨j + 1, z', by omega, by go_num, rfl, by omega, HQ, HVn⟩
            have HR := Lib.hid R
            clear R
            cases gi with
            | false =>
              clear hh
              go_wp2_with fail
              go_roundw
              case rel => first | exact HR.out | ((repeat apply Exists.intro); exact ⟨HR.out, rfl⟩)
              case measure => simp [intOf]; omega
            | true =>
              have e1 : (gf == f) = false := beq_eq_false_iff_ne.2 (fun h => hh ⟨rfl, h⟩)
              clear hh
              go_wp2_with fail
              go_roundw
              case rel => first | exact HR.out | ((repeat apply Exists.intro); exact ⟨HR.out, rfl⟩)
              case measure => simp [intOf]; omega
        · obtain rfl : j = 16 := by omega
          have HQ : Hid (usersL (m.procs.take (k + 1)) f = z') := Lib.hid (by
            rw [HSN.out, ← HP.out, List.take_of_length_le (by rw [HXO.out.space]; omega)])
          rw [show ((16 : Nat) : Int) = 16 from rfl]
          go_wp2_with fail
          go_roundw
          case rel =>
            have R : ∃ k' z'' : Nat, k' ≤ m.procs.length ∧ Value.int .i64 ((k : Int) + 1) = .int .i64 (k' : Int) ∧ Value.int .i64 (z' : Int) = .int .i64 (z'' : Int) ∧ z'' ≤ 16 * k' ∧ Hid (usersL (m.procs.take k') f = z'') ∧ Hid (Below w1.heap.size w1 wr) := ⟨k + 1, z', by omega, by go_num, rfl, by omega, HQ, HV⟩
            first | exact R | ((repeat apply Exists.intro); exact ⟨R, rfl⟩)
          case measure => simp [intOf]; omega
    · obtain rfl : k = m.procs.length := by omega
      have hd : decide (m.procs.length < m.procs.length) = false := by simp
      go_wp2_with fail
      go_ret
      exact ⟨ret_int (by rw [HALL.out, HN.out]), by rw [HGX.out]; exact HW.out.trans (HV.out.mono (by omega))⟩
set_option maxRecDepth 100000 in
set_option maxHeartbeats 2000000 in
theorem rpipe_any (w : World) (a : MA) (m : Mc) (hm : McOk m) (hA : MAt w w.heap.size a m) (n : Int) :
    Calls Tryz.prog 99 #[.agg (mcL a m).toArray, .int .i64 n] w fun e w' => (∃ q : Nb, e = .returned (.tuple #[.agg (nbCells1 q).toArray, .bool (hasPipe m n)])) ∧ Below w.heap.size w w' := by
  have hs0 := (Whole.made w 30 (mcL a m).toArray).block (.cells #[.int .i64 0, S []] 70)
  have hs1 := Whole.made (w.alloc (.cells (mcL a m).toArray 30)) 70 #[.int .i64 0, S []]
  rw [show (w.alloc (.cells (mcL a m).toArray 30)).heap.size = w.heap.size + 1 by simp] at hs1
  have hb : Below w.heap.size w ((w.alloc (.cells (mcL a m).toArray 30)).alloc (.cells #[.int .i64 0, S []] 70)) := ((Below.refl _ _).alloc (Nat.le_refl _) _).alloc (by simp) _
  go_enter Tryz.func99, Tryz.ntmps99
  go_upto_region 1 with (fail)
  change Code.wp _ _ _ _ ((w.alloc (.cells (mcL a m).toArray 30)).alloc (.cells #[.int .i64 0, S []] 70))
  generalize (w.alloc (.cells (mcL a m).toArray 30)).alloc (.cells #[.int .i64 0, S []] 70) = w1 at *
  generalize hgx : w.heap.size = gx at *
  have HGX := Lib.hid hgx
  have HS0 := Lib.hid hs0
  have HS1 := Lib.hid hs1
  have HW := Lib.hid hb
  have hgl : gx + 1 < w1.heap.size := hs1.lt
  clear hgx hb hs0 hs1
  have HA := Lib.hid (hA.below HW.out)
  have HM := Lib.hid hm
  have HMA : Hid (∀ W, Below w1.heap.size w1 W → MAt W W.heap.size a m) := Lib.hid fun W hW => (HA.out.below (hW.mono (by omega))).wide (by have := hW.size; omega)
  have HC : Hid (∀ W, Below w1.heap.size w1 W → Whole W gx 30 (mcL a m).toArray) := Lib.hid fun W hW => HS0.out.below hW (by omega)
  clear hm hA
  have HZ : Hid (∀ W, Below w1.heap.size w1 W → Whole W (gx + 1) 70 (nbCells1 (0, [])).toArray) := Lib.hid fun W hW => HS1.out.below hW (by omega)
  have c8 : w1.cell? ⟨gx, 8, none⟩ = some (.slice a.Q m.pipes.length a.cQ) := (HC.out w1 (Below.refl _ _)).cell 8
  have HHP : Hid (hasPipe m n = m.pipes.any (fun q : Nb => q.1 == n)) := Lib.hid rfl
  go_wp2_with fail
  clear c8
  go_loopw [11] (fun i wr => ∃ k : Nat, k ≤ m.pipes.length ∧ i = .int .i64 (k : Int) ∧ Hid ((m.pipes.take k).any (fun q : Nb => q.1 == n) = false) ∧ Hid (Below w1.heap.size w1 wr)) (fun i _ => m.pipes.length - (intOf i).toNat)
  case atStart => exact ⟨0, by omega, rfl, Lib.hid rfl, Lib.hid (Below.refl _ _)⟩
  case round =>
    obtain ⟨k, hk, rfl, HN, HV⟩ := hrel
    have hk38 := HM.out.sizes.2.2.1
    by_cases hlt : k < m.pipes.length
    · obtain ⟨x, hx⟩ := get_some hlt
      obtain ⟨ad, hadr, had, hc⟩ := Lies.row (f := nbCells1) (n := 2) (HMA.out wr HV.out).Q (fun y hy => rfl) (by omega) hx
      have LD : Hid (∀ j v, (nbCells1 x)[j]? = some v → wr.cell? ((ad.add (k * 2)).add j) = some v) := Lib.hid hc
      have HY := Lib.hid (@any_yes _ (fun q : Nb => q.1 == n) m.pipes k x hx)
      have HNO := Lib.hid (@any_no _ (fun q : Nb => q.1 == n) m.pipes k x hx HN.out)
      have hzv := HV.out.size
      have HX := Lib.hid (Whole.made wr 70 (nbCells1 x).toArray)
      have HV1 := Lib.hid (HV.out.alloc hzv (.cells (nbCells1 x).toArray 70))
      rw [hadr]
      clear hc hx hadr
      have i0 : (0 : Int) ≤ (k : Int) := by omega
      have i1 : (k : Int) < (m.pipes.length : Int) := by omega
      go_upto_region 4 with (first
        | (refine wpList_load_at rfl 70 (.tmp 13) rfl (ad.add (k * 2)) rfl (nbCells1 x) _ LD.out Tryz.underlying70 rfl (by kernel_rfl) ?_)
        | (refine wpList_fresh rfl rfl 70 7 (.tmp 14) rfl rfl rfl rfl (nbCells1 x) rfl rfl _ Tryz.infoPi rfl (nb_one x) ?_))
      change Code.wp _ _ _ _ (wr.alloc (.cells (nbCells1 x).toArray 70))
      have HGE : Hid (w1.heap.size ≤ wr.heap.size) := Lib.hid hzv
      clear LD hzv HV
      generalize wr.alloc (.cells (nbCells1 x).toArray 70) = w2 at *
      generalize wr.heap.size = g2 at *
      have x0 : w2.cell? ⟨g2, 0, none⟩ = some (.int .i64 x.1) := HX.out.cell 0
      have LX : Hid (∀ j v, (nbCells1 x)[j]? = some v → w2.cell? ((⟨g2, 0, none⟩ : Addr).add j) = some v) := Lib.hid HX.out.reads
      by_cases hp : x.1 = n
      · have e1 : (x.1 == n) = true := beq_iff_eq.2 hp
        have HQ := Lib.hid (HY.out e1)
        have x1 : w2.cell? ⟨g2, 1, none⟩ = some (S x.2) := HX.out.cell 1
        clear hp HY HNO
        go_wp2_with (first
          | (refine wpList_store_all rfl 70 (.tmp 4) (.tmp 19) rfl rfl (gx + 1) rfl (nbCells1 x) rfl (by kernel_rfl) (nbCells1 (0, [])) 70 (HZ.out _ HV1.out) rfl (nb_one x) ?_; intro w3 HS3 HG3))
        have q0 := HS3.out.cell 0
        have q1 := HS3.out.cell 1
        refine bodyPost_ret (v := .tuple #[.agg #[.int .i64 x.1, S x.2], .bool true]) (by simp [results, Tryz.results99, go_sem, q0, q1, nbCells1]) rfl ⟨⟨x, by rw [HHP.out, HQ.out]; rfl⟩, ?_⟩
        rw [HGX.out]
        exact below_grown (HW.out.trans (HV1.out.mono (by omega))) HG3.out (Nat.le_trans (by omega) HV1.out.size) (by omega)
      · have e1 : (x.1 == n) = false := beq_eq_false_iff_ne.2 hp
        have HQ := Lib.hid (HNO.out e1)
        clear hp HY HNO
        go_wp2_with fail
        go_roundw
        case rel =>
          have R : ∃ k' : Nat, k' ≤ m.pipes.length ∧ Value.int .i64 ((k : Int) + 1) = .int .i64 (k' : Int) ∧ Hid ((m.pipes.take k').any (fun q : Nb => q.1 == n) = false) ∧ Hid (Below w1.heap.size w1 w2) := ⟨k + 1, by omega, by go_num, HQ, HV1⟩
          first | exact R | ((repeat apply Exists.intro); exact ⟨R, rfl⟩)
        case measure => simp [intOf]; omega
    · obtain rfl : k = m.pipes.length := by omega
      have hd : decide (m.pipes.length < m.pipes.length) = false := by simp
      rw [List.take_of_length_le (Nat.le_refl _)] at HN
      go_wp2_with (first
        | (refine wpList_store_all rfl 70 (.tmp 4) (.tmp 21) rfl rfl (gx + 1) rfl (nbCells1 (0, [])) rfl (by kernel_rfl) (nbCells1 (0, [])) 70 (HZ.out _ HV.out) rfl (nb_one (0, [])) ?_; intro w3 HS3 HG3))
      have q0 := HS3.out.cell 0
      have q1 := HS3.out.cell 1
      refine bodyPost_ret (v := .tuple #[.agg #[.int .i64 0, S []], .bool false]) (by simp [results, Tryz.results99, go_sem, q0, q1, nbCells1]) rfl ⟨⟨(0, []), by rw [HHP.out, HN.out]; rfl⟩, ?_⟩
      rw [HGX.out]
      exact below_grown (HW.out.trans (HV.out.mono (by omega))) HG3.out (Nat.le_trans (by omega) HV.out.size) (by omega)
def rfdB (m : Mc) (f : Fl) : Bool :=
  if f.kind = 0 ∨ f.kind = 1 ∨ f.kind = 2 then f.n == 0 && f.pos == 0
  else if f.kind = 3 then decide (1 ≤ f.n) && decide (f.n ≤ 64) && decide (0 ≤ f.pos) && decide (f.pos ≤ 8960)
  else if f.kind = 4 ∨ f.kind = 5 then f.pos == 0 && hasPipe m f.n
  else false
set_option maxRecDepth 100000 in
set_option maxHeartbeats 2000000 in
theorem rfd_any (w : World) (a : MA) (m : Mc) (hm : McOk m) (hA : MAt w w.heap.size a m) (f : Fl) :
    Calls Tryz.prog 46 #[.agg (mcL a m).toArray, .agg (flCells1 f).toArray] w fun e w' => e = .returned (.bool (rfdB m f)) ∧ Below w.heap.size w w' := by
  have hs0 := (Whole.made w 30 (mcL a m).toArray).block (.cells (flCells1 f).toArray 64)
  have hs1 := Whole.made (w.alloc (.cells (mcL a m).toArray 30)) 64 (flCells1 f).toArray
  rw [show (w.alloc (.cells (mcL a m).toArray 30)).heap.size = w.heap.size + 1 by simp] at hs1
  have hb : Below w.heap.size w ((w.alloc (.cells (mcL a m).toArray 30)).alloc (.cells (flCells1 f).toArray 64)) := ((Below.refl _ _).alloc (by first | exact Nat.le_refl _ | simp | (simp; omega)) _).alloc (by first | exact Nat.le_refl _ | simp | (simp; omega)) _
  go_enter Tryz.func46, Tryz.ntmps46
  go_upto_region 1 with (fail)
  change Code.wp _ _ _ _ ((w.alloc (.cells (mcL a m).toArray 30)).alloc (.cells (flCells1 f).toArray 64))
  generalize ((w.alloc (.cells (mcL a m).toArray 30)).alloc (.cells (flCells1 f).toArray 64)) = w1 at *
  generalize hgx : w.heap.size = gx at *
  have HGX := Lib.hid hgx
  have HS0 := Lib.hid hs0
  have HS1 := Lib.hid hs1
  have HW := Lib.hid hb
  have hgl : gx + 1 < w1.heap.size := hs1.lt
  clear hgx hb hs0 hs1
  have HA := Lib.hid (hA.below HW.out)
  have HM := Lib.hid hm
  have HMA : Hid (∀ W, Below w1.heap.size w1 W → MAt W W.heap.size a m) := Lib.hid fun W hW => (HA.out.below (hW.mono (by omega))).wide (by have := hW.size; omega)
  have HC : Hid (∀ W, Below w1.heap.size w1 W → Whole W gx 30 (mcL a m).toArray) := Lib.hid fun W hW => HS0.out.below hW (by omega)
  clear hm hA
  have c1 : w1.cell? ⟨gx + 1, 1, none⟩ = some (.int .i64 f.n) := HS1.out.cell 1
  have MI : Hid ((Tryz.prog.info? 30).map (·.size) = some (mcL a m).length) := Lib.hid (by rw [mcL_length]; exact Tryz.sizeMc)
  have LD : Hid (∀ j v, (mcL a m)[j]? = some v → w1.cell? ((⟨gx, 0, none⟩ : Addr).add j) = some v) := Lib.hid (HS0.out.reads)
  have CP := Lib.hid (rpipe_any w1 a m HM.out (HMA.out w1 (Below.refl _ _)) f.n)
  obtain ⟨kd, n, ps⟩ := f
  dsimp only at c1 CP
  generalize hhp : hasPipe m n = hp at *
  have HHP := Lib.hid hhp
  clear hhp
  go_upto_region 2 with (first
    | (refine wpList_load_at rfl 30 (.tmp 2) rfl ⟨gx, 0, none⟩ rfl (mcL a m) _ LD.out Tryz.underlying30 rfl MI.out ?_)
    | (go_at_call 99; refine CP.out.mono ?_; rintro e w3 ⟨⟨q, rfl⟩, hb3⟩)
    | (refine wpList_fresh rfl rfl 70 5 (.tmp 12) rfl rfl rfl rfl (nbCells1 q) rfl rfl _ Tryz.infoPi rfl (nb_one q) ?_))
  change Code.wp _ _ _ _ (w3.alloc (.cells (nbCells1 q).toArray 70))
  have HV := Lib.hid (hb3.alloc hb3.size (.cells (nbCells1 q).toArray 70))
  have HSB := Lib.hid (HS1.out.below HV.out (by omega))
  clear hb3 c1 CP LD MI
  generalize w3.alloc (.cells (nbCells1 q).toArray 70) = w4 at *
  have c0 : w4.cell? ⟨gx + 1, 0, none⟩ = some (.int .i64 kd) := HSB.out.cell 0
  have c1 : w4.cell? ⟨gx + 1, 1, none⟩ = some (.int .i64 n) := HSB.out.cell 1
  have c2 : w4.cell? ⟨gx + 1, 2, none⟩ = some (.int .i64 ps) := HSB.out.cell 2
  by_cases e0 : kd = 0
  · subst e0
    skip
    go_wp2_with fail
    all_goals
      go_ret
      refine ⟨ret_bool ?_, by rw [HGX.out]; exact HW.out.trans (HV.out.mono (by omega))⟩
      simp [rfdB, *]
      try omega
  by_cases e1 : kd = 1
  · subst e1
    clear e0
    go_wp2_with fail
    all_goals
      go_ret
      refine ⟨ret_bool ?_, by rw [HGX.out]; exact HW.out.trans (HV.out.mono (by omega))⟩
      simp [rfdB, *]
      try omega
  by_cases e2 : kd = 2
  · subst e2
    clear e0 e1
    go_wp2_with fail
    all_goals
      go_ret
      refine ⟨ret_bool ?_, by rw [HGX.out]; exact HW.out.trans (HV.out.mono (by omega))⟩
      simp [rfdB, *]
      try omega
  by_cases e3 : kd = 3
  · subst e3
    clear e0 e1 e2
    go_wp2_with fail
    all_goals
      go_ret
      refine ⟨ret_bool ?_, by rw [HGX.out]; exact HW.out.trans (HV.out.mono (by omega))⟩
      simp [rfdB, *]
      try omega
  have d0 : (kd == 0) = false := beq_eq_false_iff_ne.2 e0
  have d1 : (kd == 1) = false := beq_eq_false_iff_ne.2 e1
  have d2 : (kd == 2) = false := beq_eq_false_iff_ne.2 e2
  have d3 : (kd == 3) = false := beq_eq_false_iff_ne.2 e3
  by_cases e4 : kd = 4 ∨ kd = 5
  · have HR : Hid (rfdB m ⟨kd, n, ps⟩ = (ps == 0 && hp)) := Lib.hid (by
      rw [← HHP.out]
      rcases e4 with rfl | rfl <;> simp [rfdB])
    by_cases hps : ps = 0
    · subst hps
      rcases e4 with rfl | rfl
      all_goals
        clear d0 d1 d2 d3 e0 e1 e2 e3
        go_wp2_with fail
        go_ret
        exact ⟨ret_bool (by rw [HR.out]; rfl), by rw [HGX.out]; exact HW.out.trans (HV.out.mono (by omega))⟩
    · have dp : (ps == 0) = false := beq_eq_false_iff_ne.2 hps
      have HR' : Hid (false = rfdB m ⟨kd, n, ps⟩) := Lib.hid (by rw [HR.out, dp]; rfl)
      rcases e4 with rfl | rfl
      all_goals
        clear d0 d1 d2 d3 e0 e1 e2 e3 hps
        go_wp2_with fail
        go_ret
        exact ⟨ret_bool HR'.out, by rw [HGX.out]; exact HW.out.trans (HV.out.mono (by omega))⟩
  · have e5 : ¬ kd = 4 := fun h => e4 (.inl h)
    have e6 : ¬ kd = 5 := fun h => e4 (.inr h)
    have d4 : (kd == 4) = false := beq_eq_false_iff_ne.2 e5
    have d5 : (kd == 5) = false := beq_eq_false_iff_ne.2 e6
    have HE : Hid (rfdB m ⟨kd, n, ps⟩ = false) := Lib.hid (by simp [rfdB, e0, e1, e2, e3, e5, e6])
    clear e0 e1 e2 e3 e4 e5 e6
    go_wp2_with fail
    go_ret
    exact ⟨ret_bool HE.out.symm, by rw [HGX.out]; exact HW.out.trans (HV.out.mono (by omega))⟩
end Go.Proofs.YtmmfcjkabpffeaaGreatDoor
