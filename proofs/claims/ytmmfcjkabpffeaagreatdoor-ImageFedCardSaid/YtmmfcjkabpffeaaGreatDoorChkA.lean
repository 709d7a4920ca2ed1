/-
  Walks: the small functions of state.Check. (Printed by gen_chka.py.)
-/
import Derived.Test.YtmmfcjkabpffeaaGreatDoorPlnA
import Derived.Test.YtmmfcjkabpffeaaGreatDoorMcA
namespace Go.Proofs.YtmmfcjkabpffeaaGreatDoor
open Go.RowKit

theorem hb2_cells {w : World} {g : Nat} {t : TypeId} {p : Pr} {r0 : Int} (h : Whole w g t (prCells p).toArray) (h0 : (prCells p)[3]? = some (.int .u32 r0)) (h1 : (prCells p)[92 + 1]? = some (.int .u32 p.code)) (h2 : (prCells p)[92 + 2]? = some (.int .i64 p.why)) (h3 : (prCells p)[92 + 3]? = some (.int .u64 p.n)) :
    w.cell? ⟨g, 2, none⟩ = some (.int .i64 p.state) ∧ w.cell? ⟨g, 3, none⟩ = some (.int .u32 r0) ∧ w.cell? ⟨g, 93, none⟩ = some (.int .u32 p.code) ∧ w.cell? ⟨g, 94, none⟩ = some (.int .i64 p.why) ∧ w.cell? ⟨g, 95, none⟩ = some (.int .u64 p.n) :=
  ⟨h.cell 2, (h.cell 3).trans (by rw [List.getElem?_toArray]; exact h0), (h.cell 93).trans (by rw [List.getElem?_toArray]; exact h1), (h.cell 94).trans (by rw [List.getElem?_toArray]; exact h2), (h.cell 95).trans (by rw [List.getElem?_toArray]; exact h3)⟩
theorem pr_size {p : Pr} (h : PrOk p) : (prCells p).toArray.size = 96 := by rw [List.size_toArray]; exact prCells_length h
set_option maxRecDepth 100000 in
set_option maxHeartbeats 1000000 in
theorem lives_any (w : World) (p : Pr) (hp : PrOk p) :
    Calls Tryz.prog 136 #[.agg (prCells p).toArray] w fun e w' => e = .returned (.bool (livesB p)) ∧ Below w.heap.size w w' := by
  have hsz := pr_size hp
  have hs0 := Whole.made w 67 (prCells p).toArray
  have hb : Below w.heap.size w (w.alloc (.cells (prCells p).toArray 67)) := (Below.refl _ _).alloc (Nat.le_refl _) _
  go_enter Tryz.func136, Tryz.ntmps136
  go_upto_region 1 with (fail)
  change Code.wp _ _ _ _ (w.alloc (.cells (prCells p).toArray 67))
  generalize (w.alloc (.cells (prCells p).toArray 67)) = w1 at *
  generalize hgx : w.heap.size = gx at *
  have HGX := Lib.hid hgx
  have HS0 := Lib.hid hs0
  have HW := Lib.hid hb
  have hgl : gx < w1.heap.size := hs0.lt
  clear hgx hb hs0
  have c2 : w1.cell? ⟨gx, 2, none⟩ = some (.int .i64 p.state) := HS0.out.cell 2
  clear hp hsz
  go_wp2_with fail
  all_goals
    go_ret
    refine ⟨ret_bool ?_, by rw [HGX.out]; exact HW.out⟩
    unfold livesB
    simp [*]
set_option maxRecDepth 100000 in
set_option maxHeartbeats 1000000 in
theorem fields_any (w : World) (p : Pr) (hp : PrOk p) :
    Calls Tryz.prog 109 #[.agg (prCells p).toArray] w fun e w' => e = .returned (.bool (fieldsB p)) ∧ Below w.heap.size w w' := by
  have hsz := pr_size hp
  have hr0 : (prCells p)[3]? = some (.int .u32 (p.regs.getD 0 0)) := by
    rw [show 3 = 3 + 0 from rfl, pr_reg hp (by omega)]
    have := hp.regs
    cases h : p.regs with
    | nil => rw [h] at this; simp at this
    | cons x l => rfl
  have hr1 := pr_last hp 1
  have hr2 := pr_last hp 2
  have hr3 := pr_last hp 3
  have hs0 := Whole.made w 67 (prCells p).toArray
  have hb : Below w.heap.size w (w.alloc (.cells (prCells p).toArray 67)) := (Below.refl _ _).alloc (Nat.le_refl _) _
  go_enter Tryz.func109, Tryz.ntmps109
  go_upto_region 1 with (fail)
  change Code.wp _ _ _ _ (w.alloc (.cells (prCells p).toArray 67))
  generalize (w.alloc (.cells (prCells p).toArray 67)) = w1 at *
  generalize hgx : w.heap.size = gx at *
  have HGX := Lib.hid hgx
  have HS0 := Lib.hid hs0
  have HW := Lib.hid hb
  have hgl : gx < w1.heap.size := hs0.lt
  clear hgx hb hs0
  obtain ⟨r0, hr⟩ : ∃ z, p.regs.getD 0 0 = z := ⟨_, rfl⟩
  have HR := Lib.hid hr
  rw [hr] at hr0
  clear hr
  have HL := Lib.hid (fun (W : World) (hW : Below w1.heap.size w1 W) => (HS0.out.below hW (by omega)).reads)
  have h2 := hb2_cells HS0.out hr0 hr1 hr2 hr3
  obtain ⟨c2, c3, c93, c94, c95⟩ := h2
  have CL := Lib.hid (lives_any w1 p hp)
  have hpl := prCells_length hp
  have PI : Hid ((Tryz.prog.info? 67).map (·.size) = some (prCells p).length) := Lib.hid (by rw [hpl]; exact Tryz.sizePr)
  have LD : Hid (∀ j v, (prCells p)[j]? = some v → w1.cell? ((⟨gx, 0, none⟩ : Addr).add j) = some v) := Lib.hid (HS0.out.reads)
  clear hp hsz hr0 hr1 hr2 hr3 HL hpl
  go_wp2_with (refine wpList_load_at rfl 67 (.tmp 1) rfl ⟨gx, 0, none⟩ rfl (prCells p) _ LD.out Tryz.underlying67 rfl PI.out ?_)
  refine CL.out.mono ?_
  rintro e w2 ⟨rfl, hb2⟩
  have HB2 := Lib.hid (HW.out.trans (hb2.mono (by omega)))
  have k2 := hb2
  have d2 := (hb2.cell (p := ⟨gx, 2, none⟩) (by show gx < _; omega)).trans c2
  have d3 := (hb2.cell (p := ⟨gx, 3, none⟩) (by show gx < _; omega)).trans c3
  have d93 := (hb2.cell (p := ⟨gx, 93, none⟩) (by show gx < _; omega)).trans c93
  have d94 := (hb2.cell (p := ⟨gx, 94, none⟩) (by show gx < _; omega)).trans c94
  have d95 := (hb2.cell (p := ⟨gx, 95, none⟩) (by show gx < _; omega)).trans c95
  clear hb2 k2 c2 c3 c93 c94 c95 LD PI CL
  cases hl : livesB p with
  | true =>
    have HLV := Lib.hid hl
    clear hl
    go_wp2_with fail
    all_goals
      go_ret
      refine ⟨ret_bool ?_, by rw [HGX.out]; exact HB2.out⟩
      unfold fieldsB
      rw [HLV.out, HR.out]
      simp only [bne_iff_ne, beq_iff_eq, bne_eq_false_iff_eq, beq_eq_false_iff_ne, ne_eq] at *
      simp [*]
      try omega
  | false =>
    have HLV := Lib.hid hl
    clear hl
    go_wp2_with fail
    all_goals
      go_ret
      refine ⟨ret_bool ?_, by rw [HGX.out]; exact HB2.out⟩
      unfold fieldsB
      rw [HLV.out, HR.out]
      try simp only [bne_iff_ne, bne_eq_false_iff_eq, ne_eq] at *
      simp [*]
      try omega
def parB (p q : Pr) : Bool := q.pid == p.parent && livesB q
set_option maxRecDepth 100000 in
set_option maxHeartbeats 1000000 in
theorem par_any (w : World) (p q : Pr) (hq : PrOk q) (g : Nat) (hg : w.cell? ⟨g, 1, none⟩ = some (.int .i64 p.parent)) (hgw : g < w.heap.size) :
    Calls Tryz.prog 138 #[.agg (prCells q).toArray, .pointer (some ⟨g, 0, none⟩)] w fun e w' => e = .returned (.bool (parB p q)) ∧ Below w.heap.size w w' := by
  have hsz := pr_size hq
  have hs0 := Whole.made w 67 (prCells q).toArray
  have hb : Below w.heap.size w (w.alloc (.cells (prCells q).toArray 67)) := (Below.refl _ _).alloc (Nat.le_refl _) _
  go_enter Tryz.func138, Tryz.ntmps138
  go_upto_region 1 with (fail)
  change Code.wp _ _ _ _ (w.alloc (.cells (prCells q).toArray 67))
  generalize (w.alloc (.cells (prCells q).toArray 67)) = w1 at *
  generalize hgx : w.heap.size = gx at *
  have HGX := Lib.hid hgx
  have HS0 := Lib.hid hs0
  have HW := Lib.hid hb
  have hgl : gx < w1.heap.size := hs0.lt
  clear hgx hb hs0
  have c0 : w1.cell? ⟨gx, 0, none⟩ = some (.int .i64 q.pid) := HS0.out.cell 0
  have c1 : w1.cell? ⟨g, 1, none⟩ = some (.int .i64 p.parent) := (HW.out.cell (p := ⟨g, 1, none⟩) hgw).trans hg
  have CL := Lib.hid (lives_any w1 q hq)
  have PI : Hid (∀ x : Pr, PrOk x → (Tryz.prog.info? 67).map (·.size) = some (prCells x).length) := Lib.hid fun x hx => by rw [prCells_length hx]; exact Tryz.sizePr
  have LD : Hid (∀ j v, (prCells q)[j]? = some v → w1.cell? ((⟨gx, 0, none⟩ : Addr).add j) = some v) := Lib.hid (HS0.out.reads)
  have HQ := Lib.hid hq
  clear hq hsz hg
  by_cases hpp : q.pid = p.parent
  · have HP := Lib.hid hpp
    have d : (q.pid == p.parent) = true := beq_iff_eq.2 hpp
    clear hpp
    go_wp2_with (first | (refine wpList_load_g (by simp [Region.wanted, yielded]) 67 (.tmp 2) rfl ⟨gx, 0, none⟩ rfl (prCells q) _ LD.out Tryz.underlying67 rfl (PI.out _ HQ.out) ?_))
    refine CL.out.mono ?_
    rintro e w2 ⟨rfl, hb2⟩
    have HB2 := Lib.hid (HW.out.trans (hb2.mono (by omega)))
    clear hb2 c0 c1 CL LD PI
    go_wp2_with fail
    go_ret
    exact ⟨ret_bool (by unfold parB; rw [HP.out]; simp), by rw [HGX.out]; exact HB2.out⟩
  · have HP := Lib.hid hpp
    have d : (q.pid == p.parent) = false := beq_eq_false_iff_ne.2 hpp
    clear hpp CL LD PI
    go_wp2_with fail
    go_ret
    exact ⟨ret_bool (by unfold parB; simp [HP.out]), by rw [HGX.out]; exact HW.out⟩
set_option maxRecDepth 100000 in
set_option maxHeartbeats 1000000 in
theorem indexPr_any (w : World) (A : Option Addr) (c : Nat) (l : List Pr) (hl : ∀ x ∈ l, PrOk x) (hA : Lies w w.heap.size A (prsCells l)) (hn : l.length ≤ 274877906944) (p : Pr) (g : Nat) (hg : w.cell? ⟨g, 1, none⟩ = some (.int .i64 p.parent)) (hgw : g < w.heap.size) :
    Calls Tryz.prog 148 #[.slice A l.length c, .func (.func 138) #[] #[.pointer (some ⟨g, 0, none⟩)]] w fun e w' => (∃ z : Int, e = .returned (.int .i64 z) ∧ decide (0 ≤ z) = l.any (parB p)) ∧ Below w.heap.size w w' := by
  have HA := Lib.hid hA
  clear hA
  have HL := Lib.hid hl
  have HG := Lib.hid hg
  clear hg hl
  have PI : Hid (∀ x : Pr, PrOk x → (Tryz.prog.info? 67).map (·.size) = some (prCells x).length) := Lib.hid fun x hx => by rw [prCells_length hx]; exact Tryz.sizePr
  go_enter Tryz.func148, Tryz.ntmps148
  go_wp2_with fail
  go_loopw [8] (fun i wr => ∃ k : Nat, k ≤ l.length ∧ i = .int .i64 k ∧ Hid ((l.take k).any (parB p) = false) ∧ Hid (Below w.heap.size w wr)) (fun i _ => l.length - (intOf i).toNat)
  case atStart => exact ⟨0, by omega, rfl, Lib.hid rfl, Lib.hid (Below.refl _ _)⟩
  case round =>
    obtain ⟨k, hk, rfl, HN, HW⟩ := hrel
    by_cases hlt : k < l.length
    · obtain ⟨x, hx⟩ := get_some hlt
      have HY := Lib.hid (@any_yes _ (parB p) l k x hx)
      have HNO := Lib.hid (@any_no _ (parB p) l k x hx HN.out)
      obtain ⟨ad, rfl, had, hc⟩ := Lies.row (f := prCells) (n := 96) HA.out (fun y hy => prCells_length (HL.out y hy)) (by omega) hx
      have hxo := Lib.hid (HL.out x (List.mem_of_getElem? hx))
      have LD : Hid (∀ j v, (prCells x)[j]? = some v → wr.cell? ((ad.add (k * 96)).add j) = some v) := Lib.hid fun j v h => (HW.out.cell (by rw [add_block, add_block]; exact had)).trans (hc j v h)
      have CP := Lib.hid (par_any wr p x hxo.out g ((HW.out.cell (p := ⟨g, 1, none⟩) hgw).trans HG.out) (by have := HW.out.size; omega))
      clear hc
      clear hx
      have i0 : (0 : Int) ≤ (k : Int) := by omega
      have i1 : (k : Int) < (l.length : Int) := by omega
      go_wp2_with (refine wpList_load_at rfl 67 (.tmp 14) rfl (ad.add (k * 96)) rfl (prCells x) _ LD.out Tryz.underlying67 rfl (PI.out _ hxo.out) ?_)
      refine CP.out.mono ?_
      clear LD CP
      rintro e w1 ⟨rfl, hb1⟩
      have HW1 := Lib.hid (HW.out.trans (hb1.mono HW.out.size))
      clear hb1
      cases hv : (parB p) x with
      | true =>
        have HQ := Lib.hid (HY.out hv)
        have hv' : (parB p x) = true := hv
        clear hv HY HNO
        go_wp2_with fail
        go_ret
        exact ⟨⟨k, rfl, by rw [HQ.out]; simp⟩, HW1.out⟩
      | false =>
        have HQ := Lib.hid (HNO.out hv)
        have hv' : (parB p x) = false := hv
        clear hv HY HNO
        go_wp2_with fail
        go_roundw
        case rel =>
          have R : ∃ k' : Nat, k' ≤ l.length ∧ Value.int .i64 ((k : Int) + 1) = .int .i64 k' ∧ Hid ((l.take k').any (parB p) = false) ∧ Hid (Below w.heap.size w w1) := ⟨k + 1, by omega, by go_num, HQ, HW1⟩
          first | exact R | ((repeat apply Exists.intro); exact ⟨R, rfl⟩)
        case measure => simp [intOf]; omega
    · obtain rfl : k = l.length := by omega
      have hd : decide (l.length < l.length) = false := by simp
      rw [List.take_of_length_le (Nat.le_refl _)] at HN
      go_wp2_with fail
      go_ret
      exact ⟨⟨-1, rfl, by rw [HN.out]; rfl⟩, HW.out⟩
set_option maxRecDepth 100000 in
set_option maxHeartbeats 1000000 in
theorem containsPr_any (w : World) (A : Option Addr) (c : Nat) (l : List Pr) (hl : ∀ x ∈ l, PrOk x) (hA : Lies w w.heap.size A (prsCells l)) (hn : l.length ≤ 274877906944) (p : Pr) (g : Nat) (hg : w.cell? ⟨g, 1, none⟩ = some (.int .i64 p.parent)) (hgw : g < w.heap.size) :
    Calls Tryz.prog 137 #[.slice A l.length c, .func (.func 138) #[] #[.pointer (some ⟨g, 0, none⟩)]] w fun e w' => e = .returned (.bool (l.any (parB p))) ∧ Below w.heap.size w w' := by
  have HC := Lib.hid (indexPr_any w A c l hl hA hn p g hg hgw)
  clear hl hA hg
  go_enter Tryz.func137, Tryz.ntmps137
  go_wp2_with fail
  refine HC.out.mono ?_
  rintro e w1 ⟨⟨z, rfl, hz⟩, hb⟩
  have HZ := Lib.hid hz
  clear hz
  go_wp2_with fail
  go_ret
  exact ⟨by rw [← HZ.out]; rfl, hb⟩
set_option maxRecDepth 100000 in
set_option maxHeartbeats 1000000 in
theorem parent_any (w : World) (a : MA) (m : Mc) (hm : McOk m) (hA : MAt w w.heap.size a m) (p : Pr) (hp : PrOk p) :
    Calls Tryz.prog 110 #[.agg (mcL a m).toArray, .agg (prCells p).toArray] w fun e w' => e = .returned (.bool (parentB m p)) ∧ Below w.heap.size w w' := by
  have hsz := pr_size hp
  have hs0 := (Whole.made w 30 (mcL a m).toArray).block (.cells (prCells p).toArray 67)
  have hs1 := Whole.made (w.alloc (.cells (mcL a m).toArray 30)) 67 (prCells p).toArray
  rw [show (w.alloc (.cells (mcL a m).toArray 30)).heap.size = w.heap.size + 1 by simp] at hs1
  have hb : Below w.heap.size w ((w.alloc (.cells (mcL a m).toArray 30)).alloc (.cells (prCells p).toArray 67)) := ((Below.refl _ _).alloc (by first | exact Nat.le_refl _ | simp | (simp; omega)) _).alloc (by first | exact Nat.le_refl _ | simp | (simp; omega)) _
  go_enter Tryz.func110, Tryz.ntmps110
  go_upto_region 1 with (fail)
  change Code.wp _ _ _ _ ((w.alloc (.cells (mcL a m).toArray 30)).alloc (.cells (prCells p).toArray 67))
  generalize ((w.alloc (.cells (mcL a m).toArray 30)).alloc (.cells (prCells p).toArray 67)) = w1 at *
  generalize hgx : w.heap.size = gx at *
  have HGX := Lib.hid hgx
  have HS0 := Lib.hid hs0
  have HS1 := Lib.hid hs1
  have HW := Lib.hid hb
  have hgl : gx + 1 < w1.heap.size := hs1.lt
  clear hgx hb hs0 hs1
  have HA := Lib.hid (hA.below HW.out)
  have HM := Lib.hid hm
  have HP := Lib.hid hp
  have c1 : w1.cell? ⟨gx + 1, 1, none⟩ = some (.int .i64 p.parent) := HS1.out.cell 1
  have m5 : w1.cell? ⟨gx, 5, none⟩ = some (.slice a.P m.procs.length a.cP) := HS0.out.cell 5
  have CL := Lib.hid (lives_any w1 p hp)
  have PI : Hid (∀ x : Pr, PrOk x → (Tryz.prog.info? 67).map (·.size) = some (prCells x).length) := Lib.hid fun x hx => by rw [prCells_length hx]; exact Tryz.sizePr
  have LD : Hid (∀ j v, (prCells p)[j]? = some v → w1.cell? ((⟨gx + 1, 0, none⟩ : Addr).add j) = some v) := Lib.hid (HS1.out.reads)
  have CC : Hid (∀ W, Below w1.heap.size w1 W → Calls Tryz.prog 137 #[.slice a.P m.procs.length a.cP, .func (.func 138) #[] #[.pointer (some ⟨gx + 1, 0, none⟩)]] W fun e w' => e = .returned (.bool (m.procs.any (parB p))) ∧ Below W.heap.size W w') := Lib.hid fun W hW =>
    containsPr_any W a.P a.cP m.procs HM.out.procs ((HA.out.P.below (hW.mono (by omega))).wide (by have := hW.size; omega)) HM.out.sizes.2.1 p (gx + 1) ((hW.cell (p := ⟨gx + 1, 1, none⟩) (by show gx + 1 < _; omega)).trans c1) (by have := hW.size; omega)
  clear hA hm hp hsz
  cases hpp : (p.parent == 0) with
  | true =>
    have hp0 : p.parent = 0 := beq_iff_eq.1 hpp
    have HP0 := Lib.hid hpp
    have c1' : w1.cell? ⟨gx + 1, 1, none⟩ = some (.int .i64 0) := by rw [c1, hp0]
    clear c1 hp0 hpp
    go_wp2_with (first | (refine wpList_load_g (by simp [Region.wanted, yielded]) 67 (.tmp 3) rfl ⟨gx + 1, 0, none⟩ rfl (prCells p) _ LD.out Tryz.underlying67 rfl (PI.out _ HP.out) ?_))
    refine CL.out.mono ?_
    rintro e w2 ⟨rfl, hb2⟩
    have HB2 := Lib.hid hb2
    have HW2 := Lib.hid (HW.out.trans (hb2.mono (by omega)))
    have n5 := (hb2.cell (p := ⟨gx, 5, none⟩) (by show gx < _; omega)).trans m5
    clear hb2 m5 c1' CL LD PI
    cases hl : livesB p with
    | true =>
      have HLV := Lib.hid hl
      clear hl
      go_wp2_with fail
      go_ret
      exact ⟨ret_bool (by unfold parentB; rw [HP0.out, HLV.out]; rfl), by rw [HGX.out]; exact HW2.out⟩
    | false =>
      have HLV := Lib.hid hl
      clear hl
      go_wp2_with fail
      refine (CC.out _ HB2.out).mono ?_
      rintro e w3 ⟨rfl, hb3⟩
      have HW3 := Lib.hid (HW2.out.trans (hb3.mono (by have := HB2.out.size; omega)))
      clear hb3
      go_wp2_with fail
      go_ret
      exact ⟨ret_bool (by unfold parentB; rw [HP0.out, HLV.out]; rfl), by rw [HGX.out]; exact HW3.out⟩
  | false =>
    have HP0 := Lib.hid hpp
    clear CL LD PI
    go_wp2_with fail
    refine (CC.out _ (Below.refl _ _)).mono ?_
    rintro e w3 ⟨rfl, hb3⟩
    have HW3 := Lib.hid (HW.out.trans (hb3.mono (by omega)))
    clear hb3
    go_wp2_with fail
    go_ret
    exact ⟨ret_bool (by unfold parentB; rw [HP0.out]; rfl), by rw [HGX.out]; exact HW3.out⟩
set_option maxRecDepth 100000 in
set_option maxHeartbeats 1000000 in
theorem plc_any (w : World) (n : Int) (q : Nb) (g : Nat) (hg : w.cell? ⟨g, 0, none⟩ = some (.int .i64 n)) (hgw : g < w.heap.size) :
    Calls Tryz.prog 150 #[.agg (nbCells1 q).toArray, .pointer (some ⟨g, 0, none⟩)] w fun e w' => e = .returned (.bool (q.1 == n)) ∧ Below w.heap.size w w' := by
  have hs0 := Whole.made w 70 (nbCells1 q).toArray
  have hb : Below w.heap.size w (w.alloc (.cells (nbCells1 q).toArray 70)) := (Below.refl _ _).alloc (Nat.le_refl _) _
  go_enter Tryz.func150, Tryz.ntmps150
  go_upto_region 1 with (fail)
  change Code.wp _ _ _ _ (w.alloc (.cells (nbCells1 q).toArray 70))
  generalize (w.alloc (.cells (nbCells1 q).toArray 70)) = w1 at *
  generalize hgx : w.heap.size = gx at *
  have HGX := Lib.hid hgx
  have HS0 := Lib.hid hs0
  have HW := Lib.hid hb
  have hgl : gx < w1.heap.size := hs0.lt
  clear hgx hb hs0
  have c0 : w1.cell? ⟨gx, 0, none⟩ = some (.int .i64 q.1) := HS0.out.cell 0
  have c1 : w1.cell? ⟨g, 0, none⟩ = some (.int .i64 n) := (HW.out.cell (p := ⟨g, 0, none⟩) hgw).trans hg
  clear hg
  go_wp2_with fail
  go_ret
  exact ⟨rfl, by rw [HGX.out]; exact HW.out⟩
set_option maxRecDepth 100000 in
set_option maxHeartbeats 1000000 in
theorem indexNb_any (w : World) (A : Option Addr) (c : Nat) (l : List Nb)  (hA : Lies w w.heap.size A (nbCells l)) (hn : l.length ≤ 9223372036854775807) (n : Int) (g : Nat) (hg : w.cell? ⟨g, 0, none⟩ = some (.int .i64 n)) (hgw : g < w.heap.size) :
    Calls Tryz.prog 149 #[.slice A l.length c, .func (.func 150) #[] #[.pointer (some ⟨g, 0, none⟩)]] w fun e w' => (∃ z : Int, e = .returned (.int .i64 z) ∧ decide (0 ≤ z) = l.any (fun q => q.1 == n)) ∧ Below w.heap.size w w' := by
  have HA := Lib.hid hA
  clear hA
  have HG := Lib.hid hg
  clear hg
  go_enter Tryz.func149, Tryz.ntmps149
  go_wp2_with fail
  go_loopw [8] (fun i wr => ∃ k : Nat, k ≤ l.length ∧ i = .int .i64 k ∧ Hid ((l.take k).any (fun q => q.1 == n) = false) ∧ Hid (Below w.heap.size w wr)) (fun i _ => l.length - (intOf i).toNat)
  case atStart => exact ⟨0, by omega, rfl, Lib.hid rfl, Lib.hid (Below.refl _ _)⟩
  case round =>
    obtain ⟨k, hk, rfl, HN, HW⟩ := hrel
    by_cases hlt : k < l.length
    · obtain ⟨x, hx⟩ := get_some hlt
      have HY := Lib.hid (@any_yes _ (fun q => q.1 == n) l k x hx)
      have HNO := Lib.hid (@any_no _ (fun q => q.1 == n) l k x hx HN.out)
      obtain ⟨ad, rfl, had, hc⟩ := Lies.row (f := nbCells1) (n := 2) HA.out (fun y hy => rfl) (by omega) hx
      have LD : Hid (∀ j v, (nbCells1 x)[j]? = some v → wr.cell? ((ad.add (k * 2)).add j) = some v) := Lib.hid fun j v h => (HW.out.cell (by rw [add_block, add_block]; exact had)).trans (hc j v h)
      have CP := Lib.hid (plc_any wr n x g ((HW.out.cell (p := ⟨g, 0, none⟩) hgw).trans HG.out) (by have := HW.out.size; omega))
      clear hc
      clear hx
      have i0 : (0 : Int) ≤ (k : Int) := by omega
      have i1 : (k : Int) < (l.length : Int) := by omega
      go_wp2_with (refine wpList_load_at rfl 70 (.tmp 14) rfl (ad.add (k * 2)) rfl (nbCells1 x) _ LD.out Tryz.underlying70 rfl (by kernel_rfl) ?_)
      refine CP.out.mono ?_
      clear LD CP
      rintro e w1 ⟨rfl, hb1⟩
      have HW1 := Lib.hid (HW.out.trans (hb1.mono HW.out.size))
      clear hb1
      cases hv : (fun q => q.1 == n) x with
      | true =>
        have HQ := Lib.hid (HY.out hv)
        have hv' : (x.1 == n) = true := hv
        clear hv HY HNO
        go_wp2_with fail
        go_ret
        exact ⟨⟨k, rfl, by rw [HQ.out]; simp⟩, HW1.out⟩
      | false =>
        have HQ := Lib.hid (HNO.out hv)
        have hv' : (x.1 == n) = false := hv
        clear hv HY HNO
        go_wp2_with fail
        go_roundw
        case rel =>
          have R : ∃ k' : Nat, k' ≤ l.length ∧ Value.int .i64 ((k : Int) + 1) = .int .i64 k' ∧ Hid ((l.take k').any (fun q => q.1 == n) = false) ∧ Hid (Below w.heap.size w w1) := ⟨k + 1, by omega, by go_num, HQ, HW1⟩
          first | exact R | ((repeat apply Exists.intro); exact ⟨R, rfl⟩)
        case measure => simp [intOf]; omega
    · obtain rfl : k = l.length := by omega
      have hd : decide (l.length < l.length) = false := by simp
      rw [List.take_of_length_le (Nat.le_refl _)] at HN
      go_wp2_with fail
      go_ret
      exact ⟨⟨-1, rfl, by rw [HN.out]; rfl⟩, HW.out⟩
set_option maxRecDepth 100000 in
set_option maxHeartbeats 1000000 in
theorem place_any (w : World) (a : MA) (m : Mc) (hm : McOk m) (hA : MAt w w.heap.size a m) (n : Int) :
    Calls Tryz.prog 139 #[.agg (mcL a m).toArray, .int .i64 n] w fun e w' => (∃ z : Int, e = .returned (.int .i64 z) ∧ decide (0 ≤ z) = hasPipe m n) ∧ Below w.heap.size w w' := by
  have hs0 := (Whole.made w 30 (mcL a m).toArray).block (.cells #[.int .i64 n] 3)
  have hs1 := Whole.made (w.alloc (.cells (mcL a m).toArray 30)) 3 #[.int .i64 n]
  rw [show (w.alloc (.cells (mcL a m).toArray 30)).heap.size = w.heap.size + 1 by simp] at hs1
  have hb : Below w.heap.size w ((w.alloc (.cells (mcL a m).toArray 30)).alloc (.cells #[.int .i64 n] 3)) := ((Below.refl _ _).alloc (by first | exact Nat.le_refl _ | simp | (simp; omega)) _).alloc (by first | exact Nat.le_refl _ | simp | (simp; omega)) _
  go_enter Tryz.func139, Tryz.ntmps139
  go_upto_region 1 with (fail)
  change Code.wp _ _ _ _ ((w.alloc (.cells (mcL a m).toArray 30)).alloc (.cells #[.int .i64 n] 3))
  generalize ((w.alloc (.cells (mcL a m).toArray 30)).alloc (.cells #[.int .i64 n] 3)) = w1 at *
  generalize hgx : w.heap.size = gx at *
  have HGX := Lib.hid hgx
  have HS0 := Lib.hid hs0
  have HS1 := Lib.hid hs1
  have HW := Lib.hid hb
  have hgl : gx + 1 < w1.heap.size := hs1.lt
  clear hgx hb hs0 hs1
  have HA := Lib.hid (hA.below HW.out)
  have HM := Lib.hid hm
  have c1 : w1.cell? ⟨gx + 1, 0, none⟩ = some (.int .i64 n) := HS1.out.cell 0
  have m8 : w1.cell? ⟨gx, 8, none⟩ = some (.slice a.Q m.pipes.length a.cQ) := HS0.out.cell 8
  have CC := Lib.hid (indexNb_any w1 a.Q a.cQ m.pipes (HA.out.Q.wide (by omega)) HM.out.sizes.2.2.1 n (gx + 1) c1 (by omega))
  clear hA hm c1
  go_wp2_with fail
  refine CC.out.mono ?_
  rintro e w3 ⟨⟨z, rfl, hz⟩, hb3⟩
  have HZ := Lib.hid hz
  have HW3 := Lib.hid (HW.out.trans (hb3.mono (by omega)))
  clear hb3 hz
  go_wp2_with fail
  go_ret
  exact ⟨⟨z, rfl, by rw [HZ.out]; rfl⟩, by rw [HGX.out]; exact HW3.out⟩
end Go.Proofs.YtmmfcjkabpffeaaGreatDoor
