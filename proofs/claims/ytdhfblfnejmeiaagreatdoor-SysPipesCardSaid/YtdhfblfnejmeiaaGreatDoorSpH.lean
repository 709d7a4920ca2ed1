/-
  Walks: state.place, Pipe where there is one pipe; Ends where there is one process. (Printed by gen_sph.py.)
-/
import Derived.Test.YtdhfblfnejmeiaaGreatDoorSpD
import Derived.Test.YtdhfblfnejmeiaaGreatDoorSpP
namespace Go.Proofs.YtdhfblfnejmeiaaGreatDoor
open Go.RowKit

set_option maxRecDepth 100000 in
set_option maxHeartbeats 1000000 in
theorem placec_any (w : World) (q : Nb) (n : Int) (g : Nat) (hg : w.cell? ⟨g, 0, none⟩ = some (.int .i64 n)) (hgw : g < w.heap.size) :
    Calls Tryz.prog 209 #[.agg (nbCells1 q).toArray, .pointer (some ⟨g, 0, none⟩)] w fun e w' => e = .returned (.bool (q.1 == n)) ∧ Below w.heap.size w w' := by
  have hs0 := Whole.made w 73 (nbCells1 q).toArray
  have hb : Below w.heap.size w (w.alloc (.cells (nbCells1 q).toArray 73)) := (Below.refl _ _).alloc (Nat.le_refl _) _
  go_enter Tryz.func209, Tryz.ntmps209
  go_upto_region 1 with (fail)
  change Code.wp _ _ _ _ (w.alloc (.cells (nbCells1 q).toArray 73))
  generalize (w.alloc (.cells (nbCells1 q).toArray 73)) = w1 at *
  generalize hgx : w.heap.size = gx at *
  have HGX := Lib.hid hgx
  have HS0 := Lib.hid hs0
  have HW := Lib.hid hb
  have hgl : gx < w1.heap.size := hs0.lt
  clear hgx hb hs0
  have c0 : w1.cell? ⟨gx, 0, none⟩ = some (.int .i64 q.1) := HS0.out.cell 0
  have c1 : w1.cell? ⟨g, 0, none⟩ = some (.int .i64 n) := (HW.out.cell (p := ⟨g, 0, none⟩) hgw).trans hg
  clear hg
  go_wp2_with fail
  go_ret
  exact ⟨rfl, by rw [HGX.out]; exact HW.out⟩
set_option maxRecDepth 100000 in
set_option maxHeartbeats 1000000 in
theorem idxq_any (w : World) (A : Option Addr) (c : Nat) (q : Nb) (hA : Lies w w.heap.size A (nbCells [q])) (n : Int) (g : Nat) (hg : w.cell? ⟨g, 0, none⟩ = some (.int .i64 n)) (hgw : g < w.heap.size) (hpn : q.1 = n) :
    Calls Tryz.prog 158 #[.slice A 1 c, .func (.func 209) #[] #[.pointer (some ⟨g, 0, none⟩)]] w fun e w' => e = .returned (.int .i64 0) ∧ Below w.heap.size w w' := by
  obtain ⟨ad, rfl, had, hc⟩ := Lies.row (f := nbCells1) (n := 2) (l := [q]) (by simpa [nbCells] using hA) (fun y hy => rfl) (by omega) (k := 0) rfl
  have LD : Hid (∀ j v, (nbCells1 q)[j]? = some v → w.cell? (ad.add j) = some v) := Lib.hid fun j v h => by
    have := hc j v h
    rwa [show ad.add (0 * 2) = ad by unfold Addr.add; simp] at this
  have PI : Hid ((Tryz.prog.info? 73).map (·.size) = some (nbCells1 q).length) := Lib.hid (by kernel_rfl)
  have CP := Lib.hid (placec_any w q n g hg hgw)
  have hpn' : (q.1 == n) = true := beq_iff_eq.2 hpn
  rw [hpn'] at CP
  clear hA hc hg hpn hpn'
  go_enter Tryz.func158, Tryz.ntmps158
  go_wp2_with fail
  go_loopw [8] (fun i wr => i = .int .i64 0 ∧ wr = w) (fun _ _ => 1)
  case atStart => exact ⟨rfl, rfl⟩
  case round =>
    obtain ⟨rfl, rfl⟩ := hrel
    go_wp2_with (refine wpList_load_at rfl 73 (.tmp 14) rfl ad rfl (nbCells1 q) _ LD.out Tryz.underlying73 rfl PI.out ?_)
    refine CP.out.mono ?_
    rintro e w1 ⟨rfl, hb1⟩
    go_wp2_with fail
    go_ret
    exact ⟨rfl, hb1⟩
set_option maxRecDepth 100000 in
set_option maxHeartbeats 1000000 in
theorem place_any (w : World) (a : MA) (m : Mc) (q : Nb) (hq : m.pipes = [q]) (hA : MAt w w.heap.size a m) :
    Calls Tryz.prog 166 #[.agg (mcL a m).toArray, .int .i64 q.1] w fun e w' => e = .returned (.int .i64 0) ∧ Below w.heap.size w w' := by
  have hA' : Lies w w.heap.size a.Q (nbCells [q]) := by have := hA.Q; rwa [hq] at this
  have hml : m.pipes.length = 1 := by rw [hq]; rfl
  have hs0 := (Whole.made w 31 (mcL a m).toArray).block (.cells #[.int .i64 q.1] 3)
  have hs1 := Whole.made (w.alloc (.cells (mcL a m).toArray 31)) 3 #[.int .i64 q.1]
  rw [show (w.alloc (.cells (mcL a m).toArray 31)).heap.size = w.heap.size + 1 by simp] at hs1
  have hb : Below w.heap.size w ((w.alloc (.cells (mcL a m).toArray 31)).alloc (.cells #[.int .i64 q.1] 3)) := ((Below.refl _ _).alloc (by first | exact Nat.le_refl _ | simp | (simp; omega)) _).alloc (by first | exact Nat.le_refl _ | simp | (simp; omega)) _
  go_enter Tryz.func166, Tryz.ntmps166
  go_upto_region 1 with (fail)
  change Code.wp _ _ _ _ ((w.alloc (.cells (mcL a m).toArray 31)).alloc (.cells #[.int .i64 q.1] 3))
  generalize ((w.alloc (.cells (mcL a m).toArray 31)).alloc (.cells #[.int .i64 q.1] 3)) = w1 at *
  generalize hgx : w.heap.size = gx at *
  have HGX := Lib.hid hgx
  have HS0 := Lib.hid hs0
  have HS1 := Lib.hid hs1
  have HW := Lib.hid hb
  have hgl : gx + 1 < w1.heap.size := hs1.lt
  clear hgx hb hs0 hs1
  have m8 : w1.cell? ⟨gx, 8, none⟩ = some (.slice a.Q 1 a.cQ) := (HS0.out.cell 8).trans (by rw [← hml]; rfl)
  have CX := Lib.hid (idxq_any w1 a.Q a.cQ q ((Lies.below hA' HW.out).wide (by omega)) q.1 (gx + 1) (HS1.out.cell 0) (by omega) rfl)
  clear hA hA' hq hml
  go_wp2_with fail
  refine CX.out.mono ?_
  rintro e w2 ⟨rfl, hb2⟩
  have HW2 := Lib.hid (HW.out.trans (hb2.mono (by omega)))
  clear hb2 CX
  go_wp2_with fail
  go_ret
  exact ⟨rfl, by rw [HGX.out]; exact HW2.out⟩
theorem results_cell_tmp {P : Program} {fn : Func} {p q : Tmp} {ty : TypeId} (hr : fn.results = #[.cell p ty, .tmp q]) (tmps : Array Value) (w : World) (g : Nat) (t : TypeId) (cs : Array Value) (v : Value) (fr : Nat × Nat) (d : TypeDesc)
    (hp : tmps.getD p undef = .pointer (some ⟨g, 0, none⟩)) (hq : tmps.getD q undef = v) (hg : w.heap[g]? = some (.cells cs t fr))
    (hu : P.underlying ty = some d) (hd : (match d with | .struct _ | .array _ _ => true | _ => false) = true) (hi : (P.info? ty).map (·.size) = some cs.size) :
    (results fn tmps).run P w = .ok (.tuple #[.agg cs, v]) w := by
  have hp' : tmps[p]?.getD undef = .pointer (some ⟨g, 0, none⟩) := by simpa using hp
  have hq' : tmps[q]?.getD undef = v := by simpa using hq
  simp [results, hr, hp', hq', asAddr, run_loadVar_row w g t ty cs fr d hg hu hd hi]
theorem get_some {α : Type} {l : List α} {k : Nat} (h : k < l.length) : ∃ x, l[k]? = some x := ⟨l[k], List.getElem?_eq_getElem h⟩
set_option maxRecDepth 100000 in
set_option maxHeartbeats 2000000 in
theorem spipe_any (w : World) (a : MA) (m : Mc) (q : Nb) (hq : m.pipes = [q]) (hA : MAt w w.heap.size a m) :
    Calls Tryz.prog 117 #[.agg (mcL a m).toArray, .int .i64 q.1] w fun e w' => e = .returned (.tuple #[.agg (nbCells1 q).toArray, .bool true]) ∧ Below w.heap.size w w' := by
  have hml : m.pipes.length = 1 := by rw [hq]; rfl
  have hs0 := (Whole.made w 31 (mcL a m).toArray).block (.cells #[.int .i64 0, S []] 73)
  have hs1 := Whole.made (w.alloc (.cells (mcL a m).toArray 31)) 73 #[.int .i64 0, S []]
  rw [show (w.alloc (.cells (mcL a m).toArray 31)).heap.size = w.heap.size + 1 by simp] at hs1
  have hb : Below w.heap.size w ((w.alloc (.cells (mcL a m).toArray 31)).alloc (.cells #[.int .i64 0, S []] 73)) := ((Below.refl _ _).alloc (by first | exact Nat.le_refl _ | simp | (simp; omega)) _).alloc (by first | exact Nat.le_refl _ | simp | (simp; omega)) _
  go_enter Tryz.func117, Tryz.ntmps117
  go_upto_region 1 with (fail)
  change Code.wp _ _ _ _ ((w.alloc (.cells (mcL a m).toArray 31)).alloc (.cells #[.int .i64 0, S []] 73))
  generalize ((w.alloc (.cells (mcL a m).toArray 31)).alloc (.cells #[.int .i64 0, S []] 73)) = w1 at *
  generalize hgx : w.heap.size = gx at *
  have HGX := Lib.hid hgx
  have HS0 := Lib.hid hs0
  have HS1 := Lib.hid hs1
  have HW := Lib.hid hb
  have hgl : gx + 1 < w1.heap.size := hs1.lt
  clear hgx hb hs0 hs1
  have LM := Lib.hid HS0.out.reads
  have MI : Hid ((Tryz.prog.info? 31).map (·.size) = some (mcL a m).length) := Lib.hid Tryz.sizeMc
  have PI : Hid ((Tryz.prog.info? 73).map (·.size) = some (nbCells1 q).length) := Lib.hid (by kernel_rfl)
  have HA1 := Lib.hid ((hA.below HW.out).wide (B' := w1.heap.size) (by omega))
  have CX := Lib.hid (place_any w1 a m q hq HA1.out)
  have HQ : Hid (Lies w1 w1.heap.size a.Q (nbCells [q])) := Lib.hid (by have := HA1.out.Q; rwa [hq] at this)
  have m8 : w1.cell? ⟨gx, 8, none⟩ = some (.slice a.Q 1 a.cQ) := (HS0.out.cell 8).trans (by rw [← hml]; rfl)
  have HZ1 := HS1
  clear hA hq hml HA1 HS1
  go_wp2_with (refine wpList_load_at rfl 31 (.tmp 2) rfl ⟨gx, 0, none⟩ rfl (mcL a m) _ LM.out Tryz.underlying31 rfl MI.out ?_)
  refine CX.out.mono ?_
  rintro e w2 ⟨rfl, hb2⟩
  have HZ2 : Hid (Whole w2 (gx + 1) 73 [.int .i64 0, S []].toArray) := Lib.hid (HZ1.out.below hb2 HZ1.out.lt)
  have m8 : w2.cell? ⟨gx, 8, none⟩ = some (.slice a.Q 1 a.cQ) := (hb2.cell (p := ⟨gx, 8, none⟩) (by have := HS0.out.lt; exact this)).trans m8
  have HQ2 := Lib.hid (Lies.below HQ.out hb2)
  obtain ⟨ad, hadr, had, hc⟩ := Lies.row (f := nbCells1) (n := 2) (l := [q]) (by simpa [nbCells] using HQ2.out) (fun y hy => rfl) (by omega) (k := 0) rfl
  have LD : Hid (∀ j v, (nbCells1 q)[j]? = some v → w2.cell? (ad.add j) = some v) := Lib.hid fun j v h => by
    have := hc j v h
    rwa [show ad.add (0 * 2) = ad by unfold Addr.add; simp] at this
  have HW2 := Lib.hid (HW.out.trans (hb2.mono (by omega)))
  have hg2 : gx + 1 < w2.heap.size := HZ2.out.lt
  rw [hadr] at m8
  clear hb2 CX LM HQ HQ2 hadr hc HZ1
  go_wp2_with (first
    | (refine wpList_load_at rfl 73 (.tmp 16) rfl ad (by simp [go_sem]) (nbCells1 q) _ LD.out Tryz.underlying73 rfl PI.out ?_)
    | (refine wpList_store_all rfl 73 (.tmp 4) (.tmp 17) rfl rfl (gx + 1) rfl (nbCells1 q) rfl PI.out [.int .i64 0, S []] 73 HZ2.out rfl (nb_one q) ?_; intro wz hw hk))
  refine bodyPost_ret (v := .tuple #[.agg (nbCells1 q).toArray, .bool true]) (results_cell_tmp rfl _ _ (gx + 1) 73 _ _ (0, 0) _ rfl rfl hw.out Tryz.underlying73 rfl (by kernel_rfl)) rfl ?_
  exact ⟨rfl, by rw [HGX.out]; exact HW2.out.grown hk.out (by omega) (fun q e => by injection e with e; omega)⟩
theorem flLoad {x : Pr} (hx : PrOk x) {w : World} {g : Nat} (h : Whole w g 47 (prCells x).toArray) : ∀ j v, (flCells x.fds)[j]? = some v → w.cell? ((⟨g, 68, none⟩ : Addr).add j) = some v :=
  mid_cells h 68 _ fun j v hv => by
    have hj : j < 24 := by
      have := (List.getElem?_eq_some_iff.1 hv).1
      rw [flCells_length, hx.fds] at this; exact this
    rw [pr_fds hx hj]; exact hv
set_option maxRecDepth 100000 in
set_option maxHeartbeats 4000000 in
theorem sends_any (w : World) (a : MA) (m : Mc) (p : Pr) (hG : Good m p) (hA : MAt w w.heap.size a m) (id : Int) :
    Calls Tryz.prog 108 #[.agg (mcL a m).toArray, .int .i64 id] w fun e w' => e = .returned (.tuple #[.int .i64 (endsF p.fds id 4 : Nat), .int .i64 (endsF p.fds id 5 : Nat)]) ∧ Below w.heap.size w w' := by
  have hml : m.procs.length = 1 := by rw [hG.one]; rfl
  have hpc : prsCells m.procs = prCells p := by rw [hG.one]; simp [prsCells]
  have hs0 := Whole.made w 31 (mcL a m).toArray
  have hb : Below w.heap.size w (w.alloc (.cells (mcL a m).toArray 31)) := (Below.refl _ _).alloc (Nat.le_refl _) _
  go_enter Tryz.func108, Tryz.ntmps108
  go_upto_region 1 with (fail)
  change Code.wp _ _ _ _ (w.alloc (.cells (mcL a m).toArray 31))
  generalize (w.alloc (.cells (mcL a m).toArray 31)) = w1 at *
  generalize hgx : w.heap.size = gx at *
  have HGX := Lib.hid hgx
  have HS0 := Lib.hid hs0
  have HW := Lib.hid hb
  have hgl : gx < w1.heap.size := hs0.lt
  clear hgx hb hs0
  have HP0 : Hid (Lies w1 gx a.P (prCells p)) := Lib.hid (by have := (hA.below HW.out).P; rwa [hpc] at this)
  obtain ⟨ad, hadr, had, hc⟩ := Lies.row (f := prCells) (n := 96) (l := [p]) (by simpa using HP0.out) (fun y hy => by rw [List.mem_singleton.1 hy]; exact prCells_length hG.ok) (by omega) (k := 0) rfl
  have LD : Hid (∀ j v, (prCells p)[j]? = some v → w1.cell? (ad.add j) = some v) := Lib.hid fun j v h => by
    have := hc j v h
    rwa [show ad.add (0 * 96) = ad by unfold Addr.add; simp] at this
  have m5 : w1.cell? ⟨gx, 5, none⟩ = some (.slice (some ad) 1 a.cP) := (HS0.out.cell 5).trans (by rw [← hadr, ← hml]; rfl)
  have HXO := Lib.hid hG.ok
  have hxl := prCells_length hG.ok
  have PIX : Hid ((Tryz.prog.info? 47).map (·.size) = some (prCells p).length) := Lib.hid (by rw [hxl]; exact Tryz.sizePr)
  have PIZ : Hid ((Tryz.prog.info? 47).map (fun i => (i.zero, i.size)) = some (some (.agg (prCells zeroPr).toArray), (prCells p).length)) := Lib.hid (by rw [hxl]; exact Tryz.infoPr)
  have PZS : Hid ((Value.agg (prCells zeroPr).toArray).cells.size = (prCells p).length) := Lib.hid (by rw [hxl]; rfl)
  have HSF : Hid ((Tryz.prog.info? 45).map (·.size) = some (flCells p.fds).length) := Lib.hid (by rw [flCells_length, hG.ok.fds]; kernel_rfl)
  clear hA hG hml hpc hadr had hc hxl HP0
  go_wp2_with fail
  clear m5
  go_loopw [6, 7, 15] (fun x y i wr => (i = .int .i64 0 ∧ x = .int .i64 0 ∧ y = .int .i64 0 ∧ wr = w1) ∨ (i = .int .i64 1 ∧ x = .int .i64 (endsF p.fds id 4 : Nat) ∧ y = .int .i64 (endsF p.fds id 5 : Nat) ∧ Hid (Below gx w wr))) (fun _ _ i _ => 1 - (intOf i).toNat)
  case atStart => exact .inl ⟨rfl, rfl, rfl, rfl⟩
  case round =>
    rcases hrel with ⟨rfl, rfl, rfl, hwe⟩ | ⟨rfl, rfl, rfl, HV⟩
    · obtain rfl := hwe.symm
      have HX := Lib.hid (Whole.made w1 47 (prCells p).toArray)
      have HV1 := Lib.hid (HW.out.alloc (by omega) (.cells (prCells p).toArray 47))
      go_upto_region 5 with (first
        | (refine wpList_load_at rfl 47 (.tmp 17) rfl ad (by simp [go_sem]) (prCells p) _ LD.out Tryz.underlying47 rfl PIX.out ?_)
        | (refine wpList_fresh rfl rfl 47 9 (.tmp 18) rfl rfl rfl rfl (prCells p) rfl rfl _ PIZ.out PZS.out prCells_one ?_))
      change Code.wp _ _ _ _ (w1.alloc (.cells (prCells p).toArray 47))
      clear LD PIZ PZS PIX
      generalize w1.alloc (.cells (prCells p).toArray 47) = w2 at *
      generalize w1.heap.size = g2 at *
      have LF := Lib.hid (flLoad HXO.out HX.out)
      go_wp2_with (refine wpList_load_at rfl 45 (.tmp 19) rfl ⟨g2, 68, none⟩ rfl (flCells p.fds) _ LF.out Tryz.underlying45 rfl HSF.out ?_)
      clear LF
      go_loopw [6, 7, 21] (fun x y i wr => ∃ j a b : Nat, j ≤ 8 ∧ i = .int .i64 (j : Int) ∧ x = .int .i64 (a : Int) ∧ y = .int .i64 (b : Int) ∧ a ≤ j ∧ b ≤ j ∧ Hid (endsF (p.fds.take j) id 4 = a ∧ endsF (p.fds.take j) id 5 = b) ∧ Hid (Below gx w wr)) (fun _ _ i _ => 8 - (intOf i).toNat)
      case atStart => exact ⟨0, 0, 0, by omega, rfl, rfl, rfl, by omega, by omega, Lib.hid ⟨rfl, rfl⟩, HV1⟩
      case round =>
        clear HV1
        obtain ⟨j, ea, eb, hj, rfl, rfl, rfl, ha8, hb8, HP, HV⟩ := hrel
        by_cases hlj : j < 8
        · obtain ⟨f, hf⟩ := get_some (l := p.fds) (k := j) (by rw [HXO.out.fds]; exact hlj)
          have HE4 := Lib.hid (endsF_take hf id 4)
          have HE5 := Lib.hid (endsF_take hf id 5)
          have HFR := Lib.hid (flat_row flCells1 3 p.fds (fun _ _ => rfl) hf)
          have hl1 : decide ((j : Int) < 8) = true := decide_eq_true (by omega)
          have hl2 : decide (j < 8) = true := decide_eq_true hlj
          have hgs : gx ≤ wr.heap.size := by have := HV.out.size; have := HGX.out; omega
          have HVn := Lib.hid (HV.out.alloc hgs (.cells (flCells1 f).toArray 44))
          have HYn := Lib.hid (Whole.made wr 44 (flCells1 f).toArray)
          clear hf
          go_upto_region 8 with (first
            | (refine wpList_index_structs rfl 45 (.tmp 20) (.tmp 21) rfl 44 _ 8 3 (flCells p.fds) .i64 j rfl rfl Tryz.underlying45 Tryz.underlying44 Tryz.sizeFl hlj (flCells1 f) HFR.out ?_)
            | (refine wpList_fresh rfl rfl 44 11 (.tmp 23) rfl rfl rfl rfl (flCells1 f) rfl rfl _ Tryz.infoFl rfl (fl_one f) ?_))
          change Code.wp _ _ _ _ (wr.alloc (.cells (flCells1 f).toArray 44))
          clear HV HFR hl1 hl2 hgs
          generalize wr.alloc (.cells (flCells1 f).toArray 44) = w5 at *
          generalize wr.heap.size = g3 at *
          obtain ⟨fk, fn, fp⟩ := f
          have y0 : w5.cell? ⟨g3, 0, none⟩ = some (.int .i64 fk) := HYn.out.cell 0
          have y1 : w5.cell? ⟨g3, 1, none⟩ = some (.int .i64 fn) := HYn.out.cell 1
          by_cases hh : fn = id
          · have e1 : (fn == id) = true := beq_iff_eq.2 hh
            by_cases h4 : fk = 4
            · have e4 : (fk == 4) = true := beq_iff_eq.2 h4
              have e5 : (fk == 5) = false := beq_eq_false_iff_ne.2 (by omega)
              clear hh h4
              have HQ : Hid (endsF (p.fds.take (j + 1)) id 4 = ea + 1 ∧ endsF (p.fds.take (j + 1)) id 5 = eb) := Lib.hid ⟨by rw [HE4.out, HP.out.1]; simp [e1, e4], by rw [HE5.out, HP.out.2]; simp [e1, e5]⟩
              clear HE4 HE5
              go_wp2_with fail
              go_roundw
              case rel =>
                have R : ∃ j' a' b' : Nat, j' ≤ 8 ∧ Value.int .i64 ((j : Int) + 1) = .int .i64 (j' : Int) ∧ Value.int .i64 ((ea : Int) + 1) = .int .i64 (a' : Int) ∧ Value.int .i64 ((eb : Int)) = .int .i64 (b' : Int) ∧ a' ≤ j' ∧ b' ≤ j' ∧ Hid (endsF (p.fds.take j') id 4 = a' ∧ endsF (p.fds.take j') id 5 = b') ∧ Hid (Below gx w w5) := ⟨j + 1, ea + 1, eb, by omega, by go_num, by go_num, rfl, by omega, by omega, HQ, HVn⟩
                first | exact R | ((repeat apply Exists.intro); exact ⟨R, rfl⟩)
              case measure => simp [intOf]; omega
            · have e4 : (fk == 4) = false := beq_eq_false_iff_ne.2 h4
              by_cases h5 : fk = 5
              · have e5 : (fk == 5) = true := beq_iff_eq.2 h5
                clear hh h4 h5
                have HQ : Hid (endsF (p.fds.take (j + 1)) id 4 = ea ∧ endsF (p.fds.take (j + 1)) id 5 = eb + 1) := Lib.hid ⟨by rw [HE4.out, HP.out.1]; simp [e1, e4], by rw [HE5.out, HP.out.2]; simp [e1, e5]⟩
                clear HE4 HE5
                go_wp2_with fail
                go_roundw
                case rel =>
                  have R : ∃ j' a' b' : Nat, j' ≤ 8 ∧ Value.int .i64 ((j : Int) + 1) = .int .i64 (j' : Int) ∧ Value.int .i64 ((ea : Int)) = .int .i64 (a' : Int) ∧ Value.int .i64 ((eb : Int) + 1) = .int .i64 (b' : Int) ∧ a' ≤ j' ∧ b' ≤ j' ∧ Hid (endsF (p.fds.take j') id 4 = a' ∧ endsF (p.fds.take j') id 5 = b') ∧ Hid (Below gx w w5) := ⟨j + 1, ea, eb + 1, by omega, by go_num, rfl, by go_num, by omega, by omega, HQ, HVn⟩
                  first | exact R | ((repeat apply Exists.intro); exact ⟨R, rfl⟩)
                case measure => simp [intOf]; omega
              · have e5 : (fk == 5) = false := beq_eq_false_iff_ne.2 h5
                clear hh h4 h5
                have HQ : Hid (endsF (p.fds.take (j + 1)) id 4 = ea ∧ endsF (p.fds.take (j + 1)) id 5 = eb) := Lib.hid ⟨by rw [HE4.out, HP.out.1]; simp [e1, e4], by rw [HE5.out, HP.out.2]; simp [e1, e5]⟩
                clear HE4 HE5
                go_wp2_with fail
                go_roundw
                case rel =>
                  have R : ∃ j' a' b' : Nat, j' ≤ 8 ∧ Value.int .i64 ((j : Int) + 1) = .int .i64 (j' : Int) ∧ Value.int .i64 ((ea : Int)) = .int .i64 (a' : Int) ∧ Value.int .i64 ((eb : Int)) = .int .i64 (b' : Int) ∧ a' ≤ j' ∧ b' ≤ j' ∧ Hid (endsF (p.fds.take j') id 4 = a' ∧ endsF (p.fds.take j') id 5 = b') ∧ Hid (Below gx w w5) := ⟨j + 1, ea, eb, by omega, by go_num, rfl, rfl, by omega, by omega, HQ, HVn⟩
                  first | exact R | ((repeat apply Exists.intro); exact ⟨R, rfl⟩)
                case measure => simp [intOf]; omega
          · have e1 : (fn == id) = false := beq_eq_false_iff_ne.2 hh
            clear hh
            have HQ : Hid (endsF (p.fds.take (j + 1)) id 4 = ea ∧ endsF (p.fds.take (j + 1)) id 5 = eb) := Lib.hid ⟨by rw [HE4.out, HP.out.1]; simp [e1], by rw [HE5.out, HP.out.2]; simp [e1]⟩
            clear HE4 HE5
            go_wp2_with fail
            go_roundw
            case rel =>
              have R : ∃ j' a' b' : Nat, j' ≤ 8 ∧ Value.int .i64 ((j : Int) + 1) = .int .i64 (j' : Int) ∧ Value.int .i64 ((ea : Int)) = .int .i64 (a' : Int) ∧ Value.int .i64 ((eb : Int)) = .int .i64 (b' : Int) ∧ a' ≤ j' ∧ b' ≤ j' ∧ Hid (endsF (p.fds.take j') id 4 = a' ∧ endsF (p.fds.take j') id 5 = b') ∧ Hid (Below gx w w5) := ⟨j + 1, ea, eb, by omega, by go_num, rfl, rfl, by omega, by omega, HQ, HVn⟩
              first | exact R | ((repeat apply Exists.intro); exact ⟨R, rfl⟩)
            case measure => simp [intOf]; omega
        · obtain rfl : j = 8 := by omega
          have HQ : Hid (endsF p.fds id 4 = ea ∧ endsF p.fds id 5 = eb) := Lib.hid (by have := HP.out; rwa [List.take_of_length_le (by rw [HXO.out.fds]; omega)] at this)
          rw [show ((8 : Nat) : Int) = 8 from rfl]
          go_wp2_with fail
          go_roundw
          case rel =>
            have R : (Value.int .i64 1 = .int .i64 0 ∧ Value.int .i64 (ea : Int) = .int .i64 0 ∧ Value.int .i64 (eb : Int) = .int .i64 0 ∧ wr = w1) ∨ (Value.int .i64 1 = .int .i64 1 ∧ Value.int .i64 (ea : Int) = .int .i64 (endsF p.fds id 4 : Nat) ∧ Value.int .i64 (eb : Int) = .int .i64 (endsF p.fds id 5 : Nat) ∧ Hid (Below gx w wr)) := .inr ⟨rfl, by rw [HQ.out.1], by rw [HQ.out.2], HV⟩
            first | exact R | ((repeat apply Exists.intro); exact ⟨R, rfl⟩)
          case measure => simp [intOf]
    · go_wp2_with fail
      refine bodyPost_ret (v := .tuple #[.int .i64 (endsF p.fds id 4 : Nat), .int .i64 (endsF p.fds id 5 : Nat)]) (by simp [results, Tryz.results108, go_sem]) rfl ?_
      exact ⟨rfl, by rw [HGX.out]; exact HV.out⟩
end Go.Proofs.YtdhfblfnejmeiaaGreatDoor
