/-
  Walks: proc.Find where there is one process; own.list, own.Drive, own.Machine. (Printed by gen_spb.py.)
-/
import Derived.Test.YtdhfblfnejmeiaaGreatDoorSpA
namespace Go.Proofs.YtdhfblfnejmeiaaGreatDoor
open Go.RowKit

theorem lies_nil {α : Type} {f : α → List Value} {w : World} {B : Nat} {l : List α} (h : Lies w B none (l.flatMap f)) (hf : ∀ x ∈ l, f x ≠ []) : l = [] := by
  cases l with
  | nil => rfl
  | cons x l =>
    rw [List.flatMap_cons] at h
    have hx := hf x (by simp)
    cases hq : f x with
    | nil => exact absurd hq hx
    | cons v r =>
      rw [hq] at h
      obtain ⟨ad, e, _⟩ := h 0 v rfl
      cases e
set_option maxRecDepth 100000 in
set_option maxHeartbeats 1000000 in
theorem findc_any (w : World) (p : Pr) (hp : PrOk p) (n : Int) (g : Nat) (hg : w.cell? ⟨g, 0, none⟩ = some (.int .i64 n)) (hgw : g < w.heap.size) :
    Calls Tryz.prog 18 #[.agg (prCells p).toArray, .pointer (some ⟨g, 0, none⟩)] w fun e w' => e = .returned (.bool (p.pid == n)) ∧ Below w.heap.size w w' := by
  have hsz := prCells_length hp
  have hs0 := Whole.made w 47 (prCells p).toArray
  have hb : Below w.heap.size w (w.alloc (.cells (prCells p).toArray 47)) := (Below.refl _ _).alloc (Nat.le_refl _) _
  go_enter Tryz.func18, Tryz.ntmps18
  go_upto_region 1 with (fail)
  change Code.wp _ _ _ _ (w.alloc (.cells (prCells p).toArray 47))
  generalize (w.alloc (.cells (prCells p).toArray 47)) = w1 at *
  generalize hgx : w.heap.size = gx at *
  have HGX := Lib.hid hgx
  have HS0 := Lib.hid hs0
  have HW := Lib.hid hb
  have hgl : gx < w1.heap.size := hs0.lt
  clear hgx hb hs0
  have c0 : w1.cell? ⟨gx, 0, none⟩ = some (.int .i64 p.pid) := HS0.out.cell 0
  have c1 : w1.cell? ⟨g, 0, none⟩ = some (.int .i64 n) := (HW.out.cell (p := ⟨g, 0, none⟩) hgw).trans hg
  clear hg hp
  go_wp2_with fail
  go_ret
  exact ⟨rfl, by rw [HGX.out]; exact HW.out⟩
set_option maxRecDepth 100000 in
set_option maxHeartbeats 1000000 in
theorem idxp_any (w : World) (A : Option Addr) (c : Nat) (p : Pr) (hp : PrOk p) (hA : Lies w w.heap.size A (prCells p)) (n : Int) (g : Nat) (hg : w.cell? ⟨g, 0, none⟩ = some (.int .i64 n)) (hgw : g < w.heap.size) (hpn : p.pid = n) :
    Calls Tryz.prog 17 #[.slice A 1 c, .func (.func 18) #[] #[.pointer (some ⟨g, 0, none⟩)]] w fun e w' => e = .returned (.int .i64 0) ∧ Below w.heap.size w w' := by
  obtain ⟨ad, rfl, had, hc⟩ := Lies.row (f := prCells) (n := 96) (l := [p]) (by simpa using hA) (fun y hy => by rw [List.mem_singleton.1 hy]; exact prCells_length hp) (by omega) (k := 0) rfl
  have LD : Hid (∀ j v, (prCells p)[j]? = some v → w.cell? (ad.add j) = some v) := Lib.hid fun j v h => by
    have := hc j v h
    rwa [show ad.add (0 * 96) = ad by unfold Addr.add; simp] at this
  have PI : Hid ((Tryz.prog.info? 47).map (·.size) = some (prCells p).length) := Lib.hid (by rw [prCells_length hp]; exact Tryz.sizePr)
  have CP := Lib.hid (findc_any w p hp n g hg hgw)
  have hpn' : (p.pid == n) = true := beq_iff_eq.2 hpn
  rw [hpn'] at CP
  clear hA hc hg hpn hpn' hp
  go_enter Tryz.func17, Tryz.ntmps17
  go_wp2_with fail
  go_loopw [8] (fun i wr => i = .int .i64 0 ∧ wr = w) (fun _ _ => 1)
  case atStart => exact ⟨rfl, rfl⟩
  case round =>
    obtain ⟨rfl, rfl⟩ := hrel
    go_wp2_with (refine wpList_load_at rfl 47 (.tmp 14) rfl ad rfl (prCells p) _ LD.out Tryz.underlying47 rfl PI.out ?_)
    refine CP.out.mono ?_
    rintro e w1 ⟨rfl, hb1⟩
    go_wp2_with fail
    go_ret
    exact ⟨rfl, hb1⟩
set_option maxRecDepth 100000 in
set_option maxHeartbeats 1000000 in
theorem find_any (w : World) (a : MA) (m : Mc) (p : Pr) (hG : Good m p) (hA : MAt w w.heap.size a m) :
    Calls Tryz.prog 10 #[.agg (mcL a m).toArray, .int .i64 p.pid] w fun e w' => e = .returned (.tuple #[.int .i64 0, .bool true]) ∧ Below w.heap.size w w' := by
  have hA' : Lies w w.heap.size a.P (prCells p) := by have := hA.P; rw [hG.one] at this; simpa [prsCells] using this
  have hml : m.procs.length = 1 := by rw [hG.one]; rfl
  have hs0 := (Whole.made w 31 (mcL a m).toArray).block (.cells #[.int .i64 p.pid] 3)
  have hs1 := Whole.made (w.alloc (.cells (mcL a m).toArray 31)) 3 #[.int .i64 p.pid]
  rw [show (w.alloc (.cells (mcL a m).toArray 31)).heap.size = w.heap.size + 1 by simp] at hs1
  have hb : Below w.heap.size w ((w.alloc (.cells (mcL a m).toArray 31)).alloc (.cells #[.int .i64 p.pid] 3)) := ((Below.refl _ _).alloc (by first | exact Nat.le_refl _ | simp | (simp; omega)) _).alloc (by first | exact Nat.le_refl _ | simp | (simp; omega)) _
  go_enter Tryz.func10, Tryz.ntmps10
  go_upto_region 1 with (fail)
  change Code.wp _ _ _ _ ((w.alloc (.cells (mcL a m).toArray 31)).alloc (.cells #[.int .i64 p.pid] 3))
  generalize ((w.alloc (.cells (mcL a m).toArray 31)).alloc (.cells #[.int .i64 p.pid] 3)) = w1 at *
  generalize hgx : w.heap.size = gx at *
  have HGX := Lib.hid hgx
  have HS0 := Lib.hid hs0
  have HS1 := Lib.hid hs1
  have HW := Lib.hid hb
  have hgl : gx + 1 < w1.heap.size := hs1.lt
  clear hgx hb hs0 hs1
  have m5 : w1.cell? ⟨gx, 5, none⟩ = some (.slice a.P 1 a.cP) := (HS0.out.cell 5).trans (by rw [← hml]; rfl)
  have CX := Lib.hid (idxp_any w1 a.P a.cP p hG.ok ((Lies.below hA' HW.out).wide (by omega)) p.pid (gx + 1) (HS1.out.cell 0) (by omega) rfl)
  clear hA hA' hG hml
  go_wp2_with fail
  refine CX.out.mono ?_
  rintro e w2 ⟨rfl, hb2⟩
  have HW2 := Lib.hid (HW.out.trans (hb2.mono (by omega)))
  clear hb2 CX
  go_wp2_with fail
  refine bodyPost_ret (v := .tuple #[.int .i64 0, .bool true]) (by simp [results, Tryz.results10, go_sem]) rfl ?_
  exact ⟨rfl, by rw [HGX.out]; exact HW2.out⟩
set_option maxRecDepth 100000 in
set_option maxHeartbeats 1000000 in
theorem listS_any (w : World) (A : Option Addr) (c : Nat) (ls : List (List UInt8)) (hA : Lies w w.heap.size A (ls.map S)) (hn : ls.length ≤ 1099511627776) :
    Calls Tryz.prog 19 #[.slice A ls.length c] w fun e w' => (∃ v, e = .returned v ∧ w'.ownsRow w.heap.size 9 1 v ls.length (ls.map S)) ∧ Below w.heap.size w w' := by
  obtain ⟨i0, hi0, hz0, hz1, hz2⟩ := info_parts Tryz.infoStr'
  have hlen : (ls.map S).length = ls.length * 1 := by simp
  have hone := S_one ls
  have HA := Lib.hid hA
  have H63 : Hid (0 + ls.length ≤ maxLen) := Lib.hid (by unfold maxLen; omega)
  have HBY : Hid ((0 + ls.length) * i0.bytes ≤ 140737488355328) := Lib.hid (by rw [hz2]; omega)
  clear hA
  go_enter Tryz.func19, Tryz.ntmps19
  go_wp2_with (at_builtin; refine wpList_append_src rfl (.const (.slice none 0 0)) (.tmp 3) 22 rfl w.heap.size 9 i0 _ 1 _ Tryz.underlying22 hi0 hz0 hz1 rfl (by kernel_rfl) (by decide) _ _ _ rfl (World.ownsRow_nil _ _ _ _) w.heap.size A ls.length c (ls.map S) rfl hlen HA.out hone H63.out HBY.out (Nat.le_refl _) ?_; intro v' w1 hown' hgrow)
  go_ret
  exact ⟨⟨_, rfl, by simpa using hown'⟩, (Below.refl _ _).grown hgrow (Nat.le_refl _) (fun q e => by cases e)⟩
set_option maxRecDepth 100000 in
set_option maxHeartbeats 1000000 in
theorem listPr_any (w : World) (A : Option Addr) (c : Nat) (ls : List Pr) (hok : ∀ p ∈ ls, PrOk p) (hA : Lies w w.heap.size A (prsCells ls)) (hn : ls.length ≤ 4294967296) :
    Calls Tryz.prog 20 #[.slice A ls.length c] w fun e w' => (∃ v, e = .returned v ∧ w'.ownsRow w.heap.size 47 96 v ls.length (prsCells ls)) ∧ Below w.heap.size w w' := by
  obtain ⟨i0, hi0, hz0, hz1, hz2⟩ := info_proc
  have hlen : (prsCells ls).length = ls.length * 96 := prsCells_length hok
  have hone := prsCells_one ls
  have HA := Lib.hid hA
  have H63 : Hid (0 + ls.length ≤ maxLen) := Lib.hid (by unfold maxLen; omega)
  have HBY : Hid ((0 + ls.length) * i0.bytes ≤ 140737488355328) := Lib.hid (by rw [Nat.zero_add]; exact Nat.le_trans (Nat.mul_le_mul hn hz2) (by decide))
  clear hA
  go_enter Tryz.func20, Tryz.ntmps20
  go_wp2_with (at_builtin; refine wpList_append_src rfl (.const (.slice none 0 0)) (.tmp 3) 25 rfl w.heap.size 47 i0 _ 96 _ Tryz.underlying25 hi0 hz0 hz1 rfl (by kernel_rfl) (by decide) _ _ _ rfl (World.ownsRow_nil _ _ _ _) w.heap.size A ls.length c (prsCells ls) rfl hlen HA.out hone H63.out HBY.out (Nat.le_refl _) ?_; intro v' w1 hown' hgrow)
  go_ret
  exact ⟨⟨_, rfl, by simpa using hown'⟩, (Below.refl _ _).grown hgrow (Nat.le_refl _) (fun q e => by cases e)⟩
set_option maxRecDepth 100000 in
set_option maxHeartbeats 1000000 in
theorem listPi_any (w : World) (A : Option Addr) (c : Nat) (ls : List Nb) (hA : Lies w w.heap.size A (nbCells ls)) (hn : ls.length ≤ 1099511627776) :
    Calls Tryz.prog 21 #[.slice A ls.length c] w fun e w' => (∃ v, e = .returned v ∧ w'.ownsRow w.heap.size 73 2 v ls.length (nbCells ls)) ∧ Below w.heap.size w w' := by
  obtain ⟨i0, hi0, hz0, hz1, hz2⟩ := info_parts Tryz.infoPi3
  have hlen : (nbCells ls).length = ls.length * 2 := nbCells_length ls
  have hone := nbCells_one ls
  have HA := Lib.hid hA
  have H63 : Hid (0 + ls.length ≤ maxLen) := Lib.hid (by unfold maxLen; omega)
  have HBY : Hid ((0 + ls.length) * i0.bytes ≤ 140737488355328) := Lib.hid (by rw [hz2]; omega)
  clear hA
  go_enter Tryz.func21, Tryz.ntmps21
  go_wp2_with (at_builtin; refine wpList_append_src rfl (.const (.slice none 0 0)) (.tmp 3) 26 rfl w.heap.size 73 i0 _ 2 _ Tryz.underlying26 hi0 hz0 hz1 rfl (by kernel_rfl) (by decide) _ _ _ rfl (World.ownsRow_nil _ _ _ _) w.heap.size A ls.length c (nbCells ls) rfl hlen HA.out hone H63.out HBY.out (Nat.le_refl _) ?_; intro v' w1 hown' hgrow)
  go_ret
  exact ⟨⟨_, rfl, by simpa using hown'⟩, (Below.refl _ _).grown hgrow (Nat.le_refl _) (fun q e => by cases e)⟩
set_option maxRecDepth 100000 in
set_option maxHeartbeats 1000000 in
theorem listWr_any (w : World) (A : Option Addr) (c : Nat) (ls : List Nb) (hA : Lies w w.heap.size A (nbCells ls)) (hn : ls.length ≤ 1099511627776) :
    Calls Tryz.prog 23 #[.slice A ls.length c] w fun e w' => (∃ v, e = .returned v ∧ w'.ownsRow w.heap.size 77 2 v ls.length (nbCells ls)) ∧ Below w.heap.size w w' := by
  obtain ⟨i0, hi0, hz0, hz1, hz2⟩ := info_parts Tryz.infoWr3
  have hlen : (nbCells ls).length = ls.length * 2 := nbCells_length ls
  have hone := nbCells_one ls
  have HA := Lib.hid hA
  have H63 : Hid (0 + ls.length ≤ maxLen) := Lib.hid (by unfold maxLen; omega)
  have HBY : Hid ((0 + ls.length) * i0.bytes ≤ 140737488355328) := Lib.hid (by rw [hz2]; omega)
  clear hA
  go_enter Tryz.func23, Tryz.ntmps23
  go_wp2_with (at_builtin; refine wpList_append_src rfl (.const (.slice none 0 0)) (.tmp 3) 27 rfl w.heap.size 77 i0 _ 2 _ Tryz.underlying27 hi0 hz0 hz1 rfl (by kernel_rfl) (by decide) _ _ _ rfl (World.ownsRow_nil _ _ _ _) w.heap.size A ls.length c (nbCells ls) rfl hlen HA.out hone H63.out HBY.out (Nat.le_refl _) ?_; intro v' w1 hown' hgrow)
  go_ret
  exact ⟨⟨_, rfl, by simpa using hown'⟩, (Below.refl _ _).grown hgrow (Nat.le_refl _) (fun q e => by cases e)⟩
theorem dvL_one (L : Option Addr) (n cL : Nat) (N : Option Addr) (k cN : Nat) (lf : Int) : ∀ v ∈ dvL L n cL N k cN lf, v.oneCell' = true := by
  intro v hv
  simp only [dvL, List.mem_cons, List.not_mem_nil, or_false] at hv
  rcases hv with rfl | rfl | rfl <;> rfl
set_option maxRecDepth 100000 in
set_option maxHeartbeats 1000000 in
theorem drive_any (w : World) (L N : Option Addr) (cL cN : Nat) (lf : Int) (bl : List (List UInt8)) (pd : List Nb) (hL : Strs w w.heap.size L bl) (hN : Lies w w.heap.size N (nbCells pd)) (hbl : bl.length ≤ 274877906944) (hpd : pd.length ≤ 274877906944) :
    Calls Tryz.prog 22 #[.agg (dvL L bl.length cL N pd.length cN lf).toArray] w fun e w' => (∃ X cx Y cy, e = .returned (.agg (dvL X bl.length cx Y pd.length cy lf).toArray) ∧ LO w.heap.size 9 w' X (bl.map S) ∧ LO w.heap.size 77 w' Y (nbCells pd) ∧ bl.length ≤ cx ∧ pd.length ≤ cy) ∧ Below w.heap.size w w' := by
  have hs0 := (Whole.made w 29 (dvL L bl.length cL N pd.length cN lf).toArray).block (.cells #[.slice none 0 0, .slice none 0 0, .int .i64 0] 29)
  have hs1 := Whole.made (w.alloc (.cells (dvL L bl.length cL N pd.length cN lf).toArray 29)) 29 #[.slice none 0 0, .slice none 0 0, .int .i64 0]
  rw [show (w.alloc (.cells (dvL L bl.length cL N pd.length cN lf).toArray 29)).heap.size = w.heap.size + 1 by simp] at hs1
  have hb : Below w.heap.size w ((w.alloc (.cells (dvL L bl.length cL N pd.length cN lf).toArray 29)).alloc (.cells #[.slice none 0 0, .slice none 0 0, .int .i64 0] 29)) := ((Below.refl _ _).alloc (by first | exact Nat.le_refl _ | simp | (simp; omega)) _).alloc (by first | exact Nat.le_refl _ | simp | (simp; omega)) _
  go_enter Tryz.func22, Tryz.ntmps22
  go_upto_region 1 with (fail)
  change Code.wp _ _ _ _ ((w.alloc (.cells (dvL L bl.length cL N pd.length cN lf).toArray 29)).alloc (.cells #[.slice none 0 0, .slice none 0 0, .int .i64 0] 29))
  generalize ((w.alloc (.cells (dvL L bl.length cL N pd.length cN lf).toArray 29)).alloc (.cells #[.slice none 0 0, .slice none 0 0, .int .i64 0] 29)) = w1 at *
  generalize hgx : w.heap.size = gx at *
  have HGX := Lib.hid hgx
  have HS0 := Lib.hid hs0
  have HS1 := Lib.hid hs1
  have HW := Lib.hid hb
  have hgl : gx + 1 < w1.heap.size := hs1.lt
  clear hgx hb hs0 hs1
  have HZ1 : Hid (Whole w1 (gx + 1) 29 #[.slice none 0 0, .slice none 0 0, .int .i64 0]) := Lib.hid HS1.out
  have HL1 := Lib.hid ((Lies.below hL HW.out))
  have HN0 := Lib.hid hN
  clear hL hN HS1
  have c0 : w1.cell? ⟨gx, 0, none⟩ = some (.slice L bl.length cL) := HS0.out.cell 0
  have CX := Lib.hid (listS_any w1 L cL bl (Lies.wide HL1.out (by omega)) (by omega))
  go_wp2_with fail
  refine CX.out.mono ?_
  rintro e w2 ⟨⟨v, rfl, ho⟩, hb⟩
  obtain ⟨X, cx, rfl, hX, hcx, _⟩ := own_row ho
  have HX2 := Lib.hid hX
  have HCX := Lib.hid hcx
  have HV2 := Lib.hid (HW.out.trans (hb.mono (by omega)))
  have HB2 := Lib.hid (HS0.out.below hb (by omega))
  have HZ2 := Lib.hid (HZ1.out.below hb (by omega))
  have hz2 : gx + 1 < w2.heap.size := Nat.lt_of_lt_of_le hgl hb.size
  clear hX hcx ho hb CX c0 HS0 HZ1
  have c0 : w2.cell? ⟨gx, 0, none⟩ = some (.slice L bl.length cL) := HB2.out.cell 0
  have y0 : w2.frozen? ⟨gx, 0, none⟩ = false := HB2.out.free 0
  have HB3 : Hid (Whole (w2.setCell ⟨gx, 0, none⟩ (.slice X bl.length cx)) gx 29 (dvL X bl.length cx N pd.length cN lf).toArray) := Lib.hid (HB2.out.set 0 (.slice X bl.length cx))
  have HZ3 := Lib.hid (HZ2.out.far (p := ⟨gx, 0, none⟩) (by show gx + 1 ≠ gx; omega) (.slice X bl.length cx))
  have HV3 := Lib.hid (HV2.out.setCell (p := ⟨gx, 0, none⟩) (Nat.le_refl _) (.slice X bl.length cx))
  have HX3 := Lib.hid (HX2.out.set (q := gx) (K := 0) (v := .slice X bl.length cx) (by omega))
  have hz3 : gx + 1 < (w2.setCell ⟨gx, 0, none⟩ (.slice X bl.length cx)).heap.size := by simpa [World.setCell] using hz2
  go_upto_region 2 with (fail)
  clear c0 y0 HB2 HZ2 HV2 HX2
  generalize (w2.setCell ⟨gx, 0, none⟩ (.slice X bl.length cx)) = w3 at *
  have HN3 := Lib.hid (Lies.below HN0.out HV3.out)
  have c1 : w3.cell? ⟨gx, 1, none⟩ = some (.slice N pd.length cN) := HB3.out.cell 1
  have CX := Lib.hid (listWr_any w3 N cN pd (Lies.wide HN3.out (by omega)) (by omega))
  go_wp2_with fail
  refine CX.out.mono ?_
  rintro e w4 ⟨⟨v, rfl, ho⟩, hb⟩
  obtain ⟨Y, cy, rfl, hY, hcy, _⟩ := own_row ho
  have HY4 := Lib.hid hY
  have HX4 := Lib.hid (HX3.out.below hb)
  have HCY := Lib.hid hcy
  have HV4 := Lib.hid (HV3.out.trans (hb.mono (by omega)))
  have HB4 := Lib.hid (HB3.out.below hb (by omega))
  have HZ4 := Lib.hid (HZ3.out.below hb (by omega))
  have hz4 : gx + 1 < w4.heap.size := Nat.lt_of_lt_of_le hz3 hb.size
  clear hY hcy ho hb CX c1 HB3 HZ3 HV3 HX3
  have c1 : w4.cell? ⟨gx, 1, none⟩ = some (.slice N pd.length cN) := HB4.out.cell 1
  have y1 : w4.frozen? ⟨gx, 1, none⟩ = false := HB4.out.free 1
  have HB5 : Hid (Whole (w4.setCell ⟨gx, 1, none⟩ (.slice Y pd.length cy)) gx 29 (dvL X bl.length cx Y pd.length cy lf).toArray) := Lib.hid (HB4.out.set 1 (.slice Y pd.length cy))
  have HZ5 := Lib.hid (HZ4.out.far (p := ⟨gx, 1, none⟩) (by show gx + 1 ≠ gx; omega) (.slice Y pd.length cy))
  have HV5 := Lib.hid (HV4.out.setCell (p := ⟨gx, 1, none⟩) (Nat.le_refl _) (.slice Y pd.length cy))
  have HX5 := Lib.hid (HX4.out.set (q := gx) (K := 1) (v := .slice Y pd.length cy) (by omega))
  have HY5 := Lib.hid (HY4.out.set (q := gx) (K := 1) (v := .slice Y pd.length cy) (by omega))
  have hz5 : gx + 1 < (w4.setCell ⟨gx, 1, none⟩ (.slice Y pd.length cy)).heap.size := by simpa [World.setCell] using hz4
  go_upto_region 3 with (fail)
  clear c1 y1 HB4 HZ4 HV4 HX4 HY4
  generalize (w4.setCell ⟨gx, 1, none⟩ (.slice Y pd.length cy)) = w5 at *
  have LD := Lib.hid HB5.out.reads
  have MI : Hid ((Tryz.prog.info? 29).map (·.size) = some 3) := Lib.hid Tryz.sizeDv
  go_wp2_with (first
    | (refine wpList_load_at rfl 29 (.tmp 1) rfl ⟨gx, 0, none⟩ rfl (dvL X bl.length cx Y pd.length cy lf) _ LD.out Tryz.underlying29 rfl MI.out ?_)
    | (refine wpList_store_all rfl 29 (.tmp 2) (.tmp 11) rfl rfl (gx + 1) rfl (dvL X bl.length cx Y pd.length cy lf) rfl MI.out [.slice none 0 0, .slice none 0 0, .int .i64 0] 29 HZ5.out rfl (dvL_one _ _ _ _ _ _ _) ?_; intro wz hw hk))
  refine bodyPost_ret (v := .agg (dvL X bl.length cx Y pd.length cy lf).toArray) (results_cell_row rfl _ _ (gx + 1) 29 _ (0, 0) _ rfl hw.out Tryz.underlying29 rfl MI.out) rfl ?_
  refine ⟨⟨X, cx, Y, cy, rfl, (HX5.out.one hk.out (by omega)).wide (by have := HGX.out; omega), (HY5.out.one hk.out (by omega)).wide (by have := HGX.out; omega), HCX.out, HCY.out⟩, by rw [HGX.out]; exact HV5.out.grown hk.out (by omega) (fun q e => by injection e with e; omega)⟩
/-- what own.Machine gives -/
def OwnP (w : World) (m : Mc) (p : Pr) (e : Ending) (w' : World) : Prop := (∃ a pb z, e = .returned (.agg (mcL a m).toArray) ∧ OM w' (fun g => w.heap.size ≤ g) a m p pb z) ∧ Below w.heap.size w w'
set_option maxRecDepth 100000 in
set_option maxHeartbeats 4000000 in
theorem ownm_any (w : World) (a : MA) (m : Mc) (p : Pr) (hG : Good m p) (hpil : m.pipes.length ≤ 1099511627776) (hA : MAt w w.heap.size a m) :
    Calls Tryz.prog 11 #[.agg (mcL a m).toArray] w (OwnP w m p) := by
  have hs0 := (Whole.made w 31 (mcL a m).toArray).block (.cells #[.int .u64 0, .int .i64 0, .int .i64 0, .int .i64 0, .slice none 0 0, .slice none 0 0, .int .i64 0, S [], .slice none 0 0, .int .i64 0, S [], .bool false, .int .u64 0, .slice none 0 0, .slice none 0 0, .int .i64 0, .slice none 0 0] 31)
  have hs1 := Whole.made (w.alloc (.cells (mcL a m).toArray 31)) 31 #[.int .u64 0, .int .i64 0, .int .i64 0, .int .i64 0, .slice none 0 0, .slice none 0 0, .int .i64 0, S [], .slice none 0 0, .int .i64 0, S [], .bool false, .int .u64 0, .slice none 0 0, .slice none 0 0, .int .i64 0, .slice none 0 0]
  rw [show (w.alloc (.cells (mcL a m).toArray 31)).heap.size = w.heap.size + 1 by simp] at hs1
  have hb : Below w.heap.size w ((w.alloc (.cells (mcL a m).toArray 31)).alloc (.cells #[.int .u64 0, .int .i64 0, .int .i64 0, .int .i64 0, .slice none 0 0, .slice none 0 0, .int .i64 0, S [], .slice none 0 0, .int .i64 0, S [], .bool false, .int .u64 0, .slice none 0 0, .slice none 0 0, .int .i64 0, .slice none 0 0] 31)) := ((Below.refl _ _).alloc (by first | exact Nat.le_refl _ | simp | (simp; omega)) _).alloc (by first | exact Nat.le_refl _ | simp | (simp; omega)) _
  go_enter Tryz.func11, Tryz.ntmps11
  go_upto_region 1 with (fail)
  change Code.wp _ _ _ _ ((w.alloc (.cells (mcL a m).toArray 31)).alloc (.cells #[.int .u64 0, .int .i64 0, .int .i64 0, .int .i64 0, .slice none 0 0, .slice none 0 0, .int .i64 0, S [], .slice none 0 0, .int .i64 0, S [], .bool false, .int .u64 0, .slice none 0 0, .slice none 0 0, .int .i64 0, .slice none 0 0] 31))
  generalize ((w.alloc (.cells (mcL a m).toArray 31)).alloc (.cells #[.int .u64 0, .int .i64 0, .int .i64 0, .int .i64 0, .slice none 0 0, .slice none 0 0, .int .i64 0, S [], .slice none 0 0, .int .i64 0, S [], .bool false, .int .u64 0, .slice none 0 0, .slice none 0 0, .int .i64 0, .slice none 0 0] 31)) = w1 at *
  generalize hgx : w.heap.size = gx at *
  have HGX := Lib.hid hgx
  have HS0 := Lib.hid hs0
  have HS1 := Lib.hid hs1
  have HW := Lib.hid hb
  have hgl : gx + 1 < w1.heap.size := hs1.lt
  clear hgx hb hs0 hs1
  have HZ1 : Hid (Whole w1 (gx + 1) 31 zeroML.toArray) := Lib.hid HS1.out
  clear HS1
  have HA : Hid (MAt w gx a m) := Lib.hid hA
  have HM := Lib.hid hG
  have HV1 := HW
  have HB1 := HS0
  have HSI := Lib.hid hG.mc.sizes
  have HML : Hid (m.procs.length = 1) := Lib.hid (by rw [hG.one]; rfl)
  clear hA HS0 hG
  have hs1 : gx + 2 ≤ w1.heap.size := by omega
  have c0 : w1.cell? ⟨gx, 4, none⟩ = some (.slice a.F m.frames.length a.cF) := HB1.out.cell 4
  have CX := Lib.hid (listS_any w1 a.F a.cF m.frames (Lies.wide (HA.out.below HV1.out).F (by omega)) (by have := HSI.out.1; omega))
  go_wp2_with fail
  refine CX.out.mono ?_
  rintro e w2 ⟨⟨v, rfl, ho⟩, hb⟩
  obtain ⟨X0, d0, rfl, hl, hd, hlt⟩ := own_row ho
  have CP0 := Lib.hid hd
  clear ho
  have HFS := Lib.hid hlt
  clear hlt
  have HV2 := Lib.hid (HV1.out.trans (hb.mono (by omega)))
  have HB2 := Lib.hid (HB1.out.below hb HB1.out.lt)
  have HZ2 := Lib.hid (HZ1.out.below hb HZ1.out.lt)
  have NLFx2 : Hid (LO w1.heap.size 9 w2 X0 (m.frames.map S)) := Lib.hid hl
  have hs2 : gx + 2 ≤ w2.heap.size := Nat.le_trans hs1 hb.size
  have hsq2 : w1.heap.size ≤ w2.heap.size := hb.size
  clear hl hb CX c0 hd HV1 HB1 HZ1 
  have c1 : w2.cell? ⟨gx, 4, none⟩ = some (.slice a.F m.frames.length a.cF) := HB2.out.cell 4
  have y1 : w2.frozen? ⟨gx, 4, none⟩ = false := HB2.out.free 4
  have HB3 : Hid (Whole (w2.setCell ⟨gx, 4, none⟩ (.slice X0 m.frames.length d0)) gx 31 (mcL ({ a with F := X0, cF := d0 } : MA) m).toArray) := Lib.hid (HB2.out.set 4 (.slice X0 m.frames.length d0))
  have HZ3 := Lib.hid (HZ2.out.far (p := ⟨gx, 4, none⟩) (by show gx + 1 ≠ gx; omega) (.slice X0 m.frames.length d0))
  have HV3 := Lib.hid (HV2.out.setCell (p := ⟨gx, 4, none⟩) (Nat.le_refl _) (.slice X0 m.frames.length d0))
  have hsz3 : gx + 2 ≤ (w2.setCell ⟨gx, 4, none⟩ (.slice X0 m.frames.length d0)).heap.size := by simpa [World.setCell] using hs2
  have hsq3 : w2.heap.size ≤ (w2.setCell ⟨gx, 4, none⟩ (.slice X0 m.frames.length d0)).heap.size := by simp [World.setCell]
  have NLFx3 := Lib.hid (NLFx2.out.set (q := gx) (K := 4) (v := (.slice X0 m.frames.length d0)) (by omega))
  have HFL : Hid (∀ ad, X0 = some ad → ad.block < (w2.setCell ⟨gx, 4, none⟩ (.slice X0 m.frames.length d0)).heap.size) := Lib.hid fun ad e => Nat.lt_of_lt_of_le (HFS.out ad e) hsq3
  clear HFS
  go_upto_region 2 with (fail)
  clear c1 y1 HV2 HB2 HZ2 NLFx2
  generalize (w2.setCell ⟨gx, 4, none⟩ (.slice X0 m.frames.length d0)) = w3 at *
  have hs3 : gx + 2 ≤ w3.heap.size := hsz3
  have c0 : w3.cell? ⟨gx, 5, none⟩ = some (.slice a.P m.procs.length a.cP) := HB3.out.cell 5
  have CX := Lib.hid (listPr_any w3 a.P a.cP m.procs HM.out.mc.procs (Lies.wide (HA.out.below HV3.out).P (by omega)) (by rw [HML.out]; decide))
  go_wp2_with fail
  refine CX.out.mono ?_
  rintro e w4 ⟨⟨v, rfl, ho⟩, hb⟩
  rw [HML.out, show prsCells m.procs = prCells p by rw [HM.out.one]; simp [prsCells]] at ho
  obtain ⟨pb, d1, z, rfl, hpb, hl, hd⟩ := own_proc ho
  have HFP : Hid (∀ ad, X0 = some ad → ad.block ≠ pb) := Lib.hid fun ad e => by have := HFL.out ad e; omega
  have CP1 := Lib.hid hd
  clear HFL
  have HV4 := Lib.hid (HV3.out.trans (hb.mono (by omega)))
  have HB4 := Lib.hid (HB3.out.below hb HB3.out.lt)
  have HZ4 := Lib.hid (HZ3.out.below hb HZ3.out.lt)
  have PBx4 : Hid (Whole w4 pb 47 (prCells p ++ z).toArray) := Lib.hid hl
  have NLFx4 := Lib.hid (NLFx3.out.below hb)
  have hs4 : gx + 2 ≤ w4.heap.size := Nat.le_trans hs3 hb.size
  have hsq4 : w3.heap.size ≤ w4.heap.size := hb.size
  clear hl hb CX c0 ho hd HV3 HB3 HZ3 hsz3 NLFx3
  have c1 : w4.cell? ⟨gx, 5, none⟩ = some (.slice a.P m.procs.length a.cP) := HB4.out.cell 5
  have y1 : w4.frozen? ⟨gx, 5, none⟩ = false := HB4.out.free 5
  have HB5 : Hid (Whole (w4.setCell ⟨gx, 5, none⟩ (.slice (some ⟨pb, 0, none⟩) 1 d1)) gx 31 (mcL ({ a with F := X0, cF := d0, P := some ⟨pb, 0, none⟩, cP := d1 } : MA) m).toArray) := Lib.hid (by have := HB4.out.set 5 (.slice (some ⟨pb, 0, none⟩) 1 d1); unfold mcL at *; rw [HML.out] at *; exact this)
  have HZ5 := Lib.hid (HZ4.out.far (p := ⟨gx, 5, none⟩) (by show gx + 1 ≠ gx; omega) (.slice (some ⟨pb, 0, none⟩) 1 d1))
  have HV5 := Lib.hid (HV4.out.setCell (p := ⟨gx, 5, none⟩) (Nat.le_refl _) (.slice (some ⟨pb, 0, none⟩) 1 d1))
  have hsz5 : gx + 2 ≤ (w4.setCell ⟨gx, 5, none⟩ (.slice (some ⟨pb, 0, none⟩) 1 d1)).heap.size := by simpa [World.setCell] using hs4
  have hsq5 : w4.heap.size ≤ (w4.setCell ⟨gx, 5, none⟩ (.slice (some ⟨pb, 0, none⟩) 1 d1)).heap.size := by simp [World.setCell]
  have NLFx5 := Lib.hid (NLFx4.out.set (q := gx) (K := 5) (v := (.slice (some ⟨pb, 0, none⟩) 1 d1)) (by omega))
  have PBx5 := Lib.hid (PBx4.out.far (p := ⟨gx, 5, none⟩) (by show pb ≠ gx; omega) (.slice (some ⟨pb, 0, none⟩) 1 d1))
  go_upto_region 3 with (fail)
  clear c1 y1 HV4 HB4 HZ4 NLFx4 PBx4
  generalize (w4.setCell ⟨gx, 5, none⟩ (.slice (some ⟨pb, 0, none⟩) 1 d1)) = w5 at *
  have HPL : Hid (pb < w5.heap.size) := Lib.hid PBx5.out.lt
  have hs5 : gx + 2 ≤ w5.heap.size := hsz5
  have c0 : w5.cell? ⟨gx, 8, none⟩ = some (.slice a.Q m.pipes.length a.cQ) := HB5.out.cell 8
  have CX := Lib.hid (listPi_any w5 a.Q a.cQ m.pipes (Lies.wide (HA.out.below HV5.out).Q (by omega)) (hpil))
  go_wp2_with fail
  refine CX.out.mono ?_
  rintro e w6 ⟨⟨v, rfl, ho⟩, hb⟩
  obtain ⟨X2, d2, rfl, hl, hd, hlt⟩ := own_row ho
  have CP2 := Lib.hid hd
  have hl := And.intro hl ho
  clear ho
  clear hlt
  have HV6 := Lib.hid (HV5.out.trans (hb.mono (by omega)))
  have HB6 := Lib.hid (HB5.out.below hb HB5.out.lt)
  have HZ6 := Lib.hid (HZ5.out.below hb HZ5.out.lt)
  have NLQx6 : Hid (LQ w5.heap.size w6 X2 m.pipes.length d2 (nbCells m.pipes)) := Lib.hid hl
  have NLFx6 := Lib.hid (NLFx5.out.below hb)
  have PBx6 := Lib.hid (PBx5.out.below hb PBx5.out.lt)
  have hs6 : gx + 2 ≤ w6.heap.size := Nat.le_trans hs5 hb.size
  have hsq6 : w5.heap.size ≤ w6.heap.size := hb.size
  clear hl hb CX c0 hd HV5 HB5 HZ5 hsz5 NLFx5 PBx5
  have c1 : w6.cell? ⟨gx, 8, none⟩ = some (.slice a.Q m.pipes.length a.cQ) := HB6.out.cell 8
  have y1 : w6.frozen? ⟨gx, 8, none⟩ = false := HB6.out.free 8
  have HB7 : Hid (Whole (w6.setCell ⟨gx, 8, none⟩ (.slice X2 m.pipes.length d2)) gx 31 (mcL ({ a with F := X0, cF := d0, P := some ⟨pb, 0, none⟩, cP := d1, Q := X2, cQ := d2 } : MA) m).toArray) := Lib.hid (HB6.out.set 8 (.slice X2 m.pipes.length d2))
  have HZ7 := Lib.hid (HZ6.out.far (p := ⟨gx, 8, none⟩) (by show gx + 1 ≠ gx; omega) (.slice X2 m.pipes.length d2))
  have HV7 := Lib.hid (HV6.out.setCell (p := ⟨gx, 8, none⟩) (Nat.le_refl _) (.slice X2 m.pipes.length d2))
  have hsz7 : gx + 2 ≤ (w6.setCell ⟨gx, 8, none⟩ (.slice X2 m.pipes.length d2)).heap.size := by simpa [World.setCell] using hs6
  have hsq7 : w6.heap.size ≤ (w6.setCell ⟨gx, 8, none⟩ (.slice X2 m.pipes.length d2)).heap.size := by simp [World.setCell]
  have NLFx7 := Lib.hid (NLFx6.out.set (q := gx) (K := 8) (v := (.slice X2 m.pipes.length d2)) (by omega))
  have PBx7 := Lib.hid (PBx6.out.far (p := ⟨gx, 8, none⟩) (by show pb ≠ gx; omega) (.slice X2 m.pipes.length d2))
  have NLQx7 := Lib.hid (NLQx6.out.set (q := gx) (K := 8) (v := (.slice X2 m.pipes.length d2)) (by omega))
  go_upto_region 4 with (fail)
  clear c1 y1 HV6 HB6 HZ6 NLFx6 PBx6 NLQx6
  generalize (w6.setCell ⟨gx, 8, none⟩ (.slice X2 m.pipes.length d2)) = w7 at *
  have hs7 : gx + 2 ≤ w7.heap.size := hsz7
  have LDv : Hid (∀ j v, (dvL a.L m.blocks.length a.cL a.N m.pend.length a.cN m.dleft)[j]? = some v → w7.cell? ((⟨gx, 13, none⟩ : Addr).add j) = some v) := Lib.hid (mid_cells HB7.out 13 _ (fun j v hv => by
    match j, hv with
    | 0, hv => exact hv
    | 1, hv => exact hv
    | 2, hv => exact hv))
  have DI : Hid ((Tryz.prog.info? 29).map (·.size) = some 3) := Lib.hid Tryz.sizeDv
  have CX := Lib.hid (drive_any w7 a.L a.N a.cL a.cN m.dleft m.blocks m.pend (Lies.wide (HA.out.below HV7.out).L (by omega)) (Lies.wide (HA.out.below HV7.out).N (by omega)) HSI.out.2.2.2.1 HSI.out.2.2.2.2.1)
  go_wp2_with (refine wpList_load_at rfl 29 (.tmp 15) rfl ⟨gx, 13, none⟩ rfl (dvL a.L m.blocks.length a.cL a.N m.pend.length a.cN m.dleft) _ LDv.out Tryz.underlying29 rfl DI.out ?_)
  refine CX.out.mono ?_
  rintro e w8 ⟨⟨X3, d3, Y, dy, rfl, hl, hl2, hd, hd2⟩, hb⟩
  have CP3 := Lib.hid hd
  have CPN := Lib.hid hd2
  have HV8 := Lib.hid (HV7.out.trans (hb.mono (by omega)))
  have HB8 := Lib.hid (HB7.out.below hb HB7.out.lt)
  have HZ8 := Lib.hid (HZ7.out.below hb HZ7.out.lt)
  have NLLx8 : Hid (LO w7.heap.size 9 w8 X3 (m.blocks.map S)) := Lib.hid hl
  have NLNx8 : Hid (LO w7.heap.size 77 w8 Y (nbCells m.pend)) := Lib.hid hl2
  have NLFx8 := Lib.hid (NLFx7.out.below hb)
  have PBx8 := Lib.hid (PBx7.out.below hb PBx7.out.lt)
  have NLQx8 := Lib.hid (NLQx7.out.below hb)
  have hs8 : gx + 2 ≤ w8.heap.size := Nat.le_trans hs7 hb.size
  have hsq8 : w7.heap.size ≤ w8.heap.size := hb.size
  clear hl hb CX hl2 hd2 LDv hd HV7 HB7 HZ7 hsz7 NLFx7 PBx7 NLQx7
  obtain ⟨cs, HCS⟩ : ∃ z, Hid (mcL ({ a with F := X0, cF := d0, P := some ⟨pb, 0, none⟩, cP := d1, Q := X2, cQ := d2 } : MA) m = z) := ⟨_, Lib.hid rfl⟩
  have HBQ : Hid (Whole w8 gx 31 cs.toArray) := Lib.hid (by rw [← HCS.out]; exact HB8.out)
  have HCL : Hid (cs.length = 17) := Lib.hid (by rw [← HCS.out]; rfl)
  go_upto_region 5 with (refine wpList_store_at rfl 29 (.tmp 18) (.tmp 17) rfl rfl gx 13 rfl (dvL X3 m.blocks.length d3 Y m.pend.length dy m.dleft) rfl DI.out cs 31 HBQ.out (by rw [HCL.out]; exact (by decide : 13 + 3 ≤ 17)) (dvL_one _ _ _ _ _ _ _) ?_; intro w9 hw hk)
  have HB9 : Hid (Whole w9 gx 31 (mcL ({ a with F := X0, cF := d0, P := some ⟨pb, 0, none⟩, cP := d1, Q := X2, cQ := d2, L := X3, cL := d3, N := Y, cN := dy } : MA) m).toArray) := Lib.hid (by have := hw.out; rw [← HCS.out] at this; exact this)
  have HZ9 := Lib.hid (HZ8.out.other hk.out (by intro e; injection e with e; omega))
  have HV9 := Lib.hid (HV8.out.grown hk.out (by omega) (fun q e => by injection e with e; omega))
  have hsz9 : gx + 2 ≤ w9.heap.size := Nat.le_trans hs8 hk.out.size
  have hsq9 : w8.heap.size ≤ w9.heap.size := hk.out.size
  have NLFx9 := Lib.hid (NLFx8.out.one hk.out (by omega))
  have PBx9 := Lib.hid (PBx8.out.other hk.out (by intro e; injection e with e; omega))
  have NLQx9 := Lib.hid (NLQx8.out.one hk.out (by omega))
  have NLLx9 := Lib.hid (NLLx8.out.one hk.out (by omega))
  have NLNx9 := Lib.hid (NLNx8.out.one hk.out (by omega))
  clear hw hk HBQ HCL HCS HV8 HB8 HZ8 NLFx8 PBx8 NLQx8 NLLx8 NLNx8
  have hs9 : gx + 2 ≤ w9.heap.size := hsz9
  have c0 : w9.cell? ⟨gx, 16, none⟩ = some (.slice a.D m.dirty.length a.cD) := HB9.out.cell 16
  have CX := Lib.hid (listWr_any w9 a.D a.cD m.dirty (Lies.wide (HA.out.below HV9.out).D (by omega)) (by have := HSI.out.2.2.2.2.2; omega))
  go_wp2_with fail
  refine CX.out.mono ?_
  rintro e w10 ⟨⟨v, rfl, ho⟩, hb⟩
  obtain ⟨X4, d4, rfl, hl, hd, hlt⟩ := own_row ho
  have CP4 := Lib.hid hd
  clear ho
  clear hlt
  have HV10 := Lib.hid (HV9.out.trans (hb.mono (by omega)))
  have HB10 := Lib.hid (HB9.out.below hb HB9.out.lt)
  have HZ10 := Lib.hid (HZ9.out.below hb HZ9.out.lt)
  have NLDx10 : Hid (LO w9.heap.size 77 w10 X4 (nbCells m.dirty)) := Lib.hid hl
  have NLFx10 := Lib.hid (NLFx9.out.below hb)
  have PBx10 := Lib.hid (PBx9.out.below hb PBx9.out.lt)
  have NLQx10 := Lib.hid (NLQx9.out.below hb)
  have NLLx10 := Lib.hid (NLLx9.out.below hb)
  have NLNx10 := Lib.hid (NLNx9.out.below hb)
  have hs10 : gx + 2 ≤ w10.heap.size := Nat.le_trans hs9 hb.size
  have hsq10 : w9.heap.size ≤ w10.heap.size := hb.size
  clear hl hb CX c0 hd HV9 HB9 HZ9 hsz9 NLFx9 PBx9 NLQx9 NLLx9 NLNx9
  have c1 : w10.cell? ⟨gx, 16, none⟩ = some (.slice a.D m.dirty.length a.cD) := HB10.out.cell 16
  have y1 : w10.frozen? ⟨gx, 16, none⟩ = false := HB10.out.free 16
  have HB11 : Hid (Whole (w10.setCell ⟨gx, 16, none⟩ (.slice X4 m.dirty.length d4)) gx 31 (mcL ({ a with F := X0, cF := d0, P := some ⟨pb, 0, none⟩, cP := d1, Q := X2, cQ := d2, L := X3, cL := d3, N := Y, cN := dy, D := X4, cD := d4 } : MA) m).toArray) := Lib.hid (HB10.out.set 16 (.slice X4 m.dirty.length d4))
  have HZ11 := Lib.hid (HZ10.out.far (p := ⟨gx, 16, none⟩) (by show gx + 1 ≠ gx; omega) (.slice X4 m.dirty.length d4))
  have HV11 := Lib.hid (HV10.out.setCell (p := ⟨gx, 16, none⟩) (Nat.le_refl _) (.slice X4 m.dirty.length d4))
  have hsz11 : gx + 2 ≤ (w10.setCell ⟨gx, 16, none⟩ (.slice X4 m.dirty.length d4)).heap.size := by simpa [World.setCell] using hs10
  have hsq11 : w10.heap.size ≤ (w10.setCell ⟨gx, 16, none⟩ (.slice X4 m.dirty.length d4)).heap.size := by simp [World.setCell]
  have NLFx11 := Lib.hid (NLFx10.out.set (q := gx) (K := 16) (v := (.slice X4 m.dirty.length d4)) (by omega))
  have PBx11 := Lib.hid (PBx10.out.far (p := ⟨gx, 16, none⟩) (by show pb ≠ gx; omega) (.slice X4 m.dirty.length d4))
  have NLQx11 := Lib.hid (NLQx10.out.set (q := gx) (K := 16) (v := (.slice X4 m.dirty.length d4)) (by omega))
  have NLLx11 := Lib.hid (NLLx10.out.set (q := gx) (K := 16) (v := (.slice X4 m.dirty.length d4)) (by omega))
  have NLNx11 := Lib.hid (NLNx10.out.set (q := gx) (K := 16) (v := (.slice X4 m.dirty.length d4)) (by omega))
  have NLDx11 := Lib.hid (NLDx10.out.set (q := gx) (K := 16) (v := (.slice X4 m.dirty.length d4)) (by omega))
  go_upto_region 6 with (fail)
  clear c1 y1 HV10 HB10 HZ10 NLFx10 PBx10 NLQx10 NLLx10 NLNx10 NLDx10
  generalize (w10.setCell ⟨gx, 16, none⟩ (.slice X4 m.dirty.length d4)) = w11 at *
  have LD := Lib.hid HB11.out.reads
  have hone := mcL_one ({ a with F := X0, cF := d0, P := some ⟨pb, 0, none⟩, cP := d1, Q := X2, cQ := d2, L := X3, cL := d3, N := Y, cN := dy, D := X4, cD := d4 } : MA) m
  have HOW : Hid (∀ wz, w11.grownBy wz (some (gx + 1)) → OM wz (fun g => w.heap.size ≤ g) ({ a with F := X0, cF := d0, P := some ⟨pb, 0, none⟩, cP := d1, Q := X2, cQ := d2, L := X3, cL := d3, N := Y, cN := dy, D := X4, cD := d4 } : MA) m p pb z) := Lib.hid fun wz hk =>
    ⟨by rfl, PBx11.out.other hk (by intro e; injection e with e; omega), by have := HGX.out; omega,
      (NLFx11.out.one hk (by omega)).lx (fun g hg => by have := HGX.out; omega) HFP.out,
      (NLQx11.out.one hk (by omega)).1.lx (fun g hg => by have := HGX.out; omega) (fun ad e => by have := NLQx11.out.1.2 ad e; have := HPL.out; omega),
      (NLLx11.out.one hk (by omega)).lx (fun g hg => by have := HGX.out; omega) (fun ad e => by have := NLLx11.out.2 ad e; have := HPL.out; omega),
      (NLNx11.out.one hk (by omega)).lx (fun g hg => by have := HGX.out; omega) (fun ad e => by have := NLNx11.out.2 ad e; have := HPL.out; omega),
      (NLDx11.out.one hk (by omega)).lx (fun g hg => by have := HGX.out; omega) (fun ad e => by have := NLDx11.out.2 ad e; have := HPL.out; omega),
      ⟨CP0.out, by show m.procs.length ≤ d1; rw [HML.out]; exact CP1.out, CP2.out, CP3.out, CPN.out, CP4.out⟩, HM.out.one, own_mono (NLQx11.out.one hk (by omega)).2 (Nat.zero_le _)⟩
  clear NLFx11 PBx11 NLQx11 NLLx11 NLNx11 NLDx11 CP0 CP1 CP2 CP3 CPN CP4 HPL HFP
  generalize ({ a with F := X0, cF := d0, P := some ⟨pb, 0, none⟩, cP := d1, Q := X2, cQ := d2, L := X3, cL := d3, N := Y, cN := dy, D := X4, cD := d4 } : MA) = a' at *
  have HLN : Hid ((mcL a' m).length = 17) := Lib.hid rfl
  obtain ⟨cs, HCS⟩ : ∃ z, Hid (mcL a' m = z) := ⟨_, Lib.hid rfl⟩
  rw [HCS.out] at LD hone HLN
  have MI : Hid ((Tryz.prog.info? 31).map (·.size) = some cs.length) := Lib.hid (by rw [HLN.out]; exact Tryz.sizeMc)
  go_wp2_with (first
    | (refine wpList_load_at rfl 31 (.tmp 1) rfl ⟨gx, 0, none⟩ rfl cs _ LD.out Tryz.underlying31 rfl MI.out ?_)
    | (refine wpList_store_all rfl 31 (.tmp 2) (.tmp 23) rfl rfl (gx + 1) rfl cs rfl MI.out zeroML 31 HZ11.out (by rw [HLN.out]; rfl) hone ?_; intro wz hw hk))
  refine bodyPost_ret (v := .agg cs.toArray) (results_cell_row rfl _ _ (gx + 1) 31 _ (0, 0) _ rfl hw.out Tryz.underlying31 rfl (by rw [List.size_toArray]; exact MI.out)) rfl ?_
  exact ⟨⟨a', pb, z, by rw [HCS.out], HOW.out wz hk.out⟩, by rw [HGX.out]; exact HV11.out.grown hk.out (by omega) (fun q e => by injection e with e; omega)⟩
end Go.Proofs.YtdhfblfnejmeiaaGreatDoor
