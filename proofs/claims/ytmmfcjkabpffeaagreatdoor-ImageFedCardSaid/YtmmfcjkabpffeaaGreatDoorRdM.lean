/-
  Walk: image.readRest. (Printed by gen_rdm.py.)
-/
import Derived.Test.YtmmfcjkabpffeaaGreatDoorRdA
namespace Go.Proofs.YtmmfcjkabpffeaaGreatDoor
open Go.RowKit

/-- processes of a row -/
def prsR (b : List UInt8) : Option (List Pr) := (openR b (-1)).bind fun l => l.mapM procR
/-- a machine, but for its pages and blocks, of sixteen texts -/
def restOfR (t0 t1 t2 t3 t4 t5 t6 t7 t8 t9 t10 t11 t12 t13 t14 t15 : List UInt8) : Option Mc :=
  if t0 = mark2 then (if t1.length = 8 then (intP t2).bind fun qu => (intP t3).bind fun cu => (intP t4).bind fun le => (intP t5).bind fun nx => (intP t7).bind fun np => (flagP t9).bind fun fin => if t10.length = 8 then (intP t11).bind fun dl =>
    (nbsR t12).bind fun pd => (nbsR t13).bind fun dy => (nbsR t14).bind fun pi => (prsR t15).bind fun ps =>
    some ⟨(getL t1 : Int), qu, cu, le, [], ps, nx, t6, pi, np, t8, fin, (getL t10 : Int), [], pd, dl, dy⟩ else none else none) else none
def restR (b : List UInt8) : Option Mc := match openR b 16 with
  | some [t0, t1, t2, t3, t4, t5, t6, t7, t8, t9, t10, t11, t12, t13, t14, t15] => restOfR t0 t1 t2 t3 t4 t5 t6 t7 t8 t9 t10 t11 t12 t13 t14 t15
  | _ => none
/-- what readRest gives -/
def RestPost (w : World) (r : Option Mc) (e : Ending) (w' : World) : Prop :=
  (match r with
    | none => e = .returned (.tuple #[.agg zeroML.toArray, .bool false])
    | some m => ∃ a : MA, e = .returned (.tuple #[.agg (mcL a m).toArray, .bool true]) ∧ MAt w' w'.heap.size a m ∧ McOk' m ∧ a.F = none ∧ a.L = none ∧ ∀ ad, (a.P = some ad ∨ a.Q = some ad ∨ a.N = some ad ∨ a.D = some ad) → w.heap.size ≤ ad.block) ∧ Below w.heap.size w w'
/-- pipes as a row of the call's own -/
abbrev OwnPi (w : World) (base : Nat) (v : Value) (l : List Nb) : Prop := w.ownsRow base 70 2 v l.length (nbCells l)
theorem Tryz.infoPi3 : (Tryz.prog.info? 70).map (fun i => (i.zero, i.size, i.bytes)) = some (some (.agg #[.int .i64 0, .string ⟨#[]⟩]), 2, 24) := by kernel_rfl
set_option maxRecDepth 100000 in
set_option maxHeartbeats 8000000 in
theorem readRest_any (w : World) (b : List UInt8) (hb : b.length ≤ 4294967296) (hT : ITabs w) :
    Calls Tryz.prog 40 #[S b] w (RestPost w (restR b)) := by
  obtain ⟨i0, hi0, hz0, hz1, hz2'⟩ := info_parts Tryz.infoPi3
  have hmf : ∀ (fn : Fn) (first cap : Array Value) (w : World), (Instr.makeFunc fn first cap).run Tryz.prog w = .ok (.func fn first cap) w := fun _ _ _ _ => rfl
  have hs0 := (Whole.made w 30 #[.int .u64 0, .int .i64 0, .int .i64 0, .int .i64 0, .slice none 0 0, .slice none 0 0, .int .i64 0, S [], .slice none 0 0, .int .i64 0, S [], .bool false, .int .u64 0, .slice none 0 0, .slice none 0 0, .int .i64 0, .slice none 0 0]).block (.cells #[.bool false] 4)
  have hs1 := Whole.made (w.alloc (.cells #[.int .u64 0, .int .i64 0, .int .i64 0, .int .i64 0, .slice none 0 0, .slice none 0 0, .int .i64 0, S [], .slice none 0 0, .int .i64 0, S [], .bool false, .int .u64 0, .slice none 0 0, .slice none 0 0, .int .i64 0, .slice none 0 0] 30)) 4 #[.bool false]
  rw [show (w.alloc (.cells #[.int .u64 0, .int .i64 0, .int .i64 0, .int .i64 0, .slice none 0 0, .slice none 0 0, .int .i64 0, S [], .slice none 0 0, .int .i64 0, S [], .bool false, .int .u64 0, .slice none 0 0, .slice none 0 0, .int .i64 0, .slice none 0 0] 30)).heap.size = w.heap.size + 1 by simp] at hs1
  have hb0 : Below w.heap.size w ((w.alloc (.cells #[.int .u64 0, .int .i64 0, .int .i64 0, .int .i64 0, .slice none 0 0, .slice none 0 0, .int .i64 0, S [], .slice none 0 0, .int .i64 0, S [], .bool false, .int .u64 0, .slice none 0 0, .slice none 0 0, .int .i64 0, .slice none 0 0] 30)).alloc (.cells #[.bool false] 4)) := ((Below.refl _ _).alloc (Nat.le_refl _) _).alloc (by simp) _
  go_enter_defers Tryz.func40, Tryz.ntmps40
  go_upto_region 1 with (fail)
  change Code.wp _ _ _ _ ((w.alloc (.cells #[.int .u64 0, .int .i64 0, .int .i64 0, .int .i64 0, .slice none 0 0, .slice none 0 0, .int .i64 0, S [], .slice none 0 0, .int .i64 0, S [], .bool false, .int .u64 0, .slice none 0 0, .slice none 0 0, .int .i64 0, .slice none 0 0] 30)).alloc (.cells #[.bool false] 4))
  generalize ((w.alloc (.cells #[.int .u64 0, .int .i64 0, .int .i64 0, .int .i64 0, .slice none 0 0, .slice none 0 0, .int .i64 0, S [], .slice none 0 0, .int .i64 0, S [], .bool false, .int .u64 0, .slice none 0 0, .slice none 0 0, .int .i64 0, .slice none 0 0] 30)).alloc (.cells #[.bool false] 4)) = w1 at *
  generalize hgx : w.heap.size = gx at *
  have HGX := Lib.hid hgx
  have HS0 := Lib.hid hs0
  have HS1 := Lib.hid hs1
  have HW := Lib.hid hb0
  have hgl : gx + 1 < w1.heap.size := hs1.lt
  have CO := Lib.hid (open_any w1 b 16 (by omega) (by unfold inJ8; omega))
  have HIT : Hid (∀ W, Below gx w W → ITabs W) := Lib.hid fun W hW => hT.below (B := gx) (by rw [HGX.out]; exact Nat.le_refl _) hW
  have HBL := Lib.hid hb
  clear hgx hb0 hs0 hs1 hT hb
  go_wp2_with fail
  refine CO.out.mono ?_
  rintro e w2 ⟨he, hb2⟩
  have HB2 := Lib.hid hb2
  have HV2 := Lib.hid (HW.out.trans (hb2.mono (by omega)))
  have HM2 := Lib.hid (HS0.out.below hb2 (by omega))
  have HH2 := Lib.hid (HS1.out.below hb2 (by omega))
  clear hb2 CO
  have hbl := HBL.out
  cases hq : openR b 16 with
  | none =>
    rw [hq] at he
    obtain rfl : e = bentE := he
    have HQ : Hid (restR b = none) := Lib.hid (by unfold restR; rw [hq])
    clear hq
    go_wp2_with fail
    refine door_bent HM2.out rfl HH2.out (by omega) gx (Nat.le_refl _) (by omega) ?_ ?_ (fun w' hb => ?_)
    · rfl
    · rfl
    · unfold RestPost
      rw [HQ.out]
      exact ⟨rfl, by rw [HGX.out]; exact HV2.out.trans hb⟩
  | some l =>
    rw [hq] at he
    obtain ⟨g, rfl, hC, hge⟩ := he
    have hll := (openR_ok hq).2 (by omega)
    have hm := texts_mem (openR_ok hq).1
    match l, hll with
    | [t0, t1, t2, t3, t4, t5, t6, t7, t8, t9, t10, t11, t12, t13, t14, t15], _ =>
      have HPR : Hid (restR b = restOfR t0 t1 t2 t3 t4 t5 t6 t7 t8 t9 t10 t11 t12 t13 t14 t15) := Lib.hid (by unfold restR; rw [hq])
      have HML : Hid (∀ y ∈ [t0, t1, t2, t3, t4, t5, t6, t7, t8, t9, t10, t11, t12, t13, t14, t15], y.length ≤ 1099511627776) := Lib.hid fun y hy => by have := hm y hy; omega
      have HMB : Hid (∀ y ∈ [t0, t1, t2, t3, t4, t5, t6, t7, t8, t9, t10, t11, t12, t13, t14, t15], y.length ≤ 4294967296) := Lib.hid fun y hy => by have := hm y hy; omega
      have hgB : g < w2.heap.size := hC.1.2
      have hge1 : w1.heap.size ≤ g := hge
      have hgx : gx ≤ g := by omega
      have HC2 := Lib.hid hC
      have hz2 : w2.heap.size ≤ w2.heap.size := Nat.le_refl _
      have CX := Lib.hid (text_any w2 g w2.heap.size [t0, t1, t2, t3, t4, t5, t6, t7, t8, t9, t10, t11, t12, t13, t14, t15] HC2.out)
      clear hq hC hll hm hge
      go_wp2_with fail
      refine CX.out.mono ?_
      rintro e w4 ⟨he, hk⟩
      obtain ⟨rfl, hC⟩ : e = .returned (S t0) ∧ Cur w4 w1.heap.size g w2.heap.size [t1, t2, t3, t4, t5, t6, t7, t8, t9, t10, t11, t12, t13, t14, t15] := he
      have HC4 := Lib.hid hC
      have HV4 := Lib.hid (below_one HV2.out (HGX.out ▸ HV2.out.size) hk hgx)
      have HM4 := Lib.hid (HM2.out.other hk (by intro e; injection e with e; omega))
      have HH4 := Lib.hid (HH2.out.other hk (by intro e; injection e with e; omega))
      have hz4 : w2.heap.size ≤ w4.heap.size := hk.size
      clear hC hk CX HM2 HH2 HV2 HC2
      by_cases h0 : t0 = mark2
      · have F0 := Lib.hid h0
        obtain rfl : t0 = [104, 105, 98, 50] := h0
        go_upto_region 5 with (fail)
        have CX := Lib.hid (bytes_any w4 g w2.heap.size [t1, t2, t3, t4, t5, t6, t7, t8, t9, t10, t11, t12, t13, t14, t15] HC4.out 8 (by omega))
        go_wp2_with fail
        refine CX.out.mono ?_
        rintro e w5 ⟨he, hk⟩
        have HV5 := Lib.hid (below_one HV4.out (HGX.out ▸ HV4.out.size) hk hgx)
        have HM5 := Lib.hid (HM4.out.other hk (by intro e; injection e with e; omega))
        have HH5 := Lib.hid (HH4.out.other hk (by intro e; injection e with e; omega))
        have hz5 : w2.heap.size ≤ w5.heap.size := Nat.le_trans hz4 hk.size
        clear hk
        clear CX HM4 HH4 HV4 hz4 HC4
        by_cases hi : t1.length = 8
        · rw [show bytesR 8 [t1, t2, t3, t4, t5, t6, t7, t8, t9, t10, t11, t12, t13, t14, t15] = some (.int .u64 (getL t1), [t2, t3, t4, t5, t6, t7, t8, t9, t10, t11, t12, t13, t14, t15]) from if_pos hi] at he
          obtain ⟨rfl, hC⟩ := he
          have HC5 := Lib.hid hC
          have F1 := Lib.hid hi
          clear hi hC
          have cs0 : w5.cell? ⟨gx, 0, none⟩ = some (.int .u64 0) := HM5.out.cell 0
          have ys0 : w5.frozen? ⟨gx, 0, none⟩ = false := HM5.out.free 0
          have HM6 : Hid (Whole (w5.setCell ⟨gx, 0, none⟩ (.int .u64 (getL t1 : Int))) gx 30 #[.int .u64 (getL t1 : Int), .int .i64 0, .int .i64 0, .int .i64 0, .slice none 0 0, .slice none 0 0, .int .i64 0, S [], .slice none 0 0, .int .i64 0, S [], .bool false, .int .u64 0, .slice none 0 0, .slice none 0 0, .int .i64 0, .slice none 0 0]) := Lib.hid (show Whole (w5.setCell ⟨gx, 0, none⟩ (.int .u64 (getL t1 : Int))) gx 30 #[.int .u64 (getL t1 : Int), .int .i64 0, .int .i64 0, .int .i64 0, .slice none 0 0, .slice none 0 0, .int .i64 0, S [], .slice none 0 0, .int .i64 0, S [], .bool false, .int .u64 0, .slice none 0 0, .slice none 0 0, .int .i64 0, .slice none 0 0] from Whole.set HM5.out 0 (.int .u64 (getL t1 : Int)))
          have HH6 : Hid (Whole (w5.setCell ⟨gx, 0, none⟩ (.int .u64 (getL t1 : Int))) (gx + 1) 4 #[.bool false]) := Lib.hid (Whole.far HH5.out (p := ⟨gx, 0, none⟩) (by show gx + 1 ≠ gx; omega) (.int .u64 (getL t1 : Int)))
          have HV6 : Hid (Below gx w (w5.setCell ⟨gx, 0, none⟩ (.int .u64 (getL t1 : Int)))) := Lib.hid (Below.setCell HV5.out (p := ⟨gx, 0, none⟩) (Nat.le_refl _) (.int .u64 (getL t1 : Int)))
          have HC6 := Lib.hid (Cur.lower HC5.out (grown_setK w5 gx 0 (.int .u64 (getL t1 : Int))) (by omega) hz5)
          have hz6 : w2.heap.size ≤ (w5.setCell ⟨gx, 0, none⟩ (.int .u64 (getL t1 : Int))).heap.size := by simpa [World.setCell] using hz5
          go_upto_region 6 with (fail)
          clear cs0 ys0
          clear HM5 HH5 HV5 HC5 hz5
          generalize (w5.setCell ⟨gx, 0, none⟩ (.int .u64 (getL t1 : Int))) = w6 at *
          have CX := Lib.hid (cdec_any w6 g w2.heap.size [t2, t3, t4, t5, t6, t7, t8, t9, t10, t11, t12, t13, t14, t15] HC6.out hz6 (fun y hy => HML.out y (List.mem_of_mem_drop (i := 2) (show y ∈ [([104, 105, 98, 50] : List UInt8), t1, t2, t3, t4, t5, t6, t7, t8, t9, t10, t11, t12, t13, t14, t15].drop 2 from hy))) fun W hW => HIT.out W (below_one HV6.out (HGX.out ▸ HV6.out.size) hW hgx))
          go_wp2_with fail
          refine CX.out.mono ?_
          rintro e w7 ⟨he, hk⟩
          have HV7 := Lib.hid (below_one HV6.out (HGX.out ▸ HV6.out.size) hk hgx)
          have HM7 := Lib.hid (HM6.out.other hk (by intro e; injection e with e; omega))
          have HH7 := Lib.hid (HH6.out.other hk (by intro e; injection e with e; omega))
          have hz7 : w2.heap.size ≤ w7.heap.size := Nat.le_trans hz6 hk.size
          clear hk
          clear CX HM6 HH6 HV6 hz6 HC6
          cases hi : intP t2 with
          | none =>
            rw [show decR [t2, t3, t4, t5, t6, t7, t8, t9, t10, t11, t12, t13, t14, t15] = none by show (intP t2).map _ = _; rw [hi]; rfl] at he
            obtain rfl : e = bentE := he
            have HQ : Hid (restR b = none) := Lib.hid (by rw [HPR.out]; unfold restOfR; simp [F0.out, F1.out, hi])
            go_wp2_with fail
            refine door_bent HM7.out rfl HH7.out (by omega) gx (Nat.le_refl _) (by omega) ?_ ?_ (fun w' hb => ?_)
            · rfl
            · rfl
            · unfold RestPost
              rw [HQ.out]
              exact ⟨rfl, by rw [HGX.out]; exact HV7.out.trans hb⟩
          | some qu =>
            rw [show decR [t2, t3, t4, t5, t6, t7, t8, t9, t10, t11, t12, t13, t14, t15] = some (.int .i64 qu, [t3, t4, t5, t6, t7, t8, t9, t10, t11, t12, t13, t14, t15]) by show (intP t2).map _ = _; rw [hi]; rfl] at he
            obtain ⟨rfl, hC⟩ := he
            have HC7 := Lib.hid hC
            have F2 := Lib.hid hi
            clear hi hC
            have CX := Lib.hid (cdec_any w7 g w2.heap.size [t3, t4, t5, t6, t7, t8, t9, t10, t11, t12, t13, t14, t15] HC7.out hz7 (fun y hy => HML.out y (List.mem_of_mem_drop (i := 3) (show y ∈ [([104, 105, 98, 50] : List UInt8), t1, t2, t3, t4, t5, t6, t7, t8, t9, t10, t11, t12, t13, t14, t15].drop 3 from hy))) fun W hW => HIT.out W (below_one HV7.out (HGX.out ▸ HV7.out.size) hW hgx))
            go_wp2_with fail
            refine CX.out.mono ?_
            rintro e w8 ⟨he, hk⟩
            have HV8 := Lib.hid (below_one HV7.out (HGX.out ▸ HV7.out.size) hk hgx)
            have HM8 := Lib.hid (HM7.out.other hk (by intro e; injection e with e; omega))
            have HH8 := Lib.hid (HH7.out.other hk (by intro e; injection e with e; omega))
            have hz8 : w2.heap.size ≤ w8.heap.size := Nat.le_trans hz7 hk.size
            clear hk
            clear CX HM7 HH7 HV7 hz7 HC7
            cases hi : intP t3 with
            | none =>
              rw [show decR [t3, t4, t5, t6, t7, t8, t9, t10, t11, t12, t13, t14, t15] = none by show (intP t3).map _ = _; rw [hi]; rfl] at he
              obtain rfl : e = bentE := he
              have HQ : Hid (restR b = none) := Lib.hid (by rw [HPR.out]; unfold restOfR; simp [F0.out, F1.out, F2.out, hi])
              go_wp2_with fail
              refine door_bent HM8.out rfl HH8.out (by omega) gx (Nat.le_refl _) (by omega) ?_ ?_ (fun w' hb => ?_)
              · rfl
              · rfl
              · unfold RestPost
                rw [HQ.out]
                exact ⟨rfl, by rw [HGX.out]; exact HV8.out.trans hb⟩
            | some cu =>
              rw [show decR [t3, t4, t5, t6, t7, t8, t9, t10, t11, t12, t13, t14, t15] = some (.int .i64 cu, [t4, t5, t6, t7, t8, t9, t10, t11, t12, t13, t14, t15]) by show (intP t3).map _ = _; rw [hi]; rfl] at he
              obtain ⟨rfl, hC⟩ := he
              have HC8 := Lib.hid hC
              have F3 := Lib.hid hi
              clear hi hC
              have CX := Lib.hid (cdec_any w8 g w2.heap.size [t4, t5, t6, t7, t8, t9, t10, t11, t12, t13, t14, t15] HC8.out hz8 (fun y hy => HML.out y (List.mem_of_mem_drop (i := 4) (show y ∈ [([104, 105, 98, 50] : List UInt8), t1, t2, t3, t4, t5, t6, t7, t8, t9, t10, t11, t12, t13, t14, t15].drop 4 from hy))) fun W hW => HIT.out W (below_one HV8.out (HGX.out ▸ HV8.out.size) hW hgx))
              go_wp2_with fail
              refine CX.out.mono ?_
              rintro e w9 ⟨he, hk⟩
              have HV9 := Lib.hid (below_one HV8.out (HGX.out ▸ HV8.out.size) hk hgx)
              have HM9 := Lib.hid (HM8.out.other hk (by intro e; injection e with e; omega))
              have HH9 := Lib.hid (HH8.out.other hk (by intro e; injection e with e; omega))
              have hz9 : w2.heap.size ≤ w9.heap.size := Nat.le_trans hz8 hk.size
              clear hk
              clear CX HM8 HH8 HV8 hz8 HC8
              cases hi : intP t4 with
              | none =>
                rw [show decR [t4, t5, t6, t7, t8, t9, t10, t11, t12, t13, t14, t15] = none by show (intP t4).map _ = _; rw [hi]; rfl] at he
                obtain rfl : e = bentE := he
                have HQ : Hid (restR b = none) := Lib.hid (by rw [HPR.out]; unfold restOfR; simp [F0.out, F1.out, F2.out, F3.out, hi])
                go_wp2_with fail
                refine door_bent HM9.out rfl HH9.out (by omega) gx (Nat.le_refl _) (by omega) ?_ ?_ (fun w' hb => ?_)
                · rfl
                · rfl
                · unfold RestPost
                  rw [HQ.out]
                  exact ⟨rfl, by rw [HGX.out]; exact HV9.out.trans hb⟩
              | some le =>
                rw [show decR [t4, t5, t6, t7, t8, t9, t10, t11, t12, t13, t14, t15] = some (.int .i64 le, [t5, t6, t7, t8, t9, t10, t11, t12, t13, t14, t15]) by show (intP t4).map _ = _; rw [hi]; rfl] at he
                obtain ⟨rfl, hC⟩ := he
                have HC9 := Lib.hid hC
                have F4 := Lib.hid hi
                clear hi hC
                have CX := Lib.hid (cdec_any w9 g w2.heap.size [t5, t6, t7, t8, t9, t10, t11, t12, t13, t14, t15] HC9.out hz9 (fun y hy => HML.out y (List.mem_of_mem_drop (i := 5) (show y ∈ [([104, 105, 98, 50] : List UInt8), t1, t2, t3, t4, t5, t6, t7, t8, t9, t10, t11, t12, t13, t14, t15].drop 5 from hy))) fun W hW => HIT.out W (below_one HV9.out (HGX.out ▸ HV9.out.size) hW hgx))
                go_wp2_with fail
                refine CX.out.mono ?_
                rintro e w10 ⟨he, hk⟩
                have HV10 := Lib.hid (below_one HV9.out (HGX.out ▸ HV9.out.size) hk hgx)
                have HM10 := Lib.hid (HM9.out.other hk (by intro e; injection e with e; omega))
                have HH10 := Lib.hid (HH9.out.other hk (by intro e; injection e with e; omega))
                have hz10 : w2.heap.size ≤ w10.heap.size := Nat.le_trans hz9 hk.size
                clear hk
                clear CX HM9 HH9 HV9 hz9 HC9
                cases hi : intP t5 with
                | none =>
                  rw [show decR [t5, t6, t7, t8, t9, t10, t11, t12, t13, t14, t15] = none by show (intP t5).map _ = _; rw [hi]; rfl] at he
                  obtain rfl : e = bentE := he
                  have HQ : Hid (restR b = none) := Lib.hid (by rw [HPR.out]; unfold restOfR; simp [F0.out, F1.out, F2.out, F3.out, F4.out, hi])
                  go_wp2_with fail
                  refine door_bent HM10.out rfl HH10.out (by omega) gx (Nat.le_refl _) (by omega) ?_ ?_ (fun w' hb => ?_)
                  · rfl
                  · rfl
                  · unfold RestPost
                    rw [HQ.out]
                    exact ⟨rfl, by rw [HGX.out]; exact HV10.out.trans hb⟩
                | some nx =>
                  rw [show decR [t5, t6, t7, t8, t9, t10, t11, t12, t13, t14, t15] = some (.int .i64 nx, [t6, t7, t8, t9, t10, t11, t12, t13, t14, t15]) by show (intP t5).map _ = _; rw [hi]; rfl] at he
                  obtain ⟨rfl, hC⟩ := he
                  have HC10 := Lib.hid hC
                  have F5 := Lib.hid hi
                  clear hi hC
                  have cs1 : w10.cell? ⟨gx, 1, none⟩ = some (.int .i64 0) := HM10.out.cell 1
                  have ys1 : w10.frozen? ⟨gx, 1, none⟩ = false := HM10.out.free 1
                  have cs2 : w10.cell? ⟨gx, 2, none⟩ = some (.int .i64 0) := HM10.out.cell 2
                  have ys2 : w10.frozen? ⟨gx, 2, none⟩ = false := HM10.out.free 2
                  have cs3 : w10.cell? ⟨gx, 3, none⟩ = some (.int .i64 0) := HM10.out.cell 3
                  have ys3 : w10.frozen? ⟨gx, 3, none⟩ = false := HM10.out.free 3
                  have cs6 : w10.cell? ⟨gx, 6, none⟩ = some (.int .i64 0) := HM10.out.cell 6
                  have ys6 : w10.frozen? ⟨gx, 6, none⟩ = false := HM10.out.free 6
                  have HM11 : Hid (Whole ((((w10.setCell ⟨gx, 1, none⟩ (.int .i64 qu)).setCell ⟨gx, 2, none⟩ (.int .i64 cu)).setCell ⟨gx, 3, none⟩ (.int .i64 le)).setCell ⟨gx, 6, none⟩ (.int .i64 nx)) gx 30 #[.int .u64 (getL t1 : Int), .int .i64 qu, .int .i64 cu, .int .i64 le, .slice none 0 0, .slice none 0 0, .int .i64 nx, S [], .slice none 0 0, .int .i64 0, S [], .bool false, .int .u64 0, .slice none 0 0, .slice none 0 0, .int .i64 0, .slice none 0 0]) := Lib.hid (show Whole ((((w10.setCell ⟨gx, 1, none⟩ (.int .i64 qu)).setCell ⟨gx, 2, none⟩ (.int .i64 cu)).setCell ⟨gx, 3, none⟩ (.int .i64 le)).setCell ⟨gx, 6, none⟩ (.int .i64 nx)) gx 30 #[.int .u64 (getL t1 : Int), .int .i64 qu, .int .i64 cu, .int .i64 le, .slice none 0 0, .slice none 0 0, .int .i64 nx, S [], .slice none 0 0, .int .i64 0, S [], .bool false, .int .u64 0, .slice none 0 0, .slice none 0 0, .int .i64 0, .slice none 0 0] from Whole.set (show Whole (((w10.setCell ⟨gx, 1, none⟩ (.int .i64 qu)).setCell ⟨gx, 2, none⟩ (.int .i64 cu)).setCell ⟨gx, 3, none⟩ (.int .i64 le)) gx 30 #[.int .u64 (getL t1 : Int), .int .i64 qu, .int .i64 cu, .int .i64 le, .slice none 0 0, .slice none 0 0, .int .i64 0, S [], .slice none 0 0, .int .i64 0, S [], .bool false, .int .u64 0, .slice none 0 0, .slice none 0 0, .int .i64 0, .slice none 0 0] from Whole.set (show Whole ((w10.setCell ⟨gx, 1, none⟩ (.int .i64 qu)).setCell ⟨gx, 2, none⟩ (.int .i64 cu)) gx 30 #[.int .u64 (getL t1 : Int), .int .i64 qu, .int .i64 cu, .int .i64 0, .slice none 0 0, .slice none 0 0, .int .i64 0, S [], .slice none 0 0, .int .i64 0, S [], .bool false, .int .u64 0, .slice none 0 0, .slice none 0 0, .int .i64 0, .slice none 0 0] from Whole.set (show Whole (w10.setCell ⟨gx, 1, none⟩ (.int .i64 qu)) gx 30 #[.int .u64 (getL t1 : Int), .int .i64 qu, .int .i64 0, .int .i64 0, .slice none 0 0, .slice none 0 0, .int .i64 0, S [], .slice none 0 0, .int .i64 0, S [], .bool false, .int .u64 0, .slice none 0 0, .slice none 0 0, .int .i64 0, .slice none 0 0] from Whole.set HM10.out 1 (.int .i64 qu)) 2 (.int .i64 cu)) 3 (.int .i64 le)) 6 (.int .i64 nx))
                  have HH11 : Hid (Whole ((((w10.setCell ⟨gx, 1, none⟩ (.int .i64 qu)).setCell ⟨gx, 2, none⟩ (.int .i64 cu)).setCell ⟨gx, 3, none⟩ (.int .i64 le)).setCell ⟨gx, 6, none⟩ (.int .i64 nx)) (gx + 1) 4 #[.bool false]) := Lib.hid (Whole.far (Whole.far (Whole.far (Whole.far HH10.out (p := ⟨gx, 1, none⟩) (by show gx + 1 ≠ gx; omega) (.int .i64 qu)) (p := ⟨gx, 2, none⟩) (by show gx + 1 ≠ gx; omega) (.int .i64 cu)) (p := ⟨gx, 3, none⟩) (by show gx + 1 ≠ gx; omega) (.int .i64 le)) (p := ⟨gx, 6, none⟩) (by show gx + 1 ≠ gx; omega) (.int .i64 nx))
                  have HV11 : Hid (Below gx w ((((w10.setCell ⟨gx, 1, none⟩ (.int .i64 qu)).setCell ⟨gx, 2, none⟩ (.int .i64 cu)).setCell ⟨gx, 3, none⟩ (.int .i64 le)).setCell ⟨gx, 6, none⟩ (.int .i64 nx))) := Lib.hid (Below.setCell (Below.setCell (Below.setCell (Below.setCell HV10.out (p := ⟨gx, 1, none⟩) (Nat.le_refl _) (.int .i64 qu)) (p := ⟨gx, 2, none⟩) (Nat.le_refl _) (.int .i64 cu)) (p := ⟨gx, 3, none⟩) (Nat.le_refl _) (.int .i64 le)) (p := ⟨gx, 6, none⟩) (Nat.le_refl _) (.int .i64 nx))
                  have HC11 := Lib.hid (Cur.lower (Cur.lower (Cur.lower (Cur.lower HC10.out (grown_setK w10 gx 1 (.int .i64 qu)) (by omega) hz10) (grown_setK (w10.setCell ⟨gx, 1, none⟩ (.int .i64 qu)) gx 2 (.int .i64 cu)) (by omega) (by simpa [World.setCell] using hz10)) (grown_setK ((w10.setCell ⟨gx, 1, none⟩ (.int .i64 qu)).setCell ⟨gx, 2, none⟩ (.int .i64 cu)) gx 3 (.int .i64 le)) (by omega) (by simpa [World.setCell] using hz10)) (grown_setK (((w10.setCell ⟨gx, 1, none⟩ (.int .i64 qu)).setCell ⟨gx, 2, none⟩ (.int .i64 cu)).setCell ⟨gx, 3, none⟩ (.int .i64 le)) gx 6 (.int .i64 nx)) (by omega) (by simpa [World.setCell] using hz10))
                  have hz11 : w2.heap.size ≤ ((((w10.setCell ⟨gx, 1, none⟩ (.int .i64 qu)).setCell ⟨gx, 2, none⟩ (.int .i64 cu)).setCell ⟨gx, 3, none⟩ (.int .i64 le)).setCell ⟨gx, 6, none⟩ (.int .i64 nx)).heap.size := by simpa [World.setCell] using hz10
                  go_upto_region 7 with (fail)
                  clear cs1 ys1 cs2 ys2 cs3 ys3 cs6 ys6
                  clear HM10 HH10 HV10 HC10 hz10
                  generalize ((((w10.setCell ⟨gx, 1, none⟩ (.int .i64 qu)).setCell ⟨gx, 2, none⟩ (.int .i64 cu)).setCell ⟨gx, 3, none⟩ (.int .i64 le)).setCell ⟨gx, 6, none⟩ (.int .i64 nx)) = w11 at *
                  have CX := Lib.hid (text_any w11 g w2.heap.size [t6, t7, t8, t9, t10, t11, t12, t13, t14, t15] HC11.out)
                  go_wp2_with fail
                  refine CX.out.mono ?_
                  rintro e w12 ⟨he, hk⟩
                  have HV12 := Lib.hid (below_one HV11.out (HGX.out ▸ HV11.out.size) hk hgx)
                  have HM12 := Lib.hid (HM11.out.other hk (by intro e; injection e with e; omega))
                  have HH12 := Lib.hid (HH11.out.other hk (by intro e; injection e with e; omega))
                  have hz12 : w2.heap.size ≤ w12.heap.size := Nat.le_trans hz11 hk.size
                  clear hk
                  clear CX HM11 HH11 HV11 hz11 HC11
                  obtain ⟨rfl, hC⟩ : e = .returned (S t6) ∧ Cur w12 w1.heap.size g w2.heap.size [t7, t8, t9, t10, t11, t12, t13, t14, t15] := he
                  have HC12 := Lib.hid hC
                  clear hC
                  have cs7 : w12.cell? ⟨gx, 7, none⟩ = some (S []) := HM12.out.cell 7
                  have ys7 : w12.frozen? ⟨gx, 7, none⟩ = false := HM12.out.free 7
                  have HM13 : Hid (Whole (w12.setCell ⟨gx, 7, none⟩ (S t6)) gx 30 #[.int .u64 (getL t1 : Int), .int .i64 qu, .int .i64 cu, .int .i64 le, .slice none 0 0, .slice none 0 0, .int .i64 nx, S t6, .slice none 0 0, .int .i64 0, S [], .bool false, .int .u64 0, .slice none 0 0, .slice none 0 0, .int .i64 0, .slice none 0 0]) := Lib.hid (show Whole (w12.setCell ⟨gx, 7, none⟩ (S t6)) gx 30 #[.int .u64 (getL t1 : Int), .int .i64 qu, .int .i64 cu, .int .i64 le, .slice none 0 0, .slice none 0 0, .int .i64 nx, S t6, .slice none 0 0, .int .i64 0, S [], .bool false, .int .u64 0, .slice none 0 0, .slice none 0 0, .int .i64 0, .slice none 0 0] from Whole.set HM12.out 7 (S t6))
                  have HH13 : Hid (Whole (w12.setCell ⟨gx, 7, none⟩ (S t6)) (gx + 1) 4 #[.bool false]) := Lib.hid (Whole.far HH12.out (p := ⟨gx, 7, none⟩) (by show gx + 1 ≠ gx; omega) (S t6))
                  have HV13 : Hid (Below gx w (w12.setCell ⟨gx, 7, none⟩ (S t6))) := Lib.hid (Below.setCell HV12.out (p := ⟨gx, 7, none⟩) (Nat.le_refl _) (S t6))
                  have HC13 := Lib.hid (Cur.lower HC12.out (grown_setK w12 gx 7 (S t6)) (by omega) hz12)
                  have hz13 : w2.heap.size ≤ (w12.setCell ⟨gx, 7, none⟩ (S t6)).heap.size := by simpa [World.setCell] using hz12
                  go_upto_region 8 with (fail)
                  clear cs7 ys7
                  clear HM12 HH12 HV12 HC12 hz12
                  generalize (w12.setCell ⟨gx, 7, none⟩ (S t6)) = w13 at *
                  have CX := Lib.hid (cdec_any w13 g w2.heap.size [t7, t8, t9, t10, t11, t12, t13, t14, t15] HC13.out hz13 (fun y hy => HML.out y (List.mem_of_mem_drop (i := 7) (show y ∈ [([104, 105, 98, 50] : List UInt8), t1, t2, t3, t4, t5, t6, t7, t8, t9, t10, t11, t12, t13, t14, t15].drop 7 from hy))) fun W hW => HIT.out W (below_one HV13.out (HGX.out ▸ HV13.out.size) hW hgx))
                  go_wp2_with fail
                  refine CX.out.mono ?_
                  rintro e w14 ⟨he, hk⟩
                  have HV14 := Lib.hid (below_one HV13.out (HGX.out ▸ HV13.out.size) hk hgx)
                  have HM14 := Lib.hid (HM13.out.other hk (by intro e; injection e with e; omega))
                  have HH14 := Lib.hid (HH13.out.other hk (by intro e; injection e with e; omega))
                  have hz14 : w2.heap.size ≤ w14.heap.size := Nat.le_trans hz13 hk.size
                  clear hk
                  clear CX HM13 HH13 HV13 hz13 HC13
                  cases hi : intP t7 with
                  | none =>
                    rw [show decR [t7, t8, t9, t10, t11, t12, t13, t14, t15] = none by show (intP t7).map _ = _; rw [hi]; rfl] at he
                    obtain rfl : e = bentE := he
                    have HQ : Hid (restR b = none) := Lib.hid (by rw [HPR.out]; unfold restOfR; simp [F0.out, F1.out, F2.out, F3.out, F4.out, F5.out, hi])
                    go_wp2_with fail
                    refine door_bent HM14.out rfl HH14.out (by omega) gx (Nat.le_refl _) (by omega) ?_ ?_ (fun w' hb => ?_)
                    · rfl
                    · rfl
                    · unfold RestPost
                      rw [HQ.out]
                      exact ⟨rfl, by rw [HGX.out]; exact HV14.out.trans hb⟩
                  | some np =>
                    rw [show decR [t7, t8, t9, t10, t11, t12, t13, t14, t15] = some (.int .i64 np, [t8, t9, t10, t11, t12, t13, t14, t15]) by show (intP t7).map _ = _; rw [hi]; rfl] at he
                    obtain ⟨rfl, hC⟩ := he
                    have HC14 := Lib.hid hC
                    have F7 := Lib.hid hi
                    clear hi hC
                    have cs9 : w14.cell? ⟨gx, 9, none⟩ = some (.int .i64 0) := HM14.out.cell 9
                    have ys9 : w14.frozen? ⟨gx, 9, none⟩ = false := HM14.out.free 9
                    have HM15 : Hid (Whole (w14.setCell ⟨gx, 9, none⟩ (.int .i64 np)) gx 30 #[.int .u64 (getL t1 : Int), .int .i64 qu, .int .i64 cu, .int .i64 le, .slice none 0 0, .slice none 0 0, .int .i64 nx, S t6, .slice none 0 0, .int .i64 np, S [], .bool false, .int .u64 0, .slice none 0 0, .slice none 0 0, .int .i64 0, .slice none 0 0]) := Lib.hid (show Whole (w14.setCell ⟨gx, 9, none⟩ (.int .i64 np)) gx 30 #[.int .u64 (getL t1 : Int), .int .i64 qu, .int .i64 cu, .int .i64 le, .slice none 0 0, .slice none 0 0, .int .i64 nx, S t6, .slice none 0 0, .int .i64 np, S [], .bool false, .int .u64 0, .slice none 0 0, .slice none 0 0, .int .i64 0, .slice none 0 0] from Whole.set HM14.out 9 (.int .i64 np))
                    have HH15 : Hid (Whole (w14.setCell ⟨gx, 9, none⟩ (.int .i64 np)) (gx + 1) 4 #[.bool false]) := Lib.hid (Whole.far HH14.out (p := ⟨gx, 9, none⟩) (by show gx + 1 ≠ gx; omega) (.int .i64 np))
                    have HV15 : Hid (Below gx w (w14.setCell ⟨gx, 9, none⟩ (.int .i64 np))) := Lib.hid (Below.setCell HV14.out (p := ⟨gx, 9, none⟩) (Nat.le_refl _) (.int .i64 np))
                    have HC15 := Lib.hid (Cur.lower HC14.out (grown_setK w14 gx 9 (.int .i64 np)) (by omega) hz14)
                    have hz15 : w2.heap.size ≤ (w14.setCell ⟨gx, 9, none⟩ (.int .i64 np)).heap.size := by simpa [World.setCell] using hz14
                    go_upto_region 9 with (fail)
                    clear cs9 ys9
                    clear HM14 HH14 HV14 HC14 hz14
                    generalize (w14.setCell ⟨gx, 9, none⟩ (.int .i64 np)) = w15 at *
                    have CX := Lib.hid (text_any w15 g w2.heap.size [t8, t9, t10, t11, t12, t13, t14, t15] HC15.out)
                    go_wp2_with fail
                    refine CX.out.mono ?_
                    rintro e w16 ⟨he, hk⟩
                    have HV16 := Lib.hid (below_one HV15.out (HGX.out ▸ HV15.out.size) hk hgx)
                    have HM16 := Lib.hid (HM15.out.other hk (by intro e; injection e with e; omega))
                    have HH16 := Lib.hid (HH15.out.other hk (by intro e; injection e with e; omega))
                    have hz16 : w2.heap.size ≤ w16.heap.size := Nat.le_trans hz15 hk.size
                    clear hk
                    clear CX HM15 HH15 HV15 hz15 HC15
                    obtain ⟨rfl, hC⟩ : e = .returned (S t8) ∧ Cur w16 w1.heap.size g w2.heap.size [t9, t10, t11, t12, t13, t14, t15] := he
                    have HC16 := Lib.hid hC
                    clear hC
                    have cs10 : w16.cell? ⟨gx, 10, none⟩ = some (S []) := HM16.out.cell 10
                    have ys10 : w16.frozen? ⟨gx, 10, none⟩ = false := HM16.out.free 10
                    have HM17 : Hid (Whole (w16.setCell ⟨gx, 10, none⟩ (S t8)) gx 30 #[.int .u64 (getL t1 : Int), .int .i64 qu, .int .i64 cu, .int .i64 le, .slice none 0 0, .slice none 0 0, .int .i64 nx, S t6, .slice none 0 0, .int .i64 np, S t8, .bool false, .int .u64 0, .slice none 0 0, .slice none 0 0, .int .i64 0, .slice none 0 0]) := Lib.hid (show Whole (w16.setCell ⟨gx, 10, none⟩ (S t8)) gx 30 #[.int .u64 (getL t1 : Int), .int .i64 qu, .int .i64 cu, .int .i64 le, .slice none 0 0, .slice none 0 0, .int .i64 nx, S t6, .slice none 0 0, .int .i64 np, S t8, .bool false, .int .u64 0, .slice none 0 0, .slice none 0 0, .int .i64 0, .slice none 0 0] from Whole.set HM16.out 10 (S t8))
                    have HH17 : Hid (Whole (w16.setCell ⟨gx, 10, none⟩ (S t8)) (gx + 1) 4 #[.bool false]) := Lib.hid (Whole.far HH16.out (p := ⟨gx, 10, none⟩) (by show gx + 1 ≠ gx; omega) (S t8))
                    have HV17 : Hid (Below gx w (w16.setCell ⟨gx, 10, none⟩ (S t8))) := Lib.hid (Below.setCell HV16.out (p := ⟨gx, 10, none⟩) (Nat.le_refl _) (S t8))
                    have HC17 := Lib.hid (Cur.lower HC16.out (grown_setK w16 gx 10 (S t8)) (by omega) hz16)
                    have hz17 : w2.heap.size ≤ (w16.setCell ⟨gx, 10, none⟩ (S t8)).heap.size := by simpa [World.setCell] using hz16
                    go_upto_region 10 with (fail)
                    clear cs10 ys10
                    clear HM16 HH16 HV16 HC16 hz16
                    generalize (w16.setCell ⟨gx, 10, none⟩ (S t8)) = w17 at *
                    have CX := Lib.hid (cflag_any w17 g w2.heap.size [t9, t10, t11, t12, t13, t14, t15] HC17.out)
                    go_wp2_with fail
                    refine CX.out.mono ?_
                    rintro e w18 ⟨he, hk⟩
                    have HV18 := Lib.hid (below_one HV17.out (HGX.out ▸ HV17.out.size) hk hgx)
                    have HM18 := Lib.hid (HM17.out.other hk (by intro e; injection e with e; omega))
                    have HH18 := Lib.hid (HH17.out.other hk (by intro e; injection e with e; omega))
                    have hz18 : w2.heap.size ≤ w18.heap.size := Nat.le_trans hz17 hk.size
                    clear hk
                    clear CX HM17 HH17 HV17 hz17 HC17
                    rw [flagR_eq] at he
                    cases hi : flagP t9 with
                    | none =>
                      rw [hi] at he
                      obtain rfl : e = bentE := he
                      have HQ : Hid (restR b = none) := Lib.hid (by rw [HPR.out]; unfold restOfR; simp [F0.out, F1.out, F2.out, F3.out, F4.out, F5.out, F7.out, hi])
                      go_wp2_with fail
                      refine door_bent HM18.out rfl HH18.out (by omega) gx (Nat.le_refl _) (by omega) ?_ ?_ (fun w' hb => ?_)
                      · rfl
                      · rfl
                      · unfold RestPost
                        rw [HQ.out]
                        exact ⟨rfl, by rw [HGX.out]; exact HV18.out.trans hb⟩
                    | some fin =>
                      rw [hi] at he
                      obtain ⟨rfl, hC⟩ := he
                      have HC18 := Lib.hid hC
                      have F9 := Lib.hid hi
                      clear hi hC
                      have cs11 : w18.cell? ⟨gx, 11, none⟩ = some (.bool false) := HM18.out.cell 11
                      have ys11 : w18.frozen? ⟨gx, 11, none⟩ = false := HM18.out.free 11
                      have HM19 : Hid (Whole (w18.setCell ⟨gx, 11, none⟩ (.bool fin)) gx 30 #[.int .u64 (getL t1 : Int), .int .i64 qu, .int .i64 cu, .int .i64 le, .slice none 0 0, .slice none 0 0, .int .i64 nx, S t6, .slice none 0 0, .int .i64 np, S t8, .bool fin, .int .u64 0, .slice none 0 0, .slice none 0 0, .int .i64 0, .slice none 0 0]) := Lib.hid (show Whole (w18.setCell ⟨gx, 11, none⟩ (.bool fin)) gx 30 #[.int .u64 (getL t1 : Int), .int .i64 qu, .int .i64 cu, .int .i64 le, .slice none 0 0, .slice none 0 0, .int .i64 nx, S t6, .slice none 0 0, .int .i64 np, S t8, .bool fin, .int .u64 0, .slice none 0 0, .slice none 0 0, .int .i64 0, .slice none 0 0] from Whole.set HM18.out 11 (.bool fin))
                      have HH19 : Hid (Whole (w18.setCell ⟨gx, 11, none⟩ (.bool fin)) (gx + 1) 4 #[.bool false]) := Lib.hid (Whole.far HH18.out (p := ⟨gx, 11, none⟩) (by show gx + 1 ≠ gx; omega) (.bool fin))
                      have HV19 : Hid (Below gx w (w18.setCell ⟨gx, 11, none⟩ (.bool fin))) := Lib.hid (Below.setCell HV18.out (p := ⟨gx, 11, none⟩) (Nat.le_refl _) (.bool fin))
                      have HC19 := Lib.hid (Cur.lower HC18.out (grown_setK w18 gx 11 (.bool fin)) (by omega) hz18)
                      have hz19 : w2.heap.size ≤ (w18.setCell ⟨gx, 11, none⟩ (.bool fin)).heap.size := by simpa [World.setCell] using hz18
                      go_upto_region 11 with (fail)
                      clear cs11 ys11
                      clear HM18 HH18 HV18 HC18 hz18
                      generalize (w18.setCell ⟨gx, 11, none⟩ (.bool fin)) = w19 at *
                      have CX := Lib.hid (bytes_any w19 g w2.heap.size [t10, t11, t12, t13, t14, t15] HC19.out 8 (by omega))
                      go_wp2_with fail
                      refine CX.out.mono ?_
                      rintro e w20 ⟨he, hk⟩
                      have HV20 := Lib.hid (below_one HV19.out (HGX.out ▸ HV19.out.size) hk hgx)
                      have HM20 := Lib.hid (HM19.out.other hk (by intro e; injection e with e; omega))
                      have HH20 := Lib.hid (HH19.out.other hk (by intro e; injection e with e; omega))
                      have hz20 : w2.heap.size ≤ w20.heap.size := Nat.le_trans hz19 hk.size
                      clear hk
                      clear CX HM19 HH19 HV19 hz19 HC19
                      by_cases hi : t10.length = 8
                      · rw [show bytesR 8 [t10, t11, t12, t13, t14, t15] = some (.int .u64 (getL t10), [t11, t12, t13, t14, t15]) from if_pos hi] at he
                        obtain ⟨rfl, hC⟩ := he
                        have HC20 := Lib.hid hC
                        have F10 := Lib.hid hi
                        clear hi hC
                        have cs12 : w20.cell? ⟨gx, 12, none⟩ = some (.int .u64 0) := HM20.out.cell 12
                        have ys12 : w20.frozen? ⟨gx, 12, none⟩ = false := HM20.out.free 12
                        have HM21 : Hid (Whole (w20.setCell ⟨gx, 12, none⟩ (.int .u64 (getL t10 : Int))) gx 30 #[.int .u64 (getL t1 : Int), .int .i64 qu, .int .i64 cu, .int .i64 le, .slice none 0 0, .slice none 0 0, .int .i64 nx, S t6, .slice none 0 0, .int .i64 np, S t8, .bool fin, .int .u64 (getL t10 : Int), .slice none 0 0, .slice none 0 0, .int .i64 0, .slice none 0 0]) := Lib.hid (show Whole (w20.setCell ⟨gx, 12, none⟩ (.int .u64 (getL t10 : Int))) gx 30 #[.int .u64 (getL t1 : Int), .int .i64 qu, .int .i64 cu, .int .i64 le, .slice none 0 0, .slice none 0 0, .int .i64 nx, S t6, .slice none 0 0, .int .i64 np, S t8, .bool fin, .int .u64 (getL t10 : Int), .slice none 0 0, .slice none 0 0, .int .i64 0, .slice none 0 0] from Whole.set HM20.out 12 (.int .u64 (getL t10 : Int)))
                        have HH21 : Hid (Whole (w20.setCell ⟨gx, 12, none⟩ (.int .u64 (getL t10 : Int))) (gx + 1) 4 #[.bool false]) := Lib.hid (Whole.far HH20.out (p := ⟨gx, 12, none⟩) (by show gx + 1 ≠ gx; omega) (.int .u64 (getL t10 : Int)))
                        have HV21 : Hid (Below gx w (w20.setCell ⟨gx, 12, none⟩ (.int .u64 (getL t10 : Int)))) := Lib.hid (Below.setCell HV20.out (p := ⟨gx, 12, none⟩) (Nat.le_refl _) (.int .u64 (getL t10 : Int)))
                        have HC21 := Lib.hid (Cur.lower HC20.out (grown_setK w20 gx 12 (.int .u64 (getL t10 : Int))) (by omega) hz20)
                        have hz21 : w2.heap.size ≤ (w20.setCell ⟨gx, 12, none⟩ (.int .u64 (getL t10 : Int))).heap.size := by simpa [World.setCell] using hz20
                        go_upto_region 12 with (fail)
                        clear cs12 ys12
                        clear HM20 HH20 HV20 HC20 hz20
                        generalize (w20.setCell ⟨gx, 12, none⟩ (.int .u64 (getL t10 : Int))) = w21 at *
                        have CX := Lib.hid (cdec_any w21 g w2.heap.size [t11, t12, t13, t14, t15] HC21.out hz21 (fun y hy => HML.out y (List.mem_of_mem_drop (i := 11) (show y ∈ [([104, 105, 98, 50] : List UInt8), t1, t2, t3, t4, t5, t6, t7, t8, t9, t10, t11, t12, t13, t14, t15].drop 11 from hy))) fun W hW => HIT.out W (below_one HV21.out (HGX.out ▸ HV21.out.size) hW hgx))
                        go_wp2_with fail
                        refine CX.out.mono ?_
                        rintro e w22 ⟨he, hk⟩
                        have HV22 := Lib.hid (below_one HV21.out (HGX.out ▸ HV21.out.size) hk hgx)
                        have HM22 := Lib.hid (HM21.out.other hk (by intro e; injection e with e; omega))
                        have HH22 := Lib.hid (HH21.out.other hk (by intro e; injection e with e; omega))
                        have hz22 : w2.heap.size ≤ w22.heap.size := Nat.le_trans hz21 hk.size
                        clear hk
                        clear CX HM21 HH21 HV21 hz21 HC21
                        cases hi : intP t11 with
                        | none =>
                          rw [show decR [t11, t12, t13, t14, t15] = none by show (intP t11).map _ = _; rw [hi]; rfl] at he
                          obtain rfl : e = bentE := he
                          have HQ : Hid (restR b = none) := Lib.hid (by rw [HPR.out]; unfold restOfR; simp [F0.out, F1.out, F2.out, F3.out, F4.out, F5.out, F7.out, F9.out, F10.out, hi])
                          go_wp2_with fail
                          refine door_bent HM22.out rfl HH22.out (by omega) gx (Nat.le_refl _) (by omega) ?_ ?_ (fun w' hb => ?_)
                          · rfl
                          · rfl
                          · unfold RestPost
                            rw [HQ.out]
                            exact ⟨rfl, by rw [HGX.out]; exact HV22.out.trans hb⟩
                        | some dl =>
                          rw [show decR [t11, t12, t13, t14, t15] = some (.int .i64 dl, [t12, t13, t14, t15]) by show (intP t11).map _ = _; rw [hi]; rfl] at he
                          obtain ⟨rfl, hC⟩ := he
                          have HC22 := Lib.hid hC
                          have F11 := Lib.hid hi
                          clear hi hC
                          have cs15 : w22.cell? ⟨gx, 15, none⟩ = some (.int .i64 0) := HM22.out.cell 15
                          have ys15 : w22.frozen? ⟨gx, 15, none⟩ = false := HM22.out.free 15
                          have HM23 : Hid (Whole (w22.setCell ⟨gx, 15, none⟩ (.int .i64 dl)) gx 30 #[.int .u64 (getL t1 : Int), .int .i64 qu, .int .i64 cu, .int .i64 le, .slice none 0 0, .slice none 0 0, .int .i64 nx, S t6, .slice none 0 0, .int .i64 np, S t8, .bool fin, .int .u64 (getL t10 : Int), .slice none 0 0, .slice none 0 0, .int .i64 dl, .slice none 0 0]) := Lib.hid (show Whole (w22.setCell ⟨gx, 15, none⟩ (.int .i64 dl)) gx 30 #[.int .u64 (getL t1 : Int), .int .i64 qu, .int .i64 cu, .int .i64 le, .slice none 0 0, .slice none 0 0, .int .i64 nx, S t6, .slice none 0 0, .int .i64 np, S t8, .bool fin, .int .u64 (getL t10 : Int), .slice none 0 0, .slice none 0 0, .int .i64 dl, .slice none 0 0] from Whole.set HM22.out 15 (.int .i64 dl))
                          have HH23 : Hid (Whole (w22.setCell ⟨gx, 15, none⟩ (.int .i64 dl)) (gx + 1) 4 #[.bool false]) := Lib.hid (Whole.far HH22.out (p := ⟨gx, 15, none⟩) (by show gx + 1 ≠ gx; omega) (.int .i64 dl))
                          have HV23 : Hid (Below gx w (w22.setCell ⟨gx, 15, none⟩ (.int .i64 dl))) := Lib.hid (Below.setCell HV22.out (p := ⟨gx, 15, none⟩) (Nat.le_refl _) (.int .i64 dl))
                          have HC23 := Lib.hid (Cur.lower HC22.out (grown_setK w22 gx 15 (.int .i64 dl)) (by omega) hz22)
                          have hz23 : w2.heap.size ≤ (w22.setCell ⟨gx, 15, none⟩ (.int .i64 dl)).heap.size := by simpa [World.setCell] using hz22
                          go_upto_region 13 with (fail)
                          clear cs15 ys15
                          clear HM22 HH22 HV22 HC22 hz22
                          generalize (w22.setCell ⟨gx, 15, none⟩ (.int .i64 dl)) = w23 at *
                          have CX := Lib.hid (text_any w23 g w2.heap.size [t12, t13, t14, t15] HC23.out)
                          go_wp2_with fail
                          refine CX.out.mono ?_
                          rintro e w24 ⟨he, hk⟩
                          have HV24 := Lib.hid (below_one HV23.out (HGX.out ▸ HV23.out.size) hk hgx)
                          have HM24 := Lib.hid (HM23.out.other hk (by intro e; injection e with e; omega))
                          have HH24 := Lib.hid (HH23.out.other hk (by intro e; injection e with e; omega))
                          have hz24 : w2.heap.size ≤ w24.heap.size := Nat.le_trans hz23 hk.size
                          clear hk
                          clear CX HM23 HH23 HV23 hz23 HC23
                          obtain ⟨rfl, hC⟩ : e = .returned (S t12) ∧ Cur w24 w1.heap.size g w2.heap.size [t13, t14, t15] := he
                          have HC24 := Lib.hid hC
                          clear hC
                          have CX := Lib.hid (readWrites_any w24 t12 (HMB.out t12 (by simp)) (HIT.out w24 HV24.out))
                          go_wp2_with fail
                          refine CX.out.mono ?_
                          rintro e w25 ⟨he, hb⟩
                          have HV25 := Lib.hid (HV24.out.trans (hb.mono (HGX.out ▸ HV24.out.size)))
                          have HM25 := Lib.hid (HM24.out.below hb HM24.out.lt)
                          have HH25 := Lib.hid (HH24.out.below hb HH24.out.lt)
                          have HC25 := Lib.hid (HC24.out.below (hb.mono hz24))
                          have hz25 : w2.heap.size ≤ w25.heap.size := Nat.le_trans hz24 hb.size
                          have hzn : w2.heap.size ≤ w24.heap.size := hz24
                          clear hb CX HM24 HH24 HV24 HC24 hz24
                          cases hi : nbsR t12 with
                          | none =>
                            rw [hi] at he
                            obtain rfl : e = bentE := he
                            have HQ : Hid (restR b = none) := Lib.hid (by rw [HPR.out]; unfold restOfR; simp [F0.out, F1.out, F2.out, F3.out, F4.out, F5.out, F7.out, F9.out, F10.out, F11.out, hi])
                            go_wp2_with fail
                            refine door_bent HM25.out rfl HH25.out (by omega) gx (Nat.le_refl _) (by omega) ?_ ?_ (fun w' hb => ?_)
                            · rfl
                            · rfl
                            · unfold RestPost
                              rw [HQ.out]
                              exact ⟨rfl, by rw [HGX.out]; exact HV25.out.trans hb⟩
                          | some lN =>
                            rw [hi] at he
                            obtain ⟨AN, dN, rfl, hl, hcp, hge⟩ := he
                            have HLN := Lib.hid hl
                            have HPN := Lib.hid hcp
                            have HGN : Hid (∀ ad, AN = some ad → w2.heap.size ≤ ad.block) := Lib.hid fun ad e => Nat.le_trans hzn (hge ad e)
                            have HAN25 := Lib.hid (Agree.refl (lo := w2.heap.size) (Nat.le_refl w25.heap.size))
                            obtain ⟨hiN, HIN⟩ : ∃ z, Hid (w25.heap.size = z) := ⟨_, Lib.hid rfl⟩
                            obtain ⟨WN, HWWN⟩ : ∃ z : World, Hid (w25 = z) := ⟨_, Lib.hid rfl⟩
                            have HLN' : Hid (Lies WN hiN AN (nbCells lN)) := Lib.hid (by rw [← HWWN.out, ← HIN.out]; exact HLN.out)
                            have HAN0 : Hid (Agree w2.heap.size hiN WN w25) := Lib.hid (by rw [← HWWN.out, ← HIN.out]; exact HAN25.out)
                            clear HAN25 HLN HIN HWWN
                            have HAN25 := HAN0
                            clear HAN0
                            have F12 := Lib.hid hi
                            clear hi hl hcp hge hzn
                            have cs14 : w25.cell? ⟨gx, 14, none⟩ = some (.slice none 0 0) := HM25.out.cell 14
                            have ys14 : w25.frozen? ⟨gx, 14, none⟩ = false := HM25.out.free 14
                            have HM26 : Hid (Whole (w25.setCell ⟨gx, 14, none⟩ (.slice AN lN.length dN)) gx 30 #[.int .u64 (getL t1 : Int), .int .i64 qu, .int .i64 cu, .int .i64 le, .slice none 0 0, .slice none 0 0, .int .i64 nx, S t6, .slice none 0 0, .int .i64 np, S t8, .bool fin, .int .u64 (getL t10 : Int), .slice none 0 0, .slice AN lN.length dN, .int .i64 dl, .slice none 0 0]) := Lib.hid (show Whole (w25.setCell ⟨gx, 14, none⟩ (.slice AN lN.length dN)) gx 30 #[.int .u64 (getL t1 : Int), .int .i64 qu, .int .i64 cu, .int .i64 le, .slice none 0 0, .slice none 0 0, .int .i64 nx, S t6, .slice none 0 0, .int .i64 np, S t8, .bool fin, .int .u64 (getL t10 : Int), .slice none 0 0, .slice AN lN.length dN, .int .i64 dl, .slice none 0 0] from Whole.set HM25.out 14 (.slice AN lN.length dN))
                            have HH26 : Hid (Whole (w25.setCell ⟨gx, 14, none⟩ (.slice AN lN.length dN)) (gx + 1) 4 #[.bool false]) := Lib.hid (Whole.far HH25.out (p := ⟨gx, 14, none⟩) (by show gx + 1 ≠ gx; omega) (.slice AN lN.length dN))
                            have HV26 : Hid (Below gx w (w25.setCell ⟨gx, 14, none⟩ (.slice AN lN.length dN))) := Lib.hid (Below.setCell HV25.out (p := ⟨gx, 14, none⟩) (Nat.le_refl _) (.slice AN lN.length dN))
                            have HC26 := Lib.hid (Cur.lower HC25.out (grown_setK w25 gx 14 (.slice AN lN.length dN)) (by omega) hz25)
                            have hz26 : w2.heap.size ≤ (w25.setCell ⟨gx, 14, none⟩ (.slice AN lN.length dN)).heap.size := by simpa [World.setCell] using hz25
                            have HAN26 := Lib.hid (Agree.one HAN25.out (grown_setK w25 gx 14 (.slice AN lN.length dN)) (.inl (by omega)))
                            go_upto_region 14 with (fail)
                            clear cs14 ys14
                            clear HM25 HH25 HV25 HC25 hz25 HAN25
                            generalize (w25.setCell ⟨gx, 14, none⟩ (.slice AN lN.length dN)) = w26 at *
                            have CX := Lib.hid (text_any w26 g w2.heap.size [t13, t14, t15] HC26.out)
                            go_wp2_with fail
                            refine CX.out.mono ?_
                            rintro e w27 ⟨he, hk⟩
                            have HV27 := Lib.hid (below_one HV26.out (HGX.out ▸ HV26.out.size) hk hgx)
                            have HM27 := Lib.hid (HM26.out.other hk (by intro e; injection e with e; omega))
                            have HH27 := Lib.hid (HH26.out.other hk (by intro e; injection e with e; omega))
                            have hz27 : w2.heap.size ≤ w27.heap.size := Nat.le_trans hz26 hk.size
                            have HAN27 := Lib.hid (HAN26.out.one hk (.inl hgB))
                            clear hk
                            clear CX HM26 HH26 HV26 hz26 HC26 HAN26
                            obtain ⟨rfl, hC⟩ : e = .returned (S t13) ∧ Cur w27 w1.heap.size g w2.heap.size [t14, t15] := he
                            have HC27 := Lib.hid hC
                            clear hC
                            have CX := Lib.hid (readWrites_any w27 t13 (HMB.out t13 (by simp)) (HIT.out w27 HV27.out))
                            go_wp2_with fail
                            refine CX.out.mono ?_
                            rintro e w28 ⟨he, hb⟩
                            have HV28 := Lib.hid (HV27.out.trans (hb.mono (HGX.out ▸ HV27.out.size)))
                            have HM28 := Lib.hid (HM27.out.below hb HM27.out.lt)
                            have HH28 := Lib.hid (HH27.out.below hb HH27.out.lt)
                            have HC28 := Lib.hid (HC27.out.below (hb.mono hz27))
                            have hz28 : w2.heap.size ≤ w28.heap.size := Nat.le_trans hz27 hb.size
                            have HAN28 := Lib.hid (HAN27.out.below hb HAN27.out.1)
                            have hzn : w2.heap.size ≤ w27.heap.size := hz27
                            clear hb CX HM27 HH27 HV27 HC27 hz27 HAN27
                            cases hi : nbsR t13 with
                            | none =>
                              rw [hi] at he
                              obtain rfl : e = bentE := he
                              have HQ : Hid (restR b = none) := Lib.hid (by rw [HPR.out]; unfold restOfR; simp [F0.out, F1.out, F2.out, F3.out, F4.out, F5.out, F7.out, F9.out, F10.out, F11.out, F12.out, hi])
                              go_wp2_with fail
                              refine door_bent HM28.out rfl HH28.out (by omega) gx (Nat.le_refl _) (by omega) ?_ ?_ (fun w' hb => ?_)
                              · rfl
                              · rfl
                              · unfold RestPost
                                rw [HQ.out]
                                exact ⟨rfl, by rw [HGX.out]; exact HV28.out.trans hb⟩
                            | some lD =>
                              rw [hi] at he
                              obtain ⟨AD, dD, rfl, hl, hcp, hge⟩ := he
                              have HLD := Lib.hid hl
                              have HPD := Lib.hid hcp
                              have HGD : Hid (∀ ad, AD = some ad → w2.heap.size ≤ ad.block) := Lib.hid fun ad e => Nat.le_trans hzn (hge ad e)
                              have HAD28 := Lib.hid (Agree.refl (lo := w2.heap.size) (Nat.le_refl w28.heap.size))
                              obtain ⟨hiD, HID⟩ : ∃ z, Hid (w28.heap.size = z) := ⟨_, Lib.hid rfl⟩
                              obtain ⟨WD, HWWD⟩ : ∃ z : World, Hid (w28 = z) := ⟨_, Lib.hid rfl⟩
                              have HLD' : Hid (Lies WD hiD AD (nbCells lD)) := Lib.hid (by rw [← HWWD.out, ← HID.out]; exact HLD.out)
                              have HAD0 : Hid (Agree w2.heap.size hiD WD w28) := Lib.hid (by rw [← HWWD.out, ← HID.out]; exact HAD28.out)
                              clear HAD28 HLD HID HWWD
                              have HAD28 := HAD0
                              clear HAD0
                              have F13 := Lib.hid hi
                              clear hi hl hcp hge hzn
                              have cs16 : w28.cell? ⟨gx, 16, none⟩ = some (.slice none 0 0) := HM28.out.cell 16
                              have ys16 : w28.frozen? ⟨gx, 16, none⟩ = false := HM28.out.free 16
                              have HM29 : Hid (Whole (w28.setCell ⟨gx, 16, none⟩ (.slice AD lD.length dD)) gx 30 #[.int .u64 (getL t1 : Int), .int .i64 qu, .int .i64 cu, .int .i64 le, .slice none 0 0, .slice none 0 0, .int .i64 nx, S t6, .slice none 0 0, .int .i64 np, S t8, .bool fin, .int .u64 (getL t10 : Int), .slice none 0 0, .slice AN lN.length dN, .int .i64 dl, .slice AD lD.length dD]) := Lib.hid (show Whole (w28.setCell ⟨gx, 16, none⟩ (.slice AD lD.length dD)) gx 30 #[.int .u64 (getL t1 : Int), .int .i64 qu, .int .i64 cu, .int .i64 le, .slice none 0 0, .slice none 0 0, .int .i64 nx, S t6, .slice none 0 0, .int .i64 np, S t8, .bool fin, .int .u64 (getL t10 : Int), .slice none 0 0, .slice AN lN.length dN, .int .i64 dl, .slice AD lD.length dD] from Whole.set HM28.out 16 (.slice AD lD.length dD))
                              have HH29 : Hid (Whole (w28.setCell ⟨gx, 16, none⟩ (.slice AD lD.length dD)) (gx + 1) 4 #[.bool false]) := Lib.hid (Whole.far HH28.out (p := ⟨gx, 16, none⟩) (by show gx + 1 ≠ gx; omega) (.slice AD lD.length dD))
                              have HV29 : Hid (Below gx w (w28.setCell ⟨gx, 16, none⟩ (.slice AD lD.length dD))) := Lib.hid (Below.setCell HV28.out (p := ⟨gx, 16, none⟩) (Nat.le_refl _) (.slice AD lD.length dD))
                              have HC29 := Lib.hid (Cur.lower HC28.out (grown_setK w28 gx 16 (.slice AD lD.length dD)) (by omega) hz28)
                              have hz29 : w2.heap.size ≤ (w28.setCell ⟨gx, 16, none⟩ (.slice AD lD.length dD)).heap.size := by simpa [World.setCell] using hz28
                              have HAN29 := Lib.hid (Agree.one HAN28.out (grown_setK w28 gx 16 (.slice AD lD.length dD)) (.inl (by omega)))
                              have HAD29 := Lib.hid (Agree.one HAD28.out (grown_setK w28 gx 16 (.slice AD lD.length dD)) (.inl (by omega)))
                              go_upto_region 15 with (fail)
                              clear cs16 ys16
                              clear HM28 HH28 HV28 HC28 hz28 HAN28 HAD28
                              generalize (w28.setCell ⟨gx, 16, none⟩ (.slice AD lD.length dD)) = w29 at *
                              have CX := Lib.hid (text_any w29 g w2.heap.size [t14, t15] HC29.out)
                              go_wp2_with fail
                              refine CX.out.mono ?_
                              rintro e w30 ⟨he, hk⟩
                              have HV30 := Lib.hid (below_one HV29.out (HGX.out ▸ HV29.out.size) hk hgx)
                              have HM30 := Lib.hid (HM29.out.other hk (by intro e; injection e with e; omega))
                              have HH30 := Lib.hid (HH29.out.other hk (by intro e; injection e with e; omega))
                              have hz30 : w2.heap.size ≤ w30.heap.size := Nat.le_trans hz29 hk.size
                              have HAN30 := Lib.hid (HAN29.out.one hk (.inl hgB))
                              have HAD30 := Lib.hid (HAD29.out.one hk (.inl hgB))
                              clear hk
                              clear CX HM29 HH29 HV29 hz29 HC29 HAN29 HAD29
                              obtain ⟨rfl, hC⟩ : e = .returned (S t14) ∧ Cur w30 w1.heap.size g w2.heap.size [t15] := he
                              have HC30 := Lib.hid hC
                              clear hC
                              have CX := Lib.hid (open_any w30 t14 (-1) (Nat.le_trans (HMB.out t14 (by simp)) (by decide)) (by unfold inJ8; omega))
                              go_wp2_with fail
                              refine CX.out.mono ?_
                              rintro e w31 ⟨he, hb⟩
                              have HV31 := Lib.hid (HV30.out.trans (hb.mono (HGX.out ▸ HV30.out.size)))
                              have HM31 := Lib.hid (HM30.out.below hb HM30.out.lt)
                              have HH31 := Lib.hid (HH30.out.below hb HH30.out.lt)
                              have HC31 := Lib.hid (HC30.out.below (hb.mono hz30))
                              have hz31 : w2.heap.size ≤ w31.heap.size := Nat.le_trans hz30 hb.size
                              have hzn : w2.heap.size ≤ w30.heap.size := hz30
                              have HAN31 := Lib.hid (HAN30.out.below hb HAN30.out.1)
                              have hhN : hiN ≤ w30.heap.size := HAN30.out.1
                              have HAD31 := Lib.hid (HAD30.out.below hb HAD30.out.1)
                              have hhD : hiD ≤ w30.heap.size := HAD30.out.1
                              clear hb CX HM30 HH30 HV30 HC30 hz30 HAN30 HAD30
                              cases hi : openR t14 (-1) with
                              | none =>
                                rw [hi] at he
                                obtain rfl : e = bentE := he
                                have hi2 : nbsR t14 = none := by unfold nbsR; rw [hi]; rfl
                                have HQ : Hid (restR b = none) := Lib.hid (by rw [HPR.out]; unfold restOfR; simp [F0.out, F1.out, F2.out, F3.out, F4.out, F5.out, F7.out, F9.out, F10.out, F11.out, F12.out, F13.out, hi2])
                                go_wp2_with fail
                                refine door_bent HM31.out rfl HH31.out (by omega) gx (Nat.le_refl _) (by omega) ?_ ?_ (fun w' hb => ?_)
                                · rfl
                                · rfl
                                · unfold RestPost
                                  rw [HQ.out]
                                  exact ⟨rfl, by rw [HGX.out]; exact HV31.out.trans hb⟩
                              | some all =>
                                rw [hi] at he
                                obtain ⟨gp, rfl, hCp, hgp⟩ := he
                                have HCP := Lib.hid hCp
                                have HR14 : Hid (nbsR t14 = all.mapM nbR) := Lib.hid (by unfold nbsR; rw [hi]; rfl)
                                have HMM := Lib.hid (texts_mem (openR_ok hi).1)
                                have HNN := Lib.hid (texts_count (openR_ok hi).1)
                                have H14 := Lib.hid (HMB.out t14 (by simp))
                                have hgpl := hCp.1.2
                                clear hi hCp
                                go_wp2_with fail
                                go_loopw [7] (fun _ wr => ∃ (done rest : List (List UInt8)) (acc : List Nb) (v8 : Value), all = done ++ rest ∧ Hid (done.mapM nbR = some acc) ∧ Hid (Cur wr w30.heap.size gp w31.heap.size rest) ∧ Hid (OwnPi wr w31.heap.size v8 acc) ∧ Hid (Whole wr gx 30 #[.int .u64 (getL t1 : Int), .int .i64 qu, .int .i64 cu, .int .i64 le, .slice none 0 0, .slice none 0 0, .int .i64 nx, S t6, v8, .int .i64 np, S t8, .bool fin, .int .u64 (getL t10 : Int), .slice none 0 0, .slice AN lN.length dN, .int .i64 dl, .slice AD lD.length dD]) ∧ Hid (Whole wr (gx + 1) 4 #[.bool false]) ∧ Hid (Below gx w wr) ∧ Hid (Cur wr w1.heap.size g w2.heap.size [t15]) ∧ w31.heap.size ≤ wr.heap.size ∧ Hid (Agree w2.heap.size hiN WN wr) ∧ Hid (Agree w2.heap.size hiD WD wr)) (fun _ wr => curLen wr gp)
                                case atStart => exact ⟨[], all, [], .slice none 0 0, rfl, Lib.hid rfl, HCP, Lib.hid (World.ownsRow_nil _ _ _ _), HM31, HH31, HV31, HC31, Nat.le_refl _, HAN31, HAD31⟩
                                case round =>
                                  obtain ⟨done, rest, acc, v8, hall, HD, HCr, HO, HMr, HHr, HVr, HCm, hzr, HANr, HADr⟩ := hrel
                                  have HLEN := Lib.hid HCr.out.len
                                  have HALL := Lib.hid hall
                                  have HAC := Lib.hid (mapM_len HD.out)
                                  clear hall HCP HM31 HH31 HV31 HC31 HAN31 HAD31
                                  have CM := Lib.hid (more_any wr gp w31.heap.size rest HCr.out)
                                  cases rest with
                                  | nil =>
                                    have HV40 := HVr
                                    have HM40 := HMr
                                    have HH40 := HHr
                                    have HC40 := HCm
                                    have HOQ := HO
                                    have hz40 : w2.heap.size ≤ wr.heap.size := by omega
                                    have hzQ := hzr
                                    have HAN40 := HANr
                                    have HAD40 := HADr
                                    clear HVr HMr HHr HCm HO HCr hzr HANr HADr
                                    go_wp2_with fail
                                    refine CM.out.mono ?_
                                    rintro e w40 ⟨rfl, rfl⟩
                                    clear CM HLEN
                                    obtain ⟨AQ, dQ, rfl, hlq, hgeq⟩ := own_shape HOQ.out (by decide)
                                    have hcapq := own_cap HOQ.out
                                    obtain ⟨lQ, rfl⟩ : ∃ z, z = acc := ⟨_, rfl⟩
                                    have F14 : Hid (nbsR t14 = some lQ) := Lib.hid (by rw [HR14.out, HALL.out, List.append_nil]; exact HD.out)
                                    have HPQ := Lib.hid hcapq
                                    have HGQ : Hid (∀ ad, AQ = some ad → w2.heap.size ≤ ad.block) := Lib.hid fun ad e => Nat.le_trans (by omega) (hgeq ad e)
                                    obtain ⟨hiQ, HIQ⟩ : ∃ z, Hid (w40.heap.size = z) := ⟨_, Lib.hid rfl⟩
                                    obtain ⟨WQ, HWWQ⟩ : ∃ z : World, Hid (w40 = z) := ⟨_, Lib.hid rfl⟩
                                    have HLQ' : Hid (Lies WQ hiQ AQ (nbCells lQ)) := Lib.hid (by rw [← HWWQ.out, ← HIQ.out]; exact hlq)
                                    have HAQ40 : Hid (Agree w2.heap.size hiQ WQ w40) := Lib.hid (by rw [← HWWQ.out, ← HIQ.out]; exact Agree.refl (Nat.le_refl _))
                                    clear HIQ HWWQ hlq hgeq hcapq HOQ HD HAC HALL hzQ
                                    have CX := Lib.hid (text_any w40 g w2.heap.size [t15] HC40.out)
                                    go_wp2_with fail
                                    refine CX.out.mono ?_
                                    rintro e w41 ⟨he, hk⟩
                                    have HV41 := Lib.hid (below_one HV40.out (HGX.out ▸ HV40.out.size) hk hgx)
                                    have HM41 := Lib.hid (HM40.out.other hk (by intro e; injection e with e; omega))
                                    have HH41 := Lib.hid (HH40.out.other hk (by intro e; injection e with e; omega))
                                    have hz41 : w2.heap.size ≤ w41.heap.size := Nat.le_trans hz40 hk.size
                                    have HAN41 := Lib.hid (HAN40.out.one hk (.inl hgB))
                                    have HAD41 := Lib.hid (HAD40.out.one hk (.inl hgB))
                                    have HAQ41 := Lib.hid (HAQ40.out.one hk (.inl hgB))
                                    clear hk
                                    clear CX HM40 HH40 HV40 hz40 HC40 HAN40 HAD40 HAQ40
                                    obtain ⟨rfl, hC⟩ : e = .returned (S t15) ∧ Cur w41 w1.heap.size g w2.heap.size [] := he
                                    have HC41 := Lib.hid hC
                                    clear hC
                                    have CX := Lib.hid (open_any w41 t15 (-1) (Nat.le_trans (HMB.out t15 (by simp)) (by decide)) (by unfold inJ8; omega))
                                    go_wp2_with fail
                                    refine CX.out.mono ?_
                                    rintro e w42 ⟨he, hb⟩
                                    have HV42 := Lib.hid (HV41.out.trans (hb.mono (HGX.out ▸ HV41.out.size)))
                                    have HM42 := Lib.hid (HM41.out.below hb HM41.out.lt)
                                    have HH42 := Lib.hid (HH41.out.below hb HH41.out.lt)
                                    have hzn42 : w2.heap.size ≤ w41.heap.size := hz41
                                    have hzm42 : w41.heap.size ≤ w42.heap.size := hb.size
                                    have HAN42 := Lib.hid (HAN41.out.below hb HAN41.out.1)
                                    have hkN : hiN ≤ w41.heap.size := HAN41.out.1
                                    have HAD42 := Lib.hid (HAD41.out.below hb HAD41.out.1)
                                    have hkD : hiD ≤ w41.heap.size := HAD41.out.1
                                    have HAQ42 := Lib.hid (HAQ41.out.below hb HAQ41.out.1)
                                    have hkQ : hiQ ≤ w41.heap.size := HAQ41.out.1
                                    clear hb CX HM41 HH41 HV41 HC41 hz41 HAN41 HAD41 HAQ41
                                    cases hi : openR t15 (-1) with
                                    | none =>
                                      rw [hi] at he
                                      obtain rfl : e = bentE := he
                                      have hi2 : prsR t15 = none := by unfold prsR; rw [hi]; rfl
                                      have HQ : Hid (restR b = none) := Lib.hid (by rw [HPR.out]; unfold restOfR; simp [F0.out, F1.out, F2.out, F3.out, F4.out, F5.out, F7.out, F9.out, F10.out, F11.out, F12.out, F13.out, F14.out, hi2])
                                      go_wp2_with fail
                                      refine door_bent HM42.out rfl HH42.out (by omega) gx (Nat.le_refl _) (by omega) ?_ ?_ (fun w' hb => ?_)
                                      · rfl
                                      · rfl
                                      · unfold RestPost
                                        rw [HQ.out]
                                        exact ⟨rfl, by rw [HGX.out]; exact HV42.out.trans hb⟩
                                    | some all2 =>
                                      rw [hi] at he
                                      obtain ⟨gq, rfl, hCq, hgq⟩ := he
                                      have HCQ := Lib.hid hCq
                                      have HR15 : Hid (prsR t15 = all2.mapM procR) := Lib.hid (by unfold prsR; rw [hi]; rfl)
                                      have HMM2 := Lib.hid (texts_mem (openR_ok hi).1)
                                      have HNN2 := Lib.hid (texts_count (openR_ok hi).1)
                                      have H15 := Lib.hid (HMB.out t15 (by simp))
                                      have hgql := hCq.1.2
                                      have HK1 : Hid (∀ k ∈ ([(hiN, WN), (hiD, WD), (hiQ, WQ)] : List (Nat × World)), k.1 ≤ w41.heap.size) := Lib.hid fun k hk => by
                                        simp only [List.mem_cons, List.not_mem_nil, or_false] at hk
                                        rcases hk with rfl | rfl | rfl
                                        · exact hkN
                                        · exact hkD
                                        · exact hkQ
                                      have HI42 : Hid (RdInv w gx #[.int .u64 (getL t1 : Int), .int .i64 qu, .int .i64 cu, .int .i64 le, .slice none 0 0, .slice none 0 0, .int .i64 nx, S t6, .slice AQ lQ.length dQ, .int .i64 np, S t8, .bool fin, .int .u64 (getL t10 : Int), .slice none 0 0, .slice AN lN.length dN, .int .i64 dl, .slice AD lD.length dD] w2.heap.size w42.heap.size (.slice none 0 0) [] [(hiN, WN), (hiD, WD), (hiQ, WQ)] w42) := Lib.hid ⟨HV42.out, HM42.out, HH42.out, World.ownsRow_nil _ _ _ _, Nat.le_refl _, fun k hk => by
                                        simp only [List.mem_cons, List.not_mem_nil, or_false] at hk
                                        rcases hk with rfl | rfl | rfl
                                        · exact HAN42.out
                                        · exact HAD42.out
                                        · exact HAQ42.out⟩
                                      have hgx1 : gx + 1 < gq := by omega
                                      have hgxB : gx + 1 < w2.heap.size := by omega
                                      clear HV42 HM42 HH42 hi hCq HAN42 hkN HAD42 hkD HAQ42 hkQ
                                      go_wp2_with fail
                                      go_loopw [86] (fun _ wr => ∃ (done rest : List (List UInt8)) (acc : List Pr) (v5 : Value), all2 = done ++ rest ∧ Hid (done.mapM procR = some acc) ∧ Hid (Cur wr w41.heap.size gq w42.heap.size rest) ∧ Hid (RdInv w gx #[.int .u64 (getL t1 : Int), .int .i64 qu, .int .i64 cu, .int .i64 le, .slice none 0 0, v5, .int .i64 nx, S t6, .slice AQ lQ.length dQ, .int .i64 np, S t8, .bool fin, .int .u64 (getL t10 : Int), .slice none 0 0, .slice AN lN.length dN, .int .i64 dl, .slice AD lD.length dD] w2.heap.size w42.heap.size v5 acc [(hiN, WN), (hiD, WD), (hiQ, WQ)] wr) ∧ Hid (∀ p ∈ acc, PrOk p)) (fun _ wr => curLen wr gq)
                                      case atStart => exact ⟨[], all2, [], .slice none 0 0, rfl, Lib.hid rfl, HCQ, HI42, Lib.hid (by simp)⟩
                                      case round =>
                                        obtain ⟨done, rest, acc, v5, hall, HD, HCr, HIr, HPO⟩ := hrel
                                        have HLEN := Lib.hid HCr.out.len
                                        have HALL2 := Lib.hid hall
                                        have HAC := Lib.hid (mapM_len HD.out)
                                        clear hall HCQ HI42
                                        have CM := Lib.hid (more_any wr gq w42.heap.size rest HCr.out)
                                        cases rest with
                                        | nil =>
                                          go_wp2_with fail
                                          refine CM.out.mono ?_
                                          rintro e w50 ⟨rfl, rfl⟩
                                          clear CM
                                          have HI := HIr
                                          obtain ⟨AP, dP, rfl, hlP, hgeP⟩ := own_shape HI.out.own (by decide)
                                          have hcP := own_cap HI.out.own
                                          have F15 : Hid (prsR t15 = some acc) := Lib.hid (by rw [HR15.out, HALL2.out, List.append_nil]; exact HD.out)
                                          have HQ : Hid (restR b = some (⟨(getL t1 : Int), qu, cu, le, [], acc, nx, t6, lQ, np, t8, fin, (getL t10 : Int), [], lN, dl, lD⟩ : Mc)) := Lib.hid (by rw [HPR.out]; unfold restOfR; simp [F0.out, F1.out, F2.out, F3.out, F4.out, F5.out, F7.out, F9.out, F10.out, F11.out, F12.out, F13.out, F14.out, F15.out])
                                          have hlt14 : t14.length ≤ 4294967296 := HMB.out t14 (by simp)
                                          have hlt12 : t12.length ≤ 4294967296 := HMB.out t12 (by simp)
                                          have hlt13 : t13.length ≤ 4294967296 := HMB.out t13 (by simp)
                                          have hla : acc.length ≤ 4294967296 := by
                                            have h1 := HAC.out
                                            have h2 : all2.length = done.length := by rw [HALL2.out]; simp
                                            have h3 := HNN2.out
                                            have h4 := H15.out
                                            omega
                                          have gu : ∀ s : List UInt8, inU64 (getL s : Int) := fun s => by have := getL_lt s; unfold inU64; omega
                                          have HOKM : Hid (McOk' (⟨(getL t1 : Int), qu, cu, le, [], acc, nx, t6, lQ, np, t8, fin, (getL t10 : Int), [], lN, dl, lD⟩ : Mc)) := Lib.hid ⟨gu t1, (intP_some F2.out).2, (intP_some F3.out).2, (intP_some F4.out).2, (intP_some F5.out).2, (intP_some F7.out).2, gu t10, (intP_some F11.out).2, HPO.out, (nbsR_ok F14.out).1, (nbsR_ok F12.out).1, (nbsR_ok F13.out).1, by
                                            have h1 := (nbsR_ok F14.out).2
                                            have h2 := (nbsR_ok F12.out).2
                                            have h3 := (nbsR_ok F13.out).2
                                            refine ⟨Nat.zero_le _, ?_, ?_, Nat.zero_le _, ?_, ?_⟩
                                            · show acc.length ≤ _; omega
                                            · show lQ.length ≤ _; omega
                                            · show lN.length ≤ _; omega
                                            · show lD.length ≤ _; omega⟩
                                          have HIA := Lib.hid HI.out.agree
                                          have HMAT : Hid (∀ W, w50.heap.size ≤ W.heap.size → (∀ i, w2.heap.size ≤ i → i < w50.heap.size → W.heap[i]? = w50.heap[i]?) → MAt W W.heap.size (⟨none, AP, AQ, none, AN, AD, 0, dP, dQ, 0, dN, dD⟩ : MA) (⟨(getL t1 : Int), qu, cu, le, [], acc, nx, t6, lQ, np, t8, fin, (getL t10 : Int), [], lN, dl, lD⟩ : Mc)) := Lib.hid fun W hW hs => by
                                            have key : ∀ (hi : Nat) (WX : World) (X : Option Addr) (xs : List Value), (hi, WX) ∈ ([(hiN, WN), (hiD, WD), (hiQ, WQ)] : List (Nat × World)) → Lies WX hi X xs → (∀ ad, X = some ad → w2.heap.size ≤ ad.block) → Lies W W.heap.size X xs := fun hi WX X xs hm hl hge => by
                                              have ha := HIA.out _ hm
                                              exact Agree.lies (lo := w2.heap.size) (hi := hi) ⟨Nat.le_trans ha.1 hW, fun i h1 h2 => (hs i h1 (Nat.lt_of_lt_of_le h2 ha.1)).trans (ha.2 i h1 h2)⟩ hl hge
                                            have hP : Lies W W.heap.size AP (prsCells acc) := Agree.lies (lo := w2.heap.size) (hi := w50.heap.size) (w := w50) ⟨hW, hs⟩ hlP fun ad e => by have := hgeP ad e; omega
                                            exact ⟨Lies.none _ _ _, hP, key hiQ WQ AQ _ (by simp) HLQ'.out HGQ.out, Lies.none _ _ _, key hiN WN AN _ (by simp) HLN'.out HGN.out, key hiD WD AD _ (by simp) HLD'.out HGD.out, Nat.le_refl 0, hcP, HPQ.out, Nat.le_refl 0, HPN.out, HPD.out⟩
                                          have HMW : Hid (Whole w50 gx 30 (mcL (⟨none, AP, AQ, none, AN, AD, 0, dP, dQ, 0, dN, dD⟩ : MA) (⟨(getL t1 : Int), qu, cu, le, [], acc, nx, t6, lQ, np, t8, fin, (getL t10 : Int), [], lN, dl, lD⟩ : Mc)).toArray) := Lib.hid HI.out.whole
                                          have HFL := Lib.hid HI.out.flag
                                          have HBW := Lib.hid HI.out.below
                                          have hgl5 : gx + 1 < w50.heap.size := HFL.out.lt
                                          have hone := mcL_one (⟨none, AP, AQ, none, AN, AD, 0, dP, dQ, 0, dN, dD⟩ : MA) (⟨(getL t1 : Int), qu, cu, le, [], acc, nx, t6, lQ, np, t8, fin, (getL t10 : Int), [], lN, dl, lD⟩ : Mc)
                                          clear HI HIr HIA hlP hcP gu
                                          have HLEN : Hid ((mcL (⟨none, AP, AQ, none, AN, AD, 0, dP, dQ, 0, dN, dD⟩ : MA) (⟨(getL t1 : Int), qu, cu, le, [], acc, nx, t6, lQ, np, t8, fin, (getL t10 : Int), [], lN, dl, lD⟩ : Mc)).length = 17) := Lib.hid rfl
                                          have HMX : Hid (∃ a : MA, (mcL (⟨none, AP, AQ, none, AN, AD, 0, dP, dQ, 0, dN, dD⟩ : MA) (⟨(getL t1 : Int), qu, cu, le, [], acc, nx, t6, lQ, np, t8, fin, (getL t10 : Int), [], lN, dl, lD⟩ : Mc)) = mcL a (⟨(getL t1 : Int), qu, cu, le, [], acc, nx, t6, lQ, np, t8, fin, (getL t10 : Int), [], lN, dl, lD⟩ : Mc) ∧ a.F = none ∧ a.L = none ∧ (∀ ad, (a.P = some ad ∨ a.Q = some ad ∨ a.N = some ad ∨ a.D = some ad) → gx ≤ ad.block) ∧ ∀ W, w50.heap.size ≤ W.heap.size → (∀ i, w2.heap.size ≤ i → i < w50.heap.size → W.heap[i]? = w50.heap[i]?) → MAt W W.heap.size a (⟨(getL t1 : Int), qu, cu, le, [], acc, nx, t6, lQ, np, t8, fin, (getL t10 : Int), [], lN, dl, lD⟩ : Mc)) := Lib.hid ⟨_, rfl, rfl, rfl, fun ad h => by
                                            rcases h with h | h | h | h
                                            · have := hgeP ad h; omega
                                            · have := HGQ.out ad h; omega
                                            · have := HGN.out ad h; omega
                                            · have := HGD.out ad h; omega, HMAT.out⟩
                                          clear HMAT hgeP
                                          generalize mcL (⟨none, AP, AQ, none, AN, AD, 0, dP, dQ, 0, dN, dD⟩ : MA) (⟨(getL t1 : Int), qu, cu, le, [], acc, nx, t6, lQ, np, t8, fin, (getL t10 : Int), [], lN, dl, lD⟩ : Mc) = cs at *
                                          generalize (⟨(getL t1 : Int), qu, cu, le, [], acc, nx, t6, lQ, np, t8, fin, (getL t10 : Int), [], lN, dl, lD⟩ : Mc) = M at *
                                          have SZ : Hid ((Tryz.prog.info? 30).map (·.size) = some cs.length) := Lib.hid (by rw [HLEN.out]; exact Tryz.sizeMc)
                                          have LD := Lib.hid HMW.out.reads
                                          go_wp2_with (first
                                            | (refine wpList_load_at rfl 30 (.tmp 2) rfl ⟨gx, 0, none⟩ rfl cs _ LD.out Tryz.underlying30 rfl SZ.out ?_)
                                            | (refine wpList_store_all rfl 30 (.tmp 2) (.tmp 91) rfl rfl gx rfl cs rfl SZ.out cs 30 HMW.out rfl hone ?_; intro w51 hw hk; have HH5 := Lib.hid (HFL.out.other hk.out (by intro e; injection e with e; omega)); have HV5 := Lib.hid (HBW.out.grown hk.out (by omega) (fun q e => by injection e with e; omega)); have c0 : w51.cell? ⟨gx + 1, 0, none⟩ = some (.bool false) := HH5.out.cell 0; have y0 : w51.frozen? ⟨gx + 1, 0, none⟩ = false := HH5.out.free 0))
                                          refine door_ret (hw.out.far (p := ⟨gx + 1, 0, none⟩) (by show gx ≠ gx + 1; omega) _) (by simpa using HLEN.out) (HH5.out.set 0 _) ?_ ?_ ?_
                                          · rfl
                                          · rfl
                                          · unfold RestPost
                                            rw [HQ.out]
                                            obtain ⟨a, ha, hF, hL, hge, hat⟩ := HMX.out
                                            refine ⟨⟨a, by rw [ha], hat _ (by have := hk.out.size; simpa [World.setCell] using this) (fun i h1 h2 => ?_), HOKM.out, hF, hL, by rw [HGX.out]; exact hge⟩, by rw [HGX.out]; exact HV5.out.setCell (p := ⟨gx + 1, 0, none⟩) (by show gx ≤ gx + 1; omega) _⟩
                                            exact (Below.heap_setCell w51 ⟨gx + 1, 0, none⟩ _ i (by show i ≠ gx + 1; omega)).trans (hk.out.block i h2 (by intro e; injection e with e; omega))
                                        | cons x rest =>
                                          have hxl : x.length ≤ t15.length := HMM2.out x (by rw [HALL2.out]; simp)
                                          have h15 := H15.out
                                          have HI := HIr
                                          have HCw := HCr
                                          clear HIr HCr
                                          go_wp2_with fail
                                          refine CM.out.mono ?_
                                          rintro e wq ⟨rfl, rfl⟩
                                          go_upto_region 22 with (fail)
                                          have hal : acc.length + 1 ≤ 4294967296 := by
                                            have h1 := HAC.out
                                            have h2 : all2.length = (done ++ x :: rest).length := congrArg List.length HALL2.out
                                            have h3 := HNN2.out
                                            simp only [List.length_append, List.length_cons] at h2
                                            omega
                                          have HTX : Hid (∀ W, Cur W w41.heap.size gq w42.heap.size (x :: rest) → Calls Tryz.prog 81 #[curV gq] W (CurPost W w41.heap.size gq w42.heap.size (textR (x :: rest)))) := Lib.hid fun W h => text_any W gq w42.heap.size (x :: rest) h
                                          have HRP : Hid (∀ W, Below gx w W → Calls Tryz.prog 87 #[S x] W (ProcPost W (procR x))) := Lib.hid fun W hW => readProc_any W x (by omega) (HIT.out W hW)
                                          clear CM
                                          cases hq : procR x with
                                          | none =>
                                            have HPX := Lib.hid hq
                                            have hi2 : prsR t15 = none := by rw [HR15.out, HALL2.out]; exact mapM_none hq
                                            clear hq
                                            have HQ : Hid (restR b = none) := Lib.hid (by rw [HPR.out]; unfold restOfR; simp [F0.out, F1.out, F2.out, F3.out, F4.out, F5.out, F7.out, F9.out, F10.out, F11.out, F12.out, F13.out, F14.out, hi2])
                                            clear hi2
                                            refine wp_region_sureX (by kernel_rfl) (PrX (fun W => RdInv w gx #[.int .u64 (getL t1 : Int), .int .i64 qu, .int .i64 cu, .int .i64 le, .slice none 0 0, v5, .int .i64 nx, S t6, .slice AQ lQ.length dQ, .int .i64 np, S t8, .bool fin, .int .u64 (getL t10 : Int), .slice none 0 0, .slice AN lN.length dN, .int .i64 dl, .slice AD lD.length dD] w2.heap.size w42.heap.size v5 acc [(hiN, WN), (hiD, WD), (hiQ, WQ)] W) (fun W => Cur W w41.heap.size gq w42.heap.size (x :: rest)) (fun W => Cur W w41.heap.size gq w42.heap.size rest) False w42.heap.size 88 []) 6 [some (.pointer (some ⟨gx, 5, none⟩)), some v5, some (curV gq), some (S x), none, none] [some 83, some 84, some 85, some 86, some 87, some 88] (by kernel_rfl) (by kernel_rfl) (by kernel_rfl) (by kernel_rfl) rfl (PrX.init (HI.out.step (by omega) (fun k h => Nat.le_trans (HK1.out k h) hzm42) (Below.refl _ _).drew) (HCw.out.below (Below.refl _ _).drew)) ?_
                                            refine sureX_cons ?_ ?_
                                            · intro L ac W K hLi hed hJ hX hK
                                              have hA2 : ac.eval (.tmp 2) = .pointer (some ⟨gx, 0, none⟩) := hJ.eval_old 2 (by kernel_rfl)
                                              clear hLi hed hJ
                                              refine opStep_of rfl ?_
                                              unfold Oper.wp execOp
                                              have hN2 := evalN hA2
                                              go_simp
                                              refine hK _ _ ?_ (hX.same rfl rfl rfl rfl)
                                              exact Knows.known _
                                            refine sureX_cons ?_ ?_
                                            · intro L ac W K hLi hed hJ hX hK
                                              have hn := needs_spec (l := [0]) (by kernel_rfl) hed
                                              have hA83 := hJ.eval 0 (d := 83) (hn 0 (by simp)) rfl rfl rfl
                                              clear hLi hed hJ hn
                                              refine opStep_of rfl ?_
                                              have cc : W.cell? ⟨gx, 5, none⟩ = some v5 := hX.1.whole.cell 5
                                              unfold Oper.wp execOp
                                              have hN83 := evalN hA83
                                              go_simp
                                              refine hK _ _ ?_ (hX.same rfl rfl rfl rfl)
                                              exact Knows.known _
                                            refine sureX_cons ?_ ?_
                                            · intro L ac W K hLi hed hJ hX hK
                                              have hA8 : ac.eval (.tmp 8) = curV gq := hJ.eval_old 8 (by kernel_rfl)
                                              clear hLi hed hJ
                                              refine opStep_of rfl ?_
                                              unfold Oper.wp execOp
                                              have hN8 := evalN hA8
                                              go_simp
                                              refine hK _ _ ?_ (hX.same rfl rfl rfl rfl)
                                              exact Knows.known _
                                            refine sureX_cons ?_ ?_
                                            · intro L ac W K hLi hed hJ hX hK
                                              have hn := needs_spec (l := [2]) (by kernel_rfl) hed
                                              have hA85 := hJ.eval 2 (d := 85) (hn 2 (by simp)) rfl rfl rfl
                                              clear hed hJ hn
                                              refine opStep_of rfl ?_
                                              unfold Oper.wp execOp
                                              have hN85 := evalN hA85
                                              go_simp
                                              refine (HTX.out W (hX.2.1 hLi)).mono ?_
                                              rintro e W' ⟨he, hk⟩
                                              obtain ⟨rfl, hC⟩ : e = .returned (S x) ∧ Cur W' w41.heap.size gq w42.heap.size rest := he
                                              have hX2 := hX.text (d := 86) (u := S x) rfl hk hgql (hX.1.one hgx1 hgql (fun k h => Nat.le_trans (HK1.out k h) hgq) hk) hC
                                              dsimp only
                                              refine hK _ W' ?_ hX2
                                              exact Knows.known _
                                            refine sureX_cons ?_ ?_
                                            · intro L ac W K hLi hed hJ hX hK
                                              have hn := needs_spec (l := [3]) (by kernel_rfl) hed
                                              have hA86 := hJ.eval 3 (d := 86) (hn 3 (by simp)) rfl rfl rfl
                                              have hA2 : ac.eval (.tmp 2) = .pointer (some ⟨gx, 0, none⟩) := hJ.eval_old 2 (by kernel_rfl)
                                              have hA3 : ac.eval (.tmp 3) = .pointer (some ⟨gx + 1, 0, none⟩) := hJ.eval_old 3 (by kernel_rfl)
                                              have hdf := hJ.defers
                                              clear hed hJ hn
                                              refine opStep_of rfl ?_
                                              unfold Oper.wp execOp
                                              have hN86 := evalN hA86
                                              go_simp
                                              refine (HRP.out W hX.1.below).mono ?_
                                              rintro e W' ⟨he, hb⟩
                                              rw [HPX.out] at he
                                              obtain rfl : e = bentE := he
                                              obtain ⟨ts, df⟩ := ac
                                              obtain rfl : df = _ := hdf
                                              have hI := hX.1.step (by omega) (fun k h => Nat.le_trans (HK1.out k h) hzm42) hb
                                              refine door_bent hI.whole rfl hI.flag (by omega) gx (Nat.le_refl _) (by omega) hA2 hA3 (fun w' hb => ?_)
                                              unfold RestPost
                                              rw [HQ.out]
                                              exact ⟨rfl, by rw [HGX.out]; exact hI.below.trans hb⟩
                                            refine sureX_cons ?_ ?_
                                            · intro L ac W K hLi hed hJ hX hK
                                              have hn := needs_spec (l := [4]) (by kernel_rfl) hed
                                              exact (hX.2.2.2.1 (hn 4 (by simp))).elim
                                            refine sureX_nil ?_
                                            intro L ac W hL hX ha
                                            exact (hX.2.2.2.1 (hL 4 (by omega))).elim
                                          | some p =>
                                            have HPX := Lib.hid hq
                                            clear hq
                                            refine wp_region_sureX (by kernel_rfl) (PrX (fun W => RdInv w gx #[.int .u64 (getL t1 : Int), .int .i64 qu, .int .i64 cu, .int .i64 le, .slice none 0 0, v5, .int .i64 nx, S t6, .slice AQ lQ.length dQ, .int .i64 np, S t8, .bool fin, .int .u64 (getL t10 : Int), .slice none 0 0, .slice AN lN.length dN, .int .i64 dl, .slice AD lD.length dD] w2.heap.size w42.heap.size v5 acc [(hiN, WN), (hiD, WD), (hiQ, WQ)] W) (fun W => Cur W w41.heap.size gq w42.heap.size (x :: rest)) (fun W => Cur W w41.heap.size gq w42.heap.size rest) (PrOk p) w42.heap.size 88 (prCells p)) 6 [some (.pointer (some ⟨gx, 5, none⟩)), some v5, some (curV gq), some (S x), some (.agg (prCells p).toArray), none] [some 83, some 84, some 85, some 86, some 87, some 88] (by kernel_rfl) (by kernel_rfl) (by kernel_rfl) (by kernel_rfl) rfl (PrX.init (HI.out.step (by omega) (fun k h => Nat.le_trans (HK1.out k h) hzm42) (Below.refl _ _).drew) (HCw.out.below (Below.refl _ _).drew)) ?_
                                            refine sureX_cons ?_ ?_
                                            · intro L ac W K hLi hed hJ hX hK
                                              have hA2 : ac.eval (.tmp 2) = .pointer (some ⟨gx, 0, none⟩) := hJ.eval_old 2 (by kernel_rfl)
                                              clear hLi hed hJ
                                              refine opStep_of rfl ?_
                                              unfold Oper.wp execOp
                                              have hN2 := evalN hA2
                                              go_simp
                                              refine hK _ _ ?_ (hX.same rfl rfl rfl rfl)
                                              exact Knows.known _
                                            refine sureX_cons ?_ ?_
                                            · intro L ac W K hLi hed hJ hX hK
                                              have hn := needs_spec (l := [0]) (by kernel_rfl) hed
                                              have hA83 := hJ.eval 0 (d := 83) (hn 0 (by simp)) rfl rfl rfl
                                              clear hLi hed hJ hn
                                              refine opStep_of rfl ?_
                                              have cc : W.cell? ⟨gx, 5, none⟩ = some v5 := hX.1.whole.cell 5
                                              unfold Oper.wp execOp
                                              have hN83 := evalN hA83
                                              go_simp
                                              refine hK _ _ ?_ (hX.same rfl rfl rfl rfl)
                                              exact Knows.known _
                                            refine sureX_cons ?_ ?_
                                            · intro L ac W K hLi hed hJ hX hK
                                              have hA8 : ac.eval (.tmp 8) = curV gq := hJ.eval_old 8 (by kernel_rfl)
                                              clear hLi hed hJ
                                              refine opStep_of rfl ?_
                                              unfold Oper.wp execOp
                                              have hN8 := evalN hA8
                                              go_simp
                                              refine hK _ _ ?_ (hX.same rfl rfl rfl rfl)
                                              exact Knows.known _
                                            refine sureX_cons ?_ ?_
                                            · intro L ac W K hLi hed hJ hX hK
                                              have hn := needs_spec (l := [2]) (by kernel_rfl) hed
                                              have hA85 := hJ.eval 2 (d := 85) (hn 2 (by simp)) rfl rfl rfl
                                              clear hed hJ hn
                                              refine opStep_of rfl ?_
                                              unfold Oper.wp execOp
                                              have hN85 := evalN hA85
                                              go_simp
                                              refine (HTX.out W (hX.2.1 hLi)).mono ?_
                                              rintro e W' ⟨he, hk⟩
                                              obtain ⟨rfl, hC⟩ : e = .returned (S x) ∧ Cur W' w41.heap.size gq w42.heap.size rest := he
                                              have hX2 := hX.text (d := 86) (u := S x) rfl hk hgql (hX.1.one hgx1 hgql (fun k h => Nat.le_trans (HK1.out k h) hgq) hk) hC
                                              dsimp only
                                              refine hK _ W' ?_ hX2
                                              exact Knows.known _
                                            refine sureX_cons ?_ ?_
                                            · intro L ac W K hLi hed hJ hX hK
                                              have hn := needs_spec (l := [3]) (by kernel_rfl) hed
                                              have hA86 := hJ.eval 3 (d := 86) (hn 3 (by simp)) rfl rfl rfl
                                              clear hed hJ hn
                                              refine opStep_of rfl ?_
                                              unfold Oper.wp execOp
                                              have hN86 := evalN hA86
                                              go_simp
                                              refine (HRP.out W hX.1.below).mono ?_
                                              rintro e W' ⟨he, hb⟩
                                              rw [HPX.out] at he
                                              obtain ⟨rfl, hok⟩ := he
                                              have hX2 := hX.proc (d := 87) (u := .agg (prCells p).toArray) rfl hb (hX.1.step (by omega) (fun k h => Nat.le_trans (HK1.out k h) hzm42) hb) (fun h => h.below (hb.mono hX.1.size)) (fun h => h.below (hb.mono hX.1.size)) hok
                                              dsimp only
                                              refine hK _ W' ?_ hX2
                                              exact Knows.known _
                                            refine sureX_cons ?_ ?_
                                            · intro L ac W K hLi hed hJ hX hK
                                              have hn := needs_spec (l := [4]) (by kernel_rfl) hed
                                              have hA87 := hJ.eval 4 (d := 87) (hn 4 (by simp)) rfl rfl rfl
                                              have hsz := Lib.hid hJ.size
                                              have hok := hX.2.2.2.1 (hn 4 (by simp))
                                              clear hLi hed hJ hn
                                              refine opStep_of rfl ?_
                                              refine made_proc 87 rfl hok hA87 ?_
                                              have hal := (Below.refl W.heap.size W).alloc (Nat.le_refl _) (.cells (prCells p).toArray 67)
                                              have hX2 := hX.made (by rw [hsz.out]; exact of_decide_eq_true rfl) (hX.1.step (by omega) (fun k h => Nat.le_trans (HK1.out k h) hzm42) hal) (fun h => h.below (hal.mono hX.1.size)) (fun h => h.below (hal.mono hX.1.size)) hX.1.size
                                              refine hK _ _ ?_ hX2
                                              exact Knows.free _
                                            refine sureX_nil ?_
                                            intro L ac W hL hX ha
                                            obtain ⟨hI, _, hC1, hG, hM⟩ := hX
                                            have HOK := Lib.hid (hG (hL 4 (by omega)))
                                            obtain ⟨g8, hev, hwh, hge8⟩ := hM (hL 5 (by omega))
                                            have hC := hC1 (hL 3 (by omega))
                                            change ac.tmps.getD 88 undef = _ at hev
                                            rw [ha]
                                            simp only [mendAll, Option.getD_some, Option.getD_none, Option.map_some, putAll, Act.put, List.setIfInBounds_toArray, List.set_cons_zero, List.set_cons_succ]
                                            rw [hev]
                                            have HIW := Lib.hid hI
                                            have HCW := Lib.hid hC
                                            have HWH := Lib.hid hwh
                                            clear ha hL hev hC1 hG hM hI hC hwh
                                            obtain ⟨ip, hip, hzp, hsp, hbp⟩ := info_proc
                                            have HLP := Lib.hid (prCells_length HOK.out)
                                            have H63 : Hid (acc.length + 1 ≤ maxLen) := Lib.hid (by unfold maxLen; omega)
                                            have HBY : Hid ((acc.length + 1) * ip.bytes ≤ 140737488355328) := Lib.hid (Nat.le_trans (Nat.mul_le_mul hal hbp) (by decide))
                                            have H1 : Hid (∀ u ∈ prCells p, u.oneCell' = true) := Lib.hid fun u hu => prsCells_one [p] u (by simpa [prsCells] using hu)
                                            have HNW : Hid (∀ (i : Nat) (u : Value), (prCells p)[i]? = some u → W.cell? ((⟨g8, 0, none⟩ : Addr).add i) = some u) := Lib.hid HWH.out.reads
                                            have HOA := Lib.hid HIW.out.own
                                            have HBA := Lib.hid HIW.out.size
                                            clear hal hbp
                                            go_wp2_with (at_builtin; refine wpList_append_own _ rfl (.tmp 84) (.tmp 88) 24 rfl w42.heap.size 67 ip _ 96 _ Tryz.underlying24 hip hzp hsp rfl (by kernel_rfl) (by decide) _ _ _ rfl HOA.out ⟨g8, 0, none⟩ 1 1 (prCells p) rfl HLP.out HNW.out H1.out H63.out HBY.out HBA.out ?_; intro v' we hown' hgrow _; obtain ⟨Ae, ce, rfl, _, _⟩ := own_shape hown' (by decide); have KB := Lib.hid ((Below.refl w42.heap.size W).grown hgrow HBA.out (own_ge HOA.out)); have HMwe := Lib.hid (HIW.out.whole.below KB.out (by omega)); have ke5 : we.cell? ⟨gx, 5, none⟩ = some v5 := HMwe.out.cell 5; have fe5 : we.frozen? ⟨gx, 5, none⟩ = false := HMwe.out.free 5)
                                            have HIf : Hid (RdInv w gx #[.int .u64 (getL t1 : Int), .int .i64 qu, .int .i64 cu, .int .i64 le, .slice none 0 0, .slice Ae (acc.length + 1) ce, .int .i64 nx, S t6, .slice AQ lQ.length dQ, .int .i64 np, S t8, .bool fin, .int .u64 (getL t10 : Int), .slice none 0 0, .slice AN lN.length dN, .int .i64 dl, .slice AD lD.length dD] w2.heap.size w42.heap.size (.slice Ae (acc.length + 1) ce) (acc ++ [p]) [(hiN, WN), (hiD, WD), (hiQ, WQ)] (we.setCell ⟨gx, 5, none⟩ (.slice Ae (acc.length + 1) ce))) := Lib.hid (HIW.out.put hgxB (by omega) (fun k h => Nat.le_trans (HK1.out k h) hzm42) (K := 5) KB.out (by
                                              have := hown'
                                              rw [← prsCells_snoc] at this
                                              unfold OwnPs
                                              rw [List.length_append]
                                              exact this))
                                            have HCf := Lib.hid (Cur.lower (HCW.out.below KB.out) (grown_setK we gx 5 (.slice Ae (acc.length + 1) ce)) (by omega) (by have := KB.out.size; have := HBA.out; omega))
                                            have HDf : Hid ((done ++ [x]).mapM procR = some (acc ++ [p])) := Lib.hid (by rw [mapM_snoc HD.out, HPX.out]; rfl)
                                            have HPf : Hid (∀ q ∈ acc ++ [p], PrOk q) := Lib.hid fun q hq => by
                                              rcases List.mem_append.1 hq with h | h
                                              · exact HPO.out q h
                                              · obtain rfl : q = p := by simpa using h
                                                exact HOK.out
                                            have HLf := Lib.hid HCf.out.len
                                            generalize we.setCell ⟨gx, 5, none⟩ (.slice Ae (acc.length + 1) ce) = wf at *
                                            generalize Value.slice Ae (acc.length + 1) ce = vf at *
                                            clear hown' hgrow HMwe KB ke5 fe5 HOA HBA HNW HWH HIW HCW
                                            go_wp2_with fail
                                            go_roundw
                                            case rel =>
                                              have R : ∃ (done rest : List (List UInt8)) (acc : List Pr) (v5 : Value), all2 = done ++ rest ∧ Hid (done.mapM procR = some acc) ∧ Hid (Cur wf w41.heap.size gq w42.heap.size rest) ∧ Hid (RdInv w gx #[.int .u64 (getL t1 : Int), .int .i64 qu, .int .i64 cu, .int .i64 le, .slice none 0 0, v5, .int .i64 nx, S t6, .slice AQ lQ.length dQ, .int .i64 np, S t8, .bool fin, .int .u64 (getL t10 : Int), .slice none 0 0, .slice AN lN.length dN, .int .i64 dl, .slice AD lD.length dD] w2.heap.size w42.heap.size v5 acc [(hiN, WN), (hiD, WD), (hiQ, WQ)] wf) ∧ Hid (∀ p ∈ acc, PrOk p) := ⟨done ++ [x], rest, acc ++ [p], vf, by rw [HALL2.out]; simp, HDf, HCf, HIf, HPf⟩
                                              first | exact R | ((repeat apply Exists.intro); exact ⟨R, rfl⟩)
                                            case measure => rw [HLEN.out, HLf.out]; simp
                                  | cons x rest =>
                                    have hxl : x.length ≤ t14.length := HMM.out x (by rw [HALL.out]; simp)
                                    have h14 := H14.out
                                    have HTX := Lib.hid (text_any wr gp w31.heap.size (x :: rest) HCr.out)
                                    have HVwq := HVr
                                    have HMwq := HMr
                                    have HHwq := HHr
                                    have HCmwq := HCm
                                    have HOwq := HO
                                    have hzwq := hzr
                                    have HCpwq := HCr
                                    have HANwq := HANr
                                    have HADwq := HADr
                                    clear HVr HMr HHr HCm HO HCr HANr HADr
                                    go_wp2_with fail
                                    refine CM.out.mono ?_
                                    rintro e wq ⟨rfl, rfl⟩
                                    go_wp2_with fail
                                    refine HTX.out.mono ?_
                                    rintro e wa ⟨he, hk⟩
                                    obtain ⟨rfl, hC⟩ : e = .returned (S x) ∧ Cur wa w30.heap.size gp w31.heap.size rest := he
                                    have HCpwa := Lib.hid hC
                                    have HOwa : Hid (OwnPi wa w31.heap.size v8 acc) := Lib.hid (own_other HOwq.out hk fun q e => by have := own_ge HOwq.out q e; intro h; injection h with h; omega)
                                    have HVwa := Lib.hid (below_one HVwq.out (HGX.out ▸ HVwq.out.size) hk (by omega))
                                    have HMwa := Lib.hid (HMwq.out.other hk (by intro e; injection e with e; omega))
                                    have HHwa := Lib.hid (HHwq.out.other hk (by intro e; injection e with e; omega))
                                    have HCmwa := Lib.hid (HCmwq.out.below (below_one (Below.refl w2.heap.size _) (by omega) hk (by omega)))
                                    have HANwa := Lib.hid (HANwq.out.one hk (.inr (by omega)))
                                    have HADwa := Lib.hid (HADwq.out.one hk (.inr (by omega)))
                                    have hzwa : w31.heap.size ≤ wa.heap.size := Nat.le_trans hzwq hk.size
                                    clear hC hk HTX CM
                                    clear HVwq HMwq HHwq HCmwq HCpwq HOwq hzwq HANwq HADwq
                                    have HOP := Lib.hid (open_any wa x 2 (by omega) (by unfold inJ8; omega))
                                    go_wp2_with fail
                                    refine HOP.out.mono ?_
                                    rintro e wb ⟨he, hb⟩
                                    have HVwb := Lib.hid (HVwa.out.trans (hb.mono (HGX.out ▸ HVwa.out.size)))
                                    have HMwb := Lib.hid (HMwa.out.below hb HMwa.out.lt)
                                    have HHwb := Lib.hid (HHwa.out.below hb HHwa.out.lt)
                                    have HCmwb := Lib.hid (HCmwa.out.below (hb.mono (by omega)))
                                    have HCpwb := Lib.hid (HCpwa.out.below (hb.mono hzwa))
                                    have HOwb : Hid (OwnPi wb w31.heap.size v8 acc) := Lib.hid (own_below HOwa.out hb)
                                    have hzwb : w31.heap.size ≤ wb.heap.size := Nat.le_trans hzwa hb.size
                                    have HOL : Hid (∀ q, v8.ownBlock = some q → q < wa.heap.size) := Lib.hid (own_lt HOwa.out)
                                    have HANwb := Lib.hid (HANwa.out.below hb HANwa.out.1)
                                    have HADwb := Lib.hid (HADwa.out.below hb HADwa.out.1)
                                    have hza' : w31.heap.size ≤ wa.heap.size := hzwa
                                    clear hb HOP
                                    clear HVwa HMwa HHwa HCmwa HCpwa HOwa hzwa HANwa HADwa
                                    cases hq : openR x 2 with
                                    | none =>
                                      rw [hq] at he
                                      obtain rfl : e = bentE := he
                                      have hi2 : nbsR t14 = none := by rw [HR14.out, HALL.out]; exact mapM_none (by unfold nbR; rw [hq])
                                      clear hq
                                      have HQ : Hid (restR b = none) := Lib.hid (by rw [HPR.out]; unfold restOfR; simp [F0.out, F1.out, F2.out, F3.out, F4.out, F5.out, F7.out, F9.out, F10.out, F11.out, F12.out, F13.out, hi2])
                                      go_wp2_with fail
                                      refine door_bent HMwb.out rfl HHwb.out (by omega) gx (Nat.le_refl _) (by omega) ?_ ?_ (fun w' hb => ?_)
                                      · rfl
                                      · rfl
                                      · unfold RestPost
                                        rw [HQ.out]
                                        exact ⟨rfl, by rw [HGX.out]; exact HVwb.out.trans hb⟩
                                    | some l2 =>
                                      rw [hq] at he
                                      obtain ⟨g1, rfl, hC4, hge1⟩ := he
                                      have hl2 := (openR_ok hq).2 (by omega)
                                      have hm2 := texts_mem (openR_ok hq).1
                                      match l2, hl2 with
                                      | [s0, s1], _ =>
                                        have HNB : Hid (nbR x = (intP s0).map fun n => (n, s1)) := Lib.hid (by unfold nbR; rw [hq])
                                        have CD := Lib.hid (cdec_any wb g1 wb.heap.size [s0, s1] hC4 (Nat.le_refl _) (fun y hy => by have := hm2 y hy; omega) fun W hW => HIT.out W (below_one HVwb.out (HGX.out ▸ HVwb.out.size) hW (by omega)))
                                        clear hq hC4 hm2 hl2
                                        go_wp2_with fail
                                        refine CD.out.mono ?_
                                        rintro e wc ⟨he, hk⟩
                                        have HOwc : Hid (OwnPi wc w31.heap.size v8 acc) := Lib.hid (own_other HOwb.out hk fun q e => by have := HOL.out q e; intro h; injection h with h; omega)
                                        have HVwc := Lib.hid (below_one HVwb.out (HGX.out ▸ HVwb.out.size) hk (by omega))
                                        have HMwc := Lib.hid (HMwb.out.other hk (by intro e; injection e with e; omega))
                                        have HHwc := Lib.hid (HHwb.out.other hk (by intro e; injection e with e; omega))
                                        have HCmwc := Lib.hid (HCmwb.out.below (below_one (Below.refl w2.heap.size _) (by omega) hk (by omega)))
                                        have HCpwc := Lib.hid (HCpwb.out.below (below_one (Below.refl w31.heap.size _) (by omega) hk (by omega)))
                                        have HANwc := Lib.hid (HANwb.out.one hk (.inr (by omega)))
                                        have HADwc := Lib.hid (HADwb.out.one hk (.inr (by omega)))
                                        have hzwc : w31.heap.size ≤ wc.heap.size := Nat.le_trans hzwb hk.size
                                        have hzbc : wb.heap.size ≤ wc.heap.size := hk.size
                                        clear hk CD
                                        clear HVwb HMwb HHwb HCmwb HCpwb HOwb hzwb HANwb HADwb
                                        cases hi : intP s0 with
                                        | none =>
                                          rw [show decR [s0, s1] = none by show (intP s0).map _ = _; rw [hi]; rfl] at he
                                          obtain rfl : e = bentE := he
                                          have hi2 : nbsR t14 = none := by rw [HR14.out, HALL.out]; exact mapM_none (by rw [HNB.out, hi]; rfl)
                                          clear hi
                                          have HQ : Hid (restR b = none) := Lib.hid (by rw [HPR.out]; unfold restOfR; simp [F0.out, F1.out, F2.out, F3.out, F4.out, F5.out, F7.out, F9.out, F10.out, F11.out, F12.out, F13.out, hi2])
                                          go_wp2_with fail
                                          refine door_bent HMwc.out rfl HHwc.out (by omega) gx (Nat.le_refl _) (by omega) ?_ ?_ (fun w' hb => ?_)
                                          · rfl
                                          · rfl
                                          · unfold RestPost
                                            rw [HQ.out]
                                            exact ⟨rfl, by rw [HGX.out]; exact HVwc.out.trans hb⟩
                                        | some id =>
                                          rw [show decR [s0, s1] = some (.int .i64 id, [s1]) by show (intP s0).map _ = _; rw [hi]; rfl] at he
                                          obtain ⟨rfl, hC5⟩ := he
                                          have HC1 := Lib.hid hC5
                                          have HNB2 : Hid (nbR x = some (id, s1)) := Lib.hid (by rw [HNB.out, hi]; rfl)
                                          clear hi hC5
                                          go_upto_region 19 with (fail)
                                          have hbc : wb.heap.size ≤ wc.heap.size := hzbc
                                          have CTX : Hid (∀ W, Below wc.heap.size wc W → Calls Tryz.prog 81 #[curV g1] W (CurPost W wa.heap.size g1 wb.heap.size (textR [s1]))) := Lib.hid fun W hW => text_any W g1 wb.heap.size [s1] (HC1.out.below (hW.mono hbc))
                                          have k8 : wc.cell? ⟨gx, 8, none⟩ = some v8 := HMwc.out.cell 8
                                          have f8 : wc.frozen? ⟨gx, 8, none⟩ = false := HMwc.out.free 8
                                          have hal : acc.length + 1 ≤ 274877906944 := by
                                            have h1 := HAC.out
                                            have h2 : all.length = (done ++ x :: rest).length := congrArg List.length HALL.out
                                            have h3 := HNN.out
                                            simp only [List.length_append, List.length_cons] at h2
                                            omega
                                          have H63 : Hid (acc.length + 1 ≤ maxLen) := Lib.hid (by unfold maxLen; omega)
                                          have HBY : Hid ((acc.length + 1) * 24 ≤ 140737488355328) := Lib.hid (by omega)
                                          have H1 : Hid (∀ u ∈ nbCells1 (id, s1), u.oneCell' = true) := Lib.hid (nb_one (id, s1))
                                          have HNW : Hid (∀ (W : World) (i : Nat) (u : Value), (nbCells1 (id, s1))[i]? = some u → (W.alloc (.cells (nbCells1 (id, s1)).toArray 70)).cell? ((⟨W.heap.size, 0, none⟩ : Addr).add i) = some u) := Lib.hid (fun W i u hu => by
                                            obtain ⟨ad', e', _, hc'⟩ := lies_made W 70 (nbCells1 (id, s1)) (W.heap.size + 1) (by omega) i u hu
                                            injection e' with e'; subst e'; exact hc')
                                          clear hal hbc
                                          refine wp_region_noPanic ?_
                                          go_region_law (first
                                              | (go_simp; go_at_call 81; refine (CTX.out _ (Below.refl _ _).drew).mono ?_; rintro e wd ⟨he, hk0⟩
                                                 obtain ⟨rfl, _⟩ : e = .returned (S s1) ∧ Cur wd wa.heap.size g1 wb.heap.size [] := he
                                                 have hk := grown_trans (grown_of_below (Below.refl wc.heap.size wc).drew) hk0
                                                 have HOwd : Hid (OwnPi wd w31.heap.size v8 acc) := Lib.hid (own_other HOwc.out hk fun q e => by have := HOL.out q e; intro h; injection h with h; omega)
                                                 have HVwd := Lib.hid (below_one HVwc.out (HGX.out ▸ HVwc.out.size) hk (by omega))
                                                 have HMwd := Lib.hid (HMwc.out.other hk (by intro e; injection e with e; omega))
                                                 have HHwd := Lib.hid (HHwc.out.other hk (by intro e; injection e with e; omega))
                                                 have HCmwd := Lib.hid (HCmwc.out.below (below_one (Below.refl w2.heap.size _) (by omega) hk (by omega)))
                                                 have HCpwd := Lib.hid (HCpwc.out.below (below_one (Below.refl w31.heap.size _) (by omega) hk (by omega)))
                                                 have HANwd := Lib.hid (HANwc.out.one hk (.inr (by omega)))
                                                 have HADwd := Lib.hid (HADwc.out.one hk (.inr (by omega)))
                                                 have hzwd : w31.heap.size ≤ wd.heap.size := Nat.le_trans hzwc hk.size
                                                 have kd8 : wd.cell? ⟨gx, 8, none⟩ = some v8 := HMwd.out.cell 8
                                                 have ka8 : (wd.alloc (.cells #[.int .i64 id, S s1] 70)).cell? ⟨gx, 8, none⟩ = some v8 := (HMwd.out.block (.cells (nbCells1 (id, s1)).toArray 70)).cell 8
                                                 have HBA : Hid (w31.heap.size ≤ (wd.alloc (.cells (nbCells1 (id, s1)).toArray 70)).heap.size) := Lib.hid (by simp; omega)
                                                 have HOA := Lib.hid (HOwd.out.alloc (.cells (nbCells1 (id, s1)).toArray 70))
                                                 clear hk hk0)
                                              | (refine step_append_own rfl (.tmp 70) (.tmp 75) 25 rfl w31.heap.size 70 i0 _ 2 24 Tryz.underlying25 hi0 hz0 hz1 hz2' rfl (by decide) _ _ _ rfl HOA.out ⟨wd.heap.size, 0, none⟩ 1 1 (nbCells1 (id, s1)) rfl rfl (HNW.out wd) H1.out H63.out HBY.out HBA.out ?_
                                                 intro v' we hown' hgrow _
                                                 obtain ⟨Ae, ce, rfl, _, _⟩ := own_shape hown' (by decide)
                                                 have KB := Lib.hid (((Below.refl w31.heap.size wd).alloc hzwd _).grown hgrow HBA.out (own_ge HOA.out))
                                                 have HMwe := Lib.hid (HMwd.out.below KB.out (by omega))
                                                 have ke8 : we.cell? ⟨gx, 8, none⟩ = some v8 := HMwe.out.cell 8
                                                 have fe8 : we.frozen? ⟨gx, 8, none⟩ = false := HMwe.out.free 8))
                                          all_goals
                                            refine NoPanic.normal ?_
                                            have HMf : Hid (Whole (we.setCell ⟨gx, 8, none⟩ (.slice Ae (acc.length + 1) ce)) gx 30 #[.int .u64 (getL t1 : Int), .int .i64 qu, .int .i64 cu, .int .i64 le, .slice none 0 0, .slice none 0 0, .int .i64 nx, S t6, .slice Ae (acc.length + 1) ce, .int .i64 np, S t8, .bool fin, .int .u64 (getL t10 : Int), .slice none 0 0, .slice AN lN.length dN, .int .i64 dl, .slice AD lD.length dD]) := Lib.hid (show Whole _ gx 30 #[.int .u64 (getL t1 : Int), .int .i64 qu, .int .i64 cu, .int .i64 le, .slice none 0 0, .slice none 0 0, .int .i64 nx, S t6, .slice Ae (acc.length + 1) ce, .int .i64 np, S t8, .bool fin, .int .u64 (getL t10 : Int), .slice none 0 0, .slice AN lN.length dN, .int .i64 dl, .slice AD lD.length dD] from Whole.set HMwe.out 8 (.slice Ae (acc.length + 1) ce))
                                            have hzwe : w31.heap.size ≤ we.heap.size := Nat.le_trans hzwd KB.out.size
                                            have HOf : Hid (OwnPi (we.setCell ⟨gx, 8, none⟩ (.slice Ae (acc.length + 1) ce)) w31.heap.size (.slice Ae (acc.length + 1) ce) (acc ++ [(id, s1)])) := Lib.hid (by
                                              have := own_other hown' (grown_setK we gx 8 (.slice Ae (acc.length + 1) ce)) (fun q e => by have := own_ge hown' q e; intro h; injection h with h; omega)
                                              rw [← nbCells_snoc] at this
                                              unfold OwnPi
                                              rw [List.length_append]
                                              exact this)
                                            have HHf := Lib.hid (Whole.far (HHwd.out.below KB.out (by omega)) (p := ⟨gx, 8, none⟩) (by show gx + 1 ≠ gx; omega) (.slice Ae (acc.length + 1) ce))
                                            have HVf := Lib.hid ((HVwd.out.trans (KB.out.mono (by omega))).setCell (p := ⟨gx, 8, none⟩) (Nat.le_refl _) (.slice Ae (acc.length + 1) ce))
                                            have HCmf := Lib.hid (Cur.lower (HCmwd.out.below (KB.out.mono (by omega))) (grown_setK we gx 8 (.slice Ae (acc.length + 1) ce)) (by omega) (by omega))
                                            have HCpf := Lib.hid (Cur.lower (HCpwd.out.below KB.out) (grown_setK we gx 8 (.slice Ae (acc.length + 1) ce)) (by omega) (by omega))
                                            have HANf := Lib.hid (Agree.one (Agree.below HANwd.out KB.out (by omega)) (grown_setK we gx 8 (.slice Ae (acc.length + 1) ce)) (.inl (by omega)))
                                            have HADf := Lib.hid (Agree.one (Agree.below HADwd.out KB.out (by omega)) (grown_setK we gx 8 (.slice Ae (acc.length + 1) ce)) (.inl (by omega)))
                                            have hzf : w31.heap.size ≤ (we.setCell ⟨gx, 8, none⟩ (.slice Ae (acc.length + 1) ce)).heap.size := by simpa [World.setCell] using hzwe
                                            have HDf : Hid ((done ++ [x]).mapM nbR = some (acc ++ [(id, s1)])) := Lib.hid (by rw [mapM_snoc HD.out, HNB2.out]; rfl)
                                            have HLf := Lib.hid HCpf.out.len
                                            generalize we.setCell ⟨gx, 8, none⟩ (.slice Ae (acc.length + 1) ce) = wf at *
                                            generalize Value.slice Ae (acc.length + 1) ce = vf at *
                                            clear hown' hgrow HMwe KB ke8 fe8
                                            go_wp2_with fail
                                            go_roundw
                                            case rel =>
                                              have R : ∃ (done rest : List (List UInt8)) (acc : List Nb) (v8 : Value), all = done ++ rest ∧ Hid (done.mapM nbR = some acc) ∧ Hid (Cur wf w30.heap.size gp w31.heap.size rest) ∧ Hid (OwnPi wf w31.heap.size v8 acc) ∧ Hid (Whole wf gx 30 #[.int .u64 (getL t1 : Int), .int .i64 qu, .int .i64 cu, .int .i64 le, .slice none 0 0, .slice none 0 0, .int .i64 nx, S t6, v8, .int .i64 np, S t8, .bool fin, .int .u64 (getL t10 : Int), .slice none 0 0, .slice AN lN.length dN, .int .i64 dl, .slice AD lD.length dD]) ∧ Hid (Whole wf (gx + 1) 4 #[.bool false]) ∧ Hid (Below gx w wf) ∧ Hid (Cur wf w1.heap.size g w2.heap.size [t15]) ∧ w31.heap.size ≤ wf.heap.size ∧ Hid (Agree w2.heap.size hiN WN wf) ∧ Hid (Agree w2.heap.size hiD WD wf) := ⟨done ++ [x], rest, acc ++ [(id, s1)], vf, by rw [HALL.out]; simp, HDf, HCpf, HOf, HMf, HHf, HVf, HCmf, hzf, HANf, HADf⟩
                                              first | exact R | ((repeat apply Exists.intro); exact ⟨R, rfl⟩)
                                            case measure => rw [HLEN.out, HLf.out]; simp
                      · rw [show bytesR 8 [t10, t11, t12, t13, t14, t15] = none from if_neg hi] at he
                        obtain rfl : e = bentE := he
                        have HQ : Hid (restR b = none) := Lib.hid (by rw [HPR.out]; unfold restOfR; simp [F0.out, F1.out, F2.out, F3.out, F4.out, F5.out, F7.out, F9.out, hi])
                        go_wp2_with fail
                        refine door_bent HM20.out rfl HH20.out (by omega) gx (Nat.le_refl _) (by omega) ?_ ?_ (fun w' hb => ?_)
                        · rfl
                        · rfl
                        · unfold RestPost
                          rw [HQ.out]
                          exact ⟨rfl, by rw [HGX.out]; exact HV20.out.trans hb⟩
        · rw [show bytesR 8 [t1, t2, t3, t4, t5, t6, t7, t8, t9, t10, t11, t12, t13, t14, t15] = none from if_neg hi] at he
          obtain rfl : e = bentE := he
          have HQ : Hid (restR b = none) := Lib.hid (by rw [HPR.out]; unfold restOfR; simp [F0.out, hi])
          go_wp2_with fail
          refine door_bent HM5.out rfl HH5.out (by omega) gx (Nat.le_refl _) (by omega) ?_ ?_ (fun w' hb => ?_)
          · rfl
          · rfl
          · unfold RestPost
            rw [HQ.out]
            exact ⟨rfl, by rw [HGX.out]; exact HV5.out.trans hb⟩
      · have HQ : Hid (restR b = none) := Lib.hid (by rw [HPR.out]; unfold restOfR; rw [if_neg h0])
        have hbe : (t0 == [104, 105, 98, 50]) = false := beq_eq_false_iff_ne.2 h0
        have SZ : Hid ((Tryz.prog.info? 30).map (·.size) = some zeroML.length) := Lib.hid Tryz.sizeMc
        clear h0
        go_wp2_with (refine wpList_store_all rfl 30 (.tmp 2) (.tmp 15) rfl rfl gx rfl zeroML rfl SZ.out [.int .u64 0, .int .i64 0, .int .i64 0, .int .i64 0, .slice none 0 0, .slice none 0 0, .int .i64 0, S [], .slice none 0 0, .int .i64 0, S [], .bool false, .int .u64 0, .slice none 0 0, .slice none 0 0, .int .i64 0, .slice none 0 0] 30 HM4.out rfl (mcL_one _ _) ?_; intro w5 hw hk; have HH5 := Lib.hid (HH4.out.other hk.out (by intro e; injection e with e; omega)); have HV5 := Lib.hid (HV4.out.grown hk.out (by have := HV4.out.size; rw [HGX.out] at this; omega) (fun q e => by injection e with e; omega)); have c0 : w5.cell? ⟨gx + 1, 0, none⟩ = some (.bool false) := HH5.out.cell 0; have y0 : w5.frozen? ⟨gx + 1, 0, none⟩ = false := HH5.out.free 0)
        refine door_ret (hw.out.far (p := ⟨gx + 1, 0, none⟩) (by show gx ≠ gx + 1; omega) _) rfl (HH5.out.set 0 _) ?_ ?_ ?_
        · rfl
        · rfl
        · unfold RestPost
          rw [HQ.out]
          exact ⟨rfl, by rw [HGX.out]; exact HV5.out.setCell (p := ⟨gx + 1, 0, none⟩) (by show gx ≤ gx + 1; omega) _⟩
end Go.Proofs.YtmmfcjkabpffeaaGreatDoor
