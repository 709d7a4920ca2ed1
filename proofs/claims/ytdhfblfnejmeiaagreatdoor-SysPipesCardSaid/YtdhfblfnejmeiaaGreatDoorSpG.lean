/-
  Walks: the kernel's methods memory, lay, readInput. (Printed by gen_spg.py.)
-/
import Derived.Test.YtdhfblfnejmeiaaGreatDoorSpF
import Derived.Test.YtdhfblfnejmeiaaGreatDoorSureA
namespace Go.Proofs.YtdhfblfnejmeiaaGreatDoor
open Go.RowKit

theorem Good.frames {m : Mc} {p : Pr} (h : Good m p) {fs : List (List UInt8)} (hl : fs.length = m.frames.length) : Good { m with frames := fs } p :=
  ⟨h.one, h.pid, h.cur, h.ok, ⟨h.mc.clock, h.mc.quantum, h.mc.cur, h.mc.left, h.mc.next, h.mc.newPipe, h.mc.told, h.mc.dleft, h.mc.procs, h.mc.pipes, h.mc.pend, h.mc.dirty, by have := h.mc.sizes; rw [← hl] at this; exact this⟩⟩
/-- other frames -/
theorem OM.frames {w : World} {ok : Nat → Prop} {a : MA} {m : Mc} {p : Pr} {pb : Nat} {z : List Value} (h : OM w ok a m p pb z) {gL cl : Nat} {fs : List (List UInt8)} {zz : List Value} (hW : Whole w gL 9 (fs.map S ++ zz).toArray) (hok : ok gL) (hne : gL ≠ pb) (hcl : fs.length ≤ cl) : OM w ok { a with F := some ⟨gL, 0, none⟩, cF := cl } { m with frames := fs } p pb z :=
  ⟨h.aP, h.pr, h.okp, ⟨fun k v hv => ⟨⟨gL, 0, none⟩, rfl, hW.lt, by
    rw [show (⟨gL, 0, none⟩ : Addr).add k = ⟨gL, k, none⟩ by unfold Addr.add; split <;> simp_all, hW.cell, List.getElem?_toArray, List.getElem?_append_left (List.getElem?_eq_some_iff.1 hv).1]
    exact hv⟩, fun ad e => by injection e with e; subst e; exact ⟨hok, hne, hW.typed⟩⟩, h.Q, h.L, h.N, h.D, ⟨hcl, h.cap.2⟩, h.one, h.qo⟩
/-- what a call of mmu.Lay, and what is taken out of its answer, gives -/
def LayR (base n : Nat) (fs : List (List UInt8)) (c i : Nat) (v : Value) (W : World) : Prop :=
  ∃ gL cl zz, v = (if i ≤ c then .tuple #[.slice (some ⟨gL, 0, none⟩) n cl, .bool true] else .slice (some ⟨gL, 0, none⟩) n cl) ∧ base ≤ gL ∧ n ≤ cl ∧ Whole W gL 9 (fs.map S ++ zz).toArray
theorem LayR.stays {base n c : Nat} {fs : List (List UInt8)} : ∀ j v W W', LayR base n fs c j v W → Below W.heap.size W W' → LayR base n fs c j v W' := by
  rintro j v W W' ⟨gL, cl, zz, e, h1, h2, h3⟩ hb
  exact ⟨gL, cl, zz, e, h1, h2, h3.below hb h3.lt⟩
section
variable {w w' : World} {B kb : Nat} {a : MA} {m : Mc} {p : Pr} {pb : Nat} {z : List Value} {a0 : MA} {m0 : Mc} {x0 x1 x2 : Int} {tl : List UInt8}
theorem KS.frames (h : KS w B kb a m p pb z a0 m0 x0 x1 x2 tl) {gL cl : Nat} {fs : List (List UInt8)} {zz : List Value} (hW : Whole w gL 9 (fs.map S ++ zz).toArray) (hg : B ≤ gL) (hk : gL ≠ kb) (hp : gL ≠ pb) (hl : fs.length = m.frames.length) (hcl : fs.length ≤ cl) :
    KS (w.setCell ⟨kb, 4, none⟩ (.slice (some ⟨gL, 0, none⟩) fs.length cl)) B kb { a with F := some ⟨gL, 0, none⟩, cF := cl } { m with frames := fs } p pb z a0 m0 x0 x1 x2 tl :=
  h.turn (grown_setK w kb 4 _) (h.om.frames hW ⟨hg, hk⟩ hp hcl) (by
    have := h.ker.set 4 (.slice (some ⟨gL, 0, none⟩) fs.length cl)
    exact this) (h.good.frames hl)
theorem KS.strs (h : KS w B kb a m p pb z a0 m0 x0 x1 x2 tl) : Strs w w.heap.size a.F m.frames := h.om.F.1
end

set_option maxRecDepth 100000 in
set_option maxHeartbeats 4000000 in
theorem memory_any {w : World} {B kb : Nat} {a : MA} {m : Mc} {p : Pr} {pb : Nat} {z : List Value} {a0 : MA} {m0 : Mc} {x0 x1 x2 : Int} {tl : List UInt8} (h : KS w B kb a m p pb z a0 m0 x0 x1 x2 tl) (ad n fr pl : Nat) (f : List UInt8) (hs : Spot p.space m.frames ad n fr pl f) (hn : 0 < n) :
    Calls Tryz.prog 75 #[.pointer (some ⟨kb, 0, none⟩), .int .u32 (ad : Int), .int .i64 (n : Int)] w fun e w' => e = .returned (S ((f.drop pl).take n)) ∧ Below w.heap.size w w' := by
  have HK := Lib.hid h
  have CX : Hid (∀ W, Below w.heap.size w W → Calls Tryz.prog 32 #[.pointer (some ⟨kb, 0, none⟩)] W fun e w' => e = .returned (.pointer (some ⟨pb, 0, none⟩)) ∧ Below W.heap.size W w') := Lib.hid fun W hS => caller_any (h.below hS)
  have H4 : Hid (∀ W, Below w.heap.size w W → W.cell? ⟨kb, 4, none⟩ = some (.slice a.F m.frames.length a.cF)) := Lib.hid fun W hS => (h.below hS).ker.cell 4
  have HL : Hid (∀ W, Below w.heap.size w W → ∀ j v, (pgCells p.space)[j]? = some v → W.cell? ((⟨pb, 20, none⟩ : Addr).add j) = some v) := Lib.hid fun W hS => (h.below hS).space
  have MI : Hid ((Tryz.prog.info? 42).map (·.size) = some (pgCells p.space).length) := Lib.hid (by rw [pgCells_length, h.good.ok.space]; exact Tryz.sizeSpace)
  have CC : Hid (∀ W, Below w.heap.size w W → Calls Tryz.prog 119 #[.slice a.F m.frames.length a.cF, .agg (pgCells p.space).toArray, .int .u32 (ad : Int), .int .i64 (n : Int)] W fun e w' => e = .returned (.tuple #[S ((f.drop pl).take n), .bool true]) ∧ Below W.heap.size W w') := Lib.hid fun W hS => mcopy_any W a.F a.cF p.space m.frames ad n fr pl f hs hn (h.below hS).strs
  have HN := Lib.hid (fun W v c => need_any W v c)
  clear h hs hn HK
  generalize (f.drop pl).take n = dd at *
  go_enter Tryz.func75, Tryz.ntmps75
  go_upto_region 1 with (fail)
  refine' wp_region_sure (by kernel_rfl) (fun W => Below w.heap.size w W) 18 [_, _, _, _, _, _, _, _, _, _, _, _, _, _, _, _, _, _] [some 10, some 11, some 12, some 13, some 14, some 15, some 16, some 17, some 18, some 19, some 20, some 21, some 22, some 9, some 23, some 24, some 7, some 8] (by kernel_rfl) (by kernel_rfl) (by kernel_rfl) (by kernel_rfl) rfl (Below.refl _ _).drew ?hs1
  case hs1 =>
    refine sure_cons ?_ ?_
    · intro L ac W K hed hJ hS hK
      have hA0 : ac.eval (.tmp 0) = .pointer (some ⟨kb, 0, none⟩) := hJ.eval_old 0 (by kernel_rfl)
      clear hed hJ
      refine opStep_of rfl ?_
      unfold Oper.wp execOp
      have hN0 := evalN hA0
      go_simp
      exact hK _ hS
    refine sure_cons ?_ ?_
    · intro L ac W K hed hJ hS hK
      have hn := needs_spec (l := [0]) (by kernel_rfl) hed
      have hA10 := hJ.eval 0 (d := 10) (hn 0 (by simp)) rfl rfl rfl
      clear hed hJ hn
      refine opStep_of rfl ?_
      unfold Oper.wp execOp
      have hN10 := evalN hA10
      go_simp
      exact hK _ hS
    refine sure_cons ?_ ?_
    · intro L ac W K hed hJ hS hK
      have hn := needs_spec (l := [1]) (by kernel_rfl) hed
      have hA11 := hJ.eval 1 (d := 11) (hn 1 (by simp)) rfl rfl rfl
      clear hed hJ hn
      refine opStep_of rfl ?_
      unfold Oper.wp execOp
      have hN11 := evalN hA11
      go_simp
      exact hK _ hS
    refine sure_cons ?_ ?_
    · intro L ac W K hed hJ hS hK
      have hn := needs_spec (l := [2]) (by kernel_rfl) hed
      have hA12 := hJ.eval 2 (d := 12) (hn 2 (by simp)) rfl rfl rfl
      clear hed hJ hn
      refine opStep_of rfl ?_
      unfold Oper.wp execOp
      have hN12 := evalN hA12
      go_simp
      exact hK _ hS
    refine sure_cons ?_ ?_
    · intro L ac W K hed hJ hS hK
      have hn := needs_spec (l := [3]) (by kernel_rfl) hed
      have hA13 := hJ.eval 3 (d := 13) (hn 3 (by simp)) rfl rfl rfl
      clear hed hJ hn
      refine opStep_of rfl ?_
      have cc := H4.out W hS
      unfold Oper.wp execOp
      have hN13 := evalN hA13
      go_simp
      exact hK _ hS
    refine sure_cons ?_ ?_
    · intro L ac W K hed hJ hS hK
      have hA0 : ac.eval (.tmp 0) = .pointer (some ⟨kb, 0, none⟩) := hJ.eval_old 0 (by kernel_rfl)
      clear hed hJ
      refine opStep_of rfl ?_
      unfold Oper.wp execOp
      have hN0 := evalN hA0
      go_simp
      exact hK _ hS
    refine sure_cons ?_ ?_
    · intro L ac W K hed hJ hS hK
      have hn := needs_spec (l := [5]) (by kernel_rfl) hed
      have hA15 := hJ.eval 5 (d := 15) (hn 5 (by simp)) rfl rfl rfl
      clear hed hJ hn
      refine opStep_of rfl ?_
      unfold Oper.wp execOp
      have hN15 := evalN hA15
      go_simp
      refine (CX.out W hS).mono ?_
      rintro e W' ⟨rfl, hb⟩
      have hS2 := hS.trans (hb.mono hS.size)
      dsimp only
      exact hK W' hS2
    refine sure_cons ?_ ?_
    · intro L ac W K hed hJ hS hK
      have hn := needs_spec (l := [6]) (by kernel_rfl) hed
      have hA16 := hJ.eval 6 (d := 16) (hn 6 (by simp)) rfl rfl rfl
      clear hed hJ hn
      refine opStep_of rfl ?_
      unfold Oper.wp execOp
      have hN16 := evalN hA16
      go_simp
      exact hK _ hS
    refine sure_cons ?_ ?_
    · intro L ac W K hed hJ hS hK
      have hn := needs_spec (l := [7]) (by kernel_rfl) hed
      have hA17 := hJ.eval 7 (d := 17) (hn 7 (by simp)) rfl rfl rfl
      clear hed hJ hn
      refine opStep_of rfl ?_
      unfold Oper.wp execOp
      have hN17 := evalN hA17
      go_simp
      exact hK _ hS
    refine sure_cons ?_ ?_
    · intro L ac W K hed hJ hS hK
      have hn := needs_spec (l := [8]) (by kernel_rfl) hed
      have hA18 := hJ.eval 8 (d := 18) (hn 8 (by simp)) rfl rfl rfl
      clear hed hJ hn
      refine opStep_of rfl ?_
      refine oper_load_at 42 (.tmp 18) rfl ⟨pb, 20, none⟩ hA18 (pgCells p.space) _ (HL.out W hS) Tryz.underlying42 rfl MI.out ?_
      exact hK _ hS
    refine sure_cons ?_ ?_
    · intro L ac W K hed hJ hS hK
      have hA1 : ac.eval (.tmp 1) = .int .u32 (ad : Int) := hJ.eval_old 1 (by kernel_rfl)
      clear hed hJ
      refine opStep_of rfl ?_
      unfold Oper.wp execOp
      have hN1 := evalN hA1
      go_simp
      exact hK _ hS
    refine sure_cons ?_ ?_
    · intro L ac W K hed hJ hS hK
      have hA2 : ac.eval (.tmp 2) = .int .i64 (n : Int) := hJ.eval_old 2 (by kernel_rfl)
      clear hed hJ
      refine opStep_of rfl ?_
      unfold Oper.wp execOp
      have hN2 := evalN hA2
      go_simp
      exact hK _ hS
    refine sure_cons ?_ ?_
    · intro L ac W K hed hJ hS hK
      have hn := needs_spec (l := [4, 9, 10, 11]) (by kernel_rfl) hed
      have hA14 := hJ.eval 4 (d := 14) (hn 4 (by simp)) rfl rfl rfl
      have hA19 := hJ.eval 9 (d := 19) (hn 9 (by simp)) rfl rfl rfl
      have hA20 := hJ.eval 10 (d := 20) (hn 10 (by simp)) rfl rfl rfl
      have hA21 := hJ.eval 11 (d := 21) (hn 11 (by simp)) rfl rfl rfl
      clear hed hJ hn
      refine opStep_of rfl ?_
      unfold Oper.wp execOp
      have hN14 := evalN hA14
      have hN19 := evalN hA19
      have hN20 := evalN hA20
      have hN21 := evalN hA21
      go_simp
      refine (CC.out W hS).mono ?_
      rintro e W' ⟨rfl, hb⟩
      have hS2 := hS.trans (hb.mono hS.size)
      dsimp only
      exact hK W' hS2
    refine sure_cons ?_ ?_
    · intro L ac W K hed hJ hS hK
      have hn := needs_spec (l := [12]) (by kernel_rfl) hed
      have hA22 := hJ.eval 12 (d := 22) (hn 12 (by simp)) rfl rfl rfl
      clear hed hJ hn
      refine opStep_of rfl ?_
      unfold Oper.wp execOp
      have hN22 := evalN hA22
      go_simp
      exact hK _ hS
    refine sure_cons ?_ ?_
    · intro L ac W K hed hJ hS hK
      have hn := needs_spec (l := [13]) (by kernel_rfl) hed
      have hA9 := hJ.eval 13 (d := 9) (hn 13 (by simp)) rfl rfl rfl
      clear hed hJ hn
      refine opStep_of rfl ?_
      unfold Oper.wp execOp
      have hN9 := evalN hA9
      go_simp
      exact hK _ hS
    refine sure_cons ?_ ?_
    · intro L ac W K hed hJ hS hK
      have hn := needs_spec (l := [13]) (by kernel_rfl) hed
      have hA9 := hJ.eval 13 (d := 9) (hn 13 (by simp)) rfl rfl rfl
      clear hed hJ hn
      refine opStep_of rfl ?_
      unfold Oper.wp execOp
      have hN9 := evalN hA9
      go_simp
      exact hK _ hS
    refine sure_cons ?_ ?_
    · intro L ac W K hed hJ hS hK
      have hn := needs_spec (l := [14]) (by kernel_rfl) hed
      have hA23 := hJ.eval 14 (d := 23) (hn 14 (by simp)) rfl rfl rfl
      clear hed hJ hn
      refine opStep_of rfl ?_
      unfold Oper.wp execOp
      have hN23 := evalN hA23
      go_simp
      exact hK _ hS
    refine sure_cons ?_ ?_
    · intro L ac W K hed hJ hS hK
      have hn := needs_spec (l := [15]) (by kernel_rfl) hed
      have hA24 := hJ.eval 15 (d := 24) (hn 15 (by simp)) rfl rfl rfl
      clear hed hJ hn
      refine opStep_of rfl ?_
      unfold Oper.wp execOp
      have hN24 := evalN hA24
      go_simp
      exact hK _ hS
    refine sure_nil ?_
    intro W hS
    simp only [putAll, Act.put, List.setIfInBounds_toArray, List.set_cons_zero, List.set_cons_succ]
    have HS := Lib.hid hS
    clear hS
    go_wp2_with fail
    refine (HN.out _ _ _).mono ?_
    rintro e w2 ⟨rfl, rfl⟩
    go_wp2_with fail
    refine bodyPost_ret (v := S dd) (by simp [results, Tryz.results75, go_sem]) rfl ?_
    exact ⟨rfl, HS.out⟩
set_option maxRecDepth 100000 in
set_option maxHeartbeats 4000000 in
theorem readInput_any {w : World} {B kb : Nat} {a : MA} {m : Mc} {p : Pr} {pb : Nat} {z : List Value} {a0 : MA} {m0 : Mc} {x0 x1 x2 : Int} {tl : List UInt8} (h : KS w B kb a m p pb z a0 m0 x0 x1 x2 tl) (ad n : Int) (hin : m.inp = []) (hfin : m.fin = false) (hpc : 4 ≤ p.pc) :
    Calls Tryz.prog 69 #[.pointer (some ⟨kb, 0, none⟩), .int .u32 ad, .int .i64 n] w fun e w' => e = .returned (.tuple #[]) ∧ KS w' B kb a { m with procs := [{ p with state := 2, why := 1, n := 0, pc := p.pc - 4 }] } { p with state := 2, why := 1, n := 0, pc := p.pc - 4 } pb z a0 m0 x0 x1 x2 tl ∧ Below B w w' := by
  have CW := Lib.hid (waitFor_any h 1 0 (by unfold inJ8; omega) (by unfold inU64; omega) hpc)
  have c10 : w.cell? ⟨kb, 10, none⟩ = some (S []) := by have := h.ker.cell 10; rw [this]; show some (S m.inp) = _; rw [hin]
  have c11 : w.cell? ⟨kb, 11, none⟩ = some (.bool false) := by have := h.ker.cell 11; rw [this]; show some (Value.bool m.fin) = _; rw [hfin]
  clear h
  go_enter Tryz.func69, Tryz.ntmps69
  go_wp2_with fail
  refine CW.out.mono ?_
  rintro e w2 ⟨rfl, hk, hb⟩
  have HK2 := Lib.hid hk
  have HB2 := Lib.hid hb
  clear hk hb CW c10 c11
  go_wp2_with fail
  refine bodyPost_end (v := .tuple #[]) (by simp [results, Tryz.results69, go_sem]) rfl ?_
  exact ⟨rfl, HK2.out, HB2.out⟩
end Go.Proofs.YtdhfblfnejmeiaaGreatDoor
