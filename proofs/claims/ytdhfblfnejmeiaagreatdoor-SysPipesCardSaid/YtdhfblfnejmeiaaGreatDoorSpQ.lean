/-
  Walks: the kernel's method read, on the console's input and on a pipe. (Printed by gen_spq.py.)
-/
import Derived.Test.YtdhfblfnejmeiaaGreatDoorSpN
import Derived.Test.YtdhfblfnejmeiaaGreatDoorShelfB
namespace Go.Proofs.YtdhfblfnejmeiaaGreatDoor
open Go.RowKit

theorem repeat_zeros : ∀ n, Lib.repeatL [0] n = List.replicate n (0 : UInt8)
  | 0 => rfl
  | n + 1 => by rw [Lib.repeatL, repeat_zeros n]; rfl
theorem repeatZ (n : Nat) (hn : n ≤ 128) (W : World) : Calls Tryz.prog 29 #[S [0], .int .i64 (n : Int)] W fun e w' => e = .returned (S (List.replicate n 0)) ∧ Below W.heap.size W w' := by
  have := Tryz.strings_Repeat ⟨#[0]⟩ n W (by omega) (by show 1 * n ≤ _; omega)
  refine this.mono fun e w' h => ⟨h.1.trans ?_, h.2⟩
  show Ending.returned (S (Lib.repeatL [0] n)) = _
  rw [repeat_zeros]
theorem lies_three (W : World) (a b c : Int) : Lies (W.alloc (.cells #[Value.int .i64 a, Value.int .i64 b, Value.int .i64 c] 3)) (W.alloc (.cells #[Value.int .i64 a, Value.int .i64 b, Value.int .i64 c] 3)).heap.size (some ⟨W.heap.size, 0, none⟩) ([a, b, c].map fun n => Value.int .i64 n) := fun k v hv =>
  ⟨_, rfl, by simp, by
    have := (Whole.made W 3 #[Value.int .i64 a, Value.int .i64 b, Value.int .i64 c]).reads k v
    exact this hv⟩
set_option maxRecDepth 100000 in
set_option maxHeartbeats 4000000 in
theorem read_in {w : World} {B kb : Nat} {a : MA} {m : Mc} {p : Pr} {pb : Nat} {z : List Value} {a0 : MA} {m0 : Mc} {k ad n : Nat} {tl : List UInt8} (h : KS w B kb a m p pb z a0 m0 (k : Int) (ad : Int) (n : Int) tl) (hk : k < 8) (hn : 0 < n) (hn2 : n ≤ 128) (f : Fl) (hf : p.fds[k]? = some f) (hfk : f.kind = 1) (fr pl : Nat) (ff : List UInt8) (hs : Spot p.space m.frames ad n fr pl ff) (hin : m.inp = []) (hfin : m.fin = false) (hpc : 4 ≤ p.pc) :
    Calls Tryz.prog 34 #[.pointer (some ⟨kb, 0, none⟩)] w fun e w' => e = .returned (.tuple #[]) ∧ KE w' B kb { m with procs := [{ p with state := 2, why := 1, n := 0, pc := p.pc - 4 }] } { p with state := 2, why := 1, n := 0, pc := p.pc - 4 } (k : Int) (ad : Int) (n : Int) tl ∧ Below B w w' := by
  have HBK : Hid (B ≤ w.heap.size) := Lib.hid (by have := h.hB; have := h.kl; omega)
  have CH := Lib.hid (handed_any h hk hn2 f hf (by rw [hfk]; decide))
  have HK := Lib.hid h
  have HF := Lib.hid hf
  have HFK := Lib.hid hfk
  have HN := Lib.hid (fun W v c => need_any W v c)
  have HS := Lib.hid hs
  have HN0 : Hid (0 < (List.replicate n (0 : UInt8)).length) := Lib.hid (by rw [List.length_replicate]; exact hn)
  have HNL : Hid ((List.replicate n (0 : UInt8)).length = n) := Lib.hid List.length_replicate
  have CR : Hid (∀ W, Calls Tryz.prog 29 #[S [0], .int .i64 (n : Int)] W fun e w' => e = .returned (S (List.replicate n 0)) ∧ Below W.heap.size W w') := Lib.hid (repeatZ n hn2)
  generalize List.replicate n (0 : UInt8) = zz at *
  have HIN := Lib.hid (And.intro hin (And.intro hfin hpc))
  clear h hf hfk hs hin hfin hpc
  go_enter Tryz.func34, Tryz.ntmps34
  go_wp2_with fail
  refine CH.out.mono ?_
  rintro e w1 ⟨rfl, hb⟩
  have HK1 := Lib.hid ((HK.out.below hb).below ((Below.refl w1.heap.size w1).alloc (Nat.le_refl _) (.cells #[Value.int .i64 1, Value.int .i64 3, Value.int .i64 4] 3)))
  have HB1 := Lib.hid (hb.alloc hb.size (.cells #[Value.int .i64 1, Value.int .i64 3, Value.int .i64 4] 3))
  have CKK := Lib.hid (kind_any (w1.alloc (.cells #[Value.int .i64 1, Value.int .i64 3, Value.int .i64 4] 3)) (some ⟨w1.heap.size, 0, none⟩) 3 [1, 3, 4] (lies_three w1 1 3 4) (by simp) f (by rw [HFK.out]; simp) (.pointer (some ⟨kb, 0, none⟩)) pb (68 + k * 3) (by rw [← Nat.add_zero (68 + k * 3)]; exact HK1.out.fdc HF.out (j := 0) (by decide) rfl))
  clear hb CH HK
  go_wp2_with fail
  refine CKK.out.mono ?_
  rintro e w2 ⟨rfl, hb⟩
  have HK2 := Lib.hid (HK1.out.below hb)
  have HB2 := Lib.hid (HB1.out.trans (hb.mono HB1.out.size))
  have c36 : w2.cell? ⟨kb, 36, none⟩ = some (.int .u32 (ad : Int)) := HK2.out.ker.cell 36
  clear hb CKK HK1 HB1
  go_upto_region 3 with (fail)
  clear c36
  have CX : Hid (∀ W, Below w2.heap.size w2 W → Calls Tryz.prog 32 #[.pointer (some ⟨kb, 0, none⟩)] W fun e w' => e = .returned (.pointer (some ⟨pb, 0, none⟩)) ∧ Below W.heap.size W w') := Lib.hid fun W hS => caller_any (HK2.out.below hS)
  have H4 : Hid (∀ W, Below w2.heap.size w2 W → W.cell? ⟨kb, 4, none⟩ = some (.slice a.F m.frames.length a.cF)) := Lib.hid fun W hS => (HK2.out.below hS).ker.cell 4
  have HL : Hid (∀ W, Below w2.heap.size w2 W → ∀ j v, (pgCells p.space)[j]? = some v → W.cell? ((⟨pb, 20, none⟩ : Addr).add j) = some v) := Lib.hid fun W hS => (HK2.out.below hS).space
  have MI : Hid ((Tryz.prog.info? 42).map (·.size) = some (pgCells p.space).length) := Lib.hid (by rw [pgCells_length, HK2.out.good.ok.space]; exact Tryz.sizeSpace)
  have CC : Hid (∀ W, Below w2.heap.size w2 W → Calls Tryz.prog 68 #[.slice a.F m.frames.length a.cF, .agg (pgCells p.space).toArray, .int .u32 (ad : Int), S zz] W fun e w' => (∃ v, e = .returned v ∧ LayR w2.heap.size m.frames.length (m.frames.set fr (putF ff pl zz)) 14 13 v w') ∧ Below W.heap.size W w') := Lib.hid fun W hS => (mlay_any W a.F a.cF p.space m.frames ad fr pl ff zz (by rw [HNL.out]; exact HS.out) HN0.out (HK2.out.below hS).strs).mono (by
    rintro e w2 ⟨⟨gL, cl, zz, rfl, hg, hcl, hw⟩, hb⟩
    exact ⟨⟨_, rfl, gL, cl, zz, rfl, Nat.le_trans hS.size hg, hcl, hw⟩, hb⟩)
  refine' wp_region_sureX (by kernel_rfl) (PostX w2 [(13, 37), (14, 23), (15, 38), (17, 5)] (LayR w2.heap.size m.frames.length (m.frames.set fr (putF ff pl zz)) 14)) 19 [some _, some _, some _, some _, some _, some _, some _, some _, some _, some _, some _, some _, some _, none, none, none, some _, none, some _] [some 24, some 25, some 26, some 27, some 28, some 29, some 30, some 31, some 32, some 33, some 34, some 35, some 36, some 37, some 23, some 38, some 39, some 5, some 6] (by kernel_rfl) (by kernel_rfl) (by kernel_rfl) (by kernel_rfl) rfl (PostX.init (Below.refl _ _).drew) ?hs1
  case hs1 =>
    refine sureX_cons ?_ ?_
    · intro L ac W K hLi hed hJ hX hK
      have hS := hX.1
      have hA0 : ac.eval (.tmp 0) = .pointer (some ⟨kb, 0, none⟩) := hJ.eval_old 0 (by kernel_rfl)
      have hsz := Lib.hid hJ.size
      clear hLi hed hJ
      refine opStep_of rfl ?_
      unfold Oper.wp execOp
      have hN0 := evalN hA0
      go_simp
      refine hK _ _ ?_ (hX.step LayR.stays (Below.refl _ _) rfl rfl)
      exact Knows.known _
    refine sureX_cons ?_ ?_
    · intro L ac W K hLi hed hJ hX hK
      have hS := hX.1
      have hn := needs_spec (l := [0]) (by kernel_rfl) hed
      have hA24 := hJ.eval 0 (d := 24) (hn 0 (by simp)) rfl rfl rfl
      have hsz := Lib.hid hJ.size
      clear hLi hed hJ hn
      refine opStep_of rfl ?_
      unfold Oper.wp execOp
      have hN24 := evalN hA24
      go_simp
      refine hK _ _ ?_ (hX.step LayR.stays (Below.refl _ _) rfl rfl)
      exact Knows.known _
    refine sureX_cons ?_ ?_
    · intro L ac W K hLi hed hJ hX hK
      have hS := hX.1
      have hn := needs_spec (l := [1]) (by kernel_rfl) hed
      have hA25 := hJ.eval 1 (d := 25) (hn 1 (by simp)) rfl rfl rfl
      have hsz := Lib.hid hJ.size
      clear hLi hed hJ hn
      refine opStep_of rfl ?_
      unfold Oper.wp execOp
      have hN25 := evalN hA25
      go_simp
      refine hK _ _ ?_ (hX.step LayR.stays (Below.refl _ _) rfl rfl)
      exact Knows.known _
    refine sureX_cons ?_ ?_
    · intro L ac W K hLi hed hJ hX hK
      have hS := hX.1
      have hn := needs_spec (l := [2]) (by kernel_rfl) hed
      have hA26 := hJ.eval 2 (d := 26) (hn 2 (by simp)) rfl rfl rfl
      have hsz := Lib.hid hJ.size
      clear hLi hed hJ hn
      refine opStep_of rfl ?_
      unfold Oper.wp execOp
      have hN26 := evalN hA26
      go_simp
      refine hK _ _ ?_ (hX.step LayR.stays (Below.refl _ _) rfl rfl)
      exact Knows.known _
    refine sureX_cons ?_ ?_
    · intro L ac W K hLi hed hJ hX hK
      have hS := hX.1
      have hn := needs_spec (l := [3]) (by kernel_rfl) hed
      have hA27 := hJ.eval 3 (d := 27) (hn 3 (by simp)) rfl rfl rfl
      have hsz := Lib.hid hJ.size
      clear hLi hed hJ hn
      refine opStep_of rfl ?_
      have cc := H4.out W hS
      unfold Oper.wp execOp
      have hN27 := evalN hA27
      go_simp
      refine hK _ _ ?_ (hX.step LayR.stays (Below.refl _ _) rfl rfl)
      exact Knows.known _
    refine sureX_cons ?_ ?_
    · intro L ac W K hLi hed hJ hX hK
      have hS := hX.1
      have hA0 : ac.eval (.tmp 0) = .pointer (some ⟨kb, 0, none⟩) := hJ.eval_old 0 (by kernel_rfl)
      have hsz := Lib.hid hJ.size
      clear hLi hed hJ
      refine opStep_of rfl ?_
      unfold Oper.wp execOp
      have hN0 := evalN hA0
      go_simp
      refine hK _ _ ?_ (hX.step LayR.stays (Below.refl _ _) rfl rfl)
      exact Knows.known _
    refine sureX_cons ?_ ?_
    · intro L ac W K hLi hed hJ hX hK
      have hS := hX.1
      have hn := needs_spec (l := [5]) (by kernel_rfl) hed
      have hA29 := hJ.eval 5 (d := 29) (hn 5 (by simp)) rfl rfl rfl
      have hsz := Lib.hid hJ.size
      clear hLi hed hJ hn
      refine opStep_of rfl ?_
      unfold Oper.wp execOp
      have hN29 := evalN hA29
      go_simp
      refine (CX.out W hS).mono ?_
      rintro e W' ⟨rfl, hb⟩
      have hX2 := hX.step (i := 6) (d := some 30) (v := .pointer (some ⟨pb, 0, none⟩)) LayR.stays hb rfl rfl
      dsimp only
      refine hK _ W' ?_ hX2
      exact Knows.known _
    refine sureX_cons ?_ ?_
    · intro L ac W K hLi hed hJ hX hK
      have hS := hX.1
      have hn := needs_spec (l := [6]) (by kernel_rfl) hed
      have hA30 := hJ.eval 6 (d := 30) (hn 6 (by simp)) rfl rfl rfl
      have hsz := Lib.hid hJ.size
      clear hLi hed hJ hn
      refine opStep_of rfl ?_
      unfold Oper.wp execOp
      have hN30 := evalN hA30
      go_simp
      refine hK _ _ ?_ (hX.step LayR.stays (Below.refl _ _) rfl rfl)
      exact Knows.known _
    refine sureX_cons ?_ ?_
    · intro L ac W K hLi hed hJ hX hK
      have hS := hX.1
      have hn := needs_spec (l := [7]) (by kernel_rfl) hed
      have hA31 := hJ.eval 7 (d := 31) (hn 7 (by simp)) rfl rfl rfl
      have hsz := Lib.hid hJ.size
      clear hLi hed hJ hn
      refine opStep_of rfl ?_
      unfold Oper.wp execOp
      have hN31 := evalN hA31
      go_simp
      refine hK _ _ ?_ (hX.step LayR.stays (Below.refl _ _) rfl rfl)
      exact Knows.known _
    refine sureX_cons ?_ ?_
    · intro L ac W K hLi hed hJ hX hK
      have hS := hX.1
      have hn := needs_spec (l := [8]) (by kernel_rfl) hed
      have hA32 := hJ.eval 8 (d := 32) (hn 8 (by simp)) rfl rfl rfl
      have hsz := Lib.hid hJ.size
      clear hLi hed hJ hn
      refine opStep_of rfl ?_
      refine oper_load_at 42 (.tmp 32) rfl ⟨pb, 20, none⟩ hA32 (pgCells p.space) _ (HL.out W hS) Tryz.underlying42 rfl MI.out ?_
      refine hK _ _ ?_ (hX.step LayR.stays (Below.refl _ _) rfl rfl)
      exact Knows.known _
    refine sureX_cons ?_ ?_
    · intro L ac W K hLi hed hJ hX hK
      have hS := hX.1
      have hA4 : ac.eval (.tmp 4) = .int .u32 (ad : Int) := hJ.eval_old 4 (by kernel_rfl)
      have hsz := Lib.hid hJ.size
      clear hLi hed hJ
      refine opStep_of rfl ?_
      unfold Oper.wp execOp
      have hN4 := evalN hA4
      go_simp
      refine hK _ _ ?_ (hX.step LayR.stays (Below.refl _ _) rfl rfl)
      exact Knows.known _
    refine sureX_cons ?_ ?_
    · intro L ac W K hLi hed hJ hX hK
      have hS := hX.1
      have hA3 : ac.eval (.tmp 3) = .int .i64 (n : Int) := hJ.eval_old 3 (by kernel_rfl)
      have hsz := Lib.hid hJ.size
      clear hLi hed hJ
      refine opStep_of rfl ?_
      unfold Oper.wp execOp
      have hN3 := evalN hA3
      go_simp
      refine hK _ _ ?_ (hX.step LayR.stays (Below.refl _ _) rfl rfl)
      exact Knows.known _
    refine sureX_cons ?_ ?_
    · intro L ac W K hLi hed hJ hX hK
      have hS := hX.1
      have hn := needs_spec (l := [11]) (by kernel_rfl) hed
      have hA35 := hJ.eval 11 (d := 35) (hn 11 (by simp)) rfl rfl rfl
      have hsz := Lib.hid hJ.size
      clear hLi hed hJ hn
      refine opStep_of rfl ?_
      unfold Oper.wp execOp
      have hN35 := evalN hA35
      go_simp
      refine (CR.out W).mono ?_
      rintro e W' ⟨rfl, hb⟩
      have hX2 := hX.step (i := 12) (d := some 36) (v := S zz) LayR.stays hb rfl rfl
      dsimp only
      refine hK _ W' ?_ hX2
      exact Knows.known _
    refine sureX_cons ?_ ?_
    · intro L ac W K hLi hed hJ hX hK
      have hS := hX.1
      have hn := needs_spec (l := [4, 9, 10, 12]) (by kernel_rfl) hed
      have hA28 := hJ.eval 4 (d := 28) (hn 4 (by simp)) rfl rfl rfl
      have hA33 := hJ.eval 9 (d := 33) (hn 9 (by simp)) rfl rfl rfl
      have hA34 := hJ.eval 10 (d := 34) (hn 10 (by simp)) rfl rfl rfl
      have hA36 := hJ.eval 12 (d := 36) (hn 12 (by simp)) rfl rfl rfl
      have hsz := Lib.hid hJ.size
      clear hLi hed hJ hn
      refine opStep_of rfl ?_
      unfold Oper.wp execOp
      have hN28 := evalN hA28
      have hN33 := evalN hA33
      have hN34 := evalN hA34
      have hN36 := evalN hA36
      go_simp
      refine (CC.out W hS).mono ?_
      rintro e W' ⟨⟨v, rfl, hv⟩, hb⟩
      have hX2 := hX.made (j := 13) (s := 37) LayR.stays hb rfl (by rw [hsz.out]; exact of_decide_eq_true rfl) hv
      dsimp only
      refine hK _ W' ?_ hX2
      exact Knows.free _
    refine sureX_cons ?_ ?_
    · intro L ac W K hLi hed hJ hX hK
      have hS := hX.1
      have hn := needs_spec (l := [13]) (by kernel_rfl) hed
      have hF37 := hX.2 (13, 37) (by simp) (hn 13 (by simp))
      have hsz := Lib.hid hJ.size
      clear hLi hed hJ hn
      refine opStep_of rfl ?_
      obtain ⟨gL, cl, zz, hv, hz⟩ := hF37
      have hA37 : ac.eval (.tmp 37) = .tuple #[.slice (some ⟨gL, 0, none⟩) m.frames.length cl, .bool true] := hv
      unfold Oper.wp execOp
      have hN37 := evalN hA37
      go_simp
      have hX2 := hX.made (j := 14) (s := 23) LayR.stays (Below.refl _ _) rfl (by rw [hsz.out]; exact of_decide_eq_true rfl) ⟨gL, cl, zz, rfl, hz⟩
      refine hK _ W ?_ hX2
      exact Knows.free _
    refine sureX_cons ?_ ?_
    · intro L ac W K hLi hed hJ hX hK
      have hS := hX.1
      have hn := needs_spec (l := [14]) (by kernel_rfl) hed
      have hF23 := hX.2 (14, 23) (by simp) (hn 14 (by simp))
      have hsz := Lib.hid hJ.size
      clear hLi hed hJ hn
      refine opStep_of rfl ?_
      obtain ⟨gL, cl, zz, hv, hz⟩ := hF23
      have hA23 : ac.eval (.tmp 23) = .tuple #[.slice (some ⟨gL, 0, none⟩) m.frames.length cl, .bool true] := hv
      unfold Oper.wp execOp
      have hN23 := evalN hA23
      go_simp
      have hX2 := hX.made (j := 15) (s := 38) LayR.stays (Below.refl _ _) rfl (by rw [hsz.out]; exact of_decide_eq_true rfl) ⟨gL, cl, zz, rfl, hz⟩
      refine hK _ W ?_ hX2
      exact Knows.free _
    refine sureX_cons ?_ ?_
    · intro L ac W K hLi hed hJ hX hK
      have hS := hX.1
      have hn := needs_spec (l := [14]) (by kernel_rfl) hed
      have hF23 := hX.2 (14, 23) (by simp) (hn 14 (by simp))
      have hsz := Lib.hid hJ.size
      clear hLi hed hJ hn
      refine opStep_of rfl ?_
      obtain ⟨gL, cl, zz, hv, hz⟩ := hF23
      have hA23 : ac.eval (.tmp 23) = .tuple #[.slice (some ⟨gL, 0, none⟩) m.frames.length cl, .bool true] := hv
      unfold Oper.wp execOp
      have hN23 := evalN hA23
      go_simp
      refine hK _ _ ?_ (hX.step LayR.stays (Below.refl _ _) rfl rfl)
      exact Knows.known _
    refine sureX_cons ?_ ?_
    · intro L ac W K hLi hed hJ hX hK
      have hS := hX.1
      have hn := needs_spec (l := [15]) (by kernel_rfl) hed
      have hF38 := hX.2 (15, 38) (by simp) (hn 15 (by simp))
      have hsz := Lib.hid hJ.size
      clear hLi hed hJ hn
      refine opStep_of rfl ?_
      obtain ⟨gL, cl, zz, hv, hz⟩ := hF38
      have hA38 : ac.eval (.tmp 38) = .slice (some ⟨gL, 0, none⟩) m.frames.length cl := hv
      unfold Oper.wp execOp
      have hN38 := evalN hA38
      go_simp
      have hX2 := hX.made (j := 17) (s := 5) LayR.stays (Below.refl _ _) rfl (by rw [hsz.out]; exact of_decide_eq_true rfl) ⟨gL, cl, zz, rfl, hz⟩
      refine hK _ W ?_ hX2
      exact Knows.free _
    refine sureX_cons ?_ ?_
    · intro L ac W K hLi hed hJ hX hK
      have hS := hX.1
      have hn := needs_spec (l := [16]) (by kernel_rfl) hed
      have hA39 := hJ.eval 16 (d := 39) (hn 16 (by simp)) rfl rfl rfl
      have hsz := Lib.hid hJ.size
      clear hLi hed hJ hn
      refine opStep_of rfl ?_
      unfold Oper.wp execOp
      have hN39 := evalN hA39
      go_simp
      refine hK _ _ ?_ (hX.step LayR.stays (Below.refl _ _) rfl rfl)
      exact Knows.known _
    refine sureX_nil ?_
    intro L ac W hL hX ha
    have hS := hX.1
    have hF37 := hX.2 (13, 37) (by simp) (hL 13 (by omega))
    have hF23 := hX.2 (14, 23) (by simp) (hL 14 (by omega))
    have hF38 := hX.2 (15, 38) (by simp) (hL 15 (by omega))
    have hF5 := hX.2 (17, 5) (by simp) (hL 17 (by omega))
    rw [ha]
    simp only [mendAll, Option.getD_some, Option.getD_none, Option.map_some, putAll, Act.put, List.setIfInBounds_toArray, List.set_cons_zero, List.set_cons_succ]
    change ((LayR w2.heap.size m.frames.length (m.frames.set fr (putF ff pl zz)) 14)) 13 (ac.tmps.getD 37 undef) W at hF37
    generalize ac.tmps.getD 37 undef = us37 at *
    change ((LayR w2.heap.size m.frames.length (m.frames.set fr (putF ff pl zz)) 14)) 14 (ac.tmps.getD 23 undef) W at hF23
    generalize ac.tmps.getD 23 undef = us23 at *
    change ((LayR w2.heap.size m.frames.length (m.frames.set fr (putF ff pl zz)) 14)) 15 (ac.tmps.getD 38 undef) W at hF38
    generalize ac.tmps.getD 38 undef = us38 at *
    change ((LayR w2.heap.size m.frames.length (m.frames.set fr (putF ff pl zz)) 14)) 17 (ac.tmps.getD 5 undef) W at hF5
    generalize ac.tmps.getD 5 undef = us5 at *
    clear ha hX hL
    have HK3 := Lib.hid (HK2.out.below hS)
    have HB3 := Lib.hid (HB2.out.trans (hS.mono HB2.out.size))
    clear hS hF37 hF23 hF38 hF5 CC CX H4 HL MI CR HK2 HB2
    go_wp2_with fail
    refine (HN.out _ _ _).mono ?_
    rintro e w4 ⟨rfl, rfl⟩
    have d0 : ((n : Int) == 0) = false := beq_eq_false_iff_ne.2 (by omega)
    have d0' : (n == 0) = false := beq_eq_false_iff_ne.2 (by omega)
    have c0 : w4.cell? ⟨pb, 68 + k * 3, none⟩ = some (.int .i64 1) := by rw [← Nat.add_zero (68 + k * 3), ← HFK.out]; exact HK3.out.fdc HF.out (j := 0) (by decide) rfl
    have CE := Lib.hid (readInput_any HK3.out (ad : Int) (n : Int) HIN.out.1 HIN.out.2.1 HIN.out.2.2)
    go_wp2_with fail
    refine CE.out.mono ?_
    rintro e w5 ⟨rfl, hk, hb⟩
    have HK5 := Lib.hid hk
    have HB5 := Lib.hid ((HB3.out.mono HBK.out).trans hb)
    clear hk hb CE c0
    go_wp2_with fail
    refine bodyPost_end (v := .tuple #[]) (by simp [results, Tryz.results34, go_sem]) rfl ?_
    exact ⟨rfl, ⟨_, _, _, _, _, HK5.out⟩, HB5.out⟩
set_option maxRecDepth 100000 in
set_option maxHeartbeats 4000000 in
theorem read_pipe {w : World} {B kb : Nat} {a : MA} {m : Mc} {p : Pr} {pb : Nat} {z : List Value} {a0 : MA} {m0 : Mc} {k ad n : Nat} {tl : List UInt8} (h : KS w B kb a m p pb z a0 m0 (k : Int) (ad : Int) (n : Int) tl) (hk : k < 8) (hn : 0 < n) (hn2 : n ≤ 128) (f : Fl) (hf : p.fds[k]? = some f) (hfk : f.kind = 4) (fr pl : Nat) (ff : List UInt8) (hs : Spot p.space m.frames ad n fr pl ff) (q : Nb) (hfn : f.n = q.1) (hq : m.pipes = [q]) (hne : q.2 ≠ []) (hqn : q.2.length ≤ n) :
    Calls Tryz.prog 34 #[.pointer (some ⟨kb, 0, none⟩)] w fun e w' => e = .returned (.tuple #[]) ∧ KE w' B kb { m with pipes := [(q.1, [])], frames := m.frames.set fr (putF ff pl q.2), procs := [p.reg 1 q.2.length] } (p.reg 1 q.2.length) (k : Int) (ad : Int) (n : Int) tl ∧ Below B w w' := by
  have HBK : Hid (B ≤ w.heap.size) := Lib.hid (by have := h.hB; have := h.kl; omega)
  have CH := Lib.hid (handed_any h hk hn2 f hf (by rw [hfk]; decide))
  have HK := Lib.hid h
  have HF := Lib.hid hf
  have HFK := Lib.hid hfk
  have HN := Lib.hid (fun W v c => need_any W v c)
  have HS := Lib.hid hs
  have HN0 : Hid (0 < (List.replicate n (0 : UInt8)).length) := Lib.hid (by rw [List.length_replicate]; exact hn)
  have HNL : Hid ((List.replicate n (0 : UInt8)).length = n) := Lib.hid List.length_replicate
  have CR : Hid (∀ W, Calls Tryz.prog 29 #[S [0], .int .i64 (n : Int)] W fun e w' => e = .returned (S (List.replicate n 0)) ∧ Below W.heap.size W w') := Lib.hid (repeatZ n hn2)
  generalize List.replicate n (0 : UInt8) = zz at *
  have HFN := Lib.hid hfn
  have HQ := Lib.hid hq
  have HNE := Lib.hid hne
  have HQN := Lib.hid hqn
  have HS2 := Lib.hid (hs.short hqn)
  clear hne hqn
  clear h hf hfk hs hfn hq
  go_enter Tryz.func34, Tryz.ntmps34
  go_wp2_with fail
  refine CH.out.mono ?_
  rintro e w1 ⟨rfl, hb⟩
  have HK1 := Lib.hid ((HK.out.below hb).below ((Below.refl w1.heap.size w1).alloc (Nat.le_refl _) (.cells #[Value.int .i64 1, Value.int .i64 3, Value.int .i64 4] 3)))
  have HB1 := Lib.hid (hb.alloc hb.size (.cells #[Value.int .i64 1, Value.int .i64 3, Value.int .i64 4] 3))
  have CKK := Lib.hid (kind_any (w1.alloc (.cells #[Value.int .i64 1, Value.int .i64 3, Value.int .i64 4] 3)) (some ⟨w1.heap.size, 0, none⟩) 3 [1, 3, 4] (lies_three w1 1 3 4) (by simp) f (by rw [HFK.out]; simp) (.pointer (some ⟨kb, 0, none⟩)) pb (68 + k * 3) (by rw [← Nat.add_zero (68 + k * 3)]; exact HK1.out.fdc HF.out (j := 0) (by decide) rfl))
  clear hb CH HK
  go_wp2_with fail
  refine CKK.out.mono ?_
  rintro e w2 ⟨rfl, hb⟩
  have HK2 := Lib.hid (HK1.out.below hb)
  have HB2 := Lib.hid (HB1.out.trans (hb.mono HB1.out.size))
  have c36 : w2.cell? ⟨kb, 36, none⟩ = some (.int .u32 (ad : Int)) := HK2.out.ker.cell 36
  clear hb CKK HK1 HB1
  go_upto_region 3 with (fail)
  clear c36
  have CX : Hid (∀ W, Below w2.heap.size w2 W → Calls Tryz.prog 32 #[.pointer (some ⟨kb, 0, none⟩)] W fun e w' => e = .returned (.pointer (some ⟨pb, 0, none⟩)) ∧ Below W.heap.size W w') := Lib.hid fun W hS => caller_any (HK2.out.below hS)
  have H4 : Hid (∀ W, Below w2.heap.size w2 W → W.cell? ⟨kb, 4, none⟩ = some (.slice a.F m.frames.length a.cF)) := Lib.hid fun W hS => (HK2.out.below hS).ker.cell 4
  have HL : Hid (∀ W, Below w2.heap.size w2 W → ∀ j v, (pgCells p.space)[j]? = some v → W.cell? ((⟨pb, 20, none⟩ : Addr).add j) = some v) := Lib.hid fun W hS => (HK2.out.below hS).space
  have MI : Hid ((Tryz.prog.info? 42).map (·.size) = some (pgCells p.space).length) := Lib.hid (by rw [pgCells_length, HK2.out.good.ok.space]; exact Tryz.sizeSpace)
  have CC : Hid (∀ W, Below w2.heap.size w2 W → Calls Tryz.prog 68 #[.slice a.F m.frames.length a.cF, .agg (pgCells p.space).toArray, .int .u32 (ad : Int), S zz] W fun e w' => (∃ v, e = .returned v ∧ LayR w2.heap.size m.frames.length (m.frames.set fr (putF ff pl zz)) 14 13 v w') ∧ Below W.heap.size W w') := Lib.hid fun W hS => (mlay_any W a.F a.cF p.space m.frames ad fr pl ff zz (by rw [HNL.out]; exact HS.out) HN0.out (HK2.out.below hS).strs).mono (by
    rintro e w2 ⟨⟨gL, cl, zz, rfl, hg, hcl, hw⟩, hb⟩
    exact ⟨⟨_, rfl, gL, cl, zz, rfl, Nat.le_trans hS.size hg, hcl, hw⟩, hb⟩)
  refine' wp_region_sureX (by kernel_rfl) (PostX w2 [(13, 37), (14, 23), (15, 38), (17, 5)] (LayR w2.heap.size m.frames.length (m.frames.set fr (putF ff pl zz)) 14)) 19 [some _, some _, some _, some _, some _, some _, some _, some _, some _, some _, some _, some _, some _, none, none, none, some _, none, some _] [some 24, some 25, some 26, some 27, some 28, some 29, some 30, some 31, some 32, some 33, some 34, some 35, some 36, some 37, some 23, some 38, some 39, some 5, some 6] (by kernel_rfl) (by kernel_rfl) (by kernel_rfl) (by kernel_rfl) rfl (PostX.init (Below.refl _ _).drew) ?hs1
  case hs1 =>
    refine sureX_cons ?_ ?_
    · intro L ac W K hLi hed hJ hX hK
      have hS := hX.1
      have hA0 : ac.eval (.tmp 0) = .pointer (some ⟨kb, 0, none⟩) := hJ.eval_old 0 (by kernel_rfl)
      have hsz := Lib.hid hJ.size
      clear hLi hed hJ
      refine opStep_of rfl ?_
      unfold Oper.wp execOp
      have hN0 := evalN hA0
      go_simp
      refine hK _ _ ?_ (hX.step LayR.stays (Below.refl _ _) rfl rfl)
      exact Knows.known _
    refine sureX_cons ?_ ?_
    · intro L ac W K hLi hed hJ hX hK
      have hS := hX.1
      have hn := needs_spec (l := [0]) (by kernel_rfl) hed
      have hA24 := hJ.eval 0 (d := 24) (hn 0 (by simp)) rfl rfl rfl
      have hsz := Lib.hid hJ.size
      clear hLi hed hJ hn
      refine opStep_of rfl ?_
      unfold Oper.wp execOp
      have hN24 := evalN hA24
      go_simp
      refine hK _ _ ?_ (hX.step LayR.stays (Below.refl _ _) rfl rfl)
      exact Knows.known _
    refine sureX_cons ?_ ?_
    · intro L ac W K hLi hed hJ hX hK
      have hS := hX.1
      have hn := needs_spec (l := [1]) (by kernel_rfl) hed
      have hA25 := hJ.eval 1 (d := 25) (hn 1 (by simp)) rfl rfl rfl
      have hsz := Lib.hid hJ.size
      clear hLi hed hJ hn
      refine opStep_of rfl ?_
      unfold Oper.wp execOp
      have hN25 := evalN hA25
      go_simp
      refine hK _ _ ?_ (hX.step LayR.stays (Below.refl _ _) rfl rfl)
      exact Knows.known _
    refine sureX_cons ?_ ?_
    · intro L ac W K hLi hed hJ hX hK
      have hS := hX.1
      have hn := needs_spec (l := [2]) (by kernel_rfl) hed
      have hA26 := hJ.eval 2 (d := 26) (hn 2 (by simp)) rfl rfl rfl
      have hsz := Lib.hid hJ.size
      clear hLi hed hJ hn
      refine opStep_of rfl ?_
      unfold Oper.wp execOp
      have hN26 := evalN hA26
      go_simp
      refine hK _ _ ?_ (hX.step LayR.stays (Below.refl _ _) rfl rfl)
      exact Knows.known _
    refine sureX_cons ?_ ?_
    · intro L ac W K hLi hed hJ hX hK
      have hS := hX.1
      have hn := needs_spec (l := [3]) (by kernel_rfl) hed
      have hA27 := hJ.eval 3 (d := 27) (hn 3 (by simp)) rfl rfl rfl
      have hsz := Lib.hid hJ.size
      clear hLi hed hJ hn
      refine opStep_of rfl ?_
      have cc := H4.out W hS
      unfold Oper.wp execOp
      have hN27 := evalN hA27
      go_simp
      refine hK _ _ ?_ (hX.step LayR.stays (Below.refl _ _) rfl rfl)
      exact Knows.known _
    refine sureX_cons ?_ ?_
    · intro L ac W K hLi hed hJ hX hK
      have hS := hX.1
      have hA0 : ac.eval (.tmp 0) = .pointer (some ⟨kb, 0, none⟩) := hJ.eval_old 0 (by kernel_rfl)
      have hsz := Lib.hid hJ.size
      clear hLi hed hJ
      refine opStep_of rfl ?_
      unfold Oper.wp execOp
      have hN0 := evalN hA0
      go_simp
      refine hK _ _ ?_ (hX.step LayR.stays (Below.refl _ _) rfl rfl)
      exact Knows.known _
    refine sureX_cons ?_ ?_
    · intro L ac W K hLi hed hJ hX hK
      have hS := hX.1
      have hn := needs_spec (l := [5]) (by kernel_rfl) hed
      have hA29 := hJ.eval 5 (d := 29) (hn 5 (by simp)) rfl rfl rfl
      have hsz := Lib.hid hJ.size
      clear hLi hed hJ hn
      refine opStep_of rfl ?_
      unfold Oper.wp execOp
      have hN29 := evalN hA29
      go_simp
      refine (CX.out W hS).mono ?_
      rintro e W' ⟨rfl, hb⟩
      have hX2 := hX.step (i := 6) (d := some 30) (v := .pointer (some ⟨pb, 0, none⟩)) LayR.stays hb rfl rfl
      dsimp only
      refine hK _ W' ?_ hX2
      exact Knows.known _
    refine sureX_cons ?_ ?_
    · intro L ac W K hLi hed hJ hX hK
      have hS := hX.1
      have hn := needs_spec (l := [6]) (by kernel_rfl) hed
      have hA30 := hJ.eval 6 (d := 30) (hn 6 (by simp)) rfl rfl rfl
      have hsz := Lib.hid hJ.size
      clear hLi hed hJ hn
      refine opStep_of rfl ?_
      unfold Oper.wp execOp
      have hN30 := evalN hA30
      go_simp
      refine hK _ _ ?_ (hX.step LayR.stays (Below.refl _ _) rfl rfl)
      exact Knows.known _
    refine sureX_cons ?_ ?_
    · intro L ac W K hLi hed hJ hX hK
      have hS := hX.1
      have hn := needs_spec (l := [7]) (by kernel_rfl) hed
      have hA31 := hJ.eval 7 (d := 31) (hn 7 (by simp)) rfl rfl rfl
      have hsz := Lib.hid hJ.size
      clear hLi hed hJ hn
      refine opStep_of rfl ?_
      unfold Oper.wp execOp
      have hN31 := evalN hA31
      go_simp
      refine hK _ _ ?_ (hX.step LayR.stays (Below.refl _ _) rfl rfl)
      exact Knows.known _
    refine sureX_cons ?_ ?_
    · intro L ac W K hLi hed hJ hX hK
      have hS := hX.1
      have hn := needs_spec (l := [8]) (by kernel_rfl) hed
      have hA32 := hJ.eval 8 (d := 32) (hn 8 (by simp)) rfl rfl rfl
      have hsz := Lib.hid hJ.size
      clear hLi hed hJ hn
      refine opStep_of rfl ?_
      refine oper_load_at 42 (.tmp 32) rfl ⟨pb, 20, none⟩ hA32 (pgCells p.space) _ (HL.out W hS) Tryz.underlying42 rfl MI.out ?_
      refine hK _ _ ?_ (hX.step LayR.stays (Below.refl _ _) rfl rfl)
      exact Knows.known _
    refine sureX_cons ?_ ?_
    · intro L ac W K hLi hed hJ hX hK
      have hS := hX.1
      have hA4 : ac.eval (.tmp 4) = .int .u32 (ad : Int) := hJ.eval_old 4 (by kernel_rfl)
      have hsz := Lib.hid hJ.size
      clear hLi hed hJ
      refine opStep_of rfl ?_
      unfold Oper.wp execOp
      have hN4 := evalN hA4
      go_simp
      refine hK _ _ ?_ (hX.step LayR.stays (Below.refl _ _) rfl rfl)
      exact Knows.known _
    refine sureX_cons ?_ ?_
    · intro L ac W K hLi hed hJ hX hK
      have hS := hX.1
      have hA3 : ac.eval (.tmp 3) = .int .i64 (n : Int) := hJ.eval_old 3 (by kernel_rfl)
      have hsz := Lib.hid hJ.size
      clear hLi hed hJ
      refine opStep_of rfl ?_
      unfold Oper.wp execOp
      have hN3 := evalN hA3
      go_simp
      refine hK _ _ ?_ (hX.step LayR.stays (Below.refl _ _) rfl rfl)
      exact Knows.known _
    refine sureX_cons ?_ ?_
    · intro L ac W K hLi hed hJ hX hK
      have hS := hX.1
      have hn := needs_spec (l := [11]) (by kernel_rfl) hed
      have hA35 := hJ.eval 11 (d := 35) (hn 11 (by simp)) rfl rfl rfl
      have hsz := Lib.hid hJ.size
      clear hLi hed hJ hn
      refine opStep_of rfl ?_
      unfold Oper.wp execOp
      have hN35 := evalN hA35
      go_simp
      refine (CR.out W).mono ?_
      rintro e W' ⟨rfl, hb⟩
      have hX2 := hX.step (i := 12) (d := some 36) (v := S zz) LayR.stays hb rfl rfl
      dsimp only
      refine hK _ W' ?_ hX2
      exact Knows.known _
    refine sureX_cons ?_ ?_
    · intro L ac W K hLi hed hJ hX hK
      have hS := hX.1
      have hn := needs_spec (l := [4, 9, 10, 12]) (by kernel_rfl) hed
      have hA28 := hJ.eval 4 (d := 28) (hn 4 (by simp)) rfl rfl rfl
      have hA33 := hJ.eval 9 (d := 33) (hn 9 (by simp)) rfl rfl rfl
      have hA34 := hJ.eval 10 (d := 34) (hn 10 (by simp)) rfl rfl rfl
      have hA36 := hJ.eval 12 (d := 36) (hn 12 (by simp)) rfl rfl rfl
      have hsz := Lib.hid hJ.size
      clear hLi hed hJ hn
      refine opStep_of rfl ?_
      unfold Oper.wp execOp
      have hN28 := evalN hA28
      have hN33 := evalN hA33
      have hN34 := evalN hA34
      have hN36 := evalN hA36
      go_simp
      refine (CC.out W hS).mono ?_
      rintro e W' ⟨⟨v, rfl, hv⟩, hb⟩
      have hX2 := hX.made (j := 13) (s := 37) LayR.stays hb rfl (by rw [hsz.out]; exact of_decide_eq_true rfl) hv
      dsimp only
      refine hK _ W' ?_ hX2
      exact Knows.free _
    refine sureX_cons ?_ ?_
    · intro L ac W K hLi hed hJ hX hK
      have hS := hX.1
      have hn := needs_spec (l := [13]) (by kernel_rfl) hed
      have hF37 := hX.2 (13, 37) (by simp) (hn 13 (by simp))
      have hsz := Lib.hid hJ.size
      clear hLi hed hJ hn
      refine opStep_of rfl ?_
      obtain ⟨gL, cl, zz, hv, hz⟩ := hF37
      have hA37 : ac.eval (.tmp 37) = .tuple #[.slice (some ⟨gL, 0, none⟩) m.frames.length cl, .bool true] := hv
      unfold Oper.wp execOp
      have hN37 := evalN hA37
      go_simp
      have hX2 := hX.made (j := 14) (s := 23) LayR.stays (Below.refl _ _) rfl (by rw [hsz.out]; exact of_decide_eq_true rfl) ⟨gL, cl, zz, rfl, hz⟩
      refine hK _ W ?_ hX2
      exact Knows.free _
    refine sureX_cons ?_ ?_
    · intro L ac W K hLi hed hJ hX hK
      have hS := hX.1
      have hn := needs_spec (l := [14]) (by kernel_rfl) hed
      have hF23 := hX.2 (14, 23) (by simp) (hn 14 (by simp))
      have hsz := Lib.hid hJ.size
      clear hLi hed hJ hn
      refine opStep_of rfl ?_
      obtain ⟨gL, cl, zz, hv, hz⟩ := hF23
      have hA23 : ac.eval (.tmp 23) = .tuple #[.slice (some ⟨gL, 0, none⟩) m.frames.length cl, .bool true] := hv
      unfold Oper.wp execOp
      have hN23 := evalN hA23
      go_simp
      have hX2 := hX.made (j := 15) (s := 38) LayR.stays (Below.refl _ _) rfl (by rw [hsz.out]; exact of_decide_eq_true rfl) ⟨gL, cl, zz, rfl, hz⟩
      refine hK _ W ?_ hX2
      exact Knows.free _
    refine sureX_cons ?_ ?_
    · intro L ac W K hLi hed hJ hX hK
      have hS := hX.1
      have hn := needs_spec (l := [14]) (by kernel_rfl) hed
      have hF23 := hX.2 (14, 23) (by simp) (hn 14 (by simp))
      have hsz := Lib.hid hJ.size
      clear hLi hed hJ hn
      refine opStep_of rfl ?_
      obtain ⟨gL, cl, zz, hv, hz⟩ := hF23
      have hA23 : ac.eval (.tmp 23) = .tuple #[.slice (some ⟨gL, 0, none⟩) m.frames.length cl, .bool true] := hv
      unfold Oper.wp execOp
      have hN23 := evalN hA23
      go_simp
      refine hK _ _ ?_ (hX.step LayR.stays (Below.refl _ _) rfl rfl)
      exact Knows.known _
    refine sureX_cons ?_ ?_
    · intro L ac W K hLi hed hJ hX hK
      have hS := hX.1
      have hn := needs_spec (l := [15]) (by kernel_rfl) hed
      have hF38 := hX.2 (15, 38) (by simp) (hn 15 (by simp))
      have hsz := Lib.hid hJ.size
      clear hLi hed hJ hn
      refine opStep_of rfl ?_
      obtain ⟨gL, cl, zz, hv, hz⟩ := hF38
      have hA38 : ac.eval (.tmp 38) = .slice (some ⟨gL, 0, none⟩) m.frames.length cl := hv
      unfold Oper.wp execOp
      have hN38 := evalN hA38
      go_simp
      have hX2 := hX.made (j := 17) (s := 5) LayR.stays (Below.refl _ _) rfl (by rw [hsz.out]; exact of_decide_eq_true rfl) ⟨gL, cl, zz, rfl, hz⟩
      refine hK _ W ?_ hX2
      exact Knows.free _
    refine sureX_cons ?_ ?_
    · intro L ac W K hLi hed hJ hX hK
      have hS := hX.1
      have hn := needs_spec (l := [16]) (by kernel_rfl) hed
      have hA39 := hJ.eval 16 (d := 39) (hn 16 (by simp)) rfl rfl rfl
      have hsz := Lib.hid hJ.size
      clear hLi hed hJ hn
      refine opStep_of rfl ?_
      unfold Oper.wp execOp
      have hN39 := evalN hA39
      go_simp
      refine hK _ _ ?_ (hX.step LayR.stays (Below.refl _ _) rfl rfl)
      exact Knows.known _
    refine sureX_nil ?_
    intro L ac W hL hX ha
    have hS := hX.1
    have hF37 := hX.2 (13, 37) (by simp) (hL 13 (by omega))
    have hF23 := hX.2 (14, 23) (by simp) (hL 14 (by omega))
    have hF38 := hX.2 (15, 38) (by simp) (hL 15 (by omega))
    have hF5 := hX.2 (17, 5) (by simp) (hL 17 (by omega))
    rw [ha]
    simp only [mendAll, Option.getD_some, Option.getD_none, Option.map_some, putAll, Act.put, List.setIfInBounds_toArray, List.set_cons_zero, List.set_cons_succ]
    change ((LayR w2.heap.size m.frames.length (m.frames.set fr (putF ff pl zz)) 14)) 13 (ac.tmps.getD 37 undef) W at hF37
    generalize ac.tmps.getD 37 undef = us37 at *
    change ((LayR w2.heap.size m.frames.length (m.frames.set fr (putF ff pl zz)) 14)) 14 (ac.tmps.getD 23 undef) W at hF23
    generalize ac.tmps.getD 23 undef = us23 at *
    change ((LayR w2.heap.size m.frames.length (m.frames.set fr (putF ff pl zz)) 14)) 15 (ac.tmps.getD 38 undef) W at hF38
    generalize ac.tmps.getD 38 undef = us38 at *
    change ((LayR w2.heap.size m.frames.length (m.frames.set fr (putF ff pl zz)) 14)) 17 (ac.tmps.getD 5 undef) W at hF5
    generalize ac.tmps.getD 5 undef = us5 at *
    clear ha hX hL
    have HK3 := Lib.hid (HK2.out.below hS)
    have HB3 := Lib.hid (HB2.out.trans (hS.mono HB2.out.size))
    clear hS hF37 hF23 hF38 hF5 CC CX H4 HL MI CR HK2 HB2
    go_wp2_with fail
    refine (HN.out _ _ _).mono ?_
    rintro e w4 ⟨rfl, rfl⟩
    have d0 : ((n : Int) == 0) = false := beq_eq_false_iff_ne.2 (by omega)
    have d0' : (n == 0) = false := beq_eq_false_iff_ne.2 (by omega)
    have c0 : w4.cell? ⟨pb, 68 + k * 3, none⟩ = some (.int .i64 4) := by rw [← Nat.add_zero (68 + k * 3), ← HFK.out]; exact HK3.out.fdc HF.out (j := 0) (by decide) rfl
    have c1 : w4.cell? ⟨pb, 68 + k * 3 + 1, none⟩ = some (.int .i64 q.1) := by rw [← HFN.out]; exact HK3.out.fdc HF.out (j := 1) (by decide) rfl
    have CE := Lib.hid (readPipe_any HK3.out q HQ.out ad n fr pl ff HNE.out HQN.out hn2 HS2.out)
    go_wp2_with fail
    refine CE.out.mono ?_
    rintro e w5 ⟨rfl, hk, hb⟩
    have HK5 := Lib.hid hk
    have HB5 := Lib.hid ((HB3.out.mono HBK.out).trans hb)
    clear hk hb CE c0 c1
    go_wp2_with fail
    refine bodyPost_end (v := .tuple #[]) (by simp [results, Tryz.results34, go_sem]) rfl ?_
    exact ⟨rfl, HK5.out, HB5.out⟩
set_option maxRecDepth 100000 in
set_option maxHeartbeats 4000000 in
theorem read_end {w : World} {B kb : Nat} {a : MA} {m : Mc} {p : Pr} {pb : Nat} {z : List Value} {a0 : MA} {m0 : Mc} {k ad n : Nat} {tl : List UInt8} (h : KS w B kb a m p pb z a0 m0 (k : Int) (ad : Int) (n : Int) tl) (hk : k < 8) (hn : 0 < n) (hn2 : n ≤ 128) (f : Fl) (hf : p.fds[k]? = some f) (hfk : f.kind = 4) (fr pl : Nat) (ff : List UInt8) (hs : Spot p.space m.frames ad n fr pl ff) (q : Nb) (hfn : f.n = q.1) (hq : m.pipes = [q]) (hne : q.2 = []) (he : endsF p.fds q.1 5 = 0) :
    Calls Tryz.prog 34 #[.pointer (some ⟨kb, 0, none⟩)] w fun e w' => e = .returned (.tuple #[]) ∧ KE w' B kb { m with procs := [p.reg 1 0] } (p.reg 1 0) (k : Int) (ad : Int) (n : Int) tl ∧ Below B w w' := by
  have HBK : Hid (B ≤ w.heap.size) := Lib.hid (by have := h.hB; have := h.kl; omega)
  have CH := Lib.hid (handed_any h hk hn2 f hf (by rw [hfk]; decide))
  have HK := Lib.hid h
  have HF := Lib.hid hf
  have HFK := Lib.hid hfk
  have HN := Lib.hid (fun W v c => need_any W v c)
  have HS := Lib.hid hs
  have HN0 : Hid (0 < (List.replicate n (0 : UInt8)).length) := Lib.hid (by rw [List.length_replicate]; exact hn)
  have HNL : Hid ((List.replicate n (0 : UInt8)).length = n) := Lib.hid List.length_replicate
  have CR : Hid (∀ W, Calls Tryz.prog 29 #[S [0], .int .i64 (n : Int)] W fun e w' => e = .returned (S (List.replicate n 0)) ∧ Below W.heap.size W w') := Lib.hid (repeatZ n hn2)
  generalize List.replicate n (0 : UInt8) = zz at *
  have HFN := Lib.hid hfn
  have HQ := Lib.hid hq
  have HNE := Lib.hid hne
  have HE := Lib.hid he
  clear hne he
  clear h hf hfk hs hfn hq
  go_enter Tryz.func34, Tryz.ntmps34
  go_wp2_with fail
  refine CH.out.mono ?_
  rintro e w1 ⟨rfl, hb⟩
  have HK1 := Lib.hid ((HK.out.below hb).below ((Below.refl w1.heap.size w1).alloc (Nat.le_refl _) (.cells #[Value.int .i64 1, Value.int .i64 3, Value.int .i64 4] 3)))
  have HB1 := Lib.hid (hb.alloc hb.size (.cells #[Value.int .i64 1, Value.int .i64 3, Value.int .i64 4] 3))
  have CKK := Lib.hid (kind_any (w1.alloc (.cells #[Value.int .i64 1, Value.int .i64 3, Value.int .i64 4] 3)) (some ⟨w1.heap.size, 0, none⟩) 3 [1, 3, 4] (lies_three w1 1 3 4) (by simp) f (by rw [HFK.out]; simp) (.pointer (some ⟨kb, 0, none⟩)) pb (68 + k * 3) (by rw [← Nat.add_zero (68 + k * 3)]; exact HK1.out.fdc HF.out (j := 0) (by decide) rfl))
  clear hb CH HK
  go_wp2_with fail
  refine CKK.out.mono ?_
  rintro e w2 ⟨rfl, hb⟩
  have HK2 := Lib.hid (HK1.out.below hb)
  have HB2 := Lib.hid (HB1.out.trans (hb.mono HB1.out.size))
  have c36 : w2.cell? ⟨kb, 36, none⟩ = some (.int .u32 (ad : Int)) := HK2.out.ker.cell 36
  clear hb CKK HK1 HB1
  go_upto_region 3 with (fail)
  clear c36
  have CX : Hid (∀ W, Below w2.heap.size w2 W → Calls Tryz.prog 32 #[.pointer (some ⟨kb, 0, none⟩)] W fun e w' => e = .returned (.pointer (some ⟨pb, 0, none⟩)) ∧ Below W.heap.size W w') := Lib.hid fun W hS => caller_any (HK2.out.below hS)
  have H4 : Hid (∀ W, Below w2.heap.size w2 W → W.cell? ⟨kb, 4, none⟩ = some (.slice a.F m.frames.length a.cF)) := Lib.hid fun W hS => (HK2.out.below hS).ker.cell 4
  have HL : Hid (∀ W, Below w2.heap.size w2 W → ∀ j v, (pgCells p.space)[j]? = some v → W.cell? ((⟨pb, 20, none⟩ : Addr).add j) = some v) := Lib.hid fun W hS => (HK2.out.below hS).space
  have MI : Hid ((Tryz.prog.info? 42).map (·.size) = some (pgCells p.space).length) := Lib.hid (by rw [pgCells_length, HK2.out.good.ok.space]; exact Tryz.sizeSpace)
  have CC : Hid (∀ W, Below w2.heap.size w2 W → Calls Tryz.prog 68 #[.slice a.F m.frames.length a.cF, .agg (pgCells p.space).toArray, .int .u32 (ad : Int), S zz] W fun e w' => (∃ v, e = .returned v ∧ LayR w2.heap.size m.frames.length (m.frames.set fr (putF ff pl zz)) 14 13 v w') ∧ Below W.heap.size W w') := Lib.hid fun W hS => (mlay_any W a.F a.cF p.space m.frames ad fr pl ff zz (by rw [HNL.out]; exact HS.out) HN0.out (HK2.out.below hS).strs).mono (by
    rintro e w2 ⟨⟨gL, cl, zz, rfl, hg, hcl, hw⟩, hb⟩
    exact ⟨⟨_, rfl, gL, cl, zz, rfl, Nat.le_trans hS.size hg, hcl, hw⟩, hb⟩)
  refine' wp_region_sureX (by kernel_rfl) (PostX w2 [(13, 37), (14, 23), (15, 38), (17, 5)] (LayR w2.heap.size m.frames.length (m.frames.set fr (putF ff pl zz)) 14)) 19 [some _, some _, some _, some _, some _, some _, some _, some _, some _, some _, some _, some _, some _, none, none, none, some _, none, some _] [some 24, some 25, some 26, some 27, some 28, some 29, some 30, some 31, some 32, some 33, some 34, some 35, some 36, some 37, some 23, some 38, some 39, some 5, some 6] (by kernel_rfl) (by kernel_rfl) (by kernel_rfl) (by kernel_rfl) rfl (PostX.init (Below.refl _ _).drew) ?hs1
  case hs1 =>
    refine sureX_cons ?_ ?_
    · intro L ac W K hLi hed hJ hX hK
      have hS := hX.1
      have hA0 : ac.eval (.tmp 0) = .pointer (some ⟨kb, 0, none⟩) := hJ.eval_old 0 (by kernel_rfl)
      have hsz := Lib.hid hJ.size
      clear hLi hed hJ
      refine opStep_of rfl ?_
      unfold Oper.wp execOp
      have hN0 := evalN hA0
      go_simp
      refine hK _ _ ?_ (hX.step LayR.stays (Below.refl _ _) rfl rfl)
      exact Knows.known _
    refine sureX_cons ?_ ?_
    · intro L ac W K hLi hed hJ hX hK
      have hS := hX.1
      have hn := needs_spec (l := [0]) (by kernel_rfl) hed
      have hA24 := hJ.eval 0 (d := 24) (hn 0 (by simp)) rfl rfl rfl
      have hsz := Lib.hid hJ.size
      clear hLi hed hJ hn
      refine opStep_of rfl ?_
      unfold Oper.wp execOp
      have hN24 := evalN hA24
      go_simp
      refine hK _ _ ?_ (hX.step LayR.stays (Below.refl _ _) rfl rfl)
      exact Knows.known _
    refine sureX_cons ?_ ?_
    · intro L ac W K hLi hed hJ hX hK
      have hS := hX.1
      have hn := needs_spec (l := [1]) (by kernel_rfl) hed
      have hA25 := hJ.eval 1 (d := 25) (hn 1 (by simp)) rfl rfl rfl
      have hsz := Lib.hid hJ.size
      clear hLi hed hJ hn
      refine opStep_of rfl ?_
      unfold Oper.wp execOp
      have hN25 := evalN hA25
      go_simp
      refine hK _ _ ?_ (hX.step LayR.stays (Below.refl _ _) rfl rfl)
      exact Knows.known _
    refine sureX_cons ?_ ?_
    · intro L ac W K hLi hed hJ hX hK
      have hS := hX.1
      have hn := needs_spec (l := [2]) (by kernel_rfl) hed
      have hA26 := hJ.eval 2 (d := 26) (hn 2 (by simp)) rfl rfl rfl
      have hsz := Lib.hid hJ.size
      clear hLi hed hJ hn
      refine opStep_of rfl ?_
      unfold Oper.wp execOp
      have hN26 := evalN hA26
      go_simp
      refine hK _ _ ?_ (hX.step LayR.stays (Below.refl _ _) rfl rfl)
      exact Knows.known _
    refine sureX_cons ?_ ?_
    · intro L ac W K hLi hed hJ hX hK
      have hS := hX.1
      have hn := needs_spec (l := [3]) (by kernel_rfl) hed
      have hA27 := hJ.eval 3 (d := 27) (hn 3 (by simp)) rfl rfl rfl
      have hsz := Lib.hid hJ.size
      clear hLi hed hJ hn
      refine opStep_of rfl ?_
      have cc := H4.out W hS
      unfold Oper.wp execOp
      have hN27 := evalN hA27
      go_simp
      refine hK _ _ ?_ (hX.step LayR.stays (Below.refl _ _) rfl rfl)
      exact Knows.known _
    refine sureX_cons ?_ ?_
    · intro L ac W K hLi hed hJ hX hK
      have hS := hX.1
      have hA0 : ac.eval (.tmp 0) = .pointer (some ⟨kb, 0, none⟩) := hJ.eval_old 0 (by kernel_rfl)
      have hsz := Lib.hid hJ.size
      clear hLi hed hJ
      refine opStep_of rfl ?_
      unfold Oper.wp execOp
      have hN0 := evalN hA0
      go_simp
      refine hK _ _ ?_ (hX.step LayR.stays (Below.refl _ _) rfl rfl)
      exact Knows.known _
    refine sureX_cons ?_ ?_
    · intro L ac W K hLi hed hJ hX hK
      have hS := hX.1
      have hn := needs_spec (l := [5]) (by kernel_rfl) hed
      have hA29 := hJ.eval 5 (d := 29) (hn 5 (by simp)) rfl rfl rfl
      have hsz := Lib.hid hJ.size
      clear hLi hed hJ hn
      refine opStep_of rfl ?_
      unfold Oper.wp execOp
      have hN29 := evalN hA29
      go_simp
      refine (CX.out W hS).mono ?_
      rintro e W' ⟨rfl, hb⟩
      have hX2 := hX.step (i := 6) (d := some 30) (v := .pointer (some ⟨pb, 0, none⟩)) LayR.stays hb rfl rfl
      dsimp only
      refine hK _ W' ?_ hX2
      exact Knows.known _
    refine sureX_cons ?_ ?_
    · intro L ac W K hLi hed hJ hX hK
      have hS := hX.1
      have hn := needs_spec (l := [6]) (by kernel_rfl) hed
      have hA30 := hJ.eval 6 (d := 30) (hn 6 (by simp)) rfl rfl rfl
      have hsz := Lib.hid hJ.size
      clear hLi hed hJ hn
      refine opStep_of rfl ?_
      unfold Oper.wp execOp
      have hN30 := evalN hA30
      go_simp
      refine hK _ _ ?_ (hX.step LayR.stays (Below.refl _ _) rfl rfl)
      exact Knows.known _
    refine sureX_cons ?_ ?_
    · intro L ac W K hLi hed hJ hX hK
      have hS := hX.1
      have hn := needs_spec (l := [7]) (by kernel_rfl) hed
      have hA31 := hJ.eval 7 (d := 31) (hn 7 (by simp)) rfl rfl rfl
      have hsz := Lib.hid hJ.size
      clear hLi hed hJ hn
      refine opStep_of rfl ?_
      unfold Oper.wp execOp
      have hN31 := evalN hA31
      go_simp
      refine hK _ _ ?_ (hX.step LayR.stays (Below.refl _ _) rfl rfl)
      exact Knows.known _
    refine sureX_cons ?_ ?_
    · intro L ac W K hLi hed hJ hX hK
      have hS := hX.1
      have hn := needs_spec (l := [8]) (by kernel_rfl) hed
      have hA32 := hJ.eval 8 (d := 32) (hn 8 (by simp)) rfl rfl rfl
      have hsz := Lib.hid hJ.size
      clear hLi hed hJ hn
      refine opStep_of rfl ?_
      refine oper_load_at 42 (.tmp 32) rfl ⟨pb, 20, none⟩ hA32 (pgCells p.space) _ (HL.out W hS) Tryz.underlying42 rfl MI.out ?_
      refine hK _ _ ?_ (hX.step LayR.stays (Below.refl _ _) rfl rfl)
      exact Knows.known _
    refine sureX_cons ?_ ?_
    · intro L ac W K hLi hed hJ hX hK
      have hS := hX.1
      have hA4 : ac.eval (.tmp 4) = .int .u32 (ad : Int) := hJ.eval_old 4 (by kernel_rfl)
      have hsz := Lib.hid hJ.size
      clear hLi hed hJ
      refine opStep_of rfl ?_
      unfold Oper.wp execOp
      have hN4 := evalN hA4
      go_simp
      refine hK _ _ ?_ (hX.step LayR.stays (Below.refl _ _) rfl rfl)
      exact Knows.known _
    refine sureX_cons ?_ ?_
    · intro L ac W K hLi hed hJ hX hK
      have hS := hX.1
      have hA3 : ac.eval (.tmp 3) = .int .i64 (n : Int) := hJ.eval_old 3 (by kernel_rfl)
      have hsz := Lib.hid hJ.size
      clear hLi hed hJ
      refine opStep_of rfl ?_
      unfold Oper.wp execOp
      have hN3 := evalN hA3
      go_simp
      refine hK _ _ ?_ (hX.step LayR.stays (Below.refl _ _) rfl rfl)
      exact Knows.known _
    refine sureX_cons ?_ ?_
    · intro L ac W K hLi hed hJ hX hK
      have hS := hX.1
      have hn := needs_spec (l := [11]) (by kernel_rfl) hed
      have hA35 := hJ.eval 11 (d := 35) (hn 11 (by simp)) rfl rfl rfl
      have hsz := Lib.hid hJ.size
      clear hLi hed hJ hn
      refine opStep_of rfl ?_
      unfold Oper.wp execOp
      have hN35 := evalN hA35
      go_simp
      refine (CR.out W).mono ?_
      rintro e W' ⟨rfl, hb⟩
      have hX2 := hX.step (i := 12) (d := some 36) (v := S zz) LayR.stays hb rfl rfl
      dsimp only
      refine hK _ W' ?_ hX2
      exact Knows.known _
    refine sureX_cons ?_ ?_
    · intro L ac W K hLi hed hJ hX hK
      have hS := hX.1
      have hn := needs_spec (l := [4, 9, 10, 12]) (by kernel_rfl) hed
      have hA28 := hJ.eval 4 (d := 28) (hn 4 (by simp)) rfl rfl rfl
      have hA33 := hJ.eval 9 (d := 33) (hn 9 (by simp)) rfl rfl rfl
      have hA34 := hJ.eval 10 (d := 34) (hn 10 (by simp)) rfl rfl rfl
      have hA36 := hJ.eval 12 (d := 36) (hn 12 (by simp)) rfl rfl rfl
      have hsz := Lib.hid hJ.size
      clear hLi hed hJ hn
      refine opStep_of rfl ?_
      unfold Oper.wp execOp
      have hN28 := evalN hA28
      have hN33 := evalN hA33
      have hN34 := evalN hA34
      have hN36 := evalN hA36
      go_simp
      refine (CC.out W hS).mono ?_
      rintro e W' ⟨⟨v, rfl, hv⟩, hb⟩
      have hX2 := hX.made (j := 13) (s := 37) LayR.stays hb rfl (by rw [hsz.out]; exact of_decide_eq_true rfl) hv
      dsimp only
      refine hK _ W' ?_ hX2
      exact Knows.free _
    refine sureX_cons ?_ ?_
    · intro L ac W K hLi hed hJ hX hK
      have hS := hX.1
      have hn := needs_spec (l := [13]) (by kernel_rfl) hed
      have hF37 := hX.2 (13, 37) (by simp) (hn 13 (by simp))
      have hsz := Lib.hid hJ.size
      clear hLi hed hJ hn
      refine opStep_of rfl ?_
      obtain ⟨gL, cl, zz, hv, hz⟩ := hF37
      have hA37 : ac.eval (.tmp 37) = .tuple #[.slice (some ⟨gL, 0, none⟩) m.frames.length cl, .bool true] := hv
      unfold Oper.wp execOp
      have hN37 := evalN hA37
      go_simp
      have hX2 := hX.made (j := 14) (s := 23) LayR.stays (Below.refl _ _) rfl (by rw [hsz.out]; exact of_decide_eq_true rfl) ⟨gL, cl, zz, rfl, hz⟩
      refine hK _ W ?_ hX2
      exact Knows.free _
    refine sureX_cons ?_ ?_
    · intro L ac W K hLi hed hJ hX hK
      have hS := hX.1
      have hn := needs_spec (l := [14]) (by kernel_rfl) hed
      have hF23 := hX.2 (14, 23) (by simp) (hn 14 (by simp))
      have hsz := Lib.hid hJ.size
      clear hLi hed hJ hn
      refine opStep_of rfl ?_
      obtain ⟨gL, cl, zz, hv, hz⟩ := hF23
      have hA23 : ac.eval (.tmp 23) = .tuple #[.slice (some ⟨gL, 0, none⟩) m.frames.length cl, .bool true] := hv
      unfold Oper.wp execOp
      have hN23 := evalN hA23
      go_simp
      have hX2 := hX.made (j := 15) (s := 38) LayR.stays (Below.refl _ _) rfl (by rw [hsz.out]; exact of_decide_eq_true rfl) ⟨gL, cl, zz, rfl, hz⟩
      refine hK _ W ?_ hX2
      exact Knows.free _
    refine sureX_cons ?_ ?_
    · intro L ac W K hLi hed hJ hX hK
      have hS := hX.1
      have hn := needs_spec (l := [14]) (by kernel_rfl) hed
      have hF23 := hX.2 (14, 23) (by simp) (hn 14 (by simp))
      have hsz := Lib.hid hJ.size
      clear hLi hed hJ hn
      refine opStep_of rfl ?_
      obtain ⟨gL, cl, zz, hv, hz⟩ := hF23
      have hA23 : ac.eval (.tmp 23) = .tuple #[.slice (some ⟨gL, 0, none⟩) m.frames.length cl, .bool true] := hv
      unfold Oper.wp execOp
      have hN23 := evalN hA23
      go_simp
      refine hK _ _ ?_ (hX.step LayR.stays (Below.refl _ _) rfl rfl)
      exact Knows.known _
    refine sureX_cons ?_ ?_
    · intro L ac W K hLi hed hJ hX hK
      have hS := hX.1
      have hn := needs_spec (l := [15]) (by kernel_rfl) hed
      have hF38 := hX.2 (15, 38) (by simp) (hn 15 (by simp))
      have hsz := Lib.hid hJ.size
      clear hLi hed hJ hn
      refine opStep_of rfl ?_
      obtain ⟨gL, cl, zz, hv, hz⟩ := hF38
      have hA38 : ac.eval (.tmp 38) = .slice (some ⟨gL, 0, none⟩) m.frames.length cl := hv
      unfold Oper.wp execOp
      have hN38 := evalN hA38
      go_simp
      have hX2 := hX.made (j := 17) (s := 5) LayR.stays (Below.refl _ _) rfl (by rw [hsz.out]; exact of_decide_eq_true rfl) ⟨gL, cl, zz, rfl, hz⟩
      refine hK _ W ?_ hX2
      exact Knows.free _
    refine sureX_cons ?_ ?_
    · intro L ac W K hLi hed hJ hX hK
      have hS := hX.1
      have hn := needs_spec (l := [16]) (by kernel_rfl) hed
      have hA39 := hJ.eval 16 (d := 39) (hn 16 (by simp)) rfl rfl rfl
      have hsz := Lib.hid hJ.size
      clear hLi hed hJ hn
      refine opStep_of rfl ?_
      unfold Oper.wp execOp
      have hN39 := evalN hA39
      go_simp
      refine hK _ _ ?_ (hX.step LayR.stays (Below.refl _ _) rfl rfl)
      exact Knows.known _
    refine sureX_nil ?_
    intro L ac W hL hX ha
    have hS := hX.1
    have hF37 := hX.2 (13, 37) (by simp) (hL 13 (by omega))
    have hF23 := hX.2 (14, 23) (by simp) (hL 14 (by omega))
    have hF38 := hX.2 (15, 38) (by simp) (hL 15 (by omega))
    have hF5 := hX.2 (17, 5) (by simp) (hL 17 (by omega))
    rw [ha]
    simp only [mendAll, Option.getD_some, Option.getD_none, Option.map_some, putAll, Act.put, List.setIfInBounds_toArray, List.set_cons_zero, List.set_cons_succ]
    change ((LayR w2.heap.size m.frames.length (m.frames.set fr (putF ff pl zz)) 14)) 13 (ac.tmps.getD 37 undef) W at hF37
    generalize ac.tmps.getD 37 undef = us37 at *
    change ((LayR w2.heap.size m.frames.length (m.frames.set fr (putF ff pl zz)) 14)) 14 (ac.tmps.getD 23 undef) W at hF23
    generalize ac.tmps.getD 23 undef = us23 at *
    change ((LayR w2.heap.size m.frames.length (m.frames.set fr (putF ff pl zz)) 14)) 15 (ac.tmps.getD 38 undef) W at hF38
    generalize ac.tmps.getD 38 undef = us38 at *
    change ((LayR w2.heap.size m.frames.length (m.frames.set fr (putF ff pl zz)) 14)) 17 (ac.tmps.getD 5 undef) W at hF5
    generalize ac.tmps.getD 5 undef = us5 at *
    clear ha hX hL
    have HK3 := Lib.hid (HK2.out.below hS)
    have HB3 := Lib.hid (HB2.out.trans (hS.mono HB2.out.size))
    clear hS hF37 hF23 hF38 hF5 CC CX H4 HL MI CR HK2 HB2
    go_wp2_with fail
    refine (HN.out _ _ _).mono ?_
    rintro e w4 ⟨rfl, rfl⟩
    have d0 : ((n : Int) == 0) = false := beq_eq_false_iff_ne.2 (by omega)
    have d0' : (n == 0) = false := beq_eq_false_iff_ne.2 (by omega)
    have c0 : w4.cell? ⟨pb, 68 + k * 3, none⟩ = some (.int .i64 4) := by rw [← Nat.add_zero (68 + k * 3), ← HFK.out]; exact HK3.out.fdc HF.out (j := 0) (by decide) rfl
    have c1 : w4.cell? ⟨pb, 68 + k * 3 + 1, none⟩ = some (.int .i64 q.1) := by rw [← HFN.out]; exact HK3.out.fdc HF.out (j := 1) (by decide) rfl
    have CE := Lib.hid (readPipe_end HK3.out q HQ.out (ad : Int) (n : Int) HNE.out HE.out)
    go_wp2_with fail
    refine CE.out.mono ?_
    rintro e w5 ⟨rfl, hk, hb⟩
    have HK5 := Lib.hid hk
    have HB5 := Lib.hid ((HB3.out.mono HBK.out).trans hb)
    clear hk hb CE c0 c1
    go_wp2_with fail
    refine bodyPost_end (v := .tuple #[]) (by simp [results, Tryz.results34, go_sem]) rfl ?_
    exact ⟨rfl, HK5.out, HB5.out⟩
end Go.Proofs.YtdhfblfnejmeiaaGreatDoor
