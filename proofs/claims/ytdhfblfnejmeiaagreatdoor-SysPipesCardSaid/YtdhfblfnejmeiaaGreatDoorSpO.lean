/-
  Walks: the law SysPipes. (Printed by gen_spo.py.)
-/
import Derived.Test.YtdhfblfnejmeiaaGreatDoorSpZ
namespace Go.Proofs.YtdhfblfnejmeiaaGreatDoor
open Go.RowKit

/-- no list of a machine lies in a block -/
def MN (q : Nat) (a : MA) : Prop := (∀ ad, a.F = some ad → ad.block ≠ q) ∧ (∀ ad, a.P = some ad → ad.block ≠ q) ∧ (∀ ad, a.Q = some ad → ad.block ≠ q) ∧ (∀ ad, a.L = some ad → ad.block ≠ q) ∧ (∀ ad, a.N = some ad → ad.block ≠ q) ∧ (∀ ad, a.D = some ad → ad.block ≠ q)
theorem MB.ne {B q : Nat} {a : MA} (h : MB B a) (hq : q < B) : MN q a := ⟨fun ad e => by have := h.1 ad e; omega, fun ad e => by have := h.2.1 ad e; omega, fun ad e => by have := h.2.2.1 ad e; omega, fun ad e => by have := h.2.2.2.1 ad e; omega, fun ad e => by have := h.2.2.2.2.1 ad e; omega, fun ad e => by have := h.2.2.2.2.2 ad e; omega⟩
theorem MU.ne {q : Nat} {a : MA} (h : MU q a) : MN q a := ⟨fun ad e => by have := h.1 ad e; omega, fun ad e => by have := h.2.1 ad e; omega, fun ad e => by have := h.2.2.1 ad e; omega, fun ad e => by have := h.2.2.2.1 ad e; omega, fun ad e => by have := h.2.2.2.2.1 ad e; omega, fun ad e => by have := h.2.2.2.2.2 ad e; omega⟩
theorem MAt.off {w w' : World} {a : MA} {m : Mc} {q : Nat} (h : MAt w w.heap.size a m) (hb : MN q a) (hk : w.grownBy w' (some q)) : MAt w' w'.heap.size a m :=
  ⟨lies_far h.F (Nat.le_refl _) hk hb.1, lies_far h.P (Nat.le_refl _) hk hb.2.1, lies_far h.Q (Nat.le_refl _) hk hb.2.2.1, lies_far h.L (Nat.le_refl _) hk hb.2.2.2.1, lies_far h.N (Nat.le_refl _) hk hb.2.2.2.2.1, lies_far h.D (Nat.le_refl _) hk hb.2.2.2.2.2, h.caps⟩
/-- the law's machine, in its box -/
structure BX (w : World) (gm : Nat) (a : MA) (m : Mc) (p : Pr) (fds : List Fl) (qs : List Nb) : Prop where
  ls : LS m p fds qs
  box : Whole w gm 31 (mcL a m).toArray
  at' : MAt w w.heap.size a m
  mb : MN gm a
  ap : ∃ pb, a.P = some ⟨pb, 0, none⟩
section
variable {w w' : World} {gm : Nat} {a : MA} {m : Mc} {p : Pr} {fds : List Fl} {qs : List Nb}
theorem BX.below (h : BX w gm a m p fds qs) (hb : Below w.heap.size w w') : BX w' gm a m p fds qs := ⟨h.ls, h.box.below hb h.box.lt, (h.at'.below hb).wide hb.size, h.mb, h.ap⟩
theorem BX.lay (h : BX w gm a m p fds qs) {A' : Option Addr} {c' n : Nat} {fs : List (List UInt8)} (hn : n = fs.length) (hF : Strs w w.heap.size A' fs) (hA : ∀ ad, A' = some ad → ad.block ≠ gm) (hc : fs.length ≤ c') (hl : LS { m with frames := fs } p fds qs)
    (hw : Whole w' gm 31 ((mcL a m).set 4 (.slice A' n c')).toArray) (hk : w.grownBy w' (some gm)) : BX w' gm { a with F := A', cF := c' } { m with frames := fs } p fds qs := by
  subst hn
  refine ⟨hl, hw, ?_, ⟨hA, h.mb.2⟩, h.ap⟩
  exact MAt.off (a := { a with F := A', cF := c' }) (m := { m with frames := fs }) ⟨hF, h.at'.P, h.at'.Q, h.at'.L, h.at'.N, h.at'.D, hc, h.at'.caps.2⟩ ⟨hA, h.mb.2⟩ hk
theorem BX.proc (h : BX w gm a m p fds qs) : ∃ pb, w.cell? ⟨gm, 5, none⟩ = some (.slice (some ⟨pb, 0, none⟩) 1 a.cP) ∧ ∀ W, Below w.heap.size w W → ∀ k v, (prCells p)[k]? = some v → W.cell? ⟨pb, k, none⟩ = some v := by
  obtain ⟨pb, hp⟩ := h.ap
  have e : m.procs.length = 1 := by rw [h.ls.good.one]; rfl
  exact ⟨pb, (h.box.cell 5).trans (by rw [← hp, ← e]; rfl), fun W hS k v hv => (h.at'.below hS).pcell h.ls.good.one hp hv⟩
theorem LS.frame (h : LS m p fds qs) {k : Nat} (hk : k < 4) : ∃ f, m.frames[k]? = some f ∧ f.length = 128 := by
  have := h.fl
  exact ⟨m.frames[k]'(by omega), List.getElem?_eq_getElem _, h.fr _ (List.getElem_mem _)⟩
theorem LS.reg1 (h : LS m p fds qs) {x : Int} (e : p.regs[1]? = some x) : (prCells p)[4]? = some (.int .u32 x) := by
  rw [show 4 = 3 + 1 from rfl, pr_reg h.good.ok (by decide)]; unfold rgCells; rw [List.getElem?_map, e]; rfl
theorem LS.reg2 (h : LS m p fds qs) {x : Int} (e : p.regs[2]? = some x) : (prCells p)[5]? = some (.int .u32 x) := by
  rw [show 5 = 3 + 2 from rfl, pr_reg h.good.ok (by decide)]; unfold rgCells; rw [List.getElem?_map, e]; rfl
theorem reg_set {p : Pr} (h : PrOk p) (x : Int) : (p.reg 1 x).regs[1]? = some x := by
  have := h.regs
  simp [Pr.reg, this]
end
theorem Tryz.size1s : (Tryz.prog.info? 22).map (·.size) = some 1 := by kernel_rfl
/-- what the document's Lay, and what is taken out of its answer, gives -/
def RLay (base n : Nat) (fs : List (List UInt8)) (c i : Nat) (v : Value) (W : World) : Prop :=
  ∃ (gL : Option Addr) (cl : Nat), v = (if i ≤ c then .tuple #[.slice gL n cl, .bool true] else .slice gL n cl) ∧ (∀ ad, gL = some ad → base ≤ ad.block) ∧ fs.length ≤ cl ∧ Strs W W.heap.size gL fs
theorem RLay.stays {base n c : Nat} {fs : List (List UInt8)} : ∀ j v W W', RLay base n fs c j v W → Below W.heap.size W W' → RLay base n fs c j v W' := by
  rintro j v W W' ⟨gL, cl, e, h1, h2, h3⟩ hb
  exact ⟨gL, cl, e, h1, h2, (Lies.below h3 hb).wide hb.size⟩
set_option maxRecDepth 100000 in
set_option maxHeartbeats 4000000 in
theorem pipes_any (w : World) (A : Option Addr) (c : Nat) (l : List (List UInt8)) (hA : Strs w w.heap.size A l) :
    Calls Tryz.prog 3 #[.slice A l.length c] w fun e w' => e = .returned (.bool true) ∧ Below w.heap.size w w' := by
  have HAA := Lib.hid hA
  clear hA
  go_enter Tryz.func3, Tryz.ntmps3
  have CA := Lib.hid (alive_any w)
  go_wp2_with fail
  refine CA.out.mono ?_
  rintro e w1 ⟨rfl, hb⟩
  have HV := Lib.hid hb
  clear hb CA
  by_cases h12 : 12 < l.length
  · have d12 : decide ((12 : Int) < (l.length : Int)) = true := decide_eq_true (by omega)
    have d12' : decide (12 < l.length) = true := decide_eq_true h12
    go_wp2_with fail
    refine bodyPost_ret (v := .bool true) (by simp [results, Tryz.results3, go_sem]) rfl ?_
    exact ⟨rfl, HV.out⟩
  have d12 : decide ((12 : Int) < (l.length : Int)) = false := decide_eq_false (by omega)
  have d12' : decide (12 < l.length) = false := decide_eq_false h12
  have CS := Lib.hid (small_any w1)
  go_wp2_with fail
  clear d12 d12'
  have hl12 : l.length ≤ 12 := by omega
  clear h12
  refine CS.out.mono ?_
  rintro e w2 ⟨⟨gF, X, cx, gp, bl, rfl, hbl, hA⟩, hb⟩
  have HV2 := Lib.hid (HV.out.trans (hb.mono HV.out.size))
  obtain ⟨m0, p0, hL0, hr1, hr2, hD⟩ := do_pipe (ls_small hbl) rfl hA
  have CD := Lib.hid hD
  have HL0 := Lib.hid hL0
  have HR0 := Lib.hid (And.intro hr1 hr2)
  clear hb hbl hA hL0 hr1 hr2 hD CS HV
  go_wp2_with fail
  refine CD.out.mono ?_
  rintro e w3 ⟨⟨c0, rfl, hA, _, hap, hM⟩, _, hb⟩
  have HV3 := Lib.hid (HV2.out.trans (hb.mono HV2.out.size))
  have IMC : Hid ((Tryz.prog.info? 31).map (fun i => (i.zero, i.size)) = some (some (.agg zeroML.toArray), (mcL c0 m0).length)) := Lib.hid Tryz.infoMc
  have HX0 : Hid (BX (w3.alloc (.cells (mcL c0 m0).toArray 31)) w3.heap.size c0 m0 p0 fds2 [(1, [])]) := Lib.hid ⟨HL0.out, Whole.made w3 31 (mcL c0 m0).toArray, (hA.below ((Below.refl _ _).alloc (Nat.le_refl _) _)).wide (by simp), hM.ne, hap⟩
  have HV : Hid (Below w.heap.size w (w3.alloc (.cells (mcL c0 m0).toArray 31))) := Lib.hid (HV3.out.alloc HV3.out.size _)
  have HGM : Hid (w.heap.size ≤ w3.heap.size) := Lib.hid HV3.out.size
  clear hA hap hM hb CD HL0 HV2 HV3
  go_upto_region 6 with (refine wpList_fresh rfl rfl 31 3 (.tmp 20) rfl rfl rfl rfl (mcL c0 m0) rfl rfl _ IMC.out rfl (mcL_one _ _) ?_)
  change Code.wp _ _ _ _ (w3.alloc (.cells (mcL c0 m0).toArray 31))
  clear IMC
  generalize w3.alloc (.cells (mcL c0 m0).toArray 31) = w4 at *
  generalize w3.heap.size = gm at *
  obtain ⟨pb, c5, hp⟩ := HX0.out.proc
  have hlt : gm < w4.heap.size := HX0.out.box.lt
  have LD : Hid (∀ j v, (prCells p0)[j]? = some v → w4.cell? ((⟨pb, 0, none⟩ : Addr).add j) = some v) := Lib.hid fun j v h => by
    have := hp w4 (Below.refl _ _) j v h
    rwa [show (⟨pb, 0, none⟩ : Addr).add j = ⟨pb, j, none⟩ by unfold Addr.add; split <;> simp_all]
  have hxl := prCells_length HX0.out.ls.good.ok
  have SPR : Hid ((Tryz.prog.info? 47).map (·.size) = some (prCells p0).length) := Lib.hid (by rw [hxl]; exact Tryz.sizePr)
  have IPR : Hid ((Tryz.prog.info? 47).map (fun i => (i.zero, i.size)) = some (some (.agg (prCells zeroPr).toArray), (prCells p0).length)) := Lib.hid (by rw [hxl]; exact Tryz.infoPr)
  have ZPR : Hid ((Value.agg (prCells zeroPr).toArray).cells.size = (prCells p0).length) := Lib.hid (by rw [hxl]; rfl)
  have HP := Lib.hid (Whole.made w4 47 (prCells p0).toArray)
  have HV5 : Hid (Below w.heap.size w (w4.alloc (.cells (prCells p0).toArray 47))) := Lib.hid (HV.out.alloc HV.out.size _)
  have HX5 := Lib.hid (HX0.out.below ((Below.refl _ _).alloc (Nat.le_refl _) (.cells (prCells p0).toArray 47)))
  clear hp hxl
  go_upto_region 7 with (first
    | (refine wpList_load_at rfl 47 (.tmp 24) rfl ⟨pb, 0, none⟩ rfl (prCells p0) _ LD.out Tryz.underlying47 rfl SPR.out ?_)
    | (refine wpList_fresh rfl rfl 47 5 (.tmp 25) rfl rfl rfl rfl (prCells p0) rfl rfl _ IPR.out ZPR.out prCells_one ?_))
  change Code.wp _ _ _ _ (w4.alloc (.cells (prCells p0).toArray 47))
  have k4 : (w4.alloc (.cells (prCells p0).toArray 47)).cell? ⟨w4.heap.size, 4, none⟩ = some (.int .u32 2) := (HP.out.cell 4).trans (by rw [List.getElem?_toArray]; exact HX0.out.ls.reg1 HR0.out.1)
  have k5 : (w4.alloc (.cells (prCells p0).toArray 47)).cell? ⟨w4.heap.size, 5, none⟩ = some (.int .u32 3) := (HP.out.cell 5).trans (by rw [List.getElem?_toArray]; exact HX0.out.ls.reg2 HR0.out.2)
  clear c5 LD SPR IPR ZPR HP HX0 HR0 HV
  generalize w4.alloc (.cells (prCells p0).toArray 47) = w5 at *
  generalize w4.heap.size = g5 at *
  go_wp2_with fail
  clear k4 k5
  go_loopw [40] (fun i wr => ∃ (kk : Nat) (c0 : MA) (m0 : Mc) (p0 : Pr), kk ≤ l.length ∧ i = .int .i64 (kk : Int) ∧ Hid (BX wr gm c0 m0 p0 fds2 [(1, [])]) ∧ Hid (Below w.heap.size w wr)) (fun i _ => l.length - (intOf i).toNat)
  case atStart => exact ⟨0, c0, m0, p0, by omega, rfl, HX5, HV5⟩
  case round =>
    clear HX5 HV5
    obtain ⟨k, c0, m0, p0, hk, rfl, HX0, HV⟩ := hrel
    by_cases hlt : k < l.length
    · obtain ⟨s, hx⟩ : ∃ s, l[k]? = some s := ⟨l[k], List.getElem?_eq_getElem hlt⟩
      obtain ⟨ad, hadr, had, hc⟩ := Strs.at' HAA.out hlt
      have hgd : l.getD k [] = s := by rw [List.getD_eq_getElem?_getD, hx]; rfl
      rw [hgd] at hc
      rw [hadr]
      have b0 : wr.cell? (ad.add k) = _ := (HV.out.cell (by rw [add_block]; exact had)).trans hc
      clear hc hx hgd
      have i0 : (0 : Int) ≤ (k : Int) := by omega
      have i1 : (k : Int) < (l.length : Int) := by omega
      by_cases hs0 : 0 < s.length
      case neg =>
        obtain rfl : s = [] := List.eq_nil_of_length_eq_zero (by omega)
        go_wp2_with fail
        refine bodyPost_ret (v := .bool true) (by simp [results, Tryz.results3, go_sem]) rfl ?_
        exact ⟨rfl, HV.out⟩
      have d1 : decide ((s.length : Int) < 1) = false := decide_eq_false (by omega)
      have d1' : decide (s.length < 1) = false := decide_eq_false (by omega)
      by_cases hs1 : 60 < s.length
      case pos =>
        have d2 : decide ((60 : Int) < (s.length : Int)) = true := decide_eq_true (by omega)
        have d2' : decide (60 < s.length) = true := decide_eq_true hs1
        go_wp2_with fail
        refine bodyPost_ret (v := .bool true) (by simp [results, Tryz.results3, go_sem]) rfl ?_
        exact ⟨rfl, HV.out⟩
      have d2 : decide ((60 : Int) < (s.length : Int)) = false := decide_eq_false (by omega)
      have d2' : decide (60 < s.length) = false := decide_eq_false hs1
      have HS : Hid (0 < s.length ∧ s.length ≤ 60) := Lib.hid ⟨hs0, by omega⟩
      have cv : IntKind.u32.wrap (s.length : Int) = (s.length : Int) := by rw [IntKind.wrap_u32]; omega
      have H4 : Hid (∀ W, Below wr.heap.size wr W → W.cell? ⟨gm, 4, none⟩ = some (.slice c0.F m0.frames.length c0.cF)) := Lib.hid fun W hS => (HX0.out.below hS).box.cell 4
      obtain ⟨pb, c5, hp⟩ := HX0.out.proc
      have H5 : Hid (∀ W, Below wr.heap.size wr W → W.cell? ⟨gm, 5, none⟩ = some (.slice (some ⟨pb, 0, none⟩) 1 c0.cP)) := Lib.hid fun W hS => (hS.cell (by show gm < _; exact HX0.out.box.lt)).trans c5
      have HLS : Hid (∀ W, Below wr.heap.size wr W → ∀ j v, (pgCells sp0)[j]? = some v → W.cell? ((⟨pb, 20, none⟩ : Addr).add j) = some v) := Lib.hid fun W hS j v h => by
        have hj : j < 48 := by have := (List.getElem?_eq_some_iff.1 h).1; rwa [pgCells_length] at this
        have := hp W hS (20 + j) v (by rw [pr_space HX0.out.ls.good.ok hj, HX0.out.ls.sp]; exact h)
        rwa [show (⟨pb, 20, none⟩ : Addr).add j = ⟨pb, 20 + j, none⟩ by unfold Addr.add; split <;> simp_all]
      have SSP : Hid ((Tryz.prog.info? 42).map (·.size) = some (pgCells sp0).length) := Lib.hid (by rw [pgCells_length]; exact Tryz.sizeSpace)
      obtain ⟨f, hf, hfl⟩ := HX0.out.ls.frame (k := 0) (by decide)
      have HSP : Hid (Spot p0.space m0.frames 4 s.length 0 4 f) := Lib.hid (by
        obtain ⟨f', h'⟩ := HX0.out.ls.spot0 (ad := 4) (n := s.length) hs0 (by omega)
        have := h'.frm; rw [hf] at this; injection this with this; subst this; exact h')
      have HFS : Hid ((m0.frames.set 0 (putF f 4 s)).length = m0.frames.length) := Lib.hid (by simp)
      have HPF : Hid (((m0.frames.set 0 (putF f 4 s)))[0]? = some (putF f 4 s) ∧ ((putF f 4 s).drop 4).take s.length = s) := Lib.hid ⟨by rw [List.getElem?_set_self (by rw [HX0.out.ls.fl]; decide)], putF_get (by rw [hfl]; omega)⟩
      have HLL := Lib.hid (HX0.out.ls.lay HSP.out s (by omega))
      have CC : Hid (∀ W, Below wr.heap.size wr W → Calls Tryz.prog 7 #[.slice c0.F m0.frames.length c0.cF, .agg (pgCells sp0).toArray, .int .u32 4, S s] W fun e w' => (∃ v, e = .returned v ∧ RLay (gm + 1) m0.frames.length (m0.frames.set 0 (putF f 4 s)) 9 8 v w') ∧ Below W.heap.size W w') := Lib.hid fun W hS => by
        have := rlay_any W c0.F c0.cF sp0 m0.frames 4 0 4 f s (by rw [← HX0.out.ls.sp]; exact HSP.out) (HX0.out.below hS).at'.F
        refine Calls.mono this ?_
        rintro e w' ⟨⟨A', c', rfl, h1, h2, h3⟩, hb⟩
        exact ⟨⟨_, rfl, A', c', rfl, fun ad e => by have := h3 ad e; have := hS.size; have := HX0.out.box.lt; omega, by rw [HFS.out]; exact h2, h1⟩, hb⟩
      clear c5 hp hf hfl
      generalize m0.frames.set 0 (putF f 4 s) = fs1 at *
      go_upto_region 14 with (fail)
      refine' wp_region_sureX (by kernel_rfl) (PostX wr [(8, 61), (9, 52), (10, 62), (12, 8)] (RLay (gm + 1) m0.frames.length fs1 9)) 14 [some _, some _, some _, some _, some _, some _, some _, some _, none, none, none, some _, none, some _] [some 53, some 54, some 55, some 56, some 57, some 58, some 59, some 60, some 61, some 52, some 62, some 63, some 8, some 9] (by kernel_rfl) (by kernel_rfl) (by kernel_rfl) (by kernel_rfl) rfl (PostX.init (Below.refl _ _).drew) ?hs1
      case hs1 =>
        refine sureX_cons ?_ ?_
        · intro L ac W K hLi hed hJ hX hK
          have hS := hX.1
          have hA3 : ac.eval (.tmp 3) = .pointer (some ⟨gm, 0, none⟩) := hJ.eval_old 3 (by kernel_rfl)
          have hsz := Lib.hid hJ.size
          clear hLi hed hJ
          refine opStep_of rfl ?_
          unfold Oper.wp execOp
          have hN3 := evalN hA3
          go_simp
          refine hK _ _ ?_ (hX.step RLay.stays (Below.refl _ _) rfl rfl)
          exact Knows.known _
        refine sureX_cons ?_ ?_
        · intro L ac W K hLi hed hJ hX hK
          have hS := hX.1
          have hn := needs_spec (l := [0]) (by kernel_rfl) hed
          have hA53 := hJ.eval 0 (d := 53) (hn 0 (by simp)) rfl rfl rfl
          have hsz := Lib.hid hJ.size
          clear hLi hed hJ hn
          refine opStep_of rfl ?_
          have cc := H4.out W hS
          unfold Oper.wp execOp
          have hN53 := evalN hA53
          go_simp
          refine hK _ _ ?_ (hX.step RLay.stays (Below.refl _ _) rfl rfl)
          exact Knows.known _
        refine sureX_cons ?_ ?_
        · intro L ac W K hLi hed hJ hX hK
          have hS := hX.1
          have hA3 : ac.eval (.tmp 3) = .pointer (some ⟨gm, 0, none⟩) := hJ.eval_old 3 (by kernel_rfl)
          have hsz := Lib.hid hJ.size
          clear hLi hed hJ
          refine opStep_of rfl ?_
          unfold Oper.wp execOp
          have hN3 := evalN hA3
          go_simp
          refine hK _ _ ?_ (hX.step RLay.stays (Below.refl _ _) rfl rfl)
          exact Knows.known _
        refine sureX_cons ?_ ?_
        · intro L ac W K hLi hed hJ hX hK
          have hS := hX.1
          have hn := needs_spec (l := [2]) (by kernel_rfl) hed
          have hA55 := hJ.eval 2 (d := 55) (hn 2 (by simp)) rfl rfl rfl
          have hsz := Lib.hid hJ.size
          clear hLi hed hJ hn
          refine opStep_of rfl ?_
          have cc := H5.out W hS
          unfold Oper.wp execOp
          have hN55 := evalN hA55
          go_simp
          refine hK _ _ ?_ (hX.step RLay.stays (Below.refl _ _) rfl rfl)
          exact Knows.known _
        refine sureX_cons ?_ ?_
        · intro L ac W K hLi hed hJ hX hK
          have hS := hX.1
          have hn := needs_spec (l := [3]) (by kernel_rfl) hed
          have hA56 := hJ.eval 3 (d := 56) (hn 3 (by simp)) rfl rfl rfl
          have hsz := Lib.hid hJ.size
          clear hLi hed hJ hn
          refine opStep_of rfl ?_
          unfold Oper.wp execOp
          have hN56 := evalN hA56
          go_simp
          refine hK _ _ ?_ (hX.step RLay.stays (Below.refl _ _) rfl rfl)
          exact Knows.known _
        refine sureX_cons ?_ ?_
        · intro L ac W K hLi hed hJ hX hK
          have hS := hX.1
          have hn := needs_spec (l := [4]) (by kernel_rfl) hed
          have hA57 := hJ.eval 4 (d := 57) (hn 4 (by simp)) rfl rfl rfl
          have hsz := Lib.hid hJ.size
          clear hLi hed hJ hn
          refine opStep_of rfl ?_
          unfold Oper.wp execOp
          have hN57 := evalN hA57
          go_simp
          refine hK _ _ ?_ (hX.step RLay.stays (Below.refl _ _) rfl rfl)
          exact Knows.known _
        refine sureX_cons ?_ ?_
        · intro L ac W K hLi hed hJ hX hK
          have hS := hX.1
          have hn := needs_spec (l := [5]) (by kernel_rfl) hed
          have hA58 := hJ.eval 5 (d := 58) (hn 5 (by simp)) rfl rfl rfl
          have hsz := Lib.hid hJ.size
          clear hLi hed hJ hn
          refine opStep_of rfl ?_
          refine oper_load_at 42 (.tmp 58) rfl ⟨pb, 20, none⟩ hA58 (pgCells sp0) _ (HLS.out W hS) Tryz.underlying42 rfl SSP.out ?_
          refine hK _ _ ?_ (hX.step RLay.stays (Below.refl _ _) rfl rfl)
          exact Knows.known _
        refine sureX_cons ?_ ?_
        · intro L ac W K hLi hed hJ hX hK
          have hS := hX.1
          have hA7 : ac.eval (.tmp 7) = S s := hJ.eval_old 7 (by kernel_rfl)
          have hsz := Lib.hid hJ.size
          clear hLi hed hJ
          refine opStep_of rfl ?_
          unfold Oper.wp execOp
          have hN7 := evalN hA7
          go_simp
          refine hK _ _ ?_ (hX.step RLay.stays (Below.refl _ _) rfl rfl)
          exact Knows.known _
        refine sureX_cons ?_ ?_
        · intro L ac W K hLi hed hJ hX hK
          have hS := hX.1
          have hn := needs_spec (l := [1, 6, 7]) (by kernel_rfl) hed
          have hA54 := hJ.eval 1 (d := 54) (hn 1 (by simp)) rfl rfl rfl
          have hA59 := hJ.eval 6 (d := 59) (hn 6 (by simp)) rfl rfl rfl
          have hA60 := hJ.eval 7 (d := 60) (hn 7 (by simp)) rfl rfl rfl
          have hsz := Lib.hid hJ.size
          clear hLi hed hJ hn
          refine opStep_of rfl ?_
          unfold Oper.wp execOp
          have hN54 := evalN hA54
          have hN59 := evalN hA59
          have hN60 := evalN hA60
          go_simp
          refine (CC.out W hS).mono ?_
          rintro e W' ⟨⟨v, rfl, hv⟩, hb⟩
          have hX2 := hX.made (j := 8) (s := 61) RLay.stays hb rfl (by rw [hsz.out]; exact of_decide_eq_true rfl) hv
          dsimp only
          refine hK _ W' ?_ hX2
          exact Knows.free _
        refine sureX_cons ?_ ?_
        · intro L ac W K hLi hed hJ hX hK
          have hS := hX.1
          have hn := needs_spec (l := [8]) (by kernel_rfl) hed
          have hF61 := hX.2 (8, 61) (by simp) (hn 8 (by simp))
          have hsz := Lib.hid hJ.size
          clear hLi hed hJ hn
          refine opStep_of rfl ?_
          obtain ⟨gL, cl, hv, hz⟩ := hF61
          have hA61 : ac.eval (.tmp 61) = .tuple #[.slice gL m0.frames.length cl, .bool true] := hv
          unfold Oper.wp execOp
          have hN61 := evalN hA61
          go_simp
          have hX2 := hX.made (j := 9) (s := 52) RLay.stays (Below.refl _ _) rfl (by rw [hsz.out]; exact of_decide_eq_true rfl) ⟨gL, cl, rfl, hz⟩
          refine hK _ W ?_ hX2
          exact Knows.free _
        refine sureX_cons ?_ ?_
        · intro L ac W K hLi hed hJ hX hK
          have hS := hX.1
          have hn := needs_spec (l := [9]) (by kernel_rfl) hed
          have hF52 := hX.2 (9, 52) (by simp) (hn 9 (by simp))
          have hsz := Lib.hid hJ.size
          clear hLi hed hJ hn
          refine opStep_of rfl ?_
          obtain ⟨gL, cl, hv, hz⟩ := hF52
          have hA52 : ac.eval (.tmp 52) = .tuple #[.slice gL m0.frames.length cl, .bool true] := hv
          unfold Oper.wp execOp
          have hN52 := evalN hA52
          go_simp
          have hX2 := hX.made (j := 10) (s := 62) RLay.stays (Below.refl _ _) rfl (by rw [hsz.out]; exact of_decide_eq_true rfl) ⟨gL, cl, rfl, hz⟩
          refine hK _ W ?_ hX2
          exact Knows.free _
        refine sureX_cons ?_ ?_
        · intro L ac W K hLi hed hJ hX hK
          have hS := hX.1
          have hn := needs_spec (l := [9]) (by kernel_rfl) hed
          have hF52 := hX.2 (9, 52) (by simp) (hn 9 (by simp))
          have hsz := Lib.hid hJ.size
          clear hLi hed hJ hn
          refine opStep_of rfl ?_
          obtain ⟨gL, cl, hv, hz⟩ := hF52
          have hA52 : ac.eval (.tmp 52) = .tuple #[.slice gL m0.frames.length cl, .bool true] := hv
          unfold Oper.wp execOp
          have hN52 := evalN hA52
          go_simp
          refine hK _ _ ?_ (hX.step RLay.stays (Below.refl _ _) rfl rfl)
          exact Knows.known _
        refine sureX_cons ?_ ?_
        · intro L ac W K hLi hed hJ hX hK
          have hS := hX.1
          have hn := needs_spec (l := [10]) (by kernel_rfl) hed
          have hF62 := hX.2 (10, 62) (by simp) (hn 10 (by simp))
          have hsz := Lib.hid hJ.size
          clear hLi hed hJ hn
          refine opStep_of rfl ?_
          obtain ⟨gL, cl, hv, hz⟩ := hF62
          have hA62 : ac.eval (.tmp 62) = .slice gL m0.frames.length cl := hv
          unfold Oper.wp execOp
          have hN62 := evalN hA62
          go_simp
          have hX2 := hX.made (j := 12) (s := 8) RLay.stays (Below.refl _ _) rfl (by rw [hsz.out]; exact of_decide_eq_true rfl) ⟨gL, cl, rfl, hz⟩
          refine hK _ W ?_ hX2
          exact Knows.free _
        refine sureX_cons ?_ ?_
        · intro L ac W K hLi hed hJ hX hK
          have hS := hX.1
          have hn := needs_spec (l := [11]) (by kernel_rfl) hed
          have hA63 := hJ.eval 11 (d := 63) (hn 11 (by simp)) rfl rfl rfl
          have hsz := Lib.hid hJ.size
          clear hLi hed hJ hn
          refine opStep_of rfl ?_
          unfold Oper.wp execOp
          have hN63 := evalN hA63
          go_simp
          refine hK _ _ ?_ (hX.step RLay.stays (Below.refl _ _) rfl rfl)
          exact Knows.known _
        refine sureX_nil ?_
        intro L ac W hL hX ha
        have hS := hX.1
        have hF61 := hX.2 (8, 61) (by simp) (hL 8 (by omega))
        have hF52 := hX.2 (9, 52) (by simp) (hL 9 (by omega))
        have hF62 := hX.2 (10, 62) (by simp) (hL 10 (by omega))
        have hF8 := hX.2 (12, 8) (by simp) (hL 12 (by omega))
        rw [ha]
        simp only [mendAll, Option.getD_some, Option.getD_none, Option.map_some, putAll, Act.put, List.setIfInBounds_toArray, List.set_cons_zero, List.set_cons_succ]
        change ((RLay (gm + 1) m0.frames.length fs1 9)) 8 (ac.tmps.getD 61 undef) W at hF61
        generalize ac.tmps.getD 61 undef = us61 at *
        change ((RLay (gm + 1) m0.frames.length fs1 9)) 9 (ac.tmps.getD 52 undef) W at hF52
        generalize ac.tmps.getD 52 undef = us52 at *
        change ((RLay (gm + 1) m0.frames.length fs1 9)) 10 (ac.tmps.getD 62 undef) W at hF62
        generalize ac.tmps.getD 62 undef = us62 at *
        change ((RLay (gm + 1) m0.frames.length fs1 9)) 12 (ac.tmps.getD 8 undef) W at hF8
        generalize ac.tmps.getD 8 undef = us8 at *
        clear ha hX hL
        obtain ⟨gL, cl, e8, hg, hcl, hw⟩ := hF8
        have e8 : us8 = .slice gL m0.frames.length cl := e8
        subst e8
        clear hF61 hF52 hF62
        have HVW := Lib.hid (HV.out.trans (hS.mono HV.out.size))
        have HXW := Lib.hid (HX0.out.below hS)
        have HW := Lib.hid hw
        have HG := Lib.hid hg
        have HCL := Lib.hid hcl
        clear hS hw hg hcl CC H4 H5 HLS SSP HSP
        go_upto_region 18 with (refine wpList_store_c rfl 22 (.tmp 67) (.tmp 66) rfl rfl gm 4 rfl (.slice gL m0.frames.length cl) rfl rfl rfl Tryz.size1s _ 31 HXW.out.box (by show 4 < 17; decide) ?_; intro w6 hw6 hk6)
        have HX6 := Lib.hid (HXW.out.lay (A' := gL) (c' := cl) HFS.out.symm HW.out (fun ad e => by have := HG.out ad e; omega) HCL.out HLL.out hw6.out hk6.out)
        have HV := Lib.hid (HVW.out.grown hk6.out (by have := HGM.out; have := HXW.out.box.lt; omega) (fun q e => by injection e with e; have := HGM.out; omega))
        clear hw6 hk6 HW HG HCL HLL HXW HVW HX0
        obtain ⟨c1, m1, p1, HX1, HF1⟩ : ∃ a' m' p', Hid (BX w6 gm a' m' p' fds2 [(1, [])]) ∧ Hid (m'.frames[0]? = some (putF f 4 s) ∧ ((putF f 4 s).drop 4).take s.length = s) := ⟨_, _, _, HX6, HPF⟩
        clear HX6 HPF HFS
        generalize putF f 4 s = f1 at *
        have LM := Lib.hid HX1.out.box.reads
        have SMC : Hid (∀ (x : MA) (y : Mc), (Tryz.prog.info? 31).map (·.size) = some (mcL x y).length) := Lib.hid fun _ _ => Tryz.sizeMc
        have CC := Lib.hid (call_any w6 c1 m1 p1 HX1.out.ls.good HX1.out.ls.st HX1.out.at' 3 4 (s.length : Int) (by unfold inU32; first | decide | omega) (by unfold inU32; first | decide | omega) (by unfold inU32; first | decide | omega))
        have HL := Lib.hid (HX1.out.ls.arg (x0 := 3) (x1 := 4) (x2 := (s.length : Int)) (by unfold inU32; first | decide | omega) (by unfold inU32; first | decide | omega) (by unfold inU32; first | decide | omega))
        have HR := Lib.hid (argP_reg HX1.out.ls.good.ok 3 4 (s.length : Int))
        go_wp2_with (first
          | (refine wpList_load_at rfl 31 (.tmp 3) rfl ⟨gm, 0, none⟩ rfl (mcL c1 m1) _ LM.out Tryz.underlying31 rfl (SMC.out c1 m1) ?_; simp only [Act.put, List.setIfInBounds_toArray, List.set_cons_zero, List.set_cons_succ])
          | (refine wpList_build rfl 51 #[(0, .const (.int .u32 3)), (1, .const (.int .u32 4)), (2, .tmp 72)] rfl #[(0, .int .u32 3), (1, .int .u32 4), (2, .int .u32 (s.length : Int))] (by simp only [List.map_toArray, List.map_cons, List.map_nil]; rfl) _ (build_a3 _ _ _ _) ?_; simp only [Act.put, List.setIfInBounds_toArray, List.set_cons_zero, List.set_cons_succ]))
        refine CC.out.mono ?_
        rintro e w71 ⟨⟨a2, rfl, hA, _⟩, hb⟩
        dsimp only
        have HV1 := Lib.hid (HV.out.trans (hb.mono HV.out.size))
        have HB1 := Lib.hid (HX1.out.box.below hb HX1.out.box.lt)
        have CD := Lib.hid (do_wpipe HL.out hA HS.out.1 HS.out.2 HF1.out.1 HF1.out.2 HR.out.1 HR.out.2.1 HR.out.2.2)
        clear hA hb CC LM HV HR
        go_wp2_with fail
        refine CD.out.mono ?_
        rintro e w72 ⟨⟨b, rfl, hA, hM, hap, _⟩, hg, hb⟩
        dsimp only
        have HV2 := Lib.hid (HV1.out.trans (hb.mono HV1.out.size))
        have HB2 := Lib.hid (HB1.out.below hb HB1.out.lt)
        have HMB := Lib.hid (hM.ne HB1.out.lt)
        have HA2 := Lib.hid hA
        have HAP := Lib.hid hap
        have HG := Lib.hid hg
        clear hA hM hap hg hb CD HV1 HB1
        go_upto_region 19 with (refine wpList_store_all rfl 31 (.tmp 3) (.tmp 76) rfl rfl gm rfl (mcL b { m1 with pipes := [(1, s)], procs := [((argP p1 3 4 (s.length : Int) 3).reg 1 (s.length : Int))] }) rfl (SMC.out _ _) (mcL c1 m1) 31 HB2.out rfl (mcL_one _ _) ?_; intro w7 hw hk)
        have HV := Lib.hid (HV2.out.grown hk.out (by have := HGM.out; have := HB2.out.lt; omega) (fun q e => by injection e with e; have := HGM.out; omega))
        obtain ⟨c2, m2, p2, HX2, HE2⟩ : ∃ a' m' p', Hid (BX w7 gm a' m' p' fds2 [(1, s)]) ∧ Hid (p'.regs[1]? = some (s.length : Int)) := ⟨b, { m1 with pipes := [(1, s)], procs := [((argP p1 3 4 (s.length : Int) 3).reg 1 (s.length : Int))] }, ((argP p1 3 4 (s.length : Int) 3).reg 1 (s.length : Int)), Lib.hid ⟨⟨HG.out, HL.out.st, HL.out.pc, HL.out.sp, HL.out.fds, rfl, HL.out.fl, HL.out.fr, HL.out.inp, HL.out.fin⟩, hw.out, HA2.out.off HMB.out hk.out, HMB.out, HAP.out⟩, Lib.hid (reg_set HL.out.good.ok _)⟩
        clear hw hk HV2 HB2 HMB HA2 HAP HG HL SMC HX1
        obtain ⟨pb2, c5, hp⟩ := HX2.out.proc
        have k4 := hp w7 (Below.refl _ _) 4 _ (HX2.out.ls.reg1 HE2.out)
        clear hp
        go_upto_region 21 with (fail)
        clear c5 k4 HE2
        obtain ⟨f2, hf2, hl2⟩ := HX2.out.ls.frame (k := 1) (by decide)
        have HF2 := Lib.hid hf2
        have HK2 : Hid (1 < m2.frames.length ∧ f2.length = 128 ∧ 0 + s.length ≤ f2.length) := Lib.hid ⟨by rw [HX2.out.ls.fl]; decide, hl2, by omega⟩
        clear hf2 hl2
        have LM := Lib.hid HX2.out.box.reads
        have SMC : Hid (∀ (x : MA) (y : Mc), (Tryz.prog.info? 31).map (·.size) = some (mcL x y).length) := Lib.hid fun _ _ => Tryz.sizeMc
        have CC := Lib.hid (call_any w7 c2 m2 p2 HX2.out.ls.good HX2.out.ls.st HX2.out.at' 2 1920 128 (by unfold inU32; first | decide | omega) (by unfold inU32; first | decide | omega) (by unfold inU32; first | decide | omega))
        have HL := Lib.hid (HX2.out.ls.arg (x0 := 2) (x1 := 1920) (x2 := 128) (by unfold inU32; first | decide | omega) (by unfold inU32; first | decide | omega) (by unfold inU32; first | decide | omega))
        have HR := Lib.hid (argP_reg HX2.out.ls.good.ok 2 1920 128)
        go_wp2_with (first
          | (refine wpList_load_at rfl 31 (.tmp 3) rfl ⟨gm, 0, none⟩ rfl (mcL c2 m2) _ LM.out Tryz.underlying31 rfl (SMC.out c2 m2) ?_; simp only [Act.put, List.setIfInBounds_toArray, List.set_cons_zero, List.set_cons_succ])
          | (refine wpList_build rfl 51 #[(0, .const (.int .u32 2)), (1, .const (.int .u32 1920)), (2, .const (.int .u32 128))] rfl #[(0, .int .u32 2), (1, .int .u32 1920), (2, .int .u32 128)] (by simp only [List.map_toArray, List.map_cons, List.map_nil]; rfl) _ (build_a3 _ _ _ _) ?_; simp only [Act.put, List.setIfInBounds_toArray, List.set_cons_zero, List.set_cons_succ]))
        refine CC.out.mono ?_
        rintro e w81 ⟨⟨a3, rfl, hA, _⟩, hb⟩
        dsimp only
        have HV1 := Lib.hid (HV.out.trans (hb.mono HV.out.size))
        have HB1 := Lib.hid (HX2.out.box.below hb HX2.out.box.lt)
        have CD := Lib.hid (do_rpipe HL.out hA HS.out.1 HS.out.2 HF2.out HR.out.1 HR.out.2.1 HR.out.2.2)
        clear hA hb CC LM HV HR
        go_wp2_with fail
        refine CD.out.mono ?_
        rintro e w82 ⟨⟨b, rfl, hA, hM, hap, _⟩, hg, hb⟩
        dsimp only
        have HV2 := Lib.hid (HV1.out.trans (hb.mono HV1.out.size))
        have HB2 := Lib.hid (HB1.out.below hb HB1.out.lt)
        have HMB := Lib.hid (hM.ne HB1.out.lt)
        have HA2 := Lib.hid hA
        have HAP := Lib.hid hap
        have HG := Lib.hid hg
        clear hA hM hap hg hb CD HV1 HB1
        go_upto_region 22 with (refine wpList_store_all rfl 31 (.tmp 3) (.tmp 94) rfl rfl gm rfl (mcL b { m2 with pipes := [(1, [])], frames := m2.frames.set 1 (putF f2 0 s), procs := [((argP p2 2 1920 128 3).reg 1 (s.length : Int))] }) rfl (SMC.out _ _) (mcL c2 m2) 31 HB2.out rfl (mcL_one _ _) ?_; intro w8 hw hk)
        have HV := Lib.hid (HV2.out.grown hk.out (by have := HGM.out; have := HB2.out.lt; omega) (fun q e => by injection e with e; have := HGM.out; omega))
        obtain ⟨c3, m3, p3, HX3, HE3⟩ : ∃ a' m' p', Hid (BX w8 gm a' m' p' fds2 [(1, [])]) ∧ Hid (p'.regs[1]? = some (s.length : Int) ∧ m'.frames[1]? = some (putF f2 0 s) ∧ ((putF f2 0 s).drop 0).take s.length = s) := ⟨b, { m2 with pipes := [(1, [])], frames := m2.frames.set 1 (putF f2 0 s), procs := [((argP p2 2 1920 128 3).reg 1 (s.length : Int))] }, ((argP p2 2 1920 128 3).reg 1 (s.length : Int)), Lib.hid ⟨⟨HG.out, HL.out.st, HL.out.pc, HL.out.sp, HL.out.fds, rfl, (by show (m2.frames.set 1 _).length = 4; rw [List.length_set]; exact HL.out.fl), (fun x hx => (List.mem_or_eq_of_mem_set hx).elim (HL.out.fr x) (fun e => by rw [e, putF_length HK2.out.2.2]; exact HK2.out.2.1)), HL.out.inp, HL.out.fin⟩, hw.out, HA2.out.off HMB.out hk.out, HMB.out, HAP.out⟩, Lib.hid (⟨reg_set HL.out.good.ok _, by show (m2.frames.set 1 _)[1]? = _; rw [List.getElem?_set_self HK2.out.1], putF_get HK2.out.2.2⟩)⟩
        clear hw hk HV2 HB2 HMB HA2 HAP HG HL SMC HX2
        have H4 : Hid (∀ W, Below w8.heap.size w8 W → W.cell? ⟨gm, 4, none⟩ = some (.slice c3.F m3.frames.length c3.cF)) := Lib.hid fun W hS => (HX3.out.below hS).box.cell 4
        obtain ⟨pb, c5, hp⟩ := HX3.out.proc
        have H5 : Hid (∀ W, Below w8.heap.size w8 W → W.cell? ⟨gm, 5, none⟩ = some (.slice (some ⟨pb, 0, none⟩) 1 c3.cP)) := Lib.hid fun W hS => (hS.cell (by show gm < _; exact HX3.out.box.lt)).trans c5
        have HLS : Hid (∀ W, Below w8.heap.size w8 W → ∀ j v, (pgCells sp0)[j]? = some v → W.cell? ((⟨pb, 20, none⟩ : Addr).add j) = some v) := Lib.hid fun W hS j v h => by
          have hj : j < 48 := by have := (List.getElem?_eq_some_iff.1 h).1; rwa [pgCells_length] at this
          have := hp W hS (20 + j) v (by rw [pr_space HX3.out.ls.good.ok hj, HX3.out.ls.sp]; exact h)
          rwa [show (⟨pb, 20, none⟩ : Addr).add j = ⟨pb, 20 + j, none⟩ by unfold Addr.add; split <;> simp_all]
        have SSP : Hid ((Tryz.prog.info? 42).map (·.size) = some (pgCells sp0).length) := Lib.hid (by rw [pgCells_length]; exact Tryz.sizeSpace)
        have HSP : Hid (Spot sp0 m3.frames 1920 s.length 1 0 (putF f2 0 s)) := Lib.hid (by
          obtain ⟨f', h'⟩ := HX3.out.ls.spot15 (n := s.length) (by omega)
          have := h'.frm; rw [HE3.out.2.1] at this; injection this with this; subst this; rw [← HX3.out.ls.sp]; exact h')
        have CC : Hid (∀ W, Below w8.heap.size w8 W → Calls Tryz.prog 9 #[.slice c3.F m3.frames.length c3.cF, .agg (pgCells sp0).toArray, .int .u32 1920, .int .i64 (s.length : Int)] W fun e w' => e = .returned (.tuple #[S s, .bool true]) ∧ Below W.heap.size W w') := Lib.hid fun W hS => by
          have := rcopy_any W c3.F c3.cF sp0 m3.frames 1920 s.length 1 0 (putF f2 0 s) HSP.out (HX3.out.below hS).at'.F
          rwa [HE3.out.2.2] at this
        have K4 : Hid (∀ W, Below w8.heap.size w8 W → W.cell? ⟨pb, 4, none⟩ = some (.int .u32 (s.length : Int))) := Lib.hid fun W hS => hp W hS 4 _ (HX3.out.ls.reg1 HE3.out.1)
        clear c5 hp
        go_upto_region 22 with (fail)
        refine' wp_region_sure (by kernel_rfl) (fun W => Below w8.heap.size w8 W) 15 [_, _, _, _, _, _, _, _, _, _, _, _, _, _, _] [some 97, some 98, some 99, some 100, some 101, some 102, some 103, some 104, some 105, some 106, some 96, some 107, some 108, some 10, some 11] (by kernel_rfl) (by kernel_rfl) (by kernel_rfl) (by kernel_rfl) rfl (Below.refl _ _).drew ?hs2
        case hs2 =>
          refine sure_cons ?_ ?_
          · intro L ac W K hed hJ hS hK
            have hA3 : ac.eval (.tmp 3) = .pointer (some ⟨gm, 0, none⟩) := hJ.eval_old 3 (by kernel_rfl)
            clear hed hJ
            refine opStep_of rfl ?_
            unfold Oper.wp execOp
            have hN3 := evalN hA3
            go_simp
            exact hK _ hS
          refine sure_cons ?_ ?_
          · intro L ac W K hed hJ hS hK
            have hn := needs_spec (l := [0]) (by kernel_rfl) hed
            have hA97 := hJ.eval 0 (d := 97) (hn 0 (by simp)) rfl rfl rfl
            clear hed hJ hn
            refine opStep_of rfl ?_
            have cc := H4.out W hS
            unfold Oper.wp execOp
            have hN97 := evalN hA97
            go_simp
            exact hK _ hS
          refine sure_cons ?_ ?_
          · intro L ac W K hed hJ hS hK
            have hA3 : ac.eval (.tmp 3) = .pointer (some ⟨gm, 0, none⟩) := hJ.eval_old 3 (by kernel_rfl)
            clear hed hJ
            refine opStep_of rfl ?_
            unfold Oper.wp execOp
            have hN3 := evalN hA3
            go_simp
            exact hK _ hS
          refine sure_cons ?_ ?_
          · intro L ac W K hed hJ hS hK
            have hn := needs_spec (l := [2]) (by kernel_rfl) hed
            have hA99 := hJ.eval 2 (d := 99) (hn 2 (by simp)) rfl rfl rfl
            clear hed hJ hn
            refine opStep_of rfl ?_
            have cc := H5.out W hS
            unfold Oper.wp execOp
            have hN99 := evalN hA99
            go_simp
            exact hK _ hS
          refine sure_cons ?_ ?_
          · intro L ac W K hed hJ hS hK
            have hn := needs_spec (l := [3]) (by kernel_rfl) hed
            have hA100 := hJ.eval 3 (d := 100) (hn 3 (by simp)) rfl rfl rfl
            clear hed hJ hn
            refine opStep_of rfl ?_
            unfold Oper.wp execOp
            have hN100 := evalN hA100
            go_simp
            exact hK _ hS
          refine sure_cons ?_ ?_
          · intro L ac W K hed hJ hS hK
            have hn := needs_spec (l := [4]) (by kernel_rfl) hed
            have hA101 := hJ.eval 4 (d := 101) (hn 4 (by simp)) rfl rfl rfl
            clear hed hJ hn
            refine opStep_of rfl ?_
            unfold Oper.wp execOp
            have hN101 := evalN hA101
            go_simp
            exact hK _ hS
          refine sure_cons ?_ ?_
          · intro L ac W K hed hJ hS hK
            have hn := needs_spec (l := [5]) (by kernel_rfl) hed
            have hA102 := hJ.eval 5 (d := 102) (hn 5 (by simp)) rfl rfl rfl
            clear hed hJ hn
            refine opStep_of rfl ?_
            refine oper_load_at 42 (.tmp 102) rfl ⟨pb, 20, none⟩ hA102 (pgCells sp0) _ (HLS.out W hS) Tryz.underlying42 rfl SSP.out ?_
            exact hK _ hS
          refine sure_cons ?_ ?_
          · intro L ac W K hed hJ hS hK
            have hA7 : ac.eval (.tmp 7) = S s := hJ.eval_old 7 (by kernel_rfl)
            clear hed hJ
            refine opStep_of rfl ?_
            unfold Oper.wp execOp
            have hN7 := evalN hA7
            go_simp
            exact hK _ hS
          refine sure_cons ?_ ?_
          · intro L ac W K hed hJ hS hK
            have hn := needs_spec (l := [7]) (by kernel_rfl) hed
            have hA104 := hJ.eval 7 (d := 104) (hn 7 (by simp)) rfl rfl rfl
            clear hed hJ hn
            refine opStep_of rfl ?_
            unfold Oper.wp execOp
            have hN104 := evalN hA104
            go_simp
            exact hK _ hS
          refine sure_cons ?_ ?_
          · intro L ac W K hed hJ hS hK
            have hn := needs_spec (l := [1, 6, 8]) (by kernel_rfl) hed
            have hA98 := hJ.eval 1 (d := 98) (hn 1 (by simp)) rfl rfl rfl
            have hA103 := hJ.eval 6 (d := 103) (hn 6 (by simp)) rfl rfl rfl
            have hA105 := hJ.eval 8 (d := 105) (hn 8 (by simp)) rfl rfl rfl
            clear hed hJ hn
            refine opStep_of rfl ?_
            unfold Oper.wp execOp
            have hN98 := evalN hA98
            have hN103 := evalN hA103
            have hN105 := evalN hA105
            go_simp
            refine (CC.out W hS).mono ?_
            rintro e W' ⟨rfl, hb⟩
            have hS2 := hS.trans (hb.mono hS.size)
            dsimp only
            exact hK W' hS2
          refine sure_cons ?_ ?_
          · intro L ac W K hed hJ hS hK
            have hn := needs_spec (l := [9]) (by kernel_rfl) hed
            have hA106 := hJ.eval 9 (d := 106) (hn 9 (by simp)) rfl rfl rfl
            clear hed hJ hn
            refine opStep_of rfl ?_
            unfold Oper.wp execOp
            have hN106 := evalN hA106
            go_simp
            exact hK _ hS
          refine sure_cons ?_ ?_
          · intro L ac W K hed hJ hS hK
            have hn := needs_spec (l := [10]) (by kernel_rfl) hed
            have hA96 := hJ.eval 10 (d := 96) (hn 10 (by simp)) rfl rfl rfl
            clear hed hJ hn
            refine opStep_of rfl ?_
            unfold Oper.wp execOp
            have hN96 := evalN hA96
            go_simp
            exact hK _ hS
          refine sure_cons ?_ ?_
          · intro L ac W K hed hJ hS hK
            have hn := needs_spec (l := [10]) (by kernel_rfl) hed
            have hA96 := hJ.eval 10 (d := 96) (hn 10 (by simp)) rfl rfl rfl
            clear hed hJ hn
            refine opStep_of rfl ?_
            unfold Oper.wp execOp
            have hN96 := evalN hA96
            go_simp
            exact hK _ hS
          refine sure_cons ?_ ?_
          · intro L ac W K hed hJ hS hK
            have hn := needs_spec (l := [11]) (by kernel_rfl) hed
            have hA107 := hJ.eval 11 (d := 107) (hn 11 (by simp)) rfl rfl rfl
            clear hed hJ hn
            refine opStep_of rfl ?_
            unfold Oper.wp execOp
            have hN107 := evalN hA107
            go_simp
            exact hK _ hS
          refine sure_cons ?_ ?_
          · intro L ac W K hed hJ hS hK
            have hn := needs_spec (l := [12]) (by kernel_rfl) hed
            have hA108 := hJ.eval 12 (d := 108) (hn 12 (by simp)) rfl rfl rfl
            clear hed hJ hn
            refine opStep_of rfl ?_
            unfold Oper.wp execOp
            have hN108 := evalN hA108
            go_simp
            exact hK _ hS
          refine sure_nil ?_
          intro W hS
          simp only [putAll, Act.put, List.setIfInBounds_toArray, List.set_cons_zero, List.set_cons_succ]
          have HX4 := Lib.hid (HX3.out.below hS)
          have HV4 := Lib.hid (HV.out.trans (hS.mono HV.out.size))
          have c5 := H5.out W hS
          have k4 := K4.out W hS
          clear hS H4 H5 HLS SSP CC K4 HSP HE3 HX3 HV
          go_wp2_with fail
          go_roundw
          case rel =>
            have R : ∃ (kk : Nat) (c0 : MA) (m0 : Mc) (p0 : Pr), kk ≤ l.length ∧ Value.int .i64 ((k : Int) + 1) = .int .i64 (kk : Int) ∧ Hid (BX W gm c0 m0 p0 fds2 [(1, [])]) ∧ Hid (Below w.heap.size w W) := ⟨k + 1, c3, m3, p3, by omega, rfl, HX4, HV4⟩
            first | exact R | ((repeat apply Exists.intro); exact ⟨R, rfl⟩)
          case measure => simp [intOf]; omega
    · obtain rfl : k = l.length := by omega
      have hd : decide (l.length < l.length) = false := by simp
      have LM := Lib.hid HX0.out.box.reads
      have SMC : Hid (∀ (x : MA) (y : Mc), (Tryz.prog.info? 31).map (·.size) = some (mcL x y).length) := Lib.hid fun _ _ => Tryz.sizeMc
      have CC := Lib.hid (call_any wr c0 m0 p0 HX0.out.ls.good HX0.out.ls.st HX0.out.at' 3 0 0 (by unfold inU32; first | decide | omega) (by unfold inU32; first | decide | omega) (by unfold inU32; first | decide | omega))
      have HL := Lib.hid (HX0.out.ls.arg (x0 := 3) (x1 := 0) (x2 := 0) (by unfold inU32; first | decide | omega) (by unfold inU32; first | decide | omega) (by unfold inU32; first | decide | omega))
      have HR := Lib.hid (argP_reg HX0.out.ls.good.ok 3 0 0)
      go_wp2_with (first
        | (refine wpList_load_at rfl 31 (.tmp 3) rfl ⟨gm, 0, none⟩ rfl (mcL c0 m0) _ LM.out Tryz.underlying31 rfl (SMC.out c0 m0) ?_; simp only [Act.put, List.setIfInBounds_toArray, List.set_cons_zero, List.set_cons_succ])
        | (refine wpList_build rfl 51 #[(0, .const (.int .u32 3)), (1, .const (.int .u32 0)), (2, .const (.int .u32 0))] rfl #[(0, .int .u32 3), (1, .int .u32 0), (2, .int .u32 0)] (by simp only [List.map_toArray, List.map_cons, List.map_nil]; rfl) _ (build_a3 _ _ _ _) ?_; simp only [Act.put, List.setIfInBounds_toArray, List.set_cons_zero, List.set_cons_succ]))
      refine CC.out.mono ?_
      rintro e w61 ⟨⟨a1, rfl, hA, _⟩, hb⟩
      dsimp only
      have HV1 := Lib.hid (HV.out.trans (hb.mono HV.out.size))
      have HB1 := Lib.hid (HX0.out.box.below hb HX0.out.box.lt)
      have CD := Lib.hid (do_close HL.out hA HR.out.1)
      clear hA hb CC LM HV HR
      go_wp2_with fail
      refine CD.out.mono ?_
      rintro e w62 ⟨⟨b, rfl, hA, hM, hap, _⟩, hg, hb⟩
      dsimp only
      have HV2 := Lib.hid (HV1.out.trans (hb.mono HV1.out.size))
      have HB2 := Lib.hid (HB1.out.below hb HB1.out.lt)
      have HMB := Lib.hid (hM.ne HB1.out.lt)
      have HA2 := Lib.hid hA
      have HAP := Lib.hid hap
      have HG := Lib.hid hg
      clear hA hM hap hg hb CD HV1 HB1
      go_upto_region 27 with (refine wpList_store_all rfl 31 (.tmp 3) (.tmp 135) rfl rfl gm rfl (mcL b { m0 with procs := [(((argP p0 3 0 0 3).fdSet 3 ⟨0, 0, 0⟩).reg 1 0)] }) rfl (SMC.out _ _) (mcL c0 m0) 31 HB2.out rfl (mcL_one _ _) ?_; intro w6 hw hk)
      have HV := Lib.hid (HV2.out.grown hk.out (by have := HGM.out; have := HB2.out.lt; omega) (fun q e => by injection e with e; have := HGM.out; omega))
      obtain ⟨c1, m1, p1, HX1, HE1⟩ : ∃ a' m' p', Hid (BX w6 gm a' m' p' fds3 [(1, [])]) ∧ Hid (True) := ⟨b, { m0 with procs := [(((argP p0 3 0 0 3).fdSet 3 ⟨0, 0, 0⟩).reg 1 0)] }, (((argP p0 3 0 0 3).fdSet 3 ⟨0, 0, 0⟩).reg 1 0), Lib.hid ⟨⟨HG.out, HL.out.st, HL.out.pc, HL.out.sp, (by show (argP p0 3 0 0 3).fds.set 3 ⟨0, 0, 0⟩ = fds3; rw [HL.out.fds]; rfl), HL.out.qs, HL.out.fl, HL.out.fr, HL.out.inp, HL.out.fin⟩, hw.out, HA2.out.off HMB.out hk.out, HMB.out, HAP.out⟩, Lib.hid (trivial)⟩
      clear hw hk HV2 HB2 HMB HA2 HAP HG HL SMC HX0
      have LM := Lib.hid HX1.out.box.reads
      have SMC : Hid (∀ (x : MA) (y : Mc), (Tryz.prog.info? 31).map (·.size) = some (mcL x y).length) := Lib.hid fun _ _ => Tryz.sizeMc
      have CC := Lib.hid (call_any w6 c1 m1 p1 HX1.out.ls.good HX1.out.ls.st HX1.out.at' 2 0 9 (by unfold inU32; first | decide | omega) (by unfold inU32; first | decide | omega) (by unfold inU32; first | decide | omega))
      have HL := Lib.hid (HX1.out.ls.arg (x0 := 2) (x1 := 0) (x2 := 9) (by unfold inU32; first | decide | omega) (by unfold inU32; first | decide | omega) (by unfold inU32; first | decide | omega))
      have HR := Lib.hid (argP_reg HX1.out.ls.good.ok 2 0 9)
      go_wp2_with (first
        | (refine wpList_load_at rfl 31 (.tmp 3) rfl ⟨gm, 0, none⟩ rfl (mcL c1 m1) _ LM.out Tryz.underlying31 rfl (SMC.out c1 m1) ?_; simp only [Act.put, List.setIfInBounds_toArray, List.set_cons_zero, List.set_cons_succ])
        | (refine wpList_build rfl 51 #[(0, .const (.int .u32 2)), (1, .const (.int .u32 0)), (2, .const (.int .u32 9))] rfl #[(0, .int .u32 2), (1, .int .u32 0), (2, .int .u32 9)] (by simp only [List.map_toArray, List.map_cons, List.map_nil]; rfl) _ (build_a3 _ _ _ _) ?_; simp only [Act.put, List.setIfInBounds_toArray, List.set_cons_zero, List.set_cons_succ]))
      refine CC.out.mono ?_
      rintro e w71 ⟨⟨a2, rfl, hA, _⟩, hb⟩
      dsimp only
      have HV1 := Lib.hid (HV.out.trans (hb.mono HV.out.size))
      have HB1 := Lib.hid (HX1.out.box.below hb HX1.out.box.lt)
      have CD := Lib.hid (do_rend HL.out hA HR.out.1 HR.out.2.1 HR.out.2.2)
      clear hA hb CC LM HV HR
      go_wp2_with fail
      refine CD.out.mono ?_
      rintro e w72 ⟨⟨b, rfl, hA, hM, hap, _⟩, hg, hb⟩
      dsimp only
      have HV2 := Lib.hid (HV1.out.trans (hb.mono HV1.out.size))
      have HB2 := Lib.hid (HB1.out.below hb HB1.out.lt)
      have HMB := Lib.hid (hM.ne HB1.out.lt)
      have HA2 := Lib.hid hA
      have HAP := Lib.hid hap
      have HG := Lib.hid hg
      clear hA hM hap hg hb CD HV1 HB1
      go_upto_region 28 with (refine wpList_store_all rfl 31 (.tmp 3) (.tmp 142) rfl rfl gm rfl (mcL b { m1 with procs := [((argP p1 2 0 9 3).reg 1 0)] }) rfl (SMC.out _ _) (mcL c1 m1) 31 HB2.out rfl (mcL_one _ _) ?_; intro w7 hw hk)
      have HV := Lib.hid (HV2.out.grown hk.out (by have := HGM.out; have := HB2.out.lt; omega) (fun q e => by injection e with e; have := HGM.out; omega))
      obtain ⟨c2, m2, p2, HX2, HE2⟩ : ∃ a' m' p', Hid (BX w7 gm a' m' p' fds3 [(1, [])]) ∧ Hid (p'.regs[1]? = some 0) := ⟨b, { m1 with procs := [((argP p1 2 0 9 3).reg 1 0)] }, ((argP p1 2 0 9 3).reg 1 0), Lib.hid ⟨⟨HG.out, HL.out.st, HL.out.pc, HL.out.sp, HL.out.fds, HL.out.qs, HL.out.fl, HL.out.fr, HL.out.inp, HL.out.fin⟩, hw.out, HA2.out.off HMB.out hk.out, HMB.out, HAP.out⟩, Lib.hid (reg_set HL.out.good.ok _)⟩
      clear hw hk HV2 HB2 HMB HA2 HAP HG HL SMC HX1
      obtain ⟨pb, c5, hp⟩ := HX2.out.proc
      have k4 := hp w7 (Below.refl _ _) 4 _ (HX2.out.ls.reg1 HE2.out)
      have k2 : w7.cell? ⟨pb, 2, none⟩ = some (.int .i64 1) := hp w7 (Below.refl _ _) 2 _ (by rw [← HX2.out.ls.st]; rfl)
      clear hp HE1 HE2
      go_wp2_with fail
      refine bodyPost_ret (v := .bool true) (by simp [results, Tryz.results3, go_sem]) rfl ?_
      exact ⟨rfl, HV.out⟩
end Go.Proofs.YtdhfblfnejmeiaaGreatDoor
