/-
  Walks: slices.Clone at texts, image.Of, hibernacleref32.raw, Of. (Printed by gen_restf.py.)
-/
import Derived.Test.YtmmfcjkabpffeaaGreatDoorRestE
import Derived.Test.YtmmfcjkabpffeaaGreatDoorRestI
import Derived.Test.YtmmfcjkabpffeaaGreatDoorChkFG
import Derived.Test.YtmmfcjkabpffeaaGreatDoorRChkF
import Derived.Test.YtmmfcjkabpffeaaGreatDoorSureA
import Derived.Deep.AppendLies
namespace Go.Proofs.YtmmfcjkabpffeaaGreatDoor
open Go.RowKit

set_option maxRecDepth 100000 in
set_option maxHeartbeats 1000000 in
theorem cloneS_any (w : World) (A : Option Addr) (c : Nat) (ls : List (List UInt8)) (hA : Strs w w.heap.size A ls) (hn : ls.length ≤ 1099511627776) :
    Calls Tryz.prog 30 #[.slice A ls.length c] w fun e w' => (∃ v, e = .returned v ∧ OwnS w' w.heap.size v ls) ∧ Below w.heap.size w w' := by
  obtain ⟨i0, hi0, hz0, hz1, hz2⟩ := info_parts Tryz.infoStr'
  cases A with
  | none =>
    have hls : ls = [] := by
      cases ls with
      | nil => rfl
      | cons l r => obtain ⟨ad, e, _⟩ := hA.at' (k := 0) (by simp); cases e
    subst hls
    have he : ∀ W : World, (binOp .eql 23 (.slice none 0 c) (.slice none 0 0)).run Tryz.prog W = .ok (.bool true) W := fun W => Lib.run_eql_slice_nil W 23 9 none 0 c 0 0 Tryz.underlying23
    go_enter Tryz.func30, Tryz.ntmps30
    go_wp2
    go_ret
    exact ⟨⟨_, rfl, World.ownsRow_nil _ _ _ _⟩, Below.refl _ _⟩
  | some ad =>
    have he : ∀ W : World, (binOp .eql 23 (.slice (some ad) ls.length c) (.slice none 0 0)).run Tryz.prog W = .ok (.bool false) W := fun W => Lib.run_eql_slice_nil W 23 9 (some ad) ls.length c 0 0 Tryz.underlying23
    have HN : Hid (∀ j u, (ls.map S)[j]? = some u → (w.alloc (.cells #[] 9)).cell? (ad.add j) = some u) := Lib.hid (fun j u hu => by
      obtain ⟨ad', e, hb, hc⟩ := hA j u hu
      injection e with e; subst e
      rw [← hc]; exact World.cell?_alloc_lt w _ _ (by rw [add_block]; exact hb))
    have HO : Hid ((w.alloc (.cells #[] 9)).ownsRow w.heap.size 9 1 (.slice (some ⟨w.heap.size, 0, none⟩) 0 0) 0 []) := Lib.hid (World.ownsRow_lit w #[] 0 (Nat.le_refl _) (by unfold maxLen; omega) rfl)
    have H63 : Hid (0 + ls.length ≤ maxLen) := Lib.hid (by unfold maxLen; omega)
    have HBY : Hid ((0 + ls.length) * 16 ≤ 140737488355328) := Lib.hid (by omega)
    have HBA : Hid (w.heap.size ≤ (w.alloc (.cells #[] 9)).heap.size) := Lib.hid (by simp)
    clear hA
    go_enter Tryz.func30, Tryz.ntmps30
    go_wp2_with (at_builtin; refine wpList_append_own _ rfl (.tmp 5) (.tmp 6) 23 rfl w.heap.size 9 i0 _ 1 16 Tryz.underlying23 hi0 hz0 hz1 hz2 rfl (by decide) _ _ _ rfl HO.out ad ls.length c (ls.map S) rfl (by simp) HN.out (S_one _) H63.out HBY.out HBA.out ?_; intro v' w1 hown' hgrow _)
    go_ret
    refine ⟨⟨_, rfl, by simpa using hown'⟩, ?_⟩
    exact ((Below.refl _ _).alloc (Nat.le_refl _) _).grown hgrow HBA.out (own_ge HO.out)

theorem lies_ne {w : World} {A : Option Addr} {xs : List Value} {p : Addr} {u : Value} (h : Lies w w.heap.size A xs) (hg : ∀ ad, A = some ad → ad.block ≠ p.block) : Lies (w.setCell p u) (w.setCell p u).heap.size A xs := fun k v hv => by
  obtain ⟨ad, e, hb, hc⟩ := h k v hv
  refine ⟨ad, e, by simpa [World.setCell] using hb, ?_⟩
  rw [World.cell?_setCell_other _ _ _ _ (fun e2 => hg ad e (by rw [e2, add_block]))]
  exact hc
theorem lies_ne3 {w : World} {A : Option Addr} {xs : List Value} {q : Nat} {a b c : Value} (h : Lies w w.heap.size A xs) (hg : ∀ ad, A = some ad → ad.block ≠ q) :
    Lies (((w.setCell ⟨q, 0, none⟩ a).setCell ⟨q, 1, none⟩ b).setCell ⟨q, 2, none⟩ c) (((w.setCell ⟨q, 0, none⟩ a).setCell ⟨q, 1, none⟩ b).setCell ⟨q, 2, none⟩ c).heap.size A xs :=
  lies_ne (lies_ne (lies_ne h hg) hg) hg
theorem below_set3 {B p : Nat} {w0 w : World} {a' b' c' : Value} (h : Below B w0 w) (hp : B ≤ p) : Below B w0 (((w.setCell ⟨p, 0, none⟩ a').setCell ⟨p, 1, none⟩ b').setCell ⟨p, 2, none⟩ c') := ((h.setCell (p := ⟨p, 0, none⟩) hp a').setCell (p := ⟨p, 1, none⟩) hp b').setCell (p := ⟨p, 2, none⟩) hp c'
/-- a machine's pages, blocks and rest as its image has them: nothing where it may not be -/
def imF (m : Mc) : List (List UInt8) := if checkE m = 0 then m.frames else []
def imB (m : Mc) : List (List UInt8) := if checkE m = 0 then m.blocks else []
def imR (m : Mc) : List UInt8 := if checkE m = 0 then restB m else []
/-- a slice of texts that lies apart from the block q -/
def IsStrs (q : Nat) (W : World) (v : Value) (ls : List (List UInt8)) : Prop := ∃ A c, v = .slice A ls.length c ∧ Strs W W.heap.size A ls ∧ ∀ ad, A = some ad → q < ad.block
theorem IsStrs.below {q : Nat} {W W' : World} {v : Value} {ls : List (List UInt8)} (h : IsStrs q W v ls) (hb : Below W.heap.size W W') : IsStrs q W' v ls := by
  obtain ⟨A, c, e, hl, hg⟩ := h
  exact ⟨A, c, e, (Lies.below hl hb).wide hb.size, hg⟩
def twoL (fs bs : List (List UInt8)) : Nat → List (List UInt8)
  | 2 => fs
  | _ => bs
/-- what Of gives back -/
def ImgPost (w : World) (fs bs : List (List UInt8)) (r : List UInt8) (e : Ending) (w' : World) : Prop :=
  (∃ A c B d, e = .returned (.agg #[.slice A fs.length c, .slice B bs.length d, S r]) ∧ Strs w' w'.heap.size A fs ∧ Strs w' w'.heap.size B bs) ∧ Below w.heap.size w w'
/-- and in a memory of its own -/
def ImgNew (w : World) (fs bs : List (List UInt8)) (r : List UInt8) (e : Ending) (w' : World) : Prop :=
  (∃ A c B d, e = .returned (.agg #[.slice A fs.length c, .slice B bs.length d, S r]) ∧ Strs w' w'.heap.size A fs ∧ Strs w' w'.heap.size B bs ∧ (∀ ad, A = some ad → w.heap.size ≤ ad.block) ∧ (∀ ad, B = some ad → w.heap.size ≤ ad.block)) ∧ Below w.heap.size w w'
set_option maxRecDepth 100000 in
set_option maxHeartbeats 4000000 in
theorem imageOf_any (w : World) (a : MA) (m : Mc) (hm : McOk m) (hpn : m.pend.length ≤ 4096) (hA : MAt w w.heap.size a m) (hT : STabs w) :
    Calls Tryz.prog 10 #[.agg (mcL a m).toArray] w fun e w' => ImgNew w (imF m) (imB m) (imR m) e w' := by
  have hs0 := (Whole.made w 30 (mcL a m).toArray).block (.cells #[.slice none 0 0, .slice none 0 0, S []] 36)
  have hs1 := Whole.made (w.alloc (.cells (mcL a m).toArray 30)) 36 #[.slice none 0 0, .slice none 0 0, S []]
  rw [show (w.alloc (.cells (mcL a m).toArray 30)).heap.size = w.heap.size + 1 by simp] at hs1
  have hb : Below w.heap.size w ((w.alloc (.cells (mcL a m).toArray 30)).alloc (.cells #[.slice none 0 0, .slice none 0 0, S []] 36)) := ((Below.refl _ _).alloc (by first | exact Nat.le_refl _ | simp | (simp; omega)) _).alloc (by first | exact Nat.le_refl _ | simp | (simp; omega)) _
  go_enter Tryz.func10, Tryz.ntmps10
  go_upto_region 1 with (fail)
  change Code.wp _ _ _ _ ((w.alloc (.cells (mcL a m).toArray 30)).alloc (.cells #[.slice none 0 0, .slice none 0 0, S []] 36))
  generalize ((w.alloc (.cells (mcL a m).toArray 30)).alloc (.cells #[.slice none 0 0, .slice none 0 0, S []] 36)) = w1 at *
  generalize hgx : w.heap.size = gx at *
  have HGX := Lib.hid hgx
  have HS0 := Lib.hid hs0
  have HS1 := Lib.hid hs1
  have HW := Lib.hid hb
  have hgl : gx + 1 < w1.heap.size := hs1.lt
  clear hgx hb hs0 hs1
  have HA := Lib.hid (hA.below HW.out)
  have HM := Lib.hid hm
  have HMA : Hid (∀ W, Below w1.heap.size w1 W → MAt W W.heap.size a m) := Lib.hid fun W hW => (HA.out.below (hW.mono (by omega))).wide (by have := hW.size; omega)
  have HC : Hid (∀ W, Below w1.heap.size w1 W → Whole W gx 30 (mcL a m).toArray) := Lib.hid fun W hW => HS0.out.below hW (by omega)
  have HLM : Hid (∀ W, Below w1.heap.size w1 W → ∀ j v, (mcL a m)[j]? = some v → W.cell? ((⟨gx, 0, none⟩ : Addr).add j) = some v) := Lib.hid fun W hW => (HS0.out.below hW (by omega)).reads
  have MI : Hid ((Tryz.prog.info? 30).map (·.size) = some (mcL a m).length) := Lib.hid (by rw [mcL_length]; exact Tryz.sizeMc)
  have HTW : Hid (∀ W, Below w1.heap.size w1 W → STabs W) := Lib.hid fun W hW => hT.below (B := gx) (by rw [HGX.out]; exact Nat.le_refl _) (HW.out.trans (hW.mono (by omega)))
  clear hT
  have CC := Lib.hid (check_any w1 a m hm (HMA.out w1 (Below.refl _ _)))
  have HPN := Lib.hid hpn
  have LM := Lib.hid (HLM.out w1 (Below.refl _ _))
  obtain ⟨ce, HCE⟩ : ∃ z, Hid (checkE m = z) := ⟨_, Lib.hid rfl⟩
  rw [HCE.out] at CC
  clear hm hA hpn
  go_wp2_with (refine wpList_load_at rfl 30 (.tmp 1) rfl ⟨gx, 0, none⟩ rfl (mcL a m) _ LM.out Tryz.underlying30 rfl MI.out ?_)
  refine CC.out.mono ?_
  rintro e w2 ⟨rfl, hb2⟩
  have HB2 := Lib.hid hb2
  clear hb2 CC LM
  by_cases hc : ce = 0
  · have HRO := Lib.hid (rest_ok (HCE.out.trans hc) (Nat.le_trans HPN.out (by decide)))
    obtain ⟨_, e2, _, _, _, e6⟩ := checkE_zero (HCE.out.trans hc)
    have hfl := (frames_zero e2).1
    have hbl := (drive_zero (vol_zero e6).1).1
    have hz2 := HB2.out.size
    obtain ⟨rr, HRR⟩ : ∃ z, Hid (restB m = z) := ⟨_, Lib.hid rfl⟩
    have HST : Hid (∀ j v W W', IsStrs (gx + 1) W v (twoL m.frames m.blocks j) → Below W.heap.size W W' → IsStrs (gx + 1) W' v (twoL m.frames m.blocks j)) := Lib.hid fun j v W W' h hb => h.below hb
    have CLN : Hid (∀ (W : World) (A : Option Addr) (c : Nat) (ls : List (List UInt8)), Strs W W.heap.size A ls → ls.length ≤ 1099511627776 → gx + 1 < W.heap.size → Calls Tryz.prog 30 #[.slice A ls.length c] W fun e w' => (∃ v, e = .returned v ∧ IsStrs (gx + 1) w' v ls) ∧ Below W.heap.size W w') := Lib.hid fun W A c ls h1 h2 h3 => (cloneS_any W A c ls h1 h2).mono fun e w' hh => by
      obtain ⟨⟨v, rfl, ho⟩, hb⟩ := hh
      obtain ⟨G, k, rfl, hG, hge⟩ := own_shape ho (by decide)
      exact ⟨⟨_, rfl, G, k, rfl, hG, fun ad h => Nat.lt_of_lt_of_le h3 (hge ad h)⟩, hb⟩
    have CF : Hid (∀ W, Below w2.heap.size w2 W → Calls Tryz.prog 30 #[.slice a.F m.frames.length a.cF] W fun e w' => (∃ v, e = .returned v ∧ IsStrs (gx + 1) w' v (twoL m.frames m.blocks 2)) ∧ Below W.heap.size W w') := Lib.hid fun W hS => CLN.out W a.F a.cF m.frames (HMA.out W (HB2.out.trans (hS.mono HB2.out.size))).F (by omega) (by have := hS.size; omega)
    have CL : Hid (∀ W, Below w2.heap.size w2 W → Calls Tryz.prog 30 #[.slice a.L m.blocks.length a.cL] W fun e w' => (∃ v, e = .returned v ∧ IsStrs (gx + 1) w' v (twoL m.frames m.blocks 6)) ∧ Below W.heap.size W w') := Lib.hid fun W hS => CLN.out W a.L a.cL m.blocks (HMA.out W (HB2.out.trans (hS.mono HB2.out.size))).L (by omega) (by have := hS.size; omega)
    have CR : Hid (∀ W, Below w2.heap.size w2 W → Calls Tryz.prog 31 #[.agg (mcL a m).toArray] W fun e w' => e = .returned (S rr) ∧ Below W.heap.size W w') := Lib.hid fun W hS => by
      have h := restOf_any W a m HM.out HRO.out (HMA.out W (HB2.out.trans (hS.mono HB2.out.size))) (HTW.out W (HB2.out.trans (hS.mono HB2.out.size)))
      rw [HRR.out] at h
      exact h
    subst hc
    go_upto_region 3 with (fail)
    clear hfl hbl e2 e6 CLN
    refine' wp_region_sureX (by kernel_rfl) (PostX w2 [(2, 9), (6, 13)] (fun j v W => IsStrs (gx + 1) W v (twoL m.frames m.blocks j))) 9 [some _, some _, none, some _, some _, some _, none, some _, some _] [some 7, some 8, some 9, some 10, some 11, some 12, some 13, some 14, some 15] (by kernel_rfl) (by kernel_rfl) (by kernel_rfl) (by kernel_rfl) rfl (PostX.init (Below.refl _ _).drew) ?hs1
    case hs1 =>
      refine sureX_cons ?_ ?_
      · intro L ac W K hLi hed hJ hX hK
        have hS := hX.1
        have hA1 : ac.eval (.tmp 1) = .pointer (some ⟨gx, 0, none⟩) := hJ.eval_old 1 (by kernel_rfl)
        have hsz := Lib.hid hJ.size
        clear hLi hed hJ
        refine opStep_of rfl ?_
        unfold Oper.wp execOp
        have hN1 := evalN hA1
        go_simp
        refine hK _ _ ?_ (hX.step HST.out (Below.refl _ _) rfl rfl)
        exact Knows.known _
      refine sureX_cons ?_ ?_
      · intro L ac W K hLi hed hJ hX hK
        have hS := hX.1
        have hn := needs_spec (l := [0]) (by kernel_rfl) hed
        have hA7 := hJ.eval 0 (d := 7) (hn 0 (by simp)) rfl rfl rfl
        have hsz := Lib.hid hJ.size
        clear hLi hed hJ hn
        refine opStep_of rfl ?_
        have cc : W.cell? ⟨gx, 4, none⟩ = some (.slice a.F m.frames.length a.cF) := (HC.out W (HB2.out.trans (hS.mono HB2.out.size))).cell 4
        unfold Oper.wp execOp
        have hN7 := evalN hA7
        go_simp
        refine hK _ _ ?_ (hX.step HST.out (Below.refl _ _) rfl rfl)
        exact Knows.known _
      refine sureX_cons ?_ ?_
      · intro L ac W K hLi hed hJ hX hK
        have hS := hX.1
        have hn := needs_spec (l := [1]) (by kernel_rfl) hed
        have hA8 := hJ.eval 1 (d := 8) (hn 1 (by simp)) rfl rfl rfl
        have hsz := Lib.hid hJ.size
        clear hLi hed hJ hn
        refine opStep_of rfl ?_
        unfold Oper.wp execOp
        have hN8 := evalN hA8
        go_simp
        refine (CF.out W hS).mono ?_
        rintro e W' ⟨⟨v, rfl, hv⟩, hb⟩
        have hX2 := hX.made (j := 2) (s := 9) HST.out hb rfl (by rw [hsz.out]; exact of_decide_eq_true rfl) hv
        dsimp only
        refine hK _ W' ?_ hX2
        exact Knows.free _
      refine sureX_cons ?_ ?_
      · intro L ac W K hLi hed hJ hX hK
        have hS := hX.1
        have hA1 : ac.eval (.tmp 1) = .pointer (some ⟨gx, 0, none⟩) := hJ.eval_old 1 (by kernel_rfl)
        have hsz := Lib.hid hJ.size
        clear hLi hed hJ
        refine opStep_of rfl ?_
        unfold Oper.wp execOp
        have hN1 := evalN hA1
        go_simp
        refine hK _ _ ?_ (hX.step HST.out (Below.refl _ _) rfl rfl)
        exact Knows.known _
      refine sureX_cons ?_ ?_
      · intro L ac W K hLi hed hJ hX hK
        have hS := hX.1
        have hn := needs_spec (l := [3]) (by kernel_rfl) hed
        have hA10 := hJ.eval 3 (d := 10) (hn 3 (by simp)) rfl rfl rfl
        have hsz := Lib.hid hJ.size
        clear hLi hed hJ hn
        refine opStep_of rfl ?_
        unfold Oper.wp execOp
        have hN10 := evalN hA10
        go_simp
        refine hK _ _ ?_ (hX.step HST.out (Below.refl _ _) rfl rfl)
        exact Knows.known _
      refine sureX_cons ?_ ?_
      · intro L ac W K hLi hed hJ hX hK
        have hS := hX.1
        have hn := needs_spec (l := [4]) (by kernel_rfl) hed
        have hA11 := hJ.eval 4 (d := 11) (hn 4 (by simp)) rfl rfl rfl
        have hsz := Lib.hid hJ.size
        clear hLi hed hJ hn
        refine opStep_of rfl ?_
        have cc : W.cell? ⟨gx, 13, none⟩ = some (.slice a.L m.blocks.length a.cL) := (HC.out W (HB2.out.trans (hS.mono HB2.out.size))).cell 13
        unfold Oper.wp execOp
        have hN11 := evalN hA11
        go_simp
        refine hK _ _ ?_ (hX.step HST.out (Below.refl _ _) rfl rfl)
        exact Knows.known _
      refine sureX_cons ?_ ?_
      · intro L ac W K hLi hed hJ hX hK
        have hS := hX.1
        have hn := needs_spec (l := [5]) (by kernel_rfl) hed
        have hA12 := hJ.eval 5 (d := 12) (hn 5 (by simp)) rfl rfl rfl
        have hsz := Lib.hid hJ.size
        clear hLi hed hJ hn
        refine opStep_of rfl ?_
        unfold Oper.wp execOp
        have hN12 := evalN hA12
        go_simp
        refine (CL.out W hS).mono ?_
        rintro e W' ⟨⟨v, rfl, hv⟩, hb⟩
        have hX2 := hX.made (j := 6) (s := 13) HST.out hb rfl (by rw [hsz.out]; exact of_decide_eq_true rfl) hv
        dsimp only
        refine hK _ W' ?_ hX2
        exact Knows.free _
      refine sureX_cons ?_ ?_
      · intro L ac W K hLi hed hJ hX hK
        have hS := hX.1
        have hA1 : ac.eval (.tmp 1) = .pointer (some ⟨gx, 0, none⟩) := hJ.eval_old 1 (by kernel_rfl)
        have hsz := Lib.hid hJ.size
        clear hLi hed hJ
        refine opStep_of rfl ?_
        refine oper_load_at 30 (.tmp 1) rfl ⟨gx, 0, none⟩ hA1 (mcL a m) _ (HLM.out W (HB2.out.trans (hS.mono HB2.out.size))) Tryz.underlying30 rfl MI.out ?_
        refine hK _ _ ?_ (hX.step HST.out (Below.refl _ _) rfl rfl)
        exact Knows.known _
      refine sureX_cons ?_ ?_
      · intro L ac W K hLi hed hJ hX hK
        have hS := hX.1
        have hn := needs_spec (l := [7]) (by kernel_rfl) hed
        have hA14 := hJ.eval 7 (d := 14) (hn 7 (by simp)) rfl rfl rfl
        have hsz := Lib.hid hJ.size
        clear hLi hed hJ hn
        refine opStep_of rfl ?_
        unfold Oper.wp execOp
        have hN14 := evalN hA14
        go_simp
        refine (CR.out W hS).mono ?_
        rintro e W' ⟨rfl, hb⟩
        have hX2 := hX.step (i := 8) (d := some 15) (v := S rr) HST.out hb rfl rfl
        dsimp only
        refine hK _ W' ?_ hX2
        exact Knows.known _
      refine sureX_nil ?_
      intro L ac W hL hX ha
      have hS := hX.1
      have hF9 := hX.2 (2, 9) (by simp) (hL 2 (by omega))
      have hF13 := hX.2 (6, 13) (by simp) (hL 6 (by omega))
      rw [ha]
      simp only [mendAll, Option.getD_some, Option.getD_none, Option.map_some, putAll, Act.put, List.setIfInBounds_toArray, List.set_cons_zero, List.set_cons_succ]
      change ((fun j v W => IsStrs (gx + 1) W v (twoL m.frames m.blocks j))) 2 (ac.tmps.getD 9 undef) W at hF9
      generalize ac.tmps.getD 9 undef = us9 at *
      change ((fun j v W => IsStrs (gx + 1) W v (twoL m.frames m.blocks j))) 6 (ac.tmps.getD 13 undef) W at hF13
      generalize ac.tmps.getD 13 undef = us13 at *
      clear ha hX hL
      have HV := Lib.hid (HB2.out.trans (hS.mono HB2.out.size))
      obtain ⟨A1, c1, rfl, hl1, hg1⟩ := hF9
      obtain ⟨A2, c2, rfl, hl2, hg2⟩ := hF13
      change Strs W W.heap.size A1 m.frames at hl1
      change Strs W W.heap.size A2 m.blocks at hl2
      have HL1 := Lib.hid hl1
      have HL2 := Lib.hid hl2
      have HG1 := Lib.hid hg1
      have HG2 := Lib.hid hg2
      clear hl1 hl2 hg1 hg2 hS
      have hZ := HS1.out.below HV.out hgl
      have z0 : W.cell? ⟨gx + 1, 0, none⟩ = some (Value.slice none 0 0) := hZ.cell 0
      have z1 : W.cell? ⟨gx + 1, 1, none⟩ = some (Value.slice none 0 0) := hZ.cell 1
      have z2 : W.cell? ⟨gx + 1, 2, none⟩ = some (S []) := hZ.cell 2
      have y0 := hZ.free 0
      have y1 := hZ.free 1
      have y2 := hZ.free 2
      clear hZ
      have HFI : Hid ((twoL m.frames m.blocks 2).length = m.frames.length) := Lib.hid rfl
      have HBI : Hid ((twoL m.frames m.blocks 6).length = m.blocks.length) := Lib.hid rfl
      rw [HFI.out, HBI.out]
      go_wp2_with fail
      refine bodyPost_ret (v := .agg #[.slice A1 m.frames.length c1, .slice A2 m.blocks.length c2, S rr]) (by simp [results, Tryz.results10, go_sem, z0, z1, z2]) rfl ?_
      rw [show imF m = m.frames by unfold imF; rw [HCE.out]; rfl, show imB m = m.blocks by unfold imB; rw [HCE.out]; rfl, show imR m = rr by unfold imR; rw [HCE.out, HRR.out]; rfl]
      exact ⟨⟨A1, c1, A2, c2, rfl, lies_ne3 HL1.out (fun ad h => by have := HG1.out ad h; omega), lies_ne3 HL2.out (fun ad h => by have := HG2.out ad h; omega), (fun ad h => by have := HG1.out ad h; have := HGX.out; omega), (fun ad h => by have := HG2.out ad h; have := HGX.out; omega)⟩, by rw [HGX.out]; exact below_set3 (HW.out.trans (HV.out.mono (by omega))) (by omega)⟩
  · have hZ := HS1.out.below HB2.out hgl
    have z0 : w2.cell? ⟨gx + 1, 0, none⟩ = some (Value.slice none 0 0) := hZ.cell 0
    have z1 : w2.cell? ⟨gx + 1, 1, none⟩ = some (Value.slice none 0 0) := hZ.cell 1
    have z2 : w2.cell? ⟨gx + 1, 2, none⟩ = some (S []) := hZ.cell 2
    have y0 := hZ.free 0
    have y1 := hZ.free 1
    have y2 := hZ.free 2
    clear hZ
    go_wp2_with fail
    refine bodyPost_ret (v := .agg #[.slice none 0 0, .slice none 0 0, S []]) (by simp [results, Tryz.results10, go_sem, z0, z1, z2]) rfl ?_
    rw [show imF m = [] by unfold imF; rw [HCE.out, if_neg hc], show imB m = [] by unfold imB; rw [HCE.out, if_neg hc], show imR m = [] by unfold imR; rw [HCE.out, if_neg hc]]
    exact ⟨⟨none, 0, none, 0, rfl, fun k v hv => by simp at hv, fun k v hv => by simp at hv, fun _ h => (by cases h), fun _ h => (by cases h)⟩, by rw [HGX.out]; exact below_set3 (HW.out.trans (HB2.out.mono (by omega))) (by omega)⟩
set_option maxRecDepth 100000 in
set_option maxHeartbeats 4000000 in
theorem rraw_any (w : World) (a : MA) (m : Mc) (hm : McOk m) (hr : RestOk m) (hA : MAt w w.heap.size a m) :
    Calls Tryz.prog 42 #[.agg (mcL a m).toArray] w fun e w' => e = .returned (.agg #[.slice a.F m.frames.length a.cF, .slice a.L m.blocks.length a.cL, S (restB m)]) ∧ Below w.heap.size w w' := by
  have hs0 := (Whole.made w 30 (mcL a m).toArray).block (.cells #[.slice none 0 0, .slice none 0 0, S []] 36)
  have hs1 := Whole.made (w.alloc (.cells (mcL a m).toArray 30)) 36 #[.slice none 0 0, .slice none 0 0, S []]
  rw [show (w.alloc (.cells (mcL a m).toArray 30)).heap.size = w.heap.size + 1 by simp] at hs1
  have hb : Below w.heap.size w ((w.alloc (.cells (mcL a m).toArray 30)).alloc (.cells #[.slice none 0 0, .slice none 0 0, S []] 36)) := ((Below.refl _ _).alloc (by first | exact Nat.le_refl _ | simp | (simp; omega)) _).alloc (by first | exact Nat.le_refl _ | simp | (simp; omega)) _
  go_enter Tryz.func42, Tryz.ntmps42
  go_upto_region 1 with (fail)
  change Code.wp _ _ _ _ ((w.alloc (.cells (mcL a m).toArray 30)).alloc (.cells #[.slice none 0 0, .slice none 0 0, S []] 36))
  generalize ((w.alloc (.cells (mcL a m).toArray 30)).alloc (.cells #[.slice none 0 0, .slice none 0 0, S []] 36)) = w1 at *
  generalize hgx : w.heap.size = gx at *
  have HGX := Lib.hid hgx
  have HS0 := Lib.hid hs0
  have HS1 := Lib.hid hs1
  have HW := Lib.hid hb
  have hgl : gx + 1 < w1.heap.size := hs1.lt
  clear hgx hb hs0 hs1
  have HA := Lib.hid (hA.below HW.out)
  have HM := Lib.hid hm
  have HMA : Hid (∀ W, Below w1.heap.size w1 W → MAt W W.heap.size a m) := Lib.hid fun W hW => (HA.out.below (hW.mono (by omega))).wide (by have := hW.size; omega)
  have HC : Hid (∀ W, Below w1.heap.size w1 W → Whole W gx 30 (mcL a m).toArray) := Lib.hid fun W hW => HS0.out.below hW (by omega)
  have HLM : Hid (∀ W, Below w1.heap.size w1 W → ∀ j v, (mcL a m)[j]? = some v → W.cell? ((⟨gx, 0, none⟩ : Addr).add j) = some v) := Lib.hid fun W hW => (HS0.out.below hW (by omega)).reads
  have MI : Hid ((Tryz.prog.info? 30).map (·.size) = some (mcL a m).length) := Lib.hid (by rw [mcL_length]; exact Tryz.sizeMc)
  have HRO := Lib.hid hr
  obtain ⟨rr, HRR⟩ : ∃ z, Hid (restB m = z) := ⟨_, Lib.hid rfl⟩
  have CR : Hid (∀ W, Below w1.heap.size w1 W → Calls Tryz.prog 33 #[.agg (mcL a m).toArray] W fun e w' => e = .returned (S rr) ∧ Below W.heap.size W w') := Lib.hid fun W hS => by
    have h := rrest_any W a m HM.out HRO.out (HMA.out W hS)
    rw [HRR.out] at h
    exact h
  clear hm hr hA
  refine' wp_region_sure (by kernel_rfl) (fun W => Below w1.heap.size w1 W) 7 [_, _, _, _, _, _, _] [some 3, some 4, some 5, some 6, some 7, some 8, some 9] (by kernel_rfl) (by kernel_rfl) (by kernel_rfl) (by kernel_rfl) rfl (Below.refl _ _).drew ?hs1
  case hs1 =>
    refine sure_cons ?_ ?_
    · intro L ac W K hed hJ hS hK
      have hA1 : ac.eval (.tmp 1) = .pointer (some ⟨gx, 0, none⟩) := hJ.eval_old 1 (by kernel_rfl)
      clear hed hJ
      refine opStep_of rfl ?_
      unfold Oper.wp execOp
      have hN1 := evalN hA1
      go_simp
      exact hK _ hS
    refine sure_cons ?_ ?_
    · intro L ac W K hed hJ hS hK
      have hn := needs_spec (l := [0]) (by kernel_rfl) hed
      have hA3 := hJ.eval 0 (d := 3) (hn 0 (by simp)) rfl rfl rfl
      clear hed hJ hn
      refine opStep_of rfl ?_
      have cc : W.cell? ⟨gx, 4, none⟩ = some (.slice a.F m.frames.length a.cF) := (HC.out W hS).cell 4
      unfold Oper.wp execOp
      have hN3 := evalN hA3
      go_simp
      exact hK _ hS
    refine sure_cons ?_ ?_
    · intro L ac W K hed hJ hS hK
      have hA1 : ac.eval (.tmp 1) = .pointer (some ⟨gx, 0, none⟩) := hJ.eval_old 1 (by kernel_rfl)
      clear hed hJ
      refine opStep_of rfl ?_
      unfold Oper.wp execOp
      have hN1 := evalN hA1
      go_simp
      exact hK _ hS
    refine sure_cons ?_ ?_
    · intro L ac W K hed hJ hS hK
      have hn := needs_spec (l := [2]) (by kernel_rfl) hed
      have hA5 := hJ.eval 2 (d := 5) (hn 2 (by simp)) rfl rfl rfl
      clear hed hJ hn
      refine opStep_of rfl ?_
      unfold Oper.wp execOp
      have hN5 := evalN hA5
      go_simp
      exact hK _ hS
    refine sure_cons ?_ ?_
    · intro L ac W K hed hJ hS hK
      have hn := needs_spec (l := [3]) (by kernel_rfl) hed
      have hA6 := hJ.eval 3 (d := 6) (hn 3 (by simp)) rfl rfl rfl
      clear hed hJ hn
      refine opStep_of rfl ?_
      have cc : W.cell? ⟨gx, 13, none⟩ = some (.slice a.L m.blocks.length a.cL) := (HC.out W hS).cell 13
      unfold Oper.wp execOp
      have hN6 := evalN hA6
      go_simp
      exact hK _ hS
    refine sure_cons ?_ ?_
    · intro L ac W K hed hJ hS hK
      have hA1 : ac.eval (.tmp 1) = .pointer (some ⟨gx, 0, none⟩) := hJ.eval_old 1 (by kernel_rfl)
      clear hed hJ
      refine opStep_of rfl ?_
      refine oper_load_at 30 (.tmp 1) rfl ⟨gx, 0, none⟩ hA1 (mcL a m) _ (HLM.out W hS) Tryz.underlying30 rfl MI.out ?_
      exact hK _ hS
    refine sure_cons ?_ ?_
    · intro L ac W K hed hJ hS hK
      have hn := needs_spec (l := [5]) (by kernel_rfl) hed
      have hA8 := hJ.eval 5 (d := 8) (hn 5 (by simp)) rfl rfl rfl
      clear hed hJ hn
      refine opStep_of rfl ?_
      unfold Oper.wp execOp
      have hN8 := evalN hA8
      go_simp
      refine (CR.out W hS).mono ?_
      rintro e W' ⟨rfl, hb⟩
      have hS2 := hS.trans (hb.mono hS.size)
      dsimp only
      exact hK W' hS2
    refine sure_nil ?_
    intro W hS
    simp only [putAll, Act.put, List.setIfInBounds_toArray, List.set_cons_zero, List.set_cons_succ]
    have HV := Lib.hid hS
    clear hS
    have hZ := HS1.out.below HV.out hgl
    have z0 : W.cell? ⟨gx + 1, 0, none⟩ = some (Value.slice none 0 0) := hZ.cell 0
    have z1 : W.cell? ⟨gx + 1, 1, none⟩ = some (Value.slice none 0 0) := hZ.cell 1
    have z2 : W.cell? ⟨gx + 1, 2, none⟩ = some (S []) := hZ.cell 2
    have y0 := hZ.free 0
    have y1 := hZ.free 1
    have y2 := hZ.free 2
    clear hZ
    go_wp2_with fail
    refine bodyPost_ret (v := .agg #[.slice a.F m.frames.length a.cF, .slice a.L m.blocks.length a.cL, S rr]) (by simp [results, Tryz.results42, go_sem, z0, z1, z2]) rfl ?_
    exact ⟨by rw [HRR.out], by rw [HGX.out]; exact below_set3 (HW.out.trans (HV.out.mono (by omega))) (by omega)⟩
set_option maxRecDepth 100000 in
set_option maxHeartbeats 4000000 in
theorem rimageOf_any (w : World) (a : MA) (m : Mc) (hm : McOk m) (hpn : m.pend.length ≤ 4096) (hA : MAt w w.heap.size a m) :
    Calls Tryz.prog 38 #[.agg (mcL a m).toArray] w fun e w' => ImgPost w (imF m) (imB m) (imR m) e w' := by
  have hs0 := (Whole.made w 30 (mcL a m).toArray).block (.cells #[.slice none 0 0, .slice none 0 0, S []] 36)
  have hs1 := Whole.made (w.alloc (.cells (mcL a m).toArray 30)) 36 #[.slice none 0 0, .slice none 0 0, S []]
  rw [show (w.alloc (.cells (mcL a m).toArray 30)).heap.size = w.heap.size + 1 by simp] at hs1
  have hb : Below w.heap.size w ((w.alloc (.cells (mcL a m).toArray 30)).alloc (.cells #[.slice none 0 0, .slice none 0 0, S []] 36)) := ((Below.refl _ _).alloc (by first | exact Nat.le_refl _ | simp | (simp; omega)) _).alloc (by first | exact Nat.le_refl _ | simp | (simp; omega)) _
  go_enter Tryz.func38, Tryz.ntmps38
  go_upto_region 1 with (fail)
  change Code.wp _ _ _ _ ((w.alloc (.cells (mcL a m).toArray 30)).alloc (.cells #[.slice none 0 0, .slice none 0 0, S []] 36))
  generalize ((w.alloc (.cells (mcL a m).toArray 30)).alloc (.cells #[.slice none 0 0, .slice none 0 0, S []] 36)) = w1 at *
  generalize hgx : w.heap.size = gx at *
  have HGX := Lib.hid hgx
  have HS0 := Lib.hid hs0
  have HS1 := Lib.hid hs1
  have HW := Lib.hid hb
  have hgl : gx + 1 < w1.heap.size := hs1.lt
  clear hgx hb hs0 hs1
  have HA := Lib.hid (hA.below HW.out)
  have HM := Lib.hid hm
  have HMA : Hid (∀ W, Below w1.heap.size w1 W → MAt W W.heap.size a m) := Lib.hid fun W hW => (HA.out.below (hW.mono (by omega))).wide (by have := hW.size; omega)
  have HC : Hid (∀ W, Below w1.heap.size w1 W → Whole W gx 30 (mcL a m).toArray) := Lib.hid fun W hW => HS0.out.below hW (by omega)
  have HLM : Hid (∀ W, Below w1.heap.size w1 W → ∀ j v, (mcL a m)[j]? = some v → W.cell? ((⟨gx, 0, none⟩ : Addr).add j) = some v) := Lib.hid fun W hW => (HS0.out.below hW (by omega)).reads
  have MI : Hid ((Tryz.prog.info? 30).map (·.size) = some (mcL a m).length) := Lib.hid (by rw [mcL_length]; exact Tryz.sizeMc)
  have CC := Lib.hid (rcheck_any w1 a m hm (HMA.out w1 (Below.refl _ _)))
  have HPN := Lib.hid hpn
  have LM := Lib.hid (HLM.out w1 (Below.refl _ _))
  obtain ⟨ce, HCE⟩ : ∃ z, Hid (checkE m = z) := ⟨_, Lib.hid rfl⟩
  rw [HCE.out] at CC
  clear hm hA hpn
  go_wp2_with (refine wpList_load_at rfl 30 (.tmp 1) rfl ⟨gx, 0, none⟩ rfl (mcL a m) _ LM.out Tryz.underlying30 rfl MI.out ?_)
  refine CC.out.mono ?_
  rintro e w2 ⟨rfl, hb2⟩
  have HB2 := Lib.hid hb2
  clear hb2 CC LM
  by_cases hc : ce = 0
  · have HRO := Lib.hid (rest_ok (HCE.out.trans hc) (Nat.le_trans HPN.out (by decide)))
    have hz2 := HB2.out.size
    obtain ⟨rr, HRR⟩ : ∃ z, Hid (restB m = z) := ⟨_, Lib.hid rfl⟩
    have CR := Lib.hid (rraw_any w2 a m HM.out HRO.out (HMA.out w2 HB2.out))
    rw [HRR.out] at CR
    have LM := Lib.hid (HLM.out w2 HB2.out)
    subst hc
    go_wp2_with (refine wpList_load_at rfl 30 (.tmp 1) rfl ⟨gx, 0, none⟩ rfl (mcL a m) _ LM.out Tryz.underlying30 rfl MI.out ?_)
    refine CR.out.mono ?_
    rintro e w3 ⟨rfl, hb3⟩
    have HV := Lib.hid (HB2.out.trans (hb3.mono hz2))
    clear hb3 CR LM
    have hZ := HS1.out.below HV.out hgl
    have z0 : w3.cell? ⟨gx + 1, 0, none⟩ = some (Value.slice none 0 0) := hZ.cell 0
    have z1 : w3.cell? ⟨gx + 1, 1, none⟩ = some (Value.slice none 0 0) := hZ.cell 1
    have z2 : w3.cell? ⟨gx + 1, 2, none⟩ = some (S []) := hZ.cell 2
    have y0 := hZ.free 0
    have y1 := hZ.free 1
    have y2 := hZ.free 2
    clear hZ
    go_wp2_with fail
    refine bodyPost_ret (v := .agg #[.slice a.F m.frames.length a.cF, .slice a.L m.blocks.length a.cL, S rr]) (by simp [results, Tryz.results38, go_sem, z0, z1, z2]) rfl ?_
    rw [show imF m = m.frames by unfold imF; rw [HCE.out]; rfl, show imB m = m.blocks by unfold imB; rw [HCE.out]; rfl, show imR m = rr by unfold imR; rw [HCE.out, HRR.out]; rfl]
    have hbf : Below gx w (((w3.setCell ⟨gx + 1, 0, none⟩ (.slice a.F m.frames.length a.cF)).setCell ⟨gx + 1, 1, none⟩ (.slice a.L m.blocks.length a.cL)).setCell ⟨gx + 1, 2, none⟩ (S rr)) := below_set3 (HW.out.trans (HV.out.mono (by omega))) (by omega)
    have hb1 : Below gx w1 (((w3.setCell ⟨gx + 1, 0, none⟩ (.slice a.F m.frames.length a.cF)).setCell ⟨gx + 1, 1, none⟩ (.slice a.L m.blocks.length a.cL)).setCell ⟨gx + 1, 2, none⟩ (S rr)) := below_set3 (HV.out.mono (by omega)) (by omega)
    have hAX := (HA.out.below hb1).wide (B' := (((w3.setCell ⟨gx + 1, 0, none⟩ (.slice a.F m.frames.length a.cF)).setCell ⟨gx + 1, 1, none⟩ (.slice a.L m.blocks.length a.cL)).setCell ⟨gx + 1, 2, none⟩ (S rr)).heap.size) (by have := hb1.size; omega)
    exact ⟨⟨a.F, a.cF, a.L, a.cL, rfl, hAX.F, hAX.L⟩, by rw [HGX.out]; exact hbf⟩
  · have hZ := HS1.out.below HB2.out hgl
    have z0 : w2.cell? ⟨gx + 1, 0, none⟩ = some (Value.slice none 0 0) := hZ.cell 0
    have z1 : w2.cell? ⟨gx + 1, 1, none⟩ = some (Value.slice none 0 0) := hZ.cell 1
    have z2 : w2.cell? ⟨gx + 1, 2, none⟩ = some (S []) := hZ.cell 2
    have y0 := hZ.free 0
    have y1 := hZ.free 1
    have y2 := hZ.free 2
    clear hZ
    go_wp2_with fail
    refine bodyPost_ret (v := .agg #[.slice none 0 0, .slice none 0 0, S []]) (by simp [results, Tryz.results38, go_sem, z0, z1, z2]) rfl ?_
    rw [show imF m = [] by unfold imF; rw [HCE.out, if_neg hc], show imB m = [] by unfold imB; rw [HCE.out, if_neg hc], show imR m = [] by unfold imR; rw [HCE.out, if_neg hc]]
    exact ⟨⟨none, 0, none, 0, rfl, fun k v hv => by simp at hv, fun k v hv => by simp at hv⟩, by rw [HGX.out]; exact below_set3 (HW.out.trans (HB2.out.mono (by omega))) (by omega)⟩
end Go.Proofs.YtmmfcjkabpffeaaGreatDoor
