/-
  Walks: the document's drive without anything. (Printed by gen_spx.py.)
-/
import Derived.Test.YtdhfblfnejmeiaaGreatDoorSpW
namespace Go.Proofs.YtdhfblfnejmeiaaGreatDoor
open Go.RowKit

/-- a region that makes a slice of one text (operation j, slot s) and appends it to a row of the call's own (operation q, slot t) -/
def ApX (I : World → Prop) (base : Nat) (v : Value) (xs : List (List UInt8)) (x : List UInt8) (j s q t : Nat) (L : Nat → Bool) (a : Act) (W : World) : Prop :=
  I W ∧ base ≤ W.heap.size ∧ (L q = false → OwnS W base v xs) ∧ (L j = true → L q = false → ∃ g, a.eval (.tmp s) = .slice (some ⟨g, 0, none⟩) 1 1 ∧ Whole W g 9 [S x].toArray) ∧ (L q = true → ∃ v', a.eval (.tmp t) = v' ∧ OwnS W base v' (xs ++ [x]))
section
variable {I : World → Prop} {base : Nat} {v : Value} {xs : List (List UInt8)} {x : List UInt8} {j s q t : Nat} {L : Nat → Bool} {a : Act} {W W' : World}
theorem ApX.init (h1 : I W) (h2 : base ≤ W.heap.size) (h3 : OwnS W base v xs) : ApX I base v xs x j s q t (fun _ => false) a W := ⟨h1, h2, fun _ => h3, fun e => (by cases e), fun e => (by cases e)⟩
theorem ApX.same (h : ApX I base v xs x j s q t L a W) {i : Nat} {d : Option Tmp} {u : Value} (hj : (i == j) = false) (hq : (i == q) = false) (hs : d ≠ some s) (ht : d ≠ some t) : ApX I base v xs x j s q t (also L i) (a.put d u) W := by
  have ej : j ≠ i := fun e => by subst e; simp at hj
  have eq : q ≠ i := fun e => by subst e; simp at hq
  unfold ApX
  rw [also_other ej, also_other eq, eval_put hs, eval_put ht]
  exact h
theorem ApX.made (h : ApX I base v xs x j s q t L a W) (hq : (j == q) = false) (hst : s ≠ t) (hs : s < a.tmps.size) (hI : I (W.alloc (.cells [S x].toArray 9))) : ApX I base v xs x j s q t (also L j) (a.put (some s) (.slice (some ⟨W.heap.size, 0, none⟩) 1 1)) (W.alloc (.cells [S x].toArray 9)) := by
  have eq : q ≠ j := fun e => by subst e; simp at hq
  refine ⟨hI, Nat.le_trans h.2.1 (by simp), fun e => (h.2.2.1 (by rwa [also_other eq] at e)).alloc _, fun _ _ => ⟨W.heap.size, ?_, Whole.made W _ _⟩, fun e => ?_⟩
  · show (a.put (some s) _).tmps.getD s undef = _
    rw [Array.getD_eq_getD_getElem?, put_same _ _ _ hs]; rfl
  · obtain ⟨v', e1, e2⟩ := h.2.2.2.2 (by rwa [also_other eq] at e)
    exact ⟨v', by rw [eval_put (by intro e; injection e with e; exact hst e)]; exact e1, e2.alloc _⟩
theorem ApX.app (h : ApX I base v xs x j s q t L a W) (_ : (q == j) = false) (ht : t < a.tmps.size) {v' : Value} (hI : I W') (hz : W.heap.size ≤ W'.heap.size) (ho : OwnS W' base v' (xs ++ [x])) : ApX I base v xs x j s q t (also L q) (a.put (some t) v') W' :=
  ⟨hI, Nat.le_trans h.2.1 hz, fun e => (by rw [also_same] at e; cases e), fun _ e => (by rw [also_same] at e; cases e), fun _ => ⟨v', by
    show (a.put (some t) _).tmps.getD t undef = _
    rw [Array.getD_eq_getD_getElem?, put_same _ _ _ ht]; rfl, ho⟩⟩
end
set_option maxRecDepth 100000 in
set_option maxHeartbeats 4000000 in
theorem format16 (w : World) (A : Option Addr) (c : Nat) (l : List (List UInt8)) (hl : l.length = 24) (h128 : ∀ x ∈ l, x.length = 128) (hA : Strs w w.heap.size A l) :
    Calls Tryz.prog 28 #[.slice A 24 c] w fun e w' => (∃ X cx bl, e = .returned (.tuple #[.agg (dvL X bl.length cx none 0 0 (-1)).toArray, .int .i64 0]) ∧ bl.length = 57 ∧ bl.length ≤ cx ∧ Strs w' w'.heap.size X bl ∧ ∀ ad, X = some ad → w.heap.size ≤ ad.block) ∧ Below w.heap.size w w' := by
  obtain ⟨i0, hi0, hz0, hz1, hz2⟩ := info_parts Tryz.infoStr'
  have hs0 := Whole.made w 29 #[.slice none 0 0, .slice none 0 0, .int .i64 0]
  have hb : Below w.heap.size w (w.alloc (.cells #[.slice none 0 0, .slice none 0 0, .int .i64 0] 29)) := (Below.refl _ _).alloc (Nat.le_refl _) _
  go_enter Tryz.func28, Tryz.ntmps28
  go_upto_region 1 with (fail)
  change Code.wp _ _ _ _ (w.alloc (.cells #[.slice none 0 0, .slice none 0 0, .int .i64 0] 29))
  generalize (w.alloc (.cells #[.slice none 0 0, .slice none 0 0, .int .i64 0] 29)) = w1 at *
  generalize hgx : w.heap.size = gx at *
  have HGX := Lib.hid hgx
  have HS0 := Lib.hid hs0
  have HW := Lib.hid hb
  have hgl : gx < w1.heap.size := hs0.lt
  clear hgx hb hs0
  have HAA : Hid (Strs w gx A l) := Lib.hid hA
  have HL := Lib.hid (And.intro hl h128)
  have IDV : Hid ((Tryz.prog.info? 29).map (fun i => (i.zero, i.size)) = some (some (.agg #[.slice none 0 0, .slice none 0 0, .int .i64 0]), 3)) := Lib.hid (by kernel_rfl)
  have ODV : ∀ v ∈ [Value.slice none 0 0, .slice none 0 0, .int .i64 (-1)], v.oneCell' = true := by intro v hv; simp at hv; rcases hv with rfl | rfl <;> rfl
  have hbd : ∀ W, (Instr.build 29 #[(2, .int .i64 (-1))]).run Tryz.prog W = .ok (.agg [Value.slice none 0 0, .slice none 0 0, .int .i64 (-1)].toArray) W := fun W => by kernel_rfl
  clear hA hl h128
  go_upto_region 4 with (first
    | (refine wpList_fresh rfl rfl 29 4 (.tmp 16) rfl rfl rfl rfl [Value.slice none 0 0, .slice none 0 0, .int .i64 (-1)] rfl rfl _ IDV.out rfl ODV ?_))
  have HC4 := Lib.hid (Whole.made w1 29 [Value.slice none 0 0, .slice none 0 0, .int .i64 (-1)].toArray)
  have HZ4 : Hid (Whole (w1.alloc (.cells [Value.slice none 0 0, .slice none 0 0, .int .i64 (-1)].toArray 29)) gx 29 #[.slice none 0 0, .slice none 0 0, .int .i64 0]) := Lib.hid (HS0.out.block _)
  have HV4 := Lib.hid (HW.out.alloc (by omega) (.cells [Value.slice none 0 0, .slice none 0 0, .int .i64 (-1)].toArray 29))
  have hg4 : gx < w1.heap.size := hgl
  change Code.wp _ _ _ _ (w1.alloc (.cells [Value.slice none 0 0, .slice none 0 0, .int .i64 (-1)].toArray 29))
  clear hbd IDV HS0 HW hgl
  generalize w1.alloc (.cells [Value.slice none 0 0, .slice none 0 0, .int .i64 (-1)].toArray 29) = w4 at *
  generalize w1.heap.size = g4 at *
  obtain ⟨b1, hb1⟩ : ∃ b, b = w4.heap.size := ⟨_, rfl⟩
  have hgb : g4 < b1 := by rw [hb1]; exact HC4.out.lt
  go_upto_region 5 with (fail)
  go_loopw [5] (fun i wr => ∃ (jj : Nat) (XX : Option Addr) (cc : Nat) (bb : List (List UInt8)), jj ≤ 33 ∧ i = .int .i64 (jj : Int) ∧ Hid (bb.length = 0 + jj) ∧ Hid (OwnS wr b1 (.slice XX bb.length cc) bb) ∧ Hid (Whole wr g4 29 #[.slice XX bb.length cc, .slice none 0 0, .int .i64 (-1)]) ∧ Hid (Below gx w wr) ∧ Hid (b1 ≤ wr.heap.size) ∧ Hid (Whole wr gx 29 #[.slice none 0 0, .slice none 0 0, .int .i64 0])) (fun i _ => 33 - (intOf i).toNat)
  case atStart => exact ⟨0, none, 0, [], by decide, rfl, Lib.hid rfl, Lib.hid (World.ownsRow_nil _ _ _ _), HC4, HV4, Lib.hid (by omega), HZ4⟩
  case round =>
    clear HC4 HV4 HZ4
    obtain ⟨k, X, cx, bl, hk, rfl, HLB, HO, HC, HV, HZ, HZZ⟩ := hrel
    by_cases hlt : k < 33
    · have e1 : decide ((k : Int) < 33) = true := decide_eq_true (by omega)
      have e1' : decide (k < 33) = true := decide_eq_true hlt
      have CZ := Lib.hid (fun W => zeros16_any W 128 (by decide))
      generalize List.replicate 128 (0 : UInt8) = zr at *
      go_upto_region 7 with (fail)
      have HST : Hid (∀ W W', (Below W.heap.size W W' ∨ ∃ Z, W.grownBy W' Z ∧ ∀ q, Z = some q → b1 ≤ q) → (Below gx w W ∧ Whole W g4 29 #[.slice X bl.length cx, .slice none 0 0, .int .i64 (-1)] ∧ b1 ≤ W.heap.size ∧ Whole W gx 29 #[.slice none 0 0, .slice none 0 0, .int .i64 0]) → Below gx w W' ∧ Whole W' g4 29 #[.slice X bl.length cx, .slice none 0 0, .int .i64 (-1)] ∧ b1 ≤ W'.heap.size ∧ Whole W' gx 29 #[.slice none 0 0, .slice none 0 0, .int .i64 0]) := Lib.hid fun W W' h hI => by
        have hl := hI.2.1.lt
        have hb1 := hI.2.2.1
        have hz0 := hI.2.2.2.lt
        rcases h with h | ⟨Z, h, hz⟩
        · exact ⟨hI.1.trans (h.mono (by omega)), hI.2.1.below h hI.2.1.lt, Nat.le_trans hb1 h.size, hI.2.2.2.below h hI.2.2.2.lt⟩
        · exact ⟨hI.1.grown h (by omega) (fun q e => by have := hz q e; omega), hI.2.1.other h (fun e => by have := hz _ e.symm; omega), Nat.le_trans hb1 h.size, hI.2.2.2.other h (fun e => by have := hz _ e.symm; omega)⟩
      have H63 : Hid (bl.length + 1 ≤ maxLen) := Lib.hid (by unfold maxLen; have := HLB.out; omega)
      have HBY : Hid ((bl.length + 1) * 16 ≤ 140737488355328) := Lib.hid (by have := HLB.out; omega)
      refine' wp_region_sureX (by kernel_rfl) (ApX (fun W => Below gx w W ∧ Whole W g4 29 #[(.slice X bl.length cx), .slice none 0 0, .int .i64 (-1)] ∧ b1 ≤ W.heap.size ∧ Whole W gx 29 #[.slice none 0 0, .slice none 0 0, .int .i64 0]) b1 (.slice X bl.length cx) bl zr 3 24 4 25) 6 [some _, some _, some _, none, none, some _] [some 21, some 22, some 23, some 24, some 25, some 26] (by kernel_rfl) (by kernel_rfl) (by kernel_rfl) (by kernel_rfl) rfl (ApX.init ⟨HV.out.drew, HC.out.below (Below.refl wr.heap.size wr).drew HC.out.lt, Nat.le_trans HZ.out ((Below.refl wr.heap.size wr).drew).size, HZZ.out.below (Below.refl wr.heap.size wr).drew HZZ.out.lt⟩ (Nat.le_trans HZ.out ((Below.refl wr.heap.size wr).drew).size) (ownr_below HO.out (Below.refl wr.heap.size wr).drew)) ?hsx7
      case hsx7 =>
        refine sureX_cons ?_ ?_
        · intro L ac W K hLi hed hJ hX hK
          have hS := hX.1
          have hA4 : ac.eval (.tmp 4) = .pointer (some ⟨g4, 0, none⟩) := hJ.eval_old 4 (by kernel_rfl)
          have hsz := Lib.hid hJ.size
          clear hed hJ
          refine opStep_of rfl ?_
          unfold Oper.wp execOp
          have hN4 := evalN hA4
          go_simp
          refine hK _ _ ?_ (hX.same (i := 0) rfl rfl (by decide) (by decide))
          exact Knows.known _
        refine sureX_cons ?_ ?_
        · intro L ac W K hLi hed hJ hX hK
          have hS := hX.1
          have hn := needs_spec (l := [0]) (by kernel_rfl) hed
          have hA21 := hJ.eval 0 (d := 21) (hn 0 (by simp)) rfl rfl rfl
          have hsz := Lib.hid hJ.size
          clear hed hJ hn
          refine opStep_of rfl ?_
          have cc := hS.2.1.cell 0
          unfold Oper.wp execOp
          have hN21 := evalN hA21
          go_simp
          refine hK _ _ ?_ (hX.same (i := 1) rfl rfl (by decide) (by decide))
          exact Knows.known _
        refine sureX_cons ?_ ?_
        · intro L ac W K hLi hed hJ hX hK
          have hS := hX.1
          have hsz := Lib.hid hJ.size
          clear hed hJ
          refine opStep_of rfl ?_
          unfold Oper.wp execOp
          go_simp
          refine (CZ.out W).mono ?_
          rintro e W' ⟨rfl, rfl⟩
          dsimp only
          refine hK _ _ ?_ (hX.same (i := 2) rfl rfl (by decide) (by decide))
          exact Knows.known _
        refine sureX_cons ?_ ?_
        · intro L ac W K hLi hed hJ hX hK
          have hS := hX.1
          have hn := needs_spec (l := [2]) (by kernel_rfl) hed
          have hA23 := hJ.eval 2 (d := 23) (hn 2 (by simp)) rfl rfl rfl
          have hsz := Lib.hid hJ.size
          clear hed hJ hn
          refine opStep_of rfl ?_
          unfold Oper.wp execOp
          have hN23 := evalN hA23
          go_simp
          refine hK _ _ ?_ (hX.made (j := 3) (q := 4) (s := 24) (t := 25) rfl (by decide) (by rw [hsz.out]; exact of_decide_eq_true rfl) (HST.out W _ (.inl ((Below.refl W.heap.size W).alloc (Nat.le_refl _) _)) hS))
          exact Knows.free _
        refine sureX_cons ?_ ?_
        · intro L ac W K hLi hed hJ hX hK
          have hS := hX.1
          have hn := needs_spec (l := [1, 3]) (by kernel_rfl) hed
          have hA22 := hJ.eval 1 (d := 22) (hn 1 (by simp)) rfl rfl rfl
          obtain ⟨hg, hA24, hY⟩ := hX.2.2.2.1 (hn 3 (by simp)) hLi
          have hO := hX.2.2.1 hLi
          have hsz := Lib.hid hJ.size
          clear hed hJ hn
          refine opStep_of rfl ?_
          refine wp_append_own W (.tmp 22) (.tmp 24) 22 rfl b1 9 i0 _ 1 16 Tryz.underlying22 hi0 hz0 hz1 hz2 rfl (by decide) _ _ _ hA22 hO ⟨hg, 0, none⟩ 1 1 [S zr] hA24 rfl hY.reads (by simp [Value.oneCell']) H63.out HBY.out hX.2.1 fun v' W' hown' hgrow _ => ?_
          refine hK _ W' ?_ (hX.app (j := 3) (q := 4) (t := 25) rfl (by rw [hsz.out]; exact of_decide_eq_true rfl) (HST.out W W' (.inr ⟨_, hgrow, own_ge' hO⟩) hS) hgrow.size (by unfold OwnS; rw [List.length_append, List.map_append]; exact hown'))
          exact Knows.free _
        refine sureX_cons ?_ ?_
        · intro L ac W K hLi hed hJ hX hK
          have hS := hX.1
          have hA4 : ac.eval (.tmp 4) = .pointer (some ⟨g4, 0, none⟩) := hJ.eval_old 4 (by kernel_rfl)
          have hsz := Lib.hid hJ.size
          clear hed hJ
          refine opStep_of rfl ?_
          unfold Oper.wp execOp
          have hN4 := evalN hA4
          go_simp
          refine hK _ _ ?_ (hX.same (i := 5) rfl rfl (by decide) (by decide))
          exact Knows.known _
        refine sureX_nil ?_
        intro L ac W hL hX ha
        have hS := hX.1
        obtain ⟨v', hv', hO⟩ := hX.2.2.2.2 (hL 4 (by omega))
        rw [ha]
        simp only [mendAll, Option.getD_some, Option.getD_none, Option.map_some, putAll, Act.put, List.setIfInBounds_toArray, List.set_cons_zero, List.set_cons_succ]
        change ac.tmps.getD 25 undef = v' at hv'
        rw [hv']
        generalize ac.tmps.getD 24 undef = us24
        clear hv' ha hX hL
        obtain ⟨X2, cx2, e2, _, _, _⟩ := own_row hO
        have hll : (bl ++ [zr]).length = bl.length + 1 := by simp
        rw [hll] at e2
        subst e2
        have c0 : W.cell? ⟨g4, 0, none⟩ = some (.slice X bl.length cx) := hS.2.1.cell 0
        have y0 := hS.2.1.free 0
        have HC5 : Hid (Whole (W.setCell ⟨g4, 0, none⟩ (.slice X2 (bl.length + 1) cx2)) g4 29 #[.slice X2 (bl.length + 1) cx2, .slice none 0 0, .int .i64 (-1)]) := Lib.hid (hS.2.1.set 0 _)
        have HO5 : Hid (OwnS (W.setCell ⟨g4, 0, none⟩ (.slice X2 (bl.length + 1) cx2)) b1 (.slice X2 (bl.length + 1) cx2) (bl ++ [zr])) := Lib.hid (own_one hO (grown_setK W g4 0 _) (by omega))
        have HV5 := Lib.hid (hS.1.setCell (p := ⟨g4, 0, none⟩) (by show gx ≤ g4; omega) (.slice X2 (bl.length + 1) cx2))
        have HZ5 : Hid (b1 ≤ (W.setCell ⟨g4, 0, none⟩ (.slice X2 (bl.length + 1) cx2)).heap.size) := Lib.hid (by simpa [World.setCell] using hS.2.2.1)
        have HZZ5 := Lib.hid (hS.2.2.2.far (p := ⟨g4, 0, none⟩) (by show gx ≠ g4; omega) (.slice X2 (bl.length + 1) cx2))
        clear hS hO HST H63 HBY HO HC HV
        go_wp2_with fail
        go_roundw
        case rel =>
          have R : ∃ (jj : Nat) (XX : Option Addr) (cc : Nat) (bb : List (List UInt8)), jj ≤ 33 ∧ Value.int .i64 ((k : Int) + 1) = .int .i64 (jj : Int) ∧ Hid (bb.length = 0 + jj) ∧ Hid (OwnS (W.setCell ⟨g4, 0, none⟩ (.slice X2 (bl.length + 1) cx2)) b1 (.slice XX bb.length cc) bb) ∧ Hid (Whole (W.setCell ⟨g4, 0, none⟩ (.slice X2 (bl.length + 1) cx2)) g4 29 #[.slice XX bb.length cc, .slice none 0 0, .int .i64 (-1)]) ∧ Hid (Below gx w (W.setCell ⟨g4, 0, none⟩ (.slice X2 (bl.length + 1) cx2))) ∧ Hid (b1 ≤ (W.setCell ⟨g4, 0, none⟩ (.slice X2 (bl.length + 1) cx2)).heap.size) ∧ Hid (Whole (W.setCell ⟨g4, 0, none⟩ (.slice X2 (bl.length + 1) cx2)) gx 29 #[.slice none 0 0, .slice none 0 0, .int .i64 0]) := ⟨k + 1, X2, cx2, bl ++ [zr], by omega, by go_num, Lib.hid (by rw [hll, HLB.out]; omega), Lib.hid (by rw [hll]; exact HO5.out), Lib.hid (by rw [hll]; exact HC5.out), HV5, HZ5, HZZ5⟩
          first | exact R | ((repeat apply Exists.intro); exact ⟨R, rfl⟩)
        case measure => simp [intOf]; omega
    · obtain rfl : k = 33 := by omega
      rw [show ((33 : Nat) : Int) = 33 from rfl]
      go_upto_region 9 with (fail)
      go_loopw [29] (fun i wr => ∃ (jj : Nat) (XX : Option Addr) (cc : Nat) (bb : List (List UInt8)), jj ≤ 24 ∧ i = .int .i64 (jj : Int) ∧ Hid (bb.length = 33 + jj) ∧ Hid (OwnS wr b1 (.slice XX bb.length cc) bb) ∧ Hid (Whole wr g4 29 #[.slice XX bb.length cc, .slice none 0 0, .int .i64 (-1)]) ∧ Hid (Below gx w wr) ∧ Hid (b1 ≤ wr.heap.size) ∧ Hid (Whole wr gx 29 #[.slice none 0 0, .slice none 0 0, .int .i64 0])) (fun i _ => 24 - (intOf i).toNat)
      case atStart => exact ⟨0, X, cx, bl, by decide, rfl, Lib.hid (by rw [HLB.out]), HO, HC, HV, HZ, HZZ⟩
      case round =>
        clear HLB HO HC HV HZ HZZ hk hlt
        clear bl
        obtain ⟨k, X, cx, bl, hk, rfl, HLB, HO, HC, HV, HZ, HZZ⟩ := hrel
        by_cases hlt : k < 24
        · have e1 : decide ((k : Int) < 24) = true := decide_eq_true (by omega)
          have e1' : decide (k < 24) = true := decide_eq_true hlt
          have j0 : (0 : Int) ≤ (k : Int) := by omega
          have j1 : (k : Int) < 24 := by omega
          obtain ⟨x, hx⟩ := get_some (l := l) (k := k) (by rw [HL.out.1]; exact hlt)
          obtain ⟨ga, hga, _, _⟩ := HAA.out k (S x) (by rw [List.getElem?_map, hx]; rfl)
          have CE : Hid (∀ W, Below gx w W → W.cell? (ga.add k) = some (S x)) := Lib.hid fun W hS => by
            obtain ⟨ad, e, _, hc⟩ := Lies.below HAA.out hS k (S x) (by rw [List.getElem?_map, hx]; rfl)
            rw [hga] at e; injection e with e; rw [e]; exact hc
          have hxl : x.length = 128 := HL.out.2 x (List.mem_of_getElem? hx)
          have cx0 := CE.out wr HV.out
          rw [hga]
          clear hx
          go_upto_region 13 with (fail)
          clear cx0
          have HST : Hid (∀ W W', (Below W.heap.size W W' ∨ ∃ Z, W.grownBy W' Z ∧ ∀ q, Z = some q → b1 ≤ q) → (Below gx w W ∧ Whole W g4 29 #[.slice X bl.length cx, .slice none 0 0, .int .i64 (-1)] ∧ b1 ≤ W.heap.size ∧ Whole W gx 29 #[.slice none 0 0, .slice none 0 0, .int .i64 0]) → Below gx w W' ∧ Whole W' g4 29 #[.slice X bl.length cx, .slice none 0 0, .int .i64 (-1)] ∧ b1 ≤ W'.heap.size ∧ Whole W' gx 29 #[.slice none 0 0, .slice none 0 0, .int .i64 0]) := Lib.hid fun W W' h hI => by
            have hl := hI.2.1.lt
            have hb1 := hI.2.2.1
            have hz0 := hI.2.2.2.lt
            rcases h with h | ⟨Z, h, hz⟩
            · exact ⟨hI.1.trans (h.mono (by omega)), hI.2.1.below h hI.2.1.lt, Nat.le_trans hb1 h.size, hI.2.2.2.below h hI.2.2.2.lt⟩
            · exact ⟨hI.1.grown h (by omega) (fun q e => by have := hz q e; omega), hI.2.1.other h (fun e => by have := hz _ e.symm; omega), Nat.le_trans hb1 h.size, hI.2.2.2.other h (fun e => by have := hz _ e.symm; omega)⟩
          have H63 : Hid (bl.length + 1 ≤ maxLen) := Lib.hid (by unfold maxLen; have := HLB.out; omega)
          have HBY : Hid ((bl.length + 1) * 16 ≤ 140737488355328) := Lib.hid (by have := HLB.out; omega)
          refine' wp_region_sureX (by kernel_rfl) (ApX (fun W => Below gx w W ∧ Whole W g4 29 #[(.slice X bl.length cx), .slice none 0 0, .int .i64 (-1)] ∧ b1 ≤ W.heap.size ∧ Whole W gx 29 #[.slice none 0 0, .slice none 0 0, .int .i64 0]) b1 (.slice X bl.length cx) bl x 6 45 7 46) 9 [some _, some _, some _, some _, some _, some _, none, none, some _] [some 39, some 40, some 41, some 42, some 43, some 44, some 45, some 46, some 47] (by kernel_rfl) (by kernel_rfl) (by kernel_rfl) (by kernel_rfl) rfl (ApX.init ⟨HV.out.drew, HC.out.below (Below.refl wr.heap.size wr).drew HC.out.lt, Nat.le_trans HZ.out ((Below.refl wr.heap.size wr).drew).size, HZZ.out.below (Below.refl wr.heap.size wr).drew HZZ.out.lt⟩ (Nat.le_trans HZ.out ((Below.refl wr.heap.size wr).drew).size) (ownr_below HO.out (Below.refl wr.heap.size wr).drew)) ?hsx13
          case hsx13 =>
            refine sureX_cons ?_ ?_
            · intro L ac W K hLi hed hJ hX hK
              have hS := hX.1
              have hA4 : ac.eval (.tmp 4) = .pointer (some ⟨g4, 0, none⟩) := hJ.eval_old 4 (by kernel_rfl)
              have hsz := Lib.hid hJ.size
              clear hed hJ
              refine opStep_of rfl ?_
              unfold Oper.wp execOp
              have hN4 := evalN hA4
              go_simp
              refine hK _ _ ?_ (hX.same (i := 0) rfl rfl (by decide) (by decide))
              exact Knows.known _
            refine sureX_cons ?_ ?_
            · intro L ac W K hLi hed hJ hX hK
              have hS := hX.1
              have hn := needs_spec (l := [0]) (by kernel_rfl) hed
              have hA39 := hJ.eval 0 (d := 39) (hn 0 (by simp)) rfl rfl rfl
              have hsz := Lib.hid hJ.size
              clear hed hJ hn
              refine opStep_of rfl ?_
              have cc := hS.2.1.cell 0
              unfold Oper.wp execOp
              have hN39 := evalN hA39
              go_simp
              refine hK _ _ ?_ (hX.same (i := 1) rfl rfl (by decide) (by decide))
              exact Knows.known _
            refine sureX_cons ?_ ?_
            · intro L ac W K hLi hed hJ hX hK
              have hS := hX.1
              have hA0 : ac.eval (.tmp 0) = .slice (some ga) 24 c := hJ.eval_old 0 (by kernel_rfl)
              have hsz := Lib.hid hJ.size
              clear hed hJ
              refine opStep_of rfl ?_
              unfold Oper.wp execOp
              have hN0 := evalN hA0
              go_simp
              refine hK _ _ ?_ (hX.same (i := 2) rfl rfl (by decide) (by decide))
              exact Knows.known _
            refine sureX_cons ?_ ?_
            · intro L ac W K hLi hed hJ hX hK
              have hS := hX.1
              have hA6 : ac.eval (.tmp 6) = .int .i64 (k : Int) := hJ.eval_old 6 (by kernel_rfl)
              have hsz := Lib.hid hJ.size
              clear hed hJ
              refine opStep_of rfl ?_
              unfold Oper.wp execOp
              have hN6 := evalN hA6
              go_simp
              refine hK _ _ ?_ (hX.same (i := 3) rfl rfl (by decide) (by decide))
              exact Knows.known _
            refine sureX_cons ?_ ?_
            · intro L ac W K hLi hed hJ hX hK
              have hS := hX.1
              have hn := needs_spec (l := [2, 3]) (by kernel_rfl) hed
              have hA41 := hJ.eval 2 (d := 41) (hn 2 (by simp)) rfl rfl rfl
              have hA42 := hJ.eval 3 (d := 42) (hn 3 (by simp)) rfl rfl rfl
              have hsz := Lib.hid hJ.size
              clear hed hJ hn
              refine opStep_of rfl ?_
              unfold Oper.wp execOp
              have hN41 := evalN hA41
              have hN42 := evalN hA42
              go_simp
              refine hK _ _ ?_ (hX.same (i := 4) rfl rfl (by decide) (by decide))
              exact Knows.known _
            refine sureX_cons ?_ ?_
            · intro L ac W K hLi hed hJ hX hK
              have hS := hX.1
              have hn := needs_spec (l := [4]) (by kernel_rfl) hed
              have hA43 := hJ.eval 4 (d := 43) (hn 4 (by simp)) rfl rfl rfl
              have hsz := Lib.hid hJ.size
              clear hed hJ hn
              refine opStep_of rfl ?_
              have cc := CE.out W hS.1
              unfold Oper.wp execOp
              have hN43 := evalN hA43
              go_simp
              refine hK _ _ ?_ (hX.same (i := 5) rfl rfl (by decide) (by decide))
              exact Knows.known _
            refine sureX_cons ?_ ?_
            · intro L ac W K hLi hed hJ hX hK
              have hS := hX.1
              have hn := needs_spec (l := [5]) (by kernel_rfl) hed
              have hA44 := hJ.eval 5 (d := 44) (hn 5 (by simp)) rfl rfl rfl
              have hsz := Lib.hid hJ.size
              clear hed hJ hn
              refine opStep_of rfl ?_
              unfold Oper.wp execOp
              have hN44 := evalN hA44
              go_simp
              refine hK _ _ ?_ (hX.made (j := 6) (q := 7) (s := 45) (t := 46) rfl (by decide) (by rw [hsz.out]; exact of_decide_eq_true rfl) (HST.out W _ (.inl ((Below.refl W.heap.size W).alloc (Nat.le_refl _) _)) hS))
              exact Knows.free _
            refine sureX_cons ?_ ?_
            · intro L ac W K hLi hed hJ hX hK
              have hS := hX.1
              have hn := needs_spec (l := [1, 6]) (by kernel_rfl) hed
              have hA40 := hJ.eval 1 (d := 40) (hn 1 (by simp)) rfl rfl rfl
              obtain ⟨hg, hA45, hY⟩ := hX.2.2.2.1 (hn 6 (by simp)) hLi
              have hO := hX.2.2.1 hLi
              have hsz := Lib.hid hJ.size
              clear hed hJ hn
              refine opStep_of rfl ?_
              refine wp_append_own W (.tmp 40) (.tmp 45) 22 rfl b1 9 i0 _ 1 16 Tryz.underlying22 hi0 hz0 hz1 hz2 rfl (by decide) _ _ _ hA40 hO ⟨hg, 0, none⟩ 1 1 [S x] hA45 rfl hY.reads (by simp [Value.oneCell']) H63.out HBY.out hX.2.1 fun v' W' hown' hgrow _ => ?_
              refine hK _ W' ?_ (hX.app (j := 6) (q := 7) (t := 46) rfl (by rw [hsz.out]; exact of_decide_eq_true rfl) (HST.out W W' (.inr ⟨_, hgrow, own_ge' hO⟩) hS) hgrow.size (by unfold OwnS; rw [List.length_append, List.map_append]; exact hown'))
              exact Knows.free _
            refine sureX_cons ?_ ?_
            · intro L ac W K hLi hed hJ hX hK
              have hS := hX.1
              have hA4 : ac.eval (.tmp 4) = .pointer (some ⟨g4, 0, none⟩) := hJ.eval_old 4 (by kernel_rfl)
              have hsz := Lib.hid hJ.size
              clear hed hJ
              refine opStep_of rfl ?_
              unfold Oper.wp execOp
              have hN4 := evalN hA4
              go_simp
              refine hK _ _ ?_ (hX.same (i := 8) rfl rfl (by decide) (by decide))
              exact Knows.known _
            refine sureX_nil ?_
            intro L ac W hL hX ha
            have hS := hX.1
            obtain ⟨v', hv', hO⟩ := hX.2.2.2.2 (hL 7 (by omega))
            rw [ha]
            simp only [mendAll, Option.getD_some, Option.getD_none, Option.map_some, putAll, Act.put, List.setIfInBounds_toArray, List.set_cons_zero, List.set_cons_succ]
            change ac.tmps.getD 46 undef = v' at hv'
            rw [hv']
            generalize ac.tmps.getD 45 undef = us45
            clear hv' ha hX hL
            obtain ⟨X2, cx2, e2, _, _, _⟩ := own_row hO
            have hll : (bl ++ [x]).length = bl.length + 1 := by simp
            rw [hll] at e2
            subst e2
            have c0 : W.cell? ⟨g4, 0, none⟩ = some (.slice X bl.length cx) := hS.2.1.cell 0
            have y0 := hS.2.1.free 0
            have HC5 : Hid (Whole (W.setCell ⟨g4, 0, none⟩ (.slice X2 (bl.length + 1) cx2)) g4 29 #[.slice X2 (bl.length + 1) cx2, .slice none 0 0, .int .i64 (-1)]) := Lib.hid (hS.2.1.set 0 _)
            have HO5 : Hid (OwnS (W.setCell ⟨g4, 0, none⟩ (.slice X2 (bl.length + 1) cx2)) b1 (.slice X2 (bl.length + 1) cx2) (bl ++ [x])) := Lib.hid (own_one hO (grown_setK W g4 0 _) (by omega))
            have HV5 := Lib.hid (hS.1.setCell (p := ⟨g4, 0, none⟩) (by show gx ≤ g4; omega) (.slice X2 (bl.length + 1) cx2))
            have HZ5 : Hid (b1 ≤ (W.setCell ⟨g4, 0, none⟩ (.slice X2 (bl.length + 1) cx2)).heap.size) := Lib.hid (by simpa [World.setCell] using hS.2.2.1)
            have HZZ5 := Lib.hid (hS.2.2.2.far (p := ⟨g4, 0, none⟩) (by show gx ≠ g4; omega) (.slice X2 (bl.length + 1) cx2))
            clear hS hO HST H63 HBY HO HC HV
            go_wp2_with fail
            go_roundw
            case rel =>
              have R : ∃ (jj : Nat) (XX : Option Addr) (cc : Nat) (bb : List (List UInt8)), jj ≤ 24 ∧ Value.int .i64 ((k : Int) + 1) = .int .i64 (jj : Int) ∧ Hid (bb.length = 33 + jj) ∧ Hid (OwnS (W.setCell ⟨g4, 0, none⟩ (.slice X2 (bl.length + 1) cx2)) b1 (.slice XX bb.length cc) bb) ∧ Hid (Whole (W.setCell ⟨g4, 0, none⟩ (.slice X2 (bl.length + 1) cx2)) g4 29 #[.slice XX bb.length cc, .slice none 0 0, .int .i64 (-1)]) ∧ Hid (Below gx w (W.setCell ⟨g4, 0, none⟩ (.slice X2 (bl.length + 1) cx2))) ∧ Hid (b1 ≤ (W.setCell ⟨g4, 0, none⟩ (.slice X2 (bl.length + 1) cx2)).heap.size) ∧ Hid (Whole (W.setCell ⟨g4, 0, none⟩ (.slice X2 (bl.length + 1) cx2)) gx 29 #[.slice none 0 0, .slice none 0 0, .int .i64 0]) := ⟨k + 1, X2, cx2, bl ++ [x], by omega, by go_num, Lib.hid (by rw [hll, HLB.out]; omega), Lib.hid (by rw [hll]; exact HO5.out), Lib.hid (by rw [hll]; exact HC5.out), HV5, HZ5, HZZ5⟩
              first | exact R | ((repeat apply Exists.intro); exact ⟨R, rfl⟩)
            case measure => simp [intOf]; omega
        · obtain rfl : k = 24 := by omega
          rw [show ((24 : Nat) : Int) = 24 from rfl]
          have L4 := Lib.hid HC.out.reads
          have SDV : Hid ((Tryz.prog.info? 29).map (·.size) = some 3) := Lib.hid Tryz.sizeDv
          have OD2 : ∀ v ∈ [Value.slice X bl.length cx, .slice none 0 0, .int .i64 (-1)], v.oneCell' = true := by intro v hv; simp at hv; rcases hv with rfl | rfl | rfl <;> rfl
          go_wp2_with (first
            | (refine wpList_load_at rfl 29 (.tmp 4) rfl ⟨g4, 0, none⟩ rfl [Value.slice X bl.length cx, .slice none 0 0, .int .i64 (-1)] _ L4.out Tryz.underlying29 rfl SDV.out ?_)
            | (refine wpList_store_all rfl 29 (.tmp 2) (.tmp 49) rfl rfl gx rfl [Value.slice X bl.length cx, .slice none 0 0, .int .i64 (-1)] rfl SDV.out [.slice none 0 0, .slice none 0 0, .int .i64 0] 29 HZZ.out rfl OD2 ?_; intro wz hw hk2))
          refine bodyPost_ret (v := .tuple #[.agg [Value.slice X bl.length cx, .slice none 0 0, .int .i64 (-1)].toArray, .int .i64 0]) (results_cell_tmp rfl _ _ gx 29 _ _ (0, 0) _ rfl rfl hw.out Tryz.underlying29 rfl (by kernel_rfl)) rfl ?_
          have hgz := HV.out.grown hk2.out (by have := HZZ.out.lt; omega) (fun q e => by injection e with e; omega)
          obtain ⟨X3, c3, e3, hl3, hc3, _⟩ := own_row (own_one HO.out hk2.out (by omega))
          injection e3 with e3 _ e4
          subst e3 e4
          exact ⟨⟨X, cx, bl, rfl, by rw [HLB.out], hc3, hl3.1, fun ad e => by have := (hl3.2 ad e).1; have := HGX.out; omega⟩, by rw [HGX.out]; exact hgz⟩
end Go.Proofs.YtdhfblfnejmeiaaGreatDoor
