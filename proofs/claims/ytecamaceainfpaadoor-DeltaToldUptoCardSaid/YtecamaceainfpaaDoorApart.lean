/-
  Walks: hibernacleref02.One, unlike, Apart; hibernaclelaw35.apart; hibernacleref35.Empty.
-/
import Derived.Test.YtecamaceainfpaaDoorRSum
import Derived.Test.YtecamaceainfpaaDoorEq
import Derived.Test.YtecamaceainfpaaDoorGreat
import Derived.Test.YtecamaceainfpaaDoorDone
import Derived.BigQuiet
import Derived.Deep.QuietTactic
namespace Go.Proofs.YtecamaceainfpaaDoor
open Go.RowKit

section
variable {P : Program}
/-- a whole array loaded, in a region that only reads -/
theorem wpQuiet_load_at {ops : Array Oper} {rest : List Oper} {o : Oper} {a : Act} {w : World} {Q : Act → Prop} (hw : Region.wanted o (yielded ops a.tmps) = true) (ty : TypeId) (x : Operand) (ho : o.op = .load ty x)
    (ad : Addr) (hx : a.eval x = .pointer (some ad)) (cs : List Value) (d : TypeDesc) (hc : ∀ j v, cs[j]? = some v → w.cell? (ad.add j) = some v)
    (hu : P.underlying ty = some d) (hd : (match d with | .struct _ | .array _ _ => true | _ => false) = true) (hi : (P.info? ty).map (·.size) = some cs.length)
    (h : wpQuiet P ops (fun w' => ∃ n, w' = w.drewN n) Q rest (a.put o.dst (.agg cs.toArray))) : wpQuiet P ops (fun w' => ∃ n, w' = w.drewN n) Q (o :: rest) a :=
  wpQuiet_step fun K hK => by
    rw [if_pos hw]
    refine ⟨.agg cs.toArray, fun w' hw' => ?_, hK _ h⟩
    obtain ⟨n, rfl⟩ := hw'
    unfold Oper.quietAt execOp
    simp only [ho, hx, Instr.loadAt, Instr.sureAddr, Sem.run_bind, Sem.run_pure, Result.andThen_ok, run_loadVar_at (w.drewN n) ad ty cs d hc hu hd hi]
    exact ⟨rfl, rfl⟩
end

set_option maxRecDepth 100000 in
set_option maxHeartbeats 1000000 in
theorem rone_any (w : World) (s : List UInt8) (hl : s.length ≤ 1099511627776) :
    Calls Tryd.prog 70 #[S s] w fun e w' => e = .returned (D32 (dig s)) ∧ Below w.heap.size w w' := by
  have HZ := Lib.hid (Whole.made w 29 ((List.replicate 32 (0 : UInt8)).map B8).toArray)
  have HB := Lib.hid ((Below.refl w.heap.size w).alloc (Nat.le_refl _) (.cells ((List.replicate 32 (0 : UInt8)).map B8).toArray 29))
  go_enter Tryd.func70, Tryd.ntmps70
  go_wp2_with fail
  have hsz1 : (w.alloc (.cells ((List.replicate 32 (0 : UInt8)).map B8).toArray 29)).heap.size = w.heap.size + 1 := by simp
  change Calls _ _ _ ((w.alloc (.cells ((List.replicate 32 (0 : UInt8)).map B8).toArray 29)).alloc (.cells #[S s] 9)) _
  generalize w.alloc (.cells ((List.replicate 32 (0 : UInt8)).map B8).toArray 29) = w2 at *
  rw [← hsz1]
  refine (rsum_any (w2.alloc (.cells #[S s] 9)) (some ⟨w2.heap.size, 0, none⟩) 1 [s] (lies_made w2 9 [S s] _ (by simp)) (by simp) (by simp; omega)).mono ?_
  rintro e w3 ⟨rfl, hb3⟩
  have HB3 : Hid (Below w.heap.size w w3) := Lib.hid ((HB.out.alloc HB.out.size _).trans (hb3.mono (by have := HB.out.size; simp; omega)))
  have HZ3 := Lib.hid ((HZ.out.block _).below hb3 (by have := HZ.out.lt; simp; omega))
  clear hb3 HB HZ hsz1
  have HDL : Hid ((dig s).length = 32) := Lib.hid (dig_length s)
  rw [show dig [s].flatten = dig s by simp]
  obtain ⟨D, HDn⟩ : ∃ z, Hid (dig s = z) := ⟨_, Lib.hid rfl⟩
  rw [HDn.out] at HDL
  rw [HDn.out]
  have HDi : Hid ((Tryd.prog.info? 29).map (·.size) = some (D.map B8).toArray.size) := Lib.hid (by
    rw [List.size_toArray, List.length_map, HDL.out]; kernel_rfl)
  have HDl : Hid ((Tryd.prog.info? 29).map (·.size) = some (D.map B8).length) := Lib.hid (by
    rw [List.length_map, HDL.out]; kernel_rfl)
  have HC1 : Hid (0 + (D.map B8).length ≤ ((List.replicate 32 (0 : UInt8)).map B8).length) := Lib.hid (by rw [List.length_map, List.length_map, HDL.out]; decide)
  go_wp2_with (refine wpList_store_at rfl 29 (.tmp 2) (.tmp 5) rfl rfl w.heap.size 0 rfl (D.map B8) rfl HDl.out ((List.replicate 32 (0 : UInt8)).map B8) 29 HZ3.out HC1.out (B8_one _) ?_; intro w6 H6 F6)
  have h6 : Whole w6 w.heap.size 29 (D.map B8).toArray := by
    have := H6.out
    rw [List.length_map, HDL.out] at this
    simpa using this
  exact bodyPost_ret (v := .agg (D.map B8).toArray) (results_cell_row rfl _ _ w.heap.size 29 _ (0, 0) _ rfl h6 Tryd.underlying29 rfl HDi.out) rfl ⟨by rw [HDn.out], below_grown HB3.out F6.out HB3.out.size (Nat.le_refl _)⟩

set_option maxRecDepth 100000 in
set_option maxHeartbeats 1000000 in
theorem empty_any (w : World) :
    Calls Tryd.prog 20 #[] w fun e w' => e = .returned (D32 (dig (imgB [] [] []))) ∧ Below w.heap.size w w' := by
  have HZ := Lib.hid (Whole.made w 29 ((List.replicate 32 (0 : UInt8)).map B8).toArray)
  have HB := Lib.hid ((Below.refl w.heap.size w).alloc (Nat.le_refl _) (.cells ((List.replicate 32 (0 : UInt8)).map B8).toArray 29))
  go_enter Tryd.func20, Tryd.ntmps20
  go_wp2_with fail
  change Calls _ _ _ (w.alloc (.cells ((List.replicate 32 (0 : UInt8)).map B8).toArray 29)) _
  generalize w.alloc (.cells ((List.replicate 32 (0 : UInt8)).map B8).toArray 29) = w2 at *
  refine (rimgSum_any w2 none none 0 0 [] [] [] (Lies.none _ _ _) (Lies.none _ _ _) (by simp [sizeOf])).mono ?_
  rintro e w3 ⟨rfl, hb3⟩
  have HB3 : Hid (Below w.heap.size w w3) := Lib.hid (HB.out.trans (hb3.mono HB.out.size))
  have HZ3 := Lib.hid (HZ.out.below hb3 HZ.out.lt)
  clear hb3 HB HZ
  have HDL : Hid ((dig (imgB [] [] [])).length = 32) := Lib.hid (dig_length _)
  obtain ⟨D, HDn⟩ : ∃ z, Hid (dig (imgB [] [] []) = z) := ⟨_, Lib.hid rfl⟩
  rw [HDn.out] at HDL
  rw [HDn.out]
  have HDi : Hid ((Tryd.prog.info? 29).map (·.size) = some (D.map B8).toArray.size) := Lib.hid (by
    rw [List.size_toArray, List.length_map, HDL.out]; kernel_rfl)
  have HDl : Hid ((Tryd.prog.info? 29).map (·.size) = some (D.map B8).length) := Lib.hid (by
    rw [List.length_map, HDL.out]; kernel_rfl)
  have HC1 : Hid (0 + (D.map B8).length ≤ ((List.replicate 32 (0 : UInt8)).map B8).length) := Lib.hid (by rw [List.length_map, List.length_map, HDL.out]; decide)
  go_wp2_with (refine wpList_store_at rfl 29 (.tmp 0) (.tmp 2) rfl rfl w.heap.size 0 rfl (D.map B8) rfl HDl.out ((List.replicate 32 (0 : UInt8)).map B8) 29 HZ3.out HC1.out (B8_one _) ?_; intro w6 H6 F6)
  have h6 : Whole w6 w.heap.size 29 (D.map B8).toArray := by
    have := H6.out
    rw [List.length_map, HDL.out] at this
    simpa using this
  exact bodyPost_ret (v := .agg (D.map B8).toArray) (results_cell_row rfl _ _ w.heap.size 29 _ (0, 0) _ rfl h6 Tryd.underlying29 rfl HDi.out) rfl ⟨by rw [HDn.out], below_grown HB3.out F6.out HB3.out.size (Nat.le_refl _)⟩

/-- digests, as cells -/
def sCells (ls : List (List UInt8)) : List Value := ls.flatMap fun s => (dig s).map B8
theorem sCells_length (ls : List (List UInt8)) : (sCells ls).length = ls.length * 32 := by
  induction ls with
  | nil => rfl
  | cons l ls ih =>
    have : sCells (l :: ls) = (dig l).map B8 ++ sCells ls := by simp [sCells]
    rw [this, List.length_append, ih, List.length_map, dig_length, List.length_cons]; omega
theorem sCells_append (a b : List (List UInt8)) : sCells (a ++ b) = sCells a ++ sCells b := by simp [sCells]
theorem sCells_at (ls : List (List UInt8)) {i : Nat} (hi : i < ls.length) : ∀ j v, ((dig (ls.getD i [])).map B8)[j]? = some v → (sCells ls)[i * 32 + j]? = some v := fun j v hv => by
  have e : ls = ls.take i ++ (ls[i] :: ls.drop (i + 1)) := by rw [List.getElem_cons_drop, List.take_append_drop]
  have hg : ls.getD i [] = ls[i] := by simp [List.getD, hi]
  rw [hg] at hv
  have hl : (sCells (ls.take i)).length = i * 32 := by rw [sCells_length, List.length_take]; congr 1; omega
  have hlt := (List.getElem?_eq_some_iff.1 hv).1
  rw [e, sCells_append, List.getElem?_append_right (by omega), hl, show i * 32 + j - i * 32 = j by omega]
  have : ∀ (x : List UInt8) (l : List (List UInt8)), sCells (x :: l) = (dig x).map B8 ++ sCells l := fun x l => by simp [sCells]
  rw [this, List.getElem?_append_left hlt]; exact hv
/-- no unlike texts of which the first comes behind the other, up to (i, k), have one digest -/
def apartTo (ls : List (List UInt8)) (i k : Nat) : Prop := ∀ x y, y < x → (x < i ∨ (x = i ∧ y < k)) → dig (ls.getD x []) = dig (ls.getD y []) → ls.getD x [] = ls.getD y []
/-- no two unlike texts have one digest -/
def apartL (ls : List (List UInt8)) : Prop := apartTo ls ls.length 0
open Classical in
/-- has no text of a list the digest of an unlike one? -/
noncomputable def apartB (ls : List (List UInt8)) : Bool := decide (apartL ls)
theorem apartB_true {ls : List (List UInt8)} (h : apartL ls) : apartB ls = true := by simp [apartB, h]
theorem apartB_false {ls : List (List UInt8)} (h : ¬ apartL ls) : apartB ls = false := by simp [apartB, h]
theorem apartB_iff {ls : List (List UInt8)} : apartB ls = true ↔ apartL ls := by simp [apartB]
theorem apartTo_next {ls : List (List UInt8)} {i k : Nat} (h : apartTo ls i k) (hn : dig (ls.getD i []) = dig (ls.getD k []) → ls.getD i [] = ls.getD k []) : apartTo ls i (k + 1) := by
  intro x y hyx hxy
  rcases hxy with hxy | ⟨rfl, hxy⟩
  · exact h x y hyx (.inl hxy)
  · by_cases e : y = k
    · subst e; exact hn
    · exact h x y hyx (.inr ⟨rfl, by omega⟩)
theorem apartTo_row {ls : List (List UInt8)} {i : Nat} (h : apartTo ls i i) : apartTo ls (i + 1) 0 := by
  intro x y hyx hxy
  by_cases e : x = i
  · subst e; exact h x y hyx (.inr ⟨rfl, hyx⟩)
  · exact h x y hyx (.inl (by omega))
theorem not_apart {ls : List (List UInt8)} {i k : Nat} (hi : i < ls.length) (hk : k < i) (hd : dig (ls.getD i []) = dig (ls.getD k [])) (hn : ls.getD i [] ≠ ls.getD k []) : ¬ apartL ls := fun h => hn (h i k hk (.inl hi) hd)

theorem add_add (a : Addr) (i j : Nat) : (a.add i).add j = a.add (i + j) := by
  unfold Addr.add
  by_cases hi : i = 0 <;> by_cases hj : j = 0 <;> simp [hi, hj, Nat.add_assoc]
set_option maxRecDepth 100000 in
set_option maxHeartbeats 2000000 in
theorem unlike_any (w : World) (A G : Option Addr) (c d : Nat) (ls : List (List UInt8)) (hA : Strs w w.heap.size A ls) (hG : Lies w w.heap.size G (sCells ls)) (hl : ls.length ≤ 1099511627776) :
    Calls Tryd.prog 71 #[.slice A ls.length c, .slice G ls.length d] w fun e w' => e = .returned (.bool (apartB ls)) ∧ Below w.heap.size w w' := by
  have HA := Lib.hid hA
  have HG := Lib.hid hG
  clear hA hG
  go_enter Tryd.func71, Tryd.ntmps71
  go_wp2_with fail
  go_loopw [5] (fun x wr => ∃ i : Nat, i ≤ ls.length ∧ x = .int .i64 i ∧ Hid (apartTo ls i 0) ∧ Hid (Below w.heap.size w wr)) (fun x _ => ls.length - (intOf x).toNat)
  case atStart => exact ⟨0, by omega, rfl, Lib.hid (fun x y hy h => by omega), Lib.hid (Below.refl _ _)⟩
  case round =>
    obtain ⟨i, hi, rfl, HP, HW0⟩ := hrel
    by_cases hlt : i < ls.length
    · go_wp2_with fail
      obtain ⟨wo, HWO⟩ : ∃ z, Hid (wr = z) := ⟨_, Lib.hid rfl⟩
      rw [HWO.out] at HW0
      rw [HWO.out]
      clear HWO wr
      go_loopw [6] (fun x wr => ∃ k : Nat, k ≤ i ∧ x = .int .i64 k ∧ Hid (apartTo ls i k) ∧ Hid (Below w.heap.size w wr)) (fun x _ => i - (intOf x).toNat)
      case atStart => exact ⟨0, by omega, rfl, HP, HW0⟩
      case round =>
        obtain ⟨k, hk, rfl, HPk, HW⟩ := hrel
        by_cases hki : k < i
        · obtain ⟨ad, rfl, had, a0⟩ := HA.out.at' hlt
          obtain ⟨ad', e', _, a1⟩ := HA.out.at' (show k < ls.length by omega)
          obtain rfl : ad = ad' := by injection e'
          clear e'
          have a0' : wr.cell? (ad.add i) = _ := (HW.out.cell (by rw [add_block]; exact had)).trans a0
          have a1' : wr.cell? (ad.add k) = _ := (HW.out.cell (by rw [add_block]; exact had)).trans a1
          clear a0 a1
          obtain ⟨gd, rfl, hgd⟩ : ∃ gd, G = some gd ∧ gd.block < w.heap.size := by
            have h0 : 0 < (sCells ls).length := by rw [sCells_length]; omega
            obtain ⟨gd, e, hb, _⟩ := HG.out 0 _ (List.getElem?_eq_getElem h0)
            exact ⟨gd, e, hb⟩
          have CC : ∀ q, q < ls.length → ∀ j v, ((dig (ls.getD q [])).map B8)[j]? = some v → wr.cell? ((gd.add (q * 32)).add j) = some v := fun q hq j v hv => by
            obtain ⟨gd', e, _, hc⟩ := HG.out _ _ (sCells_at ls hq j v hv)
            injection e with e; subst e
            rw [add_add, ← hc]
            exact HW.out.cell (by rw [add_block]; exact hgd)
          have CX := Lib.hid (CC i hlt)
          have CY := Lib.hid (CC k (by omega))
          clear CC
          have DX : Hid ((dig (ls.getD i [])).length = 32) := Lib.hid (dig_length _)
          have DY : Hid ((dig (ls.getD k [])).length = 32) := Lib.hid (dig_length _)
          have HNX : Hid ((dig (ls.getD i []) = dig (ls.getD k []) → ls.getD i [] = ls.getD k []) → apartTo ls i (k + 1)) := Lib.hid (apartTo_next HPk.out)
          have HNO : Hid (dig (ls.getD i []) = dig (ls.getD k []) → ls.getD i [] ≠ ls.getD k [] → apartB ls = false) := Lib.hid (fun h1 h2 => apartB_false (not_apart hlt hki h1 h2))
          generalize dig (ls.getD i []) = dx at *
          generalize dig (ls.getD k []) = dy at *
          generalize ls.getD i [] = x at *
          generalize ls.getD k [] = y at *
          have HIx : Hid ((Tryd.prog.info? 29).map (·.size) = some (dx.map B8).length) := Lib.hid (by rw [List.length_map, DX.out]; kernel_rfl)
          have HIy : Hid ((Tryd.prog.info? 29).map (·.size) = some (dy.map B8).length) := Lib.hid (by rw [List.length_map, DY.out]; kernel_rfl)
          have i0 : (0 : Int) ≤ (i : Int) := by omega
          have i1 : (i : Int) < (ls.length : Int) := by omega
          have k0 : (0 : Int) ≤ (k : Int) := by omega
          have k1 : (k : Int) < (ls.length : Int) := by omega
          have hd : decide ((k : Int) < (i : Int)) = true := by simp; omega
          have hd' : decide (k < i) = true := by simp; omega
          by_cases hde : dx = dy
          · have eq1 : ∀ W : World, (Op.equalIn 10000 29 (D32 dx) (D32 dy)).run Tryd.prog W = .ok true W := fun W => by rw [eqIn_D32 dx dy DX.out DY.out]; simp [hde]
            by_cases hxy : x = y
            · have HNX := Lib.hid (HNX.out (fun _ => hxy))
              have hbn : (x != y) = false := by simp [hxy]
              have hbe : (x == y) = true := by simp [hxy]
              clear hxy hde
              go_wp2_with fail
              refine wp_region_quiet_lit (by kernel_rfl) (by kernel_rfl) ?_
              iterate 3 (go_big_quiet_step (fail))
              refine wpQuiet_load_at rfl 29 (.tmp 20) rfl (gd.add (i * 32)) rfl (dx.map B8) _ CX.out Tryd.underlying29 rfl HIx.out ?_
              go_simp
              iterate 3 (go_big_quiet_step (fail))
              refine wpQuiet_load_at rfl 29 (.tmp 24) rfl (gd.add (k * 32)) rfl (dy.map B8) _ CY.out Tryd.underlying29 rfl HIy.out ?_
              go_simp
              repeat (go_big_quiet_step (fail))
              refine wpQuiet_nil ?_
              intro nq
              go_wp2_with fail
              go_roundw
              case rel =>
                have R : ∀ M : Nat, ∃ k' : Nat, k' ≤ i ∧ Value.int .i64 ((k : Int) + 1) = .int .i64 k' ∧ Hid (apartTo ls i k') ∧ Hid (Below w.heap.size w (wr.drewN M)) := fun M => ⟨k + 1, by omega, by go_num, HNX, Lib.hid (Below.draws HW.out _)⟩
                first | exact R _ | ((repeat apply Exists.intro); exact ⟨R _, rfl⟩)
              case measure => simp [intOf]; omega
            · have HNN := Lib.hid (HNO.out hde hxy)
              have hbe : (x == y) = false := beq_eq_false_iff_ne.2 hxy
              have hbn : (x != y) = true := by simp [bne, hbe]
              clear hxy hde
              go_wp2_with fail
              refine wp_region_quiet_lit (by kernel_rfl) (by kernel_rfl) ?_
              iterate 3 (go_big_quiet_step (fail))
              refine wpQuiet_load_at rfl 29 (.tmp 20) rfl (gd.add (i * 32)) rfl (dx.map B8) _ CX.out Tryd.underlying29 rfl HIx.out ?_
              go_simp
              iterate 3 (go_big_quiet_step (fail))
              refine wpQuiet_load_at rfl 29 (.tmp 24) rfl (gd.add (k * 32)) rfl (dy.map B8) _ CY.out Tryd.underlying29 rfl HIy.out ?_
              go_simp
              repeat (go_big_quiet_step (fail))
              refine wpQuiet_nil ?_
              intro nq
              go_wp2_with fail
              go_ret
              exact ⟨by rw [HNN.out]; rfl, Below.draws HW.out _⟩
          · have eq1 : ∀ W : World, (Op.equalIn 10000 29 (D32 dx) (D32 dy)).run Tryd.prog W = .ok false W := fun W => by rw [eqIn_D32 dx dy DX.out DY.out]; simp [hde]
            have HNX := Lib.hid (HNX.out (fun h => absurd h hde))
            clear hde
            go_wp2_with fail
            refine wp_region_quiet_lit (by kernel_rfl) (by kernel_rfl) ?_
            iterate 3 (go_big_quiet_step (fail))
            refine wpQuiet_load_at rfl 29 (.tmp 20) rfl (gd.add (i * 32)) rfl (dx.map B8) _ CX.out Tryd.underlying29 rfl HIx.out ?_
            go_simp
            iterate 3 (go_big_quiet_step (fail))
            refine wpQuiet_load_at rfl 29 (.tmp 24) rfl (gd.add (k * 32)) rfl (dy.map B8) _ CY.out Tryd.underlying29 rfl HIy.out ?_
            go_simp
            repeat (go_big_quiet_step (fail))
            refine wpQuiet_nil ?_
            intro nq
            go_wp2_with fail
            go_roundw
            case rel =>
              have R : ∀ M : Nat, ∃ k' : Nat, k' ≤ i ∧ Value.int .i64 ((k : Int) + 1) = .int .i64 k' ∧ Hid (apartTo ls i k') ∧ Hid (Below w.heap.size w (wr.drewN M)) := fun M => ⟨k + 1, by omega, by go_num, HNX, Lib.hid (Below.draws HW.out _)⟩
              first | exact R _ | ((repeat apply Exists.intro); exact ⟨R _, rfl⟩)
            case measure => simp [intOf]; omega
        · obtain rfl : k = i := by omega
          have hd : decide (k < k) = false := by simp
          have HN := Lib.hid (apartTo_row HPk.out)
          go_wp2_with fail
          go_roundw
          case rel =>
            have R : ∃ i' : Nat, i' ≤ ls.length ∧ Value.int .i64 ((k : Int) + 1) = .int .i64 i' ∧ Hid (apartTo ls i' 0) ∧ Hid (Below w.heap.size w wr) := ⟨k + 1, by omega, by go_num, HN, HW⟩
            first | exact R | ((repeat apply Exists.intro); exact ⟨R, rfl⟩)
          case measure => simp [intOf]; omega
    · obtain rfl : i = ls.length := by omega
      have hd : decide (ls.length < ls.length) = false := by simp
      have HQ : Hid (apartB ls = true) := Lib.hid (apartB_true HP.out)
      go_wp2_with fail
      go_ret
      exact ⟨by rw [HQ.out]; rfl, HW0.out⟩
end Go.Proofs.YtecamaceainfpaaDoor
