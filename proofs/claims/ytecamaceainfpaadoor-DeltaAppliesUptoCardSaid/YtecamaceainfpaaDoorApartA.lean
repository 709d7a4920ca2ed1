/-
  Walks: hibernacleref02.One, unlike, Apart; hibernaclelaw35.apart; hibernacleref35.Empty.
-/
import Derived.Test.YtecamaceainfpaaDoorRHashB
import Derived.Test.YtecamaceainfpaaDoorDeltaB
import Derived.Test.YtecamaceainfpaaDoorDeltaA
import Derived.Test.YtecamaceainfpaaDoorDeltaC
import Derived.BigQuiet
import Derived.Deep.QuietTactic
namespace Go.Proofs.YtecamaceainfpaaDoor
open Go.RowKit

section
variable {P : Program}
/-- a whole array loaded, in a region that only reads -/
theorem wpQuiet_load_at {ops : Array Oper} {rest : List Oper} {o : Oper} {a : Act} {w : World} {Q : Act → Prop} (hw : Region.wanted o (yielded ops a.tmps) = true) (ty : TypeId) (x : Operand) (ho : o.op = .load ty x)
    (ad : Addr) (hx : a.eval x = .pointer (some ad)) (cs : List Value) (d : TypeDesc) (hc : ∀ j v, cs[j]? = some v → w.cell? (ad.add j) = some v)
    (hu : P.underlying ty = some d) (hd : (match d with | .struct _ | .array _ _ => true | _ => false) = true) (hi : (P.info? ty).map (·.size) = some cs.length)
    (h : wpQuiet P ops (fun w' => ∃ n, w' = w.drewN n) Q rest (a.put o.dst (.agg cs.toArray))) : wpQuiet P ops (fun w' => ∃ n, w' = w.drewN n) Q (o :: rest) a :=
  wpQuiet_step fun K hK => by
    rw [if_pos hw]
    refine ⟨.agg cs.toArray, fun w' hw' => ?_, hK _ h⟩
    obtain ⟨n, rfl⟩ := hw'
    unfold Oper.quietAt execOp
    simp only [ho, hx, Instr.loadAt, Instr.sureAddr, Sem.run_bind, Sem.run_pure, Result.andThen_ok, run_loadVar_at (w.drewN n) ad ty cs d hc hu hd hi]
    exact ⟨rfl, rfl⟩
end

set_option maxRecDepth 100000 in
set_option maxHeartbeats 1000000 in
theorem rone_any (w : World) (s : List UInt8) (hl : s.length ≤ 1099511627776) :
    Calls Tryd.prog 70 #[S s] w fun e w' => e = .returned (D32 (dig s)) ∧ Below w.heap.size w w' := by
  have HZ := Lib.hid (Whole.made w 29 ((List.replicate 32 (0 : UInt8)).map B8).toArray)
  have HB := Lib.hid ((Below.refl w.heap.size w).alloc (Nat.le_refl _) (.cells ((List.replicate 32 (0 : UInt8)).map B8).toArray 29))
  go_enter Tryd.func70, Tryd.ntmps70
  go_wp2_with fail
  have hsz1 : (w.alloc (.cells ((List.replicate 32 (0 : UInt8)).map B8).toArray 29)).heap.size = w.heap.size + 1 := by simp
  change Calls _ _ _ ((w.alloc (.cells ((List.replicate 32 (0 : UInt8)).map B8).toArray 29)).alloc (.cells #[S s] 9)) _
  generalize w.alloc (.cells ((List.replicate 32 (0 : UInt8)).map B8).toArray 29) = w2 at *
  rw [← hsz1]
  refine (rsum_any (w2.alloc (.cells #[S s] 9)) (some ⟨w2.heap.size, 0, none⟩) 1 [s] (lies_made w2 9 [S s] _ (by simp)) (by simp) (by simp; omega)).mono ?_
  rintro e w3 ⟨rfl, hb3⟩
  have HB3 : Hid (Below w.heap.size w w3) := Lib.hid ((HB.out.alloc HB.out.size _).trans (hb3.mono (by have := HB.out.size; simp; omega)))
  have HZ3 := Lib.hid ((HZ.out.block _).below hb3 (by have := HZ.out.lt; simp; omega))
  clear hb3 HB HZ hsz1
  have HDL : Hid ((dig s).length = 32) := Lib.hid (dig_length s)
  rw [show dig [s].flatten = dig s by simp]
  obtain ⟨D, HDn⟩ : ∃ z, Hid (dig s = z) := ⟨_, Lib.hid rfl⟩
  rw [HDn.out] at HDL
  rw [HDn.out]
  have HDi : Hid ((Tryd.prog.info? 29).map (·.size) = some (D.map B8).toArray.size) := Lib.hid (by
    rw [List.size_toArray, List.length_map, HDL.out]; kernel_rfl)
  have HDl : Hid ((Tryd.prog.info? 29).map (·.size) = some (D.map B8).length) := Lib.hid (by
    rw [List.length_map, HDL.out]; kernel_rfl)
  have HC1 : Hid (0 + (D.map B8).length ≤ ((List.replicate 32 (0 : UInt8)).map B8).length) := Lib.hid (by rw [List.length_map, List.length_map, HDL.out]; decide)
  go_wp2_with (refine wpList_store_at rfl 29 (.tmp 2) (.tmp 5) rfl rfl w.heap.size 0 rfl (D.map B8) rfl HDl.out ((List.replicate 32 (0 : UInt8)).map B8) 29 HZ3.out HC1.out (B8_one _) ?_; intro w6 H6 F6)
  have h6 : Whole w6 w.heap.size 29 (D.map B8).toArray := by
    have := H6.out
    rw [List.length_map, HDL.out] at this
    simpa using this
  exact bodyPost_ret (v := .agg (D.map B8).toArray) (results_cell_row rfl _ _ w.heap.size 29 _ (0, 0) _ rfl h6 Tryd.underlying29 rfl HDi.out) rfl ⟨by rw [HDn.out], below_grown HB3.out F6.out HB3.out.size (Nat.le_refl _)⟩

set_option maxRecDepth 100000 in
set_option maxHeartbeats 1000000 in
theorem empty_any (w : World) :
    Calls Tryd.prog 20 #[] w fun e w' => e = .returned (D32 (dig (imgB [] [] []))) ∧ Below w.heap.size w w' := by
  have HZ := Lib.hid (Whole.made w 29 ((List.replicate 32 (0 : UInt8)).map B8).toArray)
  have HB := Lib.hid ((Below.refl w.heap.size w).alloc (Nat.le_refl _) (.cells ((List.replicate 32 (0 : UInt8)).map B8).toArray 29))
  go_enter Tryd.func20, Tryd.ntmps20
  go_wp2_with fail
  change Calls _ _ _ (w.alloc (.cells ((List.replicate 32 (0 : UInt8)).map B8).toArray 29)) _
  generalize w.alloc (.cells ((List.replicate 32 (0 : UInt8)).map B8).toArray 29) = w2 at *
  refine (rimgSum_any w2 none none 0 0 [] [] [] (Lies.none _ _ _) (Lies.none _ _ _) (by simp [sizeOf])).mono ?_
  rintro e w3 ⟨rfl, hb3⟩
  have HB3 : Hid (Below w.heap.size w w3) := Lib.hid (HB.out.trans (hb3.mono HB.out.size))
  have HZ3 := Lib.hid (HZ.out.below hb3 HZ.out.lt)
  clear hb3 HB HZ
  have HDL : Hid ((dig (imgB [] [] [])).length = 32) := Lib.hid (dig_length _)
  obtain ⟨D, HDn⟩ : ∃ z, Hid (dig (imgB [] [] []) = z) := ⟨_, Lib.hid rfl⟩
  rw [HDn.out] at HDL
  rw [HDn.out]
  have HDi : Hid ((Tryd.prog.info? 29).map (·.size) = some (D.map B8).toArray.size) := Lib.hid (by
    rw [List.size_toArray, List.length_map, HDL.out]; kernel_rfl)
  have HDl : Hid ((Tryd.prog.info? 29).map (·.size) = some (D.map B8).length) := Lib.hid (by
    rw [List.length_map, HDL.out]; kernel_rfl)
  have HC1 : Hid (0 + (D.map B8).length ≤ ((List.replicate 32 (0 : UInt8)).map B8).length) := Lib.hid (by rw [List.length_map, List.length_map, HDL.out]; decide)
  go_wp2_with (refine wpList_store_at rfl 29 (.tmp 0) (.tmp 2) rfl rfl w.heap.size 0 rfl (D.map B8) rfl HDl.out ((List.replicate 32 (0 : UInt8)).map B8) 29 HZ3.out HC1.out (B8_one _) ?_; intro w6 H6 F6)
  have h6 : Whole w6 w.heap.size 29 (D.map B8).toArray := by
    have := H6.out
    rw [List.length_map, HDL.out] at this
    simpa using this
  exact bodyPost_ret (v := .agg (D.map B8).toArray) (results_cell_row rfl _ _ w.heap.size 29 _ (0, 0) _ rfl h6 Tryd.underlying29 rfl HDi.out) rfl ⟨by rw [HDn.out], below_grown HB3.out F6.out HB3.out.size (Nat.le_refl _)⟩

/-- digests, as cells -/
def sCells (ls : List (List UInt8)) : List Value := ls.flatMap fun s => (dig s).map B8
theorem sCells_length (ls : List (List UInt8)) : (sCells ls).length = ls.length * 32 := by
  induction ls with
  | nil => rfl
  | cons l ls ih =>
    have : sCells (l :: ls) = (dig l).map B8 ++ sCells ls := by simp [sCells]
    rw [this, List.length_append, ih, List.length_map, dig_length, List.length_cons]; omega
theorem sCells_append (a b : List (List UInt8)) : sCells (a ++ b) = sCells a ++ sCells b := by simp [sCells]
theorem sCells_at (ls : List (List UInt8)) {i : Nat} (hi : i < ls.length) : ∀ j v, ((dig (ls.getD i [])).map B8)[j]? = some v → (sCells ls)[i * 32 + j]? = some v := fun j v hv => by
  have e : ls = ls.take i ++ (ls[i] :: ls.drop (i + 1)) := by rw [List.getElem_cons_drop, List.take_append_drop]
  have hg : ls.getD i [] = ls[i] := by simp [List.getD, hi]
  rw [hg] at hv
  have hl : (sCells (ls.take i)).length = i * 32 := by rw [sCells_length, List.length_take]; congr 1; omega
  have hlt := (List.getElem?_eq_some_iff.1 hv).1
  rw [e, sCells_append, List.getElem?_append_right (by omega), hl, show i * 32 + j - i * 32 = j by omega]
  have : ∀ (x : List UInt8) (l : List (List UInt8)), sCells (x :: l) = (dig x).map B8 ++ sCells l := fun x l => by simp [sCells]
  rw [this, List.getElem?_append_left hlt]; exact hv
/-- no unlike texts of which the first comes behind the other, up to (i, k), have one digest -/
def apartTo (ls : List (List UInt8)) (i k : Nat) : Prop := ∀ x y, y < x → (x < i ∨ (x = i ∧ y < k)) → dig (ls.getD x []) = dig (ls.getD y []) → ls.getD x [] = ls.getD y []
/-- no two unlike texts have one digest -/
def apartL (ls : List (List UInt8)) : Prop := apartTo ls ls.length 0
open Classical in
/-- has no text of a list the digest of an unlike one? -/
noncomputable def apartB (ls : List (List UInt8)) : Bool := decide (apartL ls)
theorem apartB_true {ls : List (List UInt8)} (h : apartL ls) : apartB ls = true := by simp [apartB, h]
theorem apartB_false {ls : List (List UInt8)} (h : ¬ apartL ls) : apartB ls = false := by simp [apartB, h]
theorem apartB_iff {ls : List (List UInt8)} : apartB ls = true ↔ apartL ls := by simp [apartB]
theorem apartTo_next {ls : List (List UInt8)} {i k : Nat} (h : apartTo ls i k) (hn : dig (ls.getD i []) = dig (ls.getD k []) → ls.getD i [] = ls.getD k []) : apartTo ls i (k + 1) := by
  intro x y hyx hxy
  rcases hxy with hxy | ⟨rfl, hxy⟩
  · exact h x y hyx (.inl hxy)
  · by_cases e : y = k
    · subst e; exact hn
    · exact h x y hyx (.inr ⟨rfl, by omega⟩)
theorem apartTo_row {ls : List (List UInt8)} {i : Nat} (h : apartTo ls i i) : apartTo ls (i + 1) 0 := by
  intro x y hyx hxy
  by_cases e : x = i
  · subst e; exact h x y hyx (.inr ⟨rfl, hyx⟩)
  · exact h x y hyx (.inl (by omega))
theorem not_apart {ls : List (List UInt8)} {i k : Nat} (hi : i < ls.length) (hk : k < i) (hd : dig (ls.getD i []) = dig (ls.getD k [])) (hn : ls.getD i [] ≠ ls.getD k []) : ¬ apartL ls := fun h => hn (h i k hk (.inl hi) hd)

theorem add_add (a : Addr) (i j : Nat) : (a.add i).add j = a.add (i + j) := by
  unfold Addr.add
  by_cases hi : i = 0 <;> by_cases hj : j = 0 <;> simp [hi, hj, Nat.add_assoc]
set_option maxRecDepth 100000 in
set_option maxHeartbeats 2000000 in
theorem unlike_any (w : World) (A G : Option Addr) (c d : Nat) (ls : List (List UInt8)) (hA : Strs w w.heap.size A ls) (hG : Lies w w.heap.size G (sCells ls)) (hl : ls.length ≤ 1099511627776) :
    Calls Tryd.prog 71 #[.slice A ls.length c, .slice G ls.length d] w fun e w' => e = .returned (.bool (apartB ls)) ∧ Below w.heap.size w w' := by
  have HA := Lib.hid hA
  have HG := Lib.hid hG
  clear hA hG
  go_enter Tryd.func71, Tryd.ntmps71
  go_wp2_with fail
  go_loopw [5] (fun x wr => ∃ i : Nat, i ≤ ls.length ∧ x = .int .i64 i ∧ Hid (apartTo ls i 0) ∧ Hid (Below w.heap.size w wr)) (fun x _ => ls.length - (intOf x).toNat)
  case atStart => exact ⟨0, by omega, rfl, Lib.hid (fun x y hy h => by omega), Lib.hid (Below.refl _ _)⟩
  case round =>
    obtain ⟨i, hi, rfl, HP, HW0⟩ := hrel
    by_cases hlt : i < ls.length
    · go_wp2_with fail
      obtain ⟨wo, HWO⟩ : ∃ z, Hid (wr = z) := ⟨_, Lib.hid rfl⟩
      rw [HWO.out] at HW0
      rw [HWO.out]
      clear HWO wr
      go_loopw [6] (fun x wr => ∃ k : Nat, k ≤ i ∧ x = .int .i64 k ∧ Hid (apartTo ls i k) ∧ Hid (Below w.heap.size w wr)) (fun x _ => i - (intOf x).toNat)
      case atStart => exact ⟨0, by omega, rfl, HP, HW0⟩
      case round =>
        obtain ⟨k, hk, rfl, HPk, HW⟩ := hrel
        by_cases hki : k < i
        · obtain ⟨ad, rfl, had, a0⟩ := HA.out.at' hlt
          obtain ⟨ad', e', _, a1⟩ := HA.out.at' (show k < ls.length by omega)
          obtain rfl : ad = ad' := by injection e'
          clear e'
          have a0' : wr.cell? (ad.add i) = _ := (HW.out.cell (by rw [add_block]; exact had)).trans a0
          have a1' : wr.cell? (ad.add k) = _ := (HW.out.cell (by rw [add_block]; exact had)).trans a1
          clear a0 a1
          obtain ⟨gd, rfl, hgd⟩ : ∃ gd, G = some gd ∧ gd.block < w.heap.size := by
            have h0 : 0 < (sCells ls).length := by rw [sCells_length]; omega
            obtain ⟨gd, e, hb, _⟩ := HG.out 0 _ (List.getElem?_eq_getElem h0)
            exact ⟨gd, e, hb⟩
          have CC : ∀ q, q < ls.length → ∀ j v, ((dig (ls.getD q [])).map B8)[j]? = some v → wr.cell? ((gd.add (q * 32)).add j) = some v := fun q hq j v hv => by
            obtain ⟨gd', e, _, hc⟩ := HG.out _ _ (sCells_at ls hq j v hv)
            injection e with e; subst e
            rw [add_add, ← hc]
            exact HW.out.cell (by rw [add_block]; exact hgd)
          have CX := Lib.hid (CC i hlt)
          have CY := Lib.hid (CC k (by omega))
          clear CC
          have DX : Hid ((dig (ls.getD i [])).length = 32) := Lib.hid (dig_length _)
          have DY : Hid ((dig (ls.getD k [])).length = 32) := Lib.hid (dig_length _)
          have HNX : Hid ((dig (ls.getD i []) = dig (ls.getD k []) → ls.getD i [] = ls.getD k []) → apartTo ls i (k + 1)) := Lib.hid (apartTo_next HPk.out)
          have HNO : Hid (dig (ls.getD i []) = dig (ls.getD k []) → ls.getD i [] ≠ ls.getD k [] → apartB ls = false) := Lib.hid (fun h1 h2 => apartB_false (not_apart hlt hki h1 h2))
          generalize dig (ls.getD i []) = dx at *
          generalize dig (ls.getD k []) = dy at *
          generalize ls.getD i [] = x at *
          generalize ls.getD k [] = y at *
          have HIx : Hid ((Tryd.prog.info? 29).map (·.size) = some (dx.map B8).length) := Lib.hid (by rw [List.length_map, DX.out]; kernel_rfl)
          have HIy : Hid ((Tryd.prog.info? 29).map (·.size) = some (dy.map B8).length) := Lib.hid (by rw [List.length_map, DY.out]; kernel_rfl)
          have i0 : (0 : Int) ≤ (i : Int) := by omega
          have i1 : (i : Int) < (ls.length : Int) := by omega
          have k0 : (0 : Int) ≤ (k : Int) := by omega
          have k1 : (k : Int) < (ls.length : Int) := by omega
          have hd : decide ((k : Int) < (i : Int)) = true := by simp; omega
          have hd' : decide (k < i) = true := by simp; omega
          by_cases hde : dx = dy
          · have eq1 : ∀ W : World, (Op.equalIn 10000 29 (D32 dx) (D32 dy)).run Tryd.prog W = .ok true W := fun W => by rw [eqIn_D32 dx dy DX.out DY.out]; simp [hde]
            by_cases hxy : x = y
            · have HNX := Lib.hid (HNX.out (fun _ => hxy))
              have hbn : (x != y) = false := by simp [hxy]
              have hbe : (x == y) = true := by simp [hxy]
              clear hxy hde
              go_wp2_with fail
              refine wp_region_quiet_lit (by kernel_rfl) (by kernel_rfl) ?_
              iterate 3 (go_big_quiet_step (fail))
              refine wpQuiet_load_at rfl 29 (.tmp 20) rfl (gd.add (i * 32)) rfl (dx.map B8) _ CX.out Tryd.underlying29 rfl HIx.out ?_
              go_simp
              iterate 3 (go_big_quiet_step (fail))
              refine wpQuiet_load_at rfl 29 (.tmp 24) rfl (gd.add (k * 32)) rfl (dy.map B8) _ CY.out Tryd.underlying29 rfl HIy.out ?_
              go_simp
              repeat (go_big_quiet_step (fail))
              refine wpQuiet_nil ?_
              intro nq
              go_wp2_with fail
              go_roundw
              case rel =>
                have R : ∀ M : Nat, ∃ k' : Nat, k' ≤ i ∧ Value.int .i64 ((k : Int) + 1) = .int .i64 k' ∧ Hid (apartTo ls i k') ∧ Hid (Below w.heap.size w (wr.drewN M)) := fun M => ⟨k + 1, by omega, by go_num, HNX, Lib.hid (Below.draws HW.out _)⟩
                first | exact R _ | ((repeat apply Exists.intro); exact ⟨R _, rfl⟩)
              case measure => simp [intOf]; omega
            · have HNN := Lib.hid (HNO.out hde hxy)
              have hbe : (x == y) = false := beq_eq_false_iff_ne.2 hxy
              have hbn : (x != y) = true := by simp [bne, hbe]
              clear hxy hde
              go_wp2_with fail
              refine wp_region_quiet_lit (by kernel_rfl) (by kernel_rfl) ?_
              iterate 3 (go_big_quiet_step (fail))
              refine wpQuiet_load_at rfl 29 (.tmp 20) rfl (gd.add (i * 32)) rfl (dx.map B8) _ CX.out Tryd.underlying29 rfl HIx.out ?_
              go_simp
              iterate 3 (go_big_quiet_step (fail))
              refine wpQuiet_load_at rfl 29 (.tmp 24) rfl (gd.add (k * 32)) rfl (dy.map B8) _ CY.out Tryd.underlying29 rfl HIy.out ?_
              go_simp
              repeat (go_big_quiet_step (fail))
              refine wpQuiet_nil ?_
              intro nq
              go_wp2_with fail
              go_ret
              exact ⟨by rw [HNN.out]; rfl, Below.draws HW.out _⟩
          · have eq1 : ∀ W : World, (Op.equalIn 10000 29 (D32 dx) (D32 dy)).run Tryd.prog W = .ok false W := fun W => by rw [eqIn_D32 dx dy DX.out DY.out]; simp [hde]
            have HNX := Lib.hid (HNX.out (fun h => absurd h hde))
            clear hde
            go_wp2_with fail
            refine wp_region_quiet_lit (by kernel_rfl) (by kernel_rfl) ?_
            iterate 3 (go_big_quiet_step (fail))
            refine wpQuiet_load_at rfl 29 (.tmp 20) rfl (gd.add (i * 32)) rfl (dx.map B8) _ CX.out Tryd.underlying29 rfl HIx.out ?_
            go_simp
            iterate 3 (go_big_quiet_step (fail))
            refine wpQuiet_load_at rfl 29 (.tmp 24) rfl (gd.add (k * 32)) rfl (dy.map B8) _ CY.out Tryd.underlying29 rfl HIy.out ?_
            go_simp
            repeat (go_big_quiet_step (fail))
            refine wpQuiet_nil ?_
            intro nq
            go_wp2_with fail
            go_roundw
            case rel =>
              have R : ∀ M : Nat, ∃ k' : Nat, k' ≤ i ∧ Value.int .i64 ((k : Int) + 1) = .int .i64 k' ∧ Hid (apartTo ls i k') ∧ Hid (Below w.heap.size w (wr.drewN M)) := fun M => ⟨k + 1, by omega, by go_num, HNX, Lib.hid (Below.draws HW.out _)⟩
              first | exact R _ | ((repeat apply Exists.intro); exact ⟨R _, rfl⟩)
            case measure => simp [intOf]; omega
        · obtain rfl : k = i := by omega
          have hd : decide (k < k) = false := by simp
          have HN := Lib.hid (apartTo_row HPk.out)
          go_wp2_with fail
          go_roundw
          case rel =>
            have R : ∃ i' : Nat, i' ≤ ls.length ∧ Value.int .i64 ((k : Int) + 1) = .int .i64 i' ∧ Hid (apartTo ls i' 0) ∧ Hid (Below w.heap.size w wr) := ⟨k + 1, by omega, by go_num, HN, HW⟩
            first | exact R | ((repeat apply Exists.intro); exact ⟨R, rfl⟩)
          case measure => simp [intOf]; omega
    · obtain rfl : i = ls.length := by omega
      have hd : decide (ls.length < ls.length) = false := by simp
      have HQ : Hid (apartB ls = true) := Lib.hid (apartB_true HP.out)
      go_wp2_with fail
      go_ret
      exact ⟨by rw [HQ.out]; rfl, HW0.out⟩
end Go.Proofs.YtecamaceainfpaaDoor
/-
  Walks: hibernacleref02.Apart, hibernaclelaw35.apart.
-/
namespace Go.Proofs.YtecamaceainfpaaDoor
open Go.RowKit

theorem Tryd.infoDig : (Tryd.prog.info? 29).map (fun i => (i.zero, i.size, i.bytes)) = some (some (.agg ((List.replicate 32 (0 : UInt8)).map B8).toArray), 32, 32) := by kernel_rfl
set_option maxRecDepth 100000 in
theorem fold_dig (D : List UInt8) (hD : D.length = 32) : List.foldl (fun (cs : Array Value) (x : Value × Nat) => cs.setIfInBounds x.snd x.fst) #[Value.int .u8 0, Value.int .u8 0, Value.int .u8 0, Value.int .u8 0, Value.int .u8 0, Value.int .u8 0, Value.int .u8 0, Value.int .u8 0, Value.int .u8 0, Value.int .u8 0, Value.int .u8 0, Value.int .u8 0, Value.int .u8 0, Value.int .u8 0, Value.int .u8 0, Value.int .u8 0, Value.int .u8 0, Value.int .u8 0, Value.int .u8 0, Value.int .u8 0, Value.int .u8 0, Value.int .u8 0, Value.int .u8 0, Value.int .u8 0, Value.int .u8 0, Value.int .u8 0, Value.int .u8 0, Value.int .u8 0, Value.int .u8 0, Value.int .u8 0, Value.int .u8 0, Value.int .u8 0] (List.map B8 D).zipIdx = (D.map B8).toArray := by
  obtain ⟨x0, x1, x2, x3, x4, x5, x6, x7, x8, x9, x10, x11, x12, x13, x14, x15, x16, x17, x18, x19, x20, x21, x22, x23, x24, x25, x26, x27, x28, x29, x30, x31, rfl⟩ := list32 D hD
  kernel_rfl
set_option maxRecDepth 100000 in
set_option maxHeartbeats 1000000 in
theorem rapart_any (w : World) (A : Option Addr) (c : Nat) (ls : List (List UInt8)) (hA : Strs w w.heap.size A ls) (hn : ls.length ≤ 4294967296) (hl : ∀ s ∈ ls, s.length ≤ 1099511627776) :
    Calls Tryd.prog 44 #[.slice A ls.length c] w fun e w' => e = .returned (.bool (apartB ls)) ∧ Below w.heap.size w w' := by
  obtain ⟨i0, hi0, hz0, hz1, hz2⟩ := info_parts Tryd.infoDig
  have HA := Lib.hid hA
  have HL := Lib.hid hl
  clear hA hl
  go_enter Tryd.func44, Tryd.ntmps44
  go_wp2_with fail
  go_loopw [3, 4] (fun v i wr => ∃ k : Nat, k ≤ ls.length ∧ i = .int .i64 k ∧ Hid (wr.ownsRow w.heap.size 29 32 v k (sCells (ls.take k))) ∧ Hid (Below w.heap.size w wr)) (fun _ i _ => ls.length - (intOf i).toNat)
  case atStart => exact ⟨0, by omega, rfl, Lib.hid (World.ownsRow_nil _ _ _ _), Lib.hid (Below.refl _ _)⟩
  case round =>
    obtain ⟨k, hk, rfl, HO, HB⟩ := hrel
    by_cases hlt : k < ls.length
    · obtain ⟨ad, rfl, had, hc⟩ := HA.out.at' hlt
      have hcr : wr.cell? (ad.add k) = some (S (ls.getD k [])) := (HB.out.cell (by rw [add_block]; exact had)).trans hc
      clear hc
      have hsl : (ls.getD k []).length ≤ 1099511627776 := HL.out _ (by simp [List.getD, hlt])
      have HT : Hid (sCells (ls.take (k + 1)) = sCells (ls.take k) ++ (dig (ls.getD k [])).map B8) := Lib.hid (by
        rw [List.take_succ_eq_append_getElem hlt, sCells_append]; simp [sCells, List.getD, hlt])
      generalize ls.getD k [] = s at *
      go_wp2_with fail
      refine (rone_any wr s hsl).mono ?_
      rintro e w1 ⟨rfl, hb1⟩
      have HO1 := Lib.hid (HO.out.kept (row := none) ⟨hb1.os, hb1.tape, hb1.output, hb1.size, fun i hi _ => hb1.block i hi⟩ (by cases u3.ownBlock <;> simp))
      have HB1 : Hid (Below w.heap.size w w1) := Lib.hid (HB.out.trans (hb1.mono HB.out.size))
      have HDL : Hid ((dig s).length = 32) := Lib.hid (dig_length s)
      clear hb1 hcr HO HB
      generalize dig s = D at *
      have HFD := Lib.hid (fold_dig D HDL.out)
      have hD32 : D.length = 32 := HDL.out
      have hD0 : (D.map B8).length = 1 * 32 := by rw [List.length_map, HDL.out]
      have HDl := Lib.hid hD0
      clear hD0
      have HN : Hid (∀ j u, (D.map B8)[j]? = some u → (w1.alloc (.cells (D.map B8).toArray 29)).cell? ((⟨w1.heap.size, 0, none⟩ : Addr).add j) = some u) := Lib.hid (fun j u hu => by
        obtain ⟨ad', e', _, hc'⟩ := lies_made w1 29 (D.map B8) (w1.heap.size + 1) (by omega) j u hu
        injection e' with e'; subst e'; exact hc')
      have H63 : Hid (k + 1 ≤ maxLen) := Lib.hid (by unfold maxLen; omega)
      have HBY : Hid ((k + 1) * 32 ≤ 140737488355328) := Lib.hid (by omega)
      have HBA : Hid (w.heap.size ≤ (w1.alloc (.cells (D.map B8).toArray 29)).heap.size) := Lib.hid (by have := HB1.out.size; simp; omega)
      have HOA := Lib.hid (HO1.out.alloc (.cells (D.map B8).toArray 29))
      go_wp2_with (at_builtin; rw [HFD.out]; refine wpList_append_own _ rfl (.tmp 11) (.tmp 17) 103 rfl w.heap.size 29 i0 _ 32 32 Tryd.underlying103 hi0 hz0 hz1 hz2 rfl (by decide) _ _ _ rfl HOA.out ⟨w1.heap.size, 0, none⟩ 1 1 (D.map B8) rfl HDl.out HN.out (B8_one _) H63.out HBY.out HBA.out ?_; intro v' w2 hown' hgrow _)
      have HO2 : Hid (w2.ownsRow w.heap.size 29 32 v' (k + 1) (sCells (ls.take (k + 1)))) := Lib.hid (by rw [HT.out]; exact hown')
      have HB2 : Hid (Below w.heap.size w w2) := Lib.hid ((HB1.out.alloc HB1.out.size _).grown hgrow HBA.out (own_ge HOA.out))
      refine ⟨⟨k + 1, by omega, by go_num, HO2, HB2⟩, by simp [intOf]; omega⟩
    · obtain rfl : k = ls.length := by omega
      rw [List.take_of_length_le (Nat.le_refl _)] at HO
      obtain ⟨G, kg, hv, hlies, _⟩ := own_shape HO.out (by omega)
      have HLG := Lib.hid hlies
      rw [hv]
      clear hlies hv HO
      have hd : decide (ls.length < ls.length) = false := by simp
      go_wp2_with fail
      refine (unlike_any wr A G c kg ls ((HA.out.below HB.out).wide HB.out.size) HLG.out (by omega)).mono ?_
      rintro e w1 ⟨rfl, hb1⟩
      have HB1 : Hid (Below w.heap.size w w1) := Lib.hid (HB.out.trans (hb1.mono HB.out.size))
      clear hb1
      go_wp2_with fail
      go_ret
      exact ⟨rfl, HB1.out⟩

/-- the texts that apart holds against each other: the image's without anything, and each image's -/
def apTexts (l : List Im) : List (List UInt8) := imgB [] [] [] :: l.map fun x => imgB x.fs x.bs x.r
set_option maxRecDepth 100000 in
set_option maxHeartbeats 1000000 in
theorem apart_any (w : World) (A : Option Addr) (c : Nat) (l : List Im) (hA : Lies w w.heap.size A (imsCells l)) (hl : ∀ x ∈ l, x.at_ w w.heap.size) (hn : l.length ≤ 4194304) (ht : ∀ x ∈ l, x.size ≤ 4294967296) :
    Calls Tryd.prog 18 #[.slice A l.length c] w fun e w' => e = .returned (.bool (apartB (apTexts l))) ∧ Below w.heap.size w w' := by
  obtain ⟨i0, hi0, hz0, hz1, hz2⟩ := info_parts Tryd.infoStr
  have HA := Lib.hid hA
  have HL := Lib.hid hl
  have HT := Lib.hid ht
  clear hA hl ht
  go_enter Tryd.func18, Tryd.ntmps18
  go_wp2_with fail
  refine (rimgBytes_any w none none 0 0 [] [] [] (Lies.none _ _ _) (Lies.none _ _ _) (by simp [sizeOf])).mono ?_
  rintro e w1 ⟨rfl, hb1⟩
  have HO1 : Hid (Own (w1.alloc (.cells #[S (imgB [] [] [])] 9)) w.heap.size (.slice (some ⟨w1.heap.size, 0, none⟩) 1 1) [imgB [] [] []]) := Lib.hid (World.ownsRow_lit w1 #[S (imgB [] [] [])] 1 hb1.size (by unfold maxLen; omega) rfl)
  have HB1 : Hid (Below w.heap.size w (w1.alloc (.cells #[S (imgB [] [] [])] 9))) := Lib.hid (hb1.alloc hb1.size _)
  clear hb1
  obtain ⟨E, HEE⟩ : ∃ z, Hid (imgB [] [] [] = z) := ⟨_, Lib.hid rfl⟩
  rw [HEE.out] at HO1 HB1
  rw [HEE.out]
  go_wp2_with fail
  go_loopw [3, 11] (fun v i wr => ∃ k : Nat, k ≤ l.length ∧ i = .int .i64 k ∧ Hid (Own wr w.heap.size v (E :: (l.take k).map fun x => imgB x.fs x.bs x.r)) ∧ Hid (Below w.heap.size w wr)) (fun _ i _ => l.length - (intOf i).toNat)
  case atStart => exact ⟨0, by omega, rfl, HO1, HB1⟩
  case round =>
    obtain ⟨k, hk, rfl, HO, HB⟩ := hrel
    clear HO1 HB1
    by_cases hlt : k < l.length
    · obtain ⟨ad, hA0, hb0, hc0⟩ := HA.out (k * 3 + 0) _ ((imsCells_at l k hlt 0 (by omega)).trans rfl)
      obtain ⟨ad1, hA1, _, hc1⟩ := HA.out (k * 3 + 1) _ ((imsCells_at l k hlt 1 (by omega)).trans rfl)
      obtain ⟨ad2, hA2, _, hc2⟩ := HA.out (k * 3 + 2) _ ((imsCells_at l k hlt 2 (by omega)).trans rfl)
      subst hA0
      obtain rfl : ad = ad1 := by injection hA1
      obtain rfl : ad = ad2 := by injection hA2
      clear hA1 hA2
      have hx := HL.out l[k] (List.getElem_mem hlt)
      have hsz := HT.out l[k] (List.getElem_mem hlt)
      have HTS : Hid ((l.take (k + 1)).map (fun x => imgB x.fs x.bs x.r) = (l.take k).map (fun x => imgB x.fs x.bs x.r) ++ [imgB (l[k]).fs (l[k]).bs (l[k]).r]) := Lib.hid (by rw [List.take_succ_eq_append_getElem hlt, List.map_append]; rfl)
      obtain ⟨x, HX⟩ : ∃ z, Hid (l[k] = z) := ⟨_, Lib.hid rfl⟩
      rw [HX.out] at hx hsz HTS hc0 hc1 hc2
      obtain ⟨A1, c1, f1, A2, c2, f2, r⟩ := x
      obtain ⟨hs1, hs2⟩ := hx
      change Strs w w.heap.size A1 f1 at hs1
      change Strs w w.heap.size A2 f2 at hs2
      change sizeOf f1 + sizeOf f2 + r.length ≤ 4294967296 at hsz
      dsimp only at HTS
      have hcells : ∀ j v, [Value.slice A1 f1.length c1, Value.slice A2 f2.length c2, S r][j]? = some v → wr.cell? ((ad.add (k * 3)).add j) = some v := by
        intro j v hj
        rw [add_add, HB.out.cell (by rw [add_block]; exact hb0)]
        match j, hj with
        | 0, hj => rw [hc0, ← hj]; rfl
        | 1, hj => rw [hc1, ← hj]; rfl
        | 2, hj => rw [hc2, ← hj]; rfl
      have HCL := Lib.hid hcells
      have HB1 := Lib.hid (HB.out.alloc HB.out.size (.cells #[Value.slice A1 f1.length c1, Value.slice A2 f2.length c2, S r] 24))
      have HO1 := Lib.hid (HO.out.alloc (.cells #[Value.slice A1 f1.length c1, Value.slice A2 f2.length c2, S r] 24))
      have HS1 := Lib.hid hs1
      have HS2 := Lib.hid hs2
      clear hcells hs1 hs2 hc0 hc1 hc2 hb0
      go_wp2_with (refine wpList_load_at rfl 24 (.tmp 13) rfl (ad.add (k * 3)) rfl [Value.slice A1 f1.length c1, Value.slice A2 f2.length c2, S r] _ HCL.out Tryd.underlying24 rfl (by kernel_rfl) ?_)
      clear HCL HO HB
      generalize wr.alloc (.cells #[Value.slice A1 f1.length c1, Value.slice A2 f2.length c2, S r] 24) = w2 at *
      refine (rimgBytes_any w2 A1 A2 c1 c2 f1 f2 r ((HS1.out.below HB1.out).wide HB1.out.size) ((HS2.out.below HB1.out).wide HB1.out.size) hsz).mono ?_
      rintro e w3 ⟨rfl, hb3⟩
      have HO3 := Lib.hid (HO1.out.kept (row := none) ⟨hb3.os, hb3.tape, hb3.output, hb3.size, fun i hi _ => hb3.block i hi⟩ (by cases u3.ownBlock <;> simp))
      have HB3 : Hid (Below w.heap.size w w3) := Lib.hid (HB1.out.trans (hb3.mono HB1.out.size))
      clear hb3 HO1 HB1
      generalize imgB f1 f2 r = y at *
      have HNW : Hid (∀ i u, [S y][i]? = some u → (w3.alloc (.cells #[S y] 9)).cell? ((⟨w3.heap.size, 0, none⟩ : Addr).add i) = some u) := Lib.hid (fun i u hu => by
        obtain ⟨ad', e', _, hc'⟩ := lies_made w3 9 [S y] (w3.heap.size + 1) (by omega) i u hu
        injection e' with e'; subst e'; exact hc')
      have H1 : Hid (∀ u ∈ [S y], u.oneCell' = true) := Lib.hid (by simp [Value.oneCell'])
      have hlx : (E :: (l.take k).map fun x => imgB x.fs x.bs x.r).length = k + 1 := by simp; omega
      have H63 : Hid ((E :: (l.take k).map fun x => imgB x.fs x.bs x.r).length + 1 ≤ maxLen) := Lib.hid (by rw [hlx]; unfold maxLen; omega)
      have HBY : Hid (((E :: (l.take k).map fun x => imgB x.fs x.bs x.r).length + 1) * 16 ≤ 140737488355328) := Lib.hid (by rw [hlx]; omega)
      have HBA : Hid (w.heap.size ≤ (w3.alloc (.cells #[S y] 9)).heap.size) := Lib.hid (by have := HB3.out.size; simp; omega)
      have HOA := Lib.hid (HO3.out.alloc (.cells #[S y] 9))
      clear hlx
      go_wp2_with (at_builtin; refine wpList_append_own _ rfl (.tmp 15) (.tmp 18) 22 rfl w.heap.size 9 i0 _ 1 16 Tryd.underlying22 hi0 hz0 hz1 hz2 rfl (by decide) _ _ _ rfl HOA.out ⟨w3.heap.size, 0, none⟩ 1 1 [S y] rfl rfl HNW.out H1.out H63.out HBY.out HBA.out ?_; intro v' w4 hown' hgrow _)
      have HO4 : Hid (Own w4 w.heap.size v' (E :: (l.take (k + 1)).map fun x => imgB x.fs x.bs x.r)) := Lib.hid (by
        rw [HTS.out]
        have := hown'
        rw [show ((E :: (l.take k).map fun x => imgB x.fs x.bs x.r).map S ++ [S y]) = (E :: ((l.take k).map (fun x => imgB x.fs x.bs x.r) ++ [y])).map S by simp] at this
        unfold Own
        simpa using this)
      have HB4 : Hid (Below w.heap.size w w4) := Lib.hid ((HB3.out.alloc HB3.out.size _).grown hgrow HBA.out (own_ge HOA.out))
      refine ⟨⟨k + 1, by omega, by go_num, HO4, HB4⟩, by simp [intOf]; omega⟩
    · obtain rfl : k = l.length := by omega
      rw [List.take_of_length_le (Nat.le_refl _)] at HO
      have HAT : Hid (E :: l.map (fun x => imgB x.fs x.bs x.r) = apTexts l) := Lib.hid (by unfold apTexts; rw [HEE.out])
      rw [HAT.out] at HO
      have HLN : Hid ((apTexts l).length ≤ 4294967296) := Lib.hid (by unfold apTexts; simp; omega)
      have HLS : Hid (∀ s ∈ apTexts l, s.length ≤ 1099511627776) := Lib.hid (by
        intro s hs
        have hsz : ∀ (f b : List (List UInt8)) (r : List UInt8), sizeOf f + sizeOf b + r.length ≤ 4294967296 → (imgB f b r).length ≤ 1099511627776 := fun f b r h => by
          unfold imgB
          have h1 := rowB_le _ (imgB_size f b r h)
          have h2 := imgB_size f b r h
          omega
        unfold apTexts at hs
        rcases List.mem_cons.1 hs with rfl | hs
        · exact hsz _ _ _ (by simp [sizeOf])
        · obtain ⟨x, hx, rfl⟩ := List.mem_map.1 hs
          exact hsz _ _ _ (HT.out x hx))
      obtain ⟨G, kg, hv, hlies, _⟩ := own_shape HO.out (by omega)
      have HLG := Lib.hid hlies
      rw [hv]
      clear hlies hv HO
      have hd : decide (l.length < l.length) = false := by simp
      go_wp2_with fail
      refine (rapart_any wr G kg (apTexts l) HLG.out HLN.out HLS.out).mono ?_
      rintro e w1 ⟨rfl, hb1⟩
      have HB1 : Hid (Below w.heap.size w w1) := Lib.hid (HB.out.trans (hb1.mono HB.out.size))
      clear hb1
      go_wp2_with fail
      go_ret
      exact ⟨rfl, HB1.out⟩
end Go.Proofs.YtecamaceainfpaaDoor
