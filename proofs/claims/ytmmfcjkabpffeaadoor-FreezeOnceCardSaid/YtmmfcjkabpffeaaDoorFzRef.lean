/-
  Walks: hibernacleref34.went, pump. (Printed by gen_fzref.py.)
-/
import Derived.Test.YtmmfcjkabpffeaaDoorFzImage
namespace Go.Proofs.YtmmfcjkabpffeaaDoor
open Go.RowKit

theorem own_far {w : World} {base : Nat} {e : TypeId} {size n : Nat} {v : Value} {xs : List Value} (h : w.ownsRow base e size v n xs) : ∀ g, v.ownBlock = some g → g ≠ w.heap.size := by
  intro g hg
  rcases h.2 with ⟨rfl, _⟩ | ⟨g', cap, cur, rfl, _, h3, _⟩
  · cases hg
  · have := (Array.getElem?_eq_some_iff.1 h3).1
    simp only [Value.ownBlock, Option.some.injEq] at hg
    subst hg
    omega
theorem own_box2 {w : World} {base gk : Nat} {e : TypeId} {size n : Nat} {v : Value} {xs : List Value} (h : w.ownsRow base e size v n xs) (hg : ∀ g, v.ownBlock = some g → g ≠ gk) (a b : Value) :
    ((w.setCell ⟨gk, 0, none⟩ a).setCell ⟨gk, 1, none⟩ b).ownsRow base e size v n xs :=
  ownsRow_setCell_other (ownsRow_setCell_other h (a := ⟨gk, 0, none⟩) (fun e => hg _ e rfl) a) (a := ⟨gk, 1, none⟩) (fun e => hg _ e rfl) b
theorem pump_no {i : Nat} {k : Kp} {x : List UInt8} {n : Int} (h : n < 1) : keepStep pumpF i k x n = (k, n) := by
  unfold keepStep pumpF
  rw [if_pos h]
  split <;> simp
theorem went_no {now : List (List UInt8)} {k : Nat} {y u : List UInt8} (h : k < now.length ∧ now.getD k [] = u) : (keepStep (wentF now) k (false, y) u 0).1 = (false, y) := by
  unfold keepStep wentF
  rw [if_neg (by simp)]
  have : decide (¬ (k < now.length ∧ now.getD k [] = u)) = false := decide_eq_false fun hh => hh h
  simp only [this]
  rfl
theorem went_yes {now : List (List UInt8)} {k : Nat} {y u : List UInt8} (h : ¬ (k < now.length ∧ now.getD k [] = u)) : (keepStep (wentF now) k (false, y) u 0).1 = (true, u) := by
  unfold keepStep wentF
  rw [if_neg (by simp)]
  have : decide (¬ (k < now.length ∧ now.getD k [] = u)) = true := decide_eq_true h
  simp only [this]
  rfl
set_option maxRecDepth 100000 in
set_option maxHeartbeats 4000000 in
theorem rwent_any (w : World) (A U N : Option Addr) (c d m : Nat) (l : List Kp) (was now : List (List UInt8)) (hA : Kps w w.heap.size A l) (hU : Strs w w.heap.size U was) (hN : Strs w w.heap.size N now) (hl : l.length ≤ 274877906944) :
    Calls Tryd.prog 20 #[.slice A l.length c, .slice U was.length d, .slice N now.length m] w fun e w' => (∃ v, e = .returned v ∧ OwnK w' w.heap.size v (keepRec (wentF now) 0 l was 0).1) ∧ Below w.heap.size w w' := by
  obtain ⟨i0, hi0, hz0, hz1, hz2⟩ := info_parts Tryd.infoKept
  have HA := Lib.hid hA
  have HU := Lib.hid hU
  have HN := Lib.hid hN
  clear hA hU hN
  go_enter Tryd.func20, Tryd.ntmps20
  go_wp2_with fail
  go_loopw [7, 8] (fun v i wr => ∃ k : Nat, k ≤ l.length ∧ i = .int .i64 k ∧ Hid (OwnK wr w.heap.size v (keepRec (wentF now) 0 (l.take k) was 0).1) ∧ Hid (Below w.heap.size w wr)) (fun _ i _ => l.length - (intOf i).toNat)
  case atStart => exact ⟨0, by omega, rfl, Lib.hid (World.ownsRow_nil _ _ _ _), Lib.hid (Below.refl _ _)⟩
  case round =>
    obtain ⟨k, hk, rfl, HO, HW⟩ := hrel
    by_cases hlt : k < l.length
    · obtain ⟨bd, rfl, hbd, b0, b1⟩ := HA.out.at' hlt
      have b0' : wr.cell? (bd.add (k * 2)) = _ := (HW.out.cell (by rw [add_block]; exact hbd)).trans b0
      have b1' : wr.cell? ⟨(bd.add (k * 2)).block, (bd.add (k * 2)).off + 1, none⟩ = _ := (HW.out.cell (by show (bd.add (k * 2)).block < _; rw [add_block]; exact hbd)).trans b1
      clear b0 b1
      have hlk : (keepRec (wentF now) 0 (l.take k) was 0).1.length = k := by rw [keep_length, List.length_take]; omega
      have HST : Hid ((keepRec (wentF now) 0 (l.take k) was 0).2 = 0) := Lib.hid (wentF_state _ _ _ _ _)
      have HIN : Hid (k < was.length → (keepRec (wentF now) 0 (l.take (k + 1)) was 0).1 = (keepRec (wentF now) 0 (l.take k) was 0).1 ++ [(keepStep (wentF now) k (l.getD k (false, [])) (was.getD k []) 0).1]) := Lib.hid fun h => by rw [keep_take _ hlt h, HST.out]
      have HOUT : Hid (was.length ≤ k → (keepRec (wentF now) 0 (l.take (k + 1)) was 0).1 = (keepRec (wentF now) 0 (l.take k) was 0).1 ++ [l.getD k (false, [])]) := Lib.hid fun h => by rw [keep_take_out _ hlt h]
      generalize (keepRec (wentF now) 0 (l.take k) was 0).1 = acc at *
      generalize l.getD k (false, []) = p at *
      obtain ⟨b, y⟩ := p
      dsimp only at b0' b1'
      have HLK := Lib.hid hlk
      clear hlk HST
      have i0' : (0 : Int) ≤ (k : Int) := by omega
      have i1 : (k : Int) < (l.length : Int) := by omega
      cases b with
      | true =>
        have HNX : Hid ((keepRec (wentF now) 0 (l.take (k + 1)) was 0).1 = acc ++ [(true, y)]) := Lib.hid (by
          by_cases h : k < was.length
          · exact HIN.out h
          · exact HOUT.out (by omega))
        clear HIN HOUT
        have hX2 := Whole.made wr 48 #[.bool true, S y]
        have HW2 := Lib.hid (HW.out.alloc HW.out.size (.cells #[.bool true, S y] 48))
        have HO2 := Lib.hid (HO.out.alloc (.cells #[.bool true, S y] 48))
        go_upto_region 6 with (fail)
        change Code.wp _ _ _ _ (wr.alloc (.cells #[.bool true, S y] 48))
        have hbw := HW.out
        clear b0' b1' HO
        generalize (wr.alloc (.cells #[.bool true, S y] 48)) = w2 at *
        generalize hgk : wr.heap.size = gk at *
        have x0 : w2.cell? ⟨gk, 0, none⟩ = some (.bool true) := hX2.cell 0
        go_quiet (fail)
        go_upto_region 8 with (fail)
        rename_i nq
        have hX3 := Whole.draws hX2 nq
        have HW3 := Lib.hid (Below.draws HW2.out nq)
        have HO3 : Hid (OwnK (w2.drewN nq) w.heap.size u7 acc) := HO2
        clear x0 hX2 HW2 HO2
        generalize w2.drewN nq = w3 at *
        have c0 : w3.cell? ⟨gk, 0, none⟩ = some (.bool true) := hX3.cell 0
        have c1 : w3.cell? ⟨gk, 1, none⟩ = some (S y) := hX3.cell 1
        have HNW : Hid (∀ i z, [Value.bool true, S y][i]? = some z → (w3.alloc (.cells #[.bool true, S y] 48)).cell? ((⟨w3.heap.size, 0, none⟩ : Addr).add i) = some z) := Lib.hid (fun i z hz => by
          obtain ⟨ad', e', _, hc'⟩ := lies_made w3 48 [Value.bool true, S y] (w3.heap.size + 1) (by omega) i z hz
          injection e' with e'; subst e'; exact hc')
        have H1 : Hid (∀ z ∈ [Value.bool true, S y], z.oneCell' = true) := Lib.hid (by simp [Value.oneCell'])
        have H63 : Hid (acc.length + 1 ≤ maxLen) := Lib.hid (by rw [HLK.out]; unfold maxLen; omega)
        have HBY : Hid ((acc.length + 1) * 24 ≤ 140737488355328) := Lib.hid (by rw [HLK.out]; omega)
        have HBA : Hid (w.heap.size ≤ (w3.alloc (.cells #[.bool true, S y] 48)).heap.size) := Lib.hid (by have := HW3.out.size; simp; omega)
        have HOA := Lib.hid (HO3.out.alloc (.cells #[.bool true, S y] 48))
        clear hX3
        go_wp2_with (at_builtin; refine wpList_append_own _ rfl (.tmp 51) (.tmp 53) 23 rfl w.heap.size 48 i0 _ 2 24 Tryd.underlying23 hi0 hz0 hz1 hz2 rfl (by decide) _ _ _ rfl HOA.out ⟨w3.heap.size, 0, none⟩ 1 1 [Value.bool true, S y] rfl rfl HNW.out H1.out H63.out HBY.out HBA.out ?_; intro v' w4 hown' hgrow _)
        have HO4 : Hid (OwnK w4 w.heap.size v' (keepRec (wentF now) 0 (l.take (k + 1)) was 0).1) := Lib.hid (by
          have := hown'
          rw [show (kCells acc ++ [Value.bool true, S y]) = kCells (acc ++ [(true, y)]) by rw [kCells_append]; rfl] at this
          rw [HNX.out]
          unfold OwnK
          rw [List.length_append]
          exact this)
        have HB4 : Hid (Below w.heap.size w w4) := Lib.hid ((HW3.out.alloc HW3.out.size _).grown hgrow HBA.out (own_ge HOA.out))
        clear hown' hgrow HOA HNW
        go_wp2_with fail
        have R : ∃ k' : Nat, k' ≤ l.length ∧ Value.int .i64 ((k : Int) + 1) = .int .i64 k' ∧ Hid (OwnK w4 w.heap.size v' (keepRec (wentF now) 0 (l.take k') was 0).1) ∧ Hid (Below w.heap.size w w4) := ⟨k + 1, by omega, by go_num, HO4, HB4⟩
        refine ⟨?_, by simp [intOf]; omega⟩
        first | exact R | ((repeat apply Exists.intro); exact ⟨R, rfl⟩)
      | false =>
        by_cases hw : k < was.length
        · obtain ⟨ud, rfl, hud, u0⟩ := HU.out.at' hw
          have HNX0 := Lib.hid (HIN.out hw)
          clear HIN HOUT
          have j1 : (k : Int) < (was.length : Int) := by omega
          have d1 : decide ((k : Int) < (was.length : Int)) = true := by simp; omega
          have d1' : decide (k < was.length) = true := by simpa using hw
          generalize was.getD k [] = u at *
          by_cases hnw : k < now.length
          · obtain ⟨nd, rfl, hnd, n0⟩ := HN.out.at' hnw
            have j2 : (k : Int) < (now.length : Int) := by omega
            have d2 : decide ((now.length : Int) ≤ (k : Int)) = false := by simp; omega
            have d2' : decide (now.length ≤ k) = false := by simp; omega
            by_cases he : now.getD k [] = u
            · have HNX : Hid ((keepRec (wentF now) 0 (l.take (k + 1)) was 0).1 = acc ++ [(false, y)]) := Lib.hid (by rw [HNX0.out, went_no ⟨hnw, he⟩])
              rw [he] at n0
              have ebe : (u != u) = false := by simp
              have x := u
              clear HNX0 he
              have hX2 := Whole.made wr 48 #[.bool false, S y]
              have HW2 := Lib.hid (HW.out.alloc HW.out.size (.cells #[.bool false, S y] 48))
              have HO2 := Lib.hid (HO.out.alloc (.cells #[.bool false, S y] 48))
              go_upto_region 6 with (fail)
              change Code.wp _ _ _ _ (wr.alloc (.cells #[.bool false, S y] 48))
              have hbw := HW.out
              clear b0' b1' HO
              generalize (wr.alloc (.cells #[.bool false, S y] 48)) = w2 at *
              generalize hgk : wr.heap.size = gk at *
              have x0 : w2.cell? ⟨gk, 0, none⟩ = some (.bool false) := hX2.cell 0
              have u2 : w2.cell? (ud.add k) = some (S u) := (HW2.out.cell (by rw [add_block]; exact hud)).trans u0
              have n2 : w2.cell? (nd.add k) = some (S u) := (HW2.out.cell (by rw [add_block]; exact hnd)).trans n0
              clear u0 n0
              go_quiet (fail)
              go_upto_region 8 with (fail)
              rename_i nq
              have hX3 := Whole.draws hX2 nq
              have HW3 := Lib.hid (Below.draws HW2.out nq)
              have HO3 : Hid (OwnK (w2.drewN nq) w.heap.size u7 acc) := HO2
              clear x0 hX2 HW2 HO2
              generalize w2.drewN nq = w3 at *
              have c0 : w3.cell? ⟨gk, 0, none⟩ = some (.bool false) := hX3.cell 0
              have c1 : w3.cell? ⟨gk, 1, none⟩ = some (S y) := hX3.cell 1
              have HNW : Hid (∀ i z, [Value.bool false, S y][i]? = some z → (w3.alloc (.cells #[.bool false, S y] 48)).cell? ((⟨w3.heap.size, 0, none⟩ : Addr).add i) = some z) := Lib.hid (fun i z hz => by
                obtain ⟨ad', e', _, hc'⟩ := lies_made w3 48 [Value.bool false, S y] (w3.heap.size + 1) (by omega) i z hz
                injection e' with e'; subst e'; exact hc')
              have H1 : Hid (∀ z ∈ [Value.bool false, S y], z.oneCell' = true) := Lib.hid (by simp [Value.oneCell'])
              have H63 : Hid (acc.length + 1 ≤ maxLen) := Lib.hid (by rw [HLK.out]; unfold maxLen; omega)
              have HBY : Hid ((acc.length + 1) * 24 ≤ 140737488355328) := Lib.hid (by rw [HLK.out]; omega)
              have HBA : Hid (w.heap.size ≤ (w3.alloc (.cells #[.bool false, S y] 48)).heap.size) := Lib.hid (by have := HW3.out.size; simp; omega)
              have HOA := Lib.hid (HO3.out.alloc (.cells #[.bool false, S y] 48))
              clear hX3
              go_wp2_with (at_builtin; refine wpList_append_own _ rfl (.tmp 51) (.tmp 53) 23 rfl w.heap.size 48 i0 _ 2 24 Tryd.underlying23 hi0 hz0 hz1 hz2 rfl (by decide) _ _ _ rfl HOA.out ⟨w3.heap.size, 0, none⟩ 1 1 [Value.bool false, S y] rfl rfl HNW.out H1.out H63.out HBY.out HBA.out ?_; intro v' w4 hown' hgrow _)
              have HO4 : Hid (OwnK w4 w.heap.size v' (keepRec (wentF now) 0 (l.take (k + 1)) was 0).1) := Lib.hid (by
                have := hown'
                rw [show (kCells acc ++ [Value.bool false, S y]) = kCells (acc ++ [(false, y)]) by rw [kCells_append]; rfl] at this
                rw [HNX.out]
                unfold OwnK
                rw [List.length_append]
                exact this)
              have HB4 : Hid (Below w.heap.size w w4) := Lib.hid ((HW3.out.alloc HW3.out.size _).grown hgrow HBA.out (own_ge HOA.out))
              clear hown' hgrow HOA HNW
              go_wp2_with fail
              have R : ∃ k' : Nat, k' ≤ l.length ∧ Value.int .i64 ((k : Int) + 1) = .int .i64 k' ∧ Hid (OwnK w4 w.heap.size v' (keepRec (wentF now) 0 (l.take k') was 0).1) ∧ Hid (Below w.heap.size w w4) := ⟨k + 1, by omega, by go_num, HO4, HB4⟩
              refine ⟨?_, by simp [intOf]; omega⟩
              first | exact R | ((repeat apply Exists.intro); exact ⟨R, rfl⟩)
            · have HNX : Hid ((keepRec (wentF now) 0 (l.take (k + 1)) was 0).1 = acc ++ [(true, u)]) := Lib.hid (by rw [HNX0.out, went_yes (fun hh => he hh.2)])
              have ebe : (u == now.getD k []) = false := beq_eq_false_iff_ne.2 (fun e => he e.symm)
              have hXO := own_far HO.out
              clear HNX0 he
              generalize now.getD k [] = x at *
              have hX2 := Whole.made wr 48 #[.bool false, S y]
              have HW2 := Lib.hid (HW.out.alloc HW.out.size (.cells #[.bool false, S y] 48))
              have HO2 := Lib.hid (HO.out.alloc (.cells #[.bool false, S y] 48))
              go_upto_region 6 with (fail)
              change Code.wp _ _ _ _ (wr.alloc (.cells #[.bool false, S y] 48))
              have hbw := HW.out
              clear b0' b1' HO
              generalize (wr.alloc (.cells #[.bool false, S y] 48)) = w2 at *
              generalize hgk : wr.heap.size = gk at *
              have x0 : w2.cell? ⟨gk, 0, none⟩ = some (.bool false) := hX2.cell 0
              have u2 : w2.cell? (ud.add k) = some (S u) := (HW2.out.cell (by rw [add_block]; exact hud)).trans u0
              have n2 : w2.cell? (nd.add k) = some (S x) := (HW2.out.cell (by rw [add_block]; exact hnd)).trans n0
              clear n0
              go_quiet (fail)
              rename_i nq
              have hX2' := Whole.draws hX2 nq
              have HW2' := Lib.hid (Below.draws HW2.out nq)
              have HO2' : Hid (OwnK (w2.drewN nq) w.heap.size u7 acc) := HO2
              clear x0 hX2 HW2 HO2
              have z0 : (w2.drewN nq).cell? ⟨gk, 0, none⟩ = some (.bool false) := hX2'.cell 0
              have z1 : (w2.drewN nq).cell? ⟨gk, 1, none⟩ = some (S y) := hX2'.cell 1
              have y0 := hX2'.free 0
              have y1 := hX2'.free 1
              generalize w2.drewN nq = wq at *
              have uq : wq.cell? (ud.add k) = some (S u) := (HW2'.out.cell (by rw [add_block]; exact hud)).trans u0
              go_upto_region 8 with (fail)
              have hX3 : Whole ((wq.setCell ⟨gk, 0, none⟩ (.bool true)).setCell ⟨gk, 1, none⟩ (S u)) gk 48 #[.bool true, S u] := (hX2'.set 0 (.bool true)).set 1 (S u)
              have HW3 := Lib.hid ((HW2'.out.setCell (p := ⟨gk, 0, none⟩) (by show w.heap.size ≤ gk; rw [← hgk]; exact hbw.size) (.bool true)).setCell (p := ⟨gk, 1, none⟩) (by show w.heap.size ≤ gk; rw [← hgk]; exact hbw.size) (S u))
              have HO3 : Hid (OwnK ((wq.setCell ⟨gk, 0, none⟩ (.bool true)).setCell ⟨gk, 1, none⟩ (S u)) w.heap.size u7 acc) := Lib.hid (own_box2 HO2'.out hXO _ _)
              change Code.wp _ _ _ _ ((wq.setCell ⟨gk, 0, none⟩ (.bool true)).setCell ⟨gk, 1, none⟩ (S u))
              clear z0 z1 y0 y1 uq hX2' HW2' HO2'
              generalize (wq.setCell ⟨gk, 0, none⟩ (.bool true)).setCell ⟨gk, 1, none⟩ (S u) = w3 at *
              have c0 : w3.cell? ⟨gk, 0, none⟩ = some (.bool true) := hX3.cell 0
              have c1 : w3.cell? ⟨gk, 1, none⟩ = some (S u) := hX3.cell 1
              have HNW : Hid (∀ i z, [Value.bool true, S u][i]? = some z → (w3.alloc (.cells #[.bool true, S u] 48)).cell? ((⟨w3.heap.size, 0, none⟩ : Addr).add i) = some z) := Lib.hid (fun i z hz => by
                obtain ⟨ad', e', _, hc'⟩ := lies_made w3 48 [Value.bool true, S u] (w3.heap.size + 1) (by omega) i z hz
                injection e' with e'; subst e'; exact hc')
              have H1 : Hid (∀ z ∈ [Value.bool true, S u], z.oneCell' = true) := Lib.hid (by simp [Value.oneCell'])
              have H63 : Hid (acc.length + 1 ≤ maxLen) := Lib.hid (by rw [HLK.out]; unfold maxLen; omega)
              have HBY : Hid ((acc.length + 1) * 24 ≤ 140737488355328) := Lib.hid (by rw [HLK.out]; omega)
              have HBA : Hid (w.heap.size ≤ (w3.alloc (.cells #[.bool true, S u] 48)).heap.size) := Lib.hid (by have := HW3.out.size; simp; omega)
              have HOA := Lib.hid (HO3.out.alloc (.cells #[.bool true, S u] 48))
              clear hX3
              go_wp2_with (at_builtin; refine wpList_append_own _ rfl (.tmp 51) (.tmp 53) 23 rfl w.heap.size 48 i0 _ 2 24 Tryd.underlying23 hi0 hz0 hz1 hz2 rfl (by decide) _ _ _ rfl HOA.out ⟨w3.heap.size, 0, none⟩ 1 1 [Value.bool true, S u] rfl rfl HNW.out H1.out H63.out HBY.out HBA.out ?_; intro v' w4 hown' hgrow _)
              have HO4 : Hid (OwnK w4 w.heap.size v' (keepRec (wentF now) 0 (l.take (k + 1)) was 0).1) := Lib.hid (by
                have := hown'
                rw [show (kCells acc ++ [Value.bool true, S u]) = kCells (acc ++ [(true, u)]) by rw [kCells_append]; rfl] at this
                rw [HNX.out]
                unfold OwnK
                rw [List.length_append]
                exact this)
              have HB4 : Hid (Below w.heap.size w w4) := Lib.hid ((HW3.out.alloc HW3.out.size _).grown hgrow HBA.out (own_ge HOA.out))
              clear hown' hgrow HOA HNW
              go_wp2_with fail
              have R : ∃ k' : Nat, k' ≤ l.length ∧ Value.int .i64 ((k : Int) + 1) = .int .i64 k' ∧ Hid (OwnK w4 w.heap.size v' (keepRec (wentF now) 0 (l.take k') was 0).1) ∧ Hid (Below w.heap.size w w4) := ⟨k + 1, by omega, by go_num, HO4, HB4⟩
              refine ⟨?_, by simp [intOf]; omega⟩
              first | exact R | ((repeat apply Exists.intro); exact ⟨R, rfl⟩)
          · have HNX : Hid ((keepRec (wentF now) 0 (l.take (k + 1)) was 0).1 = acc ++ [(true, u)]) := Lib.hid (by rw [HNX0.out, went_yes (fun hh => hnw hh.1)])
            have d2 : decide ((now.length : Int) ≤ (k : Int)) = true := by simp; omega
            have d2' : decide (now.length ≤ k) = true := by simp; omega
            have hXO := own_far HO.out
            clear HNX0 hnw
            have hX2 := Whole.made wr 48 #[.bool false, S y]
            have HW2 := Lib.hid (HW.out.alloc HW.out.size (.cells #[.bool false, S y] 48))
            have HO2 := Lib.hid (HO.out.alloc (.cells #[.bool false, S y] 48))
            go_upto_region 6 with (fail)
            change Code.wp _ _ _ _ (wr.alloc (.cells #[.bool false, S y] 48))
            have hbw := HW.out
            clear b0' b1' HO
            generalize (wr.alloc (.cells #[.bool false, S y] 48)) = w2 at *
            generalize hgk : wr.heap.size = gk at *
            have x0 : w2.cell? ⟨gk, 0, none⟩ = some (.bool false) := hX2.cell 0
            have u2 : w2.cell? (ud.add k) = some (S u) := (HW2.out.cell (by rw [add_block]; exact hud)).trans u0
            go_quiet (fail)
            rename_i nq
            have hX2' := Whole.draws hX2 nq
            have HW2' := Lib.hid (Below.draws HW2.out nq)
            have HO2' : Hid (OwnK (w2.drewN nq) w.heap.size u7 acc) := HO2
            clear x0 hX2 HW2 HO2
            have z0 : (w2.drewN nq).cell? ⟨gk, 0, none⟩ = some (.bool false) := hX2'.cell 0
            have z1 : (w2.drewN nq).cell? ⟨gk, 1, none⟩ = some (S y) := hX2'.cell 1
            have y0 := hX2'.free 0
            have y1 := hX2'.free 1
            generalize w2.drewN nq = wq at *
            have uq : wq.cell? (ud.add k) = some (S u) := (HW2'.out.cell (by rw [add_block]; exact hud)).trans u0
            go_upto_region 8 with (fail)
            have hX3 : Whole ((wq.setCell ⟨gk, 0, none⟩ (.bool true)).setCell ⟨gk, 1, none⟩ (S u)) gk 48 #[.bool true, S u] := (hX2'.set 0 (.bool true)).set 1 (S u)
            have HW3 := Lib.hid ((HW2'.out.setCell (p := ⟨gk, 0, none⟩) (by show w.heap.size ≤ gk; rw [← hgk]; exact hbw.size) (.bool true)).setCell (p := ⟨gk, 1, none⟩) (by show w.heap.size ≤ gk; rw [← hgk]; exact hbw.size) (S u))
            have HO3 : Hid (OwnK ((wq.setCell ⟨gk, 0, none⟩ (.bool true)).setCell ⟨gk, 1, none⟩ (S u)) w.heap.size u7 acc) := Lib.hid (own_box2 HO2'.out hXO _ _)
            change Code.wp _ _ _ _ ((wq.setCell ⟨gk, 0, none⟩ (.bool true)).setCell ⟨gk, 1, none⟩ (S u))
            clear z0 z1 y0 y1 uq hX2' HW2' HO2'
            generalize (wq.setCell ⟨gk, 0, none⟩ (.bool true)).setCell ⟨gk, 1, none⟩ (S u) = w3 at *
            have c0 : w3.cell? ⟨gk, 0, none⟩ = some (.bool true) := hX3.cell 0
            have c1 : w3.cell? ⟨gk, 1, none⟩ = some (S u) := hX3.cell 1
            have HNW : Hid (∀ i z, [Value.bool true, S u][i]? = some z → (w3.alloc (.cells #[.bool true, S u] 48)).cell? ((⟨w3.heap.size, 0, none⟩ : Addr).add i) = some z) := Lib.hid (fun i z hz => by
              obtain ⟨ad', e', _, hc'⟩ := lies_made w3 48 [Value.bool true, S u] (w3.heap.size + 1) (by omega) i z hz
              injection e' with e'; subst e'; exact hc')
            have H1 : Hid (∀ z ∈ [Value.bool true, S u], z.oneCell' = true) := Lib.hid (by simp [Value.oneCell'])
            have H63 : Hid (acc.length + 1 ≤ maxLen) := Lib.hid (by rw [HLK.out]; unfold maxLen; omega)
            have HBY : Hid ((acc.length + 1) * 24 ≤ 140737488355328) := Lib.hid (by rw [HLK.out]; omega)
            have HBA : Hid (w.heap.size ≤ (w3.alloc (.cells #[.bool true, S u] 48)).heap.size) := Lib.hid (by have := HW3.out.size; simp; omega)
            have HOA := Lib.hid (HO3.out.alloc (.cells #[.bool true, S u] 48))
            clear hX3
            go_wp2_with (at_builtin; refine wpList_append_own _ rfl (.tmp 51) (.tmp 53) 23 rfl w.heap.size 48 i0 _ 2 24 Tryd.underlying23 hi0 hz0 hz1 hz2 rfl (by decide) _ _ _ rfl HOA.out ⟨w3.heap.size, 0, none⟩ 1 1 [Value.bool true, S u] rfl rfl HNW.out H1.out H63.out HBY.out HBA.out ?_; intro v' w4 hown' hgrow _)
            have HO4 : Hid (OwnK w4 w.heap.size v' (keepRec (wentF now) 0 (l.take (k + 1)) was 0).1) := Lib.hid (by
              have := hown'
              rw [show (kCells acc ++ [Value.bool true, S u]) = kCells (acc ++ [(true, u)]) by rw [kCells_append]; rfl] at this
              rw [HNX.out]
              unfold OwnK
              rw [List.length_append]
              exact this)
            have HB4 : Hid (Below w.heap.size w w4) := Lib.hid ((HW3.out.alloc HW3.out.size _).grown hgrow HBA.out (own_ge HOA.out))
            clear hown' hgrow HOA HNW
            go_wp2_with fail
            have R : ∃ k' : Nat, k' ≤ l.length ∧ Value.int .i64 ((k : Int) + 1) = .int .i64 k' ∧ Hid (OwnK w4 w.heap.size v' (keepRec (wentF now) 0 (l.take k') was 0).1) ∧ Hid (Below w.heap.size w w4) := ⟨k + 1, by omega, by go_num, HO4, HB4⟩
            refine ⟨?_, by simp [intOf]; omega⟩
            first | exact R | ((repeat apply Exists.intro); exact ⟨R, rfl⟩)
        · have HNX : Hid ((keepRec (wentF now) 0 (l.take (k + 1)) was 0).1 = acc ++ [(false, y)]) := Lib.hid (HOUT.out (by omega))
          have d1 : decide ((k : Int) < (was.length : Int)) = false := by simp; omega
          have d1' : decide (k < was.length) = false := by simpa using hw
          clear HIN HOUT
          have hX2 := Whole.made wr 48 #[.bool false, S y]
          have HW2 := Lib.hid (HW.out.alloc HW.out.size (.cells #[.bool false, S y] 48))
          have HO2 := Lib.hid (HO.out.alloc (.cells #[.bool false, S y] 48))
          go_upto_region 6 with (fail)
          change Code.wp _ _ _ _ (wr.alloc (.cells #[.bool false, S y] 48))
          have hbw := HW.out
          clear b0' b1' HO
          generalize (wr.alloc (.cells #[.bool false, S y] 48)) = w2 at *
          generalize hgk : wr.heap.size = gk at *
          have x0 : w2.cell? ⟨gk, 0, none⟩ = some (.bool false) := hX2.cell 0
          go_quiet (fail)
          go_upto_region 8 with (fail)
          rename_i nq
          have hX3 := Whole.draws hX2 nq
          have HW3 := Lib.hid (Below.draws HW2.out nq)
          have HO3 : Hid (OwnK (w2.drewN nq) w.heap.size u7 acc) := HO2
          clear x0 hX2 HW2 HO2
          generalize w2.drewN nq = w3 at *
          have c0 : w3.cell? ⟨gk, 0, none⟩ = some (.bool false) := hX3.cell 0
          have c1 : w3.cell? ⟨gk, 1, none⟩ = some (S y) := hX3.cell 1
          have HNW : Hid (∀ i z, [Value.bool false, S y][i]? = some z → (w3.alloc (.cells #[.bool false, S y] 48)).cell? ((⟨w3.heap.size, 0, none⟩ : Addr).add i) = some z) := Lib.hid (fun i z hz => by
            obtain ⟨ad', e', _, hc'⟩ := lies_made w3 48 [Value.bool false, S y] (w3.heap.size + 1) (by omega) i z hz
            injection e' with e'; subst e'; exact hc')
          have H1 : Hid (∀ z ∈ [Value.bool false, S y], z.oneCell' = true) := Lib.hid (by simp [Value.oneCell'])
          have H63 : Hid (acc.length + 1 ≤ maxLen) := Lib.hid (by rw [HLK.out]; unfold maxLen; omega)
          have HBY : Hid ((acc.length + 1) * 24 ≤ 140737488355328) := Lib.hid (by rw [HLK.out]; omega)
          have HBA : Hid (w.heap.size ≤ (w3.alloc (.cells #[.bool false, S y] 48)).heap.size) := Lib.hid (by have := HW3.out.size; simp; omega)
          have HOA := Lib.hid (HO3.out.alloc (.cells #[.bool false, S y] 48))
          clear hX3
          go_wp2_with (at_builtin; refine wpList_append_own _ rfl (.tmp 51) (.tmp 53) 23 rfl w.heap.size 48 i0 _ 2 24 Tryd.underlying23 hi0 hz0 hz1 hz2 rfl (by decide) _ _ _ rfl HOA.out ⟨w3.heap.size, 0, none⟩ 1 1 [Value.bool false, S y] rfl rfl HNW.out H1.out H63.out HBY.out HBA.out ?_; intro v' w4 hown' hgrow _)
          have HO4 : Hid (OwnK w4 w.heap.size v' (keepRec (wentF now) 0 (l.take (k + 1)) was 0).1) := Lib.hid (by
            have := hown'
            rw [show (kCells acc ++ [Value.bool false, S y]) = kCells (acc ++ [(false, y)]) by rw [kCells_append]; rfl] at this
            rw [HNX.out]
            unfold OwnK
            rw [List.length_append]
            exact this)
          have HB4 : Hid (Below w.heap.size w w4) := Lib.hid ((HW3.out.alloc HW3.out.size _).grown hgrow HBA.out (own_ge HOA.out))
          clear hown' hgrow HOA HNW
          go_wp2_with fail
          have R : ∃ k' : Nat, k' ≤ l.length ∧ Value.int .i64 ((k : Int) + 1) = .int .i64 k' ∧ Hid (OwnK w4 w.heap.size v' (keepRec (wentF now) 0 (l.take k') was 0).1) ∧ Hid (Below w.heap.size w w4) := ⟨k + 1, by omega, by go_num, HO4, HB4⟩
          refine ⟨?_, by simp [intOf]; omega⟩
          first | exact R | ((repeat apply Exists.intro); exact ⟨R, rfl⟩)
    · obtain rfl : k = l.length := by omega
      have hd : decide (l.length < l.length) = false := by simp
      rw [List.take_of_length_le (Nat.le_refl _)] at HO
      go_wp2_with fail
      go_ret
      exact ⟨⟨_, rfl, HO.out⟩, HW.out⟩
set_option maxRecDepth 100000 in
set_option maxHeartbeats 4000000 in
theorem rpump_any (w : World) (A N : Option Addr) (c m : Nat) (l : List Kp) (now : List (List UInt8)) (n0 : Int) (hn0 : inJ n0) (hA : Kps w w.heap.size A l) (hN : Strs w w.heap.size N now) (hl : l.length ≤ 274877906944) :
    Calls Tryd.prog 22 #[.slice A l.length c, .slice N now.length m, .int .i64 n0] w fun e w' => (∃ v, e = .returned (.tuple #[v, .int .i64 (keepRec pumpF 0 l now n0).2]) ∧ OwnK w' w.heap.size v (keepRec pumpF 0 l now n0).1) ∧ Below w.heap.size w w' := by
  obtain ⟨i0, hi0, hz0, hz1, hz2⟩ := info_parts Tryd.infoKept
  have HA := Lib.hid hA
  have HN := Lib.hid hN
  have HJ := Lib.hid hn0
  clear hA hN hn0
  go_enter Tryd.func22, Tryd.ntmps22
  go_wp2_with fail
  go_loopw [2, 8, 9] (fun nv v i wr => ∃ k : Nat, k ≤ l.length ∧ i = .int .i64 k ∧ nv = .int .i64 (keepRec pumpF 0 (l.take k) now n0).2 ∧ Hid (OwnK wr w.heap.size v (keepRec pumpF 0 (l.take k) now n0).1) ∧ Hid (Below w.heap.size w wr)) (fun _ _ i _ => l.length - (intOf i).toNat)
  case atStart => exact ⟨0, by omega, rfl, rfl, Lib.hid (World.ownsRow_nil _ _ _ _), Lib.hid (Below.refl _ _)⟩
  case round =>
    obtain ⟨k, hk, rfl, rfl, HO, HW⟩ := hrel
    by_cases hlt : k < l.length
    · obtain ⟨bd, rfl, hbd, b0, b1⟩ := HA.out.at' hlt
      have b0' : wr.cell? (bd.add (k * 2)) = _ := (HW.out.cell (by rw [add_block]; exact hbd)).trans b0
      have b1' : wr.cell? ⟨(bd.add (k * 2)).block, (bd.add (k * 2)).off + 1, none⟩ = _ := (HW.out.cell (by show (bd.add (k * 2)).block < _; rw [add_block]; exact hbd)).trans b1
      clear b0 b1
      have hlk : (keepRec pumpF 0 (l.take k) now n0).1.length = k := by rw [keep_length, List.length_take]; omega
      have hnu : (keepRec pumpF 0 (l.take k) now n0).2 ≤ 9223372036854775807 := Int.le_trans (pump_low _ _ _ _) HJ.out.2
      have HIN := Lib.hid (fun h : k < now.length => keep_take (f := pumpF) (s := n0) hlt h)
      have HOUT := Lib.hid (fun h : now.length ≤ k => keep_take_out (f := pumpF) (s := n0) hlt h)
      generalize (keepRec pumpF 0 (l.take k) now n0).1 = acc at *
      generalize (keepRec pumpF 0 (l.take k) now n0).2 = n at *
      generalize l.getD k (false, []) = p at *
      obtain ⟨b, y⟩ := p
      dsimp only at b0' b1'
      have HLK := Lib.hid hlk
      clear hlk
      have i0' : (0 : Int) ≤ (k : Int) := by omega
      have i1 : (k : Int) < (l.length : Int) := by omega
      by_cases hpos : 0 < n
      · have g1 : decide (0 < n) = true := by simpa using hpos
        cases b with
        | true =>
          have HNX : Hid ((keepRec pumpF 0 (l.take (k + 1)) now n0).1 = acc ++ [(true, y)] ∧ (keepRec pumpF 0 (l.take (k + 1)) now n0).2 = n) := Lib.hid (by
            by_cases h : k < now.length
            · rw [HIN.out h]; exact ⟨rfl, rfl⟩
            · rw [HOUT.out (by omega)]; exact ⟨rfl, rfl⟩)
          have HNS := Lib.hid HNX.out.2
          have HNX := Lib.hid HNX.out.1
          clear HIN HOUT
          have hX2 := Whole.made wr 48 #[.bool true, S y]
          have HW2 := Lib.hid (HW.out.alloc HW.out.size (.cells #[.bool true, S y] 48))
          have HO2 := Lib.hid (HO.out.alloc (.cells #[.bool true, S y] 48))
          go_upto_region 6 with (fail)
          change Code.wp _ _ _ _ (wr.alloc (.cells #[.bool true, S y] 48))
          have hbw := HW.out
          clear b0' b1' HO
          generalize (wr.alloc (.cells #[.bool true, S y] 48)) = w2 at *
          generalize hgk : wr.heap.size = gk at *
          have x0 : w2.cell? ⟨gk, 0, none⟩ = some (.bool true) := hX2.cell 0
          go_upto_region 9 with (fail)
          have hX3 := hX2
          have HW3 := HW2
          have HO3 := HO2
          clear x0 hX2 HW2 HO2
          generalize w2 = w3 at *
          have c0 : w3.cell? ⟨gk, 0, none⟩ = some (.bool true) := hX3.cell 0
          have c1 : w3.cell? ⟨gk, 1, none⟩ = some (S y) := hX3.cell 1
          have HNW : Hid (∀ i z, [Value.bool true, S y][i]? = some z → (w3.alloc (.cells #[.bool true, S y] 48)).cell? ((⟨w3.heap.size, 0, none⟩ : Addr).add i) = some z) := Lib.hid (fun i z hz => by
            obtain ⟨ad', e', _, hc'⟩ := lies_made w3 48 [Value.bool true, S y] (w3.heap.size + 1) (by omega) i z hz
            injection e' with e'; subst e'; exact hc')
          have H1 : Hid (∀ z ∈ [Value.bool true, S y], z.oneCell' = true) := Lib.hid (by simp [Value.oneCell'])
          have H63 : Hid (acc.length + 1 ≤ maxLen) := Lib.hid (by rw [HLK.out]; unfold maxLen; omega)
          have HBY : Hid ((acc.length + 1) * 24 ≤ 140737488355328) := Lib.hid (by rw [HLK.out]; omega)
          have HBA : Hid (w.heap.size ≤ (w3.alloc (.cells #[.bool true, S y] 48)).heap.size) := Lib.hid (by have := HW3.out.size; simp; omega)
          have HOA := Lib.hid (HO3.out.alloc (.cells #[.bool true, S y] 48))
          clear hX3
          go_wp2_with (at_builtin; refine wpList_append_own _ rfl (.tmp 41) (.tmp 43) 23 rfl w.heap.size 48 i0 _ 2 24 Tryd.underlying23 hi0 hz0 hz1 hz2 rfl (by decide) _ _ _ rfl HOA.out ⟨w3.heap.size, 0, none⟩ 1 1 [Value.bool true, S y] rfl rfl HNW.out H1.out H63.out HBY.out HBA.out ?_; intro v' w4 hown' hgrow _)
          have HO4 : Hid (OwnK w4 w.heap.size v' (keepRec pumpF 0 (l.take (k + 1)) now n0).1) := Lib.hid (by
            have := hown'
            rw [show (kCells acc ++ [Value.bool true, S y]) = kCells (acc ++ [(true, y)]) by rw [kCells_append]; rfl] at this
            rw [HNX.out]
            unfold OwnK
            rw [List.length_append]
            exact this)
          have HB4 : Hid (Below w.heap.size w w4) := Lib.hid ((HW3.out.alloc HW3.out.size _).grown hgrow HBA.out (own_ge HOA.out))
          clear hown' hgrow HOA HNW
          go_wp2_with fail
          have R : ∃ k' : Nat, k' ≤ l.length ∧ Value.int .i64 ((k : Int) + 1) = .int .i64 k' ∧ Value.int .i64 n = .int .i64 (keepRec pumpF 0 (l.take k') now n0).2 ∧ Hid (OwnK w4 w.heap.size v' (keepRec pumpF 0 (l.take k') now n0).1) ∧ Hid (Below w.heap.size w w4) := ⟨k + 1, by omega, by go_num, by rw [HNS.out], HO4, HB4⟩
          refine ⟨?_, by simp [intOf]; omega⟩
          first | exact R | ((repeat apply Exists.intro); exact ⟨R, rfl⟩)
        | false =>
          by_cases hw : k < now.length
          · obtain ⟨ud, rfl, hud, u0⟩ := HN.out.at' hw
            have HNX : Hid ((keepRec pumpF 0 (l.take (k + 1)) now n0).1 = acc ++ [(true, now.getD k [])] ∧ (keepRec pumpF 0 (l.take (k + 1)) now n0).2 = n - 1) := Lib.hid (by
              rw [HIN.out hw, pump_yes (k := (false, y)) (by simp) (by omega)]; exact ⟨rfl, rfl⟩)
            have HNS := Lib.hid HNX.out.2
            have HNX := Lib.hid HNX.out.1
            clear HIN HOUT
            have j1 : (k : Int) < (now.length : Int) := by omega
            have d1 : decide ((k : Int) < (now.length : Int)) = true := by simp; omega
            have d1' : decide (k < now.length) = true := by simpa using hw
            have hXO := own_far HO.out
            generalize now.getD k [] = u at *
            have hX2 := Whole.made wr 48 #[.bool false, S y]
            have HW2 := Lib.hid (HW.out.alloc HW.out.size (.cells #[.bool false, S y] 48))
            have HO2 := Lib.hid (HO.out.alloc (.cells #[.bool false, S y] 48))
            go_upto_region 6 with (fail)
            change Code.wp _ _ _ _ (wr.alloc (.cells #[.bool false, S y] 48))
            have hbw := HW.out
            clear b0' b1' HO
            generalize (wr.alloc (.cells #[.bool false, S y] 48)) = w2 at *
            generalize hgk : wr.heap.size = gk at *
            have x0 : w2.cell? ⟨gk, 0, none⟩ = some (.bool false) := hX2.cell 0
            have x1 : w2.cell? ⟨gk, 1, none⟩ = some (S y) := hX2.cell 1
            have y0 := hX2.free 0
            have y1 := hX2.free 1
            have uq : w2.cell? (ud.add k) = some (S u) := (HW2.out.cell (by rw [add_block]; exact hud)).trans u0
            go_upto_region 9 with (fail)
            have hX3 : Whole ((w2.setCell ⟨gk, 0, none⟩ (.bool true)).setCell ⟨gk, 1, none⟩ (S u)) gk 48 #[.bool true, S u] := (hX2.set 0 (.bool true)).set 1 (S u)
            have HW3 := Lib.hid ((HW2.out.setCell (p := ⟨gk, 0, none⟩) (by show w.heap.size ≤ gk; rw [← hgk]; exact hbw.size) (.bool true)).setCell (p := ⟨gk, 1, none⟩) (by show w.heap.size ≤ gk; rw [← hgk]; exact hbw.size) (S u))
            have HO3 : Hid (OwnK ((w2.setCell ⟨gk, 0, none⟩ (.bool true)).setCell ⟨gk, 1, none⟩ (S u)) w.heap.size u8 acc) := Lib.hid (own_box2 HO2.out hXO _ _)
            change Code.wp _ _ _ _ ((w2.setCell ⟨gk, 0, none⟩ (.bool true)).setCell ⟨gk, 1, none⟩ (S u))
            clear x0 x1 y0 y1 uq hX2 HW2 HO2
            generalize (w2.setCell ⟨gk, 0, none⟩ (.bool true)).setCell ⟨gk, 1, none⟩ (S u) = w3 at *
            have c0 : w3.cell? ⟨gk, 0, none⟩ = some (.bool true) := hX3.cell 0
            have c1 : w3.cell? ⟨gk, 1, none⟩ = some (S u) := hX3.cell 1
            have HNW : Hid (∀ i z, [Value.bool true, S u][i]? = some z → (w3.alloc (.cells #[.bool true, S u] 48)).cell? ((⟨w3.heap.size, 0, none⟩ : Addr).add i) = some z) := Lib.hid (fun i z hz => by
              obtain ⟨ad', e', _, hc'⟩ := lies_made w3 48 [Value.bool true, S u] (w3.heap.size + 1) (by omega) i z hz
              injection e' with e'; subst e'; exact hc')
            have H1 : Hid (∀ z ∈ [Value.bool true, S u], z.oneCell' = true) := Lib.hid (by simp [Value.oneCell'])
            have H63 : Hid (acc.length + 1 ≤ maxLen) := Lib.hid (by rw [HLK.out]; unfold maxLen; omega)
            have HBY : Hid ((acc.length + 1) * 24 ≤ 140737488355328) := Lib.hid (by rw [HLK.out]; omega)
            have HBA : Hid (w.heap.size ≤ (w3.alloc (.cells #[.bool true, S u] 48)).heap.size) := Lib.hid (by have := HW3.out.size; simp; omega)
            have HOA := Lib.hid (HO3.out.alloc (.cells #[.bool true, S u] 48))
            clear hX3
            go_wp2_with (at_builtin; refine wpList_append_own _ rfl (.tmp 41) (.tmp 43) 23 rfl w.heap.size 48 i0 _ 2 24 Tryd.underlying23 hi0 hz0 hz1 hz2 rfl (by decide) _ _ _ rfl HOA.out ⟨w3.heap.size, 0, none⟩ 1 1 [Value.bool true, S u] rfl rfl HNW.out H1.out H63.out HBY.out HBA.out ?_; intro v' w4 hown' hgrow _)
            have HO4 : Hid (OwnK w4 w.heap.size v' (keepRec pumpF 0 (l.take (k + 1)) now n0).1) := Lib.hid (by
              have := hown'
              rw [show (kCells acc ++ [Value.bool true, S u]) = kCells (acc ++ [(true, u)]) by rw [kCells_append]; rfl] at this
              rw [HNX.out]
              unfold OwnK
              rw [List.length_append]
              exact this)
            have HB4 : Hid (Below w.heap.size w w4) := Lib.hid ((HW3.out.alloc HW3.out.size _).grown hgrow HBA.out (own_ge HOA.out))
            clear hown' hgrow HOA HNW
            go_wp2_with fail
            have R : ∃ k' : Nat, k' ≤ l.length ∧ Value.int .i64 ((k : Int) + 1) = .int .i64 k' ∧ Value.int .i64 (n - 1) = .int .i64 (keepRec pumpF 0 (l.take k') now n0).2 ∧ Hid (OwnK w4 w.heap.size v' (keepRec pumpF 0 (l.take k') now n0).1) ∧ Hid (Below w.heap.size w w4) := ⟨k + 1, by omega, by go_num, by rw [HNS.out], HO4, HB4⟩
            refine ⟨?_, by simp [intOf]; omega⟩
            first | exact R | ((repeat apply Exists.intro); exact ⟨R, rfl⟩)
          · have HNX : Hid ((keepRec pumpF 0 (l.take (k + 1)) now n0).1 = acc ++ [(false, y)] ∧ (keepRec pumpF 0 (l.take (k + 1)) now n0).2 = n) := Lib.hid (by rw [HOUT.out (by omega)]; exact ⟨rfl, rfl⟩)
            have HNS := Lib.hid HNX.out.2
            have HNX := Lib.hid HNX.out.1
            have d1 : decide ((k : Int) < (now.length : Int)) = false := by simp; omega
            have d1' : decide (k < now.length) = false := by simpa using hw
            clear HIN HOUT
            have hX2 := Whole.made wr 48 #[.bool false, S y]
            have HW2 := Lib.hid (HW.out.alloc HW.out.size (.cells #[.bool false, S y] 48))
            have HO2 := Lib.hid (HO.out.alloc (.cells #[.bool false, S y] 48))
            go_upto_region 6 with (fail)
            change Code.wp _ _ _ _ (wr.alloc (.cells #[.bool false, S y] 48))
            have hbw := HW.out
            clear b0' b1' HO
            generalize (wr.alloc (.cells #[.bool false, S y] 48)) = w2 at *
            generalize hgk : wr.heap.size = gk at *
            have x0 : w2.cell? ⟨gk, 0, none⟩ = some (.bool false) := hX2.cell 0
            go_upto_region 9 with (fail)
            have hX3 := hX2
            have HW3 := HW2
            have HO3 := HO2
            clear x0 hX2 HW2 HO2
            generalize w2 = w3 at *
            have c0 : w3.cell? ⟨gk, 0, none⟩ = some (.bool false) := hX3.cell 0
            have c1 : w3.cell? ⟨gk, 1, none⟩ = some (S y) := hX3.cell 1
            have HNW : Hid (∀ i z, [Value.bool false, S y][i]? = some z → (w3.alloc (.cells #[.bool false, S y] 48)).cell? ((⟨w3.heap.size, 0, none⟩ : Addr).add i) = some z) := Lib.hid (fun i z hz => by
              obtain ⟨ad', e', _, hc'⟩ := lies_made w3 48 [Value.bool false, S y] (w3.heap.size + 1) (by omega) i z hz
              injection e' with e'; subst e'; exact hc')
            have H1 : Hid (∀ z ∈ [Value.bool false, S y], z.oneCell' = true) := Lib.hid (by simp [Value.oneCell'])
            have H63 : Hid (acc.length + 1 ≤ maxLen) := Lib.hid (by rw [HLK.out]; unfold maxLen; omega)
            have HBY : Hid ((acc.length + 1) * 24 ≤ 140737488355328) := Lib.hid (by rw [HLK.out]; omega)
            have HBA : Hid (w.heap.size ≤ (w3.alloc (.cells #[.bool false, S y] 48)).heap.size) := Lib.hid (by have := HW3.out.size; simp; omega)
            have HOA := Lib.hid (HO3.out.alloc (.cells #[.bool false, S y] 48))
            clear hX3
            go_wp2_with (at_builtin; refine wpList_append_own _ rfl (.tmp 41) (.tmp 43) 23 rfl w.heap.size 48 i0 _ 2 24 Tryd.underlying23 hi0 hz0 hz1 hz2 rfl (by decide) _ _ _ rfl HOA.out ⟨w3.heap.size, 0, none⟩ 1 1 [Value.bool false, S y] rfl rfl HNW.out H1.out H63.out HBY.out HBA.out ?_; intro v' w4 hown' hgrow _)
            have HO4 : Hid (OwnK w4 w.heap.size v' (keepRec pumpF 0 (l.take (k + 1)) now n0).1) := Lib.hid (by
              have := hown'
              rw [show (kCells acc ++ [Value.bool false, S y]) = kCells (acc ++ [(false, y)]) by rw [kCells_append]; rfl] at this
              rw [HNX.out]
              unfold OwnK
              rw [List.length_append]
              exact this)
            have HB4 : Hid (Below w.heap.size w w4) := Lib.hid ((HW3.out.alloc HW3.out.size _).grown hgrow HBA.out (own_ge HOA.out))
            clear hown' hgrow HOA HNW
            go_wp2_with fail
            have R : ∃ k' : Nat, k' ≤ l.length ∧ Value.int .i64 ((k : Int) + 1) = .int .i64 k' ∧ Value.int .i64 n = .int .i64 (keepRec pumpF 0 (l.take k') now n0).2 ∧ Hid (OwnK w4 w.heap.size v' (keepRec pumpF 0 (l.take k') now n0).1) ∧ Hid (Below w.heap.size w w4) := ⟨k + 1, by omega, by go_num, by rw [HNS.out], HO4, HB4⟩
            refine ⟨?_, by simp [intOf]; omega⟩
            first | exact R | ((repeat apply Exists.intro); exact ⟨R, rfl⟩)
      · have g1 : decide (0 < n) = false := by simpa using hpos
        have HNX : Hid ((keepRec pumpF 0 (l.take (k + 1)) now n0).1 = acc ++ [(b, y)] ∧ (keepRec pumpF 0 (l.take (k + 1)) now n0).2 = n) := Lib.hid (by
          by_cases h : k < now.length
          · rw [HIN.out h, pump_no (by omega)]; exact ⟨rfl, rfl⟩
          · rw [HOUT.out (by omega)]; exact ⟨rfl, rfl⟩)
        have HNS := Lib.hid HNX.out.2
        have HNX := Lib.hid HNX.out.1
        clear HIN HOUT
        have hX2 := Whole.made wr 48 #[.bool b, S y]
        have HW2 := Lib.hid (HW.out.alloc HW.out.size (.cells #[.bool b, S y] 48))
        have HO2 := Lib.hid (HO.out.alloc (.cells #[.bool b, S y] 48))
        go_upto_region 6 with (fail)
        change Code.wp _ _ _ _ (wr.alloc (.cells #[.bool b, S y] 48))
        have hbw := HW.out
        clear b0' b1' HO
        generalize (wr.alloc (.cells #[.bool b, S y] 48)) = w2 at *
        generalize hgk : wr.heap.size = gk at *
        have x0 : w2.cell? ⟨gk, 0, none⟩ = some (.bool b) := hX2.cell 0
        go_upto_region 9 with (fail)
        have hX3 := hX2
        have HW3 := HW2
        have HO3 := HO2
        clear x0 hX2 HW2 HO2
        generalize w2 = w3 at *
        have c0 : w3.cell? ⟨gk, 0, none⟩ = some (.bool b) := hX3.cell 0
        have c1 : w3.cell? ⟨gk, 1, none⟩ = some (S y) := hX3.cell 1
        have HNW : Hid (∀ i z, [Value.bool b, S y][i]? = some z → (w3.alloc (.cells #[.bool b, S y] 48)).cell? ((⟨w3.heap.size, 0, none⟩ : Addr).add i) = some z) := Lib.hid (fun i z hz => by
          obtain ⟨ad', e', _, hc'⟩ := lies_made w3 48 [Value.bool b, S y] (w3.heap.size + 1) (by omega) i z hz
          injection e' with e'; subst e'; exact hc')
        have H1 : Hid (∀ z ∈ [Value.bool b, S y], z.oneCell' = true) := Lib.hid (by simp [Value.oneCell'])
        have H63 : Hid (acc.length + 1 ≤ maxLen) := Lib.hid (by rw [HLK.out]; unfold maxLen; omega)
        have HBY : Hid ((acc.length + 1) * 24 ≤ 140737488355328) := Lib.hid (by rw [HLK.out]; omega)
        have HBA : Hid (w.heap.size ≤ (w3.alloc (.cells #[.bool b, S y] 48)).heap.size) := Lib.hid (by have := HW3.out.size; simp; omega)
        have HOA := Lib.hid (HO3.out.alloc (.cells #[.bool b, S y] 48))
        clear hX3
        go_wp2_with (at_builtin; refine wpList_append_own _ rfl (.tmp 41) (.tmp 43) 23 rfl w.heap.size 48 i0 _ 2 24 Tryd.underlying23 hi0 hz0 hz1 hz2 rfl (by decide) _ _ _ rfl HOA.out ⟨w3.heap.size, 0, none⟩ 1 1 [Value.bool b, S y] rfl rfl HNW.out H1.out H63.out HBY.out HBA.out ?_; intro v' w4 hown' hgrow _)
        have HO4 : Hid (OwnK w4 w.heap.size v' (keepRec pumpF 0 (l.take (k + 1)) now n0).1) := Lib.hid (by
          have := hown'
          rw [show (kCells acc ++ [Value.bool b, S y]) = kCells (acc ++ [(b, y)]) by rw [kCells_append]; rfl] at this
          rw [HNX.out]
          unfold OwnK
          rw [List.length_append]
          exact this)
        have HB4 : Hid (Below w.heap.size w w4) := Lib.hid ((HW3.out.alloc HW3.out.size _).grown hgrow HBA.out (own_ge HOA.out))
        clear hown' hgrow HOA HNW
        go_wp2_with fail
        have R : ∃ k' : Nat, k' ≤ l.length ∧ Value.int .i64 ((k : Int) + 1) = .int .i64 k' ∧ Value.int .i64 n = .int .i64 (keepRec pumpF 0 (l.take k') now n0).2 ∧ Hid (OwnK w4 w.heap.size v' (keepRec pumpF 0 (l.take k') now n0).1) ∧ Hid (Below w.heap.size w w4) := ⟨k + 1, by omega, by go_num, by rw [HNS.out], HO4, HB4⟩
        refine ⟨?_, by simp [intOf]; omega⟩
        first | exact R | ((repeat apply Exists.intro); exact ⟨R, rfl⟩)
    · obtain rfl : k = l.length := by omega
      have hd : decide (l.length < l.length) = false := by simp
      rw [List.take_of_length_le (Nat.le_refl _)] at HO
      have HQ : Hid ((keepRec pumpF 0 (l.take l.length) now n0).2 = (keepRec pumpF 0 l now n0).2) := Lib.hid (by rw [List.take_of_length_le (Nat.le_refl _)])
      rw [HQ.out]
      go_wp2_with fail
      go_ret2
      exact ⟨⟨_, rfl, HO.out⟩, HW.out⟩
end Go.Proofs.YtmmfcjkabpffeaaDoor
