/-
  Laws: two digests held against each other; a whole array loaded by a guarded operation.
-/
import Derived.Test.YtecamaceainfpaaDoorHashB
import Derived.Test.YtecamaceainfpaaDoorBase
import Derived.Stop.BytesEq
import Derived.Test.YtecamaceainfpaaDoorRowsA
import Derived.Test.YtecamaceainfpaaDoorDeltaA
import Derived.BigQuiet
import Derived.Deep.QuietTactic
import Derived.Test.YtecamaceainfpaaDoorRHashB
namespace Go.Proofs.YtecamaceainfpaaDoor
open Go.RowKit
theorem eql_D32 (x y : List UInt8) (hx : x.length = 32) (hy : y.length = 32) (W : World) : (binOp .eql 29 (D32 x) (D32 y)).run Tryd.prog W = .ok (.bool (x == y)) W :=
  run_eql_bytes W 29 5 32 Tryd.underlying29 Tryd.underlying5 (fun _ => by kernel_rfl) x y hx hy
theorem neq_D32 (x y : List UInt8) (hx : x.length = 32) (hy : y.length = 32) (W : World) : (binOp .neq 29 (D32 x) (D32 y)).run Tryd.prog W = .ok (.bool (x != y)) W := by
  rw [run_neq_struct]
  have := run_equalIn_bytes W 9998 29 5 32 Tryd.underlying29 Tryd.underlying5 (fun _ => by kernel_rfl) x y hx hy
  rw [show (.agg (x.map B8).toArray : Value) = .agg (x.map Extern.Stop.cell).toArray from rfl, show (.agg (y.map B8).toArray : Value) = .agg (y.map Extern.Stop.cell).toArray from rfl, this]
  rfl
theorem eqIn_D32 (x y : List UInt8) (hx : x.length = 32) (hy : y.length = 32) (W : World) : (Op.equalIn 10000 29 (D32 x) (D32 y)).run Tryd.prog W = .ok (x == y) W :=
  run_equalIn_bytes W 9998 29 5 32 Tryd.underlying29 Tryd.underlying5 (fun _ => by kernel_rfl) x y hx hy
section
variable {P : Program}
theorem wpList_wanted {ops : Array Oper} {rest : List Oper} {o : Oper} {a : Act} {w : World} {Q : Exit → Act → World → Prop} (hw : Region.wanted o (yielded ops a.tmps) = true)
    (h : ∀ K : Act → World → Prop, (∀ a w, wpList P ops Q rest a w → K a w) → o.wp P a w K Q) : wpList P ops Q (o :: rest) a w :=
  wpList_step fun K hK => by rw [if_pos hw]; exact h K hK
/-- a whole array loaded, the operation guarded and wanted -/
theorem wpList_load_g {ops : Array Oper} {rest : List Oper} {o : Oper} {a : Act} {w : World} {Q : Exit → Act → World → Prop} (hw : Region.wanted o (yielded ops a.tmps) = true) (ty : TypeId) (x : Operand) (ho : o.op = .load ty x)
    (ad : Addr) (hx : a.eval x = .pointer (some ad)) (cs : List Value) (d : TypeDesc) (hc : ∀ j v, cs[j]? = some v → w.cell? (ad.add j) = some v)
    (hu : P.underlying ty = some d) (hd : (match d with | .struct _ | .array _ _ => true | _ => false) = true) (hi : (P.info? ty).map (·.size) = some cs.length)
    (h : wpList P ops Q rest (a.put o.dst (.agg cs.toArray)) w) : wpList P ops Q (o :: rest) a w :=
  wpList_wanted hw fun _ hK => by
    unfold Oper.wp execOp
    simp only [ho, hx, Instr.loadAt, Instr.sureAddr, Sem.run_bind, Sem.run_pure, Result.andThen_ok, run_loadVar_at w ad ty cs d hc hu hd hi]
    exact hK _ _ h
end
end Go.Proofs.YtecamaceainfpaaDoor
/-
  Walk: hibernacleref35.others.
-/
namespace Go.Proofs.YtecamaceainfpaaDoor
open Go.RowKit
theorem _root_.Go.World.ownsRow.drews {w : World} {base : Nat} {e : TypeId} {size n : Nat} {v : Value} {xs : List Value} (h : w.ownsRow base e size v n xs) (k : Nat) : (w.drewN k).ownsRow base e size v n xs := h

set_option maxRecDepth 100000 in
set_option maxHeartbeats 1000000 in
theorem rothers_any (w : World) (A A' : Option Addr) (c c' : Nat) (a b : List (List UInt8)) (hA : Strs w w.heap.size A a) (hA' : Strs w w.heap.size A' b) (ha : a.length ≤ 1099511627776) (hb : b.length ≤ 1099511627776) :
    Calls Tryd.prog 42 #[.slice A a.length c, .slice A' b.length c'] w fun e w' => (∃ v, e = .returned v ∧ w'.ownsRow w.heap.size 36 2 v (othersTo a b b.length).length (wCells (othersTo a b b.length))) ∧ Below w.heap.size w w' := by
  obtain ⟨i0, hi0, hz0, hz1, hz2⟩ := info_parts Tryd.infoWrite
  have HA := Lib.hid hA
  have HA' := Lib.hid hA'
  clear hA hA'
  go_enter Tryd.func42, Tryd.ntmps42
  go_wp2
  go_loopw [5, 6] (fun v i wr => ∃ k : Nat, k ≤ b.length ∧ i = .int .i64 k ∧ Hid (wr.ownsRow w.heap.size 36 2 v (othersTo a b k).length (wCells (othersTo a b k))) ∧ Hid (Below w.heap.size w wr)) (fun _ i _ => b.length - (intOf i).toNat)
  case atStart => exact ⟨0, by omega, rfl, Lib.hid (World.ownsRow_lit w #[] 0 (Nat.le_refl _) (by unfold maxLen; omega) rfl), Lib.hid ((Below.refl _ _).alloc (Nat.le_refl _) _)⟩
  case round =>
    obtain ⟨k, hk, rfl, HO, HB⟩ := hrel
    by_cases hlt : k < b.length
    · obtain ⟨ad, rfl, had, hc⟩ := HA'.out.at' hlt
      have hcr : wr.cell? (ad.add k) = some (S (b.getD k [])) := (HB.out.cell (by unfold Addr.add; split <;> exact had)).trans hc
      clear hc
      by_cases hka : k < a.length
      · obtain ⟨ad2, rfl, had2, hc2⟩ := HA.out.at' hka
        have hcr2 : wr.cell? (ad2.add k) = some (S (a.getD k [])) := (HB.out.cell (by unfold Addr.add; split <;> exact had2)).trans hc2
        clear hc2
        have hd : decide (a.length ≤ k) = false := by simp; omega
        by_cases hxy : a.getD k [] = b.getD k []
        · have HE := Lib.hid (othersTo_same hka hxy)
          have hbe : (a.getD k [] == b.getD k []) = true := beq_iff_eq.2 hxy
          clear hxy
          generalize a.getD k [] = x at *
          generalize b.getD k [] = y at *
          have hbn : (x != y) = false := by simp [bne, hbe]
          go_wp2_with fail
          go_quiet (fail)
          have HOq := Lib.hid (HO.out.drews nq)
          have HBq := Lib.hid (Below.draws HB.out nq)
          clear hcr hcr2 HO HB
          generalize wr.drewN nq = wq at *
          go_wp2_with fail
          go_roundw
          case rel =>
            have R : ∃ k' : Nat, k' ≤ b.length ∧ Value.int .i64 ((k : Int) + 1) = .int .i64 k' ∧ Hid (wq.ownsRow w.heap.size 36 2 u5 (othersTo a b k').length (wCells (othersTo a b k'))) ∧ Hid (Below w.heap.size w wq) := ⟨k + 1, by omega, by go_num, by rw [HE.out]; exact HOq, HBq⟩
            first | exact R | ((repeat apply Exists.intro); exact ⟨R, rfl⟩)
          case measure => simp [intOf]; omega
        · have HE := Lib.hid (othersTo_new (a := a) (b := b) (k := k) (fun h => hxy h.2))
          have hbe : (a.getD k [] == b.getD k []) = false := beq_eq_false_iff_ne.2 hxy
          clear hxy
          generalize a.getD k [] = x at *
          generalize b.getD k [] = y at *
          have hbn : (x != y) = true := by simp [bne, hbe]
          go_wp2_with fail
          go_quiet (fail)
          have HOq := Lib.hid (HO.out.drews nq)
          have HBq := Lib.hid (Below.draws HB.out nq)
          have hcq : (wr.drewN nq).cell? (ad.add k) = some (S y) := hcr
          clear hcr hcr2 HO HB
          generalize wr.drewN nq = wq at *
          have HO := HOq
          have HB := HBq
          clear HOq HBq
          have hnews : ∀ j u, [Value.int .i64 (k : Int), S y][j]? = some u → (wq.alloc (.cells #[.int .i64 (k : Int), S y] 36)).cell? ((⟨wq.heap.size, 0, none⟩ : Addr).add j) = some u := fun j u hu => by
            obtain ⟨ad', e', _, hc'⟩ := lies_made wq 36 [Value.int .i64 (k : Int), S y] (wq.heap.size + 1) (by omega) j u hu
            injection e' with e'; subst e'; exact hc'
          have HN := Lib.hid hnews
          have H1 : Hid (∀ u ∈ [Value.int .i64 (k : Int), S y], u.oneCell' = true) := Lib.hid (by simp [Value.oneCell'])
          have hle := othersTo_le a b k
          have H63 : Hid ((othersTo a b k).length + 1 ≤ maxLen) := Lib.hid (by unfold maxLen; omega)
          have HBY : Hid (((othersTo a b k).length + 1) * 24 ≤ 140737488355328) := Lib.hid (by omega)
          have HBA : Hid (w.heap.size ≤ (wq.alloc (.cells #[.int .i64 (k : Int), S y] 36)).heap.size) := Lib.hid (by have := HB.out.size; simp; omega)
          have HOA := Lib.hid (HO.out.alloc (.cells #[.int .i64 (k : Int), S y] 36))
          clear hnews hle
          go_wp2_with (at_builtin; refine wpList_append_own _ rfl (.tmp 29) (.tmp 36) 30 rfl w.heap.size 36 i0 _ 2 24 Tryd.underlying30 hi0 hz0 hz1 hz2 rfl (by decide) _ _ _ rfl HOA.out ⟨wq.heap.size, 0, none⟩ 1 1 [.int .i64 (k : Int), S y] rfl rfl HN.out H1.out H63.out HBY.out HBA.out ?_; intro v' w1 hown' hgrow _)
          have HO1 : Hid (w1.ownsRow w.heap.size 36 2 v' (othersTo a b (k + 1)).length (wCells (othersTo a b (k + 1)))) := Lib.hid (by
            rw [HE.out, List.length_append, wCells_append]
            exact hown')
          have HB1 : Hid (Below w.heap.size w w1) := Lib.hid ((HB.out.alloc HB.out.size _).grown hgrow HBA.out (own_ge HO.out))
          clear hown' hgrow
          go_wp2
          go_roundw
          case rel =>
            have R : ∃ k' : Nat, k' ≤ b.length ∧ Value.int .i64 ((k : Int) + 1) = .int .i64 k' ∧ Hid (w1.ownsRow w.heap.size 36 2 v' (othersTo a b k').length (wCells (othersTo a b k'))) ∧ Hid (Below w.heap.size w w1) := ⟨k + 1, by omega, by go_num, HO1, HB1⟩
            first | exact R | ((repeat apply Exists.intro); exact ⟨R, rfl⟩)
          case measure => simp [intOf]; omega
      · have hd : decide (a.length ≤ k) = true := by simp; omega
        have HE := Lib.hid (othersTo_new (a := a) (b := b) (k := k) (fun h => hka h.1))
        generalize b.getD k [] = y at *
        go_wp2_with fail
        go_quiet (fail)
        have HOq := Lib.hid (HO.out.drews nq)
        have HBq := Lib.hid (Below.draws HB.out nq)
        have hcq : (wr.drewN nq).cell? (ad.add k) = some (S y) := hcr
        clear hcr HO HB
        generalize wr.drewN nq = wq at *
        have HO := HOq
        have HB := HBq
        clear HOq HBq
        have hnews : ∀ j u, [Value.int .i64 (k : Int), S y][j]? = some u → (wq.alloc (.cells #[.int .i64 (k : Int), S y] 36)).cell? ((⟨wq.heap.size, 0, none⟩ : Addr).add j) = some u := fun j u hu => by
          obtain ⟨ad', e', _, hc'⟩ := lies_made wq 36 [Value.int .i64 (k : Int), S y] (wq.heap.size + 1) (by omega) j u hu
          injection e' with e'; subst e'; exact hc'
        have HN := Lib.hid hnews
        have H1 : Hid (∀ u ∈ [Value.int .i64 (k : Int), S y], u.oneCell' = true) := Lib.hid (by simp [Value.oneCell'])
        have hle := othersTo_le a b k
        have H63 : Hid ((othersTo a b k).length + 1 ≤ maxLen) := Lib.hid (by unfold maxLen; omega)
        have HBY : Hid (((othersTo a b k).length + 1) * 24 ≤ 140737488355328) := Lib.hid (by omega)
        have HBA : Hid (w.heap.size ≤ (wq.alloc (.cells #[.int .i64 (k : Int), S y] 36)).heap.size) := Lib.hid (by have := HB.out.size; simp; omega)
        have HOA := Lib.hid (HO.out.alloc (.cells #[.int .i64 (k : Int), S y] 36))
        clear hnews hle
        go_wp2_with (at_builtin; refine wpList_append_own _ rfl (.tmp 29) (.tmp 36) 30 rfl w.heap.size 36 i0 _ 2 24 Tryd.underlying30 hi0 hz0 hz1 hz2 rfl (by decide) _ _ _ rfl HOA.out ⟨wq.heap.size, 0, none⟩ 1 1 [.int .i64 (k : Int), S y] rfl rfl HN.out H1.out H63.out HBY.out HBA.out ?_; intro v' w1 hown' hgrow _)
        have HO1 : Hid (w1.ownsRow w.heap.size 36 2 v' (othersTo a b (k + 1)).length (wCells (othersTo a b (k + 1)))) := Lib.hid (by
          rw [HE.out, List.length_append, wCells_append]
          exact hown')
        have HB1 : Hid (Below w.heap.size w w1) := Lib.hid ((HB.out.alloc HB.out.size _).grown hgrow HBA.out (own_ge HO.out))
        clear hown' hgrow
        go_wp2
        go_roundw
        case rel =>
          have R : ∃ k' : Nat, k' ≤ b.length ∧ Value.int .i64 ((k : Int) + 1) = .int .i64 k' ∧ Hid (w1.ownsRow w.heap.size 36 2 v' (othersTo a b k').length (wCells (othersTo a b k'))) ∧ Hid (Below w.heap.size w w1) := ⟨k + 1, by omega, by go_num, HO1, HB1⟩
          first | exact R | ((repeat apply Exists.intro); exact ⟨R, rfl⟩)
        case measure => simp [intOf]; omega
    · obtain rfl : k = b.length := by omega
      go_wp2
      go_ret
      exact ⟨⟨_, rfl, HO.out⟩, HB.out⟩
end Go.Proofs.YtecamaceainfpaaDoor
/-
  Walk: hibernacleref35.Of. (Printed by gen_rof.py.)
-/
namespace Go.Proofs.YtecamaceainfpaaDoor
open Go.RowKit

theorem rothers_lies (w : World) (A A' : Option Addr) (c c' : Nat) (a b : List (List UInt8)) (hA : Strs w w.heap.size A a) (hA' : Strs w w.heap.size A' b) (ha : a.length ≤ 1099511627776) (hb : b.length ≤ 1099511627776) :
    Calls Tryd.prog 42 #[.slice A a.length c, .slice A' b.length c'] w fun e w' => (∃ G k, e = .returned (.slice G (othersTo a b b.length).length k) ∧ Lies w' w'.heap.size G (wCells (othersTo a b b.length)) ∧ ∀ ad, G = some ad → w.heap.size ≤ ad.block) ∧ Below w.heap.size w w' :=
  (rothers_any w A A' c c' a b hA hA' ha hb).mono fun e w' ⟨⟨v, he, ho⟩, hbl⟩ => by
    obtain ⟨G, k, rfl, hl, hge⟩ := own_shape ho (by omega)
    exact ⟨⟨G, k, he, hl, hge⟩, hbl⟩

attribute [local go_sem] foldl_size foldl_size0 zero32
set_option maxRecDepth 100000 in
set_option maxHeartbeats 2000000 in
theorem rof_any (w : World) (A A' B B' : Option Addr) (c c' d d' : Nat) (fa ba fb bb : List (List UInt8)) (ra rb : List UInt8) (hA : Strs w w.heap.size A fa) (hA' : Strs w w.heap.size A' ba) (hB : Strs w w.heap.size B fb) (hB' : Strs w w.heap.size B' bb)
    (hs : sizeOf fa + sizeOf ba + ra.length ≤ 4294967296) (hs' : sizeOf fb + sizeOf bb + rb.length ≤ 4294967296) :
    Calls Tryd.prog 16 #[.agg #[.slice A fa.length c, .slice A' ba.length c', S ra], .agg #[.slice B fb.length d, .slice B' bb.length d', S rb]] w (OfPost w fa ba fb bb ra rb) := by
  have HA := Lib.hid hA
  have HA' := Lib.hid hA'
  have HB := Lib.hid hB
  have HB' := Lib.hid hB'
  clear hA hA' hB hB'
  have la := length_le_sizeOf fa
  have la' := length_le_sizeOf ba
  have lb := length_le_sizeOf fb
  have lb' := length_le_sizeOf bb
  by_cases h1 : fb.length < fa.length
  · have d1 : decide (fb.length < fa.length) = true := by simpa using h1
    have hless : less fa ba fb bb = true := by simp [less, h1]
    have HL := Lib.hid hless
    clear hless
    go_enter Tryd.func16, Tryd.ntmps16
    go_wp2_with fail
    have hx := (Whole.made w 24 #[Value.slice none 0 0, Value.slice none 0 0, S []]).block (.cells #[.slice B fb.length d, .slice B' bb.length d', S rb] 24) |>.block (.cells Tryd.zeroCells32 32)
    have hy := (Whole.made (w.alloc (.cells #[Value.slice none 0 0, Value.slice none 0 0, S []] 24)) 24 #[.slice B fb.length d, .slice B' bb.length d', S rb]).block (.cells Tryd.zeroCells32 32)
    have hz := Whole.made ((w.alloc (.cells #[Value.slice none 0 0, Value.slice none 0 0, S []] 24)).alloc (.cells #[.slice B fb.length d, .slice B' bb.length d', S rb] 24)) 32 Tryd.zeroCells32
    have hb : Below w.heap.size w (((w.alloc (.cells #[Value.slice none 0 0, Value.slice none 0 0, S []] 24)).alloc (.cells #[.slice B fb.length d, .slice B' bb.length d', S rb] 24)).alloc (.cells Tryd.zeroCells32 32)) := (((Below.refl _ _).alloc (Nat.le_refl _) _).alloc (by simp) _).alloc (by simp; omega) _
    rw [show (w.alloc (.cells #[Value.slice none 0 0, Value.slice none 0 0, S []] 24)).heap.size = w.heap.size + 1 by simp] at hy
    rw [show ((w.alloc (.cells #[Value.slice none 0 0, Value.slice none 0 0, S []] 24)).alloc (.cells #[.slice B fb.length d, .slice B' bb.length d', S rb] 24)).heap.size = w.heap.size + 1 + 1 by simp] at hz
    have c0 : _ = some (Value.slice none 0 0) := hx.cell 0
    have c1 : _ = some (Value.slice none 0 0) := hx.cell 1
    have c2 : _ = some (S []) := hx.cell 2
    have e0 : _ = some (Value.slice B fb.length d) := hy.cell 0
    have e1 : _ = some (Value.slice B' bb.length d') := hy.cell 1
    have e2 : _ = some (S rb) := hy.cell 2
    have HZ : Hid (Whole _ _ 32 Tryd.zeroCells32.toList.toArray) := Lib.hid (by simpa using hz)
    have HW := Lib.hid hb
    have hlz := hz.lt
    clear hx hy hz hb
    generalize ((w.alloc (.cells #[Value.slice none 0 0, Value.slice none 0 0, S []] 24)).alloc (.cells #[.slice B fb.length d, .slice B' bb.length d', S rb] 24)).alloc (.cells Tryd.zeroCells32 32) = w1 at *
    have C0 := Lib.hid c0
    have C1 := Lib.hid c1
    have C2 := Lib.hid c2
    have E0 := Lib.hid e0
    have E1 := Lib.hid e1
    have E2 := Lib.hid e2
    generalize hgx : w.heap.size = gx at *
    have HGX := Lib.hid hgx
    clear hgx
    have hL : ∀ (W : World) (G : Option Addr) (xs : List Value), Below (gx + 1 + 1) w1 W → Lies w gx G xs → Lies W W.heap.size G xs := fun W G xs hW h => ((h.below HW.out).below (hW.mono (by omega))).wide (by have := hW.size; omega)
    have f1 : ∀ W : World, Below (gx + 1 + 1) w1 W → Calls Tryd.prog 41 #[.agg #[Value.slice none 0 0, Value.slice none 0 0, S []]] W fun e w' => e = .returned (D32 (dig (imgB [] [] []))) ∧ Below W.heap.size W w' := fun W hW => rimgSum_any W none none 0 0 [] [] [] (Lies.none _ _ _) (Lies.none _ _ _) (by simp [sizeOf])
    have f2 : ∀ W : World, Below (gx + 1 + 1) w1 W → Calls Tryd.prog 41 #[.agg #[.slice B fb.length d, .slice B' bb.length d', S rb]] W fun e w' => e = .returned (D32 (dig (imgB fb bb rb))) ∧ Below W.heap.size W w' := fun W hW => rimgSum_any W B B' d d' fb bb rb (hL W _ _ hW HB.out) (hL W _ _ hW HB'.out) hs'
    have f3 : ∀ W : World, Below (gx + 1 + 1) w1 W → Calls Tryd.prog 42 #[Value.slice none 0 0, .slice B fb.length d] W fun e w' => (∃ G k, e = .returned (.slice G (othersTo [] fb fb.length).length k) ∧ Lies w' w'.heap.size G (wCells (othersTo [] fb fb.length)) ∧ ∀ ad, G = some ad → W.heap.size ≤ ad.block) ∧ Below W.heap.size W w' := fun W hW => rothers_lies W none B 0 d [] fb (Lies.none _ _ _) (hL W _ _ hW HB.out) (by simp) (by omega)
    have f4 : ∀ W : World, Below (gx + 1 + 1) w1 W → Calls Tryd.prog 42 #[Value.slice none 0 0, .slice B' bb.length d'] W fun e w' => (∃ G k, e = .returned (.slice G (othersTo [] bb bb.length).length k) ∧ Lies w' w'.heap.size G (wCells (othersTo [] bb bb.length)) ∧ ∀ ad, G = some ad → W.heap.size ≤ ad.block) ∧ Below W.heap.size W w' := fun W hW => rothers_lies W none B' 0 d' [] bb (Lies.none _ _ _) (hL W _ _ hW HB'.out) (by simp) (by omega)
    have F1 := Lib.hid f1
    have F2 := Lib.hid f2
    have F3 := Lib.hid f3
    have F4 := Lib.hid f4
    clear f1 f2 f3 f4 hL
    have D1 := Lib.hid (dig_length (imgB [] [] []))
    have D2 := Lib.hid (dig_length (imgB fb bb rb))
    obtain ⟨DA, HDA⟩ : ∃ z, Hid (dig (imgB [] [] []) = z) := ⟨_, Lib.hid rfl⟩
    obtain ⟨DB, HDB⟩ : ∃ z, Hid (dig (imgB fb bb rb) = z) := ⟨_, Lib.hid rfl⟩
    rw [HDA.out] at D1 F1
    rw [HDB.out] at D2 F2
    obtain ⟨W1, HW1⟩ : ∃ z, Hid (othersTo [] fb fb.length = z) := ⟨_, Lib.hid rfl⟩
    obtain ⟨W2, HW2⟩ : ∃ z, Hid (othersTo [] bb bb.length = z) := ⟨_, Lib.hid rfl⟩
    rw [HW1.out] at F3
    rw [HW2.out] at F4
    have o1 := D1.out
    have o2 := D2.out
    have HI : Hid (∀ G3 k3 G4 k4, (Tryd.prog.info? 32).map (·.size) = some (dCells DA (.slice G3 W1.length k3) (.slice G4 W2.length k4) rb DB).length) := Lib.hid (fun _ _ _ _ => by rw [dCells_length D1.out D2.out]; kernel_rfl)
    have HC : Hid (∀ G3 k3 G4 k4, 0 + (dCells DA (.slice G3 W1.length k3) (.slice G4 W2.length k4) rb DB).length ≤ Tryd.zeroCells32.toList.length) := Lib.hid (fun _ _ _ _ => by rw [dCells_length D1.out D2.out]; decide)
    go_region_held3 (fun w' => w'.cell? ⟨gx, 0, none⟩ = some (Value.slice none 0 0) ∧ w'.cell? ⟨gx, 1, none⟩ = some (Value.slice none 0 0) ∧ w'.cell? ⟨gx, 2, none⟩ = some (S []) ∧ w'.cell? ⟨gx + 1, 0, none⟩ = some (Value.slice B fb.length d) ∧ w'.cell? ⟨gx + 1, 1, none⟩ = some (Value.slice B' bb.length d') ∧ w'.cell? ⟨gx + 1, 2, none⟩ = some (S rb))
      (first
        | go_keep
        | (exact ⟨(BB.cell (p := ⟨gx, 0, none⟩) (by show gx < _; omega)).trans C0.out, (BB.cell (p := ⟨gx, 1, none⟩) (by show gx < _; omega)).trans C1.out, (BB.cell (p := ⟨gx, 2, none⟩) (by show gx < _; omega)).trans C2.out, (BB.cell (p := ⟨gx + 1, 0, none⟩) (by show gx + 1 < _; omega)).trans E0.out, (BB.cell (p := ⟨gx + 1, 1, none⟩) (by show gx + 1 < _; omega)).trans E1.out, (BB.cell (p := ⟨gx + 1, 2, none⟩) (by show gx + 1 < _; omega)).trans E2.out⟩))
      (first
        | (go_at_call_of 41 (Value.agg #[Value.slice none 0 0, Value.slice none 0 0, S []]); refine (F1.out _ ?_).mono ?_; (exact (Below.refl _ _).drew); rintro e w2 ⟨rfl, hbl⟩; have B2 : Below (gx + 1 + 1) w1 w2 := ((Below.refl _ _).drew).trans (hbl.mono (by show _ ≤ w1.heap.size; omega)); have BB := B2; have hz2 : w1.heap.size ≤ w2.heap.size := hbl.size; have z2 := Lib.hid (HZ.out.draw.below hbl hlz); clear hbl)
        | (go_at_call_of 42 (Value.slice B fb.length d); refine (F3.out _ ?_).mono ?_; (exact B2); rintro e w3 ⟨⟨G3, k3, rfl, l3, ge3⟩, hbl⟩; have N3 := Lib.hid ge3; clear ge3; have B3 : Below (gx + 1 + 1) w1 w3 := B2.trans (hbl.mono (by omega)); have BB := B3; have hz3 : w1.heap.size ≤ w3.heap.size := Nat.le_trans hz2 hbl.size; have z3 := Lib.hid (z2.out.below hbl (by omega)); have L3 := Lib.hid l3; clear hbl l3)
        | (go_at_call_of 42 (Value.slice B' bb.length d'); refine (F4.out _ ?_).mono ?_; (exact B3); rintro e w4 ⟨⟨G4, k4, rfl, l4, ge4⟩, hbl⟩; have N4 := Lib.hid ge4; clear ge4; have B4 : Below (gx + 1 + 1) w1 w4 := B3.trans (hbl.mono (by omega)); have BB := B4; have hz4 : w1.heap.size ≤ w4.heap.size := Nat.le_trans hz3 hbl.size; have z4 := Lib.hid (z3.out.below hbl (by omega)); have L34 := Lib.hid ((L3.out.below hbl).wide hbl.size); have L4 := Lib.hid l4; clear hbl l4)
        | (go_at_call_of 41 (Value.agg #[Value.slice B fb.length d, Value.slice B' bb.length d', S rb]); refine (F2.out _ ?_).mono ?_; (exact B4); rintro e w5 ⟨rfl, hbl⟩; have B5 : Below (gx + 1 + 1) w1 w5 := B4.trans (hbl.mono (by omega)); have BB := B5; have hz5 : w1.heap.size ≤ w5.heap.size := Nat.le_trans hz4 hbl.size; have z5 := Lib.hid (z4.out.below hbl (by omega)); have L35 := Lib.hid ((L34.out.below hbl).wide hbl.size); have L45 := Lib.hid ((L4.out.below hbl).wide hbl.size); clear hbl)
        | (refine upon_store (by rfl) (gx + 1 + 1) 0 _ (dCells DA (.slice G3 W1.length k3) (.slice G4 W2.length k4) rb DB) (by exact built_list DA DB D1.out D2.out _ _ _ _ _ _ _) Tryd.zeroCells32.toList 32 z5.out (HC.out _ _ _ _) (dCells_one _ _ _ _ _ _ _ _ _) ?_; intro w6 H6 F6; have BB := below_grown B5 F6.out (by omega) (Nat.le_refl _)))
    have h6 : Whole w6 (gx + 1 + 1) 32 (dCells DA (.slice G3 W1.length k3) (.slice G4 W2.length k4) rb DB).toArray := by
      have := H6.out
      rw [dCells_length D1.out D2.out, show Tryd.zeroCells32.toList.drop (0 + 67) = [] from by kernel_rfl, List.take_zero, List.nil_append, List.append_nil] at this
      exact this
    go_wp2
    refine bodyPost_ret (v := .agg (dCells DA (.slice G3 W1.length k3) (.slice G4 W2.length k4) rb DB).toArray) (results_cell_row rfl _ _ (gx + 1 + 1) 32 _ (0, 0) _ rfl h6 Tryd.underlying32 rfl (by rw [List.size_toArray]; exact HI.out _ _ _ _)) rfl ?_
    unfold OfPost
    rw [HL.out, onto_true, onto_true, onto_true, HDA.out, HDB.out, HW1.out, HW2.out]
    refine ⟨⟨G3, k3, G4, k4, rfl, lies_after L35.out F6.out (fun ad e _ => ?_), lies_after L45.out F6.out (fun ad e _ => ?_), fun ad e => ?_, fun ad e => ?_⟩, ?_⟩
    · have := N3.out ad e; omega
    · have := N4.out ad e; omega
    · have := N3.out ad e; rw [HGX.out]; omega
    · have := N4.out ad e; rw [HGX.out]; omega
    · rw [HGX.out]; exact HW.out.trans (BB.mono (by omega))
  · have d1 : decide (fb.length < fa.length) = false := by simpa using h1
    by_cases h2 : bb.length < ba.length
    · have d2 : decide (bb.length < ba.length) = true := by simpa using h2
      have hless : less fa ba fb bb = true := by simp [less, h2]
      have HL := Lib.hid hless
      clear hless
      go_enter Tryd.func16, Tryd.ntmps16
      go_wp2_with fail
      have hx := (Whole.made w 24 #[Value.slice none 0 0, Value.slice none 0 0, S []]).block (.cells #[.slice B fb.length d, .slice B' bb.length d', S rb] 24) |>.block (.cells Tryd.zeroCells32 32)
      have hy := (Whole.made (w.alloc (.cells #[Value.slice none 0 0, Value.slice none 0 0, S []] 24)) 24 #[.slice B fb.length d, .slice B' bb.length d', S rb]).block (.cells Tryd.zeroCells32 32)
      have hz := Whole.made ((w.alloc (.cells #[Value.slice none 0 0, Value.slice none 0 0, S []] 24)).alloc (.cells #[.slice B fb.length d, .slice B' bb.length d', S rb] 24)) 32 Tryd.zeroCells32
      have hb : Below w.heap.size w (((w.alloc (.cells #[Value.slice none 0 0, Value.slice none 0 0, S []] 24)).alloc (.cells #[.slice B fb.length d, .slice B' bb.length d', S rb] 24)).alloc (.cells Tryd.zeroCells32 32)) := (((Below.refl _ _).alloc (Nat.le_refl _) _).alloc (by simp) _).alloc (by simp; omega) _
      rw [show (w.alloc (.cells #[Value.slice none 0 0, Value.slice none 0 0, S []] 24)).heap.size = w.heap.size + 1 by simp] at hy
      rw [show ((w.alloc (.cells #[Value.slice none 0 0, Value.slice none 0 0, S []] 24)).alloc (.cells #[.slice B fb.length d, .slice B' bb.length d', S rb] 24)).heap.size = w.heap.size + 1 + 1 by simp] at hz
      have c0 : _ = some (Value.slice none 0 0) := hx.cell 0
      have c1 : _ = some (Value.slice none 0 0) := hx.cell 1
      have c2 : _ = some (S []) := hx.cell 2
      have e0 : _ = some (Value.slice B fb.length d) := hy.cell 0
      have e1 : _ = some (Value.slice B' bb.length d') := hy.cell 1
      have e2 : _ = some (S rb) := hy.cell 2
      have HZ : Hid (Whole _ _ 32 Tryd.zeroCells32.toList.toArray) := Lib.hid (by simpa using hz)
      have HW := Lib.hid hb
      have hlz := hz.lt
      clear hx hy hz hb
      generalize ((w.alloc (.cells #[Value.slice none 0 0, Value.slice none 0 0, S []] 24)).alloc (.cells #[.slice B fb.length d, .slice B' bb.length d', S rb] 24)).alloc (.cells Tryd.zeroCells32 32) = w1 at *
      have C0 := Lib.hid c0
      have C1 := Lib.hid c1
      have C2 := Lib.hid c2
      have E0 := Lib.hid e0
      have E1 := Lib.hid e1
      have E2 := Lib.hid e2
      generalize hgx : w.heap.size = gx at *
      have HGX := Lib.hid hgx
      clear hgx
      have hL : ∀ (W : World) (G : Option Addr) (xs : List Value), Below (gx + 1 + 1) w1 W → Lies w gx G xs → Lies W W.heap.size G xs := fun W G xs hW h => ((h.below HW.out).below (hW.mono (by omega))).wide (by have := hW.size; omega)
      have f1 : ∀ W : World, Below (gx + 1 + 1) w1 W → Calls Tryd.prog 41 #[.agg #[Value.slice none 0 0, Value.slice none 0 0, S []]] W fun e w' => e = .returned (D32 (dig (imgB [] [] []))) ∧ Below W.heap.size W w' := fun W hW => rimgSum_any W none none 0 0 [] [] [] (Lies.none _ _ _) (Lies.none _ _ _) (by simp [sizeOf])
      have f2 : ∀ W : World, Below (gx + 1 + 1) w1 W → Calls Tryd.prog 41 #[.agg #[.slice B fb.length d, .slice B' bb.length d', S rb]] W fun e w' => e = .returned (D32 (dig (imgB fb bb rb))) ∧ Below W.heap.size W w' := fun W hW => rimgSum_any W B B' d d' fb bb rb (hL W _ _ hW HB.out) (hL W _ _ hW HB'.out) hs'
      have f3 : ∀ W : World, Below (gx + 1 + 1) w1 W → Calls Tryd.prog 42 #[Value.slice none 0 0, .slice B fb.length d] W fun e w' => (∃ G k, e = .returned (.slice G (othersTo [] fb fb.length).length k) ∧ Lies w' w'.heap.size G (wCells (othersTo [] fb fb.length)) ∧ ∀ ad, G = some ad → W.heap.size ≤ ad.block) ∧ Below W.heap.size W w' := fun W hW => rothers_lies W none B 0 d [] fb (Lies.none _ _ _) (hL W _ _ hW HB.out) (by simp) (by omega)
      have f4 : ∀ W : World, Below (gx + 1 + 1) w1 W → Calls Tryd.prog 42 #[Value.slice none 0 0, .slice B' bb.length d'] W fun e w' => (∃ G k, e = .returned (.slice G (othersTo [] bb bb.length).length k) ∧ Lies w' w'.heap.size G (wCells (othersTo [] bb bb.length)) ∧ ∀ ad, G = some ad → W.heap.size ≤ ad.block) ∧ Below W.heap.size W w' := fun W hW => rothers_lies W none B' 0 d' [] bb (Lies.none _ _ _) (hL W _ _ hW HB'.out) (by simp) (by omega)
      have F1 := Lib.hid f1
      have F2 := Lib.hid f2
      have F3 := Lib.hid f3
      have F4 := Lib.hid f4
      clear f1 f2 f3 f4 hL
      have D1 := Lib.hid (dig_length (imgB [] [] []))
      have D2 := Lib.hid (dig_length (imgB fb bb rb))
      obtain ⟨DA, HDA⟩ : ∃ z, Hid (dig (imgB [] [] []) = z) := ⟨_, Lib.hid rfl⟩
      obtain ⟨DB, HDB⟩ : ∃ z, Hid (dig (imgB fb bb rb) = z) := ⟨_, Lib.hid rfl⟩
      rw [HDA.out] at D1 F1
      rw [HDB.out] at D2 F2
      obtain ⟨W1, HW1⟩ : ∃ z, Hid (othersTo [] fb fb.length = z) := ⟨_, Lib.hid rfl⟩
      obtain ⟨W2, HW2⟩ : ∃ z, Hid (othersTo [] bb bb.length = z) := ⟨_, Lib.hid rfl⟩
      rw [HW1.out] at F3
      rw [HW2.out] at F4
      have o1 := D1.out
      have o2 := D2.out
      have HI : Hid (∀ G3 k3 G4 k4, (Tryd.prog.info? 32).map (·.size) = some (dCells DA (.slice G3 W1.length k3) (.slice G4 W2.length k4) rb DB).length) := Lib.hid (fun _ _ _ _ => by rw [dCells_length D1.out D2.out]; kernel_rfl)
      have HC : Hid (∀ G3 k3 G4 k4, 0 + (dCells DA (.slice G3 W1.length k3) (.slice G4 W2.length k4) rb DB).length ≤ Tryd.zeroCells32.toList.length) := Lib.hid (fun _ _ _ _ => by rw [dCells_length D1.out D2.out]; decide)
      go_region_held3 (fun w' => w'.cell? ⟨gx, 0, none⟩ = some (Value.slice none 0 0) ∧ w'.cell? ⟨gx, 1, none⟩ = some (Value.slice none 0 0) ∧ w'.cell? ⟨gx, 2, none⟩ = some (S []) ∧ w'.cell? ⟨gx + 1, 0, none⟩ = some (Value.slice B fb.length d) ∧ w'.cell? ⟨gx + 1, 1, none⟩ = some (Value.slice B' bb.length d') ∧ w'.cell? ⟨gx + 1, 2, none⟩ = some (S rb))
        (first
          | go_keep
          | (exact ⟨(BB.cell (p := ⟨gx, 0, none⟩) (by show gx < _; omega)).trans C0.out, (BB.cell (p := ⟨gx, 1, none⟩) (by show gx < _; omega)).trans C1.out, (BB.cell (p := ⟨gx, 2, none⟩) (by show gx < _; omega)).trans C2.out, (BB.cell (p := ⟨gx + 1, 0, none⟩) (by show gx + 1 < _; omega)).trans E0.out, (BB.cell (p := ⟨gx + 1, 1, none⟩) (by show gx + 1 < _; omega)).trans E1.out, (BB.cell (p := ⟨gx + 1, 2, none⟩) (by show gx + 1 < _; omega)).trans E2.out⟩))
        (first
          | (go_at_call_of 41 (Value.agg #[Value.slice none 0 0, Value.slice none 0 0, S []]); refine (F1.out _ ?_).mono ?_; (exact (Below.refl _ _).drew); rintro e w2 ⟨rfl, hbl⟩; have B2 : Below (gx + 1 + 1) w1 w2 := ((Below.refl _ _).drew).trans (hbl.mono (by show _ ≤ w1.heap.size; omega)); have BB := B2; have hz2 : w1.heap.size ≤ w2.heap.size := hbl.size; have z2 := Lib.hid (HZ.out.draw.below hbl hlz); clear hbl)
          | (go_at_call_of 42 (Value.slice B fb.length d); refine (F3.out _ ?_).mono ?_; (exact B2); rintro e w3 ⟨⟨G3, k3, rfl, l3, ge3⟩, hbl⟩; have N3 := Lib.hid ge3; clear ge3; have B3 : Below (gx + 1 + 1) w1 w3 := B2.trans (hbl.mono (by omega)); have BB := B3; have hz3 : w1.heap.size ≤ w3.heap.size := Nat.le_trans hz2 hbl.size; have z3 := Lib.hid (z2.out.below hbl (by omega)); have L3 := Lib.hid l3; clear hbl l3)
          | (go_at_call_of 42 (Value.slice B' bb.length d'); refine (F4.out _ ?_).mono ?_; (exact B3); rintro e w4 ⟨⟨G4, k4, rfl, l4, ge4⟩, hbl⟩; have N4 := Lib.hid ge4; clear ge4; have B4 : Below (gx + 1 + 1) w1 w4 := B3.trans (hbl.mono (by omega)); have BB := B4; have hz4 : w1.heap.size ≤ w4.heap.size := Nat.le_trans hz3 hbl.size; have z4 := Lib.hid (z3.out.below hbl (by omega)); have L34 := Lib.hid ((L3.out.below hbl).wide hbl.size); have L4 := Lib.hid l4; clear hbl l4)
          | (go_at_call_of 41 (Value.agg #[Value.slice B fb.length d, Value.slice B' bb.length d', S rb]); refine (F2.out _ ?_).mono ?_; (exact B4); rintro e w5 ⟨rfl, hbl⟩; have B5 : Below (gx + 1 + 1) w1 w5 := B4.trans (hbl.mono (by omega)); have BB := B5; have hz5 : w1.heap.size ≤ w5.heap.size := Nat.le_trans hz4 hbl.size; have z5 := Lib.hid (z4.out.below hbl (by omega)); have L35 := Lib.hid ((L34.out.below hbl).wide hbl.size); have L45 := Lib.hid ((L4.out.below hbl).wide hbl.size); clear hbl)
          | (refine upon_store (by rfl) (gx + 1 + 1) 0 _ (dCells DA (.slice G3 W1.length k3) (.slice G4 W2.length k4) rb DB) (by exact built_list DA DB D1.out D2.out _ _ _ _ _ _ _) Tryd.zeroCells32.toList 32 z5.out (HC.out _ _ _ _) (dCells_one _ _ _ _ _ _ _ _ _) ?_; intro w6 H6 F6; have BB := below_grown B5 F6.out (by omega) (Nat.le_refl _)))
      have h6 : Whole w6 (gx + 1 + 1) 32 (dCells DA (.slice G3 W1.length k3) (.slice G4 W2.length k4) rb DB).toArray := by
        have := H6.out
        rw [dCells_length D1.out D2.out, show Tryd.zeroCells32.toList.drop (0 + 67) = [] from by kernel_rfl, List.take_zero, List.nil_append, List.append_nil] at this
        exact this
      go_wp2
      refine bodyPost_ret (v := .agg (dCells DA (.slice G3 W1.length k3) (.slice G4 W2.length k4) rb DB).toArray) (results_cell_row rfl _ _ (gx + 1 + 1) 32 _ (0, 0) _ rfl h6 Tryd.underlying32 rfl (by rw [List.size_toArray]; exact HI.out _ _ _ _)) rfl ?_
      unfold OfPost
      rw [HL.out, onto_true, onto_true, onto_true, HDA.out, HDB.out, HW1.out, HW2.out]
      refine ⟨⟨G3, k3, G4, k4, rfl, lies_after L35.out F6.out (fun ad e _ => ?_), lies_after L45.out F6.out (fun ad e _ => ?_), fun ad e => ?_, fun ad e => ?_⟩, ?_⟩
      · have := N3.out ad e; omega
      · have := N4.out ad e; omega
      · have := N3.out ad e; rw [HGX.out]; omega
      · have := N4.out ad e; rw [HGX.out]; omega
      · rw [HGX.out]; exact HW.out.trans (BB.mono (by omega))
    · have d2 : decide (bb.length < ba.length) = false := by simpa using h2
      have hless : less fa ba fb bb = false := by simp [less, h1, h2]
      have HL := Lib.hid hless
      clear hless
      go_enter Tryd.func16, Tryd.ntmps16
      go_wp2_with fail
      have hx := (Whole.made w 24 #[Value.slice A fa.length c, Value.slice A' ba.length c', S ra]).block (.cells #[.slice B fb.length d, .slice B' bb.length d', S rb] 24) |>.block (.cells Tryd.zeroCells32 32)
      have hy := (Whole.made (w.alloc (.cells #[Value.slice A fa.length c, Value.slice A' ba.length c', S ra] 24)) 24 #[.slice B fb.length d, .slice B' bb.length d', S rb]).block (.cells Tryd.zeroCells32 32)
      have hz := Whole.made ((w.alloc (.cells #[Value.slice A fa.length c, Value.slice A' ba.length c', S ra] 24)).alloc (.cells #[.slice B fb.length d, .slice B' bb.length d', S rb] 24)) 32 Tryd.zeroCells32
      have hb : Below w.heap.size w (((w.alloc (.cells #[Value.slice A fa.length c, Value.slice A' ba.length c', S ra] 24)).alloc (.cells #[.slice B fb.length d, .slice B' bb.length d', S rb] 24)).alloc (.cells Tryd.zeroCells32 32)) := (((Below.refl _ _).alloc (Nat.le_refl _) _).alloc (by simp) _).alloc (by simp; omega) _
      rw [show (w.alloc (.cells #[Value.slice A fa.length c, Value.slice A' ba.length c', S ra] 24)).heap.size = w.heap.size + 1 by simp] at hy
      rw [show ((w.alloc (.cells #[Value.slice A fa.length c, Value.slice A' ba.length c', S ra] 24)).alloc (.cells #[.slice B fb.length d, .slice B' bb.length d', S rb] 24)).heap.size = w.heap.size + 1 + 1 by simp] at hz
      have c0 : _ = some (Value.slice A fa.length c) := hx.cell 0
      have c1 : _ = some (Value.slice A' ba.length c') := hx.cell 1
      have c2 : _ = some (S ra) := hx.cell 2
      have e0 : _ = some (Value.slice B fb.length d) := hy.cell 0
      have e1 : _ = some (Value.slice B' bb.length d') := hy.cell 1
      have e2 : _ = some (S rb) := hy.cell 2
      have HZ : Hid (Whole _ _ 32 Tryd.zeroCells32.toList.toArray) := Lib.hid (by simpa using hz)
      have HW := Lib.hid hb
      have hlz := hz.lt
      clear hx hy hz hb
      generalize ((w.alloc (.cells #[Value.slice A fa.length c, Value.slice A' ba.length c', S ra] 24)).alloc (.cells #[.slice B fb.length d, .slice B' bb.length d', S rb] 24)).alloc (.cells Tryd.zeroCells32 32) = w1 at *
      have C0 := Lib.hid c0
      have C1 := Lib.hid c1
      have C2 := Lib.hid c2
      have E0 := Lib.hid e0
      have E1 := Lib.hid e1
      have E2 := Lib.hid e2
      generalize hgx : w.heap.size = gx at *
      have HGX := Lib.hid hgx
      clear hgx
      have hL : ∀ (W : World) (G : Option Addr) (xs : List Value), Below (gx + 1 + 1) w1 W → Lies w gx G xs → Lies W W.heap.size G xs := fun W G xs hW h => ((h.below HW.out).below (hW.mono (by omega))).wide (by have := hW.size; omega)
      have f1 : ∀ W : World, Below (gx + 1 + 1) w1 W → Calls Tryd.prog 41 #[.agg #[Value.slice A fa.length c, Value.slice A' ba.length c', S ra]] W fun e w' => e = .returned (D32 (dig (imgB fa ba ra))) ∧ Below W.heap.size W w' := fun W hW => rimgSum_any W A A' c c' fa ba ra (hL W _ _ hW HA.out) (hL W _ _ hW HA'.out) hs
      have f2 : ∀ W : World, Below (gx + 1 + 1) w1 W → Calls Tryd.prog 41 #[.agg #[.slice B fb.length d, .slice B' bb.length d', S rb]] W fun e w' => e = .returned (D32 (dig (imgB fb bb rb))) ∧ Below W.heap.size W w' := fun W hW => rimgSum_any W B B' d d' fb bb rb (hL W _ _ hW HB.out) (hL W _ _ hW HB'.out) hs'
      have f3 : ∀ W : World, Below (gx + 1 + 1) w1 W → Calls Tryd.prog 42 #[Value.slice A fa.length c, .slice B fb.length d] W fun e w' => (∃ G k, e = .returned (.slice G (othersTo fa fb fb.length).length k) ∧ Lies w' w'.heap.size G (wCells (othersTo fa fb fb.length)) ∧ ∀ ad, G = some ad → W.heap.size ≤ ad.block) ∧ Below W.heap.size W w' := fun W hW => rothers_lies W A B c d fa fb (hL W _ _ hW HA.out) (hL W _ _ hW HB.out) (by omega) (by omega)
      have f4 : ∀ W : World, Below (gx + 1 + 1) w1 W → Calls Tryd.prog 42 #[Value.slice A' ba.length c', .slice B' bb.length d'] W fun e w' => (∃ G k, e = .returned (.slice G (othersTo ba bb bb.length).length k) ∧ Lies w' w'.heap.size G (wCells (othersTo ba bb bb.length)) ∧ ∀ ad, G = some ad → W.heap.size ≤ ad.block) ∧ Below W.heap.size W w' := fun W hW => rothers_lies W A' B' c' d' ba bb (hL W _ _ hW HA'.out) (hL W _ _ hW HB'.out) (by omega) (by omega)
      have F1 := Lib.hid f1
      have F2 := Lib.hid f2
      have F3 := Lib.hid f3
      have F4 := Lib.hid f4
      clear f1 f2 f3 f4 hL
      have D1 := Lib.hid (dig_length (imgB fa ba ra))
      have D2 := Lib.hid (dig_length (imgB fb bb rb))
      obtain ⟨DA, HDA⟩ : ∃ z, Hid (dig (imgB fa ba ra) = z) := ⟨_, Lib.hid rfl⟩
      obtain ⟨DB, HDB⟩ : ∃ z, Hid (dig (imgB fb bb rb) = z) := ⟨_, Lib.hid rfl⟩
      rw [HDA.out] at D1 F1
      rw [HDB.out] at D2 F2
      obtain ⟨W1, HW1⟩ : ∃ z, Hid (othersTo fa fb fb.length = z) := ⟨_, Lib.hid rfl⟩
      obtain ⟨W2, HW2⟩ : ∃ z, Hid (othersTo ba bb bb.length = z) := ⟨_, Lib.hid rfl⟩
      rw [HW1.out] at F3
      rw [HW2.out] at F4
      have o1 := D1.out
      have o2 := D2.out
      have HI : Hid (∀ G3 k3 G4 k4, (Tryd.prog.info? 32).map (·.size) = some (dCells DA (.slice G3 W1.length k3) (.slice G4 W2.length k4) rb DB).length) := Lib.hid (fun _ _ _ _ => by rw [dCells_length D1.out D2.out]; kernel_rfl)
      have HC : Hid (∀ G3 k3 G4 k4, 0 + (dCells DA (.slice G3 W1.length k3) (.slice G4 W2.length k4) rb DB).length ≤ Tryd.zeroCells32.toList.length) := Lib.hid (fun _ _ _ _ => by rw [dCells_length D1.out D2.out]; decide)
      go_region_held3 (fun w' => w'.cell? ⟨gx, 0, none⟩ = some (Value.slice A fa.length c) ∧ w'.cell? ⟨gx, 1, none⟩ = some (Value.slice A' ba.length c') ∧ w'.cell? ⟨gx, 2, none⟩ = some (S ra) ∧ w'.cell? ⟨gx + 1, 0, none⟩ = some (Value.slice B fb.length d) ∧ w'.cell? ⟨gx + 1, 1, none⟩ = some (Value.slice B' bb.length d') ∧ w'.cell? ⟨gx + 1, 2, none⟩ = some (S rb))
        (first
          | go_keep
          | (exact ⟨(BB.cell (p := ⟨gx, 0, none⟩) (by show gx < _; omega)).trans C0.out, (BB.cell (p := ⟨gx, 1, none⟩) (by show gx < _; omega)).trans C1.out, (BB.cell (p := ⟨gx, 2, none⟩) (by show gx < _; omega)).trans C2.out, (BB.cell (p := ⟨gx + 1, 0, none⟩) (by show gx + 1 < _; omega)).trans E0.out, (BB.cell (p := ⟨gx + 1, 1, none⟩) (by show gx + 1 < _; omega)).trans E1.out, (BB.cell (p := ⟨gx + 1, 2, none⟩) (by show gx + 1 < _; omega)).trans E2.out⟩))
        (first
          | (go_at_call_of 41 (Value.agg #[Value.slice A fa.length c, Value.slice A' ba.length c', S ra]); refine (F1.out _ ?_).mono ?_; (exact (Below.refl _ _).drew); rintro e w2 ⟨rfl, hbl⟩; have B2 : Below (gx + 1 + 1) w1 w2 := ((Below.refl _ _).drew).trans (hbl.mono (by show _ ≤ w1.heap.size; omega)); have BB := B2; have hz2 : w1.heap.size ≤ w2.heap.size := hbl.size; have z2 := Lib.hid (HZ.out.draw.below hbl hlz); clear hbl)
          | (go_at_call_of 42 (Value.slice B fb.length d); refine (F3.out _ ?_).mono ?_; (exact B2); rintro e w3 ⟨⟨G3, k3, rfl, l3, ge3⟩, hbl⟩; have N3 := Lib.hid ge3; clear ge3; have B3 : Below (gx + 1 + 1) w1 w3 := B2.trans (hbl.mono (by omega)); have BB := B3; have hz3 : w1.heap.size ≤ w3.heap.size := Nat.le_trans hz2 hbl.size; have z3 := Lib.hid (z2.out.below hbl (by omega)); have L3 := Lib.hid l3; clear hbl l3)
          | (go_at_call_of 42 (Value.slice B' bb.length d'); refine (F4.out _ ?_).mono ?_; (exact B3); rintro e w4 ⟨⟨G4, k4, rfl, l4, ge4⟩, hbl⟩; have N4 := Lib.hid ge4; clear ge4; have B4 : Below (gx + 1 + 1) w1 w4 := B3.trans (hbl.mono (by omega)); have BB := B4; have hz4 : w1.heap.size ≤ w4.heap.size := Nat.le_trans hz3 hbl.size; have z4 := Lib.hid (z3.out.below hbl (by omega)); have L34 := Lib.hid ((L3.out.below hbl).wide hbl.size); have L4 := Lib.hid l4; clear hbl l4)
          | (go_at_call_of 41 (Value.agg #[Value.slice B fb.length d, Value.slice B' bb.length d', S rb]); refine (F2.out _ ?_).mono ?_; (exact B4); rintro e w5 ⟨rfl, hbl⟩; have B5 : Below (gx + 1 + 1) w1 w5 := B4.trans (hbl.mono (by omega)); have BB := B5; have hz5 : w1.heap.size ≤ w5.heap.size := Nat.le_trans hz4 hbl.size; have z5 := Lib.hid (z4.out.below hbl (by omega)); have L35 := Lib.hid ((L34.out.below hbl).wide hbl.size); have L45 := Lib.hid ((L4.out.below hbl).wide hbl.size); clear hbl)
          | (refine upon_store (by rfl) (gx + 1 + 1) 0 _ (dCells DA (.slice G3 W1.length k3) (.slice G4 W2.length k4) rb DB) (by exact built_list DA DB D1.out D2.out _ _ _ _ _ _ _) Tryd.zeroCells32.toList 32 z5.out (HC.out _ _ _ _) (dCells_one _ _ _ _ _ _ _ _ _) ?_; intro w6 H6 F6; have BB := below_grown B5 F6.out (by omega) (Nat.le_refl _)))
      have h6 : Whole w6 (gx + 1 + 1) 32 (dCells DA (.slice G3 W1.length k3) (.slice G4 W2.length k4) rb DB).toArray := by
        have := H6.out
        rw [dCells_length D1.out D2.out, show Tryd.zeroCells32.toList.drop (0 + 67) = [] from by kernel_rfl, List.take_zero, List.nil_append, List.append_nil] at this
        exact this
      go_wp2
      refine bodyPost_ret (v := .agg (dCells DA (.slice G3 W1.length k3) (.slice G4 W2.length k4) rb DB).toArray) (results_cell_row rfl _ _ (gx + 1 + 1) 32 _ (0, 0) _ rfl h6 Tryd.underlying32 rfl (by rw [List.size_toArray]; exact HI.out _ _ _ _)) rfl ?_
      unfold OfPost
      rw [HL.out, onto_false, onto_false, onto_false, HDA.out, HDB.out, HW1.out, HW2.out]
      refine ⟨⟨G3, k3, G4, k4, rfl, lies_after L35.out F6.out (fun ad e _ => ?_), lies_after L45.out F6.out (fun ad e _ => ?_), fun ad e => ?_, fun ad e => ?_⟩, ?_⟩
      · have := N3.out ad e; omega
      · have := N4.out ad e; omega
      · have := N3.out ad e; rw [HGX.out]; omega
      · have := N4.out ad e; rw [HGX.out]; omega
      · rw [HGX.out]; exact HW.out.trans (BB.mono (by omega))
end Go.Proofs.YtecamaceainfpaaDoor
/-
  Walks: hibernacleref35.sameWrites, Same.
-/
namespace Go.Proofs.YtecamaceainfpaaDoor
open Go.RowKit

/-- a slice of writes -/
abbrev Wrs (w : World) (B : Nat) (A : Option Addr) (ws : List (Int × List UInt8)) : Prop := Lies w B A (wCells ws)
theorem wCells_at (ws : List (Int × List UInt8)) {k : Nat} (hk : k < ws.length) : (wCells ws)[k * 2]? = some (.int .i64 (ws.getD k (0, [])).1) ∧ (wCells ws)[k * 2 + 1]? = some (S (ws.getD k (0, [])).2) := by
  have e : ws = ws.take k ++ (ws[k] :: ws.drop (k + 1)) := by rw [List.getElem_cons_drop, List.take_append_drop]
  have hg : ws.getD k (0, []) = ws[k] := by simp [List.getD, hk]
  have hl : (wCells (ws.take k)).length = k * 2 := by rw [wCells_length, List.length_take]; omega
  rw [hg]
  constructor
  · conv => lhs; rw [e]
    rw [wCells_append, List.getElem?_append_right (by omega), hl, Nat.sub_self]; rfl
  · conv => lhs; rw [e]
    rw [wCells_append, List.getElem?_append_right (by omega), hl, show k * 2 + 1 - k * 2 = 1 by omega]; rfl
theorem Wrs.at' {w : World} {B k : Nat} {A : Option Addr} {ws : List (Int × List UInt8)} (h : Wrs w B A ws) (hk : k < ws.length) :
    ∃ ad, A = some ad ∧ ad.block < B ∧ w.cell? (ad.add (k * 2)) = some (.int .i64 (ws.getD k (0, [])).1) ∧ w.cell? ⟨(ad.add (k * 2)).block, (ad.add (k * 2)).off + 1, none⟩ = some (S (ws.getD k (0, [])).2) := by
  obtain ⟨h0, h1⟩ := wCells_at ws hk
  obtain ⟨ad, rfl, hb, c0⟩ := h _ _ h0
  obtain ⟨ad', e', _, c1⟩ := h _ _ h1
  obtain rfl : ad = ad' := by injection e'
  refine ⟨ad, rfl, hb, c0, ?_⟩
  rw [show (⟨(ad.add (k * 2)).block, (ad.add (k * 2)).off + 1, none⟩ : Addr) = ad.add (k * 2 + 1) by unfold Addr.add; by_cases h : k * 2 = 0 <;> simp [h, Nat.add_assoc]]
  exact c1
theorem add_block (a : Addr) (n : Nat) : (a.add n).block = a.block := by unfold Addr.add; split <;> rfl
theorem take_eq_of {α : Type} {a b : List α} (h : a.length = b.length) (he : a.take a.length = b.take a.length) : a = b := by
  rw [List.take_of_length_le (Nat.le_refl _), List.take_of_length_le (by omega)] at he; exact he

set_option maxRecDepth 100000 in
set_option maxHeartbeats 1000000 in
theorem sameWrites_any (w : World) (A B : Option Addr) (c d : Nat) (a b : List (Int × List UInt8)) (hA : Wrs w w.heap.size A a) (hB : Wrs w w.heap.size B b) (ha : a.length ≤ 1099511627776) (hb : b.length ≤ 1099511627776) :
    Calls Tryd.prog 39 #[.slice A a.length c, .slice B b.length d] w fun e w' => e = .returned (.bool (decide (a = b))) ∧ Below w.heap.size w w' := by
  have HA := Lib.hid hA
  have HB := Lib.hid hB
  clear hA hB
  by_cases hl : a.length = b.length
  · have n1 : ((a.length : Int) != (b.length : Int)) = false := by simp [hl]
    have n2 : (a.length != b.length) = false := by simp [hl]
    have HL := Lib.hid hl
    clear hl
    go_enter Tryd.func39, Tryd.ntmps39
    go_wp2_with fail
    clear n1 n2
    go_loopw [5] (fun i wr => ∃ k : Nat, k ≤ a.length ∧ i = .int .i64 k ∧ Hid (a.take k = b.take k) ∧ Hid (Below w.heap.size w wr)) (fun i _ => a.length - (intOf i).toNat)
    case atStart => exact ⟨0, by omega, rfl, Lib.hid rfl, Lib.hid (Below.refl _ _)⟩
    case round =>
      obtain ⟨k, hk, rfl, HE, HW⟩ := hrel
      by_cases hlt : k < a.length
      · have hltb : k < b.length := by rw [← HL.out]; exact hlt
        obtain ⟨ad, rfl, had, a0, a1⟩ := HA.out.at' hlt
        obtain ⟨bd, rfl, hbd, b0, b1⟩ := HB.out.at' hltb
        have a0' : wr.cell? (ad.add (k * 2)) = _ := (HW.out.cell (by rw [add_block]; exact had)).trans a0
        have a1' : wr.cell? ⟨(ad.add (k * 2)).block, (ad.add (k * 2)).off + 1, none⟩ = _ := (HW.out.cell (by show (ad.add (k * 2)).block < _; rw [add_block]; exact had)).trans a1
        have b0' : wr.cell? (bd.add (k * 2)) = _ := (HW.out.cell (by rw [add_block]; exact hbd)).trans b0
        have b1' : wr.cell? ⟨(bd.add (k * 2)).block, (bd.add (k * 2)).off + 1, none⟩ = _ := (HW.out.cell (by show (bd.add (k * 2)).block < _; rw [add_block]; exact hbd)).trans b1
        clear a0 a1 b0 b1
        have TA : Hid (a.take (k + 1) = a.take k ++ [a.getD k (0, [])]) := Lib.hid (by rw [List.take_succ_eq_append_getElem hlt]; simp [List.getD, hlt])
        have TB : Hid (b.take (k + 1) = b.take k ++ [b.getD k (0, [])]) := Lib.hid (by rw [List.take_succ_eq_append_getElem hltb]; simp [List.getD, hltb])
        have HN : Hid (a.getD k (0, []) ≠ b.getD k (0, []) → decide (a = b) = false) := Lib.hid (fun hne => by simp; rintro rfl; exact hne rfl)
        generalize a.getD k (0, []) = x at *
        generalize b.getD k (0, []) = y at *
        obtain ⟨x1, x2⟩ := x
        obtain ⟨y1, y2⟩ := y
        have i0 : (0 : Int) ≤ (k : Int) := by omega
        have i1 : (k : Int) < (a.length : Int) := by omega
        have i2 : (k : Int) < (b.length : Int) := by omega
        by_cases h1 : x1 = y1
        · subst h1
          by_cases h2 : x2 = y2
          · subst h2
            clear HN
            go_wp2_with fail
            go_quiet (fail)
            go_wp2_with fail
            go_roundw
            case rel =>
              have R : ∀ M : Nat, ∃ k' : Nat, k' ≤ a.length ∧ Value.int .i64 ((k : Int) + 1) = .int .i64 k' ∧ Hid (a.take k' = b.take k') ∧ Hid (Below w.heap.size w (wr.drewN M)) := fun M => ⟨k + 1, by omega, by go_num, Lib.hid (by rw [TA.out, TB.out, HE.out]), Lib.hid (Below.draws HW.out _)⟩
              first | exact R _ | ((repeat apply Exists.intro); exact ⟨R _, rfl⟩)
            case measure => simp [intOf]; omega
          · have hbe : (x2 == y2) = false := beq_eq_false_iff_ne.2 h2
            have HNN := Lib.hid (HN.out (fun e => h2 (by injection e)))
            clear HN
            go_wp2_with fail
            go_quiet (fail)
            go_wp2_with fail
            go_ret
            exact ⟨by rw [HNN.out]; rfl, Below.draws HW.out _⟩
        · have hbe : (x1 == y1) = false := beq_eq_false_iff_ne.2 h1
          have HNN := Lib.hid (HN.out (fun e => h1 (by injection e)))
          clear HN
          go_wp2_with fail
          go_quiet (fail)
          go_wp2_with fail
          go_ret
          exact ⟨by rw [HNN.out]; rfl, Below.draws HW.out _⟩
      · obtain rfl : k = a.length := by omega
        have hd : decide (a.length < a.length) = false := by simp
        have HQ : Hid (decide (a = b) = true) := Lib.hid (decide_eq_true (take_eq_of HL.out HE.out))
        go_wp2_with fail
        go_ret
        exact ⟨by rw [HQ.out]; rfl, HW.out⟩
  · have n1 : ((a.length : Int) != (b.length : Int)) = true := by simp; omega
    have n2 : (a.length != b.length) = true := by simp [hl]
    have HQ : Hid (decide (a = b) = false) := Lib.hid (by simp; rintro rfl; exact hl rfl)
    clear hl
    go_enter Tryd.func39, Tryd.ntmps39
    go_wp2_with fail
    go_ret
    exact ⟨by rw [HQ.out]; rfl, Below.refl _ _⟩

/-- cells of a part of a block that is known whole -/
theorem mid_cells {w : World} {g : Nat} {t : TypeId} {xs : List Value} (h : Whole w g t xs.toArray) (o : Nat) (cs : List Value) (hc : ∀ j v, cs[j]? = some v → xs[o + j]? = some v) : ∀ j v, cs[j]? = some v → w.cell? ((⟨g, o, none⟩ : Addr).add j) = some v := fun j v hv => by
  rw [show (⟨g, o, none⟩ : Addr).add j = ⟨g, o + j, none⟩ by unfold Addr.add; split <;> simp_all]
  rw [h.cell, List.getElem?_toArray]; exact hc j v hv
theorem dCells_from {f : List UInt8} (v1 v2 : Value) (r t : List UInt8) : ∀ j v, (f.map B8)[j]? = some v → (dCells f v1 v2 r t)[0 + j]? = some v := fun j v h => by
  rw [Nat.zero_add]; unfold dCells
  rw [List.getElem?_append_left (List.getElem?_eq_some_iff.1 h).1]; exact h
theorem dCells_to {f : List UInt8} (hf : f.length = 32) (v1 v2 : Value) (r t : List UInt8) : ∀ j v, (t.map B8)[j]? = some v → (dCells f v1 v2 r t)[35 + j]? = some v := fun j v h => by
  unfold dCells
  rw [List.getElem?_append_right (by simp [hf]; omega), List.length_map, hf, show 35 + j - 32 = j + 3 by omega]
  exact h
set_option maxRecDepth 100000 in
set_option maxHeartbeats 2000000 in
theorem same_true (w : World) (A B A' B' : Option Addr) (c d c' d' : Nat) (a b : List (Int × List UInt8)) (f t r : List UInt8) (hA : Wrs w w.heap.size A a) (hB : Wrs w w.heap.size B b) (hA' : Wrs w w.heap.size A' a) (hB' : Wrs w w.heap.size B' b)
    (ha : a.length ≤ 1099511627776) (hb : b.length ≤ 1099511627776) (hf : f.length = 32) (ht : t.length = 32) :
    Calls Tryd.prog 14 #[.agg (dCells f (.slice A a.length c) (.slice B b.length d) r t).toArray, .agg (dCells f (.slice A' a.length c') (.slice B' b.length d') r t).toArray] w fun e w' => e = .returned (.bool true) ∧ Below w.heap.size w w' := by
  have HA := Lib.hid hA
  have HB := Lib.hid hB
  have HA' := Lib.hid hA'
  have HB' := Lib.hid hB'
  clear hA hB hA' hB'
  have hX := (Whole.made w 32 (dCells f (.slice A a.length c) (.slice B b.length d) r t).toArray).block (.cells (dCells f (.slice A' a.length c') (.slice B' b.length d') r t).toArray 32)
  have hY := Whole.made (w.alloc (.cells (dCells f (.slice A a.length c) (.slice B b.length d) r t).toArray 32)) 32 (dCells f (.slice A' a.length c') (.slice B' b.length d') r t).toArray
  have hW : Below w.heap.size w ((w.alloc (.cells (dCells f (.slice A a.length c) (.slice B b.length d) r t).toArray 32)).alloc (.cells (dCells f (.slice A' a.length c') (.slice B' b.length d') r t).toArray 32)) := ((Below.refl _ _).alloc (Nat.le_refl _) _).alloc (by simp) _
  rw [show (w.alloc (.cells (dCells f (.slice A a.length c) (.slice B b.length d) r t).toArray 32)).heap.size = w.heap.size + 1 by simp] at hY
  have hl1 : (dCells f (.slice A a.length c) (.slice B b.length d) r t).toArray.size = 67 := by rw [List.size_toArray]; exact dCells_length hf ht _ _ _
  have hl2 : (dCells f (.slice A' a.length c') (.slice B' b.length d') r t).toArray.size = 67 := by rw [List.size_toArray]; exact dCells_length hf ht _ _ _
  have FX := Lib.hid (mid_cells hX 0 (f.map B8) (dCells_from _ _ _ _))
  have TX := Lib.hid (mid_cells hX 35 (t.map B8) (dCells_to hf _ _ _ _))
  have FY := Lib.hid (mid_cells hY 0 (f.map B8) (dCells_from _ _ _ _))
  have TY := Lib.hid (mid_cells hY 35 (t.map B8) (dCells_to hf _ _ _ _))
  have x1 : _ = some (Value.slice A a.length c) := (hX.cell 32).trans (by rw [List.getElem?_toArray]; exact dCells_32 hf _ _ _ _)
  have x2 : _ = some (Value.slice B b.length d) := (hX.cell 33).trans (by rw [List.getElem?_toArray]; exact dCells_33 hf _ _ _ _)
  have x3 : _ = some (S r) := (hX.cell 34).trans (by rw [List.getElem?_toArray]; exact dCells_34 hf _ _ _ _)
  have y1 : _ = some (Value.slice A' a.length c') := (hY.cell 32).trans (by rw [List.getElem?_toArray]; exact dCells_32 hf _ _ _ _)
  have y2 : _ = some (Value.slice B' b.length d') := (hY.cell 33).trans (by rw [List.getElem?_toArray]; exact dCells_33 hf _ _ _ _)
  have y3 : _ = some (S r) := (hY.cell 34).trans (by rw [List.getElem?_toArray]; exact dCells_34 hf _ _ _ _)
  have HIf : Hid ((Tryd.prog.info? 29).map (·.size) = some (f.map B8).length) := Lib.hid (by rw [List.length_map, hf]; kernel_rfl)
  have HIt : Hid ((Tryd.prog.info? 29).map (·.size) = some (t.map B8).length) := Lib.hid (by rw [List.length_map, ht]; kernel_rfl)
  have ef : ∀ W : World, (Op.equalIn 10000 29 (D32 f) (D32 f)).run Tryd.prog W = .ok true W := fun W => by rw [eqIn_D32 f f hf hf]; simp
  have et : ∀ W : World, (Op.equalIn 10000 29 (D32 t) (D32 t)).run Tryd.prog W = .ok true W := fun W => by rw [eqIn_D32 t t ht ht]; simp
  go_enter Tryd.func14, Tryd.ntmps14
  go_upto_region 1 with (fail)
  have hlw : w.heap.size + 1 < ((w.alloc (.cells (dCells f (.slice A a.length c) (.slice B b.length d) r t).toArray 32)).alloc (.cells (dCells f (.slice A' a.length c') (.slice B' b.length d') r t).toArray 32)).heap.size := hY.lt
  clear hX hY hl1 hl2
  generalize ((w.alloc (.cells (dCells f (.slice A a.length c) (.slice B b.length d) r t).toArray 32)).alloc (.cells (dCells f (.slice A' a.length c') (.slice B' b.length d') r t).toArray 32)) = w1 at *
  have HWB := Lib.hid hW
  have X1 := Lib.hid x1
  have X2 := Lib.hid x2
  have Y1 := Lib.hid y1
  have Y2 := Lib.hid y2
  clear hW hf ht
  generalize dCells f (.slice A a.length c) (.slice B b.length d) r t = zx at *
  generalize dCells f (.slice A' a.length c') (.slice B' b.length d') r t = zy at *
  go_wp2_with (first
    | (refine wpList_load_at rfl 29 (.tmp 5) rfl ⟨w.heap.size, 0, none⟩ rfl (f.map B8) _ FX.out Tryd.underlying29 rfl HIf.out ?_)
    | (refine wpList_load_at rfl 29 (.tmp 7) rfl ⟨w.heap.size + 1, 0, none⟩ rfl (f.map B8) _ FY.out Tryd.underlying29 rfl HIf.out ?_)
    | (refine wpList_load_g rfl 29 (.tmp 11) rfl ⟨w.heap.size, 35, none⟩ rfl (t.map B8) _ TX.out Tryd.underlying29 rfl HIt.out ?_)
    | (refine wpList_load_g rfl 29 (.tmp 13) rfl ⟨w.heap.size + 1, 35, none⟩ rfl (t.map B8) _ TY.out Tryd.underlying29 rfl HIt.out ?_))
  refine (sameWrites_any w1 A A' c c' a a ((HA.out.below HWB.out).wide HWB.out.size) ((HA'.out.below HWB.out).wide HWB.out.size) ha ha).mono ?_
  rintro e w2 ⟨rfl, hb2⟩
  rw [show decide (a = a) = true from by simp]
  have x2' : w2.cell? ⟨w.heap.size, 33, none⟩ = some (Value.slice B b.length d) := (hb2.cell (by show w.heap.size < _; omega)).trans X2.out
  have y2' : w2.cell? ⟨w.heap.size + 1, 33, none⟩ = some (Value.slice B' b.length d') := (hb2.cell (by show w.heap.size + 1 < _; omega)).trans Y2.out
  have HWB2 : Hid (Below w.heap.size w w2) := Lib.hid (HWB.out.trans (hb2.mono (by omega)))
  clear hb2 x1 x2 x3 y1 y2 y3
  go_wp2_with fail
  refine (sameWrites_any w2 B B' d d' b b ((HB.out.below HWB2.out).wide HWB2.out.size) ((HB'.out.below HWB2.out).wide HWB2.out.size) hb hb).mono ?_
  rintro e w3 ⟨rfl, hb3⟩
  rw [show decide (b = b) = true from by simp]
  have HWB3 : Hid (Below w.heap.size w w3) := Lib.hid (HWB2.out.trans (hb3.mono HWB2.out.size))
  clear hb3
  go_wp2_with fail
  go_ret
  exact ⟨rfl, HWB3.out⟩
end Go.Proofs.YtecamaceainfpaaDoor
