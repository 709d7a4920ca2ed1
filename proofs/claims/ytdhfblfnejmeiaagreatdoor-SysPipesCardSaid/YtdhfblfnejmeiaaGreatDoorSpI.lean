/-
  Walks: state.Take, Put, Open, Sweep where there is one pipe and one process. (Printed by gen_spi.py.)
-/
import Derived.Test.YtdhfblfnejmeiaaGreatDoorSpH
import Derived.Test.YtdhfblfnejmeiaaGreatDoorSureA
import Derived.Test.YtdhfblfnejmeiaaGreatDoorRowL
namespace Go.Proofs.YtdhfblfnejmeiaaGreatDoor
open Go.RowKit

/-- a region that makes a row and stores into a box, in either order: j makes it (slot s), q stores into the block h -/
def LoX (I C0 C1 : World → Prop) (j q s n h : Nat) (T : TypeId) (cs : List Value) (L : Nat → Bool) (a : Act) (W : World) : Prop :=
  I W ∧ (L q = false → C0 W) ∧ (L q = true → C1 W) ∧ (L j = true → ∃ g, a.eval (.tmp s) = .slice (some ⟨g, 0, none⟩) n n ∧ Whole W g T cs.toArray ∧ h < g)
section
variable {I C0 C1 : World → Prop} {j q s n h : Nat} {T : TypeId} {cs : List Value} {L : Nat → Bool} {a : Act} {W W' : World}
theorem LoX.init (h1 : I W) (h2 : C0 W) : LoX I C0 C1 j q s n h T cs (fun _ => false) a W := ⟨h1, fun _ => h2, fun e => (by cases e), fun e => (by cases e)⟩
theorem LoX.same (hX : LoX I C0 C1 j q s n h T cs L a W) {i : Nat} {d : Option Tmp} {v : Value} (hj : (i == j) = false) (hq : (i == q) = false) (hd : (d == some s) = false) : LoX I C0 C1 j q s n h T cs (also L i) (a.put d v) W := by
  have ej : j ≠ i := fun e => by subst e; simp at hj
  have eq : q ≠ i := fun e => by subst e; simp at hq
  unfold LoX
  rw [also_other ej, also_other eq, eval_put (beq_eq_false_iff_ne.1 hd)]
  exact hX
theorem LoX.made (hX : LoX I C0 C1 j q s n h T cs L a W) (hq : (j == q) = false) (hs : s < a.tmps.size) (hh : h < W.heap.size) (hI : I (W.alloc (.cells cs.toArray T))) (h0 : C0 W → C0 (W.alloc (.cells cs.toArray T))) (h1 : C1 W → C1 (W.alloc (.cells cs.toArray T))) : LoX I C0 C1 j q s n h T cs (also L j) (a.put (some s) (.slice (some ⟨W.heap.size, 0, none⟩) n n)) (W.alloc (.cells cs.toArray T)) := by
  have eq : q ≠ j := fun e => by subst e; simp at hq
  refine ⟨hI, fun e => h0 (hX.2.1 (by rwa [also_other eq] at e)), fun e => h1 (hX.2.2.1 (by rwa [also_other eq] at e)), fun _ => ⟨W.heap.size, ?_, Whole.made W T _, hh⟩⟩
  show (a.put (some s) _).tmps.getD s undef = _
  rw [Array.getD_eq_getD_getElem?, put_same _ _ _ hs]; rfl
theorem LoX.store (hX : LoX I C0 C1 j q s n h T cs L a W) (hq : (q == j) = false) (hI : I W') (h1 : C1 W') (hk : W.grownBy W' (some h)) : LoX I C0 C1 j q s n h T cs (also L q) (a.put none undef) W' := by
  have ej : j ≠ q := fun e => by subst e; simp at hq
  refine ⟨hI, fun e => (by rw [also_same] at e; cases e), fun _ => h1, fun e => ?_⟩
  obtain ⟨g, e1, e2, e3⟩ := hX.2.2.2 (by rwa [also_other ej] at e)
  exact ⟨g, e1, e2.other hk (by intro e; injection e with e; omega), e3⟩
end
theorem oper_store_all {P : Program} {o : Oper} {a : Act} {w : World} {K : Act → World → Prop} {Q : Exit → Act → World → Prop} (ty : TypeId) (x y : Operand) (ho : o.op = .store ty x y) (hdst : o.dst = none)
    (g : Nat) (hx : a.eval x = .pointer (some ⟨g, 0, none⟩)) (cs : List Value) (hy : a.eval y = .agg cs.toArray) (hi : (P.info? ty).map (·.size) = some cs.length)
    (cur : List Value) (t : TypeId) (hg : Whole w g t cur.toArray) (hfit : cs.length = cur.length) (h1 : ∀ v ∈ cs, v.oneCell' = true)
    (h : ∀ w', Whole w' g t cs.toArray → w.grownBy w' (some g) → K a w') : o.wp P a w K Q := by
  have hrun := run_storeVar_at w ty g 0 cs hi cur t hg (by omega) h1
  have e : cur.take 0 ++ (cs ++ cur.drop (0 + cs.length)) = cs := by rw [List.take_zero, List.nil_append, Nat.zero_add, hfit, List.drop_length, List.append_nil]
  rw [e] at hrun
  have hk := h _ (setRow_whole hg _) (setRow_only w g cs.toArray)
  unfold Oper.wp execOp
  simp only [ho, hx, hy, Instr.storeAt, Instr.sureAddr, Sem.run_bind, Sem.run_pure, Result.andThen_ok, hrun]
  simpa [Oper.upon, Act.put, hdst] using hk
theorem Tryz.infoMc : (Tryz.prog.info? 31).map (fun i => (i.zero, i.size)) = some (some (.agg zeroML.toArray), 17) := by kernel_rfl
/-- the blocks of a machine are there -/
theorem OM.old {w : World} {ok : Nat → Prop} {a : MA} {m : Mc} {p : Pr} {pb : Nat} {z : List Value} (h : OM w ok a m p pb z) : OM w (fun g => ok g ∧ g < w.heap.size) a m p pb z :=
  ⟨h.aP, h.pr, ⟨h.okp, h.pr.lt⟩, ⟨h.F.1, fun ad e => ⟨⟨(h.F.2 ad e).1, (h.F.2 ad e).2.2.lt⟩, (h.F.2 ad e).2⟩⟩, ⟨h.Q.1, fun ad e => ⟨⟨(h.Q.2 ad e).1, (h.Q.2 ad e).2.2.lt⟩, (h.Q.2 ad e).2⟩⟩, ⟨h.L.1, fun ad e => ⟨⟨(h.L.2 ad e).1, (h.L.2 ad e).2.2.lt⟩, (h.L.2 ad e).2⟩⟩, ⟨h.N.1, fun ad e => ⟨⟨(h.N.2 ad e).1, (h.N.2 ad e).2.2.lt⟩, (h.N.2 ad e).2⟩⟩, ⟨h.D.1, fun ad e => ⟨⟨(h.D.2 ad e).1, (h.D.2 ad e).2.2.lt⟩, (h.D.2 ad e).2⟩⟩, h.cap, h.one, h.qo⟩
theorem Typed.eq {w : World} {g : Nat} {ty ty' : TypeId} (h : Typed w g ty) (k : Typed w g ty') : ty' = ty := by
  obtain ⟨_, _, h⟩ := h
  obtain ⟨_, _, k⟩ := k
  rw [h] at k
  injection k with k; injection k with _ k
  exact k.symm
theorem Typed.keep' {w : World} {g : Nat} {ty : TypeId} (h : Typed w g ty) (q k : Nat) (v : Value) : Typed (w.setCell ⟨q, k, none⟩ v) g ty := by
  obtain ⟨cs, fr, h⟩ := h
  by_cases e : g = q
  · subst e
    refine ⟨cs.setIfInBounds k v, fr, ?_⟩
    have := (Array.getElem?_eq_some_iff.1 h)
    simp [World.setCell, Array.getElem?_modify, h]
  · exact Typed.keep ⟨cs, fr, h⟩ ((grown_setK w q k v).block _ (Typed.lt ⟨cs, fr, h⟩) (by intro e2; injection e2 with e2; exact e e2))
theorem OM.qsome {w : World} {ok : Nat → Prop} {a : MA} {m : Mc} {p : Pr} {pb : Nat} {z : List Value} (h : OM w ok a m p pb z) {q : Nb} (hq : m.pipes = [q]) : ∃ gq, a.Q = some ⟨gq, 0, none⟩ ∧ w.cell? ⟨gq, 1, none⟩ = some (S q.2) ∧ w.frozen? ⟨gq, 1, none⟩ = false := by
  have h1 := h.qo
  rw [hq] at h1
  rcases h1.2 with ⟨_, hx⟩ | ⟨g, cap, cur, e, _⟩
  · cases hx
  · injection e with e1 e2 e3
    rw [e1] at h1
    exact ⟨g, e1, h1.cellAt 1 (by simp), h1.frozenAt 1⟩
/-- the bytes in the pipe are others -/
theorem OM.qset {w : World} {ok : Nat → Prop} {a : MA} {m : Mc} {p : Pr} {pb gq : Nat} {z : List Value} (h : OM w ok a m p pb z) {q : Nb} (hq : m.pipes = [q]) (hQ : a.Q = some ⟨gq, 0, none⟩) (d : List UInt8) : OM (w.setCell ⟨gq, 1, none⟩ (S d)) ok a { m with pipes := [(q.1, d)] } p pb z := by
  have hx := h.Q.2 _ hQ
  have h1 := h.qo
  rw [hq, hQ] at h1
  have h2 := (h1.stored 1 (S d)).1
  have e : (nbCells [q]).set 1 (S d) = nbCells [(q.1, d)] := rfl
  rw [e] at h2
  have h3 := h.pipes (grown_setK w gq 1 (S d)) (X := some ⟨gq, 0, none⟩) (cx := a.cQ) (qs := [(q.1, d)]) (fun g ty e k => by injection e with e; subst e; exact hx.2.2.eq k) m.newPipe ⟨fun k v hv => by
      refine ⟨_, rfl, by simpa [World.setCell] using hx.2.2.lt, ?_⟩
      exact h2.cells rfl k v hv, fun ad e => by injection e with e; subst e; exact ⟨hx.1, hx.2.1, hx.2.2.keep' gq 1 (S d)⟩⟩ h2
  rw [← hQ] at h3
  exact h3
/-- a machine of its own, and a value -/
def OwnT (w : World) (m : Mc) (p : Pr) (v : Value) (e : Ending) (w' : World) : Prop := (∃ a pb z, e = .returned (.tuple #[.agg (mcL a m).toArray, v]) ∧ OM w' (fun g => w.heap.size ≤ g) a m p pb z) ∧ Below w.heap.size w w'
set_option maxRecDepth 100000 in
set_option maxHeartbeats 4000000 in
theorem stake_any (w : World) (a : MA) (m : Mc) (p : Pr) (q : Nb) (hG : Good m p) (hq : m.pipes = [q]) (hA : MAt w w.heap.size a m) (n : Nat) (hn : q.2.length ≤ n) (hn2 : n ≤ 128) :
    Calls Tryz.prog 118 #[.agg (mcL a m).toArray, .int .i64 q.1, .int .i64 (n : Int)] w (OwnT w { m with pipes := [(q.1, [])] } p (S q.2)) := by
  have HQ1 := Lib.hid hq
  have hpl : m.pipes.length ≤ 1099511627776 := by rw [hq]; simp
  clear hq
  have hs0 := (Whole.made w 31 (mcL a m).toArray).block (.cells #[.int .u64 0, .int .i64 0, .int .i64 0, .int .i64 0, .slice none 0 0, .slice none 0 0, .int .i64 0, S [], .slice none 0 0, .int .i64 0, S [], .bool false, .int .u64 0, .slice none 0 0, .slice none 0 0, .int .i64 0, .slice none 0 0] 31)
  have hs1 := Whole.made (w.alloc (.cells (mcL a m).toArray 31)) 31 #[.int .u64 0, .int .i64 0, .int .i64 0, .int .i64 0, .slice none 0 0, .slice none 0 0, .int .i64 0, S [], .slice none 0 0, .int .i64 0, S [], .bool false, .int .u64 0, .slice none 0 0, .slice none 0 0, .int .i64 0, .slice none 0 0]
  rw [show (w.alloc (.cells (mcL a m).toArray 31)).heap.size = w.heap.size + 1 by simp] at hs1
  have hb : Below w.heap.size w ((w.alloc (.cells (mcL a m).toArray 31)).alloc (.cells #[.int .u64 0, .int .i64 0, .int .i64 0, .int .i64 0, .slice none 0 0, .slice none 0 0, .int .i64 0, S [], .slice none 0 0, .int .i64 0, S [], .bool false, .int .u64 0, .slice none 0 0, .slice none 0 0, .int .i64 0, .slice none 0 0] 31)) := ((Below.refl _ _).alloc (by first | exact Nat.le_refl _ | simp | (simp; omega)) _).alloc (by first | exact Nat.le_refl _ | simp | (simp; omega)) _
  go_enter Tryz.func118, Tryz.ntmps118
  go_upto_region 1 with (fail)
  change Code.wp _ _ _ _ ((w.alloc (.cells (mcL a m).toArray 31)).alloc (.cells #[.int .u64 0, .int .i64 0, .int .i64 0, .int .i64 0, .slice none 0 0, .slice none 0 0, .int .i64 0, S [], .slice none 0 0, .int .i64 0, S [], .bool false, .int .u64 0, .slice none 0 0, .slice none 0 0, .int .i64 0, .slice none 0 0] 31))
  generalize ((w.alloc (.cells (mcL a m).toArray 31)).alloc (.cells #[.int .u64 0, .int .i64 0, .int .i64 0, .int .i64 0, .slice none 0 0, .slice none 0 0, .int .i64 0, S [], .slice none 0 0, .int .i64 0, S [], .bool false, .int .u64 0, .slice none 0 0, .slice none 0 0, .int .i64 0, .slice none 0 0] 31)) = w1 at *
  generalize hgx : w.heap.size = gx at *
  have HGX := Lib.hid hgx
  have HS0 := Lib.hid hs0
  have HS1 := Lib.hid hs1
  have HW := Lib.hid hb
  have hgl : gx + 1 < w1.heap.size := hs1.lt
  clear hgx hb hs0 hs1
  have HZ1 : Hid (Whole w1 (gx + 1) 31 zeroML.toArray) := Lib.hid HS1.out
  have LM := Lib.hid HS0.out.reads
  have MI : Hid ((Tryz.prog.info? 31).map (·.size) = some (mcL a m).length) := Lib.hid Tryz.sizeMc
  have CO := Lib.hid (ownm_any w1 a m p hG hpl ((hA.below HW.out).wide (by omega)))
  have HM := Lib.hid hG
  clear HS0 HS1 hA hG
  go_upto_region 1 with (fail)
  go_wp2_with (refine wpList_load_at rfl 31 (.tmp 3) rfl ⟨gx, 0, none⟩ rfl (mcL a m) _ LM.out Tryz.underlying31 rfl MI.out ?_)
  refine CO.out.mono ?_
  rintro e w2 ⟨⟨a2, pb, z, rfl, ho⟩, hb⟩
  obtain ⟨b1, hb1⟩ : ∃ b, b = w1.heap.size := ⟨_, rfl⟩
  rw [← hb1] at ho hgl hb
  have HO := Lib.hid (ho.old.below ((Below.refl w2.heap.size w2).alloc (Nat.le_refl _) (.cells (mcL a2 m).toArray 31)))
  have HR := Lib.hid (Whole.made w2 31 (mcL a2 m).toArray)
  have HZ := Lib.hid ((HZ1.out.below hb (by omega)).block (.cells (mcL a2 m).toArray 31))
  have HV := Lib.hid ((HW.out.trans (hb.mono (by omega))).alloc (by have := hb.size; omega) (.cells (mcL a2 m).toArray 31))
  have hs2 : b1 ≤ w2.heap.size := by rw [hb1]; exact hb.size
  clear ho hb CO LM MI HZ1 HW
  go_upto_region 2 with (refine wpList_fresh rfl rfl 31 8 (.tmp 12) rfl rfl rfl rfl (mcL a2 m) rfl rfl _ Tryz.infoMc rfl (mcL_one a2 m) ?_)
  change Code.wp _ _ _ _ (w2.alloc (.cells (mcL a2 m).toArray 31))
  clear hb1
  generalize w2.alloc (.cells (mcL a2 m).toArray 31) = w3 at *
  generalize w2.heap.size = g8 at *
  have LR := Lib.hid HR.out.reads
  have MI : Hid ((Tryz.prog.info? 31).map (·.size) = some (mcL a2 m).length) := Lib.hid Tryz.sizeMc
  have CP := Lib.hid (place_any w3 a2 m q HQ1.out HO.out.mat)
  go_wp2_with (refine wpList_load_at rfl 31 (.tmp 8) rfl ⟨g8, 0, none⟩ rfl (mcL a2 m) _ LR.out Tryz.underlying31 rfl MI.out ?_)
  refine CP.out.mono ?_
  rintro e w4 ⟨rfl, hb⟩
  have HO4 := Lib.hid (HO.out.below hb)
  have HR4 := Lib.hid (HR.out.below hb HR.out.lt)
  have HZ4 := Lib.hid (HZ.out.below hb HZ.out.lt)
  have HV4 := Lib.hid (HV.out.trans (hb.mono (by have := HR.out.lt; omega)))
  obtain ⟨gq, hQ, cq, yq⟩ := HO4.out.qsome HQ1.out
  have HQA := Lib.hid hQ
  have c8 : w4.cell? ⟨g8, 8, none⟩ = some (.slice (some ⟨gq, 0, none⟩) 1 a2.cQ) := (HR4.out.cell 8).trans (by
    show some (Value.slice a2.Q m.pipes.length a2.cQ) = _
    rw [hQ, HQ1.out]; rfl)
  clear hb CP LR hQ HO HR HZ HV
  go_upto_region 7 with (fail)
  have hmin : (if q.2.length < n then (q.2.length : Int) else (n : Int)) = (q.2.length : Int) := by split <;> omega
  rw [hmin]
  clear hmin c8 cq yq
  have C8 : Hid (∀ W, Below w4.heap.size w4 W → W.cell? ⟨g8, 8, none⟩ = some (.slice (some ⟨gq, 0, none⟩) 1 a2.cQ)) := Lib.hid fun W hS => ((HR4.out.below hS HR4.out.lt).cell 8).trans (by
    show some (Value.slice a2.Q m.pipes.length a2.cQ) = _
    rw [HQA.out, HQ1.out]; rfl)
  have r2 := fun W => run_from_S q.2 .i64 (q.2.length : Int) q.2.length rfl (Nat.le_refl _) W
  rw [List.drop_length] at r2
  have HNO : Hid (q.2.length ≤ 128) := Lib.hid (by omega)
  have HS4 : Hid (gx + 1 < w4.heap.size ∧ b1 ≤ gq) := Lib.hid ⟨HZ4.out.lt, (HO4.out.Q.2 _ HQA.out).1.1⟩
  refine' wp_region_sure (by kernel_rfl) (fun W => Below w4.heap.size w4 W) 8 [_, _, _, _, _, _, _, _] [some 30, some 31, some 32, some 33, some 34, some 35, some 36, some 37] (by kernel_rfl) (by kernel_rfl) (by kernel_rfl) (by kernel_rfl) rfl (Below.refl _ _).drew ?hs1
  case hs1 =>
    refine sure_cons ?_ ?_
    · intro L ac W K hed hJ hS hK
      have hA8 : ac.eval (.tmp 8) = .pointer (some ⟨g8, 0, none⟩) := hJ.eval_old 8 (by kernel_rfl)
      clear hed hJ
      refine opStep_of rfl ?_
      unfold Oper.wp execOp
      have hN8 := evalN hA8
      go_simp
      exact hK _ hS
    refine sure_cons ?_ ?_
    · intro L ac W K hed hJ hS hK
      have hn := needs_spec (l := [0]) (by kernel_rfl) hed
      have hA30 := hJ.eval 0 (d := 30) (hn 0 (by simp)) rfl rfl rfl
      clear hed hJ hn
      refine opStep_of rfl ?_
      have cc := C8.out W hS
      unfold Oper.wp execOp
      have hN30 := evalN hA30
      go_simp
      exact hK _ hS
    refine sure_cons ?_ ?_
    · intro L ac W K hed hJ hS hK
      have hA9 : ac.eval (.tmp 9) = .int .i64 0 := hJ.eval_old 9 (by kernel_rfl)
      clear hed hJ
      refine opStep_of rfl ?_
      unfold Oper.wp execOp
      have hN9 := evalN hA9
      go_simp
      exact hK _ hS
    refine sure_cons ?_ ?_
    · intro L ac W K hed hJ hS hK
      have hA10 : ac.eval (.tmp 10) = S q.2 := hJ.eval_old 10 (by kernel_rfl)
      clear hed hJ
      refine opStep_of rfl ?_
      unfold Oper.wp execOp
      have hN10 := evalN hA10
      go_simp
      exact hK _ hS
    refine sure_cons ?_ ?_
    · intro L ac W K hed hJ hS hK
      have hA2 : ac.eval (.tmp 2) = .int .i64 (q.2.length : Int) := hJ.eval_old 2 (by kernel_rfl)
      clear hed hJ
      refine opStep_of rfl ?_
      unfold Oper.wp execOp
      have hN2 := evalN hA2
      go_simp
      exact hK _ hS
    refine sure_cons ?_ ?_
    · intro L ac W K hed hJ hS hK
      have hn := needs_spec (l := [3, 4]) (by kernel_rfl) hed
      have hA33 := hJ.eval 3 (d := 33) (hn 3 (by simp)) rfl rfl rfl
      have hA34 := hJ.eval 4 (d := 34) (hn 4 (by simp)) rfl rfl rfl
      clear hed hJ hn
      refine opStep_of rfl ?_
      unfold Oper.wp execOp
      have hN33 := evalN hA33
      have hN34 := evalN hA34
      go_simp
      exact hK _ hS
    refine sure_cons ?_ ?_
    · intro L ac W K hed hJ hS hK
      have hn := needs_spec (l := [1, 2]) (by kernel_rfl) hed
      have hA31 := hJ.eval 1 (d := 31) (hn 1 (by simp)) rfl rfl rfl
      have hA32 := hJ.eval 2 (d := 32) (hn 2 (by simp)) rfl rfl rfl
      clear hed hJ hn
      refine opStep_of rfl ?_
      unfold Oper.wp execOp
      have hN31 := evalN hA31
      have hN32 := evalN hA32
      go_simp
      exact hK _ hS
    refine sure_cons ?_ ?_
    · intro L ac W K hed hJ hS hK
      have hn := needs_spec (l := [6]) (by kernel_rfl) hed
      have hA36 := hJ.eval 6 (d := 36) (hn 6 (by simp)) rfl rfl rfl
      clear hed hJ hn
      refine opStep_of rfl ?_
      unfold Oper.wp execOp
      have hN36 := evalN hA36
      go_simp
      exact hK _ hS
    refine sure_nil ?_
    intro W hS
    simp only [putAll, Act.put, List.setIfInBounds_toArray, List.set_cons_zero, List.set_cons_succ]
    have HO5 := Lib.hid (HO4.out.below hS)
    have HR5 := Lib.hid (HR4.out.below hS HR4.out.lt)
    have HZ5 := Lib.hid (HZ4.out.below hS HZ4.out.lt)
    have HV5 := Lib.hid (HV4.out.trans (hS.mono (by have := HS4.out.1; omega)))
    obtain ⟨gq', hQ', cq, yq⟩ := HO5.out.qsome HQ1.out
    have hgg : gq' = gq := by rw [HQA.out] at hQ'; injection hQ' with hQ'; injection hQ' with hQ'; exact hQ'.symm
    subst hgg
    have HO6 := Lib.hid (HO5.out.qset HQ1.out HQA.out [])
    have hne : g8 ≠ gq' := by have : gq' < g8 := (HO5.out.Q.2 _ HQA.out).1.2; omega
    have HR6 := Lib.hid (HR5.out.far (p := ⟨gq', 1, none⟩) hne (S []))
    have HZ6 := Lib.hid (HZ5.out.far (p := ⟨gq', 1, none⟩) (by show gx + 1 ≠ gq'; have := HS4.out.2; omega) (S []))
    have HV6 := Lib.hid (HV5.out.setCell (p := ⟨gq', 1, none⟩) (by show gx ≤ gq'; have := HS4.out.2; omega) (S []))
    clear hS hQ' HO5 HR5 HZ5 HV5 hne HO4 HR4 HZ4 HV4 C8
    go_upto_region 8 with (fail)
    clear cq yq
    generalize W.setCell ⟨gq', 1, none⟩ (S []) = w6 at *
    have HEQ : Hid (mcL a2 m = mcL a2 { m with pipes := [(q.1, [])] }) := Lib.hid (by unfold mcL; rw [HQ1.out]; rfl)
    clear HQ1
    have r3 := fun W => run_to_S q.2 .i64 (q.2.length : Int) q.2.length rfl (Nat.le_refl _) W
    rw [List.take_length] at r3
    refine' wp_region_sureX (by kernel_rfl) (LoX (fun W => Below gx w W ∧ Whole W g8 31 (mcL a2 m).toArray ∧ OM W (fun g => b1 ≤ g ∧ g < g8) a2 { m with pipes := [(q.1, [])] } p pb z ∧ gx + 1 < W.heap.size) (fun W => Whole W (gx + 1) 31 zeroML.toArray) (fun W => Whole W (gx + 1) 31 (mcL a2 m).toArray) 99 4 0 0 (gx + 1) 5 []) 5 [some _, some _, some _, some _, some undef] [some 38, some 39, some 40, some 41, none] (by kernel_rfl) (by kernel_rfl) (by kernel_rfl) (by kernel_rfl) rfl (LoX.init ⟨HV6.out.drew, HR6.out.below (Below.refl w6.heap.size w6).drew HR6.out.lt, HO6.out.below (Below.refl w6.heap.size w6).drew, Nat.lt_of_lt_of_le HZ6.out.lt ((Below.refl w6.heap.size w6).drew).size⟩ (HZ6.out.below (Below.refl w6.heap.size w6).drew HZ6.out.lt)) ?hs2
    case hs2 =>
      refine sureX_cons ?_ ?_
      · intro L ac W K hLi hed hJ hX hK
        have hA8 : ac.eval (.tmp 8) = .pointer (some ⟨g8, 0, none⟩) := hJ.eval_old 8 (by kernel_rfl)
        have hsz := Lib.hid hJ.size
        have hI := hX.1
        clear hLi hed hJ
        refine opStep_of rfl ?_
        refine oper_load_at 31 (.tmp 8) rfl ⟨g8, 0, none⟩ hA8 (mcL a2 m) _ hI.2.1.reads Tryz.underlying31 rfl MI.out ?_
        refine hK _ _ ?_ (hX.same rfl rfl rfl)
        exact Knows.known _
      refine sureX_cons ?_ ?_
      · intro L ac W K hLi hed hJ hX hK
        have hA10 : ac.eval (.tmp 10) = S q.2 := hJ.eval_old 10 (by kernel_rfl)
        have hsz := Lib.hid hJ.size
        have hI := hX.1
        clear hLi hed hJ
        refine opStep_of rfl ?_
        unfold Oper.wp execOp
        have hN10 := evalN hA10
        go_simp
        refine hK _ _ ?_ (hX.same rfl rfl rfl)
        exact Knows.known _
      refine sureX_cons ?_ ?_
      · intro L ac W K hLi hed hJ hX hK
        have hA2 : ac.eval (.tmp 2) = .int .i64 (q.2.length : Int) := hJ.eval_old 2 (by kernel_rfl)
        have hsz := Lib.hid hJ.size
        have hI := hX.1
        clear hLi hed hJ
        refine opStep_of rfl ?_
        unfold Oper.wp execOp
        have hN2 := evalN hA2
        go_simp
        refine hK _ _ ?_ (hX.same rfl rfl rfl)
        exact Knows.known _
      refine sureX_cons ?_ ?_
      · intro L ac W K hLi hed hJ hX hK
        have hn := needs_spec (l := [1, 2]) (by kernel_rfl) hed
        have hA39 := hJ.eval 1 (d := 39) (hn 1 (by simp)) rfl rfl rfl
        have hA40 := hJ.eval 2 (d := 40) (hn 2 (by simp)) rfl rfl rfl
        have hsz := Lib.hid hJ.size
        have hI := hX.1
        clear hLi hed hJ hn
        refine opStep_of rfl ?_
        unfold Oper.wp execOp
        have hN39 := evalN hA39
        have hN40 := evalN hA40
        go_simp
        refine hK _ _ ?_ (hX.same rfl rfl rfl)
        exact Knows.known _
      refine sureX_cons ?_ ?_
      · intro L ac W K hLi hed hJ hX hK
        have hn := needs_spec (l := [0]) (by kernel_rfl) hed
        have hA6 : ac.eval (.tmp 6) = .pointer (some ⟨gx + 1, 0, none⟩) := hJ.eval_old 6 (by kernel_rfl)
        have hA38 := hJ.eval 0 (d := 38) (hn 0 (by simp)) rfl rfl rfl
        have hsz := Lib.hid hJ.size
        have hI := hX.1
        have hC := hX.2.1 hLi
        clear hLi hed hJ hn
        refine opStep_of rfl ?_
        refine oper_store_all 31 (.tmp 6) (.tmp 38) rfl rfl (gx + 1) hA6 (mcL a2 m) hA38 MI.out zeroML 31 hC rfl (mcL_one a2 m) ?_
        intro wf hwf hkf
        exact hK undef wf (Knows.known _) (hX.store rfl ⟨hI.1.grown hkf (by have := hI.1.size; have := HGX.out; omega) (fun q e => by injection e with e; omega), hI.2.1.other hkf (by intro e; injection e with e; omega), hI.2.2.1.other hkf (by omega), Nat.lt_of_lt_of_le hI.2.2.2 hkf.size⟩ hwf hkf)
      refine sureX_nil ?_
      intro L ac W hL hX ha
      have hI := hX.1
      have hC := hX.2.2.1 (hL 4 (by omega))
      rw [ha]
      simp only [mendAll, Option.getD_some, Option.map_some, putAll, Act.put, List.setIfInBounds_toArray, List.set_cons_zero, List.set_cons_succ]
      clear ha hX hL
      have HB9 := Lib.hid hI.1
      have HO9 := Lib.hid hI.2.2.1
      have HC9 := Lib.hid hC
      clear hI hC
      go_wp2_with fail
      refine bodyPost_ret (v := .tuple #[.agg (mcL a2 m).toArray, S q.2]) (results_cell_tmp rfl _ _ (gx + 1) 31 _ _ (0, 0) _ rfl rfl HC9.out Tryz.underlying31 rfl (by rw [List.size_toArray]; exact MI.out)) rfl ?_
      exact ⟨⟨a2, pb, z, by rw [HEQ.out], HO9.out.mono (fun g hg => by have := HGX.out; omega)⟩, by rw [HGX.out]; exact HB9.out⟩
set_option maxRecDepth 100000 in
set_option maxHeartbeats 4000000 in
theorem sput_any (w : World) (a : MA) (m : Mc) (p : Pr) (q : Nb) (hG : Good m p) (hq : m.pipes = [q]) (hA : MAt w w.heap.size a m) (d : List UInt8) (hd : q.2.length + d.length ≤ 64) :
    Calls Tryz.prog 124 #[.agg (mcL a m).toArray, .int .i64 q.1, S d] w (OwnT w { m with pipes := [(q.1, q.2 ++ d)] } p (.int .i64 (d.length : Int))) := by
  have HQ1 := Lib.hid hq
  have hpl : m.pipes.length ≤ 1099511627776 := by rw [hq]; simp
  clear hq
  have hs0 := (Whole.made w 31 (mcL a m).toArray).block (.cells #[.int .u64 0, .int .i64 0, .int .i64 0, .int .i64 0, .slice none 0 0, .slice none 0 0, .int .i64 0, S [], .slice none 0 0, .int .i64 0, S [], .bool false, .int .u64 0, .slice none 0 0, .slice none 0 0, .int .i64 0, .slice none 0 0] 31)
  have hs1 := Whole.made (w.alloc (.cells (mcL a m).toArray 31)) 31 #[.int .u64 0, .int .i64 0, .int .i64 0, .int .i64 0, .slice none 0 0, .slice none 0 0, .int .i64 0, S [], .slice none 0 0, .int .i64 0, S [], .bool false, .int .u64 0, .slice none 0 0, .slice none 0 0, .int .i64 0, .slice none 0 0]
  rw [show (w.alloc (.cells (mcL a m).toArray 31)).heap.size = w.heap.size + 1 by simp] at hs1
  have hb : Below w.heap.size w ((w.alloc (.cells (mcL a m).toArray 31)).alloc (.cells #[.int .u64 0, .int .i64 0, .int .i64 0, .int .i64 0, .slice none 0 0, .slice none 0 0, .int .i64 0, S [], .slice none 0 0, .int .i64 0, S [], .bool false, .int .u64 0, .slice none 0 0, .slice none 0 0, .int .i64 0, .slice none 0 0] 31)) := ((Below.refl _ _).alloc (by first | exact Nat.le_refl _ | simp | (simp; omega)) _).alloc (by first | exact Nat.le_refl _ | simp | (simp; omega)) _
  go_enter Tryz.func124, Tryz.ntmps124
  go_upto_region 1 with (fail)
  change Code.wp _ _ _ _ ((w.alloc (.cells (mcL a m).toArray 31)).alloc (.cells #[.int .u64 0, .int .i64 0, .int .i64 0, .int .i64 0, .slice none 0 0, .slice none 0 0, .int .i64 0, S [], .slice none 0 0, .int .i64 0, S [], .bool false, .int .u64 0, .slice none 0 0, .slice none 0 0, .int .i64 0, .slice none 0 0] 31))
  generalize ((w.alloc (.cells (mcL a m).toArray 31)).alloc (.cells #[.int .u64 0, .int .i64 0, .int .i64 0, .int .i64 0, .slice none 0 0, .slice none 0 0, .int .i64 0, S [], .slice none 0 0, .int .i64 0, S [], .bool false, .int .u64 0, .slice none 0 0, .slice none 0 0, .int .i64 0, .slice none 0 0] 31)) = w1 at *
  generalize hgx : w.heap.size = gx at *
  have HGX := Lib.hid hgx
  have HS0 := Lib.hid hs0
  have HS1 := Lib.hid hs1
  have HW := Lib.hid hb
  have hgl : gx + 1 < w1.heap.size := hs1.lt
  clear hgx hb hs0 hs1
  have HZ1 : Hid (Whole w1 (gx + 1) 31 zeroML.toArray) := Lib.hid HS1.out
  have LM := Lib.hid HS0.out.reads
  have MI : Hid ((Tryz.prog.info? 31).map (·.size) = some (mcL a m).length) := Lib.hid Tryz.sizeMc
  have CO := Lib.hid (ownm_any w1 a m p hG hpl ((hA.below HW.out).wide (by omega)))
  have HM := Lib.hid hG
  clear HS0 HS1 hA hG
  go_upto_region 1 with (fail)
  go_wp2_with (refine wpList_load_at rfl 31 (.tmp 3) rfl ⟨gx, 0, none⟩ rfl (mcL a m) _ LM.out Tryz.underlying31 rfl MI.out ?_)
  refine CO.out.mono ?_
  rintro e w2 ⟨⟨a2, pb, z, rfl, ho⟩, hb⟩
  obtain ⟨b1, hb1⟩ : ∃ b, b = w1.heap.size := ⟨_, rfl⟩
  rw [← hb1] at ho hgl hb
  have HO := Lib.hid (ho.old.below ((Below.refl w2.heap.size w2).alloc (Nat.le_refl _) (.cells (mcL a2 m).toArray 31)))
  have HR := Lib.hid (Whole.made w2 31 (mcL a2 m).toArray)
  have HZ := Lib.hid ((HZ1.out.below hb (by omega)).block (.cells (mcL a2 m).toArray 31))
  have HV := Lib.hid ((HW.out.trans (hb.mono (by omega))).alloc (by have := hb.size; omega) (.cells (mcL a2 m).toArray 31))
  have hs2 : b1 ≤ w2.heap.size := by rw [hb1]; exact hb.size
  clear ho hb CO LM MI HZ1 HW
  go_upto_region 2 with (refine wpList_fresh rfl rfl 31 8 (.tmp 12) rfl rfl rfl rfl (mcL a2 m) rfl rfl _ Tryz.infoMc rfl (mcL_one a2 m) ?_)
  change Code.wp _ _ _ _ (w2.alloc (.cells (mcL a2 m).toArray 31))
  clear hb1
  generalize w2.alloc (.cells (mcL a2 m).toArray 31) = w3 at *
  generalize w2.heap.size = g8 at *
  have LR := Lib.hid HR.out.reads
  have MI : Hid ((Tryz.prog.info? 31).map (·.size) = some (mcL a2 m).length) := Lib.hid Tryz.sizeMc
  have CP := Lib.hid (place_any w3 a2 m q HQ1.out HO.out.mat)
  go_wp2_with (refine wpList_load_at rfl 31 (.tmp 8) rfl ⟨g8, 0, none⟩ rfl (mcL a2 m) _ LR.out Tryz.underlying31 rfl MI.out ?_)
  refine CP.out.mono ?_
  rintro e w4 ⟨rfl, hb⟩
  have HO4 := Lib.hid (HO.out.below hb)
  have HR4 := Lib.hid (HR.out.below hb HR.out.lt)
  have HZ4 := Lib.hid (HZ.out.below hb HZ.out.lt)
  have HV4 := Lib.hid (HV.out.trans (hb.mono (by have := HR.out.lt; omega)))
  obtain ⟨gq, hQ, cq, yq⟩ := HO4.out.qsome HQ1.out
  have HQA := Lib.hid hQ
  have c8 : w4.cell? ⟨g8, 8, none⟩ = some (.slice (some ⟨gq, 0, none⟩) 1 a2.cQ) := (HR4.out.cell 8).trans (by
    show some (Value.slice a2.Q m.pipes.length a2.cQ) = _
    rw [hQ, HQ1.out]; rfl)
  clear hb CP LR hQ HO HR HZ HV
  go_upto_region 6 with (fail)
  clear c8 cq yq
  have C8 : Hid (∀ W, Below w4.heap.size w4 W → W.cell? ⟨g8, 8, none⟩ = some (.slice (some ⟨gq, 0, none⟩) 1 a2.cQ)) := Lib.hid fun W hS => ((HR4.out.below hS HR4.out.lt).cell 8).trans (by
    show some (Value.slice a2.Q m.pipes.length a2.cQ) = _
    rw [HQA.out, HQ1.out]; rfl)
  have CQ : Hid (∀ W, Below w4.heap.size w4 W → W.cell? ⟨gq, 1, none⟩ = some (S q.2)) := Lib.hid fun W hS => by
    obtain ⟨gq', hQ', cq, yq⟩ := (HO4.out.below hS).qsome HQ1.out
    rw [HQA.out] at hQ'; injection hQ' with hQ'; injection hQ' with hQ'; rw [hQ']; exact cq
  have r2 := fun W => run_to_S d .i64 (d.length : Int) d.length rfl (Nat.le_refl _) W
  rw [List.take_length] at r2
  have hcat : ¬ (9223372036854775807 < q.2.length + d.length) := by omega
  have HS4 : Hid (gx + 1 < w4.heap.size ∧ b1 ≤ gq) := Lib.hid ⟨HZ4.out.lt, (HO4.out.Q.2 _ HQA.out).1.1⟩
  clear hd
  refine' wp_region_sure (by kernel_rfl) (fun W => Below w4.heap.size w4 W) 12 [_, _, _, _, _, _, _, _, _, S (q.2 ++ d), _, _] [some 31, some 32, some 33, some 34, some 35, some 36, some 37, some 38, some 39, some 40, some 41, some 42] (by kernel_rfl) (by kernel_rfl) (by kernel_rfl) (by kernel_rfl) rfl (Below.refl _ _).drew ?hs1
  case hs1 =>
    refine sure_cons ?_ ?_
    · intro L ac W K hed hJ hS hK
      have hA8 : ac.eval (.tmp 8) = .pointer (some ⟨g8, 0, none⟩) := hJ.eval_old 8 (by kernel_rfl)
      clear hed hJ
      refine opStep_of rfl ?_
      unfold Oper.wp execOp
      have hN8 := evalN hA8
      go_simp
      exact hK _ hS
    refine sure_cons ?_ ?_
    · intro L ac W K hed hJ hS hK
      have hn := needs_spec (l := [0]) (by kernel_rfl) hed
      have hA31 := hJ.eval 0 (d := 31) (hn 0 (by simp)) rfl rfl rfl
      clear hed hJ hn
      refine opStep_of rfl ?_
      have cc := C8.out W hS
      unfold Oper.wp execOp
      have hN31 := evalN hA31
      go_simp
      exact hK _ hS
    refine sure_cons ?_ ?_
    · intro L ac W K hed hJ hS hK
      have hA9 : ac.eval (.tmp 9) = .int .i64 0 := hJ.eval_old 9 (by kernel_rfl)
      clear hed hJ
      refine opStep_of rfl ?_
      unfold Oper.wp execOp
      have hN9 := evalN hA9
      go_simp
      exact hK _ hS
    refine sure_cons ?_ ?_
    · intro L ac W K hed hJ hS hK
      have hn := needs_spec (l := [1, 2]) (by kernel_rfl) hed
      have hA32 := hJ.eval 1 (d := 32) (hn 1 (by simp)) rfl rfl rfl
      have hA33 := hJ.eval 2 (d := 33) (hn 2 (by simp)) rfl rfl rfl
      clear hed hJ hn
      refine opStep_of rfl ?_
      unfold Oper.wp execOp
      have hN32 := evalN hA32
      have hN33 := evalN hA33
      go_simp
      exact hK _ hS
    refine sure_cons ?_ ?_
    · intro L ac W K hed hJ hS hK
      have hn := needs_spec (l := [3]) (by kernel_rfl) hed
      have hA34 := hJ.eval 3 (d := 34) (hn 3 (by simp)) rfl rfl rfl
      clear hed hJ hn
      refine opStep_of rfl ?_
      unfold Oper.wp execOp
      have hN34 := evalN hA34
      go_simp
      exact hK _ hS
    refine sure_cons ?_ ?_
    · intro L ac W K hed hJ hS hK
      have hn := needs_spec (l := [4]) (by kernel_rfl) hed
      have hA35 := hJ.eval 4 (d := 35) (hn 4 (by simp)) rfl rfl rfl
      clear hed hJ hn
      refine opStep_of rfl ?_
      have cc := CQ.out W hS
      unfold Oper.wp execOp
      have hN35 := evalN hA35
      go_simp
      exact hK _ hS
    refine sure_cons ?_ ?_
    · intro L ac W K hed hJ hS hK
      have hA2 : ac.eval (.tmp 2) = S d := hJ.eval_old 2 (by kernel_rfl)
      clear hed hJ
      refine opStep_of rfl ?_
      unfold Oper.wp execOp
      have hN2 := evalN hA2
      go_simp
      exact hK _ hS
    refine sure_cons ?_ ?_
    · intro L ac W K hed hJ hS hK
      have hA10 : ac.eval (.tmp 10) = .int .i64 (d.length : Int) := hJ.eval_old 10 (by kernel_rfl)
      clear hed hJ
      refine opStep_of rfl ?_
      unfold Oper.wp execOp
      have hN10 := evalN hA10
      go_simp
      exact hK _ hS
    refine sure_cons ?_ ?_
    · intro L ac W K hed hJ hS hK
      have hn := needs_spec (l := [6, 7]) (by kernel_rfl) hed
      have hA37 := hJ.eval 6 (d := 37) (hn 6 (by simp)) rfl rfl rfl
      have hA38 := hJ.eval 7 (d := 38) (hn 7 (by simp)) rfl rfl rfl
      clear hed hJ hn
      refine opStep_of rfl ?_
      unfold Oper.wp execOp
      have hN37 := evalN hA37
      have hN38 := evalN hA38
      go_simp
      exact hK _ hS
    refine sure_cons ?_ ?_
    · intro L ac W K hed hJ hS hK
      have hn := needs_spec (l := [5, 8]) (by kernel_rfl) hed
      have hA36 := hJ.eval 5 (d := 36) (hn 5 (by simp)) rfl rfl rfl
      have hA39 := hJ.eval 8 (d := 39) (hn 8 (by simp)) rfl rfl rfl
      clear hed hJ hn
      refine opStep_of rfl ?_
      unfold Oper.wp execOp
      have hN36 := evalN hA36
      have hN39 := evalN hA39
      go_simp
      exact hK _ hS
    refine sure_cons ?_ ?_
    · intro L ac W K hed hJ hS hK
      have hn := needs_spec (l := [1, 2]) (by kernel_rfl) hed
      have hA32 := hJ.eval 1 (d := 32) (hn 1 (by simp)) rfl rfl rfl
      have hA33 := hJ.eval 2 (d := 33) (hn 2 (by simp)) rfl rfl rfl
      clear hed hJ hn
      refine opStep_of rfl ?_
      unfold Oper.wp execOp
      have hN32 := evalN hA32
      have hN33 := evalN hA33
      go_simp
      exact hK _ hS
    refine sure_cons ?_ ?_
    · intro L ac W K hed hJ hS hK
      have hn := needs_spec (l := [10]) (by kernel_rfl) hed
      have hA41 := hJ.eval 10 (d := 41) (hn 10 (by simp)) rfl rfl rfl
      clear hed hJ hn
      refine opStep_of rfl ?_
      unfold Oper.wp execOp
      have hN41 := evalN hA41
      go_simp
      exact hK _ hS
    refine sure_nil ?_
    intro W hS
    simp only [putAll, Act.put, List.setIfInBounds_toArray, List.set_cons_zero, List.set_cons_succ]
    have HO5 := Lib.hid (HO4.out.below hS)
    have HR5 := Lib.hid (HR4.out.below hS HR4.out.lt)
    have HZ5 := Lib.hid (HZ4.out.below hS HZ4.out.lt)
    have HV5 := Lib.hid (HV4.out.trans (hS.mono (by have := HS4.out.1; omega)))
    obtain ⟨gq', hQ', cq, yq⟩ := HO5.out.qsome HQ1.out
    have hgg : gq' = gq := by rw [HQA.out] at hQ'; injection hQ' with hQ'; injection hQ' with hQ'; exact hQ'.symm
    subst hgg
    have HO6 := Lib.hid (HO5.out.qset HQ1.out HQA.out (q.2 ++ d))
    have hne : g8 ≠ gq' := by have : gq' < g8 := (HO5.out.Q.2 _ HQA.out).1.2; omega
    have HR6 := Lib.hid (HR5.out.far (p := ⟨gq', 1, none⟩) hne (S (q.2 ++ d)))
    have HZ6 := Lib.hid (HZ5.out.far (p := ⟨gq', 1, none⟩) (by show gx + 1 ≠ gq'; have := HS4.out.2; omega) (S (q.2 ++ d)))
    have HV6 := Lib.hid (HV5.out.setCell (p := ⟨gq', 1, none⟩) (by show gx ≤ gq'; have := HS4.out.2; omega) (S (q.2 ++ d)))
    clear hS hQ' HO5 HR5 HZ5 HV5 hne HO4 HR4 HZ4 HV4 C8 CQ
    go_upto_region 7 with (fail)
    clear cq yq
    generalize W.setCell ⟨gq', 1, none⟩ (S (q.2 ++ d)) = w6 at *
    have HEQ : Hid (mcL a2 m = mcL a2 { m with pipes := [(q.1, q.2 ++ d)] }) := Lib.hid (by unfold mcL; rw [HQ1.out]; rfl)
    clear HQ1
    have LR := Lib.hid HR6.out.reads
    have hz6 : gx + 1 < w6.heap.size := HZ6.out.lt
    go_wp2_with (first
      | (refine wpList_load_at rfl 31 (.tmp 8) rfl ⟨g8, 0, none⟩ rfl (mcL a2 m) _ LR.out Tryz.underlying31 rfl MI.out ?_)
      | (refine wpList_store_all rfl 31 (.tmp 6) (.tmp 43) rfl rfl (gx + 1) rfl (mcL a2 m) rfl MI.out zeroML 31 HZ6.out rfl (mcL_one a2 m) ?_; intro wz hw hk))
    refine bodyPost_ret (v := .tuple #[.agg (mcL a2 m).toArray, .int .i64 (d.length : Int)]) (results_cell_tmp rfl _ _ (gx + 1) 31 _ _ (0, 0) _ rfl rfl hw.out Tryz.underlying31 rfl (by rw [List.size_toArray]; exact MI.out)) rfl ?_
    exact ⟨⟨a2, pb, z, by rw [HEQ.out], (HO6.out.other hk.out (by omega)).mono (fun g hg => by have := HGX.out; omega)⟩, by rw [HGX.out]; exact HV6.out.grown hk.out (by omega) (fun q e => by injection e with e; omega)⟩
set_option maxRecDepth 100000 in
set_option maxHeartbeats 2000000 in
theorem sweepc_any (w : World) (a : MA) (m : Mc) (p : Pr) (q : Nb) (g : Nat) (hG : Good m p) (hA : MAt w w.heap.size a m) (LM : ∀ j v, (mcL a m)[j]? = some v → w.cell? ((⟨g, 0, none⟩ : Addr).add j) = some v) (hgw : g < w.heap.size) (he : endsF p.fds q.1 4 ≠ 0) :
    Calls Tryz.prog 107 #[.agg (nbCells1 q).toArray, .pointer (some ⟨g, 0, none⟩)] w fun e w' => e = .returned (.bool false) ∧ Below w.heap.size w w' := by
  have hs0 := Whole.made w 73 (nbCells1 q).toArray
  have hb : Below w.heap.size w (w.alloc (.cells (nbCells1 q).toArray 73)) := (Below.refl _ _).alloc (Nat.le_refl _) _
  go_enter Tryz.func107, Tryz.ntmps107
  go_upto_region 1 with (fail)
  change Code.wp _ _ _ _ (w.alloc (.cells (nbCells1 q).toArray 73))
  generalize (w.alloc (.cells (nbCells1 q).toArray 73)) = w1 at *
  generalize hgx : w.heap.size = gx at *
  have HGX := Lib.hid hgx
  have HS0 := Lib.hid hs0
  have HW := Lib.hid hb
  have hgl : gx < w1.heap.size := hs0.lt
  clear hgx hb hs0
  have MI : Hid ((Tryz.prog.info? 31).map (·.size) = some (mcL a m).length) := Lib.hid Tryz.sizeMc
  have LM1 : Hid (∀ j v, (mcL a m)[j]? = some v → w1.cell? ((⟨g, 0, none⟩ : Addr).add j) = some v) := Lib.hid fun j v h => (HW.out.cell (p := (⟨g, 0, none⟩ : Addr).add j) (by rw [add_block]; exact hgw)).trans (LM j v h)
  have CE := Lib.hid (sends_any w1 a m p hG ((hA.below HW.out).wide (by omega)) q.1)
  have c0 : w1.cell? ⟨gx, 0, none⟩ = some (.int .i64 q.1) := HS0.out.cell 0
  have he' : ((endsF p.fds q.1 4 : Int) == 0) = false := beq_eq_false_iff_ne.2 (by omega)
  have HE := Lib.hid he'
  clear LM hA hG he he'
  go_wp2_with (refine wpList_load_at rfl 31 (.tmp 1) rfl ⟨g, 0, none⟩ rfl (mcL a m) _ LM1.out Tryz.underlying31 rfl MI.out ?_)
  refine CE.out.mono ?_
  rintro e w2 ⟨rfl, hb2⟩
  have HW2 := Lib.hid (HW.out.trans (hb2.mono (by omega)))
  have he := HE.out
  clear hb2 CE
  go_wp2_with fail
  go_ret
  exact ⟨rfl, by rw [HGX.out]; exact HW2.out⟩
set_option maxRecDepth 100000 in
set_option maxHeartbeats 2000000 in
theorem idxn_any (w : World) (a : MA) (m : Mc) (p : Pr) (q : Nb) (g : Nat) (A : Option Addr) (c : Nat) (hX : Lies w w.heap.size A (nbCells [q])) (hG : Good m p) (hA : MAt w w.heap.size a m) (LM : ∀ j v, (mcL a m)[j]? = some v → w.cell? ((⟨g, 0, none⟩ : Addr).add j) = some v) (hgw : g < w.heap.size) (he : endsF p.fds q.1 4 ≠ 0) :
    Calls Tryz.prog 158 #[.slice A 1 c, .func (.func 107) #[] #[.pointer (some ⟨g, 0, none⟩)]] w fun e w' => e = .returned (.int .i64 (-1)) ∧ Below w.heap.size w w' := by
  obtain ⟨ad, rfl, had, hc⟩ := Lies.row (f := nbCells1) (n := 2) (l := [q]) (by simpa [nbCells] using hX) (fun y hy => rfl) (by omega) (k := 0) rfl
  have LD : Hid (∀ j v, (nbCells1 q)[j]? = some v → w.cell? (ad.add j) = some v) := Lib.hid fun j v h => by
    have := hc j v h
    rwa [show ad.add (0 * 2) = ad by unfold Addr.add; simp] at this
  have PI : Hid ((Tryz.prog.info? 73).map (·.size) = some (nbCells1 q).length) := Lib.hid (by kernel_rfl)
  have CP := Lib.hid (sweepc_any w a m p q g hG hA LM hgw he)
  clear hX hc hA LM he hG
  go_enter Tryz.func158, Tryz.ntmps158
  go_wp2_with fail
  go_loopw [8] (fun i wr => (i = .int .i64 0 ∧ wr = w) ∨ (i = .int .i64 1 ∧ Hid (Below w.heap.size w wr))) (fun i _ => 1 - (intOf i).toNat)
  case atStart => exact .inl ⟨rfl, rfl⟩
  case round =>
    rcases hrel with ⟨rfl, hwe⟩ | ⟨rfl, HV⟩
    · obtain rfl := hwe.symm
      go_wp2_with (refine wpList_load_at rfl 73 (.tmp 14) rfl ad rfl (nbCells1 q) _ LD.out Tryz.underlying73 rfl PI.out ?_)
      refine CP.out.mono ?_
      rintro e w1 ⟨rfl, hb1⟩
      have HB := Lib.hid hb1
      clear hb1 LD CP
      go_wp2_with fail
      go_roundw
      case rel =>
        have R : (Value.int .i64 1 = .int .i64 0 ∧ w1 = w) ∨ (Value.int .i64 1 = .int .i64 1 ∧ Hid (Below w.heap.size w w1)) := .inr ⟨rfl, HB⟩
        first | exact R | ((repeat apply Exists.intro); exact ⟨R, rfl⟩)
      case measure => simp [intOf]
    · go_wp2_with fail
      go_ret
      exact ⟨rfl, HV.out⟩
set_option maxRecDepth 100000 in
set_option maxHeartbeats 2000000 in
theorem deln_any (w : World) (a : MA) (m : Mc) (p : Pr) (q : Nb) (g : Nat) (A : Option Addr) (c : Nat) (hX : Lies w w.heap.size A (nbCells [q])) (hG : Good m p) (hA : MAt w w.heap.size a m) (LM : ∀ j v, (mcL a m)[j]? = some v → w.cell? ((⟨g, 0, none⟩ : Addr).add j) = some v) (hgw : g < w.heap.size) (he : endsF p.fds q.1 4 ≠ 0) :
    Calls Tryz.prog 106 #[.slice A 1 c, .func (.func 107) #[] #[.pointer (some ⟨g, 0, none⟩)]] w fun e w' => e = .returned (.slice A 1 c) ∧ Below w.heap.size w w' := by
  have CP := Lib.hid (idxn_any w a m p q g A c hX hG hA LM hgw he)
  clear hX hA LM he hG
  go_enter Tryz.func106, Tryz.ntmps106
  go_wp2_with fail
  refine CP.out.mono ?_
  rintro e w1 ⟨rfl, hb1⟩
  have HB := Lib.hid hb1
  clear hb1 CP
  go_wp2_with fail
  go_ret
  exact ⟨rfl, HB.out⟩
set_option maxRecDepth 100000 in
set_option maxHeartbeats 4000000 in
theorem ssweep_any (w : World) (a : MA) (m : Mc) (p : Pr) (q : Nb) (hG : Good m p) (hq : m.pipes = [q]) (hA : MAt w w.heap.size a m) (he : endsF p.fds q.1 4 ≠ 0) :
    Calls Tryz.prog 65 #[.agg (mcL a m).toArray] w (OwnP w m p) := by
  have HQ1 := Lib.hid hq
  have hpl : m.pipes.length ≤ 1099511627776 := by rw [hq]; simp
  have HE := Lib.hid he
  clear hq he
  have hs0 := (Whole.made w 31 (mcL a m).toArray).block (.cells #[.int .u64 0, .int .i64 0, .int .i64 0, .int .i64 0, .slice none 0 0, .slice none 0 0, .int .i64 0, S [], .slice none 0 0, .int .i64 0, S [], .bool false, .int .u64 0, .slice none 0 0, .slice none 0 0, .int .i64 0, .slice none 0 0] 31)
  have hs1 := Whole.made (w.alloc (.cells (mcL a m).toArray 31)) 31 #[.int .u64 0, .int .i64 0, .int .i64 0, .int .i64 0, .slice none 0 0, .slice none 0 0, .int .i64 0, S [], .slice none 0 0, .int .i64 0, S [], .bool false, .int .u64 0, .slice none 0 0, .slice none 0 0, .int .i64 0, .slice none 0 0]
  rw [show (w.alloc (.cells (mcL a m).toArray 31)).heap.size = w.heap.size + 1 by simp] at hs1
  have hb : Below w.heap.size w ((w.alloc (.cells (mcL a m).toArray 31)).alloc (.cells #[.int .u64 0, .int .i64 0, .int .i64 0, .int .i64 0, .slice none 0 0, .slice none 0 0, .int .i64 0, S [], .slice none 0 0, .int .i64 0, S [], .bool false, .int .u64 0, .slice none 0 0, .slice none 0 0, .int .i64 0, .slice none 0 0] 31)) := ((Below.refl _ _).alloc (by first | exact Nat.le_refl _ | simp | (simp; omega)) _).alloc (by first | exact Nat.le_refl _ | simp | (simp; omega)) _
  go_enter Tryz.func65, Tryz.ntmps65
  go_upto_region 1 with (fail)
  change Code.wp _ _ _ _ ((w.alloc (.cells (mcL a m).toArray 31)).alloc (.cells #[.int .u64 0, .int .i64 0, .int .i64 0, .int .i64 0, .slice none 0 0, .slice none 0 0, .int .i64 0, S [], .slice none 0 0, .int .i64 0, S [], .bool false, .int .u64 0, .slice none 0 0, .slice none 0 0, .int .i64 0, .slice none 0 0] 31))
  generalize ((w.alloc (.cells (mcL a m).toArray 31)).alloc (.cells #[.int .u64 0, .int .i64 0, .int .i64 0, .int .i64 0, .slice none 0 0, .slice none 0 0, .int .i64 0, S [], .slice none 0 0, .int .i64 0, S [], .bool false, .int .u64 0, .slice none 0 0, .slice none 0 0, .int .i64 0, .slice none 0 0] 31)) = w1 at *
  generalize hgx : w.heap.size = gx at *
  have HGX := Lib.hid hgx
  have HS0 := Lib.hid hs0
  have HS1 := Lib.hid hs1
  have HW := Lib.hid hb
  have hgl : gx + 1 < w1.heap.size := hs1.lt
  clear hgx hb hs0 hs1
  have HZ1 : Hid (Whole w1 (gx + 1) 31 zeroML.toArray) := Lib.hid HS1.out
  have LM := Lib.hid HS0.out.reads
  have MI : Hid ((Tryz.prog.info? 31).map (·.size) = some (mcL a m).length) := Lib.hid Tryz.sizeMc
  have CO := Lib.hid (ownm_any w1 a m p hG hpl ((hA.below HW.out).wide (by omega)))
  have HM := Lib.hid hG
  have HA1 := Lib.hid ((hA.below HW.out).wide (B' := w1.heap.size) (by omega))
  have HSM := Lib.hid HS0.out
  clear HS0 HS1 hA hG
  go_upto_region 1 with (fail)
  go_wp2_with (refine wpList_load_at rfl 31 (.tmp 1) rfl ⟨gx, 0, none⟩ rfl (mcL a m) _ LM.out Tryz.underlying31 rfl MI.out ?_)
  refine CO.out.mono ?_
  rintro e w2 ⟨⟨a2, pb, z, rfl, ho⟩, hb⟩
  obtain ⟨b1, hb1⟩ : ∃ b, b = w1.heap.size := ⟨_, rfl⟩
  rw [← hb1] at ho hgl hb
  have HO := Lib.hid (ho.old.below ((Below.refl w2.heap.size w2).alloc (Nat.le_refl _) (.cells (mcL a2 m).toArray 31)))
  have HR := Lib.hid (Whole.made w2 31 (mcL a2 m).toArray)
  have HZ := Lib.hid ((HZ1.out.below hb (by omega)).block (.cells (mcL a2 m).toArray 31))
  have HV := Lib.hid ((HW.out.trans (hb.mono (by omega))).alloc (by have := hb.size; omega) (.cells (mcL a2 m).toArray 31))
  have hs2 : b1 ≤ w2.heap.size := by rw [hb1]; exact hb.size
  have HA3 := Lib.hid (((HA1.out.below (hb1 ▸ hb)).wide (B' := w2.heap.size) (hb1 ▸ hs2)).below ((Below.refl w2.heap.size w2).alloc (Nat.le_refl _) (.cells (mcL a2 m).toArray 31)) |>.wide (B' := w2.heap.size + 1) (by omega))
  have HSM3 := Lib.hid ((HSM.out.below hb (by omega)).block (.cells (mcL a2 m).toArray 31))
  clear ho hb CO LM MI HZ1 HW HA1 HSM
  go_upto_region 2 with (refine wpList_fresh rfl rfl 31 3 (.tmp 5) rfl rfl rfl rfl (mcL a2 m) rfl rfl _ Tryz.infoMc rfl (mcL_one a2 m) ?_)
  change Code.wp _ _ _ _ (w2.alloc (.cells (mcL a2 m).toArray 31))
  clear hb1
  generalize w2.alloc (.cells (mcL a2 m).toArray 31) = w3 at *
  generalize w2.heap.size = g8 at *
  have CD := Lib.hid (deln_any w3 a m p q gx a2.Q a2.cQ (by have := HO.out.Q.1; rwa [HQ1.out] at this) HM.out (HA3.out.wide (by have := HR.out.lt; omega)) HSM3.out.reads HSM3.out.lt HE.out)
  have c8 : w3.cell? ⟨g8, 8, none⟩ = some (.slice a2.Q 1 a2.cQ) := (HR.out.cell 8).trans (by
    show some (Value.slice a2.Q m.pipes.length a2.cQ) = _
    rw [HQ1.out]; rfl)
  clear HA3 HSM3
  go_wp2_with fail
  refine CD.out.mono ?_
  rintro e w4 ⟨rfl, hb⟩
  have HO4 := Lib.hid (HO.out.below hb)
  have HR4 := Lib.hid (HR.out.below hb HR.out.lt)
  have HZ4 := Lib.hid (HZ.out.below hb HZ.out.lt)
  have HV4 := Lib.hid (HV.out.trans (hb.mono (by have := HR.out.lt; omega)))
  have HS8 : Hid ((mcL a2 m).set 8 (.slice a2.Q 1 a2.cQ) = mcL a2 m) := Lib.hid (by unfold mcL; rw [HQ1.out]; rfl)
  have HR5 : Hid (Whole (w4.setCell ⟨g8, 8, none⟩ (.slice a2.Q 1 a2.cQ)) g8 31 (mcL a2 m).toArray) := Lib.hid (by
    have := HR4.out.set 8 (.slice a2.Q 1 a2.cQ)
    rwa [List.setIfInBounds_toArray, HS8.out] at this)
  have HO5 := Lib.hid (HO4.out.other (grown_setK w4 g8 8 (.slice a2.Q 1 a2.cQ)) (by omega))
  have HZ5 := Lib.hid (HZ4.out.far (p := ⟨g8, 8, none⟩) (by show gx + 1 ≠ g8; omega) (.slice a2.Q 1 a2.cQ))
  have HV5 := Lib.hid (HV4.out.setCell (p := ⟨g8, 8, none⟩) (by show gx ≤ g8; omega) (.slice a2.Q 1 a2.cQ))
  have c8 : w4.cell? ⟨g8, 8, none⟩ = some (.slice a2.Q 1 a2.cQ) := (hb.cell (p := ⟨g8, 8, none⟩) (by have := HR.out.lt; exact this)).trans c8
  have y8 := HR4.out.free 8
  clear hb CD HO HR HZ HV HO4 HR4 HZ4 HV4 HS8
  go_upto_region 3 with (fail)
  clear c8 y8
  generalize w4.setCell ⟨g8, 8, none⟩ (.slice a2.Q 1 a2.cQ) = w5 at *
  have MI : Hid ((Tryz.prog.info? 31).map (·.size) = some (mcL a2 m).length) := Lib.hid Tryz.sizeMc
  have LR := Lib.hid HR5.out.reads
  have hz6 : gx + 1 < w5.heap.size := HZ5.out.lt
  go_wp2_with (first
    | (refine wpList_load_at rfl 31 (.tmp 3) rfl ⟨g8, 0, none⟩ rfl (mcL a2 m) _ LR.out Tryz.underlying31 rfl MI.out ?_)
    | (refine wpList_store_all rfl 31 (.tmp 2) (.tmp 11) rfl rfl (gx + 1) rfl (mcL a2 m) rfl MI.out zeroML 31 HZ5.out rfl (mcL_one a2 m) ?_; intro wz hw hk))
  refine bodyPost_ret (v := .agg (mcL a2 m).toArray) (results_cell_row rfl _ _ (gx + 1) 31 _ (0, 0) _ rfl hw.out Tryz.underlying31 rfl (by rw [List.size_toArray]; exact MI.out)) rfl ?_
  exact ⟨⟨a2, pb, z, rfl, (HO5.out.other hk.out (by omega)).mono (fun g hg => by have := HGX.out; omega)⟩, by rw [HGX.out]; exact HV5.out.grown hk.out (by omega) (fun q e => by injection e with e; omega)⟩
set_option maxRecDepth 100000 in
set_option maxHeartbeats 4000000 in
theorem sopen_any (w : World) (a : MA) (m : Mc) (p : Pr) (hG : Good m p) (hA : MAt w w.heap.size a m) (hpl0 : m.pipes.length ≤ 1000) (hnp : m.newPipe < 1000000000) :
    Calls Tryz.prog 87 #[.agg (mcL a m).toArray] w (OwnT w { m with pipes := m.pipes ++ [(m.newPipe, [])], newPipe := m.newPipe + 1 } p (.int .i64 m.newPipe)) := by
  have HNP := Lib.hid hnp
  have HNI := Lib.hid hG.mc.newPipe
  have HPL := Lib.hid hpl0
  have hpl : m.pipes.length ≤ 1099511627776 := by omega
  clear hpl0 hnp
  have hs0 := (Whole.made w 31 (mcL a m).toArray).block (.cells #[.int .u64 0, .int .i64 0, .int .i64 0, .int .i64 0, .slice none 0 0, .slice none 0 0, .int .i64 0, S [], .slice none 0 0, .int .i64 0, S [], .bool false, .int .u64 0, .slice none 0 0, .slice none 0 0, .int .i64 0, .slice none 0 0] 31)
  have hs1 := Whole.made (w.alloc (.cells (mcL a m).toArray 31)) 31 #[.int .u64 0, .int .i64 0, .int .i64 0, .int .i64 0, .slice none 0 0, .slice none 0 0, .int .i64 0, S [], .slice none 0 0, .int .i64 0, S [], .bool false, .int .u64 0, .slice none 0 0, .slice none 0 0, .int .i64 0, .slice none 0 0]
  rw [show (w.alloc (.cells (mcL a m).toArray 31)).heap.size = w.heap.size + 1 by simp] at hs1
  have hb : Below w.heap.size w ((w.alloc (.cells (mcL a m).toArray 31)).alloc (.cells #[.int .u64 0, .int .i64 0, .int .i64 0, .int .i64 0, .slice none 0 0, .slice none 0 0, .int .i64 0, S [], .slice none 0 0, .int .i64 0, S [], .bool false, .int .u64 0, .slice none 0 0, .slice none 0 0, .int .i64 0, .slice none 0 0] 31)) := ((Below.refl _ _).alloc (by first | exact Nat.le_refl _ | simp | (simp; omega)) _).alloc (by first | exact Nat.le_refl _ | simp | (simp; omega)) _
  go_enter Tryz.func87, Tryz.ntmps87
  go_upto_region 1 with (fail)
  change Code.wp _ _ _ _ ((w.alloc (.cells (mcL a m).toArray 31)).alloc (.cells #[.int .u64 0, .int .i64 0, .int .i64 0, .int .i64 0, .slice none 0 0, .slice none 0 0, .int .i64 0, S [], .slice none 0 0, .int .i64 0, S [], .bool false, .int .u64 0, .slice none 0 0, .slice none 0 0, .int .i64 0, .slice none 0 0] 31))
  generalize ((w.alloc (.cells (mcL a m).toArray 31)).alloc (.cells #[.int .u64 0, .int .i64 0, .int .i64 0, .int .i64 0, .slice none 0 0, .slice none 0 0, .int .i64 0, S [], .slice none 0 0, .int .i64 0, S [], .bool false, .int .u64 0, .slice none 0 0, .slice none 0 0, .int .i64 0, .slice none 0 0] 31)) = w1 at *
  generalize hgx : w.heap.size = gx at *
  have HGX := Lib.hid hgx
  have HS0 := Lib.hid hs0
  have HS1 := Lib.hid hs1
  have HW := Lib.hid hb
  have hgl : gx + 1 < w1.heap.size := hs1.lt
  clear hgx hb hs0 hs1
  have HZ1 : Hid (Whole w1 (gx + 1) 31 zeroML.toArray) := Lib.hid HS1.out
  have LM := Lib.hid HS0.out.reads
  have MI : Hid ((Tryz.prog.info? 31).map (·.size) = some (mcL a m).length) := Lib.hid Tryz.sizeMc
  have CO := Lib.hid (ownm_any w1 a m p hG hpl ((hA.below HW.out).wide (by omega)))
  have HM := Lib.hid hG
  clear HS0 HS1 hA hG
  go_upto_region 1 with (fail)
  go_wp2_with (refine wpList_load_at rfl 31 (.tmp 1) rfl ⟨gx, 0, none⟩ rfl (mcL a m) _ LM.out Tryz.underlying31 rfl MI.out ?_)
  refine CO.out.mono ?_
  rintro e w2 ⟨⟨a2, pb, z, rfl, ho⟩, hb⟩
  obtain ⟨b1, hb1⟩ : ∃ b, b = w1.heap.size := ⟨_, rfl⟩
  rw [← hb1] at ho hgl hb
  have HO := Lib.hid (ho.old.below ((Below.refl w2.heap.size w2).alloc (Nat.le_refl _) (.cells (mcL a2 m).toArray 31)))
  have HR := Lib.hid (Whole.made w2 31 (mcL a2 m).toArray)
  have HZ := Lib.hid ((HZ1.out.below hb (by omega)).block (.cells (mcL a2 m).toArray 31))
  have HV := Lib.hid ((HW.out.trans (hb.mono (by omega))).alloc (by have := hb.size; omega) (.cells (mcL a2 m).toArray 31))
  have hs2 : b1 ≤ w2.heap.size := by rw [hb1]; exact hb.size
  clear ho hb CO LM MI HZ1 HW
  go_upto_region 2 with (refine wpList_fresh rfl rfl 31 4 (.tmp 7) rfl rfl rfl rfl (mcL a2 m) rfl rfl _ Tryz.infoMc rfl (mcL_one a2 m) ?_)
  change Code.wp _ _ _ _ (w2.alloc (.cells (mcL a2 m).toArray 31))
  clear hb1
  generalize w2.alloc (.cells (mcL a2 m).toArray 31) = w3 at *
  generalize w2.heap.size = g8 at *
  obtain ⟨i0, hi0, hz0, hz1, hz2'⟩ := info_parts Tryz.infoPi3
  have c9 : w3.cell? ⟨g8, 9, none⟩ = some (.int .i64 m.newPipe) := HR.out.cell 9
  have c8 : w3.cell? ⟨g8, 8, none⟩ = some (.slice a2.Q m.pipes.length a2.cQ) := HR.out.cell 8
  have HOM := Lib.hid (HO.out.mono (ok' := fun g => b1 ≤ g ∧ g ≠ g8) (fun g hg => by omega))
  have hz3 : g8 < w3.heap.size := HR.out.lt
  have HO4 := Lib.hid (HOM.out.below ((Below.refl w3.heap.size w3).alloc (Nat.le_refl _) (.cells (nbCells1 (m.newPipe, [])).toArray 73)))
  have HR4 := Lib.hid (HR.out.block (.cells (nbCells1 (m.newPipe, [])).toArray 73))
  have HZ4 := Lib.hid (HZ.out.block (.cells (nbCells1 (m.newPipe, [])).toArray 73))
  have HV4 := Lib.hid (HV.out.alloc (by omega) (.cells (nbCells1 (m.newPipe, [])).toArray 73))
  have H63 : Hid (m.pipes.length + 1 ≤ maxLen) := Lib.hid (by unfold maxLen; have := HPL.out; omega)
  have HBY : Hid ((m.pipes.length + 1) * 24 ≤ 140737488355328) := Lib.hid (by have := HPL.out; omega)
  have HNW : Hid (∀ i u, (nbCells1 (m.newPipe, []))[i]? = some u → (w3.alloc (.cells (nbCells1 (m.newPipe, [])).toArray 73)).cell? ((⟨w3.heap.size, 0, none⟩ : Addr).add i) = some u) := Lib.hid (Whole.made w3 73 (nbCells1 (m.newPipe, [])).toArray).reads
  have H1 : Hid (∀ u ∈ nbCells1 (m.newPipe, []), u.oneCell' = true) := Lib.hid (nb_one _)
  have HBA : Hid (0 ≤ (w3.alloc (.cells (nbCells1 (m.newPipe, [])).toArray 73)).heap.size) := Lib.hid (Nat.zero_le _)
  have HOA := Lib.hid HO4.out.qo
  clear HO HR HZ HV HM hpl
  go_upto_region 3 with (fail)
  clear c9
  go_upto_region 4 with (
    at_builtin
    refine wpList_append_own_at _ rfl (.tmp 11) (.tmp 14) 26 rfl 0 73 i0 _ 2 24 Tryz.underlying26 hi0 hz0 hz1 hz2' rfl (by decide) _ _ _ rfl HOA.out ⟨w3.heap.size, 0, none⟩ 1 1 (nbCells1 (m.newPipe, [])) rfl rfl HNW.out H1.out H63.out HBY.out HBA.out ?_
    intro v' w5 hown' hgrow _ hob'
    obtain ⟨X, cx, rfl, hl, hc, hlt⟩ := own_row hown'
    have hgrow : World.grownBy (w3.alloc (.cells (nbCells1 (m.newPipe, [])).toArray 73)) w5 (Value.slice a2.Q m.pipes.length a2.cQ).ownBlock := hgrow
    have hob : (Value.slice X (m.pipes.length + 1) cx).ownBlock = (Value.slice a2.Q m.pipes.length a2.cQ).ownBlock ∨ (Value.slice X (m.pipes.length + 1) cx).ownBlock = some (w3.alloc (.cells (nbCells1 (m.newPipe, [])).toArray 73)).heap.size := hob'
    have hnb : nbCells (m.pipes ++ [(m.newPipe, [])]) = nbCells m.pipes ++ nbCells1 (m.newPipe, []) := by simp [nbCells]
    have hnl : (m.pipes ++ [(m.newPipe, ([] : List UInt8))]).length = m.pipes.length + 1 := by simp
    have hty : ∀ g ty, (Value.slice a2.Q m.pipes.length a2.cQ).ownBlock = some g → Typed (w3.alloc (.cells (nbCells1 (m.newPipe, [])).toArray 73)) g ty → ty = 73 := fun g ty e k => by
      cases hq : a2.Q with
      | none => rw [hq] at e; cases e
      | some ad =>
        rw [hq] at e
        injection e with e; subst e
        exact (HO4.out.Q.2 ad hq).2.2.eq k
    have hkeep : ∀ g, ¬ (b1 ≤ g ∧ g ≠ g8) → some g ≠ (Value.slice a2.Q m.pipes.length a2.cQ).ownBlock := fun g hg e => by
      cases hq : a2.Q with
      | none => rw [hq] at e; cases e
      | some ad =>
        rw [hq] at e
        injection e with e; subst e
        exact hg (HO4.out.Q.2 ad hq).1
    have hX : ∀ ad, X = some ad → (b1 ≤ ad.block ∧ ad.block ≠ g8) ∧ ad.block ≠ pb := fun ad e => by
      subst e
      rcases hob with h | h
      · cases hq : a2.Q with
        | none => rw [hq] at h; cases h
        | some bd =>
          rw [hq] at h
          injection h with h
          have h : ad.block = bd.block := h
          rw [h]
          exact ⟨(HO4.out.Q.2 bd hq).1, (HO4.out.Q.2 bd hq).2.1⟩
      · injection h with h
        have h : ad.block = (w3.alloc (.cells (nbCells1 (m.newPipe, [])).toArray 73)).heap.size := h
        have hp := HO4.out.pr.lt
        rw [h]
        refine ⟨⟨?_, ?_⟩, by omega⟩
        · simp; omega
        · simp; omega
    have HO5 := Lib.hid (HO4.out.pipes hgrow hty (X := X) (cx := cx) (qs := m.pipes ++ [(m.newPipe, [])]) (m.newPipe + 1) (by rw [hnb]; exact ⟨hl.1, fun ad e => ⟨(hX ad e).1, (hX ad e).2, (hl.2 ad e).2⟩⟩) (by rw [hnb, hnl]; exact hown'))
    have HR5 := Lib.hid (HR4.out.other hgrow (hkeep g8 (by omega)))
    have HZ5 := Lib.hid (HZ4.out.other hgrow (hkeep (gx + 1) (by omega)))
    have HV5 := Lib.hid (HV4.out.grown hgrow (by simp; omega) (fun q e => by
      by_cases hg : b1 ≤ q ∧ q ≠ g8
      · omega
      · exact absurd e.symm (hkeep q hg)))
    have c8 : w5.cell? ⟨g8, 8, none⟩ = some (.slice a2.Q m.pipes.length a2.cQ) := HR5.out.cell 8
    have y8 := HR5.out.free 8
    clear hl hc hlt hgrow hob hob' hown' hnb hnl hty hkeep hX)
  have HR6 := Lib.hid (HR5.out.set 8 (.slice X (m.pipes.length + 1) cx))
  have HO6 := Lib.hid (HO5.out.other (grown_setK w5 g8 8 (.slice X (m.pipes.length + 1) cx)) (by omega))
  have HZ6 := Lib.hid (HZ5.out.far (p := ⟨g8, 8, none⟩) (by show gx + 1 ≠ g8; omega) (.slice X (m.pipes.length + 1) cx))
  have HV6 := Lib.hid (HV5.out.setCell (p := ⟨g8, 8, none⟩) (by show gx ≤ g8; omega) (.slice X (m.pipes.length + 1) cx))
  clear HO4 HR4 HZ4 HV4 HO5 HR5 HZ5 HV5 HOA HOM HNW HBA H63 HBY H1
  clear c8 y8
  generalize w5.setCell ⟨g8, 8, none⟩ (.slice X (m.pipes.length + 1) cx) = w6 at *
  have c9 : w6.cell? ⟨g8, 9, none⟩ = some (.int .i64 m.newPipe) := HR6.out.cell 9
  have y9 := HR6.out.free 9
  have wnp : IntKind.i64.wrap (m.newPipe + 1) = m.newPipe + 1 := by have := HNP.out; have := HNI.out; unfold inJ8 at this; rw [IntKind.wrap_i64]; omega
  have HEQ : Hid (((mcL a2 m).set 8 (.slice X (m.pipes.length + 1) cx)).set 9 (.int .i64 (m.newPipe + 1)) = mcL { a2 with Q := X, cQ := cx } { m with pipes := m.pipes ++ [(m.newPipe, [])], newPipe := m.newPipe + 1 }) := Lib.hid (by unfold mcL; simp [List.length_append])
  have HR7 : Hid (Whole (w6.setCell ⟨g8, 9, none⟩ (.int .i64 (m.newPipe + 1))) g8 31 (mcL { a2 with Q := X, cQ := cx } { m with pipes := m.pipes ++ [(m.newPipe, [])], newPipe := m.newPipe + 1 }).toArray) := Lib.hid (by
    have := HR6.out.set 9 (.int .i64 (m.newPipe + 1))
    rwa [List.setIfInBounds_toArray, List.setIfInBounds_toArray, HEQ.out] at this)
  have HO7 := Lib.hid (HO6.out.other (grown_setK w6 g8 9 (.int .i64 (m.newPipe + 1))) (by omega))
  have HZ7 := Lib.hid (HZ6.out.far (p := ⟨g8, 9, none⟩) (by show gx + 1 ≠ g8; omega) (.int .i64 (m.newPipe + 1)))
  have HV7 := Lib.hid (HV6.out.setCell (p := ⟨g8, 9, none⟩) (by show gx ≤ g8; omega) (.int .i64 (m.newPipe + 1)))
  clear HR6 HO6 HZ6 HV6 HEQ
  go_upto_region 5 with (fail)
  clear c9 y9 wnp
  generalize w6.setCell ⟨g8, 9, none⟩ (.int .i64 (m.newPipe + 1)) = w7 at *
  generalize { a2 with Q := X, cQ := cx } = a5 at *
  obtain ⟨m5, HM5⟩ : ∃ z, Hid ({ m with pipes := m.pipes ++ [(m.newPipe, [])], newPipe := m.newPipe + 1 } = z) := ⟨_, Lib.hid rfl⟩
  rw [HM5.out] at HR7 HO7 ⊢
  have LR := Lib.hid HR7.out.reads
  have MI : Hid ((Tryz.prog.info? 31).map (·.size) = some (mcL a5 m5).length) := Lib.hid Tryz.sizeMc
  go_wp2_with (first
    | (refine wpList_load_at rfl 31 (.tmp 4) rfl ⟨g8, 0, none⟩ rfl (mcL a5 m5) _ LR.out Tryz.underlying31 rfl MI.out ?_)
    | (refine wpList_store_all rfl 31 (.tmp 2) (.tmp 21) rfl rfl (gx + 1) rfl (mcL a5 m5) rfl MI.out zeroML 31 HZ7.out rfl (mcL_one a5 m5) ?_; intro wz hw hk))
  refine bodyPost_ret (v := .tuple #[.agg (mcL a5 m5).toArray, .int .i64 m.newPipe]) (results_cell_tmp rfl _ _ (gx + 1) 31 _ _ (0, 0) _ rfl rfl hw.out Tryz.underlying31 rfl (by rw [List.size_toArray]; exact MI.out)) rfl ?_
  exact ⟨⟨a5, pb, z, by rw [HM5.out], by rw [HM5.out]; exact (HO7.out.other hk.out (by omega)).mono (fun g hg => by have := HGX.out; omega)⟩, by rw [HGX.out]; exact HV7.out.grown hk.out (by have := HZ7.out.lt; omega) (fun q e => by injection e with e; omega)⟩
end Go.Proofs.YtdhfblfnejmeiaaGreatDoor
