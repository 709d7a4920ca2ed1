/-
  Walks: the laws' machines Bare and Small. (Printed by gen_spy.py.)
-/
import Derived.Test.YtdhfblfnejmeiaaGreatDoorSpX
import Derived.Test.YtdhfblfnejmeiaaGreatDoorSpL
import Derived.Great.BuildSlice
namespace Go.Proofs.YtdhfblfnejmeiaaGreatDoor
open Go.RowKit

def zeroF : List UInt8 := List.replicate 128 0
def bareMc (bl : List (List UInt8)) : Mc := { zeroMc with quantum := 3, next := 1, newPipe := 1, frames := [zeroF, zeroF, zeroF, zeroF], blocks := bl, dleft := -1 }
def bareMA (gF : Nat) (X : Option Addr) (cx : Nat) : MA := { zeroMA with F := some ⟨gF, 0, none⟩, cF := 4, L := X, cL := cx }
theorem build_bare (gF : Nat) (X : Option Addr) (cx : Nat) (bl : List (List UInt8)) (w : World) : (Instr.build 31 #[(1, .int .i64 3), (6, .int .i64 1), (9, .int .i64 1), (4, .slice (some ⟨gF, 0, none⟩) 4 4), (13, .agg (dvL X bl.length cx none 0 0 (-1)).toArray)]).run Tryz.prog w = .ok (.agg (mcL (bareMA gF X cx) (bareMc bl)).toArray) w := by kernel_rfl
theorem Tryz.infoDv : (Tryz.prog.info? 29).map (fun i => (i.zero, i.size)) = some (some (.agg #[.slice none 0 0, .slice none 0 0, .int .i64 0]), 3) := by kernel_rfl
set_option maxRecDepth 100000 in
set_option maxHeartbeats 4000000 in
theorem bare_any (w : World) :
    Calls Tryz.prog 13 #[] w fun e w' => (∃ gF X cx bl, e = .returned (.agg (mcL (bareMA gF X cx) (bareMc bl)).toArray) ∧ bl.length = 57 ∧ MAt w' w'.heap.size (bareMA gF X cx) (bareMc bl) ∧ w.heap.size ≤ gF ∧ ∀ ad, X = some ad → w.heap.size ≤ ad.block) ∧ Below w.heap.size w w' := by
  have HZ : Hid (Whole (w.alloc (.cells #[.int .u64 0, .int .i64 0, .int .i64 0, .int .i64 0, .slice none 0 0, .slice none 0 0, .int .i64 0, S [], .slice none 0 0, .int .i64 0, S [], .bool false, .int .u64 0, .slice none 0 0, .slice none 0 0, .int .i64 0, .slice none 0 0] 31)) w.heap.size 31 zeroML.toArray) := Lib.hid (Whole.made w 31 zeroML.toArray)
  have HV : Hid (Below w.heap.size w (w.alloc (.cells #[.int .u64 0, .int .i64 0, .int .i64 0, .int .i64 0, .slice none 0 0, .slice none 0 0, .int .i64 0, S [], .slice none 0 0, .int .i64 0, S [], .bool false, .int .u64 0, .slice none 0 0, .slice none 0 0, .int .i64 0, .slice none 0 0] 31))) := Lib.hid ((Below.refl w.heap.size w).alloc (Nat.le_refl _) _)
  go_enter Tryz.func13, Tryz.ntmps13
  go_upto_region 1 with (fail)
  change Code.wp _ _ _ _ (w.alloc (.cells #[.int .u64 0, .int .i64 0, .int .i64 0, .int .i64 0, .slice none 0 0, .slice none 0 0, .int .i64 0, S [], .slice none 0 0, .int .i64 0, S [], .bool false, .int .u64 0, .slice none 0 0, .slice none 0 0, .int .i64 0, .slice none 0 0] 31))
  generalize (w.alloc (.cells #[.int .u64 0, .int .i64 0, .int .i64 0, .int .i64 0, .slice none 0 0, .slice none 0 0, .int .i64 0, S [], .slice none 0 0, .int .i64 0, S [], .bool false, .int .u64 0, .slice none 0 0, .slice none 0 0, .int .i64 0, .slice none 0 0] 31)) = w0 at *
  generalize hgx : w.heap.size = gx at *
  have HGX := Lib.hid hgx
  have hgl : gx < w0.heap.size := HZ.out.lt
  have CA := Lib.hid (format17 w0)
  clear hgx
  go_wp2_with fail
  refine CA.out.mono ?_
  rintro e w1 ⟨⟨A, c, l, rfl, hl, h128, hA⟩, hb⟩
  have CB := Lib.hid (format16 w1 A c l hl h128 hA)
  have HZ1 := Lib.hid (HZ.out.below hb hgl)
  have HV1 := Lib.hid (HV.out.trans (hb.mono (by omega)))
  clear hb CA HZ HV hl h128 hA
  go_wp2_with fail
  refine CB.out.mono ?_
  rintro e w2 ⟨⟨X, cx, bl, rfl, hbl, hcx, hX, hXb⟩, hb⟩
  have HB2 : Hid (Below w1.heap.size w1 (w2.alloc (.cells (dvL X bl.length cx none 0 0 (-1)).toArray 29))) := Lib.hid (hb.alloc hb.size _)
  have HD := Lib.hid (Whole.made w2 29 (dvL X bl.length cx none 0 0 (-1)).toArray)
  have HX : Hid (Strs (w2.alloc (.cells (dvL X bl.length cx none 0 0 (-1)).toArray 29)) (w2.alloc (.cells (dvL X bl.length cx none 0 0 (-1)).toArray 29)).heap.size X bl) := Lib.hid ((Lies.below hX ((Below.refl w2.heap.size w2).alloc (Nat.le_refl _) _)).wide (by simp))
  have HBL := Lib.hid (And.intro hbl hcx)
  have HXB : Hid (∀ ad, X = some ad → gx < ad.block) := Lib.hid (fun ad e => Nat.lt_of_lt_of_le HZ1.out.lt (hXb ad e))
  clear hb CB hX hbl hcx hXb
  go_upto_region 3 with (refine wpList_fresh rfl rfl 29 3 (.tmp 13) rfl rfl rfl rfl (dvL X bl.length cx none 0 0 (-1)) rfl rfl _ Tryz.infoDv rfl (dvL_one _ _ _ _ _ _ _) ?_)
  change Code.wp _ _ _ _ (w2.alloc (.cells (dvL X bl.length cx none 0 0 (-1)).toArray 29))
  have HZ3 := Lib.hid (HZ1.out.below HB2.out HZ1.out.lt)
  have HV3 := Lib.hid (HV1.out.trans (HB2.out.mono (by have := HZ1.out.lt; omega)))
  clear HZ1 HV1 HB2
  generalize w2.alloc (.cells (dvL X bl.length cx none 0 0 (-1)).toArray 29) = w3 at *
  generalize w2.heap.size = g3 at *
  have CR := Lib.hid (repeatZ 128 (by decide) w3)
  have CR : Hid (Calls Tryz.prog 29 #[S [0], .int .i64 128] w3 fun e w' => e = .returned (S zeroF) ∧ Below w3.heap.size w3 w') := CR
  go_wp2_with fail
  refine CR.out.mono ?_
  rintro e w4 ⟨rfl, hb⟩
  have HB4 : Hid (Below w3.heap.size w3 (w4.alloc (.cells #[S zeroF, S zeroF, S zeroF, S zeroF] 9))) := Lib.hid (hb.alloc hb.size _)
  have HF := Lib.hid (Whole.made w4 9 #[S zeroF, S zeroF, S zeroF, S zeroF])
  have HZ5 := Lib.hid (HZ3.out.below HB4.out HZ3.out.lt)
  have HD5 := Lib.hid (HD.out.below HB4.out HD.out.lt)
  have HX5 := Lib.hid ((Lies.below HX.out HB4.out).wide HB4.out.size)
  have HV5 := Lib.hid (HV3.out.trans (HB4.out.mono (by have := HZ3.out.lt; omega)))
  have LD5 := Lib.hid HD5.out.reads
  have SDV : Hid ((Tryz.prog.info? 29).map (·.size) = some 3) := Lib.hid Tryz.sizeDv
  have SMC : Hid ((Tryz.prog.info? 31).map (·.size) = some 17) := Lib.hid Tryz.sizeMc
  have hg4 : gx < w4.heap.size := Nat.lt_of_lt_of_le HZ3.out.lt hb.size
  clear hb CR HZ3 HX HV3 HB4 HD
  go_wp2_with (first
    | (refine wpList_load_at rfl 29 (.tmp 3) rfl ⟨g3, 0, none⟩ rfl (dvL X bl.length cx none 0 0 (-1)) _ LD5.out Tryz.underlying29 rfl SDV.out ?_)
    | (refine wpList_build rfl 31 #[(1, .const (.int .i64 3)), (6, .const (.int .i64 1)), (9, .const (.int .i64 1)), (4, .tmp 20), (13, .tmp 21)] rfl #[(1, .int .i64 3), (6, .int .i64 1), (9, .int .i64 1), (4, .slice (some ⟨w4.heap.size, 0, none⟩) 4 4), (13, .agg (dvL X bl.length cx none 0 0 (-1)).toArray)] (by simp only [List.map_toArray, List.map_cons, List.map_nil]; rfl) _ (build_bare w4.heap.size X cx bl _) ?_)
    | (refine wpList_store_all rfl 31 (.tmp 0) (.tmp 22) rfl rfl gx rfl (mcL (bareMA w4.heap.size X cx) (bareMc bl)) rfl SMC.out zeroML 31 HZ5.out rfl (mcL_one _ _) ?_; intro wz hw hk))
  refine bodyPost_ret (v := .agg (mcL (bareMA w4.heap.size X cx) (bareMc bl)).toArray) (results_cell_row rfl _ _ gx 31 _ (0, 0) _ rfl hw.out Tryz.underlying31 rfl SMC.out) rfl ?_
  have hgz := HV5.out.grown hk.out (by have := HZ5.out.lt; omega) (fun q e => by injection e with e; omega)
  have hf := HF.out.other hk.out (by intro e; injection e with e; omega)
  refine ⟨⟨w4.heap.size, X, cx, bl, rfl, HBL.out.1, ⟨fun k v hv => ⟨_, rfl, hf.lt, hf.reads k v hv⟩, Lies.none _ _ _, Lies.none _ _ _, ?_, Lies.none _ _ _, Lies.none _ _ _, ⟨Nat.le_refl _, Nat.le_refl _, Nat.le_refl _, HBL.out.2, Nat.le_refl _, Nat.le_refl _⟩⟩, by have := HGX.out; omega, fun ad e => by have := HXB.out ad e; have := HGX.out; omega⟩, by rw [HGX.out]; exact hgz⟩
  exact fun k v hv => by
    obtain ⟨ad, e, hb2, hc2⟩ := HX5.out k v hv
    refine ⟨ad, e, Nat.lt_of_lt_of_le hb2 hk.out.size, ?_⟩
    rw [← hc2]
    unfold World.cell?
    rw [add_block, hk.out.block ad.block hb2 (by intro e2; injection e2 with e2; have := HXB.out ad e; omega)]
section
variable {P : Program}
theorem run_storeVar_c (w : World) (ty : TypeId) (g off : Nat) (v : Value) (hc : v.cells = #[v]) (hi : (P.info? ty).map (·.size) = some 1) (cur : List Value) (t : TypeId) (hg : Whole w g t cur.toArray) (hfit : off < cur.length) (h1 : v.oneCell' = true) :
    (storeVar ty ⟨g, off, none⟩ v).run P w = .ok () (w.setRow g (cur.set off v).toArray) := by
  cases hq : P.info? ty with
  | none => simp [hq] at hi
  | some i =>
    have hs : i.size = 1 := by simpa [hq] using hi
    have hrun := run_storeCells_at (P := P) g off t [v] 0 cur.toArray w hg (by simp; omega) (by simpa using h1)
    rw [List.set_eq_take_append_cons_drop, if_pos hfit]
    simp only [Nat.add_zero] at hrun
    simp [storeVar, Go.sizeOf, typeInfo, hq, hs, hc]; simpa using hrun
/-- one cell of a block that is known whole is stored -/
theorem wpList_store_c {ops : Array Oper} {rest : List Oper} {o : Oper} {a : Act} {w : World} {Q : Exit → Act → World → Prop} (hgd : o.guard = none) (ty : TypeId) (x y : Operand) (ho : o.op = .store ty x y) (hdst : o.dst = none)
    (g off : Nat) (hx : a.eval x = .pointer (some ⟨g, off, none⟩)) (v : Value) (hy : a.eval y = v) (hc : v.cells = #[v]) (h1 : v.oneCell' = true) (hi : (P.info? ty).map (·.size) = some 1)
    (cur : List Value) (t : TypeId) (hg : Whole w g t cur.toArray) (hfit : off < cur.length)
    (h : ∀ w', Hid (Whole w' g t (cur.set off v).toArray) → Hid (w.grownBy w' (some g)) → wpList P ops Q rest a w') : wpList P ops Q (o :: rest) a w :=
  wpList_plain hgd fun _ hK => by
    have hrun := run_storeVar_c w ty g off v hc hi cur t hg hfit h1
    have hw' : Whole (w.setRow g (cur.set off v).toArray) g t (cur.set off v).toArray := setRow_heap w g _ _ t _ hg
    have hf : w.grownBy (w.setRow g (cur.set off v).toArray) (some g) :=
      ⟨rfl, rfl, rfl, by simp [World.setRow], fun j _ hne => by simp only [World.setRow, Array.getElem?_modify]; rw [if_neg (fun e => hne (by rw [e]))]⟩
    have hk := hK _ _ (h _ (Lib.hid hw') (Lib.hid hf))
    unfold Oper.wp execOp
    simp only [ho, hx, hy, Instr.storeAt, Instr.sureAddr, Sem.run_bind, Sem.run_pure, Result.andThen_ok, hrun]
    simpa [Oper.upon, Act.put, hdst] using hk
end
theorem Tryz.size1 : (Tryz.prog.info? 3).map (·.size) = some 1 := by kernel_rfl
theorem Tryz.size1p : (Tryz.prog.info? 25).map (·.size) = some 1 := by kernel_rfl
theorem lies_far {w w' : World} {B : Nat} {A : Option Addr} {xs : List Value} {q : Nat} (h : Lies w B A xs) (hB : B ≤ w.heap.size) (hk : w.grownBy w' (some q)) (hq : ∀ ad, A = some ad → ad.block ≠ q) : Lies w' w'.heap.size A xs := fun k v hv => by
  obtain ⟨ad, e, hb, hc⟩ := h k v hv
  refine ⟨ad, e, Nat.lt_of_lt_of_le hb (Nat.le_trans hB hk.size), ?_⟩
  rw [← hc]
  unfold World.cell?
  rw [add_block, hk.block ad.block (Nat.lt_of_lt_of_le hb hB) (by intro e2; injection e2 with e2; exact hq ad e e2)]
def pB : Pr := { zeroPr with pid := 1, state := 1, space := sp0 }
def pC : Pr := { pB with pc := 8 }
def pD : Pr := pC.reg 15 2048
def pE : Pr := pD.fdSet 0 ⟨1, 0, 0⟩
def smallP : Pr := pE.fdSet 1 ⟨2, 0, 0⟩
def smallMc (bl : List (List UInt8)) : Mc := { bareMc bl with cur := 1, next := 2, left := 3, procs := [smallP] }
def smallMA (gF : Nat) (X : Option Addr) (cx gp : Nat) : MA := { bareMA gF X cx with P := some ⟨gp, 0, none⟩, cP := 1 }
theorem build_pg0 (w : World) : (Instr.build 40 #[(0, .bool true), (1, .bool true)]).run Tryz.prog w = .ok (.agg #[.bool true, .bool true, .int .i64 0]) w := by kernel_rfl
theorem build_pg1 (w : World) : (Instr.build 40 #[(0, .bool true), (1, .bool true), (2, .int .i64 1)]).run Tryz.prog w = .ok (.agg #[.bool true, .bool true, .int .i64 1]) w := by kernel_rfl
theorem build_sp (w : World) : (Instr.build 42 #[(0, .agg #[.bool true, .bool true, .int .i64 0]), (15, .agg #[.bool true, .bool true, .int .i64 1])]).run Tryz.prog w = .ok (.agg (pgCells sp0).toArray) w := by kernel_rfl
theorem build_pB (w : World) : (Instr.build 47 #[(0, .int .i64 1), (2, .int .i64 1), (4, .agg (pgCells sp0).toArray)]).run Tryz.prog w = .ok (.agg (prCells pB).toArray) w := by kernel_rfl
theorem build_f1 (w : World) : (Instr.build 44 #[(0, .int .i64 1)]).run Tryz.prog w = .ok (.agg (flCells1 ⟨1, 0, 0⟩).toArray) w := by kernel_rfl
theorem build_f2 (w : World) : (Instr.build 44 #[(0, .int .i64 2)]).run Tryz.prog w = .ok (.agg (flCells1 ⟨2, 0, 0⟩).toArray) w := by kernel_rfl
theorem ok_pB : PrOk pB := by
  refine ⟨rfl, rfl, rfl, ?_, ?_, ?_, ?_, ?_, ?_, ?_, ?_, ?_, ?_⟩
  · unfold inJ8; decide
  · unfold inJ8; decide
  · unfold inJ8; decide
  · intro r hr; simp [pB, zeroPr] at hr; subst hr; unfold inU32; decide
  · unfold inU32; decide
  · intro g hg; simp [pB, sp0] at hg; rcases hg with rfl | rfl | rfl <;> unfold inJ8 <;> decide
  · intro f hf; simp [pB, zeroPr] at hf; subst hf; unfold inJ8; decide
  · unfold inU32; decide
  · unfold inJ8; decide
  · unfold inU64; decide
theorem ok_pC : PrOk pC := ok_pB.setPc (by unfold inU32; omega)
theorem ok_pD : PrOk pD := ok_pC.setReg 15 (by unfold inU32; omega)
theorem ok_pE : PrOk pE := ok_pD.setFd 0 (by refine ⟨?_, ?_, ?_⟩ <;> unfold inJ8 <;> simp)
theorem ok_small : PrOk smallP := ok_pE.setFd 1 (by refine ⟨?_, ?_, ?_⟩ <;> unfold inJ8 <;> simp)
theorem made_one {o : Oper} {a : Act} {w : World} {K : Act → World → Prop} {Q : Exit → Act → World → Prop} (x : Nat) (ho : o.op = .buildSlice 25 1 #[(0, .tmp x)]) {p : Pr} (hp : PrOk p) (hx : a.eval (.tmp x) = .agg (prCells p).toArray)
    (h : ∀ g w', Hid (g = w.heap.size) → Hid (Whole w' g 47 (prCells p).toArray) → Hid (Below w.heap.size w w') → K (a.put o.dst (.slice (some ⟨g, 0, none⟩) 1 1)) w') : o.wp Tryz.prog a w K Q := by
  replace h := h w.heap.size (w.alloc (.cells (prCells p).toArray 47)) (Lib.hid rfl) (Lib.hid (Whole.made w _ _)) (Lib.hid ((Below.refl _ _).alloc (Nat.le_refl _) _))
  obtain ⟨i, hi, hz, hs, _⟩ := info_proc
  have hl : (prCells p).length = 96 := prCells_length hp
  refine wp_buildSlice 25 47 1 _ ho (prCells p).toArray i _ Tryz.underlying25 hi hz (by rw [hs]; decide) (by rw [hs]; decide) ?_ h
  rw [hs]
  have := Great.fill_whole (s := 96) (by decide) [.agg (prCells p).toArray] ((Array.range (1 * 96)).map ((Value.agg (prCells zeroPr).toArray).cells[· % (Value.agg (prCells zeroPr).toArray).cells.size]!)) (fun v hv => by
    obtain rfl : v = .agg (prCells p).toArray := by simpa using hv
    show (prCells p).toArray.size = 96
    simpa using hl) (by simp)
  simpa [hx, Value.cells] using this
set_option maxRecDepth 100000 in
set_option maxHeartbeats 4000000 in
theorem small_any (w : World) :
    Calls Tryz.prog 6 #[] w fun e w' => (∃ gF X cx gp bl, e = .returned (.agg (mcL (smallMA gF X cx gp) (smallMc bl)).toArray) ∧ bl.length = 57 ∧ MAt w' w'.heap.size (smallMA gF X cx gp) (smallMc bl)) ∧ Below w.heap.size w w' := by
  have HZ : Hid (Whole (w.alloc (.cells #[.int .u64 0, .int .i64 0, .int .i64 0, .int .i64 0, .slice none 0 0, .slice none 0 0, .int .i64 0, S [], .slice none 0 0, .int .i64 0, S [], .bool false, .int .u64 0, .slice none 0 0, .slice none 0 0, .int .i64 0, .slice none 0 0] 31)) w.heap.size 31 zeroML.toArray) := Lib.hid (Whole.made w 31 zeroML.toArray)
  have HV : Hid (Below w.heap.size w (w.alloc (.cells #[.int .u64 0, .int .i64 0, .int .i64 0, .int .i64 0, .slice none 0 0, .slice none 0 0, .int .i64 0, S [], .slice none 0 0, .int .i64 0, S [], .bool false, .int .u64 0, .slice none 0 0, .slice none 0 0, .int .i64 0, .slice none 0 0] 31))) := Lib.hid ((Below.refl w.heap.size w).alloc (Nat.le_refl _) _)
  go_enter Tryz.func6, Tryz.ntmps6
  go_upto_region 1 with (fail)
  change Code.wp _ _ _ _ (w.alloc (.cells #[.int .u64 0, .int .i64 0, .int .i64 0, .int .i64 0, .slice none 0 0, .slice none 0 0, .int .i64 0, S [], .slice none 0 0, .int .i64 0, S [], .bool false, .int .u64 0, .slice none 0 0, .slice none 0 0, .int .i64 0, .slice none 0 0] 31))
  generalize (w.alloc (.cells #[.int .u64 0, .int .i64 0, .int .i64 0, .int .i64 0, .slice none 0 0, .slice none 0 0, .int .i64 0, S [], .slice none 0 0, .int .i64 0, S [], .bool false, .int .u64 0, .slice none 0 0, .slice none 0 0, .int .i64 0, .slice none 0 0] 31)) = w0 at *
  generalize hgx : w.heap.size = gx at *
  have HGX := Lib.hid hgx
  have hgl : gx < w0.heap.size := HZ.out.lt
  have CA := Lib.hid (bare_any w0)
  clear hgx
  go_wp2_with fail
  refine CA.out.mono ?_
  rintro e w1 ⟨⟨gF, X, cx, bl, rfl, hbl, hA, hgF, hXg⟩, hb⟩
  have HBL := Lib.hid hbl
  have HA := Lib.hid hA
  have HGF := Lib.hid (And.intro hgF hXg)
  have HZ1 := Lib.hid (HZ.out.below hb hgl)
  have HV1 := Lib.hid (HV.out.trans (hb.mono (by omega)))
  have hg1 : gx < w1.heap.size := HZ1.out.lt
  have IMC : Hid ((Tryz.prog.info? 31).map (fun i => (i.zero, i.size)) = some (some (.agg zeroML.toArray), (mcL (bareMA gF X cx) (bareMc bl)).length)) := Lib.hid Tryz.infoMc
  have HM2 := Lib.hid (Whole.made w1 31 (mcL (bareMA gF X cx) (bareMc bl)).toArray)
  have HB2 : Hid (Below w1.heap.size w1 (w1.alloc (.cells (mcL (bareMA gF X cx) (bareMc bl)).toArray 31))) := Lib.hid ((Below.refl w1.heap.size w1).alloc (Nat.le_refl _) _)
  clear hb CA HZ HV hbl hA hgF hXg
  go_upto_region 2 with (refine wpList_fresh rfl rfl 31 1 (.tmp 3) rfl rfl rfl rfl (mcL (bareMA gF X cx) (bareMc bl)) rfl rfl _ IMC.out rfl (mcL_one _ _) ?_)
  change Code.wp _ _ _ _ (w1.alloc (.cells (mcL (bareMA gF X cx) (bareMc bl)).toArray 31))
  clear IMC
  obtain ⟨g1, hg1e⟩ : ∃ g, g = w1.heap.size := ⟨_, rfl⟩
  rw [← hg1e] at HM2 hg1 HB2 ⊢
  generalize w1.alloc (.cells (mcL (bareMA gF X cx) (bareMc bl)).toArray 31) = w2 at *
  have HP3 := Lib.hid (Whole.made w2 47 (prCells pB).toArray)
  have HB3 : Hid (Below g1 w1 (w2.alloc (.cells (prCells pB).toArray 47))) := Lib.hid (HB2.out.alloc (by have := HM2.out.lt; omega) _)
  have HM3 : Hid (Whole (w2.alloc (.cells (prCells pB).toArray 47)) g1 31 (mcL (bareMA gF X cx) (bareMc bl)).toArray) := Lib.hid (HM2.out.block _)
  have IPR : Hid ((Tryz.prog.info? 47).map (fun i => (i.zero, i.size)) = some (some (.agg (prCells zeroPr).toArray), (prCells pB).length)) := Lib.hid Tryz.infoPr
  have hg2 : g1 < w2.heap.size := HM2.out.lt
  clear HB2 HM2
  go_upto_region 3 with (first
    | (refine wpList_build rfl 40 #[(0, .const (.bool true)), (1, .const (.bool true))] rfl #[(0, .bool true), (1, .bool true)] (by simp only [List.map_toArray, List.map_cons, List.map_nil]; rfl) _ (build_pg0 _) ?_)
    | (refine wpList_build rfl 40 #[(0, .const (.bool true)), (1, .const (.bool true)), (2, .const (.int .i64 1))] rfl #[(0, .bool true), (1, .bool true), (2, .int .i64 1)] (by simp only [List.map_toArray, List.map_cons, List.map_nil]; rfl) _ (build_pg1 _) ?_)
    | (refine wpList_build rfl 42 #[(0, .tmp 4), (15, .tmp 5)] rfl #[(0, .agg #[.bool true, .bool true, .int .i64 0]), (15, .agg #[.bool true, .bool true, .int .i64 1])] (by simp only [List.map_toArray, List.map_cons, List.map_nil]; rfl) _ (build_sp _) ?_)
    | (refine wpList_build rfl 47 #[(0, .const (.int .i64 1)), (2, .const (.int .i64 1)), (4, .tmp 6)] rfl #[(0, .int .i64 1), (2, .int .i64 1), (4, .agg (pgCells sp0).toArray)] (by simp only [List.map_toArray, List.map_cons, List.map_nil]; rfl) _ (build_pB _) ?_)
    | (refine wpList_fresh rfl rfl 47 2 (.tmp 7) rfl rfl rfl rfl (prCells pB) rfl rfl _ IPR.out rfl prCells_one ?_))
  change Code.wp _ _ _ _ (w2.alloc (.cells (prCells pB).toArray 47))
  clear IPR
  generalize w2.alloc (.cells (prCells pB).toArray 47) = w3 at *
  generalize w2.heap.size = g2 at *
  have cg : w3.cell? ⟨g2, 19, none⟩ = some (.int .u32 0) := HP3.out.cell 19
  have yg := HP3.out.free 19
  have HP4 : Hid (Whole (w3.setCell ⟨g2, 19, none⟩ (.int .u32 8)) g2 47 (prCells pC).toArray) := Lib.hid (HP3.out.set 19 (.int .u32 8))
  have HM4 := Lib.hid (HM3.out.far (p := ⟨g2, 19, none⟩) (by show g1 ≠ g2; omega) (.int .u32 8))
  have HB4 := Lib.hid (HB3.out.setCell (p := ⟨g2, 19, none⟩) (by show g1 ≤ g2; omega) (.int .u32 8))
  have ch : (w3.setCell ⟨g2, 19, none⟩ (.int .u32 8)).cell? ⟨g2, 18, none⟩ = some (.int .u32 0) := HP4.out.cell 18
  have yh := HP4.out.free 18
  have HP5 : Hid (Whole ((w3.setCell ⟨g2, 19, none⟩ (.int .u32 8)).setCell ⟨g2, 18, none⟩ (.int .u32 2048)) g2 47 (prCells pD).toArray) := Lib.hid (HP4.out.set 18 (.int .u32 2048))
  have HM5 := Lib.hid (HM4.out.far (p := ⟨g2, 18, none⟩) (by show g1 ≠ g2; omega) (.int .u32 2048))
  have HB5 := Lib.hid (HB4.out.setCell (p := ⟨g2, 18, none⟩) (by show g1 ≤ g2; omega) (.int .u32 2048))
  clear HP3 HM3 HB3 HP4 HM4 HB4
  go_upto_region 4 with (fail)
  clear cg yg ch yh
  generalize (w3.setCell ⟨g2, 19, none⟩ (.int .u32 8)).setCell ⟨g2, 18, none⟩ (.int .u32 2048) = w5 at *
  have SFL : Hid (∀ k n, (Tryz.prog.info? 44).map (·.size) = some (flCells1 ⟨k, n, 0⟩).length) := Lib.hid fun _ _ => Tryz.sizeFl
  have HP5' : Hid (Whole w5 g2 47 (prCells pD ++ []).toArray) := Lib.hid (by simpa using HP5.out)
  have hl5 : 68 + 3 ≤ (prCells pD ++ []).length := by rw [List.append_nil, prCells_length ok_pD]; decide
  have hl6 : 71 + 3 ≤ (prCells pE ++ []).length := by rw [List.append_nil, prCells_length ok_pE]; decide
  have fo := fl_one ⟨1, 0, 0⟩
  have fo2 := fl_one ⟨2, 0, 0⟩
  go_upto_region 5 with (first
    | (refine wpList_build rfl 44 #[(0, .const (.int .i64 1))] rfl #[(0, .int .i64 1)] (by simp only [List.map_toArray, List.map_cons, List.map_nil]; rfl) _ (build_f1 _) ?_)
    | (refine wpList_build rfl 44 #[(0, .const (.int .i64 2))] rfl #[(0, .int .i64 2)] (by simp only [List.map_toArray, List.map_cons, List.map_nil]; rfl) _ (build_f2 _) ?_)
    | (refine wpList_store_at rfl 44 (.tmp 16) (.tmp 13) rfl rfl g2 68 rfl (flCells1 ⟨1, 0, 0⟩) rfl (SFL.out 1 0) (prCells pD ++ []) 47 HP5'.out hl5 fo ?_; intro w6 hw6 hk6; have HP6 : Hid (Whole w6 g2 47 (prCells pE ++ []).toArray) := Lib.hid (by have e := pr_fd ok_pD (k := 0) (by decide) ⟨1, 0, 0⟩ []; unfold pE; rw [← e]; exact hw6.out))
    | (refine wpList_store_at rfl 44 (.tmp 18) (.tmp 14) rfl rfl g2 71 rfl (flCells1 ⟨2, 0, 0⟩) rfl (SFL.out 2 0) (prCells pE ++ []) 47 HP6.out hl6 fo2 ?_; intro w7 hw7 hk7))
  have HP7 : Hid (Whole w7 g2 47 (prCells smallP).toArray) := Lib.hid (by
    have e := pr_fd ok_pE (k := 1) (by decide) ⟨2, 0, 0⟩ []
    rw [List.append_nil (prCells (pE.fdSet 1 ⟨2, 0, 0⟩))] at e
    unfold smallP; rw [← e]; exact hw7.out)
  have HM7 := Lib.hid ((HM5.out.other hk6.out (by intro e; injection e with e; omega)).other hk7.out (by intro e; injection e with e; omega))
  have hs7 : g2 < w7.heap.size := HP7.out.lt
  have hs5 : g2 < w5.heap.size := HP5.out.lt
  have hs6 : g2 < w6.heap.size := HP6.out.lt
  have HB7 := Lib.hid ((HB5.out.grown hk6.out (by omega) (fun q e => by injection e with e; omega)).grown hk7.out (by omega) (fun q e => by injection e with e; omega))
  clear hw6 hk6 hw7 hk7 HP5 HP5' HP6 HM5 HB5 SFL hl5 hl6 fo fo2
  obtain ⟨PL, hPL⟩ : ∃ l, l = prCells smallP := ⟨_, rfl⟩
  have L7 : Hid (∀ j v, PL[j]? = some v → w7.cell? ((⟨g2, 0, none⟩ : Addr).add j) = some v) := Lib.hid (by rw [hPL]; exact HP7.out.reads)
  have SPR : Hid ((Tryz.prog.info? 47).map (·.size) = some PL.length) := Lib.hid (by rw [hPL]; exact Tryz.sizePr)
  have HPL := Lib.hid hPL
  clear hPL
  subst hg1e
  generalize hg1e : w1.heap.size = g1 at *
  go_upto_region 6 with (first
    | (refine wpList_load_at rfl 47 (.tmp 2) rfl ⟨g2, 0, none⟩ rfl PL _ L7.out Tryz.underlying47 rfl SPR.out ?_; refine wpList_plain rfl fun K hK => ?_; refine made_one 19 rfl ok_small (by rw [← HPL.out]; rfl) ?_; intro gp w8 hgp HG8 hb8; have HM8 := Lib.hid (HM7.out.below hb8.out HM7.out.lt); have HB8 := Lib.hid (HB7.out.trans (hb8.out.mono (by omega))); have HGP : Hid (g2 < gp) := (Lib.hid (by rw [hgp.out]; exact hs7)); clear HM7 HB7 hgp hb8; refine hK _ _ ?_)
    | (refine wpList_store_c rfl 25 (.tmp 21) (.tmp 20) rfl rfl g1 5 rfl (.slice (some ⟨gp, 0, none⟩) 1 1) rfl rfl rfl Tryz.size1p _ 31 HM8.out (by show 5 < 17; decide) ?_; intro w9 hw9 hk9)
    | (refine wpList_store_c rfl 3 (.tmp 22) (.const (.int .i64 1)) rfl rfl g1 2 rfl (.int .i64 1) rfl rfl rfl Tryz.size1 _ 31 hw9.out (by show 2 < 17; decide) ?_; intro w10 hw10 hk10)
    | (refine wpList_store_c rfl 3 (.tmp 23) (.const (.int .i64 2)) rfl rfl g1 6 rfl (.int .i64 2) rfl rfl rfl Tryz.size1 _ 31 hw10.out (by show 6 < 17; decide) ?_; intro w11 hw11 hk11)
    | (refine wpList_store_c rfl 3 (.tmp 24) (.const (.int .i64 3)) rfl rfl g1 3 rfl (.int .i64 3) rfl rfl rfl Tryz.size1 _ 31 hw11.out (by show 3 < 17; decide) ?_; intro w12 hw12 hk12))
  have HM12 : Hid (Whole w12 g1 31 (mcL (smallMA gF X cx gp) (smallMc bl)).toArray) := hw12
  have hk := grown_trans (grown_trans (grown_trans hk9.out hk10.out) hk11.out) hk12.out
  have HB12 : Hid (Below g1 w1 w12) := Lib.hid (HB8.out.grown hk (by have := HM8.out.lt; omega) (fun q e => by injection e with e; omega))
  have HG12 : Hid (Whole w12 gp 47 (prCells smallP).toArray) := Lib.hid (HG8.out.other hk (by intro e; injection e with e; have := HGP.out; omega))
  clear hw9 hk9 hw10 hk10 hw11 hk11 hw12 hk12 hk HM8 HB8 HG8 L7
  have LM := Lib.hid HM12.out.reads
  have SMC : Hid ((Tryz.prog.info? 31).map (·.size) = some (mcL (smallMA gF X cx gp) (smallMc bl)).length) := Lib.hid Tryz.sizeMc
  have HZ12 := Lib.hid ((HZ1.out.below HB12.out hg1))
  go_wp2_with (first
    | (refine wpList_load_at rfl 31 (.tmp 1) rfl ⟨g1, 0, none⟩ rfl (mcL (smallMA gF X cx gp) (smallMc bl)) _ LM.out Tryz.underlying31 rfl SMC.out ?_)
    | (refine wpList_store_all rfl 31 (.tmp 0) (.tmp 25) rfl rfl gx rfl (mcL (smallMA gF X cx gp) (smallMc bl)) rfl SMC.out zeroML 31 HZ12.out rfl (mcL_one _ _) ?_; intro wz hw hk))
  refine bodyPost_ret (v := .agg (mcL (smallMA gF X cx gp) (smallMc bl)).toArray) (results_cell_row rfl _ _ gx 31 _ (0, 0) _ rfl hw.out Tryz.underlying31 rfl (by rw [List.size_toArray]; exact SMC.out)) rfl ?_
  have hA := (HA.out.below (w' := w12) HB12.out).wide (B' := w12.heap.size) (Nat.le_of_lt HM12.out.lt)
  have hA := hA.far (B := w0.heap.size) ⟨(fun ad e => by injection e with e; subst e; exact HGF.out.1), (fun ad e => by cases e), (fun ad e => by cases e), HGF.out.2, (fun ad e => by cases e), (fun ad e => by cases e)⟩ hk.out hgl
  have hG := HG12.out.other hk.out (by intro e; injection e with e; have := HGP.out; omega)
  refine ⟨⟨gF, X, cx, gp, bl, rfl, HBL.out, hA.F, fun k v hv => ⟨_, rfl, hG.lt, hG.reads k v (by have : (smallMc bl).procs = [smallP] := rfl; rw [this] at hv; simpa [prsCells] using hv)⟩, hA.Q, hA.L, hA.N, hA.D, hA.caps.1, Nat.le_refl 1, hA.caps.2.2⟩, ?_⟩
  rw [HGX.out]
  exact (HV1.out.trans (HB12.out.mono (Nat.le_of_lt hg1))).grown hk.out (by have := HZ12.out.lt; have := HZ1.out.lt; omega) (fun q e => by injection e with e; omega)
end Go.Proofs.YtdhfblfnejmeiaaGreatDoor
