/-
  Laws: a struct built out of parts, a whole struct stored, as steps of a region that draws its order and as operations of a plain one; a delta's cells.
-/
import Derived.Test.YtecamaceainfpaaDoorOthers
namespace Go.Proofs.YtecamaceainfpaaDoor
open Go.RowKit
section
variable {P : Program}
theorem wp_build {o : Oper} {a : Act} {w : World} {K : Act → World → Prop} {Q : Exit → Act → World → Prop} (ty : TypeId) (parts : Array (Nat × Operand)) (ho : o.op = .build ty parts)
    (vals : Array (Nat × Value)) (hp : (parts.map fun (i, x) => (i, a.eval x)) = vals) (v : Value) (hr : (Instr.build ty vals).run P w = .ok v w) (h : K (a.put o.dst v) w) : o.wp P a w K Q := by
  unfold Oper.wp execOp
  simp only [ho, hp, Sem.run_bind, hr, Result.andThen_ok, Sem.run_pure]
  exact h
theorem wpList_build {ops : Array Oper} {rest : List Oper} {o : Oper} {a : Act} {w : World} {Q : Exit → Act → World → Prop} (hgd : o.guard = none) (ty : TypeId) (parts : Array (Nat × Operand)) (ho : o.op = .build ty parts)
    (vals : Array (Nat × Value)) (hp : (parts.map fun (i, x) => (i, a.eval x)) = vals) (v : Value) (hr : (Instr.build ty vals).run P w = .ok v w) (h : wpList P ops Q rest (a.put o.dst v) w) : wpList P ops Q (o :: rest) a w :=
  wpList_plain hgd fun _ hK => wp_build ty parts ho vals hp v hr (hK _ _ h)
theorem step_build {ops : Array Oper} {o : Oper} {a : Act} {w : World} {K : Act → World → Prop} {Q : Exit → Act → World → Prop} {E : Prop} (hgd : o.guard = none) (ty : TypeId) (parts : Array (Nat × Operand)) (ho : o.op = .build ty parts)
    (vals : Array (Nat × Value)) (hp : (parts.map fun (i, x) => (i, a.eval x)) = vals) (v : Value) (hr : (Instr.build ty vals).run P w = .ok v w) (h : K (a.put o.dst v) w) :
    if Region.wanted o (yielded ops a.tmps) = true then Oper.wp P o a w K Q else E := by
  have hw : Region.wanted o (yielded ops a.tmps) = true := by simp [Region.wanted, hgd]
  rw [if_pos hw]
  exact wp_build ty parts ho vals hp v hr h
theorem wp_store_at {o : Oper} {a : Act} {w : World} {K : Act → World → Prop} {Q : Exit → Act → World → Prop} (ty : TypeId) (x y : Operand) (ho : o.op = .store ty x y) (hdst : o.dst = none)
    (g off : Nat) (hx : a.eval x = .pointer (some ⟨g, off, none⟩)) (cs : List Value) (hy : a.eval y = .agg cs.toArray) (hi : (P.info? ty).map (·.size) = some cs.length)
    (cur : List Value) (t : TypeId) (hg : Whole w g t cur.toArray) (hfit : off + cs.length ≤ cur.length) (h1 : ∀ v ∈ cs, v.oneCell' = true)
    (h : ∀ w', Hid (Whole w' g t (cur.take off ++ (cs ++ cur.drop (off + cs.length))).toArray) → Hid (w.grownBy w' (some g)) → K a w') : o.wp P a w K Q := by
  have hrun := run_storeVar_at w ty g off cs hi cur t hg hfit h1
  have hk := h _ (Lib.hid (setRow_whole hg _)) (Lib.hid (setRow_only w g (cur.take off ++ (cs ++ cur.drop (off + cs.length))).toArray))
  unfold Oper.wp execOp
  simp only [ho, hx, hy, Instr.storeAt, Instr.sureAddr, Sem.run_bind, Sem.run_pure, Result.andThen_ok, hrun]
  simpa [Oper.upon, Act.put, hdst] using hk
theorem step_store_at {ops : Array Oper} {o : Oper} {a : Act} {w : World} {K : Act → World → Prop} {Q : Exit → Act → World → Prop} {E : Prop} (hgd : o.guard = none) (ty : TypeId) (x y : Operand) (ho : o.op = .store ty x y) (hdst : o.dst = none)
    (g off : Nat) (hx : a.eval x = .pointer (some ⟨g, off, none⟩)) (cs : List Value) (hy : a.eval y = .agg cs.toArray) (hi : (P.info? ty).map (·.size) = some cs.length)
    (cur : List Value) (t : TypeId) (hg : Whole w g t cur.toArray) (hfit : off + cs.length ≤ cur.length) (h1 : ∀ v ∈ cs, v.oneCell' = true)
    (h : ∀ w', Hid (Whole w' g t (cur.take off ++ (cs ++ cur.drop (off + cs.length))).toArray) → Hid (w.grownBy w' (some g)) → K a w') :
    if Region.wanted o (yielded ops a.tmps) = true then Oper.wp P o a w K Q else E := by
  have hw : Region.wanted o (yielded ops a.tmps) = true := by simp [Region.wanted, hgd]
  rw [if_pos hw]
  exact wp_store_at ty x y ho hdst g off hx cs hy hi cur t hg hfit h1 h
end

/-- a delta as cells -/
def dCells (f : List UInt8) (v1 v2 : Value) (r t : List UInt8) : List Value := f.map B8 ++ (v1 :: v2 :: S r :: t.map B8)
theorem dCells_length {f t : List UInt8} (hf : f.length = 32) (ht : t.length = 32) (v1 v2 : Value) (r : List UInt8) : (dCells f v1 v2 r t).length = 67 := by simp [dCells, hf, ht]
theorem list32 {α : Type} (l : List α) (h : l.length = 32) : ∃ x0 x1 x2 x3 x4 x5 x6 x7 x8 x9 x10 x11 x12 x13 x14 x15 x16 x17 x18 x19 x20 x21 x22 x23 x24 x25 x26 x27 x28 x29 x30 x31, l = [x0, x1, x2, x3, x4, x5, x6, x7, x8, x9, x10, x11, x12, x13, x14, x15, x16, x17, x18, x19, x20, x21, x22, x23, x24, x25, x26, x27, x28, x29, x30, x31] := by
  match l, h with
  | [x0, x1, x2, x3, x4, x5, x6, x7, x8, x9, x10, x11, x12, x13, x14, x15, x16, x17, x18, x19, x20, x21, x22, x23, x24, x25, x26, x27, x28, x29, x30, x31], _ => exact ⟨x0, x1, x2, x3, x4, x5, x6, x7, x8, x9, x10, x11, x12, x13, x14, x15, x16, x17, x18, x19, x20, x21, x22, x23, x24, x25, x26, x27, x28, x29, x30, x31, rfl⟩
set_option maxRecDepth 100000 in
theorem run_build_delta (f t : List UInt8) (hf : f.length = 32) (ht : t.length = 32) (A A' : Option Addr) (n c n' c' : Nat) (r : List UInt8) (w : World) :
    (Instr.build 32 #[(0, D32 f), (1, .slice A n c), (2, .slice A' n' c'), (3, S r), (4, D32 t)]).run Tryd.prog w = .ok (.agg (dCells f (.slice A n c) (.slice A' n' c') r t).toArray) w := by
  obtain ⟨x0, x1, x2, x3, x4, x5, x6, x7, x8, x9, x10, x11, x12, x13, x14, x15, x16, x17, x18, x19, x20, x21, x22, x23, x24, x25, x26, x27, x28, x29, x30, x31, rfl⟩ := list32 f hf
  obtain ⟨y0, y1, y2, y3, y4, y5, y6, y7, y8, y9, y10, y11, y12, y13, y14, y15, y16, y17, y18, y19, y20, y21, y22, y23, y24, y25, y26, y27, y28, y29, y30, y31, rfl⟩ := list32 t ht
  kernel_rfl
theorem dCells_one (f : List UInt8) (A A' : Option Addr) (n c n' c' : Nat) (r t : List UInt8) : ∀ v ∈ dCells f (.slice A n c) (.slice A' n' c') r t, v.oneCell' = true := by
  intro v hv
  simp only [dCells, List.mem_append, List.mem_cons] at hv
  rcases hv with h | h | h | h | h
  · exact B8_one f v h
  · subst h; rfl
  · subst h; rfl
  · subst h; rfl
  · exact B8_one t v h
end Go.Proofs.YtecamaceainfpaaDoor
