/-
  More laws over any program: a whole array or struct stored into a block that is known whole.
-/
import Derived.Test.YtecamaceainfpaaDoorWords
import Derived.Laws.CopyRow
import Derived.Lib.Hide
namespace Go.Proofs.YtecamaceainfpaaDoor
open Go.RowKit
section
variable {P : Program}
theorem run_storeVar_at (w : World) (ty : TypeId) (g off : Nat) (cs : List Value) (hi : (P.info? ty).map (·.size) = some cs.length)
    (cur : List Value) (t : TypeId) (hg : Whole w g t cur.toArray) (hfit : off + cs.length ≤ cur.length) (h1 : ∀ v ∈ cs, v.oneCell' = true) :
    (storeVar ty ⟨g, off, none⟩ (.agg cs.toArray)).run P w = .ok () (w.setRow g (cur.take off ++ (cs ++ cur.drop (off + cs.length))).toArray) := by
  cases hq : P.info? ty with
  | none => simp [hq] at hi
  | some i =>
    have hs : i.size = cs.length := by simpa [hq] using hi
    have hrun := run_storeCells_at (P := P) g off t cs 0 cur.toArray w hg (by simpa using hfit) h1
    simp only [Nat.add_zero, List.append_assoc] at hrun
    simp [storeVar, sizeOf, typeInfo, hq, hs, Value.cells, hrun]
/-- a whole array or struct stored into a block that is known whole -/
theorem wpList_store_at {ops : Array Oper} {rest : List Oper} {o : Oper} {a : Act} {w : World} {Q : Exit → Act → World → Prop} (hgd : o.guard = none) (ty : TypeId) (x y : Operand) (ho : o.op = .store ty x y) (hdst : o.dst = none)
    (g off : Nat) (hx : a.eval x = .pointer (some ⟨g, off, none⟩)) (cs : List Value) (hy : a.eval y = .agg cs.toArray) (hi : (P.info? ty).map (·.size) = some cs.length)
    (cur : List Value) (t : TypeId) (hg : Whole w g t cur.toArray) (hfit : off + cs.length ≤ cur.length) (h1 : ∀ v ∈ cs, v.oneCell' = true)
    (h : ∀ w', Hid (Whole w' g t (cur.take off ++ (cs ++ cur.drop (off + cs.length))).toArray) → Hid (w.grownBy w' (some g)) → wpList P ops Q rest a w') : wpList P ops Q (o :: rest) a w :=
  wpList_plain hgd fun _ hK => by
    have hrun := run_storeVar_at w ty g off cs hi cur t hg hfit h1
    have hw' : Whole (w.setRow g (cur.take off ++ (cs ++ cur.drop (off + cs.length))).toArray) g t (cur.take off ++ (cs ++ cur.drop (off + cs.length))).toArray := setRow_heap w g _ _ t _ hg
    have hf : w.grownBy (w.setRow g (cur.take off ++ (cs ++ cur.drop (off + cs.length))).toArray) (some g) :=
      ⟨rfl, rfl, rfl, by simp [World.setRow], fun j _ hne => by simp only [World.setRow, Array.getElem?_modify]; rw [if_neg (fun e => hne (by rw [e]))]⟩
    have hk := hK _ _ (h _ (Lib.hid hw') (Lib.hid hf))
    unfold Oper.wp execOp
    simp only [ho, hx, hy, Instr.storeAt, Instr.sureAddr, Sem.run_bind, Sem.run_pure, Result.andThen_ok, hrun]
    simpa [Oper.upon, Act.put, hdst] using hk
end
end Go.Proofs.YtecamaceainfpaaDoor
