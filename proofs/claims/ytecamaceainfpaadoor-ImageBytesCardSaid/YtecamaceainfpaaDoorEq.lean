/-
  Laws: two digests held against each other; a whole array loaded by a guarded operation.
-/
import Derived.Test.YtecamaceainfpaaDoorSum
import Derived.Test.YtecamaceainfpaaDoorLaws
import Derived.Stop.BytesEq
namespace Go.Proofs.YtecamaceainfpaaDoor
open Go.RowKit
theorem eql_D32 (x y : List UInt8) (hx : x.length = 32) (hy : y.length = 32) (W : World) : (binOp .eql 29 (D32 x) (D32 y)).run Tryd.prog W = .ok (.bool (x == y)) W :=
  run_eql_bytes W 29 5 32 Tryd.underlying29 Tryd.underlying5 (fun _ => by kernel_rfl) x y hx hy
theorem neq_D32 (x y : List UInt8) (hx : x.length = 32) (hy : y.length = 32) (W : World) : (binOp .neq 29 (D32 x) (D32 y)).run Tryd.prog W = .ok (.bool (x != y)) W := by
  rw [run_neq_struct]
  have := run_equalIn_bytes W 9998 29 5 32 Tryd.underlying29 Tryd.underlying5 (fun _ => by kernel_rfl) x y hx hy
  rw [show (.agg (x.map B8).toArray : Value) = .agg (x.map Extern.Stop.cell).toArray from rfl, show (.agg (y.map B8).toArray : Value) = .agg (y.map Extern.Stop.cell).toArray from rfl, this]
  rfl
theorem eqIn_D32 (x y : List UInt8) (hx : x.length = 32) (hy : y.length = 32) (W : World) : (Op.equalIn 10000 29 (D32 x) (D32 y)).run Tryd.prog W = .ok (x == y) W :=
  run_equalIn_bytes W 9998 29 5 32 Tryd.underlying29 Tryd.underlying5 (fun _ => by kernel_rfl) x y hx hy
section
variable {P : Program}
theorem wpList_wanted {ops : Array Oper} {rest : List Oper} {o : Oper} {a : Act} {w : World} {Q : Exit → Act → World → Prop} (hw : Region.wanted o (yielded ops a.tmps) = true)
    (h : ∀ K : Act → World → Prop, (∀ a w, wpList P ops Q rest a w → K a w) → o.wp P a w K Q) : wpList P ops Q (o :: rest) a w :=
  wpList_step fun K hK => by rw [if_pos hw]; exact h K hK
/-- a whole array loaded, the operation guarded and wanted -/
theorem wpList_load_g {ops : Array Oper} {rest : List Oper} {o : Oper} {a : Act} {w : World} {Q : Exit → Act → World → Prop} (hw : Region.wanted o (yielded ops a.tmps) = true) (ty : TypeId) (x : Operand) (ho : o.op = .load ty x)
    (ad : Addr) (hx : a.eval x = .pointer (some ad)) (cs : List Value) (d : TypeDesc) (hc : ∀ j v, cs[j]? = some v → w.cell? (ad.add j) = some v)
    (hu : P.underlying ty = some d) (hd : (match d with | .struct _ | .array _ _ => true | _ => false) = true) (hi : (P.info? ty).map (·.size) = some cs.length)
    (h : wpList P ops Q rest (a.put o.dst (.agg cs.toArray)) w) : wpList P ops Q (o :: rest) a w :=
  wpList_wanted hw fun _ hK => by
    unfold Oper.wp execOp
    simp only [ho, hx, Instr.loadAt, Instr.sureAddr, Sem.run_bind, Sem.run_pure, Result.andThen_ok, run_loadVar_at w ad ty cs d hc hu hd hi]
    exact hK _ _ h
end
end Go.Proofs.YtecamaceainfpaaDoor
