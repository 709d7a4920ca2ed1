import Derived.Test.YtmmfcjkabpffeaaGreatDoorMcA
import Derived.Maps.Own
import Derived.Maps.OwnSet
import Derived.Maps.Views
import Derived.Maps.Keyed
namespace Go.Proofs.YtmmfcjkabpffeaaGreatDoor
open Go.RowKit Go.Maps
def Met (w : World) (b : Nat) (used : List Int) : Prop :=
 ∃ D : DataW Unit,w.ownsMap Tryz.prog 3 (plainElem Tryz.prog 4) b used.length D ∧ ∀ x : Int,D.atKey (.int .i64 x) (.lit (.bool false)) = .lit (.bool (used.contains x))
theorem Met.made (w : World) : Met (w.alloc (.map #[] 0)) w.heap.size []:=⟨.map [],World.ownsMap_made _ _ _ _,fun _ => rfl⟩
theorem Met.lt {w : World} {b : Nat} {used : List Int} (h : Met w b used) : b < w.heap.size:=by
 obtain ⟨D,h1,_⟩:=h;exact h1.lt
theorem Met.same {w w' : World} {b : Nat} {used : List Int} (h : Met w b used) (hb : w'.heap[b]? = w.heap[b]?) : Met w' b used:=by
 obtain ⟨D,⟨es,clock,hq,F,hs,hD⟩,h2⟩:=h;exact ⟨D,⟨es,clock,hb.trans hq,F,hs,hD⟩,h2⟩
theorem Met.below {w w' : World} {b B : Nat} {used : List Int} (h : Met w b used) (hb : Below B w w') (hB : b < B) : Met w' b used:=h.same (hb.block b hB)
theorem Met.alloc {w : World} {b : Nat} {used : List Int} (h : Met w b used) (o : Obj) : Met (w.alloc o) b used:=h.same (Below.heap_alloc w o b h.lt)
theorem key_i64 {x : Int} (hx : inJ8 x) : keyOf Tryz.prog 3 (.int .i64 x) = some (.int .i64 x):=keyOf_int_mk Tryz.underlying3 (by
 simp only [Lit.wf,Bool.and_eq_true,decide_eq_true_eq];exact hx)
theorem plainBool_inv {H : Type} {P : Program} {e : TypeId} (he : P.underlying e = some .bool) {v : Value} {z : DataW H × List MemPlace} (h : plainElem P e v = some z) : ∃ x,v = .bool x ∧ z = (.lit (.bool x),[]):=by
 unfold plainElem at h;rw [he] at h;cases v <;> simp at h;exact ⟨_,rfl,h.symm⟩
set_option maxRecDepth 100000 in
theorem Met.look {w : World} {b : Nat} {used : List Int} (h : Met w b used) {x : Int} (hx : inJ8 x) :
  (Instr.lookup 167 (.map (some b)) (.int .i64 x) false).run Tryz.prog w = .ok (.bool (used.contains x)) w:=by
 obtain ⟨D,h1,h2⟩:=h;obtain ⟨v,ps,hrun,hv⟩:=h1.lookup (int_keyed Tryz.underlying3) Tryz.underlying167 (by kernel_rfl) (plainElem_bool Tryz.underlying4 false) (key_i64 hx);rw [h2 x] at hv;obtain ⟨y,rfl,hz⟩:=plainBool_inv Tryz.underlying4 hv;injection hz with hz _;injection hz with hz;injection hz with hz;rw [← hz] at hrun;exact hrun
set_option maxRecDepth 100000 in
theorem Met.add {w : World} {b : Nat} {used : List Int} (h : Met w b used) {x : Int} (hx : inJ8 x) (hl : used.length < maxLen) :
  ∃ w',(Instr.mapUpdate 167 (.map (some b)) (.int .i64 x) (.bool true)).run Tryz.prog w = .ok () w' ∧ Met w' b (used ++ [x]) ∧ w.grownBy w' (some b):=by
 obtain ⟨D,h1,h2⟩:=h;obtain ⟨w',hrun,h3,h4⟩:=h1.update (int_keyed Tryz.underlying3) Tryz.underlying167 hl (key_i64 hx) (plainElem_bool Tryz.underlying4 true);refine ⟨w',hrun,⟨_,by rw [List.length_append];exact h3,fun y => ?_⟩,h4⟩;by_cases hy : y = x
 ·subst hy;rw [atKey_put_same h1.isMap (show WideAt.IsKeyLit (.int .i64 y) from trivial)];simp
 ·rw [atKey_put_other (fun e => hy (by injection e)),h2];simp [hy]
set_option maxRecDepth 100000 in
theorem wpList_met_add {w : World} {ops : Array Oper} {rest : List Oper} {o : Oper} {a : Act} {Q : Exit → Act → World → Prop} (hg : o.guard = none) (m x v : Operand) (hop : o.op = Op.mapUpdate 167 m x v) (hdst : o.dst = none)
  {b : Nat} {used : List Int} (hm : a.eval m = .map (some b)) {y : Int} (hx : a.eval x = .int .i64 y) (hv : a.eval v = .bool true) (h : Met w b used) (hy : inJ8 y) (hl : used.length < maxLen)
  (hK : ∀ w',Hid (Met w' b (used ++ [y])) → Hid (w.grownBy w' (some b)) → wpList Tryz.prog ops Q rest a w') : wpList Tryz.prog ops Q (o :: rest) a w:=by
 refine wpList_plain hg fun K' hK' => ?_;obtain ⟨w',hrun,r1,r2⟩:=h.add hy hl;have hk:=hK' _ _ (hK w' (jj r1) (jj r2));unfold Oper.wp;simp [execOp,hop,hm,hx,hv,hrun,Result.andThen]
 simpa [Oper.upon,Act.put,hdst] using hk
end Go.Proofs.YtmmfcjkabpffeaaGreatDoor
