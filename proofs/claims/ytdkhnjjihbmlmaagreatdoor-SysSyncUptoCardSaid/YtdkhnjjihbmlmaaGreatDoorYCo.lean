import Derived.Test.YtdkhnjjihbmlmaaGreatDoorSureA
import Derived.Test.YtdkhnjjihbmlmaaGreatDoorRowL
import Derived.Deep.AppendSrc
import Derived.Lib.SliceRun
namespace Go.Proofs.YtdkhnjjihbmlmaaGreatDoor
open Go.RowKit
attribute [local go_sem] concat_S
theorem Tryz.infoPs : (Tryz.prog.info? 48).map (fun i => decide (i.bytes ≤ 10000)) = some true:=by kernel_rfl
theorem info_proc : ∃ i,Tryz.prog.info? 48 = some i ∧ i.zero = some (.agg (prCells zeroPr).toArray) ∧ i.size = 96 ∧ i.bytes ≤ 10000:=by
 have h1:=Tryz.infoPr;have h2:=Tryz.infoPs;cases hq : Tryz.prog.info? 48 with
 | none => rw [hq] at h1;simp at h1
 | some i => rw [hq] at h1 h2;simp only [Option.map_some,Option.some.injEq,Prod.mk.injEq,decide_eq_true_eq] at h1 h2;exact ⟨i,rfl,h1.1,h1.2,h2⟩
theorem Tryz.infoPi3 : (Tryz.prog.info? 72).map (fun i => (i.zero,i.size,i.bytes)) = some (some (.agg #[.int .i64 0,.string ⟨#[]⟩]),2,24):=by kernel_rfl
theorem Tryz.infoWr3 : (Tryz.prog.info? 66).map (fun i => (i.zero,i.size,i.bytes)) = some (some (.agg #[.int .i64 0,.string ⟨#[]⟩]),2,24):=by kernel_rfl
theorem own_cap {w : World} {base : Nat} {e : TypeId} {size n c : Nat} {A : Option Addr} {xs : List Value} (h : w.ownsRow base e size (.slice A n c) n xs) : n ≤ c:=by
 rcases h.2 with ⟨h,_⟩ | ⟨g,cap,cur,h,_,_,hc,_⟩
 ·injection h with _ h1 h2;omega
 ·injection h with _ h1 h2;omega
def zeroMc : Mc:=⟨0,0,0,0,[],[],0,[],[],0,[],false,0,[],[],0,[]⟩
def zeroMA : MA:=⟨none,none,none,none,none,none,0,0,0,0,0,0⟩
abbrev zeroML : List Value:=mcL zeroMA zeroMc
theorem grown_setK (w : World) (g K : Nat) (v : Value) : w.grownBy (w.setCell ⟨g,K,none⟩ v) (some g) :=
 ⟨rfl,rfl,rfl,by simp [World.setCell],fun k _ hn => Below.heap_setCell _ _ _ _ (by intro e;exact hn (by rw [e]))⟩
theorem results_cell_tmp {P : Program} {fn : Func} {p q : Tmp} {ty : TypeId} (hr : fn.results = #[.cell p ty,.tmp q]) (tmps : Array Value) (w : World) (g : Nat) (t : TypeId) (cs : Array Value) (v : Value) (fr : Nat × Nat) (d : TypeDesc)
  (hp : tmps.getD p undef = .pointer (some ⟨g,0,none⟩)) (hq : tmps.getD q undef = v) (hg : w.heap[g]? = some (.cells cs t fr))
  (hu : P.underlying ty = some d) (hd : (match d with | .struct _ | .array _ _ => true | _ => false) = true) (hi : (P.info? ty).map (·.size) = some cs.size) :
  (results fn tmps).run P w = .ok (.tuple #[.agg cs,v]) w:=by
 have hp' : tmps[p]?.getD undef = .pointer (some ⟨g,0,none⟩):=(by simpa using hp);have hq' : tmps[q]?.getD undef = v:=(by simpa using hq);simp [results,hr,hp',hq',asAddr,run_loadVar_row w g t ty cs fr d hg hu hd hi]
end Go.Proofs.YtdkhnjjihbmlmaaGreatDoor
