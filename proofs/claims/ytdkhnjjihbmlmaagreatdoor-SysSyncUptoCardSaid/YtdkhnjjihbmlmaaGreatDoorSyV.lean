import Derived.Test.YtdkhnjjihbmlmaaGreatDoorCards
import Derived.Test.YtdkhnjjihbmlmaaGreatDoorTie
import Derived.Test.YtdkhnjjihbmlmaaGreatDoorSyW1
import Derived.Test.YtdkhnjjihbmlmaaGreatDoorArgsG
import Derived.Test.YtdkhnjjihbmlmaaGreatDoorArgsY
import Derived.Test.YtdkhnjjihbmlmaaGreatDoorSyM
import Derived.Lay
namespace Go.Proofs.YtdkhnjjihbmlmaaGreatDoor.sysSync
open Go.ChangeShapes Go.WideShapes Go.ChangeAt Go.RowKit
set_option maxRecDepth 100000 in
theorem contract (H : Type) (enc : TypeId × Value → H) (W : World) (base : Nat) (args : Array Value) (ds gs : List (DataW H)) (before : List MemPlace)
  (hval : ∀ (j : Nat) t v,Tryz.f3.params[j]? = some t → args[j]? = some v → Value.okWide Tryz.prog W .any base t v)
  (hW : DataW.Whole enc Tryz.prog Tryz.f3.params.toList Rows.sysSyncSpec.vars false W args.toList ds gs before)
  (hL : laidMetH Tryz.prog Rows.sysSyncUptoRow.laid W) (hk : Rows.uptoSmall H (ds ++ gs) = true) :
  Calls Tryz.prog 3 args W fun e W' => ∃ v,e = .returned v ∧ Rows.sysSyncSpec.post enc Tryz.prog Tryz.f3 false true false false W args v W':=by
 have hW':=hW;obtain ⟨p,q,hA0,hV,rfl,hfz,hnd⟩:=hW;have hA : DataW.TrodAll enc Tryz.prog W 0 (fun _ => true) true Tryz.f3.params.toList args.toList ds p:=hA0;rw [Tryz.params3] at hA hval;obtain ⟨v0,d0,rfl,rfl,h0⟩:=trodAll_one hA;obtain ⟨rfl,rfl⟩:=trodVars_none hV;have hbulk : Rows.uptoBulkAll [d0] ≤ 1048576:=(by rw [List.append_nil] at hk;exact of_decide_eq_true hk);simp only [Rows.uptoBulkAll] at hbulk;have hv0:=hval 0 30 v0 rfl rfl;obtain ⟨a,m,rfl,hMA,hm'⟩:=open_mc hv0 h0;have bm:=bulk_mc h0;have hm:=hm'.bulk bm (by omega);have b1:=bm.frames;have b2:=bm.procs;have b3:=bm.pipes;have b4:=bm.dirty;have b5:=bm.blocks;have b6:=bm.pend;have b7:=bm.inp;have b8:=bm.init;have walk:=syncLaw_any W a m hm ⟨by omega,by omega,by omega,by omega,by omega,by omega,by omega,by omega⟩ hMA (tabs_of_laid hL);simp only [List.append_nil] at hW';have hlt : ∀ x ∈ p,x.block < W.heap.size:=fun x hx => (by simpa using hW'.lt x (by simpa using hx));refine walk.mono fun e W' ⟨he,hb⟩ => ?_;subst he;refine ⟨_,rfl,[d0],[],p,[],p,[],by simpa using hW',trodAll_cons_mk (shut_bool Tryz.underlying4 _) trodAll_mk0,?_,rfl,hb.frame _,fun h => by cases h⟩;exact trodAll_mk1 (Below.trod laidOut (by kernel_rfl) (of_decide_eq_true (by kernel_rfl)) h0 hb hlt)
set_option maxRecDepth 100000 in
theorem liftedUpto (os : Os) (started : os.Started) (H : Type) (enc : TypeId × Value → H) (F : Stop.Interp) :
  ReturnsInHanded {} Tryz.checked os 3 .any ((Rows.OpenSpec.upto Rows.sysSyncSpec).preRow enc Tryz.prog Tryz.f3 Rows.sysSyncUptoRow.domain false Rows.sysSyncUptoRow.laid) (((Rows.OpenSpec.upto Rows.sysSyncSpec).at F).post enc Tryz.prog Tryz.f3 false true false false):=by
 obtain ⟨places,hx⟩:=reads os enc
 refine returnsInHanded_of_row (C:=Tryz.checked) (s:=Rows.OpenSpec.upto Rows.sysSyncSpec) own started (by kernel_rfl) Tryz.func3
  (witness_row_at (enc:=enc) (C:=Tryz.checked) false (laidWorld os) #[noMach] rfl (by kernel_rfl) (by kernel_rfl) (by kernel_rfl)
   (OpenSpec.preRow_of_cond 8 hx (by kernel_rfl) (fun k hk => by cases hk;kernel_rfl) (by kernel_rfl) (laid_met os))) ?_
 intro W base args ds gs before hval hW _ hc2 _ hL _ _;exact contract H enc W base args ds gs before hval hW hL (hc2 _ rfl)
theorem saidUpto : Rows.SysSyncUptoSaid :=
 OpenClaim.holds_of_cond 3 Tryz.f3 rfl rfl rfl rfl rfl rfl rfl ⟨rfl,rfl,rfl,rfl,rfl⟩ rfl rfl rfl rfl rfl (by kernel_rfl) Tryz.func3 joined
  (of_decide_eq_true (by kernel_rfl)) (by unfold Func.isWrapper;first | (rw [if_pos (by decide +kernel)];kernel_rfl) | (rw [if_neg (by decide +kernel)];exact ⟨rfl,rfl⟩))
  (fun os started H enc _ F => by rw [OpenClaim.pre_eq_preRow];exact liftedUpto os started H enc F)
end Go.Proofs.YtdkhnjjihbmlmaaGreatDoor.sysSync
