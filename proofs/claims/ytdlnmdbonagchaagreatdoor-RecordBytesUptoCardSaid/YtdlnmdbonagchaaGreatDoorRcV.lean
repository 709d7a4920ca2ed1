import Derived.Test.YtdlnmdbonagchaaGreatDoorCards
import Derived.Test.YtdlnmdbonagchaaGreatDoorTie
import Derived.Test.YtdlnmdbonagchaaGreatDoorRcW
import Derived.Test.YtdlnmdbonagchaaGreatDoorArgsR
import Derived.Lay
namespace Go.Proofs.YtdlnmdbonagchaaGreatDoor.recordBytes
open Go.ChangeShapes Go.WideShapes Go.ChangeAt Go.RowKit
set_option maxRecDepth 100000 in
theorem contract (H : Type) (enc : TypeId × Value → H) (W : World) (base : Nat) (args : Array Value) (ds gs : List (DataW H)) (before : List MemPlace)
  (hval : ∀ (j : Nat) t v,Tryz.f3.params[j]? = some t → args[j]? = some v → Value.okWide Tryz.prog W .any base t v)
  (hW : DataW.Whole enc Tryz.prog Tryz.f3.params.toList Rows.recordBytesSpec.vars false W args.toList ds gs before) (hL : laidMetH Tryz.prog Rows.recordBytesUptoRow.laid W)
  (hk : Rows.uptoSmall H (ds ++ gs) = true) :
  Calls Tryz.prog 3 args W fun e W' => ∃ v,e = .returned v ∧ Rows.recordBytesSpec.post enc Tryz.prog Tryz.f3 false true false false W args v W':=by
 have hW':=hW;obtain ⟨p,q,hA0,hV,rfl,hfz,hnd⟩:=hW;have hA : DataW.TrodAll enc Tryz.prog W 0 (fun _ => true) true Tryz.f3.params.toList args.toList ds p:=hA0;rw [Tryz.params3] at hA hval;obtain ⟨v0,v1,d0,d1,p0,p1,rfl,rfl,rfl,h0,h1⟩:=trodAll_two hA;obtain ⟨rfl,rfl⟩:=trodVars_none hV;have hbulk : Rows.uptoBulkAll [d0,d1] ≤ 1048576:=(by rw [List.append_nil] at hk;exact of_decide_eq_true hk);simp only [Rows.uptoBulkAll] at hbulk;have hv0:=hval 0 27 v0 rfl rfl;obtain ⟨t,V,rfl,hF,hT,hV0,hP,hs⟩:=open_tape hv0 h0;have hv1:=hval 1 9 v1 rfl rfl;obtain ⟨s,rfl,hd1,_,_⟩:=Go.ChangeMaps.open_string Tryz.underlying9 hv1 h1;have hsl : s.data.toList.length + 1 = Rows.uptoBulk d1:=(by rw [hd1];rfl);have hI:=itabs_of_laid (laidMet.tail (laidMet.tail (laidMet.tail (laidMet.tail hL))));have walk:=rclaw_any W t V s.data.toList (amb_of (tabs_of_laid (laidMet.tail (laidMet.tail hL))) hI.1) hI hV0 hF hT hP (by omega);rw [← S_of] at walk;simp only [List.append_nil] at hW';have hlt : ∀ x ∈ p0 ++ p1,x.block < W.heap.size:=fun x hx => (by simpa using hW'.lt x hx);refine walk.mono fun e W' ⟨he,hb⟩ => ?_;subst he;refine ⟨_,rfl,[d0,d1],[],p0 ++ p1,[],p0 ++ p1,[],by simpa using hW',trodAll_cons_mk (shut_bool Tryz.underlying4 _) trodAll_mk0,?_,rfl,hb.frame _,fun h => by cases h⟩;exact trodAll_mk2 (Below.trod laidOut (by kernel_rfl) (of_decide_eq_true (by kernel_rfl)) h0 hb (fun x hx => hlt x (List.mem_append_left _ hx))) (Below.trod laidOut (by kernel_rfl) (of_decide_eq_true (by kernel_rfl)) h1 hb (fun x hx => hlt x (List.mem_append_right _ hx)))
set_option maxRecDepth 100000 in
theorem liftedUpto (os : Os) (started : os.Started) (H : Type) (enc : TypeId × Value → H) (F : Stop.Interp) :
  ReturnsInHanded {} Tryz.checked os 3 .any ((Rows.OpenSpec.upto Rows.recordBytesSpec).preRow enc Tryz.prog Tryz.f3 Rows.recordBytesUptoRow.domain false Rows.recordBytesUptoRow.laid) (((Rows.OpenSpec.upto Rows.recordBytesSpec).at F).post enc Tryz.prog Tryz.f3 false true false false):=by
 obtain ⟨places,hx⟩:=reads os enc
 refine returnsInHanded_of_row (C:=Tryz.checked) (s:=Rows.OpenSpec.upto Rows.recordBytesSpec) own started (by kernel_rfl) Tryz.func3
  (witness_row_at (enc:=enc) (C:=Tryz.checked) false (laidWorld os) #[none67,noText] rfl (by kernel_rfl) (by kernel_rfl) (by kernel_rfl)
   (OpenSpec.preRow_of_cond 8 hx (by kernel_rfl) (fun k hk => by cases hk;kernel_rfl) (by kernel_rfl) (laid_met os))) ?_
 intro W base args ds gs before hval hW _ hc2 _ hL _ _;exact contract H enc W base args ds gs before hval hW hL (hc2 _ rfl)
theorem saidUpto : Rows.RecordBytesUptoSaid :=
 OpenClaim.holds_of_cond 3 Tryz.f3 rfl rfl rfl rfl rfl rfl rfl ⟨rfl,rfl,rfl,rfl,rfl⟩ rfl rfl rfl rfl rfl (by kernel_rfl) Tryz.func3 joined
  (of_decide_eq_true (by kernel_rfl)) (by unfold Func.isWrapper;first | (rw [if_pos (by decide +kernel)];kernel_rfl) | (rw [if_neg (by decide +kernel)];exact ⟨rfl,rfl⟩))
  (fun os started H enc _ F => by rw [OpenClaim.pre_eq_preRow];exact liftedUpto os started H enc F)
end Go.Proofs.YtdlnmdbonagchaaGreatDoor.recordBytes
