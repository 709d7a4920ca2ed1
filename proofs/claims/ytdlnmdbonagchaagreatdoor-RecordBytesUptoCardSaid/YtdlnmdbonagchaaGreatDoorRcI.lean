import Derived.Test.YtdlnmdbonagchaaGreatDoorRcH
import Derived.Stop.BytesEq
namespace Go.Proofs.YtdlnmdbonagchaaGreatDoor
open Go.RowKit
def gIn (l : List InP) : Nat:=(l.map fun p => p.2.1.length + 1).sum
def gOut (l : List OutP) : Nat:=(l.map fun p => p.2.length + 1).sum
def grB (t : TapeP) : Int:=if 3000 < gIn t.ins + gOut t.outs ∨ (80 < t.st ∧ t.st ≤ 100000) then 1 else 0
theorem gIn_step {l : List InP} {k : Nat} {p : InP} (h : l[k]? = some p) : gIn (l.take (k + 1)) = gIn (l.take k) + (p.2.1.length + 1):=by
 obtain ⟨hl,rfl⟩:=List.getElem?_eq_some_iff.1 h;rw [List.take_succ_eq_append_getElem hl];unfold gIn;rw [List.map_append,List.sum_append];rfl
theorem gOut_step {l : List OutP} {k : Nat} {p : OutP} (h : l[k]? = some p) : gOut (l.take (k + 1)) = gOut (l.take k) + (p.2.length + 1):=by
 obtain ⟨hl,rfl⟩:=List.getElem?_eq_some_iff.1 h;rw [List.take_succ_eq_append_getElem hl];unfold gOut;rw [List.map_append,List.sum_append];rfl
theorem gIn_le (l : List InP) (k : Nat) : gIn (l.take k) ≤ gIn l:=by
 have h : gIn l = gIn (l.take k) + gIn (l.drop k):=by
  conv => lhs;rw [← List.take_append_drop k l]
  unfold gIn;rw [List.map_append,List.sum_append]
 omega
theorem gOut_le (l : List OutP) (k : Nat) : gOut (l.take k) ≤ gOut l:=by
 have h : gOut l = gOut (l.take k) + gOut (l.drop k):=by
  conv => lhs;rw [← List.take_append_drop k l]
  unfold gOut;rw [List.map_append,List.sum_append]
 omega
theorem inSz_le : ∀ l : List InP,inSz l ≤ 102 * gIn l
 | [] => Nat.le_refl _
 | p :: l => by
  have ih:=inSz_le l;have e1 : inSz (p :: l) = 100 + 2 * p.2.1.length + inSz l:=(by simp [inSz]);have e2 : gIn (p :: l) = p.2.1.length + 1 + gIn l:=(by simp [gIn]);omega
theorem outSz_le : ∀ l : List OutP,outSz l ≤ 102 * gOut l
 | [] => Nat.le_refl _
 | p :: l => by
  have ih:=outSz_le l;have e1 : outSz (p :: l) = 100 + 2 * p.2.length + outSz l:=(by simp [outSz]);have e2 : gOut (p :: l) = p.2.length + 1 + gOut l:=(by simp [gOut]);omega
theorem gIn_len (l : List InP) : l.length ≤ gIn l:=by
 induction l with
 | nil => exact Nat.le_refl _
 | cons p l ih => have e2 : gIn (p :: l) = p.2.1.length + 1 + gIn l:=(by simp [gIn]);rw [List.length_cons];omega
theorem gOut_len (l : List OutP) : l.length ≤ gOut l:=by
 induction l with
 | nil => exact Nat.le_refl _
 | cons p l ih => have e2 : gOut (p :: l) = p.2.length + 1 + gOut l:=(by simp [gOut]);rw [List.length_cons];omega
theorem grB_small {t : TapeP} (hF : t.F.length = 32) (hT : t.T.length = 32) (hp : posT t) (h : grB t ≠ 1) : TSz t:=by
 have hs : ¬ (3000 < gIn t.ins + gOut t.outs):=fun e => h (by unfold grB;rw [if_pos (.inl e)]);have h1:=inSz_le t.ins;have h2:=outSz_le t.outs;exact ⟨hF,hT,hp,by omega,by omega⟩
theorem grB_cases (t : TapeP) : grB t = 1 ∨ grB t = 0:=by unfold grB;split <;> simp
set_option maxRecDepth 100000 in
set_option maxHeartbeats 4000000 in
theorem great33_any (w : World) (A D : Option Addr) (c d : Nat) (t : TapeP) (hA : TAt w w.heap.size A D t) (hF : t.F.length = 32) (hT : t.T.length = 32) (hG : gIn t.ins + gOut t.outs ≤ 1099511627776) :
  Calls Tryz.prog 5 #[.agg (tpC t A c D d).toArray] w fun e w' => e = .returned (.int .i64 (grB t)) ∧ Below w.heap.size w w':=by
 have hs0:=Whole.made w 27 (tpC t A c D d).toArray;have hb : Below w.heap.size w (w.alloc (.cells (tpC t A c D d).toArray 27)):=(Below.refl _ _).alloc (Nat.le_refl _) _;go_enter Tryz.func5,Tryz.ntmps5;go_upto_region 1 with (fail);change Code.wp _ _ _ _ (w.alloc (.cells (tpC t A c D d).toArray 27));generalize (w.alloc (.cells (tpC t A c D d).toArray 27)) = w1 at *;generalize hgx : w.heap.size = gx at *;have HGX:=jj hgx;have HS0:=jj hs0;have HW:=jj hb;have hgl : gx < w1.heap.size:=hs0.lt;clear hgx hb hs0;have HA:=jj (hA.below HW.out);have HF:=jj hF;have HT:=jj hT
 have HC : Hid (∀ W,Below w1.heap.size w1 W → W.cell? ⟨gx,32,none⟩ = some (.slice A t.ins.length c) ∧ W.cell? ⟨gx,33,none⟩ = some (.int .i64 t.st) ∧ W.cell? ⟨gx,34,none⟩ = some (.slice D t.outs.length d)):=jj fun W hW => by
  have h:=HS0.out.below hW hgl;exact ⟨by rw [h.cell,List.getElem?_toArray];exact tpL_32 HF.out,by rw [h.cell,List.getElem?_toArray];exact tpL_33 HF.out,by rw [h.cell,List.getElem?_toArray];exact tpL_34 HF.out⟩
 have HAW : Hid (∀ W,Below w1.heap.size w1 W → TAt W W.heap.size A D t):=jj fun W hW => (HA.out.below (hW.mono (by omega))).wide (by have:=hW.size;omega);have HBW : Hid (∀ W,Below w1.heap.size w1 W → Below gx w W):=jj fun W hW => HW.out.trans (hW.mono (by omega));clear hA hF hT;have hli : t.ins.length ≤ 1099511627776:=(by have:=gIn_len t.ins;omega);have hlo : t.outs.length ≤ 1099511627776:=(by have:=gOut_len t.outs;omega);have HG:=jj hG;clear hG;obtain ⟨c32,c33,c34⟩:=HC.out w1 (Below.refl _ _);go_wp2_with fail;clear c32 c33 c34
 go_loopw [3,11] (fun s i wr => ∃ k n : Nat,k ≤ t.ins.length ∧ i = .int .i64 k ∧ s = .int .i64 n ∧ n ≤ 1099511627776 ∧ Hid (n = gIn (t.ins.take k)) ∧ Hid (Below w1.heap.size w1 wr)) (fun _ i _ => t.ins.length - (intOf i).toNat)
 case atStart => exact ⟨0,0,by omega,rfl,rfl,by omega,jj rfl,jj (Below.refl _ _)⟩
 case round =>
  obtain ⟨k,sm,hk,rfl,rfl,hsm,HN,HR⟩:=hrel;by_cases hlt : k < t.ins.length
  ·obtain ⟨p,hp⟩:=get_some hlt;obtain ⟨bd,hbde,hbd,hc⟩:=Lies.row (f:=inCells) (n:=3) (HAW.out wr HR.out).ins (fun y hy => rfl) (by omega) hp;have HST:=jj (gIn_step hp);have HLE:=jj (gIn_le t.ins (k + 1));obtain ⟨n,y,b⟩:=p;have hyl : sm + (y.length + 1) ≤ 1099511627776:=(by have h1:=HST.out;have h2:=HLE.out;have h3:=HN.out;have h4:=HG.out;dsimp only at h1;omega);have hy2 : y.length ≤ 1099511627776:=(by omega);have q0 : (0 : Int) ≤ (k : Int):=(by omega);have q1 : (k : Int) < (t.ins.length : Int):=(by omega);have LD : Hid (∀ j v,(inCells (n,y,b))[j]? = some v → wr.cell? ((bd.add (k * 3)).add j) = some v):=jj fun j v hv => hc j v hv;have HZ:=jj (Whole.made wr 50 [Value.int .u64 0,S [],Value.bool false].toArray);have HWA:=jj (HR.out.alloc HR.out.size (.cells [Value.int .u64 0,S [],Value.bool false].toArray 50));have HGE : Hid (w1.heap.size ≤ wr.heap.size):=jj HR.out.size;clear hc hp hbd;subst hbde
   go_wp2_with (first
    | (refine wpList_load_at rfl 50 (.tmp 13) rfl (bd.add (k * 3)) rfl (inCells (n,y,b)) _ LD.out Tryz.underlying50 rfl (by kernel_rfl) ?_)
    | (refine wpList_store_all rfl 50 (.tmp 5) (.tmp 14) rfl rfl wr.heap.size rfl (inCells (n,y,b)) rfl (by kernel_rfl) [Value.int .u64 0,S [],Value.bool false] 50 HZ.out rfl (in_one (n,y,b)) ?_
       intro w2 HX HF2;have k1 : w2.cell? ⟨wr.heap.size,1,none⟩ = some (S y):=HX.out.cell 1))
   have HW2:=jj (below_grown HWA.out HF2.out (by simp;have:=HGE.out;omega) HGE.out);clear k1;have HNN : Hid (sm + (y.length + 1) = gIn (t.ins.take (k + 1))):=jj (by have h1:=HST.out;have h3:=HN.out;dsimp only at h1;omega)
   go_roundw
   case rel =>
    have R : ∃ k' n' : Nat,k' ≤ t.ins.length ∧ Value.int .i64 ((k : Int) + 1) = .int .i64 k' ∧ Value.int .i64 ((sm : Int) + ((y.length : Int) + 1)) = .int .i64 n' ∧ n' ≤ 1099511627776 ∧ Hid (n' = gIn (t.ins.take k')) ∧ Hid (Below w1.heap.size w1 w2):=⟨k + 1,sm + (y.length + 1),by omega,by go_num,by go_num,hyl,HNN,HW2⟩
    first | exact R | ((repeat apply Exists.intro);exact ⟨R,rfl⟩)
   case measure => simp [intOf];omega
  ·obtain rfl : k = t.ins.length:=(by omega);have hd : decide (t.ins.length < t.ins.length) = false:=(by simp);rw [List.take_of_length_le (Nat.le_refl _)] at HN;obtain ⟨c32,c33,c34⟩:=HC.out wr HR.out;obtain ⟨gi,hgi⟩ : ∃ z,z = sm:=⟨_,rfl⟩;subst hgi;have HGI : Hid (gi = gIn t.ins):=HN;have HRQ:=HR;clear HN HR hlt hk;go_wp2_with fail;clear c32 c33 c34
   go_loopw [3,25] (fun s i wr => ∃ k n : Nat,k ≤ t.outs.length ∧ i = .int .i64 k ∧ s = .int .i64 n ∧ n ≤ 1099511627776 ∧ Hid (n = gi + gOut (t.outs.take k)) ∧ Hid (Below w1.heap.size w1 wr)) (fun _ i _ => t.outs.length - (intOf i).toNat)
   case atStart => exact ⟨0,gi,by omega,rfl,rfl,by omega,jj rfl,HRQ⟩
   case round =>
    obtain ⟨k,sm,hk,rfl,rfl,hsm,HN,HR⟩:=hrel;by_cases hlt : k < t.outs.length
    ·obtain ⟨p,hp⟩:=get_some hlt;obtain ⟨bd,hbde,hbd,hc⟩:=Lies.row (f:=outCells) (n:=2) (HAW.out wr HR.out).outs (fun y hy => rfl) (by omega) hp;have HST:=jj (gOut_step hp);have HLE:=jj (gOut_le t.outs (k + 1));obtain ⟨n,y⟩:=p;have hyl : sm + (y.length + 1) ≤ 1099511627776:=(by have h1:=HST.out;have h2:=HLE.out;have h3:=HN.out;have h4:=HG.out;have h5:=HGI.out;dsimp only at h1;omega);have hy2 : y.length ≤ 1099511627776:=(by omega);have q0 : (0 : Int) ≤ (k : Int):=(by omega);have q1 : (k : Int) < (t.outs.length : Int):=(by omega);have LD : Hid (∀ j v,(outCells (n,y))[j]? = some v → wr.cell? ((bd.add (k * 2)).add j) = some v):=jj fun j v hv => hc j v hv;have HZ:=jj (Whole.made wr 54 [Value.int .u64 0,S []].toArray);have HWA:=jj (HR.out.alloc HR.out.size (.cells [Value.int .u64 0,S []].toArray 54));have HGE : Hid (w1.heap.size ≤ wr.heap.size):=jj HR.out.size;clear hc hp hbd;subst hbde
     go_wp2_with (first
      | (refine wpList_load_at rfl 54 (.tmp 27) rfl (bd.add (k * 2)) rfl (outCells (n,y)) _ LD.out Tryz.underlying54 rfl (by kernel_rfl) ?_)
      | (refine wpList_store_all rfl 54 (.tmp 7) (.tmp 28) rfl rfl wr.heap.size rfl (outCells (n,y)) rfl (by kernel_rfl) [Value.int .u64 0,S []] 54 HZ.out rfl (out_one (n,y)) ?_
         intro w2 HX HF2;have k1 : w2.cell? ⟨wr.heap.size,1,none⟩ = some (S y):=HX.out.cell 1))
     have HW2:=jj (below_grown HWA.out HF2.out (by simp;have:=HGE.out;omega) HGE.out);clear k1;have HNN : Hid (sm + (y.length + 1) = gi + gOut (t.outs.take (k + 1))):=jj (by have h1:=HST.out;have h3:=HN.out;dsimp only at h1;omega)
     go_roundw
     case rel =>
      have R : ∃ k' n' : Nat,k' ≤ t.outs.length ∧ Value.int .i64 ((k : Int) + 1) = .int .i64 k' ∧ Value.int .i64 ((sm : Int) + ((y.length : Int) + 1)) = .int .i64 n' ∧ n' ≤ 1099511627776 ∧ Hid (n' = gi + gOut (t.outs.take k')) ∧ Hid (Below w1.heap.size w1 w2):=⟨k + 1,sm + (y.length + 1),by omega,by go_num,by go_num,hyl,HNN,HW2⟩
      first | exact R | ((repeat apply Exists.intro);exact ⟨R,rfl⟩)
     case measure => simp [intOf];omega
    ·obtain rfl : k = t.outs.length:=(by omega);have hd : decide (t.outs.length < t.outs.length) = false:=(by simp);rw [List.take_of_length_le (Nat.le_refl _)] at HN;obtain ⟨c32,c33,c34⟩:=HC.out wr HR.out;by_cases h3 : 3000 < sm
     ·have d3 : decide ((sm : Int) > 3000) = true:=(by simp;omega);have d3' : decide ((3000 : Int) < (sm : Int)) = true:=d3;have HQ : Hid (grB t = 1):=jj (by unfold grB;rw [if_pos (.inl (by have:=HN.out;have:=HGI.out;omega))]);clear h3;go_wp2_with fail;go_ret;exact ⟨by rw [HQ.out];try rfl,by rw [HGX.out];exact HBW.out _ HR.out⟩
     ·have d3 : decide ((sm : Int) > 3000) = false:=(by simp;omega);have d3' : decide ((3000 : Int) < (sm : Int)) = false:=d3;have H3:=jj h3;obtain ⟨st,hst⟩ : ∃ z,t.st = z:=⟨_,rfl⟩;rw [hst] at c33;have HST:=jj hst;clear h3 hst;by_cases h4 : 80 < st
      ·have d4 : decide (st > 80) = true:=(by simp;omega);have d4' : decide ((80 : Int) < st) = true:=d4;by_cases h5 : st ≤ 100000
       ·have d5 : decide (st ≤ 100000) = true:=(by simp;omega);have HQ : Hid (grB t = 1):=jj (by unfold grB;rw [if_pos (.inr (by rw [HST.out];exact ⟨h4,h5⟩))]);clear h4 h5;go_wp2_with fail;go_ret;exact ⟨by rw [HQ.out];try rfl,by rw [HGX.out];exact HBW.out _ HR.out⟩
       ·have d5 : decide (st ≤ 100000) = false:=(by simp;omega);have HQ : Hid (grB t = 0):=jj (by unfold grB;rw [if_neg (by rw [HST.out];have:=HN.out;have:=HGI.out;have:=H3.out;omega)]);clear h4 h5;go_wp2_with fail;go_ret;exact ⟨by rw [HQ.out];try rfl,by rw [HGX.out];exact HBW.out _ HR.out⟩
      ·have d4 : decide (st > 80) = false:=(by simp;omega);have d4' : decide ((80 : Int) < st) = false:=d4;have HQ : Hid (grB t = 0):=jj (by unfold grB;rw [if_neg (by rw [HST.out];have:=HN.out;have:=HGI.out;have:=H3.out;omega)]);clear h4;go_wp2_with fail;go_ret;exact ⟨by rw [HQ.out];try rfl,by rw [HGX.out];exact HBW.out _ HR.out⟩
section
variable {P : Program}
theorem oper_neq_aggS {o : Oper} {K : Act → World → Prop} {a : Act} {w : World} {Q : Exit → Act → World → Prop} (ty : TypeId) (x y : Operand) (ho : o.op = .binOp .neq ty x y ty) (cs ds : Array Value) (hx : a.eval x = .agg cs) (hy : a.eval y = .agg ds)
  (hg : P.eqGuardType P.depth ty = false) (r : Bool) (hr : (binOp .neq ty (.agg cs) (.agg ds)).run P w = .ok (.bool r) w) (h : K (a.put o.dst (.bool r)) w) : o.wp P a w K Q:=by
 unfold Oper.wp execOp;simp only [ho,hx,hy,Sem.run_bind,run_eqGuard_agg w .neq ty x y cs ds hg,Result.andThen_ok,hr,Sem.run_pure];exact h
theorem wpList_wantedS {ops : Array Oper} {rest : List Oper} {o : Oper} {a : Act} {w : World} {Q : Exit → Act → World → Prop} (hw : Region.wanted o (yielded ops a.tmps) = true)
  (h : ∀ K : Act → World → Prop,(∀ a w,wpList P ops Q rest a w → K a w) → o.wp P a w K Q) : wpList P ops Q (o :: rest) a w :=
 wpList_step fun K hK => by rw [if_pos hw];exact h K hK
theorem wpList_load_gS {ops : Array Oper} {rest : List Oper} {o : Oper} {a : Act} {w : World} {Q : Exit → Act → World → Prop} (hw : Region.wanted o (yielded ops a.tmps) = true) (ty : TypeId) (x : Operand) (ho : o.op = .load ty x)
  (ad : Addr) (hx : a.eval x = .pointer (some ad)) (cs : List Value) (d : TypeDesc) (hc : ∀ j v,cs[j]? = some v → w.cell? (ad.add j) = some v)
  (hu : P.underlying ty = some d) (hd : (match d with | .struct _ | .array _ _ => true | _ => false) = true) (hi : (P.info? ty).map (·.size) = some cs.length)
  (h : wpList P ops Q rest (a.put o.dst (.agg cs.toArray)) w) : wpList P ops Q (o :: rest) a w :=
 wpList_wantedS hw fun _ hK => by
  unfold Oper.wp execOp;simp only [ho,hx,Instr.loadAt,Instr.sureAddr,Sem.run_bind,Sem.run_pure,Result.andThen_ok,run_loadVar_at w ad ty cs d hc hu hd hi];exact hK _ _ h
theorem wpList_neq_gS {ops : Array Oper} {rest : List Oper} {o : Oper} {a : Act} {w : World} {Q : Exit → Act → World → Prop} (hw : Region.wanted o (yielded ops a.tmps) = true) (ty : TypeId) (x y : Operand) (ho : o.op = .binOp .neq ty x y ty) (cs ds : Array Value) (hx : a.eval x = .agg cs) (hy : a.eval y = .agg ds)
  (hg : P.eqGuardType P.depth ty = false) (r : Bool) (hr : (binOp .neq ty (.agg cs) (.agg ds)).run P w = .ok (.bool r) w) (h : wpList P ops Q rest (a.put o.dst (.bool r)) w) : wpList P ops Q (o :: rest) a w :=
 wpList_wantedS hw fun _ hK => oper_neq_aggS ty x y ho cs ds hx hy hg r hr (hK _ _ h)
end
theorem neq_dig (x : List UInt8) (hx : x.length = 32) (W : World) : (binOp .neq 23 (.agg (x.map B8).toArray) (.agg (x.map B8).toArray)).run Tryz.prog W = .ok (.bool false) W:=by
 rw [run_neq_struct];have:=run_equalIn_bytes W 9998 23 5 32 Tryz.underlying23 Tryz.underlying5 (fun _ => by kernel_rfl) x x hx hx;rw [show (.agg (x.map B8).toArray : Value) = .agg (x.map Extern.Stop.cell).toArray from rfl,this];simp
theorem neq_in (x : InP) (W : World) : (binOp .neq 50 (.agg (inCells x).toArray) (.agg (inCells x).toArray)).run Tryz.prog W = .ok (.bool false) W:=by
 obtain ⟨n,y,b⟩:=x;simp only [inCells];go_simp
theorem neq_out (x : OutP) (W : World) : (binOp .neq 54 (.agg (outCells x).toArray) (.agg (outCells x).toArray)).run Tryz.prog W = .ok (.bool false) W:=by
 obtain ⟨n,y⟩:=x;simp only [outCells];go_simp
set_option maxRecDepth 100000 in
set_option maxHeartbeats 4000000 in
theorem tsame_any (w : World) (A D A' D' : Option Addr) (c d c' d' : Nat) (t : TapeP) (hA0 : TAt w w.heap.size A D t) (hA1 : TAt w w.heap.size A' D' t) (hF : t.F.length = 32) (hT : t.T.length = 32) (hli : t.ins.length ≤ 1099511627776) (hlo : t.outs.length ≤ 1099511627776) :
  Calls Tryz.prog 10 #[.agg (tpC t A c D d).toArray,.agg (tpC t A' c' D' d').toArray] w fun e w' => e = .returned (.bool true) ∧ Below w.heap.size w w':=by
 have hs0:=(Whole.made w 27 (tpC t A c D d).toArray).block (.cells (tpC t A' c' D' d').toArray 27);have hs1:=Whole.made (w.alloc (.cells (tpC t A c D d).toArray 27)) 27 (tpC t A' c' D' d').toArray;rw [show (w.alloc (.cells (tpC t A c D d).toArray 27)).heap.size = w.heap.size + 1 by simp] at hs1;have hb : Below w.heap.size w ((w.alloc (.cells (tpC t A c D d).toArray 27)).alloc (.cells (tpC t A' c' D' d').toArray 27)):=((Below.refl _ _).alloc (by first | exact Nat.le_refl _ | simp | (simp;omega)) _).alloc (by first | exact Nat.le_refl _ | simp | (simp;omega)) _;go_enter Tryz.func10,Tryz.ntmps10;go_upto_region 1 with (fail);change Code.wp _ _ _ _ ((w.alloc (.cells (tpC t A c D d).toArray 27)).alloc (.cells (tpC t A' c' D' d').toArray 27));generalize ((w.alloc (.cells (tpC t A c D d).toArray 27)).alloc (.cells (tpC t A' c' D' d').toArray 27)) = w1 at *;generalize hgx : w.heap.size = gx at *;have HGX:=jj hgx;have HS0:=jj hs0;have HS1:=jj hs1;have HW:=jj hb;have hgl : gx + 1 < w1.heap.size:=hs1.lt;clear hgx hb hs0 hs1;have HF:=jj hF;have HT:=jj hT
 have HC0 : Hid (∀ W,Below w1.heap.size w1 W → W.cell? ⟨gx,32,none⟩ = some (.slice A t.ins.length c) ∧ W.cell? ⟨gx,33,none⟩ = some (.int .i64 t.st) ∧ W.cell? ⟨gx,34,none⟩ = some (.slice D t.outs.length d)):=jj fun W hW => by
  have h:=HS0.out.below hW HS0.out.lt;exact ⟨by rw [h.cell,List.getElem?_toArray];exact tpL_32 HF.out,by rw [h.cell,List.getElem?_toArray];exact tpL_33 HF.out,by rw [h.cell,List.getElem?_toArray];exact tpL_34 HF.out⟩
 have HFF0 : Hid (∀ j v,(t.F.map B8)[j]? = some v → w1.cell? ((⟨gx,0,none⟩ : Addr).add j) = some v):=jj fun j v hv => by
  rw [show (⟨gx,0,none⟩ : Addr).add j = ⟨gx,j,none⟩ by unfold Addr.add;by_cases h : j = 0 <;> simp [h]];rw [HS0.out.cell,List.getElem?_toArray];have:=tpL_from (v1:=.slice A t.ins.length c) (s:=t.st) (v2:=.slice D t.outs.length d) (T:=t.T) j v hv
  rwa [Nat.zero_add] at this
 have HTT0 : Hid (∀ j v,(t.T.map B8)[j]? = some v → w1.cell? ((⟨gx,35,none⟩ : Addr).add j) = some v):=jj fun j v hv => by
  rw [show (⟨gx,35,none⟩ : Addr).add j = ⟨gx,35 + j,none⟩ by unfold Addr.add;by_cases h : j = 0 <;> simp [h]];rw [HS0.out.cell,List.getElem?_toArray];exact tpL_to HF.out j v hv
 have HAW0 : Hid (∀ W,Below w1.heap.size w1 W → TAt W W.heap.size A D t):=jj fun W hW => (hA0.below HW.out |>.below (hW.mono (by omega))).wide (by have:=hW.size;omega)
 have HC1 : Hid (∀ W,Below w1.heap.size w1 W → W.cell? ⟨gx + 1,32,none⟩ = some (.slice A' t.ins.length c') ∧ W.cell? ⟨gx + 1,33,none⟩ = some (.int .i64 t.st) ∧ W.cell? ⟨gx + 1,34,none⟩ = some (.slice D' t.outs.length d')):=jj fun W hW => by
  have h:=HS1.out.below hW HS1.out.lt;exact ⟨by rw [h.cell,List.getElem?_toArray];exact tpL_32 HF.out,by rw [h.cell,List.getElem?_toArray];exact tpL_33 HF.out,by rw [h.cell,List.getElem?_toArray];exact tpL_34 HF.out⟩
 have HFF1 : Hid (∀ j v,(t.F.map B8)[j]? = some v → w1.cell? ((⟨gx + 1,0,none⟩ : Addr).add j) = some v):=jj fun j v hv => by
  rw [show (⟨gx + 1,0,none⟩ : Addr).add j = ⟨gx + 1,j,none⟩ by unfold Addr.add;by_cases h : j = 0 <;> simp [h]];rw [HS1.out.cell,List.getElem?_toArray];have:=tpL_from (v1:=.slice A' t.ins.length c') (s:=t.st) (v2:=.slice D' t.outs.length d') (T:=t.T) j v hv
  rwa [Nat.zero_add] at this
 have HTT1 : Hid (∀ j v,(t.T.map B8)[j]? = some v → w1.cell? ((⟨gx + 1,35,none⟩ : Addr).add j) = some v):=jj fun j v hv => by
  rw [show (⟨gx + 1,35,none⟩ : Addr).add j = ⟨gx + 1,35 + j,none⟩ by unfold Addr.add;by_cases h : j = 0 <;> simp [h]];rw [HS1.out.cell,List.getElem?_toArray];exact tpL_to HF.out j v hv
 have HAW1 : Hid (∀ W,Below w1.heap.size w1 W → TAt W W.heap.size A' D' t):=jj fun W hW => (hA1.below HW.out |>.below (hW.mono (by omega))).wide (by have:=hW.size;omega);have HBW : Hid (∀ W,Below w1.heap.size w1 W → Below gx w W):=jj fun W hW => HW.out.trans (hW.mono (by omega));have MF : Hid ((Tryz.prog.info? 23).map (·.size) = some (t.F.map B8).length):=jj (by rw [List.length_map,HF.out];kernel_rfl);have MT : Hid ((Tryz.prog.info? 23).map (·.size) = some (t.T.map B8).length):=jj (by rw [List.length_map,HT.out];kernel_rfl);have NF:=jj (neq_dig t.F HF.out w1);have NT:=jj (neq_dig t.T HT.out w1);clear hA0 hA1 hF hT;obtain ⟨c32,c33,c34⟩:=HC0.out w1 (Below.refl _ _);obtain ⟨k32,k33,k34⟩:=HC1.out w1 (Below.refl _ _);have e1 : (t.st != t.st) = false:=(by simp);have e2 : ((t.ins.length : Int) != (t.ins.length : Int)) = false:=(by simp);have e3 : ((t.outs.length : Int) != (t.outs.length : Int)) = false:=(by simp)
 go_wp2_with (first
  | (refine wpList_load_at rfl 23 (.tmp 7) rfl ⟨gx,0,none⟩ rfl (t.F.map B8) _ HFF0.out Tryz.underlying23 rfl MF.out ?_)
  | (refine wpList_load_at rfl 23 (.tmp 9) rfl ⟨gx + 1,0,none⟩ rfl (t.F.map B8) _ HFF1.out Tryz.underlying23 rfl MF.out ?_)
  | (refine wpList_neq_gS rfl 23 (.tmp 8) (.tmp 10) rfl _ _ rfl rfl (by kernel_rfl) _ NF.out ?_)
  | (refine wpList_load_gS rfl 23 (.tmp 13) rfl ⟨gx,35,none⟩ rfl (t.T.map B8) _ HTT0.out Tryz.underlying23 rfl MT.out ?_)
  | (refine wpList_load_gS rfl 23 (.tmp 15) rfl ⟨gx + 1,35,none⟩ rfl (t.T.map B8) _ HTT1.out Tryz.underlying23 rfl MT.out ?_)
  | (refine wpList_neq_gS rfl 23 (.tmp 14) (.tmp 16) rfl _ _ rfl rfl (by kernel_rfl) _ NT.out ?_))
 clear c32 c33 c34 k32 k33 k34 e1 e2 e3
 go_loopw [47] (fun i wr => ∃ k : Nat,k ≤ t.ins.length ∧ i = .int .i64 k ∧ Hid (Below w1.heap.size w1 wr)) (fun i _ => t.ins.length - (intOf i).toNat)
 case atStart => exact ⟨0,by omega,rfl,jj (Below.refl _ _)⟩
 case round =>
  obtain ⟨k,hk,rfl,HR⟩:=hrel;by_cases hlt : k < t.ins.length
  ·obtain ⟨p,hp⟩:=get_some hlt;obtain ⟨ad,hade,had,hc⟩:=Lies.row (f:=inCells) (n:=3) (HAW0.out wr HR.out).ins (fun y hy => rfl) (by omega) hp;obtain ⟨bd,hbde,hbd,hc'⟩:=Lies.row (f:=inCells) (n:=3) (HAW1.out wr HR.out).ins (fun y hy => rfl) (by omega) hp;have hzr:=HR.out.size;have q0 : (0 : Int) ≤ (k : Int):=(by omega);have q1 : (k : Int) < (t.ins.length : Int):=(by omega);have LD : Hid (∀ W,Below wr.heap.size wr W → ∀ j v,(inCells p)[j]? = some v → W.cell? ((ad.add (k * 3)).add j) = some v):=jj fun W hW j v hv => (hW.cell (by rw [add_block,add_block];exact had)).trans (hc j v hv);have LE : Hid (∀ W,Below wr.heap.size wr W → ∀ j v,(inCells p)[j]? = some v → W.cell? ((bd.add (k * 3)).add j) = some v):=jj fun W hW j v hv => (hW.cell (by rw [add_block,add_block];exact hbd)).trans (hc' j v hv);have PI : Hid ((Tryz.prog.info? 50).map (·.size) = some (inCells p).length):=jj (by kernel_rfl);have HK0 : Hid (∀ W,Below wr.heap.size wr W → W.cell? ⟨gx,32,none⟩ = some (.slice (some ad) t.ins.length c)):=jj fun W hW => (by rw [← hade];exact (HC0.out W (HR.out.trans (hW.mono hzr))).1);have HK1 : Hid (∀ W,Below wr.heap.size wr W → W.cell? ⟨gx + 1,32,none⟩ = some (.slice (some bd) t.ins.length c')):=jj fun W hW => (by rw [← hbde];exact (HC1.out W (HR.out.trans (hW.mono hzr))).1);have d1 : decide ((k : Int) < (t.ins.length : Int)) = true:=decide_eq_true q1;have d2 : decide (k < t.ins.length) = true:=decide_eq_true hlt;clear hc hc' hp had hbd hade hbde;go_upto_region 6 with (fail);refine' wp_region_sure (by kernel_rfl) (fun W => Below wr.heap.size wr W) 11 [_,_,_,_,_,_,_,_,_,_,.bool false] [some 50,some 51,some 52,some 53,some 54,some 55,some 56,some 57,some 58,some 59,some 60] (by kernel_rfl) (by kernel_rfl) (by kernel_rfl) (by kernel_rfl) rfl (Below.refl _ _).drew ?hsin
   case hsin =>
    refine sure_cons ?_ ?_
    ·intro L ac W K hed hJ hS hK;have hA2 : ac.eval (.tmp 2) = .pointer (some ⟨gx,0,none⟩):=hJ.eval_old 2 (by kernel_rfl);clear hed hJ;refine opStep_of rfl ?_;unfold Oper.wp execOp;have hN2:=evalN hA2;go_simp;exact hK _ hS
    refine sure_cons ?_ ?_
    ·intro L ac W K hed hJ hS hK;have hn:=needs_spec (l:=[0]) (by kernel_rfl) hed;have hA50:=hJ.eval 0 (d:=50) (hn 0 (by simp)) rfl rfl rfl;clear hed hJ hn;refine opStep_of rfl ?_;have cc:=HK0.out W hS;unfold Oper.wp execOp;have hN50:=evalN hA50;go_simp;exact hK _ hS
    refine sure_cons ?_ ?_
    ·intro L ac W K hed hJ hS hK;have hA5 : ac.eval (.tmp 5) = .int .i64 (k : Int):=hJ.eval_old 5 (by kernel_rfl);clear hed hJ;refine opStep_of rfl ?_;unfold Oper.wp execOp;have hN5:=evalN hA5;go_simp;exact hK _ hS
    refine sure_cons ?_ ?_
    ·intro L ac W K hed hJ hS hK;have hn:=needs_spec (l:=[1,2]) (by kernel_rfl) hed;have hA51:=hJ.eval 1 (d:=51) (hn 1 (by simp)) rfl rfl rfl;have hA52:=hJ.eval 2 (d:=52) (hn 2 (by simp)) rfl rfl rfl;clear hed hJ hn;refine opStep_of rfl ?_;unfold Oper.wp execOp;have hN51:=evalN hA51;have hN52:=evalN hA52;go_simp;exact hK _ hS
    refine sure_cons ?_ ?_
    ·intro L ac W K hed hJ hS hK;have hn:=needs_spec (l:=[3]) (by kernel_rfl) hed;have hA53:=hJ.eval 3 (d:=53) (hn 3 (by simp)) rfl rfl rfl;clear hed hJ hn;refine opStep_of rfl ?_;refine oper_load_at 50 (.tmp 53) rfl (ad.add (k * 3)) hA53 (inCells p) _ (LD.out W hS) Tryz.underlying50 rfl PI.out ?_;exact hK _ hS
    refine sure_cons ?_ ?_
    ·intro L ac W K hed hJ hS hK;have hA3 : ac.eval (.tmp 3) = .pointer (some ⟨gx + 1,0,none⟩):=hJ.eval_old 3 (by kernel_rfl);clear hed hJ;refine opStep_of rfl ?_;unfold Oper.wp execOp;have hN3:=evalN hA3;go_simp;exact hK _ hS
    refine sure_cons ?_ ?_
    ·intro L ac W K hed hJ hS hK;have hn:=needs_spec (l:=[5]) (by kernel_rfl) hed;have hA55:=hJ.eval 5 (d:=55) (hn 5 (by simp)) rfl rfl rfl;clear hed hJ hn;refine opStep_of rfl ?_;have cc:=HK1.out W hS;unfold Oper.wp execOp;have hN55:=evalN hA55;go_simp;exact hK _ hS
    refine sure_cons ?_ ?_
    ·intro L ac W K hed hJ hS hK;have hA5 : ac.eval (.tmp 5) = .int .i64 (k : Int):=hJ.eval_old 5 (by kernel_rfl);clear hed hJ;refine opStep_of rfl ?_;unfold Oper.wp execOp;have hN5:=evalN hA5;go_simp;exact hK _ hS
    refine sure_cons ?_ ?_
    ·intro L ac W K hed hJ hS hK;have hn:=needs_spec (l:=[6,7]) (by kernel_rfl) hed;have hA56:=hJ.eval 6 (d:=56) (hn 6 (by simp)) rfl rfl rfl;have hA57:=hJ.eval 7 (d:=57) (hn 7 (by simp)) rfl rfl rfl;clear hed hJ hn;refine opStep_of rfl ?_;unfold Oper.wp execOp;have hN56:=evalN hA56;have hN57:=evalN hA57;go_simp;exact hK _ hS
    refine sure_cons ?_ ?_
    ·intro L ac W K hed hJ hS hK;have hn:=needs_spec (l:=[8]) (by kernel_rfl) hed;have hA58:=hJ.eval 8 (d:=58) (hn 8 (by simp)) rfl rfl rfl;clear hed hJ hn;refine opStep_of rfl ?_;refine oper_load_at 50 (.tmp 58) rfl (bd.add (k * 3)) hA58 (inCells p) _ (LE.out W hS) Tryz.underlying50 rfl PI.out ?_;exact hK _ hS
    refine sure_cons ?_ ?_
    ·intro L ac W K hed hJ hS hK;have hn:=needs_spec (l:=[4,9]) (by kernel_rfl) hed;have hA54:=hJ.eval 4 (d:=54) (hn 4 (by simp)) rfl rfl rfl;have hA59:=hJ.eval 9 (d:=59) (hn 9 (by simp)) rfl rfl rfl;clear hed hJ hn;refine opStep_of rfl ?_;refine oper_neq_aggS 50 (.tmp 54) (.tmp 59) rfl (inCells p).toArray (inCells p).toArray hA54 hA59 (by kernel_rfl) false (neq_in p W) ?_;exact hK _ hS
    refine sure_nil ?_;intro W hS;simp only [putAll,Act.put,List.setIfInBounds_toArray,List.set_cons_zero,List.set_cons_succ];have HR6:=jj (HR.out.trans (hS.mono hzr));clear hS;go_wp2_with fail
    go_roundw
    case rel =>
     have R : ∃ k' : Nat,k' ≤ t.ins.length ∧ Value.int .i64 ((k : Int) + 1) = .int .i64 k' ∧ Hid (Below w1.heap.size w1 W):=⟨k + 1,by omega,by go_num,HR6⟩
     first | exact R | ((repeat apply Exists.intro);exact ⟨R,rfl⟩)
    case measure => simp [intOf];omega
  ·obtain rfl : k = t.ins.length:=(by omega);have hd : decide (t.ins.length < t.ins.length) = false:=(by simp);obtain ⟨c32,c33,c34⟩:=HC0.out wr HR.out;have HRQ:=HR;clear HR hlt hk;go_wp2_with fail;clear c32 c33 c34
   go_loopw [65] (fun i wr => ∃ k : Nat,k ≤ t.outs.length ∧ i = .int .i64 k ∧ Hid (Below w1.heap.size w1 wr)) (fun i _ => t.outs.length - (intOf i).toNat)
   case atStart => exact ⟨0,by omega,rfl,HRQ⟩
   case round =>
    obtain ⟨k,hk,rfl,HR⟩:=hrel;by_cases hlt : k < t.outs.length
    ·obtain ⟨p,hp⟩:=get_some hlt;obtain ⟨ad,hade,had,hc⟩:=Lies.row (f:=outCells) (n:=2) (HAW0.out wr HR.out).outs (fun y hy => rfl) (by omega) hp;obtain ⟨bd,hbde,hbd,hc'⟩:=Lies.row (f:=outCells) (n:=2) (HAW1.out wr HR.out).outs (fun y hy => rfl) (by omega) hp;have hzr:=HR.out.size;have q0 : (0 : Int) ≤ (k : Int):=(by omega);have q1 : (k : Int) < (t.outs.length : Int):=(by omega);have LD : Hid (∀ W,Below wr.heap.size wr W → ∀ j v,(outCells p)[j]? = some v → W.cell? ((ad.add (k * 2)).add j) = some v):=jj fun W hW j v hv => (hW.cell (by rw [add_block,add_block];exact had)).trans (hc j v hv);have LE : Hid (∀ W,Below wr.heap.size wr W → ∀ j v,(outCells p)[j]? = some v → W.cell? ((bd.add (k * 2)).add j) = some v):=jj fun W hW j v hv => (hW.cell (by rw [add_block,add_block];exact hbd)).trans (hc' j v hv);have PI : Hid ((Tryz.prog.info? 54).map (·.size) = some (outCells p).length):=jj (by kernel_rfl);have HK0 : Hid (∀ W,Below wr.heap.size wr W → W.cell? ⟨gx,34,none⟩ = some (.slice (some ad) t.outs.length d)):=jj fun W hW => (by rw [← hade];exact (HC0.out W (HR.out.trans (hW.mono hzr))).2.2);have HK1 : Hid (∀ W,Below wr.heap.size wr W → W.cell? ⟨gx + 1,34,none⟩ = some (.slice (some bd) t.outs.length d')):=jj fun W hW => (by rw [← hbde];exact (HC1.out W (HR.out.trans (hW.mono hzr))).2.2);have d1 : decide ((k : Int) < (t.outs.length : Int)) = true:=decide_eq_true q1;have d2 : decide (k < t.outs.length) = true:=decide_eq_true hlt;clear hc hc' hp had hbd hade hbde;go_upto_region 12 with (fail);refine' wp_region_sure (by kernel_rfl) (fun W => Below wr.heap.size wr W) 11 [_,_,_,_,_,_,_,_,_,_,.bool false] [some 68,some 69,some 70,some 71,some 72,some 73,some 74,some 75,some 76,some 77,some 78] (by kernel_rfl) (by kernel_rfl) (by kernel_rfl) (by kernel_rfl) rfl (Below.refl _ _).drew ?hsout
     case hsout =>
      refine sure_cons ?_ ?_
      ·intro L ac W K hed hJ hS hK;have hA2 : ac.eval (.tmp 2) = .pointer (some ⟨gx,0,none⟩):=hJ.eval_old 2 (by kernel_rfl);clear hed hJ;refine opStep_of rfl ?_;unfold Oper.wp execOp;have hN2:=evalN hA2;go_simp;exact hK _ hS
      refine sure_cons ?_ ?_
      ·intro L ac W K hed hJ hS hK;have hn:=needs_spec (l:=[0]) (by kernel_rfl) hed;have hA68:=hJ.eval 0 (d:=68) (hn 0 (by simp)) rfl rfl rfl;clear hed hJ hn;refine opStep_of rfl ?_;have cc:=HK0.out W hS;unfold Oper.wp execOp;have hN68:=evalN hA68;go_simp;exact hK _ hS
      refine sure_cons ?_ ?_
      ·intro L ac W K hed hJ hS hK;have hA6 : ac.eval (.tmp 6) = .int .i64 (k : Int):=hJ.eval_old 6 (by kernel_rfl);clear hed hJ;refine opStep_of rfl ?_;unfold Oper.wp execOp;have hN6:=evalN hA6;go_simp;exact hK _ hS
      refine sure_cons ?_ ?_
      ·intro L ac W K hed hJ hS hK;have hn:=needs_spec (l:=[1,2]) (by kernel_rfl) hed;have hA69:=hJ.eval 1 (d:=69) (hn 1 (by simp)) rfl rfl rfl;have hA70:=hJ.eval 2 (d:=70) (hn 2 (by simp)) rfl rfl rfl;clear hed hJ hn;refine opStep_of rfl ?_;unfold Oper.wp execOp;have hN69:=evalN hA69;have hN70:=evalN hA70;go_simp;exact hK _ hS
      refine sure_cons ?_ ?_
      ·intro L ac W K hed hJ hS hK;have hn:=needs_spec (l:=[3]) (by kernel_rfl) hed;have hA71:=hJ.eval 3 (d:=71) (hn 3 (by simp)) rfl rfl rfl;clear hed hJ hn;refine opStep_of rfl ?_;refine oper_load_at 54 (.tmp 71) rfl (ad.add (k * 2)) hA71 (outCells p) _ (LD.out W hS) Tryz.underlying54 rfl PI.out ?_;exact hK _ hS
      refine sure_cons ?_ ?_
      ·intro L ac W K hed hJ hS hK;have hA3 : ac.eval (.tmp 3) = .pointer (some ⟨gx + 1,0,none⟩):=hJ.eval_old 3 (by kernel_rfl);clear hed hJ;refine opStep_of rfl ?_;unfold Oper.wp execOp;have hN3:=evalN hA3;go_simp;exact hK _ hS
      refine sure_cons ?_ ?_
      ·intro L ac W K hed hJ hS hK;have hn:=needs_spec (l:=[5]) (by kernel_rfl) hed;have hA73:=hJ.eval 5 (d:=73) (hn 5 (by simp)) rfl rfl rfl;clear hed hJ hn;refine opStep_of rfl ?_;have cc:=HK1.out W hS;unfold Oper.wp execOp;have hN73:=evalN hA73;go_simp;exact hK _ hS
      refine sure_cons ?_ ?_
      ·intro L ac W K hed hJ hS hK;have hA6 : ac.eval (.tmp 6) = .int .i64 (k : Int):=hJ.eval_old 6 (by kernel_rfl);clear hed hJ;refine opStep_of rfl ?_;unfold Oper.wp execOp;have hN6:=evalN hA6;go_simp;exact hK _ hS
      refine sure_cons ?_ ?_
      ·intro L ac W K hed hJ hS hK;have hn:=needs_spec (l:=[6,7]) (by kernel_rfl) hed;have hA74:=hJ.eval 6 (d:=74) (hn 6 (by simp)) rfl rfl rfl;have hA75:=hJ.eval 7 (d:=75) (hn 7 (by simp)) rfl rfl rfl;clear hed hJ hn;refine opStep_of rfl ?_;unfold Oper.wp execOp;have hN74:=evalN hA74;have hN75:=evalN hA75;go_simp;exact hK _ hS
      refine sure_cons ?_ ?_
      ·intro L ac W K hed hJ hS hK;have hn:=needs_spec (l:=[8]) (by kernel_rfl) hed;have hA76:=hJ.eval 8 (d:=76) (hn 8 (by simp)) rfl rfl rfl;clear hed hJ hn;refine opStep_of rfl ?_;refine oper_load_at 54 (.tmp 76) rfl (bd.add (k * 2)) hA76 (outCells p) _ (LE.out W hS) Tryz.underlying54 rfl PI.out ?_;exact hK _ hS
      refine sure_cons ?_ ?_
      ·intro L ac W K hed hJ hS hK;have hn:=needs_spec (l:=[4,9]) (by kernel_rfl) hed;have hA72:=hJ.eval 4 (d:=72) (hn 4 (by simp)) rfl rfl rfl;have hA77:=hJ.eval 9 (d:=77) (hn 9 (by simp)) rfl rfl rfl;clear hed hJ hn;refine opStep_of rfl ?_;refine oper_neq_aggS 54 (.tmp 72) (.tmp 77) rfl (outCells p).toArray (outCells p).toArray hA72 hA77 (by kernel_rfl) false (neq_out p W) ?_;exact hK _ hS
      refine sure_nil ?_;intro W hS;simp only [putAll,Act.put,List.setIfInBounds_toArray,List.set_cons_zero,List.set_cons_succ];have HR6:=jj (HR.out.trans (hS.mono hzr));clear hS;go_wp2_with fail
      go_roundw
      case rel =>
       have R : ∃ k' : Nat,k' ≤ t.outs.length ∧ Value.int .i64 ((k : Int) + 1) = .int .i64 k' ∧ Hid (Below w1.heap.size w1 W):=⟨k + 1,by omega,by go_num,HR6⟩
       first | exact R | ((repeat apply Exists.intro);exact ⟨R,rfl⟩)
      case measure => simp [intOf];omega
    ·obtain rfl : k = t.outs.length:=(by omega);have hd : decide (t.outs.length < t.outs.length) = false:=(by simp);go_wp2_with fail;go_ret;exact ⟨rfl,by rw [HGX.out];exact HBW.out _ HR.out⟩
end Go.Proofs.YtdlnmdbonagchaaGreatDoor
