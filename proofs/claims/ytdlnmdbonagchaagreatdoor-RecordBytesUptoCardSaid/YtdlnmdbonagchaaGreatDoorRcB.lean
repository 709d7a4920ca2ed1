import Derived.Test.YtdlnmdbonagchaaGreatDoorRcA
namespace Go.Proofs.YtdlnmdbonagchaaGreatDoor
open Go.RowKit
def tpL (F : List UInt8) (v1 : Value) (s : Int) (v2 : Value) (T : List UInt8) : List Value:=F.map B8 ++ (v1 :: .int .i64 s :: v2 :: T.map B8)
section
variable {F T : List UInt8} {v1 v2 : Value} {s : Int}
theorem tpL_length (hF : F.length = 32) (hT : T.length = 32) : (tpL F v1 s v2 T).length = 67:=by simp [tpL,hF,hT]
theorem tpL_32 (hF : F.length = 32) : (tpL F v1 s v2 T)[32]? = some v1:=by unfold tpL;rw [List.getElem?_append_right (by simp [hF])];simp [hF]
theorem tpL_33 (hF : F.length = 32) : (tpL F v1 s v2 T)[33]? = some (.int .i64 s):=by unfold tpL;rw [List.getElem?_append_right (by simp [hF])];simp [hF]
theorem tpL_34 (hF : F.length = 32) : (tpL F v1 s v2 T)[34]? = some v2:=by unfold tpL;rw [List.getElem?_append_right (by simp [hF])];simp [hF]
theorem tpL_from : ∀ j v,(F.map B8)[j]? = some v → (tpL F v1 s v2 T)[0 + j]? = some v:=fun j v h => by
 unfold tpL;rw [Nat.zero_add,List.getElem?_append_left (List.getElem?_eq_some_iff.1 h).1];exact h
theorem tpL_to (hF : F.length = 32) : ∀ j v,(T.map B8)[j]? = some v → (tpL F v1 s v2 T)[35 + j]? = some v:=fun j v h => by
 unfold tpL;rw [List.getElem?_append_right (by simp [hF];omega)];rw [show 35 + j - (F.map B8).length = j + 3 by simp [hF];omega];exact h
theorem tpL_one (h1 : v1.oneCell' = true) (h2 : v2.oneCell' = true) : ∀ v ∈ tpL F v1 s v2 T,v.oneCell' = true:=by
 intro v hv;unfold tpL at hv;simp only [List.mem_append,List.mem_map,List.mem_cons] at hv;rcases hv with ⟨b,_,rfl⟩ | rfl | rfl | rfl | ⟨b,_,rfl⟩
 ·rfl
 ·exact h1
 ·rfl
 ·exact h2
 ·rfl
end
structure TAt (w : World) (B : Nat) (A : Option Addr) (D : Option Addr) (t : TapeP) : Prop where
 ins : Ins w B A t.ins
 outs : Outs w B D t.outs
theorem TAt.below {w w' : World} {B : Nat} {A D : Option Addr} {t : TapeP} (h : TAt w B A D t) (hb : Below B w w') : TAt w' B A D t:=⟨Lies.below h.ins hb,Lies.below h.outs hb⟩
theorem TAt.wide {w : World} {B B' : Nat} {A D : Option Addr} {t : TapeP} (h : TAt w B A D t) (hb : B ≤ B') : TAt w B' A D t:=⟨Lies.wide h.ins hb,Lies.wide h.outs hb⟩
abbrev tpC (t : TapeP) (A : Option Addr) (c : Nat) (D : Option Addr) (d : Nat) : List Value:=tpL t.F (.slice A t.ins.length c) t.st (.slice D t.outs.length d) t.T
structure TOk (t : TapeP) : Prop where
 F : t.F.length = 32
 T : t.T.length = 32
 ins : t.ins.length ≤ 1099511627776
 outs : t.outs.length ≤ 1099511627776
set_option maxRecDepth 100000 in
theorem hollow_any (w : World) (n : Int) (y : List UInt8) : Calls Tryz.prog 49 #[.agg (outCells (n,y)).toArray] w fun e w' => e = .returned (.bool y.isEmpty) ∧ Below w.heap.size w w':=by
 have hx:=Whole.made w 54 (outCells (n,y)).toArray;have c1 : (w.alloc (.cells (outCells (n,y)).toArray 54)).cell? ⟨w.heap.size,1,none⟩ = some (S y):=hx.cell 1;clear hx;go_enter Tryz.func49,Tryz.ntmps49;cases y with
 | nil => go_wp2_with fail;go_ret;exact ⟨rfl,(Below.refl _ _).alloc (Nat.le_refl _) _⟩
 | cons c y =>
  have hne : (⟨(c :: y).toArray⟩ : ByteArray) ≠ ⟨#[]⟩:=fun e => by
   have:=congrArg ByteArray.size e;simp [ByteArray.size] at this
  have hne1 : ((⟨(c :: y).toArray⟩ : ByteArray).toList == (⟨#[]⟩ : ByteArray).toList) = false:=(by rw [ByteArray.toList_eq];simp);go_wp2_with fail;go_ret;exact ⟨rfl,(Below.refl _ _).alloc (Nat.le_refl _) _⟩
theorem someB_no {l : List OutP} {k : Nat} {p : OutP} (h : l[k]? = some p) (h1 : p.2.isEmpty = true) : someB l = false:=by
 unfold someB;rw [List.all_eq_false];exact ⟨p,List.mem_of_getElem? h,by simp [h1]⟩
theorem someB_yes {l : List OutP} (h : ∀ j p,j < l.length → l[j]? = some p → p.2.isEmpty = false) : someB l = true:=by
 unfold someB;rw [List.all_eq_true];intro p hp;obtain ⟨j,hj⟩:=List.mem_iff_getElem?.1 hp;rw [h j p (List.getElem?_eq_some_iff.1 hj).1 hj];rfl
def HIdx (w : World) (l : List OutP) (e : Ending) (w' : World) : Prop:=(∃ z : Int,e = .returned (.int .i64 z) ∧ decide (z ≥ 0) = !someB l) ∧ Below w.heap.size w w'
set_option maxRecDepth 100000 in
set_option maxHeartbeats 2000000 in
theorem hidx_any (w : World) (A : Option Addr) (c : Nat) (l : List OutP) (hA : Outs w w.heap.size A l) (hl : l.length ≤ 1099511627776) :
  Calls Tryz.prog 82 #[.slice A l.length c,.func (.func 49) #[] #[]] w (HIdx w l):=by
 have HA:=jj hA;clear hA;go_enter Tryz.func82,Tryz.ntmps82;go_wp2_with fail
 go_loopw [8] (fun i wr => ∃ k : Nat,k ≤ l.length ∧ i = .int .i64 k ∧ Hid (∀ j p,j < k → l[j]? = some p → p.2.isEmpty = false) ∧ Hid (Below w.heap.size w wr)) (fun i _ => l.length - (intOf i).toNat)
 case atStart => exact ⟨0,by omega,rfl,jj (fun j _ hj => absurd hj (Nat.not_lt_zero j)),jj (Below.refl _ _)⟩
 case round =>
  obtain ⟨k,hk,rfl,HK,HW⟩:=hrel;by_cases hlt : k < l.length
  ·obtain ⟨p,hp⟩:=get_some hlt;have HLT:=jj hlt;obtain ⟨bd,rfl,hbd,hc⟩:=Lies.row (f:=outCells) (n:=2) HA.out (fun y hy => rfl) (by omega) hp;have HP:=jj hp;obtain ⟨n,y⟩:=p;have q0 : (0 : Int) ≤ (k : Int):=(by omega);have q1 : (k : Int) < (l.length : Int):=(by omega);have LD : Hid (∀ j v,(outCells (n,y))[j]? = some v → wr.cell? ((bd.add (k * 2)).add j) = some v):=jj fun j v hv => (HW.out.cell (by show ((bd.add (k * 2)).add j).block < _;rw [add_block,add_block];exact hbd)).trans (hc j v hv);clear hc hp;go_wp2_with (refine wpList_load_at rfl 54 (.tmp 14) rfl (bd.add (k * 2)) rfl (outCells (n,y)) _ LD.out Tryz.underlying54 rfl (by kernel_rfl) ?_);refine (hollow_any wr n y).mono ?_;rintro e w2 ⟨rfl,hb2⟩;have HW2:=jj (HW.out.trans (hb2.mono HW.out.size));clear hb2;cases hy : y.isEmpty with
   | true => have HQ:=jj (someB_no HP.out hy);go_wp2_with fail;go_ret;exact ⟨⟨k,rfl,by rw [HQ.out];simp⟩,HW2.out⟩
   | false =>
    have HY:=jj hy;go_wp2_with fail
    go_roundw
    case rel =>
     have R : ∃ k' : Nat,k' ≤ l.length ∧ Value.int .i64 ((k : Int) + 1) = .int .i64 k' ∧ Hid (∀ j p,j < k' → l[j]? = some p → p.2.isEmpty = false) ∧ Hid (Below w.heap.size w w2):=⟨k + 1,by have:=HLT.out;omega,by go_num,jj (fun j p hj hp => by
      rcases Nat.lt_or_ge j k with h | h
      ·exact HK.out j p h hp
      ·obtain rfl : j = k:=(by omega);rw [HP.out] at hp;cases hp;exact HY.out),HW2⟩
     first | exact R | ((repeat apply Exists.intro);exact ⟨R,rfl⟩)
    case measure => first | (simp [intOf];done) | (simp [intOf];have:=HLT.out;omega)
  ·obtain rfl : k = l.length:=(by omega);have hd : decide (l.length < l.length) = false:=(by simp);go_wp2_with fail;go_ret;exact ⟨⟨-1,rfl,by rw [someB_yes HK.out];rfl⟩,HW.out⟩
set_option maxRecDepth 100000 in
set_option maxHeartbeats 1000000 in
theorem hollows_any (w : World) (A : Option Addr) (c : Nat) (l : List OutP) (hA : Outs w w.heap.size A l) (hl : l.length ≤ 1099511627776) :
  Calls Tryz.prog 48 #[.slice A l.length c,.func (.func 49) #[] #[]] w fun e w' => e = .returned (.bool (!someB l)) ∧ Below w.heap.size w w':=by
 have HC:=jj (hidx_any w A c l hA hl);clear hA;go_enter Tryz.func48,Tryz.ntmps48;go_wp2_with fail;refine HC.out.mono ?_;rintro e w1 ⟨⟨z,rfl,hz⟩,hb⟩;have HZ:=jj hz;clear hz;go_wp2_with fail;go_ret;exact ⟨by rw [← HZ.out];rfl,hb⟩
set_option maxRecDepth 100000 in
set_option maxHeartbeats 4000000 in
theorem mayBe_any (w : World) (A D : Option Addr) (c d : Nat) (t : TapeP) (hA : TAt w w.heap.size A D t) (hO : TOk t) :
  Calls Tryz.prog 14 #[.agg (tpC t A c D d).toArray] w fun e w' => e = .returned (.bool (mayB t)) ∧ Below w.heap.size w w':=by
 have hs0:=Whole.made w 27 (tpC t A c D d).toArray;have hb : Below w.heap.size w (w.alloc (.cells (tpC t A c D d).toArray 27)):=(Below.refl _ _).alloc (Nat.le_refl _) _;go_enter Tryz.func14,Tryz.ntmps14;go_upto_region 1 with (fail);change Code.wp _ _ _ _ (w.alloc (.cells (tpC t A c D d).toArray 27));generalize (w.alloc (.cells (tpC t A c D d).toArray 27)) = w1 at *;generalize hgx : w.heap.size = gx at *;have HGX:=jj hgx;have HS0:=jj hs0;have HW:=jj hb;have hgl : gx < w1.heap.size:=hs0.lt;clear hgx hb hs0;have HA:=jj (hA.below HW.out);have HF:=jj hO.F;have HLI:=jj hO.ins;have HLO:=jj hO.outs
 have HC : Hid (∀ W,Below w1.heap.size w1 W → W.cell? ⟨gx,32,none⟩ = some (.slice A t.ins.length c) ∧ W.cell? ⟨gx,33,none⟩ = some (.int .i64 t.st) ∧ W.cell? ⟨gx,34,none⟩ = some (.slice D t.outs.length d)):=jj fun W hW => by
  have h:=HS0.out.below hW hgl;exact ⟨by rw [h.cell,List.getElem?_toArray];exact tpL_32 HF.out,by rw [h.cell,List.getElem?_toArray];exact tpL_33 HF.out,by rw [h.cell,List.getElem?_toArray];exact tpL_34 HF.out⟩
 have HAW : Hid (∀ W,Below w1.heap.size w1 W → TAt W W.heap.size A D t):=jj fun W hW => (HA.out.below (hW.mono (by omega))).wide (by have:=hW.size;omega);have HBW : Hid (∀ W,Below w1.heap.size w1 W → Below gx w W):=jj fun W hW => HW.out.trans (hW.mono (by omega));clear hA hO;obtain ⟨c32,c33,c34⟩:=HC.out w1 (Below.refl _ _);have HMB : Hid (mayB t = ((decide (0 ≤ t.st) && decide (t.st ≤ 100000)) && (riseB (t.ins.map (·.1)) t.st && (riseB (t.outs.map (·.1)) t.st && someB t.outs)))):=jj rfl;by_cases h1 : t.st < 0
 ·have d1 : decide (t.st < 0) = true:=decide_eq_true h1;have HM : Hid (mayB t = false):=jj (by rw [HMB.out,decide_eq_false (by omega : ¬ 0 ≤ t.st)];simp);clear h1;go_wp2_with fail;go_ret;exact ⟨by rw [HM.out];rfl,by rw [HGX.out];exact HBW.out _ (Below.refl _ _)⟩
 ·have d1 : decide (t.st < 0) = false:=decide_eq_false h1;by_cases h2 : 100000 < t.st
  ·have d2 : decide (t.st > 100000) = true:=decide_eq_true h2;have d2' : decide (100000 < t.st) = true:=d2;have HM : Hid (mayB t = false):=jj (by rw [HMB.out,decide_eq_false (by omega : ¬ t.st ≤ 100000)];simp);clear h1 h2;go_wp2_with fail;go_ret;exact ⟨by rw [HM.out];rfl,by rw [HGX.out];exact HBW.out _ (Below.refl _ _)⟩
  ·have d2 : decide (t.st > 100000) = false:=decide_eq_false h2;have d2' : decide (100000 < t.st) = false:=d2;have HRG : Hid (0 ≤ t.st ∧ t.st ≤ 100000):=jj ⟨by omega,by omega⟩;have HM1 : Hid (mayB t = (riseB (t.ins.map (·.1)) t.st && (riseB (t.outs.map (·.1)) t.st && someB t.outs))):=jj (by rw [HMB.out,decide_eq_true HRG.out.1,decide_eq_true HRG.out.2];simp);clear h1 h2 HMB;go_wp2_with fail;refine (riseIn_any w1 A c t.ins t.st (HAW.out w1 (Below.refl _ _)).ins HLI.out HRG.out).mono ?_;rintro e w2 ⟨rfl,hb2⟩;have HB2:=jj hb2;clear hb2 c32 c33 c34;obtain ⟨c32,c33,c34⟩:=HC.out w2 HB2.out;cases hr1 : riseB (t.ins.map (·.1)) t.st with
   | false => have HM : Hid (mayB t = false):=jj (by rw [HM1.out,hr1];rfl);clear hr1;go_wp2_with fail;go_ret;exact ⟨by rw [HM.out];rfl,by rw [HGX.out];exact HBW.out _ HB2.out⟩
   | true =>
    have HM2 : Hid (mayB t = (riseB (t.outs.map (·.1)) t.st && someB t.outs)):=jj (by rw [HM1.out,hr1];rfl);clear hr1 HM1;go_wp2_with fail;refine (riseOut_any w2 D d t.outs t.st (HAW.out w2 HB2.out).outs HLO.out HRG.out).mono ?_;rintro e w3 ⟨rfl,hb3⟩;have HB3:=jj (HB2.out.trans (hb3.mono HB2.out.size));clear hb3 c32 c33 c34;obtain ⟨c32,c33,c34⟩:=HC.out w3 HB3.out;cases hr2 : riseB (t.outs.map (·.1)) t.st with
    | false => have HM : Hid (mayB t = false):=jj (by rw [HM2.out,hr2];rfl);clear hr2;go_wp2_with fail;go_ret;exact ⟨by rw [HM.out];rfl,by rw [HGX.out];exact HBW.out _ HB3.out⟩
    | true => have HM3 : Hid (mayB t = someB t.outs):=jj (by rw [HM2.out,hr2];rfl);clear hr2 HM2;go_wp2_with fail;refine (hollows_any w3 D d t.outs (HAW.out w3 HB3.out).outs HLO.out).mono ?_;rintro e w4 ⟨rfl,hb4⟩;have HB4:=jj (HB3.out.trans (hb4.mono HB3.out.size));clear hb4 c32 c33 c34;go_wp2_with fail;go_ret;exact ⟨by rw [HM3.out];cases someB t.outs <;> rfl,by rw [HGX.out];exact HBW.out _ HB4.out⟩
set_option maxRecDepth 100000 in
set_option maxHeartbeats 4000000 in
theorem rinputs_any (w : World) (A : Option Addr) (c : Nat) (l : List InP) (s : Int) (hA : Ins w w.heap.size A l) (hl : l.length ≤ 1099511627776) (hs : 0 ≤ s ∧ s ≤ 100000) :
  Calls Tryz.prog 55 #[.slice A l.length c,.int .i64 s] w fun e w' => e = .returned (.bool (riseB (l.map (·.1)) s)) ∧ Below w.heap.size w w':=by
 have HA:=jj hA;clear hA;have hsw : IntKind.u64.wrap s = s:=(by rw [IntKind.wrap_u64];omega);have HS:=jj hs;clear hs;go_enter Tryz.func55,Tryz.ntmps55;go_wp2_with fail
 go_loopw [9] (fun i wr => ∃ k : Nat,k ≤ l.length ∧ i = .int .i64 k ∧ Hid (∀ j,j < k → stepB (l.map (·.1)) s j = true) ∧ Hid (Below w.heap.size w wr)) (fun i _ => l.length - (intOf i).toNat)
 case atStart => exact ⟨0,by omega,rfl,jj (fun j hj => absurd hj (Nat.not_lt_zero j)),jj (Below.refl _ _)⟩
 case round =>
  obtain ⟨k,hk,rfl,HK,HW⟩:=hrel;by_cases hlt : k < l.length
  ·obtain ⟨p,hp⟩:=get_some hlt;have HLT:=jj hlt;obtain ⟨bd,rfl,hbd,hc⟩:=Lies.row (f:=inCells) (n:=3) HA.out (fun y hy => rfl) (by omega) hp;have HP:=jj hp;obtain ⟨n,y,b⟩:=p;have q0 : (0 : Int) ≤ (k : Int):=(by omega);have q1 : (k : Int) < (l.length : Int):=(by omega);have LD : Hid (∀ j v,(inCells (n,y,b))[j]? = some v → wr.cell? ((bd.add (k * 3)).add j) = some v):=jj fun j v hv => (HW.out.cell (by show ((bd.add (k * 3)).add j).block < _;rw [add_block,add_block];exact hbd)).trans (hc j v hv);have HZ:=jj (Whole.made wr 50 [Value.int .u64 0,S [],Value.bool false].toArray);have HWA:=jj (HW.out.alloc HW.out.size (.cells [Value.int .u64 0,S [],Value.bool false].toArray 50));have HGE : Hid (w.heap.size ≤ wr.heap.size):=jj HW.out.size;clear hc hp
   go_upto_region 4 with (first
    | (refine wpList_load_at rfl 50 (.tmp 12) rfl (bd.add (k * 3)) rfl (inCells (n,y,b)) _ LD.out Tryz.underlying50 rfl (by kernel_rfl) ?_)
    | (refine wpList_store_all rfl 50 (.tmp 6) (.tmp 13) rfl rfl wr.heap.size rfl (inCells (n,y,b)) rfl (by kernel_rfl) [Value.int .u64 0,S [],Value.bool false] 50 HZ.out rfl (in_one (n,y,b)) ?_
       intro w1 HX HF))
   have HW1:=jj (below_grown HWA.out HF.out (by simp;have:=HGE.out;omega) HGE.out);clear HF HZ HWA;generalize wr.heap.size = g1 at *;have HXC : Hid (∀ W,Below w1.heap.size w1 W → W.cell? ⟨g1,0,none⟩ = some (.int .u64 n)):=jj fun W hW => (HX.out.below hW HX.out.lt).cell 0;clear LD HW;by_cases h1 : n < s
   ·have d1 : decide (s ≤ n) = false:=(by simp;omega);have d1' : decide (n ≥ s) = false:=d1;by_cases hk0 : k = 0
    ·subst hk0;have HST:=jj (stepB_zero (·.1) HP.out h1);clear h1;refine' wp_region_sure (by kernel_rfl) (fun W => Below w1.heap.size w1 W) 20 [_,_,_,_,_,_,_,_,_,undef,undef,undef,undef,undef,undef,undef,undef,undef,_,_] [some 14,some 15,some 16,some 17,some 18,some 19,some 20,some 21,some 22,some 23,some 24,some 25,some 26,some 27,some 28,some 29,some 30,some 31,some 32,some 33] (by kernel_rfl) (by kernel_rfl) (by kernel_rfl) (by kernel_rfl) rfl (Below.refl _ _).drew ?hsa
     case hsa =>
      refine sure_cons ?_ ?_
      ·intro L ac W K hed hJ hS hK;have hA6 : ac.eval (.tmp 6) = .pointer (some ⟨g1,0,none⟩):=hJ.eval_old 6 (by kernel_rfl);clear hed hJ;refine opStep_of rfl ?_;unfold Oper.wp execOp;have hN6:=evalN hA6;go_simp;exact hK _ hS
      refine sure_cons ?_ ?_
      ·intro L ac W K hed hJ hS hK;have hn:=needs_spec (l:=[0]) (by kernel_rfl) hed;have hA14:=hJ.eval 0 (d:=14) (hn 0 (by simp)) rfl rfl rfl;clear hed hJ hn;refine opStep_of rfl ?_;have cc:=HXC.out W hS;unfold Oper.wp execOp;have hN14:=evalN hA14;go_simp;exact hK _ hS
      refine sure_cons ?_ ?_
      ·intro L ac W K hed hJ hS hK;have hA1 : ac.eval (.tmp 1) = .int .i64 s:=hJ.eval_old 1 (by kernel_rfl);clear hed hJ;refine opStep_of rfl ?_;unfold Oper.wp execOp;have hN1:=evalN hA1;go_simp;exact hK _ hS
      refine sure_cons ?_ ?_
      ·intro L ac W K hed hJ hS hK;have hn:=needs_spec (l:=[2]) (by kernel_rfl) hed;have hA16:=hJ.eval 2 (d:=16) (hn 2 (by simp)) rfl rfl rfl;clear hed hJ hn;refine opStep_of rfl ?_;unfold Oper.wp execOp;have hN16:=evalN hA16;go_simp;exact hK _ hS
      refine sure_cons ?_ ?_
      ·intro L ac W K hed hJ hS hK;have hn:=needs_spec (l:=[1,3]) (by kernel_rfl) hed;have hA15:=hJ.eval 1 (d:=15) (hn 1 (by simp)) rfl rfl rfl;have hA17:=hJ.eval 3 (d:=17) (hn 3 (by simp)) rfl rfl rfl;clear hed hJ hn;refine opStep_of rfl ?_;unfold Oper.wp execOp;have hN15:=evalN hA15;have hN17:=evalN hA17;go_simp;exact hK _ hS
      refine sure_cons ?_ ?_
      ·intro L ac W K hed hJ hS hK;have hn:=needs_spec (l:=[4]) (by kernel_rfl) hed;have hA18:=hJ.eval 4 (d:=18) (hn 4 (by simp)) rfl rfl rfl;clear hed hJ hn;refine opStep_of rfl ?_;unfold Oper.wp execOp;have hN18:=evalN hA18;go_simp;exact hK _ hS
      refine sure_cons ?_ ?_
      ·intro L ac W K hed hJ hS hK;have hn:=needs_spec (l:=[5]) (by kernel_rfl) hed;have hA5 : ac.eval (.tmp 5) = .int .i64 (0 : Int):=hJ.eval_old 5 (by kernel_rfl);have hA19:=hJ.eval 5 (d:=19) (hn 5 (by simp)) rfl rfl rfl;have hsz:=jj hJ.size;clear hed hJ hn;refine opStep_yes rfl (d:=19) rfl (by rw [hsz.out];rfl) hA19 ?_;clear hsz;unfold Oper.wp execOp;have hN5:=evalN hA5;go_simp;exact hK _ hS
      refine sure_cons ?_ ?_
      ·intro L ac W K hed hJ hS hK;have hn:=needs_spec (l:=[5,6]) (by kernel_rfl) hed;have hA20:=hJ.eval 6 (d:=20) (hn 6 (by simp)) rfl rfl rfl;have hA19:=hJ.eval 5 (d:=19) (hn 5 (by simp)) rfl rfl rfl;have hsz:=jj hJ.size;clear hed hJ hn;refine opStep_yes rfl (d:=19) rfl (by rw [hsz.out];rfl) hA19 ?_;clear hsz;unfold Oper.wp execOp;have hN20:=evalN hA20;go_simp;exact hK _ hS
      refine sure_cons ?_ ?_
      ·intro L ac W K hed hJ hS hK;have hn:=needs_spec (l:=[5,7]) (by kernel_rfl) hed;have hA21:=hJ.eval 7 (d:=21) (hn 7 (by simp)) rfl rfl rfl;have hA19:=hJ.eval 5 (d:=19) (hn 5 (by simp)) rfl rfl rfl;have hsz:=jj hJ.size;clear hed hJ hn;refine opStep_yes rfl (d:=19) rfl (by rw [hsz.out];rfl) hA19 ?_;clear hsz;unfold Oper.wp execOp;have hN21:=evalN hA21;go_simp;exact hK _ hS
      refine sure_cons ?_ ?_
      ·intro L ac W K hed hJ hS hK;have hn:=needs_spec (l:=[8]) (by kernel_rfl) hed;have hA22:=hJ.eval 8 (d:=22) (hn 8 (by simp)) rfl rfl rfl;have hsz:=jj hJ.size;clear hed hJ hn;refine opStep_no rfl (d:=22) rfl (by rw [hsz.out];rfl) hA22 rfl ?_;exact hK _ hS
      refine sure_cons ?_ ?_
      ·intro L ac W K hed hJ hS hK;have hn:=needs_spec (l:=[8]) (by kernel_rfl) hed;have hA22:=hJ.eval 8 (d:=22) (hn 8 (by simp)) rfl rfl rfl;have hsz:=jj hJ.size;clear hed hJ hn;refine opStep_no rfl (d:=22) rfl (by rw [hsz.out];rfl) hA22 rfl ?_;exact hK _ hS
      refine sure_cons ?_ ?_
      ·intro L ac W K hed hJ hS hK;have hn:=needs_spec (l:=[8]) (by kernel_rfl) hed;have hA22:=hJ.eval 8 (d:=22) (hn 8 (by simp)) rfl rfl rfl;have hsz:=jj hJ.size;clear hed hJ hn;refine opStep_no rfl (d:=22) rfl (by rw [hsz.out];rfl) hA22 rfl ?_;exact hK _ hS
      refine sure_cons ?_ ?_
      ·intro L ac W K hed hJ hS hK;have hn:=needs_spec (l:=[8]) (by kernel_rfl) hed;have hA22:=hJ.eval 8 (d:=22) (hn 8 (by simp)) rfl rfl rfl;have hsz:=jj hJ.size;clear hed hJ hn;refine opStep_no rfl (d:=22) rfl (by rw [hsz.out];rfl) hA22 rfl ?_;exact hK _ hS
      refine sure_cons ?_ ?_
      ·intro L ac W K hed hJ hS hK;have hn:=needs_spec (l:=[8]) (by kernel_rfl) hed;have hA22:=hJ.eval 8 (d:=22) (hn 8 (by simp)) rfl rfl rfl;have hsz:=jj hJ.size;clear hed hJ hn;refine opStep_no rfl (d:=22) rfl (by rw [hsz.out];rfl) hA22 rfl ?_;exact hK _ hS
      refine sure_cons ?_ ?_
      ·intro L ac W K hed hJ hS hK;have hn:=needs_spec (l:=[8]) (by kernel_rfl) hed;have hA22:=hJ.eval 8 (d:=22) (hn 8 (by simp)) rfl rfl rfl;have hsz:=jj hJ.size;clear hed hJ hn;refine opStep_no rfl (d:=22) rfl (by rw [hsz.out];rfl) hA22 rfl ?_;exact hK _ hS
      refine sure_cons ?_ ?_
      ·intro L ac W K hed hJ hS hK;have hn:=needs_spec (l:=[8]) (by kernel_rfl) hed;have hA22:=hJ.eval 8 (d:=22) (hn 8 (by simp)) rfl rfl rfl;have hsz:=jj hJ.size;clear hed hJ hn;refine opStep_no rfl (d:=22) rfl (by rw [hsz.out];rfl) hA22 rfl ?_;exact hK _ hS
      refine sure_cons ?_ ?_
      ·intro L ac W K hed hJ hS hK;have hn:=needs_spec (l:=[8]) (by kernel_rfl) hed;have hA22:=hJ.eval 8 (d:=22) (hn 8 (by simp)) rfl rfl rfl;have hsz:=jj hJ.size;clear hed hJ hn;refine opStep_no rfl (d:=22) rfl (by rw [hsz.out];rfl) hA22 rfl ?_;exact hK _ hS
      refine sure_cons ?_ ?_
      ·intro L ac W K hed hJ hS hK;have hn:=needs_spec (l:=[8]) (by kernel_rfl) hed;have hA22:=hJ.eval 8 (d:=22) (hn 8 (by simp)) rfl rfl rfl;have hsz:=jj hJ.size;clear hed hJ hn;refine opStep_no rfl (d:=22) rfl (by rw [hsz.out];rfl) hA22 rfl ?_;exact hK _ hS
      refine sure_cons ?_ ?_
      ·intro L ac W K hed hJ hS hK;have hn:=needs_spec (l:=[5,8,17]) (by kernel_rfl) hed;have hA22:=hJ.eval 8 (d:=22) (hn 8 (by simp)) rfl rfl rfl;have hA31:=hJ.eval 17 (d:=31) (hn 17 (by simp)) rfl rfl rfl;have hA19:=hJ.eval 5 (d:=19) (hn 5 (by simp)) rfl rfl rfl;have hsz:=jj hJ.size;clear hed hJ hn;refine opStep_yes rfl (d:=19) rfl (by rw [hsz.out];rfl) hA19 ?_;clear hsz;unfold Oper.wp execOp;have hN22:=evalN hA22;have hN31:=evalN hA31;go_simp;exact hK _ hS
      refine sure_cons ?_ ?_
      ·intro L ac W K hed hJ hS hK;have hn:=needs_spec (l:=[5,18]) (by kernel_rfl) hed;have hA19:=hJ.eval 5 (d:=19) (hn 5 (by simp)) rfl rfl rfl;have hA32:=hJ.eval 18 (d:=32) (hn 18 (by simp)) rfl rfl rfl;clear hed hJ hn;refine opStep_of rfl ?_;unfold Oper.wp execOp;have hN19:=evalN hA19;have hN32:=evalN hA32;go_simp;exact hK _ hS
      refine sure_nil ?_;intro W hS;simp only [putAll,Act.put,List.setIfInBounds_toArray,List.set_cons_zero,List.set_cons_succ];have HV:=jj (HW1.out.trans (hS.mono HW1.out.size));clear hS;go_wp2_with fail
      go_roundw
      case rel =>
       have R : ∃ k' : Nat,k' ≤ l.length ∧ Value.int .i64 ((0 : Nat) + 1 : Int) = .int .i64 k' ∧ Hid (∀ j,j < k' → stepB (l.map (·.1)) s j = true) ∧ Hid (Below w.heap.size w W):=⟨0 + 1,by have:=HLT.out;omega,by go_num,jj (fun j hj => by
        rcases Nat.lt_or_ge j (0) with h | h
        ·exact HK.out j h
        ·obtain rfl : j = 0:=(by omega);exact HST.out),HV⟩
       first | exact R | ((repeat apply Exists.intro);exact ⟨R,rfl⟩)
      case measure => first | (simp [intOf];done) | (simp [intOf];have:=HLT.out;omega)
    ·obtain ⟨kk,rfl⟩ : ∃ kk,k = kk + 1:=⟨k - 1,by omega⟩;obtain ⟨q,hq⟩:=get_some (l:=l) (k:=kk) (by omega);obtain ⟨bd',e,_,hc⟩:=Lies.row (f:=inCells) (n:=3) HA.out (fun y hy => rfl) (by omega) hq;injection e with e;subst e;have HQ:=jj hq;obtain ⟨n2,y2,b2⟩:=q;have hc0:=hc 0 _ rfl;rw [show (bd.add (kk * 3)).add 0 = bd.add (kk * 3) by unfold Addr.add;simp] at hc0;have HPC : Hid (∀ W,Below w1.heap.size w1 W → W.cell? (bd.add (kk * 3)) = some (.int .u64 n2)):=jj fun W hW => ((HW1.out.trans (hW.mono HW1.out.size)).cell (by show (bd.add (kk * 3)).block < _;rw [add_block];exact hbd)).trans hc0;have e1 : ((kk + 1 : Nat) : Int) - 1 = (kk : Int):=(by omega);have z1 : (0 : Int) ≤ (kk : Int):=(by omega);have e2 : IntKind.i64.wrap (kk : Int) = (kk : Int):=(by rw [IntKind.wrap_i64];omega);have z2 : (kk : Int) < (l.length : Int):=(by omega);have d2 : decide (((kk + 1 : Nat) : Int) > 0) = true:=(by simp);clear hc hq hc0;by_cases h2 : n2 < n
     ·have d3 : decide (n ≤ n2) = false:=(by simp;omega);have d3' : decide (n2 ≥ n) = false:=d3;have HST:=jj (stepB_succ (·.1) HP.out HQ.out h1 h2);clear h1 h2;refine' wp_region_sure (by kernel_rfl) (fun W => Below w1.heap.size w1 W) 20 [_,_,_,_,_,_,_,_,_,_,_,_,_,_,_,_,_,_,_,_] [some 14,some 15,some 16,some 17,some 18,some 19,some 20,some 21,some 22,some 23,some 24,some 25,some 26,some 27,some 28,some 29,some 30,some 31,some 32,some 33] (by kernel_rfl) (by kernel_rfl) (by kernel_rfl) (by kernel_rfl) rfl (Below.refl _ _).drew ?hsb
      case hsb =>
       refine sure_cons ?_ ?_
       ·intro L ac W K hed hJ hS hK;have hA6 : ac.eval (.tmp 6) = .pointer (some ⟨g1,0,none⟩):=hJ.eval_old 6 (by kernel_rfl);clear hed hJ;refine opStep_of rfl ?_;unfold Oper.wp execOp;have hN6:=evalN hA6;go_simp;exact hK _ hS
       refine sure_cons ?_ ?_
       ·intro L ac W K hed hJ hS hK;have hn:=needs_spec (l:=[0]) (by kernel_rfl) hed;have hA14:=hJ.eval 0 (d:=14) (hn 0 (by simp)) rfl rfl rfl;clear hed hJ hn;refine opStep_of rfl ?_;have cc:=HXC.out W hS;unfold Oper.wp execOp;have hN14:=evalN hA14;go_simp;exact hK _ hS
       refine sure_cons ?_ ?_
       ·intro L ac W K hed hJ hS hK;have hA1 : ac.eval (.tmp 1) = .int .i64 s:=hJ.eval_old 1 (by kernel_rfl);clear hed hJ;refine opStep_of rfl ?_;unfold Oper.wp execOp;have hN1:=evalN hA1;go_simp;exact hK _ hS
       refine sure_cons ?_ ?_
       ·intro L ac W K hed hJ hS hK;have hn:=needs_spec (l:=[2]) (by kernel_rfl) hed;have hA16:=hJ.eval 2 (d:=16) (hn 2 (by simp)) rfl rfl rfl;clear hed hJ hn;refine opStep_of rfl ?_;unfold Oper.wp execOp;have hN16:=evalN hA16;go_simp;exact hK _ hS
       refine sure_cons ?_ ?_
       ·intro L ac W K hed hJ hS hK;have hn:=needs_spec (l:=[1,3]) (by kernel_rfl) hed;have hA15:=hJ.eval 1 (d:=15) (hn 1 (by simp)) rfl rfl rfl;have hA17:=hJ.eval 3 (d:=17) (hn 3 (by simp)) rfl rfl rfl;clear hed hJ hn;refine opStep_of rfl ?_;unfold Oper.wp execOp;have hN15:=evalN hA15;have hN17:=evalN hA17;go_simp;exact hK _ hS
       refine sure_cons ?_ ?_
       ·intro L ac W K hed hJ hS hK;have hn:=needs_spec (l:=[4]) (by kernel_rfl) hed;have hA18:=hJ.eval 4 (d:=18) (hn 4 (by simp)) rfl rfl rfl;clear hed hJ hn;refine opStep_of rfl ?_;unfold Oper.wp execOp;have hN18:=evalN hA18;go_simp;exact hK _ hS
       refine sure_cons ?_ ?_
       ·intro L ac W K hed hJ hS hK;have hn:=needs_spec (l:=[5]) (by kernel_rfl) hed;have hA5 : ac.eval (.tmp 5) = .int .i64 ((kk + 1 : Nat) : Int):=hJ.eval_old 5 (by kernel_rfl);have hA19:=hJ.eval 5 (d:=19) (hn 5 (by simp)) rfl rfl rfl;have hsz:=jj hJ.size;clear hed hJ hn;refine opStep_yes rfl (d:=19) rfl (by rw [hsz.out];rfl) hA19 ?_;clear hsz;unfold Oper.wp execOp;have hN5:=evalN hA5;go_simp;exact hK _ hS
       refine sure_cons ?_ ?_
       ·intro L ac W K hed hJ hS hK;have hn:=needs_spec (l:=[5,6]) (by kernel_rfl) hed;have hA20:=hJ.eval 6 (d:=20) (hn 6 (by simp)) rfl rfl rfl;have hA19:=hJ.eval 5 (d:=19) (hn 5 (by simp)) rfl rfl rfl;have hsz:=jj hJ.size;clear hed hJ hn;refine opStep_yes rfl (d:=19) rfl (by rw [hsz.out];rfl) hA19 ?_;clear hsz;unfold Oper.wp execOp;have hN20:=evalN hA20;go_simp;exact hK _ hS
       refine sure_cons ?_ ?_
       ·intro L ac W K hed hJ hS hK;have hn:=needs_spec (l:=[5,7]) (by kernel_rfl) hed;have hA21:=hJ.eval 7 (d:=21) (hn 7 (by simp)) rfl rfl rfl;have hA19:=hJ.eval 5 (d:=19) (hn 5 (by simp)) rfl rfl rfl;have hsz:=jj hJ.size;clear hed hJ hn;refine opStep_yes rfl (d:=19) rfl (by rw [hsz.out];rfl) hA19 ?_;clear hsz;unfold Oper.wp execOp;have hN21:=evalN hA21;go_simp;exact hK _ hS
       refine sure_cons ?_ ?_
       ·intro L ac W K hed hJ hS hK;have hn:=needs_spec (l:=[8]) (by kernel_rfl) hed;have hA0 : ac.eval (.tmp 0) = .slice (some bd) l.length c:=hJ.eval_old 0 (by kernel_rfl);have hA22:=hJ.eval 8 (d:=22) (hn 8 (by simp)) rfl rfl rfl;have hsz:=jj hJ.size;clear hed hJ hn;refine opStep_yes rfl (d:=22) rfl (by rw [hsz.out];rfl) hA22 ?_;clear hsz;unfold Oper.wp execOp;have hN0:=evalN hA0;go_simp;exact hK _ hS
       refine sure_cons ?_ ?_
       ·intro L ac W K hed hJ hS hK;have hn:=needs_spec (l:=[8]) (by kernel_rfl) hed;have hA5 : ac.eval (.tmp 5) = .int .i64 ((kk + 1 : Nat) : Int):=hJ.eval_old 5 (by kernel_rfl);have hA22:=hJ.eval 8 (d:=22) (hn 8 (by simp)) rfl rfl rfl;have hsz:=jj hJ.size;clear hed hJ hn;refine opStep_yes rfl (d:=22) rfl (by rw [hsz.out];rfl) hA22 ?_;clear hsz;unfold Oper.wp execOp;have hN5:=evalN hA5;go_simp;exact hK _ hS
       refine sure_cons ?_ ?_
       ·intro L ac W K hed hJ hS hK;have hn:=needs_spec (l:=[8,10]) (by kernel_rfl) hed;have hA24:=hJ.eval 10 (d:=24) (hn 10 (by simp)) rfl rfl rfl;have hA22:=hJ.eval 8 (d:=22) (hn 8 (by simp)) rfl rfl rfl;have hsz:=jj hJ.size;clear hed hJ hn;refine opStep_yes rfl (d:=22) rfl (by rw [hsz.out];rfl) hA22 ?_;clear hsz;unfold Oper.wp execOp;have hN24:=evalN hA24;go_simp;exact hK _ hS
       refine sure_cons ?_ ?_
       ·intro L ac W K hed hJ hS hK;have hn:=needs_spec (l:=[8,9,11]) (by kernel_rfl) hed;have hA23:=hJ.eval 9 (d:=23) (hn 9 (by simp)) rfl rfl rfl;have hA25:=hJ.eval 11 (d:=25) (hn 11 (by simp)) rfl rfl rfl;have hA22:=hJ.eval 8 (d:=22) (hn 8 (by simp)) rfl rfl rfl;have hsz:=jj hJ.size;clear hed hJ hn;refine opStep_yes rfl (d:=22) rfl (by rw [hsz.out];rfl) hA22 ?_;clear hsz;unfold Oper.wp execOp;have hN23:=evalN hA23;have hN25:=evalN hA25;go_simp;exact hK _ hS
       refine sure_cons ?_ ?_
       ·intro L ac W K hed hJ hS hK;have hn:=needs_spec (l:=[8,12]) (by kernel_rfl) hed;have hA26:=hJ.eval 12 (d:=26) (hn 12 (by simp)) rfl rfl rfl;have hA22:=hJ.eval 8 (d:=22) (hn 8 (by simp)) rfl rfl rfl;have hsz:=jj hJ.size;clear hed hJ hn;refine opStep_yes rfl (d:=22) rfl (by rw [hsz.out];rfl) hA22 ?_;clear hsz;unfold Oper.wp execOp;have hN26:=evalN hA26;go_simp;exact hK _ hS
       refine sure_cons ?_ ?_
       ·intro L ac W K hed hJ hS hK;have hn:=needs_spec (l:=[8,13]) (by kernel_rfl) hed;have hA27:=hJ.eval 13 (d:=27) (hn 13 (by simp)) rfl rfl rfl;have hA22:=hJ.eval 8 (d:=22) (hn 8 (by simp)) rfl rfl rfl;have hsz:=jj hJ.size;clear hed hJ hn;refine opStep_yes rfl (d:=22) rfl (by rw [hsz.out];rfl) hA22 ?_;clear hsz;have cc:=HPC.out W hS;unfold Oper.wp execOp;have hN27:=evalN hA27;go_simp;exact hK _ hS
       refine sure_cons ?_ ?_
       ·intro L ac W K hed hJ hS hK;have hn:=needs_spec (l:=[8]) (by kernel_rfl) hed;have hA6 : ac.eval (.tmp 6) = .pointer (some ⟨g1,0,none⟩):=hJ.eval_old 6 (by kernel_rfl);have hA22:=hJ.eval 8 (d:=22) (hn 8 (by simp)) rfl rfl rfl;have hsz:=jj hJ.size;clear hed hJ hn;refine opStep_yes rfl (d:=22) rfl (by rw [hsz.out];rfl) hA22 ?_;clear hsz;unfold Oper.wp execOp;have hN6:=evalN hA6;go_simp;exact hK _ hS
       refine sure_cons ?_ ?_
       ·intro L ac W K hed hJ hS hK;have hn:=needs_spec (l:=[8,15]) (by kernel_rfl) hed;have hA29:=hJ.eval 15 (d:=29) (hn 15 (by simp)) rfl rfl rfl;have hA22:=hJ.eval 8 (d:=22) (hn 8 (by simp)) rfl rfl rfl;have hsz:=jj hJ.size;clear hed hJ hn;refine opStep_yes rfl (d:=22) rfl (by rw [hsz.out];rfl) hA22 ?_;clear hsz;have cc:=HXC.out W hS;unfold Oper.wp execOp;have hN29:=evalN hA29;go_simp;exact hK _ hS
       refine sure_cons ?_ ?_
       ·intro L ac W K hed hJ hS hK;have hn:=needs_spec (l:=[8,14,16]) (by kernel_rfl) hed;have hA28:=hJ.eval 14 (d:=28) (hn 14 (by simp)) rfl rfl rfl;have hA30:=hJ.eval 16 (d:=30) (hn 16 (by simp)) rfl rfl rfl;have hA22:=hJ.eval 8 (d:=22) (hn 8 (by simp)) rfl rfl rfl;have hsz:=jj hJ.size;clear hed hJ hn;refine opStep_yes rfl (d:=22) rfl (by rw [hsz.out];rfl) hA22 ?_;clear hsz;unfold Oper.wp execOp;have hN28:=evalN hA28;have hN30:=evalN hA30;go_simp;exact hK _ hS
       refine sure_cons ?_ ?_
       ·intro L ac W K hed hJ hS hK;have hn:=needs_spec (l:=[5,8,17]) (by kernel_rfl) hed;have hA22:=hJ.eval 8 (d:=22) (hn 8 (by simp)) rfl rfl rfl;have hA31:=hJ.eval 17 (d:=31) (hn 17 (by simp)) rfl rfl rfl;have hA19:=hJ.eval 5 (d:=19) (hn 5 (by simp)) rfl rfl rfl;have hsz:=jj hJ.size;clear hed hJ hn;refine opStep_yes rfl (d:=19) rfl (by rw [hsz.out];rfl) hA19 ?_;clear hsz;unfold Oper.wp execOp;have hN22:=evalN hA22;have hN31:=evalN hA31;go_simp;exact hK _ hS
       refine sure_cons ?_ ?_
       ·intro L ac W K hed hJ hS hK;have hn:=needs_spec (l:=[5,18]) (by kernel_rfl) hed;have hA19:=hJ.eval 5 (d:=19) (hn 5 (by simp)) rfl rfl rfl;have hA32:=hJ.eval 18 (d:=32) (hn 18 (by simp)) rfl rfl rfl;clear hed hJ hn;refine opStep_of rfl ?_;unfold Oper.wp execOp;have hN19:=evalN hA19;have hN32:=evalN hA32;go_simp;exact hK _ hS
       refine sure_nil ?_;intro W hS;simp only [putAll,Act.put,List.setIfInBounds_toArray,List.set_cons_zero,List.set_cons_succ];have HV:=jj (HW1.out.trans (hS.mono HW1.out.size));clear hS;go_wp2_with fail
       go_roundw
       case rel =>
        have R : ∃ k' : Nat,k' ≤ l.length ∧ Value.int .i64 ((kk + 1 : Nat) + 1 : Int) = .int .i64 k' ∧ Hid (∀ j,j < k' → stepB (l.map (·.1)) s j = true) ∧ Hid (Below w.heap.size w W):=⟨kk + 1 + 1,by have:=HLT.out;omega,by go_num,jj (fun j hj => by
         rcases Nat.lt_or_ge j (kk + 1) with h | h
         ·exact HK.out j h
         ·obtain rfl : j = kk + 1:=(by omega);exact HST.out),HV⟩
        first | exact R | ((repeat apply Exists.intro);exact ⟨R,rfl⟩)
       case measure => first | (simp [intOf];done) | (simp [intOf];have:=HLT.out;omega)
     ·have d3 : decide (n ≤ n2) = true:=(by simp;omega);have d3' : decide (n2 ≥ n) = true:=d3;have HST:=jj (stepB_no2 (s:=s) (·.1) HP.out HQ.out h2);clear h1 h2;refine' wp_region_sure (by kernel_rfl) (fun W => Below w1.heap.size w1 W) 20 [_,_,_,_,_,_,_,_,_,_,_,_,_,_,_,_,_,_,_,_] [some 14,some 15,some 16,some 17,some 18,some 19,some 20,some 21,some 22,some 23,some 24,some 25,some 26,some 27,some 28,some 29,some 30,some 31,some 32,some 33] (by kernel_rfl) (by kernel_rfl) (by kernel_rfl) (by kernel_rfl) rfl (Below.refl _ _).drew ?hsc
      case hsc =>
       refine sure_cons ?_ ?_
       ·intro L ac W K hed hJ hS hK;have hA6 : ac.eval (.tmp 6) = .pointer (some ⟨g1,0,none⟩):=hJ.eval_old 6 (by kernel_rfl);clear hed hJ;refine opStep_of rfl ?_;unfold Oper.wp execOp;have hN6:=evalN hA6;go_simp;exact hK _ hS
       refine sure_cons ?_ ?_
       ·intro L ac W K hed hJ hS hK;have hn:=needs_spec (l:=[0]) (by kernel_rfl) hed;have hA14:=hJ.eval 0 (d:=14) (hn 0 (by simp)) rfl rfl rfl;clear hed hJ hn;refine opStep_of rfl ?_;have cc:=HXC.out W hS;unfold Oper.wp execOp;have hN14:=evalN hA14;go_simp;exact hK _ hS
       refine sure_cons ?_ ?_
       ·intro L ac W K hed hJ hS hK;have hA1 : ac.eval (.tmp 1) = .int .i64 s:=hJ.eval_old 1 (by kernel_rfl);clear hed hJ;refine opStep_of rfl ?_;unfold Oper.wp execOp;have hN1:=evalN hA1;go_simp;exact hK _ hS
       refine sure_cons ?_ ?_
       ·intro L ac W K hed hJ hS hK;have hn:=needs_spec (l:=[2]) (by kernel_rfl) hed;have hA16:=hJ.eval 2 (d:=16) (hn 2 (by simp)) rfl rfl rfl;clear hed hJ hn;refine opStep_of rfl ?_;unfold Oper.wp execOp;have hN16:=evalN hA16;go_simp;exact hK _ hS
       refine sure_cons ?_ ?_
       ·intro L ac W K hed hJ hS hK;have hn:=needs_spec (l:=[1,3]) (by kernel_rfl) hed;have hA15:=hJ.eval 1 (d:=15) (hn 1 (by simp)) rfl rfl rfl;have hA17:=hJ.eval 3 (d:=17) (hn 3 (by simp)) rfl rfl rfl;clear hed hJ hn;refine opStep_of rfl ?_;unfold Oper.wp execOp;have hN15:=evalN hA15;have hN17:=evalN hA17;go_simp;exact hK _ hS
       refine sure_cons ?_ ?_
       ·intro L ac W K hed hJ hS hK;have hn:=needs_spec (l:=[4]) (by kernel_rfl) hed;have hA18:=hJ.eval 4 (d:=18) (hn 4 (by simp)) rfl rfl rfl;clear hed hJ hn;refine opStep_of rfl ?_;unfold Oper.wp execOp;have hN18:=evalN hA18;go_simp;exact hK _ hS
       refine sure_cons ?_ ?_
       ·intro L ac W K hed hJ hS hK;have hn:=needs_spec (l:=[5]) (by kernel_rfl) hed;have hA5 : ac.eval (.tmp 5) = .int .i64 ((kk + 1 : Nat) : Int):=hJ.eval_old 5 (by kernel_rfl);have hA19:=hJ.eval 5 (d:=19) (hn 5 (by simp)) rfl rfl rfl;have hsz:=jj hJ.size;clear hed hJ hn;refine opStep_yes rfl (d:=19) rfl (by rw [hsz.out];rfl) hA19 ?_;clear hsz;unfold Oper.wp execOp;have hN5:=evalN hA5;go_simp;exact hK _ hS
       refine sure_cons ?_ ?_
       ·intro L ac W K hed hJ hS hK;have hn:=needs_spec (l:=[5,6]) (by kernel_rfl) hed;have hA20:=hJ.eval 6 (d:=20) (hn 6 (by simp)) rfl rfl rfl;have hA19:=hJ.eval 5 (d:=19) (hn 5 (by simp)) rfl rfl rfl;have hsz:=jj hJ.size;clear hed hJ hn;refine opStep_yes rfl (d:=19) rfl (by rw [hsz.out];rfl) hA19 ?_;clear hsz;unfold Oper.wp execOp;have hN20:=evalN hA20;go_simp;exact hK _ hS
       refine sure_cons ?_ ?_
       ·intro L ac W K hed hJ hS hK;have hn:=needs_spec (l:=[5,7]) (by kernel_rfl) hed;have hA21:=hJ.eval 7 (d:=21) (hn 7 (by simp)) rfl rfl rfl;have hA19:=hJ.eval 5 (d:=19) (hn 5 (by simp)) rfl rfl rfl;have hsz:=jj hJ.size;clear hed hJ hn;refine opStep_yes rfl (d:=19) rfl (by rw [hsz.out];rfl) hA19 ?_;clear hsz;unfold Oper.wp execOp;have hN21:=evalN hA21;go_simp;exact hK _ hS
       refine sure_cons ?_ ?_
       ·intro L ac W K hed hJ hS hK;have hn:=needs_spec (l:=[8]) (by kernel_rfl) hed;have hA0 : ac.eval (.tmp 0) = .slice (some bd) l.length c:=hJ.eval_old 0 (by kernel_rfl);have hA22:=hJ.eval 8 (d:=22) (hn 8 (by simp)) rfl rfl rfl;have hsz:=jj hJ.size;clear hed hJ hn;refine opStep_yes rfl (d:=22) rfl (by rw [hsz.out];rfl) hA22 ?_;clear hsz;unfold Oper.wp execOp;have hN0:=evalN hA0;go_simp;exact hK _ hS
       refine sure_cons ?_ ?_
       ·intro L ac W K hed hJ hS hK;have hn:=needs_spec (l:=[8]) (by kernel_rfl) hed;have hA5 : ac.eval (.tmp 5) = .int .i64 ((kk + 1 : Nat) : Int):=hJ.eval_old 5 (by kernel_rfl);have hA22:=hJ.eval 8 (d:=22) (hn 8 (by simp)) rfl rfl rfl;have hsz:=jj hJ.size;clear hed hJ hn;refine opStep_yes rfl (d:=22) rfl (by rw [hsz.out];rfl) hA22 ?_;clear hsz;unfold Oper.wp execOp;have hN5:=evalN hA5;go_simp;exact hK _ hS
       refine sure_cons ?_ ?_
       ·intro L ac W K hed hJ hS hK;have hn:=needs_spec (l:=[8,10]) (by kernel_rfl) hed;have hA24:=hJ.eval 10 (d:=24) (hn 10 (by simp)) rfl rfl rfl;have hA22:=hJ.eval 8 (d:=22) (hn 8 (by simp)) rfl rfl rfl;have hsz:=jj hJ.size;clear hed hJ hn;refine opStep_yes rfl (d:=22) rfl (by rw [hsz.out];rfl) hA22 ?_;clear hsz;unfold Oper.wp execOp;have hN24:=evalN hA24;go_simp;exact hK _ hS
       refine sure_cons ?_ ?_
       ·intro L ac W K hed hJ hS hK;have hn:=needs_spec (l:=[8,9,11]) (by kernel_rfl) hed;have hA23:=hJ.eval 9 (d:=23) (hn 9 (by simp)) rfl rfl rfl;have hA25:=hJ.eval 11 (d:=25) (hn 11 (by simp)) rfl rfl rfl;have hA22:=hJ.eval 8 (d:=22) (hn 8 (by simp)) rfl rfl rfl;have hsz:=jj hJ.size;clear hed hJ hn;refine opStep_yes rfl (d:=22) rfl (by rw [hsz.out];rfl) hA22 ?_;clear hsz;unfold Oper.wp execOp;have hN23:=evalN hA23;have hN25:=evalN hA25;go_simp;exact hK _ hS
       refine sure_cons ?_ ?_
       ·intro L ac W K hed hJ hS hK;have hn:=needs_spec (l:=[8,12]) (by kernel_rfl) hed;have hA26:=hJ.eval 12 (d:=26) (hn 12 (by simp)) rfl rfl rfl;have hA22:=hJ.eval 8 (d:=22) (hn 8 (by simp)) rfl rfl rfl;have hsz:=jj hJ.size;clear hed hJ hn;refine opStep_yes rfl (d:=22) rfl (by rw [hsz.out];rfl) hA22 ?_;clear hsz;unfold Oper.wp execOp;have hN26:=evalN hA26;go_simp;exact hK _ hS
       refine sure_cons ?_ ?_
       ·intro L ac W K hed hJ hS hK;have hn:=needs_spec (l:=[8,13]) (by kernel_rfl) hed;have hA27:=hJ.eval 13 (d:=27) (hn 13 (by simp)) rfl rfl rfl;have hA22:=hJ.eval 8 (d:=22) (hn 8 (by simp)) rfl rfl rfl;have hsz:=jj hJ.size;clear hed hJ hn;refine opStep_yes rfl (d:=22) rfl (by rw [hsz.out];rfl) hA22 ?_;clear hsz;have cc:=HPC.out W hS;unfold Oper.wp execOp;have hN27:=evalN hA27;go_simp;exact hK _ hS
       refine sure_cons ?_ ?_
       ·intro L ac W K hed hJ hS hK;have hn:=needs_spec (l:=[8]) (by kernel_rfl) hed;have hA6 : ac.eval (.tmp 6) = .pointer (some ⟨g1,0,none⟩):=hJ.eval_old 6 (by kernel_rfl);have hA22:=hJ.eval 8 (d:=22) (hn 8 (by simp)) rfl rfl rfl;have hsz:=jj hJ.size;clear hed hJ hn;refine opStep_yes rfl (d:=22) rfl (by rw [hsz.out];rfl) hA22 ?_;clear hsz;unfold Oper.wp execOp;have hN6:=evalN hA6;go_simp;exact hK _ hS
       refine sure_cons ?_ ?_
       ·intro L ac W K hed hJ hS hK;have hn:=needs_spec (l:=[8,15]) (by kernel_rfl) hed;have hA29:=hJ.eval 15 (d:=29) (hn 15 (by simp)) rfl rfl rfl;have hA22:=hJ.eval 8 (d:=22) (hn 8 (by simp)) rfl rfl rfl;have hsz:=jj hJ.size;clear hed hJ hn;refine opStep_yes rfl (d:=22) rfl (by rw [hsz.out];rfl) hA22 ?_;clear hsz;have cc:=HXC.out W hS;unfold Oper.wp execOp;have hN29:=evalN hA29;go_simp;exact hK _ hS
       refine sure_cons ?_ ?_
       ·intro L ac W K hed hJ hS hK;have hn:=needs_spec (l:=[8,14,16]) (by kernel_rfl) hed;have hA28:=hJ.eval 14 (d:=28) (hn 14 (by simp)) rfl rfl rfl;have hA30:=hJ.eval 16 (d:=30) (hn 16 (by simp)) rfl rfl rfl;have hA22:=hJ.eval 8 (d:=22) (hn 8 (by simp)) rfl rfl rfl;have hsz:=jj hJ.size;clear hed hJ hn;refine opStep_yes rfl (d:=22) rfl (by rw [hsz.out];rfl) hA22 ?_;clear hsz;unfold Oper.wp execOp;have hN28:=evalN hA28;have hN30:=evalN hA30;go_simp;exact hK _ hS
       refine sure_cons ?_ ?_
       ·intro L ac W K hed hJ hS hK;have hn:=needs_spec (l:=[5,8,17]) (by kernel_rfl) hed;have hA22:=hJ.eval 8 (d:=22) (hn 8 (by simp)) rfl rfl rfl;have hA31:=hJ.eval 17 (d:=31) (hn 17 (by simp)) rfl rfl rfl;have hA19:=hJ.eval 5 (d:=19) (hn 5 (by simp)) rfl rfl rfl;have hsz:=jj hJ.size;clear hed hJ hn;refine opStep_yes rfl (d:=19) rfl (by rw [hsz.out];rfl) hA19 ?_;clear hsz;unfold Oper.wp execOp;have hN22:=evalN hA22;have hN31:=evalN hA31;go_simp;exact hK _ hS
       refine sure_cons ?_ ?_
       ·intro L ac W K hed hJ hS hK;have hn:=needs_spec (l:=[5,18]) (by kernel_rfl) hed;have hA19:=hJ.eval 5 (d:=19) (hn 5 (by simp)) rfl rfl rfl;have hA32:=hJ.eval 18 (d:=32) (hn 18 (by simp)) rfl rfl rfl;clear hed hJ hn;refine opStep_of rfl ?_;unfold Oper.wp execOp;have hN19:=evalN hA19;have hN32:=evalN hA32;go_simp;exact hK _ hS
       refine sure_nil ?_;intro W hS;simp only [putAll,Act.put,List.setIfInBounds_toArray,List.set_cons_zero,List.set_cons_succ];have HV:=jj (HW1.out.trans (hS.mono HW1.out.size));clear hS;go_wp2_with fail;go_ret;exact ⟨by rw [riseB_no (by rw [List.length_map];exact HLT.out) HST.out];rfl,HV.out⟩
   ·have d1 : decide (s ≤ n) = true:=(by simp;omega);have d1' : decide (n ≥ s) = true:=d1;have HST:=jj (stepB_no1 (·.1) HP.out h1);clear h1;refine' wp_region_sure (by kernel_rfl) (fun W => Below w1.heap.size w1 W) 20 [_,_,_,_,_,_,undef,undef,undef,undef,undef,undef,undef,undef,undef,undef,undef,undef,undef,_] [some 14,some 15,some 16,some 17,some 18,some 19,some 20,some 21,some 22,some 23,some 24,some 25,some 26,some 27,some 28,some 29,some 30,some 31,some 32,some 33] (by kernel_rfl) (by kernel_rfl) (by kernel_rfl) (by kernel_rfl) rfl (Below.refl _ _).drew ?hsd
    case hsd =>
     refine sure_cons ?_ ?_
     ·intro L ac W K hed hJ hS hK;have hA6 : ac.eval (.tmp 6) = .pointer (some ⟨g1,0,none⟩):=hJ.eval_old 6 (by kernel_rfl);clear hed hJ;refine opStep_of rfl ?_;unfold Oper.wp execOp;have hN6:=evalN hA6;go_simp;exact hK _ hS
     refine sure_cons ?_ ?_
     ·intro L ac W K hed hJ hS hK;have hn:=needs_spec (l:=[0]) (by kernel_rfl) hed;have hA14:=hJ.eval 0 (d:=14) (hn 0 (by simp)) rfl rfl rfl;clear hed hJ hn;refine opStep_of rfl ?_;have cc:=HXC.out W hS;unfold Oper.wp execOp;have hN14:=evalN hA14;go_simp;exact hK _ hS
     refine sure_cons ?_ ?_
     ·intro L ac W K hed hJ hS hK;have hA1 : ac.eval (.tmp 1) = .int .i64 s:=hJ.eval_old 1 (by kernel_rfl);clear hed hJ;refine opStep_of rfl ?_;unfold Oper.wp execOp;have hN1:=evalN hA1;go_simp;exact hK _ hS
     refine sure_cons ?_ ?_
     ·intro L ac W K hed hJ hS hK;have hn:=needs_spec (l:=[2]) (by kernel_rfl) hed;have hA16:=hJ.eval 2 (d:=16) (hn 2 (by simp)) rfl rfl rfl;clear hed hJ hn;refine opStep_of rfl ?_;unfold Oper.wp execOp;have hN16:=evalN hA16;go_simp;exact hK _ hS
     refine sure_cons ?_ ?_
     ·intro L ac W K hed hJ hS hK;have hn:=needs_spec (l:=[1,3]) (by kernel_rfl) hed;have hA15:=hJ.eval 1 (d:=15) (hn 1 (by simp)) rfl rfl rfl;have hA17:=hJ.eval 3 (d:=17) (hn 3 (by simp)) rfl rfl rfl;clear hed hJ hn;refine opStep_of rfl ?_;unfold Oper.wp execOp;have hN15:=evalN hA15;have hN17:=evalN hA17;go_simp;exact hK _ hS
     refine sure_cons ?_ ?_
     ·intro L ac W K hed hJ hS hK;have hn:=needs_spec (l:=[4]) (by kernel_rfl) hed;have hA18:=hJ.eval 4 (d:=18) (hn 4 (by simp)) rfl rfl rfl;clear hed hJ hn;refine opStep_of rfl ?_;unfold Oper.wp execOp;have hN18:=evalN hA18;go_simp;exact hK _ hS
     refine sure_cons ?_ ?_
     ·intro L ac W K hed hJ hS hK;have hn:=needs_spec (l:=[5]) (by kernel_rfl) hed;have hA19:=hJ.eval 5 (d:=19) (hn 5 (by simp)) rfl rfl rfl;have hsz:=jj hJ.size;clear hed hJ hn;refine opStep_no rfl (d:=19) rfl (by rw [hsz.out];rfl) hA19 rfl ?_;exact hK _ hS
     refine sure_cons ?_ ?_
     ·intro L ac W K hed hJ hS hK;have hn:=needs_spec (l:=[5]) (by kernel_rfl) hed;have hA19:=hJ.eval 5 (d:=19) (hn 5 (by simp)) rfl rfl rfl;have hsz:=jj hJ.size;clear hed hJ hn;refine opStep_no rfl (d:=19) rfl (by rw [hsz.out];rfl) hA19 rfl ?_;exact hK _ hS
     refine sure_cons ?_ ?_
     ·intro L ac W K hed hJ hS hK;have hn:=needs_spec (l:=[5]) (by kernel_rfl) hed;have hA19:=hJ.eval 5 (d:=19) (hn 5 (by simp)) rfl rfl rfl;have hsz:=jj hJ.size;clear hed hJ hn;refine opStep_no rfl (d:=19) rfl (by rw [hsz.out];rfl) hA19 rfl ?_;exact hK _ hS
     refine sure_cons ?_ ?_
     ·intro L ac W K hed hJ hS hK;have hn:=needs_spec (l:=[8]) (by kernel_rfl) hed;have hA22:=hJ.eval 8 (d:=22) (hn 8 (by simp)) rfl rfl rfl;have hsz:=jj hJ.size;clear hed hJ hn;refine opStep_un rfl (d:=22) rfl hA22 ?_;exact hK _ hS
     refine sure_cons ?_ ?_
     ·intro L ac W K hed hJ hS hK;have hn:=needs_spec (l:=[8]) (by kernel_rfl) hed;have hA22:=hJ.eval 8 (d:=22) (hn 8 (by simp)) rfl rfl rfl;have hsz:=jj hJ.size;clear hed hJ hn;refine opStep_un rfl (d:=22) rfl hA22 ?_;exact hK _ hS
     refine sure_cons ?_ ?_
     ·intro L ac W K hed hJ hS hK;have hn:=needs_spec (l:=[8]) (by kernel_rfl) hed;have hA22:=hJ.eval 8 (d:=22) (hn 8 (by simp)) rfl rfl rfl;have hsz:=jj hJ.size;clear hed hJ hn;refine opStep_un rfl (d:=22) rfl hA22 ?_;exact hK _ hS
     refine sure_cons ?_ ?_
     ·intro L ac W K hed hJ hS hK;have hn:=needs_spec (l:=[8]) (by kernel_rfl) hed;have hA22:=hJ.eval 8 (d:=22) (hn 8 (by simp)) rfl rfl rfl;have hsz:=jj hJ.size;clear hed hJ hn;refine opStep_un rfl (d:=22) rfl hA22 ?_;exact hK _ hS
     refine sure_cons ?_ ?_
     ·intro L ac W K hed hJ hS hK;have hn:=needs_spec (l:=[8]) (by kernel_rfl) hed;have hA22:=hJ.eval 8 (d:=22) (hn 8 (by simp)) rfl rfl rfl;have hsz:=jj hJ.size;clear hed hJ hn;refine opStep_un rfl (d:=22) rfl hA22 ?_;exact hK _ hS
     refine sure_cons ?_ ?_
     ·intro L ac W K hed hJ hS hK;have hn:=needs_spec (l:=[8]) (by kernel_rfl) hed;have hA22:=hJ.eval 8 (d:=22) (hn 8 (by simp)) rfl rfl rfl;have hsz:=jj hJ.size;clear hed hJ hn;refine opStep_un rfl (d:=22) rfl hA22 ?_;exact hK _ hS
     refine sure_cons ?_ ?_
     ·intro L ac W K hed hJ hS hK;have hn:=needs_spec (l:=[8]) (by kernel_rfl) hed;have hA22:=hJ.eval 8 (d:=22) (hn 8 (by simp)) rfl rfl rfl;have hsz:=jj hJ.size;clear hed hJ hn;refine opStep_un rfl (d:=22) rfl hA22 ?_;exact hK _ hS
     refine sure_cons ?_ ?_
     ·intro L ac W K hed hJ hS hK;have hn:=needs_spec (l:=[8]) (by kernel_rfl) hed;have hA22:=hJ.eval 8 (d:=22) (hn 8 (by simp)) rfl rfl rfl;have hsz:=jj hJ.size;clear hed hJ hn;refine opStep_un rfl (d:=22) rfl hA22 ?_;exact hK _ hS
     refine sure_cons ?_ ?_
     ·intro L ac W K hed hJ hS hK;have hn:=needs_spec (l:=[8]) (by kernel_rfl) hed;have hA22:=hJ.eval 8 (d:=22) (hn 8 (by simp)) rfl rfl rfl;have hsz:=jj hJ.size;clear hed hJ hn;refine opStep_un rfl (d:=22) rfl hA22 ?_;exact hK _ hS
     refine sure_cons ?_ ?_
     ·intro L ac W K hed hJ hS hK;have hn:=needs_spec (l:=[5]) (by kernel_rfl) hed;have hA19:=hJ.eval 5 (d:=19) (hn 5 (by simp)) rfl rfl rfl;have hsz:=jj hJ.size;clear hed hJ hn;refine opStep_no rfl (d:=19) rfl (by rw [hsz.out];rfl) hA19 rfl ?_;exact hK _ hS
     refine sure_cons ?_ ?_
     ·intro L ac W K hed hJ hS hK;have hn:=needs_spec (l:=[5,18]) (by kernel_rfl) hed;have hA19:=hJ.eval 5 (d:=19) (hn 5 (by simp)) rfl rfl rfl;have hA32:=hJ.eval 18 (d:=32) (hn 18 (by simp)) rfl rfl rfl;clear hed hJ hn;refine opStep_of rfl ?_;unfold Oper.wp execOp;have hN19:=evalN hA19;have hN32:=evalN hA32;go_simp;exact hK _ hS
     refine sure_nil ?_;intro W hS;simp only [putAll,Act.put,List.setIfInBounds_toArray,List.set_cons_zero,List.set_cons_succ];have HV:=jj (HW1.out.trans (hS.mono HW1.out.size));clear hS;go_wp2_with fail;go_ret;exact ⟨by rw [riseB_no (by rw [List.length_map];exact HLT.out) HST.out];rfl,HV.out⟩
  ·obtain rfl : k = l.length:=(by omega);have hd : decide (l.length < l.length) = false:=(by simp);go_wp2_with fail;go_ret;exact ⟨by rw [riseB_yes (by rw [List.length_map];exact HK.out)];rfl,HW.out⟩
set_option maxRecDepth 100000 in
set_option maxHeartbeats 4000000 in
theorem rmay_any (w : World) (A D : Option Addr) (c d : Nat) (t : TapeP) (hA : TAt w w.heap.size A D t) (hO : TOk t) :
  Calls Tryz.prog 21 #[.agg (tpC t A c D d).toArray] w fun e w' => e = .returned (.bool (mayB t)) ∧ Below w.heap.size w w':=by
 have hs0:=Whole.made w 27 (tpC t A c D d).toArray;have hb : Below w.heap.size w (w.alloc (.cells (tpC t A c D d).toArray 27)):=(Below.refl _ _).alloc (Nat.le_refl _) _;go_enter Tryz.func21,Tryz.ntmps21;go_upto_region 1 with (fail);change Code.wp _ _ _ _ (w.alloc (.cells (tpC t A c D d).toArray 27));generalize (w.alloc (.cells (tpC t A c D d).toArray 27)) = w1 at *;generalize hgx : w.heap.size = gx at *;have HGX:=jj hgx;have HS0:=jj hs0;have HW:=jj hb;have hgl : gx < w1.heap.size:=hs0.lt;clear hgx hb hs0;have HA:=jj (hA.below HW.out);have HF:=jj hO.F;have HLI:=jj hO.ins;have HLO:=jj hO.outs
 have HC : Hid (∀ W,Below w1.heap.size w1 W → W.cell? ⟨gx,32,none⟩ = some (.slice A t.ins.length c) ∧ W.cell? ⟨gx,33,none⟩ = some (.int .i64 t.st) ∧ W.cell? ⟨gx,34,none⟩ = some (.slice D t.outs.length d)):=jj fun W hW => by
  have h:=HS0.out.below hW hgl;exact ⟨by rw [h.cell,List.getElem?_toArray];exact tpL_32 HF.out,by rw [h.cell,List.getElem?_toArray];exact tpL_33 HF.out,by rw [h.cell,List.getElem?_toArray];exact tpL_34 HF.out⟩
 have HAW : Hid (∀ W,Below w1.heap.size w1 W → TAt W W.heap.size A D t):=jj fun W hW => (HA.out.below (hW.mono (by omega))).wide (by have:=hW.size;omega);have HBW : Hid (∀ W,Below w1.heap.size w1 W → Below gx w W):=jj fun W hW => HW.out.trans (hW.mono (by omega));clear hA hO;obtain ⟨c32,c33,c34⟩:=HC.out w1 (Below.refl _ _);have HMB : Hid (mayB t = ((decide (0 ≤ t.st) && decide (t.st ≤ 100000)) && (riseB (t.ins.map (·.1)) t.st && (riseB (t.outs.map (·.1)) t.st && someB t.outs)))):=jj rfl;by_cases h1 : t.st < 0
 ·have d1 : decide (t.st < 0) = true:=decide_eq_true h1;have HM : Hid (mayB t = false):=jj (by rw [HMB.out,decide_eq_false (by omega : ¬ 0 ≤ t.st)];simp);clear h1;go_wp2_with fail;go_ret;exact ⟨by rw [HM.out];rfl,by rw [HGX.out];exact HBW.out _ (Below.refl _ _)⟩
 ·have d1 : decide (t.st < 0) = false:=decide_eq_false h1;by_cases h2 : 100000 < t.st
  ·have d2 : decide (t.st > 100000) = true:=decide_eq_true h2;have d2' : decide (100000 < t.st) = true:=d2;have HM : Hid (mayB t = false):=jj (by rw [HMB.out,decide_eq_false (by omega : ¬ t.st ≤ 100000)];simp);clear h1 h2;go_wp2_with fail;go_ret;exact ⟨by rw [HM.out];rfl,by rw [HGX.out];exact HBW.out _ (Below.refl _ _)⟩
  ·have d2 : decide (t.st > 100000) = false:=decide_eq_false h2;have d2' : decide (100000 < t.st) = false:=d2;have HRG : Hid (0 ≤ t.st ∧ t.st ≤ 100000):=jj ⟨by omega,by omega⟩;have HM1 : Hid (mayB t = (riseB (t.ins.map (·.1)) t.st && (riseB (t.outs.map (·.1)) t.st && someB t.outs))):=jj (by rw [HMB.out,decide_eq_true HRG.out.1,decide_eq_true HRG.out.2];simp);clear h1 h2 HMB;go_wp2_with fail;refine (rinputs_any w1 A c t.ins t.st (HAW.out w1 (Below.refl _ _)).ins HLI.out HRG.out).mono ?_;rintro e w2 ⟨rfl,hb2⟩;have HB2:=jj hb2;clear hb2 c32 c33 c34;obtain ⟨c32,c33,c34⟩:=HC.out w2 HB2.out;cases hr1 : riseB (t.ins.map (·.1)) t.st with
   | false => have HM : Hid (mayB t = false):=jj (by rw [HM1.out,hr1];rfl);clear hr1;go_wp2_with fail;go_ret;exact ⟨by rw [HM.out];rfl,by rw [HGX.out];exact HBW.out _ HB2.out⟩
   | true =>
    have HM2 : Hid (mayB t = (riseB (t.outs.map (·.1)) t.st && someB t.outs)):=jj (by rw [HM1.out,hr1];rfl);have hsw : IntKind.u64.wrap t.st = t.st:=(by rw [IntKind.wrap_u64];have:=HRG.out;omega);have hlo:=HLO.out;clear hr1 HM1;go_wp2_with fail;clear c32 c33 c34;have HB2':=HB2
    go_loopw [24] (fun i wr => ∃ k : Nat,k ≤ t.outs.length ∧ i = .int .i64 k ∧ Hid (∀ j,j < k → stepB (t.outs.map (·.1)) t.st j = true) ∧ Hid (∀ j p,j < k → t.outs[j]? = some p → p.2.isEmpty = false) ∧ Hid (Below w1.heap.size w1 wr)) (fun i _ => t.outs.length - (intOf i).toNat)
    case atStart => exact ⟨0,by omega,rfl,jj (fun j hj => absurd hj (Nat.not_lt_zero j)),jj (fun j _ hj => absurd hj (Nat.not_lt_zero j)),HB2'⟩
    case round =>
     obtain ⟨k,hk,rfl,HK,HE,HW0⟩:=hrel;clear HB2 HB2';by_cases hlt : k < t.outs.length
     ·obtain ⟨p,hp⟩:=get_some hlt;have HLT:=jj hlt;obtain ⟨bd,hbq,hbd,hc⟩:=Lies.row (f:=outCells) (n:=2) (HAW.out w1 (Below.refl _ _)).outs (fun y hy => rfl) (by omega) hp;subst hbq;have HP:=jj hp;obtain ⟨n,y⟩:=p;have q0 : (0 : Int) ≤ (k : Int):=(by omega);have q1 : (k : Int) < (t.outs.length : Int):=(by omega);have LD : Hid (∀ j v,(outCells (n,y))[j]? = some v → wr.cell? ((bd.add (k * 2)).add j) = some v):=jj fun j v hv => (HW0.out.cell (by show ((bd.add (k * 2)).add j).block < _;rw [add_block,add_block];exact hbd)).trans (hc j v hv);have HZ:=jj (Whole.made wr 54 [Value.int .u64 0,S []].toArray);have HWA:=jj (HW0.out.alloc HW0.out.size (.cells [Value.int .u64 0,S []].toArray 54));have HGE : Hid (w1.heap.size ≤ wr.heap.size):=jj HW0.out.size;clear hc hp
      go_upto_region 6 with (first
       | (refine wpList_load_at rfl 54 (.tmp 27) rfl (bd.add (k * 2)) rfl (outCells (n,y)) _ LD.out Tryz.underlying54 rfl (by kernel_rfl) ?_)
       | (refine wpList_store_all rfl 54 (.tmp 4) (.tmp 28) rfl rfl wr.heap.size rfl (outCells (n,y)) rfl (by kernel_rfl) [Value.int .u64 0,S []] 54 HZ.out rfl (out_one (n,y)) ?_
          intro w2 HX HF))
      have HW1:=jj (below_grown HWA.out HF.out (by simp;have:=HGE.out;omega) HGE.out);clear HF HZ HWA;generalize wr.heap.size = g1 at *;have HXC : Hid (∀ W,Below w2.heap.size w2 W → W.cell? ⟨g1,0,none⟩ = some (.int .u64 n) ∧ W.cell? ⟨g1,1,none⟩ = some (S y)):=jj fun W hW => ⟨(HX.out.below hW HX.out.lt).cell 0,(HX.out.below hW HX.out.lt).cell 1⟩;have HCW : Hid (∀ W,Below w2.heap.size w2 W → W.cell? ⟨gx,32,none⟩ = some (.slice A t.ins.length c) ∧ W.cell? ⟨gx,33,none⟩ = some (.int .i64 t.st) ∧ W.cell? ⟨gx,34,none⟩ = some (.slice (some bd) t.outs.length d)):=jj fun W hW => HC.out W (HW1.out.trans (hW.mono HW1.out.size));clear LD HW0;by_cases h1 : n < t.st
      ·have d1 : decide (t.st ≤ n) = false:=(by simp;omega);have d1' : decide (n ≥ t.st) = false:=d1;cases y with
       | nil =>
        have HM : Hid (mayB t = false):=jj (by rw [HM2.out,someB_no HP.out rfl];simp);clear h1;refine' wp_region_sure (by kernel_rfl) (fun W => Below w2.heap.size w2 W) 27 [_,_,_,_,_,_,_,_,_,_,_,_,undef,undef,undef,undef,undef,undef,undef,undef,undef,undef,undef,undef,undef,undef,_] [some 29,some 30,some 31,some 32,some 33,some 34,some 35,some 36,some 37,some 38,some 39,some 40,some 41,some 42,some 43,some 44,some 45,some 46,some 47,some 48,some 49,some 50,some 51,some 52,some 53,some 54,some 55] (by kernel_rfl) (by kernel_rfl) (by kernel_rfl) (by kernel_rfl) rfl (Below.refl _ _).drew ?hse
        case hse =>
         refine sure_cons ?_ ?_
         ·intro L ac W K hed hJ hS hK;have hA4 : ac.eval (.tmp 4) = .pointer (some ⟨g1,0,none⟩):=hJ.eval_old 4 (by kernel_rfl);clear hed hJ;refine opStep_of rfl ?_;unfold Oper.wp execOp;have hN4:=evalN hA4;go_simp;exact hK _ hS
         refine sure_cons ?_ ?_
         ·intro L ac W K hed hJ hS hK;have hn:=needs_spec (l:=[0]) (by kernel_rfl) hed;have hA29:=hJ.eval 0 (d:=29) (hn 0 (by simp)) rfl rfl rfl;clear hed hJ hn;refine opStep_of rfl ?_;have cc:=(HXC.out W hS).1;unfold Oper.wp execOp;have hN29:=evalN hA29;go_simp;exact hK _ hS
         refine sure_cons ?_ ?_
         ·intro L ac W K hed hJ hS hK;have hA1 : ac.eval (.tmp 1) = .pointer (some ⟨gx,0,none⟩):=hJ.eval_old 1 (by kernel_rfl);clear hed hJ;refine opStep_of rfl ?_;unfold Oper.wp execOp;have hN1:=evalN hA1;go_simp;exact hK _ hS
         refine sure_cons ?_ ?_
         ·intro L ac W K hed hJ hS hK;have hn:=needs_spec (l:=[2]) (by kernel_rfl) hed;have hA31:=hJ.eval 2 (d:=31) (hn 2 (by simp)) rfl rfl rfl;clear hed hJ hn;refine opStep_of rfl ?_;have cc:=(HCW.out W hS).2.1;unfold Oper.wp execOp;have hN31:=evalN hA31;go_simp;exact hK _ hS
         refine sure_cons ?_ ?_
         ·intro L ac W K hed hJ hS hK;have hn:=needs_spec (l:=[3]) (by kernel_rfl) hed;have hA32:=hJ.eval 3 (d:=32) (hn 3 (by simp)) rfl rfl rfl;clear hed hJ hn;refine opStep_of rfl ?_;unfold Oper.wp execOp;have hN32:=evalN hA32;go_simp;exact hK _ hS
         refine sure_cons ?_ ?_
         ·intro L ac W K hed hJ hS hK;have hn:=needs_spec (l:=[1,4]) (by kernel_rfl) hed;have hA30:=hJ.eval 1 (d:=30) (hn 1 (by simp)) rfl rfl rfl;have hA33:=hJ.eval 4 (d:=33) (hn 4 (by simp)) rfl rfl rfl;clear hed hJ hn;refine opStep_of rfl ?_;unfold Oper.wp execOp;have hN30:=evalN hA30;have hN33:=evalN hA33;go_simp;exact hK _ hS
         refine sure_cons ?_ ?_
         ·intro L ac W K hed hJ hS hK;have hn:=needs_spec (l:=[5]) (by kernel_rfl) hed;have hA34:=hJ.eval 5 (d:=34) (hn 5 (by simp)) rfl rfl rfl;clear hed hJ hn;refine opStep_of rfl ?_;unfold Oper.wp execOp;have hN34:=evalN hA34;go_simp;exact hK _ hS
         refine sure_cons ?_ ?_
         ·intro L ac W K hed hJ hS hK;have hn:=needs_spec (l:=[6]) (by kernel_rfl) hed;have hA4 : ac.eval (.tmp 4) = .pointer (some ⟨g1,0,none⟩):=hJ.eval_old 4 (by kernel_rfl);have hA35:=hJ.eval 6 (d:=35) (hn 6 (by simp)) rfl rfl rfl;have hsz:=jj hJ.size;clear hed hJ hn;refine opStep_yes rfl (d:=35) rfl (by rw [hsz.out];rfl) hA35 ?_;clear hsz;unfold Oper.wp execOp;have hN4:=evalN hA4;go_simp;exact hK _ hS
         refine sure_cons ?_ ?_
         ·intro L ac W K hed hJ hS hK;have hn:=needs_spec (l:=[6,7]) (by kernel_rfl) hed;have hA36:=hJ.eval 7 (d:=36) (hn 7 (by simp)) rfl rfl rfl;have hA35:=hJ.eval 6 (d:=35) (hn 6 (by simp)) rfl rfl rfl;have hsz:=jj hJ.size;clear hed hJ hn;refine opStep_yes rfl (d:=35) rfl (by rw [hsz.out];rfl) hA35 ?_;clear hsz;have cc:=(HXC.out W hS).2;unfold Oper.wp execOp;have hN36:=evalN hA36;go_simp;exact hK _ hS
         refine sure_cons ?_ ?_
         ·intro L ac W K hed hJ hS hK;have hn:=needs_spec (l:=[6,8]) (by kernel_rfl) hed;have hA37:=hJ.eval 8 (d:=37) (hn 8 (by simp)) rfl rfl rfl;have hA35:=hJ.eval 6 (d:=35) (hn 6 (by simp)) rfl rfl rfl;have hsz:=jj hJ.size;clear hed hJ hn;refine opStep_yes rfl (d:=35) rfl (by rw [hsz.out];rfl) hA35 ?_;clear hsz;unfold Oper.wp execOp;have hN37:=evalN hA37;go_simp;exact hK _ hS
         refine sure_cons ?_ ?_
         ·intro L ac W K hed hJ hS hK;have hn:=needs_spec (l:=[6,9]) (by kernel_rfl) hed;have hA35:=hJ.eval 6 (d:=35) (hn 6 (by simp)) rfl rfl rfl;have hA38:=hJ.eval 9 (d:=38) (hn 9 (by simp)) rfl rfl rfl;clear hed hJ hn;refine opStep_of rfl ?_;unfold Oper.wp execOp;have hN35:=evalN hA35;have hN38:=evalN hA38;go_simp;exact hK _ hS
         refine sure_cons ?_ ?_
         ·intro L ac W K hed hJ hS hK;have hn:=needs_spec (l:=[10]) (by kernel_rfl) hed;have hA39:=hJ.eval 10 (d:=39) (hn 10 (by simp)) rfl rfl rfl;clear hed hJ hn;refine opStep_of rfl ?_;unfold Oper.wp execOp;have hN39:=evalN hA39;go_simp;exact hK _ hS
         refine sure_cons ?_ ?_
         ·intro L ac W K hed hJ hS hK;have hn:=needs_spec (l:=[11]) (by kernel_rfl) hed;have hA40:=hJ.eval 11 (d:=40) (hn 11 (by simp)) rfl rfl rfl;have hsz:=jj hJ.size;clear hed hJ hn;refine opStep_no rfl (d:=40) rfl (by rw [hsz.out];rfl) hA40 rfl ?_;exact hK _ hS
         refine sure_cons ?_ ?_
         ·intro L ac W K hed hJ hS hK;have hn:=needs_spec (l:=[11]) (by kernel_rfl) hed;have hA40:=hJ.eval 11 (d:=40) (hn 11 (by simp)) rfl rfl rfl;have hsz:=jj hJ.size;clear hed hJ hn;refine opStep_no rfl (d:=40) rfl (by rw [hsz.out];rfl) hA40 rfl ?_;exact hK _ hS
         refine sure_cons ?_ ?_
         ·intro L ac W K hed hJ hS hK;have hn:=needs_spec (l:=[11]) (by kernel_rfl) hed;have hA40:=hJ.eval 11 (d:=40) (hn 11 (by simp)) rfl rfl rfl;have hsz:=jj hJ.size;clear hed hJ hn;refine opStep_no rfl (d:=40) rfl (by rw [hsz.out];rfl) hA40 rfl ?_;exact hK _ hS
         refine sure_cons ?_ ?_
         ·intro L ac W K hed hJ hS hK;have hn:=needs_spec (l:=[14]) (by kernel_rfl) hed;have hA43:=hJ.eval 14 (d:=43) (hn 14 (by simp)) rfl rfl rfl;have hsz:=jj hJ.size;clear hed hJ hn;refine opStep_un rfl (d:=43) rfl hA43 ?_;exact hK _ hS
         refine sure_cons ?_ ?_
         ·intro L ac W K hed hJ hS hK;have hn:=needs_spec (l:=[14]) (by kernel_rfl) hed;have hA43:=hJ.eval 14 (d:=43) (hn 14 (by simp)) rfl rfl rfl;have hsz:=jj hJ.size;clear hed hJ hn;refine opStep_un rfl (d:=43) rfl hA43 ?_;exact hK _ hS
         refine sure_cons ?_ ?_
         ·intro L ac W K hed hJ hS hK;have hn:=needs_spec (l:=[14]) (by kernel_rfl) hed;have hA43:=hJ.eval 14 (d:=43) (hn 14 (by simp)) rfl rfl rfl;have hsz:=jj hJ.size;clear hed hJ hn;refine opStep_un rfl (d:=43) rfl hA43 ?_;exact hK _ hS
         refine sure_cons ?_ ?_
         ·intro L ac W K hed hJ hS hK;have hn:=needs_spec (l:=[14]) (by kernel_rfl) hed;have hA43:=hJ.eval 14 (d:=43) (hn 14 (by simp)) rfl rfl rfl;have hsz:=jj hJ.size;clear hed hJ hn;refine opStep_un rfl (d:=43) rfl hA43 ?_;exact hK _ hS
         refine sure_cons ?_ ?_
         ·intro L ac W K hed hJ hS hK;have hn:=needs_spec (l:=[14]) (by kernel_rfl) hed;have hA43:=hJ.eval 14 (d:=43) (hn 14 (by simp)) rfl rfl rfl;have hsz:=jj hJ.size;clear hed hJ hn;refine opStep_un rfl (d:=43) rfl hA43 ?_;exact hK _ hS
         refine sure_cons ?_ ?_
         ·intro L ac W K hed hJ hS hK;have hn:=needs_spec (l:=[14]) (by kernel_rfl) hed;have hA43:=hJ.eval 14 (d:=43) (hn 14 (by simp)) rfl rfl rfl;have hsz:=jj hJ.size;clear hed hJ hn;refine opStep_un rfl (d:=43) rfl hA43 ?_;exact hK _ hS
         refine sure_cons ?_ ?_
         ·intro L ac W K hed hJ hS hK;have hn:=needs_spec (l:=[14]) (by kernel_rfl) hed;have hA43:=hJ.eval 14 (d:=43) (hn 14 (by simp)) rfl rfl rfl;have hsz:=jj hJ.size;clear hed hJ hn;refine opStep_un rfl (d:=43) rfl hA43 ?_;exact hK _ hS
         refine sure_cons ?_ ?_
         ·intro L ac W K hed hJ hS hK;have hn:=needs_spec (l:=[14]) (by kernel_rfl) hed;have hA43:=hJ.eval 14 (d:=43) (hn 14 (by simp)) rfl rfl rfl;have hsz:=jj hJ.size;clear hed hJ hn;refine opStep_un rfl (d:=43) rfl hA43 ?_;exact hK _ hS
         refine sure_cons ?_ ?_
         ·intro L ac W K hed hJ hS hK;have hn:=needs_spec (l:=[14]) (by kernel_rfl) hed;have hA43:=hJ.eval 14 (d:=43) (hn 14 (by simp)) rfl rfl rfl;have hsz:=jj hJ.size;clear hed hJ hn;refine opStep_un rfl (d:=43) rfl hA43 ?_;exact hK _ hS
         refine sure_cons ?_ ?_
         ·intro L ac W K hed hJ hS hK;have hn:=needs_spec (l:=[14]) (by kernel_rfl) hed;have hA43:=hJ.eval 14 (d:=43) (hn 14 (by simp)) rfl rfl rfl;have hsz:=jj hJ.size;clear hed hJ hn;refine opStep_un rfl (d:=43) rfl hA43 ?_;exact hK _ hS
         refine sure_cons ?_ ?_
         ·intro L ac W K hed hJ hS hK;have hn:=needs_spec (l:=[11]) (by kernel_rfl) hed;have hA40:=hJ.eval 11 (d:=40) (hn 11 (by simp)) rfl rfl rfl;have hsz:=jj hJ.size;clear hed hJ hn;refine opStep_no rfl (d:=40) rfl (by rw [hsz.out];rfl) hA40 rfl ?_;exact hK _ hS
         refine sure_cons ?_ ?_
         ·intro L ac W K hed hJ hS hK;have hn:=needs_spec (l:=[11,25]) (by kernel_rfl) hed;have hA40:=hJ.eval 11 (d:=40) (hn 11 (by simp)) rfl rfl rfl;have hA54:=hJ.eval 25 (d:=54) (hn 25 (by simp)) rfl rfl rfl;clear hed hJ hn;refine opStep_of rfl ?_;unfold Oper.wp execOp;have hN40:=evalN hA40;have hN54:=evalN hA54;go_simp;exact hK _ hS
         refine sure_nil ?_;intro W hS;simp only [putAll,Act.put,List.setIfInBounds_toArray,List.set_cons_zero,List.set_cons_succ];have HV:=jj (HW1.out.trans (hS.mono HW1.out.size));clear hS;go_wp2_with fail;go_ret;exact ⟨by rw [HM.out];rfl,by rw [HGX.out];exact HBW.out _ HV.out⟩
       | cons c0 y =>
        have hne1 : ((⟨(c0 :: y).toArray⟩ : ByteArray).toList == (⟨#[]⟩ : ByteArray).toList) = false:=(by rw [ByteArray.toList_eq];simp);by_cases hk0 : k = 0
        ·subst hk0;have HST:=jj (stepB_zero (·.1) HP.out h1);clear h1;refine' wp_region_sure (by kernel_rfl) (fun W => Below w2.heap.size w2 W) 27 [_,_,_,_,_,_,_,_,_,_,_,_,_,_,_,undef,undef,undef,undef,undef,undef,undef,undef,undef,undef,_,_] [some 29,some 30,some 31,some 32,some 33,some 34,some 35,some 36,some 37,some 38,some 39,some 40,some 41,some 42,some 43,some 44,some 45,some 46,some 47,some 48,some 49,some 50,some 51,some 52,some 53,some 54,some 55] (by kernel_rfl) (by kernel_rfl) (by kernel_rfl) (by kernel_rfl) rfl (Below.refl _ _).drew ?hsa
         case hsa =>
          refine sure_cons ?_ ?_
          ·intro L ac W K hed hJ hS hK;have hA4 : ac.eval (.tmp 4) = .pointer (some ⟨g1,0,none⟩):=hJ.eval_old 4 (by kernel_rfl);clear hed hJ;refine opStep_of rfl ?_;unfold Oper.wp execOp;have hN4:=evalN hA4;go_simp;exact hK _ hS
          refine sure_cons ?_ ?_
          ·intro L ac W K hed hJ hS hK;have hn:=needs_spec (l:=[0]) (by kernel_rfl) hed;have hA29:=hJ.eval 0 (d:=29) (hn 0 (by simp)) rfl rfl rfl;clear hed hJ hn;refine opStep_of rfl ?_;have cc:=(HXC.out W hS).1;unfold Oper.wp execOp;have hN29:=evalN hA29;go_simp;exact hK _ hS
          refine sure_cons ?_ ?_
          ·intro L ac W K hed hJ hS hK;have hA1 : ac.eval (.tmp 1) = .pointer (some ⟨gx,0,none⟩):=hJ.eval_old 1 (by kernel_rfl);clear hed hJ;refine opStep_of rfl ?_;unfold Oper.wp execOp;have hN1:=evalN hA1;go_simp;exact hK _ hS
          refine sure_cons ?_ ?_
          ·intro L ac W K hed hJ hS hK;have hn:=needs_spec (l:=[2]) (by kernel_rfl) hed;have hA31:=hJ.eval 2 (d:=31) (hn 2 (by simp)) rfl rfl rfl;clear hed hJ hn;refine opStep_of rfl ?_;have cc:=(HCW.out W hS).2.1;unfold Oper.wp execOp;have hN31:=evalN hA31;go_simp;exact hK _ hS
          refine sure_cons ?_ ?_
          ·intro L ac W K hed hJ hS hK;have hn:=needs_spec (l:=[3]) (by kernel_rfl) hed;have hA32:=hJ.eval 3 (d:=32) (hn 3 (by simp)) rfl rfl rfl;clear hed hJ hn;refine opStep_of rfl ?_;unfold Oper.wp execOp;have hN32:=evalN hA32;go_simp;exact hK _ hS
          refine sure_cons ?_ ?_
          ·intro L ac W K hed hJ hS hK;have hn:=needs_spec (l:=[1,4]) (by kernel_rfl) hed;have hA30:=hJ.eval 1 (d:=30) (hn 1 (by simp)) rfl rfl rfl;have hA33:=hJ.eval 4 (d:=33) (hn 4 (by simp)) rfl rfl rfl;clear hed hJ hn;refine opStep_of rfl ?_;unfold Oper.wp execOp;have hN30:=evalN hA30;have hN33:=evalN hA33;go_simp;exact hK _ hS
          refine sure_cons ?_ ?_
          ·intro L ac W K hed hJ hS hK;have hn:=needs_spec (l:=[5]) (by kernel_rfl) hed;have hA34:=hJ.eval 5 (d:=34) (hn 5 (by simp)) rfl rfl rfl;clear hed hJ hn;refine opStep_of rfl ?_;unfold Oper.wp execOp;have hN34:=evalN hA34;go_simp;exact hK _ hS
          refine sure_cons ?_ ?_
          ·intro L ac W K hed hJ hS hK;have hn:=needs_spec (l:=[6]) (by kernel_rfl) hed;have hA4 : ac.eval (.tmp 4) = .pointer (some ⟨g1,0,none⟩):=hJ.eval_old 4 (by kernel_rfl);have hA35:=hJ.eval 6 (d:=35) (hn 6 (by simp)) rfl rfl rfl;have hsz:=jj hJ.size;clear hed hJ hn;refine opStep_yes rfl (d:=35) rfl (by rw [hsz.out];rfl) hA35 ?_;clear hsz;unfold Oper.wp execOp;have hN4:=evalN hA4;go_simp;exact hK _ hS
          refine sure_cons ?_ ?_
          ·intro L ac W K hed hJ hS hK;have hn:=needs_spec (l:=[6,7]) (by kernel_rfl) hed;have hA36:=hJ.eval 7 (d:=36) (hn 7 (by simp)) rfl rfl rfl;have hA35:=hJ.eval 6 (d:=35) (hn 6 (by simp)) rfl rfl rfl;have hsz:=jj hJ.size;clear hed hJ hn;refine opStep_yes rfl (d:=35) rfl (by rw [hsz.out];rfl) hA35 ?_;clear hsz;have cc:=(HXC.out W hS).2;unfold Oper.wp execOp;have hN36:=evalN hA36;go_simp;exact hK _ hS
          refine sure_cons ?_ ?_
          ·intro L ac W K hed hJ hS hK;have hn:=needs_spec (l:=[6,8]) (by kernel_rfl) hed;have hA37:=hJ.eval 8 (d:=37) (hn 8 (by simp)) rfl rfl rfl;have hA35:=hJ.eval 6 (d:=35) (hn 6 (by simp)) rfl rfl rfl;have hsz:=jj hJ.size;clear hed hJ hn;refine opStep_yes rfl (d:=35) rfl (by rw [hsz.out];rfl) hA35 ?_;clear hsz;unfold Oper.wp execOp;have hN37:=evalN hA37;go_simp;exact hK _ hS
          refine sure_cons ?_ ?_
          ·intro L ac W K hed hJ hS hK;have hn:=needs_spec (l:=[6,9]) (by kernel_rfl) hed;have hA35:=hJ.eval 6 (d:=35) (hn 6 (by simp)) rfl rfl rfl;have hA38:=hJ.eval 9 (d:=38) (hn 9 (by simp)) rfl rfl rfl;clear hed hJ hn;refine opStep_of rfl ?_;unfold Oper.wp execOp;have hN35:=evalN hA35;have hN38:=evalN hA38;go_simp;exact hK _ hS
          refine sure_cons ?_ ?_
          ·intro L ac W K hed hJ hS hK;have hn:=needs_spec (l:=[10]) (by kernel_rfl) hed;have hA39:=hJ.eval 10 (d:=39) (hn 10 (by simp)) rfl rfl rfl;clear hed hJ hn;refine opStep_of rfl ?_;unfold Oper.wp execOp;have hN39:=evalN hA39;go_simp;exact hK _ hS
          refine sure_cons ?_ ?_
          ·intro L ac W K hed hJ hS hK;have hn:=needs_spec (l:=[11]) (by kernel_rfl) hed;have hA3 : ac.eval (.tmp 3) = .int .i64 (0 : Int):=hJ.eval_old 3 (by kernel_rfl);have hA40:=hJ.eval 11 (d:=40) (hn 11 (by simp)) rfl rfl rfl;have hsz:=jj hJ.size;clear hed hJ hn;refine opStep_yes rfl (d:=40) rfl (by rw [hsz.out];rfl) hA40 ?_;clear hsz;unfold Oper.wp execOp;have hN3:=evalN hA3;go_simp;exact hK _ hS
          refine sure_cons ?_ ?_
          ·intro L ac W K hed hJ hS hK;have hn:=needs_spec (l:=[11,12]) (by kernel_rfl) hed;have hA41:=hJ.eval 12 (d:=41) (hn 12 (by simp)) rfl rfl rfl;have hA40:=hJ.eval 11 (d:=40) (hn 11 (by simp)) rfl rfl rfl;have hsz:=jj hJ.size;clear hed hJ hn;refine opStep_yes rfl (d:=40) rfl (by rw [hsz.out];rfl) hA40 ?_;clear hsz;unfold Oper.wp execOp;have hN41:=evalN hA41;go_simp;exact hK _ hS
          refine sure_cons ?_ ?_
          ·intro L ac W K hed hJ hS hK;have hn:=needs_spec (l:=[11,13]) (by kernel_rfl) hed;have hA42:=hJ.eval 13 (d:=42) (hn 13 (by simp)) rfl rfl rfl;have hA40:=hJ.eval 11 (d:=40) (hn 11 (by simp)) rfl rfl rfl;have hsz:=jj hJ.size;clear hed hJ hn;refine opStep_yes rfl (d:=40) rfl (by rw [hsz.out];rfl) hA40 ?_;clear hsz;unfold Oper.wp execOp;have hN42:=evalN hA42;go_simp;exact hK _ hS
          refine sure_cons ?_ ?_
          ·intro L ac W K hed hJ hS hK;have hn:=needs_spec (l:=[14]) (by kernel_rfl) hed;have hA43:=hJ.eval 14 (d:=43) (hn 14 (by simp)) rfl rfl rfl;have hsz:=jj hJ.size;clear hed hJ hn;refine opStep_no rfl (d:=43) rfl (by rw [hsz.out];rfl) hA43 rfl ?_;exact hK _ hS
          refine sure_cons ?_ ?_
          ·intro L ac W K hed hJ hS hK;have hn:=needs_spec (l:=[14]) (by kernel_rfl) hed;have hA43:=hJ.eval 14 (d:=43) (hn 14 (by simp)) rfl rfl rfl;have hsz:=jj hJ.size;clear hed hJ hn;refine opStep_no rfl (d:=43) rfl (by rw [hsz.out];rfl) hA43 rfl ?_;exact hK _ hS
          refine sure_cons ?_ ?_
          ·intro L ac W K hed hJ hS hK;have hn:=needs_spec (l:=[14]) (by kernel_rfl) hed;have hA43:=hJ.eval 14 (d:=43) (hn 14 (by simp)) rfl rfl rfl;have hsz:=jj hJ.size;clear hed hJ hn;refine opStep_no rfl (d:=43) rfl (by rw [hsz.out];rfl) hA43 rfl ?_;exact hK _ hS
          refine sure_cons ?_ ?_
          ·intro L ac W K hed hJ hS hK;have hn:=needs_spec (l:=[14]) (by kernel_rfl) hed;have hA43:=hJ.eval 14 (d:=43) (hn 14 (by simp)) rfl rfl rfl;have hsz:=jj hJ.size;clear hed hJ hn;refine opStep_no rfl (d:=43) rfl (by rw [hsz.out];rfl) hA43 rfl ?_;exact hK _ hS
          refine sure_cons ?_ ?_
          ·intro L ac W K hed hJ hS hK;have hn:=needs_spec (l:=[14]) (by kernel_rfl) hed;have hA43:=hJ.eval 14 (d:=43) (hn 14 (by simp)) rfl rfl rfl;have hsz:=jj hJ.size;clear hed hJ hn;refine opStep_no rfl (d:=43) rfl (by rw [hsz.out];rfl) hA43 rfl ?_;exact hK _ hS
          refine sure_cons ?_ ?_
          ·intro L ac W K hed hJ hS hK;have hn:=needs_spec (l:=[14]) (by kernel_rfl) hed;have hA43:=hJ.eval 14 (d:=43) (hn 14 (by simp)) rfl rfl rfl;have hsz:=jj hJ.size;clear hed hJ hn;refine opStep_no rfl (d:=43) rfl (by rw [hsz.out];rfl) hA43 rfl ?_;exact hK _ hS
          refine sure_cons ?_ ?_
          ·intro L ac W K hed hJ hS hK;have hn:=needs_spec (l:=[14]) (by kernel_rfl) hed;have hA43:=hJ.eval 14 (d:=43) (hn 14 (by simp)) rfl rfl rfl;have hsz:=jj hJ.size;clear hed hJ hn;refine opStep_no rfl (d:=43) rfl (by rw [hsz.out];rfl) hA43 rfl ?_;exact hK _ hS
          refine sure_cons ?_ ?_
          ·intro L ac W K hed hJ hS hK;have hn:=needs_spec (l:=[14]) (by kernel_rfl) hed;have hA43:=hJ.eval 14 (d:=43) (hn 14 (by simp)) rfl rfl rfl;have hsz:=jj hJ.size;clear hed hJ hn;refine opStep_no rfl (d:=43) rfl (by rw [hsz.out];rfl) hA43 rfl ?_;exact hK _ hS
          refine sure_cons ?_ ?_
          ·intro L ac W K hed hJ hS hK;have hn:=needs_spec (l:=[14]) (by kernel_rfl) hed;have hA43:=hJ.eval 14 (d:=43) (hn 14 (by simp)) rfl rfl rfl;have hsz:=jj hJ.size;clear hed hJ hn;refine opStep_no rfl (d:=43) rfl (by rw [hsz.out];rfl) hA43 rfl ?_;exact hK _ hS
          refine sure_cons ?_ ?_
          ·intro L ac W K hed hJ hS hK;have hn:=needs_spec (l:=[14]) (by kernel_rfl) hed;have hA43:=hJ.eval 14 (d:=43) (hn 14 (by simp)) rfl rfl rfl;have hsz:=jj hJ.size;clear hed hJ hn;refine opStep_no rfl (d:=43) rfl (by rw [hsz.out];rfl) hA43 rfl ?_;exact hK _ hS
          refine sure_cons ?_ ?_
          ·intro L ac W K hed hJ hS hK;have hn:=needs_spec (l:=[11,14,24]) (by kernel_rfl) hed;have hA43:=hJ.eval 14 (d:=43) (hn 14 (by simp)) rfl rfl rfl;have hA53:=hJ.eval 24 (d:=53) (hn 24 (by simp)) rfl rfl rfl;have hA40:=hJ.eval 11 (d:=40) (hn 11 (by simp)) rfl rfl rfl;have hsz:=jj hJ.size;clear hed hJ hn;refine opStep_yes rfl (d:=40) rfl (by rw [hsz.out];rfl) hA40 ?_;clear hsz;unfold Oper.wp execOp;have hN43:=evalN hA43;have hN53:=evalN hA53;go_simp;exact hK _ hS
          refine sure_cons ?_ ?_
          ·intro L ac W K hed hJ hS hK;have hn:=needs_spec (l:=[11,25]) (by kernel_rfl) hed;have hA40:=hJ.eval 11 (d:=40) (hn 11 (by simp)) rfl rfl rfl;have hA54:=hJ.eval 25 (d:=54) (hn 25 (by simp)) rfl rfl rfl;clear hed hJ hn;refine opStep_of rfl ?_;unfold Oper.wp execOp;have hN40:=evalN hA40;have hN54:=evalN hA54;go_simp;exact hK _ hS
          refine sure_nil ?_;intro W hS;simp only [putAll,Act.put,List.setIfInBounds_toArray,List.set_cons_zero,List.set_cons_succ];have HV:=jj (HW1.out.trans (hS.mono HW1.out.size));clear hS;go_wp2_with fail
          go_roundw
          case rel =>
           have R : ∃ k' : Nat,k' ≤ t.outs.length ∧ Value.int .i64 ((0 : Nat) + 1 : Int) = .int .i64 k' ∧ Hid (∀ j,j < k' → stepB (t.outs.map (·.1)) t.st j = true) ∧ Hid (∀ j p,j < k' → t.outs[j]? = some p → p.2.isEmpty = false) ∧ Hid (Below w1.heap.size w1 W):=⟨0 + 1,by have:=HLT.out;omega,by go_num,jj (fun j hj => by
            rcases Nat.lt_or_ge j (0) with h | h
            ·exact HK.out j h
            ·obtain rfl : j = 0:=(by omega);exact HST.out),jj (fun j p hj hp => by
            rcases Nat.lt_or_ge j (0) with h | h
            ·exact HE.out j p h hp
            ·obtain rfl : j = 0:=(by omega);rw [HP.out] at hp;cases hp;rfl),HV⟩
           first | exact R | ((repeat apply Exists.intro);exact ⟨R,rfl⟩)
          case measure => first | (simp [intOf];done) | (simp [intOf];have:=HLT.out;omega)
        ·obtain ⟨kk,rfl⟩ : ∃ kk,k = kk + 1:=⟨k - 1,by omega⟩;obtain ⟨q,hq⟩:=get_some (l:=t.outs) (k:=kk) (by omega);obtain ⟨bd',e,_,hc⟩:=Lies.row (f:=outCells) (n:=2) (HAW.out w1 (Below.refl _ _)).outs (fun y hy => rfl) (by omega) hq;injection e with e;subst e;have HQ:=jj hq;obtain ⟨n2,y2⟩:=q;have hc0:=hc 0 _ rfl;rw [show (bd.add (kk * 2)).add 0 = bd.add (kk * 2) by unfold Addr.add;simp] at hc0;have HPC : Hid (∀ W,Below w2.heap.size w2 W → W.cell? (bd.add (kk * 2)) = some (.int .u64 n2)):=jj fun W hW => ((HW1.out.trans (hW.mono HW1.out.size)).cell (by show (bd.add (kk * 2)).block < _;rw [add_block];exact hbd)).trans hc0;have e1 : ((kk + 1 : Nat) : Int) - 1 = (kk : Int):=(by omega);have z1 : (0 : Int) ≤ (kk : Int):=(by omega);have e2 : IntKind.i64.wrap (kk : Int) = (kk : Int):=(by rw [IntKind.wrap_i64];omega);have z2 : (kk : Int) < (t.outs.length : Int):=(by omega);have d2 : decide (((kk + 1 : Nat) : Int) > 0) = true:=(by simp);clear hc hq hc0;by_cases h2 : n2 < n
         ·have d3 : decide (n ≤ n2) = false:=(by simp;omega);have d3' : decide (n2 ≥ n) = false:=d3;have HST:=jj (stepB_succ (·.1) HP.out HQ.out h1 h2);clear h1 h2;refine' wp_region_sure (by kernel_rfl) (fun W => Below w2.heap.size w2 W) 27 [_,_,_,_,_,_,_,_,_,_,_,_,_,_,_,_,_,_,_,_,_,_,_,_,_,_,_] [some 29,some 30,some 31,some 32,some 33,some 34,some 35,some 36,some 37,some 38,some 39,some 40,some 41,some 42,some 43,some 44,some 45,some 46,some 47,some 48,some 49,some 50,some 51,some 52,some 53,some 54,some 55] (by kernel_rfl) (by kernel_rfl) (by kernel_rfl) (by kernel_rfl) rfl (Below.refl _ _).drew ?hsb
          case hsb =>
           refine sure_cons ?_ ?_
           ·intro L ac W K hed hJ hS hK;have hA4 : ac.eval (.tmp 4) = .pointer (some ⟨g1,0,none⟩):=hJ.eval_old 4 (by kernel_rfl);clear hed hJ;refine opStep_of rfl ?_;unfold Oper.wp execOp;have hN4:=evalN hA4;go_simp;exact hK _ hS
           refine sure_cons ?_ ?_
           ·intro L ac W K hed hJ hS hK;have hn:=needs_spec (l:=[0]) (by kernel_rfl) hed;have hA29:=hJ.eval 0 (d:=29) (hn 0 (by simp)) rfl rfl rfl;clear hed hJ hn;refine opStep_of rfl ?_;have cc:=(HXC.out W hS).1;unfold Oper.wp execOp;have hN29:=evalN hA29;go_simp;exact hK _ hS
           refine sure_cons ?_ ?_
           ·intro L ac W K hed hJ hS hK;have hA1 : ac.eval (.tmp 1) = .pointer (some ⟨gx,0,none⟩):=hJ.eval_old 1 (by kernel_rfl);clear hed hJ;refine opStep_of rfl ?_;unfold Oper.wp execOp;have hN1:=evalN hA1;go_simp;exact hK _ hS
           refine sure_cons ?_ ?_
           ·intro L ac W K hed hJ hS hK;have hn:=needs_spec (l:=[2]) (by kernel_rfl) hed;have hA31:=hJ.eval 2 (d:=31) (hn 2 (by simp)) rfl rfl rfl;clear hed hJ hn;refine opStep_of rfl ?_;have cc:=(HCW.out W hS).2.1;unfold Oper.wp execOp;have hN31:=evalN hA31;go_simp;exact hK _ hS
           refine sure_cons ?_ ?_
           ·intro L ac W K hed hJ hS hK;have hn:=needs_spec (l:=[3]) (by kernel_rfl) hed;have hA32:=hJ.eval 3 (d:=32) (hn 3 (by simp)) rfl rfl rfl;clear hed hJ hn;refine opStep_of rfl ?_;unfold Oper.wp execOp;have hN32:=evalN hA32;go_simp;exact hK _ hS
           refine sure_cons ?_ ?_
           ·intro L ac W K hed hJ hS hK;have hn:=needs_spec (l:=[1,4]) (by kernel_rfl) hed;have hA30:=hJ.eval 1 (d:=30) (hn 1 (by simp)) rfl rfl rfl;have hA33:=hJ.eval 4 (d:=33) (hn 4 (by simp)) rfl rfl rfl;clear hed hJ hn;refine opStep_of rfl ?_;unfold Oper.wp execOp;have hN30:=evalN hA30;have hN33:=evalN hA33;go_simp;exact hK _ hS
           refine sure_cons ?_ ?_
           ·intro L ac W K hed hJ hS hK;have hn:=needs_spec (l:=[5]) (by kernel_rfl) hed;have hA34:=hJ.eval 5 (d:=34) (hn 5 (by simp)) rfl rfl rfl;clear hed hJ hn;refine opStep_of rfl ?_;unfold Oper.wp execOp;have hN34:=evalN hA34;go_simp;exact hK _ hS
           refine sure_cons ?_ ?_
           ·intro L ac W K hed hJ hS hK;have hn:=needs_spec (l:=[6]) (by kernel_rfl) hed;have hA4 : ac.eval (.tmp 4) = .pointer (some ⟨g1,0,none⟩):=hJ.eval_old 4 (by kernel_rfl);have hA35:=hJ.eval 6 (d:=35) (hn 6 (by simp)) rfl rfl rfl;have hsz:=jj hJ.size;clear hed hJ hn;refine opStep_yes rfl (d:=35) rfl (by rw [hsz.out];rfl) hA35 ?_;clear hsz;unfold Oper.wp execOp;have hN4:=evalN hA4;go_simp;exact hK _ hS
           refine sure_cons ?_ ?_
           ·intro L ac W K hed hJ hS hK;have hn:=needs_spec (l:=[6,7]) (by kernel_rfl) hed;have hA36:=hJ.eval 7 (d:=36) (hn 7 (by simp)) rfl rfl rfl;have hA35:=hJ.eval 6 (d:=35) (hn 6 (by simp)) rfl rfl rfl;have hsz:=jj hJ.size;clear hed hJ hn;refine opStep_yes rfl (d:=35) rfl (by rw [hsz.out];rfl) hA35 ?_;clear hsz;have cc:=(HXC.out W hS).2;unfold Oper.wp execOp;have hN36:=evalN hA36;go_simp;exact hK _ hS
           refine sure_cons ?_ ?_
           ·intro L ac W K hed hJ hS hK;have hn:=needs_spec (l:=[6,8]) (by kernel_rfl) hed;have hA37:=hJ.eval 8 (d:=37) (hn 8 (by simp)) rfl rfl rfl;have hA35:=hJ.eval 6 (d:=35) (hn 6 (by simp)) rfl rfl rfl;have hsz:=jj hJ.size;clear hed hJ hn;refine opStep_yes rfl (d:=35) rfl (by rw [hsz.out];rfl) hA35 ?_;clear hsz;unfold Oper.wp execOp;have hN37:=evalN hA37;go_simp;exact hK _ hS
           refine sure_cons ?_ ?_
           ·intro L ac W K hed hJ hS hK;have hn:=needs_spec (l:=[6,9]) (by kernel_rfl) hed;have hA35:=hJ.eval 6 (d:=35) (hn 6 (by simp)) rfl rfl rfl;have hA38:=hJ.eval 9 (d:=38) (hn 9 (by simp)) rfl rfl rfl;clear hed hJ hn;refine opStep_of rfl ?_;unfold Oper.wp execOp;have hN35:=evalN hA35;have hN38:=evalN hA38;go_simp;exact hK _ hS
           refine sure_cons ?_ ?_
           ·intro L ac W K hed hJ hS hK;have hn:=needs_spec (l:=[10]) (by kernel_rfl) hed;have hA39:=hJ.eval 10 (d:=39) (hn 10 (by simp)) rfl rfl rfl;clear hed hJ hn;refine opStep_of rfl ?_;unfold Oper.wp execOp;have hN39:=evalN hA39;go_simp;exact hK _ hS
           refine sure_cons ?_ ?_
           ·intro L ac W K hed hJ hS hK;have hn:=needs_spec (l:=[11]) (by kernel_rfl) hed;have hA3 : ac.eval (.tmp 3) = .int .i64 ((kk + 1 : Nat) : Int):=hJ.eval_old 3 (by kernel_rfl);have hA40:=hJ.eval 11 (d:=40) (hn 11 (by simp)) rfl rfl rfl;have hsz:=jj hJ.size;clear hed hJ hn;refine opStep_yes rfl (d:=40) rfl (by rw [hsz.out];rfl) hA40 ?_;clear hsz;unfold Oper.wp execOp;have hN3:=evalN hA3;go_simp;exact hK _ hS
           refine sure_cons ?_ ?_
           ·intro L ac W K hed hJ hS hK;have hn:=needs_spec (l:=[11,12]) (by kernel_rfl) hed;have hA41:=hJ.eval 12 (d:=41) (hn 12 (by simp)) rfl rfl rfl;have hA40:=hJ.eval 11 (d:=40) (hn 11 (by simp)) rfl rfl rfl;have hsz:=jj hJ.size;clear hed hJ hn;refine opStep_yes rfl (d:=40) rfl (by rw [hsz.out];rfl) hA40 ?_;clear hsz;unfold Oper.wp execOp;have hN41:=evalN hA41;go_simp;exact hK _ hS
           refine sure_cons ?_ ?_
           ·intro L ac W K hed hJ hS hK;have hn:=needs_spec (l:=[11,13]) (by kernel_rfl) hed;have hA42:=hJ.eval 13 (d:=42) (hn 13 (by simp)) rfl rfl rfl;have hA40:=hJ.eval 11 (d:=40) (hn 11 (by simp)) rfl rfl rfl;have hsz:=jj hJ.size;clear hed hJ hn;refine opStep_yes rfl (d:=40) rfl (by rw [hsz.out];rfl) hA40 ?_;clear hsz;unfold Oper.wp execOp;have hN42:=evalN hA42;go_simp;exact hK _ hS
           refine sure_cons ?_ ?_
           ·intro L ac W K hed hJ hS hK;have hn:=needs_spec (l:=[14]) (by kernel_rfl) hed;have hA1 : ac.eval (.tmp 1) = .pointer (some ⟨gx,0,none⟩):=hJ.eval_old 1 (by kernel_rfl);have hA43:=hJ.eval 14 (d:=43) (hn 14 (by simp)) rfl rfl rfl;have hsz:=jj hJ.size;clear hed hJ hn;refine opStep_yes rfl (d:=43) rfl (by rw [hsz.out];rfl) hA43 ?_;clear hsz;unfold Oper.wp execOp;have hN1:=evalN hA1;go_simp;exact hK _ hS
           refine sure_cons ?_ ?_
           ·intro L ac W K hed hJ hS hK;have hn:=needs_spec (l:=[14,15]) (by kernel_rfl) hed;have hA44:=hJ.eval 15 (d:=44) (hn 15 (by simp)) rfl rfl rfl;have hA43:=hJ.eval 14 (d:=43) (hn 14 (by simp)) rfl rfl rfl;have hsz:=jj hJ.size;clear hed hJ hn;refine opStep_yes rfl (d:=43) rfl (by rw [hsz.out];rfl) hA43 ?_;clear hsz;have cc:=(HCW.out W hS).2.2;unfold Oper.wp execOp;have hN44:=evalN hA44;go_simp;exact hK _ hS
           refine sure_cons ?_ ?_
           ·intro L ac W K hed hJ hS hK;have hn:=needs_spec (l:=[14]) (by kernel_rfl) hed;have hA3 : ac.eval (.tmp 3) = .int .i64 ((kk + 1 : Nat) : Int):=hJ.eval_old 3 (by kernel_rfl);have hA43:=hJ.eval 14 (d:=43) (hn 14 (by simp)) rfl rfl rfl;have hsz:=jj hJ.size;clear hed hJ hn;refine opStep_yes rfl (d:=43) rfl (by rw [hsz.out];rfl) hA43 ?_;clear hsz;unfold Oper.wp execOp;have hN3:=evalN hA3;go_simp;exact hK _ hS
           refine sure_cons ?_ ?_
           ·intro L ac W K hed hJ hS hK;have hn:=needs_spec (l:=[14,17]) (by kernel_rfl) hed;have hA46:=hJ.eval 17 (d:=46) (hn 17 (by simp)) rfl rfl rfl;have hA43:=hJ.eval 14 (d:=43) (hn 14 (by simp)) rfl rfl rfl;have hsz:=jj hJ.size;clear hed hJ hn;refine opStep_yes rfl (d:=43) rfl (by rw [hsz.out];rfl) hA43 ?_;clear hsz;unfold Oper.wp execOp;have hN46:=evalN hA46;go_simp;exact hK _ hS
           refine sure_cons ?_ ?_
           ·intro L ac W K hed hJ hS hK;have hn:=needs_spec (l:=[14,16,18]) (by kernel_rfl) hed;have hA45:=hJ.eval 16 (d:=45) (hn 16 (by simp)) rfl rfl rfl;have hA47:=hJ.eval 18 (d:=47) (hn 18 (by simp)) rfl rfl rfl;have hA43:=hJ.eval 14 (d:=43) (hn 14 (by simp)) rfl rfl rfl;have hsz:=jj hJ.size;clear hed hJ hn;refine opStep_yes rfl (d:=43) rfl (by rw [hsz.out];rfl) hA43 ?_;clear hsz;unfold Oper.wp execOp;have hN45:=evalN hA45;have hN47:=evalN hA47;go_simp;exact hK _ hS
           refine sure_cons ?_ ?_
           ·intro L ac W K hed hJ hS hK;have hn:=needs_spec (l:=[14,19]) (by kernel_rfl) hed;have hA48:=hJ.eval 19 (d:=48) (hn 19 (by simp)) rfl rfl rfl;have hA43:=hJ.eval 14 (d:=43) (hn 14 (by simp)) rfl rfl rfl;have hsz:=jj hJ.size;clear hed hJ hn;refine opStep_yes rfl (d:=43) rfl (by rw [hsz.out];rfl) hA43 ?_;clear hsz;unfold Oper.wp execOp;have hN48:=evalN hA48;go_simp;exact hK _ hS
           refine sure_cons ?_ ?_
           ·intro L ac W K hed hJ hS hK;have hn:=needs_spec (l:=[14,20]) (by kernel_rfl) hed;have hA49:=hJ.eval 20 (d:=49) (hn 20 (by simp)) rfl rfl rfl;have hA43:=hJ.eval 14 (d:=43) (hn 14 (by simp)) rfl rfl rfl;have hsz:=jj hJ.size;clear hed hJ hn;refine opStep_yes rfl (d:=43) rfl (by rw [hsz.out];rfl) hA43 ?_;clear hsz;have cc:=HPC.out W hS;unfold Oper.wp execOp;have hN49:=evalN hA49;go_simp;exact hK _ hS
           refine sure_cons ?_ ?_
           ·intro L ac W K hed hJ hS hK;have hn:=needs_spec (l:=[14]) (by kernel_rfl) hed;have hA4 : ac.eval (.tmp 4) = .pointer (some ⟨g1,0,none⟩):=hJ.eval_old 4 (by kernel_rfl);have hA43:=hJ.eval 14 (d:=43) (hn 14 (by simp)) rfl rfl rfl;have hsz:=jj hJ.size;clear hed hJ hn;refine opStep_yes rfl (d:=43) rfl (by rw [hsz.out];rfl) hA43 ?_;clear hsz;unfold Oper.wp execOp;have hN4:=evalN hA4;go_simp;exact hK _ hS
           refine sure_cons ?_ ?_
           ·intro L ac W K hed hJ hS hK;have hn:=needs_spec (l:=[14,22]) (by kernel_rfl) hed;have hA51:=hJ.eval 22 (d:=51) (hn 22 (by simp)) rfl rfl rfl;have hA43:=hJ.eval 14 (d:=43) (hn 14 (by simp)) rfl rfl rfl;have hsz:=jj hJ.size;clear hed hJ hn;refine opStep_yes rfl (d:=43) rfl (by rw [hsz.out];rfl) hA43 ?_;clear hsz;have cc:=(HXC.out W hS).1;unfold Oper.wp execOp;have hN51:=evalN hA51;go_simp;exact hK _ hS
           refine sure_cons ?_ ?_
           ·intro L ac W K hed hJ hS hK;have hn:=needs_spec (l:=[14,21,23]) (by kernel_rfl) hed;have hA50:=hJ.eval 21 (d:=50) (hn 21 (by simp)) rfl rfl rfl;have hA52:=hJ.eval 23 (d:=52) (hn 23 (by simp)) rfl rfl rfl;have hA43:=hJ.eval 14 (d:=43) (hn 14 (by simp)) rfl rfl rfl;have hsz:=jj hJ.size;clear hed hJ hn;refine opStep_yes rfl (d:=43) rfl (by rw [hsz.out];rfl) hA43 ?_;clear hsz;unfold Oper.wp execOp;have hN50:=evalN hA50;have hN52:=evalN hA52;go_simp;exact hK _ hS
           refine sure_cons ?_ ?_
           ·intro L ac W K hed hJ hS hK;have hn:=needs_spec (l:=[11,14,24]) (by kernel_rfl) hed;have hA43:=hJ.eval 14 (d:=43) (hn 14 (by simp)) rfl rfl rfl;have hA53:=hJ.eval 24 (d:=53) (hn 24 (by simp)) rfl rfl rfl;have hA40:=hJ.eval 11 (d:=40) (hn 11 (by simp)) rfl rfl rfl;have hsz:=jj hJ.size;clear hed hJ hn;refine opStep_yes rfl (d:=40) rfl (by rw [hsz.out];rfl) hA40 ?_;clear hsz;unfold Oper.wp execOp;have hN43:=evalN hA43;have hN53:=evalN hA53;go_simp;exact hK _ hS
           refine sure_cons ?_ ?_
           ·intro L ac W K hed hJ hS hK;have hn:=needs_spec (l:=[11,25]) (by kernel_rfl) hed;have hA40:=hJ.eval 11 (d:=40) (hn 11 (by simp)) rfl rfl rfl;have hA54:=hJ.eval 25 (d:=54) (hn 25 (by simp)) rfl rfl rfl;clear hed hJ hn;refine opStep_of rfl ?_;unfold Oper.wp execOp;have hN40:=evalN hA40;have hN54:=evalN hA54;go_simp;exact hK _ hS
           refine sure_nil ?_;intro W hS;simp only [putAll,Act.put,List.setIfInBounds_toArray,List.set_cons_zero,List.set_cons_succ];have HV:=jj (HW1.out.trans (hS.mono HW1.out.size));clear hS;go_wp2_with fail
           go_roundw
           case rel =>
            have R : ∃ k' : Nat,k' ≤ t.outs.length ∧ Value.int .i64 ((kk + 1 : Nat) + 1 : Int) = .int .i64 k' ∧ Hid (∀ j,j < k' → stepB (t.outs.map (·.1)) t.st j = true) ∧ Hid (∀ j p,j < k' → t.outs[j]? = some p → p.2.isEmpty = false) ∧ Hid (Below w1.heap.size w1 W):=⟨kk + 1 + 1,by have:=HLT.out;omega,by go_num,jj (fun j hj => by
             rcases Nat.lt_or_ge j (kk + 1) with h | h
             ·exact HK.out j h
             ·obtain rfl : j = kk + 1:=(by omega);exact HST.out),jj (fun j p hj hp => by
             rcases Nat.lt_or_ge j (kk + 1) with h | h
             ·exact HE.out j p h hp
             ·obtain rfl : j = kk + 1:=(by omega);rw [HP.out] at hp;cases hp;rfl),HV⟩
            first | exact R | ((repeat apply Exists.intro);exact ⟨R,rfl⟩)
           case measure => first | (simp [intOf];done) | (simp [intOf];have:=HLT.out;omega)
         ·have d3 : decide (n ≤ n2) = true:=(by simp;omega);have d3' : decide (n2 ≥ n) = true:=d3;have HM : Hid (mayB t = false):=jj (by rw [HM2.out,riseB_no (by rw [List.length_map];exact HLT.out) (stepB_no2 (s:=t.st) (·.1) HP.out HQ.out h2)];rfl);clear h1 h2;refine' wp_region_sure (by kernel_rfl) (fun W => Below w2.heap.size w2 W) 27 [_,_,_,_,_,_,_,_,_,_,_,_,_,_,_,_,_,_,_,_,_,_,_,_,_,_,_] [some 29,some 30,some 31,some 32,some 33,some 34,some 35,some 36,some 37,some 38,some 39,some 40,some 41,some 42,some 43,some 44,some 45,some 46,some 47,some 48,some 49,some 50,some 51,some 52,some 53,some 54,some 55] (by kernel_rfl) (by kernel_rfl) (by kernel_rfl) (by kernel_rfl) rfl (Below.refl _ _).drew ?hsc
          case hsc =>
           refine sure_cons ?_ ?_
           ·intro L ac W K hed hJ hS hK;have hA4 : ac.eval (.tmp 4) = .pointer (some ⟨g1,0,none⟩):=hJ.eval_old 4 (by kernel_rfl);clear hed hJ;refine opStep_of rfl ?_;unfold Oper.wp execOp;have hN4:=evalN hA4;go_simp;exact hK _ hS
           refine sure_cons ?_ ?_
           ·intro L ac W K hed hJ hS hK;have hn:=needs_spec (l:=[0]) (by kernel_rfl) hed;have hA29:=hJ.eval 0 (d:=29) (hn 0 (by simp)) rfl rfl rfl;clear hed hJ hn;refine opStep_of rfl ?_;have cc:=(HXC.out W hS).1;unfold Oper.wp execOp;have hN29:=evalN hA29;go_simp;exact hK _ hS
           refine sure_cons ?_ ?_
           ·intro L ac W K hed hJ hS hK;have hA1 : ac.eval (.tmp 1) = .pointer (some ⟨gx,0,none⟩):=hJ.eval_old 1 (by kernel_rfl);clear hed hJ;refine opStep_of rfl ?_;unfold Oper.wp execOp;have hN1:=evalN hA1;go_simp;exact hK _ hS
           refine sure_cons ?_ ?_
           ·intro L ac W K hed hJ hS hK;have hn:=needs_spec (l:=[2]) (by kernel_rfl) hed;have hA31:=hJ.eval 2 (d:=31) (hn 2 (by simp)) rfl rfl rfl;clear hed hJ hn;refine opStep_of rfl ?_;have cc:=(HCW.out W hS).2.1;unfold Oper.wp execOp;have hN31:=evalN hA31;go_simp;exact hK _ hS
           refine sure_cons ?_ ?_
           ·intro L ac W K hed hJ hS hK;have hn:=needs_spec (l:=[3]) (by kernel_rfl) hed;have hA32:=hJ.eval 3 (d:=32) (hn 3 (by simp)) rfl rfl rfl;clear hed hJ hn;refine opStep_of rfl ?_;unfold Oper.wp execOp;have hN32:=evalN hA32;go_simp;exact hK _ hS
           refine sure_cons ?_ ?_
           ·intro L ac W K hed hJ hS hK;have hn:=needs_spec (l:=[1,4]) (by kernel_rfl) hed;have hA30:=hJ.eval 1 (d:=30) (hn 1 (by simp)) rfl rfl rfl;have hA33:=hJ.eval 4 (d:=33) (hn 4 (by simp)) rfl rfl rfl;clear hed hJ hn;refine opStep_of rfl ?_;unfold Oper.wp execOp;have hN30:=evalN hA30;have hN33:=evalN hA33;go_simp;exact hK _ hS
           refine sure_cons ?_ ?_
           ·intro L ac W K hed hJ hS hK;have hn:=needs_spec (l:=[5]) (by kernel_rfl) hed;have hA34:=hJ.eval 5 (d:=34) (hn 5 (by simp)) rfl rfl rfl;clear hed hJ hn;refine opStep_of rfl ?_;unfold Oper.wp execOp;have hN34:=evalN hA34;go_simp;exact hK _ hS
           refine sure_cons ?_ ?_
           ·intro L ac W K hed hJ hS hK;have hn:=needs_spec (l:=[6]) (by kernel_rfl) hed;have hA4 : ac.eval (.tmp 4) = .pointer (some ⟨g1,0,none⟩):=hJ.eval_old 4 (by kernel_rfl);have hA35:=hJ.eval 6 (d:=35) (hn 6 (by simp)) rfl rfl rfl;have hsz:=jj hJ.size;clear hed hJ hn;refine opStep_yes rfl (d:=35) rfl (by rw [hsz.out];rfl) hA35 ?_;clear hsz;unfold Oper.wp execOp;have hN4:=evalN hA4;go_simp;exact hK _ hS
           refine sure_cons ?_ ?_
           ·intro L ac W K hed hJ hS hK;have hn:=needs_spec (l:=[6,7]) (by kernel_rfl) hed;have hA36:=hJ.eval 7 (d:=36) (hn 7 (by simp)) rfl rfl rfl;have hA35:=hJ.eval 6 (d:=35) (hn 6 (by simp)) rfl rfl rfl;have hsz:=jj hJ.size;clear hed hJ hn;refine opStep_yes rfl (d:=35) rfl (by rw [hsz.out];rfl) hA35 ?_;clear hsz;have cc:=(HXC.out W hS).2;unfold Oper.wp execOp;have hN36:=evalN hA36;go_simp;exact hK _ hS
           refine sure_cons ?_ ?_
           ·intro L ac W K hed hJ hS hK;have hn:=needs_spec (l:=[6,8]) (by kernel_rfl) hed;have hA37:=hJ.eval 8 (d:=37) (hn 8 (by simp)) rfl rfl rfl;have hA35:=hJ.eval 6 (d:=35) (hn 6 (by simp)) rfl rfl rfl;have hsz:=jj hJ.size;clear hed hJ hn;refine opStep_yes rfl (d:=35) rfl (by rw [hsz.out];rfl) hA35 ?_;clear hsz;unfold Oper.wp execOp;have hN37:=evalN hA37;go_simp;exact hK _ hS
           refine sure_cons ?_ ?_
           ·intro L ac W K hed hJ hS hK;have hn:=needs_spec (l:=[6,9]) (by kernel_rfl) hed;have hA35:=hJ.eval 6 (d:=35) (hn 6 (by simp)) rfl rfl rfl;have hA38:=hJ.eval 9 (d:=38) (hn 9 (by simp)) rfl rfl rfl;clear hed hJ hn;refine opStep_of rfl ?_;unfold Oper.wp execOp;have hN35:=evalN hA35;have hN38:=evalN hA38;go_simp;exact hK _ hS
           refine sure_cons ?_ ?_
           ·intro L ac W K hed hJ hS hK;have hn:=needs_spec (l:=[10]) (by kernel_rfl) hed;have hA39:=hJ.eval 10 (d:=39) (hn 10 (by simp)) rfl rfl rfl;clear hed hJ hn;refine opStep_of rfl ?_;unfold Oper.wp execOp;have hN39:=evalN hA39;go_simp;exact hK _ hS
           refine sure_cons ?_ ?_
           ·intro L ac W K hed hJ hS hK;have hn:=needs_spec (l:=[11]) (by kernel_rfl) hed;have hA3 : ac.eval (.tmp 3) = .int .i64 ((kk + 1 : Nat) : Int):=hJ.eval_old 3 (by kernel_rfl);have hA40:=hJ.eval 11 (d:=40) (hn 11 (by simp)) rfl rfl rfl;have hsz:=jj hJ.size;clear hed hJ hn;refine opStep_yes rfl (d:=40) rfl (by rw [hsz.out];rfl) hA40 ?_;clear hsz;unfold Oper.wp execOp;have hN3:=evalN hA3;go_simp;exact hK _ hS
           refine sure_cons ?_ ?_
           ·intro L ac W K hed hJ hS hK;have hn:=needs_spec (l:=[11,12]) (by kernel_rfl) hed;have hA41:=hJ.eval 12 (d:=41) (hn 12 (by simp)) rfl rfl rfl;have hA40:=hJ.eval 11 (d:=40) (hn 11 (by simp)) rfl rfl rfl;have hsz:=jj hJ.size;clear hed hJ hn;refine opStep_yes rfl (d:=40) rfl (by rw [hsz.out];rfl) hA40 ?_;clear hsz;unfold Oper.wp execOp;have hN41:=evalN hA41;go_simp;exact hK _ hS
           refine sure_cons ?_ ?_
           ·intro L ac W K hed hJ hS hK;have hn:=needs_spec (l:=[11,13]) (by kernel_rfl) hed;have hA42:=hJ.eval 13 (d:=42) (hn 13 (by simp)) rfl rfl rfl;have hA40:=hJ.eval 11 (d:=40) (hn 11 (by simp)) rfl rfl rfl;have hsz:=jj hJ.size;clear hed hJ hn;refine opStep_yes rfl (d:=40) rfl (by rw [hsz.out];rfl) hA40 ?_;clear hsz;unfold Oper.wp execOp;have hN42:=evalN hA42;go_simp;exact hK _ hS
           refine sure_cons ?_ ?_
           ·intro L ac W K hed hJ hS hK;have hn:=needs_spec (l:=[14]) (by kernel_rfl) hed;have hA1 : ac.eval (.tmp 1) = .pointer (some ⟨gx,0,none⟩):=hJ.eval_old 1 (by kernel_rfl);have hA43:=hJ.eval 14 (d:=43) (hn 14 (by simp)) rfl rfl rfl;have hsz:=jj hJ.size;clear hed hJ hn;refine opStep_yes rfl (d:=43) rfl (by rw [hsz.out];rfl) hA43 ?_;clear hsz;unfold Oper.wp execOp;have hN1:=evalN hA1;go_simp;exact hK _ hS
           refine sure_cons ?_ ?_
           ·intro L ac W K hed hJ hS hK;have hn:=needs_spec (l:=[14,15]) (by kernel_rfl) hed;have hA44:=hJ.eval 15 (d:=44) (hn 15 (by simp)) rfl rfl rfl;have hA43:=hJ.eval 14 (d:=43) (hn 14 (by simp)) rfl rfl rfl;have hsz:=jj hJ.size;clear hed hJ hn;refine opStep_yes rfl (d:=43) rfl (by rw [hsz.out];rfl) hA43 ?_;clear hsz;have cc:=(HCW.out W hS).2.2;unfold Oper.wp execOp;have hN44:=evalN hA44;go_simp;exact hK _ hS
           refine sure_cons ?_ ?_
           ·intro L ac W K hed hJ hS hK;have hn:=needs_spec (l:=[14]) (by kernel_rfl) hed;have hA3 : ac.eval (.tmp 3) = .int .i64 ((kk + 1 : Nat) : Int):=hJ.eval_old 3 (by kernel_rfl);have hA43:=hJ.eval 14 (d:=43) (hn 14 (by simp)) rfl rfl rfl;have hsz:=jj hJ.size;clear hed hJ hn;refine opStep_yes rfl (d:=43) rfl (by rw [hsz.out];rfl) hA43 ?_;clear hsz;unfold Oper.wp execOp;have hN3:=evalN hA3;go_simp;exact hK _ hS
           refine sure_cons ?_ ?_
           ·intro L ac W K hed hJ hS hK;have hn:=needs_spec (l:=[14,17]) (by kernel_rfl) hed;have hA46:=hJ.eval 17 (d:=46) (hn 17 (by simp)) rfl rfl rfl;have hA43:=hJ.eval 14 (d:=43) (hn 14 (by simp)) rfl rfl rfl;have hsz:=jj hJ.size;clear hed hJ hn;refine opStep_yes rfl (d:=43) rfl (by rw [hsz.out];rfl) hA43 ?_;clear hsz;unfold Oper.wp execOp;have hN46:=evalN hA46;go_simp;exact hK _ hS
           refine sure_cons ?_ ?_
           ·intro L ac W K hed hJ hS hK;have hn:=needs_spec (l:=[14,16,18]) (by kernel_rfl) hed;have hA45:=hJ.eval 16 (d:=45) (hn 16 (by simp)) rfl rfl rfl;have hA47:=hJ.eval 18 (d:=47) (hn 18 (by simp)) rfl rfl rfl;have hA43:=hJ.eval 14 (d:=43) (hn 14 (by simp)) rfl rfl rfl;have hsz:=jj hJ.size;clear hed hJ hn;refine opStep_yes rfl (d:=43) rfl (by rw [hsz.out];rfl) hA43 ?_;clear hsz;unfold Oper.wp execOp;have hN45:=evalN hA45;have hN47:=evalN hA47;go_simp;exact hK _ hS
           refine sure_cons ?_ ?_
           ·intro L ac W K hed hJ hS hK;have hn:=needs_spec (l:=[14,19]) (by kernel_rfl) hed;have hA48:=hJ.eval 19 (d:=48) (hn 19 (by simp)) rfl rfl rfl;have hA43:=hJ.eval 14 (d:=43) (hn 14 (by simp)) rfl rfl rfl;have hsz:=jj hJ.size;clear hed hJ hn;refine opStep_yes rfl (d:=43) rfl (by rw [hsz.out];rfl) hA43 ?_;clear hsz;unfold Oper.wp execOp;have hN48:=evalN hA48;go_simp;exact hK _ hS
           refine sure_cons ?_ ?_
           ·intro L ac W K hed hJ hS hK;have hn:=needs_spec (l:=[14,20]) (by kernel_rfl) hed;have hA49:=hJ.eval 20 (d:=49) (hn 20 (by simp)) rfl rfl rfl;have hA43:=hJ.eval 14 (d:=43) (hn 14 (by simp)) rfl rfl rfl;have hsz:=jj hJ.size;clear hed hJ hn;refine opStep_yes rfl (d:=43) rfl (by rw [hsz.out];rfl) hA43 ?_;clear hsz;have cc:=HPC.out W hS;unfold Oper.wp execOp;have hN49:=evalN hA49;go_simp;exact hK _ hS
           refine sure_cons ?_ ?_
           ·intro L ac W K hed hJ hS hK;have hn:=needs_spec (l:=[14]) (by kernel_rfl) hed;have hA4 : ac.eval (.tmp 4) = .pointer (some ⟨g1,0,none⟩):=hJ.eval_old 4 (by kernel_rfl);have hA43:=hJ.eval 14 (d:=43) (hn 14 (by simp)) rfl rfl rfl;have hsz:=jj hJ.size;clear hed hJ hn;refine opStep_yes rfl (d:=43) rfl (by rw [hsz.out];rfl) hA43 ?_;clear hsz;unfold Oper.wp execOp;have hN4:=evalN hA4;go_simp;exact hK _ hS
           refine sure_cons ?_ ?_
           ·intro L ac W K hed hJ hS hK;have hn:=needs_spec (l:=[14,22]) (by kernel_rfl) hed;have hA51:=hJ.eval 22 (d:=51) (hn 22 (by simp)) rfl rfl rfl;have hA43:=hJ.eval 14 (d:=43) (hn 14 (by simp)) rfl rfl rfl;have hsz:=jj hJ.size;clear hed hJ hn;refine opStep_yes rfl (d:=43) rfl (by rw [hsz.out];rfl) hA43 ?_;clear hsz;have cc:=(HXC.out W hS).1;unfold Oper.wp execOp;have hN51:=evalN hA51;go_simp;exact hK _ hS
           refine sure_cons ?_ ?_
           ·intro L ac W K hed hJ hS hK;have hn:=needs_spec (l:=[14,21,23]) (by kernel_rfl) hed;have hA50:=hJ.eval 21 (d:=50) (hn 21 (by simp)) rfl rfl rfl;have hA52:=hJ.eval 23 (d:=52) (hn 23 (by simp)) rfl rfl rfl;have hA43:=hJ.eval 14 (d:=43) (hn 14 (by simp)) rfl rfl rfl;have hsz:=jj hJ.size;clear hed hJ hn;refine opStep_yes rfl (d:=43) rfl (by rw [hsz.out];rfl) hA43 ?_;clear hsz;unfold Oper.wp execOp;have hN50:=evalN hA50;have hN52:=evalN hA52;go_simp;exact hK _ hS
           refine sure_cons ?_ ?_
           ·intro L ac W K hed hJ hS hK;have hn:=needs_spec (l:=[11,14,24]) (by kernel_rfl) hed;have hA43:=hJ.eval 14 (d:=43) (hn 14 (by simp)) rfl rfl rfl;have hA53:=hJ.eval 24 (d:=53) (hn 24 (by simp)) rfl rfl rfl;have hA40:=hJ.eval 11 (d:=40) (hn 11 (by simp)) rfl rfl rfl;have hsz:=jj hJ.size;clear hed hJ hn;refine opStep_yes rfl (d:=40) rfl (by rw [hsz.out];rfl) hA40 ?_;clear hsz;unfold Oper.wp execOp;have hN43:=evalN hA43;have hN53:=evalN hA53;go_simp;exact hK _ hS
           refine sure_cons ?_ ?_
           ·intro L ac W K hed hJ hS hK;have hn:=needs_spec (l:=[11,25]) (by kernel_rfl) hed;have hA40:=hJ.eval 11 (d:=40) (hn 11 (by simp)) rfl rfl rfl;have hA54:=hJ.eval 25 (d:=54) (hn 25 (by simp)) rfl rfl rfl;clear hed hJ hn;refine opStep_of rfl ?_;unfold Oper.wp execOp;have hN40:=evalN hA40;have hN54:=evalN hA54;go_simp;exact hK _ hS
           refine sure_nil ?_;intro W hS;simp only [putAll,Act.put,List.setIfInBounds_toArray,List.set_cons_zero,List.set_cons_succ];have HV:=jj (HW1.out.trans (hS.mono HW1.out.size));clear hS;go_wp2_with fail;go_ret;exact ⟨by rw [HM.out];rfl,by rw [HGX.out];exact HBW.out _ HV.out⟩
      ·have d1 : decide (t.st ≤ n) = true:=(by simp;omega);have d1' : decide (n ≥ t.st) = true:=d1;have HM : Hid (mayB t = false):=jj (by rw [HM2.out,riseB_no (by rw [List.length_map];exact HLT.out) (stepB_no1 (s:=t.st) (·.1) HP.out h1)];rfl);clear h1;refine' wp_region_sure (by kernel_rfl) (fun W => Below w2.heap.size w2 W) 27 [_,_,_,_,_,_,_,undef,undef,undef,_,_,undef,undef,undef,undef,undef,undef,undef,undef,undef,undef,undef,undef,undef,undef,_] [some 29,some 30,some 31,some 32,some 33,some 34,some 35,some 36,some 37,some 38,some 39,some 40,some 41,some 42,some 43,some 44,some 45,some 46,some 47,some 48,some 49,some 50,some 51,some 52,some 53,some 54,some 55] (by kernel_rfl) (by kernel_rfl) (by kernel_rfl) (by kernel_rfl) rfl (Below.refl _ _).drew ?hsd
       case hsd =>
        refine sure_cons ?_ ?_
        ·intro L ac W K hed hJ hS hK;have hA4 : ac.eval (.tmp 4) = .pointer (some ⟨g1,0,none⟩):=hJ.eval_old 4 (by kernel_rfl);clear hed hJ;refine opStep_of rfl ?_;unfold Oper.wp execOp;have hN4:=evalN hA4;go_simp;exact hK _ hS
        refine sure_cons ?_ ?_
        ·intro L ac W K hed hJ hS hK;have hn:=needs_spec (l:=[0]) (by kernel_rfl) hed;have hA29:=hJ.eval 0 (d:=29) (hn 0 (by simp)) rfl rfl rfl;clear hed hJ hn;refine opStep_of rfl ?_;have cc:=(HXC.out W hS).1;unfold Oper.wp execOp;have hN29:=evalN hA29;go_simp;exact hK _ hS
        refine sure_cons ?_ ?_
        ·intro L ac W K hed hJ hS hK;have hA1 : ac.eval (.tmp 1) = .pointer (some ⟨gx,0,none⟩):=hJ.eval_old 1 (by kernel_rfl);clear hed hJ;refine opStep_of rfl ?_;unfold Oper.wp execOp;have hN1:=evalN hA1;go_simp;exact hK _ hS
        refine sure_cons ?_ ?_
        ·intro L ac W K hed hJ hS hK;have hn:=needs_spec (l:=[2]) (by kernel_rfl) hed;have hA31:=hJ.eval 2 (d:=31) (hn 2 (by simp)) rfl rfl rfl;clear hed hJ hn;refine opStep_of rfl ?_;have cc:=(HCW.out W hS).2.1;unfold Oper.wp execOp;have hN31:=evalN hA31;go_simp;exact hK _ hS
        refine sure_cons ?_ ?_
        ·intro L ac W K hed hJ hS hK;have hn:=needs_spec (l:=[3]) (by kernel_rfl) hed;have hA32:=hJ.eval 3 (d:=32) (hn 3 (by simp)) rfl rfl rfl;clear hed hJ hn;refine opStep_of rfl ?_;unfold Oper.wp execOp;have hN32:=evalN hA32;go_simp;exact hK _ hS
        refine sure_cons ?_ ?_
        ·intro L ac W K hed hJ hS hK;have hn:=needs_spec (l:=[1,4]) (by kernel_rfl) hed;have hA30:=hJ.eval 1 (d:=30) (hn 1 (by simp)) rfl rfl rfl;have hA33:=hJ.eval 4 (d:=33) (hn 4 (by simp)) rfl rfl rfl;clear hed hJ hn;refine opStep_of rfl ?_;unfold Oper.wp execOp;have hN30:=evalN hA30;have hN33:=evalN hA33;go_simp;exact hK _ hS
        refine sure_cons ?_ ?_
        ·intro L ac W K hed hJ hS hK;have hn:=needs_spec (l:=[5]) (by kernel_rfl) hed;have hA34:=hJ.eval 5 (d:=34) (hn 5 (by simp)) rfl rfl rfl;clear hed hJ hn;refine opStep_of rfl ?_;unfold Oper.wp execOp;have hN34:=evalN hA34;go_simp;exact hK _ hS
        refine sure_cons ?_ ?_
        ·intro L ac W K hed hJ hS hK;have hn:=needs_spec (l:=[6]) (by kernel_rfl) hed;have hA35:=hJ.eval 6 (d:=35) (hn 6 (by simp)) rfl rfl rfl;have hsz:=jj hJ.size;clear hed hJ hn;refine opStep_no rfl (d:=35) rfl (by rw [hsz.out];rfl) hA35 rfl ?_;exact hK _ hS
        refine sure_cons ?_ ?_
        ·intro L ac W K hed hJ hS hK;have hn:=needs_spec (l:=[6]) (by kernel_rfl) hed;have hA35:=hJ.eval 6 (d:=35) (hn 6 (by simp)) rfl rfl rfl;have hsz:=jj hJ.size;clear hed hJ hn;refine opStep_no rfl (d:=35) rfl (by rw [hsz.out];rfl) hA35 rfl ?_;exact hK _ hS
        refine sure_cons ?_ ?_
        ·intro L ac W K hed hJ hS hK;have hn:=needs_spec (l:=[6]) (by kernel_rfl) hed;have hA35:=hJ.eval 6 (d:=35) (hn 6 (by simp)) rfl rfl rfl;have hsz:=jj hJ.size;clear hed hJ hn;refine opStep_no rfl (d:=35) rfl (by rw [hsz.out];rfl) hA35 rfl ?_;exact hK _ hS
        refine sure_cons ?_ ?_
        ·intro L ac W K hed hJ hS hK;have hn:=needs_spec (l:=[6,9]) (by kernel_rfl) hed;have hA35:=hJ.eval 6 (d:=35) (hn 6 (by simp)) rfl rfl rfl;have hA38:=hJ.eval 9 (d:=38) (hn 9 (by simp)) rfl rfl rfl;clear hed hJ hn;refine opStep_of rfl ?_;unfold Oper.wp execOp;have hN35:=evalN hA35;have hN38:=evalN hA38;go_simp;exact hK _ hS
        refine sure_cons ?_ ?_
        ·intro L ac W K hed hJ hS hK;have hn:=needs_spec (l:=[10]) (by kernel_rfl) hed;have hA39:=hJ.eval 10 (d:=39) (hn 10 (by simp)) rfl rfl rfl;clear hed hJ hn;refine opStep_of rfl ?_;unfold Oper.wp execOp;have hN39:=evalN hA39;go_simp;exact hK _ hS
        refine sure_cons ?_ ?_
        ·intro L ac W K hed hJ hS hK;have hn:=needs_spec (l:=[11]) (by kernel_rfl) hed;have hA40:=hJ.eval 11 (d:=40) (hn 11 (by simp)) rfl rfl rfl;have hsz:=jj hJ.size;clear hed hJ hn;refine opStep_no rfl (d:=40) rfl (by rw [hsz.out];rfl) hA40 rfl ?_;exact hK _ hS
        refine sure_cons ?_ ?_
        ·intro L ac W K hed hJ hS hK;have hn:=needs_spec (l:=[11]) (by kernel_rfl) hed;have hA40:=hJ.eval 11 (d:=40) (hn 11 (by simp)) rfl rfl rfl;have hsz:=jj hJ.size;clear hed hJ hn;refine opStep_no rfl (d:=40) rfl (by rw [hsz.out];rfl) hA40 rfl ?_;exact hK _ hS
        refine sure_cons ?_ ?_
        ·intro L ac W K hed hJ hS hK;have hn:=needs_spec (l:=[11]) (by kernel_rfl) hed;have hA40:=hJ.eval 11 (d:=40) (hn 11 (by simp)) rfl rfl rfl;have hsz:=jj hJ.size;clear hed hJ hn;refine opStep_no rfl (d:=40) rfl (by rw [hsz.out];rfl) hA40 rfl ?_;exact hK _ hS
        refine sure_cons ?_ ?_
        ·intro L ac W K hed hJ hS hK;have hn:=needs_spec (l:=[14]) (by kernel_rfl) hed;have hA43:=hJ.eval 14 (d:=43) (hn 14 (by simp)) rfl rfl rfl;have hsz:=jj hJ.size;clear hed hJ hn;refine opStep_un rfl (d:=43) rfl hA43 ?_;exact hK _ hS
        refine sure_cons ?_ ?_
        ·intro L ac W K hed hJ hS hK;have hn:=needs_spec (l:=[14]) (by kernel_rfl) hed;have hA43:=hJ.eval 14 (d:=43) (hn 14 (by simp)) rfl rfl rfl;have hsz:=jj hJ.size;clear hed hJ hn;refine opStep_un rfl (d:=43) rfl hA43 ?_;exact hK _ hS
        refine sure_cons ?_ ?_
        ·intro L ac W K hed hJ hS hK;have hn:=needs_spec (l:=[14]) (by kernel_rfl) hed;have hA43:=hJ.eval 14 (d:=43) (hn 14 (by simp)) rfl rfl rfl;have hsz:=jj hJ.size;clear hed hJ hn;refine opStep_un rfl (d:=43) rfl hA43 ?_;exact hK _ hS
        refine sure_cons ?_ ?_
        ·intro L ac W K hed hJ hS hK;have hn:=needs_spec (l:=[14]) (by kernel_rfl) hed;have hA43:=hJ.eval 14 (d:=43) (hn 14 (by simp)) rfl rfl rfl;have hsz:=jj hJ.size;clear hed hJ hn;refine opStep_un rfl (d:=43) rfl hA43 ?_;exact hK _ hS
        refine sure_cons ?_ ?_
        ·intro L ac W K hed hJ hS hK;have hn:=needs_spec (l:=[14]) (by kernel_rfl) hed;have hA43:=hJ.eval 14 (d:=43) (hn 14 (by simp)) rfl rfl rfl;have hsz:=jj hJ.size;clear hed hJ hn;refine opStep_un rfl (d:=43) rfl hA43 ?_;exact hK _ hS
        refine sure_cons ?_ ?_
        ·intro L ac W K hed hJ hS hK;have hn:=needs_spec (l:=[14]) (by kernel_rfl) hed;have hA43:=hJ.eval 14 (d:=43) (hn 14 (by simp)) rfl rfl rfl;have hsz:=jj hJ.size;clear hed hJ hn;refine opStep_un rfl (d:=43) rfl hA43 ?_;exact hK _ hS
        refine sure_cons ?_ ?_
        ·intro L ac W K hed hJ hS hK;have hn:=needs_spec (l:=[14]) (by kernel_rfl) hed;have hA43:=hJ.eval 14 (d:=43) (hn 14 (by simp)) rfl rfl rfl;have hsz:=jj hJ.size;clear hed hJ hn;refine opStep_un rfl (d:=43) rfl hA43 ?_;exact hK _ hS
        refine sure_cons ?_ ?_
        ·intro L ac W K hed hJ hS hK;have hn:=needs_spec (l:=[14]) (by kernel_rfl) hed;have hA43:=hJ.eval 14 (d:=43) (hn 14 (by simp)) rfl rfl rfl;have hsz:=jj hJ.size;clear hed hJ hn;refine opStep_un rfl (d:=43) rfl hA43 ?_;exact hK _ hS
        refine sure_cons ?_ ?_
        ·intro L ac W K hed hJ hS hK;have hn:=needs_spec (l:=[14]) (by kernel_rfl) hed;have hA43:=hJ.eval 14 (d:=43) (hn 14 (by simp)) rfl rfl rfl;have hsz:=jj hJ.size;clear hed hJ hn;refine opStep_un rfl (d:=43) rfl hA43 ?_;exact hK _ hS
        refine sure_cons ?_ ?_
        ·intro L ac W K hed hJ hS hK;have hn:=needs_spec (l:=[14]) (by kernel_rfl) hed;have hA43:=hJ.eval 14 (d:=43) (hn 14 (by simp)) rfl rfl rfl;have hsz:=jj hJ.size;clear hed hJ hn;refine opStep_un rfl (d:=43) rfl hA43 ?_;exact hK _ hS
        refine sure_cons ?_ ?_
        ·intro L ac W K hed hJ hS hK;have hn:=needs_spec (l:=[11]) (by kernel_rfl) hed;have hA40:=hJ.eval 11 (d:=40) (hn 11 (by simp)) rfl rfl rfl;have hsz:=jj hJ.size;clear hed hJ hn;refine opStep_no rfl (d:=40) rfl (by rw [hsz.out];rfl) hA40 rfl ?_;exact hK _ hS
        refine sure_cons ?_ ?_
        ·intro L ac W K hed hJ hS hK;have hn:=needs_spec (l:=[11,25]) (by kernel_rfl) hed;have hA40:=hJ.eval 11 (d:=40) (hn 11 (by simp)) rfl rfl rfl;have hA54:=hJ.eval 25 (d:=54) (hn 25 (by simp)) rfl rfl rfl;clear hed hJ hn;refine opStep_of rfl ?_;unfold Oper.wp execOp;have hN40:=evalN hA40;have hN54:=evalN hA54;go_simp;exact hK _ hS
        refine sure_nil ?_;intro W hS;simp only [putAll,Act.put,List.setIfInBounds_toArray,List.set_cons_zero,List.set_cons_succ];have HV:=jj (HW1.out.trans (hS.mono HW1.out.size));clear hS;go_wp2_with fail;go_ret;exact ⟨by rw [HM.out];rfl,by rw [HGX.out];exact HBW.out _ HV.out⟩
     ·obtain rfl : k = t.outs.length:=(by omega);have hd : decide (t.outs.length < t.outs.length) = false:=(by simp);have HM : Hid (mayB t = true):=jj (by rw [HM2.out,riseB_yes (by rw [List.length_map];exact HK.out),someB_yes HE.out];rfl);go_wp2_with fail;go_ret;exact ⟨by rw [HM.out];rfl,by rw [HGX.out];exact HBW.out _ HW0.out⟩
end Go.Proofs.YtdlnmdbonagchaaGreatDoor
