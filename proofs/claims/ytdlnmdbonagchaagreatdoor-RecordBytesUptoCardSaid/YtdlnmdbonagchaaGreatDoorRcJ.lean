import Derived.Test.YtdlnmdbonagchaaGreatDoorRcI
import Derived.Test.YtdlnmdbonagchaaGreatDoorExHH
namespace Go.Proofs.YtdlnmdbonagchaaGreatDoor
open Go.RowKit
def IsT (t : TapeP) (w : World) (V : List Value) : Prop:=∃ A c D d,V = tpC t A c D d ∧ TAt w w.heap.size A D t
theorem IsT.below {t : TapeP} {w w' : World} {V : List Value} (h : IsT t w V) (hb : Below w.heap.size w w') : IsT t w' V:=by
 obtain ⟨A,c,D,d,rfl,h⟩:=h;exact ⟨A,c,D,d,rfl,(h.below hb).wide hb.size⟩
theorem IsT.length {t : TapeP} {w : World} {V : List Value} (h : IsT t w V) (hF : t.F.length = 32) (hT : t.T.length = 32) : V.length = 67:=by
 obtain ⟨A,c,D,d,rfl,_⟩:=h;exact tpL_length hF hT
theorem IsT.one {t : TapeP} {w : World} {V : List Value} (h : IsT t w V) : ∀ v ∈ V,v.oneCell' = true:=by
 obtain ⟨A,c,D,d,rfl,_⟩:=h;exact tpL_one rfl rfl
structure TLen (t : TapeP) : Prop where
 F : t.F.length = 32
 T : t.T.length = 32
 ins : t.ins.length ≤ 1099511627776
 outs : t.outs.length ≤ 1099511627776
theorem TSz.lens {t : TapeP} (h : TSz t) : TLen t:=⟨h.F,h.T,h.ok.ins,h.ok.outs⟩
theorem IsT.same {t : TapeP} {w : World} {V V' : List Value} (h : IsT t w V) (h' : IsT t w V') (hl : TLen t) :
  Calls Tryz.prog 10 #[.agg V.toArray,.agg V'.toArray] w fun e w' => e = .returned (.bool true) ∧ Below w.heap.size w w':=by
 obtain ⟨A,c,D,d,rfl,k⟩:=h;obtain ⟨A',c',D',d',rfl,k'⟩:=h';exact tsame_any w A D A' D' c d c' d' t k k' hl.F hl.T hl.ins hl.outs
theorem IsT.great {t : TapeP} {w : World} {V : List Value} (h : IsT t w V) (hF : t.F.length = 32) (hT : t.T.length = 32) (hG : gIn t.ins + gOut t.outs ≤ 1099511627776) :
  Calls Tryz.prog 5 #[.agg V.toArray] w fun e w' => e = .returned (.int .i64 (grB t)) ∧ Below w.heap.size w w':=by
 obtain ⟨A,c,D,d,rfl,k⟩:=h;exact great33_any w A D c d t k hF hT hG
theorem IsT.bytes {t : TapeP} {w : World} {V : List Value} (h : IsT t w V) (hz : TSz t) (hT : STabs w) :
  Calls Tryz.prog 6 #[.agg V.toArray] w fun e w' => e = .returned (.tuple #[S (btS t),.int .i64 (btE t)]) ∧ Below w.heap.size w w':=by
 obtain ⟨A,c,D,d,rfl,k⟩:=h;exact rbytes_any w A D c d t k hz hT
theorem IsT.rbytes {t : TapeP} {w : World} {V : List Value} (h : IsT t w V) (hz : TSz t) (hT : STabs w) :
  Calls Tryz.prog 7 #[.agg V.toArray] w fun e w' => e = .returned (.tuple #[S (btS t),.int .i64 (btE t)]) ∧ Below w.heap.size w w':=by
 obtain ⟨A,c,D,d,rfl,k⟩:=h;exact rrbytes_any w A D c d t k hz hT
theorem of_is (W : World) (b : List UInt8) (hb : b.length ≤ 1073741824) (hT : ITabs W) {q : Int} {t : TapeP} (hq : readT b = (q,t)) :
  Calls Tryz.prog 8 #[S b] W fun e w' => ∃ V,e = .returned (.tuple #[.agg V.toArray,.int .i64 q]) ∧ Hid (IsT t w' V) ∧ Below W.heap.size W w' :=
 (of_any W b hb hT).mono fun e w' h => by
  rw [hq] at h;obtain ⟨⟨A,c,D,d,e1,h1⟩,h3⟩:=h;exact ⟨_,e1,jj ⟨A,c,D,d,rfl,h1⟩,h3⟩
theorem rof_is (W : World) (b : List UInt8) (hb : b.length ≤ 1048576) (hT : ITabs W) {q : Int} {t : TapeP} (hq : readT b = (q,t)) :
  Calls Tryz.prog 9 #[S b] W fun e w' => ∃ V,e = .returned (.tuple #[.agg V.toArray,.int .i64 q]) ∧ Hid (IsT t w' V) ∧ Below W.heap.size W w' :=
 (rof_any W b hb hT).mono fun e w' h => by
  rw [readR_eq (by omega),hq] at h;obtain ⟨⟨A,c,D,d,e1,h1⟩,h3⟩:=h;exact ⟨_,e1,jj ⟨A,c,D,d,rfl,h1⟩,h3⟩
theorem rowB_ge (ls : List (List UInt8)) : ls.length ≤ (rowB ls).length:=by
 induction ls with
 | nil => exact Nat.zero_le _
 | cons x l ih => rw [rowB_cons,List.length_append,List.length_append,List.length_cons];have : 1 ≤ (lenB x.length).length:=(by rw [lenB];split <;> simp);omega
theorem readT_lens {b : List UInt8} {q : Int} {t : TapeP} (hb : b.length ≤ 1048576) (h : readT b = (q,t)) : TLen t:=by
 have z : TLen zeroT:=⟨rfl,rfl,Nat.zero_le _,Nat.zero_le _⟩;rcases readT_good b with ⟨x,h1,h2⟩ | ⟨ls,u,h1,h2,h3,h4,h5,h6,h7⟩ | ⟨ls,h1,h2⟩
 ·rw [h] at h2;injection h2 with _ h2;subst h2;exact z
 ·rw [h] at h2;injection h2 with _ h2;subst h2
  have e1 : (rowB (t.ins.map inRow)).length ≤ (bytesT t).length:=mem_len (by simp);have e2 : (rowB (t.outs.map outRow)).length ≤ (bytesT t).length:=mem_len (by simp);have e3:=rowB_ge (t.ins.map inRow);have e4:=rowB_ge (t.outs.map outRow);rw [List.length_map] at e3 e4;rw [h3] at hb;exact ⟨h6,h7,by omega,by omega⟩
 ·rw [h] at h2;injection h2 with _ h2;subst h2;exact z
theorem bytesT_few {t : TapeP} (hF : t.F.length = 32) (hT : t.T.length = 32) (hp : posT t) (h : grB t ≠ 1) (hm : mayB t = true) : (bytesT t).length < 268435456:=by
 have hz:=grB_small hF hT hp h;have hs : ¬ (3000 < gIn t.ins + gOut t.outs):=fun e => h (by unfold grB;rw [if_pos (.inl e)]);have hr:=hz.rows hm;obtain ⟨⟨h1,h2⟩,h3,h4⟩:=mayB_parts hm;have a1 : ∀ p ∈ t.ins,smol p.1:=hr.ins;have i1:=inRows_size a1 hr.insz;have o1:=outRows_size hr.outs hr.outsz;have i2:=inSz_le t.ins;have o2:=outSz_le t.outs;have i3:=rowB_le (t.ins.map inRow) (by omega);have o3:=rowB_le (t.outs.map outRow) (by omega);have i4:=itoa_len hr.st;have e6 : sizeOf [[104,105,98,116],t.F,rowB (t.ins.map inRow),Lib.itoa t.st,rowB (t.outs.map outRow),t.T] ≤ 3000000:=(by rw [six_size,hF,hT];simp only [List.length_cons,List.length_nil];omega);have:=rowB_le _ (show sizeOf [[104,105,98,116],t.F,rowB (t.ins.map inRow),Lib.itoa t.st,rowB (t.outs.map outRow),t.T] ≤ 34359738368 by omega);unfold bytesT;omega
theorem Tryz.infoTape : (Tryz.prog.info? 27).map (fun i => (i.zero,i.size)) = some (some (.agg zeroL.toArray),67):=by kernel_rfl
structure TBox (W : World) (t : TapeP) (V : List Value) : Prop where
 is : IsT t W V
 len : V.length = 67
theorem TBox.info {W : World} {t : TapeP} {V : List Value} (h : TBox W t V) : (Tryz.prog.info? 27).map (fun i => (i.zero,i.size)) = some (some (.agg zeroL.toArray),V.length):=by rw [h.len];exact Tryz.infoTape
theorem TBox.zero {W : World} {t : TapeP} {V : List Value} (h : TBox W t V) : (Value.agg zeroL.toArray).cells.size = V.length:=by rw [h.len];kernel_rfl
theorem TBox.size {W : World} {t : TapeP} {V : List Value} (h : TBox W t V) : (Tryz.prog.info? 27).map (·.size) = some V.length:=by rw [h.len];kernel_rfl
set_option maxRecDepth 100000 in
set_option maxHeartbeats 4000000 in
theorem rclaw_any (w : World) (t : TapeP) (V : List Value) (b : List UInt8) (ha : Ex.Amb w) (hI : ITabs w) (hV : IsT t w V) (hF : t.F.length = 32) (hT : t.T.length = 32) (hP : posT t) (hG : gIn t.ins + gOut t.outs ≤ 1099511627776) :
  Calls Tryz.prog 3 #[.agg V.toArray,S b] w fun e w' => e = .returned (.bool true) ∧ Below w.heap.size w w':=by
 have hL67 : V.length = 67:=hV.length hF hT;have hs0:=Whole.made w 27 V.toArray;have hb : Below w.heap.size w (w.alloc (.cells V.toArray 27)):=(Below.refl _ _).alloc (Nat.le_refl _) _;go_enter Tryz.func3,Tryz.ntmps3;go_upto_region 1 with (fail);change Code.wp _ _ _ _ (w.alloc (.cells V.toArray 27));generalize (w.alloc (.cells V.toArray 27)) = w1 at *;generalize hgx : w.heap.size = gx at *;have HGX:=jj hgx;have HS0:=jj hs0;have HW:=jj hb;have hgl : gx < w1.heap.size:=hs0.lt;clear hgx hb hs0;have HV:=jj hV;have HA:=jj ha;have HI:=jj hI;have HF:=jj hF;have HT:=jj hT;have HP:=jj hP;have HG:=jj hG;have hgl':=HS0.out.lt;have HBW : Hid (∀ W,Below w1.heap.size w1 W → Below gx w W):=jj fun W hW => HW.out.trans (hW.mono (by omega));have HVW : Hid (∀ W,Below w1.heap.size w1 W → IsT t W V):=jj fun W hW => HV.out.below (by rw [HGX.out];exact HBW.out W hW);have HCL : Hid (∀ W,Below w1.heap.size w1 W → ∀ j v,V[j]? = some v → W.cell? ((⟨gx,0,none⟩ : Addr).add j) = some v):=jj fun W hW => whole_reads (HS0.out.below hW HS0.out.lt);have HIW : Hid (∀ W,Below w1.heap.size w1 W → ITabs W):=jj fun W hW => HI.out.below (by rw [HGX.out];exact Nat.le_refl _) (HBW.out W hW);have HAW1 : Hid (Ex.Amb w1):=jj (HA.out.stay (by have:=HW.out.size;omega) fun k hk => HW.out.block k (by have:=HA.out.gb;have:=HGX.out;omega));have HL67:=jj hL67;have HVi : Hid ((Tryz.prog.info? 27).map (·.size) = some V.length):=jj (by rw [HL67.out];kernel_rfl);clear hV ha hI hF hT hP hG hL67;go_wp2_with fail;refine (Ex.alive_any w1 HAW1.out).mono ?_;rintro e w2 ⟨rfl,hb2⟩;have HB2:=jj hb2;clear hb2 HAW1 HA;go_wp2_with (refine wpList_load_at rfl 27 (.tmp 2) rfl ⟨gx,0,none⟩ rfl V _ (HCL.out w2 HB2.out) Tryz.underlying27 rfl HVi.out ?_);refine ((HVW.out w2 HB2.out).great HF.out HT.out HG.out).mono ?_;rintro e w3 ⟨rfl,hb3⟩;have HB3:=jj (HB2.out.trans (hb3.mono HB2.out.size));clear hb3 HG;by_cases hg1 : grB t = 1
 ·rw [hg1];clear hg1;go_wp2_with fail;go_ret;exact ⟨rfl,by rw [HGX.out];exact HBW.out _ HB3.out⟩
 ·have HG0 : Hid (grB t = 0):=jj ((grB_cases t).resolve_left hg1);have HZ:=jj (grB_small HF.out HT.out HP.out hg1);have HFEW:=jj (fun hm => bytesT_few HF.out HT.out HP.out hg1 hm);rw [HG0.out];clear hg1;by_cases hbl : 3000 < b.length
  ·have d1 : decide ((b.length : Int) > 3000) = true:=(by simp;omega);have d1' : decide ((3000 : Int) < (b.length : Int)) = true:=d1;clear hbl;go_wp2_with fail;go_ret;exact ⟨rfl,by rw [HGX.out];exact HBW.out _ HB3.out⟩
  ·have d1 : decide ((b.length : Int) > 3000) = false:=(by simp;omega);have d1' : decide ((3000 : Int) < (b.length : Int)) = false:=d1;obtain ⟨s0,HSS⟩ : ∃ z,Hid (btS t = z):=⟨_,jj rfl⟩;obtain ⟨e0,HEE⟩ : ∃ z,Hid (btE t = z):=⟨_,jj rfl⟩;obtain ⟨qe,qt,HQ⟩ : ∃ qe qt,Hid (readT b = (qe,qt)):=⟨_,_,jj rfl⟩;have HQL:=jj (readT_lens (by omega) HQ.out)
   have CB : Hid (∀ W,Below w1.heap.size w1 W → Calls Tryz.prog 6 #[.agg V.toArray] W fun e w' => e = .returned (.tuple #[S s0,.int .i64 e0]) ∧ Below W.heap.size W w'):=jj fun W hW => by
    have:=(HVW.out W hW).bytes HZ.out (HIW.out W hW).1
    rwa [HSS.out,HEE.out] at this
   have CR : Hid (∀ W,Below w1.heap.size w1 W → Calls Tryz.prog 7 #[.agg V.toArray] W fun e w' => e = .returned (.tuple #[S s0,.int .i64 e0]) ∧ Below W.heap.size W w'):=jj fun W hW => by
    have:=(HVW.out W hW).rbytes HZ.out (HIW.out W hW).1
    rwa [HSS.out,HEE.out] at this
   go_wp2_with (refine wpList_load_at rfl 27 (.tmp 2) rfl ⟨gx,0,none⟩ rfl V _ (HCL.out _ HB3.out) Tryz.underlying27 rfl HVi.out ?_);refine (CB.out _ HB3.out).mono ?_;rintro e w4 ⟨rfl,hb4⟩;have HB4:=jj (HB3.out.trans (hb4.mono HB3.out.size));clear hb4 CB d1 d1';go_wp2_with (refine wpList_load_at rfl 27 (.tmp 2) rfl ⟨gx,0,none⟩ rfl V _ (HCL.out _ HB4.out) Tryz.underlying27 rfl HVi.out ?_);refine (CR.out _ HB4.out).mono ?_;rintro e w5 ⟨rfl,hb5⟩;have HB5:=jj (HB4.out.trans (hb5.mono HB4.out.size));clear hb5 CR;go_wp2_with fail;refine (of_is w5 b (by omega) (HIW.out _ HB5.out) HQ.out).mono ?_;rintro e x1 ⟨V1,rfl,I1,hb1⟩;have HX1:=jj (HB5.out.trans (hb1.mono HB5.out.size));have B1 : Hid (TBox x1 qt V1):=jj ⟨I1.out,I1.out.length HQL.out.F HQL.out.T⟩;have O1:=jj I1.out.one;have P1:=jj B1.out.info;have Z1:=jj B1.out.zero;clear hb1;go_upto_region 8 with (refine wpList_fresh rfl rfl 27 9 (.tmp 38) rfl rfl rfl rfl V1 rfl rfl _ P1.out Z1.out O1.out ?_);have b1:=(Below.refl x1.heap.size x1).alloc (Nat.le_refl _) (.cells V1.toArray 27);have W1:=jj (Whole.made x1 27 V1.toArray);have HY1:=jj (HX1.out.trans (b1.mono HX1.out.size));have J1:=jj (I1.out.below b1);have N1:=jj B1.out.size;clear b1 I1 P1 Z1 O1 B1 HX1;generalize x1.alloc (.cells V1.toArray 27) = y1 at *;generalize x1.heap.size = g1 at *;go_wp2_with fail;refine (rof_is y1 b (by omega) (HIW.out _ HY1.out) HQ.out).mono ?_;rintro e x2 ⟨V2,rfl,I2,hb2⟩;have HX2:=jj (HY1.out.trans (hb2.mono HY1.out.size));have B2 : Hid (TBox x2 qt V2):=jj ⟨I2.out,I2.out.length HQL.out.F HQL.out.T⟩;have O2:=jj I2.out.one;have P2:=jj B2.out.info;have Z2:=jj B2.out.zero;have J1p:=jj (J1.out.below hb2);have W1p:=jj (W1.out.below hb2 W1.out.lt);clear hb2 J1 W1;go_upto_region 9 with (refine wpList_fresh rfl rfl 27 11 (.tmp 43) rfl rfl rfl rfl V2 rfl rfl _ P2.out Z2.out O2.out ?_);have b2:=(Below.refl x2.heap.size x2).alloc (Nat.le_refl _) (.cells V2.toArray 27);have W2:=jj (Whole.made x2 27 V2.toArray);have HY2:=jj (HX2.out.trans (b2.mono HX2.out.size));have J2:=jj (I2.out.below b2);have N2:=jj B2.out.size;have J1:=jj (J1p.out.below b2);have W1:=jj (W1p.out.below b2 W1p.out.lt);clear b2 I2 P2 Z2 O2 B2 HX2 J1p W1p;generalize x2.alloc (.cells V2.toArray 27) = y2 at *;generalize x2.heap.size = g2 at *;have CS:=jj (J1.out.same J2.out HQL.out)
   have R1:=jj (whole_reads W1.out);have R2:=jj (whole_reads W2.out);have ss : (s0 != s0) = false:=(by simp);have es : (e0 != e0) = false:=(by simp);have qs : (qe != qe) = false:=(by simp)
   go_wp2_with (first
    | (refine wpList_load_gS rfl 27 (.tmp 9) rfl ⟨g1,0,none⟩ rfl V1 _ R1.out Tryz.underlying27 rfl N1.out ?_)
    | (refine wpList_load_gS rfl 27 (.tmp 11) rfl ⟨g2,0,none⟩ rfl V2 _ R2.out Tryz.underlying27 rfl N2.out ?_))
   refine CS.out.mono ?_;rintro e w9 ⟨rfl,hb9⟩;have HB9:=jj (HY2.out.trans (hb9.mono HY2.out.size));clear hb9 CS J1 J2 R1 R2 W1 W2 N1 N2 HY1 HY2 ss qs;cases hm : mayB t with
   | false => have HE2 : Hid (e0 = 3 ∧ s0 = []):=jj (by rw [← HEE.out,← HSS.out];unfold btE btS;rw [hm];exact ⟨rfl,rfl⟩);clear hm HSS HEE es;obtain ⟨rfl,rfl⟩:=HE2.out;go_wp2_with fail;go_ret;exact ⟨rfl,by rw [HGX.out];exact HBW.out _ HB9.out⟩
   | true =>
    have HE2 : Hid (e0 = 0):=jj (by rw [← HEE.out];unfold btE;rw [hm]);have HRD : Hid (readT s0 = (0,t)):=jj (by rw [← HSS.out];unfold btS;rw [hm];exact (bytesT_ok hm HP.out HF.out HT.out (HFEW.out hm)).1);have HRL : Hid (s0.length ≤ 1073741824):=jj (by rw [← HSS.out];unfold btS;rw [hm];exact Nat.le_of_lt (Nat.lt_of_lt_of_le (HFEW.out hm) (by decide)));clear hm HSS HEE es HFEW;obtain rfl:=HE2.out;go_wp2_with fail;refine (of_is w9 s0 HRL.out (HIW.out _ HB9.out) HRD.out).mono ?_;rintro e x3 ⟨V3,rfl,I3,hb3⟩;have HX3:=jj (HB9.out.trans (hb3.mono HB9.out.size));have B3 : Hid (TBox x3 t V3):=jj ⟨I3.out,I3.out.length HF.out HT.out⟩;have O3:=jj I3.out.one;have P3:=jj B3.out.info;have Z3:=jj B3.out.zero;clear hb3;go_upto_region 14 with (refine wpList_fresh rfl rfl 27 13 (.tmp 71) rfl rfl rfl rfl V3 rfl rfl _ P3.out Z3.out O3.out ?_);have b3:=(Below.refl x3.heap.size x3).alloc (Nat.le_refl _) (.cells V3.toArray 27);have W3:=jj (Whole.made x3 27 V3.toArray);have HY3:=jj (HX3.out.trans (b3.mono HX3.out.size));have J3:=jj (I3.out.below b3);have N3:=jj B3.out.size;clear b3 I3 P3 Z3 O3 B3 HX3;generalize x3.alloc (.cells V3.toArray 27) = y3 at *;generalize x3.heap.size = g3 at *;have R3:=jj (whole_reads W3.out);have CS:=jj (J3.out.same (HVW.out _ HY3.out) HZ.out.lens)
    go_wp2_with (first
     | (refine wpList_load_gS rfl 27 (.tmp 13) rfl ⟨g3,0,none⟩ rfl V3 _ R3.out Tryz.underlying27 rfl N3.out ?_)
     | (refine wpList_load_gS rfl 27 (.tmp 2) rfl ⟨gx,0,none⟩ rfl V _ (HCL.out _ HY3.out) Tryz.underlying27 rfl HVi.out ?_))
    refine CS.out.mono ?_;rintro e w13 ⟨rfl,hb13⟩;have HB13:=jj (HY3.out.trans (hb13.mono HY3.out.size));clear hb13 CS;go_wp2_with fail;go_ret;exact ⟨rfl,by rw [HGX.out];exact HBW.out _ HB13.out⟩
end Go.Proofs.YtdlnmdbonagchaaGreatDoor
