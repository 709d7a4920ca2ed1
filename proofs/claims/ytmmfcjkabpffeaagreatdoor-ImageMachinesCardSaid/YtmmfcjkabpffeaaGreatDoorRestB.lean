import Derived.Test.YtmmfcjkabpffeaaGreatDoorRestA
import Derived.Test.YtmmfcjkabpffeaaGreatDoorChkE
import Derived.Test.YtmmfcjkabpffeaaGreatDoorSureA
namespace Go.Proofs.YtmmfcjkabpffeaaGreatDoor
open Go.RowKit
attribute [local go_sem] concat_S
def cpuL (p : Pr) : List Value:=rgCells p.regs ++ [.int .u32 p.pc]
theorem pr_cpu_cells {w : World} {g : Nat} {t : TypeId} {p : Pr} (hp : PrOk p) (h : Whole w g t (prCells p).toArray) : ∀ j v,(cpuL p)[j]? = some v → w.cell? ((⟨g,3,none⟩ : Addr).add j) = some v :=
 mid_cells h 3 _ fun j v hv => by
  have hl : (rgCells p.regs).length = 16:=(by simp [rgCells,hp.regs]);have hj : j < 17:=(by have:=(List.getElem?_eq_some_iff.1 hv).1;simp only [cpuL,List.length_append,hl,List.length_cons,List.length_nil] at this;exact this);unfold cpuL at hv;by_cases h16 : j < 16
  ·rw [pr_reg hp h16];rw [List.getElem?_append_left (by omega)] at hv;exact hv
  ·obtain rfl : j = 16:=(by omega);rw [List.getElem?_append_right (by omega),hl] at hv;rw [show 3 + 16 = 19 from rfl,pr_pc hp];exact hv
theorem cpuL_reg {p : Pr} {j : Nat} {r : Int} (h : p.regs[j]? = some r) : (cpuL p)[j]? = some (.int .u32 r):=by
 have hj:=(List.getElem?_eq_some_iff.1 h).1;unfold cpuL;rw [List.getElem?_append_left (by simp [rgCells];omega)];simp [rgCells,h]
theorem cpuL_pc {p : Pr} (hp : PrOk p) : (cpuL p)[16]? = some (.int .u32 p.pc):=by
 unfold cpuL;rw [List.getElem?_append_right (by simp [rgCells,hp.regs])];simp [rgCells,hp.regs]
theorem regs_snoc {l : List Int} {k : Nat} {r : Int} (h : l[k]? = some r) : (l.take (k + 1)).flatMap regB = (l.take k).flatMap regB ++ regB r:=by
 rw [List.take_add_one,h,List.flatMap_append];simp
theorem pgs_snoc {l : List Pg} {k : Nat} {r : Pg} (h : l[k]? = some r) : (l.take (k + 1)).flatMap pgB = (l.take k).flatMap pgB ++ pgB r:=by
 rw [List.take_add_one,h,List.flatMap_append];simp
theorem fls_snoc {l : List Fl} {k : Nat} {r : Fl} (h : l[k]? = some r) : (l.take (k + 1)).flatMap flB = (l.take k).flatMap flB ++ flB r:=by
 rw [List.take_add_one,h,List.flatMap_append];simp
theorem u32_nat {r : Int} (h : inU32 r) : ∃ n : Nat,r = (n : Int) ∧ n ≤ 4294967295:=⟨r.toNat,by unfold inU32 at h;omega,by unfold inU32 at h;omega⟩
set_option maxRecDepth 100000 in
set_option maxHeartbeats 2000000 in
theorem rcpu_any (w : World) (p : Pr) (hp : PrOk p) :
  Calls Tryz.prog 116 #[.agg (cpuL p).toArray] w fun e w' => e = .returned (S (cpuB p)) ∧ Below w.heap.size w w':=by
 have hs0:=Whole.made w 58 (cpuL p).toArray;have hb : Below w.heap.size w (w.alloc (.cells (cpuL p).toArray 58)):=(Below.refl _ _).alloc (Nat.le_refl _) _;go_enter Tryz.func116,Tryz.ntmps116;go_upto_region 1 with (fail);change Code.wp _ _ _ _ (w.alloc (.cells (cpuL p).toArray 58));generalize (w.alloc (.cells (cpuL p).toArray 58)) = w1 at *;generalize hgx : w.heap.size = gx at *;have HGX:=jj hgx;have HS0:=jj hs0;have HW:=jj hb;have hgl : gx < w1.heap.size:=hs0.lt;clear hgx hb hs0;have HP:=jj hp;have HC : Hid (∀ W,Below w1.heap.size w1 W → Whole W gx 58 (cpuL p).toArray):=jj fun W hW => HS0.out.below hW hgl;have hpl:=hp.regs;clear hp;go_wp2_with fail
 go_loopw [3,4] (fun s i wr => ∃ (k : Nat),k ≤ 16 ∧ i = .int .i64 (k : Int) ∧ s = S ((p.regs.take k).flatMap regB) ∧ Hid (Below w1.heap.size w1 wr)) (fun _ i _ => 16 - (intOf i).toNat)
 case atStart => exact ⟨0,by omega,rfl,rfl,jj (Below.refl _ _)⟩
 case round =>
  obtain ⟨k,hk,rfl,rfl,HV⟩:=hrel;have hln:=regs_length (p.regs.take k);rw [List.length_take,hpl,Nat.min_eq_left hk] at hln;by_cases hlt : k < 16
  ·obtain ⟨r,hr⟩:=get_some (l:=p.regs) (k:=k) (by omega);have HSN:=jj (regs_snoc hr);have hcc:=(HC.out wr HV.out).reads k _ (cpuL_reg hr);have hri:=HP.out.reg r (List.mem_of_getElem? hr);have HRB : Hid (regB r = putL r.toNat 4):=jj rfl;clear hr;obtain ⟨n,rfl,hn⟩:=u32_nat hri;rw [show ((n : Int)).toNat = n by omega] at HRB;rw [HRB.out] at HSN;have hlp:=putL_length n 4;have CP:=jj (rput_any wr n 4 (by omega) (by omega));generalize (p.regs.take k).flatMap regB = s at *;generalize putL n 4 = t at *;have hno : ¬ (9223372036854775807 < s.length + t.length):=(by omega);have d1 : decide ((k : Int) < 16) = true:=decide_eq_true (by omega);have d2 : decide (k < 16) = true:=decide_eq_true hlt;have m1 : IntKind.u64.wrap (n : Int) = (n : Int):=(by rw [IntKind.wrap_u64];omega);have i0 : (0 : Int) ≤ (k : Int):=(by omega);have i1 : (k : Int) < 16:=(by omega);have hc2 : wr.cell? ⟨gx,k,none⟩ = some (.int .u32 (n : Int)):=(by have e : ((⟨gx,0,none⟩ : Addr).add k) = ⟨gx,k,none⟩:=(by unfold Addr.add;split <;> simp_all);rw [← e];exact hcc);clear hri;go_wp2_with fail;refine CP.out.mono ?_;rintro e w2 ⟨rfl,hb2⟩;have HV2:=jj (HV.out.trans (hb2.mono HV.out.size));clear hb2 CP hcc hc2;go_wp2_with fail
   go_roundw
   case rel =>
    have R : ∃ (k' : Nat),k' ≤ 16 ∧ Value.int .i64 ((k : Int) + 1) = .int .i64 (k' : Int) ∧ S (s ++ t) = S ((p.regs.take k').flatMap regB) ∧ Hid (Below w1.heap.size w1 w2):=⟨k + 1,by omega,by go_num,by rw [HSN.out],HV2⟩
    first | exact R | ((repeat apply Exists.intro);exact ⟨R,rfl⟩)
   case measure => simp [intOf];omega
  ·obtain rfl : k = 16:=(by omega);have hcc:=(HC.out wr HV.out).reads 16 _ (cpuL_pc HP.out);have hc2 : wr.cell? ⟨gx,16,none⟩ = some (.int .u32 p.pc):=hcc;have hri:=HP.out.pc;have HCB : Hid (cpuB p = p.regs.flatMap regB ++ putL p.pc.toNat 4):=jj rfl;rw [List.take_of_length_le (by omega)] at hln ⊢;generalize p.pc = r at *;obtain ⟨n,rfl,hn⟩:=u32_nat hri;rw [show ((n : Int)).toNat = n by omega] at HCB;have hlp:=putL_length n 4;have CP:=jj (rput_any wr n 4 (by omega) (by omega));generalize p.regs.flatMap regB = s at *;generalize putL n 4 = t at *;have hno : ¬ (9223372036854775807 < s.length + t.length):=(by omega);have m1 : IntKind.u64.wrap (n : Int) = (n : Int):=(by rw [IntKind.wrap_u64];omega);clear hri hcc;rw [show ((16 : Nat) : Int) = 16 from rfl];go_wp2_with fail;refine CP.out.mono ?_;rintro e w2 ⟨rfl,hb2⟩;have HV2:=jj (HV.out.trans (hb2.mono HV.out.size));clear hb2 CP hc2;go_wp2_with fail;go_ret;exact ⟨by rw [HCB.out];rfl,by rw [HGX.out];exact HW.out.trans (HV2.out.mono (by omega))⟩
set_option maxRecDepth 100000 in
set_option maxHeartbeats 2000000 in
theorem rspace_any (w : World) (l : List Pg) (hl : l.length = 16) (hpg : ∀ g ∈ l,inJ8 g.frame) :
  Calls Tryz.prog 117 #[.agg (pgCells l).toArray] w fun e w' => e = .returned (S (l.flatMap pgB)) ∧ Below w.heap.size w w':=by
 have hs0:=Whole.made w 62 (pgCells l).toArray;have hb : Below w.heap.size w (w.alloc (.cells (pgCells l).toArray 62)):=(Below.refl _ _).alloc (Nat.le_refl _) _;go_enter Tryz.func117,Tryz.ntmps117;go_upto_region 1 with (fail);change Code.wp _ _ _ _ (w.alloc (.cells (pgCells l).toArray 62));generalize (w.alloc (.cells (pgCells l).toArray 62)) = w1 at *;generalize hgx : w.heap.size = gx at *;have HGX:=jj hgx;have HS0:=jj hs0;have HW:=jj hb;have hgl : gx < w1.heap.size:=hs0.lt;clear hgx hb hs0;have HC : Hid (∀ W,Below w1.heap.size w1 W → Whole W gx 62 (pgCells l).toArray):=jj fun W hW => HS0.out.below hW hgl;have HPG:=jj hpg;clear hpg;go_wp2_with fail
 go_loopw [3,4] (fun s i wr => ∃ (k : Nat),k ≤ 16 ∧ i = .int .i64 (k : Int) ∧ s = S ((l.take k).flatMap pgB) ∧ Hid (Below w1.heap.size w1 wr)) (fun _ i _ => 16 - (intOf i).toNat)
 case atStart => exact ⟨0,by omega,rfl,rfl,jj (Below.refl _ _)⟩
 case round =>
  obtain ⟨k,hk,rfl,rfl,HV⟩:=hrel;have hln:=pgs_length (l.take k);rw [List.length_take,hl,Nat.min_eq_left hk] at hln;by_cases hlt : k < 16
  ·obtain ⟨g,hg⟩:=get_some (l:=l) (k:=k) (by omega);have HSN:=jj (pgs_snoc hg);have hzv:=HV.out.size
   have LD : Hid (∀ j v,(pgCells1 g)[j]? = some v → wr.cell? ((⟨gx,k * 3,none⟩ : Addr).add j) = some v):=jj fun j v hv => by
    have hj : j < 3:=(List.getElem?_eq_some_iff.1 hv).1;have:=(HC.out wr HV.out).reads (k * 3 + j) v ((flat_at pgCells1 3 l (fun _ _ => rfl) hg hj).trans hv)
    have e : ((⟨gx,0,none⟩ : Addr).add (k * 3 + j)) = ((⟨gx,k * 3,none⟩ : Addr).add j):=by
     unfold Addr.add;by_cases h1 : k * 3 + j = 0
     ·have h2 : j = 0:=(by omega);have h3 : k * 3 = 0:=(by omega);simp [h2,h3]
     ·by_cases h2 : j = 0
      ·subst h2;simp at h1;simp [h1]
      ·simp [h2]
    rw [← e];exact this
   have hfr:=HPG.out g (List.mem_of_getElem? hg);generalize (l.take k).flatMap pgB = s at *;have HVn:=jj (HV.out.alloc hzv (.cells (pgCells1 g).toArray 60));have HYn:=jj (Whole.made wr 60 (pgCells1 g).toArray);have d1 : decide ((k : Int) < 16) = true:=decide_eq_true (by omega);have d2 : decide (k < 16) = true:=decide_eq_true hlt;have i0 : (0 : Int) ≤ (k : Int):=(by omega);have i1 : (k : Int) < 16:=(by omega);clear hg
   go_upto_region 6 with (first
    | (refine wpList_load_at rfl 60 (.tmp 11) rfl ⟨gx,k * 3,none⟩ (by first | rfl | (simp [Act.eval];done)) (pgCells1 g) _ LD.out Tryz.underlying60 rfl Tryz.sizePg ?_)
    | (refine wpList_fresh rfl rfl 60 5 (.tmp 12) rfl rfl rfl rfl (pgCells1 g) rfl rfl _ Tryz.infoPg rfl (pg_one g) ?_))
   change Code.wp _ _ _ _ (wr.alloc (.cells (pgCells1 g).toArray 60));clear HV LD;generalize wr.alloc (.cells (pgCells1 g).toArray 60) = w5 at *;have hgg : w1.heap.size ≤ wr.heap.size:=hzv;generalize wr.heap.size = g3 at *;have hyl:=HYn.out.lt;obtain ⟨gi,gw,gf⟩:=g;have y0 : w5.cell? ⟨g3,0,none⟩ = some (.bool gi):=HYn.out.cell 0;have y1 : w5.cell? ⟨g3,1,none⟩ = some (.bool gw):=HYn.out.cell 1;have y2 : w5.cell? ⟨g3,2,none⟩ = some (.int .i64 gf):=HYn.out.cell 2;have hz5 : w1.heap.size ≤ w5.heap.size:=HVn.out.size;have m1 : IntKind.u8.wrap gf = gf % 256:=IntKind.wrap_u8 _;have hby : gf % 256 = ((byteOf gf).toNat : Int):=(by unfold byteOf;rw [UInt8.toNat_ofNat'];omega);have HBY:=jj hby
   have hcv:=fun W p c => run_str_one W p c (gf % 256) (byteOf gf) hby
   have HV6:=jj (HVn.out.alloc hz5 (.cells #[.int .u8 (gf % 256)] 5));have hno2 : ¬ (9223372036854775807 < s.length + ([0,0] : List UInt8).length):=(by simp;omega);have hno3 : ∀ b : UInt8,¬ (9223372036854775807 < s.length + ([b] : List UInt8).length):=fun b => (by simp;omega);have hno4 : ∀ b c : UInt8,¬ (9223372036854775807 < (s ++ [b]).length + ([c] : List UInt8).length):=fun b c => (by simp;omega);have HP2 : pgB ⟨true,true,gf⟩ = [2,byteOf gf]:=rfl;have HP1 : pgB ⟨true,false,gf⟩ = [1,byteOf gf]:=rfl;generalize byteOf gf = bb at *;dsimp only at hfr;clear hby
   cases gi with
   | false =>
    have HP0 : Hid (pgB ⟨false,gw,gf⟩ = [0,0]):=jj rfl;clear hcv hno3 hno4 HV6;go_wp2_with fail
    go_roundw
    case rel =>
     have R : ∃ (k' : Nat),k' ≤ 16 ∧ Value.int .i64 ((k : Int) + 1) = .int .i64 (k' : Int) ∧ S (s ++ [0,0]) = S ((l.take k').flatMap pgB) ∧ Hid (Below w1.heap.size w1 w5):=⟨k + 1,by omega,by go_num,by rw [HSN.out,HP0.out];try simp,HVn⟩
     first | exact R | ((repeat apply Exists.intro);exact ⟨R,rfl⟩)
    case measure => simp [intOf];omega
   | true =>
    cases gw with
    | true =>
     have HP0 : Hid (pgB ⟨true,true,gf⟩ = [2,bb]):=jj HP2;clear HP1 HP2;go_wp2_with fail
     go_roundw
     case rel =>
      have R : ∃ (k' : Nat),k' ≤ 16 ∧ Value.int .i64 ((k : Int) + 1) = .int .i64 (k' : Int) ∧ S (s ++ [2,bb]) = S ((l.take k').flatMap pgB) ∧ Hid (Below w1.heap.size w1 (w5.alloc (.cells #[.int .u8 (gf % 256)] 5))):=⟨k + 1,by omega,by go_num,by rw [HSN.out,HP0.out];try simp,HV6⟩
      first | exact R | ((repeat apply Exists.intro);exact ⟨R,rfl⟩)
     case measure => simp [intOf];omega
    | false =>
     have HP0 : Hid (pgB ⟨true,false,gf⟩ = [1,bb]):=jj HP1;clear HP1 HP2;go_wp2_with fail
     go_roundw
     case rel =>
      have R : ∃ (k' : Nat),k' ≤ 16 ∧ Value.int .i64 ((k : Int) + 1) = .int .i64 (k' : Int) ∧ S (s ++ [1,bb]) = S ((l.take k').flatMap pgB) ∧ Hid (Below w1.heap.size w1 (w5.alloc (.cells #[.int .u8 (gf % 256)] 5))):=⟨k + 1,by omega,by go_num,by rw [HSN.out,HP0.out];try simp,HV6⟩
      first | exact R | ((repeat apply Exists.intro);exact ⟨R,rfl⟩)
     case measure => simp [intOf];omega
  ·obtain rfl : k = 16:=(by omega);rw [List.take_of_length_le (by omega)];rw [show ((16 : Nat) : Int) = 16 from rfl];go_wp2_with fail;go_ret;exact ⟨rfl,by rw [HGX.out];exact HW.out.trans (HV.out.mono (by omega))⟩
set_option maxRecDepth 100000 in
set_option maxHeartbeats 2000000 in
theorem rfds_any (w : World) (l : List Fl) (hl : l.length = 8) (hfl : ∀ f ∈ l,inJ8 f.kind ∧ inJ8 f.n ∧ inJ8 f.pos) :
  Calls Tryz.prog 118 #[.agg (flCells l).toArray] w fun e w' => e = .returned (S (l.flatMap flB)) ∧ Below w.heap.size w w':=by
 have hs0:=Whole.made w 65 (flCells l).toArray;have hb : Below w.heap.size w (w.alloc (.cells (flCells l).toArray 65)):=(Below.refl _ _).alloc (Nat.le_refl _) _;go_enter Tryz.func118,Tryz.ntmps118;go_upto_region 1 with (fail);change Code.wp _ _ _ _ (w.alloc (.cells (flCells l).toArray 65));generalize (w.alloc (.cells (flCells l).toArray 65)) = w1 at *;generalize hgx : w.heap.size = gx at *;have HGX:=jj hgx;have HS0:=jj hs0;have HW:=jj hb;have hgl : gx < w1.heap.size:=hs0.lt;clear hgx hb hs0;have HC : Hid (∀ W,Below w1.heap.size w1 W → Whole W gx 65 (flCells l).toArray):=jj fun W hW => HS0.out.below hW hgl;have HPG:=jj hfl;clear hfl;go_wp2_with fail
 go_loopw [3,4] (fun s i wr => ∃ (k : Nat),k ≤ 8 ∧ i = .int .i64 (k : Int) ∧ s = S ((l.take k).flatMap flB) ∧ Hid (Below w1.heap.size w1 wr)) (fun _ i _ => 8 - (intOf i).toNat)
 case atStart => exact ⟨0,by omega,rfl,rfl,jj (Below.refl _ _)⟩
 case round =>
  obtain ⟨k,hk,rfl,rfl,HV⟩:=hrel;have hln:=fls_length (l.take k);rw [List.length_take,hl,Nat.min_eq_left hk] at hln;by_cases hlt : k < 8
  ·obtain ⟨f,hf⟩:=get_some (l:=l) (k:=k) (by omega);have HSN:=jj (fls_snoc hf);have hzv:=HV.out.size;have hfo:=HPG.out f (List.mem_of_getElem? hf);generalize (l.take k).flatMap flB = s at *;obtain ⟨fk,fn,fp⟩:=f
   have HCC : Hid (∀ W,Below wr.heap.size wr W → W.cell? ⟨gx,k * 3,none⟩ = some (.int .i64 fk) ∧ W.cell? ⟨gx,k * 3 + 1,none⟩ = some (.int .i64 fn) ∧ W.cell? ⟨gx,k * 3 + 2,none⟩ = some (.int .i64 fp)):=jj fun W hW => by
    have hW1:=HV.out.trans (hW.mono hzv);have h0:=(HC.out W hW1).reads (k * 3 + 0) _ ((flat_at flCells1 3 l (fun _ _ => rfl) hf (j:=0) (by omega)).trans rfl);have h1:=(HC.out W hW1).reads (k * 3 + 1) _ ((flat_at flCells1 3 l (fun _ _ => rfl) hf (j:=1) (by omega)).trans rfl);have h2:=(HC.out W hW1).reads (k * 3 + 2) _ ((flat_at flCells1 3 l (fun _ _ => rfl) hf (j:=2) (by omega)).trans rfl);have e : ∀ j,((⟨gx,0,none⟩ : Addr).add j) = ⟨gx,j,none⟩:=fun j => (by unfold Addr.add;split <;> simp_all);rw [e] at h0 h1 h2;exact ⟨h0,h1,h2⟩
   have d1 : decide ((k : Int) < 8) = true:=decide_eq_true (by omega);have d2 : decide (k < 8) = true:=decide_eq_true hlt;have i0 : (0 : Int) ≤ (k : Int):=(by omega);have i1 : (k : Int) < 8:=(by omega);have hby : fk % 256 = ((byteOf fk).toNat : Int):=(by unfold byteOf;rw [UInt8.toNat_ofNat'];omega);have hcv:=fun W p c => run_str_one W p c (fk % 256) (byteOf fk) hby
   have HFB : Hid (flB ⟨fk,fn,fp⟩ = byteOf fk :: (putL (u64Of fn) 8 ++ putL (u64Of fp) 8)):=jj rfl;have m0 : IntKind.u8.wrap fk = fk % 256:=IntKind.wrap_u8 _;have m1 : IntKind.u64.wrap fn = ((u64Of fn : Nat) : Int):=(by rw [IntKind.wrap_u64];unfold u64Of;omega);have m2 : IntKind.u64.wrap fp = ((u64Of fp : Nat) : Int):=(by rw [IntKind.wrap_u64];unfold u64Of;omega);have CN:=jj (fun W => rput_any W (u64Of fn) 8 (by unfold u64Of;omega) (by omega));have CP:=jj (fun W => rput_any W (u64Of fp) 8 (by unfold u64Of;omega) (by omega));have hl1:=putL_length (u64Of fn) 8;have hl2:=putL_length (u64Of fp) 8;generalize putL (u64Of fn) 8 = t1 at *;generalize putL (u64Of fp) 8 = t2 at *;generalize u64Of fn = un at *;generalize u64Of fp = up at *;generalize byteOf fk = bb at *;have hsl : s.length ≤ 136:=(by omega);have ht1 : t1.length ≤ 8:=(by omega);have ht2 : t2.length ≤ 8:=(by omega);clear hln hl1 hl2;have hno1 : ¬ (9223372036854775807 < s.length + ([bb] : List UInt8).length):=(by simp;omega);have hno1' : ¬ (9223372036854775807 < s.length + 1):=(by omega);have hno2 : ¬ (9223372036854775807 < (s ++ [bb]).length + t1.length):=(by simp;omega);have hno2' : ¬ (9223372036854775807 < s.length + 1 + t1.length):=(by omega);have hno3 : ¬ (9223372036854775807 < (s ++ bb :: t1).length + t2.length):=(by simp;omega);have hno3' : ¬ (9223372036854775807 < s.length + (t1.length + 1) + t2.length):=(by omega);clear hf hby hfo;go_upto_region 5 with (fail);refine' wp_region_sureX (by kernel_rfl) (FreshX wr 6 15 1 5 [.int .u8 (fk % 256)]) 23 [some _,some _,some _,some _,some _,some _,none,some _,some _,some _,some _,some _,some _,some _,some _,some _,some _,some _,some _,some _,some _,some _,some _] [some 9,some 10,some 11,some 12,some 13,some 14,some 15,some 16,some 17,some 18,some 19,some 20,some 21,some 22,some 23,some 24,some 25,some 26,some 27,some 28,some 29,some 30,some 31] (by kernel_rfl) (by kernel_rfl) (by kernel_rfl) (by kernel_rfl) rfl ⟨(Below.refl _ _).drew,fun h => by cases h⟩ ?hs1
   case hs1 =>
    refine sureX_cons ?_ ?_
    ·intro L ac W K hLi hed hJ hX hK;have hS:=hX.1;have hA3 : ac.eval (.tmp 3) = S s:=hJ.eval_old 3 (by kernel_rfl);have hsz:=jj hJ.size;clear hLi hed hJ;refine opStep_of rfl ?_;unfold Oper.wp execOp;have hN3:=evalN hA3;go_simp;refine hK _ _ ?_ (hX.step (Below.refl _ _) rfl rfl);exact Knows.known _
    refine sureX_cons ?_ ?_
    ·intro L ac W K hLi hed hJ hX hK;have hS:=hX.1;have hA4 : ac.eval (.tmp 4) = .int .i64 (k : Int):=hJ.eval_old 4 (by kernel_rfl);have hsz:=jj hJ.size;clear hLi hed hJ;refine opStep_of rfl ?_;unfold Oper.wp execOp;have hN4:=evalN hA4;go_simp;refine hK _ _ ?_ (hX.step (Below.refl _ _) rfl rfl);exact Knows.known _
    refine sureX_cons ?_ ?_
    ·intro L ac W K hLi hed hJ hX hK;have hS:=hX.1;have hn:=needs_spec (l:=[1]) (by kernel_rfl) hed;have hA1 : ac.eval (.tmp 1) = .pointer (some ⟨gx,0,none⟩):=hJ.eval_old 1 (by kernel_rfl);have hA10:=hJ.eval 1 (d:=10) (hn 1 (by simp)) rfl rfl rfl;have hsz:=jj hJ.size;clear hLi hed hJ hn;refine opStep_of rfl ?_;unfold Oper.wp execOp;have hN1:=evalN hA1;have hN10:=evalN hA10;go_simp;refine hK _ _ ?_ (hX.step (Below.refl _ _) rfl rfl);exact Knows.known _
    refine sureX_cons ?_ ?_
    ·intro L ac W K hLi hed hJ hX hK;have hS:=hX.1;have hn:=needs_spec (l:=[2]) (by kernel_rfl) hed;have hA11:=hJ.eval 2 (d:=11) (hn 2 (by simp)) rfl rfl rfl;have hsz:=jj hJ.size;clear hLi hed hJ hn;refine opStep_of rfl ?_;unfold Oper.wp execOp;have hN11:=evalN hA11;go_simp;refine hK _ _ ?_ (hX.step (Below.refl _ _) rfl rfl);exact Knows.known _
    refine sureX_cons ?_ ?_
    ·intro L ac W K hLi hed hJ hX hK;have hS:=hX.1;have hn:=needs_spec (l:=[3]) (by kernel_rfl) hed;have hA12:=hJ.eval 3 (d:=12) (hn 3 (by simp)) rfl rfl rfl;have hsz:=jj hJ.size;clear hLi hed hJ hn;refine opStep_of rfl ?_;have c0:=(HCC.out W hS).1;unfold Oper.wp execOp;have hN12:=evalN hA12;go_simp;refine hK _ _ ?_ (hX.step (Below.refl _ _) rfl rfl);exact Knows.known _
    refine sureX_cons ?_ ?_
    ·intro L ac W K hLi hed hJ hX hK;have hS:=hX.1;have hn:=needs_spec (l:=[4]) (by kernel_rfl) hed;have hA13:=hJ.eval 4 (d:=13) (hn 4 (by simp)) rfl rfl rfl;have hsz:=jj hJ.size;clear hLi hed hJ hn;refine opStep_of rfl ?_;unfold Oper.wp execOp;have hN13:=evalN hA13;go_simp;refine hK _ _ ?_ (hX.step (Below.refl _ _) rfl rfl);exact Knows.known _
    refine sureX_cons ?_ ?_
    ·intro L ac W K hLi hed hJ hX hK;have hS:=hX.1;have hn:=needs_spec (l:=[5]) (by kernel_rfl) hed;have hA14:=hJ.eval 5 (d:=14) (hn 5 (by simp)) rfl rfl rfl;have hsz:=jj hJ.size;clear hLi hed hJ hn;refine opStep_of rfl ?_;unfold Oper.wp execOp;have hN14:=evalN hA14;go_simp;refine hK _ _ ?_ (hX.made (by rw [hsz.out];exact of_decide_eq_true rfl));exact Knows.free _
    refine sureX_cons ?_ ?_
    ·intro L ac W K hLi hed hJ hX hK;have hS:=hX.1;have hn:=needs_spec (l:=[6]) (by kernel_rfl) hed;obtain ⟨hg,hA15,hY⟩:=hX.2 (hn 6 (by simp));have hsz:=jj hJ.size;clear hLi hed hJ hn;refine opStep_of rfl ?_;have hc0 : W.cell? ⟨hg,0,none⟩ = some (.int .u8 (fk % 256)):=hY.cell 0;unfold Oper.wp execOp;have hN15:=evalN hA15;go_simp;refine hK _ _ ?_ (hX.step (Below.refl _ _) rfl rfl);exact Knows.known _
    refine sureX_cons ?_ ?_
    ·intro L ac W K hLi hed hJ hX hK;have hS:=hX.1;have hn:=needs_spec (l:=[0,7]) (by kernel_rfl) hed;have hA9:=hJ.eval 0 (d:=9) (hn 0 (by simp)) rfl rfl rfl;have hA16:=hJ.eval 7 (d:=16) (hn 7 (by simp)) rfl rfl rfl;have hsz:=jj hJ.size;clear hLi hed hJ hn;refine opStep_of rfl ?_;unfold Oper.wp execOp;have hN9:=evalN hA9;have hN16:=evalN hA16;go_simp;refine hK _ _ ?_ (hX.step (Below.refl _ _) rfl rfl);exact Knows.known _
    refine sureX_cons ?_ ?_
    ·intro L ac W K hLi hed hJ hX hK;have hS:=hX.1;have hA4 : ac.eval (.tmp 4) = .int .i64 (k : Int):=hJ.eval_old 4 (by kernel_rfl);have hsz:=jj hJ.size;clear hLi hed hJ;refine opStep_of rfl ?_;unfold Oper.wp execOp;have hN4:=evalN hA4;go_simp;refine hK _ _ ?_ (hX.step (Below.refl _ _) rfl rfl);exact Knows.known _
    refine sureX_cons ?_ ?_
    ·intro L ac W K hLi hed hJ hX hK;have hS:=hX.1;have hn:=needs_spec (l:=[9]) (by kernel_rfl) hed;have hA1 : ac.eval (.tmp 1) = .pointer (some ⟨gx,0,none⟩):=hJ.eval_old 1 (by kernel_rfl);have hA18:=hJ.eval 9 (d:=18) (hn 9 (by simp)) rfl rfl rfl;have hsz:=jj hJ.size;clear hLi hed hJ hn;refine opStep_of rfl ?_;unfold Oper.wp execOp;have hN1:=evalN hA1;have hN18:=evalN hA18;go_simp;refine hK _ _ ?_ (hX.step (Below.refl _ _) rfl rfl);exact Knows.known _
    refine sureX_cons ?_ ?_
    ·intro L ac W K hLi hed hJ hX hK;have hS:=hX.1;have hn:=needs_spec (l:=[10]) (by kernel_rfl) hed;have hA19:=hJ.eval 10 (d:=19) (hn 10 (by simp)) rfl rfl rfl;have hsz:=jj hJ.size;clear hLi hed hJ hn;refine opStep_of rfl ?_;unfold Oper.wp execOp;have hN19:=evalN hA19;go_simp;refine hK _ _ ?_ (hX.step (Below.refl _ _) rfl rfl);exact Knows.known _
    refine sureX_cons ?_ ?_
    ·intro L ac W K hLi hed hJ hX hK;have hS:=hX.1;have hn:=needs_spec (l:=[11]) (by kernel_rfl) hed;have hA20:=hJ.eval 11 (d:=20) (hn 11 (by simp)) rfl rfl rfl;have hsz:=jj hJ.size;clear hLi hed hJ hn;refine opStep_of rfl ?_;have c1:=(HCC.out W hS).2.1;unfold Oper.wp execOp;have hN20:=evalN hA20;go_simp;refine hK _ _ ?_ (hX.step (Below.refl _ _) rfl rfl);exact Knows.known _
    refine sureX_cons ?_ ?_
    ·intro L ac W K hLi hed hJ hX hK;have hS:=hX.1;have hn:=needs_spec (l:=[12]) (by kernel_rfl) hed;have hA21:=hJ.eval 12 (d:=21) (hn 12 (by simp)) rfl rfl rfl;have hsz:=jj hJ.size;clear hLi hed hJ hn;refine opStep_of rfl ?_;unfold Oper.wp execOp;have hN21:=evalN hA21;go_simp;refine hK _ _ ?_ (hX.step (Below.refl _ _) rfl rfl);exact Knows.known _
    refine sureX_cons ?_ ?_
    ·intro L ac W K hLi hed hJ hX hK;have hS:=hX.1;have hn:=needs_spec (l:=[13]) (by kernel_rfl) hed;have hA22:=hJ.eval 13 (d:=22) (hn 13 (by simp)) rfl rfl rfl;have hsz:=jj hJ.size;clear hLi hed hJ hn;refine opStep_of rfl ?_;unfold Oper.wp execOp;have hN22:=evalN hA22;go_simp;refine (CN.out W).mono ?_;rintro e W' ⟨rfl,hb⟩;have hX2:=hX.step (i:=14) (d:=some 23) (v:=S t1) hb rfl rfl;dsimp only;refine hK _ W' ?_ hX2;exact Knows.known _
    refine sureX_cons ?_ ?_
    ·intro L ac W K hLi hed hJ hX hK;have hS:=hX.1;have hn:=needs_spec (l:=[8,14]) (by kernel_rfl) hed;have hA17:=hJ.eval 8 (d:=17) (hn 8 (by simp)) rfl rfl rfl;have hA23:=hJ.eval 14 (d:=23) (hn 14 (by simp)) rfl rfl rfl;have hsz:=jj hJ.size;clear hLi hed hJ hn;refine opStep_of rfl ?_;unfold Oper.wp execOp;have hN17:=evalN hA17;have hN23:=evalN hA23;go_simp;refine hK _ _ ?_ (hX.step (Below.refl _ _) rfl rfl);exact Knows.known _
    refine sureX_cons ?_ ?_
    ·intro L ac W K hLi hed hJ hX hK;have hS:=hX.1;have hA4 : ac.eval (.tmp 4) = .int .i64 (k : Int):=hJ.eval_old 4 (by kernel_rfl);have hsz:=jj hJ.size;clear hLi hed hJ;refine opStep_of rfl ?_;unfold Oper.wp execOp;have hN4:=evalN hA4;go_simp;refine hK _ _ ?_ (hX.step (Below.refl _ _) rfl rfl);exact Knows.known _
    refine sureX_cons ?_ ?_
    ·intro L ac W K hLi hed hJ hX hK;have hS:=hX.1;have hn:=needs_spec (l:=[16]) (by kernel_rfl) hed;have hA1 : ac.eval (.tmp 1) = .pointer (some ⟨gx,0,none⟩):=hJ.eval_old 1 (by kernel_rfl);have hA25:=hJ.eval 16 (d:=25) (hn 16 (by simp)) rfl rfl rfl;have hsz:=jj hJ.size;clear hLi hed hJ hn;refine opStep_of rfl ?_;unfold Oper.wp execOp;have hN1:=evalN hA1;have hN25:=evalN hA25;go_simp;refine hK _ _ ?_ (hX.step (Below.refl _ _) rfl rfl);exact Knows.known _
    refine sureX_cons ?_ ?_
    ·intro L ac W K hLi hed hJ hX hK;have hS:=hX.1;have hn:=needs_spec (l:=[17]) (by kernel_rfl) hed;have hA26:=hJ.eval 17 (d:=26) (hn 17 (by simp)) rfl rfl rfl;have hsz:=jj hJ.size;clear hLi hed hJ hn;refine opStep_of rfl ?_;unfold Oper.wp execOp;have hN26:=evalN hA26;go_simp;refine hK _ _ ?_ (hX.step (Below.refl _ _) rfl rfl);exact Knows.known _
    refine sureX_cons ?_ ?_
    ·intro L ac W K hLi hed hJ hX hK;have hS:=hX.1;have hn:=needs_spec (l:=[18]) (by kernel_rfl) hed;have hA27:=hJ.eval 18 (d:=27) (hn 18 (by simp)) rfl rfl rfl;have hsz:=jj hJ.size;clear hLi hed hJ hn;refine opStep_of rfl ?_;have c2:=(HCC.out W hS).2.2;unfold Oper.wp execOp;have hN27:=evalN hA27;go_simp;refine hK _ _ ?_ (hX.step (Below.refl _ _) rfl rfl);exact Knows.known _
    refine sureX_cons ?_ ?_
    ·intro L ac W K hLi hed hJ hX hK;have hS:=hX.1;have hn:=needs_spec (l:=[19]) (by kernel_rfl) hed;have hA28:=hJ.eval 19 (d:=28) (hn 19 (by simp)) rfl rfl rfl;have hsz:=jj hJ.size;clear hLi hed hJ hn;refine opStep_of rfl ?_;unfold Oper.wp execOp;have hN28:=evalN hA28;go_simp;refine hK _ _ ?_ (hX.step (Below.refl _ _) rfl rfl);exact Knows.known _
    refine sureX_cons ?_ ?_
    ·intro L ac W K hLi hed hJ hX hK;have hS:=hX.1;have hn:=needs_spec (l:=[20]) (by kernel_rfl) hed;have hA29:=hJ.eval 20 (d:=29) (hn 20 (by simp)) rfl rfl rfl;have hsz:=jj hJ.size;clear hLi hed hJ hn;refine opStep_of rfl ?_;unfold Oper.wp execOp;have hN29:=evalN hA29;go_simp;refine (CP.out W).mono ?_;rintro e W' ⟨rfl,hb⟩;have hX2:=hX.step (i:=21) (d:=some 30) (v:=S t2) hb rfl rfl;dsimp only;refine hK _ W' ?_ hX2;exact Knows.known _
    refine sureX_cons ?_ ?_
    ·intro L ac W K hLi hed hJ hX hK;have hS:=hX.1;have hn:=needs_spec (l:=[15,21]) (by kernel_rfl) hed;have hA24:=hJ.eval 15 (d:=24) (hn 15 (by simp)) rfl rfl rfl;have hA30:=hJ.eval 21 (d:=30) (hn 21 (by simp)) rfl rfl rfl;have hsz:=jj hJ.size;clear hLi hed hJ hn;refine opStep_of rfl ?_;unfold Oper.wp execOp;have hN24:=evalN hA24;have hN30:=evalN hA30;go_simp;refine hK _ _ ?_ (hX.step (Below.refl _ _) rfl rfl);exact Knows.known _
    refine sureX_nil ?_;intro L ac W hL hX ha;have hS:=hX.1;rw [ha];simp only [mendAll,Option.getD_some,Option.getD_none,Option.map_some,putAll,Act.put,List.setIfInBounds_toArray,List.set_cons_zero,List.set_cons_succ];generalize ac.tmps.getD 15 undef = us;clear ha hX hL;have HV6 : Hid (Below w1.heap.size w1 W):=jj (HV.out.trans (hS.mono HV.out.size));clear hS;go_wp2_with fail
    go_roundw
    case rel =>
     have R : ∃ (k' : Nat),k' ≤ 8 ∧ Value.int .i64 ((k : Int) + 1) = .int .i64 (k' : Int) ∧ S (s ++ bb :: (t1 ++ t2)) = S ((l.take k').flatMap flB) ∧ Hid (Below w1.heap.size w1 W):=⟨k + 1,by omega,by go_num,by rw [HSN.out,HFB.out],HV6⟩
     first | exact R | ((repeat apply Exists.intro);exact ⟨R,rfl⟩)
    case measure => simp [intOf];omega
  ·obtain rfl : k = 8:=(by omega);rw [List.take_of_length_le (by omega)];rw [show ((8 : Nat) : Int) = 8 from rfl];go_wp2_with fail;go_ret;exact ⟨rfl,by rw [HGX.out];exact HW.out.trans (HV.out.mono (by omega))⟩
end Go.Proofs.YtmmfcjkabpffeaaGreatDoor
