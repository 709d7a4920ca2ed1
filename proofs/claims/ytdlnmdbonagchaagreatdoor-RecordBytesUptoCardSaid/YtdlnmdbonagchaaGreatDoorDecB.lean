import Derived.Test.YtdlnmdbonagchaaGreatDoorDecPZ
import Derived.Test.YtdlnmdbonagchaaGreatDoorShelfS
import Derived.Test.YtdlnmdbonagchaaGreatDoorRowL
import Derived.Lib.SmallJoins
import Derived.Lib.AtoiErrMem
namespace Go.Proofs.YtdlnmdbonagchaaGreatDoor
open Go.RowKit
attribute [local go_sem] concat_S
def STabs (w : World) : Prop := Lib.TabIs Tryz.prog w "internal/strconv.uint64pow10" .u64 Lib.pow10Tab
theorem STabs.below {w w' : World} {B : Nat} (h : STabs w) (hB : w.heap.size ≤ B) (hb : Below B w w') : STabs w':=Joins.var_stays (g:=2) (by kernel_rfl) h hb hB
def ITabs (w : World) : Prop :=
 STabs w ∧ (∃ tp p, w.var? Tryz.prog "strconv.ErrSyntax" = some #[.iface tp p]) ∧ (∃ tp p, w.var? Tryz.prog "strconv.ErrRange" = some #[.iface tp p])
theorem ITabs.below {w w' : World} {B : Nat} (h : ITabs w) (hB : w.heap.size ≤ B) (hb : Below B w w') : ITabs w':=by
 obtain ⟨h1,⟨t2,p2,h2⟩,⟨t3,p3,h3⟩⟩:=h;refine ⟨h1.below hB hb,⟨t2,p2,?_⟩,⟨t3,p3,?_⟩⟩
 ·exact Joins.var_stays (g:=3) (by kernel_rfl) h2 hb hB
 ·exact Joins.var_stays (g:=4) (by kernel_rfl) h3 hb hB
theorem below_grow (w : World) (k : Nat) (os : Array Obj) : Below w.heap.size w (Sort.grow (w.drewN k) os) :=
 ⟨rfl,rfl,rfl,by simp [Sort.grow],fun i hi => by simp only [Sort.grow];exact Array.getElem?_append_left hi⟩
set_option maxRecDepth 100000 in
theorem dec_any (w : World) (n : Int) (hn : inI n) (hT : STabs w) :
  Calls Tryz.prog 18 #[.int .i64 n] w fun e w' => e = .returned (S (Lib.itoa n)) ∧ Below w.heap.size w w':=by
 have HC:=jj (Tryz.strconv_FormatInt_10 n hn.1 hn.2 w hT);clear hn hT;go_enter Tryz.func18,Tryz.ntmps18;go_wp2_with fail;refine HC.out.mono ?_;rintro e w1 ⟨rfl,k,os,rfl⟩;go_wp2_with fail;go_ret;exact ⟨rfl,below_grow w k os⟩
def IntPost (w : World) (q : Option Int) (e : Ending) (w' : World) : Prop :=
 (match q with
  | none => e = .returned (.tuple #[.int .i64 0,.bool false])
  | some n => e = .returned (.tuple #[.int .i64 n,.bool true])) ∧ Below w.heap.size w w'
set_option maxRecDepth 100000 in
set_option maxHeartbeats 1000000 in
theorem int_any (w : World) (s : List UInt8) (hs : s.length ≤ 1099511627776) (hT : ITabs w) :
  Calls Tryz.prog 26 #[S s] w (IntPost w (intP s)):=by
 have HT:=jj hT;have hsz : (⟨s.toArray⟩ : ByteArray).size = s.length:=(by simp [ByteArray.size]);have HSZ:=jj hsz;clear hT hsz;go_enter Tryz.func26,Tryz.ntmps26;go_wp2_with fail;cases hp : Lib.parseIntB 64 s with
 | ok v =>
  have hv : inI v:=(by have:=Lib.parseIntB_bounds hp;unfold inI;have e : ((2 ^ (64 - 1) : Nat) : Int) = 9223372036854775808:=(by decide);rw [e] at this;omega);refine (Tryz.strconv_ParseInt_10_at64_ok ⟨s.toArray⟩ (by rw [HSZ.out];omega) v hp w).mono ?_;rintro e w1 ⟨rfl,hw⟩
  have hb1 : Below w.heap.size w w1:=by
   rcases hw with rfl | ⟨t,rfl⟩
   ·exact Below.refl _ _
   ·exact Lib.bytesWorld_below _ _ _
  clear hw;have HB1:=jj hb1;have HT1:=jj (HT.out.below (Nat.le_refl _) hb1);have HV:=jj hv;clear hb1 hv;have HP:=jj hp;clear hp;go_wp2_with fail;refine (dec_any w1 v HV.out HT1.out.1).mono ?_;rintro e w2 ⟨rfl,hb2⟩;have HB2:=jj (HB1.out.trans (hb2.mono HB1.out.size));clear hb2;by_cases he : Lib.itoa v = s
  ·have HQ : Hid (intP s = some v):=jj (by unfold intP;rw [HP.out];dsimp only;rw [if_pos he]);have hbe : (Lib.itoa v == s) = true:=beq_iff_eq.2 he;have hbn : (Lib.itoa v != s) = false:=(by simp [bne,hbe]);clear he;go_wp2_with fail;go_ret2;unfold IntPost;rw [HQ.out];exact ⟨rfl,HB2.out⟩
  ·have HQ : Hid (intP s = none):=jj (by unfold intP;rw [HP.out];dsimp only;rw [if_neg he]);have hbe : (Lib.itoa v == s) = false:=beq_eq_false_iff_ne.2 he;have hbn : (Lib.itoa v != s) = true:=(by simp [bne,hbe]);clear he;go_wp2_with fail;go_ret2;unfold IntPost;rw [HQ.out];exact ⟨rfl,HB2.out⟩
 | range => have HQ : Hid (intP s = none):=jj (by unfold intP;rw [hp]);obtain ⟨tp,p,hv⟩:=HT.out.2.2;refine (Tryz.strconv_ParseInt_10_at64_range_var ⟨s.toArray⟩ (by rw [HSZ.out];omega) hp tp p w hv).mono ?_;rintro e w1 ⟨N,rfl,_,_,hb1⟩;have HB1:=jj hb1;clear hb1 hp hv;generalize Lib.intSat 64 _ = z;go_wp2_with fail;go_ret2;unfold IntPost;rw [HQ.out];exact ⟨rfl,HB1.out⟩
 | _ => have HQ : Hid (intP s = none):=jj (by unfold intP;rw [hp]);obtain ⟨tp,p,hv⟩:=HT.out.2.1;refine (Tryz.strconv_ParseInt_10_at64_bad ⟨s.toArray⟩ (by rw [HSZ.out];omega) (fun v h => by have:=hp.symm.trans h;cases this) (fun h => by have:=hp.symm.trans h;cases this) tp p w hv).mono ?_;rintro e w1 ⟨N,rfl,_,_,hb1⟩;have HB1:=jj hb1;clear hb1 hp hv;go_wp2_with fail;go_ret2;unfold IntPost;rw [HQ.out];exact ⟨rfl,HB1.out⟩
end Go.Proofs.YtdlnmdbonagchaaGreatDoor
namespace Go.Proofs.YtdlnmdbonagchaaGreatDoor
open Go.RowKit
attribute [local go_sem] concat_S
set_option maxRecDepth 100000 in
set_option maxHeartbeats 1000000 in
theorem rdec_small (u : Nat) (w : World) (hu : u < 10) :
  Calls Tryz.prog 57 #[.int .i64 u] w fun e w' => e = .returned (S (Lib.itoa u)) ∧ Below w.heap.size w w':=by
 have hd : decide ((0 : Int) ≤ (u : Int)) = true:=(by simp);have hd2 : decide ((u : Int) < 10) = true:=(by simp;omega);have hcv:=fun W p c => run_str_one W p c (48 + (u : Int)) (UInt8.ofNat (48 + u)) (by rw [UInt8.toNat_ofNat'];omega);have HE : Hid (Lib.itoa u = [UInt8.ofNat (48 + u)]):=jj (by rw [itoa_pos,dd_small hu]);generalize UInt8.ofNat (48 + u) = x at *;go_enter Tryz.func57,Tryz.ntmps57;go_wp2_with fail;go_ret;exact ⟨by rw [HE.out];rfl,(Below.refl _ _).alloc (Nat.le_refl _) _⟩
theorem itoa_ten {u : Nat} (h : ¬ u < 10) : Lib.itoa (u : Int) = Lib.itoa ((u / 10 : Nat) : Int) ++ Lib.itoa ((u % 10 : Nat) : Int):=by
 rw [itoa_pos,itoa_pos,itoa_pos,dd_big h,dd_small (show u % 10 < 10 by omega)]
theorem itoa_mten {u : Nat} (h : ¬ u < 10) : Lib.itoa (-(u : Int)) = Lib.itoa (-((u / 10 : Nat) : Int)) ++ Lib.itoa ((u % 10 : Nat) : Int):=by
 rw [itoa_min (by omega),itoa_min (by omega),itoa_pos,dd_big h,dd_small (show u % 10 < 10 by omega)];rfl
set_option maxRecDepth 100000 in
set_option maxHeartbeats 1000000 in
theorem rdec_min (u : Nat) (w : World) (hu : u < 10) (h0 : 0 < u) :
  Calls Tryz.prog 57 #[.int .i64 (-(u : Int))] w fun e w' => e = .returned (S (Lib.itoa (-(u : Int)))) ∧ Below w.heap.size w w':=by
 have hd : decide ((0 : Int) ≤ -(u : Int)) = false:=(by simp;omega);have hd2 : decide (-(u : Int) < 0) = true:=(by simp;omega);have hd3 : decide (-10 < -(u : Int)) = true:=(by simp;omega);have HE : Hid (Lib.itoa (-(u : Int)) = 45 :: Lib.itoa u):=jj (by rw [itoa_min h0,itoa_pos]);have hln : (Lib.itoa (u : Int)).length ≤ 20:=itoa_len (by unfold inI;omega);have HC:=jj (rdec_small u w hu);generalize Lib.itoa (u : Int) = y at *;have hno : ¬ (9223372036854775807 < [(45 : UInt8)].length + y.length):=(by simp;omega);have n1 : IntKind.i64.wrap (- -(u : Int)) = (u : Int):=(by rw [Int.neg_neg];exact IntWalk.i64_in _ (by omega));go_enter Tryz.func57,Tryz.ntmps57;go_wp2_with fail;refine HC.out.mono ?_;rintro e w1 ⟨rfl,hb⟩;go_wp2_with fail;go_ret;exact ⟨by rw [HE.out];rfl,hb⟩
set_option maxRecDepth 100000 in
set_option maxHeartbeats 1000000 in
theorem rdec_pos (N : Nat) : ∀ (u : Nat) (w : World),u ≤ N → u ≤ 9223372036854775807 →
  Calls Tryz.prog 57 #[.int .i64 u] w fun e w' => e = .returned (S (Lib.itoa u)) ∧ Below w.heap.size w w':=by
 induction N with
 | zero => intro u w h1 _;exact rdec_small u w (by omega)
 | succ N ih =>
  intro u w h1 h2;by_cases hu : u < 10
  ·exact rdec_small u w hu
  ·have hd : decide ((0 : Int) ≤ (u : Int)) = true:=(by simp);have hd2 : decide ((u : Int) < 10) = false:=(by simp;omega);have hd3 : decide ((u : Int) < 0) = false:=(by simp);have hd4 : decide (((u % 10 : Nat) : Int) < 0) = false:=(by simp;omega);have HE:=jj (itoa_ten hu);have HC:=jj (fun W => ih (u / 10) W (by omega) (by omega));have HS:=jj (fun W => rdec_small (u % 10) W (by omega));have m1 : (u : Int).tmod 10 = ((u % 10 : Nat) : Int):=(by rw [Int.tmod_eq_emod_of_nonneg (by omega)];omega);have m1' : (u : Int) % 10 = ((u % 10 : Nat) : Int):=(by omega);have m2 : (u : Int).tdiv 10 = ((u / 10 : Nat) : Int):=(by rw [Int.tdiv_eq_ediv_of_nonneg (by omega)];omega);have m2' : (u : Int) / 10 = ((u / 10 : Nat) : Int):=(by omega);have l1 : (Lib.itoa ((u / 10 : Nat) : Int)).length ≤ 20:=itoa_len (by unfold inI;omega);have l2 : (Lib.itoa ((u % 10 : Nat) : Int)).length ≤ 20:=itoa_len (by unfold inI;omega);have b1 : u / 10 ≤ 9223372036854775807:=(by omega);have b2 : u % 10 < 10:=(by omega);clear ih hu h1;generalize u / 10 = a at *;generalize u % 10 = b at *;generalize Lib.itoa (a : Int) = x at *;generalize Lib.itoa (b : Int) = y at *;have hno : ¬ (9223372036854775807 < x.length + y.length):=(by omega);have n1 : IntKind.i64.wrap (a : Int) = (a : Int):=IntWalk.i64_in _ (by omega);have n2 : IntKind.i64.wrap (b : Int) = (b : Int):=IntWalk.i64_in _ (by omega);go_enter Tryz.func57,Tryz.ntmps57;go_wp2_with fail;refine (HC.out _).mono ?_;rintro e w1 ⟨rfl,hb1⟩;go_wp2_with fail;refine (HS.out _).mono ?_;rintro e w2 ⟨rfl,hb2⟩;go_wp2_with fail;go_ret;exact ⟨by rw [HE.out];rfl,hb1.trans (hb2.mono hb1.size)⟩
set_option maxRecDepth 100000 in
set_option maxHeartbeats 1000000 in
theorem rdec_neg (N : Nat) : ∀ (u : Nat) (w : World),u ≤ N → 0 < u → u ≤ 9223372036854775808 →
  Calls Tryz.prog 57 #[.int .i64 (-(u : Int))] w fun e w' => e = .returned (S (Lib.itoa (-(u : Int)))) ∧ Below w.heap.size w w':=by
 induction N with
 | zero => intro u w h1 h2 _;omega
 | succ N ih =>
  intro u w h1 h0 h2;by_cases hu : u < 10
  ·exact rdec_min u w hu h0
  ·have hd : decide ((0 : Int) ≤ -(u : Int)) = false:=(by simp;omega);have hd2 : decide (-(u : Int) < 0) = true:=(by simp;omega);have hd3 : decide (-10 < -(u : Int)) = false:=(by simp;omega);have hd5 : decide ((u : Int) < 10) = false:=(by simp;omega);have hd6 : decide (u < 10) = false:=(by simp;omega);have HE:=jj (itoa_mten hu);have HC:=jj (fun W => ih (u / 10) W (by omega) (by omega) (by omega));have HS:=jj (fun W => rdec_small (u % 10) W (by omega));have m1 : (-(u : Int)).tmod 10 = -((u % 10 : Nat) : Int):=(by rw [Int.neg_tmod,Int.tmod_eq_emod_of_nonneg (by omega)];omega);have m2 : (-(u : Int)).tdiv 10 = -((u / 10 : Nat) : Int):=(by rw [Int.neg_tdiv,Int.tdiv_eq_ediv_of_nonneg (by omega)];omega);have l1 : (Lib.itoa (-((u / 10 : Nat) : Int))).length ≤ 20:=itoa_len (by unfold inI;omega);have l2 : (Lib.itoa ((u % 10 : Nat) : Int)).length ≤ 20:=itoa_len (by unfold inI;omega);have b1 : u / 10 ≤ 922337203685477581:=(by omega);have b2 : u % 10 < 10:=(by omega);clear ih hu h1;generalize u / 10 = a at *;generalize u % 10 = b at *;generalize Lib.itoa (-(a : Int)) = x at *;generalize Lib.itoa (b : Int) = y at *;have hno : ¬ (9223372036854775807 < x.length + y.length):=(by omega);have n1 : IntKind.i64.wrap (-(a : Int)) = -(a : Int):=IntWalk.i64_in _ (by omega);have n2 : IntKind.i64.wrap (-(b : Int)) = -(b : Int):=IntWalk.i64_in _ (by omega);have n3 : IntKind.i64.wrap (- -(b : Int)) = (b : Int):=(by rw [Int.neg_neg];exact IntWalk.i64_in _ (by omega));by_cases hb0 : b = 0
   ·have hd4 : decide ((b : Int) < 0) = false:=(by simp);have m3 : (-(u : Int)).tmod 10 = (b : Int):=(by rw [m1];omega);have n4 : IntKind.i64.wrap (b : Int) = (b : Int):=IntWalk.i64_in _ (by omega);clear m1 hb0 n2 n3;go_enter Tryz.func57,Tryz.ntmps57;go_wp2_with fail;refine (HC.out _).mono ?_;rintro e w1 ⟨rfl,hb1⟩;go_wp2_with fail;refine (HS.out _).mono ?_;rintro e w2 ⟨rfl,hb2⟩;go_wp2_with fail;go_ret;exact ⟨by rw [HE.out];rfl,hb1.trans (hb2.mono hb1.size)⟩
   ·have hd4 : decide (-(b : Int) < 0) = true:=(by simp;omega);have hd7 : decide (0 < b) = true:=(by simp;omega);clear hb0;go_enter Tryz.func57,Tryz.ntmps57;go_wp2_with fail;refine (HC.out _).mono ?_;rintro e w1 ⟨rfl,hb1⟩;go_wp2_with fail;refine (HS.out _).mono ?_;rintro e w2 ⟨rfl,hb2⟩;go_wp2_with fail;go_ret;exact ⟨by rw [HE.out];rfl,hb1.trans (hb2.mono hb1.size)⟩
theorem wrap_step (a p d : Int) (h : (a - p) % 18446744073709551616 = 0) : inI (wrap64 (wrap64 (a * 10) + d)) ∧ (wrap64 (wrap64 (a * 10) + d) - (p * 10 + d)) % 18446744073709551616 = 0:=by
 unfold inI;unfold wrap64;omega
theorem wrap_down (a p d : Int) (h : (a - p) % 18446744073709551616 = 0) : inI (wrap64 (wrap64 (a * 10) - d)) ∧ (wrap64 (wrap64 (a * 10) - d) - (p * 10 - d)) % 18446744073709551616 = 0:=by
 unfold inI;unfold wrap64;omega
theorem rdec_any (n : Int) (w : World) (hn : inI n) :
  Calls Tryz.prog 57 #[.int .i64 n] w fun e w' => e = .returned (S (Lib.itoa n)) ∧ Below w.heap.size w w':=by
 unfold inI at hn;by_cases h : n < 0
 ·obtain ⟨u,rfl⟩ : ∃ u : Nat,n = -(u : Int):=⟨n.natAbs,by omega⟩;exact rdec_neg u u w (Nat.le_refl _) (by omega) (by omega)
 ·obtain ⟨u,rfl⟩ : ∃ u : Nat,n = u:=⟨n.toNat,by omega⟩;exact rdec_pos u u w (Nat.le_refl _) (by omega)
set_option maxRecDepth 100000 in
set_option maxHeartbeats 1000000 in
theorem rint_any (w : World) (s : List UInt8) :
  Calls Tryz.prog 60 #[S s] w (IntPost w (intP s)):=by
 by_cases h0 : s = []
 ·subst h0;have HQ:=jj intP_nil;go_enter Tryz.func60,Tryz.ntmps60;go_wp2_with fail;go_ret2;unfold IntPost;rw [HQ.out];exact ⟨rfl,Below.refl _ _⟩
 have hpos : 0 < s.length:=List.length_pos_iff.2 h0;have z1 : ((s.length : Int) == 0) = false:=(by simp;omega);have z2 : (s.length == 0) = false:=(by simp;omega);have HNE:=jj h0;clear h0;by_cases h20 : 20 < s.length
 ·have z3 : decide ((20 : Int) < (s.length : Int)) = true:=(by simp;omega);have z4 : decide (20 < s.length) = true:=(by simp;omega);have HQ:=jj (intP_long h20);go_enter Tryz.func60,Tryz.ntmps60;go_wp2_with fail;go_ret2;unfold IntPost;rw [HQ.out];exact ⟨rfl,Below.refl _ _⟩
 have z3 : decide ((20 : Int) < (s.length : Int)) = false:=(by simp;omega);have z4 : decide (20 < s.length) = false:=(by simp;omega);go_enter Tryz.func60,Tryz.ntmps60;go_wp2_with fail;clear z1 z2 z3 z4;have x0:=run_index_S s .i64 (0 : Int) 0 rfl hpos;have HC0 : Hid (s.getD 0 0 = s.getD 0 0):=jj rfl
 go_loop [4,5] (fun n i => ∃ (k : Nat) (a : Int),k ≤ s.length ∧ i = .int .i64 k ∧ n = .int .i64 a ∧ Hid (inI a) ∧ Hid ((a - pv s k) % 18446744073709551616 = 0)) (fun _ i => s.length - (intOf i).toNat)
 case atStart => exact ⟨0,0,by omega,rfl,rfl,jj (by unfold inI;omega),jj (by simp [pv])⟩
 case round =>
  obtain ⟨k,a,hk,rfl,rfl,HI,HP⟩:=hrel;by_cases hlt : k < s.length
  ·have hd : decide ((k : Int) < (s.length : Int)) = true:=(by simp;omega);have hd' : decide (k < s.length) = true:=(by simp;omega);have xi:=run_index_S s .i64 (k : Int) k rfl hlt;have HS0:=jj (@pv_skip s);have HSN:=jj (@pv_neg s k);have HSP:=jj (@pv_pos s k)
   have HBAD : Hid (¬ ((s.getD k 0).toNat = 45 ∧ k = 0) → ¬ (48 ≤ (s.getD k 0).toNat ∧ (s.getD k 0).toNat ≤ 57) → intP s = none):=jj (fun h1 h2 => intP_no fun n _ e => by
    subst e;exact h2 (itoa_digit n hlt h1))
   have HCC : Hid (k = 0 → s.getD 0 0 = s.getD k 0):=jj (fun h => by subst h;rfl);generalize s.getD k 0 = c at *;generalize s.getD 0 0 = c0 at *;have hcl:=c.toNat_lt;have hcl0:=c0.toNat_lt;by_cases hsk : c.toNat = 45 ∧ k = 0
   ·obtain ⟨e45,rfl⟩:=hsk;obtain rfl:=HCC.out rfl;have e1 : ((c0.toNat : Int) == 45) = true:=(by simp;omega);have e2 : (((0 : Nat) : Int) == 0) = true:=(by simp);have HP1 : Hid (((a : Int) - pv s 1) % 18446744073709551616 = 0):=jj (by rw [HS0.out e45];have:=HP.out;rw [pv] at this;exact this);clear e45 hd hd';go_wp2_with fail;exact ⟨⟨1,a,by omega,rfl,rfl,HI,HP1⟩,by simp [intOf];omega⟩
   ·by_cases hdg : 48 ≤ c.toNat ∧ c.toNat ≤ 57
    ·have e1 : ((c.toNat : Int) == 45) = false:=(by simp;omega);have e3 : decide ((c.toNat : Int) < 48) = false:=(by simp;omega);have e4 : decide ((57 : Int) < (c.toNat : Int)) = false:=(by simp;omega);have e5 : IntKind.u8.wrap ((c.toNat : Int) - 48) = (c.toNat : Int) - 48:=(by rw [IntKind.wrap_u8];omega);have e6 : ((c.toNat : Int) - 48) % 256 = (c.toNat : Int) - 48:=(by omega);by_cases hng : c0.toNat = 45
     ·have hk0 : k ≠ 0:=fun h => (by have:=HCC.out h;subst this;omega);have e7 : ((c0.toNat : Int) == 45) = true:=(by simp;omega);obtain ⟨w1,w2⟩:=wrap_down a (pv s k) ((c.toNat : Int) - 48) HP.out;rw [← HSN.out hng hk0] at w2;have HW1:=jj w1;have HW2:=jj w2;clear w1 w2 hng hk0 hsk;go_wp2_with fail;exact ⟨⟨k + 1,_,by omega,by go_num,rfl,HW1,HW2⟩,by simp [intOf];omega⟩
     ·have e7 : ((c0.toNat : Int) == 45) = false:=(by simp;omega);obtain ⟨w1,w2⟩:=wrap_step a (pv s k) ((c.toNat : Int) - 48) HP.out;rw [← HSP.out hng] at w2;have HW1:=jj w1;have HW2:=jj w2;clear w1 w2 hng hsk;go_wp2_with fail;exact ⟨⟨k + 1,_,by omega,by go_num,rfl,HW1,HW2⟩,by simp [intOf];omega⟩
    ·have HQ:=jj (HBAD.out hsk hdg);by_cases hlo : c.toNat < 48
     ·have e3 : decide ((c.toNat : Int) < 48) = true:=(by simp;omega);by_cases h45 : c.toNat = 45
      ·have e1 : ((c.toNat : Int) == 45) = true:=(by simp;omega);have e2 : ((k : Int) == 0) = false:=(by simp;omega);have e2' : (k == 0) = false:=(by simp;omega);clear h45 hsk hdg;go_wp2_with fail;go_ret2;unfold IntPost;rw [HQ.out];exact ⟨rfl,Below.refl _ _⟩
      ·have e1 : ((c.toNat : Int) == 45) = false:=(by simp;omega);clear h45 hsk hdg;go_wp2_with fail;go_ret2;unfold IntPost;rw [HQ.out];exact ⟨rfl,Below.refl _ _⟩
     ·have e1 : ((c.toNat : Int) == 45) = false:=(by simp;omega);have e3 : decide ((c.toNat : Int) < 48) = false:=(by simp;omega);have e4 : decide ((57 : Int) < (c.toNat : Int)) = true:=(by simp;omega);clear hsk hdg;go_wp2_with fail;go_ret2;unfold IntPost;rw [HQ.out];exact ⟨rfl,Below.refl _ _⟩
  ·obtain rfl : k = s.length:=(by omega);have hd : decide (s.length < s.length) = false:=(by simp);go_wp2_with fail;refine (rdec_any a w HI.out).mono ?_;rintro e w1 ⟨rfl,hb1⟩;have HB1:=jj hb1;clear hb1;by_cases he : Lib.itoa a = s
   ·have HQ : Hid (intP s = some a):=jj (by rw [← he];exact intP_itoa HI.out);have hbe : (Lib.itoa a == s) = true:=beq_iff_eq.2 he;have hbn : (Lib.itoa a != s) = false:=(by simp [bne,hbe]);clear he;go_wp2_with fail;go_ret2;unfold IntPost;rw [HQ.out];exact ⟨rfl,HB1.out⟩
   ·have HQ : Hid (intP s = none):=jj (intP_no fun n hn e => he (by have h1:=HP.out;rw [e,pv_itoa] at h1;rw [e,alike64 HI.out hn h1]));have hbe : (Lib.itoa a == s) = false:=beq_eq_false_iff_ne.2 he;have hbn : (Lib.itoa a != s) = true:=(by simp [bne,hbe]);clear he;go_wp2_with fail;go_ret2;unfold IntPost;rw [HQ.out];exact ⟨rfl,HB1.out⟩
end Go.Proofs.YtdlnmdbonagchaaGreatDoor
