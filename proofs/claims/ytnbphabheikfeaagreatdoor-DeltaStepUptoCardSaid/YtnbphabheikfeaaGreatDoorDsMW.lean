import Derived.Test.YtnbphabheikfeaaGreatDoorDsBF
import Derived.Test.YtnbphabheikfeaaGreatDoorDsOZ
import Derived.OpenShut
import Derived.Test.YtnbphabheikfeaaGreatDoorDsL
namespace Go.Proofs.YtnbphabheikfeaaGreatDoor
open Go.RowKit
def WordP (w : World) (e : Ending) (w' : World) : Prop:=(∃ z : Int,inU32 z ∧ e = .returned (.int .u32 z)) ∧ w' = w
set_option maxRecDepth 100000 in
set_option maxHeartbeats 1000000 in
theorem truth_any (w : World) (b : Bool) : Calls Tryz.prog 121 #[.bool b] w (WordP w):=by
 cases b
 all_goals
  go_enter Tryz.func121,Tryz.ntmps121;go_wp2_with fail;go_ret;exact ⟨⟨_,⟨by decide,by decide⟩,rfl⟩,rfl⟩
set_option maxRecDepth 100000 in
set_option maxHeartbeats 1000000 in
theorem less_any (w : World) (x y : Int) : Calls Tryz.prog 122 #[.int .u32 x,.int .u32 y] w fun e w' => (∃ b : Bool,e = .returned (.bool b)) ∧ w' = w:=by
 go_enter Tryz.func122,Tryz.ntmps122;go_wp2_with fail;go_ret;exact ⟨⟨_,rfl⟩,rfl⟩
set_option maxRecDepth 100000 in
set_option maxHeartbeats 1000000 in
theorem divide_any (w : World) (x y : Int) : Calls Tryz.prog 112 #[.int .u32 x,.int .u32 y] w (WordP w):=by
 by_cases h : y = 0
 ·subst h;go_enter Tryz.func112,Tryz.ntmps112;go_wp2_with fail;go_ret;exact ⟨⟨_,⟨by decide,by decide⟩,rfl⟩,rfl⟩
 ·have e : (y == 0) = false:=beq_eq_false_iff_ne.2 h;obtain ⟨q,hqe⟩ : ∃ q,x.tdiv y = q:=⟨_,rfl⟩;go_enter Tryz.func112,Tryz.ntmps112;go_wp2_with fail;go_ret;exact ⟨⟨q % 4294967296,⟨by omega,by omega⟩,rfl⟩,rfl⟩
set_option maxRecDepth 100000 in
set_option maxHeartbeats 1000000 in
theorem rest_any (w : World) (x y : Int) (hx : inU32 x) (hy : inU32 y) : Calls Tryz.prog 113 #[.int .u32 x,.int .u32 y] w (WordP w):=by
 obtain ⟨x0,x1⟩:=hx;obtain ⟨y0,y1⟩:=hy;by_cases h : y = 0
 ·subst h;go_enter Tryz.func113,Tryz.ntmps113;go_wp2_with fail;go_ret;exact ⟨⟨_,⟨x0,x1⟩,rfl⟩,rfl⟩
 ·have e : (y == 0) = false:=beq_eq_false_iff_ne.2 h;have hq : inU32 (x.tmod y):=⟨by rw [Int.tmod_eq_emod_of_nonneg x0];exact Int.emod_nonneg x h,by rw [Int.tmod_eq_emod_of_nonneg x0];have:=Int.emod_lt_of_pos x (show 0 < y by omega);omega⟩;obtain ⟨q,hqe⟩ : ∃ q,x.tmod y = q:=⟨_,rfl⟩;rw [hqe] at hq;go_enter Tryz.func113,Tryz.ntmps113;go_wp2_with fail;go_ret;exact ⟨⟨q,hq,rfl⟩,rfl⟩
end Go.Proofs.YtnbphabheikfeaaGreatDoor
namespace Go.Proofs.YtnbphabheikfeaaGreatDoor
open Go.RowKit
theorem inU32_wrap (n : Int) : inU32 (IntKind.u32.wrap n):=by rw [IntKind.wrap_u32];exact ⟨by omega,by omega⟩
set_option maxRecDepth 100000 in
set_option maxHeartbeats 1000000 in
theorem rk1_any (w : World) (x y : Int) : Calls Tryz.prog 109 #[.int .u32 x,.int .u32 y] w (WordP w):=by
 go_enter Tryz.func109,Tryz.ntmps109;go_wp2_with fail;go_ret;refine ⟨⟨_,?_,rfl⟩,rfl⟩
 first | exact inU32_wrap _ | exact ⟨by omega,by omega⟩
set_option maxRecDepth 100000 in
set_option maxHeartbeats 1000000 in
theorem rk2_any (w : World) (x y : Int) : Calls Tryz.prog 110 #[.int .u32 x,.int .u32 y] w (WordP w):=by
 go_enter Tryz.func110,Tryz.ntmps110;go_wp2_with fail;go_ret;refine ⟨⟨_,?_,rfl⟩,rfl⟩
 first | exact inU32_wrap _ | exact ⟨by omega,by omega⟩
set_option maxRecDepth 100000 in
set_option maxHeartbeats 1000000 in
theorem rk3_any (w : World) (x y : Int) : Calls Tryz.prog 111 #[.int .u32 x,.int .u32 y] w (WordP w):=by
 go_enter Tryz.func111,Tryz.ntmps111;go_wp2_with fail;go_ret;refine ⟨⟨_,?_,rfl⟩,rfl⟩
 first | exact inU32_wrap _ | exact ⟨by omega,by omega⟩
set_option maxRecDepth 100000 in
set_option maxHeartbeats 1000000 in
theorem rk4_any (w : World) (x y : Int) : Calls Tryz.prog 114 #[.int .u32 x,.int .u32 y] w (WordP w):=by
 go_enter Tryz.func114,Tryz.ntmps114;go_wp2_with fail;go_ret;refine ⟨⟨_,?_,rfl⟩,rfl⟩
 first | exact inU32_wrap _ | exact ⟨by omega,by omega⟩
set_option maxRecDepth 100000 in
set_option maxHeartbeats 1000000 in
theorem rk5_any (w : World) (x y : Int) : Calls Tryz.prog 115 #[.int .u32 x,.int .u32 y] w (WordP w):=by
 go_enter Tryz.func115,Tryz.ntmps115;go_wp2_with fail;go_ret;refine ⟨⟨_,?_,rfl⟩,rfl⟩
 first | exact inU32_wrap _ | exact ⟨by omega,by omega⟩
set_option maxRecDepth 100000 in
set_option maxHeartbeats 1000000 in
theorem rk6_any (w : World) (x y : Int) : Calls Tryz.prog 116 #[.int .u32 x,.int .u32 y] w (WordP w):=by
 go_enter Tryz.func116,Tryz.ntmps116;go_wp2_with fail;go_ret;refine ⟨⟨_,?_,rfl⟩,rfl⟩
 first | exact inU32_wrap _ | exact ⟨by omega,by omega⟩
set_option maxRecDepth 100000 in
set_option maxHeartbeats 1000000 in
theorem rk7_any (w : World) (x y : Int) : Calls Tryz.prog 117 #[.int .u32 x,.int .u32 y] w (WordP w):=by
 have hc0:=bounds_u32 (wf_bits .and .u32 y 31);obtain ⟨c,hc⟩ : ∃ c,bits .and .u32 y 31 = c:=⟨_,rfl⟩;rw [hc] at hc0;have hn : decide (c < 0) = false:=decide_eq_false (by omega);go_enter Tryz.func117,Tryz.ntmps117;go_wp2_with fail;go_ret;refine ⟨⟨_,?_,rfl⟩,rfl⟩
 first | exact inU32_wrap _ | exact ⟨by omega,by omega⟩
set_option maxRecDepth 100000 in
set_option maxHeartbeats 1000000 in
theorem rk8_any (w : World) (x y : Int) (hx : inU32 x) : Calls Tryz.prog 118 #[.int .u32 x,.int .u32 y] w (WordP w):=by
 have HX:=jj hx;clear hx;have hc0:=bounds_u32 (wf_bits .and .u32 y 31);obtain ⟨c,hc⟩ : ∃ c,bits .and .u32 y 31 = c:=⟨_,rfl⟩;rw [hc] at hc0;have hn : decide (c < 0) = false:=decide_eq_false (by omega);go_enter Tryz.func118,Tryz.ntmps118;go_wp2_with fail;go_ret;refine ⟨⟨_,?_,rfl⟩,rfl⟩;exact ⟨Int.ediv_nonneg HX.out.1 (Int.le_of_lt (Int.pow_pos (by decide))),Int.le_trans (Int.ediv_le_self _ HX.out.1) HX.out.2⟩
set_option maxRecDepth 100000 in
set_option maxHeartbeats 1000000 in
theorem rk9_any (w : World) (x y : Int) : Calls Tryz.prog 119 #[.int .u32 x,.int .u32 y] w (WordP w):=by
 have hc0:=bounds_u32 (wf_bits .and .u32 y 31);obtain ⟨c,hc⟩ : ∃ c,bits .and .u32 y 31 = c:=⟨_,rfl⟩;rw [hc] at hc0;have hn : decide (c < 0) = false:=decide_eq_false (by omega);go_enter Tryz.func119,Tryz.ntmps119;go_wp2_with fail;go_ret;refine ⟨⟨_,?_,rfl⟩,rfl⟩
 first | exact inU32_wrap _ | exact ⟨by omega,by omega⟩
set_option maxRecDepth 100000 in
set_option maxHeartbeats 1000000 in
theorem rk10_any (w : World) (x y : Int) : Calls Tryz.prog 120 #[.int .u32 x,.int .u32 y] w (WordP w):=by
 have CL:=jj (less_any w x y);go_enter Tryz.func120,Tryz.ntmps120;go_wp2_with fail;refine CL.out.mono ?_;rintro e w2 ⟨⟨b,rfl⟩,rfl⟩;have CT:=jj (truth_any w2 b);go_wp2_with fail;refine CT.out.mono ?_;rintro e w3 ⟨⟨z,hz,rfl⟩,rfl⟩;have HZ:=jj hz;clear hz;go_wp2_with fail;go_ret;exact ⟨⟨z,HZ.out,rfl⟩,rfl⟩
set_option maxRecDepth 100000 in
set_option maxHeartbeats 1000000 in
theorem rk11_any (w : World) (x y : Int) : Calls Tryz.prog 123 #[.int .u32 x,.int .u32 y] w (WordP w):=by
 have CT:=jj (truth_any w (decide (x < y)));go_enter Tryz.func123,Tryz.ntmps123;go_wp2_with fail;refine CT.out.mono ?_;rintro e w3 ⟨⟨z,hz,rfl⟩,rfl⟩;have HZ:=jj hz;clear hz;go_wp2_with fail;go_ret;exact ⟨⟨z,HZ.out,rfl⟩,rfl⟩
def RecF (f : Nat) : Prop:=Ent f ∧ ∀ (w : World) (x y : Int),inU32 x → inU32 y → Calls Tryz.prog f #[.int .u32 x,.int .u32 y] w (WordP w)
set_option maxRecDepth 100000 in
set_option maxHeartbeats 2000000 in
theorem reckon_any (n : Int) : ∃ f,RecF f ∧ ∀ w,Calls Tryz.prog 77 #[.int .u8 n] w fun e w' => e = .returned (.func (.func f) #[] #[]) ∧ w' = w:=by
 by_cases h0 : n = 1
 ·subst h0;refine ⟨_,⟨ent_of Tryz.func109 (by kernel_rfl) rfl,fun w x y _ _ => rk1_any w x y⟩,fun w => ?_⟩;go_enter Tryz.func77,Tryz.ntmps77;go_wp2_with fail;go_ret;exact ⟨rfl,rfl⟩
 by_cases h1 : n = 2
 ·subst h1;refine ⟨_,⟨ent_of Tryz.func110 (by kernel_rfl) rfl,fun w x y _ _ => rk2_any w x y⟩,fun w => ?_⟩;go_enter Tryz.func77,Tryz.ntmps77;go_wp2_with fail;go_ret;exact ⟨rfl,rfl⟩
 by_cases h2 : n = 3
 ·subst h2;refine ⟨_,⟨ent_of Tryz.func111 (by kernel_rfl) rfl,fun w x y _ _ => rk3_any w x y⟩,fun w => ?_⟩;go_enter Tryz.func77,Tryz.ntmps77;go_wp2_with fail;go_ret;exact ⟨rfl,rfl⟩
 by_cases h3 : n = 4
 ·subst h3;refine ⟨_,⟨ent_of Tryz.func112 (by kernel_rfl) rfl,fun w x y _ _ => divide_any w x y⟩,fun w => ?_⟩;go_enter Tryz.func77,Tryz.ntmps77;go_wp2_with fail;go_ret;exact ⟨rfl,rfl⟩
 by_cases h4 : n = 5
 ·subst h4;refine ⟨_,⟨ent_of Tryz.func113 (by kernel_rfl) rfl,fun w x y hx hy => rest_any w x y hx hy⟩,fun w => ?_⟩;go_enter Tryz.func77,Tryz.ntmps77;go_wp2_with fail;go_ret;exact ⟨rfl,rfl⟩
 by_cases h5 : n = 6
 ·subst h5;refine ⟨_,⟨ent_of Tryz.func114 (by kernel_rfl) rfl,fun w x y _ _ => rk4_any w x y⟩,fun w => ?_⟩;go_enter Tryz.func77,Tryz.ntmps77;go_wp2_with fail;go_ret;exact ⟨rfl,rfl⟩
 by_cases h6 : n = 7
 ·subst h6;refine ⟨_,⟨ent_of Tryz.func115 (by kernel_rfl) rfl,fun w x y _ _ => rk5_any w x y⟩,fun w => ?_⟩;go_enter Tryz.func77,Tryz.ntmps77;go_wp2_with fail;go_ret;exact ⟨rfl,rfl⟩
 by_cases h7 : n = 8
 ·subst h7;refine ⟨_,⟨ent_of Tryz.func116 (by kernel_rfl) rfl,fun w x y _ _ => rk6_any w x y⟩,fun w => ?_⟩;go_enter Tryz.func77,Tryz.ntmps77;go_wp2_with fail;go_ret;exact ⟨rfl,rfl⟩
 by_cases h8 : n = 9
 ·subst h8;refine ⟨_,⟨ent_of Tryz.func117 (by kernel_rfl) rfl,fun w x y _ _ => rk7_any w x y⟩,fun w => ?_⟩;go_enter Tryz.func77,Tryz.ntmps77;go_wp2_with fail;go_ret;exact ⟨rfl,rfl⟩
 by_cases h9 : n = 10
 ·subst h9;refine ⟨_,⟨ent_of Tryz.func118 (by kernel_rfl) rfl,fun w x y hx _ => rk8_any w x y hx⟩,fun w => ?_⟩;go_enter Tryz.func77,Tryz.ntmps77;go_wp2_with fail;go_ret;exact ⟨rfl,rfl⟩
 by_cases h10 : n = 11
 ·subst h10;refine ⟨_,⟨ent_of Tryz.func119 (by kernel_rfl) rfl,fun w x y _ _ => rk9_any w x y⟩,fun w => ?_⟩;go_enter Tryz.func77,Tryz.ntmps77;go_wp2_with fail;go_ret;exact ⟨rfl,rfl⟩
 by_cases h11 : n = 12
 ·subst h11;refine ⟨_,⟨ent_of Tryz.func120 (by kernel_rfl) rfl,fun w x y _ _ => rk10_any w x y⟩,fun w => ?_⟩;go_enter Tryz.func77,Tryz.ntmps77;go_wp2_with fail;go_ret;exact ⟨rfl,rfl⟩
 have e0 : (n == 1) = false:=beq_eq_false_iff_ne.2 h0;have e1 : (n == 2) = false:=beq_eq_false_iff_ne.2 h1;have e2 : (n == 3) = false:=beq_eq_false_iff_ne.2 h2;have e3 : (n == 4) = false:=beq_eq_false_iff_ne.2 h3;have e4 : (n == 5) = false:=beq_eq_false_iff_ne.2 h4;have e5 : (n == 6) = false:=beq_eq_false_iff_ne.2 h5;have e6 : (n == 7) = false:=beq_eq_false_iff_ne.2 h6;have e7 : (n == 8) = false:=beq_eq_false_iff_ne.2 h7;have e8 : (n == 9) = false:=beq_eq_false_iff_ne.2 h8;have e9 : (n == 10) = false:=beq_eq_false_iff_ne.2 h9;have e10 : (n == 11) = false:=beq_eq_false_iff_ne.2 h10;have e11 : (n == 12) = false:=beq_eq_false_iff_ne.2 h11;clear h0 h1 h2 h3 h4 h5 h6 h7 h8 h9 h10 h11;refine ⟨_,⟨ent_of Tryz.func123 (by kernel_rfl) rfl,fun w x y _ _ => rk11_any w x y⟩,fun w => ?_⟩;go_enter Tryz.func77,Tryz.ntmps77;go_wp2_with fail;go_ret;exact ⟨rfl,rfl⟩
set_option maxRecDepth 100000 in
set_option maxHeartbeats 1000000 in
theorem taken_any (w : World) (n x y : Int) : Calls Tryz.prog 80 #[.int .u8 n,.int .u32 x,.int .u32 y] w fun e w' => (∃ b : Bool,e = .returned (.bool b)) ∧ w' = w:=by
 have CL:=jj (less_any w x y);by_cases h0 : n = 25
 ·subst h0;go_enter Tryz.func80,Tryz.ntmps80;go_wp2_with fail;go_ret;exact ⟨⟨_,rfl⟩,rfl⟩
 by_cases h1 : n = 26
 ·subst h1;go_enter Tryz.func80,Tryz.ntmps80;go_wp2_with fail;go_ret;exact ⟨⟨_,rfl⟩,rfl⟩
 by_cases h2 : n = 27
 ·subst h2;go_enter Tryz.func80,Tryz.ntmps80;go_wp2_with fail;refine CL.out.mono ?_;rintro e w2 ⟨⟨b,rfl⟩,rfl⟩;go_wp2_with fail;go_ret;exact ⟨⟨_,rfl⟩,rfl⟩
 have e0 : (n == 25) = false:=beq_eq_false_iff_ne.2 h0;have e1 : (n == 26) = false:=beq_eq_false_iff_ne.2 h1;have e2 : (n == 27) = false:=beq_eq_false_iff_ne.2 h2;clear h0 h1 h2 CL;go_enter Tryz.func80,Tryz.ntmps80;go_wp2_with fail;go_ret;exact ⟨⟨_,rfl⟩,rfl⟩
end Go.Proofs.YtnbphabheikfeaaGreatDoor
namespace Go.Proofs.YtnbphabheikfeaaGreatDoor
open Go.RowKit
theorem ldR_word (sp : List Pg) (fs : List (List UInt8)) (ad n : Nat) : inU32 (ldR sp fs ad n).1:=by
 unfold ldR;split
 ·exact ⟨by show 0 ≤ _ % _;omega,by show _ % _ ≤ _;omega⟩
 ·exact ⟨by decide,by decide⟩
set_option maxRecDepth 100000 in
set_option maxHeartbeats 1000000 in
theorem cload_any (w : World) (n : Int) (A : Option Addr) (c : Nat) (sp : List Pg) (hlen : sp.length = 16) (fs : List (List UInt8)) (ad : Nat) (hA : Strs w w.heap.size A fs) :
  Calls Tryz.prog 78 #[.int .u8 n,.agg (pgCells sp).toArray,.slice A fs.length c,.int .u32 (ad : Int)] w fun e w' => (∃ z b,inU32 z ∧ e = .returned (.tuple #[.int .u32 z,.bool b])) ∧ Below w.heap.size w w':=by
 have hs0:=Whole.made w 59 (pgCells sp).toArray;have hb : Below w.heap.size w (w.alloc (.cells (pgCells sp).toArray 59)):=(Below.refl _ _).alloc (Nat.le_refl _) _;go_enter Tryz.func78,Tryz.ntmps78;go_upto_region 1 with (fail);change Code.wp _ _ _ _ (w.alloc (.cells (pgCells sp).toArray 59));generalize (w.alloc (.cells (pgCells sp).toArray 59)) = w1 at *;generalize hgx : w.heap.size = gx at *;have HGX:=jj hgx;have HS0:=jj hs0;have HW:=jj hb;have hgl : gx < w1.heap.size:=hs0.lt;clear hgx hb hs0;have hA1 : Strs w1 w1.heap.size A fs:=Lies.wide (Lies.below hA HW.out) (by have:=HGX.out;omega);have LM:=jj HS0.out.reads;have MI : Hid ((Tryz.prog.info? 59).map (·.size) = some (pgCells sp).length):=jj (by rw [pgCells_length,hlen];kernel_rfl);by_cases h : n = 20
 ·subst h;have hz:=ldR_word sp fs ad 4;have CL:=jj (mload4_any w1 A c sp hlen fs ad hA1);obtain ⟨⟨z,b⟩,hr⟩ : ∃ r,ldR sp fs ad 4 = r:=⟨_,rfl⟩;rw [hr] at CL hz;have HZ : Hid (inU32 z):=jj hz;clear hr hz hA hA1 hlen;go_wp2_with (refine wpList_load_at rfl 59 (.tmp 5) rfl ⟨gx,0,none⟩ rfl (pgCells sp) _ LM.out Tryz.underlying59 rfl MI.out ?_);refine CL.out.mono ?_;rintro e w2 ⟨rfl,hb2⟩;have HV:=jj (HW.out.trans (hb2.mono (by have:=HGX.out;omega)));clear hb2 CL LM MI;go_wp2_with fail;refine bodyPost_ret (v:=.tuple #[.int .u32 z,.bool b]) (by simp [results,Tryz.results78,go_sem]) rfl ?_;exact ⟨⟨_,b,HZ.out,rfl⟩,by rw [HGX.out];exact HV.out⟩
 have h1 : (n == 20) = false:=beq_eq_false_iff_ne.2 h;have hz:=ldR_word sp fs ad 1;have CL:=jj (mload1_any w1 A c sp hlen fs ad hA1);obtain ⟨⟨z,b⟩,hr⟩ : ∃ r,ldR sp fs ad 1 = r:=⟨_,rfl⟩;rw [hr] at CL hz;have HZ : Hid (inU32 z):=jj hz;clear hr hz hA hA1 hlen;go_wp2_with (refine wpList_load_at rfl 59 (.tmp 5) rfl ⟨gx,0,none⟩ rfl (pgCells sp) _ LM.out Tryz.underlying59 rfl MI.out ?_);refine CL.out.mono ?_;rintro e w2 ⟨rfl,hb2⟩;have HV:=jj (HW.out.trans (hb2.mono (by have:=HGX.out;omega)));clear hb2 CL LM MI;by_cases h2 : n = 21
 ·subst h2;go_wp2_with fail;refine bodyPost_ret (v:=.tuple #[.int .u32 (wrap32 (IntKind.i8.wrap z) % 4294967296),.bool b]) (by simp [results,Tryz.results78,go_sem]) rfl ?_;exact ⟨⟨_,b,⟨by omega,by omega⟩,rfl⟩,by rw [HGX.out];exact HV.out⟩
 have h3 : (n == 21) = false:=beq_eq_false_iff_ne.2 h2;go_wp2_with fail;refine bodyPost_ret (v:=.tuple #[.int .u32 z,.bool b]) (by simp [results,Tryz.results78,go_sem]) rfl ?_;exact ⟨⟨_,b,HZ.out,rfl⟩,by rw [HGX.out];exact HV.out⟩
set_option maxRecDepth 100000 in
set_option maxHeartbeats 1000000 in
theorem cstore_any (w : World) (n : Int) (A : Option Addr) (c : Nat) (sp : List Pg) (hlen : sp.length = 16) (fs : List (List UInt8)) (hfs : fs.length ≤ 1099511627776) (ad vn : Nat) (hvn : vn < 4294967296) (hA : Strs w w.heap.size A fs) :
  Calls Tryz.prog 79 #[.int .u8 n,.agg (pgCells sp).toArray,.slice A fs.length c,.int .u32 (ad : Int),.int .u32 (vn : Int)] w (StorePost w fs):=by
 have hs0:=Whole.made w 59 (pgCells sp).toArray;have hb : Below w.heap.size w (w.alloc (.cells (pgCells sp).toArray 59)):=(Below.refl _ _).alloc (Nat.le_refl _) _;go_enter Tryz.func79,Tryz.ntmps79;go_upto_region 1 with (fail);change Code.wp _ _ _ _ (w.alloc (.cells (pgCells sp).toArray 59));generalize (w.alloc (.cells (pgCells sp).toArray 59)) = w1 at *;generalize hgx : w.heap.size = gx at *;have HGX:=jj hgx;have HS0:=jj hs0;have HW:=jj hb;have hgl : gx < w1.heap.size:=hs0.lt;clear hgx hb hs0;have hA1 : Strs w1 w1.heap.size A fs:=Lies.wide (Lies.below hA HW.out) (by have:=HGX.out;omega);have LM:=jj HS0.out.reads;have MI : Hid ((Tryz.prog.info? 59).map (·.size) = some (pgCells sp).length):=jj (by rw [pgCells_length,hlen];kernel_rfl);by_cases h : n = 24
 ·subst h;have CL:=jj (mstore1_any w1 A c sp hlen fs hfs ad vn hvn hA1);clear hA hA1 hlen;go_wp2_with (refine wpList_load_at rfl 59 (.tmp 6) rfl ⟨gx,0,none⟩ rfl (pgCells sp) _ LM.out Tryz.underlying59 rfl MI.out ?_);refine CL.out.mono ?_;rintro e w2 ⟨hp,hb2⟩;have HV:=jj (HW.out.trans (hb2.mono (by have:=HGX.out;omega)));clear hb2 CL LM MI;rcases hp with rfl | ⟨fs',G,c',h0,h1,rfl,h2,h3⟩
  ·go_wp2_with fail;refine bodyPost_ret (v:=.tuple #[.slice none 0 0,.bool false]) (by simp [results,Tryz.results79,go_sem]) rfl ?_;exact ⟨.inl rfl,by rw [HGX.out];exact HV.out⟩
  ·have H1:=jj h1;have H2:=jj h2;have H3:=jj h3;clear h1 h2 h3;go_wp2_with fail;refine bodyPost_ret (v:=.tuple #[.slice G fs'.length c',.bool true]) (by simp [results,Tryz.results79,go_sem]) rfl ?_;exact ⟨.inr ⟨fs',G,c',h0,H1.out,rfl,H2.out,fun ad e => by have:=H3.out ad e;have:=HGX.out;omega⟩,by rw [HGX.out];exact HV.out⟩
 have h1 : (n == 24) = false:=beq_eq_false_iff_ne.2 h;have CL:=jj (mstore4_any w1 A c sp hlen fs hfs ad vn hvn hA1);clear hA hA1 hlen;go_wp2_with (refine wpList_load_at rfl 59 (.tmp 6) rfl ⟨gx,0,none⟩ rfl (pgCells sp) _ LM.out Tryz.underlying59 rfl MI.out ?_);refine CL.out.mono ?_;rintro e w2 ⟨hp,hb2⟩;have HV:=jj (HW.out.trans (hb2.mono (by have:=HGX.out;omega)));clear hb2 CL LM MI;rcases hp with rfl | ⟨fs',G,c',h0,h1,rfl,h2,h3⟩
 ·go_wp2_with fail;refine bodyPost_ret (v:=.tuple #[.slice none 0 0,.bool false]) (by simp [results,Tryz.results79,go_sem]) rfl ?_;exact ⟨.inl rfl,by rw [HGX.out];exact HV.out⟩
 ·have H1:=jj h1;have H2:=jj h2;have H3:=jj h3;clear h1 h2 h3;go_wp2_with fail;refine bodyPost_ret (v:=.tuple #[.slice G fs'.length c',.bool true]) (by simp [results,Tryz.results79,go_sem]) rfl ?_;exact ⟨.inr ⟨fs',G,c',h0,H1.out,rfl,H2.out,fun ad e => by have:=H3.out ad e;have:=HGX.out;omega⟩,by rw [HGX.out];exact HV.out⟩
end Go.Proofs.YtnbphabheikfeaaGreatDoor
