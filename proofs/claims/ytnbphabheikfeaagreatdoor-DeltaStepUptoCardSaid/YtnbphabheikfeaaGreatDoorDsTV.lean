import Derived.Test.YtnbphabheikfeaaGreatDoorCopR
namespace Go.Proofs.YtnbphabheikfeaaGreatDoor
open Go.RowKit
structure Has where
 a : Bool
 b : Bool
 c : Bool
 i : Bool
 ok : Bool
def hasL (h : Has) : List Value:=[.bool h.a,.bool h.b,.bool h.c,.bool h.i]
theorem hasL_one (h : Has) : ∀ v ∈ hasL h,v.oneCell' = true:=by
 intro v hv;simp only [hasL,List.mem_cons,List.not_mem_nil,or_false] at hv;rcases hv with rfl | rfl | rfl | rfl <;> rfl
theorem Tryz.sizeHas : (Tryz.prog.info? 97).map (·.size) = some 4:=by kernel_rfl
def fieldsR (n : Int) : Has :=
 if n < 1 ∨ 31 < n then ⟨false,false,false,false,false⟩ else if n ≤ 13 then ⟨true,true,true,false,true⟩ else if n = 19 ∨ n = 29 then ⟨true,false,false,true,true⟩ else if n = 31 then ⟨false,false,false,true,true⟩ else ⟨true,true,false,true,true⟩
set_option maxRecDepth 100000 in
set_option maxHeartbeats 1000000 in
theorem ifields_any (w : World) (n : Int) :
  Calls Tryz.prog 38 #[.int .u8 n] w fun e w' => e = .returned (.tuple #[.agg (hasL (fieldsR n)).toArray,.bool (fieldsR n).ok]) ∧ Below w.heap.size w w':=by
 have hs0:=Whole.made w 97 #[.bool false,.bool false,.bool false,.bool false];have hb : Below w.heap.size w (w.alloc (.cells #[.bool false,.bool false,.bool false,.bool false] 97)):=(Below.refl _ _).alloc (Nat.le_refl _) _;go_enter Tryz.func38,Tryz.ntmps38;go_upto_region 1 with (fail);change Code.wp _ _ _ _ (w.alloc (.cells #[.bool false,.bool false,.bool false,.bool false] 97));generalize (w.alloc (.cells #[.bool false,.bool false,.bool false,.bool false] 97)) = w1 at *;generalize hgx : w.heap.size = gx at *;have HGX:=jj hgx;have HS0:=jj hs0;have HW:=jj hb;have hgl : gx < w1.heap.size:=hs0.lt;clear hgx hb hs0;by_cases h1 : n < 1
 ·have d1 : decide (n < 1) = true:=decide_eq_true h1;have HD : Hid (fieldsR n = ⟨false,false,false,false,false⟩):=jj (by unfold fieldsR;rw [if_pos (.inl h1)]);clear h1;go_wp2_with (refine wpList_store_all rfl 97 (.tmp 2) (.tmp 11) rfl rfl gx rfl (hasL ⟨false,false,false,false,false⟩) rfl Tryz.sizeHas [.bool false,.bool false,.bool false,.bool false] 97 HS0.out rfl (hasL_one _) ?_;intro wz hw hk);refine bodyPost_ret (v:=.tuple #[.agg (hasL ⟨false,false,false,false,false⟩).toArray,.bool (⟨false,false,false,false,false⟩ : Has).ok]) (results_cell_tmp rfl _ _ gx 97 _ _ (0,0) _ rfl rfl hw.out Tryz.underlying97 rfl Tryz.sizeHas) rfl ?_;exact ⟨by rw [HD.out],by rw [HGX.out];exact HW.out.grown hk.out (by omega) (fun q e => by injection e with e;omega)⟩
 have d1 : decide (n < 1) = false:=decide_eq_false h1;by_cases h2 : 31 < n
 ·have d2 : decide (31 < n) = true:=decide_eq_true h2;have HD : Hid (fieldsR n = ⟨false,false,false,false,false⟩):=jj (by unfold fieldsR;rw [if_pos (.inr h2)]);clear h1 h2;go_wp2_with (refine wpList_store_all rfl 97 (.tmp 2) (.tmp 11) rfl rfl gx rfl (hasL ⟨false,false,false,false,false⟩) rfl Tryz.sizeHas [.bool false,.bool false,.bool false,.bool false] 97 HS0.out rfl (hasL_one _) ?_;intro wz hw hk);refine bodyPost_ret (v:=.tuple #[.agg (hasL ⟨false,false,false,false,false⟩).toArray,.bool (⟨false,false,false,false,false⟩ : Has).ok]) (results_cell_tmp rfl _ _ gx 97 _ _ (0,0) _ rfl rfl hw.out Tryz.underlying97 rfl Tryz.sizeHas) rfl ?_;exact ⟨by rw [HD.out],by rw [HGX.out];exact HW.out.grown hk.out (by omega) (fun q e => by injection e with e;omega)⟩
 have d2 : decide (31 < n) = false:=decide_eq_false h2;have n1 : ¬ (n < 1 ∨ 31 < n):=(by omega);by_cases h3 : n ≤ 13
 ·have d3 : decide (n ≤ 13) = true:=decide_eq_true h3;have HD : Hid (fieldsR n = ⟨true,true,true,false,true⟩):=jj (by unfold fieldsR;rw [if_neg n1,if_pos h3]);clear h1 h2 h3 n1;go_wp2_with (refine wpList_store_all rfl 97 (.tmp 2) (.tmp 15) rfl rfl gx rfl (hasL ⟨true,true,true,false,true⟩) rfl Tryz.sizeHas [.bool false,.bool false,.bool false,.bool false] 97 HS0.out rfl (hasL_one _) ?_;intro wz hw hk);refine bodyPost_ret (v:=.tuple #[.agg (hasL ⟨true,true,true,false,true⟩).toArray,.bool (⟨true,true,true,false,true⟩ : Has).ok]) (results_cell_tmp rfl _ _ gx 97 _ _ (0,0) _ rfl rfl hw.out Tryz.underlying97 rfl Tryz.sizeHas) rfl ?_;exact ⟨by rw [HD.out],by rw [HGX.out];exact HW.out.grown hk.out (by omega) (fun q e => by injection e with e;omega)⟩
 have d3 : decide (n ≤ 13) = false:=decide_eq_false h3;by_cases h4 : n = 19
 ·have d4 : (n == 19) = true:=beq_iff_eq.2 h4;have HD : Hid (fieldsR n = ⟨true,false,false,true,true⟩):=jj (by unfold fieldsR;rw [if_neg n1,if_neg h3,if_pos (.inl h4)]);clear h1 h2 h3 n1 h4;go_wp2_with (refine wpList_store_all rfl 97 (.tmp 2) (.tmp 23) rfl rfl gx rfl (hasL ⟨true,false,false,true,true⟩) rfl Tryz.sizeHas [.bool false,.bool false,.bool false,.bool false] 97 HS0.out rfl (hasL_one _) ?_;intro wz hw hk);refine bodyPost_ret (v:=.tuple #[.agg (hasL ⟨true,false,false,true,true⟩).toArray,.bool (⟨true,false,false,true,true⟩ : Has).ok]) (results_cell_tmp rfl _ _ gx 97 _ _ (0,0) _ rfl rfl hw.out Tryz.underlying97 rfl Tryz.sizeHas) rfl ?_;exact ⟨by rw [HD.out],by rw [HGX.out];exact HW.out.grown hk.out (by omega) (fun q e => by injection e with e;omega)⟩
 have d4 : (n == 19) = false:=beq_eq_false_iff_ne.2 h4;by_cases h5 : n = 29
 ·have d5 : (n == 29) = true:=beq_iff_eq.2 h5;have HD : Hid (fieldsR n = ⟨true,false,false,true,true⟩):=jj (by unfold fieldsR;rw [if_neg n1,if_neg h3,if_pos (.inr h5)]);clear h1 h2 h3 n1 h4 h5;go_wp2_with (refine wpList_store_all rfl 97 (.tmp 2) (.tmp 23) rfl rfl gx rfl (hasL ⟨true,false,false,true,true⟩) rfl Tryz.sizeHas [.bool false,.bool false,.bool false,.bool false] 97 HS0.out rfl (hasL_one _) ?_;intro wz hw hk);refine bodyPost_ret (v:=.tuple #[.agg (hasL ⟨true,false,false,true,true⟩).toArray,.bool (⟨true,false,false,true,true⟩ : Has).ok]) (results_cell_tmp rfl _ _ gx 97 _ _ (0,0) _ rfl rfl hw.out Tryz.underlying97 rfl Tryz.sizeHas) rfl ?_;exact ⟨by rw [HD.out],by rw [HGX.out];exact HW.out.grown hk.out (by omega) (fun q e => by injection e with e;omega)⟩
 have d5 : (n == 29) = false:=beq_eq_false_iff_ne.2 h5;have n2 : ¬ (n = 19 ∨ n = 29):=(by omega);by_cases h6 : n = 31
 ·have d6 : (n == 31) = true:=beq_iff_eq.2 h6;have HD : Hid (fieldsR n = ⟨false,false,false,true,true⟩):=jj (by unfold fieldsR;rw [if_neg n1,if_neg h3,if_neg n2,if_pos h6]);clear h1 h2 h3 n1 h4 h5 h6 n2;go_wp2_with (refine wpList_store_all rfl 97 (.tmp 2) (.tmp 27) rfl rfl gx rfl (hasL ⟨false,false,false,true,true⟩) rfl Tryz.sizeHas [.bool false,.bool false,.bool false,.bool false] 97 HS0.out rfl (hasL_one _) ?_;intro wz hw hk);refine bodyPost_ret (v:=.tuple #[.agg (hasL ⟨false,false,false,true,true⟩).toArray,.bool (⟨false,false,false,true,true⟩ : Has).ok]) (results_cell_tmp rfl _ _ gx 97 _ _ (0,0) _ rfl rfl hw.out Tryz.underlying97 rfl Tryz.sizeHas) rfl ?_;exact ⟨by rw [HD.out],by rw [HGX.out];exact HW.out.grown hk.out (by omega) (fun q e => by injection e with e;omega)⟩
 have d6 : (n == 31) = false:=beq_eq_false_iff_ne.2 h6;have HD : Hid (fieldsR n = ⟨true,true,false,true,true⟩):=jj (by unfold fieldsR;rw [if_neg n1,if_neg h3,if_neg n2,if_neg h6]);clear h1 h2 h3 n1 h4 h5 h6 n2;go_wp2_with (refine wpList_store_all rfl 97 (.tmp 2) (.tmp 28) rfl rfl gx rfl (hasL ⟨true,true,false,true,true⟩) rfl Tryz.sizeHas [.bool false,.bool false,.bool false,.bool false] 97 HS0.out rfl (hasL_one _) ?_;intro wz hw hk);refine bodyPost_ret (v:=.tuple #[.agg (hasL ⟨true,true,false,true,true⟩).toArray,.bool (⟨true,true,false,true,true⟩ : Has).ok]) (results_cell_tmp rfl _ _ gx 97 _ _ (0,0) _ rfl rfl hw.out Tryz.underlying97 rfl Tryz.sizeHas) rfl ?_;exact ⟨by rw [HD.out],by rw [HGX.out];exact HW.out.grown hk.out (by omega) (fun q e => by injection e with e;omega)⟩
set_option maxRecDepth 100000 in
set_option maxHeartbeats 1000000 in
theorem unsigned_any (n : Int) : ∃ b,∀ w : World,Calls Tryz.prog 39 #[.int .u8 n] w fun e w' => e = .returned (.bool b) ∧ w' = w:=by
 obtain ⟨b1,d1⟩ : ∃ b,decide (15 ≤ n) = b:=⟨_,rfl⟩;obtain ⟨b2,d2⟩ : ∃ b,decide (n ≤ 17) = b:=⟨_,rfl⟩;obtain ⟨b3,d3⟩ : ∃ b,(n == 19) = b:=⟨_,rfl⟩;obtain ⟨b4,d4⟩ : ∃ b,(n == 31) = b:=⟨_,rfl⟩;refine ⟨(b1 && b2) || b3 || b4,fun w => ?_⟩;go_enter Tryz.func39,Tryz.ntmps39;cases b1 <;> cases b2 <;> cases b3 <;> cases b4
 all_goals
  go_wp2_with fail;go_ret;exact ⟨rfl,rfl⟩
set_option maxRecDepth 100000 in
set_option maxHeartbeats 1000000 in
theorem fits_any (n k : Int) : ∃ b,∀ w : World,Calls Tryz.prog 76 #[.int .u8 n,.int .i32 k] w fun e w' => e = .returned (.bool b) ∧ w' = w:=by
 obtain ⟨u,hu⟩:=unsigned_any n;obtain ⟨b1,d1⟩ : ∃ b,decide (0 ≤ k) = b:=⟨_,rfl⟩;obtain ⟨b2,d2⟩ : ∃ b,decide (k ≤ 65535) = b:=⟨_,rfl⟩;obtain ⟨b3,d3⟩ : ∃ b,decide (-32768 ≤ k) = b:=⟨_,rfl⟩;obtain ⟨b4,d4⟩ : ∃ b,decide (k ≤ 32767) = b:=⟨_,rfl⟩;refine ⟨if u then b1 && b2 else b3 && b4,fun w => ?_⟩;have CU:=jj (hu w);clear hu;go_enter Tryz.func76,Tryz.ntmps76;go_wp2_with fail;refine CU.out.mono ?_;rintro e w2 ⟨rfl,rfl⟩;cases u <;> cases b1 <;> cases b2 <;> cases b3 <;> cases b4
 all_goals
  go_wp2_with fail;go_ret;exact ⟨rfl,rfl⟩
end Go.Proofs.YtnbphabheikfeaaGreatDoor
namespace Go.Proofs.YtnbphabheikfeaaGreatDoor
open Go.RowKit
structure In where
 op : Int
 a : Int
 b : Int
 c : Int
 i : Int
def inL (x : In) : List Value:=[.int .u8 x.op,.int .u8 x.a,.int .u8 x.b,.int .u8 x.c,.int .i32 x.i]
theorem inL_one (x : In) : ∀ v ∈ inL x,v.oneCell' = true:=by
 intro v hv;simp only [inL,List.mem_cons,List.not_mem_nil,or_false] at hv;rcases hv with rfl | rfl | rfl | rfl | rfl <;> rfl
theorem Tryz.sizeIn : (Tryz.prog.info? 70).map (·.size) = some 5:=by kernel_rfl
theorem Tryz.infoHas : (Tryz.prog.info? 97).map (fun i => (i.zero,i.size)) = some (some (.agg #[.bool false,.bool false,.bool false,.bool false]),4):=by kernel_rfl
def encE (x : In) (h : Has) (fit : Bool) : Int :=
 if h.ok = false then 16 else if decide (15 < x.a) || decide (15 < x.b) || decide (15 < x.c) then 1
 else if (!h.a && x.a != 0) || (!h.b && x.b != 0) || (!h.c && x.c != 0) || (!h.i && x.i != 0) then 1 else if h.i && !fit then 2 else 0
def encW (x : In) : Int:=bits .or .u32 (bits .or .u32 (bits .or .u32 (bits .or .u32 (x.op % 4294967296 * 67108864 % 4294967296) (x.a % 4294967296 * 4194304 % 4294967296)) (x.b % 4294967296 * 262144 % 4294967296)) (x.c % 4294967296 * 16384 % 4294967296)) (bits .and .u32 (x.i % 4294967296) 65535)
def encR (x : In) (h : Has) (fit : Bool) : Int × Int:=if encE x h fit = 0 then (encW x,0) else (0,encE x h fit)
theorem encR_no {x : In} {h : Has} {fit : Bool} {k : Int} (e : encE x h fit = k) (hk : k ≠ 0) : encR x h fit = (0,k):=by
 unfold encR;rw [if_neg (by rw [e];exact hk),e]
theorem encR_ok {x : In} {h : Has} {fit : Bool} (e : encE x h fit = 0) : encR x h fit = (encW x,0):=by
 unfold encR;rw [if_pos e]
theorem fields_ok {n : Int} {h : Has} (e : fieldsR n = h) (ho : h.ok = true) : (1 ≤ n ∧ n ≤ 31) ∧ (h = ⟨true,true,true,false,true⟩ ∨ h = ⟨true,false,false,true,true⟩ ∨ h = ⟨false,false,false,true,true⟩ ∨ h = ⟨true,true,false,true,true⟩):=by
 subst e;unfold fieldsR at ho ⊢;split
 ·rename_i h1;rw [if_pos h1] at ho;cases ho
 ·refine ⟨by omega,?_⟩;split
  ·exact .inl rfl
  ·split
   ·exact .inr (.inl rfl)
   ·split
    ·exact .inr (.inr (.inl rfl))
    ·exact .inr (.inr (.inr rfl))
set_option maxRecDepth 100000 in
set_option maxHeartbeats 1000000 in
theorem enc_any (w : World) (op a b c i : Int) (h : Has) (hh : fieldsR op = h) (fit : Bool) (hfit : ∀ w : World,Calls Tryz.prog 76 #[.int .u8 op,.int .i32 i] w fun e w' => e = .returned (.bool fit) ∧ w' = w) :
  Calls Tryz.prog 40 #[.agg (inL ⟨op,a,b,c,i⟩).toArray] w fun e w' => e = .returned (.tuple #[.int .u32 (encR ⟨op,a,b,c,i⟩ h fit).1,.int .i64 (encR ⟨op,a,b,c,i⟩ h fit).2]) ∧ Below w.heap.size w w':=by
 have CFT:=jj hfit;clear hfit;have hs0:=Whole.made w 70 (inL ⟨op,a,b,c,i⟩).toArray;have hb : Below w.heap.size w (w.alloc (.cells (inL ⟨op,a,b,c,i⟩).toArray 70)):=(Below.refl _ _).alloc (Nat.le_refl _) _;go_enter Tryz.func40,Tryz.ntmps40;go_upto_region 1 with (fail);change Code.wp _ _ _ _ (w.alloc (.cells (inL ⟨op,a,b,c,i⟩).toArray 70));generalize (w.alloc (.cells (inL ⟨op,a,b,c,i⟩).toArray 70)) = w1 at *;generalize hgx : w.heap.size = gx at *;have HGX:=jj hgx;have HS0:=jj hs0;have HW:=jj hb;have hgl : gx < w1.heap.size:=hs0.lt;clear hgx hb hs0;have x0 : w1.cell? ⟨gx,0,none⟩ = some (.int .u8 op):=HS0.out.cell 0;have x1 : w1.cell? ⟨gx,1,none⟩ = some (.int .u8 a):=HS0.out.cell 1;have x2 : w1.cell? ⟨gx,2,none⟩ = some (.int .u8 b):=HS0.out.cell 2;have x3 : w1.cell? ⟨gx,3,none⟩ = some (.int .u8 c):=HS0.out.cell 3;have x4 : w1.cell? ⟨gx,4,none⟩ = some (.int .i32 i):=HS0.out.cell 4;have CF:=jj (ifields_any w1 op);have HHL : Hid (fieldsR op = h):=jj hh;rw [hh] at CF;clear hh;go_wp2_with fail;refine CF.out.mono ?_;rintro e w2 ⟨rfl,hb2⟩;have HB2:=jj hb2;have HS1:=jj (Whole.made w2 97 (hasL h).toArray);have hw3 : Below w2.heap.size w2 (w2.alloc (.cells (hasL h).toArray 97)):=(Below.refl _ _).alloc (Nat.le_refl _) _;have HB:=jj ((HW.out.trans (hb2.mono (Nat.le_of_lt hgl))).trans (hw3.mono (by have:=hb2.size;omega)));have HX : Hid (Whole (w2.alloc (.cells (hasL h).toArray 97)) gx 70 (inL ⟨op,a,b,c,i⟩).toArray):=jj ((HS0.out.below hb2 hgl).below hw3 (by have:=hb2.size;omega));clear hb2 hw3 CF HS0 x0 x1 x2 x3 x4 HB2 HW;obtain ⟨ha,hb,hc,hi,ok⟩:=h;go_upto_region 2 with (refine wpList_fresh rfl rfl 97 4 (.tmp 11) rfl rfl rfl rfl (hasL _) rfl rfl _ Tryz.infoHas rfl (hasL_one _) ?_);change Code.wp _ _ _ _ (w2.alloc (.cells (hasL ⟨ha,hb,hc,hi,ok⟩).toArray 97));generalize w2.heap.size = g at *;generalize w2.alloc (.cells (hasL ⟨ha,hb,hc,hi,ok⟩).toArray 97) = w3 at *;have x0 : w3.cell? ⟨gx,0,none⟩ = some (.int .u8 op):=HX.out.cell 0;have x1 : w3.cell? ⟨gx,1,none⟩ = some (.int .u8 a):=HX.out.cell 1;have x2 : w3.cell? ⟨gx,2,none⟩ = some (.int .u8 b):=HX.out.cell 2;have x3 : w3.cell? ⟨gx,3,none⟩ = some (.int .u8 c):=HX.out.cell 3;have x4 : w3.cell? ⟨gx,4,none⟩ = some (.int .i32 i):=HX.out.cell 4;have y0 : w3.cell? ⟨g,0,none⟩ = some (.bool ha):=HS1.out.cell 0;have y1 : w3.cell? ⟨g,1,none⟩ = some (.bool hb):=HS1.out.cell 1
 have y2 : w3.cell? ⟨g,2,none⟩ = some (.bool hc):=HS1.out.cell 2;have y3 : w3.cell? ⟨g,3,none⟩ = some (.bool hi):=HS1.out.cell 3;clear HX HS1;obtain ⟨a1,ea1⟩ : ∃ z,decide (15 < a) = z:=⟨_,rfl⟩;obtain ⟨b1,eb1⟩ : ∃ z,decide (15 < b) = z:=⟨_,rfl⟩;obtain ⟨c1,ec1⟩ : ∃ z,decide (15 < c) = z:=⟨_,rfl⟩;obtain ⟨a2,ea2⟩ : ∃ z,(a != 0) = z:=⟨_,rfl⟩;obtain ⟨b2,eb2⟩ : ∃ z,(b != 0) = z:=⟨_,rfl⟩;obtain ⟨c2,ec2⟩ : ∃ z,(c != 0) = z:=⟨_,rfl⟩;obtain ⟨i2,ei2⟩ : ∃ z,(i != 0) = z:=⟨_,rfl⟩;have HE : Hid (encE ⟨op,a,b,c,i⟩ ⟨ha,hb,hc,hi,ok⟩ fit = if ok = false then 16 else if a1 || b1 || c1 then 1 else if (!ha && a2) || (!hb && b2) || (!hc && c2) || (!hi && i2) then 1 else if hi && !fit then 2 else 0):=jj (by unfold encE;simp only [ea1,eb1,ec1,ea2,eb2,ec2,ei2]);have HFO:=fields_ok HHL.out;cases ok with
 | false => clear HFO;go_wp2_with fail;refine bodyPost_ret (v:=.tuple #[.int .u32 0,.int .i64 16]) (by simp [results,Tryz.results40,go_sem]) rfl ?_;exact ⟨by rw [encR_no (k:=16) (HE.out.trans (by rfl)) (by decide)],by rw [HGX.out];exact HB.out⟩
 | true =>
 have HFO:=(HFO rfl).2;by_cases h1 : (a1 || b1 || c1) = true
 ·rw [if_neg (by decide),if_pos h1] at HE;clear HFO HHL;cases a1 <;> cases b1 <;> cases c1
  case false.false.false => cases h1
  all_goals
   clear h1;go_wp2_with fail;refine bodyPost_ret (v:=.tuple #[.int .u32 0,.int .i64 1]) (by simp [results,Tryz.results40,go_sem]) rfl ?_;exact ⟨by rw [encR_no (k:=1) (HE.out.trans (by rfl)) (by decide)],by rw [HGX.out];exact HB.out⟩
 rw [if_neg (by decide),if_neg h1] at HE;obtain ⟨⟨rfl,rfl⟩,rfl⟩ : (a1 = false ∧ b1 = false) ∧ c1 = false:=(by simpa using h1);clear h1 HHL;rcases HFO with h | h | h | h
 ·injection h with q1 q2 q3 q4 q5;subst q1 q2 q3 q4;clear q5
  as_aux_lemma =>
  cases i2 with
  | true => go_wp2_with fail;refine bodyPost_ret (v:=.tuple #[.int .u32 0,.int .i64 1]) (by simp [results,Tryz.results40,go_sem]) rfl ?_;exact ⟨by rw [encR_no (k:=1) (HE.out.trans (by rfl)) (by decide)],by rw [HGX.out];exact HB.out⟩
  | false => go_wp2_with fail;refine bodyPost_ret (v:=.tuple #[.int .u32 (encW ⟨op,a,b,c,i⟩),.int .i64 0]) (by simp [results,Tryz.results40,go_sem,encW]) rfl ?_;exact ⟨by rw [encR_ok (HE.out.trans (by rfl))],by rw [HGX.out];exact HB.out⟩
 ·injection h with q1 q2 q3 q4 q5;subst q1 q2 q3 q4;clear q5
  as_aux_lemma =>
  cases b2 with
  | true => go_wp2_with fail;refine bodyPost_ret (v:=.tuple #[.int .u32 0,.int .i64 1]) (by simp [results,Tryz.results40,go_sem]) rfl ?_;exact ⟨by rw [encR_no (k:=1) (HE.out.trans (by rfl)) (by decide)],by rw [HGX.out];exact HB.out⟩
  | false =>
   cases c2 with
   | true => go_wp2_with fail;refine bodyPost_ret (v:=.tuple #[.int .u32 0,.int .i64 1]) (by simp [results,Tryz.results40,go_sem]) rfl ?_;exact ⟨by rw [encR_no (k:=1) (HE.out.trans (by rfl)) (by decide)],by rw [HGX.out];exact HB.out⟩
   | false =>
    cases fit with
    | false => go_wp2_with fail;refine (CFT.out _).mono ?_;rintro e w4 ⟨rfl,rfl⟩;go_wp2_with fail;refine bodyPost_ret (v:=.tuple #[.int .u32 0,.int .i64 2]) (by simp [results,Tryz.results40,go_sem]) rfl ?_;exact ⟨by rw [encR_no (k:=2) (HE.out.trans (by rfl)) (by decide)],by rw [HGX.out];exact HB.out⟩
    | true => go_wp2_with fail;refine (CFT.out _).mono ?_;rintro e w4 ⟨rfl,rfl⟩;go_wp2_with fail;refine bodyPost_ret (v:=.tuple #[.int .u32 (encW ⟨op,a,b,c,i⟩),.int .i64 0]) (by simp [results,Tryz.results40,go_sem,encW]) rfl ?_;exact ⟨by rw [encR_ok (HE.out.trans (by rfl))],by rw [HGX.out];exact HB.out⟩
 ·injection h with q1 q2 q3 q4 q5;subst q1 q2 q3 q4;clear q5
  as_aux_lemma =>
  cases a2 with
  | true => go_wp2_with fail;refine bodyPost_ret (v:=.tuple #[.int .u32 0,.int .i64 1]) (by simp [results,Tryz.results40,go_sem]) rfl ?_;exact ⟨by rw [encR_no (k:=1) (HE.out.trans (by rfl)) (by decide)],by rw [HGX.out];exact HB.out⟩
  | false =>
   cases b2 with
   | true => go_wp2_with fail;refine bodyPost_ret (v:=.tuple #[.int .u32 0,.int .i64 1]) (by simp [results,Tryz.results40,go_sem]) rfl ?_;exact ⟨by rw [encR_no (k:=1) (HE.out.trans (by rfl)) (by decide)],by rw [HGX.out];exact HB.out⟩
   | false =>
    cases c2 with
    | true => go_wp2_with fail;refine bodyPost_ret (v:=.tuple #[.int .u32 0,.int .i64 1]) (by simp [results,Tryz.results40,go_sem]) rfl ?_;exact ⟨by rw [encR_no (k:=1) (HE.out.trans (by rfl)) (by decide)],by rw [HGX.out];exact HB.out⟩
    | false =>
     cases fit with
     | false => go_wp2_with fail;refine (CFT.out _).mono ?_;rintro e w4 ⟨rfl,rfl⟩;go_wp2_with fail;refine bodyPost_ret (v:=.tuple #[.int .u32 0,.int .i64 2]) (by simp [results,Tryz.results40,go_sem]) rfl ?_;exact ⟨by rw [encR_no (k:=2) (HE.out.trans (by rfl)) (by decide)],by rw [HGX.out];exact HB.out⟩
     | true => go_wp2_with fail;refine (CFT.out _).mono ?_;rintro e w4 ⟨rfl,rfl⟩;go_wp2_with fail;refine bodyPost_ret (v:=.tuple #[.int .u32 (encW ⟨op,a,b,c,i⟩),.int .i64 0]) (by simp [results,Tryz.results40,go_sem,encW]) rfl ?_;exact ⟨by rw [encR_ok (HE.out.trans (by rfl))],by rw [HGX.out];exact HB.out⟩
 ·injection h with q1 q2 q3 q4 q5;subst q1 q2 q3 q4;clear q5
  as_aux_lemma =>
  cases c2 with
  | true => go_wp2_with fail;refine bodyPost_ret (v:=.tuple #[.int .u32 0,.int .i64 1]) (by simp [results,Tryz.results40,go_sem]) rfl ?_;exact ⟨by rw [encR_no (k:=1) (HE.out.trans (by rfl)) (by decide)],by rw [HGX.out];exact HB.out⟩
  | false =>
   cases fit with
   | false => go_wp2_with fail;refine (CFT.out _).mono ?_;rintro e w4 ⟨rfl,rfl⟩;go_wp2_with fail;refine bodyPost_ret (v:=.tuple #[.int .u32 0,.int .i64 2]) (by simp [results,Tryz.results40,go_sem]) rfl ?_;exact ⟨by rw [encR_no (k:=2) (HE.out.trans (by rfl)) (by decide)],by rw [HGX.out];exact HB.out⟩
   | true => go_wp2_with fail;refine (CFT.out _).mono ?_;rintro e w4 ⟨rfl,rfl⟩;go_wp2_with fail;refine bodyPost_ret (v:=.tuple #[.int .u32 (encW ⟨op,a,b,c,i⟩),.int .i64 0]) (by simp [results,Tryz.results40,go_sem,encW]) rfl ?_;exact ⟨by rw [encR_ok (HE.out.trans (by rfl))],by rw [HGX.out];exact HB.out⟩
end Go.Proofs.YtnbphabheikfeaaGreatDoor
namespace Go.Proofs.YtnbphabheikfeaaGreatDoor
open Go.RowKit
theorem Tryz.infoIn : (Tryz.prog.info? 70).map (fun i => (i.zero,i.size)) = some (some (.agg #[.int .u8 0,.int .u8 0,.int .u8 0,.int .u8 0,.int .i32 0]),5):=by kernel_rfl
structure InOk (x : In) : Prop where
 op : 1 ≤ x.op ∧ x.op ≤ 31
 a : 0 ≤ x.a ∧ x.a ≤ 15
 b : 0 ≤ x.b ∧ x.b ≤ 15
 c : 0 ≤ x.c ∧ x.c ≤ 15
abbrev noIn : In:=⟨0,0,0,0,0⟩
def decR (z : Int) (x : In) (h : Has) (fit : Bool) : In × Bool:=if h.ok = true ∧ (encR x h fit).2 = 0 ∧ (encR x h fit).1 = z then (x,true) else (noIn,false)
theorem decR_no {z : Int} {x : In} {h : Has} {fit : Bool} (e : ¬ (h.ok = true ∧ (encR x h fit).2 = 0 ∧ (encR x h fit).1 = z)) : decR z x h fit = (noIn,false):=by unfold decR;rw [if_neg e]
theorem decR_ok {z : Int} {x : In} {h : Has} {fit : Bool} (hh : fieldsR x.op = h) (ha : 0 ≤ x.a) (hb : 0 ≤ x.b) (hc : 0 ≤ x.c) (e : (decR z x h fit).2 = true) : InOk (decR z x h fit).1:=by
 unfold decR at e ⊢;split at e
 ·rename_i h1;rw [if_pos h1];have h2:=h1.2.1;unfold encR at h2;split at h2
  ·rename_i h3;unfold encE at h3;rw [if_neg (by rw [h1.1];decide)] at h3;split at h3
   ·cases h3
   ·rename_i h4;simp only [Bool.or_eq_true,decide_eq_true_eq,not_or] at h4;have k1 : x.a ≤ 15:=(by omega);have k2 : x.b ≤ 15:=(by omega);have k3 : x.c ≤ 15:=(by omega);exact ⟨(fields_ok hh h1.1).1,⟨ha,k1⟩,⟨hb,k2⟩,⟨hc,k3⟩⟩
  ·rename_i h3;exact absurd h2 h3
 ·cases e
theorem decR_yes {z : Int} {x : In} {h : Has} {fit : Bool} (e : h.ok = true ∧ (encR x h fit).2 = 0 ∧ (encR x h fit).1 = z) : decR z x h fit = (x,true):=by unfold decR;rw [if_pos e]
structure DecJ (gx b1 g : Nat) (w0 : World) (h : Has) (x : In) (W : World) : Prop where
 b : Below gx w0 W
 s : Whole W gx 70 [.int .u8 0,.int .u8 0,.int .u8 0,.int .u8 0,.int .i32 0].toArray
 x : Whole W b1 70 (inL x).toArray
 h : Whole W g 97 (hasL h).toArray
theorem DecJ.set {gx b1 g : Nat} {w0 W : World} {h : Has} {x y : In} (J : DecJ gx b1 g w0 h x W) (hg : gx ≤ w0.heap.size) (h1 : gx < b1) (h2 : b1 < g) {j : Nat} {v : Value} (e : (inL x).toArray.setIfInBounds j v = (inL y).toArray) : DecJ gx b1 g w0 h y (W.setCell ⟨b1,j,none⟩ v) :=
 ⟨J.b.grown (grown_setK W b1 j v) (Nat.le_trans hg J.b.size) (fun q e => by injection e with e;omega),J.s.far (p:=⟨b1,j,none⟩) (by show gx ≠ b1;omega) v,by rw [← e];exact J.x.set j v,J.h.far (p:=⟨b1,j,none⟩) (by show g ≠ b1;omega) v⟩
theorem DecJ.below {gx b1 g : Nat} {w0 W W' : World} {h : Has} {x : In} (J : DecJ gx b1 g w0 h x W) (hg : gx ≤ w0.heap.size) (hb : Below W.heap.size W W') : DecJ gx b1 g w0 h x W' :=
 ⟨J.b.trans (hb.mono (Nat.le_trans hg J.b.size)),J.s.below hb J.s.lt,J.x.below hb J.x.lt,J.h.below hb J.h.lt⟩
set_option maxRecDepth 100000 in
set_option maxHeartbeats 2000000 in
theorem dec_at (w : World) (z op a b c j i1 k2 i2 : Int) (h : Has) (hh : fieldsR op = h) (u fit : Bool) (hop : z / 67108864 % 256 = op) (ea : bits .and .u32 (z / 4194304) 15 % 256 = a) (eb : bits .and .u32 (z / 262144) 15 % 256 = b) (ec : bits .and .u32 (z / 16384) 15 % 256 = c)
  (ej : bits .and .u32 z 65535 = j) (e1 : IntKind.i32.wrap j = i1) (e2 : IntKind.i16.wrap j = k2) (e3 : IntKind.i32.wrap k2 = i2) (hu : ∀ w : World,Calls Tryz.prog 39 #[.int .u8 op] w fun e w' => e = .returned (.bool u) ∧ w' = w)
  (xx : In) (hxx : xx = ⟨op,a,b,bif h.c then c else 0,bif h.i then (bif u then i1 else i2) else 0⟩) (hfit : ∀ w : World,Calls Tryz.prog 76 #[.int .u8 op,.int .i32 xx.i] w fun e w' => e = .returned (.bool fit) ∧ w' = w) :
  Calls Tryz.prog 16 #[.int .u32 z] w fun e w' => e = .returned (.tuple #[.agg (inL (decR z xx h fit).1).toArray,.bool (decR z xx h fit).2]) ∧ Below w.heap.size w w':=by
 have CFT:=jj hfit;have CU:=jj hu;have HQ:=jj hh;clear hfit hu hh;have hs0:=Whole.made w 70 #[.int .u8 0,.int .u8 0,.int .u8 0,.int .u8 0,.int .i32 0];have hb : Below w.heap.size w (w.alloc (.cells #[.int .u8 0,.int .u8 0,.int .u8 0,.int .u8 0,.int .i32 0] 70)):=(Below.refl _ _).alloc (Nat.le_refl _) _;go_enter Tryz.func16,Tryz.ntmps16;go_upto_region 1 with (fail);change Code.wp _ _ _ _ (w.alloc (.cells #[.int .u8 0,.int .u8 0,.int .u8 0,.int .u8 0,.int .i32 0] 70));generalize (w.alloc (.cells #[.int .u8 0,.int .u8 0,.int .u8 0,.int .u8 0,.int .i32 0] 70)) = w1 at *;generalize hgx : w.heap.size = gx at *;have HGX:=jj hgx;have HS0:=jj hs0;have HW:=jj hb;have hgl : gx < w1.heap.size:=hs0.lt;clear hgx hb hs0;have HT:=jj HS0.out;have hal:=(Below.refl w1.heap.size w1).alloc (Nat.le_refl _) (.cells (inL ⟨op,0,0,0,0⟩).toArray 70);have HX:=jj (Whole.made w1 70 (inL ⟨op,0,0,0,0⟩).toArray);have HS:=jj (HS0.out.below hal hgl);have HB:=jj (HW.out.trans (hal.mono (Nat.le_of_lt hgl)));clear HS0 HT HW hal;go_upto_region 2 with (refine wpList_fresh rfl rfl 70 4 (.tmp 12) rfl rfl rfl rfl (inL ⟨op,0,0,0,0⟩) rfl rfl _ Tryz.infoIn rfl (inL_one _) ?_);change Code.wp _ _ _ _ (w1.alloc (.cells (inL ⟨op,0,0,0,0⟩).toArray 70));have hg1 : w1.heap.size < (w1.alloc (.cells (inL ⟨op,0,0,0,0⟩).toArray 70)).heap.size:=HX.out.lt;generalize w1.alloc (.cells (inL ⟨op,0,0,0,0⟩).toArray 70) = w2 at *;generalize w1.heap.size = b1 at *;have x0 : w2.cell? ⟨b1,0,none⟩ = some (.int .u8 op):=HX.out.cell 0;have CF:=jj (ifields_any w2 op);rw [HQ.out] at CF;go_wp2_with fail;refine CF.out.mono ?_;rintro e w3 ⟨rfl,hb3⟩;clear x0 CF;have hal:=hb3.trans (((Below.refl w3.heap.size w3).alloc (Nat.le_refl _) (.cells (hasL h).toArray 97)).mono hb3.size);have HH:=jj (Whole.made w3 97 (hasL h).toArray);have hg3 : b1 < w3.heap.size:=Nat.lt_of_lt_of_le hg1 hb3.size;replace HX:=jj (HX.out.below hal hg1);replace HS:=jj (HS.out.below hal (by omega));replace HB:=jj (HB.out.trans (hal.mono (by omega)));clear hb3 hal;obtain ⟨ha,hb,hc,hi,ok⟩:=h;go_upto_region 3 with (refine wpList_fresh rfl rfl 97 5 (.tmp 17) rfl rfl rfl rfl (hasL _) rfl rfl _ Tryz.infoHas rfl (hasL_one _) ?_);change Code.wp _ _ _ _ (w3.alloc (.cells (hasL ⟨ha,hb,hc,hi,ok⟩).toArray 97));generalize w3.alloc (.cells (hasL ⟨ha,hb,hc,hi,ok⟩).toArray 97) = w4 at *
 generalize w3.heap.size = g at *;have J : Hid (DecJ gx b1 g w ⟨ha,hb,hc,hi,ok⟩ ⟨op,0,0,0,0⟩ w4):=jj ⟨HB.out,HS.out,HX.out,HH.out⟩;have hgw : gx ≤ w.heap.size:=(by have:=HGX.out;omega);clear HB HS HX HH;have y2 : w4.cell? ⟨g,2,none⟩ = some (.bool hc):=J.out.h.cell 2;cases ok with
 | false => have HD : Hid (decR z xx ⟨ha,hb,hc,hi,false⟩ fit = (noIn,false)):=jj (decR_no (by rintro ⟨h1,-⟩;cases h1));clear y2;go_wp2_with (refine wpList_store_all rfl 70 (.tmp 2) (.tmp 21) rfl rfl gx rfl (inL noIn) rfl Tryz.sizeIn [.int .u8 0,.int .u8 0,.int .u8 0,.int .u8 0,.int .i32 0] 70 J.out.s rfl (inL_one _) ?_;intro wz hw hk);refine bodyPost_ret (v:=.tuple #[.agg (inL noIn).toArray,.bool false]) (results_cell_tmp rfl _ _ gx 70 _ _ (0,0) _ rfl rfl hw.out Tryz.underlying70 rfl Tryz.sizeIn) rfl ?_;exact ⟨by rw [HD.out],by rw [HGX.out];exact J.out.b.grown hk.out (by have:=J.out.b.size;have:=HGX.out;omega) (fun q e => by injection e with e;omega)⟩
 | true =>
 have c1 : w4.cell? ⟨b1,1,none⟩ = some (.int .u8 0):=J.out.x.cell 1;have c2 : w4.cell? ⟨b1,2,none⟩ = some (.int .u8 0):=J.out.x.cell 2;have z1:=J.out.x.free 1;have z2:=J.out.x.free 2;clear y2;go_upto_region 7 with fail
 replace J:=jj ((J.out.set hgw hgl hg3 (j:=1) (v:=.int .u8 a) (y:=⟨op,a,0,0,0⟩) rfl).set hgw hgl hg3 (j:=2) (v:=.int .u8 b) (y:=⟨op,a,b,0,0⟩) rfl);change Code.wp _ _ _ _ ((w4.setCell ⟨b1,1,none⟩ (.int .u8 a)).setCell ⟨b1,2,none⟩ (.int .u8 b));clear z1 z2 c1 c2;generalize (w4.setCell ⟨b1,1,none⟩ (.int .u8 a)).setCell ⟨b1,2,none⟩ (.int .u8 b) = w5 at *;have y2 : w5.cell? ⟨g,2,none⟩ = some (.bool hc):=J.out.h.cell 2;have z3:=J.out.x.free 3;have c3 : w5.cell? ⟨b1,3,none⟩ = some (.int .u8 0):=J.out.x.cell 3;obtain ⟨xc,hxc⟩ : ∃ x,(bif hc then c else 0) = x:=⟨_,rfl⟩;obtain ⟨xi,hxi⟩ : ∃ x,(bif hi then bif u then i1 else i2 else 0) = x:=⟨_,rfl⟩;have HXX : Hid (xx = ⟨op,a,b,xc,xi⟩):=jj (by rw [hxx,hxc,hxi]);clear hxx;obtain ⟨⟨v,k⟩,HR⟩ : ∃ r,Hid (encR xx ⟨ha,hb,hc,hi,true⟩ fit = r):=⟨_,jj rfl⟩
 have CE : Hid (∀ W : World,Calls Tryz.prog 40 #[.agg (inL xx).toArray] W fun e w' => e = .returned (.tuple #[.int .u32 v,.int .i64 k]) ∧ Below W.heap.size W w'):=jj fun W => by
  have h:=CFT.out;have h2:=HR.out;rw [HXX.out] at h h2 ⊢;have h3:=enc_any W op a b xc xi _ HQ.out fit h;rw [h2] at h3;exact h3
 clear CFT HQ;cases hc;replace hxc : 0 = xc:=hxc;go_upto_region 9 with fail
 replace J : Hid (DecJ gx b1 g w _ ⟨op,a,b,xc,0⟩ w5):=jj (by rw [← hxc];exact J.out);clear y2 z3 c3 hxc;generalize w5 = w6 at *
 rotate_left 1
 replace hxc : c = xc:=hxc;go_upto_region 9 with fail
 replace J : Hid (DecJ gx b1 g w _ ⟨op,a,b,xc,0⟩ (w5.setCell ⟨b1,3,none⟩ (.int .u8 c))):=jj (by rw [← hxc];exact J.out.set hgw hgl hg3 (j:=3) (v:=.int .u8 c) (y:=⟨op,a,b,c,0⟩) rfl);change Code.wp _ _ _ _ (w5.setCell ⟨b1,3,none⟩ (.int .u8 c));clear y2 z3 c3 hxc;generalize w5.setCell ⟨b1,3,none⟩ (.int .u8 c) = w6 at *
 all_goals
  have y3 : w6.cell? ⟨g,3,none⟩ = some (.bool hi):=J.out.h.cell 3;have y0 : w6.cell? ⟨b1,0,none⟩ = some (.int .u8 op):=J.out.x.cell 0;have k1 : w6.cell? ⟨b1,1,none⟩ = some (.int .u8 a):=J.out.x.cell 1;have k2 : w6.cell? ⟨b1,2,none⟩ = some (.int .u8 b):=J.out.x.cell 2;have k3 : w6.cell? ⟨b1,3,none⟩ = some (.int .u8 xc):=J.out.x.cell 3;have c4 : w6.cell? ⟨b1,4,none⟩ = some (.int .i32 0):=J.out.x.cell 4;have z4:=J.out.x.free 4;cases hi;obtain rfl : 0 = xi:=hxi;have J7 : Hid (DecJ gx b1 g w _ xx w6):=jj (by rw [HXX.out];exact J.out)
  rotate_left 1
  go_wp2_with fail;refine (CU.out _).mono ?_;rintro e w8 ⟨rfl,rfl⟩;cases u;obtain rfl : i2 = xi:=hxi;have J7 : Hid (DecJ gx b1 g w _ xx ((w6.setCell ⟨b1,4,none⟩ (.int .i32 i1)).setCell ⟨b1,4,none⟩ (.int .i32 i2))):=jj (by rw [HXX.out];exact (J.out.set hgw hgl hg3 (j:=4) (v:=.int .i32 i1) (y:=⟨op,a,b,_,i1⟩) rfl).set hgw hgl hg3 (j:=4) (v:=.int .i32 i2) (y:=⟨op,a,b,_,i2⟩) rfl)
  rotate_left 1
  obtain rfl : i1 = xi:=hxi;have J7 : Hid (DecJ gx b1 g w _ xx (w6.setCell ⟨b1,4,none⟩ (.int .i32 i1))):=jj (by rw [HXX.out];exact J.out.set hgw hgl hg3 (j:=4) (v:=.int .i32 i1) (y:=⟨op,a,b,_,i1⟩) rfl)
 all_goals
  clear J;rw [HXX.out] at CE;go_wp2_with fail;refine (CE.out _).mono ?_;rintro e w9 ⟨rfl,hb9⟩;have J:=jj (J7.out.below hgw hb9);clear J7 hb9 CE y0 k1 k2 k3 c4 z4 y3;have hJx:=J.out.x;rw [HXX.out] at hJx;have y0 : w9.cell? ⟨b1,0,none⟩ = some (.int .u8 op):=hJx.cell 0;have k1 : w9.cell? ⟨b1,1,none⟩ = some (.int .u8 a):=hJx.cell 1;have k2 : w9.cell? ⟨b1,2,none⟩ = some (.int .u8 b):=hJx.cell 2;have k3 : w9.cell? ⟨b1,3,none⟩ = some (.int .u8 xc):=hJx.cell 3;have c4 : w9.cell? ⟨b1,4,none⟩ = some (.int .i32 _):=hJx.cell 4;clear hJx;by_cases hk : k = 0
  ·have d1 : (k != 0) = false:=(by rw [hk];rfl);by_cases hv : v = z
   ·have d2 : (v != z) = false:=(by rw [hv];simp);have HD:=jj (decR_yes (z:=z) (h:=⟨ha,hb,_,_,true⟩) ⟨rfl,by rw [HR.out];exact hk,by rw [HR.out];exact hv⟩);clear hk hv;rw [HXX.out] at HD;go_wp2_with (refine wpList_store_all rfl 70 (.tmp 2) (.tmp 67) rfl rfl gx rfl (inL ⟨op,a,b,xc,_⟩) rfl Tryz.sizeIn [.int .u8 0,.int .u8 0,.int .u8 0,.int .u8 0,.int .i32 0] 70 J.out.s rfl (inL_one _) ?_;intro wz hw hk);refine bodyPost_ret (v:=.tuple #[.agg (inL ⟨op,a,b,xc,_⟩).toArray,.bool true]) (results_cell_tmp rfl _ _ gx 70 _ _ (0,0) _ rfl rfl hw.out Tryz.underlying70 rfl Tryz.sizeIn) rfl ?_;exact ⟨by rw [HXX.out,HD.out],by rw [HGX.out];exact J.out.b.grown hk.out (by have:=J.out.b.size;have:=HGX.out;omega) (fun q e => by injection e with e;omega)⟩
   ·have d2 : (v != z) = true:=(by simpa using hv);have HD:=jj (decR_no (z:=z) (h:=⟨ha,hb,_,_,true⟩) (by rw [HR.out];exact fun h => hv h.2.2));clear hk hv;go_wp2_with (refine wpList_store_all rfl 70 (.tmp 2) (.tmp 66) rfl rfl gx rfl (inL noIn) rfl Tryz.sizeIn [.int .u8 0,.int .u8 0,.int .u8 0,.int .u8 0,.int .i32 0] 70 J.out.s rfl (inL_one _) ?_;intro wz hw hk);refine bodyPost_ret (v:=.tuple #[.agg (inL noIn).toArray,.bool false]) (results_cell_tmp rfl _ _ gx 70 _ _ (0,0) _ rfl rfl hw.out Tryz.underlying70 rfl Tryz.sizeIn) rfl ?_;exact ⟨by rw [HD.out],by rw [HGX.out];exact J.out.b.grown hk.out (by have:=J.out.b.size;have:=HGX.out;omega) (fun q e => by injection e with e;omega)⟩
  ·have d1 : (k != 0) = true:=(by simpa using hk);have HD:=jj (decR_no (z:=z) (h:=⟨ha,hb,_,_,true⟩) (by rw [HR.out];exact fun h => hk h.2.1));clear hk;go_wp2_with (refine wpList_store_all rfl 70 (.tmp 2) (.tmp 66) rfl rfl gx rfl (inL noIn) rfl Tryz.sizeIn [.int .u8 0,.int .u8 0,.int .u8 0,.int .u8 0,.int .i32 0] 70 J.out.s rfl (inL_one _) ?_;intro wz hw hk);refine bodyPost_ret (v:=.tuple #[.agg (inL noIn).toArray,.bool false]) (results_cell_tmp rfl _ _ gx 70 _ _ (0,0) _ rfl rfl hw.out Tryz.underlying70 rfl Tryz.sizeIn) rfl ?_;exact ⟨by rw [HD.out],by rw [HGX.out];exact J.out.b.grown hk.out (by have:=J.out.b.size;have:=HGX.out;omega) (fun q e => by injection e with e;omega)⟩
theorem dec_ex (z : Int) : ∃ r : In × Bool,(r.2 = true → InOk r.1) ∧ ∀ w : World,Calls Tryz.prog 16 #[.int .u32 z] w fun e w' => e = .returned (.tuple #[.agg (inL r.1).toArray,.bool r.2]) ∧ Below w.heap.size w w':=by
 obtain ⟨u,hu⟩:=unsigned_any (z / 67108864 % 256)
 obtain ⟨xx,hxx⟩ : ∃ xx,xx = (⟨z / 67108864 % 256,bits .and .u32 (z / 4194304) 15 % 256,bits .and .u32 (z / 262144) 15 % 256,bif (fieldsR (z / 67108864 % 256)).c then bits .and .u32 (z / 16384) 15 % 256 else 0,
  bif (fieldsR (z / 67108864 % 256)).i then (bif u then IntKind.i32.wrap (bits .and .u32 z 65535) else IntKind.i32.wrap (IntKind.i16.wrap (bits .and .u32 z 65535))) else 0⟩ : In):=⟨_,rfl⟩
 obtain ⟨fit,hfit⟩:=fits_any (z / 67108864 % 256) xx.i;refine ⟨_,decR_ok (z:=z) (x:=xx) (fit:=fit) rfl ?_ ?_ ?_,fun w => ?_⟩
 ·rw [hxx];exact Int.emod_nonneg _ (by decide)
 ·rw [hxx];exact Int.emod_nonneg _ (by decide)
 ·rw [hxx];show 0 ≤ (bif (fieldsR (z / 67108864 % 256)).c then bits .and .u32 (z / 16384) 15 % 256 else 0);cases (fieldsR (z / 67108864 % 256)).c
  ·exact Int.le_refl _
  ·exact Int.emod_nonneg _ (by decide)
 ·have e : fieldsR xx.op = fieldsR (z / 67108864 % 256):=(by rw [hxx]);rw [e];exact dec_at w z _ _ _ _ _ _ _ _ _ rfl u fit rfl rfl rfl rfl rfl rfl rfl rfl hu xx hxx hfit
noncomputable def decOf (z : Int) : In × Bool:=Classical.choose (dec_ex z)
theorem decOf_ok {z : Int} (h : (decOf z).2 = true) : InOk (decOf z).1:=(Classical.choose_spec (dec_ex z)).1 h
theorem idecw_any (w : World) (z : Int) : Calls Tryz.prog 16 #[.int .u32 z] w fun e w' => e = .returned (.tuple #[.agg (inL (decOf z).1).toArray,.bool (decOf z).2]) ∧ Below w.heap.size w w':=(Classical.choose_spec (dec_ex z)).2 w
end Go.Proofs.YtnbphabheikfeaaGreatDoor
