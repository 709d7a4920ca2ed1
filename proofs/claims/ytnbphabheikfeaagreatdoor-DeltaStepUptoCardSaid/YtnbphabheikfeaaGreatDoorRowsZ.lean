import Derived.Test.YtnbphabheikfeaaGreatDoorRowS
import Derived.Test.YtnbphabheikfeaaGreatDoorHashZ
import Derived.Deep.RegionHeld3
namespace Go.Proofs.YtnbphabheikfeaaGreatDoor
open Go.RowKit
theorem row_four (w : World) (a b c d : List UInt8) (hs : sizeOf [a,b,c,d] ≤ 34359738368) :
  Calls Tryz.prog 55 #[.slice (some ⟨w.heap.size,0,none⟩) 4 4] (w.alloc (.cells #[S a,S b,S c,S d] 9)) fun e w' => e = .returned (S (rowB [a,b,c,d])) ∧ Below w.heap.size w w' :=
 (row_any (w.alloc (.cells #[S a,S b,S c,S d] 9)) (some ⟨w.heap.size,0,none⟩) 4 [a,b,c,d] (lies_made w 9 [S a,S b,S c,S d] _ (by simp)) hs).mono fun _ _ h => ⟨h.1,((Below.refl _ _).alloc (Nat.le_refl _) _).trans (h.2.mono (by simp))⟩
def imgB (fs bs : List (List UInt8)) (r : List UInt8) : List UInt8:=rowB [[104,105,98,105],rowB fs,rowB bs,r]
theorem imgB_size (fs bs : List (List UInt8)) (r : List UInt8) (h : sizeOf fs + sizeOf bs + r.length ≤ 4294967296) : sizeOf [[104,105,98,105],rowB fs,rowB bs,r] ≤ 34359738368:=by
 have h1:=rowB_le fs (by omega);have h2:=rowB_le bs (by omega);simp only [sizeOf,List.map_cons,List.map_nil,List.sum_cons,List.sum_nil,List.length_cons,List.length_nil];unfold sizeOf at h1 h2 h;omega
set_option maxRecDepth 100000 in
set_option maxHeartbeats 2000000 in
theorem imgBytes_any (w : World) (A A' : Option Addr) (c c' : Nat) (fs bs : List (List UInt8)) (r : List UInt8) (hA : Strs w w.heap.size A fs) (hA' : Strs w w.heap.size A' bs) (hs : sizeOf fs + sizeOf bs + r.length ≤ 4294967296) :
  Calls Tryz.prog 48 #[.agg #[.slice A fs.length c,.slice A' bs.length c',S r]] w fun e w' => e = .returned (S (imgB fs bs r)) ∧ Below w.heap.size w w':=by
 have HA:=jj hA;have HA':=jj hA';clear hA hA';have HS:=jj (imgB_size fs bs r hs);go_enter Tryz.func48,Tryz.ntmps48;go_wp2_with fail;have hx:=Whole.made w 44 #[.slice A fs.length c,.slice A' bs.length c',S r];have hb:=(Below.refl w.heap.size w).alloc (Nat.le_refl _) (.cells #[.slice A fs.length c,.slice A' bs.length c',S r] 44);have hz : (w.alloc (.cells #[.slice A fs.length c,.slice A' bs.length c',S r] 44)).heap.size = w.heap.size + 1:=(by simp);have c0:=hx.cell 0;have c1:=hx.cell 1;have c2:=hx.cell 2;simp only [List.getElem?_toArray,List.getElem?_cons_zero,List.getElem?_cons_succ] at c0 c1 c2;have HB:=jj hb;have HZ:=jj hz;have C0:=jj c0;have C1:=jj c1;have C2:=jj c2;clear hx hb hz;generalize w.alloc (.cells #[.slice A fs.length c,.slice A' bs.length c',S r] 44) = w1 at *;have hlt : w.heap.size < w1.heap.size:=(by have:=HZ.out;omega);generalize hgx : w.heap.size = gx at *;have HGX:=jj hgx;clear hgx;have rowF : ∀ W : World,Below (gx + 1) w1 W → Calls Tryz.prog 55 #[.slice A fs.length c] W fun e w' => e = .returned (S (rowB fs)) ∧ Below W.heap.size W w':=fun W hW => row_any W A c fs (((HA.out.below HB.out).below (hW.mono (by omega))).wide (by have:=hW.size;omega)) (by omega);have rowG : ∀ W : World,Below (gx + 1) w1 W → Calls Tryz.prog 55 #[.slice A' bs.length c'] W fun e w' => e = .returned (S (rowB bs)) ∧ Below W.heap.size W w':=fun W hW => row_any W A' c' bs (((HA'.out.below HB.out).below (hW.mono (by omega))).wide (by have:=hW.size;omega)) (by omega);have RF:=jj rowF;have RG:=jj rowG;clear rowF rowG
 go_region_held3 (fun w' => w'.cell? ⟨gx,0,none⟩ = some (.slice A fs.length c) ∧ w'.cell? ⟨gx,1,none⟩ = some (.slice A' bs.length c') ∧ w'.cell? ⟨gx,2,none⟩ = some (S r))
  (first
   | go_keep
   | (exact ⟨(BB.cell (p:=⟨gx,0,none⟩) (Nat.lt_succ_self _)).trans C0.out,(BB.cell (p:=⟨gx,1,none⟩) (Nat.lt_succ_self _)).trans C1.out,(BB.cell (p:=⟨gx,2,none⟩) (Nat.lt_succ_self _)).trans C2.out⟩))
  (first
   | (go_at_call_of 55 (Value.slice A fs.length c);refine (RF.out _ ?_).mono ?_;(exact (Below.refl _ _).drew);rintro e w2 ⟨rfl,hbl⟩;have B2 : Below (gx + 1) w1 w2:=((Below.refl _ _).drew).trans (hbl.mono hlt);have BB:=B2;have hlt2 : gx < w2.heap.size:=Nat.lt_of_lt_of_le hlt hbl.size)
   | (go_at_call_of 55 (Value.slice A' bs.length c');refine (RG.out _ ?_).mono ?_;(exact B2);rintro e w3 ⟨rfl,hbl⟩;have B3 : Below (gx + 1) w1 w3:=B2.trans (hbl.mono hlt2);have BB:=B3;have hlt3 : gx < w3.heap.size:=Nat.lt_of_lt_of_le hlt2 hbl.size)
   | (go_at_call 55;refine (row_four w3 [104,105,98,105] (rowB fs) (rowB bs) r HS.out).mono ?_;rintro e w4 ⟨rfl,hbl⟩;have B4 : Below (gx + 1) w1 w4:=B3.trans (hbl.mono hlt3);have BB:=B4))
 go_wp2
 go_ret;refine ⟨rfl,?_⟩;rw [HGX.out];exact HB.out.trans (B4.mono (by omega))
theorem lies_one {w w' : World} {B : Nat} {A : Option Addr} {xs : List Value} (h : Lies w B A xs) (hb : Below B w w') (hB : B ≤ w'.heap.size) : Lies w' w'.heap.size A xs:=(h.below hb).wide hB
set_option maxRecDepth 100000 in
set_option maxHeartbeats 2000000 in
theorem imgSum_any (w : World) (A A' : Option Addr) (c c' : Nat) (fs bs : List (List UInt8)) (r : List UInt8) (hT : Tabs w) (hA : Strs w w.heap.size A fs) (hA' : Strs w w.heap.size A' bs) (hs : sizeOf fs + sizeOf bs + r.length ≤ 4294967296) :
  Calls Tryz.prog 20 #[.agg #[.slice A fs.length c,.slice A' bs.length c',S r]] w fun e w' => e = .returned (D32 (dig (imgB fs bs r))) ∧ Below w.heap.size w w':=by
 have HA:=jj hA;have HA':=jj hA';have HT:=jj hT;clear hA hA' hT;go_enter Tryz.func20,Tryz.ntmps20;go_wp2_with fail;have hz:=Whole.made (w.alloc (.cells #[.slice A fs.length c,.slice A' bs.length c',S r] 44)) 39 ((List.replicate 32 (0 : UInt8)).map B8).toArray;have hb : Below w.heap.size w ((w.alloc (.cells #[.slice A fs.length c,.slice A' bs.length c',S r] 44)).alloc (.cells ((List.replicate 32 (0 : UInt8)).map B8).toArray 39)):=((Below.refl _ _).alloc (Nat.le_refl _) _).alloc (by simp) _;rw [show (w.alloc (.cells #[.slice A fs.length c,.slice A' bs.length c',S r] 44)).heap.size = w.heap.size + 1 by simp] at hz;have HZ:=jj hz;have HB:=jj hb;clear hz hb;change Calls _ _ _ ((w.alloc (.cells #[.slice A fs.length c,.slice A' bs.length c',S r] 44)).alloc (.cells ((List.replicate 32 (0 : UInt8)).map B8).toArray 39)) _;generalize (w.alloc (.cells #[.slice A fs.length c,.slice A' bs.length c',S r] 44)).alloc (.cells ((List.replicate 32 (0 : UInt8)).map B8).toArray 39) = w1 at *;have hl1:=HZ.out.lt;refine (imgBytes_any w1 A A' c c' fs bs r (lies_one HA.out HB.out HB.out.size) (lies_one HA'.out HB.out HB.out.size) hs).mono ?_;rintro e w2 ⟨rfl,hb2⟩;have HZ2:=jj (HZ.out.below hb2 hl1);have HB2 : Hid (Below w.heap.size w w2):=jj (HB.out.trans (hb2.mono HB.out.size));have hl2:=HZ2.out.lt;clear hb2 HZ HB;have hlen : (imgB fs bs r).length ≤ 68719476736:=(by unfold imgB;have:=rowB_le _ (imgB_size fs bs r hs);have:=imgB_size fs bs r hs;omega);obtain ⟨X,HX⟩ : ∃ z,Hid (imgB fs bs r = z):=⟨_,jj rfl⟩;rw [HX.out] at hlen;rw [HX.out];go_wp2_with fail;refine (sum_any (w2.alloc (.cells #[S X] 9)) (some ⟨w2.heap.size,0,none⟩) 1 [X] (HT.out.below (Nat.le_refl _) (HB2.out.alloc HB2.out.size _)) (lies_made w2 9 [S X] _ (by simp)) (by simp) (by simp;omega)).mono ?_;rintro e w3 ⟨rfl,hb3⟩;have HB3 : Hid (Below w.heap.size w w3):=jj ((HB2.out.alloc HB2.out.size _).trans (hb3.mono (by have:=HB2.out.size;simp;omega)));have HZ3:=jj ((HZ2.out.block _).below hb3 (by simp;omega));clear hb3 HB2 HZ2;have HDD : Hid (dig [X].flatten = dig X):=jj (by simp);have HDL : Hid ((dig X).length = 32):=jj (dig_length X);rw [HDD.out];obtain ⟨D,HDn⟩ : ∃ z,Hid (dig X = z):=⟨_,jj rfl⟩;rw [HDn.out] at HDL;rw [HDn.out];have HDi : Hid ((Tryz.prog.info? 39).map (·.size) = some (D.map B8).toArray.size):=jj (by rw [List.size_toArray,List.length_map,HDL.out];kernel_rfl)
 have HDl : Hid ((Tryz.prog.info? 39).map (·.size) = some (D.map B8).length):=jj (by rw [List.length_map,HDL.out];kernel_rfl);have HC1 : Hid (0 + (D.map B8).length ≤ ((List.replicate 32 (0 : UInt8)).map B8).length):=jj (by rw [List.length_map,List.length_map,HDL.out];decide);go_wp2_with (refine wpList_store_at rfl 39 (.tmp 2) (.tmp 6) rfl rfl (w.heap.size + 1) 0 rfl (D.map B8) rfl HDl.out ((List.replicate 32 (0 : UInt8)).map B8) 39 HZ3.out HC1.out (B8_one _) ?_;intro w6 H6 F6)
 have h6 : Whole w6 (w.heap.size + 1) 39 (D.map B8).toArray:=by
  have:=H6.out;rw [List.length_map,HDL.out] at this
  simpa using this
 exact bodyPost_ret (v:=.agg (D.map B8).toArray) (results_cell_row rfl _ _ (w.heap.size + 1) 39 _ (0,0) _ rfl h6 Tryz.underlying39 rfl HDi.out) rfl ⟨by rw [HX.out,HDn.out],below_grown HB3.out F6.out HB3.out.size (by omega)⟩
end Go.Proofs.YtnbphabheikfeaaGreatDoor
namespace Go.Proofs.YtnbphabheikfeaaGreatDoor
open Go.RowKit
def wCells (ws : List (Int × List UInt8)) : List Value:=ws.flatMap fun p => [Value.int .i64 p.1,S p.2]
theorem wCells_append (a b : List (Int × List UInt8)) : wCells (a ++ b) = wCells a ++ wCells b:=by simp [wCells]
def othersTo (a b : List (List UInt8)) (k : Nat) : List (Int × List UInt8):=(List.range k).filterMap fun i => if i < a.length ∧ a.getD i [] = b.getD i [] then none else some ((i : Int),b.getD i [])
theorem othersTo_same {a b : List (List UInt8)} {k : Nat} (h : k < a.length) (e : a.getD k [] = b.getD k []) : othersTo a b (k + 1) = othersTo a b k:=by
 unfold othersTo;rw [List.range_succ,List.filterMap_append];simp only [List.filterMap_cons,List.filterMap_nil,if_pos (And.intro h e),List.append_nil]
theorem othersTo_new {a b : List (List UInt8)} {k : Nat} (h : ¬ (k < a.length ∧ a.getD k [] = b.getD k [])) : othersTo a b (k + 1) = othersTo a b k ++ [((k : Int),b.getD k [])]:=by
 unfold othersTo;rw [List.range_succ,List.filterMap_append];simp only [List.filterMap_cons,List.filterMap_nil,if_neg h]
theorem othersTo_le (a b : List (List UInt8)) (k : Nat) : (othersTo a b k).length ≤ k:=by
 unfold othersTo;exact Nat.le_trans (List.length_filterMap_le _ _) (by simp)
theorem Tryz.infoWrite : (Tryz.prog.info? 49).map (fun i => (i.zero,i.size,i.bytes)) = some (some (.agg #[.int .i64 0,.string ⟨#[]⟩]),2,24):=by kernel_rfl
set_option maxRecDepth 100000 in
set_option maxHeartbeats 1000000 in
theorem others_any (w : World) (A A' : Option Addr) (c c' : Nat) (a b : List (List UInt8)) (hA : Strs w w.heap.size A a) (hA' : Strs w w.heap.size A' b) (ha : a.length ≤ 1099511627776) (hb : b.length ≤ 1099511627776) :
  Calls Tryz.prog 21 #[.slice A a.length c,.slice A' b.length c'] w fun e w' => (∃ v,e = .returned v ∧ w'.ownsRow w.heap.size 49 2 v (othersTo a b b.length).length (wCells (othersTo a b b.length))) ∧ Below w.heap.size w w':=by
 obtain ⟨i0,hi0,hz0,hz1,hz2⟩:=info_parts Tryz.infoWrite;have HA:=jj hA;have HA':=jj hA';clear hA hA';go_enter Tryz.func21,Tryz.ntmps21
 go_wp2
 go_loopw [5,10] (fun v i wr => ∃ k : Nat,k ≤ b.length ∧ i = .int .i64 k ∧ Hid (wr.ownsRow w.heap.size 49 2 v (othersTo a b k).length (wCells (othersTo a b k))) ∧ Hid (Below w.heap.size w wr)) (fun _ i _ => b.length - (intOf i).toNat)
 case atStart => exact ⟨0,by omega,rfl,jj (World.ownsRow_nil _ _ _ _),jj (Below.refl _ _)⟩
 case round =>
  obtain ⟨k,hk,rfl,HO,HB⟩:=hrel;by_cases hlt : k < b.length
  ·obtain ⟨ad,rfl,had,hc⟩:=HA'.out.at' hlt;have hcr : wr.cell? (ad.add k) = some (S (b.getD k [])):=(HB.out.cell (by unfold Addr.add;split <;> exact had)).trans hc;clear hc;by_cases hka : k < a.length
   ·obtain ⟨ad2,rfl,had2,hc2⟩:=HA.out.at' hka;have hcr2 : wr.cell? (ad2.add k) = some (S (a.getD k [])):=(HB.out.cell (by unfold Addr.add;split <;> exact had2)).trans hc2;clear hc2;have hd : decide (a.length ≤ k) = false:=(by simp;omega);by_cases hxy : a.getD k [] = b.getD k []
    ·have HE:=jj (othersTo_same hka hxy);have hbe : (a.getD k [] == b.getD k []) = true:=beq_iff_eq.2 hxy;clear hxy;generalize a.getD k [] = x at *;generalize b.getD k [] = y at *
     go_wp2
     go_roundw
     case rel =>
      have R : ∃ k' : Nat,k' ≤ b.length ∧ Value.int .i64 ((k : Int) + 1) = .int .i64 k' ∧ Hid (wr.ownsRow w.heap.size 49 2 u5 (othersTo a b k').length (wCells (othersTo a b k'))) ∧ Hid (Below w.heap.size w wr):=⟨k + 1,by omega,by go_num,by rw [HE.out];exact HO,HB⟩
      first | exact R | ((repeat apply Exists.intro);exact ⟨R,rfl⟩)
     case measure => simp [intOf];omega
    ·have HE:=jj (othersTo_new (a:=a) (b:=b) (k:=k) (fun h => hxy h.2));have hbe : (a.getD k [] == b.getD k []) = false:=beq_eq_false_iff_ne.2 hxy;clear hxy;generalize a.getD k [] = x at *;generalize b.getD k [] = y at *
     have hnews : ∀ j u,[Value.int .i64 (k : Int),S y][j]? = some u → (wr.alloc (.cells #[.int .i64 (k : Int),S y] 49)).cell? ((⟨wr.heap.size,0,none⟩ : Addr).add j) = some u:=fun j u hu => by
      obtain ⟨ad',e',_,hc'⟩:=lies_made wr 49 [Value.int .i64 (k : Int),S y] (wr.heap.size + 1) (by omega) j u hu;injection e' with e';subst e';exact hc'
     have HN:=jj hnews;have H1 : Hid (∀ u ∈ [Value.int .i64 (k : Int),S y],u.oneCell' = true):=jj (by simp [Value.oneCell']);have hle:=othersTo_le a b k;have H63 : Hid ((othersTo a b k).length + 1 ≤ maxLen):=jj (by unfold maxLen;omega);have HBY : Hid (((othersTo a b k).length + 1) * 24 ≤ 140737488355328):=jj (by omega);have HBA : Hid (w.heap.size ≤ (wr.alloc (.cells #[.int .i64 (k : Int),S y] 49)).heap.size):=jj (by have:=HB.out.size;simp;omega);have HOA:=jj (HO.out.alloc (.cells #[.int .i64 (k : Int),S y] 49));clear hnews hle;go_wp2_with (at_builtin;refine wpList_append_own _ rfl (.tmp 27) (.tmp 31) 26 rfl w.heap.size 49 i0 _ 2 24 Tryz.underlying26 hi0 hz0 hz1 hz2 rfl (by decide) _ _ _ rfl HOA.out ⟨wr.heap.size,0,none⟩ 1 1 [.int .i64 (k : Int),S y] rfl rfl HN.out H1.out H63.out HBY.out HBA.out ?_;intro v' w1 hown' hgrow _);have HO1 : Hid (w1.ownsRow w.heap.size 49 2 v' (othersTo a b (k + 1)).length (wCells (othersTo a b (k + 1)))):=jj (by rw [HE.out,List.length_append,wCells_append];exact hown');have HB1 : Hid (Below w.heap.size w w1):=jj ((HB.out.alloc HB.out.size _).grown hgrow HBA.out (own_ge HO.out));clear hown' hgrow
     go_wp2
     go_roundw
     case rel =>
      have R : ∃ k' : Nat,k' ≤ b.length ∧ Value.int .i64 ((k : Int) + 1) = .int .i64 k' ∧ Hid (w1.ownsRow w.heap.size 49 2 v' (othersTo a b k').length (wCells (othersTo a b k'))) ∧ Hid (Below w.heap.size w w1):=⟨k + 1,by omega,by go_num,HO1,HB1⟩
      first | exact R | ((repeat apply Exists.intro);exact ⟨R,rfl⟩)
     case measure => simp [intOf];omega
   ·have hd : decide (a.length ≤ k) = true:=(by simp;omega);have HE:=jj (othersTo_new (a:=a) (b:=b) (k:=k) (fun h => hka h.1));generalize b.getD k [] = y at *
    have hnews : ∀ j u,[Value.int .i64 (k : Int),S y][j]? = some u → (wr.alloc (.cells #[.int .i64 (k : Int),S y] 49)).cell? ((⟨wr.heap.size,0,none⟩ : Addr).add j) = some u:=fun j u hu => by
     obtain ⟨ad',e',_,hc'⟩:=lies_made wr 49 [Value.int .i64 (k : Int),S y] (wr.heap.size + 1) (by omega) j u hu;injection e' with e';subst e';exact hc'
    have HN:=jj hnews;have H1 : Hid (∀ u ∈ [Value.int .i64 (k : Int),S y],u.oneCell' = true):=jj (by simp [Value.oneCell']);have hle:=othersTo_le a b k;have H63 : Hid ((othersTo a b k).length + 1 ≤ maxLen):=jj (by unfold maxLen;omega);have HBY : Hid (((othersTo a b k).length + 1) * 24 ≤ 140737488355328):=jj (by omega);have HBA : Hid (w.heap.size ≤ (wr.alloc (.cells #[.int .i64 (k : Int),S y] 49)).heap.size):=jj (by have:=HB.out.size;simp;omega);have HOA:=jj (HO.out.alloc (.cells #[.int .i64 (k : Int),S y] 49));clear hnews hle;go_wp2_with (at_builtin;refine wpList_append_own _ rfl (.tmp 27) (.tmp 31) 26 rfl w.heap.size 49 i0 _ 2 24 Tryz.underlying26 hi0 hz0 hz1 hz2 rfl (by decide) _ _ _ rfl HOA.out ⟨wr.heap.size,0,none⟩ 1 1 [.int .i64 (k : Int),S y] rfl rfl HN.out H1.out H63.out HBY.out HBA.out ?_;intro v' w1 hown' hgrow _);have HO1 : Hid (w1.ownsRow w.heap.size 49 2 v' (othersTo a b (k + 1)).length (wCells (othersTo a b (k + 1)))):=jj (by rw [HE.out,List.length_append,wCells_append];exact hown');have HB1 : Hid (Below w.heap.size w w1):=jj ((HB.out.alloc HB.out.size _).grown hgrow HBA.out (own_ge HO.out));clear hown' hgrow
    go_wp2
    go_roundw
    case rel =>
     have R : ∃ k' : Nat,k' ≤ b.length ∧ Value.int .i64 ((k : Int) + 1) = .int .i64 k' ∧ Hid (w1.ownsRow w.heap.size 49 2 v' (othersTo a b k').length (wCells (othersTo a b k'))) ∧ Hid (Below w.heap.size w w1):=⟨k + 1,by omega,by go_num,HO1,HB1⟩
     first | exact R | ((repeat apply Exists.intro);exact ⟨R,rfl⟩)
    case measure => simp [intOf];omega
  ·obtain rfl : k = b.length:=(by omega)
   go_wp2
   go_ret;exact ⟨⟨_,rfl,HO.out⟩,HB.out⟩
end Go.Proofs.YtnbphabheikfeaaGreatDoor
namespace Go.Proofs.YtnbphabheikfeaaGreatDoor
open Go.RowKit
section
variable {P : Program}
theorem wp_store_at {o : Oper} {a : Act} {w : World} {K : Act → World → Prop} {Q : Exit → Act → World → Prop} (ty : TypeId) (x y : Operand) (ho : o.op = .store ty x y) (hdst : o.dst = none)
  (g off : Nat) (hx : a.eval x = .pointer (some ⟨g,off,none⟩)) (cs : List Value) (hy : a.eval y = .agg cs.toArray) (hi : (P.info? ty).map (·.size) = some cs.length)
  (cur : List Value) (t : TypeId) (hg : Whole w g t cur.toArray) (hfit : off + cs.length ≤ cur.length) (h1 : ∀ v ∈ cs,v.oneCell' = true)
  (h : ∀ w',Hid (Whole w' g t (cur.take off ++ (cs ++ cur.drop (off + cs.length))).toArray) → Hid (w.grownBy w' (some g)) → K a w') : o.wp P a w K Q:=by
 have hrun:=run_storeVar_at w ty g off cs hi cur t hg hfit h1;have hk:=h _ (jj (setRow_whole hg _)) (jj (setRow_only w g (cur.take off ++ (cs ++ cur.drop (off + cs.length))).toArray));unfold Oper.wp execOp;simp only [ho,hx,hy,Instr.storeAt,Instr.sureAddr,Sem.run_bind,Sem.run_pure,Result.andThen_ok,hrun]
 simpa [Oper.upon,Act.put,hdst] using hk
end
def dCells (f : List UInt8) (v1 v2 : Value) (r t : List UInt8) : List Value:=f.map B8 ++ (v1 :: v2 :: S r :: t.map B8)
theorem dCells_length {f t : List UInt8} (hf : f.length = 32) (ht : t.length = 32) (v1 v2 : Value) (r : List UInt8) : (dCells f v1 v2 r t).length = 67:=by simp [dCells,hf,ht]
theorem list32 {α : Type} (l : List α) (h : l.length = 32) : ∃ x0 x1 x2 x3 x4 x5 x6 x7 x8 x9 x10 x11 x12 x13 x14 x15 x16 x17 x18 x19 x20 x21 x22 x23 x24 x25 x26 x27 x28 x29 x30 x31,l = [x0,x1,x2,x3,x4,x5,x6,x7,x8,x9,x10,x11,x12,x13,x14,x15,x16,x17,x18,x19,x20,x21,x22,x23,x24,x25,x26,x27,x28,x29,x30,x31]:=by
 match l,h with
 | [x0,x1,x2,x3,x4,x5,x6,x7,x8,x9,x10,x11,x12,x13,x14,x15,x16,x17,x18,x19,x20,x21,x22,x23,x24,x25,x26,x27,x28,x29,x30,x31],_ => exact ⟨x0,x1,x2,x3,x4,x5,x6,x7,x8,x9,x10,x11,x12,x13,x14,x15,x16,x17,x18,x19,x20,x21,x22,x23,x24,x25,x26,x27,x28,x29,x30,x31,rfl⟩
theorem dCells_one (f : List UInt8) (A A' : Option Addr) (n c n' c' : Nat) (r t : List UInt8) : ∀ v ∈ dCells f (.slice A n c) (.slice A' n' c') r t,v.oneCell' = true:=by
 intro v hv;simp only [dCells,List.mem_append,List.mem_cons] at hv;rcases hv with h | h | h | h | h
 ·exact B8_one f v h
 ·subst h;rfl
 ·subst h;rfl
 ·subst h;rfl
 ·exact B8_one t v h
end Go.Proofs.YtnbphabheikfeaaGreatDoor
