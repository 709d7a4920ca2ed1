import Derived.Test.YtdkhnjjihbmlmaaGreatDoorProg
import Derived.Test.YtdkhnjjihbmlmaaGreatDoorBase
import Derived.StillTailTactics
namespace Go.Proofs.YtdkhnjjihbmlmaaGreatDoor
open Go.RowKit
set_option maxHeartbeats 400000 in
theorem rot16 (x : UInt32) (w : World) :
  Calls Tryz.prog 296 #[U x,.int .i64 (-16)] w fun e w' => e = .returned (U (R16 x)) ∧ w = w':=by
 have e1 : bits .and .u64 (IntKind.u64.wrap (-16)) 31 = 16:=(by decide);go_enter Tryz.func296,Tryz.ntmps296
 go_wp2
 go_ret;exact ⟨ret_int (rot16_eq x),rfl⟩
set_option maxHeartbeats 400000 in
theorem rot12 (x : UInt32) (w : World) :
  Calls Tryz.prog 296 #[U x,.int .i64 (-12)] w fun e w' => e = .returned (U (R12 x)) ∧ w = w':=by
 have e1 : bits .and .u64 (IntKind.u64.wrap (-12)) 31 = 20:=(by decide);go_enter Tryz.func296,Tryz.ntmps296
 go_wp2
 go_ret;exact ⟨ret_int (rot12_eq x),rfl⟩
set_option maxHeartbeats 400000 in
theorem rot8 (x : UInt32) (w : World) :
  Calls Tryz.prog 296 #[U x,.int .i64 (-8)] w fun e w' => e = .returned (U (R8 x)) ∧ w = w':=by
 have e1 : bits .and .u64 (IntKind.u64.wrap (-8)) 31 = 24:=(by decide);go_enter Tryz.func296,Tryz.ntmps296
 go_wp2
 go_ret;exact ⟨ret_int (rot8_eq x),rfl⟩
set_option maxHeartbeats 400000 in
theorem rot7 (x : UInt32) (w : World) :
  Calls Tryz.prog 296 #[U x,.int .i64 (-7)] w fun e w' => e = .returned (U (R7 x)) ∧ w = w':=by
 have e1 : bits .and .u64 (IntKind.u64.wrap (-7)) 31 = 25:=(by decide);go_enter Tryz.func296,Tryz.ntmps296
 go_wp2
 go_ret;exact ⟨ret_int (rot7_eq x),rfl⟩
end Go.Proofs.YtdkhnjjihbmlmaaGreatDoor
namespace Go.Proofs.YtdkhnjjihbmlmaaGreatDoor
open Go.RowKit
theorem cell_U {w : World} {g : Nat} {t : TypeId} {v : List UInt32} {a : Nat} (hg : Whole w g t (v.map U).toArray) (ha : a < v.length) : w.cell? ⟨g,a,none⟩ = some (U (v.getD a 0)):=by
 rw [hg.cell];simp [ha]
theorem set_U {w : World} {g : Nat} {t : TypeId} {v : List UInt32} (hg : Whole w g t (v.map U).toArray) (a : Nat) (x : UInt32) : Whole (w.setCell ⟨g,a,none⟩ (U x)).drew g t ((v.set a x).map U).toArray:=by
 have h:=(hg.set a (U x)).draw;rw [List.map_set]
 simpa using h
theorem sets_twice {α : Type} (v : List α) (a b c d : Nat) (a1 b1 c1 d1 a2 b2 c2 d2 : α) :
  (((((((v.set a a1).set d d1).set c c1).set b b1).set a a2).set d d2).set c c2).set b b2 = (((v.set a a2).set d d2).set c c2).set b b2:=by
 apply List.ext_getElem (by simp);intro i _ _;simp only [List.getElem_set];by_cases h1 : b = i <;> by_cases h2 : c = i <;> by_cases h3 : d = i <;> by_cases h4 : a = i <;> simp only [h1,h2,h3,h4,if_true,if_false]
theorem far_U {w : World} {g : Nat} (a : Nat) (x : UInt32) : w.grownBy (w.setCell ⟨g,a,none⟩ (U x)).drew (some g) :=
 ⟨rfl,rfl,rfl,by simp [World.setCell],fun i _ hne => Below.heap_setCell w ⟨g,a,none⟩ (U x) i (fun e => hne (by rw [e]))⟩
theorem rot16' (x : UInt32) (w : World) : Calls Tryz.prog 296 #[U x,.int .i64 (-16)] w fun e w' => e = .returned (U (R16 x)) ∧ w' = w:=(rot16 x w).mono fun _ _ h => ⟨h.1,h.2.symm⟩
theorem rot12' (x : UInt32) (w : World) : Calls Tryz.prog 296 #[U x,.int .i64 (-12)] w fun e w' => e = .returned (U (R12 x)) ∧ w' = w:=(rot12 x w).mono fun _ _ h => ⟨h.1,h.2.symm⟩
theorem rot8' (x : UInt32) (w : World) : Calls Tryz.prog 296 #[U x,.int .i64 (-8)] w fun e w' => e = .returned (U (R8 x)) ∧ w' = w:=(rot8 x w).mono fun _ _ h => ⟨h.1,h.2.symm⟩
theorem rot7' (x : UInt32) (w : World) : Calls Tryz.prog 296 #[U x,.int .i64 (-7)] w fun e w' => e = .returned (U (R7 x)) ∧ w' = w:=(rot7 x w).mono fun _ _ h => ⟨h.1,h.2.symm⟩
attribute [local go_sem] u_wadd u_xor u_add
set_option maxRecDepth 100000 in
set_option maxHeartbeats 2000000 in
theorem mix_any (w : World) (g : Nat) (t : TypeId) (v : List UInt32) (a b c d : Nat) (x y : UInt32) (hg : Whole w g t (v.map U).toArray) (hv : v.length = 16)
  (ha : a < 4) (hb : 4 ≤ b) (hb' : b < 8) (hc : 8 ≤ c) (hc' : c < 12) (hd : 12 ≤ d) (hd' : d < 16) :
  Calls Tryz.prog 294 #[.pointer (some ⟨g,0,none⟩),.int .i64 a,.int .i64 b,.int .i64 c,.int .i64 d,U x,U y] w fun e w' => e = .returned (.tuple #[]) ∧ Whole w' g t ((mixL v a b c d x y).map U).toArray ∧ w.grownBy w' (some g):=by
 have ia : (a : Int) < 16:=(by omega);have ib : (b : Int) < 16:=(by omega);have ic : (c : Int) < 16:=(by omega);have id : (d : Int) < 16:=(by omega);have HV:=jj hv;clear hv;obtain ⟨a0,A0⟩ : ∃ a0,Hid (v.getD a 0 = a0):=⟨_,jj rfl⟩;obtain ⟨b0,B0⟩ : ∃ b0,Hid (v.getD b 0 = b0):=⟨_,jj rfl⟩;obtain ⟨c0,C0⟩ : ∃ c0,Hid (v.getD c 0 = c0):=⟨_,jj rfl⟩;obtain ⟨d0,D0⟩ : ∃ d0,Hid (v.getD d 0 = d0):=⟨_,jj rfl⟩;have ca : w.cell? ⟨g,a,none⟩ = some (U a0):=(by rw [cell_U hg (by have:=HV.out;omega),A0.out]);have cb : w.cell? ⟨g,b,none⟩ = some (U b0):=(by rw [cell_U hg (by have:=HV.out;omega),B0.out]);have cc : w.cell? ⟨g,c,none⟩ = some (U c0):=(by rw [cell_U hg (by have:=HV.out;omega),C0.out]);have cd : w.cell? ⟨g,d,none⟩ = some (U d0):=(by rw [cell_U hg (by have:=HV.out;omega),D0.out]);have O0:=jj (World.grownBy.refl w (some g));have HG:=jj hg;clear hg;go_enter Tryz.func294,Tryz.ntmps294
 go_wp2
 -- step 0
 go_still_tail 15,(by kernel_rfl)
 show wpList _ _ _ _ _ w.drew;have fa:=HG.out.free a
 go_wp2
 obtain ⟨a1,E0⟩ : ∃ z,Hid (ua a0 (ua b0 x) = z):=⟨_,jj rfl⟩;rw [E0.out];have G0:=jj (set_U HG.out a a1);have P0:=jj (O0.out.trans (far_U (w:=w) (g:=g) a a1));have na : (w.setCell ⟨g,a,none⟩ (U a1)).drew.cell? ⟨g,a,none⟩ = some (U a1):=World.cell?_setCell_same w ⟨g,a,none⟩ _ ca;have nb : (w.setCell ⟨g,a,none⟩ (U a1)).drew.cell? ⟨g,b,none⟩ = some (U b0):=(World.cell?_setCell_other w ⟨g,a,none⟩ ⟨g,b,none⟩ _ (fun e => by injection e with e1 e2;omega)).trans cb;have nc : (w.setCell ⟨g,a,none⟩ (U a1)).drew.cell? ⟨g,c,none⟩ = some (U c0):=(World.cell?_setCell_other w ⟨g,a,none⟩ ⟨g,c,none⟩ _ (fun e => by injection e with e1 e2;omega)).trans cc;have nd : (w.setCell ⟨g,a,none⟩ (U a1)).drew.cell? ⟨g,d,none⟩ = some (U d0):=(World.cell?_setCell_other w ⟨g,a,none⟩ ⟨g,d,none⟩ _ (fun e => by injection e with e1 e2;omega)).trans cd;clear ca cb cc cd fa O0 HG;generalize (w.setCell ⟨g,a,none⟩ (U a1)).drew = w1 at *;have ca:=na;have cb:=nb;have cc:=nc;have cd:=nd;have O0:=P0;have HG:=G0;clear na nb nc nd P0 G0
 -- step 1
 go_still_tail 16,(by kernel_rfl)
 still_call (rot16' _ _)
 repeat still_step
 refine wpStill_nil ?_;show wpList _ _ _ _ _ w1.drew;have fd:=HG.out.free d
 go_wp2
 obtain ⟨d1,E1⟩ : ∃ z,Hid (R16 (ux d0 a1) = z):=⟨_,jj rfl⟩;rw [E1.out];have G1:=jj (set_U HG.out d d1);have P1:=jj (O0.out.trans (far_U (w:=w1) (g:=g) d d1));have na : (w1.setCell ⟨g,d,none⟩ (U d1)).drew.cell? ⟨g,a,none⟩ = some (U a1):=(World.cell?_setCell_other w1 ⟨g,d,none⟩ ⟨g,a,none⟩ _ (fun e => by injection e with e1 e2;omega)).trans ca;have nb : (w1.setCell ⟨g,d,none⟩ (U d1)).drew.cell? ⟨g,b,none⟩ = some (U b0):=(World.cell?_setCell_other w1 ⟨g,d,none⟩ ⟨g,b,none⟩ _ (fun e => by injection e with e1 e2;omega)).trans cb;have nc : (w1.setCell ⟨g,d,none⟩ (U d1)).drew.cell? ⟨g,c,none⟩ = some (U c0):=(World.cell?_setCell_other w1 ⟨g,d,none⟩ ⟨g,c,none⟩ _ (fun e => by injection e with e1 e2;omega)).trans cc;have nd : (w1.setCell ⟨g,d,none⟩ (U d1)).drew.cell? ⟨g,d,none⟩ = some (U d1):=World.cell?_setCell_same w1 ⟨g,d,none⟩ _ cd;clear ca cb cc cd fd O0 HG;generalize (w1.setCell ⟨g,d,none⟩ (U d1)).drew = w2 at *;have ca:=na;have cb:=nb;have cc:=nc;have cd:=nd;have O0:=P1;have HG:=G1;clear na nb nc nd P1 G1
 -- step 2
 go_still_tail 13,(by kernel_rfl)
 show wpList _ _ _ _ _ w2.drew;have fc:=HG.out.free c
 go_wp2
 obtain ⟨c1,E2⟩ : ∃ z,Hid (ua c0 d1 = z):=⟨_,jj rfl⟩;rw [E2.out];have G2:=jj (set_U HG.out c c1);have P2:=jj (O0.out.trans (far_U (w:=w2) (g:=g) c c1));have na : (w2.setCell ⟨g,c,none⟩ (U c1)).drew.cell? ⟨g,a,none⟩ = some (U a1):=(World.cell?_setCell_other w2 ⟨g,c,none⟩ ⟨g,a,none⟩ _ (fun e => by injection e with e1 e2;omega)).trans ca;have nb : (w2.setCell ⟨g,c,none⟩ (U c1)).drew.cell? ⟨g,b,none⟩ = some (U b0):=(World.cell?_setCell_other w2 ⟨g,c,none⟩ ⟨g,b,none⟩ _ (fun e => by injection e with e1 e2;omega)).trans cb;have nc : (w2.setCell ⟨g,c,none⟩ (U c1)).drew.cell? ⟨g,c,none⟩ = some (U c1):=World.cell?_setCell_same w2 ⟨g,c,none⟩ _ cc;have nd : (w2.setCell ⟨g,c,none⟩ (U c1)).drew.cell? ⟨g,d,none⟩ = some (U d1):=(World.cell?_setCell_other w2 ⟨g,c,none⟩ ⟨g,d,none⟩ _ (fun e => by injection e with e1 e2;omega)).trans cd;clear ca cb cc cd fc O0 HG;generalize (w2.setCell ⟨g,c,none⟩ (U c1)).drew = w3 at *;have ca:=na;have cb:=nb;have cc:=nc;have cd:=nd;have O0:=P2;have HG:=G2;clear na nb nc nd P2 G2
 -- step 3
 go_still_tail 16,(by kernel_rfl)
 still_call (rot12' _ _)
 repeat still_step
 refine wpStill_nil ?_;show wpList _ _ _ _ _ w3.drew;have fb:=HG.out.free b
 go_wp2
 obtain ⟨b1,E3⟩ : ∃ z,Hid (R12 (ux b0 c1) = z):=⟨_,jj rfl⟩;rw [E3.out];have G3:=jj (set_U HG.out b b1);have P3:=jj (O0.out.trans (far_U (w:=w3) (g:=g) b b1));have na : (w3.setCell ⟨g,b,none⟩ (U b1)).drew.cell? ⟨g,a,none⟩ = some (U a1):=(World.cell?_setCell_other w3 ⟨g,b,none⟩ ⟨g,a,none⟩ _ (fun e => by injection e with e1 e2;omega)).trans ca;have nb : (w3.setCell ⟨g,b,none⟩ (U b1)).drew.cell? ⟨g,b,none⟩ = some (U b1):=World.cell?_setCell_same w3 ⟨g,b,none⟩ _ cb;have nc : (w3.setCell ⟨g,b,none⟩ (U b1)).drew.cell? ⟨g,c,none⟩ = some (U c1):=(World.cell?_setCell_other w3 ⟨g,b,none⟩ ⟨g,c,none⟩ _ (fun e => by injection e with e1 e2;omega)).trans cc;have nd : (w3.setCell ⟨g,b,none⟩ (U b1)).drew.cell? ⟨g,d,none⟩ = some (U d1):=(World.cell?_setCell_other w3 ⟨g,b,none⟩ ⟨g,d,none⟩ _ (fun e => by injection e with e1 e2;omega)).trans cd;clear ca cb cc cd fb O0 HG;generalize (w3.setCell ⟨g,b,none⟩ (U b1)).drew = w4 at *;have ca:=na;have cb:=nb;have cc:=nc;have cd:=nd;have O0:=P3;have HG:=G3;clear na nb nc nd P3 G3
 -- step 4
 go_still_tail 15,(by kernel_rfl)
 show wpList _ _ _ _ _ w4.drew;have fa:=HG.out.free a
 go_wp2
 obtain ⟨a2,E4⟩ : ∃ z,Hid (ua a1 (ua b1 y) = z):=⟨_,jj rfl⟩;rw [E4.out];have G4:=jj (set_U HG.out a a2);have P4:=jj (O0.out.trans (far_U (w:=w4) (g:=g) a a2));have na : (w4.setCell ⟨g,a,none⟩ (U a2)).drew.cell? ⟨g,a,none⟩ = some (U a2):=World.cell?_setCell_same w4 ⟨g,a,none⟩ _ ca;have nb : (w4.setCell ⟨g,a,none⟩ (U a2)).drew.cell? ⟨g,b,none⟩ = some (U b1):=(World.cell?_setCell_other w4 ⟨g,a,none⟩ ⟨g,b,none⟩ _ (fun e => by injection e with e1 e2;omega)).trans cb;have nc : (w4.setCell ⟨g,a,none⟩ (U a2)).drew.cell? ⟨g,c,none⟩ = some (U c1):=(World.cell?_setCell_other w4 ⟨g,a,none⟩ ⟨g,c,none⟩ _ (fun e => by injection e with e1 e2;omega)).trans cc;have nd : (w4.setCell ⟨g,a,none⟩ (U a2)).drew.cell? ⟨g,d,none⟩ = some (U d1):=(World.cell?_setCell_other w4 ⟨g,a,none⟩ ⟨g,d,none⟩ _ (fun e => by injection e with e1 e2;omega)).trans cd;clear ca cb cc cd fa O0 HG;generalize (w4.setCell ⟨g,a,none⟩ (U a2)).drew = w5 at *;have ca:=na;have cb:=nb;have cc:=nc;have cd:=nd;have O0:=P4;have HG:=G4;clear na nb nc nd P4 G4
 -- step 5
 go_still_tail 16,(by kernel_rfl)
 still_call (rot8' _ _)
 repeat still_step
 refine wpStill_nil ?_;show wpList _ _ _ _ _ w5.drew;have fd:=HG.out.free d
 go_wp2
 obtain ⟨d2,E5⟩ : ∃ z,Hid (R8 (ux d1 a2) = z):=⟨_,jj rfl⟩;rw [E5.out];have G5:=jj (set_U HG.out d d2);have P5:=jj (O0.out.trans (far_U (w:=w5) (g:=g) d d2));have na : (w5.setCell ⟨g,d,none⟩ (U d2)).drew.cell? ⟨g,a,none⟩ = some (U a2):=(World.cell?_setCell_other w5 ⟨g,d,none⟩ ⟨g,a,none⟩ _ (fun e => by injection e with e1 e2;omega)).trans ca;have nb : (w5.setCell ⟨g,d,none⟩ (U d2)).drew.cell? ⟨g,b,none⟩ = some (U b1):=(World.cell?_setCell_other w5 ⟨g,d,none⟩ ⟨g,b,none⟩ _ (fun e => by injection e with e1 e2;omega)).trans cb;have nc : (w5.setCell ⟨g,d,none⟩ (U d2)).drew.cell? ⟨g,c,none⟩ = some (U c1):=(World.cell?_setCell_other w5 ⟨g,d,none⟩ ⟨g,c,none⟩ _ (fun e => by injection e with e1 e2;omega)).trans cc;have nd : (w5.setCell ⟨g,d,none⟩ (U d2)).drew.cell? ⟨g,d,none⟩ = some (U d2):=World.cell?_setCell_same w5 ⟨g,d,none⟩ _ cd;clear ca cb cc cd fd O0 HG;generalize (w5.setCell ⟨g,d,none⟩ (U d2)).drew = w6 at *;have ca:=na;have cb:=nb;have cc:=nc;have cd:=nd;have O0:=P5;have HG:=G5;clear na nb nc nd P5 G5
 -- step 6
 go_still_tail 13,(by kernel_rfl)
 show wpList _ _ _ _ _ w6.drew;have fc:=HG.out.free c
 go_wp2
 obtain ⟨c2,E6⟩ : ∃ z,Hid (ua c1 d2 = z):=⟨_,jj rfl⟩;rw [E6.out];have G6:=jj (set_U HG.out c c2);have P6:=jj (O0.out.trans (far_U (w:=w6) (g:=g) c c2));have na : (w6.setCell ⟨g,c,none⟩ (U c2)).drew.cell? ⟨g,a,none⟩ = some (U a2):=(World.cell?_setCell_other w6 ⟨g,c,none⟩ ⟨g,a,none⟩ _ (fun e => by injection e with e1 e2;omega)).trans ca;have nb : (w6.setCell ⟨g,c,none⟩ (U c2)).drew.cell? ⟨g,b,none⟩ = some (U b1):=(World.cell?_setCell_other w6 ⟨g,c,none⟩ ⟨g,b,none⟩ _ (fun e => by injection e with e1 e2;omega)).trans cb;have nc : (w6.setCell ⟨g,c,none⟩ (U c2)).drew.cell? ⟨g,c,none⟩ = some (U c2):=World.cell?_setCell_same w6 ⟨g,c,none⟩ _ cc;have nd : (w6.setCell ⟨g,c,none⟩ (U c2)).drew.cell? ⟨g,d,none⟩ = some (U d2):=(World.cell?_setCell_other w6 ⟨g,c,none⟩ ⟨g,d,none⟩ _ (fun e => by injection e with e1 e2;omega)).trans cd;clear ca cb cc cd fc O0 HG;generalize (w6.setCell ⟨g,c,none⟩ (U c2)).drew = w7 at *;have ca:=na;have cb:=nb;have cc:=nc;have cd:=nd;have O0:=P6;have HG:=G6;clear na nb nc nd P6 G6
 -- step 7
 go_still_tail 16,(by kernel_rfl)
 still_call (rot7' _ _)
 repeat still_step
 refine wpStill_nil ?_;show wpList _ _ _ _ _ w7.drew;have fb:=HG.out.free b
 go_wp2
 obtain ⟨b2,E7⟩ : ∃ z,Hid (R7 (ux b1 c2) = z):=⟨_,jj rfl⟩;rw [E7.out];have G7:=jj (set_U HG.out b b2);have P7:=jj (O0.out.trans (far_U (w:=w7) (g:=g) b b2));have na : (w7.setCell ⟨g,b,none⟩ (U b2)).drew.cell? ⟨g,a,none⟩ = some (U a2):=(World.cell?_setCell_other w7 ⟨g,b,none⟩ ⟨g,a,none⟩ _ (fun e => by injection e with e1 e2;omega)).trans ca;have nb : (w7.setCell ⟨g,b,none⟩ (U b2)).drew.cell? ⟨g,b,none⟩ = some (U b2):=World.cell?_setCell_same w7 ⟨g,b,none⟩ _ cb;have nc : (w7.setCell ⟨g,b,none⟩ (U b2)).drew.cell? ⟨g,c,none⟩ = some (U c2):=(World.cell?_setCell_other w7 ⟨g,b,none⟩ ⟨g,c,none⟩ _ (fun e => by injection e with e1 e2;omega)).trans cc;have nd : (w7.setCell ⟨g,b,none⟩ (U b2)).drew.cell? ⟨g,d,none⟩ = some (U d2):=(World.cell?_setCell_other w7 ⟨g,b,none⟩ ⟨g,d,none⟩ _ (fun e => by injection e with e1 e2;omega)).trans cd;clear ca cb cc cd fb O0 HG;generalize (w7.setCell ⟨g,b,none⟩ (U b2)).drew = w8 at *;have ca:=na;have cb:=nb;have cc:=nc;have cd:=nd;have O0:=P7;have HG:=G7;clear na nb nc nd P7 G7
 go_end0
 refine ⟨rfl,?_,O0.out⟩;have h:=HG.out;rw [sets_twice] at h;unfold mixL;dsimp only;rw [A0.out,B0.out,C0.out,D0.out,E0.out,E1.out,E2.out,E3.out,E4.out,E5.out,E6.out,E7.out];exact h
end Go.Proofs.YtdkhnjjihbmlmaaGreatDoor
