import Derived.Test.YtnbphabheikfeaaGreatDoorDsA
namespace Go.Proofs.YtnbphabheikfeaaGreatDoor
open Go.RowKit
def Typed (w : World) (g : Nat) (ty : TypeId) : Prop:=∃ cs fr,w.heap[g]? = some (.cells cs ty fr)
theorem Typed.lt {w : World} {g : Nat} {ty : TypeId} (h : Typed w g ty) : g < w.heap.size:=by
 obtain ⟨_,_,h⟩:=h;exact (Array.getElem?_eq_some_iff.1 h).1
theorem Typed.keep {w w' : World} {g : Nat} {ty : TypeId} (h : Typed w g ty) (e : w'.heap[g]? = w.heap[g]?) : Typed w' g ty:=by
 obtain ⟨cs,fr,h⟩:=h;exact ⟨cs,fr,e.trans h⟩
theorem Whole.typed {w : World} {g : Nat} {ty : TypeId} {cs : Array Value} (h : Whole w g ty cs) : Typed w g ty:=⟨_,_,h⟩
theorem own_one {w w' : World} {base q : Nat} {e : TypeId} {size n : Nat} {v : Value} {xs : List Value} (h : w.ownsRow base e size v n xs) (hk : w.grownBy w' (some q)) (hq : q < base) : w'.ownsRow base e size v n xs :=
 h.kept hk (.inr fun e => by have:=(h.lt q e).1;omega)
theorem own_mono {w : World} {base base' : Nat} {e : TypeId} {size n : Nat} {v : Value} {xs : List Value} (h : w.ownsRow base e size v n xs) (hb : base' ≤ base) : w.ownsRow base' e size v n xs :=
 ⟨h.1,h.2.imp id fun ⟨g,cap,cur,hv,hg,r⟩ => ⟨g,cap,cur,hv,Nat.le_trans hb hg,r⟩⟩
def RW (B : Nat) (T : TypeId) (k : Nat) (W : World) (A : Option Addr) (n c : Nat) (xs : List Value) : Prop:=W.ownsRow B T k (.slice A n c) n xs
section
variable {B q k n c : Nat} {T : TypeId} {W W' : World} {A : Option Addr} {xs : List Value}
theorem RW.below (h : RW B T k W A n c xs) (hb : Below W.heap.size W W') : RW B T k W' A n c xs:=own_below h hb
theorem RW.one (h : RW B T k W A n c xs) (hk : W.grownBy W' (some q)) (hq : q < B) : RW B T k W' A n c xs:=own_one h hk hq
theorem RW.set {K : Nat} {v : Value} (h : RW B T k W A n c xs) (hq : q < B) : RW B T k (W.setCell ⟨q,K,none⟩ v) A n c xs:=h.one (grown_setK W q K v) hq
theorem RW.mono {B' : Nat} (h : RW B T k W A n c xs) (hb : B' ≤ B) : RW B' T k W A n c xs:=own_mono h hb
theorem RW.lies (h : RW B T k W A n c xs) : Lies W W.heap.size A xs:=by
 rcases h.2 with ⟨e,hx⟩ | ⟨g,cap,cur,e,hb,hh,hnc,hcur⟩
 ·subst hx;obtain rfl : xs = []:=List.eq_nil_of_length_eq_zero (by have:=h.1;omega);exact Lies.none _ _ _
 ·injection e with e;subst e;intro j u hu;have e2 : Value.slice (some ⟨g,0,none⟩) n c = .slice (some ⟨g,0,none⟩) n c:=rfl;exact ⟨_,rfl,(Array.getElem?_eq_some_iff.1 hh).1,h.cells (g:=g) rfl j u hu⟩
theorem RW.cap (h : RW B T k W A n c xs) : n ≤ c:=own_cap h
theorem RW.typed (h : RW B T k W A n c xs) {ad : Addr} (e : A = some ad) : B ≤ ad.block ∧ Typed W ad.block T ∧ ad.off = 0:=by
 rcases h.2 with ⟨e2,_⟩ | ⟨g,cap,cur,e2,hb,hh,_⟩
 ·injection e2 with e2;rw [e2] at e;cases e
 ·injection e2 with e2;rw [e2] at e;injection e with e;subst e;exact ⟨hb,⟨_,_,hh⟩,rfl⟩
theorem RW.other (h : RW B T k W A n c xs) (hk : W.grownBy W' (some q)) (hq : ∀ ty,Typed W q ty → ty ≠ T) : RW B T k W' A n c xs :=
 h.kept hk (.inr fun e => by
  have e2 : A = some ⟨q,0,none⟩:=by
   rcases h.2 with ⟨e3,_⟩ | ⟨g,cap,cur,e3,_⟩
   ·rw [e3] at e;simp [Value.ownBlock] at e
   ·rw [e3] at e;have : g = q:=(by simpa [Value.ownBlock] using e);subst this;injection e3
  exact hq T (h.typed e2).2.1 rfl)
theorem own_rw {v : Value} (h : W.ownsRow B T k v n xs) : ∃ A c,v = .slice A n c ∧ RW B T k W A n c xs:=by
 rcases h.2 with ⟨rfl,hx⟩ | ⟨g,cap,cur,rfl,_⟩
 ·subst hx;exact ⟨none,0,rfl,h⟩
 ·exact ⟨_,_,rfl,h⟩
end
structure OwnG (B : Nat) (W : World) (a : MA) (m : Mc) : Prop where
 F : RW B 9 1 W a.F m.frames.length a.cF (m.frames.map S)
 P : RW B 64 96 W a.P m.procs.length a.cP (prsCells m.procs)
 Q : RW B 51 2 W a.Q m.pipes.length a.cQ (nbCells m.pipes)
 L : RW B 9 1 W a.L m.blocks.length a.cL (m.blocks.map S)
 N : RW B 49 2 W a.N m.pend.length a.cN (nbCells m.pend)
 D : RW B 49 2 W a.D m.dirty.length a.cD (nbCells m.dirty)
section
variable {B q : Nat} {W W' : World} {a : MA} {m : Mc}
theorem OwnG.at (h : OwnG B W a m) : MAt W W.heap.size a m:=⟨h.F.lies,h.P.lies,h.Q.lies,h.L.lies,h.N.lies,h.D.lies,h.F.cap,h.P.cap,h.Q.cap,h.L.cap,h.N.cap,h.D.cap⟩
theorem OwnG.below (h : OwnG B W a m) (hb : Below W.heap.size W W') : OwnG B W' a m:=⟨h.F.below hb,h.P.below hb,h.Q.below hb,h.L.below hb,h.N.below hb,h.D.below hb⟩
theorem OwnG.one (h : OwnG B W a m) (hk : W.grownBy W' (some q)) (hq : q < B) : OwnG B W' a m:=⟨h.F.one hk hq,h.P.one hk hq,h.Q.one hk hq,h.L.one hk hq,h.N.one hk hq,h.D.one hk hq⟩
theorem OwnG.mono {B' : Nat} (h : OwnG B W a m) (hb : B' ≤ B) : OwnG B' W a m:=⟨h.F.mono hb,h.P.mono hb,h.Q.mono hb,h.L.mono hb,h.N.mono hb,h.D.mono hb⟩
end
def OwnPost (w : World) (m : Mc) (e : Ending) (w' : World) : Prop:=(∃ a : MA,e = .returned (.agg (mcL a m).toArray) ∧ OwnG w.heap.size w' a m) ∧ Below w.heap.size w w'
set_option maxRecDepth 100000 in
set_option maxHeartbeats 1000000 in
theorem listS_any (w : World) (A : Option Addr) (c : Nat) (ls : List (List UInt8)) (hA : Lies w w.heap.size A (ls.map S)) (hn : ls.length ≤ 1099511627776) :
  Calls Tryz.prog 68 #[.slice A ls.length c] w fun e w' => (∃ v,e = .returned v ∧ w'.ownsRow w.heap.size 9 1 v ls.length (ls.map S)) ∧ Below w.heap.size w w':=by
 obtain ⟨i0,hi0,hz0,hz1,hz2⟩:=info_parts Tryz.infoStr';have hlen : (ls.map S).length = ls.length * 1:=(by simp);have hone:=S_one ls;have HA:=jj hA;have H63 : Hid (0 + ls.length ≤ maxLen):=jj (by unfold maxLen;omega);have HBY : Hid ((0 + ls.length) * i0.bytes ≤ 140737488355328):=jj (by rw [hz2];omega);clear hA;go_enter Tryz.func68,Tryz.ntmps68;go_wp2_with (at_builtin;refine wpList_append_src rfl (.const (.slice none 0 0)) (.tmp 3) 23 rfl w.heap.size 9 i0 _ 1 _ Tryz.underlying23 hi0 hz0 hz1 rfl (by kernel_rfl) (by decide) _ _ _ rfl (World.ownsRow_nil _ _ _ _) w.heap.size A ls.length c (ls.map S) rfl hlen HA.out hone H63.out HBY.out (Nat.le_refl _) ?_;intro v' w1 hown' hgrow);go_ret;exact ⟨⟨_,rfl,by simpa using hown'⟩,(Below.refl _ _).grown hgrow (Nat.le_refl _) (fun q e => by cases e)⟩
set_option maxRecDepth 100000 in
set_option maxHeartbeats 1000000 in
theorem listPr_any (w : World) (A : Option Addr) (c : Nat) (ls : List Pr) (hok : ∀ p ∈ ls,PrOk p) (hA : Lies w w.heap.size A (prsCells ls)) (hn : ls.length ≤ 4294967296) :
  Calls Tryz.prog 69 #[.slice A ls.length c] w fun e w' => (∃ v,e = .returned v ∧ w'.ownsRow w.heap.size 64 96 v ls.length (prsCells ls)) ∧ Below w.heap.size w w':=by
 obtain ⟨i0,hi0,hz0,hz1,hz2⟩:=info_proc;have hlen : (prsCells ls).length = ls.length * 96:=prsCells_length hok;have hone:=prsCells_one ls;have HA:=jj hA;have H63 : Hid (0 + ls.length ≤ maxLen):=jj (by unfold maxLen;omega);have HBY : Hid ((0 + ls.length) * i0.bytes ≤ 140737488355328):=jj (by rw [Nat.zero_add];exact Nat.le_trans (Nat.mul_le_mul hn hz2) (by decide));clear hA;go_enter Tryz.func69,Tryz.ntmps69;go_wp2_with (at_builtin;refine wpList_append_src rfl (.const (.slice none 0 0)) (.tmp 3) 24 rfl w.heap.size 64 i0 _ 96 _ Tryz.underlying24 hi0 hz0 hz1 rfl (by kernel_rfl) (by decide) _ _ _ rfl (World.ownsRow_nil _ _ _ _) w.heap.size A ls.length c (prsCells ls) rfl hlen HA.out hone H63.out HBY.out (Nat.le_refl _) ?_;intro v' w1 hown' hgrow);go_ret;exact ⟨⟨_,rfl,by simpa using hown'⟩,(Below.refl _ _).grown hgrow (Nat.le_refl _) (fun q e => by cases e)⟩
set_option maxRecDepth 100000 in
set_option maxHeartbeats 1000000 in
theorem listPi_any (w : World) (A : Option Addr) (c : Nat) (ls : List Nb) (hA : Lies w w.heap.size A (nbCells ls)) (hn : ls.length ≤ 1099511627776) :
  Calls Tryz.prog 70 #[.slice A ls.length c] w fun e w' => (∃ v,e = .returned v ∧ w'.ownsRow w.heap.size 51 2 v ls.length (nbCells ls)) ∧ Below w.heap.size w w':=by
 obtain ⟨i0,hi0,hz0,hz1,hz2⟩:=info_parts Tryz.infoPi3;have hlen : (nbCells ls).length = ls.length * 2:=nbCells_length ls;have hone:=nbCells_one ls;have HA:=jj hA;have H63 : Hid (0 + ls.length ≤ maxLen):=jj (by unfold maxLen;omega);have HBY : Hid ((0 + ls.length) * i0.bytes ≤ 140737488355328):=jj (by rw [hz2];omega);clear hA;go_enter Tryz.func70,Tryz.ntmps70;go_wp2_with (at_builtin;refine wpList_append_src rfl (.const (.slice none 0 0)) (.tmp 3) 25 rfl w.heap.size 51 i0 _ 2 _ Tryz.underlying25 hi0 hz0 hz1 rfl (by kernel_rfl) (by decide) _ _ _ rfl (World.ownsRow_nil _ _ _ _) w.heap.size A ls.length c (nbCells ls) rfl hlen HA.out hone H63.out HBY.out (Nat.le_refl _) ?_;intro v' w1 hown' hgrow);go_ret;exact ⟨⟨_,rfl,by simpa using hown'⟩,(Below.refl _ _).grown hgrow (Nat.le_refl _) (fun q e => by cases e)⟩
set_option maxRecDepth 100000 in
set_option maxHeartbeats 1000000 in
theorem listWr_any (w : World) (A : Option Addr) (c : Nat) (ls : List Nb) (hA : Lies w w.heap.size A (nbCells ls)) (hn : ls.length ≤ 1099511627776) :
  Calls Tryz.prog 72 #[.slice A ls.length c] w fun e w' => (∃ v,e = .returned v ∧ w'.ownsRow w.heap.size 49 2 v ls.length (nbCells ls)) ∧ Below w.heap.size w w':=by
 obtain ⟨i0,hi0,hz0,hz1,hz2⟩:=info_parts Tryz.infoWr3;have hlen : (nbCells ls).length = ls.length * 2:=nbCells_length ls;have hone:=nbCells_one ls;have HA:=jj hA;have H63 : Hid (0 + ls.length ≤ maxLen):=jj (by unfold maxLen;omega);have HBY : Hid ((0 + ls.length) * i0.bytes ≤ 140737488355328):=jj (by rw [hz2];omega);clear hA;go_enter Tryz.func72,Tryz.ntmps72;go_wp2_with (at_builtin;refine wpList_append_src rfl (.const (.slice none 0 0)) (.tmp 3) 26 rfl w.heap.size 49 i0 _ 2 _ Tryz.underlying26 hi0 hz0 hz1 rfl (by kernel_rfl) (by decide) _ _ _ rfl (World.ownsRow_nil _ _ _ _) w.heap.size A ls.length c (nbCells ls) rfl hlen HA.out hone H63.out HBY.out (Nat.le_refl _) ?_;intro v' w1 hown' hgrow);go_ret;exact ⟨⟨_,rfl,by simpa using hown'⟩,(Below.refl _ _).grown hgrow (Nat.le_refl _) (fun q e => by cases e)⟩
theorem dvL_one (L : Option Addr) (n cL : Nat) (N : Option Addr) (k cN : Nat) (lf : Int) : ∀ v ∈ dvL L n cL N k cN lf,v.oneCell' = true:=by
 intro v hv;simp only [dvL,List.mem_cons,List.not_mem_nil,or_false] at hv;rcases hv with rfl | rfl | rfl <;> rfl
set_option maxRecDepth 100000 in
set_option maxHeartbeats 2000000 in
theorem odrive_any (w : World) (L N : Option Addr) (cL cN : Nat) (lf : Int) (bl : List (List UInt8)) (pd : List Nb) (hL : Strs w w.heap.size L bl) (hN : Lies w w.heap.size N (nbCells pd)) (hbl : bl.length ≤ 274877906944) (hpd : pd.length ≤ 274877906944) :
  Calls Tryz.prog 71 #[.agg (dvL L bl.length cL N pd.length cN lf).toArray] w fun e w' => (∃ X cx Y cy,e = .returned (.agg (dvL X bl.length cx Y pd.length cy lf).toArray) ∧ RW w.heap.size 9 1 w' X bl.length cx (bl.map S) ∧ RW w.heap.size 49 2 w' Y pd.length cy (nbCells pd)) ∧ Below w.heap.size w w':=by
 have hs0:=(Whole.made w 28 (dvL L bl.length cL N pd.length cN lf).toArray).block (.cells #[.slice none 0 0,.slice none 0 0,.int .i64 0] 28);have hs1:=Whole.made (w.alloc (.cells (dvL L bl.length cL N pd.length cN lf).toArray 28)) 28 #[.slice none 0 0,.slice none 0 0,.int .i64 0];rw [show (w.alloc (.cells (dvL L bl.length cL N pd.length cN lf).toArray 28)).heap.size = w.heap.size + 1 by simp] at hs1;have hb : Below w.heap.size w ((w.alloc (.cells (dvL L bl.length cL N pd.length cN lf).toArray 28)).alloc (.cells #[.slice none 0 0,.slice none 0 0,.int .i64 0] 28)):=((Below.refl _ _).alloc (by first | exact Nat.le_refl _ | simp | (simp;omega)) _).alloc (by first | exact Nat.le_refl _ | simp | (simp;omega)) _;go_enter Tryz.func71,Tryz.ntmps71;go_upto_region 1 with (fail);change Code.wp _ _ _ _ ((w.alloc (.cells (dvL L bl.length cL N pd.length cN lf).toArray 28)).alloc (.cells #[.slice none 0 0,.slice none 0 0,.int .i64 0] 28));generalize ((w.alloc (.cells (dvL L bl.length cL N pd.length cN lf).toArray 28)).alloc (.cells #[.slice none 0 0,.slice none 0 0,.int .i64 0] 28)) = w1 at *;generalize hgx : w.heap.size = gx at *;have HGX:=jj hgx;have HS0:=jj hs0;have HS1:=jj hs1;have HW:=jj hb;have hgl : gx + 1 < w1.heap.size:=hs1.lt;clear hgx hb hs0 hs1;have HZ1 : Hid (Whole w1 (gx + 1) 28 [.slice none 0 0,.slice none 0 0,.int .i64 0].toArray):=jj HS1.out;have HL:=jj hL;have HN:=jj hN;clear hL hN HS1;have c0 : w1.cell? ⟨gx,0,none⟩ = some (.slice L bl.length cL):=HS0.out.cell 0;have CX:=jj (listS_any w1 L cL bl ((Lies.below HL.out HW.out).wide (by omega)) (by omega));go_wp2_with fail;refine CX.out.mono ?_;rintro e w2 ⟨⟨v,rfl,ho⟩,hb⟩;obtain ⟨X,cx,rfl,hx⟩:=own_rw ho;have HX2:=jj (hx.mono (B':=gx + 2) (by omega));have HV2:=jj (HW.out.trans (hb.mono (by omega)));have HB2:=jj (HS0.out.below hb HS0.out.lt);have HZ2:=jj (HZ1.out.below hb HZ1.out.lt);have hs2 : gx + 2 ≤ w2.heap.size:=HZ2.out.lt;clear ho hb hx CX c0 HS0 HZ1;have c1 : w2.cell? ⟨gx,0,none⟩ = some (.slice L bl.length cL):=HB2.out.cell 0;have y1 : w2.frozen? ⟨gx,0,none⟩ = false:=HB2.out.free 0;have HB3 : Hid (Whole (w2.setCell ⟨gx,0,none⟩ (.slice X bl.length cx)) gx 28 (dvL X bl.length cx N pd.length cN lf).toArray):=jj (HB2.out.set 0 (.slice X bl.length cx));have HZ3:=jj (HZ2.out.far (p:=⟨gx,0,none⟩) (by show gx + 1 ≠ gx;omega) (.slice X bl.length cx))
 have HV3:=jj (HV2.out.setCell (p:=⟨gx,0,none⟩) (Nat.le_refl _) (.slice X bl.length cx));have HX3:=jj (HX2.out.set (q:=gx) (K:=0) (v:=.slice X bl.length cx) (by omega));have hs3 : gx + 2 ≤ (w2.setCell ⟨gx,0,none⟩ (.slice X bl.length cx)).heap.size:=(by simpa [World.setCell] using hs2);go_upto_region 2 with (fail);clear c1 y1 HB2 HZ2 HV2 HX2;generalize w2.setCell ⟨gx,0,none⟩ (.slice X bl.length cx) = w3 at *;have c0 : w3.cell? ⟨gx,1,none⟩ = some (.slice N pd.length cN):=HB3.out.cell 1;have CX:=jj (listWr_any w3 N cN pd ((Lies.below HN.out HV3.out).wide (by omega)) (by omega));go_wp2_with fail;refine CX.out.mono ?_;rintro e w4 ⟨⟨v,rfl,ho⟩,hb⟩;obtain ⟨Y,cy,rfl,hy⟩:=own_rw ho;have HY4:=jj (hy.mono (B':=gx + 2) (by omega));have HX4:=jj (HX3.out.below hb);have HV4:=jj (HV3.out.trans (hb.mono (by omega)));have HB4:=jj (HB3.out.below hb HB3.out.lt);have HZ4:=jj (HZ3.out.below hb HZ3.out.lt);have hs4 : gx + 2 ≤ w4.heap.size:=HZ4.out.lt;clear ho hb hy CX c0 HB3 HZ3 HX3 HV3;have c1 : w4.cell? ⟨gx,1,none⟩ = some (.slice N pd.length cN):=HB4.out.cell 1;have y1 : w4.frozen? ⟨gx,1,none⟩ = false:=HB4.out.free 1;have HB5 : Hid (Whole (w4.setCell ⟨gx,1,none⟩ (.slice Y pd.length cy)) gx 28 (dvL X bl.length cx Y pd.length cy lf).toArray):=jj (HB4.out.set 1 (.slice Y pd.length cy));have HZ5:=jj (HZ4.out.far (p:=⟨gx,1,none⟩) (by show gx + 1 ≠ gx;omega) (.slice Y pd.length cy));have HV5:=jj (HV4.out.setCell (p:=⟨gx,1,none⟩) (Nat.le_refl _) (.slice Y pd.length cy));have HX5:=jj (HX4.out.set (q:=gx) (K:=1) (v:=.slice Y pd.length cy) (by omega));have HY5:=jj (HY4.out.set (q:=gx) (K:=1) (v:=.slice Y pd.length cy) (by omega));have hs5 : gx + 2 ≤ (w4.setCell ⟨gx,1,none⟩ (.slice Y pd.length cy)).heap.size:=(by simpa [World.setCell] using hs4);go_upto_region 3 with (fail);clear c1 y1 HB4 HZ4 HV4 HX4 HY4;generalize w4.setCell ⟨gx,1,none⟩ (.slice Y pd.length cy) = w5 at *;have LD:=jj HB5.out.reads;have DI : Hid ((Tryz.prog.info? 28).map (·.size) = some (dvL X bl.length cx Y pd.length cy lf).length):=jj Tryz.sizeDv;have hone:=dvL_one X bl.length cx Y pd.length cy lf;have HLN : Hid ((dvL X bl.length cx Y pd.length cy lf).length = 3):=jj rfl;obtain ⟨cs,HCS⟩ : ∃ z,Hid ((dvL X bl.length cx Y pd.length cy lf) = z):=⟨_,jj rfl⟩;rw [HCS.out] at LD DI hone HLN
 go_wp2_with (first
  | (refine wpList_load_at rfl 28 (.tmp 1) rfl ⟨gx,0,none⟩ rfl cs _ LD.out Tryz.underlying28 rfl DI.out ?_)
  | (refine wpList_store_all rfl 28 (.tmp 2) (.tmp 11) rfl rfl (gx + 1) rfl cs rfl DI.out [.slice none 0 0,.slice none 0 0,.int .i64 0] 28 HZ5.out (by rw [HLN.out];rfl) hone ?_;intro wz hw hk))
 refine bodyPost_ret (v:=.agg cs.toArray) (results_cell_row rfl _ _ (gx + 1) 28 _ (0,0) _ rfl hw.out Tryz.underlying28 rfl (by rw [List.size_toArray];exact DI.out)) rfl ?_;exact ⟨⟨X,cx,Y,cy,by rw [HCS.out],(HX5.out.one hk.out (by omega)).mono (by have:=HGX.out;omega),(HY5.out.one hk.out (by omega)).mono (by have:=HGX.out;omega)⟩,by rw [HGX.out];exact HV5.out.grown hk.out (by omega) (fun q e => by injection e with e;omega)⟩
set_option maxRecDepth 100000 in
set_option maxHeartbeats 4000000 in
theorem ownm_any (w : World) (a : MA) (m : Mc) (hm : McOk m) (hprl : m.procs.length ≤ 4294967296) (hpil : m.pipes.length ≤ 1099511627776) (hA : MAt w w.heap.size a m) :
  Calls Tryz.prog 32 #[.agg (mcL a m).toArray] w (OwnPost w m):=by
 have hs0:=(Whole.made w 30 (mcL a m).toArray).block (.cells #[.int .u64 0,.int .i64 0,.int .i64 0,.int .i64 0,.slice none 0 0,.slice none 0 0,.int .i64 0,S [],.slice none 0 0,.int .i64 0,S [],.bool false,.int .u64 0,.slice none 0 0,.slice none 0 0,.int .i64 0,.slice none 0 0] 30);have hs1:=Whole.made (w.alloc (.cells (mcL a m).toArray 30)) 30 #[.int .u64 0,.int .i64 0,.int .i64 0,.int .i64 0,.slice none 0 0,.slice none 0 0,.int .i64 0,S [],.slice none 0 0,.int .i64 0,S [],.bool false,.int .u64 0,.slice none 0 0,.slice none 0 0,.int .i64 0,.slice none 0 0];rw [show (w.alloc (.cells (mcL a m).toArray 30)).heap.size = w.heap.size + 1 by simp] at hs1;have hb : Below w.heap.size w ((w.alloc (.cells (mcL a m).toArray 30)).alloc (.cells #[.int .u64 0,.int .i64 0,.int .i64 0,.int .i64 0,.slice none 0 0,.slice none 0 0,.int .i64 0,S [],.slice none 0 0,.int .i64 0,S [],.bool false,.int .u64 0,.slice none 0 0,.slice none 0 0,.int .i64 0,.slice none 0 0] 30)):=((Below.refl _ _).alloc (by first | exact Nat.le_refl _ | simp | (simp;omega)) _).alloc (by first | exact Nat.le_refl _ | simp | (simp;omega)) _;go_enter Tryz.func32,Tryz.ntmps32;go_upto_region 1 with (fail);change Code.wp _ _ _ _ ((w.alloc (.cells (mcL a m).toArray 30)).alloc (.cells #[.int .u64 0,.int .i64 0,.int .i64 0,.int .i64 0,.slice none 0 0,.slice none 0 0,.int .i64 0,S [],.slice none 0 0,.int .i64 0,S [],.bool false,.int .u64 0,.slice none 0 0,.slice none 0 0,.int .i64 0,.slice none 0 0] 30));generalize ((w.alloc (.cells (mcL a m).toArray 30)).alloc (.cells #[.int .u64 0,.int .i64 0,.int .i64 0,.int .i64 0,.slice none 0 0,.slice none 0 0,.int .i64 0,S [],.slice none 0 0,.int .i64 0,S [],.bool false,.int .u64 0,.slice none 0 0,.slice none 0 0,.int .i64 0,.slice none 0 0] 30)) = w1 at *;generalize hgx : w.heap.size = gx at *;have HGX:=jj hgx;have HS0:=jj hs0;have HS1:=jj hs1;have HW:=jj hb;have hgl : gx + 1 < w1.heap.size:=hs1.lt;clear hgx hb hs0 hs1;have HZ1 : Hid (Whole w1 (gx + 1) 30 zeroML.toArray):=jj HS1.out;have HA : Hid (MAt w gx a m):=jj hA;have HM:=jj hm;have HV1:=HW;have HB1:=HS0;obtain ⟨f1,f2,f3,f4,f5,f6⟩:=hm.sizes;clear hA HS0 HS1;have c0 : w1.cell? ⟨gx,4,none⟩ = some (.slice a.F m.frames.length a.cF):=HB1.out.cell 4;have CX:=jj (listS_any w1 a.F a.cF m.frames (Lies.wide (HA.out.below HV1.out).F (by omega)) (by omega))
 go_wp2_with fail;refine CX.out.mono ?_;rintro e w2 ⟨⟨v,rfl,ho⟩,hb⟩;obtain ⟨X0,d0,rfl,hx⟩:=own_rw ho;have RFx2:=jj (hx.mono (B':=gx + 2) (by omega));have HV2:=jj (HV1.out.trans (hb.mono (by omega)));have HB2:=jj (HB1.out.below hb HB1.out.lt);have HZ2:=jj (HZ1.out.below hb HZ1.out.lt);have hs2 : gx + 2 ≤ w2.heap.size:=HZ2.out.lt;clear hx hb CX ho c0 HV1 HB1 HZ1;have c1 : w2.cell? ⟨gx,4,none⟩ = some (.slice a.F m.frames.length a.cF):=HB2.out.cell 4;have y1 : w2.frozen? ⟨gx,4,none⟩ = false:=HB2.out.free 4;have HB3 : Hid (Whole (w2.setCell ⟨gx,4,none⟩ (.slice X0 m.frames.length d0)) gx 30 (mcL ({ a with F:=X0,cF:=d0 } : MA) m).toArray):=jj (HB2.out.set 4 (.slice X0 m.frames.length d0));have HZ3:=jj (HZ2.out.far (p:=⟨gx,4,none⟩) (by show gx + 1 ≠ gx;omega) (.slice X0 m.frames.length d0));have HV3:=jj (HV2.out.setCell (p:=⟨gx,4,none⟩) (Nat.le_refl _) (.slice X0 m.frames.length d0));have hs3 : gx + 2 ≤ (w2.setCell ⟨gx,4,none⟩ (.slice X0 m.frames.length d0)).heap.size:=(by simpa [World.setCell] using hs2);have RFx3:=jj (RFx2.out.set (q:=gx) (K:=4) (v:=(.slice X0 m.frames.length d0)) (by omega));go_upto_region 2 with (fail);clear c1 y1 HV2 HB2 HZ2 hs2 RFx2;generalize (w2.setCell ⟨gx,4,none⟩ (.slice X0 m.frames.length d0)) = w3 at *;have c0 : w3.cell? ⟨gx,5,none⟩ = some (.slice a.P m.procs.length a.cP):=HB3.out.cell 5;have CX:=jj (listPr_any w3 a.P a.cP m.procs HM.out.procs (Lies.wide (HA.out.below HV3.out).P (by omega)) (hprl));go_wp2_with fail;refine CX.out.mono ?_;rintro e w4 ⟨⟨v,rfl,ho⟩,hb⟩;obtain ⟨X1,d1,rfl,hx⟩:=own_rw ho;have RPx4:=jj (hx.mono (B':=gx + 2) (by omega));have HV4:=jj (HV3.out.trans (hb.mono (by omega)));have HB4:=jj (HB3.out.below hb HB3.out.lt);have HZ4:=jj (HZ3.out.below hb HZ3.out.lt);have hs4 : gx + 2 ≤ w4.heap.size:=HZ4.out.lt;have RFx4:=jj (RFx3.out.below hb);clear hx hb CX ho c0 HV3 HB3 HZ3 hs3 RFx3;have c1 : w4.cell? ⟨gx,5,none⟩ = some (.slice a.P m.procs.length a.cP):=HB4.out.cell 5;have y1 : w4.frozen? ⟨gx,5,none⟩ = false:=HB4.out.free 5;have HB5 : Hid (Whole (w4.setCell ⟨gx,5,none⟩ (.slice X1 m.procs.length d1)) gx 30 (mcL ({ a with F:=X0,cF:=d0,P:=X1,cP:=d1 } : MA) m).toArray):=jj (HB4.out.set 5 (.slice X1 m.procs.length d1));have HZ5:=jj (HZ4.out.far (p:=⟨gx,5,none⟩) (by show gx + 1 ≠ gx;omega) (.slice X1 m.procs.length d1))
 have HV5:=jj (HV4.out.setCell (p:=⟨gx,5,none⟩) (Nat.le_refl _) (.slice X1 m.procs.length d1));have hs5 : gx + 2 ≤ (w4.setCell ⟨gx,5,none⟩ (.slice X1 m.procs.length d1)).heap.size:=(by simpa [World.setCell] using hs4);have RFx5:=jj (RFx4.out.set (q:=gx) (K:=5) (v:=(.slice X1 m.procs.length d1)) (by omega));have RPx5:=jj (RPx4.out.set (q:=gx) (K:=5) (v:=(.slice X1 m.procs.length d1)) (by omega));go_upto_region 3 with (fail);clear c1 y1 HV4 HB4 HZ4 hs4 RFx4 RPx4;generalize (w4.setCell ⟨gx,5,none⟩ (.slice X1 m.procs.length d1)) = w5 at *;have c0 : w5.cell? ⟨gx,8,none⟩ = some (.slice a.Q m.pipes.length a.cQ):=HB5.out.cell 8;have CX:=jj (listPi_any w5 a.Q a.cQ m.pipes (Lies.wide (HA.out.below HV5.out).Q (by omega)) (hpil));go_wp2_with fail;refine CX.out.mono ?_;rintro e w6 ⟨⟨v,rfl,ho⟩,hb⟩;obtain ⟨X2,d2,rfl,hx⟩:=own_rw ho;have RQx6:=jj (hx.mono (B':=gx + 2) (by omega));have HV6:=jj (HV5.out.trans (hb.mono (by omega)));have HB6:=jj (HB5.out.below hb HB5.out.lt);have HZ6:=jj (HZ5.out.below hb HZ5.out.lt);have hs6 : gx + 2 ≤ w6.heap.size:=HZ6.out.lt;have RFx6:=jj (RFx5.out.below hb);have RPx6:=jj (RPx5.out.below hb);clear hx hb CX ho c0 HV5 HB5 HZ5 hs5 RFx5 RPx5;have c1 : w6.cell? ⟨gx,8,none⟩ = some (.slice a.Q m.pipes.length a.cQ):=HB6.out.cell 8;have y1 : w6.frozen? ⟨gx,8,none⟩ = false:=HB6.out.free 8;have HB7 : Hid (Whole (w6.setCell ⟨gx,8,none⟩ (.slice X2 m.pipes.length d2)) gx 30 (mcL ({ a with F:=X0,cF:=d0,P:=X1,cP:=d1,Q:=X2,cQ:=d2 } : MA) m).toArray):=jj (HB6.out.set 8 (.slice X2 m.pipes.length d2));have HZ7:=jj (HZ6.out.far (p:=⟨gx,8,none⟩) (by show gx + 1 ≠ gx;omega) (.slice X2 m.pipes.length d2));have HV7:=jj (HV6.out.setCell (p:=⟨gx,8,none⟩) (Nat.le_refl _) (.slice X2 m.pipes.length d2));have hs7 : gx + 2 ≤ (w6.setCell ⟨gx,8,none⟩ (.slice X2 m.pipes.length d2)).heap.size:=(by simpa [World.setCell] using hs6);have RFx7:=jj (RFx6.out.set (q:=gx) (K:=8) (v:=(.slice X2 m.pipes.length d2)) (by omega));have RPx7:=jj (RPx6.out.set (q:=gx) (K:=8) (v:=(.slice X2 m.pipes.length d2)) (by omega));have RQx7:=jj (RQx6.out.set (q:=gx) (K:=8) (v:=(.slice X2 m.pipes.length d2)) (by omega));go_upto_region 4 with (fail);clear c1 y1 HV6 HB6 HZ6 hs6 RFx6 RPx6 RQx6;generalize (w6.setCell ⟨gx,8,none⟩ (.slice X2 m.pipes.length d2)) = w7 at *
 have LDv : Hid (∀ j v,(dvL a.L m.blocks.length a.cL a.N m.pend.length a.cN m.dleft)[j]? = some v → w7.cell? ((⟨gx,13,none⟩ : Addr).add j) = some v):=jj (mid_cells HB7.out 13 _ (fun j v hv => by
  match j,hv with
  | 0,hv => exact hv
  | 1,hv => exact hv
  | 2,hv => exact hv))
 have DI : Hid ((Tryz.prog.info? 28).map (·.size) = some 3):=jj Tryz.sizeDv;have CX:=jj (odrive_any w7 a.L a.N a.cL a.cN m.dleft m.blocks m.pend (Lies.wide (HA.out.below HV7.out).L (by omega)) (Lies.wide (HA.out.below HV7.out).N (by omega)) f4 f5);go_wp2_with (refine wpList_load_at rfl 28 (.tmp 15) rfl ⟨gx,13,none⟩ rfl (dvL a.L m.blocks.length a.cL a.N m.pend.length a.cN m.dleft) _ LDv.out Tryz.underlying28 rfl DI.out ?_);refine CX.out.mono ?_;rintro e w8 ⟨⟨X3,d3,Y,dy,rfl,hx,hy⟩,hb⟩;have RNx8:=jj (hy.mono (B':=gx + 2) (by omega));have RLx8:=jj (hx.mono (B':=gx + 2) (by omega));have HV8:=jj (HV7.out.trans (hb.mono (by omega)));have HB8:=jj (HB7.out.below hb HB7.out.lt);have HZ8:=jj (HZ7.out.below hb HZ7.out.lt);have hs8 : gx + 2 ≤ w8.heap.size:=HZ8.out.lt;have RFx8:=jj (RFx7.out.below hb);have RPx8:=jj (RPx7.out.below hb);have RQx8:=jj (RQx7.out.below hb);clear hx hb CX hy LDv HV7 HB7 HZ7 hs7 RFx7 RPx7 RQx7;obtain ⟨cs,HCS⟩ : ∃ z,Hid (mcL ({ a with F:=X0,cF:=d0,P:=X1,cP:=d1,Q:=X2,cQ:=d2 } : MA) m = z):=⟨_,jj rfl⟩;have HBQ : Hid (Whole w8 gx 30 cs.toArray):=jj (by rw [← HCS.out];exact HB8.out);have HCL : Hid (cs.length = 17):=jj (by rw [← HCS.out];rfl);go_upto_region 5 with (refine wpList_store_at rfl 28 (.tmp 18) (.tmp 17) rfl rfl gx 13 rfl (dvL X3 m.blocks.length d3 Y m.pend.length dy m.dleft) rfl DI.out cs 30 HBQ.out (by rw [HCL.out];exact (by decide : 13 + 3 ≤ 17)) (dvL_one _ _ _ _ _ _ _) ?_;intro w9 hw hk);have HB9 : Hid (Whole w9 gx 30 (mcL ({ a with F:=X0,cF:=d0,P:=X1,cP:=d1,Q:=X2,cQ:=d2,L:=X3,cL:=d3,N:=Y,cN:=dy } : MA) m).toArray):=jj (by have:=hw.out;rw [← HCS.out] at this;exact this);have HZ9:=jj (HZ8.out.other hk.out (by intro e;injection e with e;omega));have HV9:=jj (HV8.out.grown hk.out (by omega) (fun q e => by injection e with e;omega));have hs9 : gx + 2 ≤ w9.heap.size:=Nat.le_trans hs8 hk.out.size;have RFx9:=jj (RFx8.out.one hk.out (by omega));have RPx9:=jj (RPx8.out.one hk.out (by omega));have RQx9:=jj (RQx8.out.one hk.out (by omega));have RLx9:=jj (RLx8.out.one hk.out (by omega));have RNx9:=jj (RNx8.out.one hk.out (by omega));clear hw hk HBQ HCL HCS HV8 HB8 HZ8 hs8 RFx8 RPx8 RQx8 RLx8 RNx8;have c0 : w9.cell? ⟨gx,16,none⟩ = some (.slice a.D m.dirty.length a.cD):=HB9.out.cell 16;have CX:=jj (listWr_any w9 a.D a.cD m.dirty (Lies.wide (HA.out.below HV9.out).D (by omega)) (by omega))
 go_wp2_with fail;refine CX.out.mono ?_;rintro e w10 ⟨⟨v,rfl,ho⟩,hb⟩;obtain ⟨X4,d4,rfl,hx⟩:=own_rw ho;have RDx10:=jj (hx.mono (B':=gx + 2) (by omega));have HV10:=jj (HV9.out.trans (hb.mono (by omega)));have HB10:=jj (HB9.out.below hb HB9.out.lt);have HZ10:=jj (HZ9.out.below hb HZ9.out.lt);have hs10 : gx + 2 ≤ w10.heap.size:=HZ10.out.lt;have RFx10:=jj (RFx9.out.below hb);have RPx10:=jj (RPx9.out.below hb);have RQx10:=jj (RQx9.out.below hb);have RLx10:=jj (RLx9.out.below hb);have RNx10:=jj (RNx9.out.below hb);clear hx hb CX ho c0 HV9 HB9 HZ9 hs9 RFx9 RPx9 RQx9 RLx9 RNx9;have c1 : w10.cell? ⟨gx,16,none⟩ = some (.slice a.D m.dirty.length a.cD):=HB10.out.cell 16;have y1 : w10.frozen? ⟨gx,16,none⟩ = false:=HB10.out.free 16;have HB11 : Hid (Whole (w10.setCell ⟨gx,16,none⟩ (.slice X4 m.dirty.length d4)) gx 30 (mcL ({ a with F:=X0,cF:=d0,P:=X1,cP:=d1,Q:=X2,cQ:=d2,L:=X3,cL:=d3,N:=Y,cN:=dy,D:=X4,cD:=d4 } : MA) m).toArray):=jj (HB10.out.set 16 (.slice X4 m.dirty.length d4));have HZ11:=jj (HZ10.out.far (p:=⟨gx,16,none⟩) (by show gx + 1 ≠ gx;omega) (.slice X4 m.dirty.length d4));have HV11:=jj (HV10.out.setCell (p:=⟨gx,16,none⟩) (Nat.le_refl _) (.slice X4 m.dirty.length d4));have hs11 : gx + 2 ≤ (w10.setCell ⟨gx,16,none⟩ (.slice X4 m.dirty.length d4)).heap.size:=(by simpa [World.setCell] using hs10);have RFx11:=jj (RFx10.out.set (q:=gx) (K:=16) (v:=(.slice X4 m.dirty.length d4)) (by omega));have RPx11:=jj (RPx10.out.set (q:=gx) (K:=16) (v:=(.slice X4 m.dirty.length d4)) (by omega));have RQx11:=jj (RQx10.out.set (q:=gx) (K:=16) (v:=(.slice X4 m.dirty.length d4)) (by omega));have RLx11:=jj (RLx10.out.set (q:=gx) (K:=16) (v:=(.slice X4 m.dirty.length d4)) (by omega));have RNx11:=jj (RNx10.out.set (q:=gx) (K:=16) (v:=(.slice X4 m.dirty.length d4)) (by omega));have RDx11:=jj (RDx10.out.set (q:=gx) (K:=16) (v:=(.slice X4 m.dirty.length d4)) (by omega));go_upto_region 6 with (fail);clear c1 y1 HV10 HB10 HZ10 hs10 RFx10 RPx10 RQx10 RLx10 RNx10 RDx10;generalize (w10.setCell ⟨gx,16,none⟩ (.slice X4 m.dirty.length d4)) = w11 at *;have LD:=jj HB11.out.reads;have hone:=mcL_one ({ a with F:=X0,cF:=d0,P:=X1,cP:=d1,Q:=X2,cQ:=d2,L:=X3,cL:=d3,N:=Y,cN:=dy,D:=X4,cD:=d4 } : MA) m;have HOW : Hid (OwnG (gx + 2) w11 ({ a with F:=X0,cF:=d0,P:=X1,cP:=d1,Q:=X2,cQ:=d2,L:=X3,cL:=d3,N:=Y,cN:=dy,D:=X4,cD:=d4 } : MA) m):=jj ⟨RFx11.out,RPx11.out,RQx11.out,RLx11.out,RNx11.out,RDx11.out⟩
 clear RFx11 RPx11 RQx11 RLx11 RNx11 RDx11;generalize ({ a with F:=X0,cF:=d0,P:=X1,cP:=d1,Q:=X2,cQ:=d2,L:=X3,cL:=d3,N:=Y,cN:=dy,D:=X4,cD:=d4 } : MA) = a' at *;have HLN : Hid ((mcL a' m).length = 17):=jj rfl;obtain ⟨cs,HCS⟩ : ∃ z,Hid (mcL a' m = z):=⟨_,jj rfl⟩;rw [HCS.out] at LD hone HLN;have MI : Hid ((Tryz.prog.info? 30).map (·.size) = some cs.length):=jj (by rw [HLN.out];exact Tryz.sizeMc)
 go_wp2_with (first
  | (refine wpList_load_at rfl 30 (.tmp 1) rfl ⟨gx,0,none⟩ rfl cs _ LD.out Tryz.underlying30 rfl MI.out ?_)
  | (refine wpList_store_all rfl 30 (.tmp 2) (.tmp 23) rfl rfl (gx + 1) rfl cs rfl MI.out zeroML 30 HZ11.out (by rw [HLN.out];rfl) hone ?_;intro wz hw hk))
 refine bodyPost_ret (v:=.agg cs.toArray) (results_cell_row rfl _ _ (gx + 1) 30 _ (0,0) _ rfl hw.out Tryz.underlying30 rfl (by rw [List.size_toArray];exact MI.out)) rfl ?_;exact ⟨⟨a',by rw [HCS.out],(HOW.out.one hk.out (by omega)).mono (by have:=HGX.out;omega)⟩,by rw [HGX.out];exact HV11.out.grown hk.out (by omega) (fun q e => by injection e with e;omega)⟩
end Go.Proofs.YtnbphabheikfeaaGreatDoor
namespace Go.Proofs.YtnbphabheikfeaaGreatDoor
open Go.RowKit
theorem below_one {B g : Nat} {a b c : World} (h : Below B a b) (hB : B ≤ b.heap.size) (k : b.grownBy c (some g)) (hg : B ≤ g) : Below B a c:=h.grown k hB fun q e => by injection e with e;omega
def funV (f : Nat) : Value:=.func (.func f) #[] #[]
def condL : List MapEntry:=[⟨.int .i64 1,funV 101,0⟩,⟨.int .i64 2,funV 102,1⟩,⟨.int .i64 3,funV 105,2⟩,⟨.int .i64 4,funV 106,3⟩,⟨.int .i64 5,funV 108,4⟩]
theorem run_key1 {P : Program} {kt : TypeId} {kd k : IntKind} (h : P.underlying kt = some (.int kd)) (em : Bool) (n : Int) (w : World) (d : Nat) : (Instr.checkKey em (d + 1) kt (.int k n)).run P w = .ok () w:=by
 simp [Instr.checkKey,run_underlying h]
theorem run_key {P : Program} {kt : TypeId} {kd k : IntKind} (h : P.underlying kt = some (.int kd)) (em : Bool) (n : Int) (w : World) : (Instr.checkKey em 10000 kt (.int k n)).run P w = .ok () w:=run_key1 h em n w 9999
def putO (w : World) (b : Nat) (x : Obj) : World:={ w with heap:=w.heap.setIfInBounds b x }
theorem grown_put (w : World) (b : Nat) (x : Obj) : w.grownBy (putO w b x) (some b) :=
 ⟨rfl,rfl,rfl,by simp [putO],fun j _ hne => by
  simp only [putO,Array.getElem?_setIfInBounds];rw [if_neg (fun e => hne (by rw [e]))]⟩
section
variable {P : Program}
theorem wpList_insert {ops : Array Oper} {rest : List Oper} {o : Oper} {a : Act} {w : World} {Q : Exit → Act → World → Prop} (hg : o.guard = none) (t kt e : TypeId) (m x v : Operand) (ho : o.op = .insert t m x v) (hd : o.dst = none) (b : Nat) (k : Int) (u : Value)
  (hm : a.eval m = .map (some b)) (hx : a.eval x = .int .i64 k) (hv : a.eval v = u) (hu : P.underlying t = some (.map kt e)) (hk : P.underlying kt = some (.int .i64)) (es : Array MapEntry) (cl : Nat) (hb : w.heap[b]? = some (.map es cl))
  (hn : Instr.findNow (.int .i64) (.int .i64 k) es.toList 0 = some none) (h : ∀ w',Hid (w'.heap[b]? = some (.map (es.push ⟨.int .i64 k,u,cl⟩) (cl + 1))) → Hid (w.grownBy w' (some b)) → wpList P ops Q rest a w') : wpList P ops Q (o :: rest) a w:=by
 refine wpList_plain hg fun K hK => ?_;have hlt : b < w.heap.size:=(Array.getElem?_eq_some_iff.1 hb).1;have run0 : (getObj b).run P w = .ok (.map es cl) w:=(by simp [getObj,Sem.run,hb]);have run1 : ∀ ob,(setObj b ob).run P w = .ok () (putO w b ob):=fun ob => (by simp [setObj,Sem.run,hb,putO]);have hk2:=hK _ _ (h (putO w b (.map (es.push ⟨.int .i64 k,u,cl⟩) (cl + 1))) (jj (by simp [putO,hlt])) (jj (grown_put _ _ _)));unfold Oper.wp execOp;simp only [ho,hm,hx,hv];simp [Instr.mapUpdate,run_underlying hu,run0,run_key hk,Instr.findKey,run_underlying hk,hn,run1,Oper.upon]
 simpa [Act.put,hd] using hk2
end
set_option maxRecDepth 100000 in
set_option maxHeartbeats 2000000 in
theorem cond_any (w : World) : Calls Tryz.prog 75 #[] w fun e w' => (∃ b,e = .returned (.map (some b)) ∧ w'.heap[b]? = some (.map condL.toArray 5)) ∧ Below w.heap.size w w':=by
 have H0 : Hid ((w.alloc (.map #[] 0)).heap[w.heap.size]? = some (.map #[] 0)):=jj (by show (w.heap.push _)[w.heap.size]? = _;simp);have HB : Hid (Below w.heap.size w (w.alloc (.map #[] 0))):=jj ((Below.refl _ _).alloc (Nat.le_refl _) _);have hsz : w.heap.size < (w.alloc (.map #[] 0)).heap.size:=(by simp);go_enter Tryz.func75,Tryz.ntmps75;go_upto_region 1 with (fail)
 go_wp2_with (first
  | (refine wpList_insert rfl 134 3 _ (.tmp 1) (.const (.int .i64 1)) (.func 101) rfl rfl w.heap.size 1 (funV 101) rfl rfl rfl Tryz.underlying134 Tryz.underlying3 _ _ H0.out rfl ?_;intro w1 H1 G1)
  | (refine wpList_insert rfl 134 3 _ (.tmp 1) (.const (.int .i64 2)) (.func 102) rfl rfl w.heap.size 2 (funV 102) rfl rfl rfl Tryz.underlying134 Tryz.underlying3 _ _ H1.out rfl ?_;intro w2 H2 G2)
  | (refine wpList_insert rfl 134 3 _ (.tmp 1) (.const (.int .i64 3)) (.func 105) rfl rfl w.heap.size 3 (funV 105) rfl rfl rfl Tryz.underlying134 Tryz.underlying3 _ _ H2.out rfl ?_;intro w3 H3 G3)
  | (refine wpList_insert rfl 134 3 _ (.tmp 1) (.const (.int .i64 4)) (.func 106) rfl rfl w.heap.size 4 (funV 106) rfl rfl rfl Tryz.underlying134 Tryz.underlying3 _ _ H3.out rfl ?_;intro w4 H4 G4)
  | (refine wpList_insert rfl 134 3 _ (.tmp 1) (.const (.int .i64 5)) (.func 108) rfl rfl w.heap.size 5 (funV 108) rfl rfl rfl Tryz.underlying134 Tryz.underlying3 _ _ H4.out rfl ?_;intro w5 H5 G5)
  | (refine wpList_plain rfl fun K hK => ?_;unfold Oper.wp execOp;simp only [Sem.run_bind,Sem.run_pure];refine hK _ _ ?_))
 have e1 : w.heap.size ≤ w1.heap.size:=Nat.le_trans (Nat.le_of_lt hsz) G1.out.size;have e2:=Nat.le_trans e1 G2.out.size;have e3:=Nat.le_trans e2 G3.out.size;have e4:=Nat.le_trans e3 G4.out.size;have B5:=below_one (below_one (below_one (below_one (below_one HB.out (Nat.le_of_lt hsz) G1.out (Nat.le_refl _)) e1 G2.out (Nat.le_refl _)) e2 G3.out (Nat.le_refl _)) e3 G4.out (Nat.le_refl _)) e4 G5.out (Nat.le_refl _);go_ret;exact ⟨⟨_,rfl,H5.out⟩,B5⟩
def pipedR (m : Mc) (n : Int) : Nb × Bool:=if 9223372036854775807 < n then ((0,[]),false) else pipeR m n
set_option maxRecDepth 100000 in
set_option maxHeartbeats 2000000 in
theorem piped_any (w : World) (a : MA) (m : Mc) (n : Int) (hn : inU64 n) (hq : m.pipes.length ≤ 1099511627776) (hA : MAt w w.heap.size a m) :
  Calls Tryz.prog 103 #[.agg (mcL a m).toArray,.int .u64 n] w fun e w' => e = .returned (.tuple #[.agg (nbCells1 (pipedR m n).1).toArray,.bool (pipedR m n).2]) ∧ Below w.heap.size w w':=by
 have hs0:=(Whole.made w 30 (mcL a m).toArray).block (.cells #[.int .i64 0,S []] 51);have hs1:=Whole.made (w.alloc (.cells (mcL a m).toArray 30)) 51 #[.int .i64 0,S []];rw [show (w.alloc (.cells (mcL a m).toArray 30)).heap.size = w.heap.size + 1 by simp] at hs1;have hb : Below w.heap.size w ((w.alloc (.cells (mcL a m).toArray 30)).alloc (.cells #[.int .i64 0,S []] 51)):=((Below.refl _ _).alloc (by first | exact Nat.le_refl _ | simp | (simp;omega)) _).alloc (by first | exact Nat.le_refl _ | simp | (simp;omega)) _;go_enter Tryz.func103,Tryz.ntmps103;go_upto_region 1 with (fail);change Code.wp _ _ _ _ ((w.alloc (.cells (mcL a m).toArray 30)).alloc (.cells #[.int .i64 0,S []] 51));generalize ((w.alloc (.cells (mcL a m).toArray 30)).alloc (.cells #[.int .i64 0,S []] 51)) = w1 at *;generalize hgx : w.heap.size = gx at *;have HGX:=jj hgx;have HS0:=jj hs0;have HS1:=jj hs1;have HW:=jj hb;have hgl : gx + 1 < w1.heap.size:=hs1.lt;clear hgx hb hs0 hs1;have HA1:=jj ((hA.below HW.out).wide (B':=w1.heap.size) (by omega));have HPR : Hid (pipedR m n = if 9223372036854775807 < n then ((0,[]),false) else pipeR m n):=jj rfl;have HZ1 : Hid (Whole w1 (gx + 1) 51 [.int .i64 0,S []].toArray):=jj HS1.out;have LM:=jj HS0.out.reads;have MI : Hid ((Tryz.prog.info? 30).map (·.size) = some (mcL a m).length):=jj Tryz.sizeMc;obtain ⟨hn0,hn1⟩:=hn;clear hA HS1;by_cases hn2 : 9223372036854775807 < n
 ·have HQ : Hid (pipedR m n = ((0,[]),false)):=jj (by rw [HPR.out,if_pos hn2]);have d1 : decide (9223372036854775807 < n) = true:=decide_eq_true hn2;clear HPR LM MI HA1;go_wp2_with (refine wpList_store_all rfl 51 (.tmp 4) (.tmp 8) rfl rfl (gx + 1) rfl [.int .i64 0,S []] rfl (by kernel_rfl) [.int .i64 0,S []] 51 HZ1.out rfl (nb_one (0,[])) ?_;intro wz hw hk);refine bodyPost_ret (v:=.tuple #[.agg (nbCells1 (0,[])).toArray,.bool false]) (results_cell_tmp rfl _ _ (gx + 1) 51 _ _ (0,0) _ rfl rfl hw.out Tryz.underlying51 rfl (by kernel_rfl)) rfl ?_;exact ⟨by rw [HQ.out],by rw [HGX.out];exact HW.out.grown hk.out (by omega) (fun q e => by injection e with e;omega)⟩
 ·have HQ : Hid (pipedR m n = pipeR m n):=jj (by rw [HPR.out,if_neg hn2]);have d1 : decide (9223372036854775807 < n) = false:=decide_eq_false hn2;have wn : IntKind.i64.wrap n = n:=(by rw [IntKind.wrap_i64];omega);have CX:=jj (pipe_any w1 a m hq HA1.out n);obtain ⟨⟨x,y⟩,HXY⟩ : ∃ z,Hid (pipeR m n = z):=⟨_,jj rfl⟩;rw [HXY.out] at CX HQ;clear HPR HA1;go_wp2_with (refine wpList_load_at rfl 30 (.tmp 2) rfl ⟨gx,0,none⟩ rfl (mcL a m) _ LM.out Tryz.underlying30 rfl MI.out ?_);refine CX.out.mono ?_;rintro e w2 ⟨rfl,hb2⟩;have HZ2:=jj (HZ1.out.below hb2 HZ1.out.lt);have HW2:=jj (HW.out.trans (hb2.mono (by omega)));have hg2 : gx + 1 < w2.heap.size:=HZ2.out.lt;clear hb2 CX LM HZ1;go_wp2_with (refine wpList_store_all rfl 51 (.tmp 4) (.tmp 13) rfl rfl (gx + 1) rfl (nbCells1 x) rfl (by kernel_rfl) [.int .i64 0,S []] 51 HZ2.out rfl (nb_one x) ?_;intro wz hw hk);refine bodyPost_ret (v:=.tuple #[.agg (nbCells1 x).toArray,.bool y]) (results_cell_tmp rfl _ _ (gx + 1) 51 _ _ (0,0) _ rfl rfl hw.out Tryz.underlying51 rfl (by kernel_rfl)) rfl ?_;exact ⟨by rw [HQ.out],by rw [HGX.out];exact HW2.out.grown hk.out (by omega) (fun q e => by injection e with e;omega)⟩
def c1B (m : Mc) : Bool:=!decide (m.inp = []) || m.fin
def c2B (m : Mc) (p : Pr) : Bool:=(!(pipedR m p.n).2 || !decide ((pipedR m p.n).1.2 = [])) || decide (endsM m.procs (pipedR m p.n).1.1 5 = 0)
def c3B (m : Mc) (p : Pr) : Bool:=(!(pipedR m p.n).2 || decide ((pipedR m p.n).1.2.length < 64)) || decide (endsM m.procs (pipedR m p.n).1.1 4 = 0)
theorem pr_n {p : Pr} (h : PrOk p) {w : World} {g : Nat} (hw : Whole w g 64 (prCells p).toArray) : w.cell? ⟨g,95,none⟩ = some (.int .u64 p.n):=by
 rw [hw.cell];have:=pr_last h 3
 simpa using this
theorem pr_why {p : Pr} (h : PrOk p) {w : World} {g : Nat} (hw : Whole w g 64 (prCells p).toArray) : w.cell? ⟨g,94,none⟩ = some (.int .i64 p.why):=by
 rw [hw.cell];have:=pr_last h 2
 simpa using this
set_option maxRecDepth 100000 in
set_option maxHeartbeats 2000000 in
theorem cond1_any (w : World) (a : MA) (m : Mc) (p : Pr) :
  Calls Tryz.prog 101 #[.agg (mcL a m).toArray,.agg (prCells p).toArray] w fun e w' => e = .returned (.bool (c1B m)) ∧ Below w.heap.size w w':=by
 have hs0:=(Whole.made w 30 (mcL a m).toArray).block (.cells (prCells p).toArray 64);have hs1:=Whole.made (w.alloc (.cells (mcL a m).toArray 30)) 64 (prCells p).toArray;rw [show (w.alloc (.cells (mcL a m).toArray 30)).heap.size = w.heap.size + 1 by simp] at hs1;have hb : Below w.heap.size w ((w.alloc (.cells (mcL a m).toArray 30)).alloc (.cells (prCells p).toArray 64)):=((Below.refl _ _).alloc (by first | exact Nat.le_refl _ | simp | (simp;omega)) _).alloc (by first | exact Nat.le_refl _ | simp | (simp;omega)) _;go_enter Tryz.func101,Tryz.ntmps101;go_upto_region 1 with (fail);change Code.wp _ _ _ _ ((w.alloc (.cells (mcL a m).toArray 30)).alloc (.cells (prCells p).toArray 64));generalize ((w.alloc (.cells (mcL a m).toArray 30)).alloc (.cells (prCells p).toArray 64)) = w1 at *;generalize hgx : w.heap.size = gx at *;have HGX:=jj hgx;have HS0:=jj hs0;have HS1:=jj hs1;have HW:=jj hb;have hgl : gx + 1 < w1.heap.size:=hs1.lt;clear hgx hb hs0 hs1;have c10 : w1.cell? ⟨gx,10,none⟩ = some (S m.inp):=HS0.out.cell 10;have c11 : w1.cell? ⟨gx,11,none⟩ = some (.bool m.fin):=HS0.out.cell 11;obtain ⟨fin,HF⟩ : ∃ z,Hid (m.fin = z):=⟨_,jj rfl⟩;obtain ⟨inp,HI⟩ : ∃ z,Hid (m.inp = z):=⟨_,jj rfl⟩;have HD : Hid (c1B m = (!decide (inp = []) || fin)):=jj (by unfold c1B;rw [HF.out,HI.out]);rw [HF.out] at c11;rw [HI.out] at c10;cases inp with
 | nil => cases fin <;> (go_wp2_with fail;go_ret;exact ⟨by rw [HD.out];rfl,by rw [HGX.out];exact HW.out⟩)
 | cons x l => have e1 : (x :: l == ([] : List UInt8)) = false:=rfl;cases fin <;> (go_wp2_with fail;go_ret;exact ⟨by rw [HD.out];rfl,by rw [HGX.out];exact HW.out⟩)
set_option maxRecDepth 100000 in
set_option maxHeartbeats 2000000 in
theorem cond2_any (w : World) (a : MA) (m : Mc) (p : Pr) (hm : McOk m) (hq : m.pipes.length ≤ 1099511627776) (hp : PrOk p) (hA : MAt w w.heap.size a m) :
  Calls Tryz.prog 102 #[.agg (mcL a m).toArray,.agg (prCells p).toArray] w fun e w' => e = .returned (.bool (c2B m p)) ∧ Below w.heap.size w w':=by
 have hs0:=(Whole.made w 30 (mcL a m).toArray).block (.cells (prCells p).toArray 64);have hs1:=Whole.made (w.alloc (.cells (mcL a m).toArray 30)) 64 (prCells p).toArray;rw [show (w.alloc (.cells (mcL a m).toArray 30)).heap.size = w.heap.size + 1 by simp] at hs1;have hb : Below w.heap.size w ((w.alloc (.cells (mcL a m).toArray 30)).alloc (.cells (prCells p).toArray 64)):=((Below.refl _ _).alloc (by first | exact Nat.le_refl _ | simp | (simp;omega)) _).alloc (by first | exact Nat.le_refl _ | simp | (simp;omega)) _;go_enter Tryz.func102,Tryz.ntmps102;go_upto_region 1 with (fail);change Code.wp _ _ _ _ ((w.alloc (.cells (mcL a m).toArray 30)).alloc (.cells (prCells p).toArray 64));generalize ((w.alloc (.cells (mcL a m).toArray 30)).alloc (.cells (prCells p).toArray 64)) = w1 at *;generalize hgx : w.heap.size = gx at *;have HGX:=jj hgx;have HS0:=jj hs0;have HS1:=jj hs1;have HW:=jj hb;have hgl : gx + 1 < w1.heap.size:=hs1.lt;clear hgx hb hs0 hs1;have HPO:=jj hp;have n95:=pr_n hp HS1.out;have LM:=jj HS0.out.reads;have MI : Hid ((Tryz.prog.info? 30).map (·.size) = some (mcL a m).length):=jj Tryz.sizeMc;have HA1:=jj ((hA.below HW.out).wide (B':=w1.heap.size) (by omega));have HM:=jj hm;have CX:=jj (piped_any w1 a m p.n hp.n hq HA1.out);obtain ⟨⟨⟨qi,qd⟩,is⟩,HXY⟩ : ∃ z,Hid (pipedR m p.n = z):=⟨_,jj rfl⟩;rw [HXY.out] at CX;clear hA hm;go_wp2_with (refine wpList_load_at rfl 30 (.tmp 2) rfl ⟨gx,0,none⟩ rfl (mcL a m) _ LM.out Tryz.underlying30 rfl MI.out ?_);refine CX.out.mono ?_;rintro e w2 ⟨rfl,hb2⟩;have HS2:=jj (HS0.out.below hb2 HS0.out.lt);have HW2:=jj (HW.out.trans (hb2.mono (by omega)));have HA2:=jj ((HA1.out.below hb2).wide hb2.size);have hg2 : gx ≤ w2.heap.size:=(by have:=HW2.out.size;have:=HGX.out;omega);clear hb2 CX n95 HS0 HS1 HW HA1 LM;go_upto_region 2 with (refine wpList_fresh rfl rfl 51 5 (.tmp 14) rfl rfl rfl rfl (nbCells1 (qi,qd)) rfl rfl _ Tryz.infoPi rfl (nb_one (qi,qd)) ?_);change Code.wp _ _ _ _ (w2.alloc (.cells (nbCells1 (qi,qd)).toArray 51));have HX:=jj (Whole.made w2 51 (nbCells1 (qi,qd)).toArray);have HW3:=jj (HW2.out.alloc hg2 (.cells (nbCells1 (qi,qd)).toArray 51));have HA3:=jj ((HA2.out.below ((Below.refl w2.heap.size w2).alloc (Nat.le_refl _) (.cells (nbCells1 (qi,qd)).toArray 51))).wide (B':=(w2.alloc (.cells (nbCells1 (qi,qd)).toArray 51)).heap.size) (by simp))
 have HS3:=jj (HS2.out.block (.cells (nbCells1 (qi,qd)).toArray 51));generalize w2.alloc (.cells (nbCells1 (qi,qd)).toArray 51) = w3 at *;generalize w2.heap.size = g2 at *;clear HS2 HW2 HA2;have y0 : w3.cell? ⟨g2,0,none⟩ = some (.int .i64 qi):=HX.out.cell 0;have CE:=jj (ends_any w3 a m HM.out HA3.out qi);obtain ⟨e4,HE4⟩ : ∃ z,Hid (endsM m.procs qi 4 = z):=⟨_,jj rfl⟩;obtain ⟨e5,HE5⟩ : ∃ z,Hid (endsM m.procs qi 5 = z):=⟨_,jj rfl⟩;rw [HE4.out,HE5.out] at CE;have LM:=jj HS3.out.reads;go_wp2_with (refine wpList_load_at rfl 30 (.tmp 2) rfl ⟨gx,0,none⟩ rfl (mcL a m) _ LM.out Tryz.underlying30 rfl MI.out ?_);refine CE.out.mono ?_;rintro e w4 ⟨rfl,hb4⟩;have HX4:=jj (HX.out.below hb4 HX.out.lt);have HW4:=jj (HW3.out.trans (hb4.mono (by have:=HW3.out.size;have:=HGX.out;omega)));have y1 : w4.cell? ⟨g2,1,none⟩ = some (S qd):=HX4.out.cell 1;have HD : Hid (c2B m p = ((!is || !decide (qd = [])) || decide (e5 = 0))):=jj (by unfold c2B;rw [HXY.out];show ((!is || _) || decide (endsM m.procs qi 5 = 0)) = _;rw [HE5.out]);clear hb4 CE y0 LM HA3 HS3 HX HW3;have q1 : (qd == ([] : List UInt8)) = decide (qd = []):=(by cases qd <;> rfl);have q3 : ((e5 : Int) == 0) = decide (e5 = 0):=(by rw [Bool.eq_iff_iff];simp);obtain ⟨b1,HB1⟩ : ∃ z,Hid (decide (qd = []) = z):=⟨_,jj rfl⟩;obtain ⟨b2,HB2⟩ : ∃ z,Hid (decide (e5 = 0) = z):=⟨_,jj rfl⟩;rw [HB1.out] at q1 HD;rw [HB2.out] at q3 HD;cases is <;> cases b1 <;> cases b2
 all_goals
  go_wp2_with fail;go_ret;exact ⟨by rw [HD.out];rfl,by rw [HGX.out];exact HW4.out⟩
set_option maxRecDepth 100000 in
set_option maxHeartbeats 2000000 in
theorem cond3_any (w : World) (a : MA) (m : Mc) (p : Pr) (hm : McOk m) (hq : m.pipes.length ≤ 1099511627776) (hp : PrOk p) (hA : MAt w w.heap.size a m) :
  Calls Tryz.prog 105 #[.agg (mcL a m).toArray,.agg (prCells p).toArray] w fun e w' => e = .returned (.bool (c3B m p)) ∧ Below w.heap.size w w':=by
 have hs0:=(Whole.made w 30 (mcL a m).toArray).block (.cells (prCells p).toArray 64);have hs1:=Whole.made (w.alloc (.cells (mcL a m).toArray 30)) 64 (prCells p).toArray;rw [show (w.alloc (.cells (mcL a m).toArray 30)).heap.size = w.heap.size + 1 by simp] at hs1;have hb : Below w.heap.size w ((w.alloc (.cells (mcL a m).toArray 30)).alloc (.cells (prCells p).toArray 64)):=((Below.refl _ _).alloc (by first | exact Nat.le_refl _ | simp | (simp;omega)) _).alloc (by first | exact Nat.le_refl _ | simp | (simp;omega)) _;go_enter Tryz.func105,Tryz.ntmps105;go_upto_region 1 with (fail);change Code.wp _ _ _ _ ((w.alloc (.cells (mcL a m).toArray 30)).alloc (.cells (prCells p).toArray 64));generalize ((w.alloc (.cells (mcL a m).toArray 30)).alloc (.cells (prCells p).toArray 64)) = w1 at *;generalize hgx : w.heap.size = gx at *;have HGX:=jj hgx;have HS0:=jj hs0;have HS1:=jj hs1;have HW:=jj hb;have hgl : gx + 1 < w1.heap.size:=hs1.lt;clear hgx hb hs0 hs1;have HPO:=jj hp;have n95:=pr_n hp HS1.out;have LM:=jj HS0.out.reads;have MI : Hid ((Tryz.prog.info? 30).map (·.size) = some (mcL a m).length):=jj Tryz.sizeMc;have HA1:=jj ((hA.below HW.out).wide (B':=w1.heap.size) (by omega));have HM:=jj hm;have CX:=jj (piped_any w1 a m p.n hp.n hq HA1.out);obtain ⟨⟨⟨qi,qd⟩,is⟩,HXY⟩ : ∃ z,Hid (pipedR m p.n = z):=⟨_,jj rfl⟩;rw [HXY.out] at CX;clear hA hm;go_wp2_with (refine wpList_load_at rfl 30 (.tmp 2) rfl ⟨gx,0,none⟩ rfl (mcL a m) _ LM.out Tryz.underlying30 rfl MI.out ?_);refine CX.out.mono ?_;rintro e w2 ⟨rfl,hb2⟩;have HS2:=jj (HS0.out.below hb2 HS0.out.lt);have HW2:=jj (HW.out.trans (hb2.mono (by omega)));have HA2:=jj ((HA1.out.below hb2).wide hb2.size);have hg2 : gx ≤ w2.heap.size:=(by have:=HW2.out.size;have:=HGX.out;omega);clear hb2 CX n95 HS0 HS1 HW HA1 LM;go_upto_region 2 with (refine wpList_fresh rfl rfl 51 5 (.tmp 14) rfl rfl rfl rfl (nbCells1 (qi,qd)) rfl rfl _ Tryz.infoPi rfl (nb_one (qi,qd)) ?_);change Code.wp _ _ _ _ (w2.alloc (.cells (nbCells1 (qi,qd)).toArray 51));have HX:=jj (Whole.made w2 51 (nbCells1 (qi,qd)).toArray);have HW3:=jj (HW2.out.alloc hg2 (.cells (nbCells1 (qi,qd)).toArray 51));have HA3:=jj ((HA2.out.below ((Below.refl w2.heap.size w2).alloc (Nat.le_refl _) (.cells (nbCells1 (qi,qd)).toArray 51))).wide (B':=(w2.alloc (.cells (nbCells1 (qi,qd)).toArray 51)).heap.size) (by simp))
 have HS3:=jj (HS2.out.block (.cells (nbCells1 (qi,qd)).toArray 51));generalize w2.alloc (.cells (nbCells1 (qi,qd)).toArray 51) = w3 at *;generalize w2.heap.size = g2 at *;clear HS2 HW2 HA2;have y0 : w3.cell? ⟨g2,0,none⟩ = some (.int .i64 qi):=HX.out.cell 0;have CE:=jj (ends_any w3 a m HM.out HA3.out qi);obtain ⟨e4,HE4⟩ : ∃ z,Hid (endsM m.procs qi 4 = z):=⟨_,jj rfl⟩;obtain ⟨e5,HE5⟩ : ∃ z,Hid (endsM m.procs qi 5 = z):=⟨_,jj rfl⟩;rw [HE4.out,HE5.out] at CE;have LM:=jj HS3.out.reads;go_wp2_with (refine wpList_load_at rfl 30 (.tmp 2) rfl ⟨gx,0,none⟩ rfl (mcL a m) _ LM.out Tryz.underlying30 rfl MI.out ?_);refine CE.out.mono ?_;rintro e w4 ⟨rfl,hb4⟩;have HX4:=jj (HX.out.below hb4 HX.out.lt);have HW4:=jj (HW3.out.trans (hb4.mono (by have:=HW3.out.size;have:=HGX.out;omega)));have y1 : w4.cell? ⟨g2,1,none⟩ = some (S qd):=HX4.out.cell 1;have HD : Hid (c3B m p = ((!is || decide (qd.length < 64)) || decide (e4 = 0))):=jj (by unfold c3B;rw [HXY.out];show ((!is || _) || decide (endsM m.procs qi 4 = 0)) = _;rw [HE4.out]);clear hb4 CE y0 LM HA3 HS3 HX HW3;have q1 : decide ((qd.length : Int) < 64) = decide (qd.length < 64):=(by rw [Bool.eq_iff_iff];simp;omega);have q3 : ((e4 : Int) == 0) = decide (e4 = 0):=(by rw [Bool.eq_iff_iff];simp);obtain ⟨b1,HB1⟩ : ∃ z,Hid (decide (qd.length < 64) = z):=⟨_,jj rfl⟩;obtain ⟨b2,HB2⟩ : ∃ z,Hid (decide (e4 = 0) = z):=⟨_,jj rfl⟩;have q0 : decide (qd.length < 64) = b1:=HB1.out;rw [HB1.out] at q1 HD;rw [HB2.out] at q3 HD;cases is <;> cases b1 <;> cases b2
 all_goals
  go_wp2_with fail;go_ret;exact ⟨by rw [HD.out];rfl,by rw [HGX.out];exact HW4.out⟩
end Go.Proofs.YtnbphabheikfeaaGreatDoor
namespace Go.Proofs.YtnbphabheikfeaaGreatDoor
open Go.RowKit
def eligB (x : Pr) (parent n : Int) : Bool:=(x.parent == parent) && !(decide (0 < n) && (decide (x.pid < 0) || !(IntKind.u64.wrap x.pid == n)))
def c4B (m : Mc) (parent n : Int) : Bool:=m.procs.any (fun x => eligB x parent n && (x.state == 3)) || !m.procs.any (fun x => eligB x parent n)
theorem any_take {α : Type} {f : α → Bool} {l : List α} {k : Nat} {x : α} (h : l[k]? = some x) : (l.take (k + 1)).any f = ((l.take k).any f || f x):=by
 obtain ⟨hl,rfl⟩:=List.getElem?_eq_some_iff.1 h;rw [List.take_succ_eq_append_getElem hl,List.any_append];simp
theorem any_at {α : Type} {f : α → Bool} {l : List α} {k : Nat} {x : α} (h : l[k]? = some x) (hx : f x = true) : l.any f = true:=List.any_eq_true.2 ⟨x,List.mem_of_getElem? h,hx⟩
theorem pr_pid {p : Pr} {w : World} {g : Nat} (hw : Whole w g 64 (prCells p).toArray) : w.cell? ⟨g,0,none⟩ = some (.int .i64 p.pid) ∧ w.cell? ⟨g,1,none⟩ = some (.int .i64 p.parent) ∧ w.cell? ⟨g,2,none⟩ = some (.int .i64 p.state):=⟨hw.cell 0,hw.cell 1,hw.cell 2⟩
set_option maxRecDepth 100000 in
set_option maxHeartbeats 4000000 in
theorem child_any (w : World) (a : MA) (m : Mc) (hm : McOk m) (hA : MAt w w.heap.size a m) (parent n : Int) :
  Calls Tryz.prog 107 #[.agg (mcL a m).toArray,.int .i64 parent,.int .u64 n] w fun e w' => e = .returned (.bool (c4B m parent n)) ∧ Below w.heap.size w w':=by
 have hs0:=Whole.made w 30 (mcL a m).toArray;have hb : Below w.heap.size w (w.alloc (.cells (mcL a m).toArray 30)):=(Below.refl _ _).alloc (Nat.le_refl _) _;go_enter Tryz.func107,Tryz.ntmps107;go_upto_region 1 with (fail);change Code.wp _ _ _ _ (w.alloc (.cells (mcL a m).toArray 30));generalize (w.alloc (.cells (mcL a m).toArray 30)) = w1 at *;generalize hgx : w.heap.size = gx at *;have HGX:=jj hgx;have HS0:=jj hs0;have HW:=jj hb;have hgl : gx < w1.heap.size:=hs0.lt;clear hgx hb hs0;have HM:=jj hm;have m5 : w1.cell? ⟨gx,5,none⟩ = some (.slice a.P m.procs.length a.cP):=HS0.out.cell 5;have HA:=jj hA.P;clear hA hm;obtain ⟨AP,hAP⟩ : ∃ z,a.P = z:=⟨_,rfl⟩;rw [hAP] at m5 HA;clear hAP;go_wp2_with fail;clear m5 HS0
 go_loopw [7,13] (fun x i wr => ∃ (i' : Nat) (mt' : Bool),i' ≤ m.procs.length ∧ i = .int .i64 (i' : Int) ∧ x = .bool mt' ∧ Hid ((m.procs.take i').any (fun x => eligB x parent n) = mt' ∧ (m.procs.take i').any (fun x => eligB x parent n && (x.state == 3)) = false) ∧ Hid (Below gx w wr)) (fun _ i _ => m.procs.length - (intOf i).toNat)
 case atStart => exact ⟨0,false,by omega,rfl,rfl,jj ⟨rfl,rfl⟩,HW⟩
 case round =>
  clear HW;obtain ⟨i,mt,hi,rfl,rfl,HP0,HV0⟩:=hrel;by_cases hlt : i < m.procs.length
  ·obtain ⟨p,hx⟩:=dget_some hlt;have HPX:=jj hx;have HXO:=jj (HM.out.procs p (List.mem_of_getElem? hx));have hxl:=prCells_length HXO.out;obtain ⟨ad,rfl,had,hc⟩:=Lies.row (f:=prCells) (n:=96) HA.out (fun y hy => prCells_length (HM.out.procs y hy)) (by omega) hx;have LD : Hid (∀ j v,(prCells p)[j]? = some v → wr.cell? ((ad.add (i * 96)).add j) = some v):=jj fun j v hv => (HV0.out.cell (by rw [add_block,add_block];have:=HGX.out;omega)).trans (hc j v hv);have PIX : Hid ((Tryz.prog.info? 64).map (·.size) = some (prCells p).length):=jj (by rw [hxl];exact Tryz.sizePr);have PIZ : Hid ((Tryz.prog.info? 64).map (fun i => (i.zero,i.size)) = some (some (.agg (prCells zeroPr).toArray),(prCells p).length)):=jj (by rw [hxl];exact Tryz.infoPr);have PZS : Hid ((Value.agg (prCells zeroPr).toArray).cells.size = (prCells p).length):=jj (by rw [hxl];rfl);have HX:=jj (Whole.made wr 64 (prCells p).toArray);have hgs0 : gx ≤ wr.heap.size:=(by have:=HV0.out.size;have:=HGX.out;omega);have HV1:=jj (HV0.out.alloc hgs0 (.cells (prCells p).toArray 64));have q0 : (0 : Int) ≤ (i : Int):=(by omega);have q1 : (i : Int) < (m.procs.length : Int):=(by omega);clear hc hx hxl HV0
   go_upto_region 5 with (first
    | (refine wpList_load_at rfl 64 (.tmp 15) rfl (ad.add (i * 96)) rfl (prCells p) _ LD.out Tryz.underlying64 rfl PIX.out ?_)
    | (refine wpList_fresh rfl rfl 64 9 (.tmp 16) rfl rfl rfl rfl (prCells p) rfl rfl _ PIZ.out PZS.out prCells_one ?_))
   change Code.wp _ _ _ _ (wr.alloc (.cells (prCells p).toArray 64));clear LD PIZ PZS PIX q0 q1 hgs0;generalize wr.alloc (.cells (prCells p).toArray 64) = w2 at *;generalize wr.heap.size = g2 at *;obtain ⟨y0,y1,y2⟩:=pr_pid HX.out;have HT1:=jj (any_take (f:=fun x => eligB x parent n) HPX.out);have HT2:=jj (any_take (f:=fun x => eligB x parent n && (x.state == 3)) HPX.out);have HTA : Hid (eligB p parent n = true → (p.state == 3) = true → m.procs.any (fun x => eligB x parent n && (x.state == 3)) = true):=jj fun h1 h2 => any_at HPX.out (by rw [h1,h2];rfl);have HEL : Hid (eligB p parent n = ((p.parent == parent) && !(decide (0 < n) && (decide (p.pid < 0) || !(IntKind.u64.wrap p.pid == n))))):=jj rfl;obtain ⟨el,HE⟩ : ∃ z,Hid (eligB p parent n = z):=⟨_,jj rfl⟩;rw [HE.out] at HEL HT1 HT2 HTA;obtain ⟨st,HST⟩ : ∃ z,Hid (p.state = z):=⟨_,jj rfl⟩;rw [HST.out] at HT2 HTA y2;obtain ⟨b1,HB1⟩ : ∃ z,Hid ((p.parent == parent) = z):=⟨_,jj rfl⟩;obtain ⟨b2,HB2⟩ : ∃ z,Hid (decide (0 < n) = z):=⟨_,jj rfl⟩;obtain ⟨b3,HB3⟩ : ∃ z,Hid (decide (p.pid < 0) = z):=⟨_,jj rfl⟩;obtain ⟨b4,HB4⟩ : ∃ z,Hid ((IntKind.u64.wrap p.pid == n) = z):=⟨_,jj rfl⟩;rw [HB1.out,HB2.out,HB3.out,HB4.out] at HEL;clear HE HST HPX
   try simp only [Act.put,List.setIfInBounds_toArray,List.set_cons_zero,List.set_cons_succ]
   go_cut [36] from 17 to 36 (fun v wc => v = .bool (!el) ∧ wc = w2)
   case first =>
    as_aux_lemma =>
    have r1:=HB1.out;have r2:=HB2.out;have r3:=HB3.out;have r4:=HB4.out;have r5:=HEL.out;have r6 : (p.parent != parent) = !b1:=(by rw [← r1];rfl);have r7 : (IntKind.u64.wrap p.pid != n) = !b4:=(by rw [← r4];rfl);clear HB1 HB2 HB3 HB4 HEL;cases b1 <;> cases b2 <;> cases b3 <;> cases b4
    all_goals
     simp only [Bool.not_true,Bool.not_false] at r6 r7;go_wp2_with fail
     go_meet
     case rel => exact ⟨by rw [r5];rfl,rfl⟩
   case rest =>
   as_aux_lemma =>
   obtain ⟨rfl,hwc⟩:=hcut;subst hwc;have HVc:=HV1;have hl : m.procs.length ≤ 1099511627776:=(by have:=HM.out.sizes.2.1;omega);clear HB1 HB2 HB3 HB4 HEL HV1 y0 y1;cases el with
   | false =>
    have HQ : Hid ((m.procs.take (i + 1)).any (fun x => eligB x parent n) = mt ∧ (m.procs.take (i + 1)).any (fun x => eligB x parent n && (x.state == 3)) = false):=jj ⟨by rw [HT1.out,HP0.out.1,Bool.or_false],by rw [HT2.out,HP0.out.2];rfl⟩;clear HT1 HT2 HTA HP0;go_wp2_with fail
    go_roundw
    case rel =>
     have R : ∃ (i' : Nat) (mt' : Bool),i' ≤ m.procs.length ∧ Value.int .i64 ((i : Int) + 1) = .int .i64 (i' : Int) ∧ Value.bool mt = .bool mt' ∧ Hid ((m.procs.take i').any (fun x => eligB x parent n) = mt' ∧ (m.procs.take i').any (fun x => eligB x parent n && (x.state == 3)) = false) ∧ Hid (Below gx w wc):=⟨i + 1,mt,by omega,by go_num,rfl,HQ,HVc⟩
     first | exact R | ((repeat apply Exists.intro);exact ⟨R,rfl⟩)
    case measure => simp [intOf];omega
   | true =>
    obtain ⟨b5,HB5⟩ : ∃ z,Hid ((st == 3) = z):=⟨_,jj rfl⟩;have h3 : (st == 3) = b5:=HB5.out;clear HB5;cases b5 with
    | true => have HR : Hid (c4B m parent n = true):=jj (by unfold c4B;rw [HTA.out rfl h3];rfl);go_wp2_with fail;go_ret;exact ⟨by rw [HR.out];rfl,by rw [HGX.out];exact HVc.out⟩
    | false =>
     have HQ : Hid ((m.procs.take (i + 1)).any (fun x => eligB x parent n) = true ∧ (m.procs.take (i + 1)).any (fun x => eligB x parent n && (x.state == 3)) = false):=jj ⟨by rw [HT1.out,Bool.or_true],by rw [HT2.out,HP0.out.2,h3];rfl⟩;clear HT1 HT2 HTA HP0;go_wp2_with fail
     go_roundw
     case rel =>
      have R : ∃ (i' : Nat) (mt' : Bool),i' ≤ m.procs.length ∧ Value.int .i64 ((i : Int) + 1) = .int .i64 (i' : Int) ∧ Value.bool true = .bool mt' ∧ Hid ((m.procs.take i').any (fun x => eligB x parent n) = mt' ∧ (m.procs.take i').any (fun x => eligB x parent n && (x.state == 3)) = false) ∧ Hid (Below gx w wc):=⟨i + 1,true,by omega,by go_num,rfl,HQ,HVc⟩
      first | exact R | ((repeat apply Exists.intro);exact ⟨R,rfl⟩)
     case measure => simp [intOf];omega
  ·obtain rfl : i = m.procs.length:=(by omega);have hd : decide (m.procs.length < m.procs.length) = false:=(by simp);have HQ : Hid (c4B m parent n = !mt):=jj (by have:=HP0.out;rw [List.take_length] at this;unfold c4B;rw [this.1,this.2];rfl);go_wp2_with fail;go_ret;exact ⟨by rw [HQ.out];rfl,by rw [HGX.out];exact HV0.out⟩
set_option maxRecDepth 100000 in
set_option maxHeartbeats 2000000 in
theorem cond4_any (w : World) (a : MA) (m : Mc) (p : Pr) (hm : McOk m) (hp : PrOk p) (hA : MAt w w.heap.size a m) :
  Calls Tryz.prog 106 #[.agg (mcL a m).toArray,.agg (prCells p).toArray] w fun e w' => e = .returned (.bool (c4B m p.pid p.n)) ∧ Below w.heap.size w w':=by
 have hs0:=(Whole.made w 30 (mcL a m).toArray).block (.cells (prCells p).toArray 64);have hs1:=Whole.made (w.alloc (.cells (mcL a m).toArray 30)) 64 (prCells p).toArray;rw [show (w.alloc (.cells (mcL a m).toArray 30)).heap.size = w.heap.size + 1 by simp] at hs1;have hb : Below w.heap.size w ((w.alloc (.cells (mcL a m).toArray 30)).alloc (.cells (prCells p).toArray 64)):=((Below.refl _ _).alloc (by first | exact Nat.le_refl _ | simp | (simp;omega)) _).alloc (by first | exact Nat.le_refl _ | simp | (simp;omega)) _;go_enter Tryz.func106,Tryz.ntmps106;go_upto_region 1 with (fail);change Code.wp _ _ _ _ ((w.alloc (.cells (mcL a m).toArray 30)).alloc (.cells (prCells p).toArray 64));generalize ((w.alloc (.cells (mcL a m).toArray 30)).alloc (.cells (prCells p).toArray 64)) = w1 at *;generalize hgx : w.heap.size = gx at *;have HGX:=jj hgx;have HS0:=jj hs0;have HS1:=jj hs1;have HW:=jj hb;have hgl : gx + 1 < w1.heap.size:=hs1.lt;clear hgx hb hs0 hs1;obtain ⟨p0,-,-⟩:=pr_pid HS1.out;have n95:=pr_n hp HS1.out;have LM:=jj HS0.out.reads;have MI : Hid ((Tryz.prog.info? 30).map (·.size) = some (mcL a m).length):=jj Tryz.sizeMc;have HA1:=jj ((hA.below HW.out).wide (B':=w1.heap.size) (by omega));have CX:=jj (child_any w1 a m hm HA1.out p.pid p.n);clear hA hm hp;go_wp2_with (refine wpList_load_at rfl 30 (.tmp 2) rfl ⟨gx,0,none⟩ rfl (mcL a m) _ LM.out Tryz.underlying30 rfl MI.out ?_);refine CX.out.mono ?_;rintro e w2 ⟨rfl,hb2⟩;have HW2:=jj (HW.out.trans (hb2.mono (by omega)));clear hb2 CX p0 n95 HS0 HS1 HW HA1 LM;go_wp2_with fail;go_ret;exact ⟨rfl,by rw [HGX.out];exact HW2.out⟩
set_option maxRecDepth 100000 in
set_option maxHeartbeats 2000000 in
theorem cond5_any (w : World) (a : MA) (m : Mc) (p : Pr) (hp : PrOk p) :
  Calls Tryz.prog 108 #[.agg (mcL a m).toArray,.agg (prCells p).toArray] w fun e w' => e = .returned (.bool (decide (m.clock ≥ p.n))) ∧ Below w.heap.size w w':=by
 have hs0:=(Whole.made w 30 (mcL a m).toArray).block (.cells (prCells p).toArray 64);have hs1:=Whole.made (w.alloc (.cells (mcL a m).toArray 30)) 64 (prCells p).toArray;rw [show (w.alloc (.cells (mcL a m).toArray 30)).heap.size = w.heap.size + 1 by simp] at hs1;have hb : Below w.heap.size w ((w.alloc (.cells (mcL a m).toArray 30)).alloc (.cells (prCells p).toArray 64)):=((Below.refl _ _).alloc (by first | exact Nat.le_refl _ | simp | (simp;omega)) _).alloc (by first | exact Nat.le_refl _ | simp | (simp;omega)) _;go_enter Tryz.func108,Tryz.ntmps108;go_upto_region 1 with (fail);change Code.wp _ _ _ _ ((w.alloc (.cells (mcL a m).toArray 30)).alloc (.cells (prCells p).toArray 64));generalize ((w.alloc (.cells (mcL a m).toArray 30)).alloc (.cells (prCells p).toArray 64)) = w1 at *;generalize hgx : w.heap.size = gx at *;have HGX:=jj hgx;have HS0:=jj hs0;have HS1:=jj hs1;have HW:=jj hb;have hgl : gx + 1 < w1.heap.size:=hs1.lt;clear hgx hb hs0 hs1;have n95:=pr_n hp HS1.out;have c4 : w1.cell? ⟨gx,0,none⟩ = some (.int .u64 m.clock):=HS0.out.cell 0;go_wp2_with fail;go_ret;exact ⟨rfl,by rw [HGX.out];exact HW.out⟩
end Go.Proofs.YtnbphabheikfeaaGreatDoor
namespace Go.Proofs.YtnbphabheikfeaaGreatDoor
open Go.RowKit
def condF (n : Int) : Value:=if n = 1 then funV 101 else if n = 2 then funV 102 else if n = 3 then funV 105 else if n = 4 then funV 106 else if n = 5 then funV 108 else .nilFunc
def condOk (n : Int) : Bool:=decide (n = 1) || decide (n = 2) || decide (n = 3) || decide (n = 4) || decide (n = 5)
theorem cond_cases (n : Int) : (n = 1 ∧ condF n = funV 101 ∧ condOk n = true) ∨ (n = 2 ∧ condF n = funV 102 ∧ condOk n = true) ∨ (n = 3 ∧ condF n = funV 105 ∧ condOk n = true) ∨ (n = 4 ∧ condF n = funV 106 ∧ condOk n = true) ∨ (n = 5 ∧ condF n = funV 108 ∧ condOk n = true) ∨ (n ≠ 1 ∧ n ≠ 2 ∧ n ≠ 3 ∧ n ≠ 4 ∧ n ≠ 5 ∧ condOk n = false):=by
 by_cases h1 : n = 1
 ·subst h1;exact .inl ⟨rfl,rfl,rfl⟩
 by_cases h2 : n = 2
 ·subst h2;exact .inr (.inl ⟨rfl,rfl,rfl⟩)
 by_cases h3 : n = 3
 ·subst h3;exact .inr (.inr (.inl ⟨rfl,rfl,rfl⟩))
 by_cases h4 : n = 4
 ·subst h4;exact .inr (.inr (.inr (.inl ⟨rfl,rfl,rfl⟩)))
 by_cases h5 : n = 5
 ·subst h5;exact .inr (.inr (.inr (.inr (.inl ⟨rfl,rfl,rfl⟩))))
 exact .inr (.inr (.inr (.inr (.inr ⟨h1,h2,h3,h4,h5,by simp [condOk,h1,h2,h3,h4,h5]⟩))))
theorem find_cond (n : Int) : Instr.findNow (.int .i64) (.int .i64 n) condL 0 = some (if condOk n = true then some ((n - 1).toNat,condF n) else none):=by
 rcases cond_cases n with ⟨rfl,-,-⟩ | ⟨rfl,-,-⟩ | ⟨rfl,-,-⟩ | ⟨rfl,-,-⟩ | ⟨rfl,-,-⟩ | ⟨h1,h2,h3,h4,h5,hk⟩
 ·rfl
 ·rfl
 ·rfl
 ·rfl
 ·rfl
 ·simp [hk,Instr.findNow,Instr.sameNow,condL,beq_eq_false_iff_ne.2 h1,beq_eq_false_iff_ne.2 h2,beq_eq_false_iff_ne.2 h3,beq_eq_false_iff_ne.2 h4,beq_eq_false_iff_ne.2 h5]
theorem look_cond {P : Program} {t kt e : TypeId} (ht : P.underlying t = some (.map kt e)) (hk : P.underlying kt = some (.int .i64)) (hz : ∀ w,(zeroValue e).run P w = .ok .nilFunc w) (w : World) (b : Nat) (n : Int) (hb : w.heap[b]? = some (.map condL.toArray 5)) :
  (Instr.lookup t (.map (some b)) (.int .i64 n) true).run P w = .ok (.tuple #[condF n,.bool (condOk n)]) w:=by
 have hg : (getObj b).run P w = .ok (.map condL.toArray 5) w:=(by simp [getObj,Sem.run,hb]);cases hc : condOk n with
 | true => simp [Instr.lookup,run_underlying ht,hg,run_key hk,Instr.findKey,run_underlying hk,find_cond,hc]
 | false =>
  have hf : condF n = .nilFunc:=by
   rcases cond_cases n with ⟨-,-,h⟩ | ⟨-,-,h⟩ | ⟨-,-,h⟩ | ⟨-,-,h⟩ | ⟨-,-,h⟩ | ⟨h1,h2,h3,h4,h5,-⟩
   ·rw [hc] at h;cases h
   ·rw [hc] at h;cases h
   ·rw [hc] at h;cases h
   ·rw [hc] at h;cases h
   ·rw [hc] at h;cases h
   ·simp [condF,h1,h2,h3,h4,h5]
  simp [Instr.lookup,run_underlying ht,hg,run_key hk,Instr.findKey,run_underlying hk,find_cond,hc,hz,hf]
def couldB (m : Mc) (p : Pr) : Bool:=(p.state == 2) && (if p.why = 1 then c1B m else if p.why = 2 then c2B m p else if p.why = 3 then c3B m p else if p.why = 4 then c4B m p.pid p.n else if p.why = 5 then decide (m.clock ≥ p.n) else false)
theorem zeroF_run (w : World) : (zeroValue 65).run Tryz.prog w = .ok .nilFunc w:=by
 have h : (Tryz.prog.info? 65).map (fun i => i.zero) = some (some .nilFunc):=(by kernel_rfl);obtain ⟨i0,hi0,hz0⟩:=Option.map_eq_some_iff.1 h;simp [zeroValue,typeInfo,hi0,hz0]
set_option maxRecDepth 100000 in
set_option maxHeartbeats 4000000 in
theorem could_any (w : World) (a : MA) (m : Mc) (p : Pr) (hm : McOk m) (hq : m.pipes.length ≤ 1099511627776) (hp : PrOk p) (hA : MAt w w.heap.size a m) :
  Calls Tryz.prog 34 #[.agg (mcL a m).toArray,.agg (prCells p).toArray] w fun e w' => e = .returned (.bool (couldB m p)) ∧ Below w.heap.size w w':=by
 have hs0:=(Whole.made w 30 (mcL a m).toArray).block (.cells (prCells p).toArray 64);have hs1:=Whole.made (w.alloc (.cells (mcL a m).toArray 30)) 64 (prCells p).toArray;rw [show (w.alloc (.cells (mcL a m).toArray 30)).heap.size = w.heap.size + 1 by simp] at hs1;have hb : Below w.heap.size w ((w.alloc (.cells (mcL a m).toArray 30)).alloc (.cells (prCells p).toArray 64)):=((Below.refl _ _).alloc (by first | exact Nat.le_refl _ | simp | (simp;omega)) _).alloc (by first | exact Nat.le_refl _ | simp | (simp;omega)) _;go_enter Tryz.func34,Tryz.ntmps34;go_upto_region 1 with (fail);change Code.wp _ _ _ _ ((w.alloc (.cells (mcL a m).toArray 30)).alloc (.cells (prCells p).toArray 64));generalize ((w.alloc (.cells (mcL a m).toArray 30)).alloc (.cells (prCells p).toArray 64)) = w1 at *;generalize hgx : w.heap.size = gx at *;have HGX:=jj hgx;have HS0:=jj hs0;have HS1:=jj hs1;have HW:=jj hb;have hgl : gx + 1 < w1.heap.size:=hs1.lt;clear hgx hb hs0 hs1;have n94:=pr_why hp HS1.out;have HS2:=pr_pid HS1.out;obtain ⟨-,-,s2⟩:=HS2;have HM:=jj hm;have HQ:=jj hq;have HP:=jj hp;have MI : Hid ((Tryz.prog.info? 30).map (·.size) = some (mcL a m).length):=jj Tryz.sizeMc;have PI : Hid ((Tryz.prog.info? 64).map (·.size) = some (prCells p).length):=jj (by rw [prCells_length hp];exact Tryz.sizePr);have HA1:=jj ((hA.below HW.out).wide (B':=w1.heap.size) (by omega));have HC : Hid (∀ W,Below w1.heap.size w1 W → W.cell? ⟨gx + 1,94,none⟩ = some (.int .i64 p.why)):=jj fun W hW => pr_why hp (HS1.out.below hW HS1.out.lt);have CC : Hid (∀ W,Calls Tryz.prog 75 #[] W fun e w' => (∃ v,e = .returned v ∧ (fun (_ : Nat) (v : Value) (W : World) => ∃ b : Nat,v = .map (some b) ∧ W.heap[b]? = some (.map condL.toArray 5)) 0 v w') ∧ Below W.heap.size W w'):=jj fun W => (cond_any W).mono fun e w' ⟨⟨b,h1,h2⟩,h3⟩ => ⟨⟨_,h1,b,rfl,h2⟩,h3⟩;have HST : Hid (∀ (j : Nat) v W W',(fun (_ : Nat) (v : Value) (W : World) => ∃ b : Nat,v = .map (some b) ∧ W.heap[b]? = some (.map condL.toArray 5)) j v W → Below W.heap.size W W' → (fun (_ : Nat) (v : Value) (W : World) => ∃ b : Nat,v = .map (some b) ∧ W.heap[b]? = some (.map condL.toArray 5)) j v W'):=jj fun j v W W' ⟨b,h1,h2⟩ hb => ⟨b,h1,(hb.block b (Array.getElem?_eq_some_iff.1 h2).1).trans h2⟩;have HZ : Hid (∀ w,(zeroValue 65).run Tryz.prog w = .ok .nilFunc w):=jj fun w => zeroF_run w;obtain ⟨fv,HFV⟩ : ∃ z,Hid (condF p.why = z):=⟨_,jj rfl⟩
 obtain ⟨kb,HKB⟩ : ∃ z,Hid (condOk p.why = z):=⟨_,jj rfl⟩;clear hA hm hq hp;cases hs2 : (p.state == 2) with
 | false => have hs3 : (p.state != 2) = true:=(by rw [bne,hs2];rfl);have HD : Hid (couldB m p = false):=jj (by unfold couldB;rw [hs2,Bool.false_and]);clear n94;go_wp2_with fail;go_ret;exact ⟨by rw [HD.out];rfl,by rw [HGX.out];exact HW.out⟩
 | true =>
 have hs3 : (p.state != 2) = false:=(by rw [bne,hs2];rfl);go_upto_region 3 with (fail);refine' wp_region_sureX (by kernel_rfl) (PostX w1 [(0,11)] (fun (_ : Nat) (v : Value) (W : World) => ∃ b : Nat,v = .map (some b) ∧ W.heap[b]? = some (.map condL.toArray 5))) 9 [none,some _,some _,some _,some _,some _,some _,some _,some _] [some 11,some 12,some 13,some 14,some 10,some 15,some 16,some 5,some 6] (by kernel_rfl) (by kernel_rfl) (by kernel_rfl) (by kernel_rfl) rfl (PostX.init (Below.refl _ _).drew) ?hs3
 case hs3 =>
  refine sureX_cons ?_ ?_
  ·intro L ac W K hLi hed hJ hX hK;have hS:=hX.1;have hsz:=jj hJ.size;clear hLi hed hJ;refine opStep_of rfl ?_;unfold Oper.wp execOp;go_simp;refine (CC.out W).mono ?_;rintro e W' ⟨⟨v,rfl,hv⟩,hb⟩;have hX2:=hX.made (j:=0) (s:=11) HST.out hb rfl (by rw [hsz.out];exact of_decide_eq_true rfl) hv;dsimp only;refine hK _ W' ?_ hX2;exact Knows.free _
  refine sureX_cons ?_ ?_
  ·intro L ac W K hLi hed hJ hX hK;have hS:=hX.1;have hA3 : ac.eval (.tmp 3) = .pointer (some ⟨gx + 1,0,none⟩):=hJ.eval_old 3 (by kernel_rfl);have hsz:=jj hJ.size;clear hLi hed hJ;refine opStep_of rfl ?_;unfold Oper.wp execOp;have hN3:=evalN hA3;go_simp;refine hK _ _ ?_ (hX.step HST.out (Below.refl _ _) rfl rfl);exact Knows.known _
  refine sureX_cons ?_ ?_
  ·intro L ac W K hLi hed hJ hX hK;have hS:=hX.1;have hn:=needs_spec (l:=[1]) (by kernel_rfl) hed;have hA12:=hJ.eval 1 (d:=12) (hn 1 (by simp)) rfl rfl rfl;have hsz:=jj hJ.size;clear hLi hed hJ hn;refine opStep_of rfl ?_;have n94:=HC.out W hS;unfold Oper.wp execOp;have hN12:=evalN hA12;go_simp;refine hK _ _ ?_ (hX.step HST.out (Below.refl _ _) rfl rfl);exact Knows.known _
  refine sureX_cons ?_ ?_
  ·intro L ac W K hLi hed hJ hX hK;have hS:=hX.1;have hn:=needs_spec (l:=[0,2]) (by kernel_rfl) hed;have hF11:=hX.2 (0,11) (by simp) (hn 0 (by simp));have hA13:=hJ.eval 2 (d:=13) (hn 2 (by simp)) rfl rfl rfl;have hsz:=jj hJ.size;clear hLi hed hJ hn;refine opStep_of rfl ?_;obtain ⟨b,hA11,hb⟩:=hF11;have hl:=look_cond Tryz.underlying134 Tryz.underlying3 HZ.out W b p.why hb;rw [HFV.out,HKB.out] at hl;unfold Oper.wp execOp;have hN11:=evalN hA11;have hN13:=evalN hA13;go_simp;refine hK _ _ ?_ (hX.step HST.out (Below.refl _ _) rfl rfl);exact Knows.known _
  refine sureX_cons ?_ ?_
  ·intro L ac W K hLi hed hJ hX hK;have hS:=hX.1;have hn:=needs_spec (l:=[3]) (by kernel_rfl) hed;have hA14:=hJ.eval 3 (d:=14) (hn 3 (by simp)) rfl rfl rfl;have hsz:=jj hJ.size;clear hLi hed hJ hn;refine opStep_of rfl ?_;unfold Oper.wp execOp;have hN14:=evalN hA14;go_simp;refine hK _ _ ?_ (hX.step HST.out (Below.refl _ _) rfl rfl);exact Knows.known _
  refine sureX_cons ?_ ?_
  ·intro L ac W K hLi hed hJ hX hK;have hS:=hX.1;have hn:=needs_spec (l:=[4]) (by kernel_rfl) hed;have hA10:=hJ.eval 4 (d:=10) (hn 4 (by simp)) rfl rfl rfl;have hsz:=jj hJ.size;clear hLi hed hJ hn;refine opStep_of rfl ?_;unfold Oper.wp execOp;have hN10:=evalN hA10;go_simp;refine hK _ _ ?_ (hX.step HST.out (Below.refl _ _) rfl rfl);exact Knows.known _
  refine sureX_cons ?_ ?_
  ·intro L ac W K hLi hed hJ hX hK;have hS:=hX.1;have hn:=needs_spec (l:=[4]) (by kernel_rfl) hed;have hA10:=hJ.eval 4 (d:=10) (hn 4 (by simp)) rfl rfl rfl;have hsz:=jj hJ.size;clear hLi hed hJ hn;refine opStep_of rfl ?_;unfold Oper.wp execOp;have hN10:=evalN hA10;go_simp;refine hK _ _ ?_ (hX.step HST.out (Below.refl _ _) rfl rfl);exact Knows.known _
  refine sureX_cons ?_ ?_
  ·intro L ac W K hLi hed hJ hX hK;have hS:=hX.1;have hn:=needs_spec (l:=[5]) (by kernel_rfl) hed;have hA15:=hJ.eval 5 (d:=15) (hn 5 (by simp)) rfl rfl rfl;have hsz:=jj hJ.size;clear hLi hed hJ hn;refine opStep_of rfl ?_;unfold Oper.wp execOp;have hN15:=evalN hA15;go_simp;refine hK _ _ ?_ (hX.step HST.out (Below.refl _ _) rfl rfl);exact Knows.known _
  refine sureX_cons ?_ ?_
  ·intro L ac W K hLi hed hJ hX hK;have hS:=hX.1;have hn:=needs_spec (l:=[6]) (by kernel_rfl) hed;have hA16:=hJ.eval 6 (d:=16) (hn 6 (by simp)) rfl rfl rfl;have hsz:=jj hJ.size;clear hLi hed hJ hn;refine opStep_of rfl ?_;unfold Oper.wp execOp;have hN16:=evalN hA16;go_simp;refine hK _ _ ?_ (hX.step HST.out (Below.refl _ _) rfl rfl);exact Knows.known _
  refine sureX_nil ?_;intro L ac W hL hX ha;have hS:=hX.1;have hF11:=hX.2 (0,11) (by simp) (hL 0 (by omega));rw [ha];simp only [mendAll,Option.getD_some,Option.getD_none,Option.map_some,putAll,Act.put,List.setIfInBounds_toArray,List.set_cons_zero,List.set_cons_succ];change ((fun (_ : Nat) (v : Value) (W : World) => ∃ b : Nat,v = .map (some b) ∧ W.heap[b]? = some (.map condL.toArray 5))) 0 (ac.tmps.getD 11 undef) W at hF11;generalize ac.tmps.getD 11 undef = us11 at *;clear ha hX hL;have HV:=jj (HW.out.trans (hS.mono (by omega)));have HSM:=jj (HS0.out.below hS (by omega));have HSP:=jj (HS1.out.below hS HS1.out.lt);have HA2:=jj ((HA1.out.below hS).wide hS.size);have hgw : gx ≤ W.heap.size:=(by have:=HV.out.size;have:=HGX.out;omega);clear hS hF11 HS0 HS1 HW HA1 n94 s2 HC;have LM:=jj HSM.out.reads;have LP:=jj HSP.out.reads;rcases cond_cases p.why with ⟨hn,hf,hk⟩ | ⟨hn,hf,hk⟩ | ⟨hn,hf,hk⟩ | ⟨hn,hf,hk⟩ | ⟨hn,hf,hk⟩ | ⟨h1,h2,h3,h4,h5,hk⟩
  ·obtain rfl : fv = .func (.func 101) #[] #[]:=HFV.out.symm.trans hf;obtain rfl : kb = true:=HKB.out.symm.trans hk;have HD : Hid (couldB m p = (c1B m)):=jj (by unfold couldB;rw [hs2,hn];rfl);have CX:=jj (cond1_any W a m p);clear hn hf hk HFV HKB HA2 HM HQ HP
   go_wp2_with (first
    | (refine wpList_load_g (o:=⟨some 20,_,_,_,_,_⟩) rfl 30 (.tmp 2) rfl ⟨gx,0,none⟩ rfl (mcL a m) _ LM.out Tryz.underlying30 rfl MI.out ?_)
    | (refine wpList_load_g (o:=⟨some 21,_,_,_,_,_⟩) rfl 64 (.tmp 3) rfl ⟨gx + 1,0,none⟩ rfl (prCells p) _ LP.out Tryz.underlying64 rfl PI.out ?_))
   refine CX.out.mono ?_;rintro e w2 ⟨rfl,hb2⟩;have HV2:=jj (HV.out.trans (hb2.mono (by have:=HV.out.size;have:=HGX.out;omega)));clear hb2 CX HSM HSP LM LP HV;go_wp2_with fail;go_ret;exact ⟨by rw [HD.out];rfl,by rw [HGX.out];exact HV2.out⟩
  ·obtain rfl : fv = .func (.func 102) #[] #[]:=HFV.out.symm.trans hf;obtain rfl : kb = true:=HKB.out.symm.trans hk;have HD : Hid (couldB m p = (c2B m p)):=jj (by unfold couldB;rw [hs2,hn];rfl);have CX:=jj (cond2_any W a m p HM.out HQ.out HP.out HA2.out);clear hn hf hk HFV HKB HA2 HM HQ HP
   go_wp2_with (first
    | (refine wpList_load_g (o:=⟨some 20,_,_,_,_,_⟩) rfl 30 (.tmp 2) rfl ⟨gx,0,none⟩ rfl (mcL a m) _ LM.out Tryz.underlying30 rfl MI.out ?_)
    | (refine wpList_load_g (o:=⟨some 21,_,_,_,_,_⟩) rfl 64 (.tmp 3) rfl ⟨gx + 1,0,none⟩ rfl (prCells p) _ LP.out Tryz.underlying64 rfl PI.out ?_))
   refine CX.out.mono ?_;rintro e w2 ⟨rfl,hb2⟩;have HV2:=jj (HV.out.trans (hb2.mono (by have:=HV.out.size;have:=HGX.out;omega)));clear hb2 CX HSM HSP LM LP HV;go_wp2_with fail;go_ret;exact ⟨by rw [HD.out];rfl,by rw [HGX.out];exact HV2.out⟩
  ·obtain rfl : fv = .func (.func 105) #[] #[]:=HFV.out.symm.trans hf;obtain rfl : kb = true:=HKB.out.symm.trans hk;have HD : Hid (couldB m p = (c3B m p)):=jj (by unfold couldB;rw [hs2,hn];rfl);have CX:=jj (cond3_any W a m p HM.out HQ.out HP.out HA2.out);clear hn hf hk HFV HKB HA2 HM HQ HP
   go_wp2_with (first
    | (refine wpList_load_g (o:=⟨some 20,_,_,_,_,_⟩) rfl 30 (.tmp 2) rfl ⟨gx,0,none⟩ rfl (mcL a m) _ LM.out Tryz.underlying30 rfl MI.out ?_)
    | (refine wpList_load_g (o:=⟨some 21,_,_,_,_,_⟩) rfl 64 (.tmp 3) rfl ⟨gx + 1,0,none⟩ rfl (prCells p) _ LP.out Tryz.underlying64 rfl PI.out ?_))
   refine CX.out.mono ?_;rintro e w2 ⟨rfl,hb2⟩;have HV2:=jj (HV.out.trans (hb2.mono (by have:=HV.out.size;have:=HGX.out;omega)));clear hb2 CX HSM HSP LM LP HV;go_wp2_with fail;go_ret;exact ⟨by rw [HD.out];rfl,by rw [HGX.out];exact HV2.out⟩
  ·obtain rfl : fv = .func (.func 106) #[] #[]:=HFV.out.symm.trans hf;obtain rfl : kb = true:=HKB.out.symm.trans hk;have HD : Hid (couldB m p = (c4B m p.pid p.n)):=jj (by unfold couldB;rw [hs2,hn];rfl);have CX:=jj (cond4_any W a m p HM.out HP.out HA2.out);clear hn hf hk HFV HKB HA2 HM HQ HP
   go_wp2_with (first
    | (refine wpList_load_g (o:=⟨some 20,_,_,_,_,_⟩) rfl 30 (.tmp 2) rfl ⟨gx,0,none⟩ rfl (mcL a m) _ LM.out Tryz.underlying30 rfl MI.out ?_)
    | (refine wpList_load_g (o:=⟨some 21,_,_,_,_,_⟩) rfl 64 (.tmp 3) rfl ⟨gx + 1,0,none⟩ rfl (prCells p) _ LP.out Tryz.underlying64 rfl PI.out ?_))
   refine CX.out.mono ?_;rintro e w2 ⟨rfl,hb2⟩;have HV2:=jj (HV.out.trans (hb2.mono (by have:=HV.out.size;have:=HGX.out;omega)));clear hb2 CX HSM HSP LM LP HV;go_wp2_with fail;go_ret;exact ⟨by rw [HD.out];rfl,by rw [HGX.out];exact HV2.out⟩
  ·obtain rfl : fv = .func (.func 108) #[] #[]:=HFV.out.symm.trans hf;obtain rfl : kb = true:=HKB.out.symm.trans hk;have HD : Hid (couldB m p = (decide (m.clock ≥ p.n))):=jj (by unfold couldB;rw [hs2,hn];rfl);have CX:=jj (cond5_any W a m p HP.out);clear hn hf hk HFV HKB HA2 HM HQ HP
   go_wp2_with (first
    | (refine wpList_load_g (o:=⟨some 20,_,_,_,_,_⟩) rfl 30 (.tmp 2) rfl ⟨gx,0,none⟩ rfl (mcL a m) _ LM.out Tryz.underlying30 rfl MI.out ?_)
    | (refine wpList_load_g (o:=⟨some 21,_,_,_,_,_⟩) rfl 64 (.tmp 3) rfl ⟨gx + 1,0,none⟩ rfl (prCells p) _ LP.out Tryz.underlying64 rfl PI.out ?_))
   refine CX.out.mono ?_;rintro e w2 ⟨rfl,hb2⟩;have HV2:=jj (HV.out.trans (hb2.mono (by have:=HV.out.size;have:=HGX.out;omega)));clear hb2 CX HSM HSP LM LP HV;go_wp2_with fail;go_ret;exact ⟨by rw [HD.out];rfl,by rw [HGX.out];exact HV2.out⟩
  ·obtain rfl : kb = false:=HKB.out.symm.trans hk;have HD : Hid (couldB m p = false):=jj (by unfold couldB;rw [if_neg h1,if_neg h2,if_neg h3,if_neg h4,if_neg h5,Bool.and_false]);clear h1 h2 h3 h4 h5 hk HFV HKB HA2 HM HQ HP HSM HSP LM LP;go_wp2_with fail;go_ret;exact ⟨by rw [HD.out];rfl,by rw [HGX.out];exact HV.out⟩
end Go.Proofs.YtnbphabheikfeaaGreatDoor
namespace Go.Proofs.YtnbphabheikfeaaGreatDoor
open Go.RowKit
def prH (p : Pr) : List Value:=.int .i64 p.pid :: .int .i64 p.parent :: .int .i64 p.state :: (rgCells p.regs ++ (.int .u32 p.pc :: (pgCells p.space ++ flCells p.fds)))
theorem pr_split (p : Pr) : prCells p = prH p ++ [.bool p.mask,.int .u32 p.code,.int .i64 p.why,.int .u64 p.n]:=by simp [prCells,prH,List.append_assoc]
theorem prH_length {p : Pr} (h : PrOk p) : (prH p).length = 92:=by simp [prH,rgCells,pgCells_length,flCells_length,h.regs,h.space,h.fds]
theorem pr_set2 (p : Pr) (v : Int) : (prCells p).set 2 (.int .i64 v) = prCells { p with state:=v }:=rfl
theorem pr_set94 {p : Pr} (h : PrOk p) (v : Int) : (prCells p).set 94 (.int .i64 v) = prCells { p with why:=v }:=by
 rw [pr_split p,List.set_append_right _ _ (by rw [prH_length h];decide),prH_length h,pr_split { p with why:=v }];rfl
theorem pr_set95 {p : Pr} (h : PrOk p) (v : Int) : (prCells p).set 95 (.int .u64 v) = prCells { p with n:=v }:=by
 rw [pr_split p,List.set_append_right _ _ (by rw [prH_length h];decide),prH_length h,pr_split { p with n:=v }];rfl
theorem prs_set {l : List Pr} (hl : ∀ x ∈ l,(prCells x).length = 96) {k j : Nat} {x y : Pr} {v : Value} (hk : l[k]? = some x) (hx : (prCells x).set j v = prCells y) (hj : j < 96) : (prsCells l).set (k * 96 + j) v = prsCells (l.set k y):=by
 induction l generalizing k with
 | nil => cases hk
 | cons z t ih =>
  cases k with
  | zero => obtain rfl : z = x:=(by simpa using hk);show (prCells z ++ t.flatMap prCells).set (0 * 96 + j) v = prCells y ++ t.flatMap prCells;rw [Nat.zero_mul,Nat.zero_add,List.set_append_left _ _ (by rw [hl z (by simp)];exact hj),hx]
  | succ k => show (prCells z ++ t.flatMap prCells).set ((k + 1) * 96 + j) v = prCells z ++ (t.set k y).flatMap prCells;have hz : (prCells z).length = 96:=hl z (by simp);rw [List.set_append_right _ _ (by rw [hz];omega),hz,show (k + 1) * 96 + j - 96 = k * 96 + j by omega];exact congrArg _ (ih (fun x hx => hl x (List.mem_cons_of_mem _ hx)) (by simpa using hk))
def wkP (p : Pr) (L : Nat → Bool) : Pr:={ p with state:=if L 11 = true then 1 else p.state,why:=if L 14 = true then 0 else p.why,n:=if L 17 = true then 0 else p.n }
theorem wkP_ok {p : Pr} (h : PrOk p) (L : Nat → Bool) : PrOk (wkP p L):=by
 refine ⟨h.regs,h.space,h.fds,h.pid,h.parent,?_,h.reg,h.pc,h.page,h.fd,h.code,?_,?_⟩
 ·show inJ8 (if L 11 = true then 1 else p.state);split
  ·exact ⟨by decide,by decide⟩
  ·exact h.state
 ·show inJ8 (if L 14 = true then 0 else p.why);split
  ·exact ⟨by decide,by decide⟩
  ·exact h.why
 ·show inU64 (if L 17 = true then 0 else p.n);split
  ·exact ⟨by decide,by decide⟩
  ·exact h.n
structure WkX (B gx : Nat) (w0 : World) (I : World → Prop) (l : List Pr) (g n c k : Nat) (p : Pr) (L : Nat → Bool) (_ : Act) (W : World) : Prop where
 b : Below gx w0 W
 i : I W
 r : RW B 64 96 W (some ⟨g,0,none⟩) n c (prsCells (l.set k (wkP p L)))
section
variable {B gx g n c k : Nat} {w0 W : World} {I : World → Prop} {l : List Pr} {p : Pr} {L : Nat → Bool} {a : Act}
theorem wkP_also {i : Nat} (h : (i == 11 || i == 14 || i == 17) = false) : wkP p (also L i) = wkP p L:=by
 simp only [Bool.or_eq_false_iff,beq_eq_false_iff_ne] at h;unfold wkP;rw [also_other (Ne.symm h.1.1),also_other (Ne.symm h.1.2),also_other (Ne.symm h.2)]
theorem WkX.step (h : WkX B gx w0 I l g n c k p L a W) {i : Nat} (hi : (i == 11 || i == 14 || i == 17) = false) {d : Option Tmp} {v : Value} : WkX B gx w0 I l g n c k p (also L i) (a.put d v) W :=
 ⟨h.b,h.i,by rw [wkP_also hi];exact h.r⟩
theorem WkX.store (h : WkX B gx w0 I l g n c k p L a W) (hl : ∀ x ∈ l,PrOk x) (hk : k < l.length) (hp : PrOk p) (hb : B ≤ g) (hgx : gx ≤ B) (hw : gx ≤ w0.heap.size) (hI : ∀ W j v,I W → I (W.setCell ⟨g,j,none⟩ v)) {i j : Nat} (hj : j < 96) {v : Value} (he : (prCells (wkP p L)).set j v = prCells (wkP p (also L i))) {d : Option Tmp} {u : Value} :
  WkX B gx w0 I l g n c k p (also L i) (a.put d u) (W.setCell ⟨g,k * 96 + j,none⟩ v):=by
 obtain ⟨r,hgr⟩:=World.ownsRow.stored h.r (k * 96 + j) v;refine ⟨h.b.grown hgr (Nat.le_trans hw h.b.size) (fun q e => by injection e with e;omega),hI _ _ _ h.i,?_⟩
 have hs : (prsCells (l.set k (wkP p L))).set (k * 96 + j) v = prsCells (l.set k (wkP p (also L i))):=by
  rw [prs_set (x:=wkP p L) (fun x hx => ?_) (by simp [hk]) he hj,List.set_set];rcases List.mem_or_eq_of_mem_set hx with h1 | rfl
  ·exact prCells_length (hl x h1)
  ·exact prCells_length (wkP_ok hp L)
 rw [hs] at r;exact r
theorem WkX.cell (h : WkX B gx w0 I l g n c k p L a W) (hl : ∀ x ∈ l,PrOk x) (hk : k < l.length) (hp : PrOk p) {j : Nat} {v : Value} (hv : (prCells (wkP p L))[j]? = some v) : W.cell? ⟨g,k * 96 + j,none⟩ = some v:=by
 have e : (⟨g,k * 96 + j,none⟩ : Addr) = (⟨g,0,none⟩ : Addr).add (k * 96 + j):=(by rw [Addr.add];split <;> simp_all);rw [e];refine World.ownsRow.cells h.r (g:=g) rfl (k * 96 + j) v ?_;have hjl : j < 96:=(by rw [← prCells_length (wkP_ok hp L)];exact (List.getElem?_eq_some_iff.1 hv).1);refine (flat_at prCells 96 _ (fun x hx => ?_) (k:=k) (x:=wkP p L) (by simp [hk]) hjl).trans hv;rcases List.mem_or_eq_of_mem_set hx with h1 | rfl
 ·exact prCells_length (hl x h1)
 ·exact prCells_length (wkP_ok hp L)
end
theorem Typed.eq {w : World} {g : Nat} {ty ty' : TypeId} (h : Typed w g ty) (k : Typed w g ty') : ty' = ty:=by
 obtain ⟨_,_,h⟩:=h;obtain ⟨_,_,k⟩:=k;rw [h] at k;injection k with k;injection k with _ k;exact k.symm
theorem Typed.keep' {w : World} {g : Nat} {ty : TypeId} (h : Typed w g ty) (q k : Nat) (v : Value) : Typed (w.setCell ⟨q,k,none⟩ v) g ty:=by
 obtain ⟨cs,fr,h⟩:=h;by_cases e : g = q
 ·subst e;refine ⟨cs.setIfInBounds k v,fr,?_⟩;have:=(Array.getElem?_eq_some_iff.1 h);simp [World.setCell,Array.getElem?_modify,h]
 ·exact Typed.keep ⟨cs,fr,h⟩ ((grown_setK w q k v).block _ (Typed.lt ⟨cs,fr,h⟩) (by intro e2;injection e2 with e2;exact e e2))
section
variable {P : Program}
theorem wpList_alloc_z {ops : Array Oper} {rest : List Oper} {o : Oper} {a : Act} {w : World} {Q : Exit → Act → World → Prop} (hgd : o.guard = none) (ty : TypeId) (ho : o.op = .alloc ty) (cs : Array Value) (n : Nat) (hi : (P.info? ty).map (fun i => (i.zero,i.size)) = some (some (.agg cs),n))
  (h : wpList P ops Q rest (a.put o.dst (.pointer (some ⟨w.heap.size,0,none⟩))) (w.alloc (.cells cs ty))) : wpList P ops Q (o :: rest) a w :=
 wpList_plain hgd fun _ hK => by
  unfold Oper.wp execOp;simp only [ho,Sem.run_bind,run_alloc_z w ty _ n hi,Result.andThen_ok,Sem.run_pure];exact hK _ _ h
end
theorem RW.some {B k n c : Nat} {T : TypeId} {W : World} {A : Option Addr} {xs : List Value} (h : RW B T k W A n c xs) (hx : n ≠ 0) : ∃ g,A = some ⟨g,0,none⟩ ∧ B ≤ g ∧ Typed W g T:=by
 rcases h.2 with ⟨e,hx'⟩ | ⟨g,cap,cur,e,hb,hh,_⟩
 ·exact absurd hx' hx
 ·injection e with e;exact ⟨g,e,hb,_,_,hh⟩
structure WakeJ (B gx b3 : Nat) (w : World) (a a' : MA) (m : Mc) (W : World) : Prop where
 b : Below gx w W
 t1 : Whole W gx 30 (mcL a m).toArray
 t2 : Whole W (gx + 1) 30 [.int .u64 0,.int .i64 0,.int .i64 0,.int .i64 0,.slice none 0 0,.slice none 0 0,.int .i64 0,S [],.slice none 0 0,.int .i64 0,S [],.bool false,.int .u64 0,.slice none 0 0,.slice none 0 0,.int .i64 0,.slice none 0 0].toArray
 t3 : Whole W b3 30 (mcL a' m).toArray
 F : RW B 9 1 W a'.F m.frames.length a'.cF (m.frames.map S)
 Q : RW B 51 2 W a'.Q m.pipes.length a'.cQ (nbCells m.pipes)
 L : RW B 9 1 W a'.L m.blocks.length a'.cL (m.blocks.map S)
 N : RW B 49 2 W a'.N m.pend.length a'.cN (nbCells m.pend)
 D : RW B 49 2 W a'.D m.dirty.length a'.cD (nbCells m.dirty)
section
variable {B gx b3 g : Nat} {w W W' : World} {a a' : MA} {m : Mc}
theorem WakeJ.below (h : WakeJ B gx b3 w a a' m W) (hgl : gx ≤ w.heap.size) (hb : Below W.heap.size W W') : WakeJ B gx b3 w a a' m W' :=
 ⟨h.b.trans (hb.mono (Nat.le_trans hgl h.b.size)),h.t1.below hb h.t1.lt,h.t2.below hb h.t2.lt,h.t3.below hb h.t3.lt,h.F.below hb,h.Q.below hb,h.L.below hb,h.N.below hb,h.D.below hb⟩
theorem WakeJ.set (h : WakeJ B gx b3 w a a' m W) (hgl : gx ≤ w.heap.size) (hg : gx ≤ g) (hT : Typed W g 64) (j : Nat) (v : Value) : WakeJ B gx b3 w a a' m (W.setCell ⟨g,j,none⟩ v):=by
 have hk:=grown_setK W g j v;have no : ∀ T : TypeId,T ≠ 64 → ∀ ty,Typed W g ty → ty ≠ T:=fun T hne ty h1 e => hne (by rw [← e];exact (Typed.eq hT h1));have nb : ∀ b,Typed W b 30 → some b ≠ some g:=fun b hb e => by injection e with e;subst e;exact absurd (Typed.eq hT hb) (by decide)
 exact ⟨h.b.grown hk (Nat.le_trans hgl h.b.size) (fun q e => by injection e with e;omega),h.t1.other hk (nb _ h.t1.typed),h.t2.other hk (nb _ h.t2.typed),h.t3.other hk (nb _ h.t3.typed),h.F.other hk (no _ (by decide)),h.Q.other hk (no _ (by decide)),h.L.other hk (no _ (by decide)),h.N.other hk (no _ (by decide)),h.D.other hk (no _ (by decide))⟩
end
def wakeP (m : Mc) (p : Pr) : Pr:=if couldB m p = true then { p with state:=1,why:=0,n:=0 } else p
def wakeM (m : Mc) : Mc:={ m with procs:=m.procs.map (wakeP m) }
theorem wakeP_ok {m : Mc} {p : Pr} (h : PrOk p) : PrOk (wakeP m p):=by
 unfold wakeP;split
 ·exact ⟨h.regs,h.space,h.fds,h.pid,h.parent,⟨by show (_ : Int) ≤ 1;decide,by show (1 : Int) ≤ _;decide⟩,h.reg,h.pc,h.page,h.fd,h.code,⟨by show (_ : Int) ≤ 0;decide,by show (0 : Int) ≤ _;decide⟩,⟨by show (_ : Int) ≤ 0;decide,by show (0 : Int) ≤ _;decide⟩⟩
 ·exact h
theorem wakeM_ok {m : Mc} (h : McOk m) : McOk (wakeM m) :=
 ⟨h.clock,h.quantum,h.cur,h.left,h.next,h.newPipe,h.told,h.dleft,fun p hp => by
  obtain ⟨q,hq,rfl⟩:=List.mem_map.1 hp;exact wakeP_ok (h.procs q hq),h.pipes,h.pend,h.dirty,by have:=h.sizes;simpa [wakeM] using this⟩
def wokeL (m : Mc) (i : Nat) : List Pr:=(m.procs.take i).map (wakeP m) ++ m.procs.drop i
theorem wokeL_zero (m : Mc) : wokeL m 0 = m.procs:=by simp [wokeL]
theorem wokeL_end (m : Mc) : wokeL m m.procs.length = (wakeM m).procs:=by simp [wokeL,wakeM]
theorem wokeL_length (m : Mc) (i : Nat) (h : i ≤ m.procs.length) : (wokeL m i).length = m.procs.length:=by simp [wokeL];omega
theorem wokeL_at {m : Mc} {i : Nat} {p : Pr} (h : m.procs[i]? = some p) : (wokeL m i)[i]? = some p ∧ wokeL m (i + 1) = (wokeL m i).set i (wakeP m p):=by
 obtain ⟨hl,rfl⟩:=List.getElem?_eq_some_iff.1 h;have e0 : ((m.procs.take i).map (wakeP m)).length = i:=(by simp;omega);refine ⟨?_,?_⟩
 ·unfold wokeL;rw [List.getElem?_append_right (by omega),e0];simp [hl]
 ·unfold wokeL;rw [List.set_append_right _ _ (by omega),e0,Nat.sub_self,List.take_succ_eq_append_getElem hl,List.map_append,List.append_assoc,List.drop_eq_getElem_cons hl];rfl
theorem wokeL_ok {m : Mc} (hm : McOk m) (i : Nat) : ∀ x ∈ wokeL m i,PrOk x:=fun x hx => by
 rcases List.mem_append.1 hx with h | h
 ·obtain ⟨q,hq,rfl⟩:=List.mem_map.1 h;exact wakeP_ok (hm.procs q (List.mem_of_mem_take hq))
 ·exact hm.procs x (List.mem_of_mem_drop h)
end Go.Proofs.YtnbphabheikfeaaGreatDoor
