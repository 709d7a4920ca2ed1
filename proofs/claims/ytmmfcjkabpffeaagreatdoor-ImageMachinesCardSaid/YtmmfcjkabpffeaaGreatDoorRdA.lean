import Derived.Test.YtmmfcjkabpffeaaGreatDoorCurA
import Derived.Defers
import Derived.Recover
import Derived.Laws.Pointers
import Derived.Great.BuildSlice
namespace Go.Proofs.YtmmfcjkabpffeaaGreatDoor
open Go.RowKit
def zeroMc : Mc:=⟨0,0,0,0,[],[],0,[],[],0,[],false,0,[],[],0,[]⟩
def zeroMA : MA:=⟨none,none,none,none,none,none,0,0,0,0,0,0⟩
abbrev zeroML : List Value:=mcL zeroMA zeroMc
set_option maxRecDepth 100000 in
set_option maxHeartbeats 4000000 in
theorem catch_bent (w : World) (g h : Nat) (cur : List Value) (b : Bool) (older : List PanicEntry) (hg : Whole w g 30 cur.toArray) (hl : cur.length = 17) (hh : Whole w h 4 #[.bool b]) (hne : g ≠ h) (B : Nat) (hBg : B ≤ g) (hBh : B ≤ h) :
  CallsD Tryz.prog 79 #[.pointer (some ⟨g,0,none⟩),.pointer (some ⟨h,0,none⟩)] (.panicking ({ v:=bentV,recovered:=false } :: older)) w fun e u' w' =>
   e = .returned (.tuple #[]) ∧ u' = .panicking ({ v:=bentV,recovered:=true } :: older) ∧ Whole w' g 30 zeroML.toArray ∧ Whole w' h 4 #[.bool false] ∧ Below B w w':=by
 refine callsD_of_wpS Tryz.func79 rfl fun c₀ cs hu => ?_;apply wpS_seq;apply wpS_region;simp [wpOpsS,go_sem,recoverD,hu,Tryz.ntmps79,Exit.thenS];refine wpS_of_wp ?_;change Code.wp _ _ _ { tmps:=#[.pointer (some ⟨g,0,none⟩),.pointer (some ⟨h,0,none⟩),bentV,undef,undef,bentV,undef,undef,undef,undef,undef,undef,undef,undef,undef,undef,undef],defers:=[] } w;have hta : ∀ W,(Instr.typeAssert bentV 20 128 true).run Tryz.prog W = .ok (.tuple #[.agg #[],.bool true]) W:=fun W => (by kernel_rfl);have HG:=jj hg;have HH:=jj hh;have hgl:=hg.lt;have hhl:=hh.lt;clear hg hh;go_upto_region 5 with (fail);have SZ : Hid ((Tryz.prog.info? 30).map (·.size) = some zeroML.length):=jj Tryz.sizeMc;have HG1:=jj (HG.out.block (.cells #[] 128));have HH1:=jj (HH.out.block (.cells #[] 128));have HB1:=jj ((Below.refl B w).alloc (by omega) (.cells #[] 128));clear HG HH hta;generalize w.alloc (.cells #[] 128) = w1 at *;go_wp2_with (refine wpList_store_all rfl 30 (.tmp 0) (.tmp 16) rfl rfl g rfl zeroML rfl SZ.out cur 30 HG1.out (by rw [hl];rfl) (mcL_one _ _) ?_;intro w3 hw hk;have HH3:=jj (HH1.out.other hk.out (by intro e;injection e with e;exact hne e.symm));have c0 : w3.cell? ⟨h,0,none⟩ = some (.bool b):=HH3.out.cell 0;have y0 : w3.frozen? ⟨h,0,none⟩ = false:=HH3.out.free 0);refine ⟨rfl,.panicking ({ v:=bentV,recovered:=true } :: older),rfl,.tuple #[],by simp [results,Tryz.results79,go_sem],rfl,rfl,hw.out.far (p:=⟨h,0,none⟩) hne _,HH3.out.set 0 _,(HB1.out.grown hk.out (by have:=HB1.out.size;omega) (fun q e => by injection e with e;omega)).setCell (p:=⟨h,0,none⟩) hBh _⟩
theorem catch_idle (w : World) (p q : Value) :
  CallsD Tryz.prog 79 #[p,q] .returning w fun e u' w' => e = .returned (.tuple #[]) ∧ u' = .returning ∧ w' = w:=by
 refine callsD_of_wpS Tryz.func79 rfl fun c₀ cs hu => ?_;apply wpS_seq;apply wpS_region;simp [wpOpsS,go_sem,recoverD,hu,Tryz.ntmps79,Exit.thenS];refine wpS_of_wp ?_;change Code.wp _ _ _ { tmps:=#[p,q,.nilIface,undef,undef,.nilIface,undef,undef,undef,undef,undef,undef,undef,undef,undef,undef,undef],defers:=[] } w;go_wp2_with fail;exact ⟨rfl,.returning,by cases c₀;simp_all,.tuple #[],by simp [results,Tryz.results79,go_sem],rfl,rfl,rfl⟩
theorem results_two_cells {P : Program} {fn : Func} {p q : Tmp} {ty ty2 : TypeId} (hr : fn.results = #[.cell p ty,.cell q ty2]) (tmps : Array Value) (w : World) (g h : Nat) (t : TypeId) (cs : Array Value) (b : Bool) (fr : Nat × Nat) (d : TypeDesc)
  (hp : tmps.getD p undef = .pointer (some ⟨g,0,none⟩)) (hq : tmps.getD q undef = .pointer (some ⟨h,0,none⟩)) (hg : w.heap[g]? = some (.cells cs t fr)) (hh : w.cell? ⟨h,0,none⟩ = some (.bool b))
  (hu : P.underlying ty = some d) (hd : (match d with | .struct _ | .array _ _ => true | _ => false) = true) (hi : (P.info? ty).map (·.size) = some cs.size) (hb : P.underlying ty2 = some .bool) :
  (results fn tmps).run P w = .ok (.tuple #[.agg cs,.bool b]) w:=by
 have hp' : tmps[p]?.getD undef = .pointer (some ⟨g,0,none⟩):=(by simpa using hp);have hq' : tmps[q]?.getD undef = .pointer (some ⟨h,0,none⟩):=(by simpa using hq);have hB : (loadVar ty2 ⟨h,0,none⟩).run P w = .ok (.bool b) w:=(by simp [loadVar,isAgg,run_underlying hb,hh,go_sem]);simp [results,hr,hp',hq',asAddr,run_loadVar_row w g t ty cs fr d hg hu hd hi,hB]
set_option maxRecDepth 100000 in
theorem door_bent {R : Ending → World → Prop} {W : World} {tmps : Array Value} {g h : Nat} {cur : List Value} {b : Bool} (hg : Whole W g 30 cur.toArray) (hl : cur.length = 17) (hh : Whole W h 4 #[.bool b]) (hne : g ≠ h) (B : Nat) (hBg : B ≤ g) (hBh : B ≤ h)
  (h2 : tmps.getD 2 undef = .pointer (some ⟨g,0,none⟩)) (h3 : tmps.getD 3 undef = .pointer (some ⟨h,0,none⟩)) (hR : ∀ w',Below B W w' → R (.returned (.tuple #[.agg zeroML.toArray,.bool false])) w') :
  bodyPostD Tryz.prog Tryz.f40 R (Exit.panic [{ v:=bentV,recovered:=false }]) { tmps:=tmps,defers:=[{ target:=Target.fn (Fn.func 79) #[.pointer (some ⟨g,0,none⟩),.pointer (some ⟨h,0,none⟩)],args:=#[] }] } W:=by
 show Leaves _ _ _ _ _ _ _;refine leaves_cons (f:=79) (args:=#[.pointer (some ⟨g,0,none⟩),.pointer (some ⟨h,0,none⟩)]) (by simp) (by simp [go_sem]) ?_;refine (catch_bent W g h cur b [] hg hl hh hne B hBg hBh).mono ?_;rintro e u' w'' ⟨rfl,rfl,hz,hf,hb⟩;dsimp only;have hst : settle (.panicking ({ v:=bentV,recovered:=true } :: [])) = .returning:=rfl;rw [hst];exact ⟨_,results_two_cells rfl _ _ g h 30 _ false (0,0) _ h2 h3 hz (hf.cell 0) Tryz.underlying30 rfl Tryz.sizeMc Tryz.underlying4,hR _ hb⟩
set_option maxRecDepth 100000 in
theorem door_ret {R : Ending → World → Prop} {W : World} {tmps : Array Value} {g h : Nat} {cs : Array Value} {b : Bool} (hg : Whole W g 30 cs) (hl : cs.size = 17) (hh : Whole W h 4 #[.bool b])
  (h2 : tmps.getD 2 undef = .pointer (some ⟨g,0,none⟩)) (h3 : tmps.getD 3 undef = .pointer (some ⟨h,0,none⟩)) (hR : R (.returned (.tuple #[.agg cs,.bool b])) W) :
  bodyPostD Tryz.prog Tryz.f40 R Exit.ret { tmps:=tmps,defers:=[{ target:=Target.fn (Fn.func 79) #[.pointer (some ⟨g,0,none⟩),.pointer (some ⟨h,0,none⟩)],args:=#[] }] } W:=by
 show Leaves _ _ _ _ _ _ _;refine leaves_cons (f:=79) (args:=#[.pointer (some ⟨g,0,none⟩),.pointer (some ⟨h,0,none⟩)]) (by simp) (by simp [go_sem]) ?_;refine (catch_idle W _ _).mono ?_;rintro e u' w'' ⟨rfl,rfl,rfl⟩;dsimp only;have hst : settle .returning = .returning:=rfl;rw [hst];exact ⟨_,results_two_cells rfl _ _ g h 30 _ b (0,0) _ h2 h3 hg (hh.cell 0) Tryz.underlying30 rfl (by rw [hl];exact Tryz.sizeMc) Tryz.underlying4,hR⟩
end Go.Proofs.YtmmfcjkabpffeaaGreatDoor
namespace Go.Proofs.YtmmfcjkabpffeaaGreatDoor
open Go.RowKit
theorem grown_setK (w : World) (g K : Nat) (v : Value) : w.grownBy (w.setCell ⟨g,K,none⟩ v) (some g) :=
 ⟨rfl,rfl,rfl,by simp [World.setCell],fun i _ hx => Below.heap_setCell w ⟨g,K,none⟩ v i (fun e => hx (by rw [e]))⟩
def Agree (lo hi : Nat) (w w' : World) : Prop:=hi ≤ w'.heap.size ∧ ∀ i,lo ≤ i → i < hi → w'.heap[i]? = w.heap[i]?
theorem Agree.refl {lo hi : Nat} {w : World} (h : hi ≤ w.heap.size) : Agree lo hi w w:=⟨h,fun _ _ _ => rfl⟩
theorem Agree.one {lo hi x : Nat} {a b c : World} (h : Agree lo hi a b) (k : b.grownBy c (some x)) (hx : x < lo ∨ hi ≤ x) : Agree lo hi a c :=
 ⟨Nat.le_trans h.1 k.size,fun i h1 h2 => (k.block i (by have:=h.1;omega) (by intro e;injection e with e;omega)).trans (h.2 i h1 h2)⟩
theorem Agree.below {lo hi B : Nat} {a b c : World} (h : Agree lo hi a b) (k : Below B b c) (hB : hi ≤ B) : Agree lo hi a c :=
 ⟨Nat.le_trans h.1 k.size,fun i h1 h2 => (k.block i (by omega)).trans (h.2 i h1 h2)⟩
theorem Agree.lies {lo hi : Nat} {w w' : World} {A : Option Addr} {xs : List Value} (h : Agree lo hi w w') (hl : Lies w hi A xs) (hA : ∀ ad,A = some ad → lo ≤ ad.block) : Lies w' w'.heap.size A xs:=fun k v hv => by
 obtain ⟨ad,e,hb,hc⟩:=hl k v hv;refine ⟨ad,e,Nat.lt_of_lt_of_le hb h.1,?_⟩;rw [← hc];unfold World.cell?;rw [add_block,h.2 ad.block (hA ad e) hb]
abbrev OwnPs (w : World) (base : Nat) (v : Value) (l : List Pr) : Prop:=w.ownsRow base 67 96 v l.length (prsCells l)
theorem prsCells_snoc (l : List Pr) (p : Pr) : prsCells (l ++ [p]) = prsCells l ++ prCells p:=by simp [prsCells]
structure RdInv (w : World) (gx : Nat) (cs : Array Value) (B B2 : Nat) (v : Value) (l : List Pr) (ks : List (Nat × World)) (W : World) : Prop where
 below : Below gx w W
 whole : Whole W gx 30 cs
 flag : Whole W (gx + 1) 4 #[.bool false]
 own : OwnPs W B2 v l
 size : B2 ≤ W.heap.size
 agree : ∀ k ∈ ks,Agree B k.1 k.2 W
variable {w W W' : World} {gx B B2 : Nat} {cs : Array Value} {v : Value} {l : List Pr} {ks : List (Nat × World)}
theorem RdInv.step (h : RdInv w gx cs B B2 v l ks W) (hx : gx + 1 < B2) (hk : ∀ k ∈ ks,k.1 ≤ B2) (k : Below W.heap.size W W') : RdInv w gx cs B B2 v l ks W' where
 below:=h.below.trans (k.mono (by have:=h.size;omega))
 whole:=h.whole.below k h.whole.lt
 flag:=h.flag.below k h.flag.lt
 own:=own_below h.own k
 size:=Nat.le_trans h.size k.size
 agree:=fun a ha => (h.agree a ha).below k (by have:=hk a ha;have:=h.size;omega)
theorem RdInv.one (h : RdInv w gx cs B B2 v l ks W) {g : Nat} (hg : gx + 1 < g) (hB : g < B2) (hk : ∀ k ∈ ks,k.1 ≤ g) (k : W.grownBy W' (some g)) : RdInv w gx cs B B2 v l ks W' where
 below:=below_one h.below (by have:=h.size;omega) k (by omega)
 whole:=h.whole.other k (by intro e;injection e with e;omega)
 flag:=h.flag.other k (by intro e;injection e with e;omega)
 own:=own_other h.own k fun q e => by have:=own_ge h.own q e;intro e2;injection e2 with e2;omega
 size:=Nat.le_trans h.size k.size
 agree:=fun a ha => (h.agree a ha).one k (.inr (hk a ha))
theorem RdInv.put (h : RdInv w gx cs B B2 v l ks W) (hx : gx + 1 < B) (hB : B ≤ B2) (hk : ∀ k ∈ ks,k.1 ≤ B2) {K : Nat} {v' : Value} {l' : List Pr} (k : Below B2 W W') (ho : OwnPs W' B2 v' l') : RdInv w gx (cs.setIfInBounds K v') B B2 v' l' ks (W'.setCell ⟨gx,K,none⟩ v') where
 below:=(h.below.trans (k.mono (by omega))).setCell (p:=⟨gx,K,none⟩) (Nat.le_refl _) v'
 whole:=(h.whole.below k (by omega)).set K v'
 flag:=(h.flag.below k (by omega)).far (p:=⟨gx,K,none⟩) (by show gx + 1 ≠ gx;omega) v'
 own:=own_other ho (grown_setK W' gx K v') fun q e => by have:=own_ge ho q e;intro e2;injection e2 with e2;omega
 size:=by have:=Nat.le_trans h.size k.size;simpa [World.setCell] using this
 agree:=fun a ha => Agree.one ((h.agree a ha).below k (hk a ha)) (grown_setK W' gx K v') (.inl (by omega))
def PrX (I C0 C1 : World → Prop) (G : Prop) (B2 s : Nat) (p : List Value) (L : Nat → Bool) (a : Act) (W : World) : Prop :=
 I W ∧ (L 3 = false → C0 W) ∧ (L 3 = true → C1 W) ∧ (L 4 = true → G) ∧ (L 5 = true → ∃ h,a.eval (.tmp s) = .slice (some ⟨h,0,none⟩) 1 1 ∧ Whole W h 67 p.toArray ∧ B2 ≤ h)
variable {I C0 C1 : World → Prop} {G : Prop} {s : Nat} {p : List Value} {L : Nat → Bool} {a : Act}
theorem PrX.init (h : I W) (h0 : C0 W) : PrX I C0 C1 G B2 s p (fun _ => false) a W:=⟨h,fun _ => h0,fun e => (by cases e),fun e => (by cases e),fun e => (by cases e)⟩
theorem PrX.same (h : PrX I C0 C1 G B2 s p L a W) {i : Nat} {d : Tmp} {u : Value} (h3 : (i == 3) = false) (h4 : (i == 4) = false) (h5 : (i == 5) = false) (hd : (d == s) = false) : PrX I C0 C1 G B2 s p (also L i) (a.put (some d) u) W:=by
 have e3 : (3 : Nat) ≠ i:=fun e => (by simp [← e] at h3);have e4 : (4 : Nat) ≠ i:=fun e => (by simp [← e] at h4);have e5 : (5 : Nat) ≠ i:=fun e => (by simp [← e] at h5);have ed : some d ≠ some s:=fun e => by injection e with e;simp [e] at hd
 unfold PrX;rw [also_other e3,also_other e4,also_other e5,eval_put ed];exact h
theorem PrX.text (h : PrX I C0 C1 G B2 s p L a W) {d : Tmp} {u : Value} {g : Nat} (hd : (d == s) = false) (k : W.grownBy W' (some g)) (hg : g < B2) (hI : I W') (h1 : C1 W') : PrX I C0 C1 G B2 s p (also L 3) (a.put (some d) u) W':=by
 have ed : some d ≠ some s:=fun e => by injection e with e;simp [e] at hd
 refine ⟨hI,fun e => by simp [also] at e,fun _ => h1,fun e => h.2.2.2.1 (by rwa [also_other (by decide)] at e),fun e => ?_⟩;rw [also_other (by decide)] at e;obtain ⟨x,e1,e2,e3⟩:=h.2.2.2.2 e;rw [eval_put ed];exact ⟨x,e1,e2.other k (by intro e;injection e with e;omega),e3⟩
theorem PrX.proc (h : PrX I C0 C1 G B2 s p L a W) {d : Tmp} {u : Value} (hd : (d == s) = false) (k : Below W.heap.size W W') (hI : I W') (h0 : C0 W → C0 W') (h1 : C1 W → C1 W') (hG : G) : PrX I C0 C1 G B2 s p (also L 4) (a.put (some d) u) W':=by
 have ed : some d ≠ some s:=fun e => by injection e with e;simp [e] at hd
 refine ⟨hI,fun e => h0 (h.2.1 (by rwa [also_other (by decide)] at e)),fun e => h1 (h.2.2.1 (by rwa [also_other (by decide)] at e)),fun _ => hG,fun e => ?_⟩;rw [also_other (by decide)] at e;obtain ⟨x,e1,e2,e3⟩:=h.2.2.2.2 e;rw [eval_put ed];exact ⟨x,e1,e2.below k e2.lt,e3⟩
theorem PrX.made (h : PrX I C0 C1 G B2 s p L a W) (hs : s < a.tmps.size) (hI : I (W.alloc (.cells p.toArray 67))) (h0 : C0 W → C0 (W.alloc (.cells p.toArray 67))) (h1 : C1 W → C1 (W.alloc (.cells p.toArray 67))) (hB : B2 ≤ W.heap.size) :
  PrX I C0 C1 G B2 s p (also L 5) (a.put (some s) (.slice (some ⟨W.heap.size,0,none⟩) 1 1)) (W.alloc (.cells p.toArray 67)):=by
 refine ⟨hI,fun e => h0 (h.2.1 (by rwa [also_other (by decide)] at e)),fun e => h1 (h.2.2.1 (by rwa [also_other (by decide)] at e)),fun e => h.2.2.2.1 (by rwa [also_other (by decide)] at e),fun _ => ⟨W.heap.size,?_,Whole.made W _ _,hB⟩⟩;show (a.put (some s) _).tmps.getD s undef = _;rw [Array.getD_eq_getD_getElem?,put_same _ _ _ hs];rfl
theorem Tryz.infoPs : (Tryz.prog.info? 67).map (fun i => decide (i.bytes ≤ 10000)) = some true:=by kernel_rfl
theorem info_proc : ∃ i,Tryz.prog.info? 67 = some i ∧ i.zero = some (.agg (prCells zeroPr).toArray) ∧ i.size = 96 ∧ i.bytes ≤ 10000:=by
 have h1:=Tryz.infoPr;have h2:=Tryz.infoPs;cases hq : Tryz.prog.info? 67 with
 | none => rw [hq] at h1;simp at h1
 | some i => rw [hq] at h1 h2;simp only [Option.map_some,Option.some.injEq,Prod.mk.injEq,decide_eq_true_eq] at h1 h2;exact ⟨i,rfl,h1.1,h1.2,h2⟩
theorem made_proc {o : Oper} {a : Act} {w : World} {K : Act → World → Prop} {Q : Exit → Act → World → Prop} (x : Nat) (ho : o.op = .buildSlice 24 1 #[(0,.tmp x)]) {p : Pr} (hp : PrOk p) (hx : a.eval (.tmp x) = .agg (prCells p).toArray)
  (h : K (a.put o.dst (.slice (some ⟨w.heap.size,0,none⟩) 1 1)) (w.alloc (.cells (prCells p).toArray 67))) : o.wp Tryz.prog a w K Q:=by
 obtain ⟨i,hi,hz,hs,_⟩:=info_proc;have hl : (prCells p).length = 96:=prCells_length hp;refine wp_buildSlice 24 67 1 _ ho (prCells p).toArray i _ Tryz.underlying24 hi hz (by rw [hs];decide) (by rw [hs];decide) ?_ h;rw [hs]
 have:=Great.fill_whole (s:=96) (by decide) [.agg (prCells p).toArray] ((Array.range (1 * 96)).map ((Value.agg (prCells zeroPr).toArray).cells[· % (Value.agg (prCells zeroPr).toArray).cells.size]!)) (fun v hv => by
  obtain rfl : v = .agg (prCells p).toArray:=(by simpa using hv);show (prCells p).toArray.size = 96
  simpa using hl) (by simp)
 simpa [hx,Value.cells] using this
theorem nbR_in {x : List UInt8} {p : Nb} (h : nbR x = some p) : inI p.1:=by
 unfold nbR at h;split at h
 ·rename_i a b _;cases hq : intP a with
  | none => rw [hq] at h;cases h
  | some n => rw [hq] at h;obtain rfl : (n,b) = p:=(by simpa using h);exact (intP_some hq).2
 ·cases h
theorem mapM_all {α β : Type} {f : α → Option β} {P : β → Prop} (hP : ∀ x y,f x = some y → P y) : ∀ {l : List α} {ys : List β},l.mapM f = some ys → ∀ y ∈ ys,P y
 | [],ys,h => by
  obtain rfl : ys = []:=(by simpa using h.symm);simp
 | a :: l,ys,h => by
  rw [List.mapM_cons] at h;cases ha : f a with
  | none => rw [ha] at h;cases h
  | some b =>
   rw [ha] at h;cases hl : l.mapM f with
   | none => rw [hl] at h;cases h
   | some bs =>
    rw [hl] at h;obtain rfl : b :: bs = ys:=(by simpa using h);intro y hy;rcases List.mem_cons.1 hy with rfl | hy
    ·exact hP _ _ ha
    ·exact mapM_all hP hl y hy
theorem nbsR_ok {b : List UInt8} {l : List Nb} (h : nbsR b = some l) : (∀ p ∈ l,inI p.1) ∧ l.length ≤ b.length:=by
 unfold nbsR at h;cases hq : openR b (-1) with
 | none => rw [hq] at h;cases h
 | some m => rw [hq] at h;have h : m.mapM nbR = some l:=h;refine ⟨mapM_all (fun x y e => nbR_in e) h,?_⟩;rw [mapM_len h];exact texts_count (openR_ok hq).1
end Go.Proofs.YtmmfcjkabpffeaaGreatDoor
