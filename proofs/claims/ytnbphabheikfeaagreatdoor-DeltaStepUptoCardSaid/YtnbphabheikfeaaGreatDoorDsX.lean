import Derived.Test.YtnbphabheikfeaaGreatDoorDsMW
import Derived.Test.YtnbphabheikfeaaGreatDoorDsOZ
import Derived.Test.YtnbphabheikfeaaGreatDoorDsTV
namespace Go.Proofs.YtnbphabheikfeaaGreatDoor
open Go.RowKit
theorem oper_store_all {P : Program} {o : Oper} {a : Act} {w : World} {K : Act → World → Prop} {Q : Exit → Act → World → Prop} (ty : TypeId) (x y : Operand) (ho : o.op = .store ty x y) (hdst : o.dst = none)
  (g : Nat) (hx : a.eval x = .pointer (some ⟨g,0,none⟩)) (cs : List Value) (hy : a.eval y = .agg cs.toArray) (hi : (P.info? ty).map (·.size) = some cs.length)
  (cur : List Value) (t : TypeId) (hg : Whole w g t cur.toArray) (hfit : cs.length = cur.length) (h1 : ∀ v ∈ cs,v.oneCell' = true)
  (h : ∀ w',Whole w' g t cs.toArray → w.grownBy w' (some g) → K a w') : o.wp P a w K Q:=by
 have hrun:=run_storeVar_at w ty g 0 cs hi cur t hg (by omega) h1;have e : cur.take 0 ++ (cs ++ cur.drop (0 + cs.length)) = cs:=(by rw [List.take_zero,List.nil_append,Nat.zero_add,hfit,List.drop_length,List.append_nil]);rw [e] at hrun;have hk:=h _ (setRow_whole hg _) (setRow_only w g cs.toArray);unfold Oper.wp execOp;simp only [ho,hx,hy,Instr.storeAt,Instr.sureAddr,Sem.run_bind,Sem.run_pure,Result.andThen_ok,hrun]
 simpa [Oper.upon,Act.put,hdst] using hk
structure CpuOk (l : List Int) : Prop where
 len : l.length = 17
 wd : ∀ x ∈ l,inU32 x
theorem CpuOk.set {l : List Int} (h : CpuOk l) (j : Nat) {z : Int} (hz : inU32 z) : CpuOk (l.set j z) :=
 ⟨by rw [List.length_set];exact h.len,fun x hx => by
  rcases List.mem_or_eq_of_mem_set hx with h1 | rfl
  ·exact h.wd x h1
  ·exact hz⟩
theorem CpuOk.cells {l : List Int} (h : CpuOk l) : (rgCells l).length = 17:=by simp [rgCells,h.len]
theorem rgCells_one (l : List Int) : ∀ v ∈ rgCells l,v.oneCell' = true:=by
 intro v hv;obtain ⟨x,_,rfl⟩:=List.mem_map.1 hv;rfl
theorem Tryz.sizeCpu' : (Tryz.prog.info? 55).map (·.size) = some 17:=by kernel_rfl
theorem Tryz.infoCpu' : (Tryz.prog.info? 55).map (fun i => (i.zero,i.size)) = some (some (.agg [.int .u32 0,.int .u32 0,.int .u32 0,.int .u32 0,.int .u32 0,.int .u32 0,.int .u32 0,.int .u32 0,.int .u32 0,.int .u32 0,.int .u32 0,.int .u32 0,.int .u32 0,.int .u32 0,.int .u32 0,.int .u32 0,.int .u32 0].toArray),17):=by kernel_rfl
theorem Tryz.sizeEv : (Tryz.prog.info? 106).map (·.size) = some 2:=by kernel_rfl
theorem Tryz.infoEv : (Tryz.prog.info? 106).map (fun i => (i.zero,i.size)) = some (some (.agg [.int .i64 0,.int .u32 0].toArray),2):=by kernel_rfl
theorem results_cell_tmp_cell {P : Program} {fn : Func} {p q r : Tmp} {ty ty2 : TypeId} (hr : fn.results = #[.cell p ty,.tmp q,.cell r ty2]) (tmps : Array Value) (w : World) (g h : Nat) (t t2 : TypeId) (cs cs2 : Array Value) (v : Value) (fr fr2 : Nat × Nat) (d d2 : TypeDesc)
  (hp : tmps.getD p undef = .pointer (some ⟨g,0,none⟩)) (hq : tmps.getD q undef = v) (hp2 : tmps.getD r undef = .pointer (some ⟨h,0,none⟩)) (hg : w.heap[g]? = some (.cells cs t fr)) (hh : w.heap[h]? = some (.cells cs2 t2 fr2))
  (hu : P.underlying ty = some d) (hd : (match d with | .struct _ | .array _ _ => true | _ => false) = true) (hi : (P.info? ty).map (·.size) = some cs.size)
  (hu2 : P.underlying ty2 = some d2) (hd2 : (match d2 with | .struct _ | .array _ _ => true | _ => false) = true) (hi2 : (P.info? ty2).map (·.size) = some cs2.size) :
  (results fn tmps).run P w = .ok (.tuple #[.agg cs,v,.agg cs2]) w:=by
 have hp' : tmps[p]?.getD undef = .pointer (some ⟨g,0,none⟩):=(by simpa using hp);have hq' : tmps[q]?.getD undef = v:=(by simpa using hq);have hr' : tmps[r]?.getD undef = .pointer (some ⟨h,0,none⟩):=(by simpa using hp2);simp [results,hr,hp',hq',hr',asAddr,run_loadVar_row w g t ty cs fr d hg hu hd hi,run_loadVar_row w h t2 ty2 cs2 fr2 d2 hh hu2 hd2 hi2]
noncomputable def callsB (sp : List Pg) (fs : List (List UInt8)) (pc : Nat) : Bool:=(ldR sp fs pc 4).2 && (decOf (ldR sp fs pc 4).1).2 && decide ((decOf (ldR sp fs pc 4).1).1.op = 31)
def StepPost (w : World) (sp : List Pg) (fs : List (List UInt8)) (pc : Nat) (e : Ending) (w' : World) : Prop :=
 (∃ (l : List Int) (G : Option Addr) (c : Nat) (fs' : List (List UInt8)) (k n : Int),CpuOk l ∧ fs'.length ≤ c ∧ OneOff fs fs' ∧ (k = 1 → callsB sp fs pc = true) ∧ e = .returned (.tuple #[.agg (rgCells l).toArray,.slice G fs'.length c,.agg #[.int .i64 k,.int .u32 n]]) ∧
  inU32 n ∧ Strs w' w'.heap.size G fs' ∧ ∀ ad,G = some ad → w.heap.size ≤ ad.block) ∧ Below w.heap.size w w'
structure SB (gx g9 : Nat) (w : World) (sp : List Pg) (l0 l : List Int) (G : Option Addr) (fs : List (List UInt8)) (W : World) : Prop where
 b : Below gx w W
 c : Whole W gx 55 (rgCells l).toArray
 s : Whole W (gx + 1) 59 (pgCells sp).toArray
 o : Whole W g9 55 (rgCells l0).toArray
 m : NewL (g9 + 1) W G (fs.map S)
theorem NewL.far {B q : Nat} {W W' : World} {X : Option Addr} {xs : List Value} (h : NewL B W X xs) (hk : W.grownBy W' (some q)) (hq : ∀ ad,X = some ad → ad.block ≠ q) : NewL B W' X xs:=⟨fun k v hv => by
 obtain ⟨ad,e,hb,hc⟩:=h.1 k v hv;refine ⟨ad,e,Nat.lt_of_lt_of_le hb hk.size,?_⟩;rw [← hc];unfold World.cell?;rw [add_block,hk.block ad.block hb (by have:=hq ad e;intro e2;injection e2 with e2;exact this e2)],h.2⟩
structure SR (gx : Nat) (lr er : List Value) (W : World) : Prop where
 r : Whole W (gx + 2) 55 lr.toArray
 e : Whole W (gx + 3) 106 er.toArray
section
variable {gx g9 q : Nat} {w W W' : World} {sp : List Pg} {l0 l : List Int} {G : Option Addr} {fs : List (List UInt8)} {lr er : List Value}
theorem SB.below (h : SB gx g9 w sp l0 l G fs W) (hg : gx ≤ w.heap.size) (hb : Below W.heap.size W W') : SB gx g9 w sp l0 l G fs W' :=
 ⟨h.b.trans (hb.mono (Nat.le_trans hg h.b.size)),h.c.below hb h.c.lt,h.s.below hb h.s.lt,h.o.below hb h.o.lt,h.m.below hb⟩
theorem SR.below (h : SR gx lr er W) (hb : Below W.heap.size W W') : SR gx lr er W':=⟨h.r.below hb h.r.lt,h.e.below hb h.e.lt⟩
theorem SB.one (h : SB gx g9 w sp l0 l G fs W) (hg : gx ≤ w.heap.size) (hk : W.grownBy W' (some q)) (hq : gx + 1 < q) (hq9 : q < g9) : SB gx g9 w sp l0 l G fs W' :=
 ⟨h.b.grown hk (Nat.le_trans hg h.b.size) (fun p e => by injection e with e;omega),h.c.other hk (by intro e;injection e with e;omega),h.s.other hk (by intro e;injection e with e;omega),h.o.other hk (by intro e;injection e with e;omega),h.m.one hk (by omega)⟩
theorem SB.far (h : SB gx g9 w sp l0 l G fs W) (hg : gx ≤ w.heap.size) (hg9 : gx + 1 < g9) (hk : W.grownBy W' (some q)) (hq : g9 < q) (hm : ∀ ad,G = some ad → ad.block < q) : SB gx g9 w sp l0 l G fs W' :=
 ⟨h.b.grown hk (Nat.le_trans hg h.b.size) (fun p e => by injection e with e;omega),h.c.other hk (by intro e;injection e with e;omega),h.s.other hk (by intro e;injection e with e;omega),h.o.other hk (by intro e;injection e with e;omega),h.m.far hk (fun ad e e2 => by have:=hm ad e;omega)⟩
theorem SR.far (h : SR gx lr er W) (hk : W.grownBy W' (some q)) (hq : gx + 3 < q) : SR gx lr er W' :=
 ⟨h.r.other hk (by intro e;injection e with e;omega),h.e.other hk (by intro e;injection e with e;omega)⟩
theorem SB.set (h : SB gx g9 w sp l0 l G fs W) (hg : gx ≤ w.heap.size) (hg9 : gx < g9) (j : Nat) (z : Int) : SB gx g9 w sp l0 (l.set j z) G fs (W.setCell ⟨gx,j,none⟩ (.int .u32 z)):=by
 have hk:=grown_setK W gx j (.int .u32 z);refine ⟨h.b.grown hk (Nat.le_trans hg h.b.size) (fun p e => by injection e with e;omega),?_,h.s.other hk (by intro e;injection e with e;omega),h.o.other hk (by intro e;injection e with e;omega),h.m.one hk (by omega)⟩;have h1:=h.c.set j (.int .u32 z);rw [List.setIfInBounds_toArray] at h1;rw [show rgCells (l.set j z) = (rgCells l).set j (.int .u32 z) by simp [rgCells,List.map_set]];exact h1
theorem SR.set (h : SR gx lr er W) (j : Nat) (v : Value) : SR gx lr er (W.setCell ⟨gx,j,none⟩ v) :=
 ⟨h.r.far (p:=⟨gx,j,none⟩) (by show gx + 2 ≠ gx;omega) v,h.e.far (p:=⟨gx,j,none⟩) (by show gx + 3 ≠ gx;omega) v⟩
theorem SB.cell (h : SB gx g9 w sp l0 l G fs W) {j : Nat} {x : Int} (hx : l[j]? = some x) : W.cell? ⟨gx,j,none⟩ = some (.int .u32 x):=by
 have h1:=h.c.reads j (.int .u32 x) (by simp [rgCells,hx])
 rwa [show (⟨gx,0,none⟩ : Addr).add j = ⟨gx,j,none⟩ by unfold Addr.add;split <;> simp_all] at h1
end
structure ReX (gx s1 s2 : Nat) (I : World → Prop) (ls ev : List Value) (L : Nat → Bool) (_ : Act) (W : World) : Prop where
 i : I W
 t : SR gx (if L s1 = true then ls else [.int .u32 0,.int .u32 0,.int .u32 0,.int .u32 0,.int .u32 0,.int .u32 0,.int .u32 0,.int .u32 0,.int .u32 0,.int .u32 0,.int .u32 0,.int .u32 0,.int .u32 0,.int .u32 0,.int .u32 0,.int .u32 0,.int .u32 0]) (if L s2 = true then ev else [.int .i64 0,.int .u32 0]) W
section
variable {gx s1 s2 : Nat} {I : World → Prop} {ls ev : List Value} {L : Nat → Bool} {a : Act} {W W' : World}
theorem ReX.step (h : ReX gx s1 s2 I ls ev L a W) {i : Nat} (hi : (i == s1 || i == s2) = false) {d : Option Tmp} {v : Value} : ReX gx s1 s2 I ls ev (also L i) (a.put d v) W:=by
 simp only [Bool.or_eq_false_iff,beq_eq_false_iff_ne] at hi;exact ⟨h.i,by rw [also_other (Ne.symm hi.1),also_other (Ne.symm hi.2)];exact h.t⟩
theorem ReX.st1 (h : ReX gx s1 s2 I ls ev L a W) (hne : s2 ≠ s1) (hr : Whole W' (gx + 2) 55 ls.toArray) (hk : W.grownBy W' (some (gx + 2))) (hI : I W') {d : Option Tmp} {v : Value} : ReX gx s1 s2 I ls ev (also L s1) (a.put d v) W' :=
 ⟨hI,by rw [if_pos (also_same _ _),also_other hne];exact ⟨hr,h.t.e.other hk (by intro e;injection e with e;omega)⟩⟩
theorem ReX.st2 (h : ReX gx s1 s2 I ls ev L a W) (hne : s1 ≠ s2) (hr : Whole W' (gx + 3) 106 ev.toArray) (hk : W.grownBy W' (some (gx + 3))) (hI : I W') {d : Option Tmp} {v : Value} : ReX gx s1 s2 I ls ev (also L s2) (a.put d v) W' :=
 ⟨hI,by rw [if_pos (also_same _ _),also_other hne];exact ⟨h.t.r.other hk (by intro e;injection e with e;omega),hr⟩⟩
end
def WTab (w : World) : Prop:=∃ t fr,w.heap[1]? = some (.cells #[.int .u8 1,.int .u8 6,.int .u8 7,.int .u8 8,.int .u8 12] t fr)
theorem WTab.lt {w : World} (h : WTab w) : 1 < w.heap.size:=by
 obtain ⟨t,fr,h⟩:=h;exact (Array.getElem?_eq_some_iff.1 h).1
theorem WTab.below {w w' : World} {B : Nat} (h : WTab w) (hB : w.heap.size ≤ B) (hb : Below B w w') : WTab w':=by
 have h0:=h.lt;obtain ⟨t,fr,e⟩:=h;exact ⟨t,fr,(hb.block _ (by omega)).trans e⟩
theorem WTab.cell {w : World} (h : WTab w) (j : Nat) : w.cell? ⟨1,j,none⟩ = (#[.int .u8 1,.int .u8 6,.int .u8 7,.int .u8 8,.int .u8 12] : Array Value)[j]?:=by
 obtain ⟨t,fr,e⟩:=h;exact cell_of_row w _ j _ t fr e
structure RkX (gx g9 g13 g17 : Nat) (w : World) (sp : List Pg) (l0 l1 : List Int) (G : Option Addr) (fs : List (List UInt8)) (x : In) (rd oc st slot : Nat) (L : Nat → Bool) (a : Act) (W : World) : Prop where
 b : ∃ l',CpuOk l' ∧ (L st = false → l' = l1) ∧ SB gx g9 w sp l0 l' G fs W
 r : SR gx [.int .u32 0,.int .u32 0,.int .u32 0,.int .u32 0,.int .u32 0,.int .u32 0,.int .u32 0,.int .u32 0,.int .u32 0,.int .u32 0,.int .u32 0,.int .u32 0,.int .u32 0,.int .u32 0,.int .u32 0,.int .u32 0,.int .u32 0] [.int .i64 0,.int .u32 0] W
 i : Whole W g13 70 (inL x).toArray
 v : Whole W g17 106 ([.int .i64 0,.int .u32 0] : List Value).toArray
 z : L oc = true → ∃ z,inU32 z ∧ a.eval (.tmp slot) = .int .u32 z
 u : (L st = true → L oc = true) ∧ (L oc = true → L rd = true)
section
variable {gx g9 g13 g17 rd oc st slot : Nat} {w : World} {sp : List Pg} {l0 l1 : List Int} {G : Option Addr} {fs : List (List UInt8)} {x : In} {L : Nat → Bool} {a : Act} {W W' : World}
theorem RkX.step (h : RkX gx g9 g13 g17 w sp l0 l1 G fs x rd oc st slot L a W) {i : Nat} (hi : (i == oc || i == st) = false) {d : Option Tmp} {v : Value} (hd : (d == some slot) = false) : RkX gx g9 g13 g17 w sp l0 l1 G fs x rd oc st slot (also L i) (a.put d v) W:=by
 simp only [Bool.or_eq_false_iff,beq_eq_false_iff_ne] at hi;refine ⟨by rw [also_other (Ne.symm hi.2)];exact h.b,h.r,h.i,h.v,?_,?_,?_⟩
 ·rw [also_other (Ne.symm hi.1),eval_put (beq_eq_false_iff_ne.1 hd)];exact h.z
 ·rw [also_other (Ne.symm hi.1),also_other (Ne.symm hi.2)];exact h.u.1
 ·rw [also_other (Ne.symm hi.1)];intro h1;by_cases e : rd = i
  ·subst e;exact also_same _ _
  ·rw [also_other e];exact h.u.2 h1
theorem RkX.call (h : RkX gx g9 g13 g17 w sp l0 l1 G fs x rd oc st slot L a W) (hne : st ≠ oc) (hro : rd ≠ oc) (hrd : L rd = true) (hs : slot < a.tmps.size) {z : Int} (hz : inU32 z) : RkX gx g9 g13 g17 w sp l0 l1 G fs x rd oc st slot (also L oc) (a.put (some slot) (.int .u32 z)) W:=by
 refine ⟨by rw [also_other hne];exact h.b,h.r,h.i,h.v,fun _ => ⟨z,hz,?_⟩,fun _ => also_same _ _,fun _ => by rw [also_other hro];exact hrd⟩;show (a.put (some slot) _).tmps.getD slot undef = _;rw [Array.getD_eq_getD_getElem?,put_same _ _ _ hs];rfl
theorem RkX.store (h : RkX gx g9 g13 g17 w sp l0 l1 G fs x rd oc st slot L a W) (hne : oc ≠ st) (hrs : rd ≠ st) (hoc : L oc = true) (hg : gx ≤ w.heap.size) (hg9 : gx < g9) (hg13 : gx < g13) (hg17 : gx < g17) (j : Nat) {z : Int} (hz : inU32 z) : RkX gx g9 g13 g17 w sp l0 l1 G fs x rd oc st slot (also L st) (a.put none undef) (W.setCell ⟨gx,j,none⟩ (.int .u32 z)):=by
 obtain ⟨l',hl,-,hb⟩:=h.b;refine ⟨⟨_,hl.set j hz,fun e => (by rw [also_same] at e;cases e),hb.set hg hg9 j z⟩,h.r.set j _,h.i.far (p:=⟨gx,j,none⟩) (by show g13 ≠ gx;omega) _,h.v.far (p:=⟨gx,j,none⟩) (by show g17 ≠ gx;omega) _,fun _ => h.z hoc,fun _ => by rw [also_other hne];exact hoc,fun _ => by rw [also_other hrs];exact h.u.2 hoc⟩
theorem RkX.cell (h : RkX gx g9 g13 g17 w sp l0 l1 G fs x rd oc st slot L a W) (hL : L rd = false) {j : Nat} {y : Int} (hy : l1[j]? = some y) : W.cell? ⟨gx,j,none⟩ = some (.int .u32 y):=by
 obtain ⟨l',hl,he,hb⟩:=h.b
 have h1 : L oc = false:=by
  cases hq : L oc with
  | false => rfl
  | true => have:=h.u.2 hq;rw [hL] at this;cases this
 have h2 : L st = false:=by
  cases hq : L st with
  | false => rfl
  | true => have:=h.u.1 hq;rw [h1] at this;cases this
 rw [he h2] at hb;exact hb.cell hy
end
end Go.Proofs.YtnbphabheikfeaaGreatDoor
