import Derived.Test.YtnbphabheikfeaaGreatDoorDsBF
namespace Go.Proofs.YtnbphabheikfeaaGreatDoor
open Go.RowKit
def splice {α : Type} (xs : List α) (k : Nat) (cs : List α) : List α:=xs.take k ++ (cs ++ xs.drop (k + cs.length))
theorem splice_mid {α : Type} (p x s cs : List α) {k : Nat} (hk : k = p.length) (h : cs.length = x.length) : splice (p ++ (x ++ s)) k cs = p ++ (cs ++ s):=by
 subst hk;unfold splice;rw [List.take_left',← List.drop_drop,List.drop_left' rfl,h,List.drop_left' rfl];rfl
theorem splice_in {α : Type} (p x s cs : List α) {k j : Nat} (hk : k = p.length + j) (h : j + cs.length ≤ x.length) : splice (p ++ (x ++ s)) k cs = p ++ (splice x j cs ++ s):=by
 subst hk;unfold splice;rw [List.take_append,List.take_of_length_le (by omega),show p.length + j - p.length = j by omega,List.take_append_of_le_length (by omega),show p.length + j + cs.length = p.length + (j + cs.length) by omega,← List.drop_drop,List.drop_left' rfl,List.drop_append_of_le_length h];simp only [List.append_assoc]
theorem splice_length {α : Type} (xs cs : List α) (k : Nat) (h : k + cs.length ≤ xs.length) : (splice xs k cs).length = xs.length:=by
 unfold splice;simp;omega
theorem prs_splice {l : List Pr} (hl : ∀ x ∈ l,(prCells x).length = 96) {k j : Nat} {x y : Pr} {cs : List Value} (hk : l[k]? = some x) (hx : splice (prCells x) j cs = prCells y) (hj : j + cs.length ≤ 96) : splice (prsCells l) (k * 96 + j) cs = prsCells (l.set k y):=by
 obtain ⟨hlt,rfl⟩:=List.getElem?_eq_some_iff.1 hk;have e : l = l.take k ++ (l[k] :: l.drop (k + 1)):=(by rw [← List.drop_eq_getElem_cons hlt,List.take_append_drop]);have hp : (prsCells (l.take k)).length = k * 96:=(by rw [prsCells,flat_len prCells 96 _ fun x hx => hl x (List.mem_of_mem_take hx),List.length_take,Nat.min_eq_left (by omega)]);have hx1 : (prCells l[k]).length = 96:=hl _ (List.getElem_mem hlt);have e1 : prsCells l = prsCells (l.take k) ++ (prCells l[k] ++ prsCells (l.drop (k + 1))):=(by exact (congrArg (List.flatMap prCells) e).trans (by rw [List.flatMap_append,List.flatMap_cons];rfl));have e2 : prsCells (l.set k y) = prsCells (l.take k) ++ (prCells y ++ prsCells (l.drop (k + 1))):=(by rw [List.set_eq_take_append_cons_drop,if_pos hlt];exact (List.flatMap_append ..).trans (by rw [List.flatMap_cons];rfl));rw [e1,e2,splice_in _ _ _ _ (by rw [hp]) (by rw [hx1];exact hj),hx]
section
variable {P : Program}
theorem wpList_store_row {ops : Array Oper} {rest : List Oper} {o : Oper} {a : Act} {w : World} {Q : Exit → Act → World → Prop} (hgd : o.guard = none) (ty : TypeId) (x y : Operand) (ho : o.op = .store ty x y) (hdst : o.dst = none)
  {B : Nat} {T : TypeId} {n size cap : Nat} {xs : List Value} (g off : Nat) (hx : a.eval x = .pointer (some ⟨g,off,none⟩)) (cs : List Value) (hy : a.eval y = .agg cs.toArray) (hi : (P.info? ty).map (·.size) = some cs.length)
  (hr : RW B T size w (some ⟨g,0,none⟩) n cap xs) (hfit : off + cs.length ≤ xs.length) (h1 : ∀ v ∈ cs,v.oneCell' = true)
  (h : ∀ w',Hid (RW B T size w' (some ⟨g,0,none⟩) n cap (splice xs off cs)) → Hid (w.grownBy w' (some g)) → wpList P ops Q rest a w') : wpList P ops Q (o :: rest) a w:=by
 obtain ⟨hl,hr⟩:=hr;rcases hr with ⟨e,-⟩ | ⟨g',cap',cur,e,hb,hh,hnc,hcm,hcs,ht⟩
 ·injection e with e;cases e
 ·injection e with e e2 e3;injection e with e;injection e with e;subst e e3;have hcl : cur.toList.length = cap * size:=(by rw [Array.length_toList];exact hcs);have hle : n * size ≤ cap * size:=Nat.mul_le_mul_right _ hnc;have hW : Whole w g T cur.toList.toArray:=(by rw [Array.toArray_toList];exact hh);refine wpList_store_at hgd ty x y ho hdst g off hx cs hy hi cur.toList T hW (by omega) h1 fun w' H1 H2 => h w' (jj ?_) H2;have H:=H1.out;refine ⟨by rw [splice_length _ _ _ hfit,hl],.inr ⟨g,cap,_,rfl,hb,H,hnc,hcm,?_,?_⟩⟩
  ·simp only [List.size_toArray,List.length_append,List.length_take,List.length_drop];omega
  ·subst ht;unfold splice;have hlx : (cur.toList.take (n * size)).length = n * size:=hl;have hf : off + cs.length ≤ n * size:=(by rw [← hlx];exact hfit);show (cur.toList.take off ++ (cs ++ cur.toList.drop (off + cs.length))).take (n * size) = _;have h1 : n * size ≤ cur.toList.length:=(by rw [List.length_take] at hlx;omega);rw [List.take_append,List.take_append,List.take_of_length_le (l:=cs) (by simp only [List.length_take];omega),List.take_take,List.take_take,Nat.min_eq_right (by omega),Nat.min_eq_left (by omega),List.drop_take];simp only [List.length_take];rw [Nat.min_eq_left (by omega),Nat.sub_sub]
end
end Go.Proofs.YtnbphabheikfeaaGreatDoor
namespace Go.Proofs.YtnbphabheikfeaaGreatDoor
open Go.RowKit
def Ent (F : Nat) : Prop:=∀ (args : Array Value) (W : World),(callFunc F args).run Tryz.prog W = .ok (.enter F args) W
theorem ent_of {f : Nat} {fn : Func} {c : Code} (hf : Tryz.prog.funcs[f]? = some fn) (hname : (fn.name == "runtime.NumGoroutine") = false) (hb : fn.body = some c) : Ent f := fun args w => by
 have h1 : fn.name ≠ "runtime.NumGoroutine" := (by simpa using hname); simp [callFunc, hf, h1, hb]
set_option maxRecDepth 100000 in
set_option maxHeartbeats 1000000 in
theorem idxPg_any (w : World) (A : Option Addr) (c : Nat) (l : List Pr) (hok : ∀ p ∈ l,PrOk p) (hA : Lies w w.heap.size A (prsCells l)) (hl : l.length ≤ 1099511627776) (F g : Nat) (hE : Ent F) (f : Pr → Bool) (hF : ∀ (W : World) (x : Pr),x ∈ l → Below w.heap.size w W → Calls Tryz.prog F #[.agg (prCells x).toArray,.pointer (some ⟨g,0,none⟩)] W fun e w' => e = .returned (.bool (f x)) ∧ Below W.heap.size W w') :
  Calls Tryz.prog 73 #[.slice A l.length c,.func (.func F) #[] #[.pointer (some ⟨g,0,none⟩)]] w fun e w' => e = .returned (.int .i64 (idxI f l 0)) ∧ Below w.heap.size w w':=by
 have HA:=jj hA;have HF:=jj hF;have HOK:=jj hok;clear hA hF hok;unfold Ent at hE;go_enter Tryz.func73,Tryz.ntmps73;go_wp2_with fail
 go_loopw [8] (fun i wr => ∃ k : Nat,k ≤ l.length ∧ i = .int .i64 k ∧ Hid (∀ y ∈ l.take k,f y = false) ∧ Hid (Below w.heap.size w wr)) (fun i _ => l.length - (intOf i).toNat)
 case atStart => exact ⟨0,by omega,rfl,jj (by simp),jj (Below.refl _ _)⟩
 case round =>
  obtain ⟨k,hk,rfl,HE,HW⟩:=hrel;by_cases hlt : k < l.length
  ·obtain ⟨x,hx⟩:=dget_some hlt;have HX:=jj hx;have HXO:=jj (HOK.out x (List.mem_of_getElem? hx));obtain ⟨ad,rfl,had,hc⟩:=Lies.row (f:=prCells) (n:=96) HA.out (fun y hy => prCells_length (HOK.out y hy)) (by omega) hx;have LD : Hid (∀ j v,(prCells x)[j]? = some v → wr.cell? ((ad.add (k * 96)).add j) = some v):=jj fun j v hv => (HW.out.cell (by rw [add_block,add_block];exact had)).trans (hc j v hv);have PI : Hid ((Tryz.prog.info? 64).map (·.size) = some (prCells x).length):=jj (by rw [show (prCells x).length = 96 from prCells_length HXO.out];kernel_rfl);have CP:=jj (HF.out wr x (List.mem_of_getElem? hx) HW.out);have q0 : (0 : Int) ≤ (k : Int):=(by omega);have q1 : (k : Int) < (l.length : Int):=(by omega);clear hc hx;go_wp2_with (refine wpList_load_at rfl 64 (.tmp 14) rfl (ad.add (k * 96)) rfl (prCells x) _ LD.out Tryz.underlying64 rfl PI.out ?_);refine CP.out.mono ?_;rintro e w1 ⟨rfl,hb1⟩;have HW1:=jj (HW.out.trans (hb1.mono HW.out.size));clear hb1 CP LD;cases hpn : f x with
   | true => have HQ : Hid (idxI f l 0 = (k : Int)):=jj (by have h:=idx_at (b:=0) HE.out HX.out hpn;rw [Nat.zero_add] at h;exact h);go_wp2_with fail;go_ret;exact ⟨by rw [HQ.out];rfl,HW1.out⟩
   | false =>
    have HK : Hid (∀ y ∈ l.take (k + 1),f y = false):=jj (take_upto HE.out HX.out hpn);go_wp2_with fail
    go_roundw
    case rel =>
     have R : ∃ k' : Nat,k' ≤ l.length ∧ Value.int .i64 ((k : Int) + 1) = .int .i64 k' ∧ Hid (∀ y ∈ l.take k',f y = false) ∧ Hid (Below w.heap.size w w1):=⟨k + 1,by omega,by go_num,HK,HW1⟩
     first | exact R | ((repeat apply Exists.intro);exact ⟨R,rfl⟩)
    case measure => simp [intOf];omega
  ·obtain rfl : k = l.length:=(by omega);have hd : decide (l.length < l.length) = false:=(by simp);have HQ : Hid (idxI f l 0 = -1):=jj (idx_no (by have h:=HE.out;rw [List.take_length] at h;exact h));go_wp2_with fail;go_ret;exact ⟨by rw [HQ.out];rfl,HW.out⟩
set_option maxRecDepth 100000 in
set_option maxHeartbeats 1000000 in
theorem idxQg_any (w : World) (A : Option Addr) (c : Nat) (l : List Nb) (hA : Lies w w.heap.size A (nbCells l)) (hl : l.length ≤ 1099511627776) (F g : Nat) (hE : Ent F) (f : Nb → Bool) (hF : ∀ (W : World) (x : Nb),x ∈ l → Below w.heap.size w W → Calls Tryz.prog F #[.agg (nbCells1 x).toArray,.pointer (some ⟨g,0,none⟩)] W fun e w' => e = .returned (.bool (f x)) ∧ Below W.heap.size W w') :
  Calls Tryz.prog 163 #[.slice A l.length c,.func (.func F) #[] #[.pointer (some ⟨g,0,none⟩)]] w fun e w' => e = .returned (.int .i64 (idxI f l 0)) ∧ Below w.heap.size w w':=by
 have HA:=jj hA;have HF:=jj hF
 clear hA hF;unfold Ent at hE;go_enter Tryz.func163,Tryz.ntmps163;go_wp2_with fail
 go_loopw [8] (fun i wr => ∃ k : Nat,k ≤ l.length ∧ i = .int .i64 k ∧ Hid (∀ y ∈ l.take k,f y = false) ∧ Hid (Below w.heap.size w wr)) (fun i _ => l.length - (intOf i).toNat)
 case atStart => exact ⟨0,by omega,rfl,jj (by simp),jj (Below.refl _ _)⟩
 case round =>
  obtain ⟨k,hk,rfl,HE,HW⟩:=hrel;by_cases hlt : k < l.length
  ·obtain ⟨x,hx⟩:=dget_some hlt;have HX:=jj hx
   obtain ⟨ad,rfl,had,hc⟩:=Lies.row (f:=nbCells1) (n:=2) HA.out (fun _ _ => rfl) (by omega) hx;have LD : Hid (∀ j v,(nbCells1 x)[j]? = some v → wr.cell? ((ad.add (k * 2)).add j) = some v):=jj fun j v hv => (HW.out.cell (by rw [add_block,add_block];exact had)).trans (hc j v hv);have PI : Hid ((Tryz.prog.info? 51).map (·.size) = some (nbCells1 x).length):=jj (by rw [show (nbCells1 x).length = 2 from rfl];kernel_rfl);have CP:=jj (HF.out wr x (List.mem_of_getElem? hx) HW.out);have q0 : (0 : Int) ≤ (k : Int):=(by omega);have q1 : (k : Int) < (l.length : Int):=(by omega);clear hc hx;go_wp2_with (refine wpList_load_at rfl 51 (.tmp 14) rfl (ad.add (k * 2)) rfl (nbCells1 x) _ LD.out Tryz.underlying51 rfl PI.out ?_);refine CP.out.mono ?_;rintro e w1 ⟨rfl,hb1⟩;have HW1:=jj (HW.out.trans (hb1.mono HW.out.size));clear hb1 CP LD;cases hpn : f x with
   | true => have HQ : Hid (idxI f l 0 = (k : Int)):=jj (by have h:=idx_at (b:=0) HE.out HX.out hpn;rw [Nat.zero_add] at h;exact h);go_wp2_with fail;go_ret;exact ⟨by rw [HQ.out];rfl,HW1.out⟩
   | false =>
    have HK : Hid (∀ y ∈ l.take (k + 1),f y = false):=jj (take_upto HE.out HX.out hpn);go_wp2_with fail
    go_roundw
    case rel =>
     have R : ∃ k' : Nat,k' ≤ l.length ∧ Value.int .i64 ((k : Int) + 1) = .int .i64 k' ∧ Hid (∀ y ∈ l.take k',f y = false) ∧ Hid (Below w.heap.size w w1):=⟨k + 1,by omega,by go_num,HK,HW1⟩
     first | exact R | ((repeat apply Exists.intro);exact ⟨R,rfl⟩)
    case measure => simp [intOf];omega
  ·obtain rfl : k = l.length:=(by omega);have hd : decide (l.length < l.length) = false:=(by simp);have HQ : Hid (idxI f l 0 = -1):=jj (idx_no (by have h:=HE.out;rw [List.take_length] at h;exact h));go_wp2_with fail;go_ret;exact ⟨by rw [HQ.out];rfl,HW.out⟩
def anyI {α : Type} (f : α → Bool) (l : List α) : Bool:=decide (0 ≤ idxI f l 0)
set_option maxRecDepth 100000 in
set_option maxHeartbeats 1000000 in
theorem contP_any (w : World) (A : Option Addr) (c : Nat) (l : List Pr) (hok : ∀ p ∈ l,PrOk p) (hA : Lies w w.heap.size A (prsCells l)) (hl : l.length ≤ 1099511627776) (F g : Nat) (hE : Ent F) (f : Pr → Bool) (hF : ∀ (W : World) (x : Pr),x ∈ l → Below w.heap.size w W → Calls Tryz.prog F #[.agg (prCells x).toArray,.pointer (some ⟨g,0,none⟩)] W fun e w' => e = .returned (.bool (f x)) ∧ Below W.heap.size W w') :
  Calls Tryz.prog 82 #[.slice A l.length c,.func (.func F) #[] #[.pointer (some ⟨g,0,none⟩)]] w fun e w' => e = .returned (.bool (anyI f l)) ∧ Below w.heap.size w w':=by
 have CI:=jj (idxPg_any w A c l hok hA hl F g hE f hF);clear hA hF hE;go_enter Tryz.func82,Tryz.ntmps82;go_wp2_with fail;refine CI.out.mono ?_;rintro e w1 ⟨rfl,hb⟩;go_wp2_with fail;go_ret;exact ⟨rfl,hb⟩
end Go.Proofs.YtnbphabheikfeaaGreatDoor
namespace Go.Proofs.YtnbphabheikfeaaGreatDoor
open Go.RowKit
theorem zero_nb (n : Nat) : (Builtin.zeroCells (Value.agg #[.int .i64 0,.string ⟨#[]⟩]).cells n).toList = nbCells (List.replicate n (0,[])):=by
 induction n with
 | zero => simp [Builtin.zeroCells,nbCells]
 | succ n ih => have e : (Builtin.zeroCells (Value.agg #[.int .i64 0,.string ⟨#[]⟩]).cells (n + 1)).toList = (Builtin.zeroCells (Value.agg #[.int .i64 0,.string ⟨#[]⟩]).cells n).toList ++ [.int .i64 0,.string ⟨#[]⟩]:=(by simp only [Builtin.zeroCells,Value.cells,Array.toList_map,Array.toList_range];show (List.range ((n + 1) * 2)).map _ = (List.range (n * 2)).map _ ++ _;rw [show (n + 1) * 2 = n * 2 + 1 + 1 by omega,List.range_succ,List.range_succ,List.map_append,List.map_append,List.append_assoc];congr 1;have h1 : n * 2 % 2 = 0:=(by omega);have h2 : (n * 2 + 1) % 2 = 1:=(by omega);simp [h1,h2]);rw [e,ih,List.replicate_succ',nbCells,nbCells,List.flatMap_append];rfl
section
variable {P : Program}
theorem run_clear_any (w : World) (t ty elem : TypeId) (z : Value) (g o n c : Nat) (zs cur : List Value) (bt : TypeId) (hu : P.underlying t = some (.slice elem)) (hz : ∀ w,(zeroValue elem).run P w = .ok z w) (hzc : (Builtin.zeroCells z.cells n).toList = zs) (h1 : ∀ v ∈ zs,v.oneCell' = true) (hn : n = 0 → zs = []) (hg : Whole w g bt cur.toArray) (hfit : o + zs.length ≤ cur.length) :
  (Builtin.clear_ #[t] ty #[.slice (some ⟨g,o,none⟩) n c]).run P w = .ok (.tuple #[]) (w.setRow g (cur.take o ++ (zs ++ cur.drop (o + zs.length))).toArray):=by
 have hst:=run_storeCells_at P g o bt zs 0 cur.toArray w hg (by simpa using hfit) h1;simp only [Nat.add_zero,List.append_assoc] at hst;cases n with
 | zero => have e : (cur.take o ++ (zs ++ cur.drop (o + zs.length))) = cur:=(by rw [hn rfl];simp);rw [e,setRow_self w g cur.toArray bt (0,0) hg];simp [Builtin.clear_,run_underlying hu]
 | succ n => simp [Builtin.clear_,run_underlying hu,hz,hzc,hst]
theorem wpList_clear_row {ops : Array Oper} {rest : List Oper} {o : Oper} {a : Act} {w : World} {Q : Exit → Act → World → Prop} (hgd : o.guard = none) (s : Operand) (t elem : TypeId) (hdst : o.dst = none)
  (ho : o.op = .call { callee:=.builtin .clear,args:=#[s],argTypes:=#[t] }) (hu : P.underlying t = some (.slice elem)) (hz : ∀ w,(zeroValue elem).run P w = .ok (.agg #[.int .i64 0,.string ⟨#[]⟩]) w)
  {B n cap c g : Nat} {l : List Nb} (i : Nat) (hi : i ≤ n) (hln : l.length = n) (hs : a.eval s = .slice (some ⟨g,i * 2,none⟩) (n - i) c) (hr : RW B elem 2 w (some ⟨g,0,none⟩) n cap (nbCells l))
  (h : ∀ w',Hid (RW B elem 2 w' (some ⟨g,0,none⟩) n cap (nbCells (l.take i ++ List.replicate (n - i) (0,[])))) → Hid (w.grownBy w' (some g)) → wpList P ops Q rest a w') : wpList P ops Q (o :: rest) a w:=by
 obtain ⟨hl,hr⟩:=hr;rcases hr with ⟨e,-⟩ | ⟨g',cap',cur,e,hb,hh,hnc,hcm,hcs,ht⟩
 ·injection e with e;cases e
 ·injection e with e e2 e3;injection e with e;injection e with e;subst e e3;have hcl : cur.toList.length = cap * 2:=(by rw [Array.length_toList];exact hcs);have hW : Whole w g elem cur.toList.toArray:=(by rw [Array.toArray_toList];exact hh);have hzl : (nbCells (List.replicate (n - i) (0,[]))).length = (n - i) * 2:=(by rw [nbCells_length,List.length_replicate]);have hrun:=run_clear_any (P:=P) w t o.type elem _ g (i * 2) (n - i) c _ cur.toList elem hu hz (zero_nb (n - i)) (nbCells_one _) (fun e => by rw [e];rfl) hW (by rw [hzl];omega);obtain ⟨cs',hcs'⟩ : ∃ cs',(cur.toList.take (i * 2) ++ (nbCells (List.replicate (n - i) (0,[])) ++ cur.toList.drop (i * 2 + (nbCells (List.replicate (n - i) ((0 : Int),([] : List UInt8)))).length))) = cs':=⟨_,rfl⟩;rw [hcs'] at hrun
  have HRW : RW B elem 2 (w.setRow g cs'.toArray) (some ⟨g,0,none⟩) n cap (nbCells (l.take i ++ List.replicate (n - i) (0,[]))):=by
   subst hcs';have H:=setRow_whole hW (cur.toList.take (i * 2) ++ (nbCells (List.replicate (n - i) (0,[])) ++ cur.toList.drop (i * 2 + (nbCells (List.replicate (n - i) ((0 : Int),([] : List UInt8)))).length))).toArray;refine ⟨by rw [nbCells_length];simp only [List.length_append,List.length_take,List.length_replicate];omega,.inr ⟨g,cap,_,rfl,hb,H,hnc,hcm,?_,?_⟩⟩
   ·simp only [List.size_toArray,List.length_append,List.length_take,List.length_drop,hzl];omega
   ·show ((cur.toList.take (i * 2)) ++ (nbCells (List.replicate (n - i) (0,[])) ++ cur.toList.drop _)).take (n * 2) = _
    have e1 : cur.toList.take (i * 2) = nbCells (l.take i):=by
     have h3 : (nbCells l).take (i * 2) = nbCells (l.take i):=by
      conv => lhs;rw [← List.take_append_drop i l]
      unfold nbCells;rw [List.flatMap_append,List.take_left'];rw [flat_len nbCells1 2 _ fun _ _ => rfl,List.length_take,Nat.min_eq_left (by omega)]
     rw [← h3,← ht,List.take_take,Nat.min_eq_left (by omega)]
    rw [e1,← List.append_assoc,List.take_left']
    ·simp [nbCells]
    ·rw [List.length_append,nbCells_length,hzl,List.length_take];omega
  refine wpList_plain hgd fun _ hK => ?_;have hk:=hK _ _ (h _ (jj HRW) (jj (setRow_only w g _)));unfold Oper.wp execOp;simp only [ho,resolve,invoke,builtin,Sem.run_bind,Sem.run_pure,Result.andThen_ok,List.map_toArray,List.map_cons,List.map_nil,hs,hrun]
  simpa [Oper.upon,Act.put,hdst] using hk
end
theorem rw_take {B n cap : Nat} {W : World} {g : Nat} {T : TypeId} {l : List Nb} (h : RW B T 2 W (some ⟨g,0,none⟩) n cap (nbCells l)) (i : Nat) (hi : i ≤ n) (hl : l.length = n) : RW B T 2 W (some ⟨g,0,none⟩) i cap (nbCells (l.take i)):=by
 obtain ⟨h1,h2⟩:=h;rcases h2 with ⟨e,-⟩ | ⟨g',cap',cur,e,hb,hh,hnc,hcm,hcs,ht⟩
 ·injection e with e;cases e
 ·injection e with e e2 e3;injection e with e;injection e with e;subst e e3;refine ⟨by rw [nbCells_length,List.length_take];omega,.inr ⟨g,cap,cur,rfl,hb,hh,by omega,hcm,hcs,?_⟩⟩
  have h3 : (nbCells l).take (i * 2) = nbCells (l.take i):=by
   conv => lhs;rw [← List.take_append_drop i l]
   unfold nbCells;rw [List.flatMap_append,List.take_left'];rw [flat_len nbCells1 2 _ fun _ _ => rfl,List.length_take,Nat.min_eq_left (by omega)]
  rw [← h3,← ht,List.take_take,Nat.min_eq_left (by omega)]
theorem gb_trans {a b c : World} {X : Option Nat} (h : a.grownBy b X) (k : b.grownBy c X) : a.grownBy c X :=
 ⟨k.os.trans h.os,k.tape.trans h.tape,k.output.trans h.output,Nat.le_trans h.size k.size,fun i hi hx => (k.block i (Nat.lt_of_lt_of_le hi h.size) hx).trans (h.block i hi hx)⟩
theorem gb_below {a b : World} {X : Option Nat} (h : Below a.heap.size a b) : a.grownBy b X:=⟨h.os,h.tape,h.output,h.size,fun i hi _ => h.block i hi⟩
theorem nb_splice {l : List Nb} {k : Nat} {y : Nb} (hk : k < l.length) : splice (nbCells l) (k * 2) (nbCells1 y) = nbCells (l.set k y):=by
 have e : l = l.take k ++ (l[k] :: l.drop (k + 1)):=(by rw [← List.drop_eq_getElem_cons hk,List.take_append_drop]);have e1 : nbCells l = nbCells (l.take k) ++ (nbCells1 l[k] ++ nbCells (l.drop (k + 1))):=(congrArg nbCells e).trans (by unfold nbCells;rw [List.flatMap_append,List.flatMap_cons]);have e2 : nbCells (l.set k y) = nbCells (l.take k) ++ (nbCells1 y ++ nbCells (l.drop (k + 1))):=(by rw [List.set_eq_take_append_cons_drop,if_pos hk];unfold nbCells;rw [List.flatMap_append,List.flatMap_cons]);rw [e1,e2];exact splice_mid (nbCells (l.take k)) (nbCells1 l[k]) (nbCells (l.drop (k + 1))) (nbCells1 y) (by rw [nbCells_length,List.length_take];omega) rfl
set_option maxRecDepth 100000 in
set_option maxHeartbeats 2000000 in
theorem del_any (w : World) (B : Nat) (A : Option Addr) (c : Nat) (l : List Nb) (hB : B ≤ w.heap.size) (hr : RW B 51 2 w A l.length c (nbCells l)) (hl : l.length ≤ 1099511627776) (F gm : Nat) (hE : Ent F) (f : Nb → Bool)
  (hF : ∀ (W : World) (x : Int) (y : List UInt8),Below B w W → Calls Tryz.prog F #[.agg (nbCells1 (x,y)).toArray,.pointer (some ⟨gm,0,none⟩)] W fun e w' => e = .returned (.bool (f (x,y))) ∧ Below W.heap.size W w') :
  Calls Tryz.prog 128 #[.slice A l.length c,.func (.func F) #[] #[.pointer (some ⟨gm,0,none⟩)]] w (fun e w' => (∃ (A' : Option Addr) (n' c' : Nat) (l' : List Nb),e = .returned (.slice A' n' c') ∧ l'.length = n' ∧ n' ≤ l.length ∧ RW B 51 2 w' A' n' c' (nbCells l') ∧ ∀ x ∈ l',x ∈ l) ∧ Below B w w' ∧ w.grownBy w' (A.map (·.block))):=by
 have CI:=jj (idxQg_any w A c l hr.lies hl F gm hE f (fun W x _ hb => hF W x.1 x.2 (hb.mono hB)));have HR:=jj hr;have HF:=jj hF;obtain ⟨z,hz⟩ : ∃ z,idxI f l 0 = z:=⟨_,rfl⟩;have hcase:=idx_cases f l;rw [hz] at CI hcase;clear hr hF hz;go_enter Tryz.func128,Tryz.ntmps128;go_wp2_with fail;refine CI.out.mono ?_;rintro e w1 ⟨rfl,hb1⟩;have HV:=jj (hb1.mono hB);replace HR:=jj (HR.out.below hb1);have HG0:=hb1;clear hb1 CI;rcases hcase with ⟨rfl,-⟩ | ⟨k,x,hx,-,rfl⟩
 ·go_wp2_with fail;go_ret;exact ⟨⟨A,l.length,c,l,rfl,rfl,Nat.le_refl _,HR.out,fun _ h => h⟩,HV.out,gb_below HG0⟩
 have hk:=(List.getElem?_eq_some_iff.1 hx).1;obtain ⟨g,rfl,hBg,-⟩:=RW.some HR.out (by omega);have hcap:=HR.out.cap;have HG : Hid (w.grownBy w1 (some g)):=jj (gb_below HG0);clear HG0;have hkm : ((k : Int) == -1) = false:=(by simp);clear hx;unfold Ent at hE;go_wp2_with fail;clear hkm
 go_loopw [5,6] (fun vi vj wr => ∃ (i j : Nat) (l' : List Nb),i < j ∧ j ≤ l.length ∧ l'.length = l.length ∧ vi = .int .i64 (i : Int) ∧ vj = .int .i64 (j : Int) ∧ Hid (∀ x ∈ l',x ∈ l) ∧ Hid (RW B 51 2 wr (some ⟨g,0,none⟩) l.length c (nbCells l')) ∧ Hid (Below B w wr) ∧ Hid (w.grownBy wr (some g))) (fun _ vj _ => l.length - (intOf vj).toNat)
 case atStart => exact ⟨k,k + 1,l,by omega,by omega,rfl,rfl,by first | rfl | go_num,jj (fun _ h => h),HR,HV,HG⟩
 case round =>
  clear HR HV HG;obtain ⟨i,j,l',hij,hj,hll,rfl,rfl,HM,HR,HV,HG⟩:=hrel;by_cases hlt : j < l.length
  ·as_aux_lemma =>
   obtain ⟨x,hx⟩:=dget_some (l:=l') (k:=j) (by omega);have hxm:=HM.out x (List.mem_of_getElem? hx);obtain ⟨ad,had,hab,hc⟩:=Lies.row (f:=nbCells1) (n:=2) HR.out.lies (fun _ _ => rfl) (by omega) hx;obtain rfl : (⟨g,0,none⟩ : Addr) = ad:=(by injection had)
   have ea : (⟨g,0,none⟩ : Addr).add (j * 2) = ⟨g,j * 2,none⟩:=by
    by_cases h : j * 2 = 0
    ·rw [Addr.add,if_pos h,h]
    ·rw [Addr.add,if_neg h];simp
   rw [ea] at hc;have LD:=jj hc;have PI : Hid ((Tryz.prog.info? 51).map (·.size) = some (nbCells1 x).length):=jj (by kernel_rfl);have PZ : Hid ((Tryz.prog.info? 51).map (fun i => (i.zero,i.size)) = some (some (.agg #[.int .i64 0,.string ⟨#[]⟩]),(nbCells1 x).length)):=jj (by kernel_rfl);have q0 : (0 : Int) ≤ (j : Int):=(by omega);have q1 : (j : Int) < (l.length : Int):=(by omega);have H1 : Hid (∀ v ∈ nbCells1 x,v.oneCell' = true):=jj (fun v hv => nbCells_one [x] v (by simpa [nbCells] using hv));have HX:=jj (Whole.made wr 51 (nbCells1 x).toArray);have hal:=(Below.refl wr.heap.size wr).alloc (Nat.le_refl _) (.cells (nbCells1 x).toArray 51);have hBw : B ≤ wr.heap.size:=(by have:=HV.out.size;omega);replace HR:=jj (HR.out.below hal);replace HV:=jj (HV.out.trans (hal.mono hBw));replace HG:=jj (gb_trans HG.out (gb_below hal));clear hc hx hab hal had ea
   go_upto_region 8 with (first
    | (refine wpList_load_at rfl 51 (.tmp 24) rfl ⟨g,j * 2,none⟩ rfl (nbCells1 x) _ LD.out Tryz.underlying51 rfl PI.out ?_)
    | (refine wpList_fresh rfl rfl 51 7 (.tmp 25) rfl rfl rfl rfl (nbCells1 x) rfl rfl _ PZ.out rfl H1.out ?_))
   change Code.wp _ _ _ _ (wr.alloc (.cells (nbCells1 x).toArray 51));clear LD PZ;generalize wr.alloc (.cells (nbCells1 x).toArray 51) = w5 at *;generalize wr.heap.size = b5 at *;have CF:=jj (HF.out w5 x.1 x.2 HV.out);have LX:=jj HX.out.reads;obtain ⟨b,hb⟩ : ∃ b,f x = b:=⟨_,rfl⟩;rw [hb] at CF;go_wp2_with (refine wpList_load_at rfl 51 (.tmp 7) rfl ⟨b5,0,none⟩ rfl (nbCells1 x) _ LX.out Tryz.underlying51 rfl PI.out ?_);refine CF.out.mono ?_;rintro e w6 ⟨rfl,hb6⟩;have hB5 : B ≤ w5.heap.size:=(by have:=HX.out.lt;omega);replace HR:=jj (HR.out.below hb6);replace HV:=jj (HV.out.trans (hb6.mono hB5));replace HG:=jj (gb_trans HG.out (gb_below hb6));replace HX:=jj (HX.out.below hb6 HX.out.lt);clear hb6 CF LX hb;cases b with
   | true =>
    go_wp2_with fail
    go_roundw
    case rel =>
     have R : ∃ (i' j' : Nat) (l2 : List Nb),i' < j' ∧ j' ≤ l.length ∧ l2.length = l.length ∧ Value.int .i64 (i : Int) = .int .i64 (i' : Int) ∧ Value.int .i64 ((j : Int) + 1) = .int .i64 (j' : Int) ∧ Hid (∀ x ∈ l2,x ∈ l) ∧ Hid (RW B 51 2 w6 (some ⟨g,0,none⟩) l.length c (nbCells l2)) ∧ Hid (Below B w w6) ∧ Hid (w.grownBy w6 (some g)):=⟨i,j + 1,l',by omega,by omega,hll,rfl,by go_num,HM,HR,HV,HG⟩
     first | exact R | ((repeat apply Exists.intro);exact ⟨R,rfl⟩)
    case measure => simp [intOf];omega
   | false =>
    have LX:=jj HX.out.reads;have p0 : (0 : Int) ≤ (i : Int):=(by omega);have p1 : (i : Int) < (l.length : Int):=(by omega);have hfit : i * 2 + (nbCells1 x).length ≤ (nbCells l').length:=(by rw [nbCells_length,hll];show i * 2 + 2 ≤ _;omega)
    go_wp2_with (first
     | (refine wpList_load_at rfl 51 (.tmp 7) rfl ⟨b5,0,none⟩ rfl (nbCells1 x) _ LX.out Tryz.underlying51 rfl PI.out ?_)
     | (refine wpList_store_row rfl 51 (.tmp 33) (.tmp 32) rfl rfl g (i * 2) rfl (nbCells1 x) rfl PI.out HR.out hfit H1.out ?_;intro w7 hr7 hk7))
    have HR7 : Hid (RW B 51 2 w7 (some ⟨g,0,none⟩) l.length c (nbCells (l'.set i x))):=jj (by have:=hr7.out;rwa [nb_splice (by omega)] at this);have HV7:=jj (HV.out.grown hk7.out (by have:=HV.out.size;omega) (fun q e => by injection e with e;omega));have HG7:=jj (gb_trans HG.out hk7.out)
    have HM7 : Hid (∀ y ∈ l'.set i x,y ∈ l):=jj fun y hy => by
     rcases List.mem_or_eq_of_mem_set hy with h | rfl
     ·exact HM.out y h
     ·exact hxm
    clear hr7 hk7 LX HR HV HM HG
    go_roundw
    case rel =>
     have R : ∃ (i' j' : Nat) (l2 : List Nb),i' < j' ∧ j' ≤ l.length ∧ l2.length = l.length ∧ Value.int .i64 ((i : Int) + 1) = .int .i64 (i' : Int) ∧ Value.int .i64 ((j : Int) + 1) = .int .i64 (j' : Int) ∧ Hid (∀ x ∈ l2,x ∈ l) ∧ Hid (RW B 51 2 w7 (some ⟨g,0,none⟩) l.length c (nbCells l2)) ∧ Hid (Below B w w7) ∧ Hid (w.grownBy w7 (some g)):=⟨i + 1,j + 1,l'.set i x,by omega,by omega,by rw [List.length_set];exact hll,by go_num,by go_num,HM7,HR7,HV7,HG7⟩
     first | exact R | ((repeat apply Exists.intro);exact ⟨R,rfl⟩)
    case measure => simp [intOf];omega
  ·obtain rfl : j = l.length:=(by omega);have hd : decide (l.length < l.length) = false:=(by simp);have hic : ¬ c = i:=(by omega)
   have hzv : ∀ W : World,(zeroValue 51).run Tryz.prog W = .ok (.agg #[.int .i64 0,.string ⟨#[]⟩]) W:=fun W => by
    obtain ⟨i0,hi0,hz0,-,-⟩:=info_parts Tryz.infoPi3;simp [zeroValue,typeInfo,hi0,hz0]
   have p0 : (0 : Int) ≤ (i : Int):=(by omega);have p1 : (i : Int) ≤ (l.length : Int):=(by omega);go_wp2_with (refine wpList_clear_row rfl (.tmp 38) 25 51 rfl rfl Tryz.underlying25 hzv i (by omega) hll rfl HR.out ?_;intro w7 hr7 hk7);go_ret;have hr8:=rw_take hr7.out i (by omega) (by simp;omega);rw [List.take_left' (by rw [List.length_take];omega)] at hr8;exact ⟨⟨_,i,c,l'.take i,rfl,by rw [List.length_take];omega,by omega,hr8,fun x hx => HM.out x (List.mem_of_mem_take hx)⟩,HV.out.grown hk7.out (by have:=HV.out.size;omega) (fun q e => by injection e with e;omega),gb_trans HG.out hk7.out⟩
def swB (m : Mc) (x : Nb) : Bool:=((endsM m.procs x.1 4 : Nat) : Int) == 0 && ((endsM m.procs x.1 5 : Nat) : Int) == 0
set_option maxRecDepth 100000 in
set_option maxHeartbeats 1000000 in
theorem sweepc_any (w : World) (a : MA) (m : Mc) (hm : McOk m) (hA : MAt w w.heap.size a m) (gm : Nat) (hg : Whole w gm 30 (mcL a m).toArray) (x : Int) (y : List UInt8) :
  Calls Tryz.prog 129 #[.agg (nbCells1 (x,y)).toArray,.pointer (some ⟨gm,0,none⟩)] w fun e w' => e = .returned (.bool (swB m (x,y))) ∧ Below w.heap.size w w':=by
 have hs0:=Whole.made w 51 (nbCells1 (x,y)).toArray;have hb : Below w.heap.size w (w.alloc (.cells (nbCells1 (x,y)).toArray 51)):=(Below.refl _ _).alloc (Nat.le_refl _) _;go_enter Tryz.func129,Tryz.ntmps129;go_upto_region 1 with (fail);change Code.wp _ _ _ _ (w.alloc (.cells (nbCells1 (x,y)).toArray 51));generalize (w.alloc (.cells (nbCells1 (x,y)).toArray 51)) = w1 at *;generalize hgx : w.heap.size = gx at *;have HGX:=jj hgx;have HS0:=jj hs0;have HW:=jj hb;have hgl : gx < w1.heap.size:=hs0.lt;clear hgx hb hs0;have c0 : w1.cell? ⟨gx,0,none⟩ = some (.int .i64 x):=HS0.out.cell 0;have LM:=jj (hg.below HW.out (by have:=hg.lt;have:=HGX.out;omega)).reads;have MI : Hid ((Tryz.prog.info? 30).map (·.size) = some (mcL a m).length):=jj Tryz.sizeMc;have CE:=jj (ends_any w1 a m hm ((hA.below (HGX.out ▸ HW.out)).wide (by have:=HGX.out;omega)) x);obtain ⟨n4,h4⟩ : ∃ z,endsM m.procs x 4 = z:=⟨_,rfl⟩;obtain ⟨n5,h5⟩ : ∃ z,endsM m.procs x 5 = z:=⟨_,rfl⟩;have HD : Hid (swB m (x,y) = (((n4 : Nat) : Int) == 0 && ((n5 : Nat) : Int) == 0)):=jj (by unfold swB;rw [h4,h5]);rw [h4,h5] at CE;clear h4 h5 hA hg hm;go_wp2_with (refine wpList_load_at rfl 30 (.tmp 1) rfl ⟨gm,0,none⟩ rfl (mcL a m) _ LM.out Tryz.underlying30 rfl MI.out ?_);refine CE.out.mono ?_;rintro e w2 ⟨rfl,hb2⟩;have HV:=jj (HW.out.trans (hb2.mono (by omega)));clear CE LM MI hb2 HS0 HW c0;obtain ⟨b4,h4⟩ : ∃ b,(((n4 : Nat) : Int) == 0) = b:=⟨_,rfl⟩;obtain ⟨b5,h5⟩ : ∃ b,(((n5 : Nat) : Int) == 0) = b:=⟨_,rfl⟩;rw [h4,h5] at HD;have g4 : decide (n4 = 0) = b4:=(by rw [← h4];by_cases h : n4 = 0 <;> simp [h]);have g5 : decide (n5 = 0) = b5:=(by rw [← h5];by_cases h : n5 = 0 <;> simp [h]);have k4 : (n4 == 0) = b4:=g4;have k5 : (n5 == 0) = b5:=g5;cases b4 <;> cases b5
 all_goals
  go_wp2_with fail;go_ret;exact ⟨by rw [HD.out] <;> rfl,by rw [HGX.out];exact HV.out⟩
end Go.Proofs.YtnbphabheikfeaaGreatDoor
