import Derived.Test.YtdkhnjjihbmlmaaGreatDoorMcA
namespace Go.Proofs.YtdkhnjjihbmlmaaGreatDoor
open Go.RowKit
section
variable {P : Program} {ops : Array Oper} {Q : Exit → Act → World → Prop}
def dstAt (ops : Array Oper) (i : Nat) : Option Tmp:=(ops[i]?).bind (·.dst)
def dstUp (ops : Array Oper) (m i : Nat) : Option Tmp:=if i < m then dstAt ops i else none
theorem dstUp_lt {m i d : Nat} (h : dstUp ops m i = some d) : i < m:=by
 unfold dstUp at h;by_cases hi : i < m
 ·exact hi
 ·rw [if_neg hi] at h;cases h
theorem dstUp_at {m i : Nat} (h : i < m) : dstUp ops m i = dstAt ops i:=by unfold dstUp;rw [if_pos h]
def apartOk (ops : Array Oper) (m : Nat) : Bool:=(List.range m).all fun i => (List.range m).all fun j => i == j || (match dstAt ops i,dstAt ops j with | some a,some b => a != b | _,_ => true)
theorem apartOk_spec {m : Nat} (h : apartOk ops m = true) {i j d : Nat} (hi : dstUp ops m i = some d) (hj : dstUp ops m j = some d) : i = j:=by
 have h1:=dstUp_lt hi;have h2:=dstUp_lt hj;rw [dstUp_at h1] at hi;rw [dstUp_at h2] at hj;have:=List.all_eq_true.1 (List.all_eq_true.1 h i (List.mem_range.2 h1)) j (List.mem_range.2 h2);rw [hi,hj] at this
 simpa using this
structure SureAt (ops : Array Oper) (m : Nat) (val : Nat → Value) (a0 : Act) (L : Nat → Bool) (a : Act) : Prop where
 defers : a.defers = a0.defers
 size : a.tmps.size = a0.tmps.size
 old : ∀ s,(∀ i,dstUp ops m i ≠ some s) → a.tmps[s]? = a0.tmps[s]?
 new : ∀ i d,L i = true → dstUp ops m i = some d → d < a0.tmps.size → a.tmps[d]? = some (val i)
theorem SureAt.none {m : Nat} {val : Nat → Value} {a0 : Act} : SureAt ops m val a0 (fun _ => false) a0:=⟨rfl,rfl,fun _ _ => rfl,fun _ _ h => by cases h⟩
theorem put_size (a : Act) (d : Option Tmp) (v : Value) : (a.put d v).tmps.size = a.tmps.size:=by cases d <;> simp [Act.put]
theorem put_defers (a : Act) (d : Option Tmp) (v : Value) : (a.put d v).defers = a.defers:=by cases d <;> simp [Act.put]
theorem put_same (a : Act) (d : Nat) (v : Value) (h : d < a.tmps.size) : (a.put (some d) v).tmps[d]? = some v:=by simp [Act.put,h]
theorem put_other (a : Act) (d : Option Tmp) (v : Value) (s : Nat) (h : d ≠ some s) : (a.put d v).tmps[s]? = a.tmps[s]?:=by
 cases d with
 | none => rfl
 | some d => have : d ≠ s:=fun e => h (by rw [e]);simp [Act.put,this]
theorem SureAt.put {m : Nat} {val : Nat → Value} {a0 a : Act} {L : Nat → Bool} (hap : apartOk ops m = true) {i : Nat} (h : SureAt ops m val a0 L a) : SureAt ops m val a0 (also L i) (a.put (dstUp ops m i) (val i)) where
 defers:=by rw [put_defers];exact h.defers
 size:=by rw [put_size];exact h.size
 old s hs:=by rw [put_other _ _ _ _ (hs i)];exact h.old s hs
 new j d hj hd hlt:=by
  by_cases hji : j = i
  ·subst hji;rw [hd];exact put_same _ _ _ (by rw [h.size];exact hlt)
  ·rw [also_other hji] at hj;rw [put_other _ _ _ _ (fun e => hji (apartOk_spec hap hd e))];exact h.new j d hj hd hlt
def sureEnd (ops : Array Oper) (m : Nat) (val : Nat → Value) (a : Act) : Nat → Act
 | 0 => a
 | n + 1 => (sureEnd ops m val a n).put (dstUp ops m n) (val n)
theorem sureEnd_at {m : Nat} (hap : apartOk ops m = true) (val : Nat → Value) (a0 : Act) : ∀ n,SureAt ops m val a0 (fun i => decide (i < n)) (sureEnd ops m val a0 n)
 | 0 => by
  have e : (fun i => decide (i < 0)) = fun _ : Nat => false:=(by funext i;simp);rw [e];exact SureAt.none
 | n + 1 => by
  have h:=SureAt.put (i:=n) hap (sureEnd_at hap val a0 n)
  have e : also (fun i => decide (i < n)) n = fun i => decide (i < n + 1):=by
   funext i
   unfold also;rw [Bool.eq_iff_iff];simp only [Bool.or_eq_true,beq_iff_eq,decide_eq_true_eq];omega
  rw [e] at h;exact h
theorem sureAt_all {m : Nat} {val : Nat → Value} {a0 a b : Act} {L M : Nat → Bool} (ha : SureAt ops m val a0 L a) (hb : SureAt ops m val a0 M b) (hL : ∀ i,i < m → L i = true) (hM : ∀ i,i < m → M i = true) : a = b:=by
 obtain ⟨ta,da⟩:=a;obtain ⟨tb,db⟩:=b;have hd : da = db:=ha.defers.trans hb.defers.symm
 have ht : ta = tb:=by
  apply Array.ext_getElem?;intro s;by_cases hs : ∀ i,dstUp ops m i ≠ some s
  ·exact (ha.old s hs).trans (hb.old s hs).symm
  ·obtain ⟨i,hi⟩ : ∃ i,dstUp ops m i = some s:=Classical.byContradiction fun hn => hs fun i e => hn ⟨i,e⟩
   have hlt:=dstUp_lt hi;by_cases hz : s < a0.tmps.size
   ·exact (ha.new i s (hL i hlt) hi hz).trans (hb.new i s (hM i hlt) hi hz).symm
   ·have h1:=ha.size;have h2:=hb.size;simp only at h1 h2;rw [Array.getElem?_eq_none (by omega),Array.getElem?_eq_none (by omega)]
 rw [hd,ht]
def opStep (P : Program) (ops : Array Oper) (Q : Exit → Act → World → Prop) (o : Oper) (K : Act → World → Prop) (a : Act) (w : World) : Prop :=
 if Region.wanted o (yielded ops a.tmps) = true then o.wp P a w K Q else K (a.put o.dst undef) w
theorem wpOp_opStep {i : Nat} {o : Oper} {K : Act → World → Prop} {a : Act} {w : World} (ho : ops[i]? = some o) (h : opStep P ops Q o K a w) : wpOp P ops Q i K a w:=by
 unfold opStep at h;unfold wpOp;simp only [ho];by_cases hw : Region.wanted o (yielded ops a.tmps) = true
 ·rw [if_pos hw] at h ⊢;exact .inl h
 ·rw [if_neg hw] at h ⊢;exact h
def SureAll (P : Program) (ops : Array Oper) (Q : Exit → Act → World → Prop) (S : World → Prop) (m : Nat) (val : Nat → Value) (a0 : Act) (fin : List Oper → Prop) : List Oper → List Value → Nat → Prop
 | os,[],_ => fin os
 | o :: os,v :: vs,i => (∀ (L : Nat → Bool) (a : Act) (W : World) (K : Act → World → Prop),(∀ e ∈ o.after,Region.binds .any e = true → L e.on = true) → SureAt ops m val a0 L a → S W → (∀ W',S W' → K (a.put o.dst v) W') → opStep P ops Q o K a W) ∧ SureAll P ops Q S m val a0 fin os vs (i + 1)
 | [],_ :: _,_ => False
section
variable {S : World → Prop} {m : Nat} {val : Nat → Value} {a0 : Act} {fin : List Oper → Prop}
theorem sure_nil {os : List Oper} {i : Nat} (h : fin os) : SureAll P ops Q S m val a0 fin os [] i:=by unfold SureAll;exact h
theorem sure_cons {v : Value} {vs : List Value} {o : Oper} {os : List Oper} {i : Nat}
  (h : ∀ (L : Nat → Bool) (a : Act) (W : World) (K : Act → World → Prop),(∀ e ∈ o.after,Region.binds .any e = true → L e.on = true) → SureAt ops m val a0 L a → S W → (∀ W',S W' → K (a.put o.dst v) W') → opStep P ops Q o K a W)
  (hr : SureAll P ops Q S m val a0 fin os vs (i + 1)) : SureAll P ops Q S m val a0 fin (o :: os) (v :: vs) i:=⟨h,hr⟩
theorem sureAll_at : ∀ {os : List Oper} {vs : List Value} {i : Nat},SureAll P ops Q S m val a0 fin os vs i → ∀ (k : Nat) (v : Value) (o : Oper),vs[k]? = some v → os[k]? = some o → ∀ (L : Nat → Bool) (a : Act) (W : World) (K : Act → World → Prop),(∀ e ∈ o.after,Region.binds .any e = true → L e.on = true) → SureAt ops m val a0 L a → S W → (∀ W',S W' → K (a.put o.dst v) W') → opStep P ops Q o K a W
 | _,[],_,_,k,v,o,h,_ => by simp at h
 | [],_ :: _,_,hs,_,_,_,_,_ => hs.elim
 | y :: os,x :: vs,i,h,0,v,o,hv,ho => by
  obtain rfl : x = v:=(by simpa using hv);obtain rfl : y = o:=(by simpa using ho);exact h.1
 | y :: os,x :: vs,i,h,k + 1,v,o,hv,ho => by
  exact sureAll_at h.2 k v o (by simpa using hv) (by simpa using ho)
theorem sureAll_end : ∀ {vs : List Value} {os : List Oper} {i : Nat},SureAll P ops Q S m val a0 fin os vs i → vs.length ≤ os.length ∧ fin (os.drop vs.length)
 | [],os,i,h => ⟨by simp,by unfold SureAll at h;simpa using h⟩
 | x :: vs,[],i,h => h.elim
 | x :: vs,y :: os,i,h => by
  have:=sureAll_end h.2
  simpa using this
end
def putAll : List (Option Tmp) → List Value → Act → Act
 | d :: ds,v :: vs,a => putAll ds vs (a.put d v)
 | _,_,a => a
theorem sureEnd_putAll {M : Nat} (val : Nat → Value) : ∀ (m : Nat) (ds : List (Option Tmp)) (ws : List Value) (n : Nat) (a : Act),ds.length = m → ws.length = m → (∀ k,k < m → ds[k]? = some (dstUp ops M (n + k))) → (∀ k,k < m → ws[k]? = some (val (n + k))) → putAll ds ws (sureEnd ops M val a n) = sureEnd ops M val a (n + m)
 | 0,[],[],n,a,_,_,_,_ => rfl
 | 0,d :: ds,_,_,_,h,_,_,_ => by simp at h
 | 0,[],w :: ws,_,_,_,h,_,_ => by simp at h
 | m + 1,[],_,_,_,h,_,_,_ => by simp at h
 | m + 1,d :: ds,[],_,_,_,h,_,_ => by simp at h
 | m + 1,d :: ds,w :: ws,n,a,h1,h2,h3,h4 => by
  have e1 : d = dstUp ops M n:=(by simpa using h3 0 (by omega));have e2 : w = val n:=(by simpa using h4 0 (by omega));subst e1 e2
  have:=sureEnd_putAll val m ds ws (n + 1) a (by simpa using h1) (by simpa using h2)
   (fun k hk => by have:=h3 (k + 1) (by omega);rw [show n + 1 + k = n + (k + 1) by omega];simpa using this)
   (fun k hk => by have:=h4 (k + 1) (by omega);rw [show n + 1 + k = n + (k + 1) by omega];simpa using this)
  rw [show n + (m + 1) = n + 1 + m by omega];exact this
def depsOf (ops : Array Oper) (j : Nat) : List Nat:=((ops[j]?).map fun o => (o.after.toList.filter (Region.binds .any)).map (·.on)).getD []
def chase (ops : Array Oper) : Nat → List Nat → Bool
 | 0,_ => true
 | j + 1,s => s.contains j && chase ops j (depsOf ops j ++ s)
theorem chase_spec {L : Nat → Bool} (hL : ∀ k,L k = true → ∀ d ∈ depsOf ops k,L d = true) : ∀ (n : Nat) (s : List Nat),chase ops n s = true → (∀ x ∈ s,L x = true) → ∀ j,j < n → L j = true
 | 0,_,_,_,j,hj => by omega
 | n + 1,s,h,hs,j,hj => by
  have h' : (s.contains n && chase ops n (depsOf ops n ++ s)) = true:=h;rw [Bool.and_eq_true] at h';have hn : L n = true:=hs n (by simpa using h'.1);by_cases hjn : j = n
  ·rw [hjn];exact hn
  ·exact chase_spec hL n _ h'.2 (fun x hx => (List.mem_append.1 hx).elim (hL n hn x) (hs x)) j (by omega)
def tailOk (ops : Array Oper) (m : Nat) : Bool:=(List.range ops.size).all fun k => decide (k < m) || chase ops k (depsOf ops k)
theorem depsOf_on {i : Nat} {o : Oper} (ho : ops[i]? = some o) {L : Nat → Bool} (h : ∀ e ∈ o.after,Region.binds .any e = true → L e.on = true) : ∀ d ∈ depsOf ops i,L d = true:=fun d hd => by
 unfold depsOf at hd;rw [ho] at hd;simp only [Option.map_some,Option.getD_some,List.mem_map,List.mem_filter] at hd;obtain ⟨e,⟨he,hb⟩,rfl⟩:=hd;exact h e (Array.mem_toList_iff.1 he) hb
theorem wp_region_sure {id : Nat} {a0 : Act} {w : World} (hm : P.follows .mixedOrders = true) (S : World → Prop) (m : Nat) (vals : List Value) (ds : List (Option Tmp)) (hds : (List.range m).map (dstAt ops) = ds) (hok : downOk ops = true) (hap : apartOk ops m = true) (htl : tailOk ops m = true) (hvl : vals.length = m) (h0 : S w.drew)
  (hstep : SureAll P ops Q S m (fun i => vals.getD i undef) a0 (fun rest => ∀ W,S W → wpList P ops Q rest (putAll ds vals a0) W) ops.toList vals 0) : (Code.region id ops true).wp P Q a0 w:=by
 obtain ⟨hle,hend⟩:=sureAll_end hstep;rw [hvl] at hle hend;rw [Array.length_toList] at hle
 have hchase : ∀ k,m ≤ k → k < ops.size → chase ops k (depsOf ops k) = true:=fun k h1 h2 => by
  have:=List.all_eq_true.1 htl k (List.mem_range.2 h2);rw [decide_eq_false (by omega)] at this
  simpa using this
 have hall : ∀ (a : Act) (L : Nat → Bool),SureAt ops m (fun i => vals.getD i undef) a0 L a → (∀ i,i < m → L i = true) → a = putAll ds vals a0:=fun a L hS hL => by
  rw [sureAt_all hS (sureEnd_at hap _ a0 m) hL (fun i hi => by simpa using hi)]
  have e:=sureEnd_putAll (ops:=ops) (M:=m) (fun i => vals.getD i undef) m ds vals 0 a0 (by rw [← hds];simp) hvl
   (fun k hk => by rw [← hds,List.getElem?_map,List.getElem?_range hk,Nat.zero_add,dstUp_at hk];rfl)
   (fun k hk => by rw [Nat.zero_add,List.getD_eq_getElem?_getD,List.getElem?_eq_getElem (by omega)];rfl)
  rw [Nat.zero_add] at e;exact e.symm
 have hcons : ∀ (r : Nat) (o : Oper),ops[r]? = some o → ops.toList.drop r = o :: ops.toList.drop (r + 1):=fun r o ho => by
  obtain ⟨h1,h2⟩:=Array.getElem?_eq_some_iff.1 ho;rw [List.drop_eq_getElem_cons (by simpa using h1)];simp [h2]
 have hone : ∀ (r : Nat) (o : Oper) (a : Act) (W : World),ops[r]? = some o → wpList P ops Q (ops.toList.drop r) a W → wpOp P ops Q r (wpList P ops Q (ops.toList.drop (r + 1))) a W:=fun r o a W ho h => by
  rw [hcons r o ho] at h;unfold wpOp;simp only [ho];exact h
 refine wp_region_set hm (fun L a W => (∀ k,L k = true → ∀ d ∈ depsOf ops k,L d = true) ∧ (((∀ k,m ≤ k → L k = false) ∧ SureAt ops m (fun i => vals.getD i undef) a0 L a ∧ S W) ∨ (∃ r,m < r ∧ (∀ k,k < ops.size → L k = decide (k < r)) ∧ wpList P ops Q (ops.toList.drop r) a W))) (downOk_spec hok) ⟨fun k h => (by cases h),.inl ⟨fun _ _ => rfl,SureAt.none,h0⟩⟩ ?_ ?_
 ·intro i o ho L a W hLi hed hJ;obtain ⟨hdc,hJ⟩:=hJ;have his:=(Array.getElem?_eq_some_iff.1 ho).1;have hdi:=depsOf_on ho hed
  have hdc' : ∀ k,also L i k = true → ∀ d ∈ depsOf ops k,also L i d = true:=fun k hk d hd => by
   by_cases hki : k = i
   ·subst hki;exact also_of (hdi d hd)
   ·rw [also_other hki] at hk;exact also_of (hdc k hk d hd)
  rcases hJ with ⟨hno,hS,hW⟩ | ⟨r,hr,hLr,hw⟩
  ·by_cases him : i < m
   ·have hv : vals[i]? = some (vals.getD i undef):=(by rw [List.getD_eq_getElem?_getD,List.getElem?_eq_getElem (by omega)];rfl)
    have:=sureAll_at hstep i _ o hv (by simpa using ho) L a W (fun a' W' => (∀ k,also L i k = true → ∀ d ∈ depsOf ops k,also L i d = true) ∧ (((∀ k,m ≤ k → also L i k = false) ∧ SureAt ops m (fun i => vals.getD i undef) a0 (also L i) a' ∧ S W') ∨ (∃ r,m < r ∧ (∀ k,k < ops.size → also L i k = decide (k < r)) ∧ wpList P ops Q (ops.toList.drop r) a' W'))) hed hS hW fun W' hW' => ⟨hdc',.inl ⟨fun k hk => by rw [also_other (by omega)];exact hno k hk,by
     have hd : dstUp ops m i = o.dst:=(by rw [dstUp_at him];unfold dstAt;rw [ho];rfl);rw [← hd];exact hS.put hap,hW'⟩⟩
    exact wpOp_opStep ho this
   ·have hj:=chase_spec hdc i _ (hchase i (by omega) his) hdi
    have him' : i = m:=by
     rcases Nat.lt_or_ge m i with h | h
     ·have h1:=hj m h;rw [hno m (Nat.le_refl m)] at h1;cases h1
     ·omega
    subst him';have e:=hall a L hS hj;refine wpOp_mono ?_ (hone i o a W ho (by rw [e];exact hend W hW));intro a' W' h';refine ⟨hdc',.inr ⟨i + 1,by omega,fun k hk => ?_,h'⟩⟩;by_cases hki : k = i
    ·subst hki;rw [also_same];simp
    ·rw [also_other hki];rcases Nat.lt_or_ge k i with h | h
     ·rw [hj k h,decide_eq_true (by omega)]
     ·rw [hno k h,decide_eq_false (by omega)]
  ·have hri : r ≤ i:=by
    rcases Nat.lt_or_ge i r with h | h
    ·have h1:=hLr i his;rw [hLi,decide_eq_true h] at h1;cases h1
    ·exact h
   have hj:=chase_spec hdc i _ (hchase i (by omega) his) hdi
   have hir : i = r:=by
    rcases Nat.lt_or_ge r i with h | h
    ·have h1:=hj r h;rw [hLr r (by omega),decide_eq_false (by omega)] at h1;cases h1
    ·omega
   subst hir;refine wpOp_mono ?_ (hone i o a W ho hw);intro a' W' h';refine ⟨hdc',.inr ⟨i + 1,by omega,fun k hk => ?_,h'⟩⟩;by_cases hki : k = i
   ·subst hki;rw [also_same];simp
   ·rw [also_other hki,hLr k hk];rw [Bool.eq_iff_iff];simp only [decide_eq_true_eq];omega
 ·intro L a W hL hJ;obtain ⟨_,⟨hno,hS,hW⟩ | ⟨r,hr,hLr,hw⟩⟩:=hJ
  ·have hms : m = ops.size:=by
    rcases Nat.lt_or_ge m ops.size with h | h
    ·have h1:=hL m h;rw [hno m (Nat.le_refl m)] at h1;cases h1
    ·omega
   have e:=hall a L hS (fun i hi => hL i (by omega));have h2:=hend W hW;rw [List.drop_of_length_le (by simp;omega)] at h2;rw [e];exact h2
  ·rw [List.drop_of_length_le (by
    rcases Nat.lt_or_ge r ops.size with h | h
    ·have h1:=hLr r h;rw [hL r h,decide_eq_false (by omega)] at h1;cases h1
    ·simpa using h)] at hw
   exact hw
theorem SureAt.eval {m : Nat} {vals : List Value} {a0 a : Act} {L : Nat → Bool} (h : SureAt ops m (fun i => vals.getD i undef) a0 L a) (i : Nat) {d : Nat} {v : Value} (hL : L i = true) (hd : dstUp ops m i = some d) (hz : decide (d < a0.tmps.size) = true) (hv : vals[i]? = some v) : a.eval (.tmp d) = v:=by
 have:=h.new i d hL hd (of_decide_eq_true hz);show a.tmps.getD d undef = v;rw [Array.getD_eq_getD_getElem?,this];simp only [List.getD_eq_getElem?_getD,hv,Option.getD_some]
theorem SureAt.eval_old {m : Nat} {val : Nat → Value} {a0 a : Act} {L : Nat → Bool} (h : SureAt ops m val a0 L a) (d : Nat) (hd : ((List.range m).all fun i => dstAt ops i != some d) = true) : a.eval (.tmp d) = a0.eval (.tmp d):=by
 have:=h.old d fun i e => by
  have hlt:=dstUp_lt e;rw [dstUp_at hlt] at e;have:=List.all_eq_true.1 hd i (List.mem_range.2 hlt);rw [e] at this;simp at this
 show a.tmps.getD d undef = a0.tmps.getD d undef;rw [Array.getD_eq_getD_getElem?,Array.getD_eq_getD_getElem?,this]
theorem evalN {a : Act} {d : Nat} {v : Value} (h : a.eval (.tmp d) = v) : a.tmps[d]?.getD undef = v:=by
 rw [← Array.getD_eq_getD_getElem?];exact h
theorem opStep_of {o : Oper} {K : Act → World → Prop} {a : Act} {w : World} (hg : o.guard = none) (h : o.wp P a w K Q) : opStep P ops Q o K a w:=by
 have hw : Region.wanted o (yielded ops a.tmps) = true:=(by simp [Region.wanted,hg]);unfold opStep;rw [if_pos hw];exact h
theorem opStep_yes {j : Nat} {b : Bool} {o : Oper} {K : Act → World → Prop} {a : Act} {w : World} (hg : o.guard = some (j,b)) {d : Nat} (hd : dstAt ops j = some d) (hz : decide (d < a.tmps.size) = true) (hv : a.eval (.tmp d) = .bool b) (h : o.wp P a w K Q) : opStep P ops Q o K a w:=by
 have hy : yielded ops a.tmps j = some b:=by unfold yielded;unfold dstAt at hd;have hz':=of_decide_eq_true hz;have e : a.tmps[d]? = some (.bool b):=(by have hv : a.tmps.getD d undef = _:=hv;rw [Array.getD_eq_getD_getElem?,Array.getElem?_eq_getElem hz'] at hv;rw [Array.getElem?_eq_getElem hz'];exact congrArg some hv);rw [hd];simp only [Option.bind_some,e]
 have hw : Region.wanted o (yielded ops a.tmps) = true:=(by simp [Region.wanted,hg,hy]);unfold opStep;rw [if_pos hw];exact h
theorem opStep_no {j : Nat} {b b' : Bool} {o : Oper} {K : Act → World → Prop} {a : Act} {w : World} (hg : o.guard = some (j,b)) {d : Nat} (hd : dstAt ops j = some d) (hz : decide (d < a.tmps.size) = true) (hv : a.eval (.tmp d) = .bool b') (hb : (b' == b) = false) (h : K (a.put o.dst undef) w) : opStep P ops Q o K a w:=by
 have hy : yielded ops a.tmps j = some b':=by unfold yielded;unfold dstAt at hd;have hz':=of_decide_eq_true hz;have e : a.tmps[d]? = some (.bool b'):=(by have hv : a.tmps.getD d undef = _:=hv;rw [Array.getD_eq_getD_getElem?,Array.getElem?_eq_getElem hz'] at hv;rw [Array.getElem?_eq_getElem hz'];exact congrArg some hv);rw [hd];simp only [Option.bind_some,e]
 have hbb : b' ≠ b:=beq_eq_false_iff_ne.1 hb;have hw : Region.wanted o (yielded ops a.tmps) = false:=(by simp [Region.wanted,hg,hy,hbb]);unfold opStep;rw [hw];exact h
theorem oper_load_at {o : Oper} {K : Act → World → Prop} {a : Act} {w : World} (ty : TypeId) (x : Operand) (ho : o.op = .load ty x) (ad : Addr) (hx : a.eval x = .pointer (some ad)) (cs : List Value) (d : TypeDesc) (hc : ∀ j v,cs[j]? = some v → w.cell? (ad.add j) = some v)
  (hu : P.underlying ty = some d) (hd : (match d with | .struct _ | .array _ _ => true | _ => false) = true) (hi : (P.info? ty).map (·.size) = some cs.length) (h : K (a.put o.dst (.agg cs.toArray)) w) : o.wp P a w K Q:=by
 unfold Oper.wp execOp;simp only [ho,hx,Instr.loadAt,Instr.sureAddr,Sem.run_bind,Sem.run_pure,Result.andThen_ok,run_loadVar_at w ad ty cs d hc hu hd hi];exact h
end
end Go.Proofs.YtdkhnjjihbmlmaaGreatDoor
namespace Go.Proofs.YtdkhnjjihbmlmaaGreatDoor
open Go.RowKit
section
variable {P : Program} {ops : Array Oper} {Q : Exit → Act → World → Prop}
structure SureXAt (ops : Array Oper) (m : Nat) (val : Nat → Option Value) (a0 : Act) (L : Nat → Bool) (a : Act) : Prop where
 defers : a.defers = a0.defers
 size : a.tmps.size = a0.tmps.size
 old : ∀ s,(∀ i,dstUp ops m i ≠ some s) → a.tmps[s]? = a0.tmps[s]?
 new : ∀ i d,L i = true → dstUp ops m i = some d → d < a0.tmps.size → ∀ v,val i = some v → a.tmps[d]? = some v
theorem SureXAt.none {m : Nat} {val : Nat → Option Value} {a0 : Act} : SureXAt ops m val a0 (fun _ => false) a0:=⟨rfl,rfl,fun _ _ => rfl,fun _ _ h => by cases h⟩
theorem SureXAt.put {m : Nat} {val : Nat → Option Value} {a0 a : Act} {L : Nat → Bool} (hap : apartOk ops m = true) {i : Nat} {v : Value} (hv : ∀ v0,val i = some v0 → v = v0) (h : SureXAt ops m val a0 L a) : SureXAt ops m val a0 (also L i) (a.put (dstUp ops m i) v) where
 defers:=by rw [put_defers];exact h.defers
 size:=by rw [put_size];exact h.size
 old s hs:=by rw [put_other _ _ _ _ (hs i)];exact h.old s hs
 new j d hj hd hlt v0 hv0:=by
  by_cases hji : j = i
  ·subst hji;rw [hd,hv v0 hv0];exact put_same _ _ _ (by rw [h.size];exact hlt)
  ·rw [also_other hji] at hj;rw [put_other _ _ _ _ (fun e => hji (apartOk_spec hap hd e))];exact h.new j d hj hd hlt v0 hv0
def mendAll : List (Option Tmp) → List (Option Value) → Act → List Value
 | d :: ds,v :: vs,a => (v.getD ((d.map fun d => a.tmps.getD d undef).getD undef)) :: mendAll ds vs a
 | _,_,_ => []
theorem mendAll_at : ∀ (ds : List (Option Tmp)) (vs : List (Option Value)) (a : Act) (k : Nat) (d : Option Tmp) (v : Option Value),ds[k]? = some d → vs[k]? = some v → (mendAll ds vs a)[k]? = some (v.getD ((d.map fun d => a.tmps.getD d undef).getD undef))
 | [],_,_,_,_,_,h,_ => by simp at h
 | _ :: _,[],_,_,_,_,_,h => by simp at h
 | d :: ds,v :: vs,a,0,d',v',h1,h2 => by
  obtain rfl : d = d':=(by simpa using h1);obtain rfl : v = v':=(by simpa using h2);rfl
 | d :: ds,v :: vs,a,k + 1,d',v',h1,h2 => by
  have:=mendAll_at ds vs a k d' v' (by simpa using h1) (by simpa using h2)
  simpa [mendAll] using this
theorem mendAll_length : ∀ (ds : List (Option Tmp)) (vs : List (Option Value)) (a : Act),ds.length = vs.length → (mendAll ds vs a).length = vs.length
 | [],[],_,_ => rfl
 | [],_ :: _,_,h => by simp at h
 | _ :: _,[],_,h => by simp at h
 | d :: ds,v :: vs,a,h => by simp [mendAll,mendAll_length ds vs a (by simpa using h)]
inductive Knows : Option Value → Value → Prop
 | known (u : Value) : Knows (some u) u
 | free (u : Value) : Knows Option.none u
theorem Knows.at {v : Option Value} {u : Value} (h : Knows v u) : ∀ v0,v = some v0 → u = v0:=fun v0 e => by
 cases h
 ·injection e
 ·cases e
def SureXAll (P : Program) (ops : Array Oper) (Q : Exit → Act → World → Prop) (X : (Nat → Bool) → Act → World → Prop) (m : Nat) (val : Nat → Option Value) (a0 : Act) (fin : List Oper → Prop) : List Oper → List (Option Value) → Nat → Prop
 | os,[],_ => fin os
 | o :: os,v :: vs,i => (∀ (L : Nat → Bool) (a : Act) (W : World) (K : Act → World → Prop),L i = false → (∀ e ∈ o.after,Region.binds .any e = true → L e.on = true) → SureXAt ops m val a0 L a → X L a W → (∀ u W',Knows v u → X (also L i) (a.put o.dst u) W' → K (a.put o.dst u) W') → opStep P ops Q o K a W) ∧ SureXAll P ops Q X m val a0 fin os vs (i + 1)
 | [],_ :: _,_ => False
section
variable {X : (Nat → Bool) → Act → World → Prop} {m : Nat} {val : Nat → Option Value} {a0 : Act} {fin : List Oper → Prop}
theorem sureX_nil {os : List Oper} {i : Nat} (h : fin os) : SureXAll P ops Q X m val a0 fin os [] i:=by unfold SureXAll;exact h
theorem sureX_cons {v : Option Value} {vs : List (Option Value)} {o : Oper} {os : List Oper} {i : Nat}
  (h : ∀ (L : Nat → Bool) (a : Act) (W : World) (K : Act → World → Prop),L i = false → (∀ e ∈ o.after,Region.binds .any e = true → L e.on = true) → SureXAt ops m val a0 L a → X L a W → (∀ u W',Knows v u → X (also L i) (a.put o.dst u) W' → K (a.put o.dst u) W') → opStep P ops Q o K a W)
  (hr : SureXAll P ops Q X m val a0 fin os vs (i + 1)) : SureXAll P ops Q X m val a0 fin (o :: os) (v :: vs) i:=⟨h,hr⟩
theorem sureXAll_at : ∀ {os : List Oper} {vs : List (Option Value)} {i : Nat},SureXAll P ops Q X m val a0 fin os vs i → ∀ (k : Nat) (v : Option Value) (o : Oper),vs[k]? = some v → os[k]? = some o → ∀ (L : Nat → Bool) (a : Act) (W : World) (K : Act → World → Prop),L (i + k) = false → (∀ e ∈ o.after,Region.binds .any e = true → L e.on = true) → SureXAt ops m val a0 L a → X L a W → (∀ u W',Knows v u → X (also L (i + k)) (a.put o.dst u) W' → K (a.put o.dst u) W') → opStep P ops Q o K a W
 | _,[],_,_,k,v,o,h,_ => by simp at h
 | [],_ :: _,_,hs,_,_,_,_,_ => hs.elim
 | y :: os,x :: vs,i,h,0,v,o,hv,ho => by
  obtain rfl : x = v:=(by simpa using hv);obtain rfl : y = o:=(by simpa using ho);exact h.1
 | y :: os,x :: vs,i,h,k + 1,v,o,hv,ho => by
  have:=sureXAll_at h.2 k v o (by simpa using hv) (by simpa using ho)
  rwa [show i + 1 + k = i + (k + 1) by omega] at this
theorem sureXAll_end : ∀ {vs : List (Option Value)} {os : List Oper} {i : Nat},SureXAll P ops Q X m val a0 fin os vs i → vs.length ≤ os.length ∧ fin (os.drop vs.length)
 | [],os,i,h => ⟨by simp,by unfold SureXAll at h;simpa using h⟩
 | x :: vs,[],i,h => h.elim
 | x :: vs,y :: os,i,h => by
  have:=sureXAll_end h.2
  simpa using this
end
theorem wp_region_sureX {id : Nat} {a0 : Act} {w : World} (hm : P.follows .mixedOrders = true) (X : (Nat → Bool) → Act → World → Prop) (m : Nat) (vals : List (Option Value)) (ds : List (Option Tmp)) (hds : (List.range m).map (dstAt ops) = ds) (hok : downOk ops = true) (hap : apartOk ops m = true) (htl : tailOk ops m = true) (hvl : vals.length = m) (h0 : X (fun _ => false) a0 w.drew)
  (hstep : SureXAll P ops Q X m (fun i => vals.getD i none) a0 (fun rest => ∀ L a W,(∀ i,i < m → L i = true) → X L a W → a = putAll ds (mendAll ds vals a) a0 → wpList P ops Q rest a W) ops.toList vals 0) : (Code.region id ops true).wp P Q a0 w:=by
 obtain ⟨hle,hend⟩:=sureXAll_end hstep;rw [hvl] at hle hend;rw [Array.length_toList] at hle
 have hchase : ∀ k,m ≤ k → k < ops.size → chase ops k (depsOf ops k) = true:=fun k h1 h2 => by
  have:=List.all_eq_true.1 htl k (List.mem_range.2 h2);rw [decide_eq_false (by omega)] at this
  simpa using this
 have hall : ∀ (a : Act) (L : Nat → Bool),SureXAt ops m (fun i => vals.getD i none) a0 L a → (∀ i,i < m → L i = true) → a = putAll ds (mendAll ds vals a) a0:=fun a L hS hL => by
  have hdl : ds.length = m:=(by rw [← hds];simp)
  have hA : SureAt ops m (fun i => (mendAll ds vals a).getD i undef) a0 L a:=⟨hS.defers,hS.size,hS.old,fun i d hi hd hz => by
   have him:=dstUp_lt hd;rw [dstUp_at him] at hd;have hv : vals[i]? = some (vals.getD i none):=(by rw [List.getD_eq_getElem?_getD,List.getElem?_eq_getElem (by omega)];rfl);have h1 : ds[i]? = some (some d):=(by rw [← hds,List.getElem?_map,List.getElem?_range him,← hd];rfl);have e:=mendAll_at ds vals a i _ _ h1 hv;show a.tmps[d]? = some ((mendAll ds vals a).getD i undef);rw [List.getD_eq_getElem?_getD,e];cases hq : vals.getD i none with
   | some v0 => have:=hS.new i d hi (by rw [dstUp_at him];exact hd) hz v0 hq;rw [this];rfl
   | none => have hz' : d < a.tmps.size:=hS.size ▸ hz;rw [Array.getElem?_eq_getElem hz'];simp [Array.getD_eq_getD_getElem?,Array.getElem?_eq_getElem hz']⟩
  have hml:=mendAll_length ds vals a (by omega);have e1:=sureAt_all hA (sureEnd_at hap _ a0 m) hL (fun i hi => by simpa using hi)
  have e:=sureEnd_putAll (ops:=ops) (M:=m) (fun i => (mendAll ds vals a).getD i undef) m ds (mendAll ds vals a) 0 a0 hdl (by omega)
   (fun k hk => by rw [← hds,List.getElem?_map,List.getElem?_range hk,Nat.zero_add,dstUp_at hk];rfl)
   (fun k hk => by rw [Nat.zero_add,List.getD_eq_getElem?_getD,List.getElem?_eq_getElem (by omega)];rfl)
  rw [Nat.zero_add] at e;exact e1.trans e.symm
 have hcons : ∀ (r : Nat) (o : Oper),ops[r]? = some o → ops.toList.drop r = o :: ops.toList.drop (r + 1):=fun r o ho => by
  obtain ⟨h1,h2⟩:=Array.getElem?_eq_some_iff.1 ho;rw [List.drop_eq_getElem_cons (by simpa using h1)];simp [h2]
 have hone : ∀ (r : Nat) (o : Oper) (a : Act) (W : World),ops[r]? = some o → wpList P ops Q (ops.toList.drop r) a W → wpOp P ops Q r (wpList P ops Q (ops.toList.drop (r + 1))) a W:=fun r o a W ho h => by
  rw [hcons r o ho] at h;unfold wpOp;simp only [ho];exact h
 refine wp_region_set hm (fun L a W => (∀ k,L k = true → ∀ d ∈ depsOf ops k,L d = true) ∧ (((∀ k,m ≤ k → L k = false) ∧ SureXAt ops m (fun i => vals.getD i none) a0 L a ∧ X L a W) ∨ (∃ r,m < r ∧ (∀ k,k < ops.size → L k = decide (k < r)) ∧ wpList P ops Q (ops.toList.drop r) a W))) (downOk_spec hok) ⟨fun k h => (by cases h),.inl ⟨fun _ _ => rfl,SureXAt.none,h0⟩⟩ ?_ ?_
 ·intro i o ho L a W hLi hed hJ;obtain ⟨hdc,hJ⟩:=hJ;have his:=(Array.getElem?_eq_some_iff.1 ho).1;have hdi:=depsOf_on ho hed
  have hdc' : ∀ k,also L i k = true → ∀ d ∈ depsOf ops k,also L i d = true:=fun k hk d hd => by
   by_cases hki : k = i
   ·subst hki;exact also_of (hdi d hd)
   ·rw [also_other hki] at hk;exact also_of (hdc k hk d hd)
  rcases hJ with ⟨hno,hS,hW⟩ | ⟨r,hr,hLr,hw⟩
  ·by_cases him : i < m
   ·have hv : vals[i]? = some (vals.getD i none):=(by rw [List.getD_eq_getElem?_getD,List.getElem?_eq_getElem (by omega)];rfl)
    have:=sureXAll_at hstep i _ o hv (by simpa using ho) L a W (fun a' W' => (∀ k,also L i k = true → ∀ d ∈ depsOf ops k,also L i d = true) ∧ (((∀ k,m ≤ k → also L i k = false) ∧ SureXAt ops m (fun i => vals.getD i none) a0 (also L i) a' ∧ X (also L i) a' W') ∨ (∃ r,m < r ∧ (∀ k,k < ops.size → also L i k = decide (k < r)) ∧ wpList P ops Q (ops.toList.drop r) a' W'))) (by rw [Nat.zero_add];exact hLi) hed hS hW fun u W' hu hW' => ⟨hdc',.inl ⟨fun k hk => by rw [also_other (by omega)];exact hno k hk,by
     have hd : dstUp ops m i = o.dst:=(by rw [dstUp_at him];unfold dstAt;rw [ho];rfl);rw [← hd];exact hS.put hap hu.at,by rw [Nat.zero_add] at hW';exact hW'⟩⟩
    exact wpOp_opStep ho this
   ·have hj:=chase_spec hdc i _ (hchase i (by omega) his) hdi
    have him' : i = m:=by
     rcases Nat.lt_or_ge m i with h | h
     ·have h1:=hj m h;rw [hno m (Nat.le_refl m)] at h1;cases h1
     ·omega
    subst him';have e:=hall a L hS hj;refine wpOp_mono ?_ (hone i o a W ho (hend L a W hj hW e));intro a' W' h';refine ⟨hdc',.inr ⟨i + 1,by omega,fun k hk => ?_,h'⟩⟩;by_cases hki : k = i
    ·subst hki;rw [also_same];simp
    ·rw [also_other hki];rcases Nat.lt_or_ge k i with h | h
     ·rw [hj k h,decide_eq_true (by omega)]
     ·rw [hno k h,decide_eq_false (by omega)]
  ·have hri : r ≤ i:=by
    rcases Nat.lt_or_ge i r with h | h
    ·have h1:=hLr i his;rw [hLi,decide_eq_true h] at h1;cases h1
    ·exact h
   have hj:=chase_spec hdc i _ (hchase i (by omega) his) hdi
   have hir : i = r:=by
    rcases Nat.lt_or_ge r i with h | h
    ·have h1:=hj r h;rw [hLr r (by omega),decide_eq_false (by omega)] at h1;cases h1
    ·omega
   subst hir;refine wpOp_mono ?_ (hone i o a W ho hw);intro a' W' h';refine ⟨hdc',.inr ⟨i + 1,by omega,fun k hk => ?_,h'⟩⟩;by_cases hki : k = i
   ·subst hki;rw [also_same];simp
   ·rw [also_other hki,hLr k hk];rw [Bool.eq_iff_iff];simp only [decide_eq_true_eq];omega
 ·intro L a W hL hJ;obtain ⟨_,⟨hno,hS,hW⟩ | ⟨r,hr,hLr,hw⟩⟩:=hJ
  ·have hms : m = ops.size:=by
    rcases Nat.lt_or_ge m ops.size with h | h
    ·have h1:=hL m h;rw [hno m (Nat.le_refl m)] at h1;cases h1
    ·omega
   have e:=hall a L hS (fun i hi => hL i (by omega));have h2:=hend L a W (fun i hi => hL i (by omega)) hW e;rw [List.drop_of_length_le (by simp;omega)] at h2;exact h2
  ·rw [List.drop_of_length_le (by
    rcases Nat.lt_or_ge r ops.size with h | h
    ·have h1:=hLr r h;rw [hL r h,decide_eq_false (by omega)] at h1;cases h1
    ·simpa using h)] at hw
   exact hw
theorem SureXAt.eval {m : Nat} {vals : List (Option Value)} {a0 a : Act} {L : Nat → Bool} (h : SureXAt ops m (fun i => vals.getD i Option.none) a0 L a) (i : Nat) {d : Nat} {v : Value} (hL : L i = true) (hd : dstUp ops m i = some d) (hz : decide (d < a0.tmps.size) = true) (hv : vals[i]? = some (some v)) : a.eval (.tmp d) = v:=by
 have:=h.new i d hL hd (of_decide_eq_true hz) v (by simp only [List.getD_eq_getElem?_getD,hv,Option.getD_some]);show a.tmps.getD d undef = v;rw [Array.getD_eq_getD_getElem?,this];rfl
theorem SureXAt.eval_old {m : Nat} {val : Nat → Option Value} {a0 a : Act} {L : Nat → Bool} (h : SureXAt ops m val a0 L a) (d : Nat) (hd : ((List.range m).all fun i => dstAt ops i != some d) = true) : a.eval (.tmp d) = a0.eval (.tmp d):=by
 have:=h.old d fun i e => by
  have hlt:=dstUp_lt e;rw [dstUp_at hlt] at e;have:=List.all_eq_true.1 hd i (List.mem_range.2 hlt);rw [e] at this;simp at this
 show a.tmps.getD d undef = a0.tmps.getD d undef;rw [Array.getD_eq_getD_getElem?,Array.getD_eq_getD_getElem?,this]
theorem eval_put {a : Act} {d : Option Tmp} {v : Value} {s : Nat} (h : d ≠ some s) : (a.put d v).eval (.tmp s) = a.eval (.tmp s):=by
 show (a.put d v).tmps.getD s undef = a.tmps.getD s undef;rw [Array.getD_eq_getD_getElem?,Array.getD_eq_getD_getElem?,put_other _ _ _ _ h]
end
end Go.Proofs.YtdkhnjjihbmlmaaGreatDoor
namespace Go.Proofs.YtdkhnjjihbmlmaaGreatDoor
open Go.RowKit
section
def PostX (base : World) (l : List (Nat × Nat)) (R : Nat → Value → World → Prop) (L : Nat → Bool) (a : Act) (W : World) : Prop :=
 Below base.heap.size base W ∧ ∀ p ∈ l,L p.1 = true → R p.1 (a.eval (.tmp p.2)) W
variable {base : World} {l : List (Nat × Nat)} {R : Nat → Value → World → Prop} {L : Nat → Bool} {a : Act} {W W' : World}
theorem PostX.init (h : Below base.heap.size base W) : PostX base l R (fun _ => false) a W:=⟨h,fun _ _ h => by cases h⟩
theorem PostX.step (hst : ∀ j v W W',R j v W → Below W.heap.size W W' → R j v W') (h : PostX base l R L a W) (hb : Below W.heap.size W W') {i : Nat} {d : Option Tmp} {v : Value}
  (hi : (l.all fun p => p.1 != i) = true) (hd : (l.all fun p => d != some p.2) = true) : PostX base l R (also L i) (a.put d v) W' :=
 ⟨h.1.trans (hb.mono h.1.size),fun p hp hL => by
  have h1:=List.all_eq_true.1 hi p hp;have h2:=List.all_eq_true.1 hd p hp;rw [also_other (fun e => by rw [e] at h1;simp at h1)] at hL;rw [eval_put (fun e => by rw [e] at h2;simp at h2)];exact hst _ _ _ _ (h.2 p hp hL) hb⟩
theorem PostX.made (hst : ∀ j v W W',R j v W → Below W.heap.size W W' → R j v W') (h : PostX base l R L a W) (hb : Below W.heap.size W W') {j s : Nat} {v : Value}
  (hap : (l.all fun p => (p.1 == j && p.2 == s) || (p.1 != j && p.2 != s)) = true) (hs : s < a.tmps.size) (hv : R j v W') : PostX base l R (also L j) (a.put (some s) v) W' :=
 ⟨h.1.trans (hb.mono h.1.size),fun p hp hL => by
  have h1:=List.all_eq_true.1 hap p hp;simp only [Bool.or_eq_true,Bool.and_eq_true,beq_iff_eq,bne_iff_ne] at h1;rcases h1 with ⟨e1,e2⟩ | ⟨e1,e2⟩
  ·rw [e1,e2];have : (a.put (some s) v).eval (.tmp s) = v:=(by show (a.put (some s) v).tmps.getD s undef = v;rw [Array.getD_eq_getD_getElem?,put_same _ _ _ hs];rfl);rw [this];exact hv
  ·rw [also_other e1] at hL;rw [eval_put (fun e => by injection e with e;exact e2 e.symm)];exact hst _ _ _ _ (h.2 p hp hL) hb⟩
end
end Go.Proofs.YtdkhnjjihbmlmaaGreatDoor
