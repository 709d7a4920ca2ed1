import Derived.Test.YtdlnmdbonagchaaGreatDoorDecPZ
import Derived.Test.YtdlnmdbonagchaaGreatDoorTextN
namespace Go.Proofs.YtdlnmdbonagchaaGreatDoor
open Go.RowKit
def mapO {α : Type} (f : List UInt8 → Option α) : List (List UInt8) → Option (List α)
 | [] => some []
 | x :: l => match f x,mapO f l with
  | some a,some m => some (a :: m)
  | _,_ => none
theorem mapO_append {α : Type} {f : List UInt8 → Option α} : ∀ (a b : List (List UInt8)),mapO f (a ++ b) = match mapO f a,mapO f b with
  | some x,some y => some (x ++ y)
  | _,_ => none
 | [],b => by cases h : mapO f b <;> simp [mapO,h]
 | x :: a,b => by
  simp only [List.cons_append,mapO,mapO_append a b];cases f x <;> cases mapO f a <;> cases mapO f b <;> rfl
theorem mapO_none {α : Type} {f : List UInt8 → Option α} {l : List (List UInt8)} {k : Nat} (hk : k < l.length) (h : f (l.getD k []) = none) : mapO f l = none:=by
 have e : l = l.take k ++ (l[k] :: l.drop (k + 1)):=(by rw [List.getElem_cons_drop,List.take_append_drop]);rw [List.getD_eq_getElem?_getD,List.getElem?_eq_getElem hk] at h;simp only [Option.getD_some] at h;rw [e,mapO_append,mapO,h];cases mapO f (l.take k) <;> rfl
theorem mapO_snoc {α : Type} {f : List UInt8 → Option α} {l : List (List UInt8)} {k : Nat} {acc : List α} {p : α} (hk : k < l.length) (ha : mapO f (l.take k) = some acc) (h : f (l.getD k []) = some p) : mapO f (l.take (k + 1)) = some (acc ++ [p]):=by
 rw [List.getD_eq_getElem?_getD,List.getElem?_eq_getElem hk] at h;simp only [Option.getD_some] at h;rw [List.take_succ_eq_append_getElem hk,mapO_append,ha,mapO,h];rfl
theorem mapO_length {α : Type} {f : List UInt8 → Option α} : ∀ {l : List (List UInt8)} {acc : List α},mapO f l = some acc → acc.length = l.length
 | [],acc,h => by injection h with h;subst h;rfl
 | x :: l,acc,h => by
  rw [mapO] at h;cases hx : f x with
  | none => rw [hx] at h;cases h
  | some a =>
   cases hl : mapO f l with
   | none => rw [hx,hl] at h;cases h
   | some y => rw [hx,hl] at h;injection h with h;subst h;simp [mapO_length hl]
theorem mapO_map {α : Type} {f : List UInt8 → Option α} (g : α → List UInt8) : ∀ l : List α,(∀ a ∈ l,f (g a) = some a) → mapO f (l.map g) = some l
 | [],_ => rfl
 | a :: l,h => by
  rw [List.map_cons,mapO,h a (List.mem_cons_self ..),mapO_map g l fun x hx => h x (List.mem_cons_of_mem _ hx)]
theorem mapO_inv {α : Type} {f : List UInt8 → Option α} {g : α → List UInt8} : ∀ {l : List (List UInt8)} {acc : List α},mapO f l = some acc → (∀ x ∈ l,∀ a,f x = some a → x = g a) → l = acc.map g
 | [],acc,h,_ => by injection h with h;subst h;rfl
 | x :: l,acc,h,hg => by
  rw [mapO] at h;cases hx : f x with
  | none => rw [hx] at h;cases h
  | some a =>
   cases hl : mapO f l with
   | none => rw [hx,hl] at h;cases h
   | some y => rw [hx,hl] at h;injection h with h;subst h;rw [List.map_cons,← mapO_inv hl fun z hz => hg z (List.mem_cons_of_mem _ hz),← hg x (List.mem_cons_self ..) a hx]
abbrev InP:=Int × List UInt8 × Bool
abbrev OutP:=Int × List UInt8
def stepB (l : List Int) (s : Int) (k : Nat) : Bool:=decide (l.getD k 0 < s) && (k == 0 || decide (l.getD (k - 1) 0 < l.getD k 0))
def riseB (l : List Int) (s : Int) : Bool:=(List.range l.length).all (stepB l s)
theorem riseB_no {l : List Int} {s : Int} {k : Nat} (hk : k < l.length) (h : stepB l s k = false) : riseB l s = false:=by
 unfold riseB;rw [List.all_eq_false];exact ⟨k,List.mem_range.2 hk,by simp [h]⟩
theorem riseB_yes {l : List Int} {s : Int} (h : ∀ k,k < l.length → stepB l s k = true) : riseB l s = true:=by
 unfold riseB;rw [List.all_eq_true];exact fun k hk => h k (List.mem_range.1 hk)
theorem riseB_lt {l : List Int} {s : Int} (h : riseB l s = true) : ∀ x ∈ l,x < s:=fun x hx => by
 obtain ⟨k,hk,rfl⟩:=List.getElem_of_mem hx;unfold riseB at h;rw [List.all_eq_true] at h;have:=h k (List.mem_range.2 hk);unfold stepB at this;simp only [Bool.and_eq_true,decide_eq_true_eq] at this;have h1:=this.1;rw [List.getD_eq_getElem?_getD,List.getElem?_eq_getElem hk] at h1;exact h1
structure TapeP where
 F : List UInt8
 ins : List InP
 st : Int
 outs : List OutP
 T : List UInt8
def zeroT : TapeP:=⟨List.replicate 32 0,[],0,[],List.replicate 32 0⟩
def someB (l : List OutP) : Bool:=l.all fun o => !o.2.isEmpty
def mayB (t : TapeP) : Bool:=(decide (0 ≤ t.st) && decide (t.st ≤ 100000)) && (riseB (t.ins.map (·.1)) t.st && (riseB (t.outs.map (·.1)) t.st && someB t.outs))
def endB : Bool → List UInt8
 | true => [49]
 | false => [48]
def inRow (p : InP) : List UInt8:=rowB [Lib.itoa p.1,p.2.1,endB p.2.2]
def outRow (p : OutP) : List UInt8:=rowB [Lib.itoa p.1,p.2]
def bytesT (t : TapeP) : List UInt8:=rowB [[104,105,98,116],t.F,rowB (t.ins.map inRow),Lib.itoa t.st,rowB (t.outs.map outRow),t.T]
def inP3 (a d e : List UInt8) : Option InP :=
 if e = [48] ∨ e = [49] then match intP a with
  | some n => if n < 0 then none else some (n,d,decide (e = [49]))
  | none => none
 else none
def inP : List (List UInt8) → Option InP
 | [a,d,e] => inP3 a d e
 | _ => none
def outP2 (a d : List UInt8) : Option OutP :=
 match intP a with
 | some n => if n < 0 then none else some (n,d)
 | none => none
def outP : List (List UInt8) → Option OutP
 | [a,d] => outP2 a d
 | _ => none
def rowP {α : Type} (f : List (List UInt8) → Option α) (r : List UInt8) : Option α :=
 match textsA [] r with
 | .ok ls => f ls
 | _ => none
theorem rowP_ok {α : Type} {f : List (List UInt8) → Option α} {r : List UInt8} {ls : List (List UInt8)} (h : textsA [] r = .ok ls) : rowP f r = f ls:=by unfold rowP;rw [h]
theorem rowP_err {α : Type} {f : List (List UInt8) → Option α} {r : List UInt8} {x : Int} (h : textsA [] r = .error x) : rowP f r = none:=by unfold rowP;rw [h]
def listP {α : Type} (f : List (List UInt8) → Option α) (b : List UInt8) : Option (List α) :=
 match textsA [] b with
 | .ok rows => mapO (rowP f) rows
 | _ => none
theorem listP_ok {α : Type} {f : List (List UInt8) → Option α} {r : List UInt8} {ls : List (List UInt8)} (h : textsA [] r = .ok ls) : listP f r = mapO (rowP f) ls:=by unfold listP;rw [h]
theorem listP_err {α : Type} {f : List (List UInt8) → Option α} {r : List UInt8} {x : Int} (h : textsA [] r = .error x) : listP f r = none:=by unfold listP;rw [h]
def six (t1 t2 t3 t4 t5 : List UInt8) : Option TapeP :=
 match intP t3 with
 | some s => if s < 0 ∨ 100000 < s then none else
  match listP inP t2 with
  | some i => match listP outP t4 with
   | some o => if mayB ⟨t1,i,s,o,t5⟩ = true then some ⟨t1,i,s,o,t5⟩ else none
   | none => none
  | none => none
 | none => none
def orT : Option TapeP → Int × TapeP
 | some t => (0,t)
 | none => (3,zeroT)
def readT6 : List (List UInt8) → Int × TapeP
 | [t0,t1,t2,t3,t4,t5] => if t0 = [104,105,98,116] ∧ t1.length = 32 ∧ t5.length = 32 then orT (six t1 t2 t3 t4 t5) else (3,zeroT)
 | _ => (3,zeroT)
def readT (b : List UInt8) : Int × TapeP :=
 match textsA [] b with
 | .error x => (x,zeroT)
 | .ok ls => readT6 ls
theorem readT_err {b : List UInt8} {x : Int} (h : textsA [] b = .error x) : readT b = (x,zeroT):=by unfold readT;rw [h]
theorem readT_ok {b : List UInt8} {ls : List (List UInt8)} (h : textsA [] b = .ok ls) : readT b = readT6 ls:=by unfold readT;rw [h]
theorem readT6_len {ls : List (List UInt8)} (h : ls.length ≠ 6) : readT6 ls = (3,zeroT):=by
 match ls,h with
 | [],_ => rfl
 | [_],_ => rfl
 | [_,_],_ => rfl
 | [_,_,_],_ => rfl
 | [_,_,_,_],_ => rfl
 | [_,_,_,_,_],_ => rfl
 | [_,_,_,_,_,_],h => exact absurd rfl h
 | _ :: _ :: _ :: _ :: _ :: _ :: _ :: _,_ => rfl
def num0 (s : List UInt8) : Int:=(intP s).getD 0
def dig32 (s : List UInt8) : List UInt8:=s.take 32 ++ List.replicate (32 - s.length) 0
def rinP : List (List UInt8) → Option InP
 | [a,d,e] => some (IntKind.u64.wrap (num0 a),d,decide (e = [49]))
 | _ => none
def routP : List (List UInt8) → Option OutP
 | [a,d] => some (IntKind.u64.wrap (num0 a),d)
 | _ => none
def sixR (b t1 t3 t5 : List UInt8) (li lo : List (List UInt8)) : Option TapeP :=
 match mapO (rowP rinP) li with
 | some i => match mapO (rowP routP) lo with
  | some o => if mayB ⟨dig32 t1,i,num0 t3,o,dig32 t5⟩ = true ∧ bytesT ⟨dig32 t1,i,num0 t3,o,dig32 t5⟩ = b then some ⟨dig32 t1,i,num0 t3,o,dig32 t5⟩ else none
  | none => none
 | none => none
def readR6 (b : List UInt8) : List (List UInt8) → Int × TapeP
 | [_,t1,t2,t3,t4,t5] => match textsA [] t2 with
  | .ok li => match textsA [] t4 with
   | .ok lo => orT (sixR b t1 t3 t5 li lo)
   | _ => (3,zeroT)
  | _ => (3,zeroT)
 | _ => (3,zeroT)
def readR (b : List UInt8) : Int × TapeP :=
 match textsA [] b with
 | .error x => (x,zeroT)
 | .ok ls => readR6 b ls
theorem readR_err {b : List UInt8} {x : Int} (h : textsA [] b = .error x) : readR b = (x,zeroT):=by unfold readR;rw [h]
theorem readR_ok {b : List UInt8} {ls : List (List UInt8)} (h : textsA [] b = .ok ls) : readR b = readR6 b ls:=by unfold readR;rw [h]
theorem readR6_len {b : List UInt8} {ls : List (List UInt8)} (h : ls.length ≠ 6) : readR6 b ls = (3,zeroT):=by
 match ls,h with
 | [],_ => rfl
 | [_],_ => rfl
 | [_,_],_ => rfl
 | [_,_,_],_ => rfl
 | [_,_,_,_],_ => rfl
 | [_,_,_,_,_],_ => rfl
 | [_,_,_,_,_,_],h => exact absurd rfl h
 | _ :: _ :: _ :: _ :: _ :: _ :: _ :: _,_ => rfl
theorem readR6_two {b t0 t1 t2 t3 t4 t5 : List UInt8} {x : Int} (h : textsA [] t2 = .error x) : readR6 b [t0,t1,t2,t3,t4,t5] = (3,zeroT):=by unfold readR6;dsimp only;rw [h]
theorem readR6_four {b t0 t1 t2 t3 t4 t5 : List UInt8} {x : Int} (h : textsA [] t4 = .error x) : readR6 b [t0,t1,t2,t3,t4,t5] = (3,zeroT):=by
 unfold readR6;dsimp only;rw [h];cases textsA [] t2 <;> rfl
theorem readR6_ok {b t0 t1 t2 t3 t4 t5 : List UInt8} {li lo : List (List UInt8)} (h : textsA [] t2 = .ok li) (h' : textsA [] t4 = .ok lo) : readR6 b [t0,t1,t2,t3,t4,t5] = orT (sixR b t1 t3 t5 li lo):=by unfold readR6;dsimp only;rw [h];dsimp only;rw [h']
theorem endB_eq {e : List UInt8} (h : e = [48] ∨ e = [49]) : endB (decide (e = [49])) = e:=by
 rcases h with rfl | rfl
 ·rfl
 ·rfl
theorem dec_endB (e : Bool) : decide (endB e = [49]) = e:=by cases e <;> rfl
theorem endB_or (e : Bool) : endB e = [48] ∨ endB e = [49]:=by
 cases e
 ·exact .inl rfl
 ·exact .inr rfl
theorem endB_len (e : Bool) : (endB e).length = 1:=by cases e <;> rfl
theorem mem_len {ls : List (List UInt8)} {x : List UInt8} (h : x ∈ ls) : x.length ≤ (rowB ls).length:=by
 induction ls with
 | nil => cases h
 | cons l ls ih =>
  rw [rowB_cons];simp only [List.length_append];rcases List.mem_cons.1 h with rfl | h
  ·omega
  ·have:=ih h;omega
theorem texts_row {ls : List (List UInt8)} (h : (rowB ls).length < 268435456) : textsA [] (rowB ls) = .ok ls:=by
 have:=texts_rowB ls [] fun l hl => Nat.lt_of_le_of_lt (mem_len hl) h
 simpa using this
theorem inP_row {p : InP} (h0 : 0 ≤ p.1) (h1 : p.1 ≤ 100000) (hl : (inRow p).length < 268435456) : rowP inP (inRow p) = some p ∧ rowP rinP (inRow p) = some p:=by
 obtain ⟨n,d,e⟩:=p;have hi : intP (Lib.itoa n) = some n:=intP_itoa ⟨by simp only at h0;omega,by simp only at h1;omega⟩;have ht:=texts_row hl;have ht : textsA [] (inRow (n,d,e)) = .ok [Lib.itoa n,d,endB e]:=ht;constructor
 ·rw [rowP_ok ht];show inP3 _ _ _ = _;unfold inP3;rw [if_pos (endB_or e),hi];dsimp only;rw [if_neg (by simp only at h0;omega),dec_endB]
 ·rw [rowP_ok ht];show some (IntKind.u64.wrap (num0 (Lib.itoa n)),d,decide (endB e = [49])) = _;unfold num0;rw [hi,dec_endB];show some (IntKind.u64.wrap n,d,e) = _;have : IntKind.u64.wrap n = n:=(by rw [IntKind.wrap_u64];simp only at h0 h1;omega);rw [this]
theorem outP_row {p : OutP} (h0 : 0 ≤ p.1) (h1 : p.1 ≤ 100000) (hl : (outRow p).length < 268435456) : rowP outP (outRow p) = some p ∧ rowP routP (outRow p) = some p:=by
 obtain ⟨n,d⟩:=p;have hi : intP (Lib.itoa n) = some n:=intP_itoa ⟨by simp only at h0;omega,by simp only at h1;omega⟩;have ht:=texts_row hl;have ht : textsA [] (outRow (n,d)) = .ok [Lib.itoa n,d]:=ht;constructor
 ·rw [rowP_ok ht];show outP2 _ _ = _;unfold outP2;rw [hi];dsimp only;rw [if_neg (by simp only at h0;omega)]
 ·rw [rowP_ok ht];show some (IntKind.u64.wrap (num0 (Lib.itoa n)),d) = _;unfold num0;rw [hi];show some (IntKind.u64.wrap n,d) = _;have : IntKind.u64.wrap n = n:=(by rw [IntKind.wrap_u64];simp only at h0 h1;omega);rw [this]
theorem inP_inv {r : List UInt8} {p : InP} (h : rowP inP r = some p) : r = inRow p ∧ 0 ≤ p.1 ∧ inI p.1:=by
 unfold rowP at h;split at h
 case h_2 => cases h
 rename_i ls ht;have hr:=texts_len ht;unfold inP at h;split at h
 case h_2 => cases h
 rename_i a d e;unfold inP3 at h;split at h
 case isFalse => cases h
 rename_i he;split at h
 case h_2 => cases h
 rename_i n hn;split at h
 case isTrue => cases h
 rename_i h0;injection h with h;subst h;obtain ⟨h1,h2⟩:=intP_some hn;refine ⟨?_,by show 0 ≤ n;omega,h2⟩;rw [hr,h1];show rowB [Lib.itoa n,d,e] = rowB [Lib.itoa n,d,endB (decide (e = [49]))];rw [endB_eq he]
theorem outP_inv {r : List UInt8} {p : OutP} (h : rowP outP r = some p) : r = outRow p ∧ 0 ≤ p.1 ∧ inI p.1:=by
 unfold rowP at h;split at h
 case h_2 => cases h
 rename_i ls ht;have hr:=texts_len ht;unfold outP at h;split at h
 case h_2 => cases h
 rename_i a d;unfold outP2 at h;split at h
 case h_2 => cases h
 rename_i n hn;split at h
 case isTrue => cases h
 rename_i h0;injection h with h;subst h;obtain ⟨h1,h2⟩:=intP_some hn;refine ⟨?_,by show 0 ≤ n;omega,h2⟩;rw [hr,h1];rfl
theorem mayB_parts {t : TapeP} (h : mayB t = true) : (0 ≤ t.st ∧ t.st ≤ 100000) ∧ (∀ p ∈ t.ins,p.1 < t.st) ∧ (∀ p ∈ t.outs,p.1 < t.st):=by
 unfold mayB at h;simp only [Bool.and_eq_true,decide_eq_true_eq] at h;obtain ⟨h1,h2,h3,h4⟩:=h;exact ⟨h1,fun p hp => riseB_lt h2 _ (List.mem_map.2 ⟨p,hp,rfl⟩),fun p hp => riseB_lt h3 _ (List.mem_map.2 ⟨p,hp,rfl⟩)⟩
def posT (t : TapeP) : Prop:=(∀ p ∈ t.ins,0 ≤ p.1) ∧ ∀ p ∈ t.outs,0 ≤ p.1
theorem dig32_32 {s : List UInt8} (h : s.length = 32) : dig32 s = s:=by
 unfold dig32;rw [List.take_of_length_le (by omega),h];simp
theorem bytesT_ok {t : TapeP} (hm : mayB t = true) (hp : posT t) (hF : t.F.length = 32) (hT : t.T.length = 32) (hl : (bytesT t).length < 268435456) : readT (bytesT t) = (0,t) ∧ readR (bytesT t) = (0,t):=by
 obtain ⟨F,ins,st,outs,T⟩:=t;obtain ⟨⟨h1,h2⟩,h3,h4⟩:=mayB_parts hm;obtain ⟨p3,p4⟩:=hp;simp only at h1 h2 h3 h4 p3 p4 hF hT;have hi : intP (Lib.itoa st) = some st:=intP_itoa ⟨by omega,by omega⟩;have ht : textsA [] (bytesT ⟨F,ins,st,outs,T⟩) = .ok [[104,105,98,116],F,rowB (ins.map inRow),Lib.itoa st,rowB (outs.map outRow),T]:=texts_row hl;have l2 : (rowB (ins.map inRow)).length ≤ (bytesT ⟨F,ins,st,outs,T⟩).length:=mem_len (by simp);have l4 : (rowB (outs.map outRow)).length ≤ (bytesT ⟨F,ins,st,outs,T⟩).length:=mem_len (by simp);have t2 : textsA [] (rowB (ins.map inRow)) = .ok (ins.map inRow):=texts_row (by omega);have t4 : textsA [] (rowB (outs.map outRow)) = .ok (outs.map outRow):=texts_row (by omega);have ii : ∀ p ∈ ins,rowP inP (inRow p) = some p ∧ rowP rinP (inRow p) = some p:=fun p hp => inP_row (p3 p hp) (by have:=h3 p hp;omega) (by have:=mem_len (List.mem_map.2 ⟨p,hp,rfl⟩ : inRow p ∈ ins.map inRow);omega);have oo : ∀ p ∈ outs,rowP outP (outRow p) = some p ∧ rowP routP (outRow p) = some p:=fun p hp => outP_row (p4 p hp) (by have:=h4 p hp;omega) (by have:=mem_len (List.mem_map.2 ⟨p,hp,rfl⟩ : outRow p ∈ outs.map outRow);omega);constructor
 ·rw [readT_ok ht];show (if _ then orT (six F (rowB (ins.map inRow)) (Lib.itoa st) (rowB (outs.map outRow)) T) else _) = _;rw [if_pos ⟨rfl,hF,hT⟩];unfold six;rw [hi];dsimp only;rw [if_neg (by omega),listP_ok t2,listP_ok t4,mapO_map inRow ins fun p hp => (ii p hp).1];dsimp only;rw [mapO_map outRow outs fun p hp => (oo p hp).1];dsimp only;rw [if_pos hm];rfl
 ·rw [readR_ok ht,readR6_ok t2 t4];unfold sixR;rw [mapO_map inRow ins fun p hp => (ii p hp).2];dsimp only;rw [mapO_map outRow outs fun p hp => (oo p hp).2];dsimp only;have hn : num0 (Lib.itoa st) = st:=(by unfold num0;rw [hi];rfl);rw [hn,dig32_32 hF,dig32_32 hT,if_pos ⟨hm,rfl⟩];rfl
def Good (b : List UInt8) (q : Int × TapeP) : Prop :=
 (∃ x,textsA [] b = .error x ∧ q = (x,zeroT)) ∨ (∃ ls t,textsA [] b = .ok ls ∧ q = (0,t) ∧ b = bytesT t ∧ mayB t = true ∧ posT t ∧ t.F.length = 32 ∧ t.T.length = 32) ∨ (∃ ls,textsA [] b = .ok ls ∧ q = (3,zeroT))
theorem six_some {t1 t2 t3 t4 t5 : List UInt8} {t : TapeP} (h : six t1 t2 t3 t4 t5 = some t) : t.F = t1 ∧ t.T = t5 ∧ mayB t = true ∧ posT t ∧ t2 = rowB (t.ins.map inRow) ∧ t3 = Lib.itoa t.st ∧ t4 = rowB (t.outs.map outRow):=by
 unfold six at h;split at h
 case h_2 => cases h
 rename_i s hs;split at h
 case isTrue => cases h
 split at h
 case h_2 => cases h
 rename_i i hi;split at h
 case h_2 => cases h
 rename_i o ho;split at h
 case isFalse => cases h
 rename_i hm;injection h with h;subst h
 have inv : ∀ {α : Type} {f : List (List UInt8) → Option α} {g : α → List UInt8} {b : List UInt8} {l : List α},listP f b = some l → (∀ r a,rowP f r = some a → r = g a ∧ True) → b = rowB (l.map g) ∧ ∃ rows,mapO (rowP f) rows = some l:=fun {α f g b l} hl hg => by
  unfold listP at hl;split at hl
  case h_2 => cases hl
  rename_i rows ht;refine ⟨?_,rows,hl⟩;rw [texts_len ht,mapO_inv (g:=g) hl fun x _ a ha => (hg x a ha).1]
 have all : ∀ {α : Type} {f : List UInt8 → Option α} {Q : α → Prop} {rows : List (List UInt8)} {l : List α},mapO f rows = some l → (∀ r a,f r = some a → Q a) → ∀ a ∈ l,Q a:=fun {α f Q} => by
  intro rows;induction rows with
  | nil => intro l hl _ a ha;injection hl with hl;subst hl;cases ha
  | cons x rows ih =>
   intro l hl hq a ha;rw [mapO] at hl;cases hx : f x with
   | none => rw [hx] at hl;cases hl
   | some y =>
    cases hr : mapO f rows with
    | none => rw [hx,hr] at hl;cases hl
    | some ys =>
     rw [hx,hr] at hl;injection hl with hl;subst hl;rcases List.mem_cons.1 ha with rfl | ha
     ·exact hq x _ hx
     ·exact ih hr hq a ha
 obtain ⟨a1,r1,a2⟩:=inv (g:=inRow) hi fun r a ha => ⟨(inP_inv ha).1,trivial⟩
 obtain ⟨b1,r2,b2⟩:=inv (g:=outRow) ho fun r a ha => ⟨(outP_inv ha).1,trivial⟩
 exact ⟨rfl,rfl,hm,⟨all (Q:=fun p => 0 ≤ p.1) a2 fun r a ha => (inP_inv ha).2.1,all (Q:=fun p => 0 ≤ p.1) b2 fun r a ha => (outP_inv ha).2.1⟩,a1,(intP_some hs).1,b1⟩
theorem len6 {ls : List (List UInt8)} (h : ls.length = 6) : ∃ t0 t1 t2 t3 t4 t5,ls = [t0,t1,t2,t3,t4,t5]:=by
 match ls,h with
 | [t0,t1,t2,t3,t4,t5],_ => exact ⟨t0,t1,t2,t3,t4,t5,rfl⟩
theorem readT_good (b : List UInt8) : Good b (readT b):=by
 cases ht : textsA [] b with
 | error x => exact .inl ⟨x,ht,readT_err ht⟩
 | ok ls =>
  by_cases hl : ls.length = 6
  ·obtain ⟨t0,t1,t2,t3,t4,t5,rfl⟩:=len6 hl;rw [readT_ok ht];show Good b (if _ then orT (six t1 t2 t3 t4 t5) else _);split
   ·rename_i hc;obtain ⟨rfl,c1,c5⟩:=hc;cases hs : six t1 t2 t3 t4 t5 with
    | none => exact .inr (.inr ⟨_,ht,rfl⟩)
    | some t => obtain ⟨e1,e2,e3,e4,e5,e6,e7⟩:=six_some hs;refine .inr (.inl ⟨_,t,ht,rfl,?_,e3,e4,by rw [e1];exact c1,by rw [e2];exact c5⟩);rw [texts_len ht];unfold bytesT;rw [e1,e2,← e5,← e6,← e7]
   ·exact .inr (.inr ⟨_,ht,rfl⟩)
  ·rw [readT_ok ht,readT6_len hl];exact .inr (.inr ⟨_,ht,rfl⟩)
theorem wrap_pos (n : Int) : 0 ≤ IntKind.u64.wrap n:=by rw [IntKind.wrap_u64];omega
theorem rin_pos {r : List UInt8} {p : InP} (h : rowP rinP r = some p) : 0 ≤ p.1:=by
 unfold rowP at h;split at h
 case h_2 => cases h
 unfold rinP at h;split at h
 case h_2 => cases h
 injection h with h;subst h;exact wrap_pos _
theorem rout_pos {r : List UInt8} {p : OutP} (h : rowP routP r = some p) : 0 ≤ p.1:=by
 unfold rowP at h;split at h
 case h_2 => cases h
 unfold routP at h;split at h
 case h_2 => cases h
 injection h with h;subst h;exact wrap_pos _
theorem mapO_all {α : Type} {f : List UInt8 → Option α} {Q : α → Prop} : ∀ {rows : List (List UInt8)} {l : List α},mapO f rows = some l → (∀ r a,f r = some a → Q a) → ∀ a ∈ l,Q a
 | [],l,hl,_,a,ha => by injection hl with hl;subst hl;cases ha
 | x :: rows,l,hl,hq,a,ha => by
  rw [mapO] at hl;cases hx : f x with
  | none => rw [hx] at hl;cases hl
  | some y =>
   cases hr : mapO f rows with
   | none => rw [hx,hr] at hl;cases hl
   | some ys =>
    rw [hx,hr] at hl;injection hl with hl;subst hl;rcases List.mem_cons.1 ha with rfl | ha
    ·exact hq x _ hx
    ·exact mapO_all hr hq a ha
theorem dig32_len (s : List UInt8) : (dig32 s).length = 32:=by
 unfold dig32;simp;omega
theorem readR_good (b : List UInt8) : Good b (readR b):=by
 cases ht : textsA [] b with
 | error x => exact .inl ⟨x,ht,readR_err ht⟩
 | ok ls =>
  by_cases hl : ls.length = 6
  ·obtain ⟨t0,t1,t2,t3,t4,t5,rfl⟩:=len6 hl;rw [readR_ok ht];cases h2 : textsA [] t2 with
   | error x => rw [readR6_two h2];exact .inr (.inr ⟨_,ht,rfl⟩)
   | ok li =>
    cases h4 : textsA [] t4 with
    | error x => rw [readR6_four h4];exact .inr (.inr ⟨_,ht,rfl⟩)
    | ok lo =>
     rw [readR6_ok h2 h4];unfold sixR;cases hi : mapO (rowP rinP) li with
     | none => exact .inr (.inr ⟨_,ht,rfl⟩)
     | some i =>
      cases ho : mapO (rowP routP) lo with
      | none => exact .inr (.inr ⟨_,ht,rfl⟩)
      | some o =>
       dsimp only;split
       ·rename_i hc;exact .inr (.inl ⟨_,_,ht,rfl,hc.2.symm,hc.1,⟨mapO_all hi fun r a ha => rin_pos ha,mapO_all ho fun r a ha => rout_pos ha⟩,dig32_len _,dig32_len _⟩)
       ·exact .inr (.inr ⟨_,ht,rfl⟩)
  ·rw [readR_ok ht,readR6_len hl];exact .inr (.inr ⟨_,ht,rfl⟩)
theorem readR_eq {b : List UInt8} (hb : b.length < 268435456) : readR b = readT b:=by
 rcases readT_good b with ⟨x,h1,h2⟩ | ⟨ls,t,h1,h2,h3,h4,h5,h6,h7⟩ | ⟨ls,h1,h2⟩
 ·rw [h2,readR_err h1]
 ·rw [h2,h3];exact (bytesT_ok h4 h5 h6 h7 (by rw [← h3];exact hb)).2
 ·rcases readR_good b with ⟨x,k1,k2⟩ | ⟨ls',t,k1,k2,k3,k4,k5,k6,k7⟩ | ⟨ls',k1,k2⟩
  ·rw [h1] at k1;cases k1
  ·rw [k2];have:=(bytesT_ok k4 k5 k6 k7 (by rw [← k3];exact hb)).1;rw [← k3] at this;exact this.symm
  ·rw [h2,k2]
end Go.Proofs.YtdlnmdbonagchaaGreatDoor
