import Derived.Test.YtdlnmdbonagchaaGreatDoorExHF
import Derived.Test.YtdlnmdbonagchaaGreatDoorDecB
import Derived.Test.YtdlnmdbonagchaaGreatDoorRowS
import Derived.Test.YtdlnmdbonagchaaGreatDoorTextN
namespace Go.Proofs.YtdlnmdbonagchaaGreatDoor.Ex
open Go.RowKit
theorem app_lt {l m a b : Nat} (h : a < 256 ^ l) (k : b < 256 ^ m) : a + 256 ^ l * b < 256 ^ (l + m):=by
 rw [Nat.pow_add]
 calc a + 256 ^ l * b < 256 ^ l + 256 ^ l * b:=by omega
  _ = 256 ^ l * (b + 1):=by rw [Nat.mul_add];omega
  _ ≤ 256 ^ l * 256 ^ m:=Nat.mul_le_mul_left _ k
theorem app_bytes {l m a b : Nat} (h : a < 256 ^ l) : bytesOf (l + m) (a + 256 ^ l * b) = bytesOf l a ++ bytesOf m b:=by
 rw [Nat.mul_comm];exact bytesOf_append l m a b h
theorem lenNK_true : ∀ {f n : Nat} {k : Nat → Nat → Bool},lenNK f n k = true → ∃ a m,k a m = true ∧ m < 256 ^ a ∧ bytesOf a m = lenB n
 | 0,_,_,h => by cases h
 | f + 1,n,k,h => by
  have h : (Bool.rec (lenNK f (Nat.div n 128) fun l m => fNat (Nat.add (Nat.add (Nat.mod n 128) 128) (Nat.mul 256 m)) fun m' => k (Nat.succ l) m') (k 1 n) (Nat.blt n 128) : Bool) = true:=h;cases hb : Nat.blt n 128 with
  | true => rw [hb] at h;have hn:=blt_true hb;refine ⟨1,n,h,by omega,?_⟩;rw [lenB_small hn];show [UInt8.ofNat (n % 256)] = _;rw [Nat.mod_eq_of_lt (by omega)]
  | false =>
   rw [hb] at h;have hn : ¬ n < 128:=fun e => (by rw [show Nat.blt _ _ = true from (by rw [Nat.blt_eq];exact e)] at hb;cases hb);obtain ⟨a,m,h1,h2,h3⟩:=lenNK_true h;rw [fNat_eq] at h1;have e1 : (n % 128 + 128 + 256 * m) % 256 = n % 128 + 128:=(by omega);have e2 : (n % 128 + 128 + 256 * m) / 256 = m:=(by omega);refine ⟨_,_,h1,?_,?_⟩
   ·show n % 128 + 128 + 256 * m < 256 ^ (a + 1);rw [Nat.pow_succ];omega
   ·rw [lenB_big hn];show UInt8.ofNat ((n % 128 + 128 + 256 * m) % 256) :: bytesOf a ((n % 128 + 128 + 256 * m) / 256) = _;rw [e1,e2,h3];rfl
abbrev strsC (ls : List (Nat × Nat)) : List Sc:=ls.map fun p => .str p.1 p.2
abbrev strsB (ls : List (Nat × Nat)) : List (List UInt8):=ls.map fun p => bytesOf p.1 p.2
theorem rowNK_true : ∀ {l : List Sc} {k : Nat → Nat → Bool},rowNK l k = true → ∃ ls L N,l = strsC ls ∧ k L N = true ∧ ((∀ p ∈ ls,p.2 < 256 ^ p.1) → N < 256 ^ L ∧ bytesOf L N = rowB (strsB ls))
 | [],k,h => ⟨[],0,0,rfl,h,fun _ => ⟨by decide,rfl⟩⟩
 | x :: l,k,h => by
  cases x with
  | str len s =>
   obtain ⟨ls,L,N,rfl,h1,h2⟩:=rowNK_true (show rowNK l (fun L N => lenNK 5 len fun a m => fNat (Nat.add a (Nat.add len L)) fun L' => fNat (Nat.add m (Nat.mul (Nat.pow 256 a) (Nat.add s (Nat.mul (Nat.pow 256 len) N)))) fun N' => k L' N') = true from h);obtain ⟨a,m,h3,h4,h5⟩:=lenNK_true h1;rw [fNat_eq,fNat_eq] at h3;refine ⟨(len,s) :: ls,_,_,rfl,h3,fun hp => ?_⟩;obtain ⟨h6,h7⟩:=h2 fun p hm => hp p (List.mem_cons_of_mem _ hm)
   have hs:=hp (len,s) (List.mem_cons_self ..);have hs : s < 256 ^ len:=hs;refine ⟨app_lt h4 (app_lt hs h6),?_⟩;show bytesOf (a + (len + L)) (m + 256 ^ a * (s + 256 ^ len * N)) = rowB (bytesOf len s :: strsB ls);rw [app_bytes h4,app_bytes hs,rowB_cons,bytesOf_length,h5,h7,List.append_assoc]
  | _ => cases h
theorem flatNK_true : ∀ {l : List Sc} {k : Nat → Nat → Bool},flatNK l k = true → ∃ ls L N,l = strsC ls ∧ k L N = true ∧ ((∀ p ∈ ls,p.2 < 256 ^ p.1) → bytesOf L N = (strsB ls).flatten)
 | [],k,h => ⟨[],0,0,rfl,h,fun _ => rfl⟩
 | x :: l,k,h => by
  cases x with
  | str len s => obtain ⟨ls,L,N,rfl,h1,h2⟩:=flatNK_true (show flatNK l (fun L N => fNat (Nat.add len L) fun L' => fNat (Nat.add s (Nat.mul (Nat.pow 256 len) N)) fun N' => k L' N') = true from h);rw [fNat_eq,fNat_eq] at h1;refine ⟨(len,s) :: ls,_,_,rfl,h1,fun hp => ?_⟩;have hs : s < 256 ^ len:=hp (len,s) (List.mem_cons_self ..);show bytesOf (len + L) (s + 256 ^ len * N) = bytesOf len s ++ (strsB ls).flatten;rw [app_bytes hs,h2 fun p hm => hp p (List.mem_cons_of_mem _ hm)]
  | _ => cases h
theorem strs_of {b off n : Nat} {cap : Option Nat} {H : Hp} {k : List Sc → Bool} (h : rowK 1 n (.s (.sl b off n 1 cap)) H k = true) :
  ∃ l,k l = true ∧ l.length = n ∧ ∀ ls,l = strsC ls → ∀ ι w v,HR ι H w → (Va.s (.sl b off n 1 cap)).R ι v → (∀ p ∈ ls,p.2 < 256 ^ p.1) ∧ ∃ a c,v = .slice a ls.length c ∧ Strs w w.heap.size a (strsB ls):=by
 obtain ⟨_,h7⟩:=andK_true (show andK (Nat.ble n n) (H.t.getK b fun o => asCells o fun l _ _ => dropL l off fun l' => takeL l' (Nat.mul n 1) k) = true from h);obtain ⟨o,ho,h8⟩:=Tr.getK_true h7;obtain ⟨l,fz,et,rfl,h9⟩:=asCells_true h8;obtain ⟨h10,h11⟩:=dropL_true h9;obtain ⟨h12,h13⟩:=takeL_true h11;have h12 : n * 1 ≤ (l.drop off).length:=h12;refine ⟨_,h13,by rw [List.length_take];show min (n * 1) _ = n;omega,fun ls h14 ι w v hH hv => ?_⟩;have h14 : (l.drop off).take n = strsC ls:=(by rw [← h14];show _ = (l.drop off).take (n * 1);rw [Nat.mul_one]);have hlen : ls.length = n:=(by have:=congrArg List.length h14;simp only [List.length_take,List.length_map] at this;omega);have hel : ∀ i p,ls[i]? = some p → l[off + i]? = some (.str p.1 p.2):=(by intro i p hp;have hi : i < n:=(by rw [← hlen];exact (List.getElem?_eq_some_iff.1 hp).1);have:=congrArg (fun z => z[i]?) h14;simp only [List.getElem?_map,hp,Option.map_some] at this;rw [List.getElem?_take,if_pos (by omega),List.getElem?_drop] at this;exact this);obtain ⟨y,c,hy,rfl,hnc,_,_⟩:=hv;obtain ⟨y',cs,e,f,g1,g2,g3,g4,g5,g6⟩:=hH.obj _ _ ho;rw [hy] at g1;cases g1
 have at' : ∀ i p,ls[i]? = some p → ∃ s,cs[y.base + (off + i)]? = some (.string s) ∧ StrR s p.1 p.2:=fun i p hp => by
  obtain ⟨v,q1,q2⟩:=g5 (off + i) _ (hel i p hp);obtain ⟨s,rfl,hs⟩:=q2.1;exact ⟨s,q1,hs⟩
 refine ⟨fun p hp => ?_,_,_,by rw [hlen],?_⟩
 ·obtain ⟨i,hi⟩:=List.mem_iff_getElem?.1 hp;obtain ⟨s,_,hs⟩:=at' i p hi;exact hs.2
 ·intro i u hu;simp only [List.getElem?_map,List.map_map] at hu;cases hp : ls[i]? with
  | none => rw [hp] at hu;cases hu
  | some p => rw [hp] at hu;cases hu;refine ⟨_,rfl,hH.lt b y hy,?_⟩;obtain ⟨s,q1,hs⟩:=at' i p hp;rw [Addr.add_lit,cell_at g2,Nat.add_assoc,q1];show some (Value.string s) = some (S (bytesOf p.1 p.2));rw [← hs.1]
theorem sizeOf_rowB : ∀ ls : List (List UInt8),sizeOf ls ≤ 4 * (rowB ls).length
 | [] => Nat.zero_le _
 | l :: ls => by
  have ih:=sizeOf_rowB ls;have h1 : sizeOf (l :: ls) = 4 + l.length + sizeOf ls:=(by simp [sizeOf]);have h2:=List.length_pos_iff.2 (lenB_ne l.length);rw [rowB_cons,h1];simp only [List.length_append];omega
theorem irRow_sound : IrSound Go.Proofs.Tryz.prog 15 irRow:=by
 intro vs H k h;obtain ⟨x,rfl,h1⟩:=arg1_true (show arg1 vs _ = true from h);obtain ⟨b,off,n,esz,cap,rfl,h2⟩:=asSl_true h1;obtain ⟨h3,h4⟩:=andK_true h2;obtain ⟨h5,h6⟩:=andK_true h4;obtain rfl:=beq_true h3;obtain ⟨l,h7,_,h8⟩:=strs_of h6;obtain ⟨ls,L,N,rfl,h9,h10⟩:=rowNK_true h7;obtain ⟨h11,h12⟩:=andK_true h9;have hL:=ble_true h11;refine ⟨_,H,h12,fun ι w args hv hH => ⟨callFunc_enter (by decide +kernel) args w,?_⟩⟩;obtain ⟨v,e1,hv⟩:=RL1 hv;obtain ⟨hp,a,c,rfl,hS⟩:=h8 ls rfl ι w v hH hv;obtain ⟨hN,hB⟩:=h10 hp;have e1 : args = #[.slice a ls.length c]:=Array.ext' e1;rw [e1,← List.length_map (f:=fun p : Nat × Nat => bytesOf p.1 p.2)];refine Calls.mono (row_any w a c _ hS ?_) fun e' w' he => ?_
 ·have h:=sizeOf_rowB (strsB ls);rw [← hB,bytesOf_length] at h;have h' : sizeOf (List.map (fun p => bytesOf p.fst p.snd) ls) ≤ 4 * L:=h;omega
 ·obtain ⟨rfl,hb⟩:=he;obtain ⟨r1,r2⟩:=hH.below hb;exact ⟨_,rfl,ι,r2,r1,_,rfl,by show _ = bytesOf L N;rw [hB],hN⟩
theorem decNK_true : ∀ {f u : Nat} {k : Nat → Nat → Bool},decNK f u k = true → ∃ l m,k l m = true ∧ m < 256 ^ l ∧ bytesOf l m = Lib.decDigits u
 | 0,_,_,h => by cases h
 | f + 1,u,k,h => by
  have h : (Bool.rec (decNK f (Nat.div u 10) fun l m => fNat (Nat.add m (Nat.mul (Nat.pow 256 l) (Nat.add 48 (Nat.mod u 10)))) fun m' => k (Nat.succ l) m') (fNat (Nat.add 48 u) fun m => k 1 m) (Nat.blt u 10) : Bool) = true:=h;cases hb : Nat.blt u 10 with
  | true => rw [hb] at h;have h : (fNat (Nat.add 48 u) fun m => k 1 m) = true:=h;rw [fNat_eq] at h;have hn:=blt_true hb;refine ⟨1,_,h,by show 48 + u < 256 ^ 1;omega,?_⟩;rw [dd_small hn];show [UInt8.ofNat ((48 + u) % 256)] = _;rw [Nat.mod_eq_of_lt (by omega)]
  | false => rw [hb] at h;have hn : ¬ u < 10:=fun e => (by rw [show Nat.blt _ _ = true from (by rw [Nat.blt_eq];exact e)] at hb;cases hb);obtain ⟨l,m,h1,h2,h3⟩:=decNK_true h;rw [fNat_eq] at h1;have hd : 48 + u % 10 < 256 ^ 1:=(by omega);refine ⟨_,_,h1,app_lt h2 hd,?_⟩;show bytesOf (l + 1) (m + 256 ^ l * (48 + u % 10)) = _;rw [app_bytes h2,dd_big hn,h3];show Lib.decDigits (u / 10) ++ [UInt8.ofNat ((48 + u % 10) % 256)] = _;rw [Nat.mod_eq_of_lt (by omega)]
theorem Amb.stabs {w : World} (h : Amb w) : STabs w:=by
 obtain ⟨t, fr, hw⟩ := h.pow; have hg : Go.Proofs.Tryz.prog.globalNamed "internal/strconv.uint64pow10" = some 2 := (by kernel_rfl); show w.var? Go.Proofs.Tryz.prog "internal/strconv.uint64pow10" = _; unfold World.var?; rw [hg]; simp only [Option.bind_some, hw]; rfl
theorem Amb.tabs {w : World} (h : Amb w) : Tabs w:=⟨h.eight,h.rows⟩
theorem irDec_sound : IrSound Go.Proofs.Tryz.prog 18 irDec:=by
 intro vs H k h;obtain ⟨x,rfl,h1⟩:=arg1_true (show arg1 vs _ = true from h);obtain ⟨kc,n,rfl,h2⟩:=asI_true h1;obtain ⟨h3,h4⟩:=andK_true h2;obtain rfl:=beq_true h3
 have key : inI n ∧ ∃ l m,k (.s (.str l m)) H = true ∧ m < 256 ^ l ∧ bytesOf l m = Lib.itoa n:=by
  cases n with
  | ofNat u => obtain ⟨h5,h6⟩:=andK_true (show andK (Nat.ble u 9223372036854775807) (decNK 20 u fun l m => k (.s (.str l m)) H) = true from h4);have:=ble_true h5;obtain ⟨l,m,h7,h8,h9⟩:=decNK_true h6;exact ⟨⟨by simp only [Int.ofNat_eq_natCast];omega,by simp only [Int.ofNat_eq_natCast];omega⟩,l,m,h7,h8,h9.trans (itoa_pos u).symm⟩
  | negSucc u =>
   obtain ⟨h5,h6⟩:=andK_true (show andK (Nat.ble u 9223372036854775806) (decNK 20 (Nat.succ u) fun l m => fNat (Nat.add 45 (Nat.mul 256 m)) fun m' => k (.s (.str (Nat.succ l) m')) H) = true from h4);have:=ble_true h5;obtain ⟨l,m,h7,h8,h9⟩:=decNK_true h6;rw [fNat_eq] at h7;refine ⟨⟨by omega,by omega⟩,_,_,h7,?_,?_⟩
   ·show 45 + 256 * m < 256 ^ (l + 1);rw [Nat.pow_succ];omega
   ·have e1 : (45 + 256 * m) % 256 = 45:=(by omega);have e2 : (45 + 256 * m) / 256 = m:=(by omega);show UInt8.ofNat ((45 + 256 * m) % 256) :: bytesOf l ((45 + 256 * m) / 256) = _;rw [e1,e2,h9];have:=itoa_min (u:=Nat.succ u) (Nat.succ_pos u);rw [show Int.negSucc u = -((Nat.succ u : Nat) : Int) from rfl,this];rfl
 obtain ⟨hn,l,m,h5,h6,h7⟩:=key;refine ⟨_,H,h5,fun ι w args hv hH => ⟨callFunc_enter (by decide +kernel) args w,?_⟩⟩;obtain ⟨v,e1,rfl⟩:=RL1 hv;have e1 : args = #[.int .i64 n]:=Array.ext' e1;rw [e1];refine Calls.mono (dec_any w n hn hH.amb.stabs) fun e' w' he => ?_;obtain ⟨rfl,hb⟩:=he;obtain ⟨r1,r2⟩:=hH.below hb;exact ⟨_,rfl,ι,r2,r1,_,rfl,by show _ = bytesOf l m;rw [h7],h6⟩
theorem irSum_sound : IrSound Go.Proofs.Tryz.prog 75 irSum:=by
 intro vs H k h;obtain ⟨x,rfl,h1⟩:=arg1_true (show arg1 vs _ = true from h);obtain ⟨b,off,n,esz,cap,rfl,h2⟩:=asSl_true h1;obtain ⟨h3,h4⟩:=andK_true h2;obtain ⟨h5,h6⟩:=andK_true h4;obtain rfl:=beq_true h3;obtain ⟨l,h7,hln,h8⟩:=strs_of h6;obtain ⟨ls,L,N,rfl,h9,h10⟩:=flatNK_true h7;obtain ⟨h11,h12⟩:=andK_true h9;obtain ⟨h13,h14⟩:=andK_true h12;obtain ⟨h15,h16⟩:=andK_true h14;have hn:=ble_true h5;have hL0:=blt_true h11;have hL:=ble_true h13;obtain ⟨D,hD,hK⟩:=digK_eq L N (by omega) hL0 (blt_true h15);rw [hK] at h16;obtain ⟨cs,h17,h18,h19⟩:=ofStr_true h16;refine ⟨_,H,h17,fun ι w args hv hH => ⟨callFunc_enter (by decide +kernel) args w,?_⟩⟩;obtain ⟨v,e1,hv⟩:=RL1 hv;obtain ⟨hp,a,c,rfl,hS⟩:=h8 ls rfl ι w v hH hv;have hF:=h10 hp;have e1 : args = #[.slice a ls.length c]:=Array.ext' e1;rw [e1,← List.length_map (f:=fun p : Nat × Nat => bytesOf p.1 p.2)];refine Calls.mono (sum_any w a c _ hH.amb.tabs hS ?_ ?_) fun e' w' he => ?_
 ·simp only [List.length_map] at hln ⊢;omega
 ·rw [← hF,bytesOf_length];omega
 ·obtain ⟨rfl,hb⟩:=he;obtain ⟨r1,r2⟩:=hH.below hb;refine ⟨_,rfl,ι,r2,r1,_,rfl,?_⟩;rw [← hF,hD];have:=h19 ι
  simpa using this
end Go.Proofs.YtdlnmdbonagchaaGreatDoor.Ex
