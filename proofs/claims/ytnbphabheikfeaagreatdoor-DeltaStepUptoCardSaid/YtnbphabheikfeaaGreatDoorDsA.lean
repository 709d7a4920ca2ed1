import Derived.Test.YtnbphabheikfeaaGreatDoorCopR
namespace Go.Proofs.YtnbphabheikfeaaGreatDoor
open Go.RowKit
def idxI {α : Type} (f : α → Bool) : List α → Nat → Int
 | [],_ => -1
 | x :: l,k => if f x then (k : Int) else idxI f l (k + 1)
theorem idx_at {α : Type} {f : α → Bool} : ∀ {l : List α} {k b : Nat} {x : α},(∀ y ∈ l.take k,f y = false) → l[k]? = some x → f x = true → idxI f l b = ((b + k : Nat) : Int)
 | [],_,_,_,_,h,_ => by simp at h
 | y :: l,0,b,x,_,h,hx => by
  obtain rfl : y = x:=(by simpa using h);simp [idxI,hx]
 | y :: l,k + 1,b,x,ha,h,hx => by
  have h0:=ha y (by simp);have:=idx_at (l:=l) (k:=k) (b:=b + 1) (fun z hz => ha z (by simp [hz])) (by simpa using h) hx;rw [idxI,h0,if_neg (by decide),this];congr 1;omega
theorem idx_no {α : Type} {f : α → Bool} : ∀ {l : List α} {b : Nat},(∀ y ∈ l,f y = false) → idxI f l b = -1
 | [],_,_ => rfl
 | y :: l,b,h => by rw [idxI,h y (by simp),if_neg (by decide)];exact idx_no fun z hz => h z (by simp [hz])
theorem idx_cases {α : Type} (f : α → Bool) (l : List α) : (idxI f l 0 = -1 ∧ ∀ y ∈ l,f y = false) ∨ ∃ (k : Nat) (x : α),l[k]? = some x ∧ f x = true ∧ idxI f l 0 = (k : Int):=by
 have key : ∀ (l : List α) (b : Nat),(idxI f l b = -1 ∧ ∀ y ∈ l,f y = false) ∨ ∃ (k : Nat) (x : α),l[k]? = some x ∧ f x = true ∧ idxI f l b = ((b + k : Nat) : Int):=by
  intro l;induction l with
  | nil => intro b;exact .inl ⟨rfl,by simp⟩
  | cons y l ih =>
   intro b;cases hy : f y with
   | true => exact .inr ⟨0,y,by simp,hy,by simp [idxI,hy]⟩
   | false =>
    rcases ih (b + 1) with ⟨h1,h2⟩ | ⟨k,x,h1,h2,h3⟩
    ·exact .inl ⟨by simp [idxI,hy,h1],by simp [hy];exact h2⟩
    ·exact .inr ⟨k + 1,x,by simpa using h1,h2,by rw [idxI,hy,if_neg (by decide),h3];congr 1;omega⟩
 rcases key l 0 with h | ⟨k,x,h1,h2,h3⟩
 ·exact .inl h
 ·exact .inr ⟨k,x,h1,h2,by rw [h3,Nat.zero_add]⟩
theorem take_upto {α : Type} {l : List α} {k : Nat} {x : α} {P : α → Prop} (h : ∀ y ∈ l.take k,P y) (hk : l[k]? = some x) (hx : P x) : ∀ y ∈ l.take (k + 1),P y:=by
 obtain ⟨hl,rfl⟩:=List.getElem?_eq_some_iff.1 hk;rw [List.take_succ_eq_append_getElem hl];intro y hy;rcases List.mem_append.1 hy with h1 | h1
 ·exact h y h1
 ·rw [List.mem_singleton.1 h1];exact hx
theorem dget_some {α : Type} {l : List α} {k : Nat} (h : k < l.length) : ∃ x,l[k]? = some x:=⟨_,List.getElem?_eq_getElem h⟩
set_option maxRecDepth 100000 in
set_option maxHeartbeats 1000000 in
theorem findc_any (w : World) (p : Pr) (hp : PrOk p) (n : Int) (g : Nat) (hg : w.cell? ⟨g,0,none⟩ = some (.int .i64 n)) (hgw : g < w.heap.size) :
  Calls Tryz.prog 74 #[.agg (prCells p).toArray,.pointer (some ⟨g,0,none⟩)] w fun e w' => e = .returned (.bool (p.pid == n)) ∧ Below w.heap.size w w':=by
 have hsz:=prCells_length hp;have hs0:=Whole.made w 64 (prCells p).toArray;have hb : Below w.heap.size w (w.alloc (.cells (prCells p).toArray 64)):=(Below.refl _ _).alloc (Nat.le_refl _) _;go_enter Tryz.func74,Tryz.ntmps74;go_upto_region 1 with (fail);change Code.wp _ _ _ _ (w.alloc (.cells (prCells p).toArray 64));generalize (w.alloc (.cells (prCells p).toArray 64)) = w1 at *;generalize hgx : w.heap.size = gx at *;have HGX:=jj hgx;have HS0:=jj hs0;have HW:=jj hb;have hgl : gx < w1.heap.size:=hs0.lt;clear hgx hb hs0;have c0 : w1.cell? ⟨gx,0,none⟩ = some (.int .i64 p.pid):=HS0.out.cell 0;have c1 : w1.cell? ⟨g,0,none⟩ = some (.int .i64 n):=(HW.out.cell (p:=⟨g,0,none⟩) hgw).trans hg;clear hg hp;go_wp2_with fail;go_ret;exact ⟨rfl,by rw [HGX.out];exact HW.out⟩
set_option maxRecDepth 100000 in
set_option maxHeartbeats 1000000 in
theorem idxP_any (w : World) (A : Option Addr) (c : Nat) (l : List Pr) (hok : ∀ p ∈ l,PrOk p) (hA : Lies w w.heap.size A (prsCells l)) (hl : l.length ≤ 1099511627776) (n : Int) (g : Nat) (hg : w.cell? ⟨g,0,none⟩ = some (.int .i64 n)) (hgw : g < w.heap.size) :
  Calls Tryz.prog 73 #[.slice A l.length c,.func (.func 74) #[] #[.pointer (some ⟨g,0,none⟩)]] w fun e w' => e = .returned (.int .i64 (idxI (fun p : Pr => p.pid == n) l 0)) ∧ Below w.heap.size w w':=by
 have HA:=jj hA;have HG:=jj hg;have HOK:=jj hok;clear hA hg hok;go_enter Tryz.func73,Tryz.ntmps73;go_wp2_with fail
 go_loopw [8] (fun i wr => ∃ k : Nat,k ≤ l.length ∧ i = .int .i64 k ∧ Hid (∀ y ∈ l.take k,(fun p : Pr => p.pid == n) y = false) ∧ Hid (Below w.heap.size w wr)) (fun i _ => l.length - (intOf i).toNat)
 case atStart => exact ⟨0,by omega,rfl,jj (by simp),jj (Below.refl _ _)⟩
 case round =>
  obtain ⟨k,hk,rfl,HE,HW⟩:=hrel;by_cases hlt : k < l.length
  ·obtain ⟨x,hx⟩:=dget_some hlt;have HX:=jj hx;have HXO:=jj (HOK.out x (List.mem_of_getElem? hx));obtain ⟨ad,rfl,had,hc⟩:=Lies.row (f:=prCells) (n:=96) HA.out (fun y hy => prCells_length (HOK.out y hy)) (by omega) hx;have LD : Hid (∀ j v,(prCells x)[j]? = some v → wr.cell? ((ad.add (k * 96)).add j) = some v):=jj fun j v hv => (HW.out.cell (by rw [add_block,add_block];exact had)).trans (hc j v hv);have PI : Hid ((Tryz.prog.info? 64).map (·.size) = some (prCells x).length):=jj (by rw [show (prCells x).length = 96 from prCells_length HXO.out];kernel_rfl);have CP:=jj (findc_any wr x HXO.out n g ((HW.out.cell (p:=⟨g,0,none⟩) hgw).trans HG.out) (Nat.lt_of_lt_of_le hgw HW.out.size));have q0 : (0 : Int) ≤ (k : Int):=(by omega);have q1 : (k : Int) < (l.length : Int):=(by omega);clear hc hx;go_wp2_with (refine wpList_load_at rfl 64 (.tmp 14) rfl (ad.add (k * 96)) rfl (prCells x) _ LD.out Tryz.underlying64 rfl PI.out ?_);refine CP.out.mono ?_;rintro e w1 ⟨rfl,hb1⟩;have HW1:=jj (HW.out.trans (hb1.mono HW.out.size));clear hb1 CP LD;cases hpn : (fun p : Pr => p.pid == n) x with
   | true => have HQ : Hid (idxI (fun p : Pr => p.pid == n) l 0 = (k : Int)):=jj (by have h:=idx_at (b:=0) HE.out HX.out hpn;rw [Nat.zero_add] at h;exact h);have hpn' : (x.pid == n) = true:=hpn;go_wp2_with fail;go_ret;exact ⟨by rw [HQ.out];rfl,HW1.out⟩
   | false =>
    have hpn' : (x.pid == n) = false:=hpn;have HK : Hid (∀ y ∈ l.take (k + 1),(fun p : Pr => p.pid == n) y = false):=jj (take_upto HE.out HX.out hpn);clear hpn;go_wp2_with fail
    go_roundw
    case rel =>
     have R : ∃ k' : Nat,k' ≤ l.length ∧ Value.int .i64 ((k : Int) + 1) = .int .i64 k' ∧ Hid (∀ y ∈ l.take k',(fun p : Pr => p.pid == n) y = false) ∧ Hid (Below w.heap.size w w1):=⟨k + 1,by omega,by go_num,HK,HW1⟩
     first | exact R | ((repeat apply Exists.intro);exact ⟨R,rfl⟩)
    case measure => simp [intOf];omega
  ·obtain rfl : k = l.length:=(by omega);have hd : decide (l.length < l.length) = false:=(by simp);have HQ : Hid (idxI (fun p : Pr => p.pid == n) l 0 = -1):=jj (idx_no (by have h:=HE.out;rw [List.take_length] at h;exact h));go_wp2_with fail;go_ret;exact ⟨by rw [HQ.out];rfl,HW.out⟩
set_option maxRecDepth 100000 in
set_option maxHeartbeats 1000000 in
theorem placec_any (w : World) (p : Nb) (n : Int) (g : Nat) (hg : w.cell? ⟨g,0,none⟩ = some (.int .i64 n)) (hgw : g < w.heap.size) :
  Calls Tryz.prog 165 #[.agg (nbCells1 p).toArray,.pointer (some ⟨g,0,none⟩)] w fun e w' => e = .returned (.bool (p.1 == n)) ∧ Below w.heap.size w w':=by
 have hs0:=Whole.made w 51 (nbCells1 p).toArray;have hb : Below w.heap.size w (w.alloc (.cells (nbCells1 p).toArray 51)):=(Below.refl _ _).alloc (Nat.le_refl _) _;go_enter Tryz.func165,Tryz.ntmps165;go_upto_region 1 with (fail);change Code.wp _ _ _ _ (w.alloc (.cells (nbCells1 p).toArray 51));generalize (w.alloc (.cells (nbCells1 p).toArray 51)) = w1 at *;generalize hgx : w.heap.size = gx at *;have HGX:=jj hgx;have HS0:=jj hs0;have HW:=jj hb;have hgl : gx < w1.heap.size:=hs0.lt;clear hgx hb hs0;have c0 : w1.cell? ⟨gx,0,none⟩ = some (.int .i64 p.1):=HS0.out.cell 0;have c1 : w1.cell? ⟨g,0,none⟩ = some (.int .i64 n):=(HW.out.cell (p:=⟨g,0,none⟩) hgw).trans hg;clear hg;go_wp2_with fail;go_ret;exact ⟨rfl,by rw [HGX.out];exact HW.out⟩
set_option maxRecDepth 100000 in
set_option maxHeartbeats 1000000 in
theorem idxQ_any (w : World) (A : Option Addr) (c : Nat) (l : List Nb) (hA : Lies w w.heap.size A (nbCells l)) (hl : l.length ≤ 1099511627776) (n : Int) (g : Nat) (hg : w.cell? ⟨g,0,none⟩ = some (.int .i64 n)) (hgw : g < w.heap.size) :
  Calls Tryz.prog 163 #[.slice A l.length c,.func (.func 165) #[] #[.pointer (some ⟨g,0,none⟩)]] w fun e w' => e = .returned (.int .i64 (idxI (fun p : Nb => p.1 == n) l 0)) ∧ Below w.heap.size w w':=by
 have HA:=jj hA;have HG:=jj hg
 clear hA hg;go_enter Tryz.func163,Tryz.ntmps163;go_wp2_with fail
 go_loopw [8] (fun i wr => ∃ k : Nat,k ≤ l.length ∧ i = .int .i64 k ∧ Hid (∀ y ∈ l.take k,(fun p : Nb => p.1 == n) y = false) ∧ Hid (Below w.heap.size w wr)) (fun i _ => l.length - (intOf i).toNat)
 case atStart => exact ⟨0,by omega,rfl,jj (by simp),jj (Below.refl _ _)⟩
 case round =>
  obtain ⟨k,hk,rfl,HE,HW⟩:=hrel;by_cases hlt : k < l.length
  ·obtain ⟨x,hx⟩:=dget_some hlt;have HX:=jj hx
   obtain ⟨ad,rfl,had,hc⟩:=Lies.row (f:=nbCells1) (n:=2) HA.out (fun _ _ => rfl) (by omega) hx;have LD : Hid (∀ j v,(nbCells1 x)[j]? = some v → wr.cell? ((ad.add (k * 2)).add j) = some v):=jj fun j v hv => (HW.out.cell (by rw [add_block,add_block];exact had)).trans (hc j v hv);have PI : Hid ((Tryz.prog.info? 51).map (·.size) = some (nbCells1 x).length):=jj (by rw [show (nbCells1 x).length = 2 from rfl];kernel_rfl);have CP:=jj (placec_any wr x n g ((HW.out.cell (p:=⟨g,0,none⟩) hgw).trans HG.out) (Nat.lt_of_lt_of_le hgw HW.out.size));have q0 : (0 : Int) ≤ (k : Int):=(by omega);have q1 : (k : Int) < (l.length : Int):=(by omega);clear hc hx;go_wp2_with (refine wpList_load_at rfl 51 (.tmp 14) rfl (ad.add (k * 2)) rfl (nbCells1 x) _ LD.out Tryz.underlying51 rfl PI.out ?_);refine CP.out.mono ?_;rintro e w1 ⟨rfl,hb1⟩;have HW1:=jj (HW.out.trans (hb1.mono HW.out.size));clear hb1 CP LD;cases hpn : (fun p : Nb => p.1 == n) x with
   | true => have HQ : Hid (idxI (fun p : Nb => p.1 == n) l 0 = (k : Int)):=jj (by have h:=idx_at (b:=0) HE.out HX.out hpn;rw [Nat.zero_add] at h;exact h);have hpn' : (x.1 == n) = true:=hpn;go_wp2_with fail;go_ret;exact ⟨by rw [HQ.out];rfl,HW1.out⟩
   | false =>
    have hpn' : (x.1 == n) = false:=hpn;have HK : Hid (∀ y ∈ l.take (k + 1),(fun p : Nb => p.1 == n) y = false):=jj (take_upto HE.out HX.out hpn);clear hpn;go_wp2_with fail
    go_roundw
    case rel =>
     have R : ∃ k' : Nat,k' ≤ l.length ∧ Value.int .i64 ((k : Int) + 1) = .int .i64 k' ∧ Hid (∀ y ∈ l.take k',(fun p : Nb => p.1 == n) y = false) ∧ Hid (Below w.heap.size w w1):=⟨k + 1,by omega,by go_num,HK,HW1⟩
     first | exact R | ((repeat apply Exists.intro);exact ⟨R,rfl⟩)
    case measure => simp [intOf];omega
  ·obtain rfl : k = l.length:=(by omega);have hd : decide (l.length < l.length) = false:=(by simp);have HQ : Hid (idxI (fun p : Nb => p.1 == n) l 0 = -1):=jj (idx_no (by have h:=HE.out;rw [List.take_length] at h;exact h));go_wp2_with fail;go_ret;exact ⟨by rw [HQ.out];rfl,HW.out⟩
theorem flLoad {x : Pr} (hx : PrOk x) {w : World} {g : Nat} (h : Whole w g 64 (prCells x).toArray) : ∀ j v,(flCells x.fds)[j]? = some v → w.cell? ((⟨g,68,none⟩ : Addr).add j) = some v :=
 mid_cells h 68 _ fun j v hv => by
  have hj : j < 24:=(by have:=(List.getElem?_eq_some_iff.1 hv).1;rw [flCells_length,hx.fds] at this;exact this);rw [pr_fds hx hj];exact hv
def endsF (fds : List Fl) (id k : Int) : Nat:=(fds.filter fun f => f.n == id && f.kind == k).length
theorem endsF_take {fds : List Fl} {j : Nat} {f : Fl} (h : fds[j]? = some f) (id k : Int) : endsF (fds.take (j + 1)) id k = endsF (fds.take j) id k + (if f.n == id && f.kind == k then 1 else 0):=by
 unfold endsF;rw [List.take_add_one,h,List.filter_append,List.length_append];congr 1;simp only [Option.toList_some,List.filter_cons,List.filter_nil];split <;> simp_all
def endsM (ps : List Pr) (id k : Int) : Nat:=(ps.map fun p => endsF p.fds id k).sum
theorem endsM_take {ps : List Pr} {i : Nat} {p : Pr} (h : ps[i]? = some p) (id k : Int) : endsM (ps.take (i + 1)) id k = endsM (ps.take i) id k + endsF p.fds id k:=by
 obtain ⟨hl,rfl⟩:=List.getElem?_eq_some_iff.1 h;unfold endsM;rw [List.take_succ_eq_append_getElem hl,List.map_append,List.sum_append];simp
def findI (m : Mc) (pid : Int) : Int:=max (idxI (fun p : Pr => p.pid == pid) m.procs 0) 0
def findB (m : Mc) (pid : Int) : Bool:=decide (0 ≤ idxI (fun p : Pr => p.pid == pid) m.procs 0)
theorem find_cases (m : Mc) (pid : Int) : (findB m pid = false ∧ findI m pid = 0 ∧ ∀ p ∈ m.procs,p.pid ≠ pid) ∨ ∃ (k : Nat) (x : Pr),m.procs[k]? = some x ∧ x.pid = pid ∧ findB m pid = true ∧ findI m pid = (k : Int):=by
 unfold findI findB;rcases idx_cases (fun p : Pr => p.pid == pid) m.procs with ⟨h1,h2⟩ | ⟨k,x,h1,h2,h3⟩
 ·rw [h1];exact .inl ⟨rfl,rfl,fun p hp => by have:=h2 p hp;simpa using this⟩
 ·rw [h3];exact .inr ⟨k,x,h1,by simpa using h2,by simp,by omega⟩
def pipeR (m : Mc) (id : Int) : Nb × Bool:=match idxI (fun q : Nb => q.1 == id) m.pipes 0 with
 | .ofNat k => (m.pipes.getD k (0,[]),true)
 | .negSucc _ => ((0,[]),false)
set_option maxRecDepth 100000 in
set_option maxHeartbeats 2000000 in
theorem find_any (w : World) (a : MA) (m : Mc) (hm : McOk m) (hA : MAt w w.heap.size a m) (pid : Int) :
  Calls Tryz.prog 33 #[.agg (mcL a m).toArray,.int .i64 pid] w fun e w' => e = .returned (.tuple #[.int .i64 (findI m pid),.bool (findB m pid)]) ∧ Below w.heap.size w w':=by
 have hs0:=(Whole.made w 30 (mcL a m).toArray).block (.cells #[.int .i64 pid] 3);have hs1:=Whole.made (w.alloc (.cells (mcL a m).toArray 30)) 3 #[.int .i64 pid];rw [show (w.alloc (.cells (mcL a m).toArray 30)).heap.size = w.heap.size + 1 by simp] at hs1;have hb : Below w.heap.size w ((w.alloc (.cells (mcL a m).toArray 30)).alloc (.cells #[.int .i64 pid] 3)):=((Below.refl _ _).alloc (by first | exact Nat.le_refl _ | simp | (simp;omega)) _).alloc (by first | exact Nat.le_refl _ | simp | (simp;omega)) _;go_enter Tryz.func33,Tryz.ntmps33;go_upto_region 1 with (fail);change Code.wp _ _ _ _ ((w.alloc (.cells (mcL a m).toArray 30)).alloc (.cells #[.int .i64 pid] 3));generalize ((w.alloc (.cells (mcL a m).toArray 30)).alloc (.cells #[.int .i64 pid] 3)) = w1 at *;generalize hgx : w.heap.size = gx at *;have HGX:=jj hgx;have HS0:=jj hs0;have HS1:=jj hs1;have HW:=jj hb;have hgl : gx + 1 < w1.heap.size:=hs1.lt;clear hgx hb hs0 hs1;have m5 : w1.cell? ⟨gx,5,none⟩ = some (.slice a.P m.procs.length a.cP):=HS0.out.cell 5;have CX:=jj (idxP_any w1 a.P a.cP m.procs hm.procs ((hA.P.below HW.out).wide (by omega)) (by have:=hm.sizes.2.1;omega) pid (gx + 1) (HS1.out.cell 0) (by omega));have HR : Hid (findI m pid = max (idxI (fun p : Pr => p.pid == pid) m.procs 0) 0 ∧ findB m pid = decide (0 ≤ idxI (fun p : Pr => p.pid == pid) m.procs 0)):=jj ⟨rfl,rfl⟩
 have hcs : idxI (fun p : Pr => p.pid == pid) m.procs 0 = -1 ∨ ∃ k : Nat,idxI (fun p : Pr => p.pid == pid) m.procs 0 = (k : Int):=by
  rcases idx_cases (fun p : Pr => p.pid == pid) m.procs with h | ⟨k,_,_,_,h⟩
  ·exact .inl h.1
  ·exact .inr ⟨k,h⟩
 clear hA hm;go_wp2_with fail;obtain ⟨v,HV⟩ : ∃ z,Hid (idxI (fun p : Pr => p.pid == pid) m.procs 0 = z):=⟨_,jj rfl⟩;rw [HV.out] at CX HR hcs;refine CX.out.mono ?_;rintro e w2 ⟨rfl,hb2⟩;have HW2:=jj (HW.out.trans (hb2.mono (by omega)));clear hb2 CX;have hmx : max v 0 = (if v < 0 then 0 else v):=(by split <;> omega);rcases hcs with rfl | ⟨k,rfl⟩
 ·go_wp2_with fail;refine bodyPost_ret (v:=.tuple #[.int .i64 0,.bool false]) (by simp [results,Tryz.results33,go_sem]) rfl ?_;exact ⟨by rw [HR.out.1,HR.out.2];rfl,by rw [HGX.out];exact HW2.out⟩
 ·have k0 : decide ((k : Int) < 0) = false:=decide_eq_false (by omega);have k1 : decide (0 ≤ (k : Int)) = true:=decide_eq_true (by omega);have k2 : max (k : Int) 0 = (k : Int):=(by omega);have k3 : max 0 (k : Int) = (k : Int):=(by omega);go_wp2_with fail;refine bodyPost_ret (v:=.tuple #[.int .i64 (k : Int),.bool true]) (by simp [results,Tryz.results33,go_sem]) rfl ?_;exact ⟨by rw [HR.out.1,HR.out.2,k1,k2],by rw [HGX.out];exact HW2.out⟩
set_option maxRecDepth 100000 in
set_option maxHeartbeats 2000000 in
theorem dplace_any (w : World) (a : MA) (m : Mc) (hq : m.pipes.length ≤ 1099511627776) (hA : MAt w w.heap.size a m) (id : Int) :
  Calls Tryz.prog 133 #[.agg (mcL a m).toArray,.int .i64 id] w fun e w' => e = .returned (.int .i64 (idxI (fun p : Nb => p.1 == id) m.pipes 0)) ∧ Below w.heap.size w w':=by
 have hs0:=(Whole.made w 30 (mcL a m).toArray).block (.cells #[.int .i64 id] 3);have hs1:=Whole.made (w.alloc (.cells (mcL a m).toArray 30)) 3 #[.int .i64 id];rw [show (w.alloc (.cells (mcL a m).toArray 30)).heap.size = w.heap.size + 1 by simp] at hs1;have hb : Below w.heap.size w ((w.alloc (.cells (mcL a m).toArray 30)).alloc (.cells #[.int .i64 id] 3)):=((Below.refl _ _).alloc (by first | exact Nat.le_refl _ | simp | (simp;omega)) _).alloc (by first | exact Nat.le_refl _ | simp | (simp;omega)) _;go_enter Tryz.func133,Tryz.ntmps133;go_upto_region 1 with (fail);change Code.wp _ _ _ _ ((w.alloc (.cells (mcL a m).toArray 30)).alloc (.cells #[.int .i64 id] 3));generalize ((w.alloc (.cells (mcL a m).toArray 30)).alloc (.cells #[.int .i64 id] 3)) = w1 at *;generalize hgx : w.heap.size = gx at *;have HGX:=jj hgx;have HS0:=jj hs0;have HS1:=jj hs1;have HW:=jj hb;have hgl : gx + 1 < w1.heap.size:=hs1.lt;clear hgx hb hs0 hs1;have m8 : w1.cell? ⟨gx,8,none⟩ = some (.slice a.Q m.pipes.length a.cQ):=HS0.out.cell 8;have CX:=jj (idxQ_any w1 a.Q a.cQ m.pipes ((hA.Q.below HW.out).wide (by omega)) hq id (gx + 1) (HS1.out.cell 0) (by omega));clear hA;go_wp2_with fail;refine CX.out.mono ?_;rintro e w2 ⟨rfl,hb2⟩;have HW2:=jj (HW.out.trans (hb2.mono (by omega)));clear hb2 CX;go_wp2_with fail;go_ret;exact ⟨rfl,by rw [HGX.out];exact HW2.out⟩
set_option maxRecDepth 100000 in
set_option maxHeartbeats 2000000 in
theorem pipe_any (w : World) (a : MA) (m : Mc) (hq : m.pipes.length ≤ 1099511627776) (hA : MAt w w.heap.size a m) (id : Int) :
  Calls Tryz.prog 142 #[.agg (mcL a m).toArray,.int .i64 id] w fun e w' => e = .returned (.tuple #[.agg (nbCells1 (pipeR m id).1).toArray,.bool (pipeR m id).2]) ∧ Below w.heap.size w w':=by
 have hs0:=(Whole.made w 30 (mcL a m).toArray).block (.cells #[.int .i64 0,S []] 51);have hs1:=Whole.made (w.alloc (.cells (mcL a m).toArray 30)) 51 #[.int .i64 0,S []];rw [show (w.alloc (.cells (mcL a m).toArray 30)).heap.size = w.heap.size + 1 by simp] at hs1;have hb : Below w.heap.size w ((w.alloc (.cells (mcL a m).toArray 30)).alloc (.cells #[.int .i64 0,S []] 51)):=((Below.refl _ _).alloc (by first | exact Nat.le_refl _ | simp | (simp;omega)) _).alloc (by first | exact Nat.le_refl _ | simp | (simp;omega)) _;go_enter Tryz.func142,Tryz.ntmps142;go_upto_region 1 with (fail);change Code.wp _ _ _ _ ((w.alloc (.cells (mcL a m).toArray 30)).alloc (.cells #[.int .i64 0,S []] 51));generalize ((w.alloc (.cells (mcL a m).toArray 30)).alloc (.cells #[.int .i64 0,S []] 51)) = w1 at *;generalize hgx : w.heap.size = gx at *;have HGX:=jj hgx;have HS0:=jj hs0;have HS1:=jj hs1;have HW:=jj hb;have hgl : gx + 1 < w1.heap.size:=hs1.lt;clear hgx hb hs0 hs1;have LM:=jj HS0.out.reads;have MI : Hid ((Tryz.prog.info? 30).map (·.size) = some (mcL a m).length):=jj Tryz.sizeMc;have HA1:=jj ((hA.below HW.out).wide (B':=w1.heap.size) (by omega));have CX:=jj (dplace_any w1 a m hq HA1.out id);have HPR : Hid (pipeR m id = match idxI (fun q : Nb => q.1 == id) m.pipes 0 with | .ofNat k => (m.pipes.getD k (0,[]),true) | .negSucc _ => ((0,[]),false)):=jj rfl;have hcs:=idx_cases (fun q : Nb => q.1 == id) m.pipes;clear hA;obtain ⟨v,HV⟩ : ∃ z,Hid (idxI (fun q : Nb => q.1 == id) m.pipes 0 = z):=⟨_,jj rfl⟩;rw [HV.out] at CX HPR hcs;go_wp2_with (refine wpList_load_at rfl 30 (.tmp 2) rfl ⟨gx,0,none⟩ rfl (mcL a m) _ LM.out Tryz.underlying30 rfl MI.out ?_);refine CX.out.mono ?_;rintro e w2 ⟨rfl,hb2⟩;have HZ2 : Hid (Whole w2 (gx + 1) 51 [.int .i64 0,S []].toArray):=jj (HS1.out.below hb2 HS1.out.lt);have HM2:=jj (HS0.out.below hb2 HS0.out.lt);have HW2:=jj (HW.out.trans (hb2.mono (by omega)));have HA2:=jj (HA1.out.below hb2);have hg2 : gx + 1 < w2.heap.size:=HZ2.out.lt;clear hb2 CX LM HA1 HS0 HS1;rcases hcs with ⟨rfl,_⟩ | ⟨k,x,hk,_,rfl⟩
 ·have HQ : Hid (pipeR m id = ((0,[]),false)):=jj HPR.out;clear HPR;go_wp2_with (refine wpList_store_all rfl 51 (.tmp 4) (.tmp 12) rfl rfl (gx + 1) rfl [.int .i64 0,S []] rfl (by kernel_rfl) [.int .i64 0,S []] 51 HZ2.out rfl (nb_one (0,[])) ?_;intro wz hw hk);refine bodyPost_ret (v:=.tuple #[.agg (nbCells1 (0,[])).toArray,.bool false]) (results_cell_tmp rfl _ _ (gx + 1) 51 _ _ (0,0) _ rfl rfl hw.out Tryz.underlying51 rfl (by kernel_rfl)) rfl ?_;exact ⟨by rw [HQ.out],by rw [HGX.out];exact HW2.out.grown hk.out (by omega) (fun q e => by injection e with e;omega)⟩
 ·have hlt:=(List.getElem?_eq_some_iff.1 hk).1;have HQ : Hid (pipeR m id = (x,true)):=jj (by rw [HPR.out];show (m.pipes.getD k (0,[]),true) = _;rw [List.getD_eq_getElem?_getD,hk];rfl);obtain ⟨ad,hadr,had,hc⟩:=Lies.row (f:=nbCells1) (n:=2) HA2.out.Q (fun _ _ => rfl) (by omega) hk;have LD : Hid (∀ j v,(nbCells1 x)[j]? = some v → w2.cell? ((ad.add (k * 2)).add j) = some v):=jj hc;have m8 : w2.cell? ⟨gx,8,none⟩ = some (.slice (some ad) m.pipes.length a.cQ):=(by rw [← hadr];exact HM2.out.cell 8);have PI : Hid ((Tryz.prog.info? 51).map (·.size) = some (nbCells1 x).length):=jj (by kernel_rfl);have k0 : decide ((k : Int) < 0) = false:=decide_eq_false (by omega);have q0 : (0 : Int) ≤ (k : Int):=(by omega);have q1 : (k : Int) < (m.pipes.length : Int):=(by omega);clear HPR hk hadr hc HM2
  go_wp2_with (first
   | (refine wpList_load_at rfl 51 (.tmp 16) rfl (ad.add (k * 2)) rfl (nbCells1 x) _ LD.out Tryz.underlying51 rfl PI.out ?_)
   | (refine wpList_store_all rfl 51 (.tmp 4) (.tmp 17) rfl rfl (gx + 1) rfl (nbCells1 x) rfl PI.out [.int .i64 0,S []] 51 HZ2.out rfl (nb_one x) ?_;intro wz hw hk))
  refine bodyPost_ret (v:=.tuple #[.agg (nbCells1 x).toArray,.bool true]) (results_cell_tmp rfl _ _ (gx + 1) 51 _ _ (0,0) _ rfl rfl hw.out Tryz.underlying51 rfl (by kernel_rfl)) rfl ?_;exact ⟨by rw [HQ.out],by rw [HGX.out];exact HW2.out.grown hk.out (by omega) (fun q e => by injection e with e;omega)⟩
set_option maxRecDepth 100000 in
set_option maxHeartbeats 4000000 in
theorem ends_any (w : World) (a : MA) (m : Mc) (hm : McOk m) (hA : MAt w w.heap.size a m) (id : Int) :
  Calls Tryz.prog 104 #[.agg (mcL a m).toArray,.int .i64 id] w fun e w' => e = .returned (.tuple #[.int .i64 (endsM m.procs id 4 : Nat),.int .i64 (endsM m.procs id 5 : Nat)]) ∧ Below w.heap.size w w':=by
 have hs0:=Whole.made w 30 (mcL a m).toArray;have hb : Below w.heap.size w (w.alloc (.cells (mcL a m).toArray 30)):=(Below.refl _ _).alloc (Nat.le_refl _) _;go_enter Tryz.func104,Tryz.ntmps104;go_upto_region 1 with (fail);change Code.wp _ _ _ _ (w.alloc (.cells (mcL a m).toArray 30));generalize (w.alloc (.cells (mcL a m).toArray 30)) = w1 at *;generalize hgx : w.heap.size = gx at *;have HGX:=jj hgx;have HS0:=jj hs0;have HW:=jj hb;have hgl : gx < w1.heap.size:=hs0.lt;clear hgx hb hs0;have HM:=jj hm;have m5 : w1.cell? ⟨gx,5,none⟩ = some (.slice a.P m.procs.length a.cP):=HS0.out.cell 5;have HA:=jj hA.P;clear hA hm;obtain ⟨AP,hAP⟩ : ∃ z,a.P = z:=⟨_,rfl⟩;rw [hAP] at m5 HA;clear hAP;go_wp2_with fail;clear m5 HS0
 go_loopw [6,7,15] (fun x y i wr => ∃ i' a' b' : Nat,i' ≤ m.procs.length ∧ i = .int .i64 (i' : Int) ∧ x = .int .i64 (a' : Int) ∧ y = .int .i64 (b' : Int) ∧ a' ≤ 8 * i' ∧ b' ≤ 8 * i' ∧ Hid (endsM (m.procs.take i') id 4 = a' ∧ endsM (m.procs.take i') id 5 = b') ∧ Hid (Below gx w wr)) (fun _ _ i _ => m.procs.length - (intOf i).toNat)
 case atStart => exact ⟨0,0,0,by omega,rfl,rfl,rfl,by omega,by omega,jj ⟨rfl,rfl⟩,HW⟩
 case round =>
  clear HW;obtain ⟨i,za,zb,hi,rfl,rfl,rfl,hza,hzb,HP0,HV0⟩:=hrel;by_cases hlt : i < m.procs.length
  ·obtain ⟨p,hx⟩:=dget_some hlt;have HPX:=jj hx;have HXO:=jj (HM.out.procs p (List.mem_of_getElem? hx));have hxl:=prCells_length HXO.out;obtain ⟨ad,rfl,had,hc⟩:=Lies.row (f:=prCells) (n:=96) HA.out (fun y hy => prCells_length (HM.out.procs y hy)) (by omega) hx;have LD : Hid (∀ j v,(prCells p)[j]? = some v → wr.cell? ((ad.add (i * 96)).add j) = some v):=jj fun j v hv => (HV0.out.cell (by rw [add_block,add_block];have:=HGX.out;omega)).trans (hc j v hv);have PIX : Hid ((Tryz.prog.info? 64).map (·.size) = some (prCells p).length):=jj (by rw [hxl];exact Tryz.sizePr);have PIZ : Hid ((Tryz.prog.info? 64).map (fun i => (i.zero,i.size)) = some (some (.agg (prCells zeroPr).toArray),(prCells p).length)):=jj (by rw [hxl];exact Tryz.infoPr);have PZS : Hid ((Value.agg (prCells zeroPr).toArray).cells.size = (prCells p).length):=jj (by rw [hxl];rfl);have HSF : Hid ((Tryz.prog.info? 62).map (·.size) = some (flCells p.fds).length):=jj (by rw [flCells_length,HXO.out.fds];kernel_rfl);have HX:=jj (Whole.made wr 64 (prCells p).toArray);have hgs0 : gx ≤ wr.heap.size:=(by have:=HV0.out.size;have:=HGX.out;omega);have HV1:=jj (HV0.out.alloc hgs0 (.cells (prCells p).toArray 64));have q0 : (0 : Int) ≤ (i : Int):=(by omega);have q1 : (i : Int) < (m.procs.length : Int):=(by omega);have hml : m.procs.length ≤ 274877906944:=HM.out.sizes.2.1;clear hc hx hxl HV0
   go_upto_region 5 with (first
    | (refine wpList_load_at rfl 64 (.tmp 17) rfl (ad.add (i * 96)) rfl (prCells p) _ LD.out Tryz.underlying64 rfl PIX.out ?_)
    | (refine wpList_fresh rfl rfl 64 9 (.tmp 18) rfl rfl rfl rfl (prCells p) rfl rfl _ PIZ.out PZS.out prCells_one ?_))
   change Code.wp _ _ _ _ (wr.alloc (.cells (prCells p).toArray 64));clear LD PIZ PZS PIX q0 q1 hgs0;generalize wr.alloc (.cells (prCells p).toArray 64) = w2 at *;generalize wr.heap.size = g2 at *;have LF:=jj (flLoad HXO.out HX.out);go_wp2_with (refine wpList_load_at rfl 62 (.tmp 19) rfl ⟨g2,68,none⟩ rfl (flCells p.fds) _ LF.out Tryz.underlying62 rfl HSF.out ?_);clear LF HX HSF
   go_loopw [6,7,21] (fun x y ii wr => ∃ j' a' b' : Nat,j' ≤ 8 ∧ ii = .int .i64 (j' : Int) ∧ x = .int .i64 (a' : Int) ∧ y = .int .i64 (b' : Int) ∧ a' ≤ 8 * i + j' ∧ b' ≤ 8 * i + j' ∧ Hid (endsM (m.procs.take i) id 4 + endsF (p.fds.take j') id 4 = a' ∧ endsM (m.procs.take i) id 5 + endsF (p.fds.take j') id 5 = b') ∧ Hid (Below gx w wr)) (fun _ _ i _ => 8 - (intOf i).toNat)
   case atStart => exact ⟨0,za,zb,by omega,rfl,rfl,rfl,by omega,by omega,jj ⟨by have:=HP0.out.1;simpa [endsF] using this,by have:=HP0.out.2;simpa [endsF] using this⟩,HV1⟩
   case round =>
    clear HV1 HP0;obtain ⟨j,ea,eb,hj,rfl,rfl,rfl,ha8,hb8,HP,HV⟩:=hrel;by_cases hlj : j < 8
    ·obtain ⟨f,hf⟩:=dget_some (l:=p.fds) (k:=j) (by rw [HXO.out.fds];exact hlj);have HE4:=jj (endsF_take hf id 4);have HE5:=jj (endsF_take hf id 5);have HFR:=jj (flat_row flCells1 3 p.fds (fun _ _ => rfl) hf);have hl1 : decide ((j : Int) < 8) = true:=decide_eq_true (by omega);have hl2 : decide (j < 8) = true:=decide_eq_true hlj;have hgs : gx ≤ wr.heap.size:=(by have:=HV.out.size;have:=HGX.out;omega);have HVn:=jj (HV.out.alloc hgs (.cells (flCells1 f).toArray 61));have HYn:=jj (Whole.made wr 61 (flCells1 f).toArray);clear hf
     go_upto_region 8 with (first
      | (refine wpList_index_structs rfl 62 (.tmp 20) (.tmp 21) rfl 61 _ 8 3 (flCells p.fds) .i64 j rfl rfl Tryz.underlying62 Tryz.underlying61 Tryz.sizeFl hlj (flCells1 f) HFR.out ?_)
      | (refine wpList_fresh rfl rfl 61 11 (.tmp 23) rfl rfl rfl rfl (flCells1 f) rfl rfl _ Tryz.infoFl rfl (fl_one f) ?_))
     change Code.wp _ _ _ _ (wr.alloc (.cells (flCells1 f).toArray 61));clear HV HFR hl1 hl2 hgs;generalize wr.alloc (.cells (flCells1 f).toArray 61) = w5 at *;generalize wr.heap.size = g3 at *;obtain ⟨fk,fn,fp⟩:=f;have y0 : w5.cell? ⟨g3,0,none⟩ = some (.int .i64 fk):=HYn.out.cell 0;have y1 : w5.cell? ⟨g3,1,none⟩ = some (.int .i64 fn):=HYn.out.cell 1;by_cases hh : fn = id
     ·have e1 : (fn == id) = true:=beq_iff_eq.2 hh;by_cases h4 : fk = 4
      ·have e4 : (fk == 4) = true:=beq_iff_eq.2 h4;have e5 : (fk == 5) = false:=beq_eq_false_iff_ne.2 (by omega);clear hh h4;have HQ : Hid (endsM (m.procs.take i) id 4 + endsF (p.fds.take (j + 1)) id 4 = ea + 1 ∧ endsM (m.procs.take i) id 5 + endsF (p.fds.take (j + 1)) id 5 = eb):=jj (by have h1:=HP.out.1;have h2:=HP.out.2;rw [HE4.out,HE5.out];simp only [e1,e4,e5,Bool.true_and,Bool.false_eq_true,if_true,if_false];exact ⟨by omega,by omega⟩);clear HE4 HE5 HP;go_wp2_with fail
       go_roundw
       case rel =>
        have R : ∃ j' a' b' : Nat,j' ≤ 8 ∧ Value.int .i64 ((j : Int) + 1) = .int .i64 (j' : Int) ∧ Value.int .i64 ((ea : Int) + 1) = .int .i64 (a' : Int) ∧ Value.int .i64 (eb : Int) = .int .i64 (b' : Int) ∧ a' ≤ 8 * i + j' ∧ b' ≤ 8 * i + j' ∧ Hid (endsM (m.procs.take i) id 4 + endsF (p.fds.take j') id 4 = a' ∧ endsM (m.procs.take i) id 5 + endsF (p.fds.take j') id 5 = b') ∧ Hid (Below gx w w5):=⟨j + 1,ea + 1,eb,by omega,by go_num,by go_num,rfl,by omega,by omega,HQ,HVn⟩
        first | exact R | ((repeat apply Exists.intro);exact ⟨R,rfl⟩)
       case measure => simp [intOf];omega
      ·by_cases h5 : fk = 5
       ·have e4 : (fk == 4) = false:=beq_eq_false_iff_ne.2 h4;have e5 : (fk == 5) = true:=beq_iff_eq.2 h5;clear hh h4 h5;have HQ : Hid (endsM (m.procs.take i) id 4 + endsF (p.fds.take (j + 1)) id 4 = ea ∧ endsM (m.procs.take i) id 5 + endsF (p.fds.take (j + 1)) id 5 = eb + 1):=jj (by have h1:=HP.out.1;have h2:=HP.out.2;rw [HE4.out,HE5.out];simp only [e1,e4,e5,Bool.true_and,Bool.false_eq_true,if_true,if_false];exact ⟨by omega,by omega⟩);clear HE4 HE5 HP;go_wp2_with fail
        go_roundw
        case rel =>
         have R : ∃ j' a' b' : Nat,j' ≤ 8 ∧ Value.int .i64 ((j : Int) + 1) = .int .i64 (j' : Int) ∧ Value.int .i64 (ea : Int) = .int .i64 (a' : Int) ∧ Value.int .i64 ((eb : Int) + 1) = .int .i64 (b' : Int) ∧ a' ≤ 8 * i + j' ∧ b' ≤ 8 * i + j' ∧ Hid (endsM (m.procs.take i) id 4 + endsF (p.fds.take j') id 4 = a' ∧ endsM (m.procs.take i) id 5 + endsF (p.fds.take j') id 5 = b') ∧ Hid (Below gx w w5):=⟨j + 1,ea,eb + 1,by omega,by go_num,rfl,by go_num,by omega,by omega,HQ,HVn⟩
         first | exact R | ((repeat apply Exists.intro);exact ⟨R,rfl⟩)
        case measure => simp [intOf];omega
       ·have e4 : (fk == 4) = false:=beq_eq_false_iff_ne.2 h4;have e5 : (fk == 5) = false:=beq_eq_false_iff_ne.2 h5;clear hh h4 h5;have HQ : Hid (endsM (m.procs.take i) id 4 + endsF (p.fds.take (j + 1)) id 4 = ea ∧ endsM (m.procs.take i) id 5 + endsF (p.fds.take (j + 1)) id 5 = eb):=jj (by have h1:=HP.out.1;have h2:=HP.out.2;rw [HE4.out,HE5.out];simp only [e1,e4,e5,Bool.true_and,Bool.false_eq_true,if_false];exact ⟨by omega,by omega⟩);clear HE4 HE5 HP;go_wp2_with fail
        go_roundw
        case rel =>
         have R : ∃ j' a' b' : Nat,j' ≤ 8 ∧ Value.int .i64 ((j : Int) + 1) = .int .i64 (j' : Int) ∧ Value.int .i64 (ea : Int) = .int .i64 (a' : Int) ∧ Value.int .i64 (eb : Int) = .int .i64 (b' : Int) ∧ a' ≤ 8 * i + j' ∧ b' ≤ 8 * i + j' ∧ Hid (endsM (m.procs.take i) id 4 + endsF (p.fds.take j') id 4 = a' ∧ endsM (m.procs.take i) id 5 + endsF (p.fds.take j') id 5 = b') ∧ Hid (Below gx w w5):=⟨j + 1,ea,eb,by omega,by go_num,rfl,rfl,by omega,by omega,HQ,HVn⟩
         first | exact R | ((repeat apply Exists.intro);exact ⟨R,rfl⟩)
        case measure => simp [intOf];omega
     ·have e1 : (fn == id) = false:=beq_eq_false_iff_ne.2 hh;clear hh;have HQ : Hid (endsM (m.procs.take i) id 4 + endsF (p.fds.take (j + 1)) id 4 = ea ∧ endsM (m.procs.take i) id 5 + endsF (p.fds.take (j + 1)) id 5 = eb):=jj (by have h1:=HP.out.1;have h2:=HP.out.2;rw [HE4.out,HE5.out];simp only [e1,Bool.false_and,Bool.false_eq_true,if_false];exact ⟨by omega,by omega⟩);clear HE4 HE5 HP;go_wp2_with fail
      go_roundw
      case rel =>
       have R : ∃ j' a' b' : Nat,j' ≤ 8 ∧ Value.int .i64 ((j : Int) + 1) = .int .i64 (j' : Int) ∧ Value.int .i64 (ea : Int) = .int .i64 (a' : Int) ∧ Value.int .i64 (eb : Int) = .int .i64 (b' : Int) ∧ a' ≤ 8 * i + j' ∧ b' ≤ 8 * i + j' ∧ Hid (endsM (m.procs.take i) id 4 + endsF (p.fds.take j') id 4 = a' ∧ endsM (m.procs.take i) id 5 + endsF (p.fds.take j') id 5 = b') ∧ Hid (Below gx w w5):=⟨j + 1,ea,eb,by omega,by go_num,rfl,rfl,by omega,by omega,HQ,HVn⟩
       first | exact R | ((repeat apply Exists.intro);exact ⟨R,rfl⟩)
      case measure => simp [intOf];omega
    ·obtain rfl : j = 8:=(by omega);have HQ : Hid (endsM (m.procs.take (i + 1)) id 4 = ea ∧ endsM (m.procs.take (i + 1)) id 5 = eb):=jj (by have:=HP.out;rw [List.take_of_length_le (l:=p.fds) (i:=8) (by rw [HXO.out.fds];omega)] at this;rw [endsM_take HPX.out,endsM_take HPX.out];exact this);rw [show ((8 : Nat) : Int) = 8 from rfl];go_wp2_with fail
     go_roundw
     case rel =>
      have R : ∃ i' a' b' : Nat,i' ≤ m.procs.length ∧ Value.int .i64 ((i : Int) + 1) = .int .i64 (i' : Int) ∧ Value.int .i64 (ea : Int) = .int .i64 (a' : Int) ∧ Value.int .i64 (eb : Int) = .int .i64 (b' : Int) ∧ a' ≤ 8 * i' ∧ b' ≤ 8 * i' ∧ Hid (endsM (m.procs.take i') id 4 = a' ∧ endsM (m.procs.take i') id 5 = b') ∧ Hid (Below gx w wr):=⟨i + 1,ea,eb,by omega,by go_num,rfl,rfl,by omega,by omega,HQ,HV⟩
      first | exact R | ((repeat apply Exists.intro);exact ⟨R,rfl⟩)
     case measure => simp [intOf];omega
  ·obtain rfl : i = m.procs.length:=(by omega);have hd : decide (m.procs.length < m.procs.length) = false:=(by simp);have HQ : Hid (endsM m.procs id 4 = za ∧ endsM m.procs id 5 = zb):=jj (by have:=HP0.out;rwa [List.take_length] at this);go_wp2_with fail;refine bodyPost_ret (v:=.tuple #[.int .i64 (za : Int),.int .i64 (zb : Int)]) (by simp [results,Tryz.results104,go_sem]) rfl ?_;exact ⟨by rw [HQ.out.1,HQ.out.2],by rw [HGX.out];exact HV0.out⟩
end Go.Proofs.YtnbphabheikfeaaGreatDoor
