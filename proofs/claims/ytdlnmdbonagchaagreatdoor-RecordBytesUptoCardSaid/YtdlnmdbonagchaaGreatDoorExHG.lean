import Derived.Test.YtdlnmdbonagchaaGreatDoorExIr
import Derived.Test.YtdlnmdbonagchaaGreatDoorVolQ
import Derived.Test.YtdlnmdbonagchaaGreatDoorExHF
import Derived.Test.YtdlnmdbonagchaaGreatDoorGeoR
namespace Go.Proofs.YtdlnmdbonagchaaGreatDoor.Ex
open Go.RowKit
def rowsOf (ss : List Nat) : List (List UInt8):=ss.map (bytesOf 128)
theorem getD_bytesOf : ∀ (l n i : Nat),i < l → (bytesOf l n).getD i 0 = UInt8.ofNat (n / 256 ^ i % 256)
 | 0,_,_,h => absurd h (Nat.not_lt_zero _)
 | l + 1,n,0,_ => by simp [bytesOf]
 | l + 1,n,i + 1,h => by
  have:=getD_bytesOf l (n / 256) i (by omega);simp only [bytesOf,List.getD_cons_succ,this];rw [Nat.div_div_eq_div_mul,← Nat.pow_succ']
theorem bitB_bytesOf (n i : Nat) (hi : i < 1024) : bitB (bytesOf 128 n) i = n.testBit i:=by
 unfold bitB;rw [getD_bytesOf 128 n (i / 8) (by omega)];rw [UInt8.toNat_ofNat',Nat.mod_mod_of_dvd _ (by decide),Nat.testBit_eq_decide_div_mod_eq];have h256 : (256 : Nat) ^ (i / 8) = 2 ^ (8 * (i / 8)):=(by rw [Nat.pow_mul])
 have e1 : n / 256 ^ (i / 8) % 256 / 2 ^ (i % 8) % 2 = n / 2 ^ i % 2:=by
  have hlt : i % 8 < 8:=Nat.mod_lt _ (by decide);have h8 : (256 : Nat) = 2 ^ (i % 8) * (2 * 2 ^ (7 - i % 8)):=(by rw [← Nat.pow_succ',← Nat.pow_add];have : i % 8 + (7 - i % 8 + 1) = 8:=(by omega);rw [this]);generalize hm : n / 256 ^ (i / 8) = m
  have e2 : m % 256 / 2 ^ (i % 8) % 2 = m / 2 ^ (i % 8) % 2:=by
   conv => lhs;rw [h8]
   rw [Nat.mod_mul_right_div_self,Nat.mod_mul_right_mod]
  rw [e2,← hm,h256,Nat.div_div_eq_div_mul,← Nat.pow_add];congr 3;omega
 rw [e1];rw [Bool.eq_iff_iff,beq_iff_eq,decide_eq_true_eq]
theorem bytesOf_add : ∀ (a b n : Nat),bytesOf (a + b) n = bytesOf a n ++ bytesOf b (n / 256 ^ a)
 | 0,b,n => by simp [bytesOf]
 | a + 1,b,n => by
  rw [show a + 1 + b = (a + b) + 1 by omega];simp only [bytesOf,List.cons_append];rw [bytesOf_add a b (n / 256),Nat.div_div_eq_div_mul,← Nat.pow_succ']
theorem two_at (n a : Nat) (h : a + 2 ≤ 128) : ((bytesOf 128 n).drop a).take 2 = [UInt8.ofNat (n / 256 ^ a % 256),UInt8.ofNat (n / 256 ^ (a + 1) % 256)]:=by
 have e : 128 = a + (2 + (126 - a)):=(by omega);rw [e,bytesOf_add a,List.drop_left' (bytesOf_length a n),bytesOf_add 2,List.take_left' (bytesOf_length 2 _)];simp only [bytesOf];rw [Nat.div_div_eq_div_mul,← Nat.pow_succ]
theorem getL_two (x y : Nat) (hx : x < 256) (hy : y < 256) : Go.Proofs.YtdlnmdbonagchaaGreatDoor.getL [UInt8.ofNat x,UInt8.ofNat y] = x + 256 * y:=by
 simp [Go.Proofs.YtdlnmdbonagchaaGreatDoor.getL,getF];omega
theorem mapAll_bits (s d b N : Nat) (hN : N = 1024) (hd : d ≤ 1024) (hs : s < 2 ^ N) : mapAll (bytesOf 128 s) (d : Int) (b : Int) 1024 = true ↔ s % 2 ^ d = 2 ^ d - 1 ∧ s < 2 ^ b:=by
 have hall : mapAll (bytesOf 128 s) (d : Int) (b : Int) 1024 = true ↔ ∀ i,i < 1024 → (i < d → s.testBit i = true) ∧ (b ≤ i → s.testBit i = false):=by
  unfold mapAll;rw [List.all_eq_true];constructor
  ·intro h i hi;have:=h i (List.mem_range.2 hi);unfold mapB at this;rw [bitB_bytesOf s i hi] at this;cases ht : s.testBit i <;> simp [ht] at this ⊢ <;> omega
  ·intro h i hi;have hi:=List.mem_range.1 hi;obtain ⟨h1,h2⟩:=h i hi;unfold mapB;rw [bitB_bytesOf s i hi];cases ht : s.testBit i with
   | true => have : ¬ b ≤ i:=fun hb => (by rw [h2 hb] at ht;cases ht);simp;omega
   | false => have : ¬ i < d:=fun hb => (by rw [h1 hb] at ht;cases ht);simp;omega
 rw [hall];constructor
 ·intro h;refine ⟨?_,?_⟩
  ·apply Nat.eq_of_testBit_eq;intro i;rw [Nat.testBit_mod_two_pow,Nat.testBit_two_pow_sub_one];by_cases hi : i < d
   ·simp [hi,(h i (by omega)).1 hi]
   ·simp [hi]
  ·apply Nat.lt_pow_two_of_testBit;intro i hi;rcases Nat.lt_or_ge i 1024 with h1 | h1
   ·exact (h i h1).2 hi
   ·exact Nat.testBit_lt_two_pow (Nat.lt_of_lt_of_le hs (Nat.pow_le_pow_right (by decide) (hN ▸ h1)))
 ·rintro ⟨h1,h2⟩ i hi;refine ⟨fun hd' => ?_,fun hb => Nat.testBit_lt_two_pow (Nat.lt_of_lt_of_le h2 (Nat.pow_le_pow_right (by decide) hb))⟩;have:=congrArg (fun x => Nat.testBit x i) h1;simp only [Nat.testBit_mod_two_pow,Nat.testBit_two_pow_sub_one,hd',decide_true,Bool.true_and] at this;exact this
theorem natOf_bytesOf : ∀ (l n : Nat),natOf (bytesOf l n) = n % 256 ^ l
 | 0,n => by simp [bytesOf,natOf,Nat.mod_one]
 | l + 1,n => by
  simp only [bytesOf,natOf,natOf_bytesOf l];rw [Nat.pow_succ',Nat.mod_mul];congr 1;simp
theorem bytesOf_inj' {l x y : Nat} (hx : x < 256 ^ l) (hy : y < 256 ^ l) (h : bytesOf l x = bytesOf l y) : x = y:=by
 have:=congrArg natOf h
 rwa [natOf_bytesOf,natOf_bytesOf,Nat.mod_eq_of_lt hx,Nat.mod_eq_of_lt hy] at this
theorem bytesOf_zero : ∀ l,bytesOf l 0 = List.replicate l 0
 | 0 => rfl
 | l + 1 => by
  simp only [bytesOf,Nat.zero_div,bytesOf_zero l,List.replicate_succ];rfl
theorem headL_first (b i : Nat) (hb : b < 65536) (hi : i < 65536) : headL b i = bytesOf 128 (geomFirst b i):=by
 have hg : geomFirst b i = 828533096 + 4294967296 * (b + 65536 * i):=rfl;have e1 : geomFirst b i / 256 ^ 4 = b + 65536 * i:=(by rw [hg];omega);have e2 : (b + 65536 * i) / 256 ^ 2 = i:=(by omega);have e3 : i / 256 ^ 2 = 0:=(by omega);rw [show (128 : Nat) = 4 + (2 + (2 + 120)) from rfl,bytesOf_add 4,bytesOf_add 2,bytesOf_add 2,e1,e2,e3,bytesOf_zero];have f1 : bytesOf 4 (geomFirst b i) = [104,105,98,49]:=(by simp only [bytesOf];have h1 : geomFirst b i % 256 = 104:=(by rw [hg];omega);have h2 : geomFirst b i / 256 % 256 = 105:=(by rw [hg];omega);have h3 : geomFirst b i / 256 / 256 % 256 = 98:=(by rw [hg];omega);have h4 : geomFirst b i / 256 / 256 / 256 % 256 = 49:=(by rw [hg];omega);rw [h1,h2,h3,h4];rfl);have f2 : bytesOf 2 (b + 65536 * i) = Go.Proofs.YtdlnmdbonagchaaGreatDoor.putL b 2:=(by rw [putL_two];simp only [bytesOf];have h1 : (b + 65536 * i) % 256 = b % 256:=(by omega);have h2 : (b + 65536 * i) / 256 % 256 = b / 256 % 256:=(by omega);rw [h1,h2]);have f3 : bytesOf 2 i = Go.Proofs.YtdlnmdbonagchaaGreatDoor.putL i 2:=(by rw [putL_two];rfl);rw [f1,f2,f3];simp [headL]
theorem geomFirst_lt (b i : Nat) (hb : b < 65536) (hi : i < 65536) : geomFirst b i < 256 ^ 128:=by
 have hg : geomFirst b i = 828533096 + 4294967296 * (b + 65536 * i):=rfl;have : geomFirst b i < 256 ^ 8:=(by rw [hg];omega);exact Nat.lt_of_lt_of_le this (Nat.pow_le_pow_right (by decide) (by decide))
theorem pow_flat {s m k : Nat} (h : s < (2 ^ m) ^ k) : s < 2 ^ (m * k):=by rw [Nat.pow_mul];exact h
theorem big128 {s k : Nat} (hk : k = 128) (h : s < 256 ^ k) : ∃ N,N = 1024 ∧ s < 2 ^ N:=⟨8 * k,by omega,pow_flat (m:=8) h⟩
theorem geomB_iff {ss : List Nat} (hlt : ∀ s ∈ ss,s < 256 ^ 128) (h16 : 16 ≤ ss.length) {s0 s2 : Nat} (h0 : ss[0]? = some s0) (h2 : ss[2]? = some s2) :
  inoL (rowsOf ss) = s0 / 281474976710656 % 65536 ∧ (geomB (rowsOf ss) = true ↔ planE (ss.length : Int) ((s0 / 281474976710656 % 65536 : Nat) : Int) = 0 ∧ s0 = geomFirst ss.length (s0 / 281474976710656 % 65536) ∧
   s2 % 2 ^ (3 + (s0 / 281474976710656 % 65536 + 1) / 2) = 2 ^ (3 + (s0 / 281474976710656 % 65536 + 1) / 2) - 1 ∧ s2 < 2 ^ ss.length):=by
 have g0 : (rowsOf ss).getD 0 [] = bytesOf 128 s0:=(by simp [rowsOf,List.getD_eq_getElem?_getD,h0]);have g2 : (rowsOf ss).getD 2 [] = bytesOf 128 s2:=(by simp [rowsOf,List.getD_eq_getElem?_getD,h2]);have hl : (rowsOf ss).length = ss.length:=(by simp [rowsOf]);have hino : inoL (rowsOf ss) = s0 / 281474976710656 % 65536:=(by unfold inoL;rw [g0,two_at s0 6 (by decide),getL_two _ _ (Nat.mod_lt _ (by decide)) (Nat.mod_lt _ (by decide))];omega);refine ⟨hino,?_⟩;generalize hi : s0 / 281474976710656 % 65536 = inn at hino ⊢;have hinn : inn < 65536:=(by omega);have hall : (rowsOf ss).all is128 = true:=(by rw [List.all_eq_true];intro b hb;obtain ⟨s,_,rfl⟩:=List.mem_map.1 hb;simp [is128,bytesOf_length]);have hs0:=hlt s0 (List.mem_of_getElem? h0);have hs2:=hlt s2 (List.mem_of_getElem? h2);obtain ⟨N,hN,hs2'⟩:=big128 rfl hs2;unfold geomB;rw [hall,hl,hino,g0,g2];simp only [Bool.true_and,Bool.and_eq_true,decide_eq_true_eq];constructor
 ·rintro ⟨⟨⟨_,h3⟩,h4⟩,h5⟩;have hp:=planE_zero.1 h3;have h4' : s0 = geomFirst ss.length inn:=bytesOf_inj' hs0 (geomFirst_lt _ _ (by omega) hinn) (h4.trans (headL_first _ _ (by omega) hinn));have h5':=(mapAll_bits s2 (3 + (inn + 1) / 2) ss.length N hN (by omega) hs2').1 (by simpa using h5);exact ⟨h3,h4',h5'⟩
 ·rintro ⟨h3,h4,h5⟩;have hp:=planE_zero.1 h3;refine ⟨⟨⟨h16,h3⟩,?_⟩,?_⟩
  ·rw [headL_first _ _ (by omega) hinn,← h4]
  ·have:=(mapAll_bits s2 (3 + (inn + 1) / 2) ss.length N hN (by omega) hs2').2 h5
   simpa using this
end Go.Proofs.YtdlnmdbonagchaaGreatDoor.Ex
namespace Go.Proofs.YtdlnmdbonagchaaGreatDoor.Ex
open Go.RowKit
theorem ifK_true {c x y : Bool} (h : ifK c x y = true) : (c = true ∧ x = true) ∨ (c = false ∧ y = true):=by
 cases c with
 | true => exact .inl ⟨rfl,h⟩
 | false => exact .inr ⟨rfl,h⟩
theorem nthN_true : ∀ {l : List Nat} {n : Nat} {k : Nat → Bool},nthN l n k = true → ∃ x,l[n]? = some x ∧ k x = true
 | [],_,_,h => by cases h
 | x :: l,0,k,h => ⟨x,by simp,h⟩
 | x :: l,n + 1,k,h => by
  obtain ⟨y,h1,h2⟩:=nthN_true (show nthN l n k = true from h);exact ⟨y,by simpa using h1,h2⟩
def geoOut (v : List (List UInt8)) : Va:=.t [.g ((geomL v).map fun z => .int 3 z),.s (.int 3 (geomE v))]
theorem geomBad_out {v : List (List UInt8)} (hB : geomB v = false) {H : Hp} {k : Va → Hp → Bool} (h : geomBad H k = true) : k (geoOut v) H = true:=by
 have e : geoOut v = .t [.g [.int 3 0,.int 3 0,.int 3 0,.int 3 0,.int 3 0,.int 3 0],.s (.int 3 3)]:=(by unfold geoOut geomL geomE;rw [hB];rfl);rw [e];exact h
theorem geomK_true {n : Nat} {ss : List Nat} (hn : n = ss.length) (h16 : 16 ≤ ss.length) (hlt : ∀ s ∈ ss,s < 256 ^ 128) {H : Hp} {k : Va → Hp → Bool} (h : geomK n ss H k = true) : k (geoOut (rowsOf ss)) H = true:=by
 subst hn;obtain ⟨s0,h0,h1⟩:=nthN_true (show nthN ss 0 _ = true from h);rw [fNat_eq,fNat_eq] at h1;have h2 : ss[2]? = some ss[2]:=(by simp);generalize ss[2] = s2 at h2;obtain ⟨hino,hiff⟩:=geomB_iff hlt h16 h0 h2;generalize hbl : Nat.mod (Nat.div s0 4294967296) 65536 = bl at h1;generalize hinn : Nat.mod (Nat.div s0 281474976710656) 65536 = inn at h1;have hbl : s0 / 4294967296 % 65536 = bl:=hbl;have hinn : s0 / 281474976710656 % 65536 = inn:=hinn;rw [hinn] at hino hiff
 have key : geomB (rowsOf ss) = true → 16 ≤ bl ∧ bl ≤ 223 ∧ 4 ≤ inn ∧ inn ≤ 64 ∧ 3 + (inn + 1) / 2 < bl ∧ bl = ss.length ∧ s0 = geomFirst bl inn ∧ s2 % 2 ^ (3 + (inn + 1) / 2) = 2 ^ (3 + (inn + 1) / 2) - 1 ∧ s2 < 2 ^ bl:=by intro hB;obtain ⟨a1,a2,a3,a4⟩:=hiff.1 hB;have hp:=planE_zero.1 a1;have hbn : bl = ss.length:=(by have hg : geomFirst ss.length inn = 828533096 + 4294967296 * (ss.length + 65536 * inn):=rfl;rw [hg] at a2;omega);refine ⟨by omega,by omega,by omega,by omega,by omega,hbn,by rw [hbn];exact a2,a3,by rw [hbn];exact a4⟩
 have bad : ∀ {c : Bool},(geomB (rowsOf ss) = true → c = true) → c = false → geomBad H k = true → k (geoOut (rowsOf ss)) H = true:=by
  intro c hc he hb;refine geomBad_out ?_ hb;cases hB : geomB (rowsOf ss) with
  | false => rfl
  | true => rw [hc hB] at he;cases he
 rcases ifK_true h1 with ⟨c1,h1⟩ | ⟨c1,h1⟩
 rotate_left
 ·exact bad (fun hB => Nat.ble_eq_true_of_le (key hB).1) c1 h1
 rcases ifK_true (show ifK (Nat.ble bl 223) _ _ = true from h1) with ⟨c2,h1⟩ | ⟨c2,h1⟩
 rotate_left
 ·exact bad (fun hB => Nat.ble_eq_true_of_le (key hB).2.1) c2 h1
 rcases ifK_true h1 with ⟨c3,h1⟩ | ⟨c3,h1⟩
 rotate_left
 ·exact bad (fun hB => Nat.ble_eq_true_of_le (key hB).2.2.1) c3 h1
 rcases ifK_true (show ifK (Nat.ble inn 64) _ _ = true from h1) with ⟨c4,h1⟩ | ⟨c4,h1⟩
 rotate_left
 ·exact bad (fun hB => Nat.ble_eq_true_of_le (key hB).2.2.2.1) c4 h1
 rw [fNat_eq] at h1;rcases ifK_true (show ifK (Nat.blt (3 + (inn + 1) / 2) bl) _ _ = true from h1) with ⟨c5,h1⟩ | ⟨c5,h1⟩
 rotate_left
 ·exact bad (fun hB => Nat.ble_eq_true_of_le (key hB).2.2.2.2.1) c5 h1
 rcases ifK_true (show ifK (Nat.beq bl ss.length) _ _ = true from h1) with ⟨c6,h1⟩ | ⟨c6,h1⟩
 rotate_left
 ·exact bad (fun hB => by rw [(key hB).2.2.2.2.2.1];exact Nat.beq_refl _) c6 h1
 rcases ifK_true (show ifK (Nat.beq s0 (geomFirst bl inn)) _ _ = true from h1) with ⟨c7,h1⟩ | ⟨c7,h1⟩
 rotate_left
 ·exact bad (fun hB => by rw [← (key hB).2.2.2.2.2.2.1];exact Nat.beq_refl _) c7 h1
 obtain ⟨s2',h2',h1⟩:=nthN_true (show nthN ss 2 _ = true from h1);rw [h2] at h2';cases h2';rcases ifK_true (show ifK (Nat.beq (s2 % 2 ^ (3 + (inn + 1) / 2)) (2 ^ (3 + (inn + 1) / 2) - 1)) _ _ = true from h1) with ⟨c8,h1⟩ | ⟨c8,h1⟩
 rotate_left
 ·exact bad (fun hB => by rw [(key hB).2.2.2.2.2.2.2.1];exact Nat.beq_refl _) c8 h1
 rcases ifK_true (show ifK (Nat.blt s2 (2 ^ bl)) _ _ = true from h1) with ⟨c9,h1⟩ | ⟨c9,h1⟩
 rotate_left
 ·exact bad (fun hB => Nat.ble_eq_true_of_le (key hB).2.2.2.2.2.2.2.2) c9 h1
 have b6:=beq_true c6;have b1:=ble_true c1;have b2:=ble_true c2;have b3:=ble_true c3;have b4:=ble_true c4;have b5:=blt_true c5;have hpl : planE (ss.length : Int) (inn : Int) = 0:=planE_zero.2 ⟨by omega,by omega,by omega,by omega,by omega⟩;have hB : geomB (rowsOf ss) = true:=hiff.2 ⟨hpl,by rw [← b6];exact beq_true c7,beq_true c8,by rw [← b6];exact blt_true c9⟩;have e : geoOut (rowsOf ss) = .t [.g [.int 3 (Int.ofNat bl),.int 3 (Int.ofNat inn),.int 3 1,.int 3 2,.int 3 3,.int 3 (Int.ofNat (3 + (inn + 1) / 2))],.s (.int 3 0)]:=(by unfold geoOut geomL geomE;rw [if_pos hB,if_pos hB,hino,show (rowsOf ss).length = ss.length by simp [rowsOf]];unfold planL;rw [if_pos hpl,← b6];simp);rw [e];exact h1
end Go.Proofs.YtdlnmdbonagchaaGreatDoor.Ex
namespace Go.Proofs.YtdlnmdbonagchaaGreatDoor.Ex
open Go.RowKit
theorem blksK_true : ∀ {l : List Sc} {k : Bool → List Nat → Bool},blksK l k = true → ∃ ls : List (Nat × Nat),l = ls.map (fun p => .str p.1 p.2) ∧ (∀ p ∈ ls,p.2 < 256 ^ p.1) ∧ k (ls.all fun p => Nat.beq p.1 128) (ls.map (·.2)) = true
 | [],k,h => ⟨[],rfl,(fun p hp => by cases hp),h⟩
 | x :: l,k,h => by
  cases x with
  | str n s =>
   obtain ⟨h0,h⟩:=andK_true (show andK (Nat.blt s (Nat.pow 256 n)) (blksK l fun b ss => fBool (Bool.rec false b (Nat.beq n 128)) fun b' => k b' (s :: ss)) = true from h);obtain ⟨ls,h1,h1',h2⟩:=blksK_true h;rw [fBool_eq] at h2
   refine ⟨(n,s) :: ls,by rw [h1];rfl,(fun p hp => by
    rcases List.mem_cons.1 hp with rfl | hp
    ·exact blt_true h0
    ·exact h1' p hp),?_⟩
   simp only [List.all_cons,List.map_cons];cases hb : Nat.beq n 128 with
   | true => rw [hb] at h2;simpa using h2
   | false => rw [hb] at h2;simpa using h2
  | _ => cases h
theorem geoV_R (ι : Inj) : ∀ zs : List Int,RL (CR ι) (zs.map fun z => Sc.int 3 z) (geoV zs)
 | [] => trivial
 | _ :: zs => ⟨⟨rfl,rfl⟩,geoV_R ι zs⟩
theorem irGeom_sound : IrSound Go.Proofs.Tryz.prog 97 irGeom:=by
 intro vs H k h;obtain ⟨x,rfl,h1⟩:=arg1_true (show arg1 vs _ = true from h);obtain ⟨b,off,n,esz,cap,rfl,h2⟩:=asSl_true h1;obtain ⟨h3,h4⟩:=andK_true h2;obtain ⟨h5,h6⟩:=andK_true h4;obtain rfl:=beq_true h3;have hn:=ble_true h5;obtain ⟨_,h7⟩:=andK_true (show andK (Nat.ble n n) (H.t.getK b fun o => asCells o fun l _ _ => dropL l off fun l' => takeL l' (Nat.mul n 1) _) = true from h6);obtain ⟨o,ho,h8⟩:=Tr.getK_true h7;obtain ⟨l,fz,et,rfl,h9⟩:=asCells_true h8;obtain ⟨h10,h11⟩:=dropL_true h9;obtain ⟨h12,h13⟩:=takeL_true h11;obtain ⟨ls,h14,hlt,h15⟩:=blksK_true h13;have h14 : (l.drop off).take n = ls.map (fun p => .str p.1 p.2):=(by rw [← h14];show _ = (l.drop off).take (n * 1);rw [Nat.mul_one]);have h12 : n * 1 ≤ (l.drop off).length:=h12;have hlen : ls.length = n:=(by have:=congrArg List.length h14;simp only [List.length_take,List.length_map] at this;omega);have hel : ∀ i p,ls[i]? = some p → l[off + i]? = some (.str p.1 p.2):=(by intro i p hp;have hi : i < n:=(by rw [← hlen];exact (List.getElem?_eq_some_iff.1 hp).1);have:=congrArg (fun z => z[i]?) h14;simp only [List.getElem?_map,hp,Option.map_some] at this;rw [List.getElem?_take,if_pos (by omega),List.getElem?_drop] at this;exact this)
 have out : k (geoOut (ls.map fun p => bytesOf p.1 p.2)) H = true:=by
  rcases ifK_true h15 with ⟨c1,h15⟩ | ⟨c1,h15⟩
  ·have hall : ∀ p ∈ ls,p.1 = 128:=fun p hp => beq_true (List.all_eq_true.1 c1 p hp);have hv : (ls.map fun p => bytesOf p.1 p.2) = rowsOf (ls.map (·.2)):=(by simp only [rowsOf,List.map_map];exact List.map_congr_left fun p hp => (by simp [hall p hp]));rw [hv];rcases ifK_true h15 with ⟨c2,h15⟩ | ⟨c2,h15⟩
   ·refine geomK_true (by simp [hlen]) (by simp [hlen];exact ble_true c2) (fun s hs => ?_) h15;obtain ⟨p,hp,rfl⟩:=List.mem_map.1 hs;have:=hlt p hp
    rwa [hall p hp] at this
   ·refine geomBad_out ?_ h15;have : ¬ 16 ≤ n:=fun e => (by rw [Nat.ble_eq_true_of_le e] at c2;cases c2);have hl : (rowsOf (ls.map (·.2))).length = n:=(by simp [rowsOf,hlen]);unfold geomB;rw [hl,decide_eq_false this];simp
  ·refine geomBad_out ?_ h15;unfold geomB
   have : (ls.map fun p => bytesOf p.1 p.2).all is128 = false:=by
    rw [← Bool.not_eq_true,List.all_eq_true];intro hh
    have : (ls.all fun p => Nat.beq p.1 128) = true:=List.all_eq_true.2 fun p hp => by
     have:=hh _ (List.mem_map.2 ⟨p,hp,rfl⟩);unfold is128 at this;rw [bytesOf_length] at this
     simpa using this
    rw [this] at c1;cases c1
   rw [this];simp
 ·refine ⟨_,H,out,fun ι w args hv hH => ⟨callFunc_enter (by decide +kernel) args w,?_⟩⟩;obtain ⟨v,e1,y,c,hy,rfl,hnc,_,_⟩:=RL1 hv;have e1 : args = #[.slice (some ⟨y.block,y.base + off,none⟩) n c]:=Array.ext' e1;obtain ⟨y',cs,e,f,g1,g2,g3,g4,g5,g6⟩:=hH.obj _ _ ho;rw [hy] at g1;cases g1
  have hS : Strs w w.heap.size (some ⟨y.block,y.base + off,none⟩) (ls.map fun p => bytesOf p.1 p.2):=by
   intro i u hu;simp only [List.getElem?_map,List.map_map] at hu;cases hp : ls[i]? with
   | none => rw [hp] at hu;cases hu
   | some p => rw [hp] at hu;cases hu;refine ⟨_,rfl,hH.lt b y hy,?_⟩;obtain ⟨v,q1,q2⟩:=g5 (off + i) _ (hel i p hp);obtain ⟨s,rfl,hs⟩:=q2.1;rw [Addr.add_lit,cell_at g2,Nat.add_assoc,q1];show some (Value.string s) = some (S (bytesOf p.1 p.2));rw [← hs.1]
  rw [e1,← hlen,← List.length_map (f:=fun p : Nat × Nat => bytesOf p.1 p.2)];refine Calls.mono (geomOf_any w _ c _ hS (by simp [hlen];omega)) fun e' w' he => ?_;obtain ⟨rfl,hB⟩:=he;obtain ⟨r1,r2⟩:=hH.below hB;refine ⟨_,rfl,ι,r2,r1,_,rfl,?_⟩;exact ⟨⟨_,rfl,geoV_R ι _⟩,rfl,trivial⟩
end Go.Proofs.YtdlnmdbonagchaaGreatDoor.Ex
