import Derived.Test.YtdlnmdbonagchaaGreatDoorRowL
import Derived.Test.YtdlnmdbonagchaaGreatDoorMcA
import Derived.Test.YtdlnmdbonagchaaGreatDoorGenA
namespace Go.Proofs.YtdlnmdbonagchaaGreatDoor
open Go.RowKit
theorem lenB_ne (n : Nat) : lenB n ≠ []:=by
 by_cases h : n < 128
 ·rw [lenB_small h];simp
 ·rw [lenB_big h];simp
def lenGo : Nat → Nat → List UInt8 → Except Int (Nat × List UInt8)
 | _,_,[] => .error 4
 | k,n,c :: r =>
  if k = 3 ∧ 128 ≤ c.toNat then .error 3
  else if 128 ≤ c.toNat then lenGo (k + 1) (n + c.toNat % 128 * 128 ^ k) r
  else if c.toNat = 0 ∧ 0 < k then .error 3
  else .ok (n + c.toNat % 128 * 128 ^ k,r)
theorem lenGo_far {k n : Nat} {c : UInt8} {r : List UInt8} (hk : k = 3) (hc : 128 ≤ c.toNat) : lenGo k n (c :: r) = .error 3:=by rw [lenGo,if_pos ⟨hk,hc⟩]
theorem lenGo_on {k n : Nat} {c : UInt8} {r : List UInt8} (hk : k ≠ 3) (hc : 128 ≤ c.toNat) : lenGo k n (c :: r) = lenGo (k + 1) (n + c.toNat % 128 * 128 ^ k) r:=by rw [lenGo,if_neg (fun h => hk h.1),if_pos hc]
theorem lenGo_zero {k n : Nat} {c : UInt8} {r : List UInt8} (hk : 0 < k) (hc : c.toNat = 0) : lenGo k n (c :: r) = .error 3:=by rw [lenGo,if_neg (fun h => by omega),if_neg (by omega),if_pos ⟨hc,hk⟩]
theorem lenGo_end {k n : Nat} {c : UInt8} {r : List UInt8} (hc : c.toNat < 128) (h : c.toNat ≠ 0 ∨ k = 0) : lenGo k n (c :: r) = .ok (n + c.toNat % 128 * 128 ^ k,r):=by rw [lenGo,if_neg (fun h => by omega),if_neg (by omega),if_neg (fun h => by omega)]
theorem lenGo_lt : ∀ (b : List UInt8) (k n m : Nat) (r : List UInt8),lenGo k n b = .ok (m,r) → r.length < b.length
 | [],_,_,_,_,h => by cases h
 | c :: b,k,n,m,r,h => by
  unfold lenGo at h;split at h
  ·cases h
  ·split at h
   ·have:=lenGo_lt b _ _ _ _ h;simp;omega
   ·split at h
    ·cases h
    ·injection h with h;injection h with h1 h2;subst h2;simp
theorem lenGo_lenB (m : Nat) : ∀ (k n : Nat) (x : List UInt8),k ≤ 3 → m < 128 ^ (4 - k) → (k = 0 ∨ 0 < m) → lenGo k n (lenB m ++ x) = .ok (n + m * 128 ^ k,x):=by
 induction m using Nat.strongRecOn with
 | ind m ih =>
  intro k n x hk hm h0;by_cases hs : m < 128
  ·rw [lenB_small hs];have hc : (UInt8.ofNat m).toNat = m:=(by rw [UInt8.toNat_ofNat'];omega);show lenGo k n (UInt8.ofNat m :: x) = _;rw [lenGo_end (by omega) (by omega),hc,Nat.mod_eq_of_lt hs]
  ·rw [lenB_big hs];have hc : (UInt8.ofNat (m % 128 + 128)).toNat = m % 128 + 128:=(by rw [UInt8.toNat_ofNat'];omega);have hk3 : k ≠ 3:=(by rintro rfl;simp at hm;omega);show lenGo k n (UInt8.ofNat (m % 128 + 128) :: (lenB (m / 128) ++ x)) = _;rw [lenGo_on hk3 (by omega),hc,ih (m / 128) (by omega) (k + 1) _ x (by omega) ?_ (.inr (by omega))]
   ·congr 2;rw [show (m % 128 + 128) % 128 = m % 128 by omega,Nat.pow_succ];have:=Nat.div_add_mod m 128;generalize 128 ^ k = p at *
    calc n + m % 128 * p + m / 128 * (p * 128) = n + (128 * (m / 128) + m % 128) * p:=by rw [Nat.add_mul];rw [Nat.mul_comm p 128,← Nat.mul_assoc,Nat.mul_comm (m / 128) 128];omega
     _ = n + m * p:=by rw [this]
   ·rw [Nat.div_lt_iff_lt_mul (by omega)];rw [show 4 - k = (4 - (k + 1)) + 1 by omega,Nat.pow_succ] at hm;exact hm
theorem lenGo_inv : ∀ (b : List UInt8) (k n m : Nat) (r : List UInt8),lenGo k n b = .ok (m,r) → ∃ q,m = n + q * 128 ^ k ∧ b = lenB q ++ r ∧ (0 < k → 0 < q)
 | [],_,_,_,_,h => by cases h
 | c :: b,k,n,m,r,h => by
  have hcl:=c.toNat_lt;unfold lenGo at h;split at h
  ·cases h
  ·split at h
   ·rename_i hc;obtain ⟨q,h1,h2,h3⟩:=lenGo_inv b _ _ _ _ h;have hq:=h3 (by omega);refine ⟨c.toNat % 128 + 128 * q,?_,?_,fun _ => by omega⟩
    ·rw [h1,Nat.pow_succ,Nat.add_mul,Nat.add_assoc];congr 2;rw [Nat.mul_comm (128 ^ k) 128,← Nat.mul_assoc,Nat.mul_comm q 128]
    ·rw [lenB_big (by omega),show (c.toNat % 128 + 128 * q) / 128 = q by omega,show (c.toNat % 128 + 128 * q) % 128 + 128 = c.toNat by omega,h2];simp
   ·split at h
    ·cases h
    ·rename_i hc h0;injection h with h;injection h with h1 h2;subst h2;refine ⟨c.toNat,by rw [← h1,Nat.mod_eq_of_lt (by omega)],?_,fun hk => by omega⟩;rw [lenB_small (by omega)];simp
def textsA (acc : List (List UInt8)) (b : List UInt8) : Except Int (List (List UInt8)) :=
 if b = [] then .ok acc
 else
  match _h : lenGo 0 0 b with
  | .error e => .error e
  | .ok (n,r) => if r.length < n then .error 4 else textsA (acc ++ [r.take n]) (r.drop n)
termination_by b.length
decreasing_by
 have:=lenGo_lt _ _ _ _ _ (by assumption);simp;omega
theorem textsA_nil (acc : List (List UInt8)) : textsA acc [] = .ok acc:=by rw [textsA,if_pos rfl]
theorem textsA_err {acc : List (List UInt8)} {b : List UInt8} {e : Int} (hb : b ≠ []) (h : lenGo 0 0 b = .error e) : textsA acc b = .error e:=by
 rw [textsA,if_neg hb];split
 ·rename_i h2;rw [h] at h2;injection h2 with h2;rw [h2]
 ·rename_i h2;rw [h] at h2;cases h2
theorem textsA_short {acc : List (List UInt8)} {b : List UInt8} {n : Nat} {r : List UInt8} (hb : b ≠ []) (h : lenGo 0 0 b = .ok (n,r)) (hn : r.length < n) : textsA acc b = .error 4:=by
 rw [textsA,if_neg hb];split
 ·rename_i h2;rw [h] at h2;cases h2
 ·rename_i h2;rw [h] at h2;injection h2 with h2;injection h2 with h3 h4;subst h3 h4;rw [if_pos hn]
theorem textsA_go {acc : List (List UInt8)} {b : List UInt8} {n : Nat} {r : List UInt8} (hb : b ≠ []) (h : lenGo 0 0 b = .ok (n,r)) (hn : ¬ r.length < n) : textsA acc b = textsA (acc ++ [r.take n]) (r.drop n):=by
 rw [textsA,if_neg hb];split
 ·rename_i h2;rw [h] at h2;cases h2
 ·rename_i h2;rw [h] at h2;injection h2 with h2;injection h2 with h3 h4;subst h3 h4;rw [if_neg hn]
theorem texts_rowB : ∀ (ls acc : List (List UInt8)),(∀ l ∈ ls,l.length < 268435456) → textsA acc (rowB ls) = .ok (acc ++ ls)
 | [],acc,_ => by rw [rowB_nil,textsA_nil,List.append_nil]
 | l :: ls,acc,h => by
  have hl:=h l (List.mem_cons_self ..);rw [rowB_cons,List.append_assoc];have hg:=lenGo_lenB l.length 0 0 (l ++ rowB ls) (by omega) (by simpa using hl) (.inl rfl);rw [textsA_go (by simp [lenB_ne]) hg (by simp)];rw [show 0 + l.length * 128 ^ 0 = l.length by simp,List.take_left' rfl,List.drop_left' rfl,texts_rowB ls _ (fun x hx => h x (List.mem_cons_of_mem _ hx))];simp
theorem texts_inv : ∀ (N : Nat) (b : List UInt8) (acc ls : List (List UInt8)),b.length ≤ N → textsA acc b = .ok ls → ∃ ms,ls = acc ++ ms ∧ b = rowB ms:=by
 intro N;induction N with
 | zero => intro b acc ls hN h;obtain rfl : b = []:=List.eq_nil_of_length_eq_zero (by omega);rw [textsA_nil] at h;injection h with h;exact ⟨[],by simp [h],rfl⟩
 | succ N ih =>
  intro b acc ls hN h;by_cases hb : b = []
  ·subst hb;rw [textsA_nil] at h;injection h with h;exact ⟨[],by simp [h],rfl⟩
  ·cases hg : lenGo 0 0 b with
   | error e => rw [textsA_err hb hg] at h;cases h
   | ok p =>
    obtain ⟨n,r⟩:=p;by_cases hn : r.length < n
    ·rw [textsA_short hb hg hn] at h;cases h
    ·rw [textsA_go hb hg hn] at h;have hlt:=lenGo_lt _ _ _ _ _ hg;obtain ⟨ms,h1,h2⟩:=ih _ _ _ (by simp;omega) h;obtain ⟨q,h3,h4,_⟩:=lenGo_inv _ _ _ _ _ hg;refine ⟨r.take n :: ms,by rw [h1];simp,?_⟩;rw [rowB_cons,← h2,List.append_assoc,List.take_append_drop,h4];have : n = q:=(by simpa using h3);rw [this,List.length_take,show min q r.length = q by omega]
theorem texts_len {b : List UInt8} {ls : List (List UInt8)} (h : textsA [] b = .ok ls) : b = rowB ls:=by
 obtain ⟨ms,h1,h2⟩:=texts_inv b.length b [] ls (Nat.le_refl _) h;rw [h2,h1];rfl
end Go.Proofs.YtdlnmdbonagchaaGreatDoor
namespace Go.Proofs.YtdlnmdbonagchaaGreatDoor
open Go.RowKit
def lenPost (b : List UInt8) (w : World) (e : Ending) (w' : World) : Prop :=
 (match lenGo 0 0 b with
  | .error x => e = .returned (.tuple #[.int .i64 0,.int .i64 0,.int .i64 x])
  | .ok (n,r) => e = .returned (.tuple #[.int .i64 n,.int .i64 ((b.length - r.length : Nat) : Int),.int .i64 0])) ∧ w = w'
theorem and127_u8 (c : UInt8) : bits .and .u8 (c.toNat : Int) 127 = ((c.toNat % 128 : Nat) : Int):=by
 have h2:=u8_and_nat c.toNat 127 c.toNat_lt (by omega)
 have e : c.toNat &&& 127 = c.toNat % 128:=by
  have:=Nat.and_two_pow_sub_one_eq_mod c.toNat 7
  simpa using this
 rw [e] at h2;exact h2
theorem or_i64 (m x K L : Nat) (hL : 2 ^ K = L) (hm : m < L) (hx : L * x < 1099511627776) (hK : m < 1099511627776) : bits .or .i64 (m : Int) ((L * x : Nat) : Int) = ((m + L * x : Nat) : Int):=by
 subst hL;show IntKind.i64.wrap ((BitVec.ofInt 64 (m : Int) ||| BitVec.ofInt 64 ((2 ^ K * x : Nat) : Int)).toNat : Int) = _;rw [BitVec.toNat_or,ofInt64 m (by omega),ofInt64 _ (by omega),Nat.or_comm,← Nat.two_pow_add_eq_or_of_lt hm,IntKind.wrap_i64];omega
set_option maxRecDepth 100000 in
set_option maxHeartbeats 1000000 in
theorem length_any (w : World) (b : List UInt8) (hb : b.length ≤ 1099511627776) :
  Calls Tryz.prog 58 #[S b] w (lenPost b w):=by
 go_enter Tryz.func58,Tryz.ntmps58;go_wp2_with fail
 go_loop [5,10] (fun n i => ∃ k m : Nat,k ≤ b.length ∧ k ≤ 3 ∧ i = .int .i64 k ∧ n = .int .i64 m ∧ m < 2097152 ∧ Hid (m < 128 ^ k) ∧ Hid (lenGo 0 0 b = lenGo k m (b.drop k))) (fun _ i => b.length - (intOf i).toNat)
 case atStart => exact ⟨0,0,by omega,by omega,rfl,rfl,by omega,jj (by simp),jj rfl⟩
 case round =>
  obtain ⟨k,m,hk,hk3,rfl,rfl,hm,HM,HL⟩:=hrel;by_cases hlt : k < b.length
  ·have hd : decide (k < b.length) = true:=(by simpa using hlt);have HD : Hid (b.drop k = b.getD k 0 :: b.drop (k + 1)):=jj (by rw [List.drop_eq_getElem_cons hlt];simp [List.getD,hlt]);rw [HD.out] at HL;obtain ⟨c,HCC⟩ : ∃ z,Hid (b.getD k 0 = z):=⟨_,jj rfl⟩;rw [HCC.out] at HL;have hcl:=c.toNat_lt;obtain ⟨x,HX⟩ : ∃ z,Hid (c.toNat % 128 = z):=⟨_,jj rfl⟩;have hx : x < 128:=(by rw [← HX.out];omega);have hand : bits .and .u8 (c.toNat : Int) 127 = (x : Int):=(by rw [and127_u8,HX.out]);have hkc : k = 0 ∨ k = 1 ∨ k = 2 ∨ k = 3:=(by omega);clear HD;rcases hkc with rfl | rfl | rfl | rfl
   ·have xi:=run_index_S b .i64 0 0 rfl hlt;rw [HCC.out] at xi;have hmL : m < 1:=Nat.lt_of_lt_of_le HM.out (by decide);have hor : bits .or .i64 (m : Int) (x : Int) = (m : Int) + (x : Int):=(by have h:=or_i64 m x 0 1 (by decide) hmL (by omega) (by omega);rw [show (x : Int) = ((1 * x : Nat) : Int) by omega,h];omega);by_cases hc : 128 ≤ c.toNat
    ·have hc1 : decide ((128 : Int) ≤ (c.toNat : Int)) = true:=(by simp;omega);have HQ : Hid (lenGo 0 0 b = lenGo 1 (m + x) (b.drop 1)):=jj (by rw [HL.out,lenGo_on (by omega) hc,HX.out,Nat.pow_zero,Nat.mul_one]);have hmn : m + x < 128:=(by omega);go_wp2_with fail;refine ⟨⟨1,m + x,by omega,by omega,rfl,by go_num,by omega,jj (Nat.lt_of_lt_of_le hmn (by decide)),HQ⟩,by simp [intOf];omega⟩
    ·have hc1 : decide ((128 : Int) ≤ (c.toNat : Int)) = false:=(by simp;omega);by_cases h0 : c.toNat = 0
     ·have e0 : ((c.toNat : Int) == 0) = true:=(by simp;omega);have HQ : Hid (lenGo 0 0 b = .ok (m + x,b.drop 1)):=jj (by rw [HL.out,lenGo_end (by omega) (.inr rfl),HX.out,Nat.pow_zero,Nat.mul_one]);have HU : Hid ((b.length - (b.drop 1).length : Nat) = 1):=jj (by simp;omega);clear h0;go_wp2_with fail
      go_ret3
      unfold lenPost;rw [HQ.out];exact ⟨by dsimp only;rw [HU.out];exact congrArg (fun z : Int => Ending.returned (.tuple #[.int .i64 z,.int .i64 1,.int .i64 0])) (by omega),rfl⟩
     ·have e0 : ((c.toNat : Int) == 0) = false:=(by simp;omega);have HQ : Hid (lenGo 0 0 b = .ok (m + x,b.drop 1)):=jj (by rw [HL.out,lenGo_end (by omega) (.inl h0),HX.out,Nat.pow_zero,Nat.mul_one]);have HU : Hid ((b.length - (b.drop 1).length : Nat) = 1):=jj (by simp;omega);go_wp2_with fail
      go_ret3
      unfold lenPost;rw [HQ.out];exact ⟨by dsimp only;rw [HU.out];exact congrArg (fun z : Int => Ending.returned (.tuple #[.int .i64 z,.int .i64 1,.int .i64 0])) (by omega),rfl⟩
   ·have xi:=run_index_S b .i64 1 1 rfl hlt;rw [HCC.out] at xi;have hmL : m < 128:=Nat.lt_of_lt_of_le HM.out (by decide);have hor : bits .or .i64 (m : Int) ((x : Int) * 128) = (m : Int) + 128 * (x : Int):=(by have h:=or_i64 m x 7 128 (by decide) hmL (by omega) (by omega);rw [show ((x : Int) * 128) = ((128 * x : Nat) : Int) by omega,h];omega);by_cases hc : 128 ≤ c.toNat
    ·have hc1 : decide ((128 : Int) ≤ (c.toNat : Int)) = true:=(by simp;omega);have HQ : Hid (lenGo 0 0 b = lenGo 2 (m + 128 * x) (b.drop 2)):=jj (by rw [HL.out,lenGo_on (by omega) hc,HX.out,Nat.mul_comm x]);have hmn : m + 128 * x < 16384:=(by omega);go_wp2_with fail;refine ⟨⟨2,m + 128 * x,by omega,by omega,rfl,by go_num,by omega,jj (Nat.lt_of_lt_of_le hmn (by decide)),HQ⟩,by simp [intOf];omega⟩
    ·have hc1 : decide ((128 : Int) ≤ (c.toNat : Int)) = false:=(by simp;omega);by_cases h0 : c.toNat = 0
     ·have e0 : ((c.toNat : Int) == 0) = true:=(by simp;omega);have HQ : Hid (lenGo 0 0 b = .error 3):=jj (by rw [HL.out];exact lenGo_zero (by omega) h0);clear h0;go_wp2_with fail
      go_ret3
      unfold lenPost;rw [HQ.out];exact ⟨rfl,rfl⟩
     ·have e0 : ((c.toNat : Int) == 0) = false:=(by simp;omega);have HQ : Hid (lenGo 0 0 b = .ok (m + 128 * x,b.drop 2)):=jj (by rw [HL.out,lenGo_end (by omega) (.inl h0),HX.out,Nat.mul_comm x]);have HU : Hid ((b.length - (b.drop 2).length : Nat) = 2):=jj (by simp;omega);go_wp2_with fail
      go_ret3
      unfold lenPost;rw [HQ.out];exact ⟨by dsimp only;rw [HU.out];exact congrArg (fun z : Int => Ending.returned (.tuple #[.int .i64 z,.int .i64 2,.int .i64 0])) (by omega),rfl⟩
   ·have xi:=run_index_S b .i64 2 2 rfl hlt;rw [HCC.out] at xi;have hmL : m < 16384:=Nat.lt_of_lt_of_le HM.out (by decide);have hor : bits .or .i64 (m : Int) ((x : Int) * 16384) = (m : Int) + 16384 * (x : Int):=(by have h:=or_i64 m x 14 16384 (by decide) hmL (by omega) (by omega);rw [show ((x : Int) * 16384) = ((16384 * x : Nat) : Int) by omega,h];omega);by_cases hc : 128 ≤ c.toNat
    ·have hc1 : decide ((128 : Int) ≤ (c.toNat : Int)) = true:=(by simp;omega);have HQ : Hid (lenGo 0 0 b = lenGo 3 (m + 16384 * x) (b.drop 3)):=jj (by rw [HL.out,lenGo_on (by omega) hc,HX.out,Nat.mul_comm x]);have hmn : m + 16384 * x < 2097152:=(by omega);go_wp2_with fail;refine ⟨⟨3,m + 16384 * x,by omega,by omega,rfl,by go_num,by omega,jj (Nat.lt_of_lt_of_le hmn (by decide)),HQ⟩,by simp [intOf];omega⟩
    ·have hc1 : decide ((128 : Int) ≤ (c.toNat : Int)) = false:=(by simp;omega);by_cases h0 : c.toNat = 0
     ·have e0 : ((c.toNat : Int) == 0) = true:=(by simp;omega);have HQ : Hid (lenGo 0 0 b = .error 3):=jj (by rw [HL.out];exact lenGo_zero (by omega) h0);clear h0;go_wp2_with fail
      go_ret3
      unfold lenPost;rw [HQ.out];exact ⟨rfl,rfl⟩
     ·have e0 : ((c.toNat : Int) == 0) = false:=(by simp;omega);have HQ : Hid (lenGo 0 0 b = .ok (m + 16384 * x,b.drop 3)):=jj (by rw [HL.out,lenGo_end (by omega) (.inl h0),HX.out,Nat.mul_comm x]);have HU : Hid ((b.length - (b.drop 3).length : Nat) = 3):=jj (by simp;omega);go_wp2_with fail
      go_ret3
      unfold lenPost;rw [HQ.out];exact ⟨by dsimp only;rw [HU.out];exact congrArg (fun z : Int => Ending.returned (.tuple #[.int .i64 z,.int .i64 3,.int .i64 0])) (by omega),rfl⟩
   ·have xi:=run_index_S b .i64 3 3 rfl hlt;rw [HCC.out] at xi;have hmL : m < 2097152:=Nat.lt_of_lt_of_le HM.out (by decide);have hor : bits .or .i64 (m : Int) ((x : Int) * 2097152) = (m : Int) + 2097152 * (x : Int):=(by have h:=or_i64 m x 21 2097152 (by decide) hmL (by omega) (by omega);rw [show ((x : Int) * 2097152) = ((2097152 * x : Nat) : Int) by omega,h];omega);by_cases hc : 128 ≤ c.toNat
    ·have hc1 : decide ((128 : Int) ≤ (c.toNat : Int)) = true:=(by simp;omega);have HQ : Hid (lenGo 0 0 b = .error 3):=jj (by rw [HL.out];exact lenGo_far rfl hc);clear hor;go_wp2_with fail
     go_ret3
     unfold lenPost;rw [HQ.out];exact ⟨rfl,rfl⟩
    ·have hc1 : decide ((128 : Int) ≤ (c.toNat : Int)) = false:=(by simp;omega);by_cases h0 : c.toNat = 0
     ·have e0 : ((c.toNat : Int) == 0) = true:=(by simp;omega);have HQ : Hid (lenGo 0 0 b = .error 3):=jj (by rw [HL.out];exact lenGo_zero (by omega) h0);clear h0;go_wp2_with fail
      go_ret3
      unfold lenPost;rw [HQ.out];exact ⟨rfl,rfl⟩
     ·have e0 : ((c.toNat : Int) == 0) = false:=(by simp;omega);have HQ : Hid (lenGo 0 0 b = .ok (m + 2097152 * x,b.drop 4)):=jj (by rw [HL.out,lenGo_end (by omega) (.inl h0),HX.out,Nat.mul_comm x]);have HU : Hid ((b.length - (b.drop 4).length : Nat) = 4):=jj (by simp;omega);go_wp2_with fail
      go_ret3
      unfold lenPost;rw [HQ.out];exact ⟨by dsimp only;rw [HU.out];exact congrArg (fun z : Int => Ending.returned (.tuple #[.int .i64 z,.int .i64 4,.int .i64 0])) (by omega),rfl⟩
  ·obtain rfl : k = b.length:=(by omega);have hd : decide (b.length < b.length) = false:=(by simp);have HQ : Hid (lenGo 0 0 b = .error 4):=jj (by rw [HL.out,List.drop_eq_nil_of_le (Nat.le_refl _)];rfl);go_wp2_with fail
   go_ret3
   unfold lenPost;rw [HQ.out];exact ⟨rfl,rfl⟩
end Go.Proofs.YtdlnmdbonagchaaGreatDoor
namespace Go.Proofs.YtdlnmdbonagchaaGreatDoor
open Go.RowKit
def strLenT : Value → Nat
 | .string s => s.size
 | _ => 0
theorem strLenT_S (l : List UInt8) : strLenT (S l) = l.length:=by simp [strLenT,ByteArray.size]
theorem lenGo_err : ∀ (b : List UInt8) (k n : Nat) (x : Int),lenGo k n b = .error x → x = 3 ∨ x = 4
 | [],_,_,_,h => by injection h with h;exact .inr h.symm
 | c :: b,k,n,x,h => by
  unfold lenGo at h;split at h
  ·injection h with h;exact .inl h.symm
  ·split at h
   ·exact lenGo_err b _ _ _ h
   ·split at h
    ·injection h with h;exact .inl h.symm
    ·cases h
theorem lenGo_suf : ∀ (b : List UInt8) (k n m : Nat) (r : List UInt8),lenGo k n b = .ok (m,r) → b.drop (b.length - r.length) = r
 | [],_,_,_,_,h => by cases h
 | c :: b,k,n,m,r,h => by
  have hlt:=lenGo_lt _ _ _ _ _ h;unfold lenGo at h;split at h
  ·cases h
  ·split at h
   ·have h2:=lenGo_suf b _ _ _ _ h;have h3:=lenGo_lt _ _ _ _ _ h;rw [List.length_cons,show b.length + 1 - r.length = (b.length - r.length) + 1 by omega,List.drop_succ_cons];exact h2
   ·split at h
    ·cases h
    ·injection h with h;injection h with h1 h2;subst h2;simp
theorem textsA_err' : ∀ (N : Nat) (b : List UInt8) (acc : List (List UInt8)) (x : Int),b.length ≤ N → textsA acc b = .error x → x = 3 ∨ x = 4:=by
 intro N;induction N with
 | zero => intro b acc x hN h;obtain rfl : b = []:=List.eq_nil_of_length_eq_zero (by omega);rw [textsA_nil] at h;cases h
 | succ N ih =>
  intro b acc x hN h;by_cases hb : b = []
  ·subst hb;rw [textsA_nil] at h;cases h
  ·cases hg : lenGo 0 0 b with
   | error e => rw [textsA_err hb hg] at h;injection h with h;subst h;exact lenGo_err _ _ _ _ hg
   | ok p =>
    obtain ⟨n,r⟩:=p;by_cases hn : r.length < n
    ·rw [textsA_short hb hg hn] at h;injection h with h;exact .inr h.symm
    ·rw [textsA_go hb hg hn] at h;have hlt:=lenGo_lt _ _ _ _ _ hg;exact ih _ _ _ (by simp;omega) h
def TextsPost (b : List UInt8) (w : World) (e : Ending) (w' : World) : Prop :=
 (match textsA [] b with
  | .error x => e = .returned (.tuple #[.slice none 0 0,.int .i64 x])
  | .ok ls => ∃ v,e = .returned (.tuple #[v,.int .i64 0]) ∧ OwnS w' w.heap.size v ls) ∧ Below w.heap.size w w'
set_option maxRecDepth 100000 in
set_option maxHeartbeats 2000000 in
theorem texts_any (w : World) (b : List UInt8) (hb : b.length ≤ 1099511627776) :
  Calls Tryz.prog 25 #[S b] w (TextsPost b w):=by
 obtain ⟨i0,hi0,hz0,hz1,hz2⟩:=info_parts Tryz.infoStr';go_enter Tryz.func25,Tryz.ntmps25;go_wp2_with fail
 go_loopw [0,4] (fun s v wr => ∃ (cur : List UInt8) (acc : List (List UInt8)),s = S cur ∧ acc.length + cur.length ≤ b.length ∧ Hid (textsA [] b = textsA acc cur) ∧ Hid (OwnS wr w.heap.size v acc) ∧ Hid (Below w.heap.size w wr)) (fun s _ _ => strLenT s)
 case atStart => exact ⟨b,[],rfl,by simp,jj rfl,jj (World.ownsRow_nil _ _ _ _),jj (Below.refl _ _)⟩
 case round =>
  obtain ⟨cur,acc,rfl,hle,HT,HO,HB⟩:=hrel;by_cases hne : cur = []
  ·subst hne;rw [textsA_nil] at HT;have hd : decide ((0 : Int) < (([] : List UInt8).length : Int)) = false:=(by simp);go_wp2_with fail;go_ret2;unfold TextsPost;rw [HT.out];exact ⟨⟨_,rfl,HO.out⟩,HB.out⟩
  ·have hpos : 0 < cur.length:=List.length_pos_iff.2 hne;have hd : decide ((0 : Int) < (cur.length : Int)) = true:=(by simp;omega);have hd' : decide (0 < cur.length) = true:=(by simp;omega);have HNE:=jj hne;clear hne;go_wp2_with fail;refine (length_any wr cur (by omega)).mono ?_;rintro e w1 ⟨he,rfl⟩;cases hg : lenGo 0 0 cur with
   | error x =>
    rw [hg] at he;dsimp only at he;subst he;have HQ : Hid (textsA [] b = .error x):=jj (by rw [HT.out,textsA_err HNE.out hg]);have hx:=lenGo_err _ _ _ _ hg;have hx0 : (x != 0) = true:=by rcases hx with rfl | rfl <;> rfl
    clear hg hx;go_wp2_with fail;go_ret2;unfold TextsPost;rw [HQ.out];exact ⟨rfl,HB.out⟩
   | ok p =>
    obtain ⟨n,r⟩:=p;rw [hg] at he;dsimp only at he;subst he;have hlt:=lenGo_lt _ _ _ _ _ hg;have hsf:=run_from_S cur .i64 ((cur.length - r.length : Nat) : Int) (cur.length - r.length) rfl (by omega);rw [lenGo_suf _ _ _ _ _ hg] at hsf;have HG:=jj hg;clear hg;obtain ⟨u,HU⟩ : ∃ z,Hid (cur.length - r.length = z):=⟨_,jj rfl⟩;rw [HU.out] at hsf;rw [HU.out];by_cases hn : r.length < n
    ·have hd2 : decide ((r.length : Int) < (n : Int)) = true:=(by simp;omega);have hd2' : decide (r.length < n) = true:=(by simp;omega);have HQ : Hid (textsA [] b = .error 4):=jj (by rw [HT.out,textsA_short HNE.out HG.out hn]);go_wp2_with fail;go_ret2;unfold TextsPost;rw [HQ.out];exact ⟨rfl,HB.out⟩
    ·have hd2 : decide ((r.length : Int) < (n : Int)) = false:=(by simp;omega);have hd2' : decide (r.length < n) = false:=(by simp;omega);have HQ : Hid (textsA [] b = textsA (acc ++ [r.take n]) (r.drop n)):=jj (by rw [HT.out,textsA_go HNE.out HG.out hn]);have ht:=run_to_S r .i64 (n : Int) n rfl (by omega);have hf:=run_from_S r .i64 (n : Int) n rfl (by omega);have hdl : (r.drop n).length ≤ r.length:=(by simp);generalize r.take n = y at *;generalize r.drop n = z at *
     have HNW : Hid (∀ i u,[S y][i]? = some u → (wr.alloc (.cells #[S y] 9)).cell? ((⟨wr.heap.size,0,none⟩ : Addr).add i) = some u):=jj (fun i u hu => by
      obtain ⟨ad',e',_,hc'⟩:=lies_made wr 9 [S y] (wr.heap.size + 1) (by omega) i u hu;injection e' with e';subst e';exact hc')
     have H1 : Hid (∀ u ∈ [S y],u.oneCell' = true):=jj (by simp [Value.oneCell']);have H63 : Hid (acc.length + 1 ≤ maxLen):=jj (by unfold maxLen;omega);have HBY : Hid ((acc.length + 1) * 16 ≤ 140737488355328):=jj (by omega);have HBA : Hid (w.heap.size ≤ (wr.alloc (.cells #[S y] 9)).heap.size):=jj (by have:=HB.out.size;simp;omega);have HOA:=jj (HO.out.alloc (.cells #[S y] 9));go_wp2_with (at_builtin;refine wpList_append_own _ rfl (.tmp 27) (.tmp 31) 38 rfl w.heap.size 9 i0 _ 1 16 Tryz.underlying38 hi0 hz0 hz1 hz2 rfl (by decide) _ _ _ rfl HOA.out ⟨wr.heap.size,0,none⟩ 1 1 [S y] rfl rfl HNW.out H1.out H63.out HBY.out HBA.out ?_;intro v' w4 hown' hgrow _);have HO4 : Hid (OwnS w4 w.heap.size v' (acc ++ [y])):=jj (by have:=hown';rw [show (acc.map S ++ [S y]) = (acc ++ [y]).map S by simp] at this;unfold OwnS;rw [List.length_append];exact this);have HB4 : Hid (Below w.heap.size w w4):=jj ((HB.out.alloc HB.out.size _).grown hgrow HBA.out (own_ge HOA.out));have hm : strLenT (S z) < strLenT (S cur):=(by rw [strLenT_S,strLenT_S];omega);exact ⟨⟨z,acc ++ [y],rfl,by simp;omega,HQ,HO4,HB4⟩,hm⟩
end Go.Proofs.YtdlnmdbonagchaaGreatDoor
namespace Go.Proofs.YtdlnmdbonagchaaGreatDoor
open Go.RowKit
set_option maxRecDepth 100000 in
set_option maxHeartbeats 2000000 in
theorem rtexts_any (w : World) (b : List UInt8) (hb : b.length ≤ 1099511627776) :
  Calls Tryz.prog 31 #[S b] w (TextsPost b w):=by
 obtain ⟨i0,hi0,hz0,hz1,hz2⟩:=info_parts Tryz.infoStr';go_enter Tryz.func31,Tryz.ntmps31;go_wp2_with fail
 go_loopw [4,5] (fun v s wr => ∃ (p : Nat) (acc : List (List UInt8)),p ≤ b.length ∧ s = .int .i64 p ∧ acc.length ≤ p ∧ Hid (textsA [] b = textsA acc (b.drop p)) ∧ Hid (OwnS wr w.heap.size v acc) ∧ Hid (Below w.heap.size w wr)) (fun _ s _ => b.length - (intOf s).toNat)
 case atStart => exact ⟨0,[],by omega,rfl,by simp,jj rfl,jj (World.ownsRow_lit w #[] 0 (Nat.le_refl _) (by unfold maxLen;omega) rfl),jj ((Below.refl _ _).alloc (Nat.le_refl _) _)⟩
 case round =>
  obtain ⟨p,acc,hp,rfl,hle,HT,HO,HB⟩:=hrel;by_cases hlt : p < b.length
  ·have hd : decide ((p : Int) < (b.length : Int)) = true:=(by simp;omega);have hd' : decide (p < b.length) = true:=(by simp;omega);have HNE : Hid (b.drop p ≠ []):=jj (by intro h;have:=congrArg List.length h;simp at this;omega);go_wp2_with fail;clear hd hd'
   go_loop [5,6,7,8] (fun s n u i => ∃ q m v k : Nat,q ≤ b.length ∧ s = .int .i64 q ∧ n = .int .i64 m ∧ u = .int .i64 v ∧ i = .int .i64 k ∧ k ≤ 3 ∧ v ≤ 2097152 ∧ m < v ∧ p ≤ q ∧ Hid (v = 128 ^ k) ∧ Hid (lenGo 0 0 (b.drop p) = lenGo k m (b.drop q))) (fun s _ _ _ => b.length - (intOf s).toNat)
   case atStart => exact ⟨p,0,1,0,by omega,rfl,rfl,rfl,rfl,by omega,by omega,by omega,by omega,jj rfl,jj rfl⟩
   case round =>
    obtain ⟨q,m,v,k,hq,rfl,rfl,rfl,rfl,hk,hv,hm,hpq,HV,HL⟩:=hrel;by_cases hend : q = b.length
    ·subst hend;have e1 : ((b.length : Int) == (b.length : Int)) = true:=(by simp);have HQ : Hid (textsA [] b = .error 4):=jj (by rw [HT.out];exact textsA_err HNE.out (by rw [HL.out,List.drop_eq_nil_of_le (Nat.le_refl _)];rfl));go_wp2_with fail;go_ret2;unfold TextsPost;rw [HQ.out];exact ⟨rfl,HB.out⟩
    ·have hql : q < b.length:=(by omega);have e1 : ((q : Int) == (b.length : Int)) = false:=(by simp;omega);have xi:=run_index_S b .i64 (q : Int) q rfl hql;have HD : Hid (b.drop q = b.getD q 0 :: b.drop (q + 1)):=jj (by rw [List.drop_eq_getElem_cons hql];simp [List.getD,hql]);rw [HD.out] at HL;generalize b.getD q 0 = c at *;have hcl:=c.toNat_lt;obtain ⟨x,HX⟩ : ∃ z,Hid (c.toNat % 128 = z):=⟨_,jj rfl⟩;have hx : x < 128:=(by rw [← HX.out];omega);have hxe : ((c.toNat : Int) % 128) = (x : Int):=(by rw [← HX.out];omega)
     have hpr : (x : Int) * (v : Int) ≤ 268435456:=by
      have h1 : x * v ≤ 127 * 2097152:=Nat.mul_le_mul (by omega) hv;have h2 : ((x * v : Nat) : Int) ≤ 268435456:=(by omega)
      rwa [Int.natCast_mul] at h2
     have hpr0 : 0 ≤ (x : Int) * (v : Int):=Int.mul_nonneg (by omega) (by omega);clear hend HD;by_cases hc : 128 ≤ c.toNat
     ·have hc1 : decide ((c.toNat : Int) < 128) = false:=(by simp;omega);by_cases h3 : k = 3
      ·subst h3;have HQ : Hid (textsA [] b = .error 3):=jj (by rw [HT.out];exact textsA_err HNE.out (by rw [HL.out];exact lenGo_far rfl hc));go_wp2_with fail;go_ret2;unfold TextsPost;rw [HQ.out];exact ⟨rfl,HB.out⟩
      ·have e3 : ((k : Int) == 3) = false:=(by simp;omega);have HQ : Hid (lenGo 0 0 (b.drop p) = lenGo (k + 1) (m + x * v) (b.drop (q + 1))):=jj (by rw [HL.out,lenGo_on h3 hc,HX.out,HV.out]);have HV2 : Hid (v * 128 = 128 ^ (k + 1)):=jj (by rw [HV.out,Nat.pow_succ]);have hv2 : v * 128 ≤ 2097152:=(by rw [HV2.out];exact Nat.le_trans (Nat.pow_le_pow_right (by omega) (show k + 1 ≤ 3 by omega)) (by decide));have hm2 : m + x * v < v * 128:=(by have h1 : x * v ≤ 127 * v:=Nat.mul_le_mul_right v (by omega);omega);have hce : ((m + x * v : Nat) : Int) = (m : Int) + (x : Int) * (v : Int):=(by rw [Int.natCast_add,Int.natCast_mul]);have HCE:=jj hce;clear hce;go_wp2_with fail;exact ⟨⟨q + 1,m + x * v,v * 128,k + 1,by omega,by go_num,by rw [HCE.out],by go_num,by go_num,by omega,hv2,hm2,by omega,HV2,HQ⟩,by simp [intOf];omega⟩
     ·have hc1 : decide ((c.toNat : Int) < 128) = true:=(by simp;omega);have HXC : Hid (x = c.toNat):=jj (by rw [← HX.out];omega);by_cases hbad : c.toNat = 0 ∧ 0 < k
      ·have HQ : Hid (textsA [] b = .error 3):=jj (by rw [HT.out];exact textsA_err HNE.out (by rw [HL.out];exact lenGo_zero hbad.2 hbad.1));have e0 : ((c.toNat : Int) == 0) = true:=(by simp;omega);have ek : decide ((0 : Int) < (k : Int)) = true:=(by simp;omega);have ek' : decide (0 < k) = true:=(by simp;omega);clear hbad;go_wp2_with fail;go_ret2;unfold TextsPost;rw [HQ.out];exact ⟨rfl,HB.out⟩
      ·have HG : Hid (lenGo 0 0 (b.drop p) = .ok (m + x * v,b.drop (q + 1))):=jj (by rw [HL.out,lenGo_end (by omega) (by omega),HX.out,HV.out]);have hrl : (b.drop (q + 1)).length = b.length - (q + 1):=(by simp);have HRL:=jj hrl;clear hrl;have hce : ((m + x * v : Nat) : Int) = (m : Int) + (x : Int) * (v : Int):=(by rw [Int.natCast_add,Int.natCast_mul]);obtain ⟨N,HN⟩ : ∃ z,Hid (m + x * v = z):=⟨_,jj rfl⟩;rw [HN.out] at HG hce;have hce2 : (m : Int) + (x : Int) * (v : Int) = (N : Int):=hce.symm;have hN : N ≤ 536870912:=(by omega);clear hce;by_cases hn : b.length - (q + 1) < N
       ·have HQ : Hid (textsA [] b = .error 4):=jj (by rw [HT.out];exact textsA_short HNE.out HG.out (by rw [HRL.out];exact hn));have e5 : decide ((b.length : Int) - ((q : Int) + 1) < (N : Int)) = true:=(by simp;omega);by_cases h0 : c.toNat = 0
        ·have e0 : ((c.toNat : Int) == 0) = true:=(by simp;omega);have ek : decide ((0 : Int) < (k : Int)) = false:=(by simp;omega);have ek' : decide (0 < k) = false:=(by simp;omega);clear h0 hbad;go_wp2_with fail;go_ret2;unfold TextsPost;rw [HQ.out];exact ⟨rfl,HB.out⟩
        ·have e0 : ((c.toNat : Int) == 0) = false:=(by simp;omega);clear h0 hbad;go_wp2_with fail;go_ret2;unfold TextsPost;rw [HQ.out];exact ⟨rfl,HB.out⟩
       ·have HQ : Hid (textsA [] b = textsA (acc ++ [(b.drop (q + 1)).take N]) ((b.drop (q + 1)).drop N)):=jj (by rw [HT.out];exact textsA_go HNE.out HG.out (by rw [HRL.out];exact hn));rw [List.drop_drop] at HQ;have e5 : decide ((b.length : Int) - ((q : Int) + 1) < (N : Int)) = false:=(by simp;omega);have hcut:=run_cut_S b .i64 .i64 ((q : Int) + 1) ((q : Int) + 1 + (N : Int)) (q + 1) (q + 1 + N) (by omega) (by omega) (by omega) (by omega);rw [show q + 1 + N - (q + 1) = N by omega] at hcut;generalize (b.drop (q + 1)).take N = y at *
        have HNW : Hid (∀ i u,[S y][i]? = some u → (wr.alloc (.cells #[S y] 9)).cell? ((⟨wr.heap.size,0,none⟩ : Addr).add i) = some u):=jj (fun i u hu => by
         obtain ⟨ad',e',_,hc'⟩:=lies_made wr 9 [S y] (wr.heap.size + 1) (by omega) i u hu;injection e' with e';subst e';exact hc')
        have H1 : Hid (∀ u ∈ [S y],u.oneCell' = true):=jj (by simp [Value.oneCell']);have H63 : Hid (acc.length + 1 ≤ maxLen):=jj (by unfold maxLen;omega);have HBY : Hid ((acc.length + 1) * 16 ≤ 140737488355328):=jj (by omega);have HBA : Hid (w.heap.size ≤ (wr.alloc (.cells #[S y] 9)).heap.size):=jj (by have:=HB.out.size;simp;omega);have HOA:=jj (HO.out.alloc (.cells #[S y] 9));by_cases h0 : c.toNat = 0
        ·have e0 : ((c.toNat : Int) == 0) = true:=(by simp;omega);have ek : decide ((0 : Int) < (k : Int)) = false:=(by simp;omega);have ek' : decide (0 < k) = false:=(by simp;omega);clear h0 hbad;go_wp2_with (at_builtin;refine wpList_append_own _ rfl (.tmp 51) (.tmp 58) 38 rfl w.heap.size 9 i0 _ 1 16 Tryz.underlying38 hi0 hz0 hz1 hz2 rfl (by decide) _ _ _ rfl HOA.out ⟨wr.heap.size,0,none⟩ 1 1 [S y] rfl rfl HNW.out H1.out H63.out HBY.out HBA.out ?_;intro v' w4 hown' hgrow _);have HO4 : Hid (OwnS w4 w.heap.size v' (acc ++ [y])):=jj (by have:=hown';rw [show (acc.map S ++ [S y]) = (acc ++ [y]).map S by simp] at this;unfold OwnS;rw [List.length_append];exact this);have HB4 : Hid (Below w.heap.size w w4):=jj ((HB.out.alloc HB.out.size _).grown hgrow HBA.out (own_ge HOA.out));exact ⟨⟨q + 1 + N,acc ++ [y],by omega,by go_num,by simp;omega,HQ,HO4,HB4⟩,by simp [intOf];omega⟩
        ·have e0 : ((c.toNat : Int) == 0) = false:=(by simp;omega);clear h0 hbad;go_wp2_with (at_builtin;refine wpList_append_own _ rfl (.tmp 51) (.tmp 58) 38 rfl w.heap.size 9 i0 _ 1 16 Tryz.underlying38 hi0 hz0 hz1 hz2 rfl (by decide) _ _ _ rfl HOA.out ⟨wr.heap.size,0,none⟩ 1 1 [S y] rfl rfl HNW.out H1.out H63.out HBY.out HBA.out ?_;intro v' w4 hown' hgrow _);have HO4 : Hid (OwnS w4 w.heap.size v' (acc ++ [y])):=jj (by have:=hown';rw [show (acc.map S ++ [S y]) = (acc ++ [y]).map S by simp] at this;unfold OwnS;rw [List.length_append];exact this);have HB4 : Hid (Below w.heap.size w w4):=jj ((HB.out.alloc HB.out.size _).grown hgrow HBA.out (own_ge HOA.out));exact ⟨⟨q + 1 + N,acc ++ [y],by omega,by go_num,by simp;omega,HQ,HO4,HB4⟩,by simp [intOf];omega⟩
  ·obtain rfl : p = b.length:=(by omega);have hd : decide (b.length < b.length) = false:=(by simp);rw [List.drop_eq_nil_of_le (Nat.le_refl _),textsA_nil] at HT;go_wp2_with fail;go_ret2;unfold TextsPost;rw [HT.out];exact ⟨⟨_,rfl,HO.out⟩,HB.out⟩
end Go.Proofs.YtdlnmdbonagchaaGreatDoor
