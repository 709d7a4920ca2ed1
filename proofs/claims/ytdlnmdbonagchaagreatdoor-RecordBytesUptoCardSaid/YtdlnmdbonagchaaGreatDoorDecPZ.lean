import Derived.Test.YtdlnmdbonagchaaGreatDoorRowL
import Derived.Lib.ParseIntBTie
import Derived.Lib.ItoaLen
namespace Go.Proofs.YtdlnmdbonagchaaGreatDoor
open Go.RowKit
def inI (n : Int) : Prop:=-9223372036854775808 ≤ n ∧ n ≤ 9223372036854775807
theorem dd_small {u : Nat} (h : u < 10) : Lib.decDigits u = [UInt8.ofNat (48 + u)]:=by rw [Lib.decDigits,dif_pos h]
theorem dd_big {u : Nat} (h : ¬ u < 10) : Lib.decDigits u = Lib.decDigits (u / 10) ++ [UInt8.ofNat (48 + u % 10)]:=by rw [Lib.decDigits,dif_neg h]
theorem dd_digits (u : Nat) : ∀ c ∈ Lib.decDigits u,48 ≤ c.toNat ∧ c.toNat ≤ 57:=by
 induction u using Nat.strongRecOn with
 | ind u ih =>
  intro c hc;by_cases h : u < 10
  ·rw [dd_small h] at hc;obtain rfl:=List.mem_singleton.1 hc;rw [UInt8.toNat_ofNat'];omega
  ·rw [dd_big h,List.mem_append] at hc;rcases hc with hc | hc
   ·exact ih _ (by omega) c hc
   ·obtain rfl:=List.mem_singleton.1 hc;rw [UInt8.toNat_ofNat'];omega
theorem dd_ne (u : Nat) : Lib.decDigits u ≠ []:=by
 by_cases h : u < 10
 ·rw [dd_small h];simp
 ·rw [dd_big h];simp
theorem nDigits_le (k : Nat) : ∀ u,u < 10 ^ (k + 1) → Lib.nDigits u ≤ k + 1:=by
 induction k with
 | zero => intro u h;rw [Lib.nDigits_small (by simpa using h)];omega
 | succ k ih =>
  intro u h;by_cases hu : u < 10
  ·rw [Lib.nDigits_small hu];omega
  ·rw [Lib.nDigits_big hu];have:=ih (u / 10) (by rw [Nat.pow_succ] at h;omega);omega
theorem itoa_pos (u : Nat) : Lib.itoa (u : Int) = Lib.decDigits u:=by
 unfold Lib.itoa;rw [if_neg (by omega)];simp
theorem itoa_min {u : Nat} (h : 0 < u) : Lib.itoa (-(u : Int)) = 45 :: Lib.decDigits u:=by
 unfold Lib.itoa;rw [if_pos (by omega)];simp
theorem itoa_len {n : Int} (h : inI n) : (Lib.itoa n).length ≤ 20:=by
 unfold inI at h;by_cases hn : n < 0
 ·obtain ⟨u,rfl⟩ : ∃ u : Nat,n = -(u : Int):=⟨n.natAbs,by omega⟩;rw [itoa_min (by omega),List.length_cons,Lib.decDigits_length];have:=nDigits_le 18 u (by omega);omega
 ·obtain ⟨u,rfl⟩ : ∃ u : Nat,n = u:=⟨n.toNat,by omega⟩;rw [itoa_pos,Lib.decDigits_length];have:=nDigits_le 18 u (by omega);omega
def dv (l : List UInt8) : Int:=l.foldl (fun a c => a * 10 + ((c.toNat : Int) - 48)) 0
theorem dv_snoc (l : List UInt8) (c : UInt8) : dv (l ++ [c]) = dv l * 10 + ((c.toNat : Int) - 48):=by simp [dv]
theorem dv_dd (u : Nat) : dv (Lib.decDigits u) = (u : Int):=by
 induction u using Nat.strongRecOn with
 | ind u ih =>
  by_cases h : u < 10
  ·rw [dd_small h];simp only [dv,List.foldl_cons,List.foldl_nil];rw [UInt8.toNat_ofNat'];omega
  ·rw [dd_big h,dv_snoc,ih _ (by omega),UInt8.toNat_ofNat'];omega
theorem pU_snoc (M : Nat) (c : UInt8) : ∀ (l : List UInt8) (acc a : Nat),Lib.parseUintM M acc l = .ok a → Lib.parseUintM M acc (l ++ [c]) = Lib.parseUintM M a [c]
 | [],acc,a,h => by
  simp only [Lib.parseUintM] at h;injection h with h;subst h;rfl
 | d :: l,acc,a,h => by
  rw [Lib.parseUintM] at h;rw [List.cons_append,Lib.parseUintM];split at h
  ·rename_i h1;rw [if_pos h1];split at h
   ·cases h
   ·rename_i h2;rw [if_neg h2];split at h
    ·cases h
    ·rename_i h3;rw [if_neg h3];exact pU_snoc M c l _ a h
  ·cases h
theorem pU_dd (M : Nat) (u : Nat) : u ≤ M → u ≤ 18446744073709551615 → Lib.parseUintM M 0 (Lib.decDigits u) = .ok u:=by
 induction u using Nat.strongRecOn with
 | ind u ih =>
  intro hM h64;by_cases h : u < 10
  ·rw [dd_small h,Lib.parseUintM,UInt8.toNat_ofNat',if_pos (by omega),if_neg (by omega),if_neg (by omega)];simp only [Lib.parseUintM];congr 1;omega
  ·rw [dd_big h,pU_snoc M _ _ 0 _ (ih (u / 10) (by omega) (by omega) (by omega)),Lib.parseUintM,UInt8.toNat_ofNat',if_pos (by omega),if_neg (by omega),if_neg (by omega)];simp only [Lib.parseUintM];congr 1;omega
theorem parse_itoa {n : Int} (h : inI n) : Lib.parseIntB 64 (Lib.itoa n) = .ok n:=by
 unfold inI at h;by_cases hn : n < 0
 ·obtain ⟨u,rfl⟩ : ∃ u : Nat,n = -(u : Int):=⟨n.natAbs,by omega⟩;rw [itoa_min (by omega),Lib.parseIntB_minus,Lib.parseUintB,if_neg (dd_ne _),pU_dd _ _ (by omega) (by omega)];simp only [Lib.signedC];rw [if_neg (by omega)]
 ·obtain ⟨u,rfl⟩ : ∃ u : Nat,n = u:=⟨n.toNat,by omega⟩;rw [itoa_pos];have hp:=pU_dd (2 ^ 64 - 1) u (by omega) (by omega);have hd:=dd_digits u;cases hl : Lib.decDigits u with
  | nil => exact absurd hl (dd_ne u)
  | cons c r => rw [hl] at hp hd;have:=hd c (List.mem_cons_self ..);rw [Lib.parseIntB_plain 64 c r (by omega) (by omega),Lib.parseUintB,if_neg (by simp),hp];simp only [Lib.signlessC];rw [if_neg (by omega)]
def intP (s : List UInt8) : Option Int :=
 match Lib.parseIntB 64 s with
 | .ok v => if Lib.itoa v = s then some v else none
 | _ => none
theorem intP_itoa {n : Int} (h : inI n) : intP (Lib.itoa n) = some n:=by
 unfold intP;rw [parse_itoa h];simp
theorem intP_some {s : List UInt8} {n : Int} (h : intP s = some n) : s = Lib.itoa n ∧ inI n:=by
 unfold intP at h;split at h
 ·rename_i v hv;split at h
  ·rename_i he;injection h with h;subst h;have:=Lib.parseIntB_bounds hv;refine ⟨he.symm,?_⟩;unfold inI;have e : ((2 ^ (64 - 1) : Nat) : Int) = 9223372036854775808:=(by decide);rw [e] at this;omega
  ·cases h
 ·cases h
theorem intP_no {s : List UInt8} (h : ∀ n,inI n → s ≠ Lib.itoa n) : intP s = none:=by
 cases hp : intP s with
 | none => rfl
 | some n => obtain ⟨a,b⟩:=intP_some hp;exact absurd a (h n b)
theorem intP_long {s : List UInt8} (h : 20 < s.length) : intP s = none:=intP_no fun n hn e => by
 have:=itoa_len hn;rw [← e] at this;omega
theorem intP_nil : intP [] = none:=rfl
def pv (s : List UInt8) : Nat → Int
 | 0 => 0
 | i + 1 => if (s.getD 0 0).toNat = 45 then (if i = 0 then 0 else pv s i * 10 - (((s.getD i 0).toNat : Int) - 48)) else pv s i * 10 + (((s.getD i 0).toNat : Int) - 48)
theorem pv_skip {s : List UInt8} (h : (s.getD 0 0).toNat = 45) : pv s 1 = 0:=by rw [pv,if_pos h,if_pos rfl]
theorem pv_neg {s : List UInt8} {i : Nat} (h : (s.getD 0 0).toNat = 45) (hi : i ≠ 0) : pv s (i + 1) = pv s i * 10 - (((s.getD i 0).toNat : Int) - 48):=by rw [pv,if_pos h,if_neg hi]
theorem pv_pos {s : List UInt8} {i : Nat} (h : (s.getD 0 0).toNat ≠ 45) : pv s (i + 1) = pv s i * 10 + (((s.getD i 0).toNat : Int) - 48):=by rw [pv,if_neg h]
theorem pv_plain {s : List UInt8} (h : (s.getD 0 0).toNat ≠ 45) : ∀ i,i ≤ s.length → pv s i = dv (s.take i)
 | 0,_ => rfl
 | i + 1,hi => by
  rw [pv_pos h,pv_plain h i (by omega),List.take_succ_eq_append_getElem (by omega),dv_snoc];simp [List.getD,show i < s.length by omega]
theorem pv_minus (r : List UInt8) : ∀ i,i ≤ r.length → pv (45 :: r) (i + 1) = -(dv (r.take i))
 | 0,_ => by rw [pv_skip rfl];rfl
 | i + 1,hi => by
  rw [pv_neg rfl (by omega),pv_minus r i (by omega),List.take_succ_eq_append_getElem (by omega),dv_snoc];simp [List.getD,show i < r.length by omega];omega
theorem pv_itoa (n : Int) : pv (Lib.itoa n) (Lib.itoa n).length = n:=by
 by_cases hn : n < 0
 ·obtain ⟨u,rfl⟩ : ∃ u : Nat,n = -(u : Int):=⟨n.natAbs,by omega⟩;rw [itoa_min (by omega),List.length_cons,pv_minus _ _ (Nat.le_refl _),List.take_of_length_le (Nat.le_refl _),dv_dd]
 ·obtain ⟨u,rfl⟩ : ∃ u : Nat,n = u:=⟨n.toNat,by omega⟩;rw [itoa_pos,pv_plain ?_ _ (Nat.le_refl _),List.take_of_length_le (Nat.le_refl _),dv_dd];have hd:=dd_digits u;cases hl : Lib.decDigits u with
  | nil => exact absurd hl (dd_ne u)
  | cons c r => rw [hl] at hd;have:=hd c (List.mem_cons_self ..);simp only [List.getD_cons_zero];omega
theorem itoa_digit (n : Int) {i : Nat} (hi : i < (Lib.itoa n).length) (h : ¬ (((Lib.itoa n).getD i 0).toNat = 45 ∧ i = 0)) : 48 ≤ ((Lib.itoa n).getD i 0).toNat ∧ ((Lib.itoa n).getD i 0).toNat ≤ 57:=by
 by_cases hn : n < 0
 ·obtain ⟨u,rfl⟩ : ∃ u : Nat,n = -(u : Int):=⟨n.natAbs,by omega⟩;rw [itoa_min (by omega)] at hi h ⊢;cases i with
  | zero => exact absurd ⟨rfl,rfl⟩ h
  | succ i => rw [List.getD_cons_succ];simp only [List.length_cons] at hi;refine dd_digits u _ ?_;rw [List.getD_eq_getElem?_getD,List.getElem?_eq_getElem (by omega)];exact List.getElem_mem _
 ·obtain ⟨u,rfl⟩ : ∃ u : Nat,n = u:=⟨n.toNat,by omega⟩;rw [itoa_pos] at hi h ⊢;refine dd_digits u _ ?_;rw [List.getD_eq_getElem?_getD,List.getElem?_eq_getElem hi];exact List.getElem_mem _
theorem alike64 {a n : Int} (ha : inI a) (hn : inI n) (h : (a - n) % 18446744073709551616 = 0) : a = n:=by
 unfold inI at ha hn;omega
end Go.Proofs.YtdlnmdbonagchaaGreatDoor
