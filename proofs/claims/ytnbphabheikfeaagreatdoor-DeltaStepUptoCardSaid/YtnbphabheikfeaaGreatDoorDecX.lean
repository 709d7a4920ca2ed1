import Derived.Test.YtnbphabheikfeaaGreatDoorRowL
import Derived.Lib.ParseIntBTie
import Derived.Lib.ItoaLen
import Derived.Test.YtnbphabheikfeaaGreatDoorShelfS
import Derived.Lib.SmallJoins
import Derived.Deep.RegionWith
namespace Go.Proofs.YtnbphabheikfeaaGreatDoor
open Go.RowKit
def inI (n : Int) : Prop:=-9223372036854775808 ≤ n ∧ n ≤ 9223372036854775807
theorem nDigits_le (k : Nat) : ∀ u,u < 10 ^ (k + 1) → Lib.nDigits u ≤ k + 1:=by
 induction k with
 | zero => intro u h;rw [Lib.nDigits_small (by simpa using h)];omega
 | succ k ih =>
  intro u h;by_cases hu : u < 10
  ·rw [Lib.nDigits_small hu];omega
  ·rw [Lib.nDigits_big hu];have:=ih (u / 10) (by rw [Nat.pow_succ] at h;omega);omega
theorem itoa_pos (u : Nat) : Lib.itoa (u : Int) = Lib.decDigits u:=by
 unfold Lib.itoa;rw [if_neg (by omega)];simp
theorem itoa_min {u : Nat} (h : 0 < u) : Lib.itoa (-(u : Int)) = 45 :: Lib.decDigits u:=by
 unfold Lib.itoa;rw [if_pos (by omega)];simp
theorem itoa_len {n : Int} (h : inI n) : (Lib.itoa n).length ≤ 20:=by
 unfold inI at h;by_cases hn : n < 0
 ·obtain ⟨u,rfl⟩ : ∃ u : Nat,n = -(u : Int):=⟨n.natAbs,by omega⟩;rw [itoa_min (by omega),List.length_cons,Lib.decDigits_length];have:=nDigits_le 18 u (by omega);omega
 ·obtain ⟨u,rfl⟩ : ∃ u : Nat,n = u:=⟨n.toNat,by omega⟩;rw [itoa_pos,Lib.decDigits_length];have:=nDigits_le 18 u (by omega);omega
def pv (s : List UInt8) : Nat → Int
 | 0 => 0
 | i + 1 => if (s.getD 0 0).toNat = 45 then (if i = 0 then 0 else pv s i * 10 - (((s.getD i 0).toNat : Int) - 48)) else pv s i * 10 + (((s.getD i 0).toNat : Int) - 48)
end Go.Proofs.YtnbphabheikfeaaGreatDoor
namespace Go.Proofs.YtnbphabheikfeaaGreatDoor
open Go.RowKit
attribute [local go_sem] concat_S
def STabs (w : World) : Prop := Lib.TabIs Tryz.prog w "internal/strconv.uint64pow10" .u64 Lib.pow10Tab
theorem STabs.below {w w' : World} {B : Nat} (h : STabs w) (hB : w.heap.size ≤ B) (hb : Below B w w') : STabs w':=Joins.var_stays (g:=5) (by kernel_rfl) h hb hB
theorem below_grow (w : World) (k : Nat) (os : Array Obj) : Below w.heap.size w (Sort.grow (w.drewN k) os) :=
 ⟨rfl,rfl,rfl,by simp [Sort.grow],fun i hi => by simp only [Sort.grow];exact Array.getElem?_append_left hi⟩
set_option maxRecDepth 100000 in
theorem dec_any (w : World) (n : Int) (hn : inI n) (hT : STabs w) :
  Calls Tryz.prog 98 #[.int .i64 n] w fun e w' => e = .returned (S (Lib.itoa n)) ∧ Below w.heap.size w w':=by
 have HC:=jj (Tryz.strconv_FormatInt_10 n hn.1 hn.2 w hT);clear hn hT;go_enter Tryz.func98,Tryz.ntmps98;go_wp2_with fail;refine HC.out.mono ?_;rintro e w1 ⟨rfl,k,os,rfl⟩;go_wp2_with fail;go_ret;exact ⟨rfl,below_grow w k os⟩
end Go.Proofs.YtnbphabheikfeaaGreatDoor
namespace Go.Proofs.YtnbphabheikfeaaGreatDoor
open Go.RowKit
attribute [local go_sem] concat_S
end Go.Proofs.YtnbphabheikfeaaGreatDoor
