import Derived.Test.YtdlnmdbonagchaaGreatDoorRowL
import Derived.Deep.RegionWith
namespace Go.Proofs.YtdlnmdbonagchaaGreatDoor
open Go.RowKit
attribute [local go_sem] concat_S
set_option maxRecDepth 100000 in
set_option maxHeartbeats 1000000 in
theorem rlength_small (n : Nat) (w : World) (hn : n < 128) :
  Calls Tryz.prog 56 #[.int .i64 n] w fun e w' => e = .returned (S (lenB n)) ∧ Below w.heap.size w w':=by
 have hd : decide ((n : Int) < 128) = true:=(by simp;omega);have hcv:=fun W p c => run_str_one W p c (n : Int) (UInt8.ofNat n) (by rw [UInt8.toNat_ofNat'];omega);have HE:=jj (lenB_small hn);go_enter Tryz.func56,Tryz.ntmps56;go_wp2_with fail;go_ret;exact ⟨by rw [HE.out];rfl,(Below.refl _ _).alloc (Nat.le_refl _) _⟩
set_option maxRecDepth 100000 in
set_option maxHeartbeats 1000000 in
theorem rlength_any (b : Nat) : ∀ (n : Nat) (w : World),n < 128 ^ (b + 1) → n ≤ 1099511627776 →
  Calls Tryz.prog 56 #[.int .i64 n] w fun e w' => e = .returned (S (lenB n)) ∧ Below w.heap.size w w':=by
 induction b with
 | zero => intro n w hn _;exact rlength_small n w (by omega)
 | succ b ih =>
  intro n w hn hl;by_cases hs : n < 128
  ·exact rlength_small n w hs
  ·have hd : decide ((n : Int) < 128) = false:=(by simp;omega);have hcv:=fun W p c => run_str_one W p c ((n : Int) % 128 + 128) (UInt8.ofNat (n % 128 + 128)) (by rw [UInt8.toNat_ofNat'];omega);have HE:=jj (lenB_big hs)
   have hrec : ∀ W : World,Calls Tryz.prog 56 #[.int .i64 ((n : Int) / 128)] W fun e w' => e = .returned (S (lenB (n / 128))) ∧ Below W.heap.size W w':=fun W => by
    have:=ih (n / 128) W (by rw [Nat.div_lt_iff_lt_mul (by omega)];rw [Nat.pow_succ] at hn;exact hn) (by omega)
    rwa [show ((n / 128 : Nat) : Int) = (n : Int) / 128 by omega] at this
   have HREC:=jj hrec;have hlen:=lenB_le (n / 128) 5 (by omega);have hno : ¬ (9223372036854775807 < [UInt8.ofNat (n % 128 + 128)].length + (lenB (n / 128)).length):=(by simp;omega);clear hrec ih hn;have m1 : (n : Int).tmod 128 = (n : Int) % 128:=Int.tmod_eq_emod_of_nonneg (by omega);have m2 : IntKind.i64.wrap ((n : Int) % 128 + 128) = (n : Int) % 128 + 128:=IntWalk.i64_in _ (by omega);have m3 : IntKind.u8.wrap ((n : Int) % 128 + 128) = (n : Int) % 128 + 128:=(by rw [IntKind.wrap_u8];omega);have m4 : IntKind.i64.wrap ((n : Int) / 128) = (n : Int) / 128:=IntWalk.i64_in _ (by omega);generalize lenB (n / 128) = y at *;generalize UInt8.ofNat (n % 128 + 128) = x at *;go_enter Tryz.func56,Tryz.ntmps56;go_wp2_with fail
   go_region_with (go_at_call 56;refine (HREC.out _).mono ?_;rintro e w1 ⟨rfl,hb⟩;have hk:=bcell hb)
   all_goals go_wp2_with fail
   all_goals go_ret
   all_goals refine ⟨by rw [HE.out];rfl,?_⟩
   all_goals first
    | exact (((Below.refl w.heap.size w).alloc (Nat.le_refl _) _).drew).trans (hb.mono (by simp))
    | exact ((Below.refl w.heap.size w).drew.trans (hb.mono (Nat.le_refl _))).alloc (by have:=hb.size;exact this) _
set_option maxRecDepth 100000 in
set_option maxHeartbeats 1000000 in
theorem rrow_any (w : World) (A : Option Addr) (c : Nat) (ls : List (List UInt8)) (hA : Strs w w.heap.size A ls) (hs : sizeOf ls ≤ 34359738368) :
  Calls Tryz.prog 22 #[.slice A ls.length c] w fun e w' => e = .returned (S (rowB ls)) ∧ Below w.heap.size w w':=by
 have HA:=jj hA;have hn:=length_le_sizeOf ls;have HRL:=jj (fun k => rowB_le (ls.take k) (Nat.le_trans (sizeOf_take_le ls k) hs));have HST:=jj (sizeOf_take_le ls);have hlen : ls.length ≤ 34359738368:=(by omega);clear hA hn;go_enter Tryz.func22,Tryz.ntmps22;go_wp2_with fail
 go_loopw [3,8] (fun s i wr => ∃ k : Nat,k ≤ ls.length ∧ i = .int .i64 k ∧ s = S (rowB (ls.take k)) ∧ Hid (Below w.heap.size w wr)) (fun _ i _ => ls.length - (intOf i).toNat)
 case atStart => exact ⟨0,by omega,rfl,rfl,jj (Below.refl _ _)⟩
 case round =>
  obtain ⟨k,hk,rfl,rfl,HB⟩:=hrel;by_cases hlt : k < ls.length
  ·obtain ⟨ad,rfl,had,hc⟩:=HA.out.at' hlt;have hcr : wr.cell? (ad.add k) = some (S (ls.getD k [])):=(HB.out.cell (by unfold Addr.add;split <;> exact had)).trans hc;clear hc;have HSN:=jj (rowB_snoc ls k hlt);have hle:=HRL.out (k + 1);have hst:=HST.out (k + 1);rw [HSN.out,List.length_append,List.length_append] at hle;have hgl:=getD_le ls k hlt;generalize rowB (ls.take k) = x at *;generalize ls.getD k [] = y at *;have hno : ¬ (9223372036854775807 < (lenB y.length).length + y.length):=(by omega);have hno2 : ¬ (9223372036854775807 < x.length + (lenB y.length ++ y).length):=(by rw [List.length_append];omega);go_wp2_with fail;refine (rlength_any 5 y.length wr (by omega) (by omega)).mono ?_;rintro e w1 ⟨rfl,hb1⟩;have HB1 : Hid (Below w.heap.size w w1):=jj (HB.out.trans (hb1.mono HB.out.size));clear hb1 hcr;generalize lenB y.length = z at *;go_wp2_with fail
   go_roundw
   case rel =>
    have R : ∃ k' : Nat,k' ≤ ls.length ∧ Value.int .i64 ((k : Int) + 1) = .int .i64 k' ∧ S (x ++ (z ++ y)) = S (rowB (ls.take k')) ∧ Hid (Below w.heap.size w w1):=⟨k + 1,by omega,by go_num,by rw [HSN.out,List.append_assoc],HB1⟩
    first | exact R | ((repeat apply Exists.intro);exact ⟨R,rfl⟩)
   case measure => simp [intOf];omega
  ·obtain rfl : k = ls.length:=(by omega);rw [List.take_of_length_le (Nat.le_refl _)];have hd : decide (ls.length < ls.length) = false:=(by simp);go_wp2_with fail;go_ret;exact ⟨rfl,HB.out⟩
end Go.Proofs.YtdlnmdbonagchaaGreatDoor
