/-
  Walk: hibernacleref01.Texts.
-/
import Derived.Test.YtecamaceainfpaaDoorTexts
namespace Go.Proofs.YtecamaceainfpaaDoor
open Go.RowKit

set_option maxRecDepth 100000 in
set_option maxHeartbeats 2000000 in
theorem rtexts_any (w : World) (b : List UInt8) (hb : b.length ≤ 1099511627776) :
    Calls Tryd.prog 60 #[S b] w (TextsPost b w) := by
  obtain ⟨i0, hi0, hz0, hz1, hz2⟩ := info_parts Tryd.infoStr
  go_enter Tryd.func60, Tryd.ntmps60
  go_wp2_with fail
  go_loopw [4, 5] (fun v s wr => ∃ (p : Nat) (acc : List (List UInt8)), p ≤ b.length ∧ s = .int .i64 p ∧ acc.length ≤ p ∧ Hid (textsA [] b = textsA acc (b.drop p)) ∧ Hid (Own wr w.heap.size v acc) ∧ Hid (Below w.heap.size w wr)) (fun _ s _ => b.length - (intOf s).toNat)
  case atStart => exact ⟨0, [], by omega, rfl, by simp, Lib.hid rfl, Lib.hid (World.ownsRow_lit w #[] 0 (Nat.le_refl _) (by unfold maxLen; omega) rfl), Lib.hid ((Below.refl _ _).alloc (Nat.le_refl _) _)⟩
  case round =>
    obtain ⟨p, acc, hp, rfl, hle, HT, HO, HB⟩ := hrel
    by_cases hlt : p < b.length
    · have hd : decide ((p : Int) < (b.length : Int)) = true := by simp; omega
      have hd' : decide (p < b.length) = true := by simp; omega
      have HNE : Hid (b.drop p ≠ []) := Lib.hid (by intro h; have := congrArg List.length h; simp at this; omega)
      go_wp2_with fail
      clear hd hd'
      go_loop [5, 6, 7, 8] (fun s n u i => ∃ q m v k : Nat, q ≤ b.length ∧ s = .int .i64 q ∧ n = .int .i64 m ∧ u = .int .i64 v ∧ i = .int .i64 k ∧ k ≤ 3 ∧ v ≤ 2097152 ∧ m < v ∧ p ≤ q ∧ Hid (v = 128 ^ k) ∧ Hid (lenGo 0 0 (b.drop p) = lenGo k m (b.drop q))) (fun s _ _ _ => b.length - (intOf s).toNat)
      case atStart => exact ⟨p, 0, 1, 0, by omega, rfl, rfl, rfl, rfl, by omega, by omega, by omega, by omega, Lib.hid rfl, Lib.hid rfl⟩
      case round =>
        obtain ⟨q, m, v, k, hq, rfl, rfl, rfl, rfl, hk, hv, hm, hpq, HV, HL⟩ := hrel
        by_cases hend : q = b.length
        · subst hend
          have e1 : ((b.length : Int) == (b.length : Int)) = true := by simp
          have HQ : Hid (textsA [] b = .error 4) := Lib.hid (by rw [HT.out]; exact textsA_err HNE.out (by rw [HL.out, List.drop_eq_nil_of_le (Nat.le_refl _)]; rfl))
          go_wp2_with fail
          go_ret2
          unfold TextsPost
          rw [HQ.out]
          exact ⟨rfl, HB.out⟩
        · have hql : q < b.length := by omega
          have e1 : ((q : Int) == (b.length : Int)) = false := by simp; omega
          have xi := run_index_S b .i64 (q : Int) q rfl hql
          have HD : Hid (b.drop q = b.getD q 0 :: b.drop (q + 1)) := Lib.hid (by rw [List.drop_eq_getElem_cons hql]; simp [List.getD, hql])
          rw [HD.out] at HL
          generalize b.getD q 0 = c at *
          have hcl := c.toNat_lt
          obtain ⟨x, HX⟩ : ∃ z, Hid (c.toNat % 128 = z) := ⟨_, Lib.hid rfl⟩
          have hx : x < 128 := by rw [← HX.out]; omega
          have hxe : ((c.toNat : Int) % 128) = (x : Int) := by rw [← HX.out]; omega
          have hpr : (x : Int) * (v : Int) ≤ 268435456 := by
            have h1 : x * v ≤ 127 * 2097152 := Nat.mul_le_mul (by omega) hv
            have h2 : ((x * v : Nat) : Int) ≤ 268435456 := by omega
            rwa [Int.natCast_mul] at h2
          have hpr0 : 0 ≤ (x : Int) * (v : Int) := Int.mul_nonneg (by omega) (by omega)
          clear hend HD
          by_cases hc : 128 ≤ c.toNat
          · have hc1 : decide ((c.toNat : Int) < 128) = false := by simp; omega
            by_cases h3 : k = 3
            · subst h3
              have HQ : Hid (textsA [] b = .error 3) := Lib.hid (by rw [HT.out]; exact textsA_err HNE.out (by rw [HL.out]; exact lenGo_far rfl hc))
              go_wp2_with fail
              go_ret2
              unfold TextsPost
              rw [HQ.out]
              exact ⟨rfl, HB.out⟩
            · have e3 : ((k : Int) == 3) = false := by simp; omega
              have HQ : Hid (lenGo 0 0 (b.drop p) = lenGo (k + 1) (m + x * v) (b.drop (q + 1))) := Lib.hid (by rw [HL.out, lenGo_on h3 hc, HX.out, HV.out])
              have HV2 : Hid (v * 128 = 128 ^ (k + 1)) := Lib.hid (by rw [HV.out, Nat.pow_succ])
              have hv2 : v * 128 ≤ 2097152 := by
                rw [HV2.out]
                exact Nat.le_trans (Nat.pow_le_pow_right (by omega) (show k + 1 ≤ 3 by omega)) (by decide)
              have hm2 : m + x * v < v * 128 := by
                have h1 : x * v ≤ 127 * v := Nat.mul_le_mul_right v (by omega)
                omega
              have hce : ((m + x * v : Nat) : Int) = (m : Int) + (x : Int) * (v : Int) := by rw [Int.natCast_add, Int.natCast_mul]
              have HCE := Lib.hid hce
              clear hce
              go_wp2_with fail
              exact ⟨⟨q + 1, m + x * v, v * 128, k + 1, by omega, by go_num, by rw [HCE.out], by go_num, by go_num, by omega, hv2, hm2, by omega, HV2, HQ⟩, by simp [intOf]; omega⟩
          · have hc1 : decide ((c.toNat : Int) < 128) = true := by simp; omega
            have HXC : Hid (x = c.toNat) := Lib.hid (by rw [← HX.out]; omega)
            by_cases hbad : c.toNat = 0 ∧ 0 < k
            · have HQ : Hid (textsA [] b = .error 3) := Lib.hid (by rw [HT.out]; exact textsA_err HNE.out (by rw [HL.out]; exact lenGo_zero hbad.2 hbad.1))
              have e0 : ((c.toNat : Int) == 0) = true := by simp; omega
              have ek : decide ((0 : Int) < (k : Int)) = true := by simp; omega
              have ek' : decide (0 < k) = true := by simp; omega
              clear hbad
              go_wp2_with fail
              go_ret2
              unfold TextsPost
              rw [HQ.out]
              exact ⟨rfl, HB.out⟩
            · have HG : Hid (lenGo 0 0 (b.drop p) = .ok (m + x * v, b.drop (q + 1))) := Lib.hid (by rw [HL.out, lenGo_end (by omega) (by omega), HX.out, HV.out])
              have hrl : (b.drop (q + 1)).length = b.length - (q + 1) := by simp
              have HRL := Lib.hid hrl
              clear hrl
              have hce : ((m + x * v : Nat) : Int) = (m : Int) + (x : Int) * (v : Int) := by rw [Int.natCast_add, Int.natCast_mul]
              obtain ⟨N, HN⟩ : ∃ z, Hid (m + x * v = z) := ⟨_, Lib.hid rfl⟩
              rw [HN.out] at HG hce
              have hce2 : (m : Int) + (x : Int) * (v : Int) = (N : Int) := hce.symm
              have hN : N ≤ 536870912 := by omega
              clear hce
              by_cases hn : b.length - (q + 1) < N
              · have HQ : Hid (textsA [] b = .error 4) := Lib.hid (by rw [HT.out]; exact textsA_short HNE.out HG.out (by rw [HRL.out]; exact hn))
                have e5 : decide ((b.length : Int) - ((q : Int) + 1) < (N : Int)) = true := by simp; omega
                by_cases h0 : c.toNat = 0
                · have e0 : ((c.toNat : Int) == 0) = true := by simp; omega
                  have ek : decide ((0 : Int) < (k : Int)) = false := by simp; omega
                  have ek' : decide (0 < k) = false := by simp; omega
                  clear h0 hbad
                  go_wp2_with fail
                  go_ret2
                  unfold TextsPost
                  rw [HQ.out]
                  exact ⟨rfl, HB.out⟩
                · have e0 : ((c.toNat : Int) == 0) = false := by simp; omega
                  clear h0 hbad
                  go_wp2_with fail
                  go_ret2
                  unfold TextsPost
                  rw [HQ.out]
                  exact ⟨rfl, HB.out⟩
              · have HQ : Hid (textsA [] b = textsA (acc ++ [(b.drop (q + 1)).take N]) ((b.drop (q + 1)).drop N)) := Lib.hid (by rw [HT.out]; exact textsA_go HNE.out HG.out (by rw [HRL.out]; exact hn))
                rw [List.drop_drop] at HQ
                have e5 : decide ((b.length : Int) - ((q : Int) + 1) < (N : Int)) = false := by simp; omega
                have hcut := run_cut_S b .i64 .i64 ((q : Int) + 1) ((q : Int) + 1 + (N : Int)) (q + 1) (q + 1 + N) (by omega) (by omega) (by omega) (by omega)
                rw [show q + 1 + N - (q + 1) = N by omega] at hcut
                generalize (b.drop (q + 1)).take N = y at *
                have HNW : Hid (∀ i u, [S y][i]? = some u → (wr.alloc (.cells #[S y] 9)).cell? ((⟨wr.heap.size, 0, none⟩ : Addr).add i) = some u) := Lib.hid (fun i u hu => by
                  obtain ⟨ad', e', _, hc'⟩ := lies_made wr 9 [S y] (wr.heap.size + 1) (by omega) i u hu
                  injection e' with e'; subst e'; exact hc')
                have H1 : Hid (∀ u ∈ [S y], u.oneCell' = true) := Lib.hid (by simp [Value.oneCell'])
                have H63 : Hid (acc.length + 1 ≤ maxLen) := Lib.hid (by unfold maxLen; omega)
                have HBY : Hid ((acc.length + 1) * 16 ≤ 140737488355328) := Lib.hid (by omega)
                have HBA : Hid (w.heap.size ≤ (wr.alloc (.cells #[S y] 9)).heap.size) := Lib.hid (by have := HB.out.size; simp; omega)
                have HOA := Lib.hid (HO.out.alloc (.cells #[S y] 9))
                by_cases h0 : c.toNat = 0
                · have e0 : ((c.toNat : Int) == 0) = true := by simp; omega
                  have ek : decide ((0 : Int) < (k : Int)) = false := by simp; omega
                  have ek' : decide (0 < k) = false := by simp; omega
                  clear h0 hbad
                  go_wp2_with (at_builtin; refine wpList_append_own _ rfl (.tmp 51) (.tmp 58) 22 rfl w.heap.size 9 i0 _ 1 16 Tryd.underlying22 hi0 hz0 hz1 hz2 rfl (by decide) _ _ _ rfl HOA.out ⟨wr.heap.size, 0, none⟩ 1 1 [S y] rfl rfl HNW.out H1.out H63.out HBY.out HBA.out ?_; intro v' w4 hown' hgrow _)
                  have HO4 : Hid (Own w4 w.heap.size v' (acc ++ [y])) := Lib.hid (by
                    have := hown'
                    rw [show (acc.map S ++ [S y]) = (acc ++ [y]).map S by simp] at this
                    unfold Own
                    rw [List.length_append]
                    exact this)
                  have HB4 : Hid (Below w.heap.size w w4) := Lib.hid ((HB.out.alloc HB.out.size _).grown hgrow HBA.out (own_ge HOA.out))
                  exact ⟨⟨q + 1 + N, acc ++ [y], by omega, by go_num, by simp; omega, HQ, HO4, HB4⟩, by simp [intOf]; omega⟩
                · have e0 : ((c.toNat : Int) == 0) = false := by simp; omega
                  clear h0 hbad
                  go_wp2_with (at_builtin; refine wpList_append_own _ rfl (.tmp 51) (.tmp 58) 22 rfl w.heap.size 9 i0 _ 1 16 Tryd.underlying22 hi0 hz0 hz1 hz2 rfl (by decide) _ _ _ rfl HOA.out ⟨wr.heap.size, 0, none⟩ 1 1 [S y] rfl rfl HNW.out H1.out H63.out HBY.out HBA.out ?_; intro v' w4 hown' hgrow _)
                  have HO4 : Hid (Own w4 w.heap.size v' (acc ++ [y])) := Lib.hid (by
                    have := hown'
                    rw [show (acc.map S ++ [S y]) = (acc ++ [y]).map S by simp] at this
                    unfold Own
                    rw [List.length_append]
                    exact this)
                  have HB4 : Hid (Below w.heap.size w w4) := Lib.hid ((HB.out.alloc HB.out.size _).grown hgrow HBA.out (own_ge HOA.out))
                  exact ⟨⟨q + 1 + N, acc ++ [y], by omega, by go_num, by simp; omega, HQ, HO4, HB4⟩, by simp [intOf]; omega⟩
    · obtain rfl : p = b.length := by omega
      have hd : decide (b.length < b.length) = false := by simp
      rw [List.drop_eq_nil_of_le (Nat.le_refl _), textsA_nil] at HT
      go_wp2_with fail
      go_ret2
      unfold TextsPost
      rw [HT.out]
      exact ⟨⟨_, rfl, HO.out⟩, HB.out⟩
end Go.Proofs.YtecamaceainfpaaDoor
