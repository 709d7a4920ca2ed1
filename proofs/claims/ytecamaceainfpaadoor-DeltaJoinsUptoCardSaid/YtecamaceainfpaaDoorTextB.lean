/-
  Walk: hibernacleref01.Texts.
-/
import Derived.Test.YtecamaceainfpaaDoorTextA
import Derived.Test.YtecamaceainfpaaDoorApply
import Derived.Test.YtecamaceainfpaaDoorDeltaC
namespace Go.Proofs.YtecamaceainfpaaDoor
open Go.RowKit

set_option maxRecDepth 100000 in
set_option maxHeartbeats 2000000 in
theorem rtexts_any (w : World) (b : List UInt8) (hb : b.length ≤ 1099511627776) :
    Calls Tryd.prog 60 #[S b] w (TextsPost b w) := by
  obtain ⟨i0, hi0, hz0, hz1, hz2⟩ := info_parts Tryd.infoStr
  go_enter Tryd.func60, Tryd.ntmps60
  go_wp2_with fail
  go_loopw [4, 5] (fun v s wr => ∃ (p : Nat) (acc : List (List UInt8)), p ≤ b.length ∧ s = .int .i64 p ∧ acc.length ≤ p ∧ Hid (textsA [] b = textsA acc (b.drop p)) ∧ Hid (Own wr w.heap.size v acc) ∧ Hid (Below w.heap.size w wr)) (fun _ s _ => b.length - (intOf s).toNat)
  case atStart => exact ⟨0, [], by omega, rfl, by simp, Lib.hid rfl, Lib.hid (World.ownsRow_lit w #[] 0 (Nat.le_refl _) (by unfold maxLen; omega) rfl), Lib.hid ((Below.refl _ _).alloc (Nat.le_refl _) _)⟩
  case round =>
    obtain ⟨p, acc, hp, rfl, hle, HT, HO, HB⟩ := hrel
    by_cases hlt : p < b.length
    · have hd : decide ((p : Int) < (b.length : Int)) = true := by simp; omega
      have hd' : decide (p < b.length) = true := by simp; omega
      have HNE : Hid (b.drop p ≠ []) := Lib.hid (by intro h; have := congrArg List.length h; simp at this; omega)
      go_wp2_with fail
      clear hd hd'
      go_loop [5, 6, 7, 8] (fun s n u i => ∃ q m v k : Nat, q ≤ b.length ∧ s = .int .i64 q ∧ n = .int .i64 m ∧ u = .int .i64 v ∧ i = .int .i64 k ∧ k ≤ 3 ∧ v ≤ 2097152 ∧ m < v ∧ p ≤ q ∧ Hid (v = 128 ^ k) ∧ Hid (lenGo 0 0 (b.drop p) = lenGo k m (b.drop q))) (fun s _ _ _ => b.length - (intOf s).toNat)
      case atStart => exact ⟨p, 0, 1, 0, by omega, rfl, rfl, rfl, rfl, by omega, by omega, by omega, by omega, Lib.hid rfl, Lib.hid rfl⟩
      case round =>
        obtain ⟨q, m, v, k, hq, rfl, rfl, rfl, rfl, hk, hv, hm, hpq, HV, HL⟩ := hrel
        by_cases hend : q = b.length
        · subst hend
          have e1 : ((b.length : Int) == (b.length : Int)) = true := by simp
          have HQ : Hid (textsA [] b = .error 4) := Lib.hid (by rw [HT.out]; exact textsA_err HNE.out (by rw [HL.out, List.drop_eq_nil_of_le (Nat.le_refl _)]; rfl))
          go_wp2_with fail
          go_ret2
          unfold TextsPost
          rw [HQ.out]
          exact ⟨rfl, HB.out⟩
        · have hql : q < b.length := by omega
          have e1 : ((q : Int) == (b.length : Int)) = false := by simp; omega
          have xi := run_index_S b .i64 (q : Int) q rfl hql
          have HD : Hid (b.drop q = b.getD q 0 :: b.drop (q + 1)) := Lib.hid (by rw [List.drop_eq_getElem_cons hql]; simp [List.getD, hql])
          rw [HD.out] at HL
          generalize b.getD q 0 = c at *
          have hcl := c.toNat_lt
          obtain ⟨x, HX⟩ : ∃ z, Hid (c.toNat % 128 = z) := ⟨_, Lib.hid rfl⟩
          have hx : x < 128 := by rw [← HX.out]; omega
          have hxe : ((c.toNat : Int) % 128) = (x : Int) := by rw [← HX.out]; omega
          have hpr : (x : Int) * (v : Int) ≤ 268435456 := by
            have h1 : x * v ≤ 127 * 2097152 := Nat.mul_le_mul (by omega) hv
            have h2 : ((x * v : Nat) : Int) ≤ 268435456 := by omega
            rwa [Int.natCast_mul] at h2
          have hpr0 : 0 ≤ (x : Int) * (v : Int) := Int.mul_nonneg (by omega) (by omega)
          clear hend HD
          by_cases hc : 128 ≤ c.toNat
          · have hc1 : decide ((c.toNat : Int) < 128) = false := by simp; omega
            by_cases h3 : k = 3
            · subst h3
              have HQ : Hid (textsA [] b = .error 3) := Lib.hid (by rw [HT.out]; exact textsA_err HNE.out (by rw [HL.out]; exact lenGo_far rfl hc))
              go_wp2_with fail
              go_ret2
              unfold TextsPost
              rw [HQ.out]
              exact ⟨rfl, HB.out⟩
            · have e3 : ((k : Int) == 3) = false := by simp; omega
              have HQ : Hid (lenGo 0 0 (b.drop p) = lenGo (k + 1) (m + x * v) (b.drop (q + 1))) := Lib.hid (by rw [HL.out, lenGo_on h3 hc, HX.out, HV.out])
              have HV2 : Hid (v * 128 = 128 ^ (k + 1)) := Lib.hid (by rw [HV.out, Nat.pow_succ])
              have hv2 : v * 128 ≤ 2097152 := by
                rw [HV2.out]
                exact Nat.le_trans (Nat.pow_le_pow_right (by omega) (show k + 1 ≤ 3 by omega)) (by decide)
              have hm2 : m + x * v < v * 128 := by
                have h1 : x * v ≤ 127 * v := Nat.mul_le_mul_right v (by omega)
                omega
              have hce : ((m + x * v : Nat) : Int) = (m : Int) + (x : Int) * (v : Int) := by rw [Int.natCast_add, Int.natCast_mul]
              have HCE := Lib.hid hce
              clear hce
              go_wp2_with fail
              exact ⟨⟨q + 1, m + x * v, v * 128, k + 1, by omega, by go_num, by rw [HCE.out], by go_num, by go_num, by omega, hv2, hm2, by omega, HV2, HQ⟩, by simp [intOf]; omega⟩
          · have hc1 : decide ((c.toNat : Int) < 128) = true := by simp; omega
            have HXC : Hid (x = c.toNat) := Lib.hid (by rw [← HX.out]; omega)
            by_cases hbad : c.toNat = 0 ∧ 0 < k
            · have HQ : Hid (textsA [] b = .error 3) := Lib.hid (by rw [HT.out]; exact textsA_err HNE.out (by rw [HL.out]; exact lenGo_zero hbad.2 hbad.1))
              have e0 : ((c.toNat : Int) == 0) = true := by simp; omega
              have ek : decide ((0 : Int) < (k : Int)) = true := by simp; omega
              have ek' : decide (0 < k) = true := by simp; omega
              clear hbad
              go_wp2_with fail
              go_ret2
              unfold TextsPost
              rw [HQ.out]
              exact ⟨rfl, HB.out⟩
            · have HG : Hid (lenGo 0 0 (b.drop p) = .ok (m + x * v, b.drop (q + 1))) := Lib.hid (by rw [HL.out, lenGo_end (by omega) (by omega), HX.out, HV.out])
              have hrl : (b.drop (q + 1)).length = b.length - (q + 1) := by simp
              have HRL := Lib.hid hrl
              clear hrl
              have hce : ((m + x * v : Nat) : Int) = (m : Int) + (x : Int) * (v : Int) := by rw [Int.natCast_add, Int.natCast_mul]
              obtain ⟨N, HN⟩ : ∃ z, Hid (m + x * v = z) := ⟨_, Lib.hid rfl⟩
              rw [HN.out] at HG hce
              have hce2 : (m : Int) + (x : Int) * (v : Int) = (N : Int) := hce.symm
              have hN : N ≤ 536870912 := by omega
              clear hce
              by_cases hn : b.length - (q + 1) < N
              · have HQ : Hid (textsA [] b = .error 4) := Lib.hid (by rw [HT.out]; exact textsA_short HNE.out HG.out (by rw [HRL.out]; exact hn))
                have e5 : decide ((b.length : Int) - ((q : Int) + 1) < (N : Int)) = true := by simp; omega
                by_cases h0 : c.toNat = 0
                · have e0 : ((c.toNat : Int) == 0) = true := by simp; omega
                  have ek : decide ((0 : Int) < (k : Int)) = false := by simp; omega
                  have ek' : decide (0 < k) = false := by simp; omega
                  clear h0 hbad
                  go_wp2_with fail
                  go_ret2
                  unfold TextsPost
                  rw [HQ.out]
                  exact ⟨rfl, HB.out⟩
                · have e0 : ((c.toNat : Int) == 0) = false := by simp; omega
                  clear h0 hbad
                  go_wp2_with fail
                  go_ret2
                  unfold TextsPost
                  rw [HQ.out]
                  exact ⟨rfl, HB.out⟩
              · have HQ : Hid (textsA [] b = textsA (acc ++ [(b.drop (q + 1)).take N]) ((b.drop (q + 1)).drop N)) := Lib.hid (by rw [HT.out]; exact textsA_go HNE.out HG.out (by rw [HRL.out]; exact hn))
                rw [List.drop_drop] at HQ
                have e5 : decide ((b.length : Int) - ((q : Int) + 1) < (N : Int)) = false := by simp; omega
                have hcut := run_cut_S b .i64 .i64 ((q : Int) + 1) ((q : Int) + 1 + (N : Int)) (q + 1) (q + 1 + N) (by omega) (by omega) (by omega) (by omega)
                rw [show q + 1 + N - (q + 1) = N by omega] at hcut
                generalize (b.drop (q + 1)).take N = y at *
                have HNW : Hid (∀ i u, [S y][i]? = some u → (wr.alloc (.cells #[S y] 9)).cell? ((⟨wr.heap.size, 0, none⟩ : Addr).add i) = some u) := Lib.hid (fun i u hu => by
                  obtain ⟨ad', e', _, hc'⟩ := lies_made wr 9 [S y] (wr.heap.size + 1) (by omega) i u hu
                  injection e' with e'; subst e'; exact hc')
                have H1 : Hid (∀ u ∈ [S y], u.oneCell' = true) := Lib.hid (by simp [Value.oneCell'])
                have H63 : Hid (acc.length + 1 ≤ maxLen) := Lib.hid (by unfold maxLen; omega)
                have HBY : Hid ((acc.length + 1) * 16 ≤ 140737488355328) := Lib.hid (by omega)
                have HBA : Hid (w.heap.size ≤ (wr.alloc (.cells #[S y] 9)).heap.size) := Lib.hid (by have := HB.out.size; simp; omega)
                have HOA := Lib.hid (HO.out.alloc (.cells #[S y] 9))
                by_cases h0 : c.toNat = 0
                · have e0 : ((c.toNat : Int) == 0) = true := by simp; omega
                  have ek : decide ((0 : Int) < (k : Int)) = false := by simp; omega
                  have ek' : decide (0 < k) = false := by simp; omega
                  clear h0 hbad
                  go_wp2_with (at_builtin; refine wpList_append_own _ rfl (.tmp 51) (.tmp 58) 22 rfl w.heap.size 9 i0 _ 1 16 Tryd.underlying22 hi0 hz0 hz1 hz2 rfl (by decide) _ _ _ rfl HOA.out ⟨wr.heap.size, 0, none⟩ 1 1 [S y] rfl rfl HNW.out H1.out H63.out HBY.out HBA.out ?_; intro v' w4 hown' hgrow _)
                  have HO4 : Hid (Own w4 w.heap.size v' (acc ++ [y])) := Lib.hid (by
                    have := hown'
                    rw [show (acc.map S ++ [S y]) = (acc ++ [y]).map S by simp] at this
                    unfold Own
                    rw [List.length_append]
                    exact this)
                  have HB4 : Hid (Below w.heap.size w w4) := Lib.hid ((HB.out.alloc HB.out.size _).grown hgrow HBA.out (own_ge HOA.out))
                  exact ⟨⟨q + 1 + N, acc ++ [y], by omega, by go_num, by simp; omega, HQ, HO4, HB4⟩, by simp [intOf]; omega⟩
                · have e0 : ((c.toNat : Int) == 0) = false := by simp; omega
                  clear h0 hbad
                  go_wp2_with (at_builtin; refine wpList_append_own _ rfl (.tmp 51) (.tmp 58) 22 rfl w.heap.size 9 i0 _ 1 16 Tryd.underlying22 hi0 hz0 hz1 hz2 rfl (by decide) _ _ _ rfl HOA.out ⟨wr.heap.size, 0, none⟩ 1 1 [S y] rfl rfl HNW.out H1.out H63.out HBY.out HBA.out ?_; intro v' w4 hown' hgrow _)
                  have HO4 : Hid (Own w4 w.heap.size v' (acc ++ [y])) := Lib.hid (by
                    have := hown'
                    rw [show (acc.map S ++ [S y]) = (acc ++ [y]).map S by simp] at this
                    unfold Own
                    rw [List.length_append]
                    exact this)
                  have HB4 : Hid (Below w.heap.size w w4) := Lib.hid ((HB.out.alloc HB.out.size _).grown hgrow HBA.out (own_ge HOA.out))
                  exact ⟨⟨q + 1 + N, acc ++ [y], by omega, by go_num, by simp; omega, HQ, HO4, HB4⟩, by simp [intOf]; omega⟩
    · obtain rfl : p = b.length := by omega
      have hd : decide (b.length < b.length) = false := by simp
      rw [List.drop_eq_nil_of_le (Nat.le_refl _), textsA_nil] at HT
      go_wp2_with fail
      go_ret2
      unfold TextsPost
      rw [HT.out]
      exact ⟨⟨_, rfl, HO.out⟩, HB.out⟩
end Go.Proofs.YtecamaceainfpaaDoor
/-
  Walk: image.Read.
-/
namespace Go.Proofs.YtecamaceainfpaaDoor
open Go.RowKit

/-- the image of bytes -/
def readL (b : List UInt8) : Option (List (List UInt8) × List (List UInt8) × List UInt8) :=
  match textsA [] b with
  | .ok [t0, t1, t2, t3] =>
    if t0 = [104, 105, 98, 105] then
      match textsA [] t1, textsA [] t2 with
      | .ok f, .ok g => some (f, g, t3)
      | _, _ => none
    else none
  | _ => none
/-- what Read gives back -/
def ReadPost (w : World) (q : Option (List (List UInt8) × List (List UInt8) × List UInt8)) (e : Ending) (w' : World) : Prop :=
  (match q with
    | none => e = .returned (.tuple #[.agg #[.slice none 0 0, .slice none 0 0, S []], .int .i64 3])
    | some (f, g, r) => ∃ G k G' k', e = .returned (.tuple #[.agg #[.slice G f.length k, .slice G' g.length k', S r], .int .i64 0]) ∧ Strs w' w'.heap.size G f ∧ Strs w' w'.heap.size G' g) ∧ Below w.heap.size w w'
theorem readL_err {b : List UInt8} {x : Int} (h : textsA [] b = .error x) : readL b = none := by unfold readL; rw [h]
theorem readL_len {b : List UInt8} {ls : List (List UInt8)} (h : textsA [] b = .ok ls) (hl : ls.length ≠ 4) : readL b = none := by
  unfold readL; rw [h]
  match ls, hl with
  | [], _ => rfl
  | [_], _ => rfl
  | [_, _], _ => rfl
  | [_, _, _], _ => rfl
  | [_, _, _, _], h => exact absurd rfl h
  | _ :: _ :: _ :: _ :: _ :: _, _ => rfl
theorem readL_word {b : List UInt8} {t0 t1 t2 t3 : List UInt8} (h : textsA [] b = .ok [t0, t1, t2, t3]) (hl : t0 ≠ [104, 105, 98, 105]) : readL b = none := by
  unfold readL; rw [h]; dsimp only; rw [if_neg hl]
theorem readL_one {b : List UInt8} {t0 t1 t2 t3 : List UInt8} {x : Int} (h : textsA [] b = .ok [t0, t1, t2, t3]) (h1 : textsA [] t1 = .error x) : readL b = none := by
  unfold readL; rw [h]; dsimp only; split
  · rw [h1]
  · rfl
theorem readL_two {b : List UInt8} {t0 t1 t2 t3 : List UInt8} {x : Int} (h : textsA [] b = .ok [t0, t1, t2, t3]) (h1 : textsA [] t2 = .error x) : readL b = none := by
  unfold readL; rw [h]; dsimp only; split
  · rw [h1]; cases textsA [] t1 <;> rfl
  · rfl
theorem readL_ok {b : List UInt8} {t0 t1 t2 t3 : List UInt8} {f g : List (List UInt8)} (h : textsA [] b = .ok [t0, t1, t2, t3]) (h0 : t0 = [104, 105, 98, 105]) (h1 : textsA [] t1 = .ok f) (h2 : textsA [] t2 = .ok g) : readL b = some (f, g, t3) := by
  unfold readL; rw [h]; dsimp only; rw [if_pos h0, h1, h2]
/-- a text of a row is no longer than the row -/
theorem texts_mem {b : List UInt8} {ls : List (List UInt8)} (h : textsA [] b = .ok ls) : ∀ l ∈ ls, l.length ≤ b.length := by
  rw [texts_len h]
  intro l hl
  obtain ⟨x, y, rfl⟩ := List.append_of_mem hl
  rw [rowB_append, rowB_cons]
  simp only [List.length_append]; omega
theorem texts_count {b : List UInt8} {ls : List (List UInt8)} (h : textsA [] b = .ok ls) : ls.length ≤ b.length := by
  rw [texts_len h]
  clear h
  induction ls with
  | nil => simp
  | cons l ls ih =>
    rw [rowB_cons]
    have := List.length_pos_iff.2 (lenB_ne l.length)
    simp only [List.length_append, List.length_cons]; omega
theorem Strs.four {w : World} {B : Nat} {A : Option Addr} {t0 t1 t2 t3 : List UInt8} (h : Strs w B A [t0, t1, t2, t3]) :
    ∃ ad, A = some ad ∧ ad.block < B ∧ w.cell? (ad.add 0) = some (S t0) ∧ w.cell? (ad.add 1) = some (S t1) ∧ w.cell? (ad.add 2) = some (S t2) ∧ w.cell? (ad.add 3) = some (S t3) := by
  obtain ⟨ad, rfl, hb, c0⟩ := h 0 _ rfl
  obtain ⟨a1, e1, _, c1⟩ := h 1 _ rfl
  obtain ⟨a2, e2, _, c2⟩ := h 2 _ rfl
  obtain ⟨a3, e3, _, c3⟩ := h 3 _ rfl
  injection e1 with e1; injection e2 with e2; injection e3 with e3
  subst e1 e2 e3
  exact ⟨ad, rfl, hb, c0, c1, c2, c3⟩
set_option maxRecDepth 100000 in
set_option maxHeartbeats 2000000 in
theorem read_any (w : World) (b : List UInt8) (hb : b.length ≤ 4294967296) :
    Calls Tryd.prog 30 #[S b] w (ReadPost w (readL b)) := by
  have HZ := Lib.hid (Whole.made w 24 #[.slice none 0 0, .slice none 0 0, S []])
  have HW := Lib.hid ((Below.refl w.heap.size w).alloc (Nat.le_refl _) (.cells #[.slice none 0 0, .slice none 0 0, S []] 24))
  go_enter Tryd.func30, Tryd.ntmps30
  go_wp2_with fail
  change Calls _ _ _ (w.alloc (.cells #[.slice none 0 0, .slice none 0 0, S []] 24)) _
  generalize w.alloc (.cells #[.slice none 0 0, .slice none 0 0, S []] 24) = w1 at *
  generalize hgx : w.heap.size = gx at *
  have HGX := Lib.hid hgx
  clear hgx
  have FIN : Hid (∀ W : World, Whole W gx 24 #[.slice none 0 0, .slice none 0 0, S []] → W.cell? ⟨gx, 0, none⟩ = some (Value.slice none 0 0) ∧ W.cell? ⟨gx, 1, none⟩ = some (Value.slice none 0 0) ∧ W.cell? ⟨gx, 2, none⟩ = some (S []) ∧ W.frozen? ⟨gx, 0, none⟩ = false ∧ W.frozen? ⟨gx, 1, none⟩ = false ∧ W.frozen? ⟨gx, 2, none⟩ = false) := Lib.hid fun W h => ⟨h.cell 0, h.cell 1, h.cell 2, h.free 0, h.free 1, h.free 2⟩
  refine (texts_any w1 b (by omega)).mono ?_
  rintro e w2 ⟨hm, hb2⟩
  have HZ2 := Lib.hid (HZ.out.below hb2 HZ.out.lt)
  have HW2 := Lib.hid (HW.out.trans (hb2.mono (by have := HZ.out.lt; omega)))
  have hgl := HZ.out.lt
  clear hb2 HZ HW
  cases hT : textsA [] b with
  | error x =>
    have HQ := Lib.hid (readL_err hT)
    have hx := textsA_err' _ _ _ _ (Nat.le_refl _) hT
    have hx0 : (x != 0) = true := by rcases hx with rfl | rfl <;> rfl
    rw [hT] at hm
    dsimp only at hm
    subst hm
    clear hT hx
    obtain ⟨z0, z1, z2, y0, y1, y2⟩ := FIN.out w2 HZ2.out
    go_wp2_with fail
    refine bodyPost_ret (v := .tuple #[.agg #[.slice none 0 0, .slice none 0 0, S []], .int .i64 3]) (by simp [results, Tryd.results30, go_sem, z0, z1, z2]) rfl ?_
    unfold ReadPost
    rw [HQ.out, HGX.out]
    exact ⟨rfl, Below.set3 HW2.out (Nat.le_refl _)⟩
  | ok ls =>
    rw [hT] at hm
    obtain ⟨v, rfl, ho⟩ := hm
    obtain ⟨G, kg, rfl, hlies, _⟩ := own_shape ho (by omega)
    clear ho
    by_cases hl : ls.length = 4
    · obtain ⟨t0, t1, t2, t3, rfl⟩ : ∃ t0 t1 t2 t3, ls = [t0, t1, t2, t3] := by
        match ls, hl with
        | [t0, t1, t2, t3], _ => exact ⟨t0, t1, t2, t3, rfl⟩
      obtain ⟨ad, rfl, had, c0, c1, c2, c3⟩ := Strs.four hlies
      have m1 := texts_mem hT t1 (by simp)
      have m2 := texts_mem hT t2 (by simp)
      have HTT := Lib.hid hT
      clear hl hlies hT
      have HCC : Hid (∀ W, Below w2.heap.size w2 W → W.cell? ad = some (S t0) ∧ W.cell? (ad.add 0) = some (S t0) ∧ W.cell? (ad.add 1) = some (S t1) ∧ W.cell? (ad.add 2) = some (S t2) ∧ W.cell? (ad.add 3) = some (S t3) ∧ W.cell? ⟨ad.block, ad.off + 1, none⟩ = some (S t1) ∧ W.cell? ⟨ad.block, ad.off + 2, none⟩ = some (S t2) ∧ W.cell? ⟨ad.block, ad.off + 3, none⟩ = some (S t3)) := Lib.hid fun W hW => by
        have k0 := (hW.cell (p := ad.add 0) (by rw [add_block]; exact had)).trans c0
        have k1 := (hW.cell (p := ad.add 1) (by rw [add_block]; exact had)).trans c1
        have k2 := (hW.cell (p := ad.add 2) (by rw [add_block]; exact had)).trans c2
        have k3 := (hW.cell (p := ad.add 3) (by rw [add_block]; exact had)).trans c3
        exact ⟨k0, k0, k1, k2, k3, k1, k2, k3⟩
      clear c0 c1 c2 c3
      by_cases hw : t0 = [104, 105, 98, 105]
      · subst hw
        obtain ⟨c0, c0', c1, c2, c3, c1', c2', c3'⟩ := HCC.out w2 (Below.refl _ _)
        go_wp2_with fail
        refine (texts_any w2 t1 (by omega)).mono ?_
        rintro e w3 ⟨hm, hb3⟩
        have HZ3 := Lib.hid (HZ2.out.below hb3 HZ2.out.lt)
        have HW3 := Lib.hid (HW2.out.trans (hb3.mono (by have := HZ2.out.lt; omega)))
        have HB3 := Lib.hid hb3
        have hl3 := hb3.size
        clear hb3 c0 c0' c1 c2 c3 c1' c2' c3'
        cases hT1 : textsA [] t1 with
        | error x =>
          have HQ := Lib.hid (readL_one HTT.out hT1)
          have hx := textsA_err' _ _ _ _ (Nat.le_refl _) hT1
          have hx0 : (x != 0) = true := by rcases hx with rfl | rfl <;> rfl
          rw [hT1] at hm
          dsimp only at hm
          subst hm
          clear hT1 hx
          obtain ⟨z0, z1, z2, y0, y1, y2⟩ := FIN.out w3 HZ3.out
          go_wp2_with fail
          refine bodyPost_ret (v := .tuple #[.agg #[.slice none 0 0, .slice none 0 0, S []], .int .i64 3]) (by simp [results, Tryd.results30, go_sem, z0, z1, z2]) rfl ?_
          unfold ReadPost
          rw [HQ.out, HGX.out]
          exact ⟨rfl, Below.set3 HW3.out (Nat.le_refl _)⟩
        | ok f =>
          rw [hT1] at hm
          obtain ⟨v, rfl, ho⟩ := hm
          obtain ⟨F, kf, rfl, hlf, hfb⟩ := own_shape ho (by omega)
          have HTF := Lib.hid hT1
          have HLF := Lib.hid hlf
          have NF : Hid (∀ ad, F = some ad → gx < ad.block) := Lib.hid (fun ad e => by have := hfb ad e; have := HZ2.out.lt; omega)
          clear ho hT1 hlf hfb
          obtain ⟨c0, c0', c1, c2, c3, c1', c2', c3'⟩ := HCC.out w3 HB3.out
          go_wp2_with fail
          refine (texts_any w3 t2 (by omega)).mono ?_
          rintro e w4 ⟨hm, hb4⟩
          have HZ4 := Lib.hid (HZ3.out.below hb4 HZ3.out.lt)
          have HW4 := Lib.hid (HW3.out.trans (hb4.mono (by have := HZ3.out.lt; omega)))
          have HB4 := Lib.hid (HB3.out.trans (hb4.mono hl3))
          have HLF4 := Lib.hid (Lies.wide (Lies.below HLF.out hb4) hb4.size)
          clear hb4 c0 c0' c1 c2 c3 c1' c2' c3'
          cases hT2 : textsA [] t2 with
          | error x =>
            have HQ := Lib.hid (readL_two HTT.out hT2)
            have hx := textsA_err' _ _ _ _ (Nat.le_refl _) hT2
            have hx0 : (x != 0) = true := by rcases hx with rfl | rfl <;> rfl
            rw [hT2] at hm
            dsimp only at hm
            subst hm
            clear hT2 hx
            obtain ⟨z0, z1, z2, y0, y1, y2⟩ := FIN.out w4 HZ4.out
            go_wp2_with fail
            refine bodyPost_ret (v := .tuple #[.agg #[.slice none 0 0, .slice none 0 0, S []], .int .i64 3]) (by simp [results, Tryd.results30, go_sem, z0, z1, z2]) rfl ?_
            unfold ReadPost
            rw [HQ.out, HGX.out]
            exact ⟨rfl, Below.set3 HW4.out (Nat.le_refl _)⟩
          | ok g =>
            rw [hT2] at hm
            obtain ⟨v, rfl, ho⟩ := hm
            obtain ⟨F', kf', rfl, hlg, hgb⟩ := own_shape ho (by omega)
            have HQ := Lib.hid (readL_ok HTT.out rfl HTF.out hT2)
            have HLG := Lib.hid hlg
            have NF' : Hid (∀ ad, F' = some ad → gx < ad.block) := Lib.hid (fun ad e => by have := hgb ad e; have := HZ3.out.lt; omega)
            clear ho hT2 hlg hgb
            obtain ⟨c0, c0', c1, c2, c3, c1', c2', c3'⟩ := HCC.out w4 HB4.out
            obtain ⟨z0, z1, z2, y0, y1, y2⟩ := FIN.out w4 HZ4.out
            go_wp2_with fail
            refine bodyPost_ret (v := .tuple #[.agg #[.slice F f.length kf, .slice F' g.length kf', S t3], .int .i64 0]) (by simp [results, Tryd.results30, go_sem, z0, z1, z2]) rfl ?_
            unfold ReadPost
            rw [HQ.out, HGX.out]
            exact ⟨⟨F, kf, F', kf', rfl, lies_set3 HLF4.out NF.out, lies_set3 HLG.out NF'.out⟩, Below.set3 HW4.out (Nat.le_refl _)⟩
      · have HQ := Lib.hid (readL_word HTT.out hw)
        have hbe : (t0 == [104, 105, 98, 105]) = false := beq_eq_false_iff_ne.2 hw
        have hbn : (t0 != [104, 105, 98, 105]) = true := by simp [bne, hbe]
        clear hw
        obtain ⟨c0, c0', c1, c2, c3, c1', c2', c3'⟩ := HCC.out w2 (Below.refl _ _)
        obtain ⟨z0, z1, z2, y0, y1, y2⟩ := FIN.out w2 HZ2.out
        go_wp2_with fail
        refine bodyPost_ret (v := .tuple #[.agg #[.slice none 0 0, .slice none 0 0, S []], .int .i64 3]) (by simp [results, Tryd.results30, go_sem, z0, z1, z2]) rfl ?_
        unfold ReadPost
        rw [HQ.out, HGX.out]
        exact ⟨rfl, Below.set3 HW2.out (Nat.le_refl _)⟩
    · have HQ := Lib.hid (readL_len hT hl)
      have e4 : ((ls.length : Int) != 4) = true := by simp; omega
      clear hT hl
      obtain ⟨z0, z1, z2, y0, y1, y2⟩ := FIN.out w2 HZ2.out
      go_wp2_with fail
      refine bodyPost_ret (v := .tuple #[.agg #[.slice none 0 0, .slice none 0 0, S []], .int .i64 3]) (by simp [results, Tryd.results30, go_sem, z0, z1, z2]) rfl ?_
      unfold ReadPost
      rw [HQ.out, HGX.out]
      exact ⟨rfl, Below.set3 HW2.out (Nat.le_refl _)⟩
end Go.Proofs.YtecamaceainfpaaDoor
/-
  Walks: hibernacleref32.of, (T).text, Read.
-/
namespace Go.Proofs.YtecamaceainfpaaDoor
open Go.RowKit

/-- the texts of a row, so many -/
def ofL (b : List UInt8) (z : Int) : Option (List (List UInt8)) :=
  match textsA [] b with
  | .ok ls => if 0 ≤ z ∧ (ls.length : Int) ≠ z then none else some ls
  | .error _ => none
theorem ofL_nil : ofL [] (-1) = some [] := by simp [ofL, textsA_nil]
theorem ofL_ok {t : List UInt8} {f : List (List UInt8)} (h : ofL t (-1) = some f) : textsA [] t = .ok f := by
  unfold ofL at h
  cases hT : textsA [] t with
  | error x => rw [hT] at h; cases h
  | ok ls => rw [hT] at h; dsimp only at h; rw [if_neg (by omega)] at h; injection h with h; rw [h]
theorem ofL_err {t : List UInt8} (h : ofL t (-1) = none) : ∃ x, textsA [] t = .error x := by
  unfold ofL at h
  cases hT : textsA [] t with
  | error x => exact ⟨x, rfl⟩
  | ok ls => rw [hT] at h; dsimp only at h; rw [if_neg (by omega)] at h; cases h
theorem ofL_four {b : List UInt8} {ls : List (List UInt8)} (h : ofL b 4 = some ls) : textsA [] b = .ok ls ∧ ls.length = 4 := by
  unfold ofL at h
  cases hT : textsA [] b with
  | error x => rw [hT] at h; cases h
  | ok l =>
    rw [hT] at h
    dsimp only at h
    split at h
    · cases h
    · injection h with h; subst h; exact ⟨rfl, by omega⟩
def Of32Post (w : World) (q : Option (List (List UInt8))) (e : Ending) (w' : World) : Prop :=
  (match q with
    | none => e = .returned (.agg #[.slice none 0 0, .bool true])
    | some ls => ∃ G k, e = .returned (.agg #[.slice G ls.length k, .bool false]) ∧ Strs w' w'.heap.size G ls ∧ ls.length ≤ k ∧ ∀ ad, G = some ad → w.heap.size ≤ ad.block) ∧ Below w.heap.size w w'
theorem lies_set2 {w : World} {p : Nat} {A : Option Addr} {xs : List Value} {a' b' : Value} (h : Lies w w.heap.size A xs) (hg : ∀ ad, A = some ad → p < ad.block) :
    Lies ((w.setCell ⟨p, 0, none⟩ a').setCell ⟨p, 1, none⟩ b') ((w.setCell ⟨p, 0, none⟩ a').setCell ⟨p, 1, none⟩ b').heap.size A xs := fun k u hu => by
  obtain ⟨ad, e, hb, hc⟩ := h k u hu
  have hp := hg ad e
  refine ⟨ad, e, by simpa [World.setCell] using hb, ?_⟩
  have hn : ∀ o, (⟨p, o, none⟩ : Addr) ≠ ad.add k := fun o e2 => by
    have := congrArg Addr.block e2
    rw [add_block] at this
    simp only at this
    omega
  rw [World.cell?_setCell_other _ _ _ _ (hn 1), World.cell?_setCell_other _ _ _ _ (hn 0)]
  exact hc
theorem below_set2 {B p : Nat} {w0 w : World} {a' b' : Value} (h : Below B w0 w) (hp : B ≤ p) : Below B w0 ((w.setCell ⟨p, 0, none⟩ a').setCell ⟨p, 1, none⟩ b') := (h.setCell (p := ⟨p, 0, none⟩) hp a').setCell (p := ⟨p, 1, none⟩) hp b'
theorem own_cap {w : World} {base : Nat} {e : TypeId} {size n : Nat} {G : Option Addr} {k : Nat} {xs : List Value} (h : w.ownsRow base e size (.slice G n k) n xs) : n ≤ k := by
  rcases h.2 with ⟨e1, e2⟩ | ⟨g, cap, cur, e1, _, _, hnc, _⟩
  · omega
  · injection e1 with _ _ e3; omega
set_option maxRecDepth 100000 in
set_option maxHeartbeats 2000000 in
theorem of32_any (w : World) (b : List UInt8) (z : Int) (hz : z = 4 ∨ z = -1) (hb : b.length ≤ 4294967296) :
    Calls Tryd.prog 63 #[S b, .int .i64 z] w (Of32Post w (ofL b z)) := by
  have HZ := Lib.hid (Whole.made w 91 #[.slice none 0 0, .bool false])
  have HW := Lib.hid ((Below.refl w.heap.size w).alloc (Nat.le_refl _) (.cells #[.slice none 0 0, .bool false] 91))
  go_enter Tryd.func63, Tryd.ntmps63
  go_wp2_with fail
  change Calls _ _ _ (w.alloc (.cells #[.slice none 0 0, .bool false] 91)) _
  generalize w.alloc (.cells #[.slice none 0 0, .bool false] 91) = w1 at *
  generalize hgx : w.heap.size = gx at *
  have HGX := Lib.hid hgx
  clear hgx
  refine (rtexts_any w1 b (by omega)).mono ?_
  rintro e w2 ⟨hm, hb2⟩
  have HZ2 := Lib.hid (HZ.out.below hb2 HZ.out.lt)
  have HW2 := Lib.hid (HW.out.trans (hb2.mono (by have := HZ.out.lt; omega)))
  have hgl := HZ.out.lt
  have z0 : w2.cell? ⟨gx, 0, none⟩ = some (Value.slice none 0 0) := HZ2.out.cell 0
  have z1 : w2.cell? ⟨gx, 1, none⟩ = some (Value.bool false) := HZ2.out.cell 1
  have y0 := HZ2.out.free 0
  have y1 := HZ2.out.free 1
  clear hb2 HZ HW
  cases hT : textsA [] b with
  | error x =>
    have HQ : Hid (ofL b z = none) := Lib.hid (by unfold ofL; rw [hT])
    have hx := textsA_err' _ _ _ _ (Nat.le_refl _) hT
    have hx0 : (x != 0) = true := by rcases hx with rfl | rfl <;> rfl
    rw [hT] at hm
    dsimp only at hm
    subst hm
    clear hT hx
    go_wp2_with fail
    refine bodyPost_ret (v := .agg #[.slice none 0 0, .bool true]) (by simp [results, Tryd.results63, go_sem, z0, z1]) rfl ?_
    unfold Of32Post
    rw [HQ.out, HGX.out]
    exact ⟨rfl, below_set2 HW2.out (Nat.le_refl _)⟩
  | ok ls =>
    rw [hT] at hm
    obtain ⟨v, rfl, ho⟩ := hm
    obtain ⟨G, kg, rfl, hlies, hgb⟩ := own_shape ho (by omega)
    have hcap := own_cap ho
    have HLG := Lib.hid hlies
    have NG : Hid (∀ ad, G = some ad → gx < ad.block) := Lib.hid (fun ad e => by have := hgb ad e; omega)
    clear ho hlies hgb
    by_cases hl : 0 ≤ z ∧ (ls.length : Int) ≠ z
    · have HQ : Hid (ofL b z = none) := Lib.hid (by unfold ofL; rw [hT]; dsimp only; rw [if_pos hl])
      obtain rfl : z = 4 := by omega
      have e4 : ((ls.length : Int) != 4) = true := by simp; omega
      clear hT hl hz
      go_wp2_with fail
      refine bodyPost_ret (v := .agg #[.slice none 0 0, .bool true]) (by simp [results, Tryd.results63, go_sem, z0, z1]) rfl ?_
      unfold Of32Post
      rw [HQ.out, HGX.out]
      exact ⟨rfl, below_set2 HW2.out (Nat.le_refl _)⟩
    · have HQ : Hid (ofL b z = some ls) := Lib.hid (by unfold ofL; rw [hT]; dsimp only; rw [if_neg hl])
      rcases hz with rfl | rfl
      · have e4 : ((ls.length : Int) != 4) = false := by simp; omega
        clear hT hl
        go_wp2_with fail
        refine bodyPost_ret (v := .agg #[.slice G ls.length kg, .bool false]) (by simp [results, Tryd.results63, go_sem, z0, z1]) rfl ?_
        unfold Of32Post
        rw [HQ.out, HGX.out]
        exact ⟨⟨G, kg, rfl, lies_set2 HLG.out NG.out, hcap, fun ad e => Nat.le_of_lt (NG.out ad e)⟩, below_set2 HW2.out (Nat.le_refl _)⟩
      · clear hT hl
        go_wp2_with fail
        refine bodyPost_ret (v := .agg #[.slice G ls.length kg, .bool false]) (by simp [results, Tryd.results63, go_sem, z0, z1]) rfl ?_
        unfold Of32Post
        rw [HQ.out, HGX.out]
        exact ⟨⟨G, kg, rfl, lies_set2 HLG.out NG.out, hcap, fun ad e => Nat.le_of_lt (NG.out ad e)⟩, below_set2 HW2.out (Nat.le_refl _)⟩

theorem add_add' (a : Addr) (i j : Nat) : (a.add i).add j = a.add (i + j) := by
  unfold Addr.add
  by_cases hi : i = 0 <;> by_cases hj : j = 0 <;> simp [hi, hj, Nat.add_assoc]
/-- what text gives back -/
def TextPost (w : World) (B : Nat) (ls : List (List UInt8)) (bad : Bool) (e : Ending) (w' : World) : Prop :=
  (∃ G k, e = .returned (.tuple #[.agg #[.slice G ls.tail.length k, .bool (bad || ls.isEmpty)], S (ls.headD [])]) ∧ Strs w' B G ls.tail ∧ ls.tail.length ≤ k) ∧ Below w.heap.size w w'
set_option maxRecDepth 100000 in
set_option maxHeartbeats 2000000 in
theorem text_any (w : World) (B : Nat) (A : Option Addr) (c : Nat) (ls : List (List UInt8)) (bad : Bool) (hA : Strs w B A ls) (hB : B ≤ w.heap.size) (hc : ls.length ≤ c) (hl : ls.length ≤ 4294967296) :
    Calls Tryd.prog 64 #[.agg #[.slice A ls.length c, .bool bad]] w (TextPost w B ls bad) := by
  have HBB : Hid (∀ o o' : Obj, Below w.heap.size w ((w.alloc o).alloc o')) := Lib.hid fun o o' => ((Below.refl _ _).alloc (Nat.le_refl _) _).alloc (by simp) _
  cases ls with
  | nil =>
    go_enter Tryd.func64, Tryd.ntmps64
    go_wp2_with fail
    refine bodyPost_ret (v := .tuple #[.agg #[.slice A 0 c, .bool true], S []]) (by simp [results, Tryd.results64, go_sem]) rfl ?_
    exact ⟨⟨A, c, by simp, Lies.none _ _ _, by simp⟩, HBB.out _ _⟩
  | cons x r =>
    obtain ⟨ad, rfl, had, c0⟩ := hA 0 _ rfl
    have c0' : w.cell? ad = some (S x) := c0
    have had' : ad.block < w.heap.size := by omega
    have HL : Hid (∀ o o' : Obj, Strs ((w.alloc o).alloc o') B (some ⟨ad.block, ad.off + 1, none⟩) r) := Lib.hid fun o o' j u hu => by
      obtain ⟨ad', e', hb', hc'⟩ := hA (j + 1) u (by simpa using hu)
      injection e' with e'
      subst e'
      refine ⟨_, rfl, had, ?_⟩
      show ((w.alloc o).alloc o').cell? ((ad.add 1).add j) = some u
      rw [add_add', show 1 + j = j + 1 by omega, World.cell?_alloc_lt _ _ _ (by rw [add_block]; simp; omega), World.cell?_alloc_lt _ _ _ (by rw [add_block]; omega)]
      exact hc'
    have e1 : ((r.length : Int) + 1 == 0) = false := by simp; omega
    have hcc : r.length + 1 ≤ c := hc
    by_cases hc1 : c = 1
    · subst hc1
      obtain rfl : r = [] := List.eq_nil_of_length_eq_zero (by omega)
      clear e1
      go_enter Tryd.func64, Tryd.ntmps64
      go_wp2_with fail
      refine bodyPost_ret (v := .tuple #[.agg #[.slice (some ad) 0 0, .bool bad], S x]) (by simp [results, Tryd.results64, go_sem]) rfl ?_
      exact ⟨⟨some ad, 0, by simp, Lies.none _ _ _, by simp⟩, HBB.out _ _⟩
    · go_enter Tryd.func64, Tryd.ntmps64
      go_wp2_with fail
      refine bodyPost_ret (v := .tuple #[.agg #[.slice (some ⟨ad.block, ad.off + 1, none⟩) r.length (c - 1), .bool bad], S x]) (by simp [results, Tryd.results64, go_sem]) rfl ?_
      exact ⟨⟨some ⟨ad.block, ad.off + 1, none⟩, c - 1, by simp, HL.out _ _, by simp; omega⟩, HBB.out _ _⟩

set_option maxRecDepth 100000 in
set_option maxHeartbeats 2000000 in
theorem rread_any (w : World) (b : List UInt8) (hb : b.length ≤ 4294967296) :
    Calls Tryd.prog 31 #[S b] w (ReadPost w (readL b)) := by
  have HZ := Lib.hid (Whole.made w 24 #[.slice none 0 0, .slice none 0 0, S []])
  have HW := Lib.hid ((Below.refl w.heap.size w).alloc (Nat.le_refl _) (.cells #[.slice none 0 0, .slice none 0 0, S []] 24))
  go_enter Tryd.func31, Tryd.ntmps31
  go_wp2_with fail
  change Calls _ _ _ (w.alloc (.cells #[.slice none 0 0, .slice none 0 0, S []] 24)) _
  generalize w.alloc (.cells #[.slice none 0 0, .slice none 0 0, S []] 24) = w1 at *
  generalize hgx : w.heap.size = gx at *
  have HGX := Lib.hid hgx
  clear hgx
  refine (of32_any w1 b 4 (.inl rfl) hb).mono ?_
  rintro e w2 ⟨hm, hb2⟩
  have HZ2 := Lib.hid (HZ.out.below hb2 HZ.out.lt)
  have HW2 := Lib.hid (HW.out.trans (hb2.mono (by have := HZ.out.lt; omega)))
  have hgl := HZ2.out.lt
  clear hb2 HZ HW
  cases hO : ofL b 4 with
  | none =>
    rw [hO] at hm
    dsimp only at hm
    subst hm
    have HQ : Hid (readL b = none) := Lib.hid (by
      cases hT : textsA [] b with
      | error x => exact readL_err hT
      | ok ls =>
        unfold ofL at hO
        rw [hT] at hO
        dsimp only at hO
        split at hO
        · rename_i h; exact readL_len hT (by intro h4; apply h.2; omega)
        · cases hO)
    clear hO
    have HP0 : Hid (Strs w2 w2.heap.size none ([] : List (List UInt8))) := Lib.hid (Lies.none _ _ _)
    have hk0 : ([] : List (List UInt8)).length ≤ 0 := Nat.le_refl _
    have hTB := Whole.made w2 91 #[.slice none 0 0, .bool true]
    have hZB := HZ2.out.block (.cells #[.slice none 0 0, .bool true] 91)
    have hWB := HW2.out.alloc (by omega) (.cells #[.slice none 0 0, .bool true] 91)
    have hPB := Lies.block HP0.out (Nat.le_refl _) (.cells #[.slice none 0 0, .bool true] 91)
    go_wp2_with fail
    change Calls _ _ _ (w2.alloc (.cells #[.slice none 0 0, .bool true] 91)) _
    generalize w2.alloc (.cells #[.slice none 0 0, .bool true] 91) = x0 at *
    generalize w2.heap.size = gt at *
    have HTB := Lib.hid hTB
    have HZB := Lib.hid hZB
    have HWB := Lib.hid hWB
    have HPB := Lib.hid hPB
    clear hTB hZB hWB hPB HZ2 HW2 HP0
    have hlt := HTB.out.lt
    refine (text_any x0 gt none 0 ([] : List (List UInt8)) true HPB.out (by omega) hk0 (by simp)).mono ?_
    rintro e y0 ⟨⟨P1, k1, rfl, hs, hk1⟩, hbl⟩
    have hTB := HTB.out.below hbl HTB.out.lt
    have hZB := HZB.out.below hbl HZB.out.lt
    have hWB := HWB.out.trans (hbl.mono (by omega))
    have t0' : y0.cell? ⟨gt, 0, none⟩ = some (Value.slice none 0 0) := hTB.cell 0
    have t1' : y0.cell? ⟨gt, 1, none⟩ = some (Value.bool true) := hTB.cell 1
    have f0' := hTB.free 0
    have f1' := hTB.free 1
    have hTC : Whole ((y0.setCell ⟨gt, 0, none⟩ (Value.slice P1 0 k1)).setCell ⟨gt, 1, none⟩ (Value.bool true)) gt 91 #[Value.slice P1 0 k1, .bool true] := (hTB.set 0 (Value.slice P1 0 k1)).set 1 (Value.bool true)
    have hZC := (hZB.far (p := ⟨gt, 0, none⟩) (by show gx ≠ gt; omega) (Value.slice P1 0 k1)).far (p := ⟨gt, 1, none⟩) (by show gx ≠ gt; omega) (Value.bool true)
    have hWC := below_set2 (p := gt) (a' := Value.slice P1 0 k1) (b' := Value.bool true) hWB (by omega)
    have hPC : Strs ((y0.setCell ⟨gt, 0, none⟩ (Value.slice P1 0 k1)).setCell ⟨gt, 1, none⟩ (Value.bool true)) gt P1 ([] : List (List UInt8)) := Lies.put (p := ⟨gt, 1, none⟩) (Lies.put (p := ⟨gt, 0, none⟩) hs (Nat.le_refl _) _) (Nat.le_refl _) _
    clear hTB hZB hWB hs hbl HTB HZB HWB HPB hlt
    go_wp2_with fail
    change Calls _ _ _ ((y0.setCell ⟨gt, 0, none⟩ (Value.slice P1 0 k1)).setCell ⟨gt, 1, none⟩ (Value.bool true)) _
    generalize (y0.setCell ⟨gt, 0, none⟩ (Value.slice P1 0 k1)).setCell ⟨gt, 1, none⟩ (Value.bool true) = x1 at *
    clear t0' t1' f0' f1'
    have HTB := Lib.hid hTC
    have HZB := Lib.hid hZC
    have HWB := Lib.hid hWC
    have HPB := Lib.hid hPC
    clear hTC hZC hWC hPC
    have hlt := HTB.out.lt
    refine (text_any x1 gt P1 k1 ([] : List (List UInt8)) true HPB.out (by omega) hk1 (by simp)).mono ?_
    rintro e y1 ⟨⟨P2, k2, rfl, hs, hk2⟩, hbl⟩
    have hTB := HTB.out.below hbl HTB.out.lt
    have hZB := HZB.out.below hbl HZB.out.lt
    have hWB := HWB.out.trans (hbl.mono (by omega))
    have t0' : y1.cell? ⟨gt, 0, none⟩ = some (Value.slice P1 0 k1) := hTB.cell 0
    have t1' : y1.cell? ⟨gt, 1, none⟩ = some (Value.bool true) := hTB.cell 1
    have f0' := hTB.free 0
    have f1' := hTB.free 1
    have hTC : Whole ((y1.setCell ⟨gt, 0, none⟩ (Value.slice P2 0 k2)).setCell ⟨gt, 1, none⟩ (Value.bool true)) gt 91 #[Value.slice P2 0 k2, .bool true] := (hTB.set 0 (Value.slice P2 0 k2)).set 1 (Value.bool true)
    have hZC := (hZB.far (p := ⟨gt, 0, none⟩) (by show gx ≠ gt; omega) (Value.slice P2 0 k2)).far (p := ⟨gt, 1, none⟩) (by show gx ≠ gt; omega) (Value.bool true)
    have hWC := below_set2 (p := gt) (a' := Value.slice P2 0 k2) (b' := Value.bool true) hWB (by omega)
    have hPC : Strs ((y1.setCell ⟨gt, 0, none⟩ (Value.slice P2 0 k2)).setCell ⟨gt, 1, none⟩ (Value.bool true)) gt P2 ([] : List (List UInt8)) := Lies.put (p := ⟨gt, 1, none⟩) (Lies.put (p := ⟨gt, 0, none⟩) hs (Nat.le_refl _) _) (Nat.le_refl _) _
    clear hTB hZB hWB hs hbl HTB HZB HWB HPB hlt
    go_wp2_with fail
    change Calls _ _ _ ((y1.setCell ⟨gt, 0, none⟩ (Value.slice P2 0 k2)).setCell ⟨gt, 1, none⟩ (Value.bool true)) _
    generalize (y1.setCell ⟨gt, 0, none⟩ (Value.slice P2 0 k2)).setCell ⟨gt, 1, none⟩ (Value.bool true) = x2 at *
    clear t0' t1' f0' f1'
    have HTB := Lib.hid hTC
    have HZB := Lib.hid hZC
    have HWB := Lib.hid hWC
    have HPB := Lib.hid hPC
    clear hTC hZC hWC hPC
    have hlt := HTB.out.lt
    refine (text_any x2 gt P2 k2 ([] : List (List UInt8)) true HPB.out (by omega) hk2 (by simp)).mono ?_
    rintro e y2 ⟨⟨P3, k3, rfl, hs, hk3⟩, hbl⟩
    have hTB := HTB.out.below hbl HTB.out.lt
    have hZB := HZB.out.below hbl HZB.out.lt
    have hWB := HWB.out.trans (hbl.mono (by omega))
    have t0' : y2.cell? ⟨gt, 0, none⟩ = some (Value.slice P2 0 k2) := hTB.cell 0
    have t1' : y2.cell? ⟨gt, 1, none⟩ = some (Value.bool true) := hTB.cell 1
    have f0' := hTB.free 0
    have f1' := hTB.free 1
    have hTC : Whole ((y2.setCell ⟨gt, 0, none⟩ (Value.slice P3 0 k3)).setCell ⟨gt, 1, none⟩ (Value.bool true)) gt 91 #[Value.slice P3 0 k3, .bool true] := (hTB.set 0 (Value.slice P3 0 k3)).set 1 (Value.bool true)
    have hZC := (hZB.far (p := ⟨gt, 0, none⟩) (by show gx ≠ gt; omega) (Value.slice P3 0 k3)).far (p := ⟨gt, 1, none⟩) (by show gx ≠ gt; omega) (Value.bool true)
    have hWC := below_set2 (p := gt) (a' := Value.slice P3 0 k3) (b' := Value.bool true) hWB (by omega)
    have hPC : Strs ((y2.setCell ⟨gt, 0, none⟩ (Value.slice P3 0 k3)).setCell ⟨gt, 1, none⟩ (Value.bool true)) gt P3 ([] : List (List UInt8)) := Lies.put (p := ⟨gt, 1, none⟩) (Lies.put (p := ⟨gt, 0, none⟩) hs (Nat.le_refl _) _) (Nat.le_refl _) _
    clear hTB hZB hWB hs hbl HTB HZB HWB HPB hlt
    go_wp2_with fail
    change Calls _ _ _ ((y2.setCell ⟨gt, 0, none⟩ (Value.slice P3 0 k3)).setCell ⟨gt, 1, none⟩ (Value.bool true)) _
    generalize (y2.setCell ⟨gt, 0, none⟩ (Value.slice P3 0 k3)).setCell ⟨gt, 1, none⟩ (Value.bool true) = x3 at *
    clear t0' t1' f0' f1'
    have HTB := Lib.hid hTC
    have HZB := Lib.hid hZC
    have HWB := Lib.hid hWC
    have HPB := Lib.hid hPC
    clear hTC hZC hWC hPC
    have hlt := HTB.out.lt
    refine (text_any x3 gt P3 k3 ([] : List (List UInt8)) true HPB.out (by omega) hk3 (by simp)).mono ?_
    rintro e y3 ⟨⟨P4, k4, rfl, hs, hk4⟩, hbl⟩
    have hTB := HTB.out.below hbl HTB.out.lt
    have hZB := HZB.out.below hbl HZB.out.lt
    have hWB := HWB.out.trans (hbl.mono (by omega))
    have t0' : y3.cell? ⟨gt, 0, none⟩ = some (Value.slice P3 0 k3) := hTB.cell 0
    have t1' : y3.cell? ⟨gt, 1, none⟩ = some (Value.bool true) := hTB.cell 1
    have f0' := hTB.free 0
    have f1' := hTB.free 1
    have hTC : Whole ((y3.setCell ⟨gt, 0, none⟩ (Value.slice P4 0 k4)).setCell ⟨gt, 1, none⟩ (Value.bool true)) gt 91 #[Value.slice P4 0 k4, .bool true] := (hTB.set 0 (Value.slice P4 0 k4)).set 1 (Value.bool true)
    have hZC := (hZB.far (p := ⟨gt, 0, none⟩) (by show gx ≠ gt; omega) (Value.slice P4 0 k4)).far (p := ⟨gt, 1, none⟩) (by show gx ≠ gt; omega) (Value.bool true)
    have hWC := below_set2 (p := gt) (a' := Value.slice P4 0 k4) (b' := Value.bool true) hWB (by omega)
    have hPC : Strs ((y3.setCell ⟨gt, 0, none⟩ (Value.slice P4 0 k4)).setCell ⟨gt, 1, none⟩ (Value.bool true)) gt P4 ([] : List (List UInt8)) := Lies.put (p := ⟨gt, 1, none⟩) (Lies.put (p := ⟨gt, 0, none⟩) hs (Nat.le_refl _) _) (Nat.le_refl _) _
    clear hTB hZB hWB hs hbl HTB HZB HWB HPB hlt
    go_wp2_with fail
    change Calls _ _ _ ((y3.setCell ⟨gt, 0, none⟩ (Value.slice P4 0 k4)).setCell ⟨gt, 1, none⟩ (Value.bool true)) _
    generalize (y3.setCell ⟨gt, 0, none⟩ (Value.slice P4 0 k4)).setCell ⟨gt, 1, none⟩ (Value.bool true) = x4 at *
    clear t0' t1' f0' f1'
    have HTB := Lib.hid hTC
    have HZB := Lib.hid hZC
    have HWB := Lib.hid hWC
    have HPB := Lib.hid hPC
    clear hTC hZC hWC hPC
    have hlt := HTB.out.lt
    clear HPB
    refine (of32_any x4 ([] : List UInt8) (-1) (.inr rfl) (by simp)).mono ?_
    rintro e x5 ⟨hm, hbl⟩
    have hTB := HTB.out.below hbl HTB.out.lt
    have hZB := HZB.out.below hbl HZB.out.lt
    have hWB := HWB.out.trans (hbl.mono (by omega))
    have HBL := Lib.hid hbl
    have hszsx5 : gt < x4.heap.size := hlt
    clear hbl HTB HZB HWB hlt
    have HTB := Lib.hid hTB
    have HZB := Lib.hid hZB
    have HWB := Lib.hid hWB
    clear hTB hZB hWB
    have hlt := HTB.out.lt
    rw [ofL_nil] at hm
    obtain ⟨F, kf, rfl, hlf, _, _⟩ := hm
    clear hlf HBL
    go_wp2_with fail
    refine (of32_any x5 ([] : List UInt8) (-1) (.inr rfl) (by simp)).mono ?_
    rintro e x6 ⟨hm, hbl⟩
    have hTB := HTB.out.below hbl HTB.out.lt
    have hZB := HZB.out.below hbl HZB.out.lt
    have hWB := HWB.out.trans (hbl.mono (by omega))
    have HBL := Lib.hid hbl
    have hszsx6 : gt < x5.heap.size := hlt
    clear hbl HTB HZB HWB hlt
    have HTB := Lib.hid hTB
    have HZB := Lib.hid hZB
    have HWB := Lib.hid hWB
    clear hTB hZB hWB
    have hlt := HTB.out.lt
    rw [ofL_nil] at hm
    obtain ⟨F', kf', rfl, hlg, _, _⟩ := hm
    clear hlg HBL
    have t0' : x6.cell? ⟨gt, 0, none⟩ = some (Value.slice P4 0 k4) := HTB.out.cell 0
    have t1' : x6.cell? ⟨gt, 1, none⟩ = some (Value.bool true) := HTB.out.cell 1
    have z0 : x6.cell? ⟨gx, 0, none⟩ = some (Value.slice none 0 0) := HZB.out.cell 0
    have z1 : x6.cell? ⟨gx, 1, none⟩ = some (Value.slice none 0 0) := HZB.out.cell 1
    have z2 : x6.cell? ⟨gx, 2, none⟩ = some (S []) := HZB.out.cell 2
    have y0 := HZB.out.free 0
    have y1 := HZB.out.free 1
    have y2 := HZB.out.free 2
    have hlx := HZB.out.lt
    go_wp2_with fail
    refine bodyPost_ret (v := .tuple #[.agg #[.slice none 0 0, .slice none 0 0, S []], .int .i64 3]) (by simp [results, Tryd.results31, go_sem, z0, z1, z2, hlx]) rfl ?_
    unfold ReadPost
    rw [HQ.out, HGX.out]
    exact ⟨rfl, ((Below.set3 HWB.out (Nat.le_refl _)).alloc (by simp [World.setCell]; omega) _).alloc (by simp [World.setCell]; omega) _⟩
  | some ls =>
    obtain ⟨hTT, hl4⟩ := ofL_four hO
    rw [hO] at hm
    obtain ⟨t0, t1, t2, t3, rfl⟩ : ∃ t0 t1 t2 t3, ls = [t0, t1, t2, t3] := by
      match ls, hl4 with
      | [t0, t1, t2, t3], _ => exact ⟨t0, t1, t2, t3, rfl⟩
    obtain ⟨P0, k0, rfl, hP, hk0, _⟩ := hm
    have m1 := texts_mem hTT t1 (by simp)
    have m2 := texts_mem hTT t2 (by simp)
    have HTT := Lib.hid hTT
    have HP0 := Lib.hid hP
    clear hO hl4 hTT hP
    have hTB := Whole.made w2 91 #[.slice P0 4 k0, .bool false]
    have hZB := HZ2.out.block (.cells #[.slice P0 4 k0, .bool false] 91)
    have hWB := HW2.out.alloc (by omega) (.cells #[.slice P0 4 k0, .bool false] 91)
    have hPB := Lies.block HP0.out (Nat.le_refl _) (.cells #[.slice P0 4 k0, .bool false] 91)
    go_wp2_with fail
    change Calls _ _ _ (w2.alloc (.cells #[.slice P0 4 k0, .bool false] 91)) _
    generalize w2.alloc (.cells #[.slice P0 4 k0, .bool false] 91) = x0 at *
    generalize w2.heap.size = gt at *
    have HTB := Lib.hid hTB
    have HZB := Lib.hid hZB
    have HWB := Lib.hid hWB
    have HPB := Lib.hid hPB
    clear hTB hZB hWB hPB HZ2 HW2 HP0
    have hlt := HTB.out.lt
    refine (text_any x0 gt P0 k0 [t0, t1, t2, t3] false HPB.out (by omega) hk0 (by simp)).mono ?_
    rintro e y0 ⟨⟨P1, k1, rfl, hs, hk1⟩, hbl⟩
    have hTB := HTB.out.below hbl HTB.out.lt
    have hZB := HZB.out.below hbl HZB.out.lt
    have hWB := HWB.out.trans (hbl.mono (by omega))
    have t0' : y0.cell? ⟨gt, 0, none⟩ = some (Value.slice P0 4 k0) := hTB.cell 0
    have t1' : y0.cell? ⟨gt, 1, none⟩ = some (Value.bool false) := hTB.cell 1
    have f0' := hTB.free 0
    have f1' := hTB.free 1
    have hTC : Whole ((y0.setCell ⟨gt, 0, none⟩ (Value.slice P1 3 k1)).setCell ⟨gt, 1, none⟩ (Value.bool false)) gt 91 #[Value.slice P1 3 k1, .bool false] := (hTB.set 0 (Value.slice P1 3 k1)).set 1 (Value.bool false)
    have hZC := (hZB.far (p := ⟨gt, 0, none⟩) (by show gx ≠ gt; omega) (Value.slice P1 3 k1)).far (p := ⟨gt, 1, none⟩) (by show gx ≠ gt; omega) (Value.bool false)
    have hWC := below_set2 (p := gt) (a' := Value.slice P1 3 k1) (b' := Value.bool false) hWB (by omega)
    have hPC : Strs ((y0.setCell ⟨gt, 0, none⟩ (Value.slice P1 3 k1)).setCell ⟨gt, 1, none⟩ (Value.bool false)) gt P1 [t1, t2, t3] := Lies.put (p := ⟨gt, 1, none⟩) (Lies.put (p := ⟨gt, 0, none⟩) hs (Nat.le_refl _) _) (Nat.le_refl _) _
    clear hTB hZB hWB hs hbl HTB HZB HWB HPB hlt
    go_wp2_with fail
    change Calls _ _ _ ((y0.setCell ⟨gt, 0, none⟩ (Value.slice P1 3 k1)).setCell ⟨gt, 1, none⟩ (Value.bool false)) _
    generalize (y0.setCell ⟨gt, 0, none⟩ (Value.slice P1 3 k1)).setCell ⟨gt, 1, none⟩ (Value.bool false) = x1 at *
    clear t0' t1' f0' f1'
    have HTB := Lib.hid hTC
    have HZB := Lib.hid hZC
    have HWB := Lib.hid hWC
    have HPB := Lib.hid hPC
    clear hTC hZC hWC hPC
    have hlt := HTB.out.lt
    refine (text_any x1 gt P1 k1 [t1, t2, t3] false HPB.out (by omega) hk1 (by simp)).mono ?_
    rintro e y1 ⟨⟨P2, k2, rfl, hs, hk2⟩, hbl⟩
    have hTB := HTB.out.below hbl HTB.out.lt
    have hZB := HZB.out.below hbl HZB.out.lt
    have hWB := HWB.out.trans (hbl.mono (by omega))
    have t0' : y1.cell? ⟨gt, 0, none⟩ = some (Value.slice P1 3 k1) := hTB.cell 0
    have t1' : y1.cell? ⟨gt, 1, none⟩ = some (Value.bool false) := hTB.cell 1
    have f0' := hTB.free 0
    have f1' := hTB.free 1
    have hTC : Whole ((y1.setCell ⟨gt, 0, none⟩ (Value.slice P2 2 k2)).setCell ⟨gt, 1, none⟩ (Value.bool false)) gt 91 #[Value.slice P2 2 k2, .bool false] := (hTB.set 0 (Value.slice P2 2 k2)).set 1 (Value.bool false)
    have hZC := (hZB.far (p := ⟨gt, 0, none⟩) (by show gx ≠ gt; omega) (Value.slice P2 2 k2)).far (p := ⟨gt, 1, none⟩) (by show gx ≠ gt; omega) (Value.bool false)
    have hWC := below_set2 (p := gt) (a' := Value.slice P2 2 k2) (b' := Value.bool false) hWB (by omega)
    have hPC : Strs ((y1.setCell ⟨gt, 0, none⟩ (Value.slice P2 2 k2)).setCell ⟨gt, 1, none⟩ (Value.bool false)) gt P2 [t2, t3] := Lies.put (p := ⟨gt, 1, none⟩) (Lies.put (p := ⟨gt, 0, none⟩) hs (Nat.le_refl _) _) (Nat.le_refl _) _
    clear hTB hZB hWB hs hbl HTB HZB HWB HPB hlt
    go_wp2_with fail
    change Calls _ _ _ ((y1.setCell ⟨gt, 0, none⟩ (Value.slice P2 2 k2)).setCell ⟨gt, 1, none⟩ (Value.bool false)) _
    generalize (y1.setCell ⟨gt, 0, none⟩ (Value.slice P2 2 k2)).setCell ⟨gt, 1, none⟩ (Value.bool false) = x2 at *
    clear t0' t1' f0' f1'
    have HTB := Lib.hid hTC
    have HZB := Lib.hid hZC
    have HWB := Lib.hid hWC
    have HPB := Lib.hid hPC
    clear hTC hZC hWC hPC
    have hlt := HTB.out.lt
    refine (text_any x2 gt P2 k2 [t2, t3] false HPB.out (by omega) hk2 (by simp)).mono ?_
    rintro e y2 ⟨⟨P3, k3, rfl, hs, hk3⟩, hbl⟩
    have hTB := HTB.out.below hbl HTB.out.lt
    have hZB := HZB.out.below hbl HZB.out.lt
    have hWB := HWB.out.trans (hbl.mono (by omega))
    have t0' : y2.cell? ⟨gt, 0, none⟩ = some (Value.slice P2 2 k2) := hTB.cell 0
    have t1' : y2.cell? ⟨gt, 1, none⟩ = some (Value.bool false) := hTB.cell 1
    have f0' := hTB.free 0
    have f1' := hTB.free 1
    have hTC : Whole ((y2.setCell ⟨gt, 0, none⟩ (Value.slice P3 1 k3)).setCell ⟨gt, 1, none⟩ (Value.bool false)) gt 91 #[Value.slice P3 1 k3, .bool false] := (hTB.set 0 (Value.slice P3 1 k3)).set 1 (Value.bool false)
    have hZC := (hZB.far (p := ⟨gt, 0, none⟩) (by show gx ≠ gt; omega) (Value.slice P3 1 k3)).far (p := ⟨gt, 1, none⟩) (by show gx ≠ gt; omega) (Value.bool false)
    have hWC := below_set2 (p := gt) (a' := Value.slice P3 1 k3) (b' := Value.bool false) hWB (by omega)
    have hPC : Strs ((y2.setCell ⟨gt, 0, none⟩ (Value.slice P3 1 k3)).setCell ⟨gt, 1, none⟩ (Value.bool false)) gt P3 [t3] := Lies.put (p := ⟨gt, 1, none⟩) (Lies.put (p := ⟨gt, 0, none⟩) hs (Nat.le_refl _) _) (Nat.le_refl _) _
    clear hTB hZB hWB hs hbl HTB HZB HWB HPB hlt
    go_wp2_with fail
    change Calls _ _ _ ((y2.setCell ⟨gt, 0, none⟩ (Value.slice P3 1 k3)).setCell ⟨gt, 1, none⟩ (Value.bool false)) _
    generalize (y2.setCell ⟨gt, 0, none⟩ (Value.slice P3 1 k3)).setCell ⟨gt, 1, none⟩ (Value.bool false) = x3 at *
    clear t0' t1' f0' f1'
    have HTB := Lib.hid hTC
    have HZB := Lib.hid hZC
    have HWB := Lib.hid hWC
    have HPB := Lib.hid hPC
    clear hTC hZC hWC hPC
    have hlt := HTB.out.lt
    refine (text_any x3 gt P3 k3 [t3] false HPB.out (by omega) hk3 (by simp)).mono ?_
    rintro e y3 ⟨⟨P4, k4, rfl, hs, hk4⟩, hbl⟩
    have hTB := HTB.out.below hbl HTB.out.lt
    have hZB := HZB.out.below hbl HZB.out.lt
    have hWB := HWB.out.trans (hbl.mono (by omega))
    have t0' : y3.cell? ⟨gt, 0, none⟩ = some (Value.slice P3 1 k3) := hTB.cell 0
    have t1' : y3.cell? ⟨gt, 1, none⟩ = some (Value.bool false) := hTB.cell 1
    have f0' := hTB.free 0
    have f1' := hTB.free 1
    have hTC : Whole ((y3.setCell ⟨gt, 0, none⟩ (Value.slice P4 0 k4)).setCell ⟨gt, 1, none⟩ (Value.bool false)) gt 91 #[Value.slice P4 0 k4, .bool false] := (hTB.set 0 (Value.slice P4 0 k4)).set 1 (Value.bool false)
    have hZC := (hZB.far (p := ⟨gt, 0, none⟩) (by show gx ≠ gt; omega) (Value.slice P4 0 k4)).far (p := ⟨gt, 1, none⟩) (by show gx ≠ gt; omega) (Value.bool false)
    have hWC := below_set2 (p := gt) (a' := Value.slice P4 0 k4) (b' := Value.bool false) hWB (by omega)
    have hPC : Strs ((y3.setCell ⟨gt, 0, none⟩ (Value.slice P4 0 k4)).setCell ⟨gt, 1, none⟩ (Value.bool false)) gt P4 ([] : List (List UInt8)) := Lies.put (p := ⟨gt, 1, none⟩) (Lies.put (p := ⟨gt, 0, none⟩) hs (Nat.le_refl _) _) (Nat.le_refl _) _
    clear hTB hZB hWB hs hbl HTB HZB HWB HPB hlt
    go_wp2_with fail
    change Calls _ _ _ ((y3.setCell ⟨gt, 0, none⟩ (Value.slice P4 0 k4)).setCell ⟨gt, 1, none⟩ (Value.bool false)) _
    generalize (y3.setCell ⟨gt, 0, none⟩ (Value.slice P4 0 k4)).setCell ⟨gt, 1, none⟩ (Value.bool false) = x4 at *
    clear t0' t1' f0' f1'
    have HTB := Lib.hid hTC
    have HZB := Lib.hid hZC
    have HWB := Lib.hid hWC
    have HPB := Lib.hid hPC
    clear hTC hZC hWC hPC
    have hlt := HTB.out.lt
    clear HPB
    refine (of32_any x4 t1 (-1) (.inr rfl) (by omega)).mono ?_
    rintro e x5 ⟨hm, hbl⟩
    have hTB := HTB.out.below hbl HTB.out.lt
    have hZB := HZB.out.below hbl HZB.out.lt
    have hWB := HWB.out.trans (hbl.mono (by omega))
    have HBL := Lib.hid hbl
    have hszsx5 : gt < x4.heap.size := hlt
    clear hbl HTB HZB HWB hlt
    have HTB := Lib.hid hTB
    have HZB := Lib.hid hZB
    have HWB := Lib.hid hWB
    clear hTB hZB hWB
    have hlt := HTB.out.lt
    cases hf : ofL t1 (-1) with
    | none =>
      rw [hf] at hm
      dsimp only at hm
      subst hm
      have HQ : Hid (readL b = none) := Lib.hid (by obtain ⟨x, hx⟩ := ofL_err hf; exact readL_one HTT.out hx)
      clear hf HBL
      go_wp2_with fail
      refine (of32_any x5 t2 (-1) (.inr rfl) (by omega)).mono ?_
      rintro e x6 ⟨hm, hbl⟩
      have hTB := HTB.out.below hbl HTB.out.lt
      have hZB := HZB.out.below hbl HZB.out.lt
      have hWB := HWB.out.trans (hbl.mono (by omega))
      have HBL := Lib.hid hbl
      have hszsx6 : gt < x5.heap.size := hlt
      clear hbl HTB HZB HWB hlt
      have HTB := Lib.hid hTB
      have HZB := Lib.hid hZB
      have HWB := Lib.hid hWB
      clear hTB hZB hWB
      have hlt := HTB.out.lt
      cases hg : ofL t2 (-1) with
      | none =>
        rw [hg] at hm
        dsimp only at hm
        subst hm
        clear hg HBL
        have t0' : x6.cell? ⟨gt, 0, none⟩ = some (Value.slice P4 0 k4) := HTB.out.cell 0
        have t1' : x6.cell? ⟨gt, 1, none⟩ = some (Value.bool false) := HTB.out.cell 1
        have z0 : x6.cell? ⟨gx, 0, none⟩ = some (Value.slice none 0 0) := HZB.out.cell 0
        have z1 : x6.cell? ⟨gx, 1, none⟩ = some (Value.slice none 0 0) := HZB.out.cell 1
        have z2 : x6.cell? ⟨gx, 2, none⟩ = some (S []) := HZB.out.cell 2
        have y0 := HZB.out.free 0
        have y1 := HZB.out.free 1
        have y2 := HZB.out.free 2
        have hlx := HZB.out.lt
        go_wp2_with fail
        refine bodyPost_ret (v := .tuple #[.agg #[.slice none 0 0, .slice none 0 0, S []], .int .i64 3]) (by simp [results, Tryd.results31, go_sem, z0, z1, z2, hlx]) rfl ?_
        unfold ReadPost
        rw [HQ.out, HGX.out]
        exact ⟨rfl, ((Below.set3 HWB.out (Nat.le_refl _)).alloc (by simp [World.setCell]; omega) _).alloc (by simp [World.setCell]; omega) _⟩
      | some g =>
        rw [hg] at hm
        obtain ⟨F', kf', rfl, hlg, _, hgb⟩ := hm
        clear hg hlg HBL hgb
        have t0' : x6.cell? ⟨gt, 0, none⟩ = some (Value.slice P4 0 k4) := HTB.out.cell 0
        have t1' : x6.cell? ⟨gt, 1, none⟩ = some (Value.bool false) := HTB.out.cell 1
        have z0 : x6.cell? ⟨gx, 0, none⟩ = some (Value.slice none 0 0) := HZB.out.cell 0
        have z1 : x6.cell? ⟨gx, 1, none⟩ = some (Value.slice none 0 0) := HZB.out.cell 1
        have z2 : x6.cell? ⟨gx, 2, none⟩ = some (S []) := HZB.out.cell 2
        have y0 := HZB.out.free 0
        have y1 := HZB.out.free 1
        have y2 := HZB.out.free 2
        have hlx := HZB.out.lt
        go_wp2_with fail
        refine bodyPost_ret (v := .tuple #[.agg #[.slice none 0 0, .slice none 0 0, S []], .int .i64 3]) (by simp [results, Tryd.results31, go_sem, z0, z1, z2, hlx]) rfl ?_
        unfold ReadPost
        rw [HQ.out, HGX.out]
        exact ⟨rfl, ((Below.set3 HWB.out (Nat.le_refl _)).alloc (by simp [World.setCell]; omega) _).alloc (by simp [World.setCell]; omega) _⟩
    | some f =>
      rw [hf] at hm
      obtain ⟨F, kf, rfl, hlf, _, hfb⟩ := hm
      have NF : Hid (∀ ad, F = some ad → gx < ad.block) := Lib.hid (fun ad e => by have := hfb ad e; omega)
      clear hfb
      have HTF := Lib.hid (ofL_ok hf)
      have HLF := Lib.hid hlf
      clear hf hlf HBL
      go_wp2_with fail
      refine (of32_any x5 t2 (-1) (.inr rfl) (by omega)).mono ?_
      rintro e x6 ⟨hm, hbl⟩
      have hTB := HTB.out.below hbl HTB.out.lt
      have hZB := HZB.out.below hbl HZB.out.lt
      have hWB := HWB.out.trans (hbl.mono (by omega))
      have HBL := Lib.hid hbl
      have hszsx6 : gt < x5.heap.size := hlt
      clear hbl HTB HZB HWB hlt
      have HTB := Lib.hid hTB
      have HZB := Lib.hid hZB
      have HWB := Lib.hid hWB
      clear hTB hZB hWB
      have hlt := HTB.out.lt
      have HLF6 := Lib.hid (Lies.wide (Lies.below HLF.out HBL.out) HBL.out.size)
      have hl6 := HBL.out.size
      cases hg : ofL t2 (-1) with
      | none =>
        rw [hg] at hm
        dsimp only at hm
        subst hm
        have HQ : Hid (readL b = none) := Lib.hid (by obtain ⟨x, hx⟩ := ofL_err hg; exact readL_two HTT.out hx)
        clear hg HBL
        have t0' : x6.cell? ⟨gt, 0, none⟩ = some (Value.slice P4 0 k4) := HTB.out.cell 0
        have t1' : x6.cell? ⟨gt, 1, none⟩ = some (Value.bool false) := HTB.out.cell 1
        have z0 : x6.cell? ⟨gx, 0, none⟩ = some (Value.slice none 0 0) := HZB.out.cell 0
        have z1 : x6.cell? ⟨gx, 1, none⟩ = some (Value.slice none 0 0) := HZB.out.cell 1
        have z2 : x6.cell? ⟨gx, 2, none⟩ = some (S []) := HZB.out.cell 2
        have y0 := HZB.out.free 0
        have y1 := HZB.out.free 1
        have y2 := HZB.out.free 2
        have hlx := HZB.out.lt
        go_wp2_with fail
        refine bodyPost_ret (v := .tuple #[.agg #[.slice none 0 0, .slice none 0 0, S []], .int .i64 3]) (by simp [results, Tryd.results31, go_sem, z0, z1, z2, hlx]) rfl ?_
        unfold ReadPost
        rw [HQ.out, HGX.out]
        exact ⟨rfl, ((Below.set3 HWB.out (Nat.le_refl _)).alloc (by simp [World.setCell]; omega) _).alloc (by simp [World.setCell]; omega) _⟩
      | some g =>
        rw [hg] at hm
        obtain ⟨F', kf', rfl, hlg, _, hgb⟩ := hm
        have NF' : Hid (∀ ad, F' = some ad → gx < ad.block) := Lib.hid (fun ad e => by have := hgb ad e; omega)
        clear hgb
        have HTG := Lib.hid (ofL_ok hg)
        have HLG := Lib.hid hlg
        clear hg hlg HBL
        by_cases hw : t0 = [104, 105, 98, 105]
        · subst hw
          have HQ := Lib.hid (readL_ok HTT.out rfl HTF.out HTG.out)
          have t0' : x6.cell? ⟨gt, 0, none⟩ = some (Value.slice P4 0 k4) := HTB.out.cell 0
          have t1' : x6.cell? ⟨gt, 1, none⟩ = some (Value.bool false) := HTB.out.cell 1
          have z0 : x6.cell? ⟨gx, 0, none⟩ = some (Value.slice none 0 0) := HZB.out.cell 0
          have z1 : x6.cell? ⟨gx, 1, none⟩ = some (Value.slice none 0 0) := HZB.out.cell 1
          have z2 : x6.cell? ⟨gx, 2, none⟩ = some (S []) := HZB.out.cell 2
          have y0 := HZB.out.free 0
          have y1 := HZB.out.free 1
          have y2 := HZB.out.free 2
          have hlx := HZB.out.lt
          go_wp2_with fail
          refine bodyPost_ret (v := .tuple #[.agg #[.slice F f.length kf, .slice F' g.length kf', S t3], .int .i64 0]) (by simp [results, Tryd.results31, go_sem, z0, z1, z2, hlx]) rfl ?_
          unfold ReadPost
          rw [HQ.out, HGX.out]
          exact ⟨⟨F, kf, F', kf', rfl, Lies.block' (Lies.block' (lies_set3 HLF6.out NF.out) _) _, Lies.block' (Lies.block' (lies_set3 HLG.out NF'.out) _) _⟩, ((Below.set3 HWB.out (Nat.le_refl _)).alloc (by simp [World.setCell]; omega) _).alloc (by simp [World.setCell]; omega) _⟩
        · have HQ := Lib.hid (readL_word HTT.out hw)
          have hbe : (t0 == [104, 105, 98, 105]) = false := beq_eq_false_iff_ne.2 hw
          have hbn : (t0 != [104, 105, 98, 105]) = true := by simp [bne, hbe]
          clear hw
          have t0' : x6.cell? ⟨gt, 0, none⟩ = some (Value.slice P4 0 k4) := HTB.out.cell 0
          have t1' : x6.cell? ⟨gt, 1, none⟩ = some (Value.bool false) := HTB.out.cell 1
          have z0 : x6.cell? ⟨gx, 0, none⟩ = some (Value.slice none 0 0) := HZB.out.cell 0
          have z1 : x6.cell? ⟨gx, 1, none⟩ = some (Value.slice none 0 0) := HZB.out.cell 1
          have z2 : x6.cell? ⟨gx, 2, none⟩ = some (S []) := HZB.out.cell 2
          have y0 := HZB.out.free 0
          have y1 := HZB.out.free 1
          have y2 := HZB.out.free 2
          have hlx := HZB.out.lt
          go_wp2_with fail
          refine bodyPost_ret (v := .tuple #[.agg #[.slice none 0 0, .slice none 0 0, S []], .int .i64 3]) (by simp [results, Tryd.results31, go_sem, z0, z1, z2, hlx]) rfl ?_
          unfold ReadPost
          rw [HQ.out, HGX.out]
          exact ⟨rfl, ((Below.set3 HWB.out (Nat.le_refl _)).alloc (by simp [World.setCell]; omega) _).alloc (by simp [World.setCell]; omega) _⟩
end Go.Proofs.YtecamaceainfpaaDoor
/-
  Walks: hibernacleref32.texts, Same; state.numbers, state.Check, image.Of of the machine without anything; hibernaclelaw32.awake.
-/
namespace Go.Proofs.YtecamaceainfpaaDoor
open Go.RowKit

set_option maxRecDepth 100000 in
set_option maxHeartbeats 1000000 in
theorem texts32_any (w : World) (A B : Option Addr) (c d : Nat) (a b : List (List UInt8)) (hA : Strs w w.heap.size A a) (hB : Strs w w.heap.size B b) (ha : a.length ≤ 1099511627776) (hb : b.length ≤ 1099511627776) :
    Calls Tryd.prog 65 #[.slice A a.length c, .slice B b.length d] w fun e w' => e = .returned (.bool (decide (a = b))) ∧ Below w.heap.size w w' := by
  have HA := Lib.hid hA
  have HB := Lib.hid hB
  clear hA hB
  by_cases hl : a.length = b.length
  · have n1 : ((a.length : Int) != (b.length : Int)) = false := by simp [hl]
    have n2 : (a.length != b.length) = false := by simp [hl]
    have HL := Lib.hid hl
    clear hl
    go_enter Tryd.func65, Tryd.ntmps65
    go_wp2_with fail
    clear n1 n2
    go_loopw [13] (fun i wr => ∃ k : Nat, k ≤ a.length ∧ i = .int .i64 k ∧ Hid (a.take k = b.take k) ∧ Hid (Below w.heap.size w wr)) (fun i _ => a.length - (intOf i).toNat)
    case atStart => exact ⟨0, by omega, rfl, Lib.hid rfl, Lib.hid (Below.refl _ _)⟩
    case round =>
      obtain ⟨k, hk, rfl, HE, HW⟩ := hrel
      by_cases hlt : k < a.length
      · have hltb : k < b.length := by rw [← HL.out]; exact hlt
        obtain ⟨ad, rfl, had, a0⟩ := HA.out.at' hlt
        obtain ⟨bd, rfl, hbd, b0⟩ := HB.out.at' hltb
        have a0' : wr.cell? (ad.add k) = _ := (HW.out.cell (by rw [add_block]; exact had)).trans a0
        have b0' : wr.cell? (bd.add k) = _ := (HW.out.cell (by rw [add_block]; exact hbd)).trans b0
        clear a0 b0
        have TA : Hid (a.take (k + 1) = a.take k ++ [a.getD k []]) := Lib.hid (by rw [List.take_succ_eq_append_getElem hlt]; simp [List.getD, hlt])
        have TB : Hid (b.take (k + 1) = b.take k ++ [b.getD k []]) := Lib.hid (by rw [List.take_succ_eq_append_getElem hltb]; simp [List.getD, hltb])
        have HN : Hid (a.getD k [] ≠ b.getD k [] → decide (a = b) = false) := Lib.hid (fun hne => by simp; rintro rfl; exact hne rfl)
        generalize a.getD k [] = x at *
        generalize b.getD k [] = y at *
        have i0 : (0 : Int) ≤ (k : Int) := by omega
        have i1 : (k : Int) < (a.length : Int) := by omega
        have i2 : (k : Int) < (b.length : Int) := by omega
        by_cases h2 : x = y
        · subst h2
          clear HN
          go_wp2_with fail
          go_quiet (fail)
          go_wp2_with fail
          go_roundw
          case rel =>
            have R : ∀ M : Nat, ∃ k' : Nat, k' ≤ a.length ∧ Value.int .i64 ((k : Int) + 1) = .int .i64 k' ∧ Hid (a.take k' = b.take k') ∧ Hid (Below w.heap.size w (wr.drewN M)) := fun M => ⟨k + 1, by omega, by go_num, Lib.hid (by rw [TA.out, TB.out, HE.out]), Lib.hid (Below.draws HW.out _)⟩
            first | exact R _ | ((repeat apply Exists.intro); exact ⟨R _, rfl⟩)
          case measure => simp [intOf]; omega
        · have hbe : (x == y) = false := beq_eq_false_iff_ne.2 h2
          have hbn : (x != y) = true := by simp [bne, hbe]
          have HNN := Lib.hid (HN.out h2)
          clear HN
          go_wp2_with fail
          go_quiet (fail)
          go_wp2_with fail
          go_ret
          exact ⟨by rw [HNN.out]; rfl, Below.draws HW.out _⟩
      · obtain rfl : k = a.length := by omega
        have hd : decide (a.length < a.length) = false := by simp
        have HQ : Hid (decide (a = b) = true) := Lib.hid (decide_eq_true (take_eq_of HL.out HE.out))
        go_wp2_with fail
        go_ret
        exact ⟨by rw [HQ.out]; rfl, HW.out⟩
  · have n1 : ((a.length : Int) != (b.length : Int)) = true := by simp; omega
    have n2 : (a.length != b.length) = true := by simp [hl]
    have HQ : Hid (decide (a = b) = false) := Lib.hid (by simp; rintro rfl; exact hl rfl)
    clear hl
    go_enter Tryd.func65, Tryd.ntmps65
    go_wp2_with fail
    go_ret
    exact ⟨by rw [HQ.out]; rfl, Below.refl _ _⟩

set_option maxRecDepth 100000 in
set_option maxHeartbeats 1000000 in
theorem same32_any (w : World) (A A' B B' : Option Addr) (c c' d d' : Nat) (fa ba fb bb : List (List UInt8)) (ra rb : List UInt8) (hA : Strs w w.heap.size A fa) (hA' : Strs w w.heap.size A' ba) (hB : Strs w w.heap.size B fb) (hB' : Strs w w.heap.size B' bb)
    (la : fa.length ≤ 1099511627776) (la' : ba.length ≤ 1099511627776) (lb : fb.length ≤ 1099511627776) (lb' : bb.length ≤ 1099511627776) :
    Calls Tryd.prog 32 #[.agg #[.slice A fa.length c, .slice A' ba.length c', S ra], .agg #[.slice B fb.length d, .slice B' bb.length d', S rb]] w fun e w' => e = .returned (.bool (imgEq fa ba ra fb bb rb)) ∧ Below w.heap.size w w' := by
  have HA := Lib.hid hA
  have HA' := Lib.hid hA'
  have HB := Lib.hid hB
  have HB' := Lib.hid hB'
  clear hA hA' hB hB'
  have hX := (Whole.made w 24 #[.slice A fa.length c, .slice A' ba.length c', S ra]).block (.cells #[.slice B fb.length d, .slice B' bb.length d', S rb] 24)
  have hY := Whole.made (w.alloc (.cells #[.slice A fa.length c, .slice A' ba.length c', S ra] 24)) 24 #[.slice B fb.length d, .slice B' bb.length d', S rb]
  have hW : Below w.heap.size w ((w.alloc (.cells #[.slice A fa.length c, .slice A' ba.length c', S ra] 24)).alloc (.cells #[.slice B fb.length d, .slice B' bb.length d', S rb] 24)) := ((Below.refl _ _).alloc (Nat.le_refl _) _).alloc (by simp) _
  rw [show (w.alloc (.cells #[.slice A fa.length c, .slice A' ba.length c', S ra] 24)).heap.size = w.heap.size + 1 by simp] at hY
  go_enter Tryd.func32, Tryd.ntmps32
  go_upto_region 1 with (fail)
  have hlw : w.heap.size + 1 < ((w.alloc (.cells #[.slice A fa.length c, .slice A' ba.length c', S ra] 24)).alloc (.cells #[.slice B fb.length d, .slice B' bb.length d', S rb] 24)).heap.size := hY.lt
  have x0 : _ = some (Value.slice A fa.length c) := hX.cell 0
  have x1 : _ = some (Value.slice A' ba.length c') := hX.cell 1
  have x2 : _ = some (S ra) := hX.cell 2
  have y0 : _ = some (Value.slice B fb.length d) := hY.cell 0
  have y1 : _ = some (Value.slice B' bb.length d') := hY.cell 1
  have y2 : _ = some (S rb) := hY.cell 2
  clear hX hY
  generalize ((w.alloc (.cells #[.slice A fa.length c, .slice A' ba.length c', S ra] 24)).alloc (.cells #[.slice B fb.length d, .slice B' bb.length d', S rb] 24)) = w1 at *
  have HWB := Lib.hid hW
  have X1 := Lib.hid x1
  have Y1 := Lib.hid y1
  clear hW
  have X2 := Lib.hid x2
  have Y2 := Lib.hid y2
  go_wp2_with fail
  refine (texts32_any w1 A B c d fa fb ((HA.out.below HWB.out).wide HWB.out.size) ((HB.out.below HWB.out).wide HWB.out.size) la lb).mono ?_
  rintro e w2 ⟨rfl, hb2⟩
  have x1' : w2.cell? ⟨w.heap.size, 1, none⟩ = _ := (hb2.cell (by show w.heap.size < _; omega)).trans X1.out
  have y1' : w2.cell? ⟨w.heap.size + 1, 1, none⟩ = _ := (hb2.cell (by show w.heap.size + 1 < _; omega)).trans Y1.out
  have X2' := Lib.hid ((hb2.cell (p := ⟨w.heap.size, 2, none⟩) (by show w.heap.size < _; omega)).trans X2.out)
  have Y2' := Lib.hid ((hb2.cell (p := ⟨w.heap.size + 1, 2, none⟩) (by show w.heap.size + 1 < _; omega)).trans Y2.out)
  have HWB2 : Hid (Below w.heap.size w w2) := Lib.hid (HWB.out.trans (hb2.mono (by omega)))
  have hlw2 : w.heap.size + 1 < w2.heap.size := Nat.lt_of_lt_of_le hlw hb2.size
  clear hb2 x0 x1 x2 y0 y1 y2 hlw
  by_cases hf : fa = fb
  · have HF := Lib.hid hf
    rw [show decide (fa = fb) = true from decide_eq_true hf]
    clear hf
    go_wp2_with fail
    refine (texts32_any w2 A' B' c' d' ba bb ((HA'.out.below HWB2.out).wide HWB2.out.size) ((HB'.out.below HWB2.out).wide HWB2.out.size) la' lb').mono ?_
    rintro e w3 ⟨rfl, hb3⟩
    have x2' : w3.cell? ⟨w.heap.size, 2, none⟩ = some (S ra) := (hb3.cell (by show w.heap.size < _; omega)).trans X2'.out
    have y2' : w3.cell? ⟨w.heap.size + 1, 2, none⟩ = some (S rb) := (hb3.cell (by show w.heap.size + 1 < _; omega)).trans Y2'.out
    have HWB3 : Hid (Below w.heap.size w w3) := Lib.hid (HWB2.out.trans (hb3.mono HWB2.out.size))
    clear hb3 x1' y1'
    by_cases hg : ba = bb
    · rw [show decide (ba = bb) = true from decide_eq_true hg]
      by_cases hr : ra = rb
      · have e1 : (ra == rb) = true := beq_iff_eq.2 hr
        have HQ : Hid (imgEq fa ba ra fb bb rb = true) := Lib.hid (by simp [imgEq, HF.out, hg, hr])
        clear hr hg
        go_wp2_with fail
        go_ret
        exact ⟨by rw [HQ.out]; rfl, HWB3.out⟩
      · have e1 : (ra == rb) = false := beq_eq_false_iff_ne.2 hr
        have HQ : Hid (imgEq fa ba ra fb bb rb = false) := Lib.hid (by simp [imgEq, hr])
        clear hr hg
        go_wp2_with fail
        go_ret
        exact ⟨by rw [HQ.out]; rfl, HWB3.out⟩
    · rw [show decide (ba = bb) = false from decide_eq_false hg]
      have HQ : Hid (imgEq fa ba ra fb bb rb = false) := Lib.hid (by simp [imgEq, hg])
      clear hg
      go_wp2_with fail
      go_ret
      exact ⟨by rw [HQ.out]; rfl, HWB3.out⟩
  · have HQ : Hid (imgEq fa ba ra fb bb rb = false) := Lib.hid (by simp [imgEq, hf])
    rw [show decide (fa = fb) = false from decide_eq_false hf]
    clear hf
    go_wp2_with fail
    go_ret
    exact ⟨by rw [HQ.out]; rfl, HWB2.out⟩
end Go.Proofs.YtecamaceainfpaaDoor
