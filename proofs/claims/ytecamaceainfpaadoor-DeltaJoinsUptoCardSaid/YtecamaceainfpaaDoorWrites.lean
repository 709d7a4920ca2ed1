/-
  Walks: delta.writes, hibernacleref35.writes. (Printed by gen_writes.py.)
-/
import Derived.Test.YtecamaceainfpaaDoorFuncs
import Derived.Test.YtecamaceainfpaaDoorRDec
import Derived.Test.YtecamaceainfpaaDoorTextB
namespace Go.Proofs.YtecamaceainfpaaDoor
open Go.RowKit

/-- the write of a row -/
def wrP (r : List UInt8) : Option (Int × List UInt8) :=
  match textsA [] r with
  | .ok [a, b] =>
    match intP a with
    | some n => if n < 0 then none else some (n, b)
    | none => none
  | _ => none
/-- the writes of rows -/
def wrL : List (List UInt8) → Option (List (Int × List UInt8))
  | [] => some []
  | x :: l =>
    match wrP x with
    | none => none
    | some p => (wrL l).map (p :: ·)
theorem wrL_append (a b : List (List UInt8)) : wrL (a ++ b) = (wrL a).bind fun y => (wrL b).map (y ++ ·) := by
  induction a with
  | nil => simp [wrL]
  | cons x a ih =>
    rw [List.cons_append, wrL, wrL, ih]
    cases wrP x with
    | none => rfl
    | some p => cases wrL a <;> cases wrL b <;> simp
theorem wrL_snoc {l : List (List UInt8)} {k : Nat} {acc : List (Int × List UInt8)} {p : Int × List UInt8} (hk : k < l.length) (h : wrL (l.take k) = some acc) (hp : wrP (l.getD k []) = some p) : wrL (l.take (k + 1)) = some (acc ++ [p]) := by
  rw [List.take_succ_eq_append_getElem hk, wrL_append, h]
  rw [List.getD_eq_getElem?_getD, List.getElem?_eq_getElem hk] at hp
  simp only [Option.getD_some] at hp
  simp [wrL, hp]
theorem wrL_none {l : List (List UInt8)} {k : Nat} (hk : k < l.length) (hp : wrP (l.getD k []) = none) : wrL l = none := by
  have e : l = l.take k ++ (l[k] :: l.drop (k + 1)) := by rw [List.getElem_cons_drop, List.take_append_drop]
  rw [List.getD_eq_getElem?_getD, List.getElem?_eq_getElem hk] at hp
  simp only [Option.getD_some] at hp
  rw [e, wrL_append, wrL, hp]
  cases wrL (l.take k) <;> rfl
theorem wrL_length : ∀ {l : List (List UInt8)} {acc : List (Int × List UInt8)}, wrL l = some acc → acc.length = l.length
  | [], acc, h => by injection h with h; subst h; rfl
  | x :: l, acc, h => by
    rw [wrL] at h
    split at h
    · cases h
    · cases hl : wrL l with
      | none => rw [hl] at h; cases h
      | some y =>
        rw [hl] at h
        injection h with h
        subst h
        simp [wrL_length hl]
/-- the writes of bytes -/
def writesL (b : List UInt8) : Option (List (Int × List UInt8)) :=
  match textsA [] b with
  | .ok rows => wrL rows
  | _ => none
theorem writesL_err {b : List UInt8} {x : Int} (h : textsA [] b = .error x) : writesL b = none := by unfold writesL; rw [h]
theorem writesL_ok {b : List UInt8} {ls : List (List UInt8)} (h : textsA [] b = .ok ls) : writesL b = wrL ls := by unfold writesL; rw [h]
theorem wrP_err {r : List UInt8} {x : Int} (h : textsA [] r = .error x) : wrP r = none := by unfold wrP; rw [h]
theorem wrP_len {r : List UInt8} {ls : List (List UInt8)} (h : textsA [] r = .ok ls) (hl : ls.length ≠ 2) : wrP r = none := by
  unfold wrP; rw [h]
  match ls, hl with
  | [], _ => rfl
  | [_], _ => rfl
  | [_, _], h => exact absurd rfl h
  | _ :: _ :: _ :: _, _ => rfl
theorem wrP_no {r a b : List UInt8} (h : textsA [] r = .ok [a, b]) (hi : intP a = none) : wrP r = none := by unfold wrP; rw [h]; dsimp only; rw [hi]
theorem wrP_neg {r a b : List UInt8} {n : Int} (h : textsA [] r = .ok [a, b]) (hi : intP a = some n) (hn : n < 0) : wrP r = none := by unfold wrP; rw [h]; dsimp only; rw [hi]; dsimp only; rw [if_pos hn]
theorem wrP_ok {r a b : List UInt8} {n : Int} (h : textsA [] r = .ok [a, b]) (hi : intP a = some n) (hn : ¬ n < 0) : wrP r = some (n, b) := by unfold wrP; rw [h]; dsimp only; rw [hi]; dsimp only; rw [if_neg hn]
/-- two rows of the call's own, of elements of two types: one grows, the other stays -/
theorem own_kept {w w' : World} {base base2 : Nat} {e e2 : TypeId} {size n size2 n2 : Nat} {v v2 : Value} {xs xs2 : List Value} (h : w.ownsRow base e size v n xs) (h2 : w.ownsRow base2 e2 size2 v2 n2 xs2) (hne : e ≠ e2) (hg : w.grownBy w' v2.ownBlock) : w'.ownsRow base e size v n xs := by
  refine ⟨h.1, ?_⟩
  rcases h.2 with h1 | ⟨g, cap, cur, rfl, hb, h3, h4⟩
  · exact .inl h1
  · refine .inr ⟨g, cap, cur, rfl, hb, (hg.block g (Array.getElem?_eq_some_iff.1 h3).1 ?_).trans h3, h4⟩
    intro he
    rcases h2.2 with ⟨rfl, _⟩ | ⟨g2, cap2, cur2, rfl, _, h5, _⟩
    · cases he
    · have : g = g2 := by simpa [Value.ownBlock] using he
      subst this
      rw [h3] at h5
      injection h5 with h5
      injection h5 with _ h6
      exact hne h6
/-- what writes gives back -/
def WritesPost (w : World) (q : Option (List (Int × List UInt8))) (e : Ending) (w' : World) : Prop :=
  (match q with
    | none => ∃ G m k, e = .returned (.tuple #[.slice G m k, .bool false])
    | some l => ∃ v, e = .returned (.tuple #[v, .bool true]) ∧ w'.ownsRow w.heap.size 36 2 v l.length (wCells l)) ∧ Below w.heap.size w w'
theorem Strs.two {w : World} {B : Nat} {A : Option Addr} {t0 t1 : List UInt8} (h : Strs w B A [t0, t1]) :
    ∃ ad, A = some ad ∧ ad.block < B ∧ w.cell? (ad.add 0) = some (S t0) ∧ w.cell? (ad.add 1) = some (S t1) := by
  obtain ⟨ad, rfl, hb, c0⟩ := h 0 _ rfl
  obtain ⟨a1, e1, _, c1⟩ := h 1 _ rfl
  injection e1 with e1
  subst e1
  exact ⟨ad, rfl, hb, c0, c1⟩
set_option maxRecDepth 100000 in
set_option maxHeartbeats 2000000 in
theorem writes_any (w : World) (b : List UInt8) (hb : b.length ≤ 4294967296) (hT : STabs w) :
    Calls Tryd.prog 59 #[S b] w (WritesPost w (writesL b)) := by
  obtain ⟨i0, hi0, hz0, hz1, hz2⟩ := info_parts Tryd.infoWrite
  have HT := Lib.hid hT
  clear hT
  go_enter Tryd.func59, Tryd.ntmps59
  go_wp2_with fail
  refine (texts_any w b (by omega)).mono ?_
  rintro e w1 ⟨hm, hb1⟩
  have HB1 := Lib.hid hb1
  clear hb1
  cases hT : textsA [] b with
  | error x =>
    have HQ := Lib.hid (writesL_err hT)
    have hx := textsA_err' _ _ _ _ (Nat.le_refl _) hT
    have hx0 : (x != 0) = true := by rcases hx with rfl | rfl <;> rfl
    rw [hT] at hm
    dsimp only at hm
    subst hm
    clear hT hx
    go_wp2_with fail
    go_ret2
    unfold WritesPost
    rw [HQ.out]
    exact ⟨⟨_, _, _, rfl⟩, HB1.out⟩
  | ok ls =>
    rw [hT] at hm
    obtain ⟨v, rfl, ho⟩ := hm
    have hlc := texts_count hT
    have HLE : Hid (∀ k, k < ls.length → (ls.getD k []).length ≤ b.length) := Lib.hid (fun k hk => texts_mem hT _ (by rw [List.getD_eq_getElem?_getD, List.getElem?_eq_getElem hk]; exact List.getElem_mem hk))
    have HWL := Lib.hid (writesL_ok hT)
    have HRO : Hid (Own w1 w.heap.size v ls) := Lib.hid ho
    obtain ⟨G, kg, rfl, _, _⟩ := own_shape ho (by omega)
    clear ho hT
    go_wp2_with (at_make; refine wpList_make_own _ rfl _ _ 30 rfl w.heap.size 36 i0 _ 2 Tryd.underlying30 hi0 hz0 hz1 .i64 .i64 _ ls.length rfl rfl rfl (by rw [hz2]; omega) (by unfold maxLen; omega) HB1.out.size ?_; intro w2 hown2 hgrow2)
    have HO2 := Lib.hid hown2
    have hbl : Below w1.heap.size w1 w2 := ⟨hgrow2.os, hgrow2.tape, hgrow2.output, hgrow2.size, fun i hi => hgrow2.block i hi (by simp)⟩
    have HB2 := Lib.hid (HB1.out.trans (hbl.mono HB1.out.size))
    have HR2 := Lib.hid (own_below HRO.out hbl)
    clear hown2 hgrow2 hbl HRO HB1
    go_wp2_with fail
    go_loopw [6, 25] (fun v i wr => ∃ (k : Nat) (acc : List (Int × List UInt8)), k ≤ ls.length ∧ i = .int .i64 k ∧ acc.length = k ∧ Hid (wrL (ls.take k) = some acc) ∧ Hid (wr.ownsRow w.heap.size 36 2 v acc.length (wCells acc)) ∧ Hid (Own wr w.heap.size (.slice G ls.length kg) ls) ∧ Hid (Below w.heap.size w wr)) (fun _ i _ => ls.length - (intOf i).toNat)
    case atStart => exact ⟨0, [], by omega, rfl, rfl, Lib.hid rfl, HO2, HR2, HB2⟩
    case round =>
      obtain ⟨k, acc, hk, rfl, hac, HD, HO, HR, HW⟩ := hrel
      have HAC := Lib.hid hac
      have hal : acc.length ≤ ls.length := by omega
      clear hac HO2 HR2 HB2
      by_cases hlt : k < ls.length
      · obtain ⟨G1, kg1, e1, hlies, _⟩ := own_shape HR.out (by omega)
        injection e1 with e1 _ e2
        subst e1 e2
        obtain ⟨ad, rfl, had, hc⟩ := Strs.at' hlies hlt
        have hrl := HLE.out k hlt
        have HNO := Lib.hid (@wrL_none ls k hlt)
        have HYES := Lib.hid (fun p => @wrL_snoc ls k acc p hlt HD.out)
        clear hlies
        generalize ls.getD k [] = r at *
        have q0 : (0 : Int) ≤ (k : Int) := by omega
        have q1 : (k : Int) < (ls.length : Int) := by omega
        go_wp2_with fail
        refine (texts_any wr r (by omega)).mono ?_
        rintro e w3 ⟨hm, hb3⟩
        have HW3 := Lib.hid (HW.out.trans (hb3.mono HW.out.size))
        have HO3 := Lib.hid (own_below HO.out hb3)
        have HR3 := Lib.hid (own_below HR.out hb3)
        clear hb3 hc HW HO HR
        obtain ⟨ov, hov⟩ : ∃ A m c, u6 = .slice A m c := by
          obtain ⟨A, c, e, _, _⟩ := own_shape HO3.out (by omega)
          exact ⟨A, _, c, e⟩
        obtain ⟨om, oc, rfl⟩ := hov
        cases hT : textsA [] r with
        | error x =>
          have HQ : Hid (writesL b = none) := Lib.hid (by rw [HWL.out]; exact HNO.out (wrP_err hT))
          have hx := textsA_err' _ _ _ _ (Nat.le_refl _) hT
          have hx0 : (x != 0) = true := by rcases hx with rfl | rfl <;> rfl
          rw [hT] at hm
          dsimp only at hm
          subst hm
          clear hT hx
          go_wp2_with fail
          go_ret2
          unfold WritesPost
          rw [HQ.out]
          exact ⟨⟨_, _, _, rfl⟩, HW3.out⟩
        | ok ps =>
          rw [hT] at hm
          obtain ⟨v, rfl, ho⟩ := hm
          obtain ⟨P, kp, rfl, hlp, _⟩ := own_shape ho (by omega)
          clear ho
          by_cases hl2 : ps.length = 2
          · obtain ⟨t0, t1, rfl⟩ : ∃ t0 t1, ps = [t0, t1] := by
              match ps, hl2 with
              | [t0, t1], _ => exact ⟨t0, t1, rfl⟩
            obtain ⟨pd, rfl, hpd, c0, c1⟩ := Strs.two hlp
            have m0 := texts_mem hT t0 (by simp)
            have HTT := Lib.hid hT
            clear hl2 hlp hT
            have C1 : Hid (∀ W, Below w3.heap.size w3 W → W.cell? (pd.add 1) = some (S t1) ∧ W.cell? ⟨pd.block, pd.off + 1, none⟩ = some (S t1)) := Lib.hid fun W hW => by
              have k1 := (hW.cell (p := pd.add 1) (by rw [add_block]; exact hpd)).trans c1
              exact ⟨k1, k1⟩
            have c0' : w3.cell? pd = some (S t0) := c0
            clear c1
            go_wp2_with fail
            refine (int_any w3 t0 (by omega) (HT.out.below (Nat.le_refl _) HW3.out)).mono ?_
            rintro e w4 ⟨hm, hb4⟩
            have HW4 := Lib.hid (HW3.out.trans (hb4.mono HW3.out.size))
            have HO4 := Lib.hid (own_below HO3.out hb4)
            have HR4 := Lib.hid (own_below HR3.out hb4)
            obtain ⟨d1, d1'⟩ := C1.out w4 hb4
            clear hb4 c0 c0' C1 HW3 HO3 HR3
            cases hi : intP t0 with
            | none =>
              have HQ : Hid (writesL b = none) := Lib.hid (by rw [HWL.out]; exact HNO.out (wrP_no HTT.out hi))
              rw [hi] at hm
              dsimp only at hm
              subst hm
              clear hi
              go_wp2_with fail
              go_ret2
              unfold WritesPost
              rw [HQ.out]
              exact ⟨⟨_, _, _, rfl⟩, HW4.out⟩
            | some n =>
              rw [hi] at hm
              dsimp only at hm
              subst hm
              by_cases hn : n < 0
              · have HQ : Hid (writesL b = none) := Lib.hid (by rw [HWL.out]; exact HNO.out (wrP_neg HTT.out hi hn))
                have hd : decide (n < 0) = true := decide_eq_true hn
                clear hi hn
                go_wp2_with fail
                go_ret2
                unfold WritesPost
                rw [HQ.out]
                exact ⟨⟨_, _, _, rfl⟩, HW4.out⟩
              · have HQ : Hid (wrL (ls.take (k + 1)) = some (acc ++ [(n, t1)])) := Lib.hid (HYES.out (n, t1) (wrP_ok HTT.out hi hn))
                have hd : decide (n < 0) = false := decide_eq_false hn
                have hnn : (n != n) = false := by simp
                clear hi hn
                have HNW : Hid (∀ i u, [Value.int .i64 n, S t1][i]? = some u → (w4.alloc (.cells #[.int .i64 n, S t1] 36)).cell? ((⟨w4.heap.size, 0, none⟩ : Addr).add i) = some u) := Lib.hid (fun i u hu => by
                  obtain ⟨ad', e', _, hc'⟩ := lies_made w4 36 [.int .i64 n, S t1] (w4.heap.size + 1) (by omega) i u hu
                  injection e' with e'; subst e'; exact hc')
                have H1 : Hid (∀ u ∈ [Value.int .i64 n, S t1], u.oneCell' = true) := Lib.hid (by simp [Value.oneCell'])
                have H63 : Hid (acc.length + 1 ≤ maxLen) := Lib.hid (by unfold maxLen; omega)
                have HBY : Hid ((acc.length + 1) * 24 ≤ 140737488355328) := Lib.hid (by omega)
                have HBA : Hid (w.heap.size ≤ (w4.alloc (.cells #[.int .i64 n, S t1] 36)).heap.size) := Lib.hid (by have := HW4.out.size; simp; omega)
                have HOA := Lib.hid (HO4.out.alloc (.cells #[.int .i64 n, S t1] 36))
                have HRA := Lib.hid (HR4.out.alloc (.cells #[.int .i64 n, S t1] 36))
                go_wp2_with (at_builtin; refine wpList_append_own _ rfl (.tmp 59) (.tmp 65) 30 rfl w.heap.size 36 i0 _ 2 24 Tryd.underlying30 hi0 hz0 hz1 hz2 rfl (by decide) _ _ _ rfl HOA.out ⟨w4.heap.size, 0, none⟩ 1 1 [.int .i64 n, S t1] rfl rfl HNW.out H1.out H63.out HBY.out HBA.out ?_; intro v' w5 hown' hgrow _)
                have HO5 : Hid (w5.ownsRow w.heap.size 36 2 v' (acc ++ [(n, t1)]).length (wCells (acc ++ [(n, t1)]))) := Lib.hid (by
                  rw [List.length_append, wCells_append]
                  exact hown')
                have HR5 := Lib.hid (own_kept HRA.out HOA.out (by decide) hgrow)
                have HB5 : Hid (Below w.heap.size w w5) := Lib.hid ((HW4.out.alloc HW4.out.size _).grown hgrow HBA.out (own_ge HOA.out))
                have HAL : Hid ((acc ++ [(n, t1)]).length = k + 1) := Lib.hid (by rw [List.length_append, HAC.out]; rfl)
                clear hown' hgrow HOA HRA HNW
                generalize acc ++ [(n, t1)] = acc' at *
                go_wp2_with fail
                go_roundw
                case rel =>
                  have R : ∃ (k' : Nat) (a' : List (Int × List UInt8)), k' ≤ ls.length ∧ Value.int .i64 ((k : Int) + 1) = .int .i64 k' ∧ a'.length = k' ∧ Hid (wrL (ls.take k') = some a') ∧ Hid (w5.ownsRow w.heap.size 36 2 v' a'.length (wCells a')) ∧ Hid (Own w5 w.heap.size (.slice (some ad) ls.length kg) ls) ∧ Hid (Below w.heap.size w w5) := ⟨k + 1, acc', by omega, by go_num, HAL.out, HQ, HO5, HR5, HB5⟩
                  first | exact R | ((repeat apply Exists.intro); exact ⟨R, rfl⟩)
                case measure => simp [intOf]; omega
          · have HQ : Hid (writesL b = none) := Lib.hid (by rw [HWL.out]; exact HNO.out (wrP_len hT hl2))
            have e4 : ((ps.length : Int) != 2) = true := by simp; omega
            clear hT hl2 hlp
            go_wp2_with fail
            go_ret2
            unfold WritesPost
            rw [HQ.out]
            exact ⟨⟨_, _, _, rfl⟩, HW3.out⟩
      · obtain rfl : k = ls.length := by omega
        have hd : decide (ls.length < ls.length) = false := by simp
        rw [List.take_of_length_le (Nat.le_refl _)] at HD
        go_wp2_with fail
        go_ret2
        unfold WritesPost
        rw [HWL.out, HD.out]
        exact ⟨⟨_, rfl, HO.out⟩, HW.out⟩
set_option maxRecDepth 100000 in
set_option maxHeartbeats 2000000 in
theorem rwrites_any (w : World) (b : List UInt8) (hb : b.length ≤ 4294967296) (hT : STabs w) :
    Calls Tryd.prog 61 #[S b] w (WritesPost w (writesL b)) := by
  obtain ⟨i0, hi0, hz0, hz1, hz2⟩ := info_parts Tryd.infoWrite
  have HT := Lib.hid hT
  clear hT
  go_enter Tryd.func61, Tryd.ntmps61
  go_wp2_with fail
  have HO0 : Hid ((w.alloc (.cells #[] 36)).ownsRow w.heap.size 36 2 (.slice (some ⟨w.heap.size, 0, none⟩) 0 0) 0 []) := Lib.hid (World.ownsRow_lit w #[] 0 (Nat.le_refl _) (by unfold maxLen; omega) rfl)
  have HB0 := Lib.hid ((Below.refl w.heap.size w).alloc (Nat.le_refl _) (.cells #[] 36))
  refine (rtexts_any (w.alloc (.cells #[] 36)) b (by omega)).mono ?_
  generalize w.alloc (.cells #[] 36) = wz at *
  rintro e w1 ⟨hm, hb1⟩
  have HB1 := Lib.hid (HB0.out.trans (hb1.mono HB0.out.size))
  have HO1 := Lib.hid (own_below HO0.out hb1)
  have hzw := HB0.out.size
  clear hb1 HO0 HB0
  cases hT : textsA [] b with
  | error x =>
    have HQ := Lib.hid (writesL_err hT)
    have hx := textsA_err' _ _ _ _ (Nat.le_refl _) hT
    have hx0 : (x != 0) = true := by rcases hx with rfl | rfl <;> rfl
    rw [hT] at hm
    dsimp only at hm
    subst hm
    clear hT hx
    go_wp2_with fail
    go_ret2
    unfold WritesPost
    rw [HQ.out]
    exact ⟨⟨_, _, _, rfl⟩, HB1.out⟩
  | ok ls =>
    rw [hT] at hm
    obtain ⟨v, rfl, ho⟩ := hm
    have hlc := texts_count hT
    have HLE : Hid (∀ k, k < ls.length → (ls.getD k []).length ≤ b.length) := Lib.hid (fun k hk => texts_mem hT _ (by rw [List.getD_eq_getElem?_getD, List.getElem?_eq_getElem hk]; exact List.getElem_mem hk))
    have HWL := Lib.hid (writesL_ok hT)
    have HRO : Hid (Own w1 wz.heap.size v ls) := Lib.hid ho
    obtain ⟨G, kg, rfl, _, _⟩ := own_shape ho (by omega)
    clear ho hT
    go_wp2_with fail
    go_loopw [4, 7] (fun v i wr => ∃ (k : Nat) (acc : List (Int × List UInt8)), k ≤ ls.length ∧ i = .int .i64 k ∧ acc.length = k ∧ Hid (wrL (ls.take k) = some acc) ∧ Hid (wr.ownsRow w.heap.size 36 2 v acc.length (wCells acc)) ∧ Hid (Own wr wz.heap.size (.slice G ls.length kg) ls) ∧ Hid (Below w.heap.size w wr)) (fun _ i _ => ls.length - (intOf i).toNat)
    case atStart => exact ⟨0, [], by omega, rfl, rfl, Lib.hid rfl, HO1, HRO, HB1⟩
    case round =>
      obtain ⟨k, acc, hk, rfl, hac, HD, HO, HR, HW⟩ := hrel
      have HAC := Lib.hid hac
      have hal : acc.length ≤ ls.length := by omega
      clear hac HO1 HRO HB1
      by_cases hlt : k < ls.length
      · obtain ⟨G1, kg1, e1, hlies, _⟩ := own_shape HR.out (by omega)
        injection e1 with e1 _ e2
        subst e1 e2
        obtain ⟨ad, rfl, had, hc⟩ := Strs.at' hlies hlt
        have hrl := HLE.out k hlt
        have HNO := Lib.hid (@wrL_none ls k hlt)
        have HYES := Lib.hid (fun p => @wrL_snoc ls k acc p hlt HD.out)
        clear hlies
        generalize ls.getD k [] = r at *
        have q0 : (0 : Int) ≤ (k : Int) := by omega
        have q1 : (k : Int) < (ls.length : Int) := by omega
        go_wp2_with fail
        refine (rtexts_any wr r (by omega)).mono ?_
        rintro e w3 ⟨hm, hb3⟩
        have HW3 := Lib.hid (HW.out.trans (hb3.mono HW.out.size))
        have HO3 := Lib.hid (own_below HO.out hb3)
        have HR3 := Lib.hid (own_below HR.out hb3)
        clear hb3 hc HW HO HR
        obtain ⟨ov, hov⟩ : ∃ A m c, u4 = .slice A m c := by
          obtain ⟨A, c, e, _, _⟩ := own_shape HO3.out (by omega)
          exact ⟨A, _, c, e⟩
        obtain ⟨om, oc, rfl⟩ := hov
        cases hT : textsA [] r with
        | error x =>
          have HQ : Hid (writesL b = none) := Lib.hid (by rw [HWL.out]; exact HNO.out (wrP_err hT))
          have hx := textsA_err' _ _ _ _ (Nat.le_refl _) hT
          have hx0 : (x != 0) = true := by rcases hx with rfl | rfl <;> rfl
          rw [hT] at hm
          dsimp only at hm
          subst hm
          clear hT hx
          go_wp2_with fail
          go_ret2
          unfold WritesPost
          rw [HQ.out]
          exact ⟨⟨_, _, _, rfl⟩, HW3.out⟩
        | ok ps =>
          rw [hT] at hm
          obtain ⟨v, rfl, ho⟩ := hm
          obtain ⟨P, kp, rfl, hlp, _⟩ := own_shape ho (by omega)
          clear ho
          by_cases hl2 : ps.length = 2
          · obtain ⟨t0, t1, rfl⟩ : ∃ t0 t1, ps = [t0, t1] := by
              match ps, hl2 with
              | [t0, t1], _ => exact ⟨t0, t1, rfl⟩
            obtain ⟨pd, rfl, hpd, c0, c1⟩ := Strs.two hlp
            have m0 := texts_mem hT t0 (by simp)
            have HTT := Lib.hid hT
            clear hl2 hlp hT
            have C1 : Hid (∀ W, Below w3.heap.size w3 W → W.cell? (pd.add 1) = some (S t1) ∧ W.cell? ⟨pd.block, pd.off + 1, none⟩ = some (S t1)) := Lib.hid fun W hW => by
              have k1 := (hW.cell (p := pd.add 1) (by rw [add_block]; exact hpd)).trans c1
              exact ⟨k1, k1⟩
            have c0' : w3.cell? pd = some (S t0) := c0
            clear c1
            go_wp2_with fail
            refine (rint_any w3 t0).mono ?_
            rintro e w4 ⟨hm, hb4⟩
            have HW4 := Lib.hid (HW3.out.trans (hb4.mono HW3.out.size))
            have HO4 := Lib.hid (own_below HO3.out hb4)
            have HR4 := Lib.hid (own_below HR3.out hb4)
            obtain ⟨d1, d1'⟩ := C1.out w4 hb4
            clear hb4 c0 c0' C1 HW3 HO3 HR3
            cases hi : intP t0 with
            | none =>
              have HQ : Hid (writesL b = none) := Lib.hid (by rw [HWL.out]; exact HNO.out (wrP_no HTT.out hi))
              rw [hi] at hm
              dsimp only at hm
              subst hm
              clear hi
              go_wp2_with fail
              go_ret2
              unfold WritesPost
              rw [HQ.out]
              exact ⟨⟨_, _, _, rfl⟩, HW4.out⟩
            | some n =>
              rw [hi] at hm
              dsimp only at hm
              subst hm
              by_cases hn : n < 0
              · have HQ : Hid (writesL b = none) := Lib.hid (by rw [HWL.out]; exact HNO.out (wrP_neg HTT.out hi hn))
                have hd : decide (n < 0) = true := decide_eq_true hn
                clear hi hn
                go_wp2_with fail
                go_ret2
                unfold WritesPost
                rw [HQ.out]
                exact ⟨⟨_, _, _, rfl⟩, HW4.out⟩
              · have HQ : Hid (wrL (ls.take (k + 1)) = some (acc ++ [(n, t1)])) := Lib.hid (HYES.out (n, t1) (wrP_ok HTT.out hi hn))
                have hd : decide (n < 0) = false := decide_eq_false hn
                have hnn : (n != n) = false := by simp
                clear hi hn
                have HNW : Hid (∀ i u, [Value.int .i64 n, S t1][i]? = some u → (w4.alloc (.cells #[.int .i64 n, S t1] 36)).cell? ((⟨w4.heap.size, 0, none⟩ : Addr).add i) = some u) := Lib.hid (fun i u hu => by
                  obtain ⟨ad', e', _, hc'⟩ := lies_made w4 36 [.int .i64 n, S t1] (w4.heap.size + 1) (by omega) i u hu
                  injection e' with e'; subst e'; exact hc')
                have H1 : Hid (∀ u ∈ [Value.int .i64 n, S t1], u.oneCell' = true) := Lib.hid (by simp [Value.oneCell'])
                have H63 : Hid (acc.length + 1 ≤ maxLen) := Lib.hid (by unfold maxLen; omega)
                have HBY : Hid ((acc.length + 1) * 24 ≤ 140737488355328) := Lib.hid (by omega)
                have HBA : Hid (w.heap.size ≤ (w4.alloc (.cells #[.int .i64 n, S t1] 36)).heap.size) := Lib.hid (by have := HW4.out.size; simp; omega)
                have HOA := Lib.hid (HO4.out.alloc (.cells #[.int .i64 n, S t1] 36))
                have HRA := Lib.hid (HR4.out.alloc (.cells #[.int .i64 n, S t1] 36))
                go_wp2_with (at_builtin; refine wpList_append_own _ rfl (.tmp 57) (.tmp 63) 30 rfl w.heap.size 36 i0 _ 2 24 Tryd.underlying30 hi0 hz0 hz1 hz2 rfl (by decide) _ _ _ rfl HOA.out ⟨w4.heap.size, 0, none⟩ 1 1 [.int .i64 n, S t1] rfl rfl HNW.out H1.out H63.out HBY.out HBA.out ?_; intro v' w5 hown' hgrow _)
                have HO5 : Hid (w5.ownsRow w.heap.size 36 2 v' (acc ++ [(n, t1)]).length (wCells (acc ++ [(n, t1)]))) := Lib.hid (by
                  rw [List.length_append, wCells_append]
                  exact hown')
                have HR5 := Lib.hid (own_kept HRA.out HOA.out (by decide) hgrow)
                have HB5 : Hid (Below w.heap.size w w5) := Lib.hid ((HW4.out.alloc HW4.out.size _).grown hgrow HBA.out (own_ge HOA.out))
                have HAL : Hid ((acc ++ [(n, t1)]).length = k + 1) := Lib.hid (by rw [List.length_append, HAC.out]; rfl)
                clear hown' hgrow HOA HRA HNW
                generalize acc ++ [(n, t1)] = acc' at *
                go_wp2_with fail
                go_roundw
                case rel =>
                  have R : ∃ (k' : Nat) (a' : List (Int × List UInt8)), k' ≤ ls.length ∧ Value.int .i64 ((k : Int) + 1) = .int .i64 k' ∧ a'.length = k' ∧ Hid (wrL (ls.take k') = some a') ∧ Hid (w5.ownsRow w.heap.size 36 2 v' a'.length (wCells a')) ∧ Hid (Own w5 wz.heap.size (.slice (some ad) ls.length kg) ls) ∧ Hid (Below w.heap.size w w5) := ⟨k + 1, acc', by omega, by go_num, HAL.out, HQ, HO5, HR5, HB5⟩
                  first | exact R | ((repeat apply Exists.intro); exact ⟨R, rfl⟩)
                case measure => simp [intOf]; omega
          · have HQ : Hid (writesL b = none) := Lib.hid (by rw [HWL.out]; exact HNO.out (wrP_len hT hl2))
            have e4 : ((ps.length : Int) != 2) = true := by simp; omega
            clear hT hl2 hlp
            go_wp2_with fail
            go_ret2
            unfold WritesPost
            rw [HQ.out]
            exact ⟨⟨_, _, _, rfl⟩, HW3.out⟩
      · obtain rfl : k = ls.length := by omega
        have hd : decide (ls.length < ls.length) = false := by simp
        rw [List.take_of_length_le (Nat.le_refl _)] at HD
        go_wp2_with fail
        go_ret2
        unfold WritesPost
        rw [HWL.out, HD.out]
        exact ⟨⟨_, rfl, HO.out⟩, HW.out⟩
end Go.Proofs.YtecamaceainfpaaDoor
