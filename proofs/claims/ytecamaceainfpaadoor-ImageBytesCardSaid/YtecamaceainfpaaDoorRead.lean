/-
  Walk: image.Read.
-/
import Derived.Test.YtecamaceainfpaaDoorTexts
import Derived.Test.YtecamaceainfpaaDoorApply
namespace Go.Proofs.YtecamaceainfpaaDoor
open Go.RowKit

/-- the image of bytes -/
def readL (b : List UInt8) : Option (List (List UInt8) × List (List UInt8) × List UInt8) :=
  match textsA [] b with
  | .ok [t0, t1, t2, t3] =>
    if t0 = [104, 105, 98, 105] then
      match textsA [] t1, textsA [] t2 with
      | .ok f, .ok g => some (f, g, t3)
      | _, _ => none
    else none
  | _ => none
/-- what Read gives back -/
def ReadPost (w : World) (q : Option (List (List UInt8) × List (List UInt8) × List UInt8)) (e : Ending) (w' : World) : Prop :=
  (match q with
    | none => e = .returned (.tuple #[.agg #[.slice none 0 0, .slice none 0 0, S []], .int .i64 3])
    | some (f, g, r) => ∃ G k G' k', e = .returned (.tuple #[.agg #[.slice G f.length k, .slice G' g.length k', S r], .int .i64 0]) ∧ Strs w' w'.heap.size G f ∧ Strs w' w'.heap.size G' g) ∧ Below w.heap.size w w'
theorem readL_err {b : List UInt8} {x : Int} (h : textsA [] b = .error x) : readL b = none := by unfold readL; rw [h]
theorem readL_len {b : List UInt8} {ls : List (List UInt8)} (h : textsA [] b = .ok ls) (hl : ls.length ≠ 4) : readL b = none := by
  unfold readL; rw [h]
  match ls, hl with
  | [], _ => rfl
  | [_], _ => rfl
  | [_, _], _ => rfl
  | [_, _, _], _ => rfl
  | [_, _, _, _], h => exact absurd rfl h
  | _ :: _ :: _ :: _ :: _ :: _, _ => rfl
theorem readL_word {b : List UInt8} {t0 t1 t2 t3 : List UInt8} (h : textsA [] b = .ok [t0, t1, t2, t3]) (hl : t0 ≠ [104, 105, 98, 105]) : readL b = none := by
  unfold readL; rw [h]; dsimp only; rw [if_neg hl]
theorem readL_one {b : List UInt8} {t0 t1 t2 t3 : List UInt8} {x : Int} (h : textsA [] b = .ok [t0, t1, t2, t3]) (h1 : textsA [] t1 = .error x) : readL b = none := by
  unfold readL; rw [h]; dsimp only; split
  · rw [h1]
  · rfl
theorem readL_two {b : List UInt8} {t0 t1 t2 t3 : List UInt8} {x : Int} (h : textsA [] b = .ok [t0, t1, t2, t3]) (h1 : textsA [] t2 = .error x) : readL b = none := by
  unfold readL; rw [h]; dsimp only; split
  · rw [h1]; cases textsA [] t1 <;> rfl
  · rfl
theorem readL_ok {b : List UInt8} {t0 t1 t2 t3 : List UInt8} {f g : List (List UInt8)} (h : textsA [] b = .ok [t0, t1, t2, t3]) (h0 : t0 = [104, 105, 98, 105]) (h1 : textsA [] t1 = .ok f) (h2 : textsA [] t2 = .ok g) : readL b = some (f, g, t3) := by
  unfold readL; rw [h]; dsimp only; rw [if_pos h0, h1, h2]
/-- a text of a row is no longer than the row -/
theorem texts_mem {b : List UInt8} {ls : List (List UInt8)} (h : textsA [] b = .ok ls) : ∀ l ∈ ls, l.length ≤ b.length := by
  rw [texts_len h]
  intro l hl
  obtain ⟨x, y, rfl⟩ := List.append_of_mem hl
  rw [rowB_append, rowB_cons]
  simp only [List.length_append]; omega
theorem texts_count {b : List UInt8} {ls : List (List UInt8)} (h : textsA [] b = .ok ls) : ls.length ≤ b.length := by
  rw [texts_len h]
  clear h
  induction ls with
  | nil => simp
  | cons l ls ih =>
    rw [rowB_cons]
    have := List.length_pos_iff.2 (lenB_ne l.length)
    simp only [List.length_append, List.length_cons]; omega
theorem Strs.four {w : World} {B : Nat} {A : Option Addr} {t0 t1 t2 t3 : List UInt8} (h : Strs w B A [t0, t1, t2, t3]) :
    ∃ ad, A = some ad ∧ ad.block < B ∧ w.cell? (ad.add 0) = some (S t0) ∧ w.cell? (ad.add 1) = some (S t1) ∧ w.cell? (ad.add 2) = some (S t2) ∧ w.cell? (ad.add 3) = some (S t3) := by
  obtain ⟨ad, rfl, hb, c0⟩ := h 0 _ rfl
  obtain ⟨a1, e1, _, c1⟩ := h 1 _ rfl
  obtain ⟨a2, e2, _, c2⟩ := h 2 _ rfl
  obtain ⟨a3, e3, _, c3⟩ := h 3 _ rfl
  injection e1 with e1; injection e2 with e2; injection e3 with e3
  subst e1 e2 e3
  exact ⟨ad, rfl, hb, c0, c1, c2, c3⟩
set_option maxRecDepth 100000 in
set_option maxHeartbeats 2000000 in
theorem read_any (w : World) (b : List UInt8) (hb : b.length ≤ 4294967296) :
    Calls Tryd.prog 30 #[S b] w (ReadPost w (readL b)) := by
  have HZ := Lib.hid (Whole.made w 24 #[.slice none 0 0, .slice none 0 0, S []])
  have HW := Lib.hid ((Below.refl w.heap.size w).alloc (Nat.le_refl _) (.cells #[.slice none 0 0, .slice none 0 0, S []] 24))
  go_enter Tryd.func30, Tryd.ntmps30
  go_wp2_with fail
  change Calls _ _ _ (w.alloc (.cells #[.slice none 0 0, .slice none 0 0, S []] 24)) _
  generalize w.alloc (.cells #[.slice none 0 0, .slice none 0 0, S []] 24) = w1 at *
  generalize hgx : w.heap.size = gx at *
  have HGX := Lib.hid hgx
  clear hgx
  have FIN : Hid (∀ W : World, Whole W gx 24 #[.slice none 0 0, .slice none 0 0, S []] → W.cell? ⟨gx, 0, none⟩ = some (Value.slice none 0 0) ∧ W.cell? ⟨gx, 1, none⟩ = some (Value.slice none 0 0) ∧ W.cell? ⟨gx, 2, none⟩ = some (S []) ∧ W.frozen? ⟨gx, 0, none⟩ = false ∧ W.frozen? ⟨gx, 1, none⟩ = false ∧ W.frozen? ⟨gx, 2, none⟩ = false) := Lib.hid fun W h => ⟨h.cell 0, h.cell 1, h.cell 2, h.free 0, h.free 1, h.free 2⟩
  refine (texts_any w1 b (by omega)).mono ?_
  rintro e w2 ⟨hm, hb2⟩
  have HZ2 := Lib.hid (HZ.out.below hb2 HZ.out.lt)
  have HW2 := Lib.hid (HW.out.trans (hb2.mono (by have := HZ.out.lt; omega)))
  have hgl := HZ.out.lt
  clear hb2 HZ HW
  cases hT : textsA [] b with
  | error x =>
    have HQ := Lib.hid (readL_err hT)
    have hx := textsA_err' _ _ _ _ (Nat.le_refl _) hT
    have hx0 : (x != 0) = true := by rcases hx with rfl | rfl <;> rfl
    rw [hT] at hm
    dsimp only at hm
    subst hm
    clear hT hx
    obtain ⟨z0, z1, z2, y0, y1, y2⟩ := FIN.out w2 HZ2.out
    go_wp2_with fail
    refine bodyPost_ret (v := .tuple #[.agg #[.slice none 0 0, .slice none 0 0, S []], .int .i64 3]) (by simp [results, Tryd.results30, go_sem, z0, z1, z2]) rfl ?_
    unfold ReadPost
    rw [HQ.out, HGX.out]
    exact ⟨rfl, Below.set3 HW2.out (Nat.le_refl _)⟩
  | ok ls =>
    rw [hT] at hm
    obtain ⟨v, rfl, ho⟩ := hm
    obtain ⟨G, kg, rfl, hlies, _⟩ := own_shape ho (by omega)
    clear ho
    by_cases hl : ls.length = 4
    · obtain ⟨t0, t1, t2, t3, rfl⟩ : ∃ t0 t1 t2 t3, ls = [t0, t1, t2, t3] := by
        match ls, hl with
        | [t0, t1, t2, t3], _ => exact ⟨t0, t1, t2, t3, rfl⟩
      obtain ⟨ad, rfl, had, c0, c1, c2, c3⟩ := Strs.four hlies
      have m1 := texts_mem hT t1 (by simp)
      have m2 := texts_mem hT t2 (by simp)
      have HTT := Lib.hid hT
      clear hl hlies hT
      have HCC : Hid (∀ W, Below w2.heap.size w2 W → W.cell? ad = some (S t0) ∧ W.cell? (ad.add 0) = some (S t0) ∧ W.cell? (ad.add 1) = some (S t1) ∧ W.cell? (ad.add 2) = some (S t2) ∧ W.cell? (ad.add 3) = some (S t3) ∧ W.cell? ⟨ad.block, ad.off + 1, none⟩ = some (S t1) ∧ W.cell? ⟨ad.block, ad.off + 2, none⟩ = some (S t2) ∧ W.cell? ⟨ad.block, ad.off + 3, none⟩ = some (S t3)) := Lib.hid fun W hW => by
        have k0 := (hW.cell (p := ad.add 0) (by rw [add_block]; exact had)).trans c0
        have k1 := (hW.cell (p := ad.add 1) (by rw [add_block]; exact had)).trans c1
        have k2 := (hW.cell (p := ad.add 2) (by rw [add_block]; exact had)).trans c2
        have k3 := (hW.cell (p := ad.add 3) (by rw [add_block]; exact had)).trans c3
        exact ⟨k0, k0, k1, k2, k3, k1, k2, k3⟩
      clear c0 c1 c2 c3
      by_cases hw : t0 = [104, 105, 98, 105]
      · subst hw
        obtain ⟨c0, c0', c1, c2, c3, c1', c2', c3'⟩ := HCC.out w2 (Below.refl _ _)
        go_wp2_with fail
        refine (texts_any w2 t1 (by omega)).mono ?_
        rintro e w3 ⟨hm, hb3⟩
        have HZ3 := Lib.hid (HZ2.out.below hb3 HZ2.out.lt)
        have HW3 := Lib.hid (HW2.out.trans (hb3.mono (by have := HZ2.out.lt; omega)))
        have HB3 := Lib.hid hb3
        have hl3 := hb3.size
        clear hb3 c0 c0' c1 c2 c3 c1' c2' c3'
        cases hT1 : textsA [] t1 with
        | error x =>
          have HQ := Lib.hid (readL_one HTT.out hT1)
          have hx := textsA_err' _ _ _ _ (Nat.le_refl _) hT1
          have hx0 : (x != 0) = true := by rcases hx with rfl | rfl <;> rfl
          rw [hT1] at hm
          dsimp only at hm
          subst hm
          clear hT1 hx
          obtain ⟨z0, z1, z2, y0, y1, y2⟩ := FIN.out w3 HZ3.out
          go_wp2_with fail
          refine bodyPost_ret (v := .tuple #[.agg #[.slice none 0 0, .slice none 0 0, S []], .int .i64 3]) (by simp [results, Tryd.results30, go_sem, z0, z1, z2]) rfl ?_
          unfold ReadPost
          rw [HQ.out, HGX.out]
          exact ⟨rfl, Below.set3 HW3.out (Nat.le_refl _)⟩
        | ok f =>
          rw [hT1] at hm
          obtain ⟨v, rfl, ho⟩ := hm
          obtain ⟨F, kf, rfl, hlf, hfb⟩ := own_shape ho (by omega)
          have HTF := Lib.hid hT1
          have HLF := Lib.hid hlf
          have NF : Hid (∀ ad, F = some ad → gx < ad.block) := Lib.hid (fun ad e => by have := hfb ad e; have := HZ2.out.lt; omega)
          clear ho hT1 hlf hfb
          obtain ⟨c0, c0', c1, c2, c3, c1', c2', c3'⟩ := HCC.out w3 HB3.out
          go_wp2_with fail
          refine (texts_any w3 t2 (by omega)).mono ?_
          rintro e w4 ⟨hm, hb4⟩
          have HZ4 := Lib.hid (HZ3.out.below hb4 HZ3.out.lt)
          have HW4 := Lib.hid (HW3.out.trans (hb4.mono (by have := HZ3.out.lt; omega)))
          have HB4 := Lib.hid (HB3.out.trans (hb4.mono hl3))
          have HLF4 := Lib.hid (Lies.wide (Lies.below HLF.out hb4) hb4.size)
          clear hb4 c0 c0' c1 c2 c3 c1' c2' c3'
          cases hT2 : textsA [] t2 with
          | error x =>
            have HQ := Lib.hid (readL_two HTT.out hT2)
            have hx := textsA_err' _ _ _ _ (Nat.le_refl _) hT2
            have hx0 : (x != 0) = true := by rcases hx with rfl | rfl <;> rfl
            rw [hT2] at hm
            dsimp only at hm
            subst hm
            clear hT2 hx
            obtain ⟨z0, z1, z2, y0, y1, y2⟩ := FIN.out w4 HZ4.out
            go_wp2_with fail
            refine bodyPost_ret (v := .tuple #[.agg #[.slice none 0 0, .slice none 0 0, S []], .int .i64 3]) (by simp [results, Tryd.results30, go_sem, z0, z1, z2]) rfl ?_
            unfold ReadPost
            rw [HQ.out, HGX.out]
            exact ⟨rfl, Below.set3 HW4.out (Nat.le_refl _)⟩
          | ok g =>
            rw [hT2] at hm
            obtain ⟨v, rfl, ho⟩ := hm
            obtain ⟨F', kf', rfl, hlg, hgb⟩ := own_shape ho (by omega)
            have HQ := Lib.hid (readL_ok HTT.out rfl HTF.out hT2)
            have HLG := Lib.hid hlg
            have NF' : Hid (∀ ad, F' = some ad → gx < ad.block) := Lib.hid (fun ad e => by have := hgb ad e; have := HZ3.out.lt; omega)
            clear ho hT2 hlg hgb
            obtain ⟨c0, c0', c1, c2, c3, c1', c2', c3'⟩ := HCC.out w4 HB4.out
            obtain ⟨z0, z1, z2, y0, y1, y2⟩ := FIN.out w4 HZ4.out
            go_wp2_with fail
            refine bodyPost_ret (v := .tuple #[.agg #[.slice F f.length kf, .slice F' g.length kf', S t3], .int .i64 0]) (by simp [results, Tryd.results30, go_sem, z0, z1, z2]) rfl ?_
            unfold ReadPost
            rw [HQ.out, HGX.out]
            exact ⟨⟨F, kf, F', kf', rfl, lies_set3 HLF4.out NF.out, lies_set3 HLG.out NF'.out⟩, Below.set3 HW4.out (Nat.le_refl _)⟩
      · have HQ := Lib.hid (readL_word HTT.out hw)
        have hbe : (t0 == [104, 105, 98, 105]) = false := beq_eq_false_iff_ne.2 hw
        have hbn : (t0 != [104, 105, 98, 105]) = true := by simp [bne, hbe]
        clear hw
        obtain ⟨c0, c0', c1, c2, c3, c1', c2', c3'⟩ := HCC.out w2 (Below.refl _ _)
        obtain ⟨z0, z1, z2, y0, y1, y2⟩ := FIN.out w2 HZ2.out
        go_wp2_with fail
        refine bodyPost_ret (v := .tuple #[.agg #[.slice none 0 0, .slice none 0 0, S []], .int .i64 3]) (by simp [results, Tryd.results30, go_sem, z0, z1, z2]) rfl ?_
        unfold ReadPost
        rw [HQ.out, HGX.out]
        exact ⟨rfl, Below.set3 HW2.out (Nat.le_refl _)⟩
    · have HQ := Lib.hid (readL_len hT hl)
      have e4 : ((ls.length : Int) != 4) = true := by simp; omega
      clear hT hl
      obtain ⟨z0, z1, z2, y0, y1, y2⟩ := FIN.out w2 HZ2.out
      go_wp2_with fail
      refine bodyPost_ret (v := .tuple #[.agg #[.slice none 0 0, .slice none 0 0, S []], .int .i64 3]) (by simp [results, Tryd.results30, go_sem, z0, z1, z2]) rfl ?_
      unfold ReadPost
      rw [HQ.out, HGX.out]
      exact ⟨rfl, Below.set3 HW2.out (Nat.le_refl _)⟩
end Go.Proofs.YtecamaceainfpaaDoor
