/-
  Walk: slices.symMergeCmpFunc at writes: two rows of sorted ones.
-/
import Derived.Test.YtecamaceainfpaaDoorSortD
import Derived.Deep.DeepCutAuto
namespace Go.Proofs.YtecamaceainfpaaDoor
open Go.RowKit

/-- where the search of a merge ends: four parts -/
theorem sym_parts {A X Y B ws : List Wr} {a m b mid s0 r0 s : Nat} (hws : A ++ X ++ Y ++ B = ws) (ha : a = A.length) (hm : m = A.length + X.length) (hb : b = A.length + X.length + Y.length) (hX : Srt X) (hY : Srt Y) (hmid : mid = (a + b) / 2)
    (h0 : (mid < m ∧ s0 = mid + m - b ∧ r0 = mid) ∨ (m ≤ mid ∧ s0 = a ∧ r0 = m)) (hf : Found (fun t => K ws t ≤ K ws (mid + m - 1 - t)) s0 r0 s s) :
    ∃ X1 X2 Y1 Y2, X = X1 ++ X2 ∧ Y = Y1 ++ Y2 ∧ X1.length = s - a ∧ X2.length = m - s ∧ Y1.length = mid - s ∧ Y2.length = b - (mid + m - s) ∧ a ≤ s ∧ s ≤ m ∧ s ≤ mid ∧ mid + m - s ≤ b ∧ (∀ x ∈ X1, ∀ y ∈ Y2, x.1 ≤ y.1) ∧ ∀ x ∈ X2, ∀ y ∈ Y1, y.1 < x.1 := by
  obtain ⟨h1, _, h3, h4, h5⟩ := hf
  have hKX : ∀ t, a ≤ t → t < m → K ws t = K X (t - a) := fun t h1 h2 => by
    rw [← hws, K_left (by simp; omega), K_left (by simp; omega), K_right (by omega), ha]
  have hKY : ∀ t, m ≤ t → t < b → K ws t = K Y (t - m) := fun t h1 h2 => by
    rw [← hws, K_left (by simp; omega), K_right (by simp; omega)]; congr 1; simp; omega
  have has : a ≤ s := by omega
  have hsm : s ≤ m := by omega
  have hsd : s ≤ mid := by omega
  have heb : mid + m - s ≤ b := by omega
  refine ⟨X.take (s - a), X.drop (s - a), Y.take (mid - s), Y.drop (mid - s), (List.take_append_drop _ _).symm, (List.take_append_drop _ _).symm, by rw [List.length_take]; omega, by rw [List.length_drop]; omega, by rw [List.length_take]; omega, by rw [List.length_drop]; omega, has, hsm, hsd, heb, ?_, ?_⟩
  · intro x hx y hy
    obtain ⟨i, hi1, hi2, ex⟩ := mem_take_K hx
    obtain ⟨j, hj1, hj2, ey⟩ := mem_drop_K hy
    by_cases hs : s0 < s
    · have hp : K ws (s - 1) ≤ K ws (mid + m - 1 - (s - 1)) := h4 (s - 1) (by omega) (by omega)
      rw [hKX _ (by omega) (by omega), hKY _ (by omega) (by omega)] at hp
      have q1 := hX.K_le (i := i) (j := s - 1 - a) (by omega) (by omega)
      have q2 := hY.K_le (i := mid + m - 1 - (s - 1) - m) (j := j) (by omega) (by omega)
      omega
    · rcases h0 with ⟨k1, k2, k3⟩ | ⟨k1, k2, k3⟩ <;> omega
  · intro x hx y hy
    obtain ⟨i, hi1, hi2, ex⟩ := mem_drop_K hx
    obtain ⟨j, hj1, hj2, ey⟩ := mem_take_K hy
    by_cases hs : s < r0
    · have hp : ¬ K ws s ≤ K ws (mid + m - 1 - s) := h5 s (Nat.le_refl _) hs
      rw [hKX _ (by omega) (by omega), hKY _ (by omega) (by omega)] at hp
      have q1 := hX.K_le (i := s - a) (j := i) (by omega) (by omega)
      have q2 := hY.K_le (i := j) (j := mid + m - 1 - s - m) (by omega) (by omega)
      omega
    · rcases h0 with ⟨k1, k2, k3⟩ | ⟨k1, k2, k3⟩ <;> omega
theorem sym_mono {A X Y B ws : List Wr} {a m b mid s0 r0 : Nat} (hws : A ++ X ++ Y ++ B = ws) (ha : a = A.length) (hm : m = A.length + X.length) (hb : b = A.length + X.length + Y.length) (hX : Srt X) (hY : Srt Y) (hmid : mid = (a + b) / 2)
    (h0 : (mid < m ∧ s0 = mid + m - b ∧ r0 = mid) ∨ (m ≤ mid ∧ s0 = a ∧ r0 = m)) : ∀ s t, s0 ≤ s → s ≤ t → t < r0 → K ws t ≤ K ws (mid + m - 1 - t) → K ws s ≤ K ws (mid + m - 1 - s) := fun s t h1 h2 h3 hp => by
  have hKX : ∀ t, a ≤ t → t < m → K ws t = K X (t - a) := fun t h1 h2 => by
    rw [← hws, K_left (by simp; omega), K_left (by simp; omega), K_right (by omega), ha]
  have hKY : ∀ t, m ≤ t → t < b → K ws t = K Y (t - m) := fun t h1 h2 => by
    rw [← hws, K_left (by simp; omega), K_right (by simp; omega)]; congr 1; simp; omega
  rw [hKX _ (by omega) (by omega), hKY _ (by omega) (by omega)] at hp ⊢
  have q1 := hX.K_le (i := s - a) (j := t - a) (by omega) (by omega)
  have q2 := hY.K_le (i := mid + m - 1 - t - m) (j := mid + m - 1 - s - m) (by omega) (by omega)
  omega
set_option maxRecDepth 100000 in
set_option maxHeartbeats 4000000 in
theorem merge_gen (w : World) (base g cap N : Nat) (A X Y B : List Wr) (a m b : Nat) (hR : Row w base g cap (A ++ X ++ Y ++ B)) (hN : A.length + X.length + Y.length + B.length = N) (ha : a = A.length) (hm : m = A.length + X.length) (hb : b = A.length + X.length + Y.length) (hX : Srt X) (hY : Srt Y) (hX1 : 1 < X.length) (hY1 : 1 < Y.length) (hl : N ≤ 1099511627776)
    (ih : ∀ (w : World) (A' X' Y' B' : List Wr) (a' m' b' : Nat), X'.length + Y'.length < X.length + Y.length → 0 < X'.length → 0 < Y'.length → Srt X' → Srt Y' → Row w base g cap (A' ++ X' ++ Y' ++ B') → A'.length + X'.length + Y'.length + B'.length = N → a' = A'.length → m' = A'.length + X'.length → b' = A'.length + X'.length + Y'.length →
      Calls Tryd.prog 116 #[.slice (some ⟨g, 0, none⟩) N cap, .int .i64 a', .int .i64 m', .int .i64 b', .func (.func 75) #[] #[]] w (SortPost w base g cap (Merged A' X' Y' B'))) :
    Calls Tryd.prog 116 #[.slice (some ⟨g, 0, none⟩) N cap, .int .i64 a, .int .i64 m, .int .i64 b, .func (.func 75) #[] #[]] w (SortPost w base g cap (Merged A X Y B)) := by
  have hg : base ≤ g := hR.lt.1
  have IH := Lib.hid ih
  obtain ⟨ws, HWS⟩ : ∃ z, Hid (A ++ X ++ Y ++ B = z) := ⟨_, Lib.hid rfl⟩
  have hws := HWS.out
  rw [hws] at hR
  have hlen : ws.length = N := by rw [← hws, ← hN]; simp; omega
  obtain ⟨mid, hmid⟩ : ∃ mid, mid = (a + b) / 2 := ⟨_, rfl⟩
  obtain ⟨s0, r0, h0⟩ : ∃ s0 r0, (mid < m ∧ s0 = mid + m - b ∧ r0 = mid) ∨ (m ≤ mid ∧ s0 = a ∧ r0 = m) := by
    rcases Nat.lt_or_ge mid m with h | h
    · exact ⟨_, _, .inl ⟨h, rfl, rfl⟩⟩
    · exact ⟨_, _, .inr ⟨h, rfl, rfl⟩⟩
  have HMONO := Lib.hid (sym_mono hws ha hm hb hX hY hmid h0)
  have HFIN := Lib.hid fun s => sym_parts (s := s) hws ha hm hb hX hY hmid h0
  have hsr : s0 ≤ r0 := by omega
  have h0' := h0
  have HSR : Hid ((mid < m → (mid : Int) + m - b = (s0 : Int) ∧ (mid : Int) = (r0 : Int)) ∧ (¬ mid < m → (a : Int) = (s0 : Int) ∧ (m : Int) = (r0 : Int))) := Lib.hid (by constructor <;> (intro; omega))
  have HAB : Hid (((a : Int) + (b : Int)) / 2 = (mid : Int)) := Lib.hid (by omega)
  have hr1 : r0 ≤ m := by omega
  have hr2 : r0 ≤ mid := by omega
  have hs1 : a ≤ s0 := by omega
  have hs2 : mid + m - s0 ≤ b := by omega
  have HR := Lib.hid hR
  have HLEN := Lib.hid hlen
  have d0 : ((m : Int) - (a : Int) == 1) = false := by simp; omega
  have d1 : ((b : Int) - (m : Int) == 1) = false := by simp; omega
  have hbN : b ≤ N := by omega
  have ham : a < m := by omega
  have hmb : m < b := by omega
  have hdb : mid < b := by omega
  have had : a < mid := by omega
  have HX := Lib.hid hX
  have HY := Lib.hid hY
  have HAA := Lib.hid ha
  have HMM := Lib.hid hm
  have HBB := Lib.hid hb
  have HNN := Lib.hid hN
  have HWS' : Hid (A ++ X ++ Y ++ B = ws) := HWS
  clear hR hN ha hm hb hX hY hX1 hY1 hws hlen HWS ih h0 h0' hmid
  go_enter Tryd.func116, Tryd.ntmps116
  go_upto_if 140 with (fail)
  rw [HAB.out]
  clear d0 d1
  go_cut [20, 21] (fun sv rv wc => sv = .int .i64 (s0 : Int) ∧ rv = .int .i64 (r0 : Int) ∧ wc = w)
  case first =>
    as_aux_lemma =>
    by_cases hlt : mid < m
    · have d2 : decide ((mid : Int) < (m : Int)) = true := by simp; omega
      have d2' : decide (mid < m) = true := by simp; omega
      go_wp2_with fail
      go_meet
      case rel =>
        obtain ⟨k1, k2⟩ := HSR.out.1 hlt
        exact ⟨by rw [k1], by rw [k2], rfl⟩
    · have d2 : decide ((mid : Int) < (m : Int)) = false := by simp; omega
      have d2' : decide (mid < m) = false := by simp; omega
      go_wp2_with fail
      go_meet
      case rel =>
        obtain ⟨k1, k2⟩ := HSR.out.2 hlt
        exact ⟨by rw [k1], by rw [k2], rfl⟩
  case rest =>
    as_aux_lemma =>
    obtain ⟨rfl, rfl, hwc⟩ := hcut
    have HWC := Lib.hid hwc
    have HR0 : Hid (Row wc base g cap ws) := Lib.hid (by rw [HWC.out]; exact HR.out)
    have HB0 : Hid (Below base w wc) := Lib.hid (by rw [HWC.out]; exact Below.refl _ _)
    clear hwc HWC HR HSR HAB
    go_wp2_with fail
    go_loopw [20, 21, 23] (fun iv jv _ wr => ∃ i j : Nat, iv = .int .i64 i ∧ jv = .int .i64 j ∧ s0 ≤ i ∧ i ≤ j ∧ j ≤ r0 ∧ Hid (Found (fun t => K ws t ≤ K ws (mid + m - 1 - t)) s0 r0 i j) ∧ Hid (Row wr base g cap ws) ∧ Hid (Below base w wr)) (fun iv jv _ _ => (intOf jv).toNat - (intOf iv).toNat)
    case atStart => exact ⟨s0, r0, rfl, rfl, by omega, hsr, by omega, Lib.hid (Found.start hsr), HR0, HB0⟩
    case round =>
      obtain ⟨i, j, rfl, rfl, hai, hij, hjm, HF, HRW, HW⟩ := hrel
      clear HR0 HB0
      by_cases hlt : i < j
      · have d2 : decide ((i : Int) < (j : Int)) = true := by simp; omega
        have d2' : decide (i < j) = true := by simp; omega
        go_wp2_with fail
        rw [show ((i : Int) + (j : Int)) / 2 = (((i + j) / 2 : Nat) : Int) from by omega]
        have hc1 : i ≤ (i + j) / 2 := by omega
        have hc2 : (i + j) / 2 < j := by omega
        generalize (i + j) / 2 = c at *
        have HYES := Lib.hid (HF.out.yes HMONO.out hc1 hc2)
        have HNO := Lib.hid (HF.out.no HMONO.out hc1 hc2)
        obtain ⟨q, hq⟩ : ∃ q, q = mid + m - 1 - c := ⟨_, rfl⟩
        have hq1 : m ≤ q := by omega
        have hq2 : q < b := by omega
        have e1 : IntKind.i64.wrap ((mid : Int) + (m : Int) - 1 - (c : Int)) = (q : Int) := by rw [IntWalk.i64_in _ (by omega)]; omega
        rw [← hq] at HYES HNO
        clear hq
        obtain ⟨p1, p2⟩ := HRW.out.cells (i := q) (by rw [HLEN.out]; omega)
        obtain ⟨q1, q2⟩ := HRW.out.cells (i := c) (by rw [HLEN.out]; omega)
        have hgw : g < wr.heap.size := HRW.out.lt.2
        have i1 : (0 : Int) ≤ (c : Int) := by omega
        have i2 : (c : Int) < (N : Int) := by omega
        have i3 : (0 : Int) ≤ (q : Int) := by omega
        have i4 : (q : Int) < (N : Int) := by omega
        have HYES' : Hid (¬ (ws.getD q (0, [])).1 < (ws.getD c (0, [])).1 → Found (fun t => K ws t ≤ K ws (mid + m - 1 - t)) s0 r0 (c + 1) j) := Lib.hid fun h => HYES.out (by unfold K; omega)
        have HNO' : Hid ((ws.getD q (0, [])).1 < (ws.getD c (0, [])).1 → Found (fun t => K ws t ≤ K ws (mid + m - 1 - t)) s0 r0 i c) := Lib.hid fun h => HNO.out (by unfold K; omega)
        clear HYES HNO
        generalize ws.getD q (0, []) = y at *
        generalize ws.getD c (0, []) = x at *
        have HKEEP : Hid (∀ W, Below wr.heap.size wr W → W.cell? ⟨g, q * 2, none⟩ = some (.int .i64 y.1) ∧ W.cell? ⟨g, q * 2 + 1, none⟩ = some (S y.2) ∧ W.cell? ⟨g, c * 2, none⟩ = some (.int .i64 x.1) ∧ W.cell? ⟨g, c * 2 + 1, none⟩ = some (S x.2)) := Lib.hid fun W hW =>
          ⟨(hW.cell (p := ⟨g, q * 2, none⟩) hgw).trans p1, (hW.cell (p := ⟨g, q * 2 + 1, none⟩) hgw).trans p2, (hW.cell (p := ⟨g, c * 2, none⟩) hgw).trans q1, (hW.cell (p := ⟨g, c * 2 + 1, none⟩) hgw).trans q2⟩
        by_cases hlt2 : y.1 < x.1
        · as_aux_lemma =>
          have LY : Hid (∀ W, Calls Tryd.prog 75 #[.agg #[.int .i64 y.1, S y.2], .agg #[.int .i64 x.1, S x.2]] W fun e w' => e = .returned (.int .i64 (-1)) ∧ Below W.heap.size W w') := Lib.hid fun W => less_yes W y x hlt2
          have HF2 := Lib.hid (HNO'.out hlt2)
          clear hlt2 HYES' HNO'
          go_region_held3 (fun w' => w'.cell? ⟨g, q * 2, none⟩ = some (.int .i64 y.1) ∧ w'.cell? ⟨g, q * 2 + 1, none⟩ = some (S y.2) ∧ w'.cell? ⟨g, c * 2, none⟩ = some (.int .i64 x.1) ∧ w'.cell? ⟨g, c * 2 + 1, none⟩ = some (S x.2))
            (first
              | (exact HKEEP.out _ (Below.refl _ _).drew)
              | (exact HKEEP.out _ BB))
            (first
              | (go_at_call 75; refine (LY.out _).mono ?_; rintro e' w1 ⟨rfl, hbl⟩; have BB : Below wr.heap.size wr w1 := (Below.refl wr.heap.size wr).drew.trans hbl; clear hbl))
          have HR1 := Lib.hid (HRW.out.below BB)
          have HW1 := Lib.hid (HW.out.trans (BB.mono (Nat.le_of_lt (Nat.lt_of_le_of_lt hg hgw))))
          clear BB HKEEP LY p1 p2 q1 q2 i1 i2 i3 i4 e1
          go_wp2_with fail
          refine ⟨⟨i, c, rfl, rfl, hai, hc1, by omega, HF2, HR1, HW1⟩, by simp [intOf]; omega⟩
        · as_aux_lemma =>
          have LN : Hid (∀ W, Calls Tryd.prog 75 #[.agg #[.int .i64 y.1, S y.2], .agg #[.int .i64 x.1, S x.2]] W fun e w' => ∃ z : Int, decide (z < 0) = false ∧ e = .returned (.int .i64 z) ∧ Below W.heap.size W w') := Lib.hid fun W => less_no W y x hlt2
          have HF2 := Lib.hid (HYES'.out hlt2)
          clear hlt2 HYES' HNO'
          go_region_held3 (fun w' => w'.cell? ⟨g, q * 2, none⟩ = some (.int .i64 y.1) ∧ w'.cell? ⟨g, q * 2 + 1, none⟩ = some (S y.2) ∧ w'.cell? ⟨g, c * 2, none⟩ = some (.int .i64 x.1) ∧ w'.cell? ⟨g, c * 2 + 1, none⟩ = some (S x.2))
            (first
              | (exact HKEEP.out _ (Below.refl _ _).drew)
              | (exact HKEEP.out _ BB))
            (first
              | (go_at_call 75; refine (LN.out _).mono ?_; rintro e' w1 ⟨z, hz, rfl, hbl⟩; have BB : Below wr.heap.size wr w1 := (Below.refl wr.heap.size wr).drew.trans hbl; clear hbl))
          have HR1 := Lib.hid (HRW.out.below BB)
          have HW1 := Lib.hid (HW.out.trans (BB.mono (Nat.le_of_lt (Nat.lt_of_le_of_lt hg hgw))))
          clear BB HKEEP LN p1 p2 q1 q2 i1 i2 i3 i4 e1
          go_wp2_with fail
          refine ⟨⟨c + 1, j, by go_num, rfl, by omega, by omega, hjm, HF2, HR1, HW1⟩, by simp [intOf]; omega⟩
      · obtain rfl : i = j := by omega
        have d2 : decide ((i : Int) < (i : Int)) = false := by simp
        have d2' : decide (i < i) = false := by simp
        obtain ⟨X1, X2, Y1, Y2, eX, eY, l1, l2, l3, l4, g1, g2, g3, g4, o1, o2⟩ := HFIN.out i HF.out
        have HRW' : Hid (Row wr base g cap (A ++ X1 ++ X2 ++ Y1 ++ Y2 ++ B)) := Lib.hid (by have := HRW.out; rw [← HWS'.out, eX, eY] at this; simpa using this)
        have HEX := Lib.hid eX
        have HEY := Lib.hid eY
        have HLS := Lib.hid (And.intro l1 (And.intro l2 (And.intro l3 l4)))
        have HO1 := Lib.hid o1
        have HO2 := Lib.hid o2
        clear eX eY l1 l2 l3 l4 o1 o2 HF HFIN HMONO HRW
        -- the first: rotate
        have HC1 : Hid (i < m → i < mid → Calls Tryd.prog 135 #[.slice (some ⟨g, 0, none⟩) N cap, .int .i64 (i : Int), .int .i64 (m : Int), .int .i64 ((mid + m - i : Nat) : Int), .func (.func 75) #[] #[]] wr (SortPost wr base g cap fun ls => ls = A ++ X1 ++ Y1 ++ X2 ++ (Y2 ++ B))) := Lib.hid fun h1 h2 => by
          obtain ⟨l1, l2, l3, l4⟩ := HLS.out
          have k1 := HAA.out
          have k2 := HMM.out
          have k3 := HNN.out
          have k4 := congrArg List.length HEX.out
          have k5 := congrArg List.length HEY.out
          rw [List.length_append] at k4 k5
          refine rotate_any wr base g cap N (A ++ X1) X2 Y1 (Y2 ++ B) i m (mid + m - i) (by have := HRW'.out; simpa using this) ?_ ?_ ?_ ?_ (by omega) (by omega) hl
          · simp only [List.length_append]; omega
          · simp only [List.length_append]; omega
          · simp only [List.length_append]; omega
          · simp only [List.length_append]; omega
        have HSAME1 : Hid (¬ (i < m ∧ i < mid) → Row wr base g cap (A ++ X1 ++ Y1 ++ X2 ++ (Y2 ++ B))) := Lib.hid fun h => by
          obtain ⟨l1, l2, l3, l4⟩ := HLS.out
          have := HRW'.out
          by_cases h1 : i < m
          · obtain rfl : Y1 = [] := List.eq_nil_of_length_eq_zero (by omega)
            simpa using this
          · obtain rfl : X2 = [] := List.eq_nil_of_length_eq_zero (by omega)
            simpa using this
        have E1 : Hid ((mid : Int) + (m : Int) - (i : Int) = ((mid + m - i : Nat) : Int)) := Lib.hid (by omega)
        go_upto_region 39 with (fail)
        clear d2 d2'
        rw [E1.out]
        obtain ⟨en, hen⟩ : ∃ en, en = mid + m - i := ⟨_, rfl⟩
        rw [← hen] at HC1 g4 ⊢
        have hen1 : m ≤ en := by omega
        have hen2 : mid ≤ en := by omega
        have HEN := Lib.hid hen
        clear hen
        obtain ⟨b1, HB1⟩ : ∃ z, Hid (decide (i < m ∧ i < mid) = z) := ⟨_, Lib.hid rfl⟩
        go_cut [185] (fun v wc => v = .bool b1 ∧ wc = wr)
        case first =>
          as_aux_lemma =>
          by_cases c1 : i < m
          · have f1 : decide ((i : Int) < (m : Int)) = true := by simp; omega
            have f1' : decide (i < m) = true := by simp; omega
            by_cases c2 : i < mid
            · have hme : m < en := by have := HEN.out; omega
              have f2 : decide ((m : Int) < (en : Int)) = true := by simp; omega
              have f2' : decide (m < en) = true := by simp; omega
              have HV : Hid (b1 = true) := Lib.hid (by rw [← HB1.out]; exact decide_eq_true ⟨c1, c2⟩)
              go_wp2_with fail
              go_meet
              case rel => exact ⟨by rw [HV.out], rfl⟩
            · have hme : ¬ m < en := by have := HEN.out; omega
              have f2 : decide ((m : Int) < (en : Int)) = false := by simp; omega
              have f2' : decide (m < en) = false := by simp; omega
              have HV : Hid (b1 = false) := Lib.hid (by rw [← HB1.out]; exact decide_eq_false fun h => c2 h.2)
              go_wp2_with fail
              go_meet
              case rel => exact ⟨by rw [HV.out], rfl⟩
          · have f1 : decide ((i : Int) < (m : Int)) = false := by simp; omega
            have f1' : decide (i < m) = false := by simp; omega
            have HV : Hid (b1 = false) := Lib.hid (by rw [← HB1.out]; exact decide_eq_false fun h => c1 h.1)
            go_wp2_with fail
            go_meet
            case rel => exact ⟨by rw [HV.out], rfl⟩
        case rest =>
        as_aux_lemma =>
        obtain ⟨rfl, hwc⟩ := hcut
        obtain rfl := hwc
        have CALL1 : Hid (b1 = true → Calls Tryd.prog 135 #[.slice (some ⟨g, 0, none⟩) N cap, .int .i64 (i : Int), .int .i64 (m : Int), .int .i64 (en : Int), .func (.func 75) #[] #[]] wc (SortPost wc base g cap fun ls => ls = A ++ X1 ++ Y1 ++ X2 ++ (Y2 ++ B))) := Lib.hid fun h => by
          rw [← HB1.out] at h
          exact HC1.out (of_decide_eq_true h).1 (of_decide_eq_true h).2
        have SAME1 : Hid (b1 = false → Row wc base g cap (A ++ X1 ++ Y1 ++ X2 ++ (Y2 ++ B))) := Lib.hid fun h => by
          rw [← HB1.out] at h
          exact HSAME1.out (of_decide_eq_false h)
        clear HC1 HSAME1 HB1 HRW'
        go_upto_if 185 with (fail)
        go_cut [] (fun wc => Hid (Row wc base g cap (A ++ X1 ++ Y1 ++ X2 ++ (Y2 ++ B))) ∧ Hid (Below base w wc))
        case first =>
          as_aux_lemma =>
          cases b1 with
          | true =>
            have CALL := Lib.hid (CALL1.out rfl)
            clear CALL1 SAME1
            go_wp2_with fail
            refine CALL.out.mono ?_
            rintro e' w1 ⟨rfl, ⟨ls, rfl, hrow⟩, hb1⟩
            have HR1 := Lib.hid hrow
            have HB1 := Lib.hid (HW.out.trans hb1)
            clear hrow hb1
            go_wp2_with fail
            go_meet
            case rel => exact ⟨HR1, HB1⟩
          | false =>
            have HS1 := Lib.hid (SAME1.out rfl)
            clear CALL1 SAME1
            go_wp2_with fail
            go_meet
            case rel => exact ⟨HS1, HW⟩
        case rest =>
        as_aux_lemma =>
        obtain ⟨HR1, HB1⟩ := hcut
        clear CALL1 SAME1 HW
        obtain ⟨wx, hwx⟩ : ∃ wx : World, Hid (wx = wc) := ⟨_, Lib.hid rfl⟩
        have HSX1 : Hid (Srt X1 ∧ Srt X2) := Lib.hid (by have := HX.out; rw [HEX.out] at this; exact ⟨this.parts.1, this.parts.2.1⟩)
        have HSY1 : Hid (Srt Y1 ∧ Srt Y2) := Lib.hid (by have := HY.out; rw [HEY.out] at this; exact ⟨this.parts.1, this.parts.2.1⟩)
        go_upto_region 41 with (fail)
        obtain ⟨b2, HBb2⟩ : ∃ z, Hid (decide (a < i ∧ i < mid) = z) := ⟨_, Lib.hid rfl⟩
        go_cut [199] (fun v wd => v = .bool b2 ∧ wd = wc)
        case first =>
          as_aux_lemma =>
          by_cases c1 : a < i
          · have f1 : decide ((a : Int) < (i : Int)) = true := by simp; omega
            have f1' : decide (a < i) = true := by simp; omega
            by_cases c2 : i < mid
            · have f2 : decide ((i : Int) < (mid : Int)) = true := by simp; omega
              have f2' : decide (i < mid) = true := by simp; omega
              have HV : Hid (b2 = true) := Lib.hid (by rw [← HBb2.out]; exact decide_eq_true ⟨c1, c2⟩)
              go_wp2_with fail
              go_meet
              case rel => exact ⟨by rw [HV.out], rfl⟩
            · have f2 : decide ((i : Int) < (mid : Int)) = false := by simp; omega
              have f2' : decide (i < mid) = false := by simp; omega
              have HV : Hid (b2 = false) := Lib.hid (by rw [← HBb2.out]; exact decide_eq_false fun h => c2 h.2)
              go_wp2_with fail
              go_meet
              case rel => exact ⟨by rw [HV.out], rfl⟩
          · have f1 : decide ((a : Int) < (i : Int)) = false := by simp; omega
            have f1' : decide (a < i) = false := by simp; omega
            have HV : Hid (b2 = false) := Lib.hid (by rw [← HBb2.out]; exact decide_eq_false fun h => c1 h.1)
            go_wp2_with fail
            go_meet
            case rel => exact ⟨by rw [HV.out], rfl⟩
        case rest =>
        as_aux_lemma =>
        obtain ⟨rfl, hwd⟩ := hcut
        obtain rfl := hwd
        have CALL2 : Hid (b2 = true → Calls Tryd.prog 116 #[.slice (some ⟨g, 0, none⟩) N cap, .int .i64 (a : Int), .int .i64 (i : Int), .int .i64 (mid : Int), .func (.func 75) #[] #[]] wc (SortPost wc base g cap (Merged A X1 Y1 (X2 ++ (Y2 ++ B))))) := Lib.hid fun h => by
          rw [← HBb2.out] at h
          obtain ⟨c1, c2⟩ := of_decide_eq_true h
          obtain ⟨l1, l2, l3, l4⟩ := HLS.out
          have k1 := HAA.out
          have k2 := HMM.out
          have k3 := HNN.out
          have k6 := HBB.out
          have k7 := HEN.out
          have k4 := congrArg List.length HEX.out
          have k5 := congrArg List.length HEY.out
          rw [List.length_append] at k4 k5
          refine IH.out wc A X1 Y1 (X2 ++ (Y2 ++ B)) a i mid (by omega) (by omega) (by omega) HSX1.out.1 HSY1.out.1 (by have := HR1.out; simpa using this) ?_ k1 ?_ ?_
          · simp only [List.length_append]; omega
          · omega
          · omega
        have SAME2 : Hid (b2 = false → Merged A X1 Y1 (X2 ++ (Y2 ++ B)) (A ++ X1 ++ Y1 ++ X2 ++ (Y2 ++ B))) := Lib.hid fun h => by
          rw [← HBb2.out] at h
          have h' := of_decide_eq_false h
          obtain ⟨l1, l2, l3, l4⟩ := HLS.out
          have k1 := HAA.out
          have k2 := HMM.out
          have k3 := HNN.out
          have k6 := HBB.out
          have k7 := HEN.out
          have k4 := congrArg List.length HEX.out
          have k5 := congrArg List.length HEY.out
          rw [List.length_append] at k4 k5
          refine ⟨X1 ++ Y1, by simp, StEq.refl _, ?_⟩
          by_cases c1 : a < i
          · obtain rfl : Y1 = [] := List.eq_nil_of_length_eq_zero (by omega)
            rw [List.append_nil]; exact HSX1.out.1
          · obtain rfl : X1 = [] := List.eq_nil_of_length_eq_zero (by omega)
            exact HSY1.out.1
        clear HBb2
        go_upto_if 199 with (fail)
        go_cut [] (fun we => (∃ ls, Hid (Merged A X1 Y1 (X2 ++ (Y2 ++ B)) ls) ∧ Hid (Row we base g cap ls)) ∧ Hid (Below base w we))
        case first =>
          as_aux_lemma =>
          cases b2 with
          | true =>
            have CALL := Lib.hid (CALL2.out rfl)
            clear CALL2 SAME2
            go_wp2_with fail
            refine CALL.out.mono ?_
            rintro e' w1 ⟨rfl, ⟨ls, hls, hrow⟩, hb1⟩
            have HR2 : Hid _ := Lib.hid hrow
            have HL2 := Lib.hid hls
            have HB2 := Lib.hid (HB1.out.trans hb1)
            clear hrow hb1 hls
            go_wp2_with fail
            go_meet
            case rel => exact ⟨⟨ls, HL2, HR2⟩, HB2⟩
          | false =>
            have HL2 := Lib.hid (SAME2.out rfl)
            clear CALL2 SAME2
            go_wp2_with fail
            go_meet
            case rel => exact ⟨⟨_, HL2, HR1⟩, HB1⟩
        case rest =>
        as_aux_lemma =>
        obtain ⟨⟨ls, HL2, HR2⟩, HB2⟩ := hcut
        clear CALL2 SAME2 HR1 HB1
        have HL2' := HL2.out
        obtain ⟨Z1, eZ, sZ, tZ⟩ := HL2'
        have HZ := Lib.hid (And.intro eZ (And.intro sZ tZ))
        clear eZ sZ tZ HL2
        go_upto_region 43 with (fail)
        obtain ⟨b3, HBb3⟩ : ∃ z, Hid (decide (mid < en ∧ en < b) = z) := ⟨_, Lib.hid rfl⟩
        go_cut [213] (fun v wf => v = .bool b3 ∧ wf = wc)
        case first =>
          as_aux_lemma =>
          by_cases c1 : mid < en
          · have f1 : decide ((mid : Int) < (en : Int)) = true := by simp; omega
            have f1' : decide (mid < en) = true := by simp; omega
            by_cases c2 : en < b
            · have f2 : decide ((en : Int) < (b : Int)) = true := by simp; omega
              have f2' : decide (en < b) = true := by simp; omega
              have HV : Hid (b3 = true) := Lib.hid (by rw [← HBb3.out]; exact decide_eq_true ⟨c1, c2⟩)
              go_wp2_with fail
              go_meet
              case rel => exact ⟨by rw [HV.out], rfl⟩
            · have f2 : decide ((en : Int) < (b : Int)) = false := by simp; omega
              have f2' : decide (en < b) = false := by simp; omega
              have HV : Hid (b3 = false) := Lib.hid (by rw [← HBb3.out]; exact decide_eq_false fun h => c2 h.2)
              go_wp2_with fail
              go_meet
              case rel => exact ⟨by rw [HV.out], rfl⟩
          · have f1 : decide ((mid : Int) < (en : Int)) = false := by simp; omega
            have f1' : decide (mid < en) = false := by simp; omega
            have HV : Hid (b3 = false) := Lib.hid (by rw [← HBb3.out]; exact decide_eq_false fun h => c1 h.1)
            go_wp2_with fail
            go_meet
            case rel => exact ⟨by rw [HV.out], rfl⟩
        case rest =>
        as_aux_lemma =>
        obtain ⟨rfl, hwf⟩ := hcut
        obtain rfl := hwf
        have HEND : Hid (∀ Z2, StEq (X2 ++ Y2) Z2 → Srt Z2 → Merged A X Y B (A ++ Z1 ++ Z2 ++ B)) := Lib.hid fun Z2 s2 t2 => by
          obtain ⟨q1, q2⟩ := merge_step (by rw [← HEX.out]; exact HX.out) (by rw [← HEY.out]; exact HY.out) HO1.out HO2.out HZ.out.2.1 HZ.out.2.2 s2 t2
          rw [← HEX.out, ← HEY.out] at q1
          exact ⟨Z1 ++ Z2, by simp, q1, q2⟩
        have HR2' : Hid (Row wc base g cap (A ++ Z1 ++ X2 ++ Y2 ++ B)) := Lib.hid (by have := HR2.out; rw [HZ.out.1] at this; simpa using this)
        have CALL3 : Hid (b3 = true → Calls Tryd.prog 116 #[.slice (some ⟨g, 0, none⟩) N cap, .int .i64 (mid : Int), .int .i64 (en : Int), .int .i64 (b : Int), .func (.func 75) #[] #[]] wc (SortPost wc base g cap (Merged (A ++ Z1) X2 Y2 B))) := Lib.hid fun h => by
          rw [← HBb3.out] at h
          obtain ⟨c1, c2⟩ := of_decide_eq_true h
          obtain ⟨l1, l2, l3, l4⟩ := HLS.out
          have k1 := HAA.out
          have k2 := HMM.out
          have k3 := HNN.out
          have k6 := HBB.out
          have k7 := HEN.out
          have k4 := congrArg List.length HEX.out
          have k5 := congrArg List.length HEY.out
          rw [List.length_append] at k4 k5
          have k8 := HZ.out.2.1.length
          rw [List.length_append] at k8
          refine IH.out wc (A ++ Z1) X2 Y2 B mid en b (by omega) (by omega) (by omega) HSX1.out.2 HSY1.out.2 HR2'.out ?_ ?_ ?_ ?_
          · simp only [List.length_append]; omega
          · simp only [List.length_append]; omega
          · simp only [List.length_append]; omega
          · simp only [List.length_append]; omega
        have SAME3 : Hid (b3 = false → Merged A X Y B (A ++ Z1 ++ X2 ++ Y2 ++ B)) := Lib.hid fun h => by
          rw [← HBb3.out] at h
          have h' := of_decide_eq_false h
          obtain ⟨l1, l2, l3, l4⟩ := HLS.out
          have k1 := HAA.out
          have k2 := HMM.out
          have k3 := HNN.out
          have k6 := HBB.out
          have k7 := HEN.out
          have k4 := congrArg List.length HEX.out
          have k5 := congrArg List.length HEY.out
          rw [List.length_append] at k4 k5
          have := HEND.out (X2 ++ Y2) (StEq.refl _) (by
            by_cases c1 : mid < en
            · obtain rfl : Y2 = [] := List.eq_nil_of_length_eq_zero (by omega)
              rw [List.append_nil]; exact HSX1.out.2
            · obtain rfl : X2 = [] := List.eq_nil_of_length_eq_zero (by omega)
              exact HSY1.out.2)
          rwa [← List.append_assoc] at this
        clear HBb3 HR2
        cases b3 with
        | true =>
          have CALL := Lib.hid (CALL3.out rfl)
          clear CALL3 SAME3
          go_wp2_with fail
          refine CALL.out.mono ?_
          rintro e' w1 ⟨rfl, ⟨ls3, ⟨Z2, rfl, s2, t2⟩, hrow⟩, hb1⟩
          have HR3 := Lib.hid hrow
          have HL3 := Lib.hid (HEND.out Z2 s2 t2)
          have HB3 := Lib.hid (HB2.out.trans hb1)
          clear hrow hb1 s2 t2
          go_wp2_with fail
          go_end0
          exact ⟨rfl, ⟨_, HL3.out, HR3.out⟩, HB3.out⟩
        | false =>
          have HL3 := Lib.hid (SAME3.out rfl)
          clear CALL3 SAME3
          go_wp2_with fail
          go_end0
          exact ⟨rfl, ⟨_, HL3.out, HR2'.out⟩, HB2.out⟩
/-- the merge of two rows of sorted writes -/
theorem merge_any (base g cap N : Nat) (hl : N ≤ 1099511627776) : ∀ (n : Nat) (w : World) (A X Y B : List Wr) (a m b : Nat), X.length + Y.length ≤ n → 0 < X.length → 0 < Y.length → Srt X → Srt Y → Row w base g cap (A ++ X ++ Y ++ B) → A.length + X.length + Y.length + B.length = N → a = A.length → m = A.length + X.length → b = A.length + X.length + Y.length →
    Calls Tryd.prog 116 #[.slice (some ⟨g, 0, none⟩) N cap, .int .i64 a, .int .i64 m, .int .i64 b, .func (.func 75) #[] #[]] w (SortPost w base g cap (Merged A X Y B)) := by
  intro n
  induction n with
  | zero => intro w A X Y B a m b h h1; omega
  | succ n ih =>
    intro w A X Y B a m b h hx hy sx sy hr hn ha hm hb
    by_cases h1 : X.length = 1
    · obtain ⟨x, rfl⟩ := List.length_eq_one_iff.1 h1
      exact merge_left w base g cap N A Y B x a m b hr (by simpa using hn) ha (by simpa using hm) (by simpa using hb) sy hl
    · by_cases h2 : Y.length = 1
      · obtain ⟨y, rfl⟩ := List.length_eq_one_iff.1 h2
        exact merge_right w base g cap N A X B y a m b hr (by simpa using hn) ha hm (by simpa using hb) sx (by omega) hl
      · exact merge_gen w base g cap N A X Y B a m b hr hn ha hm hb sx sy (by omega) (by omega) hl fun w' A' X' Y' B' a' m' b' k1 k2 k3 k4 k5 k6 k7 k8 k9 k10 => ih w' A' X' Y' B' a' m' b' (by omega) k2 k3 k4 k5 k6 k7 k8 k9 k10
end Go.Proofs.YtecamaceainfpaaDoor
