/-
  Walk: slices.symMergeCmpFunc at writes: sorted ones against one write.
-/
import Derived.Test.YtecamaceainfpaaDoorSortC
namespace Go.Proofs.YtecamaceainfpaaDoor
open Go.RowKit

set_option maxRecDepth 100000 in
set_option maxHeartbeats 4000000 in
theorem merge_right (w : World) (base g cap N : Nat) (A X B : List Wr) (y : Wr) (a m b : Nat) (hR : Row w base g cap (A ++ X ++ [y] ++ B)) (hN : A.length + X.length + 1 + B.length = N) (ha : a = A.length) (hm : m = A.length + X.length) (hb : b = A.length + X.length + 1) (hX : Srt X) (hX1 : 1 < X.length) (hl : N ≤ 1099511627776) :
    Calls Tryd.prog 116 #[.slice (some ⟨g, 0, none⟩) N cap, .int .i64 a, .int .i64 m, .int .i64 b, .func (.func 75) #[] #[]] w (SortPost w base g cap (Merged A X [y] B)) := by
  have hg : base ≤ g := hR.lt.1
  obtain ⟨ws, HWS⟩ : ∃ z, Hid (A ++ X ++ [y] ++ B = z) := ⟨_, Lib.hid rfl⟩
  have hws := HWS.out
  rw [hws] at hR
  have hlen : ws.length = N := by rw [← hws, ← hN]; simp; omega
  have hay : ws.getD m (0, []) = y := by rw [← hws, hm, List.append_assoc, getD_app_right (by simp), show A.length + X.length - (A ++ X).length = 0 by simp]; rfl
  have hKX : ∀ t, a ≤ t → t < m → K ws t = K X (t - a) := fun t h1 h2 => by
    rw [← hws, K_left (by simp; omega), K_left (by simp; omega), K_right (by omega), ha]
  have HMONO : Hid (∀ s t, a ≤ s → s ≤ t → t < m → K ws t ≤ y.1 → K ws s ≤ y.1) := Lib.hid fun s t h1 h2 h3 h4 => by
    rw [hKX t (by omega) h3] at h4
    rw [hKX s h1 (by omega)]
    have := hX.K_le (i := s - a) (j := t - a) (by omega) (by omega)
    omega
  have HFIN : Hid (∀ i, Found (fun t => K ws t ≤ y.1) a m i i → Merged A X [y] B (slid A X B y (i - a))) := Lib.hid fun i h => by
    obtain ⟨h1, _, h3, h4, h5⟩ := h
    obtain ⟨q1, q2⟩ := insert_back (U := X.take (i - a)) (V := X.drop (i - a)) (e := y) (by rw [List.take_append_drop]; exact hX) (fun p hp => by
        obtain ⟨t, ht, ht', e⟩ := mem_take_K hp
        have : K ws (a + t) ≤ y.1 := h4 (a + t) (by omega) (by omega)
        rw [hKX _ (by omega) (by omega), show a + t - a = t by omega, ← e] at this
        exact this) (fun p hp => by
        obtain ⟨t, ht, ht', e⟩ := mem_drop_K hp
        have : ¬ K ws (a + t) ≤ y.1 := h5 (a + t) (by omega) (by omega)
        rw [hKX _ (by omega) (by omega), show a + t - a = t by omega, ← e] at this
        omega)
    rw [List.take_append_drop] at q1
    exact ⟨_, by unfold slid; simp, by simpa using q1, q2⟩
  have HST : Hid (∀ t, t < m - a → swapL (slid A X B y (t + 1)) (a + t + 1) (a + t) = slid A X B y t) := Lib.hid fun t ht => by rw [ha]; exact slid_left A X B y (by omega)
  have HSL : Hid (∀ t, t ≤ m - a → (slid A X B y t).length = N) := Lib.hid fun t ht => by rw [slid_length _ _ _ _ _ (by omega)]; omega
  have HS0 : Hid (ws = slid A X B y (m - a)) := Lib.hid (by
    rw [← hws]; unfold slid
    rw [List.take_of_length_le (by omega), List.drop_eq_nil_of_le (by omega)]; simp)
  have HR := Lib.hid hR
  have HLEN := Lib.hid hlen
  have HAY := Lib.hid hay
  have d0 : ((m : Int) - (a : Int) == 1) = false := by simp; omega
  have d1 : ((b : Int) - (m : Int) == 1) = true := by simp; omega
  have hbN : b ≤ N := by omega
  have ham : a < m := by omega
  have hmb : m < b := by omega
  clear hR hN ha hm hb hX hX1 hws hlen hay hKX HWS
  go_enter Tryd.func116, Tryd.ntmps116
  go_wp2_with fail
  go_loopw [14, 15, 16] (fun iv jv _ wr => ∃ i j : Nat, iv = .int .i64 i ∧ jv = .int .i64 j ∧ a ≤ i ∧ i ≤ j ∧ j ≤ m ∧ Hid (Found (fun t => K ws t ≤ y.1) a m i j) ∧ Hid (Row wr base g cap ws) ∧ Hid (Below base w wr)) (fun iv jv _ _ => (intOf jv).toNat - (intOf iv).toNat)
  case atStart => exact ⟨a, m, rfl, rfl, by omega, by omega, by omega, Lib.hid (Found.start (by omega)), HR, Lib.hid (Below.refl _ _)⟩
  case round =>
    obtain ⟨i, j, rfl, rfl, hai, hij, hjm, HF, HRW, HW⟩ := hrel
    clear HR
    by_cases hlt : i < j
    · have d2 : decide ((i : Int) < (j : Int)) = true := by simp; omega
      have d2' : decide (i < j) = true := by simp; omega
      go_wp2_with fail
      rw [show ((i : Int) + (j : Int)) / 2 = (((i + j) / 2 : Nat) : Int) from by omega]
      have hc1 : i ≤ (i + j) / 2 := by omega
      have hc2 : (i + j) / 2 < j := by omega
      generalize (i + j) / 2 = c at *
      have HYES := Lib.hid (HF.out.yes HMONO.out hc1 hc2)
      have HNO := Lib.hid (HF.out.no HMONO.out hc1 hc2)
      obtain ⟨p1, p2⟩ := HRW.out.cells (i := c) (by rw [HLEN.out]; omega)
      obtain ⟨q1, q2⟩ := HRW.out.cells (i := m) (by rw [HLEN.out]; omega)
      rw [HAY.out] at q1 q2
      have hgw : g < wr.heap.size := HRW.out.lt.2
      have HKEEP : Hid (∀ W, Below wr.heap.size wr W → W.cell? ⟨g, m * 2, none⟩ = some (.int .i64 y.1) ∧ W.cell? ⟨g, m * 2 + 1, none⟩ = some (S y.2) ∧ W.cell? ⟨g, c * 2, none⟩ = some (.int .i64 (ws.getD c (0, [])).1) ∧ W.cell? ⟨g, c * 2 + 1, none⟩ = some (S (ws.getD c (0, [])).2)) := Lib.hid fun W hW =>
        ⟨(hW.cell (p := ⟨g, m * 2, none⟩) hgw).trans q1, (hW.cell (p := ⟨g, m * 2 + 1, none⟩) hgw).trans q2, (hW.cell (p := ⟨g, c * 2, none⟩) hgw).trans p1, (hW.cell (p := ⟨g, c * 2 + 1, none⟩) hgw).trans p2⟩
      have i1 : (0 : Int) ≤ (c : Int) := by omega
      have i2 : (c : Int) < (N : Int) := by omega
      have i3 : (0 : Int) ≤ (m : Int) := by omega
      have i4 : (m : Int) < (N : Int) := by omega
      by_cases hlt2 : y.1 < (ws.getD c (0, [])).1
      · have LY : Hid (∀ W, Calls Tryd.prog 75 #[.agg #[.int .i64 y.1, S y.2], .agg #[.int .i64 (ws.getD c (0, [])).1, S (ws.getD c (0, [])).2]] W fun e w' => e = .returned (.int .i64 (-1)) ∧ Below W.heap.size W w') := Lib.hid fun W => less_yes W y (ws.getD c (0, [])) hlt2
        have HF2 := Lib.hid (HNO.out (by unfold K; omega))
        clear hlt2 HYES HNO
        generalize ws.getD c (0, []) = x at *
        go_region_held3 (fun w' => w'.cell? ⟨g, m * 2, none⟩ = some (.int .i64 y.1) ∧ w'.cell? ⟨g, m * 2 + 1, none⟩ = some (S y.2) ∧ w'.cell? ⟨g, c * 2, none⟩ = some (.int .i64 x.1) ∧ w'.cell? ⟨g, c * 2 + 1, none⟩ = some (S x.2))
          (first
            | (exact HKEEP.out _ (Below.refl _ _).drew)
            | (exact HKEEP.out _ BB))
          (first
            | (go_at_call 75; refine (LY.out _).mono ?_; rintro e' w1 ⟨rfl, hbl⟩; have BB : Below wr.heap.size wr w1 := (Below.refl wr.heap.size wr).drew.trans hbl; clear hbl))
        have HR1 := Lib.hid (HRW.out.below BB)
        have HW1 := Lib.hid (HW.out.trans (BB.mono (Nat.le_of_lt (Nat.lt_of_le_of_lt hg hgw))))
        clear BB HKEEP LY p1 p2 q1 q2 i1 i2 i3 i4
        go_wp2_with fail
        refine ⟨⟨i, c, rfl, rfl, hai, hc1, by omega, HF2, HR1, HW1⟩, by simp [intOf]; omega⟩
      · have LN : Hid (∀ W, Calls Tryd.prog 75 #[.agg #[.int .i64 y.1, S y.2], .agg #[.int .i64 (ws.getD c (0, [])).1, S (ws.getD c (0, [])).2]] W fun e w' => ∃ z : Int, decide (z < 0) = false ∧ e = .returned (.int .i64 z) ∧ Below W.heap.size W w') := Lib.hid fun W => less_no W y (ws.getD c (0, [])) hlt2
        have HF2 := Lib.hid (HYES.out (by unfold K; omega))
        clear hlt2 HYES HNO
        generalize ws.getD c (0, []) = x at *
        go_region_held3 (fun w' => w'.cell? ⟨g, m * 2, none⟩ = some (.int .i64 y.1) ∧ w'.cell? ⟨g, m * 2 + 1, none⟩ = some (S y.2) ∧ w'.cell? ⟨g, c * 2, none⟩ = some (.int .i64 x.1) ∧ w'.cell? ⟨g, c * 2 + 1, none⟩ = some (S x.2))
          (first
            | (exact HKEEP.out _ (Below.refl _ _).drew)
            | (exact HKEEP.out _ BB))
          (first
            | (go_at_call 75; refine (LN.out _).mono ?_; rintro e' w1 ⟨z, hz, rfl, hbl⟩; have BB : Below wr.heap.size wr w1 := (Below.refl wr.heap.size wr).drew.trans hbl; clear hbl))
        have HR1 := Lib.hid (HRW.out.below BB)
        have HW1 := Lib.hid (HW.out.trans (BB.mono (Nat.le_of_lt (Nat.lt_of_le_of_lt hg hgw))))
        clear BB HKEEP LN p1 p2 q1 q2 i1 i2 i3 i4
        go_wp2_with fail
        refine ⟨⟨c + 1, j, by go_num, rfl, by omega, by omega, hjm, HF2, HR1, HW1⟩, by simp [intOf]; omega⟩
    · obtain rfl : i = j := by omega
      have d2 : decide ((i : Int) < (i : Int)) = false := by simp
      have d2' : decide (i < i) = false := by simp
      have HDN := Lib.hid (HFIN.out i HF.out)
      rw [HS0.out] at HRW
      clear HF HFIN HMONO
      go_wp2_with fail
      clear d2 d2'
      go_loopw [17] (fun kv wr => ∃ t : Nat, kv = .int .i64 ((a + t : Nat) : Int) ∧ i ≤ a + t ∧ t ≤ m - a ∧ Hid (Row wr base g cap (slid A X B y t)) ∧ Hid (Below base w wr)) (fun kv _ => (intOf kv).toNat)
      case atStart => exact ⟨m - a, by rw [show a + (m - a) = m by omega], by omega, by omega, HRW, HW⟩
      case round =>
        obtain ⟨t, rfl, hit, ht, HRT, HWT⟩ := hrel
        clear HRW HW
        by_cases hlt : i < a + t
        · obtain ⟨s, rfl⟩ : ∃ s, t = s + 1 := ⟨t - 1, by omega⟩
          have hlen := HSL.out (s + 1) (by omega)
          have ht2 : a + s + 1 < N := by omega
          obtain ⟨p1, p2⟩ := HRT.out.cells (i := a + s + 1) (by rw [hlen]; omega)
          obtain ⟨q1, q2⟩ := HRT.out.cells (i := a + s) (by rw [hlen]; omega)
          have f1 := HRT.out.free ((a + s) * 2)
          have f2 := HRT.out.free ((a + s) * 2 + 1)
          have f3 := HRT.out.free ((a + s + 1) * 2)
          have f4 := HRT.out.free ((a + s + 1) * 2 + 1)
          have HSW := Lib.hid (HRT.out.swap (a + s + 1) (a + s))
          rw [HST.out s (by omega)] at HSW
          clear hlen
          generalize (slid A X B y (s + 1)).getD (a + s) (0, []) = u at *
          generalize (slid A X B y (s + 1)).getD (a + s + 1) (0, []) = v at *
          rw [show a + (s + 1) = a + s + 1 by omega] at hlt ⊢
          generalize hk : a + s = k at *
          have HK := Lib.hid hk
          generalize hkn : k + 1 = n at *
          have HNK := Lib.hid hkn
          clear hk
          have d2 : decide ((i : Int) < (n : Int)) = true := by simp; omega
          have d2' : decide (i < n) = true := by simp; omega
          have e1 : IntKind.i64.wrap ((n : Int) - 1) = (k : Int) := by rw [IntWalk.i64_in _ (by omega)]; omega
          have i1 : (0 : Int) ≤ (k : Int) := by omega
          have i2 : (k : Int) < (N : Int) := by omega
          have i3 : (0 : Int) ≤ (n : Int) := by omega
          have i4 : (n : Int) < (N : Int) := by omega
          have n1 : ¬ n = k := by omega
          have n2 : ¬ k = n := by omega
          have n3 : ¬ n * 2 + 1 = k * 2 := by omega
          have n4 : ¬ n * 2 = k * 2 + 1 := by omega
          have n5 : ¬ k * 2 + 1 = n * 2 := by omega
          have n6 : ¬ k * 2 = n * 2 + 1 := by omega
          clear hkn
          go_wp2_with fail
          go_region
          clear n1 n2 n3 n4 n5 n6 e1 i1 i2 i3 i4 p1 p2 q1 q2 f1 f2 f3 f4
          go_wp2_with fail
          refine ⟨⟨s, ?_, by have := HK.out; have := HNK.out; omega, by omega, HSW, Lib.hid (below_four HWT.out hg)⟩, by have := HK.out; have := HNK.out; simp [intOf]; omega⟩
          rw [show (n : Int) - 1 = ((a + s : Nat) : Int) from by have := HK.out; have := HNK.out; omega]
        · obtain rfl : t = i - a := by omega
          have hk2 : ¬ i < a + (i - a) := by omega
          generalize a + (i - a) = k at *
          have d2 : decide ((i : Int) < (k : Int)) = false := by simp; omega
          have d2' : decide (i < k) = false := by simp; omega
          go_wp2_with fail
          refine bodyPost_ret (v := .tuple #[]) (by simp [results, Tryd.results116]) rfl ?_
          exact ⟨rfl, ⟨_, HDN.out, HRT.out⟩, HWT.out⟩
end Go.Proofs.YtecamaceainfpaaDoor
