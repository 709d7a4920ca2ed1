/-
  Walk: slices.symMergeCmpFunc at writes: one write against sorted ones.
-/
import Derived.Test.YtecamaceainfpaaDoorSortB
namespace Go.Proofs.YtecamaceainfpaaDoor
open Go.RowKit

/-- what a merge comes to -/
abbrev Merged (A X Y B : List Wr) (ls : List Wr) : Prop := ∃ Z, ls = A ++ Z ++ B ∧ StEq (X ++ Y) Z ∧ Srt Z
/-- where a search by halves stands -/
def Found (p : Nat → Prop) (lo hi i j : Nat) : Prop := lo ≤ i ∧ i ≤ j ∧ j ≤ hi ∧ (∀ t, lo ≤ t → t < i → p t) ∧ ∀ t, j ≤ t → t < hi → ¬ p t
theorem Found.start {p : Nat → Prop} {lo hi : Nat} (h : lo ≤ hi) : Found p lo hi lo hi := ⟨Nat.le_refl _, h, Nat.le_refl _, fun t h1 h2 => by omega, fun t h1 h2 => by omega⟩
theorem Found.yes {p : Nat → Prop} {lo hi i j c : Nat} (h : Found p lo hi i j) (mono : ∀ s t, lo ≤ s → s ≤ t → t < hi → p t → p s) (hc : i ≤ c) (hc' : c < j) (hp : p c) : Found p lo hi (c + 1) j := by
  obtain ⟨h1, h2, h3, h4, h5⟩ := h
  exact ⟨by omega, by omega, h3, fun t ht1 ht2 => mono t c ht1 (by omega) (by omega) hp, h5⟩
theorem Found.no {p : Nat → Prop} {lo hi i j c : Nat} (h : Found p lo hi i j) (mono : ∀ s t, lo ≤ s → s ≤ t → t < hi → p t → p s) (hc : i ≤ c) (hc' : c < j) (hp : ¬ p c) : Found p lo hi i c := by
  obtain ⟨h1, h2, h3, h4, h5⟩ := h
  exact ⟨h1, by omega, by omega, h4, fun t ht1 ht2 hpt => hp (mono c t (by omega) ht1 ht2 hpt)⟩
/-- one write, t places on its way to the right -/
def slid (A Y B : List Wr) (x : Wr) (t : Nat) : List Wr := A ++ Y.take t ++ x :: (Y.drop t ++ B)
theorem slid_length (A Y B : List Wr) (x : Wr) (t : Nat) (ht : t ≤ Y.length) : (slid A Y B x t).length = A.length + 1 + Y.length + B.length := by
  unfold slid; simp only [List.length_append, List.length_take, List.length_cons, List.length_drop]; omega
theorem slid_right (A Y B : List Wr) (x : Wr) {t : Nat} (ht : t < Y.length) : swapL (slid A Y B x t) (A.length + t) (A.length + t + 1) = slid A Y B x (t + 1) := by
  have e1 : slid A Y B x t = (A ++ Y.take t) ++ x :: Y[t] :: (Y.drop (t + 1) ++ B) := by
    unfold slid; rw [List.drop_eq_getElem_cons ht]; simp only [List.append_assoc, List.cons_append]
  have e2 : slid A Y B x (t + 1) = (A ++ Y.take t) ++ Y[t] :: x :: (Y.drop (t + 1) ++ B) := by
    unfold slid; rw [List.take_succ_eq_append_getElem ht]; simp only [List.append_assoc, List.cons_append, List.nil_append]
  have hl : A.length + t = (A ++ Y.take t).length := by rw [List.length_append, List.length_take]; omega
  rw [e1, e2, hl]; exact swapL_next _ _ _ _
theorem slid_left (A Y B : List Wr) (x : Wr) {t : Nat} (ht : t < Y.length) : swapL (slid A Y B x (t + 1)) (A.length + t + 1) (A.length + t) = slid A Y B x t := by
  have e1 : slid A Y B x t = (A ++ Y.take t) ++ x :: Y[t] :: (Y.drop (t + 1) ++ B) := by
    unfold slid; rw [List.drop_eq_getElem_cons ht]; simp only [List.append_assoc, List.cons_append]
  have e2 : slid A Y B x (t + 1) = (A ++ Y.take t) ++ Y[t] :: x :: (Y.drop (t + 1) ++ B) := by
    unfold slid; rw [List.take_succ_eq_append_getElem ht]; simp only [List.append_assoc, List.cons_append, List.nil_append]
  have hl : A.length + t = (A ++ Y.take t).length := by rw [List.length_append, List.length_take]; omega
  rw [e1, e2, hl]; exact swapL_prev _ _ _ _
theorem mem_take_K {l : List Wr} {t : Nat} {p : Wr} (h : p ∈ l.take t) : ∃ i, i < t ∧ i < l.length ∧ p.1 = K l i := by
  obtain ⟨i, hi, e⟩ := K_mem h
  rw [List.length_take] at hi
  refine ⟨i, by omega, by omega, ?_⟩
  rw [e]; unfold K; simp [List.getD, show i < t by omega]
theorem mem_drop_K {l : List Wr} {t : Nat} {p : Wr} (h : p ∈ l.drop t) : ∃ i, t ≤ i ∧ i < l.length ∧ p.1 = K l i := by
  obtain ⟨i, hi, e⟩ := K_mem h
  rw [List.length_drop] at hi
  refine ⟨t + i, by omega, by omega, ?_⟩
  rw [e]; unfold K; simp [List.getD, List.getElem?_drop]
set_option maxRecDepth 100000 in
set_option maxHeartbeats 4000000 in
theorem merge_left (w : World) (base g cap N : Nat) (A Y B : List Wr) (x : Wr) (a m b : Nat) (hR : Row w base g cap (A ++ [x] ++ Y ++ B)) (hN : A.length + 1 + Y.length + B.length = N) (ha : a = A.length) (hm : m = A.length + 1) (hb : b = A.length + 1 + Y.length) (hY : Srt Y) (hl : N ≤ 1099511627776) :
    Calls Tryd.prog 116 #[.slice (some ⟨g, 0, none⟩) N cap, .int .i64 a, .int .i64 m, .int .i64 b, .func (.func 75) #[] #[]] w (SortPost w base g cap (Merged A [x] Y B)) := by
  have hg : base ≤ g := hR.lt.1
  obtain ⟨ws, HWS⟩ : ∃ z, Hid (A ++ [x] ++ Y ++ B = z) := ⟨_, Lib.hid rfl⟩
  have hws := HWS.out
  rw [hws] at hR
  have hlen : ws.length = N := by rw [← hws, ← hN]; simp; omega
  have hax : ws.getD a (0, []) = x := by rw [← hws, ha, List.append_assoc, List.append_assoc, getD_app_right (by omega), Nat.sub_self]; rfl
  have hKY : ∀ t, m ≤ t → t < b → K ws t = K Y (t - m) := fun t h1 h2 => by
    rw [← hws, K_left (by simp; omega), K_right (by simp; omega)]; congr 1; simp; omega
  have HMONO : Hid (∀ s t, m ≤ s → s ≤ t → t < b → K ws t < x.1 → K ws s < x.1) := Lib.hid fun s t h1 h2 h3 h4 => by
    rw [hKY t (by omega) h3] at h4
    rw [hKY s h1 (by omega)]
    have := hY.K_le (i := s - m) (j := t - m) (by omega) (by omega)
    omega
  have HFIN : Hid (∀ i, Found (fun t => K ws t < x.1) m b i i → Merged A [x] Y B (slid A Y B x (i - m))) := Lib.hid fun i h => by
    obtain ⟨h1, _, h3, h4, h5⟩ := h
    obtain ⟨q1, q2⟩ := insert_front (U := Y.take (i - m)) (V := Y.drop (i - m)) (e := x) (by rw [List.take_append_drop]; exact hY) (fun p hp => by
        obtain ⟨t, ht, ht', e⟩ := mem_take_K hp
        have : K ws (m + t) < x.1 := h4 (m + t) (by omega) (by omega)
        rw [hKY _ (by omega) (by omega), show m + t - m = t by omega, ← e] at this
        exact this) (fun p hp => by
        obtain ⟨t, ht, ht', e⟩ := mem_drop_K hp
        have : ¬ K ws (m + t) < x.1 := h5 (m + t) (by omega) (by omega)
        rw [hKY _ (by omega) (by omega), show m + t - m = t by omega, ← e] at this
        omega)
    rw [List.take_append_drop] at q1
    exact ⟨_, by unfold slid; simp, by simpa using q1, q2⟩
  have HST : Hid (∀ t, t < b - m → swapL (slid A Y B x t) (a + t) (a + t + 1) = slid A Y B x (t + 1)) := Lib.hid fun t ht => by rw [ha]; exact slid_right A Y B x (by omega)
  have HSL : Hid (∀ t, t ≤ b - m → (slid A Y B x t).length = N) := Lib.hid fun t ht => by rw [slid_length _ _ _ _ _ (by omega), hN]
  have HS0 : Hid (ws = slid A Y B x 0) := Lib.hid (by rw [← hws]; unfold slid; simp)
  have HR := Lib.hid hR
  have HLEN := Lib.hid hlen
  have HAX := Lib.hid hax
  have d1 : ((m : Int) - (a : Int) == 1) = true := by simp; omega
  have hbN : b ≤ N := by omega
  have ham : a < m := by omega
  have hmb : m ≤ b := by omega
  have HM : Hid (m = a + 1) := Lib.hid (by omega)
  clear hR hN ha hm hb hY hws hlen hax hKY HWS
  go_enter Tryd.func116, Tryd.ntmps116
  go_wp2_with fail
  go_loopw [10, 11, 12] (fun iv jv _ wr => ∃ i j : Nat, iv = .int .i64 i ∧ jv = .int .i64 j ∧ m ≤ i ∧ i ≤ j ∧ j ≤ b ∧ Hid (Found (fun t => K ws t < x.1) m b i j) ∧ Hid (Row wr base g cap ws) ∧ Hid (Below base w wr)) (fun iv jv _ _ => (intOf jv).toNat - (intOf iv).toNat)
  case atStart => exact ⟨m, b, rfl, rfl, by omega, by omega, by omega, Lib.hid (Found.start hmb), HR, Lib.hid (Below.refl _ _)⟩
  case round =>
    obtain ⟨i, j, rfl, rfl, hmi, hij, hjb, HF, HRW, HW⟩ := hrel
    clear HR
    by_cases hlt : i < j
    · have d2 : decide ((i : Int) < (j : Int)) = true := by simp; omega
      have d2' : decide (i < j) = true := by simp; omega
      go_wp2_with fail
      rw [show ((i : Int) + (j : Int)) / 2 = (((i + j) / 2 : Nat) : Int) from by omega]
      have hc1 : i ≤ (i + j) / 2 := by omega
      have hc2 : (i + j) / 2 < j := by omega
      generalize (i + j) / 2 = c at *
      have HYES := Lib.hid (HF.out.yes HMONO.out hc1 hc2)
      have HNO := Lib.hid (HF.out.no HMONO.out hc1 hc2)
      obtain ⟨p1, p2⟩ := HRW.out.cells (i := c) (by rw [HLEN.out]; omega)
      obtain ⟨q1, q2⟩ := HRW.out.cells (i := a) (by rw [HLEN.out]; omega)
      rw [HAX.out] at q1 q2
      have hgw : g < wr.heap.size := HRW.out.lt.2
      have HKEEP : Hid (∀ W, Below wr.heap.size wr W → W.cell? ⟨g, c * 2, none⟩ = some (.int .i64 (ws.getD c (0, [])).1) ∧ W.cell? ⟨g, c * 2 + 1, none⟩ = some (S (ws.getD c (0, [])).2) ∧ W.cell? ⟨g, a * 2, none⟩ = some (.int .i64 x.1) ∧ W.cell? ⟨g, a * 2 + 1, none⟩ = some (S x.2)) := Lib.hid fun W hW =>
        ⟨(hW.cell (p := ⟨g, c * 2, none⟩) hgw).trans p1, (hW.cell (p := ⟨g, c * 2 + 1, none⟩) hgw).trans p2, (hW.cell (p := ⟨g, a * 2, none⟩) hgw).trans q1, (hW.cell (p := ⟨g, a * 2 + 1, none⟩) hgw).trans q2⟩
      have i1 : (0 : Int) ≤ (c : Int) := by omega
      have i2 : (c : Int) < (N : Int) := by omega
      have i3 : (0 : Int) ≤ (a : Int) := by omega
      have i4 : (a : Int) < (N : Int) := by omega
      by_cases hlt2 : (ws.getD c (0, [])).1 < x.1
      · have LY : Hid (∀ W, Calls Tryd.prog 75 #[.agg #[.int .i64 (ws.getD c (0, [])).1, S (ws.getD c (0, [])).2], .agg #[.int .i64 x.1, S x.2]] W fun e w' => e = .returned (.int .i64 (-1)) ∧ Below W.heap.size W w') := Lib.hid fun W => less_yes W (ws.getD c (0, [])) x hlt2
        have HF2 := Lib.hid (HYES.out hlt2)
        clear hlt2 HYES HNO
        generalize ws.getD c (0, []) = y at *
        go_region_held3 (fun w' => w'.cell? ⟨g, c * 2, none⟩ = some (.int .i64 y.1) ∧ w'.cell? ⟨g, c * 2 + 1, none⟩ = some (S y.2) ∧ w'.cell? ⟨g, a * 2, none⟩ = some (.int .i64 x.1) ∧ w'.cell? ⟨g, a * 2 + 1, none⟩ = some (S x.2))
          (first
            | (exact HKEEP.out _ (Below.refl _ _).drew)
            | (exact HKEEP.out _ BB))
          (first
            | (go_at_call 75; refine (LY.out _).mono ?_; rintro e' w1 ⟨rfl, hbl⟩; have BB : Below wr.heap.size wr w1 := (Below.refl wr.heap.size wr).drew.trans hbl; clear hbl))
        have HR1 := Lib.hid (HRW.out.below BB)
        have HW1 := Lib.hid (HW.out.trans (BB.mono (Nat.le_of_lt (Nat.lt_of_le_of_lt hg hgw))))
        clear BB HKEEP LY p1 p2 q1 q2 i1 i2 i3 i4
        go_wp2_with fail
        refine ⟨⟨c + 1, j, by go_num, rfl, by omega, by omega, hjb, HF2, HR1, HW1⟩, by simp [intOf]; omega⟩
      · have LN : Hid (∀ W, Calls Tryd.prog 75 #[.agg #[.int .i64 (ws.getD c (0, [])).1, S (ws.getD c (0, [])).2], .agg #[.int .i64 x.1, S x.2]] W fun e w' => ∃ z : Int, decide (z < 0) = false ∧ e = .returned (.int .i64 z) ∧ Below W.heap.size W w') := Lib.hid fun W => less_no W (ws.getD c (0, [])) x hlt2
        have HF2 := Lib.hid (HNO.out hlt2)
        clear hlt2 HYES HNO
        generalize ws.getD c (0, []) = y at *
        go_region_held3 (fun w' => w'.cell? ⟨g, c * 2, none⟩ = some (.int .i64 y.1) ∧ w'.cell? ⟨g, c * 2 + 1, none⟩ = some (S y.2) ∧ w'.cell? ⟨g, a * 2, none⟩ = some (.int .i64 x.1) ∧ w'.cell? ⟨g, a * 2 + 1, none⟩ = some (S x.2))
          (first
            | (exact HKEEP.out _ (Below.refl _ _).drew)
            | (exact HKEEP.out _ BB))
          (first
            | (go_at_call 75; refine (LN.out _).mono ?_; rintro e' w1 ⟨z, hz, rfl, hbl⟩; have BB : Below wr.heap.size wr w1 := (Below.refl wr.heap.size wr).drew.trans hbl; clear hbl))
        have HR1 := Lib.hid (HRW.out.below BB)
        have HW1 := Lib.hid (HW.out.trans (BB.mono (Nat.le_of_lt (Nat.lt_of_le_of_lt hg hgw))))
        clear BB HKEEP LN p1 p2 q1 q2 i1 i2 i3 i4
        go_wp2_with fail
        refine ⟨⟨i, c, rfl, rfl, hmi, hc1, by omega, HF2, HR1, HW1⟩, by simp [intOf]; omega⟩
    · obtain rfl : i = j := by omega
      have d2 : decide ((i : Int) < (i : Int)) = false := by simp
      have d2' : decide (i < i) = false := by simp
      have HDN := Lib.hid (HFIN.out i HF.out)
      rw [HS0.out] at HRW
      clear HF HFIN HMONO
      go_wp2_with fail
      clear d2 d2'
      go_loopw [13] (fun kv wr => ∃ t : Nat, kv = .int .i64 ((a + t : Nat) : Int) ∧ t ≤ i - m ∧ Hid (Row wr base g cap (slid A Y B x t)) ∧ Hid (Below base w wr)) (fun kv _ => i - (intOf kv).toNat)
      case atStart => exact ⟨0, by simp, by omega, HRW, HW⟩
      case round =>
        obtain ⟨t, rfl, ht, HRT, HWT⟩ := hrel
        clear HRW HW
        by_cases hlt : t < i - m
        · have d2 : decide (((a + t : Nat) : Int) < (i : Int) - 1) = true := by have := HM.out; simp; omega
          have hlen := HSL.out t (by omega)
          have ht2 : a + t + 1 < N := by have := HM.out; omega
          obtain ⟨p1, p2⟩ := HRT.out.cells (i := a + t) (by rw [hlen]; omega)
          obtain ⟨q1, q2⟩ := HRT.out.cells (i := a + t + 1) (by rw [hlen]; omega)
          have f1 := HRT.out.free ((a + t) * 2)
          have f2 := HRT.out.free ((a + t) * 2 + 1)
          have f3 := HRT.out.free ((a + t + 1) * 2)
          have f4 := HRT.out.free ((a + t + 1) * 2 + 1)
          have HSW := Lib.hid (HRT.out.swap (a + t) (a + t + 1))
          rw [HST.out t (by omega)] at HSW
          clear hlen
          generalize (slid A Y B x t).getD (a + t) (0, []) = u at *
          generalize (slid A Y B x t).getD (a + t + 1) (0, []) = v at *
          generalize hk : a + t = k at *
          have HK := Lib.hid hk
          clear hk
          have e1 : IntKind.i64.wrap ((k : Int) + 1) = ((k + 1 : Nat) : Int) := by rw [IntWalk.i64_in _ (by omega)]; omega
          have i1 : (0 : Int) ≤ (k : Int) := by omega
          have i2 : (k : Int) < (N : Int) := by omega
          have i3 : (0 : Int) ≤ ((k + 1 : Nat) : Int) := by omega
          have i4 : ((k + 1 : Nat) : Int) < (N : Int) := by omega
          go_wp2_with fail
          go_region
          clear e1 i1 i2 i3 i4 p1 p2 q1 q2 f1 f2 f3 f4
          go_wp2_with fail
          refine ⟨⟨t + 1, ?_, by omega, HSW, Lib.hid (below_four HWT.out hg)⟩, by have := HK.out; have := HM.out; simp [intOf]; omega⟩
          rw [show (k : Int) + 1 = ((a + (t + 1) : Nat) : Int) from by have := HK.out; omega]
        · obtain rfl : t = i - m := by omega
          have hk2 : ¬ (a + (i - m) + 1 < i) := by have := HM.out; omega
          generalize a + (i - m) = k at *
          have d2 : decide ((k : Int) < (i : Int) - 1) = false := by simp; omega
          go_wp2_with fail
          refine bodyPost_ret (v := .tuple #[]) (by simp [results, Tryd.results116]) rfl ?_
          exact ⟨rfl, ⟨_, HDN.out, HRT.out⟩, HWT.out⟩
end Go.Proofs.YtecamaceainfpaaDoor
