/-
  Walk: hibernaclelaw35.DeltaBytes.
-/
import Derived.Test.YtecamaceainfpaaDoorDBytes
import Derived.Test.YtecamaceainfpaaDoorDBytesP
import Derived.Test.YtecamaceainfpaaDoorWide
namespace Go.Proofs.YtecamaceainfpaaDoor
open Go.RowKit

theorem rowB_count : ∀ ls : List (List UInt8), ls.length ≤ (rowB ls).length
  | [] => by simp
  | l :: ls => by
    have ih := rowB_count ls
    have := List.length_pos_iff.2 (lenB_ne l.length)
    rw [rowB_cons]
    simp only [List.length_append, List.length_cons] at *
    omega
theorem writesL_len {t : List UInt8} {f : List (Int × List UInt8)} (h : writesL t = some f) : f.length ≤ t.length := by
  cases ht : textsA [] t with
  | error x => rw [writesL_err ht] at h; cases h
  | ok rows =>
    rw [writesL_ok ht] at h
    rw [wrL_length h, texts_len ht]
    exact rowB_count rows
theorem readD_lens (b : List UInt8) : (readD b).2.1.length = 32 ∧ (readD b).2.2.1.length = 32 ∧ (readD b).2.2.2.2.1.length ≤ b.length ∧ (readD b).2.2.2.2.2.length ≤ b.length := by
  have no : ∀ x : Int, readD b = (x, Z32, Z32, [], [], []) → (readD b).2.1.length = 32 ∧ (readD b).2.2.1.length = 32 ∧ (readD b).2.2.2.2.1.length ≤ b.length ∧ (readD b).2.2.2.2.2.length ≤ b.length := fun x h => by
    rw [h]; exact ⟨rfl, rfl, Nat.zero_le _, Nat.zero_le _⟩
  cases h : textsA [] b with
  | error x => exact no _ (readD_err h)
  | ok ls =>
    by_cases hl : ls.length = 6
    · obtain ⟨t0, t1, t2, t3, t4, t5, rfl⟩ : ∃ t0 t1 t2 t3 t4 t5, ls = [t0, t1, t2, t3, t4, t5] := by
        match ls, hl with
        | [t0, t1, t2, t3, t4, t5], _ => exact ⟨t0, t1, t2, t3, t4, t5, rfl⟩
      by_cases hf : t0 = [104, 105, 98, 100] ∧ t1.length = 32 ∧ t2.length = 32
      · cases h4 : writesL t4 with
        | none => exact no _ (readD_one h h4)
        | some f =>
          cases h5 : writesL t5 with
          | none => exact no _ (readD_two h h5)
          | some g =>
            rw [readD_ok h hf h4 h5]
            have m4 := texts_mem h t4 (by simp)
            have m5 := texts_mem h t5 (by simp)
            have l4 := writesL_len h4
            have l5 := writesL_len h5
            exact ⟨hf.2.1, hf.2.2, by show f.length ≤ _; omega, by show g.length ≤ _; omega⟩
      · exact no _ (readD_form h hf)
    · exact no _ (readD_len h hl)
/-- the bytes of a delta, or nothing; and the error's number -/
def dbS (F T r : List UInt8) (wf wb : List (Int × List UInt8)) : List UInt8 := match negs wf || negs wb with
  | true => []
  | false => bytesD F T r wf wb
def dbE (wf wb : List (Int × List UInt8)) : Int := match negs wf || negs wb with
  | true => 2
  | false => 0
theorem DBytesPost.parts {w w' : World} {F T r : List UInt8} {wf wb : List (Int × List UInt8)} {e : Ending} (h : DBytesPost w F T r wf wb e w') : e = .returned (.tuple #[S (dbS F T r wf wb), .int .i64 (dbE wf wb)]) ∧ Below w.heap.size w w' := by
  obtain ⟨h1, h2⟩ := h
  refine ⟨?_, h2⟩
  unfold dbS dbE
  cases hn : (negs wf || negs wb) <;> (rw [hn] at h1; exact h1)
/-- the cells of a delta whose lists lie in a world -/
def IsD (F T r : List UInt8) (wf wb : List (Int × List UInt8)) (W : World) (V : List Value) : Prop :=
  ∃ G k G' k', V = dCells F (.slice G wf.length k) (.slice G' wb.length k') r T ∧ Wrs W W.heap.size G wf ∧ Wrs W W.heap.size G' wb
section
variable {F T r : List UInt8} {wf wb : List (Int × List UInt8)} {W W' : World} {V V' : List Value}
theorem IsD.below (h : IsD F T r wf wb W V) (hb : Below W.heap.size W W') : IsD F T r wf wb W' V := by
  obtain ⟨G, k, G', k', e, h1, h2⟩ := h
  exact ⟨G, k, G', k', e, (Lies.below h1 hb).wide hb.size, (Lies.below h2 hb).wide hb.size⟩
theorem IsD.length (h : IsD F T r wf wb W V) (hF : F.length = 32) (hT : T.length = 32) : V.length = 67 := by
  obtain ⟨G, k, G', k', rfl, h1, h2⟩ := h
  exact dCells_length hF hT _ _ _
theorem IsD.one (h : IsD F T r wf wb W V) : ∀ v ∈ V, v.oneCell' = true := by
  obtain ⟨G, k, G', k', rfl, h1, h2⟩ := h
  exact dCells_one _ _ _ _ _ _ _ _ _
theorem IsD.same (h : IsD F T r wf wb W V) (h' : IsD F T r wf wb W V') (hF : F.length = 32) (hT : T.length = 32) (lf : wf.length ≤ 1099511627776) (lb : wb.length ≤ 1099511627776) :
    Calls Tryd.prog 14 #[.agg V.toArray, .agg V'.toArray] W fun e w' => e = .returned (.bool true) ∧ Below W.heap.size W w' := by
  obtain ⟨G, k, G', k', rfl, h1, h2⟩ := h
  obtain ⟨J, m, J', m', rfl, h3, h4⟩ := h'
  exact same_true W G G' J J' k k' m m' wf wb F T r h1 h2 h3 h4 lf lb hF hT
theorem IsD.bytes (h : IsD F T r wf wb W V) (hT' : STabs W) (hs : wSize wf + wSize wb + r.length ≤ 268435456) (hF : F.length = 32) (hT : T.length = 32) (hr : ∀ p ∈ wf, inI p.1) (hr' : ∀ p ∈ wb, inI p.1) :
    Calls Tryd.prog 25 #[.agg V.toArray] W fun e w' => e = .returned (.tuple #[S (dbS F T r wf wb), .int .i64 (dbE wf wb)]) ∧ Below W.heap.size W w' := by
  obtain ⟨G, k, G', k', rfl, h1, h2⟩ := h
  exact (dbytes_any W G G' k k' F wf wb r T h1 h2 hs hF hT hr hr' hT').mono fun _ _ h => h.parts
theorem IsD.rbytes (h : IsD F T r wf wb W V) (hs : wSize wf + wSize wb + r.length ≤ 268435456) (hF : F.length = 32) (hT : T.length = 32) (hr : ∀ p ∈ wf, inI p.1) (hr' : ∀ p ∈ wb, inI p.1) :
    Calls Tryd.prog 26 #[.agg V.toArray] W fun e w' => e = .returned (.tuple #[S (dbS F T r wf wb), .int .i64 (dbE wf wb)]) ∧ Below W.heap.size W w' := by
  obtain ⟨G, k, G', k', rfl, h1, h2⟩ := h
  exact (rdbytes_any W G G' k k' F wf wb r T h1 h2 hs hF hT hr hr').mono fun _ _ h => h.parts
theorem IsD.wide (h : IsD F T r wf wb W V) (hs : wSize wf + wSize wb + r.length ≤ 1099511627776) (hF : F.length = 32) (hT : T.length = 32) :
    Calls Tryd.prog 21 #[.agg V.toArray] W fun e w' => e = .returned (.bool (decide (3000 < r.length + wSize wf + wSize wb))) ∧ Below W.heap.size W w' := by
  obtain ⟨G, k, G', k', rfl, h1, h2⟩ := h
  exact wide_any W G G' k k' F wf wb r T h1 h2 hs hF hT
theorem dread_is (W : World) (b : List UInt8) (hb : b.length ≤ 4294967296) (hT' : STabs W) (q : Int) (hq : readD b = (q, F, T, r, wf, wb)) :
    Calls Tryd.prog 27 #[S b] W fun e w' => ∃ V, e = .returned (.tuple #[.agg V.toArray, .int .i64 q]) ∧ Hid (IsD F T r wf wb w' V) ∧ Below W.heap.size W w' :=
  (dread_any W b hb hT').mono fun e w' h => by
    rw [hq] at h
    obtain ⟨⟨G, k, G', k', e1, h1, h2⟩, h3⟩ := h
    exact ⟨_, e1, Lib.hid ⟨G, k, G', k', rfl, h1, h2⟩, h3⟩
theorem rdread_is (W : World) (b : List UInt8) (hb : b.length ≤ 4294967296) (hT' : STabs W) (q : Int) (hq : readD b = (q, F, T, r, wf, wb)) :
    Calls Tryd.prog 28 #[S b] W fun e w' => ∃ V, e = .returned (.tuple #[.agg V.toArray, .int .i64 q]) ∧ Hid (IsD F T r wf wb w' V) ∧ Below W.heap.size W w' :=
  (rdread_any W b hb hT').mono fun e w' h => by
    rw [hq] at h
    obtain ⟨⟨G, k, G', k', e1, h1, h2⟩, h3⟩ := h
    exact ⟨_, e1, Lib.hid ⟨G, k, G', k', rfl, h1, h2⟩, h3⟩
/-- a delta stored into a new box -/
theorem dboxed (hV : V.length = 67) (N : Whole W' W.heap.size 32 (Tryd.zeroCells32.toList.take 0 ++ (V ++ Tryd.zeroCells32.toList.drop (0 + V.length))).toArray)
    (hF : (W.alloc (.cells Tryd.zeroCells32 32)).grownBy W' (some W.heap.size)) : Whole W' W.heap.size 32 V.toArray ∧ Below W.heap.size W W' := by
  refine ⟨?_, below_grown ((Below.refl _ _).alloc (Nat.le_refl _) _) hF (by simp) (Nat.le_refl _)⟩
  rw [hV, show Tryd.zeroCells32.toList.drop (0 + 67) = [] from by kernel_rfl, List.take_zero, List.nil_append, List.append_nil] at N
  exact N
theorem delta_info (hV : V.length = 67) : (Tryd.prog.info? 32).map (·.size) = some V.length := by rw [hV]; kernel_rfl
theorem delta_fits (hV : V.length = 67) : 0 + V.length ≤ Tryd.zeroCells32.toList.length := by rw [hV]; decide
theorem delta_zero (W : World) : Whole (W.alloc (.cells Tryd.zeroCells32 32)) W.heap.size 32 Tryd.zeroCells32.toList.toArray := by simpa using Whole.made W 32 Tryd.zeroCells32
theorem Whole.reads {g : Nat} {t : TypeId} {cs : List Value} (h : Whole W g t cs.toArray) : ∀ j v, cs[j]? = some v → W.cell? ((⟨g, 0, none⟩ : Addr).add j) = some v :=
  mid_cells h 0 cs fun j v hv => by rw [Nat.zero_add]; exact hv
end
set_option maxRecDepth 100000 in
set_option maxHeartbeats 4000000 in
theorem blaw_any (w : World) (F T r : List UInt8) (wf wb : List (Int × List UInt8)) (dc : List Value) (b : List UInt8) (hT : Tabs w) (hT' : STabs w) (hD : IsD F T r wf wb w dc)
    (hs : wSize wf + wSize wb + r.length ≤ 268435456) (hb : b.length ≤ 268435456) (hF : F.length = 32) (hT32 : T.length = 32) (hr : ∀ p ∈ wf, inI p.1) (hr' : ∀ p ∈ wb, inI p.1) :
    Calls Tryd.prog 8 #[.agg dc.toArray, S b] w fun e w' => e = .returned (.bool true) ∧ Below w.heap.size w w' := by
  have HT := Lib.hid hT
  have HT' := Lib.hid hT'
  have HD := Lib.hid hD
  have HR := Lib.hid hr
  have HR' := Lib.hid hr'
  have HF := Lib.hid hF
  have HT32 := Lib.hid hT32
  have HL67 := Lib.hid (hD.length hF hT32)
  have hl67 : dc.toArray.size = 67 := by rw [List.size_toArray]; exact HL67.out
  have HVi := Lib.hid (delta_info HL67.out)
  have hx := Whole.made w 32 dc.toArray
  have HW := Lib.hid ((Below.refl w.heap.size w).alloc (Nat.le_refl _) (.cells dc.toArray 32))
  have HSZ : Hid ((w.alloc (.cells dc.toArray 32)).heap.size = w.heap.size + 1) := Lib.hid (by simp)
  have lwf := wSize_len wf
  have lwb := wSize_len wb
  clear hT hT' hr hr' hF hT32 hD
  go_enter Tryd.func8, Tryd.ntmps8
  go_upto_region 1 with (fail)
  clear hl67
  generalize w.alloc (.cells dc.toArray 32) = w1 at *
  generalize hg : w.heap.size = g at *
  have HG := Lib.hid hg
  have HX := Lib.hid hx
  clear hg hx
  have HBW : Hid (∀ W, Below w1.heap.size w1 W → Below g w W) := Lib.hid fun W hW => HW.out.trans (hW.mono (by rw [HSZ.out]; omega))
  have HDW : Hid (∀ W, Below w1.heap.size w1 W → IsD F T r wf wb W dc) := Lib.hid fun W hW => HD.out.below (by rw [HG.out]; exact HBW.out W hW)
  have HCL : Hid (∀ W, Below w1.heap.size w1 W → ∀ j v, dc[j]? = some v → W.cell? ((⟨g, 0, none⟩ : Addr).add j) = some v) := Lib.hid fun W hW => (HX.out.below hW (by rw [HSZ.out]; omega)).reads
  have HTW : Hid (∀ W, Below w1.heap.size w1 W → Tabs W) := Lib.hid fun W hW => HT.out.below (by rw [HG.out]; exact Nat.le_refl _) (HBW.out W hW)
  have HTW' : Hid (∀ W, Below w1.heap.size w1 W → STabs W) := Lib.hid fun W hW => HT'.out.below (by rw [HG.out]; exact Nat.le_refl _) (HBW.out W hW)
  have HFX : Hid (∀ W : World, Below w1.heap.size w1 W → Calls Tryd.prog 13 #[] W fun e w' => e = .returned (.bool true) ∧ Below w1.heap.size w1 w') := Lib.hid fun W hW => (fixed_any W (HTW.out W hW)).mono fun e w' h => ⟨h.1, hW.trans (h.2.mono hW.size)⟩
  have CW : Hid (Calls Tryd.prog 21 #[.agg dc.toArray] w1 fun e w' => e = .returned (.bool (decide (3000 < r.length + wSize wf + wSize wb))) ∧ Below w1.heap.size w1 w') := Lib.hid ((HDW.out w1 (Below.refl _ _)).wide (by omega) HF.out HT32.out)
  go_wp2_with (refine wpList_load_at rfl 32 (.tmp 2) rfl ⟨g, 0, none⟩ rfl dc _ (HCL.out _ (Below.refl _ _)) Tryd.underlying32 rfl HVi.out ?_)
  refine CW.out.mono ?_
  rintro e w2 ⟨rfl, hb2⟩
  have HB2 := Lib.hid hb2
  clear hb2 CW
  by_cases hgr : 3000 < r.length + wSize wf + wSize wb
  · rw [decide_eq_true hgr]
    clear hgr
    go_wp2_with (go_at_call 13; refine (HFX.out _ HB2.out).mono ?_; rintro e w3 ⟨rfl, hb3⟩)
    go_ret
    exact ⟨rfl, by rw [HG.out]; exact HBW.out _ hb3⟩
  · rw [decide_eq_false hgr]
    by_cases hbl : 2000 < b.length
    · have d1 : decide ((2000 : Int) < (b.length : Int)) = true := by simp; omega
      clear hgr
      go_wp2_with (go_at_call 13; refine (HFX.out _ HB2.out).mono ?_; rintro e w3 ⟨rfl, hb3⟩)
      go_ret
      exact ⟨rfl, by rw [HG.out]; exact HBW.out _ hb3⟩
    · have d1 : decide ((2000 : Int) < (b.length : Int)) = false := by simp; omega
      obtain ⟨s0, HS0⟩ : ∃ z, Hid (dbS F T r wf wb = z) := ⟨_, Lib.hid rfl⟩
      obtain ⟨e0, HE0⟩ : ∃ z, Hid (dbE wf wb = z) := ⟨_, Lib.hid rfl⟩
      obtain ⟨qe, qF, qT, qr, qf, qb, HQ⟩ : ∃ qe qF qT qr qf qb, Hid (readD b = (qe, qF, qT, qr, qf, qb)) := ⟨_, _, _, _, _, _, Lib.hid rfl⟩
      have hql := readD_lens b
      rw [HQ.out] at hql
      have HQL := Lib.hid hql
      clear hql
      have CB : Hid (∀ W, Below w1.heap.size w1 W → Calls Tryd.prog 25 #[.agg dc.toArray] W fun e w' => e = .returned (.tuple #[S s0, .int .i64 e0]) ∧ Below W.heap.size W w') := Lib.hid fun W hW => by
        have := (HDW.out W hW).bytes (HTW'.out W hW) hs HF.out HT32.out HR.out HR'.out
        rwa [HS0.out, HE0.out] at this
      have CR : Hid (∀ W, Below w1.heap.size w1 W → Calls Tryd.prog 26 #[.agg dc.toArray] W fun e w' => e = .returned (.tuple #[S s0, .int .i64 e0]) ∧ Below W.heap.size W w') := Lib.hid fun W hW => by
        have := (HDW.out W hW).rbytes hs HF.out HT32.out HR.out HR'.out
        rwa [HS0.out, HE0.out] at this
      go_wp2_with (refine wpList_load_at rfl 32 (.tmp 2) rfl ⟨g, 0, none⟩ rfl dc _ (HCL.out _ HB2.out) Tryd.underlying32 rfl HVi.out ?_)
      refine (CB.out _ HB2.out).mono ?_
      rintro e w3 ⟨rfl, hb3⟩
      have HB3 := Lib.hid (HB2.out.trans (hb3.mono HB2.out.size))
      clear hb3 CB d1
      go_wp2_with (refine wpList_load_at rfl 32 (.tmp 2) rfl ⟨g, 0, none⟩ rfl dc _ (HCL.out _ HB3.out) Tryd.underlying32 rfl HVi.out ?_)
      refine (CR.out _ HB3.out).mono ?_
      rintro e w4 ⟨rfl, hb4⟩
      have HB4 := Lib.hid (HB3.out.trans (hb4.mono HB3.out.size))
      clear hb4 CR
      go_wp2_with fail
      refine (dread_is w4 b (by omega) (HTW'.out _ HB4.out) qe HQ.out).mono ?_
      rintro e w5 ⟨V5, rfl, I5, hb5⟩
      have HB5 := Lib.hid (HB4.out.trans (hb5.mono HB4.out.size))
      have L5 := Lib.hid (I5.out.length HQL.out.1 HQL.out.2.1)
      have O5 := Lib.hid I5.out.one
      have Z5 := Lib.hid (delta_zero w5)
      have F5 := Lib.hid (delta_fits L5.out)
      have N5 := Lib.hid (delta_info L5.out)
      clear hb5
      go_upto_region 6 with (refine wpList_store_at rfl 32 (.tmp 9) (.tmp 36) rfl rfl w5.heap.size 0 rfl V5 rfl N5.out Tryd.zeroCells32.toList 32 Z5.out F5.out O5.out ?_; intro w6 N6 F6)
      obtain ⟨n6, b6⟩ := dboxed L5.out N6.out F6.out
      have HB6 := Lib.hid (HB5.out.trans (b6.mono HB5.out.size))
      have I6 := Lib.hid (I5.out.below b6)
      have W6 := Lib.hid n6
      generalize w5.heap.size = g5 at *
      clear N6 F6 Z5 F5 I5 n6 b6 HB5
      go_wp2_with fail
      refine (rdread_is w6 b (by omega) (HTW'.out _ HB6.out) qe HQ.out).mono ?_
      rintro e w7 ⟨V7, rfl, I7, hb7⟩
      have HB7 := Lib.hid (HB6.out.trans (hb7.mono HB6.out.size))
      have J7 := Lib.hid (I6.out.below hb7)
      have W7 := Lib.hid (W6.out.below hb7 W6.out.lt)
      have L7 := Lib.hid (I7.out.length HQL.out.1 HQL.out.2.1)
      have O7 := Lib.hid I7.out.one
      have Z7 := Lib.hid (delta_zero w7)
      have F7 := Lib.hid (delta_fits L7.out)
      have N7 := Lib.hid (delta_info L7.out)
      clear hb7 I6 W6 HB6
      go_upto_region 7 with (refine wpList_store_at rfl 32 (.tmp 11) (.tmp 41) rfl rfl w7.heap.size 0 rfl V7 rfl N7.out Tryd.zeroCells32.toList 32 Z7.out F7.out O7.out ?_; intro w8 N8 F8)
      obtain ⟨n8, b8⟩ := dboxed L7.out N8.out F8.out
      have HB8 := Lib.hid (HB7.out.trans (b8.mono HB7.out.size))
      have I8 := Lib.hid (I7.out.below b8)
      have J8 := Lib.hid (J7.out.below b8)
      have R8 := Lib.hid n8.reads
      have Q8 := Lib.hid (W7.out.below b8 W7.out.lt).reads
      generalize w7.heap.size = g7 at *
      clear N8 F8 Z7 F7 I7 J7 W7 n8 b8 HB7
      have CS := Lib.hid (J8.out.same I8.out HQL.out.1 HQL.out.2.1 (by have := HQL.out.2.2.1; omega) (by have := HQL.out.2.2.2; omega))
      have ss : (s0 != s0) = false := by simp
      have es : (e0 != e0) = false := by simp
      have qs : (qe != qe) = false := by simp
      go_wp2_with (first
        | (refine wpList_load_g rfl 32 (.tmp 9) rfl ⟨g5, 0, none⟩ rfl V5 _ Q8.out Tryd.underlying32 rfl N5.out ?_)
        | (refine wpList_load_g rfl 32 (.tmp 11) rfl ⟨g7, 0, none⟩ rfl V7 _ R8.out Tryd.underlying32 rfl N7.out ?_))
      refine CS.out.mono ?_
      rintro e w9 ⟨rfl, hb9⟩
      have HB9 := Lib.hid (HB8.out.trans (hb9.mono HB8.out.size))
      clear hb9 CS I8 J8 R8 Q8 HB8
      cases hn : (negs wf || negs wb) with
      | true =>
        have HE2 : Hid (e0 = 2) := Lib.hid (by rw [← HE0.out]; unfold dbE; rw [hn])
        clear hn HS0 HE0 es
        obtain rfl := HE2.out
        go_wp2_with (go_at_call 13; refine (HFX.out _ HB9.out).mono ?_; rintro e w10 ⟨rfl, hb10⟩)
        go_ret
        exact ⟨rfl, by rw [HG.out]; exact HBW.out _ hb10⟩
      | false =>
        have HE2 : Hid (e0 = 0) := Lib.hid (by rw [← HE0.out]; unfold dbE; rw [hn])
        have hn' : negs wf = false ∧ negs wb = false := by simpa using hn
        have HRD : Hid (readD s0 = (0, F, T, r, wf, wb)) := Lib.hid (by
          rw [← HS0.out]; unfold dbS; rw [hn]
          exact readD_bytesD HF.out HT32.out (by omega) HR.out HR'.out hn'.1 hn'.2)
        have HRL : Hid (s0.length ≤ 4294967296) := Lib.hid (by
          rw [← HS0.out]; unfold dbS; rw [hn]
          exact bytesD_len HF.out HT32.out (by omega) HR.out HR'.out)
        clear hn hn' HS0 HE0 es
        obtain rfl := HE2.out
        go_wp2_with fail
        refine (dread_is w9 s0 HRL.out (HTW'.out _ HB9.out) 0 HRD.out).mono ?_
        rintro e w10 ⟨V10, rfl, I10, hb10⟩
        have HB10 := Lib.hid (HB9.out.trans (hb10.mono HB9.out.size))
        have L10 := Lib.hid (I10.out.length HF.out HT32.out)
        have O10 := Lib.hid I10.out.one
        have Z10 := Lib.hid (delta_zero w10)
        have F10 := Lib.hid (delta_fits L10.out)
        have N10 := Lib.hid (delta_info L10.out)
        clear hb10 HB9
        go_upto_region 12 with (refine wpList_store_at rfl 32 (.tmp 13) (.tmp 68) rfl rfl w10.heap.size 0 rfl V10 rfl N10.out Tryd.zeroCells32.toList 32 Z10.out F10.out O10.out ?_; intro w11 N11 F11)
        obtain ⟨n11, b11⟩ := dboxed L10.out N11.out F11.out
        have HB11 := Lib.hid (HB10.out.trans (b11.mono HB10.out.size))
        have I11 := Lib.hid (I10.out.below b11)
        have W11 := Lib.hid n11
        generalize w10.heap.size = g10 at *
        clear N11 F11 Z10 F10 I10 n11 b11 HB10
        go_wp2_with fail
        refine (fixed_any w11 (HTW.out _ HB11.out)).mono ?_
        rintro e w12 ⟨rfl, hb12⟩
        have HB12 := Lib.hid (HB11.out.trans (hb12.mono HB11.out.size))
        have I12 := Lib.hid (I11.out.below hb12)
        have R12 := Lib.hid (W11.out.below hb12 W11.out.lt).reads
        have CS := Lib.hid (I12.out.same (HDW.out _ HB12.out) HF.out HT32.out (by omega) (by omega))
        clear hb12 HB11 I11 W11 I12
        go_wp2_with (first
          | (refine wpList_load_g rfl 32 (.tmp 13) rfl ⟨g10, 0, none⟩ rfl V10 _ R12.out Tryd.underlying32 rfl N10.out ?_)
          | (refine wpList_load_g rfl 32 (.tmp 2) rfl ⟨g, 0, none⟩ rfl dc _ (HCL.out _ HB12.out) Tryd.underlying32 rfl HVi.out ?_))
        refine CS.out.mono ?_
        rintro e w13 ⟨rfl, hb13⟩
        have HB13 := Lib.hid (HB12.out.trans (hb13.mono HB12.out.size))
        clear hb13 CS
        go_wp2_with fail
        go_ret
        exact ⟨rfl, by rw [HG.out]; exact HBW.out _ HB13.out⟩
end Go.Proofs.YtecamaceainfpaaDoor
