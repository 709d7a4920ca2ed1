/-
  Walk: delta.Bytes.
-/
import Derived.Test.YtecamaceainfpaaDoorRDBytes
namespace Go.Proofs.YtecamaceainfpaaDoor
open Go.RowKit

theorem row_six (w : World) (t0 t1 t2 t3 t4 t5 : List UInt8) (h : sizeOf [t0, t1, t2, t3, t4, t5] ≤ 34359738368) :
    Calls Tryd.prog 53 #[.slice (some ⟨w.heap.size, 0, none⟩) 6 6] (w.alloc (.cells #[S t0, S t1, S t2, S t3, S t4, S t5] 9)) fun e w' => e = .returned (S (rowB [t0, t1, t2, t3, t4, t5])) ∧ Below w.heap.size w w' :=
  (row_any (w.alloc (.cells #[S t0, S t1, S t2, S t3, S t4, S t5] 9)) (some ⟨w.heap.size, 0, none⟩) 6 [t0, t1, t2, t3, t4, t5] (lies_made w 9 [S t0, S t1, S t2, S t3, S t4, S t5] _ (by simp)) h).mono fun e w' hw => ⟨hw.1, ((Below.refl w.heap.size w).alloc (Nat.le_refl _) _).trans (hw.2.mono (by simp))⟩
set_option maxRecDepth 100000 in
set_option maxHeartbeats 2000000 in
theorem dbytes_any (w : World) (B B' : Option Addr) (d d' : Nat) (F : List UInt8) (wf wb : List (Int × List UInt8)) (r T : List UInt8) (hB : Wrs w w.heap.size B wf) (hB' : Wrs w w.heap.size B' wb)
    (hs : wSize wf + wSize wb + r.length ≤ 268435456) (hF : F.length = 32) (hT32 : T.length = 32) (hr : ∀ p ∈ wf, inI p.1) (hr' : ∀ p ∈ wb, inI p.1) (hT : STabs w) :
    Calls Tryd.prog 25 #[.agg (dCells F (.slice B wf.length d) (.slice B' wb.length d') r T).toArray] w (DBytesPost w F T r wf wb) := by
  have HT := Lib.hid hT
  clear hT
  have HB := Lib.hid hB
  have HB' := Lib.hid hB'
  have HR := Lib.hid hr
  have HR' := Lib.hid hr'
  have D32c : (dCells F (.slice B wf.length d) (.slice B' wb.length d') r T)[32]? = some (Value.slice B wf.length d) := dCells_32 hF _ _ _ _
  have D33c : (dCells F (.slice B wf.length d) (.slice B' wb.length d') r T)[33]? = some (Value.slice B' wb.length d') := dCells_33 hF _ _ _ _
  have D34c : (dCells F (.slice B wf.length d) (.slice B' wb.length d') r T)[34]? = some (S r) := dCells_34 hF _ _ _ _
  have CF : ∀ j v, (F.map B8)[j]? = some v → (dCells F (.slice B wf.length d) (.slice B' wb.length d') r T)[0 + j]? = some v := dCells_from _ _ _ _
  have CT : ∀ j v, (T.map B8)[j]? = some v → (dCells F (.slice B wf.length d) (.slice B' wb.length d') r T)[35 + j]? = some v := dCells_to hF _ _ _ _
  have hl67 : (dCells F (.slice B wf.length d) (.slice B' wb.length d') r T).toArray.size = 67 := by rw [List.size_toArray]; exact dCells_length hF hT32 _ _ _
  clear hB hB' hr hr'
  generalize dCells F (.slice B wf.length d) (.slice B' wb.length d') r T = dc at *
  have hx := Whole.made w 32 dc.toArray
  have HW := Lib.hid ((Below.refl w.heap.size w).alloc (Nat.le_refl _) (.cells dc.toArray 32))
  have RF := range_of hx 0 (F.map B8) CF
  have RT := range_of hx 35 (T.map B8) CT
  have x1 : (w.alloc (.cells dc.toArray 32)).cell? ⟨w.heap.size, 32, none⟩ = some (Value.slice B wf.length d) := (hx.cell 32).trans (by rw [List.getElem?_toArray]; exact D32c)
  have x2 : (w.alloc (.cells dc.toArray 32)).cell? ⟨w.heap.size, 33, none⟩ = some (Value.slice B' wb.length d') := (hx.cell 33).trans (by rw [List.getElem?_toArray]; exact D33c)
  have x3 : (w.alloc (.cells dc.toArray 32)).cell? ⟨w.heap.size, 34, none⟩ = some (S r) := (hx.cell 34).trans (by rw [List.getElem?_toArray]; exact D34c)
  have HSZ : Hid ((w.alloc (.cells dc.toArray 32)).heap.size = w.heap.size + 1) := Lib.hid (by simp)
  have HRF := Lib.hid RF
  have HRT := Lib.hid RT
  have HX := Lib.hid (And.intro x1 (And.intro x2 x3))
  clear D32c D33c D34c CF CT hx RF RT x2 x3
  go_enter Tryd.func25, Tryd.ntmps25
  go_wp2_with fail
  clear hl67 x1
  generalize w.alloc (.cells dc.toArray 32) = w1 at *
  generalize hg : w.heap.size = g at *
  have HG := Lib.hid hg
  have HS : Hid (∀ W, Below w1.heap.size w1 W → W.rangeAt g 0 (F.map B8) ∧ W.rangeAt g 35 (T.map B8) ∧ W.cell? ⟨g, 32, none⟩ = some (Value.slice B wf.length d) ∧ W.cell? ⟨g, 33, none⟩ = some (Value.slice B' wb.length d') ∧ W.cell? ⟨g, 34, none⟩ = some (S r)) := Lib.hid fun W hW => by
    have hgl : g < w1.heap.size := by rw [HSZ.out]; omega
    exact ⟨fun j v hv => (hW.cell hgl).trans (HRF.out j v hv), fun j v hv => (hW.cell hgl).trans (HRT.out j v hv), (hW.cell hgl).trans HX.out.1, (hW.cell hgl).trans HX.out.2.1, (hW.cell hgl).trans HX.out.2.2⟩
  have HBW : Hid (∀ W, Below w1.heap.size w1 W → Below g w W) := Lib.hid fun W hW => HW.out.trans (hW.mono (by rw [HSZ.out]; omega))
  have HL1 : Hid (∀ W, Below w1.heap.size w1 W → ∀ (G : Option Addr) (l : List (Int × List UInt8)), Wrs w g G l → Wrs W W.heap.size G l) := Lib.hid fun W hW G l h => (h.below (HBW.out W hW)).wide (by have := hW.size; rw [HSZ.out] at this; omega)
  have HTW : Hid (∀ W, Below w1.heap.size w1 W → STabs W) := Lib.hid fun W hW => HT.out.below (by rw [HG.out]; exact Nat.le_refl _) (HBW.out W hW)
  have lf := wSize_len wf
  have lb := wSize_len wb
  have HLF : Hid (wf.length ≤ 268435456) := Lib.hid (by omega)
  have HLB : Hid (wb.length ≤ 268435456) := Lib.hid (by omega)
  refine (contains_any w1 B d wf (HL1.out _ (Below.refl _ _) _ _ HB.out) (by omega)).mono ?_
  rintro e w2 ⟨rfl, hb2⟩
  have HB2 := Lib.hid hb2
  clear hb2
  have HRL := Lib.hid (drows_len HR.out (by omega))
  have HRL' := Lib.hid (drows_len HR'.out (by omega))
  have EA : Hid (∀ (G : Option Addr) (k : Nat) (l : List (Int × List UInt8)), Wrs w g G l → (∀ p ∈ l, inI p.1) → wSize l ≤ 268435456 → ∀ W, Below w1.heap.size w1 W → Calls Tryd.prog 55 #[.slice G l.length k, .func (.func 52) #[] #[]] W fun e w' => (∃ A c, e = .returned (.slice A l.length c) ∧ ∀ W', Below w'.heap.size w' W' → Strs W' W'.heap.size A (l.map rowW)) ∧ Below W.heap.size W w') := Lib.hid fun G k l hG hi hl W hW => by
    have hll := wSize_len l
    refine (each_any W G k l (HL1.out W hW G l hG) (by omega) (fun j hj => ⟨hi _ (by rw [List.getD_eq_getElem?_getD, List.getElem?_eq_getElem hj]; exact List.getElem_mem hj), by have := wSize_getD hj; omega⟩) (HTW.out W hW)).mono ?_
    rintro e w' ⟨⟨v, rfl, ho⟩, hb⟩
    refine ⟨?_, hb⟩
    obtain ⟨A, c, rfl, hlies, _⟩ := own_shape ho (by omega)
    exact ⟨A, c, by simp, fun W' hW' => (hlies.below hW').wide hW'.size⟩
  have RA : Hid (∀ (l : List (Int × List UInt8)), (∀ p ∈ l, inI p.1) → wSize l ≤ 268435456 → ∀ (W : World) (A : Option Addr) (c : Nat), Strs W W.heap.size A (l.map rowW) → Calls Tryd.prog 53 #[.slice A l.length c] W fun e w' => e = .returned (S (rowB (l.map rowW))) ∧ Below W.heap.size W w') := Lib.hid fun l hi hl W A c hA => by
    have := row_any W A c (l.map rowW) hA (by have := rows_size l hi (by omega); omega)
    rwa [List.length_map] at this
  have EF := Lib.hid (EA.out B d wf HB.out HR.out (by omega))
  have EB := Lib.hid (EA.out B' d' wb HB'.out HR'.out (by omega))
  have RF := Lib.hid (RA.out wf HR.out (by omega))
  have RB := Lib.hid (RA.out wb HR'.out (by omega))
  clear EA RA lf lb
  obtain ⟨_, _, _, y4, _⟩ := HS.out _ HB2.out
  have HE : Hid (bytesD F T r wf wb = rowB [[104, 105, 98, 100], F, T, r, rowB (wf.map rowW), rowB (wb.map rowW)]) := Lib.hid rfl
  by_cases hn : negs wf = true
  · rw [hn]
    have HN := Lib.hid hn
    clear hn
    go_wp2_with fail
    go_ret2
    unfold DBytesPost
    rw [HN.out, HG.out]
    exact ⟨rfl, HBW.out _ HB2.out⟩
  · rw [Bool.not_eq_true] at hn
    rw [hn]
    have HN := Lib.hid hn
    clear hn
    go_wp2_with fail
    refine (contains_any w2 B' d' wb (HL1.out _ HB2.out _ _ HB'.out) (by have := HLB.out; omega)).mono ?_
    rintro e w3 ⟨rfl, hb3⟩
    have HC3 := Lib.hid (HB2.out.trans (hb3.mono HB2.out.size))
    clear hb3 y4
    by_cases hn' : negs wb = true
    · rw [hn']
      have HN' := Lib.hid hn'
      clear hn'
      go_wp2_with fail
      go_ret2
      unfold DBytesPost
      rw [HN.out, HN'.out, HG.out]
      exact ⟨rfl, HBW.out _ HC3.out⟩
    · rw [Bool.not_eq_true] at hn'
      rw [hn']
      have HN' := Lib.hid hn'
      clear hn'
      generalize rowB (wf.map rowW) = f at *
      generalize rowB (wb.map rowW) = b at *
      generalize wf.map rowW = lf at *
      generalize wb.map rowW = lb at *
      have HSZ6 : Hid (sizeOf [[104, 105, 98, 100], F, T, r, f, b] ≤ 34359738368) := Lib.hid (by
        rw [six_size, hF, hT32]
        have := HRL.out
        have := HRL'.out
        simp only [List.length_cons, List.length_nil]
        omega)
      have cvF : ∀ W : World, W.rangeAt g 0 (F.map B8) → (convert 73 9 (.slice (some ⟨g, 0, none⟩) 32 32)).run Tryd.prog W = .ok (S F) W := fun W h => run_str_32 W g 0 F hF h
      have cvT : ∀ W : World, W.rangeAt g 35 (T.map B8) → (convert 73 9 (.slice (some ⟨g, 35, none⟩) 32 32)).run Tryd.prog W = .ok (S T) W := fun W h => run_str_32 W g 35 T hT32 h
      have Y := HS.out _ HC3.out.drew
      have HY := Lib.hid Y
      clear Y hF hT32 hs
      go_wp2_with fail
      have BB := Lib.hid HC3.out.drew
      clear HC3
      go_region_held3 (fun w' => w'.rangeAt g 0 (F.map B8) ∧ w'.rangeAt g 35 (T.map B8) ∧ w'.cell? ⟨g, 32, none⟩ = some (Value.slice B wf.length d) ∧ w'.cell? ⟨g, 33, none⟩ = some (Value.slice B' wb.length d') ∧ w'.cell? ⟨g, 34, none⟩ = some (S r))
        (first
          | (exact HS.out _ BB.out)
          | (exact HS.out _ (BB.out.alloc BB.out.size _)))
        (first
          | (go_at_call 55; with_reducible refine (EF.out _ BB.out).mono ?_; rintro e wx ⟨⟨AF, cF, rfl, hst⟩, hbl⟩; have BB' := Lib.hid (BB.out.trans (hbl.mono BB.out.size)); clear BB; have BB := BB'; clear BB'; (try (have BG' := Lib.hid (BG.out.trans (hbl.mono BG.out.size)); clear BG; have BG := BG'; clear BG')); have SF := Lib.hid hst; have BF := Lib.hid (Below.refl wx.heap.size wx); clear hbl hst)
          | (go_at_call 55; with_reducible refine (EB.out _ BB.out).mono ?_; rintro e wy ⟨⟨AB, cB, rfl, hst⟩, hbl⟩; have BB' := Lib.hid (BB.out.trans (hbl.mono BB.out.size)); clear BB; have BB := BB'; clear BB'; (try (have BF' := Lib.hid (BF.out.trans (hbl.mono BF.out.size)); clear BF; have BF := BF'; clear BF')); have SB := Lib.hid hst; have BG := Lib.hid (Below.refl wy.heap.size wy); clear hbl hst)
          | (go_at_call 53; with_reducible refine (RF.out _ _ _ (SF.out _ BF.out)).mono ?_; rintro e wz ⟨rfl, hbl⟩; have BB' := Lib.hid (BB.out.trans (hbl.mono BB.out.size)); clear BB; have BB := BB'; clear BB'; (try (have BG' := Lib.hid (BG.out.trans (hbl.mono BG.out.size)); clear BG; have BG := BG'; clear BG')); clear hbl SF BF)
          | (go_at_call 53; with_reducible refine (RB.out _ _ _ (SB.out _ BG.out)).mono ?_; rintro e wz ⟨rfl, hbl⟩; have BB' := Lib.hid (BB.out.trans (hbl.mono BB.out.size)); clear BB; have BB := BB'; clear BB'; (try (have BF' := Lib.hid (BF.out.trans (hbl.mono BF.out.size)); clear BF; have BF := BF'; clear BF')); clear hbl SB BG)
          | (go_at_call 53; with_reducible refine (row_six _ [104, 105, 98, 100] F T r f b HSZ6.out).mono ?_; rintro e w4 ⟨rfl, hbl⟩; have BB' := Lib.hid (BB.out.trans (hbl.mono BB.out.size)); clear BB; have BB := BB'; clear BB' hbl))
      all_goals go_wp2_with fail
      all_goals go_ret2
      all_goals unfold DBytesPost
      all_goals rw [HN.out, HN'.out, HG.out, HE.out]
      all_goals exact ⟨rfl, HBW.out _ BB.out⟩
end Go.Proofs.YtecamaceainfpaaDoor
