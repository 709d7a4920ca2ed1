/-
  Walk: hibernacleref35.Bytes.
-/
import Derived.Test.YtecamaceainfpaaDoorRRows
import Derived.Test.YtecamaceainfpaaDoorApply
import Derived.Deep.RegionHeld3
namespace Go.Proofs.YtecamaceainfpaaDoor
open Go.RowKit

/-- the bytes of a delta -/
def bytesD (F T r : List UInt8) (wf wb : List (Int × List UInt8)) : List UInt8 := rowB [[104, 105, 98, 100], F, T, r, rowB (wf.map rowW), rowB (wb.map rowW)]
theorem drows_len {l : List (Int × List UInt8)} (h : ∀ p ∈ l, inI p.1) (hs : wSize l ≤ 268435456) : (rowB (l.map rowW)).length ≤ 4294967296 := by
  have h1 := rows_size l h (by omega)
  have h2 := rowB_le (l.map rowW) (by omega)
  omega
theorem six_size {t0 t1 t2 t3 t4 t5 : List UInt8} : sizeOf [t0, t1, t2, t3, t4, t5] = 24 + t0.length + t1.length + t2.length + t3.length + t4.length + t5.length := by simp [sizeOf]; omega
/-- what Bytes gives back -/
def DBytesPost (w : World) (F T r : List UInt8) (wf wb : List (Int × List UInt8)) (e : Ending) (w' : World) : Prop :=
  (match negs wf || negs wb with
    | true => e = .returned (.tuple #[S [], .int .i64 2])
    | false => e = .returned (.tuple #[S (bytesD F T r wf wb), .int .i64 0])) ∧ Below w.heap.size w w'
/-- 'string(x[:])' of a digest that lies in a box -/
theorem run_str_32 (W : World) (g o : Nat) (F : List UInt8) (hF : F.length = 32) (h : W.rangeAt g o (F.map B8)) : (convert 73 9 (.slice (some ⟨g, o, none⟩) 32 32)).run Tryd.prog W = .ok (S F) W := by
  have := run_convert_bytes_back W 73 9 5 ⟨g, o, none⟩ 32 F Tryd.underlying73 Tryd.underlying5 Tryd.underlying9 fun j hj => ?_
  · rw [hF] at this; exact this
  · have := h j (B8 (F[j])) (by simp [hj])
    rw [show (⟨g, o, none⟩ : Addr).add j = ⟨g, o + j, none⟩ by simp [Addr.add]]
    exact this
theorem rrow_six (w : World) (t0 t1 t2 t3 t4 t5 : List UInt8) (h : sizeOf [t0, t1, t2, t3, t4, t5] ≤ 34359738368) :
    Calls Tryd.prog 57 #[.slice (some ⟨w.heap.size, 0, none⟩) 6 6] (w.alloc (.cells #[S t0, S t1, S t2, S t3, S t4, S t5] 9)) fun e w' => e = .returned (S (rowB [t0, t1, t2, t3, t4, t5])) ∧ Below w.heap.size w w' :=
  (rrow_any (w.alloc (.cells #[S t0, S t1, S t2, S t3, S t4, S t5] 9)) (some ⟨w.heap.size, 0, none⟩) 6 [t0, t1, t2, t3, t4, t5] (lies_made w 9 [S t0, S t1, S t2, S t3, S t4, S t5] _ (by simp)) h).mono fun e w' hw => ⟨hw.1, ((Below.refl w.heap.size w).alloc (Nat.le_refl _) _).trans (hw.2.mono (by simp))⟩
set_option maxRecDepth 100000 in
set_option maxHeartbeats 2000000 in
theorem rdbytes_any (w : World) (B B' : Option Addr) (d d' : Nat) (F : List UInt8) (wf wb : List (Int × List UInt8)) (r T : List UInt8) (hB : Wrs w w.heap.size B wf) (hB' : Wrs w w.heap.size B' wb)
    (hs : wSize wf + wSize wb + r.length ≤ 268435456) (hF : F.length = 32) (hT32 : T.length = 32) (hr : ∀ p ∈ wf, inI p.1) (hr' : ∀ p ∈ wb, inI p.1) :
    Calls Tryd.prog 26 #[.agg (dCells F (.slice B wf.length d) (.slice B' wb.length d') r T).toArray] w (DBytesPost w F T r wf wb) := by
  have HB := Lib.hid hB
  have HB' := Lib.hid hB'
  have HR := Lib.hid hr
  have HR' := Lib.hid hr'
  have D32c : (dCells F (.slice B wf.length d) (.slice B' wb.length d') r T)[32]? = some (Value.slice B wf.length d) := dCells_32 hF _ _ _ _
  have D33c : (dCells F (.slice B wf.length d) (.slice B' wb.length d') r T)[33]? = some (Value.slice B' wb.length d') := dCells_33 hF _ _ _ _
  have D34c : (dCells F (.slice B wf.length d) (.slice B' wb.length d') r T)[34]? = some (S r) := dCells_34 hF _ _ _ _
  have CF : ∀ j v, (F.map B8)[j]? = some v → (dCells F (.slice B wf.length d) (.slice B' wb.length d') r T)[0 + j]? = some v := dCells_from _ _ _ _
  have CT : ∀ j v, (T.map B8)[j]? = some v → (dCells F (.slice B wf.length d) (.slice B' wb.length d') r T)[35 + j]? = some v := dCells_to hF _ _ _ _
  have hl67 : (dCells F (.slice B wf.length d) (.slice B' wb.length d') r T).toArray.size = 67 := by rw [List.size_toArray]; exact dCells_length hF hT32 _ _ _
  clear hB hB' hr hr'
  generalize dCells F (.slice B wf.length d) (.slice B' wb.length d') r T = dc at *
  have hx := Whole.made w 32 dc.toArray
  have HW := Lib.hid ((Below.refl w.heap.size w).alloc (Nat.le_refl _) (.cells dc.toArray 32))
  have RF := range_of hx 0 (F.map B8) CF
  have RT := range_of hx 35 (T.map B8) CT
  have x1 : (w.alloc (.cells dc.toArray 32)).cell? ⟨w.heap.size, 32, none⟩ = some (Value.slice B wf.length d) := (hx.cell 32).trans (by rw [List.getElem?_toArray]; exact D32c)
  have x2 : (w.alloc (.cells dc.toArray 32)).cell? ⟨w.heap.size, 33, none⟩ = some (Value.slice B' wb.length d') := (hx.cell 33).trans (by rw [List.getElem?_toArray]; exact D33c)
  have x3 : (w.alloc (.cells dc.toArray 32)).cell? ⟨w.heap.size, 34, none⟩ = some (S r) := (hx.cell 34).trans (by rw [List.getElem?_toArray]; exact D34c)
  have HSZ : Hid ((w.alloc (.cells dc.toArray 32)).heap.size = w.heap.size + 1) := Lib.hid (by simp)
  have HRF := Lib.hid RF
  have HRT := Lib.hid RT
  have HX := Lib.hid (And.intro x1 (And.intro x2 x3))
  clear D32c D33c D34c CF CT hx RF RT x2 x3
  go_enter Tryd.func26, Tryd.ntmps26
  go_wp2_with fail
  clear hl67 x1
  generalize w.alloc (.cells dc.toArray 32) = w1 at *
  generalize hg : w.heap.size = g at *
  have HG := Lib.hid hg
  have HS : Hid (∀ W, Below w1.heap.size w1 W → W.rangeAt g 0 (F.map B8) ∧ W.rangeAt g 35 (T.map B8) ∧ W.cell? ⟨g, 34, none⟩ = some (S r) ∧ W.cell? ⟨g, 33, none⟩ = some (Value.slice B' wb.length d')) := Lib.hid fun W hW => by
    have hgl : g < w1.heap.size := by rw [HSZ.out]; omega
    exact ⟨fun j v hv => (hW.cell hgl).trans (HRF.out j v hv), fun j v hv => (hW.cell hgl).trans (HRT.out j v hv), (hW.cell hgl).trans HX.out.2.2, (hW.cell hgl).trans HX.out.2.1⟩
  have HL1 : Hid (∀ W, Below w1.heap.size w1 W → ∀ (G : Option Addr) (l : List (Int × List UInt8)), Wrs w g G l → Wrs W W.heap.size G l) := Lib.hid fun W hW G l h => (h.below (HW.out.trans (hW.mono (by rw [HSZ.out]; omega)))).wide (by have := hW.size; rw [HSZ.out] at this; omega)
  refine (rrows_any w1 B d wf (HL1.out _ (Below.refl _ _) _ _ HB.out) (by omega) HR.out).mono ?_
  rintro e w2 ⟨he, hb2⟩
  have HB2 := Lib.hid hb2
  clear hb2
  have HRL := Lib.hid (drows_len HR.out (by omega))
  have HRL' := Lib.hid (drows_len HR'.out (by omega))
  have two : ∀ w2 : World, Below w1.heap.size w1 w2 → Calls Tryd.prog 56 #[.slice B' wb.length d'] w2 fun e w' => (match negs wb with
    | true => e = .returned (.tuple #[S [], .bool false])
    | false => e = .returned (.tuple #[S (rowB (wb.map rowW)), .bool true])) ∧ Below w1.heap.size w1 w' := fun w2 hb => (rrows_any w2 B' d' wb (HL1.out _ hb _ _ HB'.out) (by omega) HR'.out).mono fun e w' h => ⟨h.1, hb.trans (h.2.mono hb.size)⟩
  have HTWO := Lib.hid two
  clear two
  obtain ⟨_, _, y3, y4⟩ := HS.out _ HB2.out
  clear y3
  by_cases hn : negs wf = true
  · rw [hn] at he
    dsimp only at he
    subst he
    have HN := Lib.hid hn
    clear hn
    go_wp2_with fail
    refine (HTWO.out _ HB2.out).mono ?_
    rintro e w3 ⟨he, hb3⟩
    have HB3 : Hid (Below g w w3) := Lib.hid (HW.out.trans (hb3.mono (by rw [HSZ.out]; omega)))
    clear hb3 y4
    by_cases hn' : negs wb = true
    · rw [hn'] at he
      dsimp only at he
      subst he
      clear hn'
      go_wp2_with fail
      go_ret2
      unfold DBytesPost
      rw [HN.out, HG.out]
      exact ⟨rfl, HB3.out⟩
    · rw [Bool.not_eq_true] at hn'
      rw [hn'] at he
      dsimp only at he
      subst he
      clear hn'
      go_wp2_with fail
      go_ret2
      unfold DBytesPost
      rw [HN.out, HG.out]
      exact ⟨rfl, HB3.out⟩
  · rw [Bool.not_eq_true] at hn
    rw [hn] at he
    dsimp only at he
    subst he
    have HN := Lib.hid hn
    clear hn
    have HE : Hid (bytesD F T r wf wb = rowB [[104, 105, 98, 100], F, T, r, rowB (wf.map rowW), rowB (wb.map rowW)]) := Lib.hid rfl
    generalize rowB (wf.map rowW) = f at *
    generalize rowB (wb.map rowW) = b at *
    go_wp2_with fail
    refine (HTWO.out _ HB2.out).mono ?_
    rintro e w3 ⟨he, hb3⟩
    have HB3 : Hid (Below g w w3) := Lib.hid (HW.out.trans (hb3.mono (by rw [HSZ.out]; omega)))
    have HC3 := Lib.hid hb3
    clear hb3 y4
    by_cases hn' : negs wb = true
    · rw [hn'] at he
      dsimp only at he
      subst he
      have HN' := Lib.hid hn'
      clear hn'
      go_wp2_with fail
      go_ret2
      unfold DBytesPost
      rw [HN.out, HN'.out, HG.out]
      exact ⟨rfl, HB3.out⟩
    · rw [Bool.not_eq_true] at hn'
      rw [hn'] at he
      dsimp only at he
      subst he
      have HN' := Lib.hid hn'
      clear hn'
      have hsz : sizeOf [[104, 105, 98, 100], F, T, r, f, b] ≤ 34359738368 := by
        rw [six_size, hF, hT32]
        have := HRL.out
        have := HRL'.out
        simp only [List.length_cons, List.length_nil]
        omega
      have HSZ6 := Lib.hid hsz
      clear hsz
      have cvF : ∀ W : World, W.rangeAt g 0 (F.map B8) → (convert 73 9 (.slice (some ⟨g, 0, none⟩) 32 32)).run Tryd.prog W = .ok (S F) W := fun W h => run_str_32 W g 0 F hF h
      have cvT : ∀ W : World, W.rangeAt g 35 (T.map B8) → (convert 73 9 (.slice (some ⟨g, 35, none⟩) 32 32)).run Tryd.prog W = .ok (S T) W := fun W h => run_str_32 W g 35 T hT32 h
      obtain ⟨y1, y2, y3, _⟩ := HS.out _ HC3.out
      clear hF hT32
      go_wp2_with fail
      have HS3 : Hid (∀ W, Below w1.heap.size w1 W → W.rangeAt g 0 (F.map B8) ∧ W.rangeAt g 35 (T.map B8) ∧ W.cell? ⟨g, 34, none⟩ = some (S r)) := Lib.hid fun W h => ⟨(HS.out W h).1, (HS.out W h).2.1, (HS.out W h).2.2.1⟩
      go_region_held3 (fun w' => w'.rangeAt g 0 (F.map B8) ∧ w'.rangeAt g 35 (T.map B8) ∧ w'.cell? ⟨g, 34, none⟩ = some (S r))
        (first
          | (exact ⟨y1, y2, y3⟩)
          | (exact HS3.out _ BB)
          | (exact HS3.out _ (HC3.out.drew.alloc HC3.out.size _)))
        (first
          | (go_at_call 57; refine (rrow_six w3.drew [104, 105, 98, 100] F T r f b HSZ6.out).mono ?_; rintro e w4 ⟨rfl, hbl⟩; have BB := HC3.out.drew.trans (hbl.mono HC3.out.size); have BG := Lib.hid (HB3.out.drew.trans (hbl.mono (by have := HB3.out.size; rw [HG.out] at this; exact this))); clear hbl))
      go_wp2_with fail
      go_ret2
      unfold DBytesPost
      rw [HN.out, HN'.out, HG.out, HE.out]
      exact ⟨rfl, BG.out⟩
end Go.Proofs.YtecamaceainfpaaDoor
