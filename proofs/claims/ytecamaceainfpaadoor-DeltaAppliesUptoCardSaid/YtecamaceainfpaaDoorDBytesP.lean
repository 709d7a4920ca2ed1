/-
  Plain: the delta of a delta's bytes is that delta.
-/
import Derived.Test.YtecamaceainfpaaDoorRDBytes
import Derived.Test.YtecamaceainfpaaDoorDRead
namespace Go.Proofs.YtecamaceainfpaaDoor
open Go.RowKit

theorem wrP_rowW {p : Int × List UInt8} (h : inI p.1) (h0 : 0 ≤ p.1) (hl : p.2.length < 268435456) : wrP (rowW p) = some p := by
  have ht : textsA [] (rowB [Lib.itoa p.1, p.2]) = .ok [Lib.itoa p.1, p.2] := by
    have := texts_rowB [Lib.itoa p.1, p.2] [] (by
      intro l hl'
      simp only [List.mem_cons, List.not_mem_nil, or_false] at hl'
      rcases hl' with rfl | rfl
      · have := itoa_len h; omega
      · exact hl)
    simpa using this
  exact wrP_ok ht (intP_itoa h) (by omega)
theorem wrL_rows : ∀ l : List (Int × List UInt8), (∀ p ∈ l, inI p.1 ∧ 0 ≤ p.1 ∧ p.2.length < 268435456) → wrL (l.map rowW) = some l
  | [], _ => rfl
  | p :: l, h => by
    obtain ⟨h1, h2, h3⟩ := h p (List.mem_cons_self ..)
    rw [List.map_cons, wrL, wrP_rowW h1 h2 h3]
    simp only
    rw [wrL_rows l fun q hq => h q (List.mem_cons_of_mem _ hq)]
    rfl
theorem mem_wSize {l : List (Int × List UInt8)} {p : Int × List UInt8} (h : p ∈ l) : p.2.length + 8 ≤ wSize l := by
  induction l with
  | nil => cases h
  | cons q l ih =>
    have e1 : wSize (q :: l) = 8 + q.2.length + wSize l := by simp [wSize]
    rcases List.mem_cons.1 h with rfl | h
    · omega
    · have := ih h; omega
theorem negs_false {l : List (Int × List UInt8)} (h : negs l = false) : ∀ p ∈ l, 0 ≤ p.1 := fun p hp => by
  unfold negs at h
  have := List.any_eq_false.1 h p hp
  simp only [decide_eq_true_eq] at this
  omega
theorem mem_sizeOf {l : List (List UInt8)} {x : List UInt8} (h : x ∈ l) : x.length ≤ sizeOf l := by
  induction l with
  | nil => cases h
  | cons q l ih =>
    have e1 : sizeOf (q :: l) = 4 + q.length + sizeOf l := by simp [sizeOf]
    rcases List.mem_cons.1 h with rfl | h
    · omega
    · have := ih h; omega
theorem writesL_rows {l : List (Int × List UInt8)} (hr : ∀ p ∈ l, inI p.1) (hn : negs l = false) (hs : wSize l ≤ 1048576) : writesL (rowB (l.map rowW)) = some l := by
  have h1 := rows_size l hr (by omega)
  have ht : textsA [] (rowB (l.map rowW)) = .ok (l.map rowW) := by
    have := texts_rowB (l.map rowW) [] (fun x hx => by have := mem_sizeOf hx; omega)
    simpa using this
  rw [writesL_ok ht]
  exact wrL_rows l fun p hp => ⟨hr p hp, negs_false hn p hp, by have := mem_wSize hp; omega⟩
theorem readD_bytesD {F T r : List UInt8} {wf wb : List (Int × List UInt8)} (hF : F.length = 32) (hT : T.length = 32) (hs : wSize wf + wSize wb + r.length ≤ 1048576) (hr : ∀ p ∈ wf, inI p.1) (hr' : ∀ p ∈ wb, inI p.1) (hn : negs wf = false) (hn' : negs wb = false) :
    readD (bytesD F T r wf wb) = (0, F, T, r, wf, wb) := by
  have h1 := rows_size wf hr (by omega)
  have h2 := rows_size wb hr' (by omega)
  have h3 := rowB_le (wf.map rowW) (by omega)
  have h4 := rowB_le (wb.map rowW) (by omega)
  unfold bytesD
  have ht : textsA [] (rowB [[104, 105, 98, 100], F, T, r, rowB (wf.map rowW), rowB (wb.map rowW)]) = .ok [[104, 105, 98, 100], F, T, r, rowB (wf.map rowW), rowB (wb.map rowW)] := by
    have := texts_rowB [[104, 105, 98, 100], F, T, r, rowB (wf.map rowW), rowB (wb.map rowW)] [] (by
      intro l hl
      simp only [List.mem_cons, List.not_mem_nil, or_false] at hl
      rcases hl with rfl | rfl | rfl | rfl | rfl | rfl
      · simp
      all_goals omega)
    simpa using this
  exact readD_ok ht ⟨rfl, hF, hT⟩ (writesL_rows hr hn (by omega)) (writesL_rows hr' hn' (by omega))
theorem bytesD_len {F T r : List UInt8} {wf wb : List (Int × List UInt8)} (hF : F.length = 32) (hT : T.length = 32) (hs : wSize wf + wSize wb + r.length ≤ 1048576) (hr : ∀ p ∈ wf, inI p.1) (hr' : ∀ p ∈ wb, inI p.1) :
    (bytesD F T r wf wb).length ≤ 4294967296 := by
  have h1 := rows_size wf hr (by omega)
  have h2 := rows_size wb hr' (by omega)
  have h3 := rowB_le (wf.map rowW) (by omega)
  have h4 := rowB_le (wb.map rowW) (by omega)
  have h5 := rowB_le [[104, 105, 98, 100], F, T, r, rowB (wf.map rowW), rowB (wb.map rowW)] (by rw [six_size, hF, hT]; simp only [List.length_cons, List.length_nil]; omega)
  unfold bytesD
  rw [six_size, hF, hT] at h5
  simp only [List.length_cons, List.length_nil] at h5
  omega
end Go.Proofs.YtecamaceainfpaaDoor
