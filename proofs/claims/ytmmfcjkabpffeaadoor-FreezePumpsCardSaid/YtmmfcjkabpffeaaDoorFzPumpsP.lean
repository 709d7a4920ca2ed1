/-
  Plain: so many, and so many more, through two lists. No program in sight.
-/
import Derived.Test.YtmmfcjkabpffeaaDoorFreezeP
namespace Go.Proofs.YtmmfcjkabpffeaaDoor
open Go.RowKit

/-- the two lists behind a pump -/
def pumpFL (fl : List Kp) (fs : List (List UInt8)) (n : Int) : List Kp := (keepRec pumpF 0 fl fs n).1
def pumpBL (fl bl : List Kp) (fs bs : List (List UInt8)) (n : Int) : List Kp := (keepRec pumpF 0 bl bs (keepRec pumpF 0 fl fs n).2).1
theorem pumps_two (fl bl : List Kp) (fs bs : List (List UInt8)) (a b : Int) (ha : 0 ≤ a) (hb : 0 ≤ b) :
    pumpFL (pumpFL fl fs a) fs b = pumpFL fl fs (a + b) ∧ pumpBL (pumpFL fl fs a) (pumpBL fl bl fs bs a) fs bs b = pumpBL fl bl fs bs (a + b) := by
  have h1 := pump_two fl fs 0 0 a b ha hb
  have s1 := pump_state fl fs 0 a ha
  have s2 := pump_state fl fs 0 (a + b) (by omega)
  have s3 := pump_state (keepRec pumpF 0 fl fs a).1 fs 0 b hb
  unfold pumpFL pumpBL
  refine ⟨by rw [h1], ?_⟩
  have e := congrArg Prod.snd h1
  simp only at e
  have h2 := pump_two bl bs 0 0 (keepRec pumpF 0 fl fs a).2 (keepRec pumpF 0 (keepRec pumpF 0 fl fs a).1 fs b).2 s1.1 s3.1
  rw [h2]
  simp only
  rw [show (keepRec pumpF 0 fl fs a).2 + (keepRec pumpF 0 (keepRec pumpF 0 fl fs a).1 fs b).2 = (keepRec pumpF 0 fl fs (a + b)).2 by rw [e]; omega]
theorem pumps_none (fl bl : List Kp) (fs bs : List (List UInt8)) (n : Int) (h : n < 1) : pumpFL fl fs n = fl ∧ pumpBL fl bl fs bs n = bl := by
  unfold pumpFL pumpBL
  rw [pump_none fl fs 0 n h]
  exact ⟨rfl, by rw [pump_none bl bs 0 n h]⟩
theorem pumps_left (fl bl : List Kp) (fs bs : List (List UInt8)) (n : Int) (hn : 0 ≤ n) (h1 : fl.length ≤ fs.length) (h2 : bl.length ≤ bs.length) :
    ((leftL (pumpFL fl fs n) + leftL (pumpBL fl bl fs bs n) : Nat) : Int) = max (((leftL fl + leftL bl : Nat) : Int) - n) 0 := by
  obtain ⟨e1, e2⟩ := pump_left fl fs 0 n h1 hn
  have s := pump_state fl fs 0 n hn
  obtain ⟨e3, _⟩ := pump_left bl bs 0 (keepRec pumpF 0 fl fs n).2 h2 s.1
  unfold pumpFL pumpBL
  omega
theorem pumpFL_length (fl : List Kp) (fs : List (List UInt8)) (n : Int) : (pumpFL fl fs n).length = fl.length := keep_length _ _ _ _ _
theorem pumpBL_length (fl bl : List Kp) (fs bs : List (List UInt8)) (n : Int) : (pumpBL fl bl fs bs n).length = bl.length := keep_length _ _ _ _ _
end Go.Proofs.YtmmfcjkabpffeaaDoor
