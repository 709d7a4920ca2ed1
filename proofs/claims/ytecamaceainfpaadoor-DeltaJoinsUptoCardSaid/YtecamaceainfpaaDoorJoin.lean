/-
  Walk: delta.Join.
-/
import Derived.Test.YtecamaceainfpaaDoorJoinP
import Derived.Test.YtecamaceainfpaaDoorBLaw
import Derived.Deep.RegionWith
namespace Go.Proofs.YtecamaceainfpaaDoor
open Go.RowKit

/-- the digest of the image without anything -/
def E0 : List UInt8 := dig (imgB [] [] [])
theorem E0_length : E0.length = 32 := dig_length _
/-- two deltas, joined: the error's number, and the parts -/
def joinD (dF dT : List UInt8) (dwf dwb : List Wr) (eF eT er : List UInt8) (ewf ewb : List Wr) : Int × List UInt8 × List UInt8 × List UInt8 × List Wr × List Wr :=
  if eF = E0 then (0, eF, eT, er, ewf, ewb)
  else if eF ≠ dT then (23, Z32, Z32, [], [], [])
  else (0, dF, eT, er, bothL dwf ewf, bothL dwb ewb)
/-- what Join gives back -/
def JoinPost (w : World) (q : Int × List UInt8 × List UInt8 × List UInt8 × List Wr × List Wr) (e : Ending) (w' : World) : Prop :=
  (∃ V, e = .returned (.tuple #[.agg V.toArray, .int .i64 q.1]) ∧ IsD q.2.1 q.2.2.1 q.2.2.2.1 q.2.2.2.2.1 q.2.2.2.2.2 w' V) ∧ Below w.heap.size w w'
theorem cloneW_is (w : World) (A : Option Addr) (c : Nat) (ls : List Wr) (hA : Wrs w w.heap.size A ls) (hn : ls.length ≤ 1099511627776) :
    Calls Tryd.prog 47 #[.slice A ls.length c] w fun e w' => (∃ G k, e = .returned (.slice G ls.length k) ∧ Hid (Wrs w' w'.heap.size G ls) ∧ Hid (∀ ad, G = some ad → w.heap.size ≤ ad.block)) ∧ Below w.heap.size w w' :=
  (cloneW_any w A c ls hA hn).mono fun e w' h => by
    obtain ⟨⟨G, k, rfl, hG, hge⟩, hb⟩ := h
    exact ⟨⟨G, k, rfl, Lib.hid hG, Lib.hid hge⟩, hb⟩
theorem last_is (w : World) (A B : Option Addr) (c d : Nat) (a b : List Wr) (hA : Wrs w w.heap.size A a) (hB : Wrs w w.heap.size B b) (hl : a.length + b.length ≤ 1099511627776) :
    Calls Tryd.prog 48 #[.slice A a.length c, .slice B b.length d] w fun e w' => (∃ G k, e = .returned (.slice G (bothL a b).length k) ∧ Hid (Wrs w' w'.heap.size G (bothL a b)) ∧ Hid (∀ ad, G = some ad → w.heap.size ≤ ad.block)) ∧ Below w.heap.size w w' :=
  (last_any w A B c d a b hA hB hl).mono fun e w' h => by
    obtain ⟨⟨ls, v, h1, h2, rfl, ho⟩, hb⟩ := h
    rw [last_both h1 h2] at ho
    obtain ⟨G, k, rfl, hG, hge⟩ := own_shape ho (by decide)
    exact ⟨⟨G, k, rfl, Lib.hid hG, Lib.hid hge⟩, hb⟩
attribute [local go_sem] foldl_size foldl_size0 zero32
set_option maxRecDepth 100000 in
set_option maxHeartbeats 4000000 in
theorem join_any (w : World) (dF dT dr : List UInt8) (dwf dwb : List Wr) (Vd : List Value) (eF eT er : List UInt8) (ewf ewb : List Wr) (Ve : List Value) (hT : Tabs w) (hd : IsD dF dT dr dwf dwb w Vd) (he : IsD eF eT er ewf ewb w Ve)
    (hdF : dF.length = 32) (hdT : dT.length = 32) (heF : eF.length = 32) (heT : eT.length = 32) (l1 : dwf.length + ewf.length ≤ 1099511627776) (l2 : dwb.length + ewb.length ≤ 1099511627776) :
    Calls Tryd.prog 23 #[.agg Vd.toArray, .agg Ve.toArray] w (JoinPost w (joinD dF dT dwf dwb eF eT er ewf ewb)) := by
  have HT := Lib.hid hT
  have HD := Lib.hid hd
  have HE := Lib.hid he
  have HdF := Lib.hid hdF
  have HdT := Lib.hid hdT
  have HeF := Lib.hid heF
  have HeT := Lib.hid heT
  have hl67 : Vd.toArray.size = 67 := by rw [List.size_toArray]; exact hd.length hdF hdT
  have hl67' : Ve.toArray.size = 67 := by rw [List.size_toArray]; exact he.length heF heT
  have hx := ((Whole.made w 32 Vd.toArray).block (.cells Ve.toArray 32)).block (.cells Tryd.zeroCells32 32)
  have hy := (Whole.made (w.alloc (.cells Vd.toArray 32)) 32 Ve.toArray).block (.cells Tryd.zeroCells32 32)
  have hz := delta_zero ((w.alloc (.cells Vd.toArray 32)).alloc (.cells Ve.toArray 32))
  have hb := (((Below.refl w.heap.size w).alloc (Nat.le_refl _) (.cells Vd.toArray 32)).alloc (by simp) (.cells Ve.toArray 32)).alloc (by simp; omega) (.cells Tryd.zeroCells32 32)
  rw [show (w.alloc (.cells Vd.toArray 32)).heap.size = w.heap.size + 1 by simp] at hy
  rw [show ((w.alloc (.cells Vd.toArray 32)).alloc (.cells Ve.toArray 32)).heap.size = w.heap.size + 1 + 1 by simp] at hz
  clear hT hd he hdF hdT heF heT
  go_enter Tryd.func23, Tryd.ntmps23
  go_upto_region 1 with (fail)
  change Code.wp _ _ _ _ (((w.alloc (.cells Vd.toArray 32)).alloc (.cells Ve.toArray 32)).alloc (.cells Tryd.zeroCells32 32))
  generalize ((w.alloc (.cells Vd.toArray 32)).alloc (.cells Ve.toArray 32)).alloc (.cells Tryd.zeroCells32 32) = w1 at *
  generalize hgx : w.heap.size = gx at *
  have HGX := Lib.hid hgx
  have HX := Lib.hid hx
  have HY := Lib.hid hy
  have HZ := Lib.hid hz
  have HW := Lib.hid hb
  have hlz : gx + 1 + 1 < w1.heap.size := hz.lt
  clear hgx hl67 hl67' hx hy hz hb
  have HBW : Hid (∀ W, Below (gx + 1 + 1) w1 W → Below gx w W) := Lib.hid fun W hW => HW.out.trans (hW.mono (by omega))
  have HTW : Hid (∀ W, Below (gx + 1 + 1) w1 W → Tabs W) := Lib.hid fun W hW => HT.out.below (by rw [HGX.out]; exact Nat.le_refl _) (HBW.out W hW)
  have HDW : Hid (∀ W, Below (gx + 1 + 1) w1 W → IsD dF dT dr dwf dwb W Vd ∧ IsD eF eT er ewf ewb W Ve) := Lib.hid fun W hW => ⟨HD.out.below (by rw [HGX.out]; exact HBW.out W hW), HE.out.below (by rw [HGX.out]; exact HBW.out W hW)⟩
  have SUM : Hid (∀ W, Below (gx + 1 + 1) w1 W → Calls Tryd.prog 36 #[.agg #[.slice none 0 0, .slice none 0 0, S []]] W fun e w' => e = .returned (D32 E0) ∧ Below W.heap.size W w') := Lib.hid fun W hW => imgSum_any W none none 0 0 [] [] [] (HTW.out W hW) (Lies.none _ _ _) (Lies.none _ _ _) (by simp [sizeOf])
  have HRE : Hid (∀ W, Below (gx + 1 + 1) w1 W → W.rangeAt (gx + 1) 0 (eF.map B8)) := Lib.hid fun W hW => by
    obtain ⟨G, k, G', k', hv, _, _⟩ := (HDW.out W hW).2
    have := HY.out.below hW (by omega)
    rw [hv] at this
    exact range_of this 0 (eF.map B8) (dCells_from _ _ _ _)
  have E0L := Lib.hid E0_length
  have HJ1 : Hid (eF = E0 → joinD dF dT dwf dwb eF eT er ewf ewb = (0, eF, eT, er, ewf, ewb)) := Lib.hid fun h => by unfold joinD; rw [if_pos h]
  have HJ2 : Hid (eF ≠ E0 → eF ≠ dT → joinD dF dT dwf dwb eF eT er ewf ewb = (23, Z32, Z32, [], [], [])) := Lib.hid fun h h2 => by unfold joinD; rw [if_neg h, if_pos h2]
  have HJ3 : Hid (eF ≠ E0 → eF = dT → joinD dF dT dwf dwb eF eT er ewf ewb = (0, dF, eT, er, bothL dwf ewf, bothL dwb ewb)) := Lib.hid fun h h2 => by unfold joinD; rw [if_neg h, if_neg (fun h' => h' h2)]
  generalize E0 = Z at *
  by_cases heq : eF = Z
  · have HEQ := Lib.hid heq
    have HJ := Lib.hid (HJ1.out heq)
    clear heq HJ1 HJ2 HJ3
    have hu := Tryd.underlying29
    have hi : (Tryd.prog.info? 29).map (·.size) = some (eF.map B8).length := by rw [List.length_map, HeF.out]; kernel_rfl
    have hlen : (eF.map B8).length = 32 := by rw [List.length_map, HeF.out]
    have h1c := B8_one eF
    have eqr : ∀ W : World, (Op.equalIn 10000 29 (D32 eF) (D32 Z)).run Tryd.prog W = .ok true W := fun W => by rw [eqIn_D32 eF Z HeF.out E0L.out]; simp [HEQ.out]
    go_region_held3 (fun w' => w'.rangeAt (gx + 1) 0 (eF.map B8))
      (first
        | (exact HRE.out _ (Below.refl _ _).drew)
        | (exact HRE.out _ BB))
      (first
        | (go_at_call 36; refine (SUM.out _ ?_).mono ?_; (exact (Below.refl _ _).drew); rintro e w2 ⟨rfl, hbl⟩; have BBz : Below w1.heap.size w1 w2 := (Below.refl _ _).drew.trans hbl; have BB : Below (gx + 1 + 1) w1 w2 := BBz.mono (by omega); clear hbl))
    clear hu hi hlen h1c eqr
    obtain ⟨G, k, G', k', hv, hG, hG'⟩ := (HDW.out w2 BB).2
    have hY2 := HY.out.below BB (by omega)
    have HY2 := Lib.hid hY2
    rw [hv] at hY2
    have y1 : w2.cell? ⟨gx + 1, 32, none⟩ = some (Value.slice G ewf.length k) := (hY2.cell 32).trans (by rw [List.getElem?_toArray]; exact dCells_32 HeF.out _ _ _ _)
    have y2 : w2.cell? ⟨gx + 1, 33, none⟩ = some (Value.slice G' ewb.length k') := (hY2.cell 33).trans (by rw [List.getElem?_toArray]; exact dCells_33 HeF.out _ _ _ _)
    have z1 := hY2.free 32
    have z2 := hY2.free 33
    have hg2 : gx + 1 < w2.heap.size := hY2.lt
    have HV := Lib.hid hv
    have HBB := Lib.hid BB
    have hgz : gx + 1 + 1 < w2.heap.size := by have := BB.size; omega
    have HBZ : Hid (Whole w2 (gx + 1 + 1) 32 Tryd.zeroCells32.toList.toArray) := Lib.hid (HZ.out.below BBz (by omega))
    have CL1 : Hid (∀ W, Below w2.heap.size w2 W → Calls Tryd.prog 47 #[.slice G ewf.length k] W fun e w' => (∃ G k, e = .returned (.slice G ewf.length k) ∧ Hid (Wrs w' w'.heap.size G ewf) ∧ Hid (∀ ad, G = some ad → W.heap.size ≤ ad.block)) ∧ Below W.heap.size W w') := Lib.hid fun W hW => cloneW_is W G k ewf ((Lies.below hG hW).wide hW.size) (by omega)
    have CL2 : Hid (∀ W, Below w2.heap.size w2 W → Calls Tryd.prog 47 #[.slice G' ewb.length k'] W fun e w' => (∃ G k, e = .returned (.slice G ewb.length k) ∧ Hid (Wrs w' w'.heap.size G ewb) ∧ Hid (∀ ad, G = some ad → W.heap.size ≤ ad.block)) ∧ Below W.heap.size W w') := Lib.hid fun W hW => cloneW_is W G' k' ewb ((Lies.below hG' hW).wide hW.size) (by omega)
    clear hv hG hG' hY2 BB
    have B2 := Lib.hid ((Below.refl w2.heap.size w2).drew)
    go_wp2_with fail
    go_region_with (first
      | (go_at_call_of 47 (Value.slice G ewf.length k); refine (CL1.out _ B2.out).mono ?_; rintro e w3 ⟨⟨G3, k3, rfl, H3, N3⟩, hbl⟩; have B3 := Lib.hid (B2.out.trans (hbl.mono B2.out.size)); have S3 := Lib.hid hbl; have hk := bcell (B2.out.trans (hbl.mono B2.out.size)); clear hbl)
      | (go_at_call_of 47 (Value.slice G' ewb.length k'); refine (CL2.out _ B3.out).mono ?_; rintro e w4 ⟨⟨G4, k4, rfl, H4, N4⟩, hbl⟩; have B4 := Lib.hid (B3.out.trans (hbl.mono B3.out.size)); have S4 := Lib.hid hbl; have hk2 := bcell (B3.out.trans (hbl.mono B3.out.size)); have hf1 : w4.frozen? ⟨gx + 1, 32, none⟩ = false := ((B3.out.trans (hbl.mono B3.out.size)).frozen (p := ⟨gx + 1, 32, none⟩) hg2).trans z1; have hf2 : w4.frozen? ⟨gx + 1, 33, none⟩ = false := ((B3.out.trans (hbl.mono B3.out.size)).frozen (p := ⟨gx + 1, 33, none⟩) hg2).trans z2; have hc1 : w4.cell? ⟨gx + 1, 32, none⟩ = some (Value.slice G ewf.length k) := (hk2 _ _ hg2).trans y1; have hc2 : w4.cell? ⟨gx + 1, 33, none⟩ = some (Value.slice G' ewb.length k') := (hk2 _ _ hg2).trans y2; clear hbl))
    all_goals
      have H34 := Lib.hid ((Lies.below H3.out S4.out).wide S4.out.size)
      have hN3 : ∀ ad, G3 = some ad → gx + 1 < ad.block := fun ad h => by have h1 := N3.out ad h; have h2 := B2.out.size; omega
      have hN4 : ∀ ad, G4 = some ad → gx + 1 < ad.block := fun ad h => by have h1 := N4.out ad h; have h2 := B3.out.size; omega
      have L3 := Lib.hid (lies_set23 (p := gx + 1) (a' := .slice G3 ewf.length k3) (b' := .slice G4 ewb.length k4) H34.out hN3)
      have L4 := Lib.hid (lies_set23 (p := gx + 1) (a' := .slice G3 ewf.length k3) (b' := .slice G4 ewb.length k4) H4.out hN4)
      have HY5 : Hid (Whole ((w4.setCell ⟨gx + 1, 32, none⟩ (.slice G3 ewf.length k3)).setCell ⟨gx + 1, 33, none⟩ (.slice G4 ewb.length k4)) (gx + 1) 32 (dCells eF (.slice G3 ewf.length k3) (.slice G4 ewb.length k4) er eT).toArray) := Lib.hid (by
        have h := HY2.out.below B4.out hg2
        rw [HV.out] at h
        have h5 := (h.set 32 (.slice G3 ewf.length k3)).set 33 (.slice G4 ewb.length k4)
        rw [List.setIfInBounds_toArray, List.setIfInBounds_toArray, d_set_one HeF.out, d_set_two HeF.out] at h5
        exact h5)
      have HZ5 : Hid (Whole ((w4.setCell ⟨gx + 1, 32, none⟩ (.slice G3 ewf.length k3)).setCell ⟨gx + 1, 33, none⟩ (.slice G4 ewb.length k4)) (gx + 1 + 1) 32 Tryd.zeroCells32.toList.toArray) := Lib.hid (by
        have h := HBZ.out.below B4.out hgz
        exact (h.far (p := ⟨gx + 1, 32, none⟩) (by show gx + 1 + 1 ≠ gx + 1; omega) _).far (p := ⟨gx + 1, 33, none⟩) (by show gx + 1 + 1 ≠ gx + 1; omega) _)
      have HB5 : Hid (Below gx w ((w4.setCell ⟨gx + 1, 32, none⟩ (.slice G3 ewf.length k3)).setCell ⟨gx + 1, 33, none⟩ (.slice G4 ewb.length k4))) := Lib.hid (((HBW.out _ (HBB.out.trans (B4.out.mono (by omega)))).setCell (p := ⟨gx + 1, 32, none⟩) (by show gx ≤ gx + 1; omega) _).setCell (p := ⟨gx + 1, 33, none⟩) (by show gx ≤ gx + 1; omega) _)
      clear hk hk2 hf1 hf2 hc1 hc2 y1 y2 z1 z2
      generalize (w4.setCell ⟨gx + 1, 32, none⟩ (.slice G3 ewf.length k3)).setCell ⟨gx + 1, 33, none⟩ (.slice G4 ewb.length k4) = w5 at *
      obtain ⟨V5, HV5⟩ : ∃ z, Hid (dCells eF (.slice G3 ewf.length k3) (.slice G4 ewb.length k4) er eT = z) := ⟨_, Lib.hid rfl⟩
      rw [HV5.out] at HY5
      have LV : Hid (V5.length = 67) := Lib.hid (by rw [← HV5.out]; exact dCells_length HeF.out HeT.out _ _ _)
      have OV : Hid (∀ v ∈ V5, v.oneCell' = true) := Lib.hid (by rw [← HV5.out]; exact dCells_one _ _ _ _ _ _ _ _ _)
      have NV := Lib.hid (delta_info LV.out)
      have FV := Lib.hid (delta_fits LV.out)
      go_wp2_with (first
        | (refine wpList_load_at rfl 32 (.tmp 3) rfl ⟨gx + 1, 0, none⟩ rfl V5 _ HY5.out.reads Tryd.underlying32 rfl NV.out ?_)
        | (refine wpList_store_at rfl 32 (.tmp 4) (.tmp 19) rfl rfl (gx + 1 + 1) 0 rfl V5 rfl NV.out Tryd.zeroCells32.toList 32 HZ5.out FV.out OV.out ?_; intro w6 N6 F6))
      have h6 : Whole w6 (gx + 1 + 1) 32 V5.toArray := by
        have := N6.out
        rw [LV.out, show Tryd.zeroCells32.toList.drop (0 + 67) = [] from by kernel_rfl, List.take_zero, List.nil_append, List.append_nil] at this
        exact this
      have HB6 := Lib.hid (below_grown HB5.out F6.out (by have := HZ5.out.lt; omega) (by omega))
      have L36 := Lib.hid (lies_after L3.out F6.out (fun ad e _ => by have h1 := N3.out ad e; have h2 := B2.out.size; omega))
      have L46 := Lib.hid (lies_after L4.out F6.out (fun ad e _ => by have h1 := N4.out ad e; have h2 := B3.out.size; omega))
      refine bodyPost_ret (v := .tuple #[.agg V5.toArray, .int .i64 0]) (results_cell_two rfl _ _ (gx + 1 + 1) 32 _ (0, 0) _ _ rfl rfl h6 Tryd.underlying32 rfl (by rw [List.size_toArray]; exact NV.out)) rfl ?_
      unfold JoinPost
      rw [HJ.out, HGX.out]
      exact ⟨⟨V5, rfl, G3, k3, G4, k4, HV5.out.symm, L36.out, L46.out⟩, HB6.out⟩
  · have hne : (eF == Z) = false := beq_eq_false_iff_ne.2 heq
    have HNE := Lib.hid hne
    have HJ2' := Lib.hid (HJ2.out heq)
    have HJ3' := Lib.hid (HJ3.out heq)
    clear heq hne HJ1 HJ2 HJ3
    have hu := Tryd.underlying29
    have hi : (Tryd.prog.info? 29).map (·.size) = some (eF.map B8).length := by rw [List.length_map, HeF.out]; kernel_rfl
    have hlen : (eF.map B8).length = 32 := by rw [List.length_map, HeF.out]
    have h1c := B8_one eF
    have eqr : ∀ W : World, (Op.equalIn 10000 29 (D32 eF) (D32 Z)).run Tryd.prog W = .ok false W := fun W => by rw [eqIn_D32 eF Z HeF.out E0L.out]; simp [HNE.out]
    go_region_held3 (fun w' => w'.rangeAt (gx + 1) 0 (eF.map B8))
      (first
        | (exact HRE.out _ (Below.refl _ _).drew)
        | (exact HRE.out _ BB))
      (first
        | (go_at_call 36; refine (SUM.out _ ?_).mono ?_; (exact (Below.refl _ _).drew); rintro e w2 ⟨rfl, hbl⟩; have BBz : Below w1.heap.size w1 w2 := (Below.refl _ _).drew.trans hbl; have BB : Below (gx + 1 + 1) w1 w2 := BBz.mono (by omega); clear hbl))
    clear hu hi hlen h1c eqr
    have HBB := Lib.hid BB
    have HX2 := Lib.hid (HX.out.below BBz (by omega))
    have HY2 := Lib.hid (HY.out.below BBz (by omega))
    have HZ2 := Lib.hid (HZ.out.below BBz (by omega))
    have hgz : gx + 1 + 1 < w2.heap.size := HZ2.out.lt
    obtain ⟨G, k, G', k', hv, hG, hG'⟩ := (HDW.out w2 BB).2
    obtain ⟨J, j, J', j', hv2, hJ, hJ'⟩ := (HDW.out w2 BB).1
    have HV := Lib.hid hv
    have HV2 := Lib.hid hv2
    clear BB BBz HX HY HZ
    have MF : Hid (∀ i v, (eF.map B8)[i]? = some v → w2.cell? ((⟨gx + 1, 0, none⟩ : Addr).add i) = some v) := Lib.hid (by
      have h := HY2.out; rw [HV.out] at h
      exact mid_cells h 0 (eF.map B8) (dCells_from _ _ _ _))
    have MT : Hid (∀ i v, (dT.map B8)[i]? = some v → w2.cell? ((⟨gx, 35, none⟩ : Addr).add i) = some v) := Lib.hid (by
      have h := HX2.out; rw [HV2.out] at h
      exact mid_cells h 35 (dT.map B8) (dCells_to HdF.out _ _ _ _))
    have IF : Hid ((Tryd.prog.info? 29).map (·.size) = some (eF.map B8).length) := Lib.hid (by rw [List.length_map, HeF.out]; kernel_rfl)
    have IT : Hid ((Tryd.prog.info? 29).map (·.size) = some (dT.map B8).length) := Lib.hid (by rw [List.length_map, HdT.out]; kernel_rfl)
    by_cases heq2 : eF = dT
    · have HJ := Lib.hid (HJ3'.out heq2)
      have HEQ2 := Lib.hid heq2
      have eq2 : ∀ W : World, (Op.equalIn 10000 29 (D32 eF) (D32 dT)).run Tryd.prog W = .ok true W := fun W => by rw [eqIn_D32 eF dT HeF.out HdT.out]; simp [HEQ2.out]
      clear heq2 HJ2' HJ3'
      go_wp2_with (first
        | (refine wpList_load_at rfl 29 (.tmp 20) rfl ⟨gx + 1, 0, none⟩ rfl (eF.map B8) _ MF.out Tryd.underlying29 rfl IF.out ?_)
        | (refine wpList_load_at rfl 29 (.tmp 22) rfl ⟨gx, 35, none⟩ rfl (dT.map B8) _ MT.out Tryd.underlying29 rfl IT.out ?_))
      clear eq2
      have HKEEP : Hid (∀ W, Below w2.heap.size w2 W → W.rangeAt gx 0 (dF.map B8) ∧ W.rangeAt (gx + 1) 35 (eT.map B8) ∧ W.cell? ⟨gx, 32, none⟩ = some (Value.slice J dwf.length j) ∧ W.cell? ⟨gx, 33, none⟩ = some (Value.slice J' dwb.length j') ∧ W.cell? ⟨gx + 1, 32, none⟩ = some (Value.slice G ewf.length k) ∧ W.cell? ⟨gx + 1, 33, none⟩ = some (Value.slice G' ewb.length k') ∧ W.cell? ⟨gx + 1, 34, none⟩ = some (S er)) := Lib.hid fun W hW => by
        have h1 := HX2.out.below hW (by omega)
        have h2 := HY2.out.below hW (by omega)
        rw [HV2.out] at h1
        rw [HV.out] at h2
        exact ⟨range_of h1 0 (dF.map B8) (dCells_from _ _ _ _), range_of h2 35 (eT.map B8) (dCells_to HeF.out _ _ _ _), (h1.cell 32).trans (by rw [List.getElem?_toArray]; exact dCells_32 HdF.out _ _ _ _), (h1.cell 33).trans (by rw [List.getElem?_toArray]; exact dCells_33 HdF.out _ _ _ _), (h2.cell 32).trans (by rw [List.getElem?_toArray]; exact dCells_32 HeF.out _ _ _ _), (h2.cell 33).trans (by rw [List.getElem?_toArray]; exact dCells_33 HeF.out _ _ _ _), (h2.cell 34).trans (by rw [List.getElem?_toArray]; exact dCells_34 HeF.out _ _ _ _)⟩
      have LA1 : Hid (∀ W, Below w2.heap.size w2 W → Calls Tryd.prog 48 #[.slice J dwf.length j, .slice G ewf.length k] W fun e w' => (∃ G k, e = .returned (.slice G (bothL dwf ewf).length k) ∧ Hid (Wrs w' w'.heap.size G (bothL dwf ewf)) ∧ Hid (∀ ad, G = some ad → W.heap.size ≤ ad.block)) ∧ Below W.heap.size W w') := Lib.hid fun W hW => last_is W J G j k dwf ewf ((Lies.below hJ hW).wide hW.size) ((Lies.below hG hW).wide hW.size) l1
      have LA2 : Hid (∀ W, Below w2.heap.size w2 W → Calls Tryd.prog 48 #[.slice J' dwb.length j', .slice G' ewb.length k'] W fun e w' => (∃ G k, e = .returned (.slice G (bothL dwb ewb).length k) ∧ Hid (Wrs w' w'.heap.size G (bothL dwb ewb)) ∧ Hid (∀ ad, G = some ad → W.heap.size ≤ ad.block)) ∧ Below W.heap.size W w') := Lib.hid fun W hW => last_is W J' G' j' k' dwb ewb ((Lies.below hJ' hW).wide hW.size) ((Lies.below hG' hW).wide hW.size) l2
      clear hJ hJ' hG hG' hv hv2
      obtain ⟨W1, HW1⟩ : ∃ z, Hid (bothL dwf ewf = z) := ⟨_, Lib.hid rfl⟩
      obtain ⟨W2, HW2⟩ : ∃ z, Hid (bothL dwb ewb = z) := ⟨_, Lib.hid rfl⟩
      rw [HW1.out] at LA1
      rw [HW2.out] at LA2
      have hu := Tryd.underlying29
      have hi : (Tryd.prog.info? 29).map (·.size) = some (dF.map B8).length := by rw [List.length_map, HdF.out]; kernel_rfl
      have hi' : (Tryd.prog.info? 29).map (·.size) = some (eT.map B8).length := by rw [List.length_map, HeT.out]; kernel_rfl
      have hlen : (dF.map B8).length = 32 := by rw [List.length_map, HdF.out]
      have hlen' : (eT.map B8).length = 32 := by rw [List.length_map, HeT.out]
      have h1c := B8_one dF
      have h1c' := B8_one eT
      have o1 := HdF.out
      have o2 := HeT.out
      have HI : Hid (∀ G3 k3 G4 k4, (Tryd.prog.info? 32).map (·.size) = some (dCells dF (.slice G3 W1.length k3) (.slice G4 W2.length k4) er eT).length) := Lib.hid (fun _ _ _ _ => by rw [dCells_length HdF.out HeT.out]; kernel_rfl)
      have HC : Hid (∀ G3 k3 G4 k4, 0 + (dCells dF (.slice G3 W1.length k3) (.slice G4 W2.length k4) er eT).length ≤ Tryd.zeroCells32.toList.length) := Lib.hid (fun _ _ _ _ => by rw [dCells_length HdF.out HeT.out]; decide)
      have B2 := Lib.hid ((Below.refl w2.heap.size w2).drew)
      refine wp_region_noPanic ?_
      refine wp_region_held_drew (S := (fun w' : World => w'.rangeAt gx 0 (dF.map B8) ∧ w'.rangeAt (gx + 1) 35 (eT.map B8) ∧ w'.cell? ⟨gx, 32, none⟩ = some (Value.slice J dwf.length j) ∧ w'.cell? ⟨gx, 33, none⟩ = some (Value.slice J' dwb.length j') ∧ w'.cell? ⟨gx + 1, 32, none⟩ = some (Value.slice G ewf.length k) ∧ w'.cell? ⟨gx + 1, 33, none⟩ = some (Value.slice G' ewb.length k') ∧ w'.cell? ⟨gx + 1, 34, none⟩ = some (S er))) (by kernel_rfl) ?_ (fun hHeld => ?_)
      · exact HKEEP.out _ (Below.refl _ _).drew
      refine wpAnyH_take (i := 0) (v := ?_) rfl (by kernel_rfl) (by kernel_rfl) (by kernel_rfl) (fun _ _ _ h => h) (Or.inl ⟨by rfl, ?_⟩) (by assumption) ?_
      rotate_left
      · (intro w hSw; (try dsimp only at hSw); go_simp; try with_reducible rfl)
      change wpAnyH _ _ _ _ _ _ _ (Act.put _ (some 26) _) _
      (try simp only [Act.put, List.setIfInBounds_toArray, List.set_cons_zero, List.set_cons_succ])
      refine wpAnyH_take (i := 1) (v := .agg (dF.map B8).toArray) rfl (by kernel_rfl) (by kernel_rfl) (by kernel_rfl) (fun _ _ _ h => h) (yieldsIf_load_mid (by rfl) 29 (.tmp 26) (by rfl) gx 0 (by rfl) (dF.map B8) _ (fun w hS => hS.1) hu rfl hi) (by assumption) ?_
      change wpAnyH _ _ _ _ _ _ _ (Act.put _ (some 27) (.agg (dF.map B8).toArray)) _
      (try simp only [Act.put, List.setIfInBounds_toArray, List.set_cons_zero, List.set_cons_succ])
      refine wpAnyH_take (i := 2) (v := ?_) rfl (by kernel_rfl) (by kernel_rfl) (by kernel_rfl) (fun _ _ _ h => h) (Or.inl ⟨by rfl, ?_⟩) (by assumption) ?_
      rotate_left
      · (intro w hSw; (try dsimp only at hSw); go_simp; try with_reducible rfl)
      change wpAnyH _ _ _ _ _ _ _ (Act.put _ (some 28) _) _
      (try simp only [Act.put, List.setIfInBounds_toArray, List.set_cons_zero, List.set_cons_succ])
      refine wpAnyH_take (i := 3) (v := ?_) rfl (by kernel_rfl) (by kernel_rfl) (by kernel_rfl) (fun _ _ _ h => h) (Or.inl ⟨by rfl, ?_⟩) (by assumption) ?_
      rotate_left
      · (intro w hSw; (try dsimp only at hSw); go_simp; try with_reducible rfl)
      change wpAnyH _ _ _ _ _ _ _ (Act.put _ (some 29) _) _
      (try simp only [Act.put, List.setIfInBounds_toArray, List.set_cons_zero, List.set_cons_succ])
      refine wpAnyH_take (i := 4) (v := ?_) rfl (by kernel_rfl) (by kernel_rfl) (by kernel_rfl) (fun _ _ _ h => h) (Or.inl ⟨by rfl, ?_⟩) (by assumption) ?_
      rotate_left
      · (intro w hSw; (try dsimp only at hSw); go_simp; try with_reducible rfl)
      change wpAnyH _ _ _ _ _ _ _ (Act.put _ (some 30) _) _
      (try simp only [Act.put, List.setIfInBounds_toArray, List.set_cons_zero, List.set_cons_succ])
      refine wpAnyH_take (i := 5) (v := ?_) rfl (by kernel_rfl) (by kernel_rfl) (by kernel_rfl) (fun _ _ _ h => h) (Or.inl ⟨by rfl, ?_⟩) (by assumption) ?_
      rotate_left
      · (intro w hSw; (try dsimp only at hSw); go_simp; try with_reducible rfl)
      change wpAnyH _ _ _ _ _ _ _ (Act.put _ (some 31) _) _
      (try simp only [Act.put, List.setIfInBounds_toArray, List.set_cons_zero, List.set_cons_succ])
      refine wpAnyH_take (i := 7) (v := ?_) rfl (by kernel_rfl) (by kernel_rfl) (by kernel_rfl) (fun _ _ _ h => h) (Or.inl ⟨by rfl, ?_⟩) (by assumption) ?_
      rotate_left
      · (intro w hSw; (try dsimp only at hSw); go_simp; try with_reducible rfl)
      change wpAnyH _ _ _ _ _ _ _ (Act.put _ (some 33) _) _
      (try simp only [Act.put, List.setIfInBounds_toArray, List.set_cons_zero, List.set_cons_succ])
      refine wpAnyH_take (i := 8) (v := ?_) rfl (by kernel_rfl) (by kernel_rfl) (by kernel_rfl) (fun _ _ _ h => h) (Or.inl ⟨by rfl, ?_⟩) (by assumption) ?_
      rotate_left
      · (intro w hSw; (try dsimp only at hSw); go_simp; try with_reducible rfl)
      change wpAnyH _ _ _ _ _ _ _ (Act.put _ (some 34) _) _
      (try simp only [Act.put, List.setIfInBounds_toArray, List.set_cons_zero, List.set_cons_succ])
      refine wpAnyH_take (i := 9) (v := ?_) rfl (by kernel_rfl) (by kernel_rfl) (by kernel_rfl) (fun _ _ _ h => h) (Or.inl ⟨by rfl, ?_⟩) (by assumption) ?_
      rotate_left
      · (intro w hSw; (try dsimp only at hSw); go_simp; try with_reducible rfl)
      change wpAnyH _ _ _ _ _ _ _ (Act.put _ (some 35) _) _
      (try simp only [Act.put, List.setIfInBounds_toArray, List.set_cons_zero, List.set_cons_succ])
      refine wpAnyH_take (i := 10) (v := ?_) rfl (by kernel_rfl) (by kernel_rfl) (by kernel_rfl) (fun _ _ _ h => h) (Or.inl ⟨by rfl, ?_⟩) (by assumption) ?_
      rotate_left
      · (intro w hSw; (try dsimp only at hSw); go_simp; try with_reducible rfl)
      change wpAnyH _ _ _ _ _ _ _ (Act.put _ (some 36) _) _
      (try simp only [Act.put, List.setIfInBounds_toArray, List.set_cons_zero, List.set_cons_succ])
      refine wpAnyH_take (i := 12) (v := ?_) rfl (by kernel_rfl) (by kernel_rfl) (by kernel_rfl) (fun _ _ _ h => h) (Or.inl ⟨by rfl, ?_⟩) (by assumption) ?_
      rotate_left
      · (intro w hSw; (try dsimp only at hSw); go_simp; try with_reducible rfl)
      change wpAnyH _ _ _ _ _ _ _ (Act.put _ (some 38) _) _
      (try simp only [Act.put, List.setIfInBounds_toArray, List.set_cons_zero, List.set_cons_succ])
      refine wpAnyH_take (i := 13) (v := ?_) rfl (by kernel_rfl) (by kernel_rfl) (by kernel_rfl) (fun _ _ _ h => h) (Or.inl ⟨by rfl, ?_⟩) (by assumption) ?_
      rotate_left
      · (intro w hSw; (try dsimp only at hSw); go_simp; try with_reducible rfl)
      change wpAnyH _ _ _ _ _ _ _ (Act.put _ (some 39) _) _
      (try simp only [Act.put, List.setIfInBounds_toArray, List.set_cons_zero, List.set_cons_succ])
      refine wpAnyH_take (i := 14) (v := ?_) rfl (by kernel_rfl) (by kernel_rfl) (by kernel_rfl) (fun _ _ _ h => h) (Or.inl ⟨by rfl, ?_⟩) (by assumption) ?_
      rotate_left
      · (intro w hSw; (try dsimp only at hSw); go_simp; try with_reducible rfl)
      change wpAnyH _ _ _ _ _ _ _ (Act.put _ (some 40) _) _
      (try simp only [Act.put, List.setIfInBounds_toArray, List.set_cons_zero, List.set_cons_succ])
      refine wpAnyH_take (i := 15) (v := .agg (eT.map B8).toArray) rfl (by kernel_rfl) (by kernel_rfl) (by kernel_rfl) (fun _ _ _ h => h) (yieldsIf_load_mid (by rfl) 29 (.tmp 40) (by rfl) (gx + 1) 35 (by rfl) (eT.map B8) _ (fun w hS => hS.2.1) hu rfl hi') (by assumption) ?_
      change wpAnyH _ _ _ _ _ _ _ (Act.put _ (some 41) (.agg (eT.map B8).toArray)) _
      (try simp only [Act.put, List.setIfInBounds_toArray, List.set_cons_zero, List.set_cons_succ])
      refine wpAnyH_ready (rs := [6]) (by kernel_rfl) (by simp) ?_
      refine AllReadyH.cons rfl (fun K hK => ?_) AllReadyH.nil
      go_simp
      refine (LA1.out _ B2.out).mono ?_
      rintro e w3 ⟨⟨G3, k3, rfl, L3, N3⟩, hbl⟩
      have B3 := Lib.hid (B2.out.trans (hbl.mono B2.out.size))
      clear hbl
      go_wp2_with fail
      refine hK.out _ _ ?_ (fun hHeld3 => ?_)
      · exact HKEEP.out _ B3.out
      clear hK hHeld
      (try simp only [Act.put, List.setIfInBounds_toArray, List.set_cons_zero, List.set_cons_succ])
      refine wpAnyH_ready (rs := [11]) (by kernel_rfl) (by simp) ?_
      refine AllReadyH.cons rfl (fun K hK => ?_) AllReadyH.nil
      go_simp
      refine (LA2.out _ B3.out).mono ?_
      rintro e w4 ⟨⟨G4, k4, rfl, L4, N4⟩, hbl⟩
      have B4 := Lib.hid (B3.out.trans (hbl.mono B3.out.size))
      have L34 := Lib.hid ((Lies.below L3.out hbl).wide hbl.size)
      have z4 := Lib.hid (HZ2.out.below B4.out hgz)
      clear hbl
      go_wp2_with fail
      refine hK.out _ _ ?_ (fun hHeld4 => ?_)
      · exact HKEEP.out _ B4.out
      clear hK hHeld3
      (try simp only [Act.put, List.setIfInBounds_toArray, List.set_cons_zero, List.set_cons_succ])
      refine wpAnyH_ready (rs := [16]) (by kernel_rfl) (by simp) ?_
      refine AllReadyH.cons rfl (fun K hK => ?_) AllReadyH.nil
      go_simp
      refine hK.out _ _ ?_ (fun hHeld5 => ?_)
      · exact HKEEP.out _ B4.out
      clear hK hHeld4
      (try simp only [Act.put, List.setIfInBounds_toArray, List.set_cons_zero, List.set_cons_succ])
      refine wpAnyH_ready (rs := [17]) (by kernel_rfl) (by simp) ?_
      refine AllReadyH.cons rfl (fun K hK => ?_) AllReadyH.nil
      go_simp
      refine upon_store (by rfl) (gx + 1 + 1) 0 _ (dCells dF (.slice G3 W1.length k3) (.slice G4 W2.length k4) er eT) (by exact built_list dF eT HdF.out HeT.out _ _ _ _ _ _ _) Tryd.zeroCells32.toList 32 z4.out (HC.out _ _ _ _) (dCells_one _ _ _ _ _ _ _ _ _) ?_
      intro w6 H6 F6
      have HS6 : Hid (w6.rangeAt gx 0 (dF.map B8) ∧ w6.rangeAt (gx + 1) 35 (eT.map B8) ∧ w6.cell? ⟨gx, 32, none⟩ = some (Value.slice J dwf.length j) ∧ w6.cell? ⟨gx, 33, none⟩ = some (Value.slice J' dwb.length j') ∧ w6.cell? ⟨gx + 1, 32, none⟩ = some (Value.slice G ewf.length k) ∧ w6.cell? ⟨gx + 1, 33, none⟩ = some (Value.slice G' ewb.length k') ∧ w6.cell? ⟨gx + 1, 34, none⟩ = some (S er)) := Lib.hid (by
        have hc : ∀ p : Addr, p.block < gx + 1 + 1 → w6.cell? p = w4.cell? p := fun p hp => World.cell?_of_block (F6.out.block p.block (by have := B4.out.size; omega) (by intro e; injection e with e; omega))
        obtain ⟨s1, s2, s3, s4, s5, s6, s7⟩ := HKEEP.out _ B4.out
        exact ⟨fun i v hv => (hc _ (by show gx < _; omega)).trans (s1 i v hv), fun i v hv => (hc _ (by show gx + 1 < _; omega)).trans (s2 i v hv), (hc _ (by show gx < _; omega)).trans s3, (hc _ (by show gx < _; omega)).trans s4, (hc _ (by show gx + 1 < _; omega)).trans s5, (hc _ (by show gx + 1 < _; omega)).trans s6, (hc _ (by show gx + 1 < _; omega)).trans s7⟩)
      refine hK.out _ _ ?_ (fun hHeld6 => ?_)
      · exact HS6.out
      clear hK hHeld5
      (try simp only [Act.put, List.setIfInBounds_toArray, List.set_cons_zero, List.set_cons_succ])
      refine wpAnyH_ready (rs := [18]) (by kernel_rfl) (by simp) ?_
      refine AllReadyH.cons rfl (fun K hK => ?_) AllReadyH.nil
      go_simp
      refine hK.out _ _ ?_ (fun hHeld7 => ?_)
      · exact HS6.out
      clear hK hHeld6
      (try simp only [Act.put, List.setIfInBounds_toArray, List.set_cons_zero, List.set_cons_succ])
      refine wpAnyH_done (by kernel_rfl) ?_ _
      refine NoPanic.normal ?_
      have h6 : Whole w6 (gx + 1 + 1) 32 (dCells dF (.slice G3 W1.length k3) (.slice G4 W2.length k4) er eT).toArray := by
        have := H6.out
        rw [dCells_length HdF.out HeT.out, show Tryd.zeroCells32.toList.drop (0 + 67) = [] from by kernel_rfl, List.take_zero, List.nil_append, List.append_nil] at this
        exact this
      have hB6 := below_grown (HBW.out _ (HBB.out.trans (B4.out.mono (by omega)))) F6.out (by have := B4.out.size; omega) (by omega)
      have HB6 := Lib.hid hB6
      have L36 := Lib.hid (lies_after L34.out F6.out (fun ad e _ => by have h1 := N3.out ad e; have h2 := B2.out.size; omega))
      have L46 := Lib.hid (lies_after L4.out F6.out (fun ad e _ => by have h1 := N4.out ad e; have h2 := B3.out.size; omega))
      clear hu hi hi' hlen hlen' h1c h1c' o1 o2 hB6 hHeld7
      go_wp2_with fail
      refine bodyPost_ret (v := .tuple #[.agg (dCells dF (.slice G3 W1.length k3) (.slice G4 W2.length k4) er eT).toArray, .int .i64 0]) (results_cell_two rfl _ _ (gx + 1 + 1) 32 _ (0, 0) _ _ rfl rfl h6 Tryd.underlying32 rfl (by rw [List.size_toArray]; exact HI.out _ _ _ _)) rfl ?_
      unfold JoinPost
      rw [HJ.out, HGX.out]
      dsimp only
      rw [HW1.out, HW2.out]
      exact ⟨⟨_, rfl, G3, k3, G4, k4, rfl, L36.out, L46.out⟩, HB6.out⟩
    · have HJ := Lib.hid (HJ2'.out heq2)
      have HNE2 : Hid ((eF == dT) = false) := Lib.hid (beq_eq_false_iff_ne.2 heq2)
      have eq2 : ∀ W : World, (Op.equalIn 10000 29 (D32 eF) (D32 dT)).run Tryd.prog W = .ok false W := fun W => by rw [eqIn_D32 eF dT HeF.out HdT.out]; simp [HNE2.out]
      clear heq2 HJ2' HJ3'
      have HZI : Hid ((Tryd.prog.info? 32).map (·.size) = some zeroL.length) := Lib.hid (by rw [zeroL_length]; kernel_rfl)
      have HZF : Hid (0 + zeroL.length ≤ zeroL.length) := Lib.hid (by omega)
      have HZO : Hid (∀ v ∈ zeroL, v.oneCell' = true) := Lib.hid zeroL_one
      have HZ3 : Hid (Whole w2 (gx + 1 + 1) 32 zeroL.toArray) := Lib.hid (by have := HZ2.out; rw [Array.toArray_toList, zero_cells] at this; exact this)
      go_wp2_with (first
        | (refine wpList_load_at rfl 29 (.tmp 20) rfl ⟨gx + 1, 0, none⟩ rfl (eF.map B8) _ MF.out Tryd.underlying29 rfl IF.out ?_)
        | (refine wpList_load_at rfl 29 (.tmp 22) rfl ⟨gx, 35, none⟩ rfl (dT.map B8) _ MT.out Tryd.underlying29 rfl IT.out ?_)
        | (refine wpList_store_at rfl 32 (.tmp 4) (.tmp 25) rfl rfl (gx + 1 + 1) 0 rfl zeroL (congrArg Value.agg zero_cells) HZI.out zeroL 32 HZ3.out HZF.out HZO.out ?_; intro w9 N9 F9))
      have h9 : Whole w9 (gx + 1 + 1) 32 zeroL.toArray := by have := N9.out; rwa [store_all _ _ rfl] at this
      have HB9 := Lib.hid (below_grown (HBW.out _ HBB.out) F9.out (by omega) (by omega))
      refine bodyPost_ret (v := .tuple #[.agg zeroL.toArray, .int .i64 23]) (results_cell_two rfl _ _ (gx + 1 + 1) 32 _ (0, 0) _ _ rfl rfl h9 Tryd.underlying32 rfl (by rw [List.size_toArray]; exact HZI.out)) rfl ?_
      unfold JoinPost
      rw [HJ.out, HGX.out]
      exact ⟨⟨zeroL, rfl, none, 0, none, 0, rfl, Lies.none _ _ _, Lies.none _ _ _⟩, HB9.out⟩
end Go.Proofs.YtecamaceainfpaaDoor
