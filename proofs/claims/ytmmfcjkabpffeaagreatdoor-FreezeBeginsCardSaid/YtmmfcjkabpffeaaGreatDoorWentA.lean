/-
  Walks: the function values of freeze.both; freeze.both, over any function value that keeps to its contract.
-/
import Derived.Test.YtmmfcjkabpffeaaGreatDoorKeptC
import Derived.Deep.DeepCutAuto
namespace Go.Proofs.YtmmfcjkabpffeaaGreatDoor
open Go.RowKit

/-- a function value that has one captured variable -/
abbrev fv (f g : Nat) : Value := .func (.func f) #[] #[.pointer (some ⟨g, 0, none⟩)]
set_option maxRecDepth 100000 in
theorem both1_any (inner gk gq : Nat) (hin : inner = 78 ∨ inner = 77) (W : World) (i : Nat) (x : List UInt8) (t : Bool) (Q : World → Prop) (hk : W.cell? ⟨gk, 0, none⟩ = some (fv inner gq))
    (hc : Calls Tryz.prog inner #[.int .i64 i, S x, .bool false, .pointer (some ⟨gq, 0, none⟩)] W fun e W' => e = .returned (.bool t) ∧ Q W') :
    Calls Tryz.prog 122 #[.int .i64 i, S x, .pointer (some ⟨gk, 0, none⟩)] W fun e W' => e = .returned (.bool t) ∧ Q W' := by
  have HC := Lib.hid hc
  clear hc
  rcases hin with rfl | rfl
  all_goals
    go_enter Tryz.func122, Tryz.ntmps122
    go_wp2_with ((first | go_at_call 78 | go_at_call 77); refine HC.out.mono ?_; rintro e w2 ⟨rfl, hq⟩)
    go_ret
    exact ⟨rfl, by assumption⟩
set_option maxRecDepth 100000 in
theorem both2_any (inner gk gq : Nat) (hin : inner = 78 ∨ inner = 77) (W : World) (i : Nat) (x : List UInt8) (t : Bool) (Q : World → Prop) (hk : W.cell? ⟨gk, 0, none⟩ = some (fv inner gq))
    (hc : Calls Tryz.prog inner #[.int .i64 i, S x, .bool true, .pointer (some ⟨gq, 0, none⟩)] W fun e W' => e = .returned (.bool t) ∧ Q W') :
    Calls Tryz.prog 123 #[.int .i64 i, S x, .pointer (some ⟨gk, 0, none⟩)] W fun e W' => e = .returned (.bool t) ∧ Q W' := by
  have HC := Lib.hid hc
  clear hc
  rcases hin with rfl | rfl
  all_goals
    go_enter Tryz.func123, Tryz.ntmps123
    go_wp2_with ((first | go_at_call 78 | go_at_call 77); refine HC.out.mono ?_; rintro e w2 ⟨rfl, hq⟩)
    go_ret
    exact ⟨rfl, by assumption⟩
/-- the cells of a machine: its frames and blocks, where they lie; whatever else -/
def IsM (w : World) (B : Nat) (M : List Value) (fs bs : List (List UInt8)) : Prop :=
  M.length = 17 ∧ (∀ v ∈ M, v.oneCell' = true) ∧ ∃ F cf L cl, M[4]? = some (.slice F fs.length cf) ∧ M[13]? = some (.slice L bs.length cl) ∧ Strs w B F fs ∧ Strs w B L bs
/-- what a shot becomes -/
def ShotPost (w : World) (ck : Int) (fl bl : List Kp) (r : List UInt8) (e : Ending) (w' : World) : Prop :=
  ∃ G k G' k', e = .returned (.agg #[.int .u64 ck, .slice G fl.length k, .slice G' bl.length k', S r]) ∧ Kps w' w'.heap.size G fl ∧ Kps w' w'.heap.size G' bl ∧ (∀ ad, G = some ad → w.heap.size ≤ ad.block) ∧ (∀ ad, G' = some ad → w.heap.size ≤ ad.block)
set_option maxRecDepth 100000 in
set_option maxHeartbeats 4000000 in
theorem both_any (inner gq : Nat) (hin : inner = 78 ∨ inner = 77) (f : Bool → Int → Nat → List UInt8 → Bool × Int) (X : Option Nat) (I : Int → World → Prop) (B : Nat) (w : World)
    (A A' : Option Addr) (c c' : Nat) (ck : Int) (fl bl : List Kp) (r : List UInt8) (M : List Value) (fs bs : List (List UInt8)) (s0 : Int)
    (hB : B ≤ w.heap.size) (hA : Kps w B A fl) (hA' : Kps w B A' bl) (hM : IsM w B M fs bs) (h1 : fl.length ≤ 1099511627776) (h2 : bl.length ≤ 1099511627776) (h3 : fs.length ≤ 1099511627776) (h4 : bs.length ≤ 1099511627776) (hI : I s0 w) (hX : ∀ g, X = some g → B ≤ g ∧ g < w.heap.size)
    (hst : ∀ s W W', I s W → Below w.heap.size W W' → I s W')
    (hc : ∀ b s W i x, I s W → w.heap.size ≤ W.heap.size → Calls Tryz.prog inner #[.int .i64 (i : Nat), S x, .bool b, .pointer (some ⟨gq, 0, none⟩)] W fun e W' => e = .returned (.bool (f b s i x).1) ∧ I (f b s i x).2 W' ∧ W.grownBy W' X) :
    Calls Tryz.prog 76 #[.agg #[.int .u64 ck, .slice A fl.length c, .slice A' bl.length c', S r], .agg M.toArray, fv inner gq] w fun e w' =>
      ShotPost w ck (keepRec (f false) 0 fl fs s0).1 (keepRec (f true) 0 bl bs (keepRec (f false) 0 fl fs s0).2).1 r e w' ∧ I (keepRec (f true) 0 bl bs (keepRec (f false) 0 fl fs s0).2).2 w' ∧ w.grownBy w' X := by
  obtain ⟨hM17, hMo, F, cf, L, cl, hM4, hM13, hF, hL⟩ := hM
  have HX := Lib.hid hX
  have HST := Lib.hid hst
  have HC := Lib.hid hc
  have HIN := Lib.hid hin
  have hl17 : M.toArray.size = 17 := by rw [List.size_toArray]; exact hM17
  have hs := (((Whole.made w 43 #[.int .u64 ck, .slice A fl.length c, .slice A' bl.length c', S r]).block (.cells M.toArray 30)).block (.cells #[fv inner gq] 126)).block (.cells #[.int .u64 0, .slice none 0 0, .slice none 0 0, S []] 43)
  have hm := ((Whole.made (w.alloc (.cells #[.int .u64 ck, .slice A fl.length c, .slice A' bl.length c', S r] 43)) 30 M.toArray).block (.cells #[fv inner gq] 126)).block (.cells #[.int .u64 0, .slice none 0 0, .slice none 0 0, S []] 43)
  have hk := (Whole.made ((w.alloc (.cells #[.int .u64 ck, .slice A fl.length c, .slice A' bl.length c', S r] 43)).alloc (.cells M.toArray 30)) 126 #[fv inner gq]).block (.cells #[.int .u64 0, .slice none 0 0, .slice none 0 0, S []] 43)
  have hr := Whole.made (((w.alloc (.cells #[.int .u64 ck, .slice A fl.length c, .slice A' bl.length c', S r] 43)).alloc (.cells M.toArray 30)).alloc (.cells #[fv inner gq] 126)) 43 #[.int .u64 0, .slice none 0 0, .slice none 0 0, S []]
  have hb : Below w.heap.size w ((((w.alloc (.cells #[.int .u64 ck, .slice A fl.length c, .slice A' bl.length c', S r] 43)).alloc (.cells M.toArray 30)).alloc (.cells #[fv inner gq] 126)).alloc (.cells #[.int .u64 0, .slice none 0 0, .slice none 0 0, S []] 43)) := ((((Below.refl _ _).alloc (Nat.le_refl _) _).alloc (by simp) _).alloc (by simp; omega) _).alloc (by simp; omega) _
  have hz : ((((w.alloc (.cells #[.int .u64 ck, .slice A fl.length c, .slice A' bl.length c', S r] 43)).alloc (.cells M.toArray 30)).alloc (.cells #[fv inner gq] 126)).alloc (.cells #[.int .u64 0, .slice none 0 0, .slice none 0 0, S []] 43)).heap.size = w.heap.size + 1 + 1 + 1 + 1 := by simp
  rw [show (w.alloc (.cells #[.int .u64 ck, .slice A fl.length c, .slice A' bl.length c', S r] 43)).heap.size = w.heap.size + 1 by simp] at hm
  rw [show ((w.alloc (.cells #[.int .u64 ck, .slice A fl.length c, .slice A' bl.length c', S r] 43)).alloc (.cells M.toArray 30)).heap.size = w.heap.size + 1 + 1 by simp] at hk
  rw [show (((w.alloc (.cells #[.int .u64 ck, .slice A fl.length c, .slice A' bl.length c', S r] 43)).alloc (.cells M.toArray 30)).alloc (.cells #[fv inner gq] 126)).heap.size = w.heap.size + 1 + 1 + 1 by simp] at hr
  have m4 : ((((w.alloc (.cells #[.int .u64 ck, .slice A fl.length c, .slice A' bl.length c', S r] 43)).alloc (.cells M.toArray 30)).alloc (.cells #[fv inner gq] 126)).alloc (.cells #[.int .u64 0, .slice none 0 0, .slice none 0 0, S []] 43)).cell? ⟨w.heap.size + 1, 4, none⟩ = some (.slice F fs.length cf) := (hm.cell 4).trans (by rw [List.getElem?_toArray]; exact hM4)
  have m13 : ((((w.alloc (.cells #[.int .u64 ck, .slice A fl.length c, .slice A' bl.length c', S r] 43)).alloc (.cells M.toArray 30)).alloc (.cells #[fv inner gq] 126)).alloc (.cells #[.int .u64 0, .slice none 0 0, .slice none 0 0, S []] 43)).cell? ⟨w.heap.size + 1, 13, none⟩ = some (.slice L bs.length cl) := (hm.cell 13).trans (by rw [List.getElem?_toArray]; exact hM13)
  have HA := Lib.hid ((hA.below (hb.mono hB)))
  have HA' := Lib.hid ((hA'.below (hb.mono hB)))
  have HF := Lib.hid ((Lies.below hF (hb.mono hB)))
  have HL := Lib.hid ((Lies.below hL (hb.mono hB)))
  have HI := Lib.hid (hst _ _ _ hI hb)
  have HG := Lib.hid (grown_of_below X hb)
  have HM4 := Lib.hid m4
  have HM13 := Lib.hid m13
  clear hA hA' hF hL hX hst hc hI hM4 hM13 hin
  go_enter Tryz.func76, Tryz.ntmps76
  go_upto_region 1 with (fail)
  change Code.wp _ _ _ _ ((((w.alloc (.cells #[.int .u64 ck, .slice A fl.length c, .slice A' bl.length c', S r] 43)).alloc (.cells M.toArray 30)).alloc (.cells #[fv inner gq] 126)).alloc (.cells #[.int .u64 0, .slice none 0 0, .slice none 0 0, S []] 43))
  clear hl17 m4 m13 hb
  generalize ((((w.alloc (.cells #[.int .u64 ck, .slice A fl.length c, .slice A' bl.length c', S r] 43)).alloc (.cells M.toArray 30)).alloc (.cells #[fv inner gq] 126)).alloc (.cells #[.int .u64 0, .slice none 0 0, .slice none 0 0, S []] 43)) = w1 at *
  generalize hgx : w.heap.size = gx at *
  have HGX := Lib.hid hgx
  have HZ := Lib.hid hz
  clear hgx hz
  have hBg : B ≤ gx := hB
  -- what holds while the two lists are gone through
  have HIN1 : Hid (∀ s W, (I s W ∧ Whole W (gx + 1 + 1) 126 #[fv inner gq]) → ∀ W', Below w1.heap.size W W' → (I s W' ∧ Whole W' (gx + 1 + 1) 126 #[fv inner gq])) := Lib.hid fun s W h W' hW => ⟨HST.out _ _ _ h.1 (hW.mono (by rw [HZ.out]; omega)), h.2.below hW (by rw [HZ.out]; omega)⟩
  have HC1 : Hid (∀ b s W i x, (I s W ∧ Whole W (gx + 1 + 1) 126 #[fv inner gq]) → w1.heap.size ≤ W.heap.size → Calls Tryz.prog inner #[.int .i64 (i : Nat), S x, .bool b, .pointer (some ⟨gq, 0, none⟩)] W fun e W' => e = .returned (.bool (f b s i x).1) ∧ (I (f b s i x).2 W' ∧ Whole W' (gx + 1 + 1) 126 #[fv inner gq]) ∧ W.grownBy W' X) := Lib.hid fun b s W i x h hW =>
    (HC.out b s W i x h.1 (by have := HZ.out; omega)).mono fun e W' hh => ⟨hh.1, ⟨hh.2.1, h.2.other hh.2.2 (fun e => by have := (HX.out _ e.symm).2; omega)⟩, hh.2.2⟩
  have HKA := Lib.hid (kept_any 122 (gx + 1 + 1) (.inl rfl) (f false) X (fun s W => I s W ∧ Whole W (gx + 1 + 1) 126 #[fv inner gq]) B w1 A F c cf fl fs s0 (by rw [HZ.out]; omega) HA.out HF.out h1 h3 ⟨HI.out, hk⟩ (fun g h => ⟨(HX.out g h).1, by rw [HZ.out]; have := (HX.out g h).2; omega⟩)
    (fun s W W' h hW => HIN1.out s W h W' hW) (fun s W i x h hW => both1_any inner (gx + 1 + 1) gq HIN.out W i x _ _ (h.2.cell 0) (HC1.out false s W i x h hW)))
  obtain ⟨fl1, s1, HQ1⟩ : ∃ a b, Hid (keepRec (f false) 0 fl fs s0 = (a, b)) := ⟨_, _, Lib.hid rfl⟩
  rw [HQ1.out] at HKA
  have HKA' : Hid (Calls Tryz.prog 121 #[.slice A fl.length c, .slice F fs.length cf, fv 122 (gx + 1 + 1)] w1 (KeptPost w1 X fl1 s1 (fun s W => I s W ∧ Whole W (gx + 1 + 1) 126 #[fv inner gq]))) := HKA
  have HM := Lib.hid hm
  have HS := Lib.hid hs
  have HK := Lib.hid hk
  have HR := Lib.hid hr
  have HM4' : Hid (M.toArray[4]? = some (.slice F fs.length cf)) := Lib.hid ((hm.cell 4).symm.trans HM4.out)
  have HM13' : Hid (M.toArray[13]? = some (.slice L bs.length cl)) := Lib.hid ((hm.cell 13).symm.trans HM13.out)
  have m4 := HM4.out
  have s1' : w1.cell? ⟨gx, 1, none⟩ = some (.slice A fl.length c) := hs.cell 1
  clear hm hs hk hr HKA HM4 HM13 HM4'
  go_wp2_with fail
  refine HKA'.out.mono ?_
  rintro e w2 ⟨⟨v1, rfl, ho1⟩, ⟨hI2, hk2⟩, hg2⟩
  clear m4 s1' HKA'
  obtain ⟨G1, k1, hv1, _, _⟩ := own_shape ho1 (by omega)
  subst hv1
  have hXg : ∀ n : Nat, some (gx + n) ≠ X := fun n e => by have := (HX.out _ e.symm).2; omega
  have hs2 : Whole w2 gx 43 #[.int .u64 ck, .slice A fl.length c, .slice A' bl.length c', S r] := HS.out.other hg2 (hXg 0)
  have hm2 := HM.out.other hg2 (hXg 1)
  have hr2 := HR.out.other hg2 (hXg 3)
  have hbB : Below B w1 w2 := grown_below (Below.refl B w1) (by rw [HZ.out]; omega) hg2 (fun g h => (HX.out g h).1)
  have c1 : w2.cell? ⟨gx, 1, none⟩ = some (.slice A fl.length c) := hs2.cell 1
  have f1 : w2.frozen? ⟨gx, 1, none⟩ = false := hs2.free 1
  -- the shot's box behind the store
  have hs3 : Whole (w2.setCell ⟨gx, 1, none⟩ (.slice G1 fl1.length k1)) gx 43 #[.int .u64 ck, .slice G1 fl1.length k1, .slice A' bl.length c', S r] := hs2.set 1 _
  have hm3 : Whole (w2.setCell ⟨gx, 1, none⟩ (.slice G1 fl1.length k1)) (gx + 1) 30 M.toArray := hm2.far (p := ⟨gx, 1, none⟩) (by show _ ≠ gx; omega) _
  have hk3 : Whole (w2.setCell ⟨gx, 1, none⟩ (.slice G1 fl1.length k1)) (gx + 1 + 1) 126 #[fv inner gq] := hk2.far (p := ⟨gx, 1, none⟩) (by show _ ≠ gx; omega) _
  have hr3 : Whole (w2.setCell ⟨gx, 1, none⟩ (.slice G1 fl1.length k1)) (gx + 1 + 1 + 1) 43 #[.int .u64 0, .slice none 0 0, .slice none 0 0, S []] := hr2.far (p := ⟨gx, 1, none⟩) (by show _ ≠ gx; omega) _
  have hI3 := HST.out _ _ (w2.setCell ⟨gx, 1, none⟩ (.slice G1 fl1.length k1)) hI2 ((Below.refl _ _).setCell (p := ⟨gx, 1, none⟩) (Nat.le_refl _) _)
  have ho3 : OwnK (w2.setCell ⟨gx, 1, none⟩ (.slice G1 fl1.length k1)) w1.heap.size (.slice G1 fl1.length k1) fl1 := ownsRow_setCell_below ho1 (a := ⟨gx, 1, none⟩) (by rw [HZ.out]; show gx < _; omega) _
  have hB3 : Below B w1 (w2.setCell ⟨gx, 1, none⟩ (.slice G1 fl1.length k1)) := hbB.setCell (p := ⟨gx, 1, none⟩) hBg _
  have hG3 : w.grownBy (w2.setCell ⟨gx, 1, none⟩ (.slice G1 fl1.length k1)) X := grown_set (grown_trans HG.out hg2) (p := ⟨gx, 1, none⟩) (by rw [HGX.out]; exact Nat.le_refl _) _
  have hz3 : w1.heap.size ≤ (w2.setCell ⟨gx, 1, none⟩ (.slice G1 fl1.length k1)).heap.size := by simpa [World.setCell] using hg2.size
  go_upto_region 2 with (fail)
  change Code.wp _ _ _ _ (w2.setCell ⟨gx, 1, none⟩ (.slice G1 fl1.length k1))
  clear c1 f1 hs2 hm2 hr2 hbB ho1 hI2 hk2 hg2
  generalize w2.setCell ⟨gx, 1, none⟩ (.slice G1 fl1.length k1) = w3 at *
  have HG3 := Lib.hid hG3
  have HO3 := Lib.hid ho3
  have HS3 := Lib.hid hs3
  have HM3 := Lib.hid hm3
  have HR3 := Lib.hid hr3
  have HZ3 : Hid (gx + 1 + 1 + 1 + 1 ≤ w3.heap.size) := Lib.hid (by rw [← HZ.out]; exact hz3)
  have HC3 : Hid (∀ b s W i x, (I s W ∧ Whole W (gx + 1 + 1) 126 #[fv inner gq]) → w3.heap.size ≤ W.heap.size → Calls Tryz.prog inner #[.int .i64 (i : Nat), S x, .bool b, .pointer (some ⟨gq, 0, none⟩)] W fun e W' => e = .returned (.bool (f b s i x).1) ∧ (I (f b s i x).2 W' ∧ Whole W' (gx + 1 + 1) 126 #[fv inner gq]) ∧ W.grownBy W' X) := Lib.hid fun b s W i x h hW => HC1.out b s W i x h (by have := HZ.out; have := HZ3.out; omega)
  have HIN3 : Hid (∀ s W, (I s W ∧ Whole W (gx + 1 + 1) 126 #[fv inner gq]) → ∀ W', Below w3.heap.size W W' → (I s W' ∧ Whole W' (gx + 1 + 1) 126 #[fv inner gq])) := Lib.hid fun s W h W' hW => HIN1.out s W h W' (hW.mono (by have := HZ.out; have := HZ3.out; omega))
  have HKB := Lib.hid (kept_any 123 (gx + 1 + 1) (.inr rfl) (f true) X (fun s W => I s W ∧ Whole W (gx + 1 + 1) 126 #[fv inner gq]) B w3 A' L c' cl bl bs s1 (by have := HZ3.out; omega) (HA'.out.below hB3) (HL.out.below hB3) h2 h4 ⟨hI3, hk3⟩ (fun g h => ⟨(HX.out g h).1, by have := HZ3.out; have := (HX.out g h).2; omega⟩)
    (fun s W W' h hW => HIN3.out s W h W' hW) (fun s W i x h hW => both2_any inner (gx + 1 + 1) gq HIN.out W i x _ _ (h.2.cell 0) (HC3.out true s W i x h hW)))
  obtain ⟨bl1, s2, HQ2⟩ : ∃ a b, Hid (keepRec (f true) 0 bl bs s1 = (a, b)) := ⟨_, _, Lib.hid rfl⟩
  rw [HQ2.out] at HKB
  have HKB' : Hid (Calls Tryz.prog 121 #[.slice A' bl.length c', .slice L bs.length cl, fv 123 (gx + 1 + 1)] w3 (KeptPost w3 X bl1 s2 (fun s W => I s W ∧ Whole W (gx + 1 + 1) 126 #[fv inner gq]))) := HKB
  have m13 : w3.cell? ⟨gx + 1, 13, none⟩ = some (.slice L bs.length cl) := (hm3.cell 13).trans HM13'.out
  have s2' : w3.cell? ⟨gx, 2, none⟩ = some (.slice A' bl.length c') := hs3.cell 2
  clear hG3 ho3 hs3 hm3 hr3 hk3 hI3 hB3 hz3 HKB HC3 HIN3 HC1 HIN1
  go_wp2_with fail
  refine HKB'.out.mono ?_
  rintro e w4 ⟨⟨v2, rfl, ho4⟩, ⟨hI4, hk4⟩, hg4⟩
  clear m13 s2' HKB' hk4
  obtain ⟨G2, k2, hv2, _, _⟩ := own_shape ho4 (by omega)
  subst hv2
  have hs4 : Whole w4 gx 43 #[.int .u64 ck, .slice G1 fl1.length k1, .slice A' bl.length c', S r] := HS3.out.other hg4 (hXg 0)
  have hr4 := HR3.out.other hg4 (hXg 3)
  have ho3 := own_spared HO3.out hg4 (fun g h => by have := (HX.out g h).2; have := HZ.out; omega)
  have c2 : w4.cell? ⟨gx, 2, none⟩ = some (.slice A' bl.length c') := hs4.cell 2
  have f2 : w4.frozen? ⟨gx, 2, none⟩ = false := hs4.free 2
  have hs5 : Whole (w4.setCell ⟨gx, 2, none⟩ (.slice G2 bl1.length k2)) gx 43 #[.int .u64 ck, .slice G1 fl1.length k1, .slice G2 bl1.length k2, S r] := hs4.set 2 _
  have hr5 : Whole (w4.setCell ⟨gx, 2, none⟩ (.slice G2 bl1.length k2)) (gx + 1 + 1 + 1) 43 #[.int .u64 0, .slice none 0 0, .slice none 0 0, S []] := hr4.far (p := ⟨gx, 2, none⟩) (by show _ ≠ gx; omega) _
  have hI5 := HST.out _ _ (w4.setCell ⟨gx, 2, none⟩ (.slice G2 bl1.length k2)) hI4 ((Below.refl _ _).setCell (p := ⟨gx, 2, none⟩) (Nat.le_refl _) _)
  have ho5 : OwnK (w4.setCell ⟨gx, 2, none⟩ (.slice G2 bl1.length k2)) w1.heap.size (.slice G1 fl1.length k1) fl1 := ownsRow_setCell_below ho3 (a := ⟨gx, 2, none⟩) (by rw [HZ.out]; show gx < _; omega) _
  have ho5' : OwnK (w4.setCell ⟨gx, 2, none⟩ (.slice G2 bl1.length k2)) w3.heap.size (.slice G2 bl1.length k2) bl1 := ownsRow_setCell_below ho4 (a := ⟨gx, 2, none⟩) (by have := HZ3.out; show gx < _; omega) _
  have hG5 : w.grownBy (w4.setCell ⟨gx, 2, none⟩ (.slice G2 bl1.length k2)) X := grown_set (grown_trans HG3.out hg4) (p := ⟨gx, 2, none⟩) (by rw [HGX.out]; exact Nat.le_refl _) _
  go_upto_region 3 with (fail)
  change Code.wp _ _ _ _ (w4.setCell ⟨gx, 2, none⟩ (.slice G2 bl1.length k2))
  clear c2 f2 hs4 hr4 ho3 ho4 hI4 hg4
  generalize w4.setCell ⟨gx, 2, none⟩ (.slice G2 bl1.length k2) = w5 at *
  have HS5 := Lib.hid hs5
  have HR5 := Lib.hid hr5
  have t0 : w5.cell? ⟨gx, 0, none⟩ = some (.int .u64 ck) := hs5.cell 0
  have t1 : w5.cell? ⟨gx, 1, none⟩ = some (.slice G1 fl1.length k1) := hs5.cell 1
  have t2 : w5.cell? ⟨gx, 2, none⟩ = some (.slice G2 bl1.length k2) := hs5.cell 2
  have t3 : w5.cell? ⟨gx, 3, none⟩ = some (S r) := hs5.cell 3
  have r0 : w5.cell? ⟨gx + 1 + 1 + 1, 0, none⟩ = some (.int .u64 0) := hr5.cell 0
  have r1 : w5.cell? ⟨gx + 1 + 1 + 1, 1, none⟩ = some (.slice none 0 0) := hr5.cell 1
  have r2 : w5.cell? ⟨gx + 1 + 1 + 1, 2, none⟩ = some (.slice none 0 0) := hr5.cell 2
  have r3 : w5.cell? ⟨gx + 1 + 1 + 1, 3, none⟩ = some (S []) := hr5.cell 3
  have y0 := hr5.free 0
  have y1 := hr5.free 1
  have y2 := hr5.free 2
  have y3 := hr5.free 3
  have HI5 := Lib.hid hI5
  have HO5 := Lib.hid ho5
  have HO5' := Lib.hid ho5'
  have HG5 := Lib.hid hG5
  clear hs5 hr5 hI5 ho5 ho5' hG5
  go_wp2_with fail
  refine bodyPost_ret (v := .agg #[.int .u64 ck, .slice G1 fl1.length k1, .slice G2 bl1.length k2, S r]) (by simp [results, Tryz.results76, go_sem, r0, r1, r2, r3]) rfl ?_
  rw [HQ1.out]
  show ShotPost w ck fl1 (keepRec (f true) 0 bl bs s1).1 r _ _ ∧ I (keepRec (f true) 0 bl bs s1).2 _ ∧ _
  rw [HQ2.out]
  have hle1 : w1.heap.size = gx + 1 + 1 + 1 + 1 := HZ.out
  have hle3 := HZ3.out
  have o1 := fun i u => fun (W : World) (h : OwnK W w1.heap.size (.slice G1 fl1.length k1) fl1) => (ownsRow_setCell_below h (a := ⟨gx + 1 + 1 + 1, i, none⟩) (by rw [hle1]; show gx + 1 + 1 + 1 < _; omega) u : OwnK (W.setCell ⟨gx + 1 + 1 + 1, i, none⟩ u) w1.heap.size (.slice G1 fl1.length k1) fl1)
  have o2 := fun i u => fun (W : World) (h : OwnK W w3.heap.size (.slice G2 bl1.length k2) bl1) => (ownsRow_setCell_below h (a := ⟨gx + 1 + 1 + 1, i, none⟩) (by show gx + 1 + 1 + 1 < _; omega) u : OwnK (W.setCell ⟨gx + 1 + 1 + 1, i, none⟩ u) w3.heap.size (.slice G2 bl1.length k2) bl1)
  obtain ⟨_, _, e1, l1, g1⟩ := own_shape (o1 3 _ _ (o1 2 _ _ (o1 1 _ _ (o1 0 _ _ HO5.out)))) (by omega)
  obtain ⟨_, _, e2, l2, g2⟩ := own_shape (o2 3 _ _ (o2 2 _ _ (o2 1 _ _ (o2 0 _ _ HO5'.out)))) (by omega)
  injection e1 with e1 _ e1'
  injection e2 with e2 _ e2'
  subst e1; subst e1'; subst e2; subst e2'
  refine ⟨⟨G1, k1, G2, k2, rfl, l1, l2, fun ad h => ?_, fun ad h => ?_⟩, HST.out _ _ _ HI5.out ?_, ?_⟩
  · have := g1 ad h; rw [HGX.out]; omega
  · have := g2 ad h; rw [HGX.out]; omega
  · exact ((((Below.refl _ _).setCell (p := ⟨gx + 1 + 1 + 1, 0, none⟩) (by show gx ≤ gx + 1 + 1 + 1; omega) _).setCell (p := ⟨gx + 1 + 1 + 1, 1, none⟩) (by show gx ≤ gx + 1 + 1 + 1; omega) _).setCell (p := ⟨gx + 1 + 1 + 1, 2, none⟩) (by show gx ≤ gx + 1 + 1 + 1; omega) _).setCell (p := ⟨gx + 1 + 1 + 1, 3, none⟩) (by show gx ≤ gx + 1 + 1 + 1; omega) _
  · have hp : ∀ i : Nat, w.heap.size ≤ (⟨gx + 1 + 1 + 1, i, none⟩ : Addr).block := fun i => by rw [HGX.out]; show gx ≤ gx + 1 + 1 + 1; omega
    exact grown_set (grown_set (grown_set (grown_set HG5.out (hp 0) _) (hp 1) _) (hp 2) _) (hp 3) _
end Go.Proofs.YtmmfcjkabpffeaaGreatDoor
/-
  Walks: the function values of freeze.Went and freeze.Pump; freeze.Went, freeze.Pump.
-/
namespace Go.Proofs.YtmmfcjkabpffeaaGreatDoor
open Go.RowKit

theorem went_val {p : Prop} [Decidable p] (h : p) (y x : List UInt8) : decide (¬ (p ∧ y = x)) = (y != x) := by
  by_cases e : y = x
  · subst e
    have : decide (¬ (p ∧ y = y)) = false := decide_eq_false (fun hh => hh ⟨h, rfl⟩)
    rw [this]; simp
  · have : decide (¬ (p ∧ y = x)) = true := decide_eq_true (fun hh => e hh.2)
    rw [this]; symm; simpa using e
set_option maxRecDepth 100000 in
set_option maxHeartbeats 1000000 in
theorem went1_any (W : World) (gn : Nat) (i : Nat) (x : List UInt8) (b : Bool) (B : Nat) (F L : Option Addr) (cf cl : Nat) (fs bs : List (List UInt8)) (s : Int)
    (h4 : W.cell? ⟨gn, 4, none⟩ = some (.slice F fs.length cf)) (h13 : W.cell? ⟨gn, 13, none⟩ = some (.slice L bs.length cl)) (hF : Strs W B F fs) (hL : Strs W B L bs) :
    Calls Tryz.prog 78 #[.int .i64 i, S x, .bool b, .pointer (some ⟨gn, 0, none⟩)] W fun e W' => e = .returned (.bool (wentF (if b = true then bs else fs) s i x).1) ∧ W' = W := by
  have HF := Lib.hid hF
  have HL := Lib.hid hL
  clear hF hL
  have i0 : (0 : Int) ≤ (i : Int) := by omega
  cases b with
  | true =>
    by_cases hi : i < bs.length
    · obtain ⟨ad, rfl, had, c0⟩ := HL.out.at' hi
      have d1 : decide ((bs.length : Int) ≤ (i : Int)) = false := by simp; omega
      have d2 : decide (bs.length ≤ i) = false := by simp; omega
      have i1 : (i : Int) < (bs.length : Int) := by omega
      have HV : Hid ((wentF (if true = true then bs else fs) s i x).1 = (bs.getD i [] != x)) := Lib.hid (by
        exact went_val hi _ _)
      rw [HV.out]
      generalize bs.getD i [] = y at *
      clear hi
      go_enter Tryz.func78, Tryz.ntmps78
      go_wp2_with fail
      go_ret
      exact ⟨by simp [bne], rfl⟩
    · have d1 : decide ((bs.length : Int) ≤ (i : Int)) = true := by simp; omega
      have d2 : decide (bs.length ≤ i) = true := by simp; omega
      have HV : Hid ((wentF (if true = true then bs else fs) s i x).1 = true) := Lib.hid (by
        show decide (¬ (i < bs.length ∧ bs.getD i [] = x)) = _
        simp [hi])
      rw [HV.out]
      clear hi
      go_enter Tryz.func78, Tryz.ntmps78
      go_wp2_with fail
      go_ret
      exact ⟨rfl, rfl⟩
  | false =>
    by_cases hi : i < fs.length
    · obtain ⟨ad, rfl, had, c0⟩ := HF.out.at' hi
      have d1 : decide ((fs.length : Int) ≤ (i : Int)) = false := by simp; omega
      have d2 : decide (fs.length ≤ i) = false := by simp; omega
      have i1 : (i : Int) < (fs.length : Int) := by omega
      have HV : Hid ((wentF (if false = true then bs else fs) s i x).1 = (fs.getD i [] != x)) := Lib.hid (by
        exact went_val hi _ _)
      rw [HV.out]
      generalize fs.getD i [] = y at *
      clear hi
      go_enter Tryz.func78, Tryz.ntmps78
      go_wp2_with fail
      go_ret
      exact ⟨by simp [bne], rfl⟩
    · have d1 : decide ((fs.length : Int) ≤ (i : Int)) = true := by simp; omega
      have d2 : decide (fs.length ≤ i) = true := by simp; omega
      have HV : Hid ((wentF (if false = true then bs else fs) s i x).1 = true) := Lib.hid (by
        show decide (¬ (i < fs.length ∧ fs.getD i [] = x)) = _
        simp [hi])
      rw [HV.out]
      clear hi
      go_enter Tryz.func78, Tryz.ntmps78
      go_wp2_with fail
      go_ret
      exact ⟨rfl, rfl⟩
/-- an int64 -/
def inJ (s : Int) : Prop := -9223372036854775808 ≤ s ∧ s ≤ 9223372036854775807
theorem inJ_pump {s : Int} (h : inJ s) (i : Nat) (x : List UInt8) : inJ (pumpF s i x).2 := by
  unfold pumpF
  split
  · exact h
  · unfold inJ at *; simp only; omega
set_option maxRecDepth 100000 in
set_option maxHeartbeats 1000000 in
theorem pump1_any (W : World) (gn : Nat) (i : Nat) (x : List UInt8) (b : Bool) (s : Int) (hs : inJ s) (hn : Whole W gn 3 #[.int .i64 s]) :
    Calls Tryz.prog 77 #[.int .i64 i, S x, .bool b, .pointer (some ⟨gn, 0, none⟩)] W fun e W' => e = .returned (.bool (pumpF s i x).1) ∧ Whole W' gn 3 #[.int .i64 (pumpF s i x).2] ∧ W.grownBy W' (some gn) := by
  have HN := Lib.hid hn
  have c0 : W.cell? ⟨gn, 0, none⟩ = some (.int .i64 s) := hn.cell 0
  have f0 := hn.free 0
  clear hn
  by_cases h1 : s < 1
  · have d1 : decide (s < 1) = true := by simpa using h1
    have HV : Hid (pumpF s i x = (false, s)) := Lib.hid (by unfold pumpF; rw [if_pos h1])
    rw [HV.out]
    clear h1
    go_enter Tryz.func77, Tryz.ntmps77
    go_wp2_with fail
    go_ret
    exact ⟨rfl, HN.out, grown_of_below _ (Below.refl _ _)⟩
  · have d1 : decide (s < 1) = false := by simpa using h1
    have HV : Hid (pumpF s i x = (true, s - 1)) := Lib.hid (by unfold pumpF; rw [if_neg h1])
    rw [HV.out]
    have hw : 1 ≤ s := by omega
    have hu : s ≤ 9223372036854775807 := hs.2
    clear h1
    go_enter Tryz.func77, Tryz.ntmps77
    go_wp2_with fail
    go_ret
    exact ⟨rfl, HN.out.set 0 _, ⟨rfl, rfl, rfl, by simp [World.setCell], fun k _ hk => Below.heap_setCell _ _ _ _ (fun e => hk (by rw [e]))⟩⟩
theorem lies_set {w : World} {A : Option Addr} {xs : List Value} {p : Addr} {u : Value} (h : Lies w w.heap.size A xs) (hg : ∀ ad, A = some ad → ad.block ≠ p.block) : Lies (w.setCell p u) (w.setCell p u).heap.size A xs := fun k v hv => by
  obtain ⟨ad, e, hb, hc⟩ := h k v hv
  refine ⟨ad, e, by simpa [World.setCell] using hb, ?_⟩
  rw [World.cell?_setCell_other _ _ _ _ (fun e2 => hg ad e (by rw [e2, add_block]))]
  exact hc
theorem lies_set4 {w : World} {A : Option Addr} {xs : List Value} {q : Nat} {a b c d : Value} (h : Lies w w.heap.size A xs) (hg : ∀ ad, A = some ad → ad.block ≠ q) :
    Lies ((((w.setCell ⟨q, 0, none⟩ a).setCell ⟨q, 1, none⟩ b).setCell ⟨q, 2, none⟩ c).setCell ⟨q, 3, none⟩ d) ((((w.setCell ⟨q, 0, none⟩ a).setCell ⟨q, 1, none⟩ b).setCell ⟨q, 2, none⟩ c).setCell ⟨q, 3, none⟩ d).heap.size A xs :=
  lies_set (lies_set (lies_set (lies_set h hg) hg) hg) hg
theorem IsM.below {w w' : World} {B : Nat} {M : List Value} {fs bs : List (List UInt8)} (h : IsM w B M fs bs) (hb : Below B w w') : IsM w' B M fs bs := by
  obtain ⟨h1, h2, F, cf, L, cl, h4, h13, hF, hL⟩ := h
  exact ⟨h1, h2, F, cf, L, cl, h4, h13, Lies.below hF hb, Lies.below hL hb⟩
set_option maxRecDepth 100000 in
set_option maxHeartbeats 4000000 in
theorem went_any (w : World) (A A' : Option Addr) (c c' : Nat) (ck : Int) (fl bl : List Kp) (r : List UInt8) (M : List Value) (fs bs : List (List UInt8)) (N : List Value) (fs' bs' : List (List UInt8))
    (hA : Kps w w.heap.size A fl) (hA' : Kps w w.heap.size A' bl) (hM : IsM w w.heap.size M fs bs) (hN : IsM w w.heap.size N fs' bs') (h1 : fl.length ≤ 1099511627776) (h2 : bl.length ≤ 1099511627776) (h3 : fs.length ≤ 1099511627776) (h4 : bs.length ≤ 1099511627776) :
    Calls Tryz.prog 36 #[.agg #[.int .u64 ck, .slice A fl.length c, .slice A' bl.length c', S r], .agg M.toArray, .agg N.toArray] w fun e w' => ShotPost w ck (keepRec (wentF fs') 0 fl fs 0).1 (keepRec (wentF bs') 0 bl bs 0).1 r e w' ∧ Below w.heap.size w w' := by
  have HM := Lib.hid hM
  have HN := Lib.hid hN
  have hl17 : M.toArray.size = 17 := by rw [List.size_toArray]; exact hM.1
  have hl17' : N.toArray.size = 17 := by rw [List.size_toArray]; exact hN.1
  have HMi : Hid ((Tryz.prog.info? 30).map (·.size) = some M.length) := Lib.hid (by rw [hM.1]; kernel_rfl)
  have hs := (((Whole.made w 43 #[.int .u64 ck, .slice A fl.length c, .slice A' bl.length c', S r]).block (.cells M.toArray 30)).block (.cells N.toArray 30)).block (.cells #[.int .u64 0, .slice none 0 0, .slice none 0 0, S []] 43)
  have hm := ((Whole.made (w.alloc (.cells #[.int .u64 ck, .slice A fl.length c, .slice A' bl.length c', S r] 43)) 30 M.toArray).block (.cells N.toArray 30)).block (.cells #[.int .u64 0, .slice none 0 0, .slice none 0 0, S []] 43)
  have hk := (Whole.made ((w.alloc (.cells #[.int .u64 ck, .slice A fl.length c, .slice A' bl.length c', S r] 43)).alloc (.cells M.toArray 30)) 30 N.toArray).block (.cells #[.int .u64 0, .slice none 0 0, .slice none 0 0, S []] 43)
  have hr := Whole.made (((w.alloc (.cells #[.int .u64 ck, .slice A fl.length c, .slice A' bl.length c', S r] 43)).alloc (.cells M.toArray 30)).alloc (.cells N.toArray 30)) 43 #[.int .u64 0, .slice none 0 0, .slice none 0 0, S []]
  have hb : Below w.heap.size w ((((w.alloc (.cells #[.int .u64 ck, .slice A fl.length c, .slice A' bl.length c', S r] 43)).alloc (.cells M.toArray 30)).alloc (.cells N.toArray 30)).alloc (.cells #[.int .u64 0, .slice none 0 0, .slice none 0 0, S []] 43)) := ((((Below.refl _ _).alloc (Nat.le_refl _) _).alloc (by simp) _).alloc (by simp; omega) _).alloc (by simp; omega) _
  have hz : ((((w.alloc (.cells #[.int .u64 ck, .slice A fl.length c, .slice A' bl.length c', S r] 43)).alloc (.cells M.toArray 30)).alloc (.cells N.toArray 30)).alloc (.cells #[.int .u64 0, .slice none 0 0, .slice none 0 0, S []] 43)).heap.size = w.heap.size + 1 + 1 + 1 + 1 := by simp
  rw [show (w.alloc (.cells #[.int .u64 ck, .slice A fl.length c, .slice A' bl.length c', S r] 43)).heap.size = w.heap.size + 1 by simp] at hm
  rw [show ((w.alloc (.cells #[.int .u64 ck, .slice A fl.length c, .slice A' bl.length c', S r] 43)).alloc (.cells M.toArray 30)).heap.size = w.heap.size + 1 + 1 by simp] at hk
  rw [show (((w.alloc (.cells #[.int .u64 ck, .slice A fl.length c, .slice A' bl.length c', S r] 43)).alloc (.cells M.toArray 30)).alloc (.cells N.toArray 30)).heap.size = w.heap.size + 1 + 1 + 1 by simp] at hr
  have HA := Lib.hid (hA.below hb)
  have HA' := Lib.hid (hA'.below hb)
  have hmm : IsM ((((w.alloc (.cells #[.int .u64 ck, .slice A fl.length c, .slice A' bl.length c', S r] 43)).alloc (.cells M.toArray 30)).alloc (.cells N.toArray 30)).alloc (.cells #[.int .u64 0, .slice none 0 0, .slice none 0 0, S []] 43)) w.heap.size M fs bs := IsM.below hM hb
  have hnn : IsM ((((w.alloc (.cells #[.int .u64 ck, .slice A fl.length c, .slice A' bl.length c', S r] 43)).alloc (.cells M.toArray 30)).alloc (.cells N.toArray 30)).alloc (.cells #[.int .u64 0, .slice none 0 0, .slice none 0 0, S []] 43)) w.heap.size N fs' bs' := IsM.below hN hb
  clear hA hA' hM hN
  go_enter Tryz.func36, Tryz.ntmps36
  go_upto_region 1 with (fail)
  change Code.wp _ _ _ _ ((((w.alloc (.cells #[.int .u64 ck, .slice A fl.length c, .slice A' bl.length c', S r] 43)).alloc (.cells M.toArray 30)).alloc (.cells N.toArray 30)).alloc (.cells #[.int .u64 0, .slice none 0 0, .slice none 0 0, S []] 43))
  clear hl17 hl17'
  generalize ((((w.alloc (.cells #[.int .u64 ck, .slice A fl.length c, .slice A' bl.length c', S r] 43)).alloc (.cells M.toArray 30)).alloc (.cells N.toArray 30)).alloc (.cells #[.int .u64 0, .slice none 0 0, .slice none 0 0, S []] 43)) = w1 at *
  generalize hgx : w.heap.size = gx at *
  have HGX := Lib.hid hgx
  have HZ := Lib.hid hz
  have HW := Lib.hid hb
  clear hgx hz hb
  have hgl : gx + 1 + 1 + 1 < w1.heap.size := by rw [HZ.out]; omega
  obtain ⟨_, _, F', cf', L', cl', n4, n13, hF', hL'⟩ := hnn
  have HK := Lib.hid hk
  have HC4 : Hid (∀ W, Below w1.heap.size w1 W → W.cell? ⟨gx + 1 + 1, 4, none⟩ = some (.slice F' fs'.length cf')) := Lib.hid fun W hW => ((HK.out.below hW (by omega)).cell 4).trans (by rw [List.getElem?_toArray]; exact n4)
  have HC13 : Hid (∀ W, Below w1.heap.size w1 W → W.cell? ⟨gx + 1 + 1, 13, none⟩ = some (.slice L' bs'.length cl')) := Lib.hid fun W hW => ((HK.out.below hW (by omega)).cell 13).trans (by rw [List.getElem?_toArray]; exact n13)
  have HLF : Hid (∀ W, Below w1.heap.size w1 W → Strs W gx F' fs' ∧ Strs W gx L' bs') := Lib.hid fun W hW => ⟨Lies.below hF' (hW.mono (by omega)), Lies.below hL' (hW.mono (by omega))⟩
  have HB := Lib.hid (both_any 78 (gx + 1 + 1) (.inl rfl) (fun b => wentF (if b = true then bs' else fs')) none (fun _ W => Below w1.heap.size w1 W) gx w1 A A' c c' ck fl bl r M fs bs 0 (by omega) HA.out HA'.out hmm h1 h2 h3 h4 (Below.refl _ _) (fun g h => by cases h)
    (fun s W W' h hW => h.trans hW) (fun b s W i x h hW => (went1_any W (gx + 1 + 1) i x b gx F' L' cf' cl' fs' bs' s (HC4.out W h) (HC13.out W h) (HLF.out W h).1 (HLF.out W h).2).mono fun e W' hh => ⟨hh.1, by rw [hh.2]; exact h, by rw [hh.2]; exact grown_of_below none (Below.refl _ _)⟩))
  have e2 : (keepRec (wentF (if (false = true) then bs' else fs')) 0 fl fs 0).2 = 0 := wentF_state _ _ _ _ _
  simp only [e2] at HB
  clear n4 n13 hF' hL' HC4 HC13 HLF HK e2
  have HR := Lib.hid hr
  have s0 : w1.cell? ⟨gx, 0, none⟩ = some (.int .u64 ck) := hs.cell 0
  have s1 : w1.cell? ⟨gx, 1, none⟩ = some (.slice A fl.length c) := hs.cell 1
  have s2 : w1.cell? ⟨gx, 2, none⟩ = some (.slice A' bl.length c') := hs.cell 2
  have s3 : w1.cell? ⟨gx, 3, none⟩ = some (S r) := hs.cell 3
  have HMR := Lib.hid hm.reads
  clear hs hm hk hr hmm
  go_wp2_with (refine wpList_load_at rfl 30 (.tmp 4) rfl ⟨gx + 1, 0, none⟩ rfl M _ HMR.out Tryz.underlying30 rfl HMi.out ?_)
  refine HB.out.mono ?_
  rintro e w2 ⟨⟨G, k, G', k', rfl, p1, p2, p3, p4⟩, hI2, hg2⟩
  clear HB s0 s1 s2 s3 HMR
  have hr2 := HR.out.below hI2 hgl
  have HW2 := Lib.hid (HW.out.trans (hI2.mono (by omega)))
  have HP1 := Lib.hid p1
  have HP2 := Lib.hid p2
  have hgr := hg2.size
  have HP3 := Lib.hid p3
  have HP4 := Lib.hid p4
  have r0 : w2.cell? ⟨gx + 1 + 1 + 1, 0, none⟩ = some (.int .u64 0) := hr2.cell 0
  have r1 : w2.cell? ⟨gx + 1 + 1 + 1, 1, none⟩ = some (.slice none 0 0) := hr2.cell 1
  have r2 : w2.cell? ⟨gx + 1 + 1 + 1, 2, none⟩ = some (.slice none 0 0) := hr2.cell 2
  have r3 : w2.cell? ⟨gx + 1 + 1 + 1, 3, none⟩ = some (S []) := hr2.cell 3
  have y0 := hr2.free 0
  have y1 := hr2.free 1
  have y2 := hr2.free 2
  have y3 := hr2.free 3
  clear p1 p2 p3 p4 hr2 hg2 hI2 HR
  go_wp2_with fail
  refine bodyPost_ret (v := .agg #[.int .u64 ck, .slice G (keepRec (wentF fs') 0 fl fs 0).1.length k, .slice G' (keepRec (wentF bs') 0 bl bs 0).1.length k', S r]) (by simp [results, Tryz.results36, go_sem, r0, r1, r2, r3]) rfl ?_
  refine ⟨⟨G, k, G', k', rfl, lies_set4 HP1.out fun ad h => ?_, lies_set4 HP2.out fun ad h => ?_, fun ad h => ?_, fun ad h => ?_⟩, ?_⟩
  · have := HP3.out ad h; omega
  · have := HP4.out ad h; omega
  · have := HP3.out ad h; rw [HGX.out]; omega
  · have := HP4.out ad h; rw [HGX.out]; omega
  · rw [HGX.out]
    exact (((HW2.out.setCell (p := ⟨gx + 1 + 1 + 1, 0, none⟩) (by show gx ≤ gx + 1 + 1 + 1; omega) _).setCell (p := ⟨gx + 1 + 1 + 1, 1, none⟩) (by show gx ≤ gx + 1 + 1 + 1; omega) _).setCell (p := ⟨gx + 1 + 1 + 1, 2, none⟩) (by show gx ≤ gx + 1 + 1 + 1; omega) _).setCell (p := ⟨gx + 1 + 1 + 1, 3, none⟩) (by show gx ≤ gx + 1 + 1 + 1; omega) _
set_option maxRecDepth 100000 in
set_option maxHeartbeats 4000000 in
theorem pump_any (w : World) (A A' : Option Addr) (c c' : Nat) (ck : Int) (fl bl : List Kp) (r : List UInt8) (M : List Value) (fs bs : List (List UInt8)) (n : Int) (hn : inJ n)
    (hA : Kps w w.heap.size A fl) (hA' : Kps w w.heap.size A' bl) (hM : IsM w w.heap.size M fs bs) (h1 : fl.length ≤ 1099511627776) (h2 : bl.length ≤ 1099511627776) (h3 : fs.length ≤ 1099511627776) (h4 : bs.length ≤ 1099511627776) :
    Calls Tryz.prog 35 #[.agg #[.int .u64 ck, .slice A fl.length c, .slice A' bl.length c', S r], .agg M.toArray, .int .i64 n] w fun e w' => ShotPost w ck (keepRec pumpF 0 fl fs n).1 (keepRec pumpF 0 bl bs (keepRec pumpF 0 fl fs n).2).1 r e w' ∧ Below w.heap.size w w' := by
  have HM := Lib.hid hM
  have hl17 : M.toArray.size = 17 := by rw [List.size_toArray]; exact hM.1
  have HMi : Hid ((Tryz.prog.info? 30).map (·.size) = some M.length) := Lib.hid (by rw [hM.1]; kernel_rfl)
  have hs := (((Whole.made w 43 #[.int .u64 ck, .slice A fl.length c, .slice A' bl.length c', S r]).block (.cells M.toArray 30)).block (.cells #[.int .i64 n] 3)).block (.cells #[.int .u64 0, .slice none 0 0, .slice none 0 0, S []] 43)
  have hm := ((Whole.made (w.alloc (.cells #[.int .u64 ck, .slice A fl.length c, .slice A' bl.length c', S r] 43)) 30 M.toArray).block (.cells #[.int .i64 n] 3)).block (.cells #[.int .u64 0, .slice none 0 0, .slice none 0 0, S []] 43)
  have hk := (Whole.made ((w.alloc (.cells #[.int .u64 ck, .slice A fl.length c, .slice A' bl.length c', S r] 43)).alloc (.cells M.toArray 30)) 3 #[.int .i64 n]).block (.cells #[.int .u64 0, .slice none 0 0, .slice none 0 0, S []] 43)
  have hr := Whole.made (((w.alloc (.cells #[.int .u64 ck, .slice A fl.length c, .slice A' bl.length c', S r] 43)).alloc (.cells M.toArray 30)).alloc (.cells #[.int .i64 n] 3)) 43 #[.int .u64 0, .slice none 0 0, .slice none 0 0, S []]
  have hb : Below w.heap.size w ((((w.alloc (.cells #[.int .u64 ck, .slice A fl.length c, .slice A' bl.length c', S r] 43)).alloc (.cells M.toArray 30)).alloc (.cells #[.int .i64 n] 3)).alloc (.cells #[.int .u64 0, .slice none 0 0, .slice none 0 0, S []] 43)) := ((((Below.refl _ _).alloc (Nat.le_refl _) _).alloc (by simp) _).alloc (by simp; omega) _).alloc (by simp; omega) _
  have hz : ((((w.alloc (.cells #[.int .u64 ck, .slice A fl.length c, .slice A' bl.length c', S r] 43)).alloc (.cells M.toArray 30)).alloc (.cells #[.int .i64 n] 3)).alloc (.cells #[.int .u64 0, .slice none 0 0, .slice none 0 0, S []] 43)).heap.size = w.heap.size + 1 + 1 + 1 + 1 := by simp
  rw [show (w.alloc (.cells #[.int .u64 ck, .slice A fl.length c, .slice A' bl.length c', S r] 43)).heap.size = w.heap.size + 1 by simp] at hm
  rw [show ((w.alloc (.cells #[.int .u64 ck, .slice A fl.length c, .slice A' bl.length c', S r] 43)).alloc (.cells M.toArray 30)).heap.size = w.heap.size + 1 + 1 by simp] at hk
  rw [show (((w.alloc (.cells #[.int .u64 ck, .slice A fl.length c, .slice A' bl.length c', S r] 43)).alloc (.cells M.toArray 30)).alloc (.cells #[.int .i64 n] 3)).heap.size = w.heap.size + 1 + 1 + 1 by simp] at hr
  have HA := Lib.hid (hA.below hb)
  have HA' := Lib.hid (hA'.below hb)
  have hmm : IsM ((((w.alloc (.cells #[.int .u64 ck, .slice A fl.length c, .slice A' bl.length c', S r] 43)).alloc (.cells M.toArray 30)).alloc (.cells #[.int .i64 n] 3)).alloc (.cells #[.int .u64 0, .slice none 0 0, .slice none 0 0, S []] 43)) w.heap.size M fs bs := IsM.below hM hb
  clear hA hA' hM
  go_enter Tryz.func35, Tryz.ntmps35
  go_upto_region 1 with (fail)
  change Code.wp _ _ _ _ ((((w.alloc (.cells #[.int .u64 ck, .slice A fl.length c, .slice A' bl.length c', S r] 43)).alloc (.cells M.toArray 30)).alloc (.cells #[.int .i64 n] 3)).alloc (.cells #[.int .u64 0, .slice none 0 0, .slice none 0 0, S []] 43))
  clear hl17
  generalize ((((w.alloc (.cells #[.int .u64 ck, .slice A fl.length c, .slice A' bl.length c', S r] 43)).alloc (.cells M.toArray 30)).alloc (.cells #[.int .i64 n] 3)).alloc (.cells #[.int .u64 0, .slice none 0 0, .slice none 0 0, S []] 43)) = w1 at *
  generalize hgx : w.heap.size = gx at *
  have HGX := Lib.hid hgx
  have HZ := Lib.hid hz
  have HW := Lib.hid hb
  clear hgx hz hb
  have hgl : gx + 1 + 1 + 1 < w1.heap.size := by rw [HZ.out]; omega
  have HB := Lib.hid (both_any 77 (gx + 1 + 1) (.inr rfl) (fun _ => pumpF) (some (gx + 1 + 1)) (fun s W => Whole W (gx + 1 + 1) 3 #[.int .i64 s] ∧ inJ s) gx w1 A A' c c' ck fl bl r M fs bs n (by omega) HA.out HA'.out hmm h1 h2 h3 h4 ⟨hk, hn⟩ (fun g h => by injection h with h; omega)
    (fun s W W' h hW => ⟨h.1.below hW (by omega), h.2⟩) (fun b s W i x h hW => (pump1_any W (gx + 1 + 1) i x b s h.2 h.1).mono fun e W' hh => ⟨hh.1, ⟨hh.2.1, inJ_pump h.2 i x⟩, hh.2.2⟩))
  have HR := Lib.hid hr
  have s0 : w1.cell? ⟨gx, 0, none⟩ = some (.int .u64 ck) := hs.cell 0
  have s1 : w1.cell? ⟨gx, 1, none⟩ = some (.slice A fl.length c) := hs.cell 1
  have s2 : w1.cell? ⟨gx, 2, none⟩ = some (.slice A' bl.length c') := hs.cell 2
  have s3 : w1.cell? ⟨gx, 3, none⟩ = some (S r) := hs.cell 3
  have HMR := Lib.hid hm.reads
  clear hs hm hk hr hmm
  go_wp2_with (refine wpList_load_at rfl 30 (.tmp 4) rfl ⟨gx + 1, 0, none⟩ rfl M _ HMR.out Tryz.underlying30 rfl HMi.out ?_)
  refine HB.out.mono ?_
  rintro e w2 ⟨⟨G, k, G', k', rfl, p1, p2, p3, p4⟩, hI2, hg2⟩
  clear HB s0 s1 s2 s3 HMR
  have hr2 := HR.out.other hg2 (fun e => by injection e with e; omega)
  have HW2 := Lib.hid (grown_below HW.out (by omega) hg2 (fun g h => by injection h with h; omega))
  have HP1 := Lib.hid p1
  have HP2 := Lib.hid p2
  have hgr := hg2.size
  have HP3 := Lib.hid p3
  have HP4 := Lib.hid p4
  have r0 : w2.cell? ⟨gx + 1 + 1 + 1, 0, none⟩ = some (.int .u64 0) := hr2.cell 0
  have r1 : w2.cell? ⟨gx + 1 + 1 + 1, 1, none⟩ = some (.slice none 0 0) := hr2.cell 1
  have r2 : w2.cell? ⟨gx + 1 + 1 + 1, 2, none⟩ = some (.slice none 0 0) := hr2.cell 2
  have r3 : w2.cell? ⟨gx + 1 + 1 + 1, 3, none⟩ = some (S []) := hr2.cell 3
  have y0 := hr2.free 0
  have y1 := hr2.free 1
  have y2 := hr2.free 2
  have y3 := hr2.free 3
  clear p1 p2 p3 p4 hr2 hg2 hI2 HR
  go_wp2_with fail
  refine bodyPost_ret (v := .agg #[.int .u64 ck, .slice G (keepRec pumpF 0 fl fs n).1.length k, .slice G' (keepRec pumpF 0 bl bs (keepRec pumpF 0 fl fs n).2).1.length k', S r]) (by simp [results, Tryz.results35, go_sem, r0, r1, r2, r3]) rfl ?_
  refine ⟨⟨G, k, G', k', rfl, lies_set4 HP1.out fun ad h => ?_, lies_set4 HP2.out fun ad h => ?_, fun ad h => ?_, fun ad h => ?_⟩, ?_⟩
  · have := HP3.out ad h; omega
  · have := HP4.out ad h; omega
  · have := HP3.out ad h; rw [HGX.out]; omega
  · have := HP4.out ad h; rw [HGX.out]; omega
  · rw [HGX.out]
    exact (((HW2.out.setCell (p := ⟨gx + 1 + 1 + 1, 0, none⟩) (by show gx ≤ gx + 1 + 1 + 1; omega) _).setCell (p := ⟨gx + 1 + 1 + 1, 1, none⟩) (by show gx ≤ gx + 1 + 1 + 1; omega) _).setCell (p := ⟨gx + 1 + 1 + 1, 2, none⟩) (by show gx ≤ gx + 1 + 1 + 1; omega) _).setCell (p := ⟨gx + 1 + 1 + 1, 3, none⟩) (by show gx ≤ gx + 1 + 1 + 1; omega) _
end Go.Proofs.YtmmfcjkabpffeaaGreatDoor
