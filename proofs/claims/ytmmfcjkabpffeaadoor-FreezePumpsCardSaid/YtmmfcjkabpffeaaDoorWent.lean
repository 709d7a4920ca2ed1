/-
  Walks: the function values of freeze.Went and freeze.Pump; freeze.Went, freeze.Pump.
-/
import Derived.Test.YtmmfcjkabpffeaaDoorBoth
namespace Go.Proofs.YtmmfcjkabpffeaaDoor
open Go.RowKit

theorem went_val {p : Prop} [Decidable p] (h : p) (y x : List UInt8) : decide (¬ (p ∧ y = x)) = (y != x) := by
  by_cases e : y = x
  · subst e
    have : decide (¬ (p ∧ y = y)) = false := decide_eq_false (fun hh => hh ⟨h, rfl⟩)
    rw [this]; simp
  · have : decide (¬ (p ∧ y = x)) = true := decide_eq_true (fun hh => e hh.2)
    rw [this]; symm; simpa using e
set_option maxRecDepth 100000 in
set_option maxHeartbeats 1000000 in
theorem went1_any (W : World) (gn : Nat) (i : Nat) (x : List UInt8) (b : Bool) (B : Nat) (F L : Option Addr) (cf cl : Nat) (fs bs : List (List UInt8)) (s : Int)
    (h4 : W.cell? ⟨gn, 4, none⟩ = some (.slice F fs.length cf)) (h13 : W.cell? ⟨gn, 13, none⟩ = some (.slice L bs.length cl)) (hF : Strs W B F fs) (hL : Strs W B L bs) :
    Calls Tryd.prog 19 #[.int .i64 i, S x, .bool b, .pointer (some ⟨gn, 0, none⟩)] W fun e W' => e = .returned (.bool (wentF (if b = true then bs else fs) s i x).1) ∧ W' = W := by
  have HF := Lib.hid hF
  have HL := Lib.hid hL
  clear hF hL
  have i0 : (0 : Int) ≤ (i : Int) := by omega
  cases b with
  | true =>
    by_cases hi : i < bs.length
    · obtain ⟨ad, rfl, had, c0⟩ := HL.out.at' hi
      have d1 : decide ((bs.length : Int) ≤ (i : Int)) = false := by simp; omega
      have d2 : decide (bs.length ≤ i) = false := by simp; omega
      have i1 : (i : Int) < (bs.length : Int) := by omega
      have HV : Hid ((wentF (if true = true then bs else fs) s i x).1 = (bs.getD i [] != x)) := Lib.hid (by
        exact went_val hi _ _)
      rw [HV.out]
      generalize bs.getD i [] = y at *
      clear hi
      go_enter Tryd.func19, Tryd.ntmps19
      go_wp2_with fail
      go_ret
      exact ⟨by simp [bne], rfl⟩
    · have d1 : decide ((bs.length : Int) ≤ (i : Int)) = true := by simp; omega
      have d2 : decide (bs.length ≤ i) = true := by simp; omega
      have HV : Hid ((wentF (if true = true then bs else fs) s i x).1 = true) := Lib.hid (by
        show decide (¬ (i < bs.length ∧ bs.getD i [] = x)) = _
        simp [hi])
      rw [HV.out]
      clear hi
      go_enter Tryd.func19, Tryd.ntmps19
      go_wp2_with fail
      go_ret
      exact ⟨rfl, rfl⟩
  | false =>
    by_cases hi : i < fs.length
    · obtain ⟨ad, rfl, had, c0⟩ := HF.out.at' hi
      have d1 : decide ((fs.length : Int) ≤ (i : Int)) = false := by simp; omega
      have d2 : decide (fs.length ≤ i) = false := by simp; omega
      have i1 : (i : Int) < (fs.length : Int) := by omega
      have HV : Hid ((wentF (if false = true then bs else fs) s i x).1 = (fs.getD i [] != x)) := Lib.hid (by
        exact went_val hi _ _)
      rw [HV.out]
      generalize fs.getD i [] = y at *
      clear hi
      go_enter Tryd.func19, Tryd.ntmps19
      go_wp2_with fail
      go_ret
      exact ⟨by simp [bne], rfl⟩
    · have d1 : decide ((fs.length : Int) ≤ (i : Int)) = true := by simp; omega
      have d2 : decide (fs.length ≤ i) = true := by simp; omega
      have HV : Hid ((wentF (if false = true then bs else fs) s i x).1 = true) := Lib.hid (by
        show decide (¬ (i < fs.length ∧ fs.getD i [] = x)) = _
        simp [hi])
      rw [HV.out]
      clear hi
      go_enter Tryd.func19, Tryd.ntmps19
      go_wp2_with fail
      go_ret
      exact ⟨rfl, rfl⟩
/-- an int64 -/
def inJ (s : Int) : Prop := -9223372036854775808 ≤ s ∧ s ≤ 9223372036854775807
theorem inJ_pump {s : Int} (h : inJ s) (i : Nat) (x : List UInt8) : inJ (pumpF s i x).2 := by
  unfold pumpF
  split
  · exact h
  · unfold inJ at *; simp only; omega
set_option maxRecDepth 100000 in
set_option maxHeartbeats 1000000 in
theorem pump1_any (W : World) (gn : Nat) (i : Nat) (x : List UInt8) (b : Bool) (s : Int) (hs : inJ s) (hn : Whole W gn 3 #[.int .i64 s]) :
    Calls Tryd.prog 21 #[.int .i64 i, S x, .bool b, .pointer (some ⟨gn, 0, none⟩)] W fun e W' => e = .returned (.bool (pumpF s i x).1) ∧ Whole W' gn 3 #[.int .i64 (pumpF s i x).2] ∧ W.grownBy W' (some gn) := by
  have HN := Lib.hid hn
  have c0 : W.cell? ⟨gn, 0, none⟩ = some (.int .i64 s) := hn.cell 0
  have f0 := hn.free 0
  clear hn
  by_cases h1 : s < 1
  · have d1 : decide (s < 1) = true := by simpa using h1
    have HV : Hid (pumpF s i x = (false, s)) := Lib.hid (by unfold pumpF; rw [if_pos h1])
    rw [HV.out]
    clear h1
    go_enter Tryd.func21, Tryd.ntmps21
    go_wp2_with fail
    go_ret
    exact ⟨rfl, HN.out, grown_of_below _ (Below.refl _ _)⟩
  · have d1 : decide (s < 1) = false := by simpa using h1
    have HV : Hid (pumpF s i x = (true, s - 1)) := Lib.hid (by unfold pumpF; rw [if_neg h1])
    rw [HV.out]
    have hw : 1 ≤ s := by omega
    have hu : s ≤ 9223372036854775807 := hs.2
    clear h1
    go_enter Tryd.func21, Tryd.ntmps21
    go_wp2_with fail
    go_ret
    exact ⟨rfl, HN.out.set 0 _, ⟨rfl, rfl, rfl, by simp [World.setCell], fun k _ hk => Below.heap_setCell _ _ _ _ (fun e => hk (by rw [e]))⟩⟩
theorem lies_set {w : World} {A : Option Addr} {xs : List Value} {p : Addr} {u : Value} (h : Lies w w.heap.size A xs) (hg : ∀ ad, A = some ad → ad.block ≠ p.block) : Lies (w.setCell p u) (w.setCell p u).heap.size A xs := fun k v hv => by
  obtain ⟨ad, e, hb, hc⟩ := h k v hv
  refine ⟨ad, e, by simpa [World.setCell] using hb, ?_⟩
  rw [World.cell?_setCell_other _ _ _ _ (fun e2 => hg ad e (by rw [e2, add_block]))]
  exact hc
theorem lies_set4 {w : World} {A : Option Addr} {xs : List Value} {q : Nat} {a b c d : Value} (h : Lies w w.heap.size A xs) (hg : ∀ ad, A = some ad → ad.block ≠ q) :
    Lies ((((w.setCell ⟨q, 0, none⟩ a).setCell ⟨q, 1, none⟩ b).setCell ⟨q, 2, none⟩ c).setCell ⟨q, 3, none⟩ d) ((((w.setCell ⟨q, 0, none⟩ a).setCell ⟨q, 1, none⟩ b).setCell ⟨q, 2, none⟩ c).setCell ⟨q, 3, none⟩ d).heap.size A xs :=
  lies_set (lies_set (lies_set (lies_set h hg) hg) hg) hg
theorem IsM.below {w w' : World} {B : Nat} {M : List Value} {fs bs : List (List UInt8)} (h : IsM w B M fs bs) (hb : Below B w w') : IsM w' B M fs bs := by
  obtain ⟨h1, h2, F, cf, L, cl, h4, h13, hF, hL⟩ := h
  exact ⟨h1, h2, F, cf, L, cl, h4, h13, Lies.below hF hb, Lies.below hL hb⟩
set_option maxRecDepth 100000 in
set_option maxHeartbeats 4000000 in
theorem went_any (w : World) (A A' : Option Addr) (c c' : Nat) (ck : Int) (fl bl : List Kp) (r : List UInt8) (M : List Value) (fs bs : List (List UInt8)) (N : List Value) (fs' bs' : List (List UInt8))
    (hA : Kps w w.heap.size A fl) (hA' : Kps w w.heap.size A' bl) (hM : IsM w w.heap.size M fs bs) (hN : IsM w w.heap.size N fs' bs') (h1 : fl.length ≤ 1099511627776) (h2 : bl.length ≤ 1099511627776) (h3 : fs.length ≤ 1099511627776) (h4 : bs.length ≤ 1099511627776) :
    Calls Tryd.prog 8 #[.agg #[.int .u64 ck, .slice A fl.length c, .slice A' bl.length c', S r], .agg M.toArray, .agg N.toArray] w fun e w' => ShotPost w ck (keepRec (wentF fs') 0 fl fs 0).1 (keepRec (wentF bs') 0 bl bs 0).1 r e w' ∧ Below w.heap.size w w' := by
  have HM := Lib.hid hM
  have HN := Lib.hid hN
  have hl17 : M.toArray.size = 17 := by rw [List.size_toArray]; exact hM.1
  have hl17' : N.toArray.size = 17 := by rw [List.size_toArray]; exact hN.1
  have HMi : Hid ((Tryd.prog.info? 33).map (·.size) = some M.length) := Lib.hid (by rw [hM.1]; kernel_rfl)
  have hs := (((Whole.made w 25 #[.int .u64 ck, .slice A fl.length c, .slice A' bl.length c', S r]).block (.cells M.toArray 33)).block (.cells N.toArray 33)).block (.cells #[.int .u64 0, .slice none 0 0, .slice none 0 0, S []] 25)
  have hm := ((Whole.made (w.alloc (.cells #[.int .u64 ck, .slice A fl.length c, .slice A' bl.length c', S r] 25)) 33 M.toArray).block (.cells N.toArray 33)).block (.cells #[.int .u64 0, .slice none 0 0, .slice none 0 0, S []] 25)
  have hk := (Whole.made ((w.alloc (.cells #[.int .u64 ck, .slice A fl.length c, .slice A' bl.length c', S r] 25)).alloc (.cells M.toArray 33)) 33 N.toArray).block (.cells #[.int .u64 0, .slice none 0 0, .slice none 0 0, S []] 25)
  have hr := Whole.made (((w.alloc (.cells #[.int .u64 ck, .slice A fl.length c, .slice A' bl.length c', S r] 25)).alloc (.cells M.toArray 33)).alloc (.cells N.toArray 33)) 25 #[.int .u64 0, .slice none 0 0, .slice none 0 0, S []]
  have hb : Below w.heap.size w ((((w.alloc (.cells #[.int .u64 ck, .slice A fl.length c, .slice A' bl.length c', S r] 25)).alloc (.cells M.toArray 33)).alloc (.cells N.toArray 33)).alloc (.cells #[.int .u64 0, .slice none 0 0, .slice none 0 0, S []] 25)) := ((((Below.refl _ _).alloc (Nat.le_refl _) _).alloc (by simp) _).alloc (by simp; omega) _).alloc (by simp; omega) _
  have hz : ((((w.alloc (.cells #[.int .u64 ck, .slice A fl.length c, .slice A' bl.length c', S r] 25)).alloc (.cells M.toArray 33)).alloc (.cells N.toArray 33)).alloc (.cells #[.int .u64 0, .slice none 0 0, .slice none 0 0, S []] 25)).heap.size = w.heap.size + 1 + 1 + 1 + 1 := by simp
  rw [show (w.alloc (.cells #[.int .u64 ck, .slice A fl.length c, .slice A' bl.length c', S r] 25)).heap.size = w.heap.size + 1 by simp] at hm
  rw [show ((w.alloc (.cells #[.int .u64 ck, .slice A fl.length c, .slice A' bl.length c', S r] 25)).alloc (.cells M.toArray 33)).heap.size = w.heap.size + 1 + 1 by simp] at hk
  rw [show (((w.alloc (.cells #[.int .u64 ck, .slice A fl.length c, .slice A' bl.length c', S r] 25)).alloc (.cells M.toArray 33)).alloc (.cells N.toArray 33)).heap.size = w.heap.size + 1 + 1 + 1 by simp] at hr
  have HA := Lib.hid (hA.below hb)
  have HA' := Lib.hid (hA'.below hb)
  have hmm : IsM ((((w.alloc (.cells #[.int .u64 ck, .slice A fl.length c, .slice A' bl.length c', S r] 25)).alloc (.cells M.toArray 33)).alloc (.cells N.toArray 33)).alloc (.cells #[.int .u64 0, .slice none 0 0, .slice none 0 0, S []] 25)) w.heap.size M fs bs := IsM.below hM hb
  have hnn : IsM ((((w.alloc (.cells #[.int .u64 ck, .slice A fl.length c, .slice A' bl.length c', S r] 25)).alloc (.cells M.toArray 33)).alloc (.cells N.toArray 33)).alloc (.cells #[.int .u64 0, .slice none 0 0, .slice none 0 0, S []] 25)) w.heap.size N fs' bs' := IsM.below hN hb
  clear hA hA' hM hN
  go_enter Tryd.func8, Tryd.ntmps8
  go_upto_region 1 with (fail)
  change Code.wp _ _ _ _ ((((w.alloc (.cells #[.int .u64 ck, .slice A fl.length c, .slice A' bl.length c', S r] 25)).alloc (.cells M.toArray 33)).alloc (.cells N.toArray 33)).alloc (.cells #[.int .u64 0, .slice none 0 0, .slice none 0 0, S []] 25))
  clear hl17 hl17'
  generalize ((((w.alloc (.cells #[.int .u64 ck, .slice A fl.length c, .slice A' bl.length c', S r] 25)).alloc (.cells M.toArray 33)).alloc (.cells N.toArray 33)).alloc (.cells #[.int .u64 0, .slice none 0 0, .slice none 0 0, S []] 25)) = w1 at *
  generalize hgx : w.heap.size = gx at *
  have HGX := Lib.hid hgx
  have HZ := Lib.hid hz
  have HW := Lib.hid hb
  clear hgx hz hb
  have hgl : gx + 1 + 1 + 1 < w1.heap.size := by rw [HZ.out]; omega
  obtain ⟨_, _, F', cf', L', cl', n4, n13, hF', hL'⟩ := hnn
  have HK := Lib.hid hk
  have HC4 : Hid (∀ W, Below w1.heap.size w1 W → W.cell? ⟨gx + 1 + 1, 4, none⟩ = some (.slice F' fs'.length cf')) := Lib.hid fun W hW => ((HK.out.below hW (by omega)).cell 4).trans (by rw [List.getElem?_toArray]; exact n4)
  have HC13 : Hid (∀ W, Below w1.heap.size w1 W → W.cell? ⟨gx + 1 + 1, 13, none⟩ = some (.slice L' bs'.length cl')) := Lib.hid fun W hW => ((HK.out.below hW (by omega)).cell 13).trans (by rw [List.getElem?_toArray]; exact n13)
  have HLF : Hid (∀ W, Below w1.heap.size w1 W → Strs W gx F' fs' ∧ Strs W gx L' bs') := Lib.hid fun W hW => ⟨Lies.below hF' (hW.mono (by omega)), Lies.below hL' (hW.mono (by omega))⟩
  have HB := Lib.hid (both_any 19 (gx + 1 + 1) (.inl rfl) (fun b => wentF (if b = true then bs' else fs')) none (fun _ W => Below w1.heap.size w1 W) gx w1 A A' c c' ck fl bl r M fs bs 0 (by omega) HA.out HA'.out hmm h1 h2 h3 h4 (Below.refl _ _) (fun g h => by cases h)
    (fun s W W' h hW => h.trans hW) (fun b s W i x h hW => (went1_any W (gx + 1 + 1) i x b gx F' L' cf' cl' fs' bs' s (HC4.out W h) (HC13.out W h) (HLF.out W h).1 (HLF.out W h).2).mono fun e W' hh => ⟨hh.1, by rw [hh.2]; exact h, by rw [hh.2]; exact grown_of_below none (Below.refl _ _)⟩))
  have e2 : (keepRec (wentF (if (false = true) then bs' else fs')) 0 fl fs 0).2 = 0 := wentF_state _ _ _ _ _
  simp only [e2] at HB
  clear n4 n13 hF' hL' HC4 HC13 HLF HK e2
  have HR := Lib.hid hr
  have s0 : w1.cell? ⟨gx, 0, none⟩ = some (.int .u64 ck) := hs.cell 0
  have s1 : w1.cell? ⟨gx, 1, none⟩ = some (.slice A fl.length c) := hs.cell 1
  have s2 : w1.cell? ⟨gx, 2, none⟩ = some (.slice A' bl.length c') := hs.cell 2
  have s3 : w1.cell? ⟨gx, 3, none⟩ = some (S r) := hs.cell 3
  have HMR := Lib.hid hm.reads
  clear hs hm hk hr hmm
  go_wp2_with (refine wpList_load_at rfl 33 (.tmp 4) rfl ⟨gx + 1, 0, none⟩ rfl M _ HMR.out Tryd.underlying33 rfl HMi.out ?_)
  refine HB.out.mono ?_
  rintro e w2 ⟨⟨G, k, G', k', rfl, p1, p2, p3, p4⟩, hI2, hg2⟩
  clear HB s0 s1 s2 s3 HMR
  have hr2 := HR.out.below hI2 hgl
  have HW2 := Lib.hid (HW.out.trans (hI2.mono (by omega)))
  have HP1 := Lib.hid p1
  have HP2 := Lib.hid p2
  have hgr := hg2.size
  have HP3 := Lib.hid p3
  have HP4 := Lib.hid p4
  have r0 : w2.cell? ⟨gx + 1 + 1 + 1, 0, none⟩ = some (.int .u64 0) := hr2.cell 0
  have r1 : w2.cell? ⟨gx + 1 + 1 + 1, 1, none⟩ = some (.slice none 0 0) := hr2.cell 1
  have r2 : w2.cell? ⟨gx + 1 + 1 + 1, 2, none⟩ = some (.slice none 0 0) := hr2.cell 2
  have r3 : w2.cell? ⟨gx + 1 + 1 + 1, 3, none⟩ = some (S []) := hr2.cell 3
  have y0 := hr2.free 0
  have y1 := hr2.free 1
  have y2 := hr2.free 2
  have y3 := hr2.free 3
  clear p1 p2 p3 p4 hr2 hg2 hI2 HR
  go_wp2_with fail
  refine bodyPost_ret (v := .agg #[.int .u64 ck, .slice G (keepRec (wentF fs') 0 fl fs 0).1.length k, .slice G' (keepRec (wentF bs') 0 bl bs 0).1.length k', S r]) (by simp [results, Tryd.results8, go_sem, r0, r1, r2, r3]) rfl ?_
  refine ⟨⟨G, k, G', k', rfl, lies_set4 HP1.out fun ad h => ?_, lies_set4 HP2.out fun ad h => ?_, fun ad h => ?_, fun ad h => ?_⟩, ?_⟩
  · have := HP3.out ad h; omega
  · have := HP4.out ad h; omega
  · have := HP3.out ad h; rw [HGX.out]; omega
  · have := HP4.out ad h; rw [HGX.out]; omega
  · rw [HGX.out]
    exact (((HW2.out.setCell (p := ⟨gx + 1 + 1 + 1, 0, none⟩) (by show gx ≤ gx + 1 + 1 + 1; omega) _).setCell (p := ⟨gx + 1 + 1 + 1, 1, none⟩) (by show gx ≤ gx + 1 + 1 + 1; omega) _).setCell (p := ⟨gx + 1 + 1 + 1, 2, none⟩) (by show gx ≤ gx + 1 + 1 + 1; omega) _).setCell (p := ⟨gx + 1 + 1 + 1, 3, none⟩) (by show gx ≤ gx + 1 + 1 + 1; omega) _
set_option maxRecDepth 100000 in
set_option maxHeartbeats 4000000 in
theorem pump_any (w : World) (A A' : Option Addr) (c c' : Nat) (ck : Int) (fl bl : List Kp) (r : List UInt8) (M : List Value) (fs bs : List (List UInt8)) (n : Int) (hn : inJ n)
    (hA : Kps w w.heap.size A fl) (hA' : Kps w w.heap.size A' bl) (hM : IsM w w.heap.size M fs bs) (h1 : fl.length ≤ 1099511627776) (h2 : bl.length ≤ 1099511627776) (h3 : fs.length ≤ 1099511627776) (h4 : bs.length ≤ 1099511627776) :
    Calls Tryd.prog 10 #[.agg #[.int .u64 ck, .slice A fl.length c, .slice A' bl.length c', S r], .agg M.toArray, .int .i64 n] w fun e w' => ShotPost w ck (keepRec pumpF 0 fl fs n).1 (keepRec pumpF 0 bl bs (keepRec pumpF 0 fl fs n).2).1 r e w' ∧ Below w.heap.size w w' := by
  have HM := Lib.hid hM
  have hl17 : M.toArray.size = 17 := by rw [List.size_toArray]; exact hM.1
  have HMi : Hid ((Tryd.prog.info? 33).map (·.size) = some M.length) := Lib.hid (by rw [hM.1]; kernel_rfl)
  have hs := (((Whole.made w 25 #[.int .u64 ck, .slice A fl.length c, .slice A' bl.length c', S r]).block (.cells M.toArray 33)).block (.cells #[.int .i64 n] 3)).block (.cells #[.int .u64 0, .slice none 0 0, .slice none 0 0, S []] 25)
  have hm := ((Whole.made (w.alloc (.cells #[.int .u64 ck, .slice A fl.length c, .slice A' bl.length c', S r] 25)) 33 M.toArray).block (.cells #[.int .i64 n] 3)).block (.cells #[.int .u64 0, .slice none 0 0, .slice none 0 0, S []] 25)
  have hk := (Whole.made ((w.alloc (.cells #[.int .u64 ck, .slice A fl.length c, .slice A' bl.length c', S r] 25)).alloc (.cells M.toArray 33)) 3 #[.int .i64 n]).block (.cells #[.int .u64 0, .slice none 0 0, .slice none 0 0, S []] 25)
  have hr := Whole.made (((w.alloc (.cells #[.int .u64 ck, .slice A fl.length c, .slice A' bl.length c', S r] 25)).alloc (.cells M.toArray 33)).alloc (.cells #[.int .i64 n] 3)) 25 #[.int .u64 0, .slice none 0 0, .slice none 0 0, S []]
  have hb : Below w.heap.size w ((((w.alloc (.cells #[.int .u64 ck, .slice A fl.length c, .slice A' bl.length c', S r] 25)).alloc (.cells M.toArray 33)).alloc (.cells #[.int .i64 n] 3)).alloc (.cells #[.int .u64 0, .slice none 0 0, .slice none 0 0, S []] 25)) := ((((Below.refl _ _).alloc (Nat.le_refl _) _).alloc (by simp) _).alloc (by simp; omega) _).alloc (by simp; omega) _
  have hz : ((((w.alloc (.cells #[.int .u64 ck, .slice A fl.length c, .slice A' bl.length c', S r] 25)).alloc (.cells M.toArray 33)).alloc (.cells #[.int .i64 n] 3)).alloc (.cells #[.int .u64 0, .slice none 0 0, .slice none 0 0, S []] 25)).heap.size = w.heap.size + 1 + 1 + 1 + 1 := by simp
  rw [show (w.alloc (.cells #[.int .u64 ck, .slice A fl.length c, .slice A' bl.length c', S r] 25)).heap.size = w.heap.size + 1 by simp] at hm
  rw [show ((w.alloc (.cells #[.int .u64 ck, .slice A fl.length c, .slice A' bl.length c', S r] 25)).alloc (.cells M.toArray 33)).heap.size = w.heap.size + 1 + 1 by simp] at hk
  rw [show (((w.alloc (.cells #[.int .u64 ck, .slice A fl.length c, .slice A' bl.length c', S r] 25)).alloc (.cells M.toArray 33)).alloc (.cells #[.int .i64 n] 3)).heap.size = w.heap.size + 1 + 1 + 1 by simp] at hr
  have HA := Lib.hid (hA.below hb)
  have HA' := Lib.hid (hA'.below hb)
  have hmm : IsM ((((w.alloc (.cells #[.int .u64 ck, .slice A fl.length c, .slice A' bl.length c', S r] 25)).alloc (.cells M.toArray 33)).alloc (.cells #[.int .i64 n] 3)).alloc (.cells #[.int .u64 0, .slice none 0 0, .slice none 0 0, S []] 25)) w.heap.size M fs bs := IsM.below hM hb
  clear hA hA' hM
  go_enter Tryd.func10, Tryd.ntmps10
  go_upto_region 1 with (fail)
  change Code.wp _ _ _ _ ((((w.alloc (.cells #[.int .u64 ck, .slice A fl.length c, .slice A' bl.length c', S r] 25)).alloc (.cells M.toArray 33)).alloc (.cells #[.int .i64 n] 3)).alloc (.cells #[.int .u64 0, .slice none 0 0, .slice none 0 0, S []] 25))
  clear hl17
  generalize ((((w.alloc (.cells #[.int .u64 ck, .slice A fl.length c, .slice A' bl.length c', S r] 25)).alloc (.cells M.toArray 33)).alloc (.cells #[.int .i64 n] 3)).alloc (.cells #[.int .u64 0, .slice none 0 0, .slice none 0 0, S []] 25)) = w1 at *
  generalize hgx : w.heap.size = gx at *
  have HGX := Lib.hid hgx
  have HZ := Lib.hid hz
  have HW := Lib.hid hb
  clear hgx hz hb
  have hgl : gx + 1 + 1 + 1 < w1.heap.size := by rw [HZ.out]; omega
  have HB := Lib.hid (both_any 21 (gx + 1 + 1) (.inr rfl) (fun _ => pumpF) (some (gx + 1 + 1)) (fun s W => Whole W (gx + 1 + 1) 3 #[.int .i64 s] ∧ inJ s) gx w1 A A' c c' ck fl bl r M fs bs n (by omega) HA.out HA'.out hmm h1 h2 h3 h4 ⟨hk, hn⟩ (fun g h => by injection h with h; omega)
    (fun s W W' h hW => ⟨h.1.below hW (by omega), h.2⟩) (fun b s W i x h hW => (pump1_any W (gx + 1 + 1) i x b s h.2 h.1).mono fun e W' hh => ⟨hh.1, ⟨hh.2.1, inJ_pump h.2 i x⟩, hh.2.2⟩))
  have HR := Lib.hid hr
  have s0 : w1.cell? ⟨gx, 0, none⟩ = some (.int .u64 ck) := hs.cell 0
  have s1 : w1.cell? ⟨gx, 1, none⟩ = some (.slice A fl.length c) := hs.cell 1
  have s2 : w1.cell? ⟨gx, 2, none⟩ = some (.slice A' bl.length c') := hs.cell 2
  have s3 : w1.cell? ⟨gx, 3, none⟩ = some (S r) := hs.cell 3
  have HMR := Lib.hid hm.reads
  clear hs hm hk hr hmm
  go_wp2_with (refine wpList_load_at rfl 33 (.tmp 4) rfl ⟨gx + 1, 0, none⟩ rfl M _ HMR.out Tryd.underlying33 rfl HMi.out ?_)
  refine HB.out.mono ?_
  rintro e w2 ⟨⟨G, k, G', k', rfl, p1, p2, p3, p4⟩, hI2, hg2⟩
  clear HB s0 s1 s2 s3 HMR
  have hr2 := HR.out.other hg2 (fun e => by injection e with e; omega)
  have HW2 := Lib.hid (grown_below HW.out (by omega) hg2 (fun g h => by injection h with h; omega))
  have HP1 := Lib.hid p1
  have HP2 := Lib.hid p2
  have hgr := hg2.size
  have HP3 := Lib.hid p3
  have HP4 := Lib.hid p4
  have r0 : w2.cell? ⟨gx + 1 + 1 + 1, 0, none⟩ = some (.int .u64 0) := hr2.cell 0
  have r1 : w2.cell? ⟨gx + 1 + 1 + 1, 1, none⟩ = some (.slice none 0 0) := hr2.cell 1
  have r2 : w2.cell? ⟨gx + 1 + 1 + 1, 2, none⟩ = some (.slice none 0 0) := hr2.cell 2
  have r3 : w2.cell? ⟨gx + 1 + 1 + 1, 3, none⟩ = some (S []) := hr2.cell 3
  have y0 := hr2.free 0
  have y1 := hr2.free 1
  have y2 := hr2.free 2
  have y3 := hr2.free 3
  clear p1 p2 p3 p4 hr2 hg2 hI2 HR
  go_wp2_with fail
  refine bodyPost_ret (v := .agg #[.int .u64 ck, .slice G (keepRec pumpF 0 fl fs n).1.length k, .slice G' (keepRec pumpF 0 bl bs (keepRec pumpF 0 fl fs n).2).1.length k', S r]) (by simp [results, Tryd.results10, go_sem, r0, r1, r2, r3]) rfl ?_
  refine ⟨⟨G, k, G', k', rfl, lies_set4 HP1.out fun ad h => ?_, lies_set4 HP2.out fun ad h => ?_, fun ad h => ?_, fun ad h => ?_⟩, ?_⟩
  · have := HP3.out ad h; omega
  · have := HP4.out ad h; omega
  · have := HP3.out ad h; rw [HGX.out]; omega
  · have := HP4.out ad h; rw [HGX.out]; omega
  · rw [HGX.out]
    exact (((HW2.out.setCell (p := ⟨gx + 1 + 1 + 1, 0, none⟩) (by show gx ≤ gx + 1 + 1 + 1; omega) _).setCell (p := ⟨gx + 1 + 1 + 1, 1, none⟩) (by show gx ≤ gx + 1 + 1 + 1; omega) _).setCell (p := ⟨gx + 1 + 1 + 1, 2, none⟩) (by show gx ≤ gx + 1 + 1 + 1; omega) _).setCell (p := ⟨gx + 1 + 1 + 1, 3, none⟩) (by show gx ≤ gx + 1 + 1 + 1; omega) _
end Go.Proofs.YtmmfcjkabpffeaaDoor
