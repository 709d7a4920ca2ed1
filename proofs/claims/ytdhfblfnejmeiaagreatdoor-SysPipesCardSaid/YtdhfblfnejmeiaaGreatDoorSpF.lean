/-
  Walks: mmu.Copy, mmu.Lay and their closures. (Printed by gen_spf.py.)
-/
import Derived.Test.YtdhfblfnejmeiaaGreatDoorSpE
import Derived.Test.YtdhfblfnejmeiaaGreatDoorSureA
import Derived.Lib.AppendStr
namespace Go.Proofs.YtdhfblfnejmeiaaGreatDoor
open Go.RowKit

/-- a row of bytes of the call's own -/
abbrev OwnB (w : World) (base : Nat) (v : Value) (l : List UInt8) : Prop := w.ownsRow base 5 1 v l.length (l.map B8)
theorem OwnB.none (w : World) (base : Nat) : OwnB w base (.slice Option.none 0 0) [] := World.ownsRow_nil w base _ _
theorem Tryz.infoU8 : (Tryz.prog.info? 5).map (fun i => (i.zero, i.size, i.bytes)) = some (some (.int .u8 0), 1, 1) := by kernel_rfl
theorem info_parts8 {P : Program} {ty : TypeId} {z : Value} {n m : Nat} (h : (P.info? ty).map (fun i => (i.zero, i.size, i.bytes)) = some (some z, n, m)) : ∃ i, P.info? ty = some i ∧ i.zero = some z ∧ i.size = n ∧ i.bytes = m := by
  cases hq : P.info? ty with
  | none => rw [hq] at h; simp at h
  | some i => rw [hq] at h; simp at h; exact ⟨i, rfl, h.1, h.2.1, h.2.2⟩
/-- 'string(b)' of a row of the call's own -/
theorem own_conv {w : World} {base : Nat} {v : Value} {l : List UInt8} (h : OwnB w base v l) (hl : l ≠ []) : ∃ ad c, v = .slice (some ad) l.length c ∧ ∀ W, Below w.heap.size w W → (convert 66 9 (.slice (some ad) l.length c)).run Tryz.prog W = .ok (S l) W := by
  obtain ⟨A, c, rfl, hlies, _⟩ := own_shape h (by omega)
  cases A with
  | none =>
    cases l with
    | nil => exact absurd rfl hl
    | cons x l =>
      obtain ⟨ad, e, _⟩ := hlies 0 _ rfl
      cases e
  | some ad =>
    refine ⟨ad, c, rfl, fun W hW => run_convert_bytes_back W 66 9 5 ad c l Tryz.underlying66 Tryz.underlying5 Tryz.underlying9 fun j hj => ?_⟩
    obtain ⟨ad', e, hb, hc⟩ := hlies j (B8 l[j]) (by simp [hj])
    injection e with e
    subst e
    exact (hW.cell (by rw [add_block]; exact hb)).trans hc
theorem ownB_app {w : World} {base : Nat} {v : Value} {l l2 : List UInt8} {n : Nat} {xs : List Value} (h : w.ownsRow base 5 1 v n xs) (hn : n = l.length + l2.length) (hx : xs = l.map B8 ++ l2.map B8) : OwnB w base v (l ++ l2) := by
  subst hn hx
  show w.ownsRow base _ 1 v (l ++ l2).length ((l ++ l2).map B8)
  rw [List.length_append, List.map_append]
  exact h
theorem b8_one (l : List UInt8) : ∀ u ∈ l.map B8, u.oneCell' = true := by
  intro v hv
  obtain ⟨b, _, rfl⟩ := List.mem_map.1 hv
  rfl
theorem strCells_S (t : List UInt8) : Lib.strCells ⟨t.toArray⟩ = t.map B8 := by simp [Lib.strCells]
theorem str_sz (t : List UInt8) : (⟨t.toArray⟩ : ByteArray).size = t.length := by simp [ByteArray.size]
theorem own_ne {w : World} {base g : Nat} {e t : TypeId} {size n : Nat} {v : Value} {xs : List Value} {cs : Array Value} (h : w.ownsRow base e size v n xs) (hw : Whole w g t cs) (hne : t ≠ e) : some g ≠ v.ownBlock := fun k => by
  rcases h.2 with ⟨rfl, _⟩ | ⟨g', cap, cur, rfl, _, hc, _⟩
  · cases k
  · have e2 : g = g' := by
      simp only [Value.ownBlock] at k
      injection k
    subst e2
    unfold Whole at hw
    rw [hw] at hc
    injection hc with hc
    injection hc with _ ht _
    exact hne ht
theorem lies_lit8 (w : World) (l : List UInt8) : ∀ j u, (l.map B8)[j]? = some u → (w.alloc (.cells (l.map B8).toArray 5)).cell? ((⟨w.heap.size, 0, none⟩ : Addr).add j) = some u := fun j u hu => by
  obtain ⟨ad', e', _, hc'⟩ := lies_made w 5 (l.map B8) (w.heap.size + 1) (by omega) j u hu
  injection e' with e'; subst e'; exact hc'
set_option maxRecDepth 100000 in
set_option maxHeartbeats 4000000 in
theorem copyc_any (w : World) (A : Option Addr) (c : Nat) (sp : List Pg) (fs : List (List UInt8)) (ad n fr pl : Nat) (f : List UInt8) (h : Spot sp fs ad n fr pl f) (hA : Strs w w.heap.size A fs) (B gb g4 : Nat) (hB : B ≤ w.heap.size) (hBg : B ≤ gb) (hb : Whole w gb 66 #[.slice none 0 0]) (h4 : w.cell? ⟨g4, 0, none⟩ = some (.slice A fs.length c)) (h4l : g4 < w.heap.size) :
    Calls Tryz.prog 167 #[.int .i64 (fr : Int), .int .i64 (pl : Int), .int .i64 (n : Int), .pointer (some ⟨gb, 0, none⟩), .pointer (some ⟨g4, 0, none⟩)] w fun e w' => e = .returned (.tuple #[]) ∧ (∃ v, Whole w' gb 66 #[v] ∧ OwnB w' 0 v ((f.drop pl).take n)) ∧ Below B w w' := by
  obtain ⟨i8, hi8, hz8, hs8, hb8⟩ := info_parts8 Tryz.infoU8
  obtain ⟨ga, rfl, _, hc⟩ := hA fr (S f) (by rw [List.getElem?_map, h.frm]; rfl)
  have hlt : fr < fs.length := (List.getElem?_eq_some_iff.1 h.frm).1
  have hfl := h.fl
  have hrm := h.room
  have hfrl := h.frl
  have i0 : (0 : Int) ≤ (fr : Int) := by omega
  have i1 : (fr : Int) < (fs.length : Int) := by omega
  have HB := Lib.hid hb
  have C4 : Hid (∀ W, Below w.heap.size w W → W.cell? ⟨g4, 0, none⟩ = some (.slice (some ga) fs.length c)) := Lib.hid fun W hS => (hS.cell (p := ⟨g4, 0, none⟩) h4l).trans h4
  have CB : Hid (∀ W, Below w.heap.size w W → W.cell? ⟨gb, 0, none⟩ = some (.slice none 0 0)) := Lib.hid fun W hS => (hb.below hS hb.lt).cell 0
  have CF : Hid (∀ W, Below w.heap.size w W → W.cell? (ga.add fr) = some (S f)) := Lib.hid fun W hS => by
    obtain ⟨ad, e, _, hc⟩ := Lies.below hA hS fr (S f) (by rw [List.getElem?_map, h.frm]; rfl)
    injection e with e; subst e; exact hc
  have wp1 : IntKind.i64.wrap ((pl : Int) + (n : Int)) = (pl : Int) + (n : Int) := by rw [IntKind.wrap_i64]; omega
  have r1 := fun W => run_cut_S f .i64 .i64 (pl : Int) ((pl : Int) + (n : Int)) pl (pl + n) rfl (by omega) (by omega) (by omega) W
  rw [show pl + n - pl = n by omega] at r1
  have hdl : ((f.drop pl).take n).length = n := by rw [List.length_take, List.length_drop]; omega
  have hbl : gb < w.heap.size := hb.lt
  obtain ⟨dd, hdd⟩ : ∃ z, (f.drop pl).take n = z := ⟨_, rfl⟩
  rw [hdd] at r1 hdl ⊢
  clear h hA hc hb h4 h4l hdd hfl
  go_enter Tryz.func167, Tryz.ntmps167
  refine' wp_region_sure (by kernel_rfl) (fun W => Below w.heap.size w W) 10 [_, _, _, _, _, _, _, _, _, _] [some 8, some 9, some 10, some 11, some 12, some 13, some 14, some 15, some 16, some 17] (by kernel_rfl) (by kernel_rfl) (by kernel_rfl) (by kernel_rfl) rfl (Below.refl _ _).drew ?hs1
  case hs1 =>
    refine sure_cons ?_ ?_
    · intro L ac W K hed hJ hS hK
      have hA3 : ac.eval (.tmp 3) = .pointer (some ⟨gb, 0, none⟩) := hJ.eval_old 3 (by kernel_rfl)
      clear hed hJ
      refine opStep_of rfl ?_
      have cc := CB.out W hS
      unfold Oper.wp execOp
      have hN3 := evalN hA3
      go_simp
      exact hK _ hS
    refine sure_cons ?_ ?_
    · intro L ac W K hed hJ hS hK
      have hA4 : ac.eval (.tmp 4) = .pointer (some ⟨g4, 0, none⟩) := hJ.eval_old 4 (by kernel_rfl)
      clear hed hJ
      refine opStep_of rfl ?_
      have cc := C4.out W hS
      unfold Oper.wp execOp
      have hN4 := evalN hA4
      go_simp
      exact hK _ hS
    refine sure_cons ?_ ?_
    · intro L ac W K hed hJ hS hK
      have hA0 : ac.eval (.tmp 0) = .int .i64 (fr : Int) := hJ.eval_old 0 (by kernel_rfl)
      clear hed hJ
      refine opStep_of rfl ?_
      unfold Oper.wp execOp
      have hN0 := evalN hA0
      go_simp
      exact hK _ hS
    refine sure_cons ?_ ?_
    · intro L ac W K hed hJ hS hK
      have hn := needs_spec (l := [1, 2]) (by kernel_rfl) hed
      have hA9 := hJ.eval 1 (d := 9) (hn 1 (by simp)) rfl rfl rfl
      have hA10 := hJ.eval 2 (d := 10) (hn 2 (by simp)) rfl rfl rfl
      clear hed hJ hn
      refine opStep_of rfl ?_
      unfold Oper.wp execOp
      have hN9 := evalN hA9
      have hN10 := evalN hA10
      go_simp
      exact hK _ hS
    refine sure_cons ?_ ?_
    · intro L ac W K hed hJ hS hK
      have hn := needs_spec (l := [3]) (by kernel_rfl) hed
      have hA11 := hJ.eval 3 (d := 11) (hn 3 (by simp)) rfl rfl rfl
      clear hed hJ hn
      refine opStep_of rfl ?_
      have cc := CF.out W hS
      unfold Oper.wp execOp
      have hN11 := evalN hA11
      go_simp
      exact hK _ hS
    refine sure_cons ?_ ?_
    · intro L ac W K hed hJ hS hK
      have hA1 : ac.eval (.tmp 1) = .int .i64 (pl : Int) := hJ.eval_old 1 (by kernel_rfl)
      clear hed hJ
      refine opStep_of rfl ?_
      unfold Oper.wp execOp
      have hN1 := evalN hA1
      go_simp
      exact hK _ hS
    refine sure_cons ?_ ?_
    · intro L ac W K hed hJ hS hK
      have hA1 : ac.eval (.tmp 1) = .int .i64 (pl : Int) := hJ.eval_old 1 (by kernel_rfl)
      clear hed hJ
      refine opStep_of rfl ?_
      unfold Oper.wp execOp
      have hN1 := evalN hA1
      go_simp
      exact hK _ hS
    refine sure_cons ?_ ?_
    · intro L ac W K hed hJ hS hK
      have hA2 : ac.eval (.tmp 2) = .int .i64 (n : Int) := hJ.eval_old 2 (by kernel_rfl)
      clear hed hJ
      refine opStep_of rfl ?_
      unfold Oper.wp execOp
      have hN2 := evalN hA2
      go_simp
      exact hK _ hS
    refine sure_cons ?_ ?_
    · intro L ac W K hed hJ hS hK
      have hn := needs_spec (l := [6, 7]) (by kernel_rfl) hed
      have hA14 := hJ.eval 6 (d := 14) (hn 6 (by simp)) rfl rfl rfl
      have hA15 := hJ.eval 7 (d := 15) (hn 7 (by simp)) rfl rfl rfl
      clear hed hJ hn
      refine opStep_of rfl ?_
      unfold Oper.wp execOp
      have hN14 := evalN hA14
      have hN15 := evalN hA15
      go_simp
      exact hK _ hS
    refine sure_cons ?_ ?_
    · intro L ac W K hed hJ hS hK
      have hn := needs_spec (l := [4, 5, 8]) (by kernel_rfl) hed
      have hA12 := hJ.eval 4 (d := 12) (hn 4 (by simp)) rfl rfl rfl
      have hA13 := hJ.eval 5 (d := 13) (hn 5 (by simp)) rfl rfl rfl
      have hA16 := hJ.eval 8 (d := 16) (hn 8 (by simp)) rfl rfl rfl
      clear hed hJ hn
      refine opStep_of rfl ?_
      unfold Oper.wp execOp
      have hN12 := evalN hA12
      have hN13 := evalN hA13
      have hN16 := evalN hA16
      go_simp
      exact hK _ hS
    refine sure_nil ?_
    intro W hS
    simp only [putAll, Act.put, List.setIfInBounds_toArray, List.set_cons_zero, List.set_cons_succ]
    have HS := Lib.hid hS
    have HBW := Lib.hid (HB.out.below hS hbl)
    have HO : Hid (OwnB W W.heap.size (.slice none 0 0) []) := Lib.hid (World.ownsRow_nil W _ _ _)
    clear hS
    go_wp2_with (at_builtin; refine Lib.wpList_append_own_string _ rfl (.tmp 8) (.tmp 17) 66 9 rfl W.heap.size 5 i8 Tryz.underlying66 Tryz.underlying9 hi8 hz8 hs8 hb8 _ 0 [] rfl HO.out ⟨dd.toArray⟩ rfl (by rw [str_sz]; unfold maxLen; omega) (by rw [str_sz]; omega) (Nat.le_refl _) ?_; intro v3 w3 hown' hgrow _; rw [show 0 + (⟨dd.toArray⟩ : ByteArray).size = n by rw [str_sz]; omega] at hown'; obtain ⟨Y3, k3, rfl, _, _⟩ := own_shape hown' (by decide); have HO3 : Hid (OwnB w3 W.heap.size (.slice Y3 n k3) dd) := Lib.hid (ownB_app (l := []) hown' (by simp [hdl]) (by rw [strCells_S]; rfl)); have HG3 := Lib.hid (Below.refl W.heap.size W |>.grown hgrow (Nat.le_refl _) (fun q e => by cases e)); clear hown' hgrow; have HB3 := Lib.hid (HBW.out.below HG3.out HBW.out.lt); have c3 : w3.cell? ⟨gb, 0, none⟩ = some (.slice none 0 0) := HB3.out.cell 0; have y3 := HB3.out.free 0)
    refine bodyPost_end (v := .tuple #[]) (by simp [results, Tryz.results167, go_sem]) rfl ?_
    have hne : gb < W.heap.size := HBW.out.lt
    exact ⟨rfl, ⟨_, HB3.out.set 0 _, own_mono (own_one HO3.out (grown_setK w3 gb 0 _) hne) (Nat.zero_le _)⟩, ((((HS.out.trans (HG3.out.mono HS.out.size)).mono hB)).setCell (p := ⟨gb, 0, none⟩) hBg _)⟩
set_option maxRecDepth 100000 in
set_option maxHeartbeats 1000000 in
theorem cloneS_any (w : World) (A : Option Addr) (c : Nat) (ls : List (List UInt8)) (hA : Strs w w.heap.size A ls) (hn : ls.length ≤ 1099511627776) :
    Calls Tryz.prog 110 #[.slice A ls.length c] w fun e w' => (∃ v, e = .returned v ∧ OwnS w' w.heap.size v ls) ∧ Below w.heap.size w w' := by
  obtain ⟨i0, hi0, hz0, hz1, hz2⟩ := info_parts Tryz.infoStr'
  cases A with
  | none =>
    have hls : ls = [] := by
      cases ls with
      | nil => rfl
      | cons l r => obtain ⟨ad, e, _⟩ := hA.at' (k := 0) (by simp); cases e
    subst hls
    have he : ∀ W : World, (binOp .eql 22 (.slice none 0 c) (.slice none 0 0)).run Tryz.prog W = .ok (.bool true) W := fun W => Lib.run_eql_slice_nil W 22 9 none 0 c 0 0 Tryz.underlying22
    go_enter Tryz.func110, Tryz.ntmps110
    go_wp2
    go_ret
    exact ⟨⟨_, rfl, World.ownsRow_nil _ _ _ _⟩, Below.refl _ _⟩
  | some ad =>
    have he : ∀ W : World, (binOp .eql 22 (.slice (some ad) ls.length c) (.slice none 0 0)).run Tryz.prog W = .ok (.bool false) W := fun W => Lib.run_eql_slice_nil W 22 9 (some ad) ls.length c 0 0 Tryz.underlying22
    have HN : Hid (∀ j u, (ls.map S)[j]? = some u → (w.alloc (.cells #[] 9)).cell? (ad.add j) = some u) := Lib.hid (fun j u hu => by
      obtain ⟨ad', e, hb, hc⟩ := hA j u hu
      injection e with e; subst e
      rw [← hc]; exact World.cell?_alloc_lt w _ _ (by rw [add_block]; exact hb))
    have HO : Hid ((w.alloc (.cells #[] 9)).ownsRow w.heap.size 9 1 (.slice (some ⟨w.heap.size, 0, none⟩) 0 0) 0 []) := Lib.hid (World.ownsRow_lit w #[] 0 (Nat.le_refl _) (by unfold maxLen; omega) rfl)
    have H63 : Hid (0 + ls.length ≤ maxLen) := Lib.hid (by unfold maxLen; omega)
    have HBY : Hid ((0 + ls.length) * 16 ≤ 140737488355328) := Lib.hid (by omega)
    have HBA : Hid (w.heap.size ≤ (w.alloc (.cells #[] 9)).heap.size) := Lib.hid (by simp)
    clear hA
    go_enter Tryz.func110, Tryz.ntmps110
    go_wp2_with (at_builtin; refine wpList_append_own _ rfl (.tmp 5) (.tmp 6) 22 rfl w.heap.size 9 i0 _ 1 16 Tryz.underlying22 hi0 hz0 hz1 hz2 rfl (by decide) _ _ _ rfl HO.out ad ls.length c (ls.map S) rfl (by simp) HN.out (S_one _) H63.out HBY.out HBA.out ?_; intro v' w1 hown' hgrow _)
    go_ret
    refine ⟨⟨_, rfl, by simpa using hown'⟩, ?_⟩
    exact ((Below.refl _ _).alloc (Nat.le_refl _) _).grown hgrow HBA.out (own_ge HO.out)

theorem own_strs {w : World} {base : Nat} {v : Value} {ls : List (List UInt8)} (h : OwnS w base v ls) (hl : ls ≠ []) : ∃ g c z, v = .slice (some ⟨g, 0, none⟩) ls.length c ∧ base ≤ g ∧ Whole w g 9 (ls.map S ++ z).toArray ∧ ls.length ≤ c := by
  rcases h.2 with ⟨_, hx⟩ | ⟨g, cap, cur, rfl, hb, hh, hnc, hm, hs, hcur⟩
  · exact absurd (List.eq_nil_of_length_eq_zero hx) hl
  · refine ⟨g, cap, cur.toList.drop (ls.length * 1), rfl, hb, ?_, hnc⟩
    have e : ls.map S ++ cur.toList.drop (ls.length * 1) = cur.toList := by
      conv => lhs; rw [← hcur]
      exact List.take_append_drop _ _
    rw [e, Array.toArray_toList]; exact hh
theorem set_strs {ls : List (List UInt8)} {z : List Value} {k : Nat} (hk : k < ls.length) (x : List UInt8) : (ls.map S ++ z).set k (S x) = (ls.set k x).map S ++ z := by
  rw [List.set_append_left _ _ (by simpa using hk), List.map_set]
set_option maxRecDepth 100000 in
set_option maxHeartbeats 4000000 in
theorem mcopy_any (w : World) (A : Option Addr) (c : Nat) (sp : List Pg) (fs : List (List UInt8)) (ad n fr pl : Nat) (f : List UInt8) (h : Spot sp fs ad n fr pl f) (hn : 0 < n) (hA : Strs w w.heap.size A fs) :
    Calls Tryz.prog 119 #[.slice A fs.length c, .agg (pgCells sp).toArray, .int .u32 (ad : Int), .int .i64 (n : Int)] w fun e w' => e = .returned (.tuple #[S ((f.drop pl).take n), .bool true]) ∧ Below w.heap.size w w' := by
  have hpl : (pgCells sp).length = 48 := by rw [pgCells_length, h.len]
  have hs0 := (Whole.made w 22 #[.slice A fs.length c]).block (.cells (pgCells sp).toArray 42)
  have hs1 := Whole.made (w.alloc (.cells #[.slice A fs.length c] 22)) 42 (pgCells sp).toArray
  rw [show (w.alloc (.cells #[.slice A fs.length c] 22)).heap.size = w.heap.size + 1 by simp] at hs1
  have hb : Below w.heap.size w ((w.alloc (.cells #[.slice A fs.length c] 22)).alloc (.cells (pgCells sp).toArray 42)) := ((Below.refl _ _).alloc (by first | exact Nat.le_refl _ | simp | (simp; omega)) _).alloc (by first | exact Nat.le_refl _ | simp | (simp; omega)) _
  go_enter Tryz.func119, Tryz.ntmps119
  go_upto_region 1 with (fail)
  change Code.wp _ _ _ _ ((w.alloc (.cells #[.slice A fs.length c] 22)).alloc (.cells (pgCells sp).toArray 42))
  generalize ((w.alloc (.cells #[.slice A fs.length c] 22)).alloc (.cells (pgCells sp).toArray 42)) = w1 at *
  generalize hgx : w.heap.size = gx at *
  have HGX := Lib.hid hgx
  have HS0 := Lib.hid hs0
  have HS1 := Lib.hid hs1
  have HW := Lib.hid hb
  have hgl : gx + 1 < w1.heap.size := hs1.lt
  clear hgx hb hs0 hs1
  go_upto_region 2 with (fail)
  have HP := Lib.hid (Whole.made w1 66 #[.slice none 0 0])
  have HV := Lib.hid ((Below.refl gx w1).alloc (by omega) (.cells #[.slice none 0 0] 66))
  have HSA := Lib.hid (HS0.out.block (.cells #[.slice none 0 0] 66))
  have HSB := Lib.hid (HS1.out.block (.cells #[.slice none 0 0] 66))
  generalize w1.alloc (.cells #[.slice none 0 0] 66) = w2 at *
  generalize w1.heap.size = gb at *
  have h02 : gx + 1 < w2.heap.size := HSB.out.lt
  obtain ⟨dd, HDD⟩ : ∃ z, Hid ((f.drop pl).take n = z) := ⟨_, Lib.hid rfl⟩
  have HA2 : Hid (Strs w2 w2.heap.size A fs) := Lib.hid (Lies.wide (Lies.below hA (HW.out.trans HV.out)) (by omega))
  have CP := Lib.hid (piecesc_any w2 A c sp fs ad n fr pl f h hn HA2.out false (.pointer (some ⟨gb, 0, none⟩)) (.pointer (some ⟨gx, 0, none⟩)) (fun W' => (∃ v, Whole W' gb 66 #[v] ∧ OwnB W' 0 v dd) ∧ Below gx w2 W') (fun W hW =>
    (copyc_any W A c sp fs ad n fr pl f h ((Lies.below HA2.out hW).wide hW.size) gx gb gx (by have := hW.size; omega) (by omega) (HP.out.below hW HP.out.lt) ((HSA.out.below hW HSA.out.lt).cell 0) (by have := hW.size; omega)).mono (by
      rintro e w3 ⟨rfl, hv, hb⟩
      rw [HDD.out] at hv
      exact ⟨rfl, hv, (hW.mono (by omega)).trans hb⟩)))
  have LD := Lib.hid HSB.out.reads
  have MI : Hid ((Tryz.prog.info? 42).map (·.size) = some (pgCells sp).length) := Lib.hid (by rw [hpl]; exact Tryz.sizeSpace)
  have c0 : w2.cell? ⟨gx, 0, none⟩ = some (.slice A fs.length c) := HSA.out.cell 0
  have HDN : Hid (dd ≠ []) := Lib.hid (by
    intro e
    have hdl : ((f.drop pl).take n).length = n := by rw [List.length_take, List.length_drop]; have := h.fl; have := h.room; omega
    rw [HDD.out, e] at hdl; simp at hdl; omega)
  clear h hn hA hpl HA2
  go_wp2_with (refine wpList_load_at rfl 42 (.tmp 5) rfl ⟨gx + 1, 0, none⟩ rfl (pgCells sp) _ LD.out Tryz.underlying42 rfl MI.out ?_)
  refine CP.out.mono ?_
  rintro e w3 ⟨rfl, ⟨v, hw, ho⟩, hb⟩
  obtain ⟨ga, ca, rfl, hcv⟩ := own_conv ho HDN.out
  have cv := hcv w3 (Below.refl _ _)
  have cb : w3.cell? ⟨gb, 0, none⟩ = some (.slice (some ga) dd.length ca) := hw.cell 0
  have HB := Lib.hid hb
  clear CP LD hw ho hcv hb c0
  go_wp2_with fail
  refine bodyPost_ret (v := .tuple #[S dd, .bool true]) (by simp [results, Tryz.results119, go_sem]) rfl ?_
  exact ⟨by rw [HDD.out], by rw [HGX.out]; exact HW.out.trans (HV.out.trans HB.out)⟩
set_option maxRecDepth 100000 in
set_option maxHeartbeats 4000000 in
theorem layc_any (w : World) (sp : List Pg) (fs : List (List UInt8)) (ad fr pl : Nat) (f d : List UInt8) (h : Spot sp fs ad d.length fr pl f) (B gl gL gd cl : Nat) (z : List Value) (hB : B ≤ w.heap.size) (hBL : B ≤ gL) (hBd : B ≤ gd) (hl : w.cell? ⟨gl, 0, none⟩ = some (.slice (some ⟨gL, 0, none⟩) fs.length cl)) (hll : gl < w.heap.size) (hL : Whole w gL 9 (fs.map S ++ z).toArray) (hd : Whole w gd 9 #[S d]) (hne : gL ≠ gd) (hlgd : gl ≠ gd) (hlgL : gl ≠ gL) :
    Calls Tryz.prog 112 #[.int .i64 (fr : Int), .int .i64 (pl : Int), .int .i64 (d.length : Int), .pointer (some ⟨gl, 0, none⟩), .pointer (some ⟨gd, 0, none⟩)] w fun e w' => e = .returned (.tuple #[]) ∧ Whole w' gL 9 ((fs.set fr (putF f pl d)).map S ++ z).toArray ∧ w'.cell? ⟨gl, 0, none⟩ = some (.slice (some ⟨gL, 0, none⟩) fs.length cl) ∧ Below B w w' := by
  have hlt : fr < fs.length := (List.getElem?_eq_some_iff.1 h.frm).1
  have hfl := h.fl
  have hrm := h.room
  have hfrl := h.frl
  have i0 : (0 : Int) ≤ (fr : Int) := by omega
  have i1 : (fr : Int) < (fs.length : Int) := by omega
  have CLl : Hid (∀ W, Below w.heap.size w W → W.cell? ⟨gl, 0, none⟩ = some (.slice (some ⟨gL, 0, none⟩) fs.length cl)) := Lib.hid fun W hS => (hS.cell (p := ⟨gl, 0, none⟩) hll).trans hl
  have CD : Hid (∀ W, Below w.heap.size w W → W.cell? ⟨gd, 0, none⟩ = some (S d)) := Lib.hid fun W hS => (hd.below hS hd.lt).cell 0
  have CF : Hid (∀ W, Below w.heap.size w W → W.cell? ⟨gL, fr, none⟩ = some (S f)) := Lib.hid fun W hS => by
    rw [(hL.below hS hL.lt).cell, List.getElem?_toArray, List.getElem?_append_left (by simpa using hlt), List.getElem?_map, h.frm]; rfl
  have HLl := Lib.hid hL
  have HD := Lib.hid hd
  have hLlt := hL.lt
  have hdlt := hd.lt
  have r1 := fun W => run_to_S d .i64 (d.length : Int) d.length rfl (Nat.le_refl _) W
  have r2 := fun W => run_from_S d .i64 (d.length : Int) d.length rfl (Nat.le_refl _) W
  rw [List.take_length] at r1
  rw [List.drop_length] at r2
  have CP : Hid (∀ W : World, Calls Tryz.prog 113 #[S f, .int .i64 (pl : Int), S d] W fun e w' => e = .returned (S (putF f pl d)) ∧ Below W.heap.size W w') := Lib.hid fun W => put_any W f d pl hfl hrm
  have HFR := Lib.hid h.frm
  clear h hL hd hl hfl hrm
  go_enter Tryz.func112, Tryz.ntmps112
  go_upto_region 0 with (fail)
  refine' wp_region_sure (by kernel_rfl) (fun W => Below w.heap.size w W) 12 [_, _, _, _, _, _, _, _, _, _, _, _] [some 8, some 9, some 10, some 11, some 12, some 13, some 14, some 15, some 16, some 17, some 18, some 19] (by kernel_rfl) (by kernel_rfl) (by kernel_rfl) (by kernel_rfl) rfl (Below.refl _ _).drew ?hs1
  case hs1 =>
    refine sure_cons ?_ ?_
    · intro L ac W K hed hJ hS hK
      have hA3 : ac.eval (.tmp 3) = .pointer (some ⟨gl, 0, none⟩) := hJ.eval_old 3 (by kernel_rfl)
      clear hed hJ
      refine opStep_of rfl ?_
      have cc := CLl.out W hS
      unfold Oper.wp execOp
      have hN3 := evalN hA3
      go_simp
      exact hK _ hS
    refine sure_cons ?_ ?_
    · intro L ac W K hed hJ hS hK
      have hA0 : ac.eval (.tmp 0) = .int .i64 (fr : Int) := hJ.eval_old 0 (by kernel_rfl)
      clear hed hJ
      refine opStep_of rfl ?_
      unfold Oper.wp execOp
      have hN0 := evalN hA0
      go_simp
      exact hK _ hS
    refine sure_cons ?_ ?_
    · intro L ac W K hed hJ hS hK
      have hA3 : ac.eval (.tmp 3) = .pointer (some ⟨gl, 0, none⟩) := hJ.eval_old 3 (by kernel_rfl)
      clear hed hJ
      refine opStep_of rfl ?_
      have cc := CLl.out W hS
      unfold Oper.wp execOp
      have hN3 := evalN hA3
      go_simp
      exact hK _ hS
    refine sure_cons ?_ ?_
    · intro L ac W K hed hJ hS hK
      have hA0 : ac.eval (.tmp 0) = .int .i64 (fr : Int) := hJ.eval_old 0 (by kernel_rfl)
      clear hed hJ
      refine opStep_of rfl ?_
      unfold Oper.wp execOp
      have hN0 := evalN hA0
      go_simp
      exact hK _ hS
    refine sure_cons ?_ ?_
    · intro L ac W K hed hJ hS hK
      have hn := needs_spec (l := [2, 3]) (by kernel_rfl) hed
      have hA10 := hJ.eval 2 (d := 10) (hn 2 (by simp)) rfl rfl rfl
      have hA11 := hJ.eval 3 (d := 11) (hn 3 (by simp)) rfl rfl rfl
      clear hed hJ hn
      refine opStep_of rfl ?_
      unfold Oper.wp execOp
      have hN10 := evalN hA10
      have hN11 := evalN hA11
      go_simp
      exact hK _ hS
    refine sure_cons ?_ ?_
    · intro L ac W K hed hJ hS hK
      have hn := needs_spec (l := [4]) (by kernel_rfl) hed
      have hA12 := hJ.eval 4 (d := 12) (hn 4 (by simp)) rfl rfl rfl
      clear hed hJ hn
      refine opStep_of rfl ?_
      have cc := CF.out W hS
      unfold Oper.wp execOp
      have hN12 := evalN hA12
      go_simp
      exact hK _ hS
    refine sure_cons ?_ ?_
    · intro L ac W K hed hJ hS hK
      have hA1 : ac.eval (.tmp 1) = .int .i64 (pl : Int) := hJ.eval_old 1 (by kernel_rfl)
      clear hed hJ
      refine opStep_of rfl ?_
      unfold Oper.wp execOp
      have hN1 := evalN hA1
      go_simp
      exact hK _ hS
    refine sure_cons ?_ ?_
    · intro L ac W K hed hJ hS hK
      have hA4 : ac.eval (.tmp 4) = .pointer (some ⟨gd, 0, none⟩) := hJ.eval_old 4 (by kernel_rfl)
      clear hed hJ
      refine opStep_of rfl ?_
      have cc := CD.out W hS
      unfold Oper.wp execOp
      have hN4 := evalN hA4
      go_simp
      exact hK _ hS
    refine sure_cons ?_ ?_
    · intro L ac W K hed hJ hS hK
      have hA2 : ac.eval (.tmp 2) = .int .i64 (d.length : Int) := hJ.eval_old 2 (by kernel_rfl)
      clear hed hJ
      refine opStep_of rfl ?_
      unfold Oper.wp execOp
      have hN2 := evalN hA2
      go_simp
      exact hK _ hS
    refine sure_cons ?_ ?_
    · intro L ac W K hed hJ hS hK
      have hn := needs_spec (l := [7, 8]) (by kernel_rfl) hed
      have hA15 := hJ.eval 7 (d := 15) (hn 7 (by simp)) rfl rfl rfl
      have hA16 := hJ.eval 8 (d := 16) (hn 8 (by simp)) rfl rfl rfl
      clear hed hJ hn
      refine opStep_of rfl ?_
      unfold Oper.wp execOp
      have hN15 := evalN hA15
      have hN16 := evalN hA16
      go_simp
      exact hK _ hS
    refine sure_cons ?_ ?_
    · intro L ac W K hed hJ hS hK
      have hn := needs_spec (l := [5, 6, 9]) (by kernel_rfl) hed
      have hA13 := hJ.eval 5 (d := 13) (hn 5 (by simp)) rfl rfl rfl
      have hA14 := hJ.eval 6 (d := 14) (hn 6 (by simp)) rfl rfl rfl
      have hA17 := hJ.eval 9 (d := 17) (hn 9 (by simp)) rfl rfl rfl
      clear hed hJ hn
      refine opStep_of rfl ?_
      unfold Oper.wp execOp
      have hN13 := evalN hA13
      have hN14 := evalN hA14
      have hN17 := evalN hA17
      go_simp
      refine (CP.out W).mono ?_
      rintro e W' ⟨rfl, hb⟩
      have hS2 := hS.trans (hb.mono hS.size)
      dsimp only
      exact hK W' hS2
    refine sure_cons ?_ ?_
    · intro L ac W K hed hJ hS hK
      have hn := needs_spec (l := [0, 1]) (by kernel_rfl) hed
      have hA8 := hJ.eval 0 (d := 8) (hn 0 (by simp)) rfl rfl rfl
      have hA9 := hJ.eval 1 (d := 9) (hn 1 (by simp)) rfl rfl rfl
      clear hed hJ hn
      refine opStep_of rfl ?_
      unfold Oper.wp execOp
      have hN8 := evalN hA8
      have hN9 := evalN hA9
      go_simp
      exact hK _ hS
    refine sure_nil ?_
    intro W hS
    simp only [putAll, Act.put, List.setIfInBounds_toArray, List.set_cons_zero, List.set_cons_succ]
    have HS := Lib.hid hS
    have HLW := Lib.hid (HLl.out.below hS hLlt)
    have HDW := Lib.hid (HD.out.below hS hdlt)
    have c4 : W.cell? ⟨gL, fr, none⟩ = some (S f) := CF.out W hS
    have y4 := HLW.out.free fr
    have cl0 := CLl.out W hS
    have HLS := Lib.hid (HLW.out.set fr (S (putF f pl d)))
    have HDS := Lib.hid (HDW.out.far (p := ⟨gL, fr, none⟩) (fun e => hne e.symm) (S (putF f pl d)))
    have cd : (W.setCell ⟨gL, fr, none⟩ (S (putF f pl d))).cell? ⟨gd, 0, none⟩ = some (S d) := HDS.out.cell 0
    have yd := HDS.out.free 0
    clear hS
    go_wp2_with fail
    refine bodyPost_end (v := .tuple #[]) (by simp [results, Tryz.results112, go_sem]) rfl ?_
    refine ⟨rfl, ?_, ?_, ?_⟩
    · have := HLS.out.far (p := ⟨gd, 0, none⟩) hne (S [])
      rw [List.setIfInBounds_toArray, set_strs hlt] at this
      exact this
    · rw [World.cell?_setCell_other _ _ _ _ (fun e => hlgd (congrArg Addr.block e).symm), World.cell?_setCell_other _ _ _ _ (fun e => hlgL (congrArg Addr.block e).symm)]
      exact cl0
    · exact ((HS.out.mono hB).setCell (p := ⟨gL, fr, none⟩) hBL _).setCell (p := ⟨gd, 0, none⟩) hBd _
set_option maxRecDepth 100000 in
set_option maxHeartbeats 4000000 in
theorem mlay_any (w : World) (A : Option Addr) (c : Nat) (sp : List Pg) (fs : List (List UInt8)) (ad fr pl : Nat) (f d : List UInt8) (h : Spot sp fs ad d.length fr pl f) (hn : 0 < d.length) (hA : Strs w w.heap.size A fs) :
    Calls Tryz.prog 68 #[.slice A fs.length c, .agg (pgCells sp).toArray, .int .u32 (ad : Int), S d] w fun e w' => (∃ gL cl z, e = .returned (.tuple #[.slice (some ⟨gL, 0, none⟩) fs.length cl, .bool true]) ∧ w.heap.size ≤ gL ∧ fs.length ≤ cl ∧ Whole w' gL 9 ((fs.set fr (putF f pl d)).map S ++ z).toArray) ∧ Below w.heap.size w w' := by
  have hpl : (pgCells sp).length = 48 := by rw [pgCells_length, h.len]
  have hs0 := (Whole.made w 42 (pgCells sp).toArray).block (.cells #[S d] 9)
  have hs1 := Whole.made (w.alloc (.cells (pgCells sp).toArray 42)) 9 #[S d]
  rw [show (w.alloc (.cells (pgCells sp).toArray 42)).heap.size = w.heap.size + 1 by simp] at hs1
  have hb : Below w.heap.size w ((w.alloc (.cells (pgCells sp).toArray 42)).alloc (.cells #[S d] 9)) := ((Below.refl _ _).alloc (by first | exact Nat.le_refl _ | simp | (simp; omega)) _).alloc (by first | exact Nat.le_refl _ | simp | (simp; omega)) _
  go_enter Tryz.func68, Tryz.ntmps68
  go_upto_region 1 with (fail)
  change Code.wp _ _ _ _ ((w.alloc (.cells (pgCells sp).toArray 42)).alloc (.cells #[S d] 9))
  generalize ((w.alloc (.cells (pgCells sp).toArray 42)).alloc (.cells #[S d] 9)) = w1 at *
  generalize hgx : w.heap.size = gx at *
  have HGX := Lib.hid hgx
  have HS0 := Lib.hid hs0
  have HS1 := Lib.hid hs1
  have HW := Lib.hid hb
  have hgl : gx + 1 < w1.heap.size := hs1.lt
  clear hgx hb hs0 hs1
  have hfrl := h.frl
  have hfn : fs ≠ [] := by
    rintro rfl
    have := h.frm
    simp at this
  have HFN := Lib.hid hfn
  have HA := Lib.hid hA
  have CC := Lib.hid (cloneS_any w1 A c fs (Lies.wide (Lies.below hA HW.out) (by omega)) (by omega))
  clear hA hfn hfrl
  go_upto_region 2 with fail
  refine CC.out.mono ?_
  rintro e w2 ⟨⟨v, rfl, ho⟩, hb⟩
  obtain ⟨gL, cl, z, rfl, hgL, hL, hcl⟩ := own_strs ho HFN.out
  have HCL := Lib.hid hcl
  clear hcl
  have HV := Lib.hid hb
  have HSA := Lib.hid (HS0.out.below hb (by omega))
  have HSB := Lib.hid (HS1.out.below hb (by omega))
  have HLL := Lib.hid hL
  have h12 := hb.size
  clear ho hb hL CC
  go_upto_region 2 with (fail)
  have HP := Lib.hid (Whole.made w2 22 #[.slice (some ⟨gL, 0, none⟩) fs.length cl])
  have HV2 := Lib.hid ((Below.refl gx w2).alloc (by omega) (.cells #[.slice (some ⟨gL, 0, none⟩) fs.length cl] 22))
  have HSA2 := Lib.hid (HSA.out.block (.cells #[.slice (some ⟨gL, 0, none⟩) fs.length cl] 22))
  have HSB2 := Lib.hid (HSB.out.block (.cells #[.slice (some ⟨gL, 0, none⟩) fs.length cl] 22))
  have HLL2 := Lib.hid (HLL.out.block (.cells #[.slice (some ⟨gL, 0, none⟩) fs.length cl] 22))
  have hL2 := HLL.out.lt
  generalize w2.alloc (.cells #[.slice (some ⟨gL, 0, none⟩) fs.length cl] 22) = w3 at *
  generalize w2.heap.size = gl at *
  have h03 : gl < w3.heap.size := HP.out.lt
  have HW3 := Lib.hid (HW.out.trans ((HV.out.mono (by omega)).trans HV2.out))
  have HA3 : Hid (Strs w3 w3.heap.size A fs) := Lib.hid (Lies.wide (Lies.below HA.out HW3.out) (by omega))
  have CP := Lib.hid (piecesl_any w3 A c sp fs ad d.length fr pl f h hn HA3.out true (.pointer (some ⟨gl, 0, none⟩)) (.pointer (some ⟨gx + 1, 0, none⟩)) (fun W' => Whole W' gL 9 ((fs.set fr (putF f pl d)).map S ++ z).toArray ∧ W'.cell? ⟨gl, 0, none⟩ = some (.slice (some ⟨gL, 0, none⟩) fs.length cl) ∧ Below gx w3 W') (fun W hW =>
    (layc_any W sp fs ad fr pl f d h gx gl gL (gx + 1) cl z (by have := hW.size; omega) (by omega) (by omega) ((HP.out.below hW HP.out.lt).cell 0) (by have := hW.size; omega) (HLL2.out.below hW HLL2.out.lt) (HSB2.out.below hW HSB2.out.lt) (by omega) (by omega) (by omega)).mono (by
      rintro e w4 ⟨rfl, hv, hc, hb⟩
      exact ⟨rfl, hv, hc, (hW.mono (by omega)).trans hb⟩)))
  have LD := Lib.hid HSA2.out.reads
  have MI : Hid ((Tryz.prog.info? 42).map (·.size) = some (pgCells sp).length) := Lib.hid (by rw [hpl]; exact Tryz.sizeSpace)
  have c0 : w3.cell? ⟨gx + 1, 0, none⟩ = some (S d) := HSB2.out.cell 0
  clear h hn hpl HA3
  go_wp2_with (refine wpList_load_at rfl 42 (.tmp 5) rfl ⟨gx, 0, none⟩ rfl (pgCells sp) _ LD.out Tryz.underlying42 rfl MI.out ?_)
  refine CP.out.mono ?_
  rintro e w4 ⟨rfl, hw, hc, hb⟩
  have HB := Lib.hid hb
  have HWL := Lib.hid hw
  clear CP LD hw hb c0
  go_wp2_with fail
  refine bodyPost_ret (v := .tuple #[.slice (some ⟨gL, 0, none⟩) fs.length cl, .bool true]) (by simp [results, Tryz.results68, go_sem]) rfl ?_
  exact ⟨⟨gL, cl, z, rfl, by rw [HGX.out]; omega, HCL.out, HWL.out⟩, by rw [HGX.out]; exact HW3.out.trans HB.out⟩
end Go.Proofs.YtdhfblfnejmeiaaGreatDoor
