/-
  Walks: hibernacleref32.of, (T).text, Read.
-/
import Derived.Test.YtecamaceainfpaaDoorRTexts
import Derived.Test.YtecamaceainfpaaDoorRead
namespace Go.Proofs.YtecamaceainfpaaDoor
open Go.RowKit

/-- the texts of a row, so many -/
def ofL (b : List UInt8) (z : Int) : Option (List (List UInt8)) :=
  match textsA [] b with
  | .ok ls => if 0 ≤ z ∧ (ls.length : Int) ≠ z then none else some ls
  | .error _ => none
theorem ofL_nil : ofL [] (-1) = some [] := by simp [ofL, textsA_nil]
theorem ofL_ok {t : List UInt8} {f : List (List UInt8)} (h : ofL t (-1) = some f) : textsA [] t = .ok f := by
  unfold ofL at h
  cases hT : textsA [] t with
  | error x => rw [hT] at h; cases h
  | ok ls => rw [hT] at h; dsimp only at h; rw [if_neg (by omega)] at h; injection h with h; rw [h]
theorem ofL_err {t : List UInt8} (h : ofL t (-1) = none) : ∃ x, textsA [] t = .error x := by
  unfold ofL at h
  cases hT : textsA [] t with
  | error x => exact ⟨x, rfl⟩
  | ok ls => rw [hT] at h; dsimp only at h; rw [if_neg (by omega)] at h; cases h
theorem ofL_four {b : List UInt8} {ls : List (List UInt8)} (h : ofL b 4 = some ls) : textsA [] b = .ok ls ∧ ls.length = 4 := by
  unfold ofL at h
  cases hT : textsA [] b with
  | error x => rw [hT] at h; cases h
  | ok l =>
    rw [hT] at h
    dsimp only at h
    split at h
    · cases h
    · injection h with h; subst h; exact ⟨rfl, by omega⟩
def Of32Post (w : World) (q : Option (List (List UInt8))) (e : Ending) (w' : World) : Prop :=
  (match q with
    | none => e = .returned (.agg #[.slice none 0 0, .bool true])
    | some ls => ∃ G k, e = .returned (.agg #[.slice G ls.length k, .bool false]) ∧ Strs w' w'.heap.size G ls ∧ ls.length ≤ k ∧ ∀ ad, G = some ad → w.heap.size ≤ ad.block) ∧ Below w.heap.size w w'
theorem lies_set2 {w : World} {p : Nat} {A : Option Addr} {xs : List Value} {a' b' : Value} (h : Lies w w.heap.size A xs) (hg : ∀ ad, A = some ad → p < ad.block) :
    Lies ((w.setCell ⟨p, 0, none⟩ a').setCell ⟨p, 1, none⟩ b') ((w.setCell ⟨p, 0, none⟩ a').setCell ⟨p, 1, none⟩ b').heap.size A xs := fun k u hu => by
  obtain ⟨ad, e, hb, hc⟩ := h k u hu
  have hp := hg ad e
  refine ⟨ad, e, by simpa [World.setCell] using hb, ?_⟩
  have hn : ∀ o, (⟨p, o, none⟩ : Addr) ≠ ad.add k := fun o e2 => by
    have := congrArg Addr.block e2
    rw [add_block] at this
    simp only at this
    omega
  rw [World.cell?_setCell_other _ _ _ _ (hn 1), World.cell?_setCell_other _ _ _ _ (hn 0)]
  exact hc
theorem below_set2 {B p : Nat} {w0 w : World} {a' b' : Value} (h : Below B w0 w) (hp : B ≤ p) : Below B w0 ((w.setCell ⟨p, 0, none⟩ a').setCell ⟨p, 1, none⟩ b') := (h.setCell (p := ⟨p, 0, none⟩) hp a').setCell (p := ⟨p, 1, none⟩) hp b'
theorem own_cap {w : World} {base : Nat} {e : TypeId} {size n : Nat} {G : Option Addr} {k : Nat} {xs : List Value} (h : w.ownsRow base e size (.slice G n k) n xs) : n ≤ k := by
  rcases h.2 with ⟨e1, e2⟩ | ⟨g, cap, cur, e1, _, _, hnc, _⟩
  · omega
  · injection e1 with _ _ e3; omega
set_option maxRecDepth 100000 in
set_option maxHeartbeats 2000000 in
theorem of32_any (w : World) (b : List UInt8) (z : Int) (hz : z = 4 ∨ z = -1) (hb : b.length ≤ 4294967296) :
    Calls Tryd.prog 63 #[S b, .int .i64 z] w (Of32Post w (ofL b z)) := by
  have HZ := Lib.hid (Whole.made w 91 #[.slice none 0 0, .bool false])
  have HW := Lib.hid ((Below.refl w.heap.size w).alloc (Nat.le_refl _) (.cells #[.slice none 0 0, .bool false] 91))
  go_enter Tryd.func63, Tryd.ntmps63
  go_wp2_with fail
  change Calls _ _ _ (w.alloc (.cells #[.slice none 0 0, .bool false] 91)) _
  generalize w.alloc (.cells #[.slice none 0 0, .bool false] 91) = w1 at *
  generalize hgx : w.heap.size = gx at *
  have HGX := Lib.hid hgx
  clear hgx
  refine (rtexts_any w1 b (by omega)).mono ?_
  rintro e w2 ⟨hm, hb2⟩
  have HZ2 := Lib.hid (HZ.out.below hb2 HZ.out.lt)
  have HW2 := Lib.hid (HW.out.trans (hb2.mono (by have := HZ.out.lt; omega)))
  have hgl := HZ.out.lt
  have z0 : w2.cell? ⟨gx, 0, none⟩ = some (Value.slice none 0 0) := HZ2.out.cell 0
  have z1 : w2.cell? ⟨gx, 1, none⟩ = some (Value.bool false) := HZ2.out.cell 1
  have y0 := HZ2.out.free 0
  have y1 := HZ2.out.free 1
  clear hb2 HZ HW
  cases hT : textsA [] b with
  | error x =>
    have HQ : Hid (ofL b z = none) := Lib.hid (by unfold ofL; rw [hT])
    have hx := textsA_err' _ _ _ _ (Nat.le_refl _) hT
    have hx0 : (x != 0) = true := by rcases hx with rfl | rfl <;> rfl
    rw [hT] at hm
    dsimp only at hm
    subst hm
    clear hT hx
    go_wp2_with fail
    refine bodyPost_ret (v := .agg #[.slice none 0 0, .bool true]) (by simp [results, Tryd.results63, go_sem, z0, z1]) rfl ?_
    unfold Of32Post
    rw [HQ.out, HGX.out]
    exact ⟨rfl, below_set2 HW2.out (Nat.le_refl _)⟩
  | ok ls =>
    rw [hT] at hm
    obtain ⟨v, rfl, ho⟩ := hm
    obtain ⟨G, kg, rfl, hlies, hgb⟩ := own_shape ho (by omega)
    have hcap := own_cap ho
    have HLG := Lib.hid hlies
    have NG : Hid (∀ ad, G = some ad → gx < ad.block) := Lib.hid (fun ad e => by have := hgb ad e; omega)
    clear ho hlies hgb
    by_cases hl : 0 ≤ z ∧ (ls.length : Int) ≠ z
    · have HQ : Hid (ofL b z = none) := Lib.hid (by unfold ofL; rw [hT]; dsimp only; rw [if_pos hl])
      obtain rfl : z = 4 := by omega
      have e4 : ((ls.length : Int) != 4) = true := by simp; omega
      clear hT hl hz
      go_wp2_with fail
      refine bodyPost_ret (v := .agg #[.slice none 0 0, .bool true]) (by simp [results, Tryd.results63, go_sem, z0, z1]) rfl ?_
      unfold Of32Post
      rw [HQ.out, HGX.out]
      exact ⟨rfl, below_set2 HW2.out (Nat.le_refl _)⟩
    · have HQ : Hid (ofL b z = some ls) := Lib.hid (by unfold ofL; rw [hT]; dsimp only; rw [if_neg hl])
      rcases hz with rfl | rfl
      · have e4 : ((ls.length : Int) != 4) = false := by simp; omega
        clear hT hl
        go_wp2_with fail
        refine bodyPost_ret (v := .agg #[.slice G ls.length kg, .bool false]) (by simp [results, Tryd.results63, go_sem, z0, z1]) rfl ?_
        unfold Of32Post
        rw [HQ.out, HGX.out]
        exact ⟨⟨G, kg, rfl, lies_set2 HLG.out NG.out, hcap, fun ad e => Nat.le_of_lt (NG.out ad e)⟩, below_set2 HW2.out (Nat.le_refl _)⟩
      · clear hT hl
        go_wp2_with fail
        refine bodyPost_ret (v := .agg #[.slice G ls.length kg, .bool false]) (by simp [results, Tryd.results63, go_sem, z0, z1]) rfl ?_
        unfold Of32Post
        rw [HQ.out, HGX.out]
        exact ⟨⟨G, kg, rfl, lies_set2 HLG.out NG.out, hcap, fun ad e => Nat.le_of_lt (NG.out ad e)⟩, below_set2 HW2.out (Nat.le_refl _)⟩

theorem add_add' (a : Addr) (i j : Nat) : (a.add i).add j = a.add (i + j) := by
  unfold Addr.add
  by_cases hi : i = 0 <;> by_cases hj : j = 0 <;> simp [hi, hj, Nat.add_assoc]
/-- what text gives back -/
def TextPost (w : World) (B : Nat) (ls : List (List UInt8)) (bad : Bool) (e : Ending) (w' : World) : Prop :=
  (∃ G k, e = .returned (.tuple #[.agg #[.slice G ls.tail.length k, .bool (bad || ls.isEmpty)], S (ls.headD [])]) ∧ Strs w' B G ls.tail ∧ ls.tail.length ≤ k) ∧ Below w.heap.size w w'
set_option maxRecDepth 100000 in
set_option maxHeartbeats 2000000 in
theorem text_any (w : World) (B : Nat) (A : Option Addr) (c : Nat) (ls : List (List UInt8)) (bad : Bool) (hA : Strs w B A ls) (hB : B ≤ w.heap.size) (hc : ls.length ≤ c) (hl : ls.length ≤ 4294967296) :
    Calls Tryd.prog 64 #[.agg #[.slice A ls.length c, .bool bad]] w (TextPost w B ls bad) := by
  have HBB : Hid (∀ o o' : Obj, Below w.heap.size w ((w.alloc o).alloc o')) := Lib.hid fun o o' => ((Below.refl _ _).alloc (Nat.le_refl _) _).alloc (by simp) _
  cases ls with
  | nil =>
    go_enter Tryd.func64, Tryd.ntmps64
    go_wp2_with fail
    refine bodyPost_ret (v := .tuple #[.agg #[.slice A 0 c, .bool true], S []]) (by simp [results, Tryd.results64, go_sem]) rfl ?_
    exact ⟨⟨A, c, by simp, Lies.none _ _ _, by simp⟩, HBB.out _ _⟩
  | cons x r =>
    obtain ⟨ad, rfl, had, c0⟩ := hA 0 _ rfl
    have c0' : w.cell? ad = some (S x) := c0
    have had' : ad.block < w.heap.size := by omega
    have HL : Hid (∀ o o' : Obj, Strs ((w.alloc o).alloc o') B (some ⟨ad.block, ad.off + 1, none⟩) r) := Lib.hid fun o o' j u hu => by
      obtain ⟨ad', e', hb', hc'⟩ := hA (j + 1) u (by simpa using hu)
      injection e' with e'
      subst e'
      refine ⟨_, rfl, had, ?_⟩
      show ((w.alloc o).alloc o').cell? ((ad.add 1).add j) = some u
      rw [add_add', show 1 + j = j + 1 by omega, World.cell?_alloc_lt _ _ _ (by rw [add_block]; simp; omega), World.cell?_alloc_lt _ _ _ (by rw [add_block]; omega)]
      exact hc'
    have e1 : ((r.length : Int) + 1 == 0) = false := by simp; omega
    have hcc : r.length + 1 ≤ c := hc
    by_cases hc1 : c = 1
    · subst hc1
      obtain rfl : r = [] := List.eq_nil_of_length_eq_zero (by omega)
      clear e1
      go_enter Tryd.func64, Tryd.ntmps64
      go_wp2_with fail
      refine bodyPost_ret (v := .tuple #[.agg #[.slice (some ad) 0 0, .bool bad], S x]) (by simp [results, Tryd.results64, go_sem]) rfl ?_
      exact ⟨⟨some ad, 0, by simp, Lies.none _ _ _, by simp⟩, HBB.out _ _⟩
    · go_enter Tryd.func64, Tryd.ntmps64
      go_wp2_with fail
      refine bodyPost_ret (v := .tuple #[.agg #[.slice (some ⟨ad.block, ad.off + 1, none⟩) r.length (c - 1), .bool bad], S x]) (by simp [results, Tryd.results64, go_sem]) rfl ?_
      exact ⟨⟨some ⟨ad.block, ad.off + 1, none⟩, c - 1, by simp, HL.out _ _, by simp; omega⟩, HBB.out _ _⟩

set_option maxRecDepth 100000 in
set_option maxHeartbeats 2000000 in
theorem rread_any (w : World) (b : List UInt8) (hb : b.length ≤ 4294967296) :
    Calls Tryd.prog 31 #[S b] w (ReadPost w (readL b)) := by
  have HZ := Lib.hid (Whole.made w 24 #[.slice none 0 0, .slice none 0 0, S []])
  have HW := Lib.hid ((Below.refl w.heap.size w).alloc (Nat.le_refl _) (.cells #[.slice none 0 0, .slice none 0 0, S []] 24))
  go_enter Tryd.func31, Tryd.ntmps31
  go_wp2_with fail
  change Calls _ _ _ (w.alloc (.cells #[.slice none 0 0, .slice none 0 0, S []] 24)) _
  generalize w.alloc (.cells #[.slice none 0 0, .slice none 0 0, S []] 24) = w1 at *
  generalize hgx : w.heap.size = gx at *
  have HGX := Lib.hid hgx
  clear hgx
  refine (of32_any w1 b 4 (.inl rfl) hb).mono ?_
  rintro e w2 ⟨hm, hb2⟩
  have HZ2 := Lib.hid (HZ.out.below hb2 HZ.out.lt)
  have HW2 := Lib.hid (HW.out.trans (hb2.mono (by have := HZ.out.lt; omega)))
  have hgl := HZ2.out.lt
  clear hb2 HZ HW
  cases hO : ofL b 4 with
  | none =>
    rw [hO] at hm
    dsimp only at hm
    subst hm
    have HQ : Hid (readL b = none) := Lib.hid (by
      cases hT : textsA [] b with
      | error x => exact readL_err hT
      | ok ls =>
        unfold ofL at hO
        rw [hT] at hO
        dsimp only at hO
        split at hO
        · rename_i h; exact readL_len hT (by intro h4; apply h.2; omega)
        · cases hO)
    clear hO
    have HP0 : Hid (Strs w2 w2.heap.size none ([] : List (List UInt8))) := Lib.hid (Lies.none _ _ _)
    have hk0 : ([] : List (List UInt8)).length ≤ 0 := Nat.le_refl _
    have hTB := Whole.made w2 91 #[.slice none 0 0, .bool true]
    have hZB := HZ2.out.block (.cells #[.slice none 0 0, .bool true] 91)
    have hWB := HW2.out.alloc (by omega) (.cells #[.slice none 0 0, .bool true] 91)
    have hPB := Lies.block HP0.out (Nat.le_refl _) (.cells #[.slice none 0 0, .bool true] 91)
    go_wp2_with fail
    change Calls _ _ _ (w2.alloc (.cells #[.slice none 0 0, .bool true] 91)) _
    generalize w2.alloc (.cells #[.slice none 0 0, .bool true] 91) = x0 at *
    generalize w2.heap.size = gt at *
    have HTB := Lib.hid hTB
    have HZB := Lib.hid hZB
    have HWB := Lib.hid hWB
    have HPB := Lib.hid hPB
    clear hTB hZB hWB hPB HZ2 HW2 HP0
    have hlt := HTB.out.lt
    refine (text_any x0 gt none 0 ([] : List (List UInt8)) true HPB.out (by omega) hk0 (by simp)).mono ?_
    rintro e y0 ⟨⟨P1, k1, rfl, hs, hk1⟩, hbl⟩
    have hTB := HTB.out.below hbl HTB.out.lt
    have hZB := HZB.out.below hbl HZB.out.lt
    have hWB := HWB.out.trans (hbl.mono (by omega))
    have t0' : y0.cell? ⟨gt, 0, none⟩ = some (Value.slice none 0 0) := hTB.cell 0
    have t1' : y0.cell? ⟨gt, 1, none⟩ = some (Value.bool true) := hTB.cell 1
    have f0' := hTB.free 0
    have f1' := hTB.free 1
    have hTC : Whole ((y0.setCell ⟨gt, 0, none⟩ (Value.slice P1 0 k1)).setCell ⟨gt, 1, none⟩ (Value.bool true)) gt 91 #[Value.slice P1 0 k1, .bool true] := (hTB.set 0 (Value.slice P1 0 k1)).set 1 (Value.bool true)
    have hZC := (hZB.far (p := ⟨gt, 0, none⟩) (by show gx ≠ gt; omega) (Value.slice P1 0 k1)).far (p := ⟨gt, 1, none⟩) (by show gx ≠ gt; omega) (Value.bool true)
    have hWC := below_set2 (p := gt) (a' := Value.slice P1 0 k1) (b' := Value.bool true) hWB (by omega)
    have hPC : Strs ((y0.setCell ⟨gt, 0, none⟩ (Value.slice P1 0 k1)).setCell ⟨gt, 1, none⟩ (Value.bool true)) gt P1 ([] : List (List UInt8)) := Lies.put (p := ⟨gt, 1, none⟩) (Lies.put (p := ⟨gt, 0, none⟩) hs (Nat.le_refl _) _) (Nat.le_refl _) _
    clear hTB hZB hWB hs hbl HTB HZB HWB HPB hlt
    go_wp2_with fail
    change Calls _ _ _ ((y0.setCell ⟨gt, 0, none⟩ (Value.slice P1 0 k1)).setCell ⟨gt, 1, none⟩ (Value.bool true)) _
    generalize (y0.setCell ⟨gt, 0, none⟩ (Value.slice P1 0 k1)).setCell ⟨gt, 1, none⟩ (Value.bool true) = x1 at *
    clear t0' t1' f0' f1'
    have HTB := Lib.hid hTC
    have HZB := Lib.hid hZC
    have HWB := Lib.hid hWC
    have HPB := Lib.hid hPC
    clear hTC hZC hWC hPC
    have hlt := HTB.out.lt
    refine (text_any x1 gt P1 k1 ([] : List (List UInt8)) true HPB.out (by omega) hk1 (by simp)).mono ?_
    rintro e y1 ⟨⟨P2, k2, rfl, hs, hk2⟩, hbl⟩
    have hTB := HTB.out.below hbl HTB.out.lt
    have hZB := HZB.out.below hbl HZB.out.lt
    have hWB := HWB.out.trans (hbl.mono (by omega))
    have t0' : y1.cell? ⟨gt, 0, none⟩ = some (Value.slice P1 0 k1) := hTB.cell 0
    have t1' : y1.cell? ⟨gt, 1, none⟩ = some (Value.bool true) := hTB.cell 1
    have f0' := hTB.free 0
    have f1' := hTB.free 1
    have hTC : Whole ((y1.setCell ⟨gt, 0, none⟩ (Value.slice P2 0 k2)).setCell ⟨gt, 1, none⟩ (Value.bool true)) gt 91 #[Value.slice P2 0 k2, .bool true] := (hTB.set 0 (Value.slice P2 0 k2)).set 1 (Value.bool true)
    have hZC := (hZB.far (p := ⟨gt, 0, none⟩) (by show gx ≠ gt; omega) (Value.slice P2 0 k2)).far (p := ⟨gt, 1, none⟩) (by show gx ≠ gt; omega) (Value.bool true)
    have hWC := below_set2 (p := gt) (a' := Value.slice P2 0 k2) (b' := Value.bool true) hWB (by omega)
    have hPC : Strs ((y1.setCell ⟨gt, 0, none⟩ (Value.slice P2 0 k2)).setCell ⟨gt, 1, none⟩ (Value.bool true)) gt P2 ([] : List (List UInt8)) := Lies.put (p := ⟨gt, 1, none⟩) (Lies.put (p := ⟨gt, 0, none⟩) hs (Nat.le_refl _) _) (Nat.le_refl _) _
    clear hTB hZB hWB hs hbl HTB HZB HWB HPB hlt
    go_wp2_with fail
    change Calls _ _ _ ((y1.setCell ⟨gt, 0, none⟩ (Value.slice P2 0 k2)).setCell ⟨gt, 1, none⟩ (Value.bool true)) _
    generalize (y1.setCell ⟨gt, 0, none⟩ (Value.slice P2 0 k2)).setCell ⟨gt, 1, none⟩ (Value.bool true) = x2 at *
    clear t0' t1' f0' f1'
    have HTB := Lib.hid hTC
    have HZB := Lib.hid hZC
    have HWB := Lib.hid hWC
    have HPB := Lib.hid hPC
    clear hTC hZC hWC hPC
    have hlt := HTB.out.lt
    refine (text_any x2 gt P2 k2 ([] : List (List UInt8)) true HPB.out (by omega) hk2 (by simp)).mono ?_
    rintro e y2 ⟨⟨P3, k3, rfl, hs, hk3⟩, hbl⟩
    have hTB := HTB.out.below hbl HTB.out.lt
    have hZB := HZB.out.below hbl HZB.out.lt
    have hWB := HWB.out.trans (hbl.mono (by omega))
    have t0' : y2.cell? ⟨gt, 0, none⟩ = some (Value.slice P2 0 k2) := hTB.cell 0
    have t1' : y2.cell? ⟨gt, 1, none⟩ = some (Value.bool true) := hTB.cell 1
    have f0' := hTB.free 0
    have f1' := hTB.free 1
    have hTC : Whole ((y2.setCell ⟨gt, 0, none⟩ (Value.slice P3 0 k3)).setCell ⟨gt, 1, none⟩ (Value.bool true)) gt 91 #[Value.slice P3 0 k3, .bool true] := (hTB.set 0 (Value.slice P3 0 k3)).set 1 (Value.bool true)
    have hZC := (hZB.far (p := ⟨gt, 0, none⟩) (by show gx ≠ gt; omega) (Value.slice P3 0 k3)).far (p := ⟨gt, 1, none⟩) (by show gx ≠ gt; omega) (Value.bool true)
    have hWC := below_set2 (p := gt) (a' := Value.slice P3 0 k3) (b' := Value.bool true) hWB (by omega)
    have hPC : Strs ((y2.setCell ⟨gt, 0, none⟩ (Value.slice P3 0 k3)).setCell ⟨gt, 1, none⟩ (Value.bool true)) gt P3 ([] : List (List UInt8)) := Lies.put (p := ⟨gt, 1, none⟩) (Lies.put (p := ⟨gt, 0, none⟩) hs (Nat.le_refl _) _) (Nat.le_refl _) _
    clear hTB hZB hWB hs hbl HTB HZB HWB HPB hlt
    go_wp2_with fail
    change Calls _ _ _ ((y2.setCell ⟨gt, 0, none⟩ (Value.slice P3 0 k3)).setCell ⟨gt, 1, none⟩ (Value.bool true)) _
    generalize (y2.setCell ⟨gt, 0, none⟩ (Value.slice P3 0 k3)).setCell ⟨gt, 1, none⟩ (Value.bool true) = x3 at *
    clear t0' t1' f0' f1'
    have HTB := Lib.hid hTC
    have HZB := Lib.hid hZC
    have HWB := Lib.hid hWC
    have HPB := Lib.hid hPC
    clear hTC hZC hWC hPC
    have hlt := HTB.out.lt
    refine (text_any x3 gt P3 k3 ([] : List (List UInt8)) true HPB.out (by omega) hk3 (by simp)).mono ?_
    rintro e y3 ⟨⟨P4, k4, rfl, hs, hk4⟩, hbl⟩
    have hTB := HTB.out.below hbl HTB.out.lt
    have hZB := HZB.out.below hbl HZB.out.lt
    have hWB := HWB.out.trans (hbl.mono (by omega))
    have t0' : y3.cell? ⟨gt, 0, none⟩ = some (Value.slice P3 0 k3) := hTB.cell 0
    have t1' : y3.cell? ⟨gt, 1, none⟩ = some (Value.bool true) := hTB.cell 1
    have f0' := hTB.free 0
    have f1' := hTB.free 1
    have hTC : Whole ((y3.setCell ⟨gt, 0, none⟩ (Value.slice P4 0 k4)).setCell ⟨gt, 1, none⟩ (Value.bool true)) gt 91 #[Value.slice P4 0 k4, .bool true] := (hTB.set 0 (Value.slice P4 0 k4)).set 1 (Value.bool true)
    have hZC := (hZB.far (p := ⟨gt, 0, none⟩) (by show gx ≠ gt; omega) (Value.slice P4 0 k4)).far (p := ⟨gt, 1, none⟩) (by show gx ≠ gt; omega) (Value.bool true)
    have hWC := below_set2 (p := gt) (a' := Value.slice P4 0 k4) (b' := Value.bool true) hWB (by omega)
    have hPC : Strs ((y3.setCell ⟨gt, 0, none⟩ (Value.slice P4 0 k4)).setCell ⟨gt, 1, none⟩ (Value.bool true)) gt P4 ([] : List (List UInt8)) := Lies.put (p := ⟨gt, 1, none⟩) (Lies.put (p := ⟨gt, 0, none⟩) hs (Nat.le_refl _) _) (Nat.le_refl _) _
    clear hTB hZB hWB hs hbl HTB HZB HWB HPB hlt
    go_wp2_with fail
    change Calls _ _ _ ((y3.setCell ⟨gt, 0, none⟩ (Value.slice P4 0 k4)).setCell ⟨gt, 1, none⟩ (Value.bool true)) _
    generalize (y3.setCell ⟨gt, 0, none⟩ (Value.slice P4 0 k4)).setCell ⟨gt, 1, none⟩ (Value.bool true) = x4 at *
    clear t0' t1' f0' f1'
    have HTB := Lib.hid hTC
    have HZB := Lib.hid hZC
    have HWB := Lib.hid hWC
    have HPB := Lib.hid hPC
    clear hTC hZC hWC hPC
    have hlt := HTB.out.lt
    clear HPB
    refine (of32_any x4 ([] : List UInt8) (-1) (.inr rfl) (by simp)).mono ?_
    rintro e x5 ⟨hm, hbl⟩
    have hTB := HTB.out.below hbl HTB.out.lt
    have hZB := HZB.out.below hbl HZB.out.lt
    have hWB := HWB.out.trans (hbl.mono (by omega))
    have HBL := Lib.hid hbl
    have hszsx5 : gt < x4.heap.size := hlt
    clear hbl HTB HZB HWB hlt
    have HTB := Lib.hid hTB
    have HZB := Lib.hid hZB
    have HWB := Lib.hid hWB
    clear hTB hZB hWB
    have hlt := HTB.out.lt
    rw [ofL_nil] at hm
    obtain ⟨F, kf, rfl, hlf, _, _⟩ := hm
    clear hlf HBL
    go_wp2_with fail
    refine (of32_any x5 ([] : List UInt8) (-1) (.inr rfl) (by simp)).mono ?_
    rintro e x6 ⟨hm, hbl⟩
    have hTB := HTB.out.below hbl HTB.out.lt
    have hZB := HZB.out.below hbl HZB.out.lt
    have hWB := HWB.out.trans (hbl.mono (by omega))
    have HBL := Lib.hid hbl
    have hszsx6 : gt < x5.heap.size := hlt
    clear hbl HTB HZB HWB hlt
    have HTB := Lib.hid hTB
    have HZB := Lib.hid hZB
    have HWB := Lib.hid hWB
    clear hTB hZB hWB
    have hlt := HTB.out.lt
    rw [ofL_nil] at hm
    obtain ⟨F', kf', rfl, hlg, _, _⟩ := hm
    clear hlg HBL
    have t0' : x6.cell? ⟨gt, 0, none⟩ = some (Value.slice P4 0 k4) := HTB.out.cell 0
    have t1' : x6.cell? ⟨gt, 1, none⟩ = some (Value.bool true) := HTB.out.cell 1
    have z0 : x6.cell? ⟨gx, 0, none⟩ = some (Value.slice none 0 0) := HZB.out.cell 0
    have z1 : x6.cell? ⟨gx, 1, none⟩ = some (Value.slice none 0 0) := HZB.out.cell 1
    have z2 : x6.cell? ⟨gx, 2, none⟩ = some (S []) := HZB.out.cell 2
    have y0 := HZB.out.free 0
    have y1 := HZB.out.free 1
    have y2 := HZB.out.free 2
    have hlx := HZB.out.lt
    go_wp2_with fail
    refine bodyPost_ret (v := .tuple #[.agg #[.slice none 0 0, .slice none 0 0, S []], .int .i64 3]) (by simp [results, Tryd.results31, go_sem, z0, z1, z2, hlx]) rfl ?_
    unfold ReadPost
    rw [HQ.out, HGX.out]
    exact ⟨rfl, ((Below.set3 HWB.out (Nat.le_refl _)).alloc (by simp [World.setCell]; omega) _).alloc (by simp [World.setCell]; omega) _⟩
  | some ls =>
    obtain ⟨hTT, hl4⟩ := ofL_four hO
    rw [hO] at hm
    obtain ⟨t0, t1, t2, t3, rfl⟩ : ∃ t0 t1 t2 t3, ls = [t0, t1, t2, t3] := by
      match ls, hl4 with
      | [t0, t1, t2, t3], _ => exact ⟨t0, t1, t2, t3, rfl⟩
    obtain ⟨P0, k0, rfl, hP, hk0, _⟩ := hm
    have m1 := texts_mem hTT t1 (by simp)
    have m2 := texts_mem hTT t2 (by simp)
    have HTT := Lib.hid hTT
    have HP0 := Lib.hid hP
    clear hO hl4 hTT hP
    have hTB := Whole.made w2 91 #[.slice P0 4 k0, .bool false]
    have hZB := HZ2.out.block (.cells #[.slice P0 4 k0, .bool false] 91)
    have hWB := HW2.out.alloc (by omega) (.cells #[.slice P0 4 k0, .bool false] 91)
    have hPB := Lies.block HP0.out (Nat.le_refl _) (.cells #[.slice P0 4 k0, .bool false] 91)
    go_wp2_with fail
    change Calls _ _ _ (w2.alloc (.cells #[.slice P0 4 k0, .bool false] 91)) _
    generalize w2.alloc (.cells #[.slice P0 4 k0, .bool false] 91) = x0 at *
    generalize w2.heap.size = gt at *
    have HTB := Lib.hid hTB
    have HZB := Lib.hid hZB
    have HWB := Lib.hid hWB
    have HPB := Lib.hid hPB
    clear hTB hZB hWB hPB HZ2 HW2 HP0
    have hlt := HTB.out.lt
    refine (text_any x0 gt P0 k0 [t0, t1, t2, t3] false HPB.out (by omega) hk0 (by simp)).mono ?_
    rintro e y0 ⟨⟨P1, k1, rfl, hs, hk1⟩, hbl⟩
    have hTB := HTB.out.below hbl HTB.out.lt
    have hZB := HZB.out.below hbl HZB.out.lt
    have hWB := HWB.out.trans (hbl.mono (by omega))
    have t0' : y0.cell? ⟨gt, 0, none⟩ = some (Value.slice P0 4 k0) := hTB.cell 0
    have t1' : y0.cell? ⟨gt, 1, none⟩ = some (Value.bool false) := hTB.cell 1
    have f0' := hTB.free 0
    have f1' := hTB.free 1
    have hTC : Whole ((y0.setCell ⟨gt, 0, none⟩ (Value.slice P1 3 k1)).setCell ⟨gt, 1, none⟩ (Value.bool false)) gt 91 #[Value.slice P1 3 k1, .bool false] := (hTB.set 0 (Value.slice P1 3 k1)).set 1 (Value.bool false)
    have hZC := (hZB.far (p := ⟨gt, 0, none⟩) (by show gx ≠ gt; omega) (Value.slice P1 3 k1)).far (p := ⟨gt, 1, none⟩) (by show gx ≠ gt; omega) (Value.bool false)
    have hWC := below_set2 (p := gt) (a' := Value.slice P1 3 k1) (b' := Value.bool false) hWB (by omega)
    have hPC : Strs ((y0.setCell ⟨gt, 0, none⟩ (Value.slice P1 3 k1)).setCell ⟨gt, 1, none⟩ (Value.bool false)) gt P1 [t1, t2, t3] := Lies.put (p := ⟨gt, 1, none⟩) (Lies.put (p := ⟨gt, 0, none⟩) hs (Nat.le_refl _) _) (Nat.le_refl _) _
    clear hTB hZB hWB hs hbl HTB HZB HWB HPB hlt
    go_wp2_with fail
    change Calls _ _ _ ((y0.setCell ⟨gt, 0, none⟩ (Value.slice P1 3 k1)).setCell ⟨gt, 1, none⟩ (Value.bool false)) _
    generalize (y0.setCell ⟨gt, 0, none⟩ (Value.slice P1 3 k1)).setCell ⟨gt, 1, none⟩ (Value.bool false) = x1 at *
    clear t0' t1' f0' f1'
    have HTB := Lib.hid hTC
    have HZB := Lib.hid hZC
    have HWB := Lib.hid hWC
    have HPB := Lib.hid hPC
    clear hTC hZC hWC hPC
    have hlt := HTB.out.lt
    refine (text_any x1 gt P1 k1 [t1, t2, t3] false HPB.out (by omega) hk1 (by simp)).mono ?_
    rintro e y1 ⟨⟨P2, k2, rfl, hs, hk2⟩, hbl⟩
    have hTB := HTB.out.below hbl HTB.out.lt
    have hZB := HZB.out.below hbl HZB.out.lt
    have hWB := HWB.out.trans (hbl.mono (by omega))
    have t0' : y1.cell? ⟨gt, 0, none⟩ = some (Value.slice P1 3 k1) := hTB.cell 0
    have t1' : y1.cell? ⟨gt, 1, none⟩ = some (Value.bool false) := hTB.cell 1
    have f0' := hTB.free 0
    have f1' := hTB.free 1
    have hTC : Whole ((y1.setCell ⟨gt, 0, none⟩ (Value.slice P2 2 k2)).setCell ⟨gt, 1, none⟩ (Value.bool false)) gt 91 #[Value.slice P2 2 k2, .bool false] := (hTB.set 0 (Value.slice P2 2 k2)).set 1 (Value.bool false)
    have hZC := (hZB.far (p := ⟨gt, 0, none⟩) (by show gx ≠ gt; omega) (Value.slice P2 2 k2)).far (p := ⟨gt, 1, none⟩) (by show gx ≠ gt; omega) (Value.bool false)
    have hWC := below_set2 (p := gt) (a' := Value.slice P2 2 k2) (b' := Value.bool false) hWB (by omega)
    have hPC : Strs ((y1.setCell ⟨gt, 0, none⟩ (Value.slice P2 2 k2)).setCell ⟨gt, 1, none⟩ (Value.bool false)) gt P2 [t2, t3] := Lies.put (p := ⟨gt, 1, none⟩) (Lies.put (p := ⟨gt, 0, none⟩) hs (Nat.le_refl _) _) (Nat.le_refl _) _
    clear hTB hZB hWB hs hbl HTB HZB HWB HPB hlt
    go_wp2_with fail
    change Calls _ _ _ ((y1.setCell ⟨gt, 0, none⟩ (Value.slice P2 2 k2)).setCell ⟨gt, 1, none⟩ (Value.bool false)) _
    generalize (y1.setCell ⟨gt, 0, none⟩ (Value.slice P2 2 k2)).setCell ⟨gt, 1, none⟩ (Value.bool false) = x2 at *
    clear t0' t1' f0' f1'
    have HTB := Lib.hid hTC
    have HZB := Lib.hid hZC
    have HWB := Lib.hid hWC
    have HPB := Lib.hid hPC
    clear hTC hZC hWC hPC
    have hlt := HTB.out.lt
    refine (text_any x2 gt P2 k2 [t2, t3] false HPB.out (by omega) hk2 (by simp)).mono ?_
    rintro e y2 ⟨⟨P3, k3, rfl, hs, hk3⟩, hbl⟩
    have hTB := HTB.out.below hbl HTB.out.lt
    have hZB := HZB.out.below hbl HZB.out.lt
    have hWB := HWB.out.trans (hbl.mono (by omega))
    have t0' : y2.cell? ⟨gt, 0, none⟩ = some (Value.slice P2 2 k2) := hTB.cell 0
    have t1' : y2.cell? ⟨gt, 1, none⟩ = some (Value.bool false) := hTB.cell 1
    have f0' := hTB.free 0
    have f1' := hTB.free 1
    have hTC : Whole ((y2.setCell ⟨gt, 0, none⟩ (Value.slice P3 1 k3)).setCell ⟨gt, 1, none⟩ (Value.bool false)) gt 91 #[Value.slice P3 1 k3, .bool false] := (hTB.set 0 (Value.slice P3 1 k3)).set 1 (Value.bool false)
    have hZC := (hZB.far (p := ⟨gt, 0, none⟩) (by show gx ≠ gt; omega) (Value.slice P3 1 k3)).far (p := ⟨gt, 1, none⟩) (by show gx ≠ gt; omega) (Value.bool false)
    have hWC := below_set2 (p := gt) (a' := Value.slice P3 1 k3) (b' := Value.bool false) hWB (by omega)
    have hPC : Strs ((y2.setCell ⟨gt, 0, none⟩ (Value.slice P3 1 k3)).setCell ⟨gt, 1, none⟩ (Value.bool false)) gt P3 [t3] := Lies.put (p := ⟨gt, 1, none⟩) (Lies.put (p := ⟨gt, 0, none⟩) hs (Nat.le_refl _) _) (Nat.le_refl _) _
    clear hTB hZB hWB hs hbl HTB HZB HWB HPB hlt
    go_wp2_with fail
    change Calls _ _ _ ((y2.setCell ⟨gt, 0, none⟩ (Value.slice P3 1 k3)).setCell ⟨gt, 1, none⟩ (Value.bool false)) _
    generalize (y2.setCell ⟨gt, 0, none⟩ (Value.slice P3 1 k3)).setCell ⟨gt, 1, none⟩ (Value.bool false) = x3 at *
    clear t0' t1' f0' f1'
    have HTB := Lib.hid hTC
    have HZB := Lib.hid hZC
    have HWB := Lib.hid hWC
    have HPB := Lib.hid hPC
    clear hTC hZC hWC hPC
    have hlt := HTB.out.lt
    refine (text_any x3 gt P3 k3 [t3] false HPB.out (by omega) hk3 (by simp)).mono ?_
    rintro e y3 ⟨⟨P4, k4, rfl, hs, hk4⟩, hbl⟩
    have hTB := HTB.out.below hbl HTB.out.lt
    have hZB := HZB.out.below hbl HZB.out.lt
    have hWB := HWB.out.trans (hbl.mono (by omega))
    have t0' : y3.cell? ⟨gt, 0, none⟩ = some (Value.slice P3 1 k3) := hTB.cell 0
    have t1' : y3.cell? ⟨gt, 1, none⟩ = some (Value.bool false) := hTB.cell 1
    have f0' := hTB.free 0
    have f1' := hTB.free 1
    have hTC : Whole ((y3.setCell ⟨gt, 0, none⟩ (Value.slice P4 0 k4)).setCell ⟨gt, 1, none⟩ (Value.bool false)) gt 91 #[Value.slice P4 0 k4, .bool false] := (hTB.set 0 (Value.slice P4 0 k4)).set 1 (Value.bool false)
    have hZC := (hZB.far (p := ⟨gt, 0, none⟩) (by show gx ≠ gt; omega) (Value.slice P4 0 k4)).far (p := ⟨gt, 1, none⟩) (by show gx ≠ gt; omega) (Value.bool false)
    have hWC := below_set2 (p := gt) (a' := Value.slice P4 0 k4) (b' := Value.bool false) hWB (by omega)
    have hPC : Strs ((y3.setCell ⟨gt, 0, none⟩ (Value.slice P4 0 k4)).setCell ⟨gt, 1, none⟩ (Value.bool false)) gt P4 ([] : List (List UInt8)) := Lies.put (p := ⟨gt, 1, none⟩) (Lies.put (p := ⟨gt, 0, none⟩) hs (Nat.le_refl _) _) (Nat.le_refl _) _
    clear hTB hZB hWB hs hbl HTB HZB HWB HPB hlt
    go_wp2_with fail
    change Calls _ _ _ ((y3.setCell ⟨gt, 0, none⟩ (Value.slice P4 0 k4)).setCell ⟨gt, 1, none⟩ (Value.bool false)) _
    generalize (y3.setCell ⟨gt, 0, none⟩ (Value.slice P4 0 k4)).setCell ⟨gt, 1, none⟩ (Value.bool false) = x4 at *
    clear t0' t1' f0' f1'
    have HTB := Lib.hid hTC
    have HZB := Lib.hid hZC
    have HWB := Lib.hid hWC
    have HPB := Lib.hid hPC
    clear hTC hZC hWC hPC
    have hlt := HTB.out.lt
    clear HPB
    refine (of32_any x4 t1 (-1) (.inr rfl) (by omega)).mono ?_
    rintro e x5 ⟨hm, hbl⟩
    have hTB := HTB.out.below hbl HTB.out.lt
    have hZB := HZB.out.below hbl HZB.out.lt
    have hWB := HWB.out.trans (hbl.mono (by omega))
    have HBL := Lib.hid hbl
    have hszsx5 : gt < x4.heap.size := hlt
    clear hbl HTB HZB HWB hlt
    have HTB := Lib.hid hTB
    have HZB := Lib.hid hZB
    have HWB := Lib.hid hWB
    clear hTB hZB hWB
    have hlt := HTB.out.lt
    cases hf : ofL t1 (-1) with
    | none =>
      rw [hf] at hm
      dsimp only at hm
      subst hm
      have HQ : Hid (readL b = none) := Lib.hid (by obtain ⟨x, hx⟩ := ofL_err hf; exact readL_one HTT.out hx)
      clear hf HBL
      go_wp2_with fail
      refine (of32_any x5 t2 (-1) (.inr rfl) (by omega)).mono ?_
      rintro e x6 ⟨hm, hbl⟩
      have hTB := HTB.out.below hbl HTB.out.lt
      have hZB := HZB.out.below hbl HZB.out.lt
      have hWB := HWB.out.trans (hbl.mono (by omega))
      have HBL := Lib.hid hbl
      have hszsx6 : gt < x5.heap.size := hlt
      clear hbl HTB HZB HWB hlt
      have HTB := Lib.hid hTB
      have HZB := Lib.hid hZB
      have HWB := Lib.hid hWB
      clear hTB hZB hWB
      have hlt := HTB.out.lt
      cases hg : ofL t2 (-1) with
      | none =>
        rw [hg] at hm
        dsimp only at hm
        subst hm
        clear hg HBL
        have t0' : x6.cell? ⟨gt, 0, none⟩ = some (Value.slice P4 0 k4) := HTB.out.cell 0
        have t1' : x6.cell? ⟨gt, 1, none⟩ = some (Value.bool false) := HTB.out.cell 1
        have z0 : x6.cell? ⟨gx, 0, none⟩ = some (Value.slice none 0 0) := HZB.out.cell 0
        have z1 : x6.cell? ⟨gx, 1, none⟩ = some (Value.slice none 0 0) := HZB.out.cell 1
        have z2 : x6.cell? ⟨gx, 2, none⟩ = some (S []) := HZB.out.cell 2
        have y0 := HZB.out.free 0
        have y1 := HZB.out.free 1
        have y2 := HZB.out.free 2
        have hlx := HZB.out.lt
        go_wp2_with fail
        refine bodyPost_ret (v := .tuple #[.agg #[.slice none 0 0, .slice none 0 0, S []], .int .i64 3]) (by simp [results, Tryd.results31, go_sem, z0, z1, z2, hlx]) rfl ?_
        unfold ReadPost
        rw [HQ.out, HGX.out]
        exact ⟨rfl, ((Below.set3 HWB.out (Nat.le_refl _)).alloc (by simp [World.setCell]; omega) _).alloc (by simp [World.setCell]; omega) _⟩
      | some g =>
        rw [hg] at hm
        obtain ⟨F', kf', rfl, hlg, _, hgb⟩ := hm
        clear hg hlg HBL hgb
        have t0' : x6.cell? ⟨gt, 0, none⟩ = some (Value.slice P4 0 k4) := HTB.out.cell 0
        have t1' : x6.cell? ⟨gt, 1, none⟩ = some (Value.bool false) := HTB.out.cell 1
        have z0 : x6.cell? ⟨gx, 0, none⟩ = some (Value.slice none 0 0) := HZB.out.cell 0
        have z1 : x6.cell? ⟨gx, 1, none⟩ = some (Value.slice none 0 0) := HZB.out.cell 1
        have z2 : x6.cell? ⟨gx, 2, none⟩ = some (S []) := HZB.out.cell 2
        have y0 := HZB.out.free 0
        have y1 := HZB.out.free 1
        have y2 := HZB.out.free 2
        have hlx := HZB.out.lt
        go_wp2_with fail
        refine bodyPost_ret (v := .tuple #[.agg #[.slice none 0 0, .slice none 0 0, S []], .int .i64 3]) (by simp [results, Tryd.results31, go_sem, z0, z1, z2, hlx]) rfl ?_
        unfold ReadPost
        rw [HQ.out, HGX.out]
        exact ⟨rfl, ((Below.set3 HWB.out (Nat.le_refl _)).alloc (by simp [World.setCell]; omega) _).alloc (by simp [World.setCell]; omega) _⟩
    | some f =>
      rw [hf] at hm
      obtain ⟨F, kf, rfl, hlf, _, hfb⟩ := hm
      have NF : Hid (∀ ad, F = some ad → gx < ad.block) := Lib.hid (fun ad e => by have := hfb ad e; omega)
      clear hfb
      have HTF := Lib.hid (ofL_ok hf)
      have HLF := Lib.hid hlf
      clear hf hlf HBL
      go_wp2_with fail
      refine (of32_any x5 t2 (-1) (.inr rfl) (by omega)).mono ?_
      rintro e x6 ⟨hm, hbl⟩
      have hTB := HTB.out.below hbl HTB.out.lt
      have hZB := HZB.out.below hbl HZB.out.lt
      have hWB := HWB.out.trans (hbl.mono (by omega))
      have HBL := Lib.hid hbl
      have hszsx6 : gt < x5.heap.size := hlt
      clear hbl HTB HZB HWB hlt
      have HTB := Lib.hid hTB
      have HZB := Lib.hid hZB
      have HWB := Lib.hid hWB
      clear hTB hZB hWB
      have hlt := HTB.out.lt
      have HLF6 := Lib.hid (Lies.wide (Lies.below HLF.out HBL.out) HBL.out.size)
      have hl6 := HBL.out.size
      cases hg : ofL t2 (-1) with
      | none =>
        rw [hg] at hm
        dsimp only at hm
        subst hm
        have HQ : Hid (readL b = none) := Lib.hid (by obtain ⟨x, hx⟩ := ofL_err hg; exact readL_two HTT.out hx)
        clear hg HBL
        have t0' : x6.cell? ⟨gt, 0, none⟩ = some (Value.slice P4 0 k4) := HTB.out.cell 0
        have t1' : x6.cell? ⟨gt, 1, none⟩ = some (Value.bool false) := HTB.out.cell 1
        have z0 : x6.cell? ⟨gx, 0, none⟩ = some (Value.slice none 0 0) := HZB.out.cell 0
        have z1 : x6.cell? ⟨gx, 1, none⟩ = some (Value.slice none 0 0) := HZB.out.cell 1
        have z2 : x6.cell? ⟨gx, 2, none⟩ = some (S []) := HZB.out.cell 2
        have y0 := HZB.out.free 0
        have y1 := HZB.out.free 1
        have y2 := HZB.out.free 2
        have hlx := HZB.out.lt
        go_wp2_with fail
        refine bodyPost_ret (v := .tuple #[.agg #[.slice none 0 0, .slice none 0 0, S []], .int .i64 3]) (by simp [results, Tryd.results31, go_sem, z0, z1, z2, hlx]) rfl ?_
        unfold ReadPost
        rw [HQ.out, HGX.out]
        exact ⟨rfl, ((Below.set3 HWB.out (Nat.le_refl _)).alloc (by simp [World.setCell]; omega) _).alloc (by simp [World.setCell]; omega) _⟩
      | some g =>
        rw [hg] at hm
        obtain ⟨F', kf', rfl, hlg, _, hgb⟩ := hm
        have NF' : Hid (∀ ad, F' = some ad → gx < ad.block) := Lib.hid (fun ad e => by have := hgb ad e; omega)
        clear hgb
        have HTG := Lib.hid (ofL_ok hg)
        have HLG := Lib.hid hlg
        clear hg hlg HBL
        by_cases hw : t0 = [104, 105, 98, 105]
        · subst hw
          have HQ := Lib.hid (readL_ok HTT.out rfl HTF.out HTG.out)
          have t0' : x6.cell? ⟨gt, 0, none⟩ = some (Value.slice P4 0 k4) := HTB.out.cell 0
          have t1' : x6.cell? ⟨gt, 1, none⟩ = some (Value.bool false) := HTB.out.cell 1
          have z0 : x6.cell? ⟨gx, 0, none⟩ = some (Value.slice none 0 0) := HZB.out.cell 0
          have z1 : x6.cell? ⟨gx, 1, none⟩ = some (Value.slice none 0 0) := HZB.out.cell 1
          have z2 : x6.cell? ⟨gx, 2, none⟩ = some (S []) := HZB.out.cell 2
          have y0 := HZB.out.free 0
          have y1 := HZB.out.free 1
          have y2 := HZB.out.free 2
          have hlx := HZB.out.lt
          go_wp2_with fail
          refine bodyPost_ret (v := .tuple #[.agg #[.slice F f.length kf, .slice F' g.length kf', S t3], .int .i64 0]) (by simp [results, Tryd.results31, go_sem, z0, z1, z2, hlx]) rfl ?_
          unfold ReadPost
          rw [HQ.out, HGX.out]
          exact ⟨⟨F, kf, F', kf', rfl, Lies.block' (Lies.block' (lies_set3 HLF6.out NF.out) _) _, Lies.block' (Lies.block' (lies_set3 HLG.out NF'.out) _) _⟩, ((Below.set3 HWB.out (Nat.le_refl _)).alloc (by simp [World.setCell]; omega) _).alloc (by simp [World.setCell]; omega) _⟩
        · have HQ := Lib.hid (readL_word HTT.out hw)
          have hbe : (t0 == [104, 105, 98, 105]) = false := beq_eq_false_iff_ne.2 hw
          have hbn : (t0 != [104, 105, 98, 105]) = true := by simp [bne, hbe]
          clear hw
          have t0' : x6.cell? ⟨gt, 0, none⟩ = some (Value.slice P4 0 k4) := HTB.out.cell 0
          have t1' : x6.cell? ⟨gt, 1, none⟩ = some (Value.bool false) := HTB.out.cell 1
          have z0 : x6.cell? ⟨gx, 0, none⟩ = some (Value.slice none 0 0) := HZB.out.cell 0
          have z1 : x6.cell? ⟨gx, 1, none⟩ = some (Value.slice none 0 0) := HZB.out.cell 1
          have z2 : x6.cell? ⟨gx, 2, none⟩ = some (S []) := HZB.out.cell 2
          have y0 := HZB.out.free 0
          have y1 := HZB.out.free 1
          have y2 := HZB.out.free 2
          have hlx := HZB.out.lt
          go_wp2_with fail
          refine bodyPost_ret (v := .tuple #[.agg #[.slice none 0 0, .slice none 0 0, S []], .int .i64 3]) (by simp [results, Tryd.results31, go_sem, z0, z1, z2, hlx]) rfl ?_
          unfold ReadPost
          rw [HQ.out, HGX.out]
          exact ⟨rfl, ((Below.set3 HWB.out (Nat.le_refl _)).alloc (by simp [World.setCell]; omega) _).alloc (by simp [World.setCell]; omega) _⟩
end Go.Proofs.YtecamaceainfpaaDoor
